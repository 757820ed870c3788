/-
  Queries: the tidy form of a part. More of maps: a map held against nil; memory by what lies at its numbers; a result that is data from there on. Queries: terms replaced as a map says. Statements one after another, the state between them said once. A call that is walked into, by what its body is held to; a map of names, and the boxes of the search. Statements one after another, the state between them said once; a statement may return.
  Conditions: none.
-/
import Derived.Test.YtdjfkmkdkclahaaGreatDoorWNh
import Derived.Test.YtdjfkmkdkclahaaGreatDoorWSne
import Derived.Test.YtdjfkmkdkclahaaGreatDoorWOh
import Derived.Test.YtdjfkmkdkclahaaGreatDoorWBt
import Derived.Test.YtdjfkmkdkclahaaGreatDoorWSyc
import Derived.Test.YtdjfkmkdkclahaaGreatDoorWSyn
set_option linter.unnecessarySimpa false
set_option linter.unusedSectionVars false
set_option linter.unusedSimpArgs false
set_option linter.unusedVariables false
set_option maxHeartbeats 8000000
namespace Go.Proofs.YtdjfkmkdkclahaaGreatDoor
open Go.Proofs Go.RowKit
set_option maxRecDepth 10000
attribute [local irreducible] aJ aG Tri aF YVC cA aU
theorem aF6: ∀(p:At) (l:List At),(p::l).Pairwise (λa b=>¬ bS b a < 0)->(p::tB tA p l).Pairwise (λa b=>bS a b < 0)/\ ∀x,x∈p::tB tA p l↔x∈p::l
 |p,[],_=>⟨by simp [tB],λx=>by simp [tB]⟩
 |p,b::r,h=>by
  have h1:=List.pairwise_cons.1 h
  obtain⟨i1,i2⟩:=aF6 b r h1.2
  rw [tB]
  by_cases he:b=p
  ·subst he
   rw [if_pos (by simp [tA])]
   exact⟨i1,λx=>by rw [i2];simp⟩
  ·rw [if_neg (by simp [tA,he])]
   have hlt:bS p b < 0:=by
    have h2:=h1.1 b (by simp)
    have h3:=bH.anti p b
    have h4:bS p b≠0:= λe=>he (fZ.1 e).symm
    omega
   refine⟨List.pairwise_cons.2 ⟨λx hx=> ?_,i1⟩,λx=> ?_⟩
   ·rcases List.mem_cons.1 hx with rfl|hx
    ·exact hlt
    ·exact(bH.t3 p b x).1 hlt ((List.pairwise_cons.1 i1).1 x hx)
   ·rw [List.mem_cons,i2,List.mem_cons (a:=x) (b:=p)]
theorem aK7 {l l':List At}(hp:l'.Perm l) (hs:l'.Pairwise (λa b=>¬ bS b a < 0)):jO tA l'=nK l:=by
 have h:IsTid l (jO tA l'):=by
  cases l' with
  |nil=>
   have:=hp.symm.eq_nil
   subst this
   exact zJ (by simp [jO]) (by simp [jO])
  |cons a r=>
   obtain⟨h1,h2⟩:=aF6 a r hs
   exact zJ h1 λx=>(h2 x).trans hp.mem_iff
 exact h.uniq (gY l) λ_=>Iff.rfl
theorem aG.nilM {P:Program}{pin:Pin}{fr:Fr}{hp:Hp}{f:FuncId}{args:List SV}{K:SV->Hp->Prop}(id e z:Nat)
  (h:aG P pin fr hp f args λs hp'=>(s= .d .nil/\eN id pin fr hp'/\K (.mw id z 0) ((id, .mrow e z 0 [])::hp'))\/K s hp'):aG P pin fr hp f args K:=by
 unfold aG at *
 intro E ρ0 w0 tm hpin h30 h40 vs hargs
 refine(h E ρ0 w0 tm hpin h30 h40 vs hargs).mono ?_
 rintro e0 w (⟨v,ρ,s,hp1,rfl,⟨rfl,⟨f1,f2,f3⟩,hk⟩|hk,h3,h4,hr⟩|hpan)
 ·obtain⟨m1,m2,m3⟩:=h3.newMrow (id:=id) (e:=e) (z:=z) (cap:=0) (rows:=[]) (v:= .slice none 0 0) f3 (by rw [hpin];exact f1) (Grew.refl w) (.inl ⟨rfl,rfl,none,rfl⟩) (λg hg=>by simp [cZ]at hg)
  have ev:=hr.nil_inv
  subst ev
  exact .inl ⟨_,_,_,_,rfl,hk,m1,h4.mono m2 (λ_ _ x=>x) λi hi=>m3 i λe=>f2 (e ▸ hi), .mw id z 0 0 none (by simp) (by simp) (λh=>absurd rfl h) (by simp [Env.retop]) (by simp [Env.retop])⟩
 ·exact .inl ⟨v,ρ,s,hp1,rfl,hk,h3,h4,hr⟩
 ·exact .inr hpan
theorem zV (l:List At) (hl:l.length<=1000000) {pin:Pin}{fr:Fr}{hp:Hp}{K:SV->Hp->Prop}(hfr:eN 70 pin fr hp)
  (hk: ∀cap,K (.mw 70 6 l.length) ((70, .mrow 60 6 cap (l.map atR))::hp)):
  aG Tryz.prog pin fr hp 169 [.d (.sl 6 (l.map atR))] K:=by
 refine aG.nilM 70 60 6 ?_
 refine yQ true hty Tryz.func169 rfl (kp [0,2,4]) 63 (by simp [Tryz.f169]) ?_
 obtain⟨f1,f2,f3⟩:=hfr
 ((conv=>whnf);repeat' ((first|(intro hq;(try simp only [lnS]at hq);(try rewrite [List.length_map]))|refine sJ ?_|refine .intro _ (.intro rfl ?_)|refine exL (k:= ?_)|refine dwR ?_|((first|refine aC ?_ ?_|refine aD ?_ ?_)<;>intro hb<;>(first|exact ddX hb|try simp only [lnS]at hb))|(refine aB ?_ ?_<;>intro hb<;>try exact dsX hb))<;>(conv=>whnf)))
 ·rename_i b
  have e:=hq hb
  have e:l=[]:=List.map_eq_nil_iff.1 e
  subst e
  exact .inl ⟨rfl,⟨f1,f2,f3⟩,hk 0⟩
 ·refine⟨⟨by rw [pU];exact λh=>h.elim f1 f2, ?_,f3⟩, ?_, ?_,λcap hc=> ?_⟩
  ·simp [aHb,aEo,SV.ids,aAa]
  ·rw [List.length_map];omega
  ·show (l.map atR).length * 72<=140737488355328
   rw [List.length_map];omega
  ·((conv=>whnf);repeat ((first|(intro hq;try simp only [lnS]at hq)|refine sI ?_|refine .intro _ (.intro rfl ?_));(conv=>whnf)))
   rw [List.length_map]
   exact .inr (hk cap)
theorem aCg (l:List At) (hl:l.length<=100000):Tri Tryz.prog 112 [.d (.agg (aQ l))] [] (λr=>r= .d (.agg (aQ (nK l)))):=by
 show Tri Tryz.prog 112 [.d (.agg [.sl 6 (l.map atR)])] [] _
 refine aH false [1] hty Tryz.func112 rfl (kp [0,1,2,3]) [] _ _ _ (by simp [Tryz.f112]) (by simp) ?_
 ((conv=>whnf);repeat ((first|(intro hq;try simp only [lnS]at hq)|refine sI ?_|refine .intro _ (.intro rfl ?_));(conv=>whnf)))
 refine zV l (by omega) (cO (by with_unfolding_all exact rfl)) (λcap=> ?_)
 ((conv=>whnf);repeat ((first|(intro hq;try simp only [lnS]at hq)|refine sI ?_|refine .intro _ (.intro rfl ?_));(conv=>whnf)))
 refine lD Tryz.sortAt (by decide) aBg aDs (enters_of Tryz.func167 (by kernel_rfl) rfl) l atR bS aL2 (λx _ y _=>gG x y) (id:=70) rfl rfl (by omega) (λl' hp' hs'=> ?_)
 ((conv=>whnf);repeat ((first|(intro hq;try simp only [lnS]at hq)|refine sI ?_|refine .intro _ (.intro rfl ?_));(conv=>whnf)))
 have hll:=hp'.length_eq
 refine tE l' (by omega) cap _ hll.symm [(2, .cells 35 [.d .nil])] (by simp) (aMy (by with_unfolding_all exact rfl)) (by simp [jK,HObj.ids,SV.idsL,SV.ids,aAa];try omega) rfl (λo=>by repeat' (first|exact trivial|exact rfl|refine And.intro ?_ ?_)) (λcap'=> ?_)
 have hdl:=vU tA l'
 rw [aK7 hp' hs']at hdl |-
 ((conv=>whnf);repeat' ((first|(intro hq;(try simp only [lnS]at hq);(try rewrite [List.length_map]))|refine sJ ?_|refine .intro _ (.intro rfl ?_)|refine exL (k:= ?_)|refine dwR ?_|((first|refine aC ?_ ?_|refine aD ?_ ?_)<;>intro hb<;>(first|exact ddX hb|try simp only [lnS]at hb))|(refine aB ?_ ?_<;>intro hb<;>try exact dsX hb))<;>(conv=>whnf)))
 exact⟨(List.length_map ..).symm,rfl,rfl⟩
end Go.Proofs.YtdjfkmkdkclahaaGreatDoor
namespace Go.Proofs.YtdjfkmkdkclahaaGreatDoor
open Go.Proofs Go.RowKit
section
variable {P:Program}
end
abbrev Byt:=List UInt8
def aDn (l:Byt):D:= .str l
end Go.Proofs.YtdjfkmkdkclahaaGreatDoor
namespace Go.Proofs.YtdjfkmkdkclahaaGreatDoor
open Go.Proofs Go.RowKit
set_option maxRecDepth 10000
attribute [local irreducible] aJ aG Tri aF YVC cA aU
def rR (F:Mp):List (bL×SV):=F.map λp=>(p.1, .d (.str p.2))
theorem pT (k:bL): ∀F:Mp,sL (rR F) k=(sL F k).map λs=> .d (.str s)
 | []=>rfl
 |(x,y)::r=>by
  show (if k=x then _ else _)=Option.map _ (if k=x then _ else _)
  by_cases h:k=x
  ·rw [if_pos h,if_pos h];rfl
  ·rw [if_neg h,if_neg h];exact pT k r
theorem pS (k s:bL): ∀F:Mp,xN (rR F) k (.d (.str s))=rR (xN F k s)
 | []=>rfl
 |(x,y)::r=>by
  show (if k=x then _ else _)=rR (if k=x then _ else _)
  by_cases h:k=x
  ·rw [if_pos h,if_pos h];rfl
  ·rw [if_neg h,if_neg h];show _::xN (rR r) k _=_;rw [pS k s r];rfl
theorem nmC {k id:Nat}{o:HObj}{hp:Hp}(h1:k≠id) (h2:o.ids.elem k=false) (h:k∉jK hp):k∉jK ((id,o)::hp):=by
 intro hm
 simp only [jK,List.flatMap_cons,List.mem_append,List.mem_cons]at hm
 rcases hm with(hm|hm)|hm
 ·exact h1 hm
 ·exact dX h2 hm
 ·exact h hm
theorem xB (l:List At) (hl:l.length<=1000000) (F:Mp) (bs:List Nat) (ck:Nat) {pin:Pin}{fr:Fr}{hp:Hp}{K:SV->Hp->Prop}(hm:aN hp 33=some (.ext (xO aDn (rR F) bs ck)))
  (hp1: ∀k,60<=k->k∉pin) (hf: ∀k,60<=k->k∉fC fr) (hh: ∀k,60<=k->k∉jK hp) (hs0: ∀b,sE hp ((70,b)::hp)) (hs: ∀a b c,sE hp ((140,a)::(106,b)::(70,c)::hp))
  (hk: ∀cap,K (.mw 70 6 (l.map (rpA (gF F))).length) ((70, .mrow 60 6 cap ((l.map (rpA (gF F))).map atR))::hp)):
  aG Tryz.prog pin fr hp 165 [.d (.agg [.sl 6 (l.map atR)]), .xv 33 aBa] K:=by
 have hlm:(l.map atR).length=l.length:=List.length_map ..
 have hbig: ∀k,60<=k->k∉pin.under fr (fC fr):= λk hk h=>(pU.1 h).elim (hp1 k hk) (hf k hk)
 refine aL false [2] hty Tryz.func165 rfl (kp [0,1,2,4,6,7,8,9,10,12,13,14,15,25,35]) 100 (by simp [Tryz.f165]) ?_
 ((conv=>whnf);repeat ((first|(refine frH ⟨hbig _ (Nat.le_of_ble_eq_true rfl),dX (by with_unfolding_all exact rfl),hh _ (Nat.le_of_ble_eq_true rfl)⟩ ?_)|(refine nmH (hh _ (Nat.le_of_ble_eq_true rfl)) ?_)|(intro hq;try simp only [lnS]at hq)|refine sI ?_|refine .intro _ (.intro rfl ?_));(conv=>whnf)))
 refine aJ.mown 4 70 60 6 rfl (by exact⟨hbig _ (by decide),dX (by with_unfolding_all exact rfl),hh _ (by decide)⟩) ?_
 have hrp: ∀a:At,rpA (gF F) a=⟨a.kind,a.name,(sL F a.x).getD a.x,(sL F a.y).getD a.y,a.lo,a.hi⟩:= λa=>rfl
 refine aP hty (λy:Nat×Nat=>([(1, .xv 33 aBa),(4, .mw 70 6 y.1),(12, .d (.sl 6 (l.map atR))),(13, .d (.int .i64 l.length)),(14, .d (.int .i64 y.1))],(70, .mrow 60 6 y.2 (((l.take y.1).map (rpA (gF F))).map atR))::hp)) (λy=>y.1<=l.length) (λy=>l.length - y.1) (0,0) (Nat.zero_le _) ⟨by repeat' (first|exact trivial|exact rfl|(rw [hlm];exact rfl)|refine And.intro ?_ ?_),rfl,hs0 _⟩ ?_
 rintro⟨j,cap⟩ hj
 dsimp only at hj
 ((conv=>whnf);repeat ((first|(intro hq;try simp only [lnS]at hq)|refine sI ?_|refine .intro _ (.intro rfl ?_));(conv=>whnf)))
 refine aC (λh1=> ?_) (λh1=> ?_)
 ·have hjl:j < l.length:=by dsimp only at h1;omega
  have hrow:(l.map atR)[(j:Int).toNat]? =some (atR l[j]):=aT hjl
  rw [mN]at hrow
  have hrp:=hrp l[j]
  have hmx:=pT l[j].x F
  have hmy:=pT l[j].y F
  have hfn:((l.take (j+1)).map (rpA (gF F))).map atR=((l.take j).map (rpA (gF F))).map atR++[atR (rpA (gF F) l[j])]:=by
   rw [List.take_succ_eq_append_getElem hjl,List.map_append,List.map_append];rfl
  have hln:(((l.take j).map (rpA (gF F))).map atR).length=j:=by rw [List.length_map,List.length_map,List.length_take];omega
  generalize sL F l[j].x=mx at *
  generalize sL F l[j].y=my at *
  ((conv=>whnf);repeat ((first|(refine⟨_,hrow, ?_⟩)|(refine frH ⟨hbig _ (Nat.le_of_ble_eq_true rfl),dX (by with_unfolding_all exact rfl),nmC (Nat.ne_of_beq_eq_false rfl) rfl (hh _ (Nat.le_of_ble_eq_true rfl))⟩ ?_)|(refine nmH (nmC (Nat.ne_of_beq_eq_false rfl) rfl (hh _ (Nat.le_of_ble_eq_true rfl))) ?_)|(intro hq;try simp only [lnS]at hq)|refine sI ?_|refine .intro _ (.intro rfl ?_));(conv=>whnf)))
  refine iZ (id:=33) (ents:=rR F) (bs:=bs) (clock:=ck) (k:=l[j].x) rfl rfl (gJ rfl) rfl rfl hm rfl ?_
  rw [hmx]
  cases mx
  all_goals
   ((conv=>whnf);repeat ((first|(intro hq;try simp only [lnS]at hq)|refine sI ?_|refine .intro _ (.intro rfl ?_));(conv=>whnf)))
   refine iZ (id:=33) (ents:=rR F) (bs:=bs) (clock:=ck) (k:=l[j].y) rfl rfl (gJ rfl) rfl rfl hm rfl ?_
   rw [hmy]
   cases my
   all_goals
    rw [hrp]at hfn
    ((conv=>whnf);repeat ((first|(refine frH ⟨hbig _ (Nat.le_of_ble_eq_true rfl),dX (by with_unfolding_all exact rfl),nmC (Nat.ne_of_beq_eq_false rfl) rfl (nmC (Nat.ne_of_beq_eq_false rfl) rfl (hh _ (Nat.le_of_ble_eq_true rfl)))⟩ ?_)|(refine nmH (nmC (Nat.ne_of_beq_eq_false rfl) rfl (nmC (Nat.ne_of_beq_eq_false rfl) rfl (hh _ (Nat.le_of_ble_eq_true rfl)))) ?_)|(intro hq;try simp only [lnS]at hq)|refine sI ?_|refine .intro _ (.intro rfl ?_));(conv=>whnf)))
    rw [hln]
    rename_i c2
    refine⟨(j+1,c2),by dsimp only;omega,by dsimp only;omega,⟨by repeat' (first|exact trivial|exact rfl|refine And.intro ?_ ?_), ?_⟩⟩
    dsimp only
    rw [hfn]
    exact⟨rfl,hs _ _ _⟩
 ·have hjl:j=l.length:=by dsimp only at h1;omega
  subst hjl
  rw [List.take_length]
  ((conv=>whnf);repeat ((first|(intro hq;try simp only [lnS]at hq)|refine sI ?_|refine .intro _ (.intro rfl ?_));(conv=>whnf)))
  have hk:=hk cap
  rw [List.length_map]at hk
  exact hk
end Go.Proofs.YtdjfkmkdkclahaaGreatDoor
namespace Go.Proofs.YtdjfkmkdkclahaaGreatDoor
open Go.RowKit
section
variable {P:Program}
theorem wR (zc:Bool) (frz:List Nat) {ti:TypeId->Option TI}(hti:cI P ti) {f:FuncId}{fn:Func}{c:Code}(hf:P.funcs[f]? =some fn) (hb:fn.body=some c) (keep:Nat->Bool) (pin:List Nat) (args:List SV) (hp:Hp) (post:SV->Prop)
  (hn:args.length<=fn.ntmps) (hnd:(hp.map (·.1)).Nodup) (hx:aJ ⟨P,ti,cY pin,fn.ntmps,keep,0,none,zc,frz⟩ c (cX 0 args) (roH hp) (mX ti fn.results.toList post)):Tri P f args hp post:=by
 intro w ρ vs hslt hargs hro
 refine cW (r:=none) (n:=0) |>.1 (callsIn_of_wp_marks hf hb trivial ?_)
 have hm:Mem ⟨w,ρ.S,λ_=>False,cY pin,ρ,none,[],0⟩ ρ (roH hp) w:=by
  have hat: ∀id o,aN (roH hp) id=some o->ρ.at id o=none:=by
   intro id o ho
   rcases dT hp id o hnd ho with⟨t,cs,rfl,_⟩|⟨g,z,rows,rfl,_⟩|⟨X,rfl,_⟩
   ·rfl
   ·rfl
   ·rfl
  refine⟨rfl,rfl, .refl _,Nat.le_refl _,λ_ _ _=>rfl,λ_ _ h=>h,λ_ _ h _ _=>h,hslt,λ_ _ _=>rfl, ?_, ?_, ?_,λid _=>ρ.moved_refl id, ?_,λb hb=>by cases hb⟩
  ·intro id o ho
   rcases dT hp id o hnd ho with⟨t,cs,rfl,h|h⟩|⟨g,z,rows,rfl,h⟩|⟨X,rfl,h|h⟩
   ·exact hro id _ h
   ·exact hro id _ h
   ·exact hro id _ h
   ·exact hro id _ h
   ·exact hro id _ h
  ·intro id o id' o' g h1 _ h3 _;rw [hat id o h1]at h3;cases h3
  ·intro id o g h1 h3;rw [hat id o h1]at h3;cases h3
  ·intro id x g _ _ _ id' o' h3 h4;rw [hat id' o' h3]at h4;cases h4
 have hfs:bW ρ w (cX 0 args) (vs++Array.replicate (fn.ntmps - vs.size) undef):=by
  intro t s ht
  obtain⟨_,h2⟩:=cU args 0 t s ht
  simp only [Nat.sub_zero]at h2
  have hlt:=(List.getElem?_eq_some_iff.1 h2).1
  have hlt':t < vs.size:=by rw [hargs.1];exact hlt
  refine⟨vs[t], ?_,hargs.2 t s _ h2 (Array.getElem?_eq_getElem hlt')⟩
  rw [Array.getElem?_append_left hlt',Array.getElem?_eq_getElem hlt']
 refine wpIn_mono (hx ⟨w,ρ.S,λ_=>False,cY pin,ρ,none,[],0⟩ _ w rfl rfl ⟨?_,rfl,ρ,hm,hfs⟩) ?_
 ·simp only [Array.size_append,Array.size_replicate]
  have:=hargs.1
  omega
 ·rintro e a' w' ⟨x,fr',hp',E',hE,hrel,hk,hnt,hdf,ρ',hm',hf'⟩
  obtain⟨own,o1,o2,o3,o4,o5⟩:=gB hE rfl
  have fin:eH ti fr' hp' fn.results.toList (λl=>dC hp' l λl=>(bX l).ids=[]/\post (bX l))->LeavesInM (FW none) 0 P fn a'.tmps (λe w'=> ∃v S' s,e= .returned v/\post s/\Grew w w'/\(∀b i,ρ.S b i->S' b i)/\(∀b i,S' b i->ρ.S b i\/w.heap.size<=b)/\(∀b i,S' b i->b < w'.heap.size)/\Rep w' (ρ.withS S') s v) a'.defers .returning w':=by
   intro hk
   have hpre:E'.pin.pre=[]:=by rw [hE.pin];rfl
   rw [hdf,o2,hpre]
   refine eG (by simp) [] own E' w' hm' ⟨_,o1,o5⟩ o4 o3 ?_
   rintro E'' w'' ⟨q1,q2,q3,q4,q5,q6⟩ hm'' hkp
   have hf'':bW ρ' w'' fr' a'.tmps:=hf'.mono hkp (λ_ _ x=>x) λi _=>ρ'.moved_refl i
   obtain⟨us,l,r1,r2,r3,r4⟩:=tS hti hm'' hf'' _ _ hk
   obtain⟨l',⟨k1,k2⟩,k3,k4⟩:=fQ hm'' l us _ r2 r3 r4
   have eW:E''.w=w:=q1.trans hE.w
   have eS:E''.S=ρ.S:=q2.trans hE.S
   have eB:E''.B= λ_=>False:=q3.trans hE.B
   refine⟨_,dM r1,_,Sfz ρ' hp',bX l',rfl,k2,⟨by rw [hm''.os,eW],by rw [hm''.tape,eW],by have:=hm''.output;rw [eW]at this;exact this,by have:=hm''.size;rw [eW]at this;exact this,λb hb=> ?_⟩,λb i hs=> .inl (hm''.sold b i (by rw [eS];exact hs)), ?_, ?_, ?_⟩
   ·have:=hm''.old b (by rw [eW];exact hb) (by rw [eB];exact λh=>h)
    rw [eW]at this;exact this
   ·rintro b i (hs|⟨id,e,z,cap,rows,ho,hb,_⟩)
    ·rcases Nat.lt_or_ge b w.heap.size with hlt|hge
     ·left
      have:=hm''.snew b i hs (by rw [eW];exact hlt) (by rw [eB];exact λh=>h)
      rw [eS]at this;exact this
     ·exact .inr hge
    ·rcases hm''.hb id _ b ho hb with hge|hB
     ·rw [eW]at hge;exact .inr hge
     ·rw [eB]at hB;exact hB.elim
   ·rintro b i (hs|⟨id,e,z,cap,rows,ho,hb,_⟩)
    ·exact hm''.slt b i hs
    ·exact hm''.blk_lt ho hb
   ·refine(fT (w:=w'') (ρ:=ρ'.withS (Sfz ρ' hp')) (l:=l') (by rw [k3];exact r2) k4).mono (λ_ _ _=>rfl) (λ_ _ h=>h) λid hid=> ?_
    rw [k1]at hid
    cases hid
  cases x<;>cases e<;>simp only [Ex.rel]at hrel<;>simp only [KX,mX,cY]at hk
  ·exact fin hk
  ·exact hk.elim
  ·exact hk.elim
  ·exact fin hk
theorem bJ {C:Cfg}{x y:Code}{fr:Fr}{hp:Hp}{K:Ex->Fr->Hp->Prop}(h:aJ C x fr hp λe fr hp=>match e with| .normal=>aJ C y fr hp K|e=>K e fr hp):aJ C (.seq x y) fr hp K:=by
 intro E a w hpin hrd hs
 refine wpIn_seq (wpIn_mono (h E a w hpin hrd hs) ?_)
 rintro e a' w' ⟨ex,fr',hp',E',hE,hrel,hk,hs'⟩
 cases ex<;>cases e<;>simp only [Ex.rel]at hrel
 ·have:=hk E' a' w' (hE.pin.trans hpin) (hrd.ext hE) hs'
  rw [hE.rd]at this
  exact wpIn_mono this λe a w ⟨ex,fr',hp',E'',hE',rest⟩=>⟨ex,fr',hp',E'',hE.trans hE',rest⟩
 ·exact⟨.exit _,fr',hp',E',hE,hrel,hk,hs'⟩
 ·exact⟨.goto _,fr',hp',E',hE,hrel,hk,hs'⟩
 ·exact⟨.ret,fr',hp',E',hE,hrel,hk,hs'⟩
 ·exact⟨.pan,fr',hp',E',hE,hrel,hk,hs'⟩
theorem eK {C:Cfg}(hti:cI C.P C.ti) {c:Code}{fr:Fr}{hp:Hp}{K:Ex->Fr->Hp->Prop}(h:X C c fr hp K):aJ C c fr hp K:= λE a w hpin hrd hs=>gO hti c fr hp K h E a w hpin hrd hs
end
end Go.Proofs.YtdjfkmkdkclahaaGreatDoor
namespace Go.Proofs.YtdjfkmkdkclahaaGreatDoor
open Go.RowKit
section
variable {P:Program}
theorem nW (zc:Bool) (frz:List Nat) {ti:TypeId->Option TI}(hti:cI P ti) {f:FuncId}{fn:Func}{c:Code}(hf:P.funcs[f]? =some fn) (hb:fn.body=some c) (keep:Nat->Bool) (off:Nat) {pin:Pin}{fr:Fr}{hp:Hp}{args:List SV}{K:SV->Hp->Prop}
  (hn:args.length<=fn.ntmps) (hx:aJ ⟨P,ti,pin.under fr (fC fr),fn.ntmps,keep,off,none,zc,frz⟩ c (cX 0 args) hp (aLa ti fn.results.toList K)):aG P pin fr hp f args K:=by
 intro E ρ w tm hpin hm hfs vs hargs
 refine cW (r:=none) (n:=0) |>.1 (callsIn_of_wp_marks hf hb trivial ?_)
 have hfs':bW ρ w (cX 0 args) (vs++Array.replicate (fn.ntmps - vs.size) undef):=by
  intro t s ht
  obtain⟨_,h2⟩:=cU args 0 t s ht
  simp only [Nat.sub_zero]at h2
  have hlt:=(List.getElem?_eq_some_iff.1 h2).1
  have hlt':t < vs.size:=by rw [hargs.1];exact hlt
  refine⟨vs[t], ?_,hargs.2 t s _ h2 (Array.getElem?_eq_getElem hlt')⟩
  rw [Array.getElem?_append_left hlt',Array.getElem?_eq_getElem hlt']
 have hm0:=hm.enter (pin.under fr (fC fr)) none
 refine wpIn_mono (hx (bA w ρ hp (pin.under fr (fC fr)) none E.D) _ w rfl rfl ⟨?_,rfl,ρ,hm0,hfs'⟩) ?_
 ·simp only [Array.size_append,Array.size_replicate]
  have:=hargs.1
  omega
 ·rintro e a' w' ⟨x,fr',hp',E',hE,hrel,hk,hnt,hdf,ρ',hm',hf'⟩
  obtain⟨own,o1,o2,o3,o4,o5⟩:=gB hE rfl
  have hpre:E'.pin.pre=[]:=by rw [hE.pin];rfl
  have finp: ∀ch,Chn pin.pv ch->pin.kp fr hp'->LeavesInM (FW none) 0 P fn a'.tmps (λe w'=>(∃v ρ' s hp',e= .returned v/\K s hp'/\Mem E ρ' hp' w'/\bW ρ' w' fr tm/\Rep w' ρ' s v)\/ ∃ch ρ' hp',e= .panicked ch/\Chn pin.pv ch/\pin.kp fr hp'/\Mem E ρ' hp' w'/\bW ρ' w' fr tm) a'.defers (.panicking ch) w':=by
   intro ch hc hk
   rw [hdf,o2,hpre]
   refine eG (by simp) [] own E' w' hm' ⟨_,o1,o5⟩ o4 o3 ?_
   rintro E'' w'' ⟨q1,q2,q3,q4,q5,q6⟩ hm'' hkp
   have hmE:Mem E ρ' hp' w'':=hm.leave (pin:=pin.under fr (fC fr)) (rd:=none) hm'' ⟨q1.trans hE.w,q2.trans hE.S,q3.trans hE.B,q4.trans hE.pin,q5.trans hE.ρ,λb hb=>by rw [q6,o1];simpa [bA]using hb⟩ (λid hid=>by rw [hpin]at hid;exact List.mem_append_left _ hid)
   have kp:=hm''.kp
   have sold:=hm''.sold
   have mv:=hm''.mv
   rw [q1.trans hE.w,q2.trans hE.S]at kp
   rw [q2.trans hE.S]at sold
   rw [q4.trans hE.pin,q5.trans hE.ρ]at mv
   exact .inr ⟨ch,ρ',hp',rfl,hc,hk,hmE,hfs.mono kp sold λid hid=>mv id (List.mem_append_right _ hid)⟩
  have fin:eH ti fr' hp' fn.results.toList (λl=>K (bX l) hp')->LeavesInM (FW none) 0 P fn a'.tmps (λe w'=>(∃v ρ' s hp',e= .returned v/\K s hp'/\Mem E ρ' hp' w'/\bW ρ' w' fr tm/\Rep w' ρ' s v)\/ ∃ch ρ' hp',e= .panicked ch/\Chn pin.pv ch/\pin.kp fr hp'/\Mem E ρ' hp' w'/\bW ρ' w' fr tm) a'.defers .returning w':=by
   intro hk
   rw [hdf,o2,hpre]
   refine eG (by simp) [] own E' w' hm' ⟨_,o1,o5⟩ o4 o3 ?_
   rintro E'' w'' ⟨q1,q2,q3,q4,q5,q6⟩ hm'' hkp
   have hf'':bW ρ' w'' fr' a'.tmps:=hf'.mono hkp (λ_ _ x=>x) λi _=>ρ'.moved_refl i
   obtain⟨us,l,r1,r2,r3,r4⟩:=tS hti hm'' hf'' _ _ hk
   have hmE:Mem E ρ' hp' w'':=hm.leave (pin:=pin.under fr (fC fr)) (rd:=none) hm'' ⟨q1.trans hE.w,q2.trans hE.S,q3.trans hE.B,q4.trans hE.pin,q5.trans hE.ρ,λb hb=>by rw [q6,o1];simpa [bA]using hb⟩ (λid hid=>by rw [hpin]at hid;exact List.mem_append_left _ hid)
   refine⟨_,dM r1, .inl ⟨_,ρ',bX l,hp',rfl,r4,hmE, ?_,fT r2 r3⟩⟩
   have kp:=hm''.kp
   have sold:=hm''.sold
   have mv:=hm''.mv
   rw [q1.trans hE.w,q2.trans hE.S]at kp
   rw [q2.trans hE.S]at sold
   rw [q4.trans hE.pin,q5.trans hE.ρ]at mv
   exact hfs.mono kp sold λid hid=>mv id (List.mem_append_right _ hid)
  cases x<;>cases e<;>simp only [Ex.rel]at hrel<;>simp only [KX,aLa]at hk
  ·exact fin hk
  ·exact hk.elim
  ·exact hk.elim
  ·exact fin hk
  ·exact finp _ hrel hk
theorem aJ.frozC {C:Cfg}{c:Code}{fr:Fr}{hp hp1:Hp}{K:Ex->Fr->Hp->Prop}{id i t e z cap n:Nat}{rows:List (List D)}(ho:aN hp id=some (.mrow e z cap rows)) (hn:n=rows.length) (hsub:sE hp1 hp) (hno:aN hp1 id=none)
  (hc:aN hp1 i=some (.cells t [.mw id z n])) (h:aJ C c fr (dL hp1 i (.cells t [.d (.sl z rows)])) K):aJ C c fr hp K:=by
 intro E a w hpin hrd hsat
 obtain⟨h1,h2,ρ,h3,h4⟩:=hsat
 obtain⟨S',s1,s2,s3⟩:=h3.froze ho hsub hno
 obtain⟨q1,_⟩:=h3.sat id _ ho
 have m := s2.recell hc (cs' := [.d (.sl z rows)]) rfl (λj s' v hs' hv => by
  cases j with
  |zero=>
   simp at hs'
   subst hs'
   obtain⟨A,c,_,_,_,_,_,e2⟩:=(hv _ rfl).mw_inv
   have:=e2 (hn.trans q1.symm)
   subst this
   exact .d _ _ s3
  |succ j=>simp at hs')
 exact h E a w hpin hrd ⟨h1,h2,_,m,h4.mono (λ_ _ _=>rfl) s1 λi _=>ρ.moved_withS S' i⟩
theorem aHp {pin:Pin}{fr:Fr}{hp:Hp}{f:FuncId}{args:List SV}{K:SV->Hp->Prop}(W:List Nat) (hpI:Hp) {pinI:Pin}{KI:SV->Hp->Prop}
  (hc:aG P pinI [] hpI f args KI) (A:Among (λi=>i) W hpI hp) (hW: ∀k∈W,k∈pinI)
  (hk: ∀s h1,KI s h1->s.ids=[]/\ ∃hp2,Left (λi=>i) W h1 hp hp2/\K s hp2)
  (hkp: ∀h,¬ pinI.kp [] h):aG P pin fr hp f args K:=by
 intro E ρ w tm hpin hm hf vs hv
 have hm0:=hm.pulled pinI none A
 refine(hc _ _ w #[] rfl hm0 (λt s h=>by simp [cV]at h) vs ⟨hv.1,hv.2⟩).mono ?_
 rintro e w' (⟨v,ρ1,s,h1,rfl,k1,k2,k3,k4⟩|⟨ch,ρ1,h1,rfl,k0,k1,k2,k3⟩)
 ·obtain⟨s1,hp2,s3,s4⟩:=hk s h1 k1
  obtain⟨m1,m2⟩:=hm.framed A s3 hW k2
  exact .inl ⟨v,_,s,hp2,rfl,s4,m1,hf.mono k2.kp k2.sold (λi _=>m2 i),k4.noids rfl s1⟩
 ·exact absurd k1 (hkp h1)
theorem aJx {o:Oper}{ts:Array TypeId}{x y:Operand}{k:IntKind}{m n:Int}(ho:o.op= .call { callee:= .builtin .max,args:= #[x,y],argTypes:=ts }) {pin:Pin}{fr:Fr}{hp:Hp}{K:SV->Hp->Prop}
  (hx:evO fr x=some (.d (.int k m))) (hy:evO fr y=some (.d (.int k n))) (hk:K (.d (.int k (if n >m then n else m))) hp):aU P o pin fr hp K:=by
 intro E ρ a w _ hm hf next Q hq
 have e1:=(aS hf hx).int_inv
 have e2:=(aS hf hy).int_inv
 have hrun:(execOp a.eval o).run P w= .ok (.value (.int k (if n >m then n else m))) w:=by
  rw [aO ho]
  simp [builtin,e1,e2,Builtin.max_,Builtin.max2]
 exact bO hrun (hq _ w ρ _ hp hk hm hf (.d _ _ (.int _ _)))
end
end Go.Proofs.YtdjfkmkdkclahaaGreatDoor
namespace Go.Proofs.YtdjfkmkdkclahaaGreatDoor
open Go.RowKit
theorem aGj {C:Cfg}{x y:Code}{fr:Fr}{hp:Hp}{K:Ex->Fr->Hp->Prop}(FR:Fr) (HP:Hp) (h:aJ C x fr hp (λe fr' hp'=>match e with| .normal=>Sub fr' hp' FR HP|e=>K e fr' hp')) (hk:aJ C y FR HP K):aJ C (.seq x y) fr hp K:=
 bJ (h.mono λe fr' hp' hh=>by cases e<;>first|exact aJ.sub hh hk|exact hh)
end Go.Proofs.YtdjfkmkdkclahaaGreatDoor
