/-
  Small rules for the orders of a region. Ledgers: readers, versions, the query of a part. A contract by a walk through the body whose own objects are numbered from a number. The contract of a function with several boxed results whose deferred closure recovers, tells what was thrown, and writes the results. A deferred closure that keeps what it recovers: in a call that comes back it does nothing; after a panic it runs its body.
  Conditions: none.
-/
import Derived.Test.YtdjfkmkdkclahaaGreatDoorWOh
import Derived.Test.YtdjfkmkdkclahaaGreatDoorWSna
import Derived.Test.YtdjfkmkdkclahaaGreatDoorWNh
import Derived.Test.YtdjfkmkdkclahaaGreatDoorWQqg
import Derived.Test.YtdjfkmkdkclahaaGreatDoorWG4
import Derived.Test.YtdjfkmkdkclahaaGreatDoorWSyc
set_option linter.unnecessarySimpa false
set_option linter.unusedSectionVars false
set_option linter.unusedSimpArgs false
set_option linter.unusedVariables false
namespace Go.Proofs.YtdjfkmkdkclahaaGreatDoor
open Go.Proofs
theorem yU {C:Cfg}{all:List Oper}{i:Nat}{fr fr2:Fr}{hp hp2:Hp}{k:Fr->Hp->Prop}{K:Fr->Hp->Prop}{T:OT}(h1:aHw C all i fr hp k) (h2:dB C all K T fr2 hp2):aHw C all i fr hp k/\dB C all K T fr2 hp2:=⟨h1,h2⟩
theorem eqN {α:Type}{a b:α}(h:a=b) {B:Prop}(hb:B):a=b/\B:=⟨h,hb⟩
theorem leN {a b:Nat}(h:Nat.ble a b=true) {B:Prop}(hb:B):a<=b/\B:=⟨Nat.le_of_ble_eq_true h,hb⟩
theorem ltN {a b:Nat}(h:Nat.ble (a+1) b=true) {B:Prop}(hb:B):a < b/\B:=⟨Nat.le_of_ble_eq_true h,hb⟩
mutual
theorem aHy: ∀a:D,WkD a a
 | .nil=>by simp [WkD]
 | .sl z rows=>by rw [WkD];exact⟨rfl,eE rows⟩
 | .agg cs=>by rw [WkD];exact rZ cs
 | .int k n=>by simp [WkD]
 | .bool b=>by simp [WkD]
 | .str l=>by simp [WkD]
 | .lit v=>by simp [WkD]
theorem rZ: ∀l:List D,aFt l l
 | []=>by simp [aFt]
 |a::l=>by rw [aFt];exact⟨aHy a,rZ l⟩
theorem eE: ∀l:List (List D),aHz l l
 | []=>by simp [aHz]
 |a::l=>by rw [aHz];exact⟨rZ a,eE l⟩
end
end Go.Proofs.YtdjfkmkdkclahaaGreatDoor
namespace Go.Proofs.YtdjfkmkdkclahaaGreatDoor
open Go.Proofs Go.RowKit
set_option maxRecDepth 10000
attribute [local irreducible] aJ aG Tri aF YVC cA aU
theorem aNn (c:UInt8) (s:List UInt8):decide (0<=Lib.indexByte s c)=s.contains c:=by
 by_cases h:c∈s
 ·rw [show s.contains c=true from List.contains_iff_mem.2 h,decide_eq_true_eq]
  obtain⟨k,hk,h1,h2⟩: ∃(k:Nat) (h:k < s.length),(∀x∈s.take k,x≠c)/\s[k]=c:=by
   have hi:s.idxOf c < s.length:=List.idxOf_lt_length_iff.2 h
   refine⟨s.idxOf c,hi,λx hx e=> ?_,List.getElem_idxOf hi⟩
   subst e
   obtain⟨j,hj,e⟩:=List.getElem_of_mem hx
   rw [List.length_take]at hj
   rw [List.getElem_take]at e
   have:=List.not_of_lt_findIdx (p:=(· ==x)) (xs:=s) (i:=j) (by show j < s.idxOf x;omega)
   rw [e]at this
   simp at this
  rw [aLx hk h1 h2]
  exact Int.natCast_nonneg k
 ·have h1:=aEp (s:=s) (c:=c) (λx hx e=>h (by rw [<-e];exact hx))
  rw [show s.contains c=false by simpa using h,decide_eq_false_iff_not]
  omega
theorem iG (s:List UInt8):Tri Tryz.prog 34 [.d (.str s)] [] (λr=>r= .d (.bool (rdF s))):=by
 have h58:=aNn 58 s
 have hp:=aNa 95 s
 refine aI hty Tryz.func34 rfl (kp [0,2]) [] _ _ _ (by simp [Tryz.f34]) (by simp) ?_
 ((conv=>whnf);repeat' ((first|(intro hq;(try simp only [lnS]at hq);(try rewrite [List.length_map]))|refine sJ ?_|refine .intro _ (.intro rfl ?_)|refine exL (k:= ?_)|(refine aA [] (fN _) trivial (λs hs=> ?_);subst hs)|(refine aA [] (tC _ _) trivial (λs hs=> ?_);subst hs)|(refine aA [] (fM _ _) trivial (λs hs=> ?_);subst hs)|refine dwR ?_|((first|refine aC ?_ ?_|refine aD ?_ ?_)<;>intro hb<;>(first|exact ddX hb|try simp only [lnS]at hb))|(refine aB ?_ ?_<;>intro hb<;>try exact dsX hb))<;>(conv=>whnf)))
 ·rename_i hb0
  refine aM ?_
  show (!([95]:List UInt8).isPrefixOf s)=_
  rw [decide_eq_false hb]at h58
  unfold rdF
  rw [<-h58,hp]
  have hn:fB s=true:=by
   cases h:fB s
   ·rw [h]at hb0;exact absurd hb0 (by decide)
   ·rfl
  rw [hn];rfl
 ·rename_i hb0
  refine aM ?_
  rw [decide_eq_true hb]at h58
  unfold rdF
  rw [<-h58]
  simp
 ·refine aM ?_
  have hn:fB s=false:=by
   cases h:fB s
   ·rfl
   ·rw [h]at hb;exact absurd rfl hb
  unfold rdF
  rw [hn];rfl
theorem gI (n:Int):Tri Tryz.prog 35 [.d (.int .i64 n)] [] (λr=>r= .d (.bool (wC n))):=by
 refine aI hty Tryz.func35 rfl (kp [0,2]) [] _ _ _ (by simp [Tryz.f35]) (by simp) ?_
 ((conv=>whnf);repeat' ((first|(intro hq;(try simp only [lnS]at hq);(try rewrite [List.length_map]))|refine sJ ?_|refine .intro _ (.intro rfl ?_)|refine exL (k:= ?_)|refine dwR ?_|((first|refine aC ?_ ?_|refine aD ?_ ?_)<;>intro hb<;>(first|exact ddX hb|try simp only [lnS]at hb))|(refine aB ?_ ?_<;>intro hb<;>try exact dsX hb))<;>(conv=>whnf)))
 ·refine aM ?_
  unfold wC
  rw [decide_eq_decide]
  exact⟨λh=>⟨hb,h⟩,λh=>h.2⟩
 ·refine aM ?_
  unfold wC
  rw [decide_eq_false]
  exact λh=>hb h.1
theorem uI (p:List At):Tri Tryz.prog 47 [.d (.agg (aQ p))] [] (λr=>r= .d (.agg (qyR ⟨[],[p]⟩))):=by
 refine Tri.says ?_
 refine aI hty Tryz.func47 rfl (kp [0,1,2]) [] _ _ _ (by simp [Tryz.f47]) (by simp) ?_
 ((conv=>whnf);repeat' ((first|(intro hq;(try simp only [lnS]at hq);(try rewrite [List.length_map]))|refine sJ ?_|refine .intro _ (.intro rfl ?_)|refine exL (k:= ?_)|refine dwR ?_|((first|refine aC ?_ ?_|refine aD ?_ ?_)<;>intro hb<;>(first|exact ddX hb|try simp only [lnS]at hb))|(refine aB ?_ ?_<;>intro hb<;>try exact dsX hb))<;>(conv=>whnf)))
 exact⟨_,cJ.wkd (by repeat' (first|exact trivial|exact rfl|exact eE _|refine And.intro ?_ ?_)),rfl⟩
end Go.Proofs.YtdjfkmkdkclahaaGreatDoor
namespace Go.Proofs.YtdjfkmkdkclahaaGreatDoor
open Go.RowKit
section
variable {P:Program}
theorem wS (off:Nat) (zc:Bool) (frz:List Nat) {ti:TypeId->Option TI}(hti:cI P ti) {f:FuncId}{fn:Func}{c:Code}(hf:P.funcs[f]? =some fn) (hb:fn.body=some c) (keep:Nat->Bool) (pin:List Nat) (args:List SV) (hp:Hp) (post:SV->Prop)
  (hn:args.length<=fn.ntmps) (hnd:(hp.map (·.1)).Nodup) (hx:X ⟨P,ti,cY pin,fn.ntmps,keep,off,none,zc,frz⟩ c (cX 0 args) (roH hp) (mX ti fn.results.toList post)):Tri P f args hp post:=by
 intro w ρ vs hslt hargs hro
 refine cW (r:=none) (n:=0) |>.1 (callsIn_of_wp_marks hf hb trivial ?_)
 have hm:Mem ⟨w,ρ.S,λ_=>False,cY pin,ρ,none,[],0⟩ ρ (roH hp) w:=by
  have hat: ∀id o,aN (roH hp) id=some o->ρ.at id o=none:=by
   intro id o ho
   rcases dT hp id o hnd ho with⟨t,cs,rfl,_⟩|⟨g,z,rows,rfl,_⟩|⟨X,rfl,_⟩
   ·rfl
   ·rfl
   ·rfl
  refine⟨rfl,rfl, .refl _,Nat.le_refl _,λ_ _ _=>rfl,λ_ _ h=>h,λ_ _ h _ _=>h,hslt,λ_ _ _=>rfl, ?_, ?_, ?_,λid _=>ρ.moved_refl id, ?_,λb hb=>by cases hb⟩
  ·intro id o ho
   rcases dT hp id o hnd ho with⟨t,cs,rfl,h|h⟩|⟨g,z,rows,rfl,h⟩|⟨X,rfl,h|h⟩
   ·exact hro id _ h
   ·exact hro id _ h
   ·exact hro id _ h
   ·exact hro id _ h
   ·exact hro id _ h
  ·intro id o id' o' g h1 _ h3 _;rw [hat id o h1]at h3;cases h3
  ·intro id o g h1 h3;rw [hat id o h1]at h3;cases h3
  ·intro id x g _ _ _ id' o' h3 h4;rw [hat id' o' h3]at h4;cases h4
 have hfs:bW ρ w (cX 0 args) (vs++Array.replicate (fn.ntmps - vs.size) undef):=by
  intro t s ht
  obtain⟨_,h2⟩:=cU args 0 t s ht
  simp only [Nat.sub_zero]at h2
  have hlt:=(List.getElem?_eq_some_iff.1 h2).1
  have hlt':t < vs.size:=by rw [hargs.1];exact hlt
  refine⟨vs[t], ?_,hargs.2 t s _ h2 (Array.getElem?_eq_getElem hlt')⟩
  rw [Array.getElem?_append_left hlt',Array.getElem?_eq_getElem hlt']
 refine wpIn_mono (gO (C:=⟨P,ti,cY pin,fn.ntmps,keep,off,none,zc,frz⟩) hti c _ _ _ hx ⟨w,ρ.S,λ_=>False,cY pin,ρ,none,[],0⟩ _ w rfl rfl ⟨?_,rfl,ρ,hm,hfs⟩) ?_
 ·simp only [Array.size_append,Array.size_replicate]
  have:=hargs.1
  omega
 ·rintro e a' w' ⟨x,fr',hp',E',hE,hrel,hk,hnt,hdf,ρ',hm',hf'⟩
  obtain⟨own,o1,o2,o3,o4,o5⟩:=gB hE rfl
  have fin:eH ti fr' hp' fn.results.toList (λl=>dC hp' l λl=>(bX l).ids=[]/\post (bX l))->LeavesInM (FW none) 0 P fn a'.tmps (λe w'=> ∃v S' s,e= .returned v/\post s/\Grew w w'/\(∀b i,ρ.S b i->S' b i)/\(∀b i,S' b i->ρ.S b i\/w.heap.size<=b)/\(∀b i,S' b i->b < w'.heap.size)/\Rep w' (ρ.withS S') s v) a'.defers .returning w':=by
   intro hk
   have hpre:E'.pin.pre=[]:=by rw [hE.pin];rfl
   rw [hdf,o2,hpre]
   refine eG (by simp) [] own E' w' hm' ⟨_,o1,o5⟩ o4 o3 ?_
   rintro E'' w'' ⟨q1,q2,q3,q4,q5,q6⟩ hm'' hkp
   have hf'':bW ρ' w'' fr' a'.tmps:=hf'.mono hkp (λ_ _ x=>x) λi _=>ρ'.moved_refl i
   obtain⟨us,l,r1,r2,r3,r4⟩:=tS hti hm'' hf'' _ _ hk
   obtain⟨l',⟨k1,k2⟩,k3,k4⟩:=fQ hm'' l us _ r2 r3 r4
   have eW:E''.w=w:=q1.trans hE.w
   have eS:E''.S=ρ.S:=q2.trans hE.S
   have eB:E''.B= λ_=>False:=q3.trans hE.B
   refine⟨_,dM r1,_,Sfz ρ' hp',bX l',rfl,k2,⟨by rw [hm''.os,eW],by rw [hm''.tape,eW],by have:=hm''.output;rw [eW]at this;exact this,by have:=hm''.size;rw [eW]at this;exact this,λb hb=> ?_⟩,λb i hs=> .inl (hm''.sold b i (by rw [eS];exact hs)), ?_, ?_, ?_⟩
   ·have:=hm''.old b (by rw [eW];exact hb) (by rw [eB];exact λh=>h)
    rw [eW]at this;exact this
   ·rintro b i (hs|⟨id,e,z,cap,rows,ho,hb,_⟩)
    ·rcases Nat.lt_or_ge b w.heap.size with hlt|hge
     ·left
      have:=hm''.snew b i hs (by rw [eW];exact hlt) (by rw [eB];exact λh=>h)
      rw [eS]at this;exact this
     ·exact .inr hge
    ·rcases hm''.hb id _ b ho hb with hge|hB
     ·rw [eW]at hge;exact .inr hge
     ·rw [eB]at hB;exact hB.elim
   ·rintro b i (hs|⟨id,e,z,cap,rows,ho,hb,_⟩)
    ·exact hm''.slt b i hs
    ·exact hm''.blk_lt ho hb
   ·refine(fT (w:=w'') (ρ:=ρ'.withS (Sfz ρ' hp')) (l:=l') (by rw [k3];exact r2) k4).mono (λ_ _ _=>rfl) (λ_ _ h=>h) λid hid=> ?_
    rw [k1]at hid
    cases hid
  cases x<;>cases e<;>simp only [Ex.rel]at hrel<;>simp only [KX,mX,cY]at hk
  ·exact fin hk
  ·exact hk.elim
  ·exact hk.elim
  ·exact fin hk
end
end Go.Proofs.YtdjfkmkdkclahaaGreatDoor
namespace Go.Proofs.YtdjfkmkdkclahaaGreatDoor
open Go.RowKit
section
variable {P:Program}
abbrev Bx:=Nat×TypeId×Nat
def aIp (bs:List Bx):Fr:=bs.map λb=>(b.1, .ptr b.1 0)
def aKt:Nat->List Bx->Fr
 |_,[]=>[]
 |k,b::r=>(k, .ptr b.1 0)::aKt (k+1) r
def vW:List Bx->List (List SV)->Hp
 |b::r,c::s=>(b.1, .cells b.2.1 c)::vW r s
 |_,_=>[]
def aD1 (v:List Value):List SV:=v.map λv=> .d (.lit v)
def aBc:List Bx->List (List Value)->Prop
 |b::r,v::s=>v.length=b.2.2/\aBc r s
 | [],[]=>True
 |_,_=>False
def KPl:List Bx->Fr->Hp->Prop
 | [],_,_=>True
 |b::r,fr,hp=>(cV fr b.1=some (.ptr b.1 0)/\ ∃cx,aN hp b.1=some (.cells b.2.1 cx)/\cx.length=b.2.2)/\KPl r fr hp
def KPn (q:Prop) (bs:List Bx):Fr->Hp->Prop:= λfr hp=>q/\KPl bs fr hp
def aNu:List Bx->List (List SV)->Prop
 |b::r,c::s=>c.length=b.2.2/\aNu r s
 | [],[]=>True
 |_,_=>False
theorem KPl.cells {fr:Fr}{hp:Hp}: ∀{bs:List Bx},KPl bs fr hp-> ∃cs,aNu bs cs/\ ∀id o,aN (vW bs cs) id=some o->aN hp id=some o
 | [],_=>⟨[],trivial,λid o h=>by simp [vW,aN]at h⟩
 |b::r,h=>by
  obtain⟨⟨_,cx,h1,h2⟩,h3⟩:=h
  obtain⟨cs,k1,k2⟩:=h3.cells
  refine⟨cx::cs,⟨h2,k1⟩,λid o ho=> ?_⟩
  simp only [vW,aN]at ho
  split at ho
  ·rename_i e;subst e;injection ho with ho;subst ho;exact h1
  ·exact k2 id o ho
theorem KPl.fr {fr:Fr}{hp:Hp}: ∀{bs:List Bx},KPl bs fr hp-> ∀b∈bs,cV fr b.1=some (.ptr b.1 0)
 | [],_,b,h=>by cases h
 |b::r,h,x,hx=>by
  rcases List.mem_cons.1 hx with rfl|hx
  ·exact h.1.1
  ·exact h.2.fr x hx
theorem aHc {pre r:Hp}{i:Nat}{o:HObj}(h:i∉pre.map (·.1)):aN (pre++(i,o)::r) i=some o:=by
 induction pre with
 |nil=>simp [aN]
 |cons p s ih=>
  obtain⟨k,x⟩:=p
  simp only [List.map_cons,List.mem_cons,not_or]at h
  rw [List.cons_append,aN,if_neg (λe=>h.1 e.symm)]
  exact ih h.2
theorem aGh {pre r:Hp}{i:Nat}{o o':HObj}(h:i∉pre.map (·.1)):dL (pre++(i,o)::r) i o'=pre++(i,o')::r:=by
 induction pre with
 |nil=>simp [dL]
 |cons p s ih=>
  obtain⟨k,x⟩:=p
  simp only [List.map_cons,List.mem_cons,not_or]at h
  rw [List.cons_append,dL,if_neg (λe=>h.1 e.symm),ih h.2]
  rfl
theorem aI6 {E:Entry}{ρ:Env}{w:World}: ∀(bs:List Bx) (cs:List (List SV)) (pre:Hp),aNu bs cs->(∀b∈bs,b.1∉pre.map (·.1))->(bs.map (·.1)).Nodup->Mem E ρ (pre++vW bs cs) w->
  ∃vs:List (List Value),aBc bs vs/\Mem E ρ (pre++vW bs (vs.map aD1)) w
 | [],[],pre,_,_,_,hm=>⟨[],trivial,hm⟩
 |b::r,c::s,pre,hl,hp,hn,hm=>by
  obtain⟨h1,h2⟩:=hl
  have hb:=hp b List.mem_cons_self
  obtain⟨n1,n2⟩:=List.nodup_cons.1 hn
  have hm:Mem E ρ (pre++(b.1, .cells b.2.1 c)::vW r s) w:=hm
  obtain⟨v,lv,hm1⟩:=hm.relit (i:=b.1) (t:=b.2.1) (cs:=c) (aHc hb)
  rw [aGh hb]at hm1
  have e:pre++(b.1,HObj.cells b.2.1 (v.map λv=> .d (.lit v)))::vW r s=(pre++[(b.1,HObj.cells b.2.1 (aD1 v))])++vW r s:=by
   rw [List.append_assoc];rfl
  rw [e]at hm1
  obtain ⟨vs, k1, k2⟩ := aI6 r s (pre ++ [(b.1, HObj.cells b.2.1 (aD1 v))]) h2 (λx hx => by
   rw [List.map_append,List.mem_append]
   rintro(h|h)
   ·exact hp x (List.mem_cons_of_mem _ hx) h
   ·have h:x.1=b.1:=by simpa using h
    exact n1 (List.mem_map.2 ⟨x,hx,h⟩)) n2 hm1
  refine⟨v::vs,⟨lv.trans h1,k1⟩, ?_⟩
  rw [List.append_assoc]at k2
  exact k2
def aKp (g:Nat):Value:= .pointer (some ⟨g,0,none⟩)
def bxV (ρ:Env) (bs:List Bx):Array Value:=(bs.map λb=>aKp ((ρ.blk b.1).getD 0)).toArray
theorem xZ: ∀(bs:List Bx) (t:Nat) (s:SV),cV (aIp bs) t=some s-> ∃b∈bs,t=b.1/\s= .ptr b.1 0
 | [],t,s,h=>by simp [aIp,cV]at h
 |b::r,t,s,h=>by
  simp only [aIp,List.map_cons,cV]at h
  split at h
  ·rename_i e
   injection h with h
   exact⟨b,List.mem_cons_self,e.symm,h.symm⟩
  ·obtain⟨x,h1,h2⟩:=xZ r t s h
   exact⟨x,List.mem_cons_of_mem _ h1,h2⟩
theorem xY: ∀(bs:List Bx) (k t:Nat) (s:SV),cV (aKt k bs) t=some s-> ∃i b,bs[i]? =some b/\t=k+i/\s= .ptr b.1 0
 | [],k,t,s,h=>by simp [aKt,cV]at h
 |b::r,k,t,s,h=>by
  simp only [aKt,cV]at h
  split at h
  ·rename_i e
   injection h with h
   exact⟨0,b,rfl,by omega,h.symm⟩
  ·obtain⟨i,x,h1,h2,h3⟩:=xY r (k+1) t s h
   exact⟨i+1,x,by simpa using h1,by omega,h3⟩
theorem aCd {mk df:Oper}{B:Code}{g d j:Nat}{bs:List Bx}
  (m1:mk.op= .makeFunc (.func g) #[] (bs.map λb=>Operand.tmp b.1).toArray) (m2:mk.dst=some d) (m3:mk.guard=none) (d1:df.op= .defer { callee:= .value (.tmp d),args:= #[],argTypes:= #[] }) (d2:df.dst=none) (d3:df.guard=none)
  {E:Entry} {fr:Fr} {hp:Hp} {nt:Nat} {a:Act} {w:World} {Q:Exit->Act->World->Prop} (hd:d < nt) (hs:Sat E nt ⟨fr,hp⟩ a w) (hE:E.k=0/\E.pin.pre=[]) (hx: ∀b∈bs,cV fr b.1=some (.ptr b.1 0)) (ids:List Nat) (kp:Fr->Hp->Prop) (pv:Option (TypeId->Value->Prop))
  (hB : ∀ ρ a', Mem E ρ hp w -> (∀ b ∈ bs, ρ.blk b.1 = some ((ρ.blk b.1).getD 0)) ->
   Sat (bA w ρ hp ⟨ids,kp,[{ target:= .fn (.func g) (bxV ρ bs),args:= #[] }],pv⟩ none E.D) nt ⟨zL fr d (.fn g [] (bs.map λb=> .ptr b.1 0)),hp⟩ a' w->B.wpIn (FW none) 0 P Q a' w):
  (Code.seq (.region j #[mk,df] false) B).wpIn (FW none) 0 P Q a w:=by
 obtain⟨h1,h2,ρ,hm,hf⟩:=hs
 have ex: ∀b∈bs,a.eval (.tmp b.1)=aKp ((ρ.blk b.1).getD 0)/\ρ.blk b.1=some ((ρ.blk b.1).getD 0):=by
  intro b hb
  obtain⟨v,q1,q2⟩:=hf _ _ (hx b hb)
  cases q2 with
  |ptr id off gx h=>exact⟨by simp [Act.eval,Array.getD_eq_getD_getElem?,q1,h,aKp],by rw [h];rfl⟩
 have hcap:((bs.map λb=>Operand.tmp b.1).toArray.map a.eval)=bxV ρ bs:=by
  unfold bxV
  rw [List.map_toArray,List.map_map]
  congr 1
  exact List.map_congr_left λb hb=>(ex b hb).1
 refine wpIn_seq (wpIn_region ?_)
 show wpOpsIn (FW none) 0 P #[mk,df] _ [0,1] a w
 have w1: ∀y,Region.wanted mk y=true:= λy=>by simp [Region.wanted,m3]
 have w2: ∀y,Region.wanted df y=true:= λy=>by simp [Region.wanted,d3]
 have k1:(#[mk,df]:Array Oper)[0]? =some mk:=rfl
 have k2:(#[mk,df]:Array Oper)[1]? =some df:=rfl
 simp only [wpOpsIn,k1,k2,w1,w2,if_true]
 have e1:(execOp a.eval mk).run P w= .ok (.value (.func (.func g) #[] (bxV ρ bs))) w:=by
  rw [<-hcap]
  simp [execOp,m1,Instr.makeFunc]
 refine⟨λ_ _=>trivial, ?_⟩
 show Oper.uponIn (FW none) 0 P mk a _ _ ((execOp a.eval mk).run P w)
 rw [e1,Oper.uponIn_value]
 refine⟨λ_ _=>trivial, ?_⟩
 generalize hA:a.put mk.dst (.func (.func g) #[] (bxV ρ bs))=A
 have hv:A.eval (.tmp d)= .func (.func g) #[] (bxV ρ bs):=by
  rw [<-hA,m2]
  have hd':d < a.tmps.size:=by rw [h1];exact hd
  simp [Act.put,Act.eval,hd']
 have e2:(execOp A.eval df).run P w= .ok (.defer { target:= .fn (.func g) (bxV ρ bs),args:= #[] }) w:=by
  simp [execOp,d1,resolve,hv,Deferred.ofValue]
 show Oper.uponIn (FW none) 0 P df A _ _ ((execOp A.eval df).run P w)
 rw [e2,Oper.uponIn_defer,d2]
 refine hB ρ _ hm (λb hb=>(ex b hb).2) ⟨?_, ?_,ρ,hm.enter _ none, ?_⟩
 ·show A.tmps.size=nt
  rw [<-hA,bC];exact h1
 ·show _::A.defers=_
  rw [<-hA,put_defers,h2,hE.1,hE.2];simp [bA]
 ·intro t s ht
  rw [fD]at ht
  show ∃v,A.tmps[t]? =some v/\Rep w ρ s v
  rw [<-hA,m2]
  by_cases e:t=d
  ·subst e
   simp at ht
   subst ht
   have hd':t < a.tmps.size:=by rw [h1];exact hd
   refine⟨.func (.func g) #[] (bxV ρ bs),by simp [Act.put,hd'], ?_⟩
   refine .fn g [] _ #[] (bxV ρ bs) rfl (by simp [bxV]) (by intro j s v h;simp at h) ?_
   intro j s v q1 q2
   simp only [bxV,List.getElem?_map,List.getElem?_toArray,Option.map_eq_some_iff]at q1 q2
   obtain⟨b,h3,rfl⟩:=q1
   obtain⟨b',h4,rfl⟩:=q2
   rw [h3]at h4
   injection h4 with h4
   subst h4
   exact .ptr _ 0 _ (ex b (List.mem_of_getElem? h3)).2
  ·simp [e]at ht
   obtain⟨v,q1,q2⟩:=hf t s ht
   refine⟨v, ?_,q2⟩
   simp only [Act.put]
   rw [Array.getElem?_setIfInBounds_ne (Ne.symm e)]
   exact q1
end
end Go.Proofs.YtdjfkmkdkclahaaGreatDoor
namespace Go.Proofs.YtdjfkmkdkclahaaGreatDoor
open Go.RowKit
section
variable {P:Program}
theorem aE3 {g:FuncId}{gn:Func}{r0 r1:Nat}{rc asv mv nq:Oper}{a0 a b c:Nat}{tI tJ:TypeId}{ms:Array (String×TypeId)}{Y:Code}(hg:P.funcs[g]? =some gn) (hb:gn.body=some (.seq (.region r0 #[rc,asv] false) (.seq (.region r1 #[mv,nq] false) (.cond (.tmp c) Y .skip))))
  (h1:rc.op= .call { callee:= .builtin .recover,args:= #[],argTypes:= #[] }) (h2:rc.dst=some a0) (h3:rc.guard=none) (g1:asv.op= .assign (.tmp a0)) (g2:asv.dst=some a) (g3:asv.guard=none) (f1:mv.op= .move (.tmp a)) (f2:mv.dst=some b) (f3:mv.guard=none)
  (h4:nq.op= .binOp .neq tI (.tmp b) (.const .nilIface) tJ) (h5:nq.dst=some c) (h6:nq.guard=none)
  (hI:P.underlying tI=some (.interface ms)) (ha0:a0 < gn.ntmps) (ha:a < gn.ntmps) (hbn:b < gn.ntmps) (hc:c < gn.ntmps) (hres:gn.results= #[]) {args:Array Value} (hsz:args.size<=gn.ntmps) {n:Nat} {w:World} {R:Ending->FrameMode->World->Prop} (hR: ∀v,R (.returned v) .returning w):
  CallsDIn (FW none) n P g args .returning w R:=by
 refine callsDIn_of_wpSIn hg hb trivial (λc₀ cs hm=> ?_)
 refine wpSIn_seq (wpSIn_region ?_)
 show wpOpsSIn (FW none) n P #[rc,asv] _ [0,1] _ _ _
 have hrec:recoverD (c₀::cs)=none:=by simp [recoverD,hm]
 have w1: ∀y,Region.wanted rc y=true:= λy=>by simp [Region.wanted,h3]
 have w2: ∀y,Region.wanted asv y=true:= λy=>by simp [Region.wanted,g3]
 have w3: ∀y,Region.wanted mv y=true:= λy=>by simp [Region.wanted,f3]
 have w4: ∀y,Region.wanted nq y=true:= λy=>by simp [Region.wanted,h6]
 have e1: ∀ev:Operand->Value,(execOp ev rc).run P w= .ok .recover w:= λev=>by simp [execOp,h1,resolve,invoke,builtin]
 have k1:(#[rc,asv]:Array Oper)[0]? =some rc:=rfl
 have k2:(#[rc,asv]:Array Oper)[1]? =some asv:=rfl
 have k3:(#[mv,nq]:Array Oper)[0]? =some mv:=rfl
 have k4:(#[mv,nq]:Array Oper)[1]? =some nq:=rfl
 simp only [wpOpsSIn,k1,k2,w1,w2,if_true,e1,hrec]
 refine⟨λ_ _=>trivial,λ_ _=>trivial, ?_⟩
 generalize hA:({ tmps:=args++Array.replicate (gn.ntmps - args.size) undef,defers:=[] }:Act)=A
 have hAs:A.tmps.size=gn.ntmps:=by rw [<-hA];simp;omega
 have hAd:A.defers=[]:=by rw [<-hA]
 have ev1:(A.put rc.dst .nilIface).eval (.tmp a0)= .nilIface:=by
  rw [h2]
  simp [Act.put,Act.eval,hAs,ha0]
 have e2:(execOp (A.put rc.dst .nilIface).eval asv).run P w= .ok (.value .nilIface) w:=by
  simp [execOp,g1,ev1]
 rw [e2]
 obtain⟨A2,hA2⟩: ∃A2,(A.put rc.dst .nilIface).put asv.dst .nilIface=A2:=⟨_,rfl⟩
 have hA2s:A2.tmps.size=gn.ntmps:=by rw [<-hA2,bC,bC,hAs]
 have hA2d:A2.defers=[]:=by rw [<-hA2,put_defers,put_defers,hAd]
 have ev2:A2.eval (.tmp a)= .nilIface:=by
  rw [<-hA2,g2]
  simp [Act.put,Act.eval,h2,hAs,ha]
 refine wpSIn_seq (wpSIn_region ?_)
 show wpOpsSIn (FW none) n P #[mv,nq] _ [0,1] ((A.put rc.dst .nilIface).put asv.dst .nilIface) _ _
 rw [hA2]
 have e3:(execOp A2.eval mv).run P w= .ok (.value .nilIface) w:=by
  simp [execOp,f1,ev2]
 simp only [wpOpsSIn,k3,k4,w3,w4,if_true,e3]
 refine⟨λ_ _=>trivial,λ_ _=>trivial, ?_⟩
 have ev3:(A2.put mv.dst .nilIface).eval (.tmp b)= .nilIface:=by
  rw [f2]
  simp [Act.put,Act.eval,hA2s,hbn]
 have e4:(execOp (A2.put mv.dst .nilIface).eval nq).run P w= .ok (.value (.bool false)) w:=by
  have ev4:(A2.put mv.dst .nilIface).eval (.const .nilIface)= .nilIface:=rfl
  simp [execOp,h4,ev3,ev4,eqGuard,dR w false .nilIface (.inl ⟨rfl,rfl⟩) hI]
 rw [e4]
 have ev5:((A2.put mv.dst .nilIface).put nq.dst (.bool false)).eval (.tmp c)= .bool false:=by
  rw [h5]
  simp [Act.put,Act.eval,f2,hA2s,hc]
 refine wpSIn_cond ev5 ?_
 refine wpSIn_of_wpIn rfl (wpIn_skip ?_)
 refine⟨by rw [put_defers,put_defers];exact hA2d, .returning, ?_, .tuple #[], ?_,hR _⟩
 ·rw [<-hm]
 ·simp [results,hres]
theorem aGo {g:FuncId}{gn:Func}{r0 r1:Nat}{rc asv mv nq:Oper}{a0 a b c:Nat}{tI tJ:TypeId}{ms:Array (String×TypeId)}{Y:Code}(hg:P.funcs[g]? =some gn) (hb:gn.body=some (.seq (.region r0 #[rc,asv] false) (.seq (.region r1 #[mv,nq] false) (.cond (.tmp c) Y .skip))))
  (h1:rc.op= .call { callee:= .builtin .recover,args:= #[],argTypes:= #[] }) (h2:rc.dst=some a0) (h3:rc.guard=none) (g1:asv.op= .assign (.tmp a0)) (g2:asv.dst=some a) (g3:asv.guard=none) (f1:mv.op= .move (.tmp a)) (f2:mv.dst=some b) (f3:mv.guard=none)
  (h4:nq.op= .binOp .neq tI (.tmp b) (.const .nilIface) tJ) (h5:nq.dst=some c) (h6:nq.guard=none)
  (hI:P.underlying tI=some (.interface ms)) (ha0:a0 < gn.ntmps) (ha:a < gn.ntmps) (hbn:b < gn.ntmps) (hc:c < gn.ntmps) (hres:gn.results= #[]) {args:Array Value} (hsz:args.size<=gn.ntmps) {n:Nat} {w:World} {R:Ending->FrameMode->World->Prop} {t:TypeId} {x:Value}
  (hY : ∀ A : Act, A.tmps = ((((args ++ Array.replicate (gn.ntmps - args.size) undef).setIfInBounds a0 (.iface t x)).setIfInBounds a (.iface t x)).setIfInBounds b (.iface t x)).setIfInBounds c (.bool true) -> A.defers = [] ->
   Y.wpIn (FW none) n P (λe a' w'=>(e= .normal\/e= .ret)/\a'.defers=[]/\ ∀v,R (.returned v) (.panicking [{ v:= .iface t x,recovered:=true }]) w') A w):
  CallsDIn (FW none) n P g args (.panicking [{ v:= .iface t x,recovered:=false }]) w R:=by
 refine callsDIn_of_wpSIn hg hb trivial (λc₀ cs hm=> ?_)
 refine wpSIn_seq (wpSIn_region ?_)
 show wpOpsSIn (FW none) n P #[rc,asv] _ [0,1] _ _ _
 have hrec:recoverD (c₀::cs)=some (.iface t x,{ c₀ with mode:= .panicking [{ v:= .iface t x,recovered:=true }] }::cs):=by simp [recoverD,hm]
 have w1: ∀y,Region.wanted rc y=true:= λy=>by simp [Region.wanted,h3]
 have w2: ∀y,Region.wanted asv y=true:= λy=>by simp [Region.wanted,g3]
 have w3: ∀y,Region.wanted mv y=true:= λy=>by simp [Region.wanted,f3]
 have w4: ∀y,Region.wanted nq y=true:= λy=>by simp [Region.wanted,h6]
 have e1: ∀ev:Operand->Value,(execOp ev rc).run P w= .ok .recover w:= λev=>by simp [execOp,h1,resolve,invoke,builtin]
 have k1:(#[rc,asv]:Array Oper)[0]? =some rc:=rfl
 have k2:(#[rc,asv]:Array Oper)[1]? =some asv:=rfl
 have k3:(#[mv,nq]:Array Oper)[0]? =some mv:=rfl
 have k4:(#[mv,nq]:Array Oper)[1]? =some nq:=rfl
 simp only [wpOpsSIn,k1,k2,w1,w2,if_true,e1,hrec]
 refine⟨λ_ _=>trivial,λ_ _=>trivial, ?_⟩
 generalize hA:({ tmps:=args++Array.replicate (gn.ntmps - args.size) undef,defers:=[] }:Act)=A
 have hAs:A.tmps.size=gn.ntmps:=by rw [<-hA];simp;omega
 have hAd:A.defers=[]:=by rw [<-hA]
 have ev1:(A.put rc.dst (.iface t x)).eval (.tmp a0)= .iface t x:=by
  rw [h2]
  simp [Act.put,Act.eval,hAs,ha0]
 have e2:(execOp (A.put rc.dst (.iface t x)).eval asv).run P w= .ok (.value (.iface t x)) w:=by
  simp [execOp,g1,ev1]
 rw [e2]
 obtain⟨A2,hA2⟩: ∃A2,(A.put rc.dst (.iface t x)).put asv.dst (.iface t x)=A2:=⟨_,rfl⟩
 have hA2s:A2.tmps.size=gn.ntmps:=by rw [<-hA2,bC,bC,hAs]
 have hA2d:A2.defers=[]:=by rw [<-hA2,put_defers,put_defers,hAd]
 have ev2:A2.eval (.tmp a)= .iface t x:=by
  rw [<-hA2,g2]
  simp [Act.put,Act.eval,h2,hAs,ha]
 refine wpSIn_seq (wpSIn_region ?_)
 show wpOpsSIn (FW none) n P #[mv,nq] _ [0,1] ((A.put rc.dst (.iface t x)).put asv.dst (.iface t x)) _ _
 rw [hA2]
 have e3:(execOp A2.eval mv).run P w= .ok (.value (.iface t x)) w:=by
  simp [execOp,f1,ev2]
 simp only [wpOpsSIn,k3,k4,w3,w4,if_true,e3]
 refine⟨λ_ _=>trivial,λ_ _=>trivial, ?_⟩
 have ev3:(A2.put mv.dst (.iface t x)).eval (.tmp b)= .iface t x:=by
  rw [f2]
  simp [Act.put,Act.eval,hA2s,hbn]
 have e4:(execOp (A2.put mv.dst (.iface t x)).eval nq).run P w= .ok (.value (.bool true)) w:=by
  have ev4:(A2.put mv.dst (.iface t x)).eval (.const .nilIface)= .nilIface:=rfl
  simp [execOp,h4,ev3,ev4,eqGuard,dR w true (.iface t x) (.inr ⟨_,_,rfl,rfl⟩) hI]
 rw [e4]
 have ev5:((A2.put mv.dst (.iface t x)).put nq.dst (.bool true)).eval (.tmp c)= .bool true:=by
  rw [h5]
  simp [Act.put,Act.eval,f2,hA2s,hc]
 refine wpSIn_cond ev5 ?_
 refine wpSIn_of_wpIn rfl (wpIn_mono (hY _ ?_ (by rw [put_defers,put_defers];exact hA2d)) ?_)
 ·rw [f2,h5,<-hA2,h2,g2,<-hA]
  simp only [Act.put]
 ·rintro e a' w' ⟨he,hd,hR⟩
  rcases he with rfl|rfl<;>exact⟨hd,_,rfl, .tuple #[],by simp [results,hres],hR _⟩
theorem aDj {C:Cfg}(hti:cI C.P C.ti) {id:Nat}{l:List Oper}{fr:Fr}{hp:Hp}{K:Fr->Hp->Prop}(T:OT) (hm:C.P.follows .mixedOrders=true)
  (hB:(decide (T.depth<=l.length) && Region.noSelect l.toArray && aB2 l.toArray T (Array.replicate l.length false) false && fL l)=true) (h:dB C l K T fr hp)
  {E:Entry} {a:Act} {w:World} {Q:Exit->Act->World->Prop} (hpin:E.pin=C.pin) (hs:Sat E C.nt ⟨fr,hp⟩ a w) (hno:¬ LetsOut Q) (hQ: ∀fr hp a w,K fr hp->Sat E C.nt ⟨fr,hp⟩ a w->Q .normal a w):
  (Code.region id l.toArray true).wpIn (FW E.rd) 0 C.P Q a w:=by
 obtain⟨h1,h2,ρ,h3,h4⟩:=hs
 simp only [Bool.and_eq_true,decide_eq_true_eq]at hB
 obtain⟨⟨⟨b1,b2⟩,b3⟩,hnd⟩:=hB
 refine dD hm hnd hno ?_
 obtain⟨m1,m2⟩:=h3.grow_same (Grew.drew w)
 generalize hw1:w.drew=w1 at *
 have hm2:Mem { bA w1 ρ hp E.pin E.rd E.D with k:=E.k } ρ hp w1:=by
  have:=m1.enter E.pin E.rd
  exact⟨this.os,this.tape,this.output,this.size,this.old,this.sold,this.snew,this.slt,this.kp,this.sat,this.inj,this.hb,this.mv,this.ro,this.md⟩
 have:=(pG (C:=C) hti b2 T l.length (Array.replicate l.length false) fr hp ρ a w1 { bA w1 ρ hp E.pin E.rd E.D with k:=E.k } hpin rfl rfl h hm2 h1 h2 (m2 fr _ h4)).1 b3 b1
 have h5:=tL (Q:=Q) _ _ _ _ _ (uO (Q':=Q .normal) (λa w ⟨fr',hp',k1,q2,q3,ρ3,q4,q5⟩=>hQ fr' hp' a w k1 ⟨q2,q3,ρ3,m1.leave (pin:=E.pin) (rd:=E.rd) q4 ⟨rfl,rfl,rfl,rfl,rfl,λb hb=>hb⟩ (λid hid=>hid),q5⟩) _ _ _ _ _ _ (λ_ h=>h) this)
 have e:l.toArray.size=l.length:=by simp
 rw [e]
 subst hw1
 exact h5
end
end Go.Proofs.YtdjfkmkdkclahaaGreatDoor
