/-
  Rows that the call may write are stable from here on: data. A contract by a walk through the body whose own objects are numbered from a number. Rename: the table of names, concepts and axioms with other names. Small rules for the orders of a region. Rename: axioms with other names.
  Conditions: none.
-/
import Derived.Test.YtfhoddcminbffaaGreatDoorVSyd
import Derived.Test.YtfhoddcminbffaaGreatDoorVTcr
import Derived.Test.YtfhoddcminbffaaGreatDoorVAc
import Derived.Test.YtfhoddcminbffaaGreatDoorVA8
import Derived.Test.YtfhoddcminbffaaGreatDoorVSna
set_option linter.unnecessarySimpa false
set_option linter.unusedSectionVars false
set_option linter.unusedSimpArgs false
set_option linter.unusedVariables false
set_option maxHeartbeats 16000000
namespace Go.Proofs.YtfhoddcminbffaaGreatDoor
open Go.Proofs
theorem Mem.froze {E:Entry}{ρ:Env}{hp hp':Hp}{w:World}(h:Mem E ρ hp w) {id e z cap:Nat}{rows:List (List D)}(ho:bB hp id=some (.mrow e z cap rows)) (hsub:yX hp' hp) (hno:bB hp' id=none):
  ∃S':Nat->Nat->Prop,(∀b i,ρ.S b i->S' b i)/\Mem E (ρ.withS S') hp' w/\RepD w S' (.sl z rows) (ρ.tv id):=by
 have hat: ∀b,eP (ρ.tv id)=some b->ρ.at id (.mrow e z cap rows)=some b:= λb hb=>hb
 have hs0: ∀i o,bB hp' i=some o->bB hp i=some o:=iY _ _ hsub
 have hne: ∀i o,bB hp' i=some o->i≠id:= λi o hi e=>by rw [e,hno]at hi;cases hi
 refine⟨λb i=>ρ.S b i\/(eP (ρ.tv id)=some b/\i < rows.length * z),λb i hs=> .inl hs, ?_, ?_⟩
 ·refine⟨h.os,h.tape,h.output,h.size,h.old,λb i hs=> .inl (h.sold b i hs), ?_, ?_,h.kp, ?_,λi o i' o' g hi hi'=>h.inj i o i' o' g (hs0 i o hi) (hs0 i' o' hi'),λi o g hi=>h.hb i o g (hs0 i o hi),λi hi=>Env.moved_trans (h.mv i hi) (ρ.moved_withS _ i), ?_,h.md⟩
  ·rintro b i (hs|⟨hb,_⟩) hlt hB
   ·exact h.snew b i hs hlt hB
   ·rcases h.hb id _ b ho (hat b hb)with h1|h1
    ·omega
    ·exact absurd h1 hB
  ·rintro b i (hs|⟨hb,_⟩)
   ·exact h.slt b i hs
   ·exact h.blk_lt ho (hat b hb)
  ·intro i o hi
   refine(h.sat i o (hs0 i o hi)).keep (λ_ _ _=>rfl) (λb i hs=> .inl hs) (λi _=>ρ.moved_withS _ i) ⟨rfl,rfl⟩ (λg _=>rfl) ?_
   rintro g hg j (hs|⟨hb,_⟩)
   ·exact hs
   ·exact absurd (h.inj i o id _ g (hs0 i o hi) ho hg (hat g hb)) (hne i o hi)
  ·intro i oR g hi hrd hg i' o' hi'
   exact h.ro i oR g (hs0 _ _ hi) hrd hg i' o' (hs0 _ _ hi')
 ·obtain⟨_,h2⟩:=h.sat id _ ho
  rcases h2 with⟨rfl,_,A,e1⟩|⟨hc,g,cur,e1,q1,q2,q3,q4,q6,q7⟩
  ·rw [e1]
   exact RepD.mk_sl (b:=0) (off:=0) (by simp) (by simp) (λhne=>absurd rfl hne) ⟨by simp,by simp⟩ (by simp)
  ·have hb:eP (ρ.tv id)=some g:=by
    rw [e1];have:cap≠0:=by omega
    simp [eP,this]
   have key:RepD w (λb i=>ρ.S b i\/(eP (ρ.tv id)=some b/\i < rows.length * z)) (.sl z rows) (.slice (some ⟨g,0,none⟩) rows.length cap):=by
    refine RepD.mk_sl (b:=g) (off:=0) q2 q3 (λ_=>rfl) ?_ rfl
    refine q6.view (λk v hv=> ?_) (λk hk=> ?_) (λx v hx=>hx.mono (λ_ _ _=>rfl) λb i hs=> .inl hs)
    ·rw [Nat.zero_add,cell_of_row w g k cur e (0,0) q1]
     rw [List.getElem?_take]at hv
     split at hv
     ·simpa using hv
     ·cases hv
    ·rw [Nat.zero_add]
     right
     refine⟨hb, ?_⟩
     rw [q6.len]at hk;exact hk
   rw [e1]at key |-
   exact key
theorem aM.froz {P:Program}{pin:List Nat}{fr:Fr}{hp hp':Hp}{f:FuncId}{asv:List SV}{K:SV->Hp->Prop}(j id:Nat) {e z cap n:Nat}{rows:List (List D)}(ho:bB hp id=some (.mrow e z cap rows)) (hn:n=rows.length) (hj:asv[j]? =some (.mw id z n))
  (hsub:yX hp' hp) (hno:bB hp' id=none) (h:aM P pin fr hp' f (asv.set j (.d (.sl z rows))) K):aM P pin fr hp f asv K:=by
 intro E ρ w tm hpin h3 h4 vs hargs
 obtain⟨S',s1,s2,s3⟩:=h3.froze ho hsub hno
 obtain⟨q1,_⟩:=h3.sat id _ ho
 refine h E _ w tm hpin s2 (h4.mono (λ_ _ _=>rfl) s1 λi _=>ρ.moved_withS S' i) vs ⟨by simpa using hargs.1, ?_⟩
 intro k s v hs hv
 by_cases e:j=k
 ·subst e
  have hjl:=(List.getElem?_eq_some_iff.1 hj).1
  rw [List.getElem?_set_self hjl]at hs
  injection hs with hs
  subst hs
  obtain⟨A,c,_,_,_,_,_,e2⟩:=(hargs.2 j _ v hj hv).mw_inv
  have:=e2 (hn.trans q1.symm)
  subst this
  exact .d _ _ s3
 ·rw [List.getElem?_set_ne e]at hs
  exact(hargs.2 k s v hs hv).mono (λ_ _ _=>rfl) s1 λi _=>ρ.moved_withS S' i
theorem aV.froz {C:Cfg}{c:Code}{fr:Fr}{hp hp':Hp}{K:Ex->Fr->Hp->Prop}(t id:Nat) {e z cap n:Nat}{rows:List (List D)}(ht:jL fr t=some (.mw id z n)) (ho:bB hp id=some (.mrow e z cap rows)) (hn:n=rows.length)
  (hsub:yX hp' hp) (hno:bB hp' id=none) (h:aV C c ((t, .d (.sl z rows))::fr) hp' K):aV C c fr hp K:=by
 intro E a w hpin hrd hsat
 obtain⟨h1,h2,ρ,h3,h4⟩:=hsat
 obtain⟨S',s1,s2,s3⟩:=h3.froze ho hsub hno
 obtain⟨q1,_⟩:=h3.sat id _ ho
 refine h E a w hpin hrd ⟨h1,h2,_,s2, ?_⟩
 intro k s hs
 simp only [jL]at hs
 by_cases e:t=k
 ·rw [if_pos e]at hs
  injection hs with hs
  subst hs;subst e
  obtain⟨v,hv,hr⟩:=h4 t _ ht
  obtain⟨A,c,_,_,_,_,_,e2⟩:=hr.mw_inv
  have:=e2 (hn.trans q1.symm)
  subst this
  exact⟨_,hv, .d _ _ s3⟩
 ·rw [if_neg e]at hs
  obtain⟨v,hv,hr⟩:=h4 k _ hs
  exact⟨v,hv,hr.mono (λ_ _ _=>rfl) s1 λi _=>ρ.moved_withS S' i⟩
end Go.Proofs.YtfhoddcminbffaaGreatDoor
namespace Go.Proofs.YtfhoddcminbffaaGreatDoor
open Go.RowKit
section
variable {P:Program}
theorem gO (off:Nat) (zc:Bool) (frz:List Nat) {ti:TypeId->Option TI}(hti:dS P ti) {f:FuncId}{fn:Func}{c:Code}(hf:P.funcs[f]? =some fn) (hb:fn.body=some c) (keep:Nat->Bool) (pin:List Nat) (args:List SV) (hp:Hp) (post:SV->Prop)
  (hn:args.length<=fn.ntmps) (hnd:(hp.map (·.1)).Nodup) (hx:X ⟨P,ti,pin,fn.ntmps,keep,off,none,zc,frz⟩ c (bR 0 args) (roH hp) (aEn ti fn.results.toList post)):Tri P f args hp post:=by
 intro w ρ vs hslt hargs hro
 refine iS (r:=none) (n:=0) |>.1 (callsIn_of_wp_marks hf hb trivial ?_)
 have hm:Mem ⟨w,ρ.S,λ_=>False,pin,ρ,none,[],0⟩ ρ (roH hp) w:=by
  have hat: ∀id o,bB (roH hp) id=some o->ρ.at id o=none:=by
   intro id o ho
   rcases pV hp id o hnd ho with⟨t,cs,rfl,_⟩|⟨g,z,rows,rfl,_⟩|⟨X,rfl,_⟩
   ·rfl
   ·rfl
   ·rfl
  refine⟨rfl,rfl, .refl _,Nat.le_refl _,λ_ _ _=>rfl,λ_ _ h=>h,λ_ _ h _ _=>h,hslt,λ_ _ _=>rfl, ?_, ?_, ?_,λid _=>ρ.moved_refl id, ?_,λb hb=>by cases hb⟩
  ·intro id o ho
   rcases pV hp id o hnd ho with⟨t,cs,rfl,h|h⟩|⟨g,z,rows,rfl,h⟩|⟨X,rfl,h|h⟩
   ·exact hro id _ h
   ·exact hro id _ h
   ·exact hro id _ h
   ·exact hro id _ h
   ·exact hro id _ h
  ·intro id o id' o' g h1 _ h3 _;rw [hat id o h1]at h3;cases h3
  ·intro id o g h1 h3;rw [hat id o h1]at h3;cases h3
  ·intro id x g _ _ _ id' o' h3 h4;rw [hat id' o' h3]at h4;cases h4
 have hfs:cZ ρ w (bR 0 args) (vs++Array.replicate (fn.ntmps - vs.size) undef):=by
  intro t s ht
  obtain⟨_,h2⟩:=nW args 0 t s ht
  simp only [Nat.sub_zero]at h2
  have hlt:=(List.getElem?_eq_some_iff.1 h2).1
  have hlt':t < vs.size:=by rw [hargs.1];exact hlt
  refine⟨vs[t], ?_,hargs.2 t s _ h2 (Array.getElem?_eq_getElem hlt')⟩
  rw [Array.getElem?_append_left hlt',Array.getElem?_eq_getElem hlt']
 refine wpIn_mono (kK (C:=⟨P,ti,pin,fn.ntmps,keep,off,none,zc,frz⟩) hti c _ _ _ hx ⟨w,ρ.S,λ_=>False,pin,ρ,none,[],0⟩ _ w rfl rfl ⟨?_,rfl,ρ,hm,hfs⟩) ?_
 ·simp only [Array.size_append,Array.size_replicate]
  have:=hargs.1
  omega
 ·rintro e a' w' ⟨x,fr',hp',E',hE,hrel,hk,hnt,hdf,ρ',hm',hf'⟩
  obtain⟨own,o1,o2,o3,o4,o5⟩:=uX hE rfl
  have fin:nU ti fr' hp' fn.results.toList (λl=>oG hp' l λl=>(cL l).ids=[]/\post (cL l))->LeavesInM (FW none) 0 P fn a'.tmps (λe w'=> ∃v S' s,e= .returned v/\post s/\Grew w w'/\(∀b i,ρ.S b i->S' b i)/\(∀b i,S' b i->ρ.S b i\/w.heap.size<=b)/\(∀b i,S' b i->b < w'.heap.size)/\Rep w' (ρ.withS S') s v) a'.defers .returning w':=by
   intro hk
   rw [hdf,o2]
   refine vG own E' w' hm' ⟨_,o1,o5⟩ o4 o3 ?_
   rintro E'' w'' ⟨q1,q2,q3,q4,q5,q6⟩ hm'' hkp
   have hf'':cZ ρ' w'' fr' a'.tmps:=hf'.mono hkp (λ_ _ x=>x) λi _=>ρ'.moved_refl i
   obtain⟨us,l,r1,r2,r3,r4⟩:=aEo hti hm'' hf'' _ _ hk
   obtain⟨l',⟨k1,k2⟩,k3,k4⟩:=mB hm'' l us _ r2 r3 r4
   have eW:E''.w=w:=q1.trans hE.w
   have eS:E''.S=ρ.S:=q2.trans hE.S
   have eB:E''.B= λ_=>False:=q3.trans hE.B
   refine⟨_,lJ r1,_,Sfz ρ' hp',cL l',rfl,k2,⟨by rw [hm''.os,eW],by rw [hm''.tape,eW],by have:=hm''.output;rw [eW]at this;exact this,by have:=hm''.size;rw [eW]at this;exact this,λb hb=> ?_⟩,λb i hs=> .inl (hm''.sold b i (by rw [eS];exact hs)), ?_, ?_, ?_⟩
   ·have:=hm''.old b (by rw [eW];exact hb) (by rw [eB];exact λh=>h)
    rw [eW]at this;exact this
   ·rintro b i (hs|⟨id,e,z,cap,rows,ho,hb,_⟩)
    ·rcases Nat.lt_or_ge b w.heap.size with hlt|hge
     ·left
      have:=hm''.snew b i hs (by rw [eW];exact hlt) (by rw [eB];exact λh=>h)
      rw [eS]at this;exact this
     ·exact .inr hge
    ·rcases hm''.hb id _ b ho hb with hge|hB
     ·rw [eW]at hge;exact .inr hge
     ·rw [eB]at hB;exact hB.elim
   ·rintro b i (hs|⟨id,e,z,cap,rows,ho,hb,_⟩)
    ·exact hm''.slt b i hs
    ·exact hm''.blk_lt ho hb
   ·refine(qN (w:=w'') (ρ:=ρ'.withS (Sfz ρ' hp')) (l:=l') (by rw [k3];exact r2) k4).mono (λ_ _ _=>rfl) (λ_ _ h=>h) λid hid=> ?_
    rw [k1]at hid
    cases hid
  cases x<;>cases e<;>simp only [Ex.rel]at hrel<;>simp only [aEn]at hk
  ·exact fin hk
  ·exact hk.elim
  ·exact hk.elim
  ·exact fin hk
end
end Go.Proofs.YtfhoddcminbffaaGreatDoor
namespace Go.Proofs.YtfhoddcminbffaaGreatDoor
open Go.Proofs
set_option maxRecDepth 10000
attribute [local irreducible] aV aM Tri aI YVC dQ bN
theorem bM:fN []=[]:=rfl
theorem aZ (k:Nat) (s:SV) (r:Fr):fN ((k,s)::r)=s.ids++fN r:=rfl
theorem bL:iL []=[]:=rfl
theorem aY (k:Nat) (o:HObj) (r:Hp):iL ((k,o)::r)=(k::o.ids)++iL r:=rfl
theorem aU (v:Value):(ofV v).ids=[]:=by
 unfold ofV
 split<;>(try split)<;>rfl
theorem cF: ∀l:List D,SV.idsL (l.map SV.d)=[]
 | []=>rfl
 |_::r=>cF r
theorem wkMw {i z a b:Nat}(h:a=b):Wk (.mw i z a) (.mw i z b):=by subst h;exact rfl
theorem nmX {t:Nat}{r:Hp}(h:t∉iL r) {B:Prop}(b:B):t∉iL r/\B:=⟨h,b⟩
theorem frX {id:Nat}{pin:List Nat}{fr:Fr}{hp:Hp}(h:fB id pin fr hp) {B:Prop}(b:B):fB id pin fr hp/\B:=⟨h,b⟩
theorem aEr:PairT Tryz.prog 72 3 9:=aAs hty rfl (by kernel_rfl) rfl rfl
def wH (l:List Rn):List (Ky×SV):=l.map λr=>(gN r,SV.d (.str r.new))
theorem cC (l:List Rn):aK9 (wH l)=[]:=by
 induction l with
 |nil=>rfl
 |cons k r ih=>exact ih
def lV (l:List Rn) (g:List Nat×Nat):HObj:= .ext (vU jK (wH l) g.1 g.2)
def aGw (l:List Rn) (g:List Nat×Nat):HObj:= .rox (vU jK (wH l) g.1 g.2)
theorem aGx (l:List Rn) (g:List Nat×Nat):(lV l g).ids=[]:=cC l
theorem pJ (l:List Rn) (g:List Nat×Nat):(aGw l g).ids=[]:=cC l
theorem xK (k:Int) (s:List UInt8): ∀l:List Rn,aDk (wH l) (k,s)=(l.find? λr=>decide (r.kind=k) && decide (r.old=s)).map λr=>SV.d (.str r.new)
 | []=>rfl
 |x::r=>by
  have ih:=xK k s r
  unfold wH at *
  rw [List.map_cons,aDk]
  by_cases h:(k,s)=gN x
  ·rw [if_pos h,List.find?_cons_of_pos]
   ·rfl
   ·unfold gN at h
    rw [Prod.mk.injEq]at h
    simp [h.1,h.2]
  ·rw [if_neg h,ih,List.find?_cons_of_neg]
   intro h2
   simp only [Bool.and_eq_true,decide_eq_true_eq]at h2
   exact h (by unfold gN;rw [h2.1,h2.2])
theorem mO (x:Rn): ∀l:List Rn,(∀r∈l,gN r≠gN x)->aDj (wH l) (gN x) (SV.d (.str x.new))=wH (l++[x])
 | [],_=>rfl
 |y::r,h=>by
  have ih:=mO x r λz hz=>h z (by simp [hz])
  unfold wH at *
  rw [List.map_cons,aDj]
  have hx:¬ gN x=gN y:= λe=>h y (by simp) e.symm
  rw [if_neg hx,ih]
  rfl
theorem tX (l:List Rn) (k:Int) (s:List UInt8):(aDk (wH l) (k,s)=none/\aO l k s=s)\/ ∃t,aDk (wH l) (k,s)=some (.d (.str t))/\aO l k s=t:=by
 rw [xK]
 unfold aO
 cases l.find? λr=>decide (r.kind=k) && decide (r.old=s)with
 |none=>exact .inl ⟨rfl,rfl⟩
 |some r=>exact .inr ⟨r.new,rfl,rfl⟩
def aE8 (b m:Nat) (l:List Rn) (g:List Nat×Nat):Hp:=[(b, .ro 102 [.xv m mQ]),(m,aGw l g)]
def aLl:HObj->HObj->Prop
 | .ro t cs, .cells t' cs'=>t=t'/\cs=cs'
 | .rox X, .ext Y=>X=Y
 |a,b=>a=b
def aMj:Hp->Hp->Prop
 | [],[]=>True
 |(a,o)::r,(b,o')::s=>a=b/\aLl o o'/\aMj r s
 |_,_=>False
theorem aJe {w:World}{ρ:Env}{id:Nat}{o o':HObj}(h:aLl o o') (hr:RO w ρ id o'):RO w ρ id o:=by
 cases o<;>cases o'<;>simp only [aLl]at h<;>first|(obtain⟨rfl,rfl⟩:=h;exact hr)|(subst h;exact hr)|(injection h;done)|(cases h;exact hr)|(cases h)
theorem aAq {id:Nat}: ∀{hp hp':Hp}{o:HObj},aMj hp hp'->bB hp id=some o-> ∃o',bB hp' id=some o'/\aLl o o'
 | [],[],o,_,h=>by simp [bB]at h
 |(a,x)::r,(b,y)::s,o,hr,h=>by
  obtain⟨rfl,h1,h2⟩:=hr
  simp only [bB]at h |-
  by_cases e:a=id
  ·rw [if_pos e]at h |-
   injection h with h
   subst h
   exact⟨y,rfl,h1⟩
  ·rw [if_neg e]at h |-
   exact aAq h2 h
 | [],_::_,_,hr,_=>hr.elim
 |_::_,[],_,hr,_=>hr.elim
theorem Tri.rel {P:Program}{f:FuncId}{args:List SV}{hp:Hp}(hp':Hp) {post:SV->Prop}(h:Tri P f args hp post) (hr:aMj hp hp'):Tri P f args hp' post:=by
 unfold Tri at h |-
 intro w ρ vs h1 h2 h3
 refine h w ρ vs h1 h2 λid o ho=> ?_
 obtain⟨o',e1,e2⟩:=aAq hr ho
 exact aJe e2 (h3 id o' e1)
theorem fY (l:List Rn) (g:List Nat×Nat) (k:Int) (s:List UInt8):Tri Tryz.prog 81 [.d (.int .i64 k), .d (.str s), .ptr 23 0] (aE8 23 33 l g) (λr=>r= .d (.str (aO l k s))):=by
 have hl:=tX l k s
 have hX:(vU jK (wH l) g.1 g.2).ids=[]:=pJ l g
 unfold aE8 aGw
 refine gO 0 false [] hty Tryz.func81 rfl (kp [0,1,2,5,6,7,16]) [] _ _ _ (by simp [Tryz.f81]) (by simp) ?_
 ((conv=>whnf);repeat ((first|(intro hq;try simp only [lnS]at hq)|refine sI ?_|refine .intro _ (.intro rfl ?_));(conv=>whnf)))
 refine qZ (k:=(k,s)) (z:= .string ⟨#[]⟩) rfl rfl (eT aEr) rfl rfl rfl rfl ?_
 rcases hl with⟨h1,h2⟩|⟨t,h1,h2⟩
 ·rw [h1,h2]
  ((conv=>whnf);repeat' ((first|(intro hq;(try simp only [lnS]at hq);(try rewrite [List.length_map]))|refine sJ ?_|refine .intro _ (.intro rfl ?_)|refine exL (k:= ?_)|refine dwR ?_|((first|refine aD ?_ ?_|refine aF ?_ ?_)<;>intro hb<;>(first|exact ddX hb|try simp only [lnS]at hb))|(refine aC ?_ ?_<;>intro hb<;>try exact dsX hb))<;>(conv=>whnf)))
  all_goals rfl
 ·rw [h1,h2]
  ((conv=>whnf);repeat' ((first|(intro hq;(try simp only [lnS]at hq);(try rewrite [List.length_map]))|refine sJ ?_|refine .intro _ (.intro rfl ?_)|refine exL (k:= ?_)|refine dwR ?_|((first|refine aD ?_ ?_|refine aF ?_ ?_)<;>intro hb<;>(first|exact ddX hb|try simp only [lnS]at hb))|(refine aC ?_ ?_<;>intro hb<;>try exact dsX hb))<;>(conv=>whnf)))
  all_goals rfl
theorem aGs (l:List Rn) (g:List Nat×Nat) (k:Int) (s:List UInt8):Tri Tryz.prog 81 [.d (.int .i64 k), .d (.str s), .ptr 28 0] (aE8 28 38 l g) (λr=>r= .d (.str (aO l k s))):=by
 have hl:=tX l k s
 have hX:(vU jK (wH l) g.1 g.2).ids=[]:=pJ l g
 unfold aE8 aGw
 refine gO 0 false [] hty Tryz.func81 rfl (kp [0,1,2,5,6,7,16]) [] _ _ _ (by simp [Tryz.f81]) (by simp) ?_
 ((conv=>whnf);repeat ((first|(intro hq;try simp only [lnS]at hq)|refine sI ?_|refine .intro _ (.intro rfl ?_));(conv=>whnf)))
 refine qZ (k:=(k,s)) (z:= .string ⟨#[]⟩) rfl rfl (eT aEr) rfl rfl rfl rfl ?_
 rcases hl with⟨h1,h2⟩|⟨t,h1,h2⟩
 ·rw [h1,h2]
  ((conv=>whnf);repeat' ((first|(intro hq;(try simp only [lnS]at hq);(try rewrite [List.length_map]))|refine sJ ?_|refine .intro _ (.intro rfl ?_)|refine exL (k:= ?_)|refine dwR ?_|((first|refine aD ?_ ?_|refine aF ?_ ?_)<;>intro hb<;>(first|exact ddX hb|try simp only [lnS]at hb))|(refine aC ?_ ?_<;>intro hb<;>try exact dsX hb))<;>(conv=>whnf)))
  all_goals rfl
 ·rw [h1,h2]
  ((conv=>whnf);repeat' ((first|(intro hq;(try simp only [lnS]at hq);(try rewrite [List.length_map]))|refine sJ ?_|refine .intro _ (.intro rfl ?_)|refine exL (k:= ?_)|refine dwR ?_|((first|refine aD ?_ ?_|refine aF ?_ ?_)<;>intro hb<;>(first|exact ddX hb|try simp only [lnS]at hb))|(refine aC ?_ ?_<;>intro hb<;>try exact dsX hb))<;>(conv=>whnf)))
  all_goals rfl
def aLj (l:List Rn) (g:List Nat×Nat):Hp:=(3, .ro 60 [.fn 81 [] [.ptr 23 0]])::(5, .ro 107 [.fn 84 [] [.ptr 3 0, .ptr 5 0]])::aE8 23 33 l g
theorem xB (l:List Rn) (g:List Nat×Nat): ∀(c:Cn) (_:aQ c<=1000000),Tri Tryz.prog 84 [.d (.agg (cnR c)), .ptr 3 0, .ptr 5 0] (aLj l g) (λr=>r= .d (.agg (cnR (cI (aO l) c)))):=by
 refine Cn.ind ?_
 intro c ih hs
 have hsz:=kO c
 have hpl:=kS c.parts
 have hX:(vU jK (wH l) g.1 g.2).ids=[]:=pJ l g
 have e0:=zN (aO l) c
 rw [aJ c,aJ (cI (aO l) c),e0]
 have n1:=fY l g 1 c.name
 have n2:=fY l g 2 c.name
 have n3:=fY l g 3 c.name
 have n4:=fY l g 4 c.name
 unfold aLj aE8 aGw
 unfold aLj aE8 aGw at ih
 unfold aE8 aGw at n1 n2 n3 n4
 generalize vU jK (wH l) g.1 g.2=X at *
 have hkk:(c.kind=3/\vL (aO l) c.kind c.name=aO l 1 c.name)\/(c.kind=6/\vL (aO l) c.kind c.name=aO l 2 c.name)\/(c.kind=7/\vL (aO l) c.kind c.name=aO l 3 c.name)\/(c.kind=4/\vL (aO l) c.kind c.name=aO l 4 c.name)\/((c.kind≠3/\c.kind≠6/\c.kind≠7/\c.kind≠4)/\vL (aO l) c.kind c.name=c.name):=by
  unfold vL
  by_cases k3:c.kind=3
  ·rw [if_pos k3];exact .inl ⟨k3,rfl⟩
  by_cases k6:c.kind=6
  ·rw [if_neg k3,if_pos k6];exact .inr (.inl ⟨k6,rfl⟩)
  by_cases k7:c.kind=7
  ·rw [if_neg k3,if_neg k6,if_pos k7];exact .inr (.inr (.inl ⟨k7,rfl⟩))
  by_cases k4:c.kind=4
  ·rw [if_neg k3,if_neg k6,if_neg k7,if_pos k4];exact .inr (.inr (.inr (.inl ⟨k4,rfl⟩)))
  ·rw [if_neg k3,if_neg k6,if_neg k7,if_neg k4];exact .inr (.inr (.inr (.inr ⟨⟨k3,k6,k7,k4⟩,rfl⟩)))
 obtain⟨nm,hnm⟩: ∃nm,nm=vL (aO l) c.kind c.name:=⟨_,rfl⟩
 rw [<-hnm]at hkk e0 |-
 have he:(Cn.mk c.kind nm c.lo c.hi (c.parts.map (cI (aO l)))).parts=c.parts.map (cI (aO l)):=rfl
 rcases hkk with⟨hk,hn⟩|⟨hk,hn⟩|⟨hk,hn⟩|⟨hk,hn⟩|⟨⟨hk1,hk2,hk3,hk4⟩,hn⟩
 all_goals (
  rw [hn]
  refine gO 10 false [7] hty Tryz.func84 rfl (kp [0,1,2,3,4,5,7,9,10,17,24,31,39,40,41,42]) [] _ _ _ (by simp [Tryz.f84]) (by simp) ?_
  ((conv=>whnf);repeat' ((first|(intro hq;(try simp only [lnS]at hq);(try rewrite [List.length_map]))|refine sJ ?_|refine .intro _ (.intro rfl ?_)|refine exL (k:= ?_)|(refine frX (by refine⟨?_, ?_, ?_⟩<;>simp [bM,aZ,bL,aY,HObj.ids,SV.ids,SV.idsL,bR,roH,hX,aU]) ?_)|(refine nmX (by simp [bM,aZ,bL,aY,HObj.ids,SV.ids,SV.idsL,bR,roH,hX,aU]) ?_)|(refine aG [(23,_),(33, .rox X)] n1 ⟨rfl,rfl,trivial⟩ (λr hs=> ?_);subst hs)|(refine aG [(23,_),(33, .rox X)] n2 ⟨rfl,rfl,trivial⟩ (λr hs=> ?_);subst hs)|(refine aG [(23,_),(33, .rox X)] n3 ⟨rfl,rfl,trivial⟩ (λr hs=> ?_);subst hs)|(refine aG [(23,_),(33, .rox X)] n4 ⟨rfl,rfl,trivial⟩ (λr hs=> ?_);subst hs)|refine dwR ?_|((first|refine aD ?_ ?_|refine aF ?_ ?_)<;>intro hb<;>(first|exact ddX hb|try simp only [lnS]at hb))|(refine aC ?_ ?_<;>intro hb<;>try exact dsX hb))<;>(conv=>whnf)))
  rw [<-hn]
  refine aV.mown 5 120 46 5 rfl (by refine⟨?_, ?_, ?_⟩<;>simp [bM,aZ,bL,aY,HObj.ids,SV.ids,SV.idsL,bR,roH,hX,aU]) ?_
  refine aK hty (λy:Nat×Nat=>([(1, .ptr 3 0),(2, .ptr 5 0),(3, .ptr 13 0),(4, .ptr 14 0),(5, .mw 120 5 y.1),(39, .d (.sl 5 (c.parts.map cnR))),(40, .d (.int .i64 c.parts.length)),(41, .d (.int .i64 y.1))],[(120, .mrow 46 5 y.2 ((c.parts.take y.1).map λp=>cnR (cI (aO l) p))),(13, .cells 46 [.d (.int .i64 c.kind), .d (.str (nm)), .d (.int .i64 c.lo), .d (.int .i64 c.hi), .d (.sl 5 (c.parts.map cnR))]),(14, .cells 46 [.d (.int .i64 0), .d (.str []), .d (.int .i64 0), .d (.int .i64 0), .d .nil]),(3, .ro 60 [.fn 81 [] [.ptr 23 0]]),(5, .ro 107 [.fn 84 [] [.ptr 3 0, .ptr 5 0]]),(23, .ro 102 [.xv 33 mQ]),(33, .rox X)])) (λy=>y.1<=c.parts.length) (λy=>c.parts.length - y.1) (0,0) (by dsimp only;omega) ⟨by repeat' (first|exact trivial|exact rfl|(rw [List.length_map];exact rfl)|refine And.intro ?_ ?_),by repeat' (first|exact trivial|exact rfl|refine And.intro ?_ ?_)⟩ ?_
  rintro⟨j,cap⟩ hj
  dsimp only at hj
  ((conv=>whnf);repeat ((first|(refine frX (by refine⟨?_, ?_, ?_⟩<;>simp [bM,aZ,bL,aY,HObj.ids,SV.ids,SV.idsL,bR,roH,hX,aU]) ?_)|(refine nmX (by simp [bM,aZ,bL,aY,HObj.ids,SV.ids,SV.idsL,bR,roH,hX,aU]) ?_)|(intro hq;try simp only [lnS]at hq)|refine sI ?_|refine .intro _ (.intro rfl ?_));(conv=>whnf)))
  refine aD (λh1=> ?_) (λh1=> ?_)
  ·have hjl:j < c.parts.length:=by dsimp only at h1;omega
   have hrow':(c.parts.map cnR)[(j:Int).toNat]? =some (cnR c.parts[j]):=aS hjl
   have hp:=cT (List.getElem_mem (l:=c.parts) hjl)
   have hi:=ih c.parts[j] (List.getElem_mem hjl) (by omega)
   have hcR:=aJ (cI (aO l) c.parts[j])
   rw [aJ]at hrow' hi
   rw [hcR]at hi
   ((conv=>whnf);repeat' ((first|(intro hq;(try simp only [lnS]at hq);(try rewrite [List.length_map]))|refine sJ ?_|refine .intro _ (.intro rfl ?_)|refine exL (k:= ?_)|(refine frX (by refine⟨?_, ?_, ?_⟩<;>simp [bM,aZ,bL,aY,HObj.ids,SV.ids,SV.idsL,bR,roH,hX,aU]) ?_)|(refine nmX (by simp [bM,aZ,bL,aY,HObj.ids,SV.ids,SV.idsL,bR,roH,hX,aU]) ?_)|(refine⟨_,hrow', ?_⟩)|(refine aG [(3,_),(5,_),(23,_),(33, .rox X)] hi ⟨rfl,rfl,rfl,rfl,trivial⟩ (λr hs=> ?_);subst hs)|refine dwR ?_|((first|refine aD ?_ ?_|refine aF ?_ ?_)<;>intro hb<;>(first|exact ddX hb|try simp only [lnS]at hb))|(refine aC ?_ ?_<;>intro hb<;>try exact dsX hb))<;>(conv=>whnf)))
   have hlt:((c.parts.take j).map λp=>cnR (cI (aO l) p)).length=j:=by rw [List.length_map,List.length_take];omega
   have hrows:((c.parts.take (j+1)).map λp=>cnR (cI (aO l) p))=((c.parts.take j).map λp=>cnR (cI (aO l) p))++[cnR (cI (aO l) c.parts[j])]:=by
    rw [List.take_succ_eq_append_getElem hjl,List.map_append,List.map_cons,List.map_nil]
   rw [hcR]at hrows
   have hlj:(c.parts.take j).length=j:=by rw [List.length_take];omega
   rename_i cap'
   refine⟨(j+1,cap'),by dsimp only;omega,by dsimp only;omega,(by repeat' (first|exact trivial|exact rfl|exact wkMw (by(try dsimp only);simp only [List.length_set,List.length_map,List.length_take,List.length_replicate,List.length_cons,List.length_nil];omega)|refine And.intro ?_ ?_)), ?_⟩
   dsimp only
   rw [hrows]
   repeat' (first|exact trivial|exact rfl|refine And.intro ?_ ?_)
  ·have hjl:j=c.parts.length:=by dsimp only at h1;omega
   subst hjl
   rw [List.take_length]
   ((conv=>whnf);repeat' ((first|(intro hq;(try simp only [lnS]at hq);(try rewrite [List.length_map]))|refine sJ ?_|refine .intro _ (.intro rfl ?_)|refine exL (k:= ?_)|(refine frX (by refine⟨?_, ?_, ?_⟩<;>simp [bM,aZ,bL,aY,HObj.ids,SV.ids,SV.idsL,bR,roH,hX,aU]) ?_)|(refine nmX (by simp [bM,aZ,bL,aY,HObj.ids,SV.ids,SV.idsL,bR,roH,hX,aU]) ?_)|(refine frX (by refine⟨?_, ?_, ?_⟩<;>simp [bM,aZ,bL,aY,HObj.ids,SV.ids,SV.idsL,bR,roH,hX,aU]) ?_)|(refine nmX (by simp [bM,aZ,bL,aY,HObj.ids,SV.ids,SV.idsL,bR,roH,hX,aU]) ?_)|refine dwR ?_|((first|refine aD ?_ ?_|refine aF ?_ ?_)<;>intro hb<;>(first|exact ddX hb|try simp only [lnS]at hb))|(refine aC ?_ ?_<;>intro hb<;>try exact dsX hb))<;>(conv=>whnf)))
   refine⟨(List.length_map ..).symm, ?_⟩
   ((conv=>whnf);repeat ((first|(refine frX (by refine⟨?_, ?_, ?_⟩<;>simp [bM,aZ,bL,aY,HObj.ids,SV.ids,SV.idsL,bR,roH,hX,aU]) ?_)|(refine nmX (by simp [bM,aZ,bL,aY,HObj.ids,SV.ids,SV.idsL,bR,roH,hX,aU]) ?_)|(intro hq;try simp only [lnS]at hq)|refine sI ?_|refine .intro _ (.intro rfl ?_));(conv=>whnf)))
   exact congrArg (λz=>SV.d (.agg [.int .i64 c.kind, .str nm, .int .i64 c.lo, .int .i64 c.hi, .sl 5 z])) (List.map_map (f:=cI (aO l)) (g:=cnR) (l:=c.parts)).symm)
end Go.Proofs.YtfhoddcminbffaaGreatDoor
namespace Go.Proofs.YtfhoddcminbffaaGreatDoor
open Go.Proofs
theorem sC {C:Cfg}{all:List Oper}{i:Nat}{fr fr2:Fr}{hp hp2:Hp}{k:Fr->Hp->Prop}{K:Fr->Hp->Prop}{T:OT}(h1:aDh C all i fr hp k) (h2:gV C all K T fr2 hp2):aDh C all i fr hp k/\gV C all K T fr2 hp2:=⟨h1,h2⟩
theorem eqN {α:Type}{a b:α}(h:a=b) {B:Prop}(hb:B):a=b/\B:=⟨h,hb⟩
theorem leN {a b:Nat}(h:Nat.ble a b=true) {B:Prop}(hb:B):a<=b/\B:=⟨Nat.le_of_ble_eq_true h,hb⟩
theorem ltN {a b:Nat}(h:Nat.ble (a+1) b=true) {B:Prop}(hb:B):a < b/\B:=⟨Nat.le_of_ble_eq_true h,hb⟩
mutual
theorem qA: ∀a:D,WkD a a
 | .nil=>by simp [WkD]
 | .sl z rows=>by rw [WkD];exact⟨rfl,yP rows⟩
 | .agg cs=>by rw [WkD];exact sD cs
 | .int k n=>by simp [WkD]
 | .bool b=>by simp [WkD]
 | .str l=>by simp [WkD]
 | .lit v=>by simp [WkD]
theorem sD: ∀l:List D,aGd l l
 | []=>by simp [aGd]
 |a::l=>by rw [aGd];exact⟨qA a,sD l⟩
theorem yP: ∀l:List (List D),aGh l l
 | []=>by simp [aGh]
 |a::l=>by rw [aGh];exact⟨sD a,yP l⟩
end
end Go.Proofs.YtfhoddcminbffaaGreatDoor
namespace Go.Proofs.YtfhoddcminbffaaGreatDoor
open Go.Proofs
set_option maxRecDepth 10000
attribute [local irreducible] aV aM Tri aI YVC dQ bN
def dY:List SV:=[.d (.int .i64 0), .d (.bool false), .d (.int .i64 0), .d (.str []), .d (.int .i64 0), .d (.int .i64 0), .d .nil, .d (.int .i64 0), .d (.str []), .d (.int .i64 0), .d (.int .i64 0), .d .nil, .d .nil, .d (.str []), .d (.str []), .d (.str [])]
theorem wY (l:List Rn) (g:List Nat×Nat) (x:Ax) (h1:aQ x.left<=1000000) (h2:aQ x.right<=1000000) (h3:x.roles.length<=1000000):Tri Tryz.prog 43 [.d (.agg (axR x)), .fn 81 [] [.ptr 23 0]] (aE8 23 33 l g) (λr=>r= .d (.agg (axR (gE (aO l) x)))):=by
 have c1:=xB l g x.left h1
 have c2:=xB l g x.right h2
 have n1:=fY l g 2 x.role
 have n2:=fY l g 4 x.a
 have n3:=fY l g 4 x.b
 have nr:= λs=>fY l g 2 s
 have hX:(vU jK (wH l) g.1 g.2).ids=[]:=pJ l g
 unfold aLj aE8 aGw at c1 c2
 unfold aE8 aGw at n1 n2 n3 nr |-
 generalize vU jK (wH l) g.1 g.2=X at *
 have e1:=aJ (cI (aO l) x.left)
 have e2:=aJ (cI (aO l) x.right)
 rw [aJ x.left,e1]at c1
 rw [aJ x.right,e2]at c2
 have c1:=c1.rel [(3, .cells 60 [.fn 81 [] [.ptr 23 0]]),(5, .cells 107 [.fn 84 [] [.ptr 3 0, .ptr 5 0]]),(23, .ro 102 [.xv 33 mQ]),(33, .rox X)] ⟨rfl,⟨rfl,rfl⟩,rfl,⟨rfl,rfl⟩,rfl,rfl,rfl,rfl,trivial⟩
 have c2:=c2.rel [(3, .cells 60 [.fn 81 [] [.ptr 23 0]]),(5, .cells 107 [.fn 84 [] [.ptr 3 0, .ptr 5 0]]),(23, .ro 102 [.xv 33 mQ]),(33, .rox X)] ⟨rfl,⟨rfl,rfl⟩,rfl,⟨rfl,rfl⟩,rfl,rfl,rfl,rfl,trivial⟩
 have hR:axR (gE (aO l) x)=[.int .i64 x.kind, .bool x.isopen, .int .i64 (cI (aO l) x.left).kind, .str (cI (aO l) x.left).name, .int .i64 (cI (aO l) x.left).lo, .int .i64 (cI (aO l) x.left).hi, .sl 5 ((cI (aO l) x.left).parts.map cnR), .int .i64 (cI (aO l) x.right).kind, .str (cI (aO l) x.right).name, .int .i64 (cI (aO l) x.right).lo, .int .i64 (cI (aO l) x.right).hi, .sl 5 ((cI (aO l) x.right).parts.map cnR), .sl 1 ((x.roles.map (aO l 2)).map dR), .str (aO l 2 x.role), .str (aO l 4 x.a), .str (aO l 4 x.b)]:=rfl
 rw [hR]
 generalize cI (aO l) x.left=L at *
 generalize cI (aO l) x.right=R at *
 generalize aO l 2 x.role=ro at *
 generalize aO l 4 x.a=ra at *
 generalize aO l 4 x.b=rb at *
 refine aH false [] hty Tryz.func43 rfl (kp [0,1,2,3,4,5,6,8,21,22,23,24]) [] _ _ _ (by simp [Tryz.f43]) (by simp) ?_
 ((conv=>whnf);repeat ((first|(refine frX (by refine⟨?_, ?_, ?_⟩<;>simp [bM,aZ,bL,aY,HObj.ids,SV.ids,SV.idsL,bR,roH,hX,aU,cF,dY]) ?_)|(refine nmX (by simp [bM,aZ,bL,aY,HObj.ids,SV.ids,SV.idsL,bR,roH,hX,aU,cF,dY]) ?_)|(intro hq;try simp only [lnS]at hq)|refine sI ?_|refine .intro _ (.intro rfl ?_));(conv=>whnf)))
 refine aV.mid [(2, .ptr 2 0),(3, .ptr 3 0),(4, .ptr 4 0)] [(2, .cells 48 [.d (.int .i64 x.kind), .d (.bool x.isopen), .d (.int .i64 L.kind), .d (.str L.name), .d (.int .i64 L.lo), .d (.int .i64 L.hi), .d (.sl 5 (L.parts.map cnR)), .d (.int .i64 R.kind), .d (.str R.name), .d (.int .i64 R.lo), .d (.int .i64 R.hi), .d (.sl 5 (R.parts.map cnR)), .d (.sl 1 (x.roles.map dR)), .d (.str x.role), .d (.str x.a), .d (.str x.b)]),(3, .cells 60 [.fn 81 [] [.ptr 23 0]]),(4, .cells 48 dY),(23, .ro 102 [.xv 33 mQ]),(33, .rox X)] ?_ ?_
 ·(refine fD (id:=3) hty (.first 1 (.first 5 (.alt 0 (.alt 2 (.alt 3 (.alt 4 (.alt 6 (.first 8 (.alt 7 (.alt 9 (.first 10 (.alt 11 .done .stop)) .stop) .stop)) .stop) (.alt 6 (.first 8 (.alt 4 (.alt 7 (.alt 9 (.first 10 (.alt 11 .done .stop)) .stop) .stop) .stop)) .stop)) (.alt 4 (.alt 3 (.alt 6 (.first 8 (.alt 7 (.alt 9 (.first 10 (.alt 11 .done .stop)) .stop) .stop)) .stop) (.alt 6 (.alt 3 (.first 8 (.alt 7 (.alt 9 (.first 10 (.alt 11 .done .stop)) .stop) .stop)) .stop) .stop)) (.alt 6 (.alt 3 (.first 8 (.alt 4 (.alt 7 (.alt 9 (.first 10 (.alt 11 .done .stop)) .stop) .stop) .stop)) (.alt 4 (.alt 3 (.first 8 (.alt 7 (.alt 9 (.first 10 (.alt 11 .done .stop)) .stop) .stop)) .stop) .stop)) .stop))) (.alt 4 (.alt 2 (.alt 3 (.alt 6 (.first 8 (.alt 7 (.alt 9 (.first 10 (.alt 11 .done .stop)) .stop) .stop)) .stop) (.alt 6 (.alt 3 (.first 8 (.alt 7 (.alt 9 (.first 10 (.alt 11 .done .stop)) .stop) .stop)) .stop) .stop)) (.alt 6 (.alt 2 (.alt 3 (.first 8 (.alt 7 (.alt 9 (.first 10 (.alt 11 .done .stop)) .stop) .stop)) .stop) .stop) .stop)) (.alt 6 (.alt 2 (.alt 3 (.first 8 (.alt 4 (.alt 7 (.alt 9 (.first 10 (.alt 11 .done .stop)) .stop) .stop) .stop)) (.alt 4 (.alt 3 (.first 8 (.alt 7 (.alt 9 (.first 10 (.alt 11 .done .stop)) .stop) .stop)) .stop) .stop)) (.alt 4 (.alt 2 (.alt 3 (.first 8 (.alt 7 (.alt 9 (.first 10 (.alt 11 .done .stop)) .stop) .stop)) .stop) .stop) .stop)) .stop))) (.alt 2 (.alt 0 (.alt 3 (.alt 4 (.alt 6 (.first 8 (.alt 7 (.alt 9 (.first 10 (.alt 11 .done .stop)) .stop) .stop)) .stop) (.alt 6 (.first 8 (.alt 4 (.alt 7 (.alt 9 (.first 10 (.alt 11 .done .stop)) .stop) .stop) .stop)) .stop)) (.alt 4 (.alt 3 (.alt 6 (.first 8 (.alt 7 (.alt 9 (.first 10 (.alt 11 .done .stop)) .stop) .stop)) .stop) (.alt 6 (.alt 3 (.first 8 (.alt 7 (.alt 9 (.first 10 (.alt 11 .done .stop)) .stop) .stop)) .stop) .stop)) (.alt 6 (.alt 3 (.first 8 (.alt 4 (.alt 7 (.alt 9 (.first 10 (.alt 11 .done .stop)) .stop) .stop) .stop)) (.alt 4 (.alt 3 (.first 8 (.alt 7 (.alt 9 (.first 10 (.alt 11 .done .stop)) .stop) .stop)) .stop) .stop)) .stop))) (.alt 4 (.alt 0 (.alt 3 (.alt 6 (.first 8 (.alt 7 (.alt 9 (.first 10 (.alt 11 .done .stop)) .stop) .stop)) .stop) (.alt 6 (.alt 3 (.first 8 (.alt 7 (.alt 9 (.first 10 (.alt 11 .done .stop)) .stop) .stop)) .stop) .stop)) (.alt 6 (.alt 0 (.alt 3 (.first 8 (.alt 7 (.alt 9 (.first 10 (.alt 11 .done .stop)) .stop) .stop)) .stop) .stop) .stop)) (.alt 6 (.alt 0 (.alt 3 (.first 8 (.alt 4 (.alt 7 (.alt 9 (.first 10 (.alt 11 .done .stop)) .stop) .stop) .stop)) (.alt 4 (.alt 3 (.first 8 (.alt 7 (.alt 9 (.first 10 (.alt 11 .done .stop)) .stop) .stop)) .stop) .stop)) (.alt 4 (.alt 0 (.alt 3 (.first 8 (.alt 7 (.alt 9 (.first 10 (.alt 11 .done .stop)) .stop) .stop)) .stop) .stop) .stop)) .stop))) (.alt 4 (.alt 0 (.alt 2 (.alt 3 (.alt 6 (.first 8 (.alt 7 (.alt 9 (.first 10 (.alt 11 .done .stop)) .stop) .stop)) .stop) (.alt 6 (.alt 3 (.first 8 (.alt 7 (.alt 9 (.first 10 (.alt 11 .done .stop)) .stop) .stop)) .stop) .stop)) (.alt 6 (.alt 2 (.alt 3 (.first 8 (.alt 7 (.alt 9 (.first 10 (.alt 11 .done .stop)) .stop) .stop)) .stop) .stop) .stop)) (.alt 2 (.alt 0 (.alt 3 (.alt 6 (.first 8 (.alt 7 (.alt 9 (.first 10 (.alt 11 .done .stop)) .stop) .stop)) .stop) (.alt 6 (.alt 3 (.first 8 (.alt 7 (.alt 9 (.first 10 (.alt 11 .done .stop)) .stop) .stop)) .stop) .stop)) (.alt 6 (.alt 0 (.alt 3 (.first 8 (.alt 7 (.alt 9 (.first 10 (.alt 11 .done .stop)) .stop) .stop)) .stop) .stop) .stop)) (.alt 6 (.alt 0 (.alt 2 (.alt 3 (.first 8 (.alt 7 (.alt 9 (.first 10 (.alt 11 .done .stop)) .stop) .stop)) .stop) .stop) (.alt 2 (.alt 0 (.alt 3 (.first 8 (.alt 7 (.alt 9 (.first 10 (.alt 11 .done .stop)) .stop) .stop)) .stop) .stop) .stop)) .stop))) (.alt 6 (.alt 0 (.alt 2 (.alt 3 (.first 8 (.alt 4 (.alt 7 (.alt 9 (.first 10 (.alt 11 .done .stop)) .stop) .stop) .stop)) (.alt 4 (.alt 3 (.first 8 (.alt 7 (.alt 9 (.first 10 (.alt 11 .done .stop)) .stop) .stop)) .stop) .stop)) (.alt 4 (.alt 2 (.alt 3 (.first 8 (.alt 7 (.alt 9 (.first 10 (.alt 11 .done .stop)) .stop) .stop)) .stop) .stop) .stop)) (.alt 2 (.alt 0 (.alt 3 (.first 8 (.alt 4 (.alt 7 (.alt 9 (.first 10 (.alt 11 .done .stop)) .stop) .stop) .stop)) (.alt 4 (.alt 3 (.first 8 (.alt 7 (.alt 9 (.first 10 (.alt 11 .done .stop)) .stop) .stop)) .stop) .stop)) (.alt 4 (.alt 0 (.alt 3 (.first 8 (.alt 7 (.alt 9 (.first 10 (.alt 11 .done .stop)) .stop) .stop)) .stop) .stop) .stop)) (.alt 4 (.alt 0 (.alt 2 (.alt 3 (.first 8 (.alt 7 (.alt 9 (.first 10 (.alt 11 .done .stop)) .stop) .stop)) .stop) .stop) (.alt 2 (.alt 0 (.alt 3 (.first 8 (.alt 7 (.alt 9 (.first 10 (.alt 11 .done .stop)) .stop) .stop)) .stop) .stop) .stop)) .stop))) .stop)))))) (by kernel_rfl) (by kernel_rfl) ?_)
  ((conv=>whnf);repeat' ((first|exact trivial|refine sC ?_ ?_|refine eqN rfl ?_|refine leN rfl ?_|refine ltN rfl ?_|(refine aG [(3,_),(5,_),(23,_),(33, .rox X)] c1 (by exact⟨rfl,rfl,rfl,rfl,trivial⟩) (λr hs=> ?_);subst hs)|(refine aG [(3,_),(5,_),(23,_),(33, .rox X)] c2 (by exact⟨rfl,rfl,rfl,rfl,trivial⟩) (λr hs=> ?_);subst hs)|refine sJ ?_|(refine Exists.intro _ (And.intro rfl ?_)))<;>(conv=>whnf)))
  all_goals exact⟨by repeat' (first|exact trivial|exact rfl|refine And.intro ?_ ?_),by repeat' (first|exact trivial|exact rfl|refine And.intro ?_ ?_)⟩
 ((conv=>whnf);repeat ((first|(refine frX (by refine⟨?_, ?_, ?_⟩<;>simp [bM,aZ,bL,aY,HObj.ids,SV.ids,SV.idsL,bR,roH,hX,aU,cF,dY]) ?_)|(refine nmX (by simp [bM,aZ,bL,aY,HObj.ids,SV.ids,SV.idsL,bR,roH,hX,aU,cF,dY]) ?_)|(intro hq;try simp only [lnS]at hq)|refine sI ?_|refine .intro _ (.intro rfl ?_));(conv=>whnf)))
 refine aV.mown 6 120 9 1 rfl (by refine⟨?_, ?_, ?_⟩<;>simp [bM,aZ,bL,aY,HObj.ids,SV.ids,SV.idsL,bR,roH,hX,aU,cF,dY]) ?_
 refine aK hty (λy:Nat×Nat=>([(2, .ptr 2 0),(3, .ptr 3 0),(4, .ptr 4 0),(6, .mw 120 1 y.1),(21, .d (.sl 1 (x.roles.map dR))),(22, .d (.int .i64 x.roles.length)),(23, .d (.int .i64 y.1))],[(120, .mrow 9 1 y.2 ((x.roles.take y.1).map λs=>dR (aO l 2 s))),(2, .cells 48 [.d (.int .i64 x.kind), .d (.bool x.isopen), .d (.int .i64 L.kind), .d (.str L.name), .d (.int .i64 L.lo), .d (.int .i64 L.hi), .d (.sl 5 (L.parts.map cnR)), .d (.int .i64 R.kind), .d (.str R.name), .d (.int .i64 R.lo), .d (.int .i64 R.hi), .d (.sl 5 (R.parts.map cnR)), .d (.sl 1 (x.roles.map dR)), .d (.str x.role), .d (.str x.a), .d (.str x.b)]),(3, .cells 60 [.fn 81 [] [.ptr 23 0]]),(4, .cells 48 dY),(23, .ro 102 [.xv 33 mQ]),(33, .rox X)])) (λy=>y.1<=x.roles.length) (λy=>x.roles.length - y.1) (0,0) (by dsimp only;omega) ⟨by repeat' (first|exact trivial|exact rfl|(rw [List.length_map];exact rfl)|refine And.intro ?_ ?_),by repeat' (first|exact trivial|exact rfl|refine And.intro ?_ ?_)⟩ ?_
 rintro⟨j,cap⟩ hj
 dsimp only at hj
 ((conv=>whnf);repeat ((first|(refine frX (by refine⟨?_, ?_, ?_⟩<;>simp [bM,aZ,bL,aY,HObj.ids,SV.ids,SV.idsL,bR,roH,hX,aU,cF,dY]) ?_)|(refine nmX (by simp [bM,aZ,bL,aY,HObj.ids,SV.ids,SV.idsL,bR,roH,hX,aU,cF,dY]) ?_)|(intro hq;try simp only [lnS]at hq)|refine sI ?_|refine .intro _ (.intro rfl ?_));(conv=>whnf)))
 refine aD (λh4=> ?_) (λh4=> ?_)
 ·have hjl:j < x.roles.length:=by dsimp only at h4;omega
  have hrow':(x.roles.map dR)[(j:Int).toNat]? =some (dR x.roles[j]):=aS hjl
  have hi:=nr x.roles[j]
  ((conv=>whnf);repeat' ((first|(intro hq;(try simp only [lnS]at hq);(try rewrite [List.length_map]))|refine sJ ?_|refine .intro _ (.intro rfl ?_)|refine exL (k:= ?_)|(refine frX (by refine⟨?_, ?_, ?_⟩<;>simp [bM,aZ,bL,aY,HObj.ids,SV.ids,SV.idsL,bR,roH,hX,aU,cF,dY]) ?_)|(refine nmX (by simp [bM,aZ,bL,aY,HObj.ids,SV.ids,SV.idsL,bR,roH,hX,aU,cF,dY]) ?_)|(refine⟨_,hrow', ?_⟩)|(refine aG [(23,_),(33, .rox X)] hi (by exact⟨rfl,rfl,trivial⟩) (λr hs=> ?_);subst hs)|refine dwR ?_|((first|refine aD ?_ ?_|refine aF ?_ ?_)<;>intro hb<;>(first|exact ddX hb|try simp only [lnS]at hb))|(refine aC ?_ ?_<;>intro hb<;>try exact dsX hb))<;>(conv=>whnf)))
  have hlt:((x.roles.take j).map λs=>dR (aO l 2 s)).length=j:=by rw [List.length_map,List.length_take];omega
  have hrows:((x.roles.take (j+1)).map λs=>dR (aO l 2 s))=((x.roles.take j).map λs=>dR (aO l 2 s))++[dR (aO l 2 x.roles[j])]:=by
   rw [List.take_succ_eq_append_getElem hjl,List.map_append,List.map_cons,List.map_nil]
  have hlj:(x.roles.take j).length=j:=by rw [List.length_take];omega
  rename_i cap'
  refine⟨(j+1,cap'),by dsimp only;omega,by dsimp only;omega,(by repeat' (first|exact trivial|exact rfl|exact wkMw (by(try dsimp only);simp only [List.length_set,List.length_map,List.length_take,List.length_replicate,List.length_cons,List.length_nil];omega)|refine And.intro ?_ ?_)), ?_⟩
  dsimp only
  rw [hrows]
  repeat' (first|exact trivial|exact rfl|refine And.intro ?_ ?_)
 ·have hjl:j=x.roles.length:=by dsimp only at h4;omega
  subst hjl
  rw [List.take_length]
  ((conv=>whnf);repeat ((first|(refine frX (by refine⟨?_, ?_, ?_⟩<;>simp [bM,aZ,bL,aY,HObj.ids,SV.ids,SV.idsL,bR,roH,hX,aU,cF,dY]) ?_)|(refine nmX (by simp [bM,aZ,bL,aY,HObj.ids,SV.ids,SV.idsL,bR,roH,hX,aU,cF,dY]) ?_)|(refine aG [(23,_),(33, .rox X)] n1 (by exact⟨rfl,rfl,trivial⟩) (λr hs=> ?_);subst hs)|(intro hq;try simp only [lnS]at hq)|refine sI ?_|refine .intro _ (.intro rfl ?_));(conv=>whnf)))
  refine aV.mid [(2, .ptr 2 0),(4, .ptr 4 0)] [(120, .mrow 9 1 cap (x.roles.map λs=>dR (aO l 2 s))),(2, .cells 48 [.d (.int .i64 x.kind), .d (.bool x.isopen), .d (.int .i64 L.kind), .d (.str L.name), .d (.int .i64 L.lo), .d (.int .i64 L.hi), .d (.sl 5 (L.parts.map cnR)), .d (.int .i64 R.kind), .d (.str R.name), .d (.int .i64 R.lo), .d (.int .i64 R.hi), .d (.sl 5 (R.parts.map cnR)), .mw 120 1 x.roles.length, .d (.str ro), .d (.str ra), .d (.str rb)]),(4, .cells 48 dY)] ?_ ?_
  ·(refine fD (id:=12) hty (.first 1 (.first 5 (.alt 0 (.alt 2 (.alt 3 (.alt 4 (.alt 6 (.first 8 (.alt 7 (.alt 9 (.first 10 (.alt 11 .done .stop)) .stop) .stop)) .stop) (.alt 6 (.first 8 (.alt 4 (.alt 7 (.alt 9 (.first 10 (.alt 11 .done .stop)) .stop) .stop) .stop)) .stop)) (.alt 4 (.alt 3 (.alt 6 (.first 8 (.alt 7 (.alt 9 (.first 10 (.alt 11 .done .stop)) .stop) .stop)) .stop) (.alt 6 (.alt 3 (.first 8 (.alt 7 (.alt 9 (.first 10 (.alt 11 .done .stop)) .stop) .stop)) .stop) .stop)) (.alt 6 (.alt 3 (.first 8 (.alt 4 (.alt 7 (.alt 9 (.first 10 (.alt 11 .done .stop)) .stop) .stop) .stop)) (.alt 4 (.alt 3 (.first 8 (.alt 7 (.alt 9 (.first 10 (.alt 11 .done .stop)) .stop) .stop)) .stop) .stop)) .stop))) (.alt 4 (.alt 2 (.alt 3 (.alt 6 (.first 8 (.alt 7 (.alt 9 (.first 10 (.alt 11 .done .stop)) .stop) .stop)) .stop) (.alt 6 (.alt 3 (.first 8 (.alt 7 (.alt 9 (.first 10 (.alt 11 .done .stop)) .stop) .stop)) .stop) .stop)) (.alt 6 (.alt 2 (.alt 3 (.first 8 (.alt 7 (.alt 9 (.first 10 (.alt 11 .done .stop)) .stop) .stop)) .stop) .stop) .stop)) (.alt 6 (.alt 2 (.alt 3 (.first 8 (.alt 4 (.alt 7 (.alt 9 (.first 10 (.alt 11 .done .stop)) .stop) .stop) .stop)) (.alt 4 (.alt 3 (.first 8 (.alt 7 (.alt 9 (.first 10 (.alt 11 .done .stop)) .stop) .stop)) .stop) .stop)) (.alt 4 (.alt 2 (.alt 3 (.first 8 (.alt 7 (.alt 9 (.first 10 (.alt 11 .done .stop)) .stop) .stop)) .stop) .stop) .stop)) .stop))) (.alt 2 (.alt 0 (.alt 3 (.alt 4 (.alt 6 (.first 8 (.alt 7 (.alt 9 (.first 10 (.alt 11 .done .stop)) .stop) .stop)) .stop) (.alt 6 (.first 8 (.alt 4 (.alt 7 (.alt 9 (.first 10 (.alt 11 .done .stop)) .stop) .stop) .stop)) .stop)) (.alt 4 (.alt 3 (.alt 6 (.first 8 (.alt 7 (.alt 9 (.first 10 (.alt 11 .done .stop)) .stop) .stop)) .stop) (.alt 6 (.alt 3 (.first 8 (.alt 7 (.alt 9 (.first 10 (.alt 11 .done .stop)) .stop) .stop)) .stop) .stop)) (.alt 6 (.alt 3 (.first 8 (.alt 4 (.alt 7 (.alt 9 (.first 10 (.alt 11 .done .stop)) .stop) .stop) .stop)) (.alt 4 (.alt 3 (.first 8 (.alt 7 (.alt 9 (.first 10 (.alt 11 .done .stop)) .stop) .stop)) .stop) .stop)) .stop))) (.alt 4 (.alt 0 (.alt 3 (.alt 6 (.first 8 (.alt 7 (.alt 9 (.first 10 (.alt 11 .done .stop)) .stop) .stop)) .stop) (.alt 6 (.alt 3 (.first 8 (.alt 7 (.alt 9 (.first 10 (.alt 11 .done .stop)) .stop) .stop)) .stop) .stop)) (.alt 6 (.alt 0 (.alt 3 (.first 8 (.alt 7 (.alt 9 (.first 10 (.alt 11 .done .stop)) .stop) .stop)) .stop) .stop) .stop)) (.alt 6 (.alt 0 (.alt 3 (.first 8 (.alt 4 (.alt 7 (.alt 9 (.first 10 (.alt 11 .done .stop)) .stop) .stop) .stop)) (.alt 4 (.alt 3 (.first 8 (.alt 7 (.alt 9 (.first 10 (.alt 11 .done .stop)) .stop) .stop)) .stop) .stop)) (.alt 4 (.alt 0 (.alt 3 (.first 8 (.alt 7 (.alt 9 (.first 10 (.alt 11 .done .stop)) .stop) .stop)) .stop) .stop) .stop)) .stop))) (.alt 4 (.alt 0 (.alt 2 (.alt 3 (.alt 6 (.first 8 (.alt 7 (.alt 9 (.first 10 (.alt 11 .done .stop)) .stop) .stop)) .stop) (.alt 6 (.alt 3 (.first 8 (.alt 7 (.alt 9 (.first 10 (.alt 11 .done .stop)) .stop) .stop)) .stop) .stop)) (.alt 6 (.alt 2 (.alt 3 (.first 8 (.alt 7 (.alt 9 (.first 10 (.alt 11 .done .stop)) .stop) .stop)) .stop) .stop) .stop)) (.alt 2 (.alt 0 (.alt 3 (.alt 6 (.first 8 (.alt 7 (.alt 9 (.first 10 (.alt 11 .done .stop)) .stop) .stop)) .stop) (.alt 6 (.alt 3 (.first 8 (.alt 7 (.alt 9 (.first 10 (.alt 11 .done .stop)) .stop) .stop)) .stop) .stop)) (.alt 6 (.alt 0 (.alt 3 (.first 8 (.alt 7 (.alt 9 (.first 10 (.alt 11 .done .stop)) .stop) .stop)) .stop) .stop) .stop)) (.alt 6 (.alt 0 (.alt 2 (.alt 3 (.first 8 (.alt 7 (.alt 9 (.first 10 (.alt 11 .done .stop)) .stop) .stop)) .stop) .stop) (.alt 2 (.alt 0 (.alt 3 (.first 8 (.alt 7 (.alt 9 (.first 10 (.alt 11 .done .stop)) .stop) .stop)) .stop) .stop) .stop)) .stop))) (.alt 6 (.alt 0 (.alt 2 (.alt 3 (.first 8 (.alt 4 (.alt 7 (.alt 9 (.first 10 (.alt 11 .done .stop)) .stop) .stop) .stop)) (.alt 4 (.alt 3 (.first 8 (.alt 7 (.alt 9 (.first 10 (.alt 11 .done .stop)) .stop) .stop)) .stop) .stop)) (.alt 4 (.alt 2 (.alt 3 (.first 8 (.alt 7 (.alt 9 (.first 10 (.alt 11 .done .stop)) .stop) .stop)) .stop) .stop) .stop)) (.alt 2 (.alt 0 (.alt 3 (.first 8 (.alt 4 (.alt 7 (.alt 9 (.first 10 (.alt 11 .done .stop)) .stop) .stop) .stop)) (.alt 4 (.alt 3 (.first 8 (.alt 7 (.alt 9 (.first 10 (.alt 11 .done .stop)) .stop) .stop)) .stop) .stop)) (.alt 4 (.alt 0 (.alt 3 (.first 8 (.alt 7 (.alt 9 (.first 10 (.alt 11 .done .stop)) .stop) .stop)) .stop) .stop) .stop)) (.alt 4 (.alt 0 (.alt 2 (.alt 3 (.first 8 (.alt 7 (.alt 9 (.first 10 (.alt 11 .done .stop)) .stop) .stop)) .stop) .stop) (.alt 2 (.alt 0 (.alt 3 (.first 8 (.alt 7 (.alt 9 (.first 10 (.alt 11 .done .stop)) .stop) .stop)) .stop) .stop) .stop)) .stop))) .stop)))))) (by kernel_rfl) (by kernel_rfl) ?_)
   ((conv=>whnf);repeat' ((first|exact trivial|refine sC ?_ ?_|refine eqN rfl ?_|refine leN rfl ?_|refine ltN rfl ?_|(refine aG [(23,_),(33, .rox X)] n2 (by exact⟨rfl,rfl,trivial⟩) (λr hs=> ?_);subst hs)|(refine aG [(23,_),(33, .rox X)] n3 (by exact⟨rfl,rfl,trivial⟩) (λr hs=> ?_);subst hs)|refine sJ ?_|(refine Exists.intro _ (And.intro rfl ?_)))<;>(conv=>whnf)))
   all_goals exact⟨by repeat' (first|exact trivial|exact rfl|refine And.intro ?_ ?_),by repeat' (first|exact trivial|exact rfl|refine And.intro ?_ ?_)⟩
  ((conv=>whnf);repeat' ((first|(intro hq;(try simp only [lnS]at hq);(try rewrite [List.length_map]))|refine sJ ?_|refine .intro _ (.intro rfl ?_)|refine exL (k:= ?_)|(refine frX (by refine⟨?_, ?_, ?_⟩<;>simp [bM,aZ,bL,aY,HObj.ids,SV.ids,SV.idsL,bR,roH,hX,aU,cF,dY]) ?_)|(refine nmX (by simp [bM,aZ,bL,aY,HObj.ids,SV.ids,SV.idsL,bR,roH,hX,aU,cF,dY]) ?_)|(refine frX (by refine⟨?_, ?_, ?_⟩<;>simp [bM,aZ,bL,aY,HObj.ids,SV.ids,SV.idsL,bR,roH,hX,aU,cF,dY]) ?_)|(refine nmX (by simp [bM,aZ,bL,aY,HObj.ids,SV.ids,SV.idsL,bR,roH,hX,aU,cF,dY]) ?_)|refine dwR ?_|((first|refine aD ?_ ?_|refine aF ?_ ?_)<;>intro hb<;>(first|exact ddX hb|try simp only [lnS]at hb))|(refine aC ?_ ?_<;>intro hb<;>try exact dsX hb))<;>(conv=>whnf)))
  refine⟨(List.length_map ..).symm, ?_⟩
  ((conv=>whnf);repeat ((first|(refine frX (by refine⟨?_, ?_, ?_⟩<;>simp [bM,aZ,bL,aY,HObj.ids,SV.ids,SV.idsL,bR,roH,hX,aU,cF,dY]) ?_)|(refine nmX (by simp [bM,aZ,bL,aY,HObj.ids,SV.ids,SV.idsL,bR,roH,hX,aU,cF,dY]) ?_)|(intro hq;try simp only [lnS]at hq)|refine sI ?_|refine .intro _ (.intro rfl ?_));(conv=>whnf)))
  rw [List.map_map]
  rfl
end Go.Proofs.YtfhoddcminbffaaGreatDoor
