/-
  Rows that the call may write are stable from here on: data. Arguments that say less; rows made here handed to a callee for good. Objects: Alignment as the program writes it; ReadCommit; Query of the empty query. More of maps: a map held against nil; memory by what lies at its numbers; a result that is data from there on. The reference of objects: ReadCommit.
  Conditions: none.
-/
import Derived.Test.YtcomlapnibckmaaGreatDoorMSyd
import Derived.Test.YtcomlapnibckmaaGreatDoorMSyq
import Derived.Test.YtcomlapnibckmaaGreatDoorMPb
import Derived.Test.YtcomlapnibckmaaGreatDoorMSne
import Derived.Test.YtcomlapnibckmaaGreatDoorMPj
set_option linter.unnecessarySimpa false
set_option linter.unusedSectionVars false
set_option linter.unusedSimpArgs false
set_option linter.unusedVariables false
set_option maxHeartbeats 32000000
namespace Go.Proofs.YtcomlapnibckmaaGreatDoor
open Go.Proofs
theorem Mem.froze {E:Entry}{ρ:Env}{hp hp':Hp}{w:World}(h:Mem E ρ hp w) {id e z cap:Nat}{rows:List (List D)}(ho:aJ hp id=some (.mrow e z cap rows)) (hsub:zB hp' hp) (hno:aJ hp' id=none):
  ∃S':Nat->Nat->Prop,(∀b i,ρ.S b i->S' b i)/\Mem E (ρ.withS S') hp' w/\RepD w S' (.sl z rows) (ρ.tv id):=by
 have hat: ∀b,dH (ρ.tv id)=some b->ρ.at id (.mrow e z cap rows)=some b:= λb hb=>hb
 have hs0: ∀i o,aJ hp' i=some o->aJ hp i=some o:=lF _ _ hsub
 have hne: ∀i o,aJ hp' i=some o->i≠id:= λi o hi e=>by rw [e,hno]at hi;cases hi
 refine⟨λb i=>ρ.S b i\/(dH (ρ.tv id)=some b/\i < rows.length * z),λb i hs=> .inl hs, ?_, ?_⟩
 ·refine⟨h.os,h.tape,h.output,h.size,h.old,λb i hs=> .inl (h.sold b i hs), ?_, ?_,h.kp, ?_,λi o i' o' g hi hi'=>h.inj i o i' o' g (hs0 i o hi) (hs0 i' o' hi'),λi o g hi=>h.hb i o g (hs0 i o hi),λi hi=>Env.moved_trans (h.mv i hi) (ρ.moved_withS _ i), ?_,h.md⟩
  ·rintro b i (hs|⟨hb,_⟩) hlt hB
   ·exact h.snew b i hs hlt hB
   ·rcases h.hb id _ b ho (hat b hb)with h1|h1
    ·omega
    ·exact absurd h1 hB
  ·rintro b i (hs|⟨hb,_⟩)
   ·exact h.slt b i hs
   ·exact h.blk_lt ho (hat b hb)
  ·intro i o hi
   refine(h.sat i o (hs0 i o hi)).keep (λ_ _ _=>rfl) (λb i hs=> .inl hs) (λi _=>ρ.moved_withS _ i) ⟨rfl,rfl⟩ (λg _=>rfl) ?_
   rintro g hg j (hs|⟨hb,_⟩)
   ·exact hs
   ·exact absurd (h.inj i o id _ g (hs0 i o hi) ho hg (hat g hb)) (hne i o hi)
  ·intro i oR g hi hrd hg i' o' hi'
   exact h.ro i oR g (hs0 _ _ hi) hrd hg i' o' (hs0 _ _ hi')
 ·obtain⟨_,h2⟩:=h.sat id _ ho
  rcases h2 with⟨rfl,_,A,e1⟩|⟨hc,g,cur,e1,q1,q2,q3,q4,q6,q7⟩
  ·rw [e1]
   exact RepD.mk_sl (b:=0) (off:=0) (by simp) (by simp) (λhne=>absurd rfl hne) ⟨by simp,by simp⟩ (by simp)
  ·have hb:dH (ρ.tv id)=some g:=by
    rw [e1];have:cap≠0:=by omega
    simp [dH,this]
   have key:RepD w (λb i=>ρ.S b i\/(dH (ρ.tv id)=some b/\i < rows.length * z)) (.sl z rows) (.slice (some ⟨g,0,none⟩) rows.length cap):=by
    refine RepD.mk_sl (b:=g) (off:=0) q2 q3 (λ_=>rfl) ?_ rfl
    refine q6.view (λk v hv=> ?_) (λk hk=> ?_) (λx v hx=>hx.mono (λ_ _ _=>rfl) λb i hs=> .inl hs)
    ·rw [Nat.zero_add,cell_of_row w g k cur e (0,0) q1]
     rw [List.getElem?_take]at hv
     split at hv
     ·simpa using hv
     ·cases hv
    ·rw [Nat.zero_add]
     right
     refine⟨hb, ?_⟩
     rw [q6.len]at hk;exact hk
   rw [e1]at key |-
   exact key
theorem aG.froz {P:Program}{pin:Pin}{fr:Fr}{hp hp':Hp}{f:FuncId}{asv:List SV}{K:SV->Hp->Prop}(j id:Nat) {e z cap n:Nat}{rows:List (List D)}(ho:aJ hp id=some (.mrow e z cap rows)) (hn:n=rows.length) (hj:asv[j]? =some (.mw id z n))
  (hsub:zB hp' hp) (hno:aJ hp' id=none) (h:aG P pin fr hp' f (asv.set j (.d (.sl z rows))) K):aG P pin fr hp f asv K:=by
 intro E ρ w tm hpin h3 h4 vs hargs
 obtain⟨S',s1,s2,s3⟩:=h3.froze ho hsub hno
 obtain⟨q1,_⟩:=h3.sat id _ ho
 refine h E _ w tm hpin s2 (h4.mono (λ_ _ _=>rfl) s1 λi _=>ρ.moved_withS S' i) vs ⟨by simpa using hargs.1, ?_⟩
 intro k s v hs hv
 by_cases e:j=k
 ·subst e
  have hjl:=(List.getElem?_eq_some_iff.1 hj).1
  rw [List.getElem?_set_self hjl]at hs
  injection hs with hs
  subst hs
  obtain⟨A,c,_,_,_,_,_,e2⟩:=(hargs.2 j _ v hj hv).mw_inv
  have:=e2 (hn.trans q1.symm)
  subst this
  exact .d _ _ s3
 ·rw [List.getElem?_set_ne e]at hs
  exact(hargs.2 k s v hs hv).mono (λ_ _ _=>rfl) s1 λi _=>ρ.moved_withS S' i
theorem aL.froz {C:Cfg}{c:Code}{fr:Fr}{hp hp':Hp}{K:Ex->Fr->Hp->Prop}(t id:Nat) {e z cap n:Nat}{rows:List (List D)}(ht:dI fr t=some (.mw id z n)) (ho:aJ hp id=some (.mrow e z cap rows)) (hn:n=rows.length)
  (hsub:zB hp' hp) (hno:aJ hp' id=none) (h:aL C c ((t, .d (.sl z rows))::fr) hp' K):aL C c fr hp K:=by
 intro E a w hpin hrd hsat
 obtain⟨h1,h2,ρ,h3,h4⟩:=hsat
 obtain⟨S',s1,s2,s3⟩:=h3.froze ho hsub hno
 obtain⟨q1,_⟩:=h3.sat id _ ho
 refine h E a w hpin hrd ⟨h1,h2,_,s2, ?_⟩
 intro k s hs
 simp only [dI]at hs
 by_cases e:t=k
 ·rw [if_pos e]at hs
  injection hs with hs
  subst hs;subst e
  obtain⟨v,hv,hr⟩:=h4 t _ ht
  obtain⟨A,c,_,_,_,_,_,e2⟩:=hr.mw_inv
  have:=e2 (hn.trans q1.symm)
  subst this
  exact⟨_,hv, .d _ _ s3⟩
 ·rw [if_neg e]at hs
  obtain⟨v,hv,hr⟩:=h4 k _ hs
  exact⟨v,hv,hr.mono (λ_ _ _=>rfl) s1 λi _=>ρ.moved_withS S' i⟩
end Go.Proofs.YtcomlapnibckmaaGreatDoor
namespace Go.Proofs.YtcomlapnibckmaaGreatDoor
open Go.RowKit
section
variable {P:Program}
def tD:List SV->List SV->Prop
 | [],[]=>True
 |a::l,b::m=>cL a b/\tD l m
 |_,_=>False
theorem tD.at: ∀(l m:List SV),tD l m->l.length=m.length/\ ∀(j:Nat) (a b:SV),l[j]? =some a->m[j]? =some b->cL a b
 | [],[],_=>⟨rfl,by simp⟩
 |a::l,b::m,h=>by
  obtain⟨h1,h2⟩:=tD.at l m h.2
  refine⟨by simp [h1],λj x y hx hy=> ?_⟩
  cases j with
  |zero=>simp at hx hy;subst hx hy;exact h.1
  |succ j=>exact h2 j x y (by simpa using hx) (by simpa using hy)
theorem tD.ok {w:World}{ρ:Env}{l m:List SV}{vs:Array Value}(h:tD l m) (hv:bO w ρ l vs):bO w ρ m vs:=by
 obtain⟨h1,h2⟩:=tD.at l m h
 refine⟨hv.1.trans h1,λj b v hb hx=> ?_⟩
 have hj:j < l.length:=by rw [h1];exact(List.getElem?_eq_some_iff.1 hb).1
 exact h2 j _ b (List.getElem?_eq_getElem hj) hb w ρ v (hv.2 j _ v (List.getElem?_eq_getElem hj) hx)
theorem Tri.args {f:FuncId}{xs bs:List SV}{hp:Hp}{post:SV->Prop}(h:Tri P f bs hp post) (hs:tD xs bs):Tri P f xs hp post:=
 λw ρ vs a b c=>h w ρ vs a (hs.ok b) c
theorem aG.frozA {pin:Pin}{fr:Fr}{hp:Hp}{f:FuncId}{K:SV->Hp->Prop}{id e z cap n:Nat}{rows:List (List D)}(hp':Hp) (ho:aJ hp id=some (.mrow e z cap rows)) (hn:n=rows.length) (hsub:zB hp' hp) (hno:aJ hp' id=none)
  (h:aG P pin fr hp' f [.d (.sl z rows)] K):aG P pin fr hp f [.mw id z n] K:=by
 intro E ρ w tm hpin h3 h4 vs hargs
 obtain⟨S',s1,s2,s3⟩:=h3.froze ho hsub hno
 obtain⟨q1,_⟩:=h3.sat id _ ho
 refine h E _ w tm hpin s2 (h4.mono (λ_ _ _=>rfl) s1 λi _=>ρ.moved_withS S' i) vs ⟨hargs.1,λj s v hs hv=> ?_⟩
 cases j with
 |succ j=>simp at hs
 |zero=>
  simp at hs
  subst hs
  have k4:=hargs.2 0 _ v rfl hv
  obtain⟨A,c,_,_,_,_,_,e2⟩:=k4.mw_inv
  have:=e2 (hn.trans q1.symm)
  subst this
  exact .d _ _ s3
end
end Go.Proofs.YtcomlapnibckmaaGreatDoor
namespace Go.Proofs.YtcomlapnibckmaaGreatDoor
open Go.Proofs Go.RowKit
set_option maxRecDepth 10000
attribute [local irreducible] aL aG Tri aD YVC cP bB
theorem aF3 {a:Al}(h:24 < a.name.length):xZ a=([],1):=by
 have e:alE a=1:=by unfold alE;rw [if_pos h]
 unfold xZ;rw [e,if_neg (by decide)]
theorem aHz {a:Al}(h:¬ 24 < a.name.length) (h2:cN a.axioms≠0):xZ a=([],cN a.axioms):=by
 have e:alE a=cN a.axioms:=by unfold alE;rw [if_neg h,if_pos h2]
 unfold xZ;rw [e,if_neg h2]
theorem aGj {a:Al}(h:¬ 24 < a.name.length) (h2:cN a.axioms=0) (h3:128 < a.axioms.length\/256 < a.parts.length\/256 < a.path.length):xZ a=([],2):=by
 have e:alE a=2:=by unfold alE;rw [if_neg h,if_neg (by simpa using h2),if_pos h3]
 unfold xZ;rw [e,if_neg (by decide)]
theorem aHy {a:Al}(h:¬ 24 < a.name.length) (h2:cN a.axioms=0) (h3:¬ (128 < a.axioms.length\/256 < a.parts.length\/256 < a.path.length)):xZ a=(wAl a,0):=by
 have e:alE a=0:=by unfold alE;rw [if_neg h,if_neg (by simpa using h2),if_neg h3]
 unfold xZ;rw [if_pos e]
theorem yK {a:Al}(h:¬ 24 < a.name.length) (h2:cN a.axioms=0) (h3:¬ (128 < a.axioms.length\/256 < a.parts.length\/256 < a.path.length)):(wAl a).length<=1000000:=by
 have a1:=rQ ((jA _).1 h2)
 have a2:a.axioms.length * 7000<=128 * 7000:=Nat.mul_le_mul_right _ (by omega)
 have a3:((a.parts.map jY).flatten).length<=a.parts.length * 32:=fS λd _=>by rw [show (jY d).length=32 from d.2];exact Nat.le_refl _
 have a4:((a.path.map jY).flatten).length<=a.path.length * 32:=fS λd _=>by rw [show (jY d).length=32 from d.2];exact Nat.le_refl _
 have a5:(jY a.base).length=32:=a.base.2
 have a6:(jY a.pub).length=32:=a.pub.2
 unfold wAl
 simp only [List.length_append,bS,dO,a5,a6]
 unfold dJ
 simp only [List.length_append,aQ]
 omega
theorem nC (a:Al):Tri Tryz.prog 24 [.d (.agg (alR a))] NG (λr=>r= .tup [.d (.sl 1 ((xZ a).1.map aO)), .d (.int .i64 (xZ a).2)]):=by
 refine Tri.says ?_
 have hw:=rP a
 have h1:=aF3 (a:=a)
 have h2:=aHz (a:=a)
 have h3:=aGj (a:=a)
 have h4:=aHy (a:=a)
 have h5:=yK (a:=a)
 have hc:=fW a.axioms
 generalize wAl a=out at *
 generalize xZ a=res at *
 obtain⟨nm,d1,ax,d2,ix,ps,pt⟩:=a
 obtain⟨yl,hy⟩:=d1
 obtain⟨y0,y1,y2,y3,y4,y5,y6,y7,y8,y9,y10,y11,y12,y13,y14,y15,y16,y17,y18,y19,y20,y21,y22,y23,y24,y25,y26,y27,y28,y29,y30,y31,rfl⟩:=eQ hy
 obtain⟨zl,hz⟩:=d2
 obtain⟨z0,z1,z2,z3,z4,z5,z6,z7,z8,z9,z10,z11,z12,z13,z14,z15,z16,z17,z18,z19,z20,z21,z22,z23,z24,z25,z26,z27,z28,z29,z30,z31,rfl⟩:=eQ hz
 dsimp only at h1 h2 h3 h4 h5 hc
 have hla:(ax.map axR).length=ax.length:=List.length_map ..
 have hlp:(ps.map pQ).length=ps.length:=List.length_map ..
 have hlt:(pt.map pQ).length=pt.length:=List.length_map ..
 refine aH false [] hty Tryz.func24 rfl (kp [0,1,2,3,4,8,13,32]) [] _ _ _ (by simp [Tryz.f24]) (by decide) ?_
 ((conv=>whnf);repeat ((first|(intro hq;try simp only [lnS]at hq)|refine sI ?_|refine .intro _ (.intro rfl ?_));(conv=>whnf)))
 refine aB (λq1=> ?_) (λq1=> ?_)
 ·rw [h1 (by dsimp only at q1;omega)]
  ((conv=>whnf);repeat ((first|(intro hq;try simp only [lnS]at hq)|refine sI ?_|refine .intro _ (.intro rfl ?_));(conv=>whnf)))
  exact⟨_,pairN (.d .nil) _,rfl⟩
 have q1:¬ 24 < nm.length:=by dsimp only at q1;omega
 ((conv=>whnf);repeat ((first|(refine aE NG hc ⟨rfl,rfl,trivial⟩ (λr hs=> ?_);subst hs)|(intro hq;try simp only [lnS]at hq)|refine sI ?_|refine .intro _ (.intro rfl ?_));(conv=>whnf)))
 refine aC (λq2=> ?_) (λq2=> ?_)
 ·rw [h2 q1 q2]
  ((conv=>whnf);repeat ((first|(intro hq;try simp only [lnS]at hq)|refine sI ?_|refine .intro _ (.intro rfl ?_));(conv=>whnf)))
  exact⟨_,pairN (.d .nil) _,rfl⟩
 have q2:cN ax=0:=by simpa using q2
 by_cases q3:128 < ax.length\/256 < ps.length\/256 < pt.length
 ·rw [h3 q1 q2 q3]
  clear h1 h2 h3 h4 h5 hw hc
  ((conv=>whnf);repeat' ((first|(intro hq;(try simp only [lnS]at hq);(try rewrite [List.length_map]))|refine sJ ?_|refine .intro _ (.intro rfl ?_)|refine exL (k:= ?_)|refine dwR ?_|((first|refine aB ?_ ?_|refine aC ?_ ?_)<;>intro hb<;>(first|exact ddX hb|try simp only [lnS]at hb))|(refine aA ?_ ?_<;>intro hb<;>try exact dsX hb))<;>(conv=>whnf)))
  all_goals exact⟨_,pairN (.d .nil) _,rfl⟩
 ·rw [h4 q1 q2 q3]
  have h5:=h5 q1 q2 q3
  clear h1 h2 h3 h4 hc
  ((conv=>whnf);repeat' ((first|(intro hq;(try simp only [lnS]at hq);(try rewrite [List.length_map]))|refine sJ ?_|refine .intro _ (.intro rfl ?_)|refine exL (k:= ?_)|refine dwR ?_|((first|refine aB ?_ ?_|refine aC ?_ ?_)<;>intro hb<;>(first|exact ddX hb|try simp only [lnS]at hb))|(refine aA ?_ ?_<;>intro hb<;>try exact dsX hb))<;>(conv=>whnf)))
  refine aG.ownH 4 104 88 5 1 rfl (bY (by with_unfolding_all exact rfl)) (fD (by with_unfolding_all exact rfl)) ?_
  refine WrT.call hw rfl [] (by rw [List.length_nil];omega) (by decide) rfl rfl ?_
  rw [List.nil_append]
  ((conv=>whnf);repeat ((first|(intro hq;try simp only [lnS]at hq)|refine sI ?_|refine .intro _ (.intro rfl ?_));(conv=>whnf)))
  exact⟨_, .refl _,rfl⟩
theorem mZ (bs:List UInt8) (hb:bs.length<=1000000):
  Tri Tryz.prog 20 [.d (.sl 1 (bs.map aO))] [] (λr=> ∃x,x=(dW rCm jQ cm0 280 bs).1/\r= .tup [.d (.agg (cmR x)), .d (.int .i64 (dW rCm jQ cm0 280 bs).2)]):=by
 have hd:=oK jQ bs hb (λx c _=>iH x)
 generalize dW rCm jQ cm0 280 bs=res at *
 refine aM hty Tryz.func20 rfl (kp [0,2,3]) [] _ _ _ (by simp [Tryz.f20]) (by simp) ?_
 ((conv=>whnf);repeat ((first|(intro hq;try simp only [lnS]at hq)|refine sI ?_|refine .intro _ (.intro rfl ?_));(conv=>whnf)))
 refine aE [] hd trivial (λr hs=> ?_)
 subst hs
 obtain⟨x,e⟩:=res
 obtain⟨no,ps,dg,m⟩:=x
 obtain⟨xl,hx⟩:=dg
 obtain⟨y0,y1,y2,y3,y4,y5,y6,y7,y8,y9,y10,y11,y12,y13,y14,y15,y16,y17,y18,y19,y20,y21,y22,y23,y24,y25,y26,y27,y28,y29,y30,y31,rfl⟩:=eQ hx
 ((conv=>whnf);repeat ((first|(intro hq;try simp only [lnS]at hq)|refine sI ?_|refine .intro _ (.intro rfl ?_));(conv=>whnf)))
 rfl
theorem sG:Tri Tryz.prog 13 [.d (.agg (qyR ⟨[],[]⟩))] NG (λr=>r= .tup [.d (.sl 1 (([]:List UInt8).map aO)), .d (.int .i64 210)]):=by
 have h1:Tri Tryz.prog 73 [.d (.agg (qyR ⟨[],[]⟩))] [] (λr=>r= .d (.int .i64 210)):=by
  refine aM hty Tryz.func73 rfl (kp [0,1,2,4,20,22,23,24,25,37]) [] _ _ _ (by simp [Tryz.f73]) (by simp) ?_
  ((conv=>whnf);repeat' ((first|(intro hq;(try simp only [lnS]at hq);(try rewrite [List.length_map]))|refine sJ ?_|refine .intro _ (.intro rfl ?_)|refine exL (k:= ?_)|refine dwR ?_|((first|refine aB ?_ ?_|refine aC ?_ ?_)<;>intro hb<;>(first|exact ddX hb|try simp only [lnS]at hb))|(refine aA ?_ ?_<;>intro hb<;>try exact dsX hb))<;>(conv=>whnf)))
  rfl
 have h2:Tri Tryz.prog 33 [.d (.agg (qyR ⟨[],[]⟩)), .d .nil] [] (λr=>r= .d (.int .i64 210)):=by
  refine aM hty Tryz.func33 rfl (kp [0,1,2,4,6,8,10,14,17,18,19,20,24,25,26,27,33,40,43,44,45,46,52]) [] _ _ _ (by simp [Tryz.f33]) (by simp) ?_
  ((conv=>whnf);repeat' ((first|(intro hq;(try simp only [lnS]at hq);(try rewrite [List.length_map]))|refine sJ ?_|refine .intro _ (.intro rfl ?_)|refine exL (k:= ?_)|(refine aE [] h1 trivial (λr hs=> ?_);subst hs)|refine dwR ?_|((first|refine aB ?_ ?_|refine aC ?_ ?_)<;>intro hb<;>(first|exact ddX hb|try simp only [lnS]at hb))|(refine aA ?_ ?_<;>intro hb<;>try exact dsX hb))<;>(conv=>whnf)))
  rfl
 refine Tri.says ?_
 refine aH false [] hty Tryz.func13 rfl (kp [0,1,2,3,4,8]) [] _ _ _ (by simp [Tryz.f13]) (by decide) ?_
 ((conv=>whnf);repeat' ((first|(intro hq;(try simp only [lnS]at hq);(try rewrite [List.length_map]))|refine sJ ?_|refine .intro _ (.intro rfl ?_)|refine exL (k:= ?_)|(refine aE [] h2 trivial (λr hs=> ?_);subst hs)|refine dwR ?_|((first|refine aB ?_ ?_|refine aC ?_ ?_)<;>intro hb<;>(first|exact ddX hb|try simp only [lnS]at hb))|(refine aA ?_ ?_<;>intro hb<;>try exact dsX hb))<;>(conv=>whnf)))
 exact⟨_,pairN (.d .nil) _,rfl⟩
end Go.Proofs.YtcomlapnibckmaaGreatDoor
namespace Go.Proofs.YtcomlapnibckmaaGreatDoor
open Go.Proofs Go.RowKit
section
variable {P:Program}
theorem aL.ownC {C:Cfg}{c:Code}{fr:Fr}{hp:Hp}{K:Ex->Fr->Hp->Prop}(i id t e z k:Nat) {cs:List SV}(hnil:aJ hp i=some (.cells t cs)) (hk:cs[k]? =some (.d .nil)) (hfr:gF id C.pin fr hp)
  (h:aL C c fr ((id, .own e z 0)::eD hp i (.cells t (cs.set k (.osl id z [])))) K):aL C c fr hp K:=by
 intro E a w hpin hrd hsat
 obtain⟨h1,h2,ρ,h3,h4⟩:=hsat
 obtain⟨f1,f2,f3⟩:=hfr
 obtain⟨m1,m2,m3⟩:=h3.newNil (id:=id) e z f3 (by rw [hpin];exact f1)
 have hne:i≠id:= λe=>f3 (by subst e;exact bJ hnil (.inl rfl))
 have hi':aJ ((id,HObj.own e z 0)::hp) i=some (.cells t cs):=by
  simp only [aJ];rw [if_neg (Ne.symm hne)];exact hnil
 have hkl:k < cs.length:=(List.getElem?_eq_some_iff.1 hk).1
 have m4 := m1.recell hi' (cs' := cs.set k (.osl id z [])) (by simp) (λj s' v hs' hv => by
  by_cases e:j=k
  ·subst e
   rw [List.getElem?_set_self hkl]at hs'
   injection hs' with hs'
   subst hs'
   have:=(hv _ hk).nil_inv
   subst this
   exact m3
  ·rw [List.getElem?_set_ne (Ne.symm e)]at hs'
   exact hv _ hs')
 have e2:eD ((id,HObj.own e z 0)::hp) i (.cells t (cs.set k (.osl id z [])))=(id, .own e z 0)::eD hp i (.cells t (cs.set k (.osl id z []))):=by
  simp only [eD];rw [if_neg (Ne.symm hne)]
 rw [e2]at m4
 exact h E a w hpin hrd ⟨h1,h2,_,m4,m2 fr a.tmps f2 h4⟩
end
end Go.Proofs.YtcomlapnibckmaaGreatDoor
namespace Go.Proofs.YtcomlapnibckmaaGreatDoor
open Go.Proofs Go.RowKit
set_option maxRecDepth 10000
attribute [local irreducible] aL aG Tri aD YVC cP bB vU
def tCm:Tr Cm:=fX mU λn=>fX (uR 8 mU) λps=>fX rJ λb=>wM tO λm=>⟨n,ps,b,m⟩
theorem aFq:Sim tCm aEb:=zH.bind λn=>(zG zH 8).bind λps=>aE3.bind λb=>aE2.map _
theorem aBh {α β:Type}{t:Tr α}{f:α->Tr β}{s s1:RS}{x:α}(h:t s=(x,s1)):fX t f s=f x s1:=by unfold fX;rw [h]
theorem aIk (s:RS):Tri Tryz.prog 54 [.ptr 0 0] [(0,rfO s)] (λr=>r= .d (.bool (!s.2 && decide (s.1=[])))):=by
 obtain⟨b,d⟩:=s
 have hbl:=cH b
 refine aM hty Tryz.func54 rfl (kp [0,2]) [] _ _ _ (by simp [Tryz.f54]) (by simp) ?_
 cases d
 ·((conv=>whnf);repeat ((first|(intro hq;try simp only [lnS]at hq)|refine sI ?_|refine .intro _ (.intro rfl ?_));(conv=>whnf)))
  rw [hbl]
  by_cases h:b=[]
  ·subst h
   ((conv=>whnf);repeat' ((first|(intro hq;(try simp only [lnS]at hq);(try rewrite [List.length_map]))|refine sJ ?_|refine .intro _ (.intro rfl ?_)|refine exL (k:= ?_)|refine dwR ?_|((first|refine aB ?_ ?_|refine aC ?_ ?_)<;>intro hb<;>(first|exact ddX hb|try simp only [lnS]at hb))|(refine aA ?_ ?_<;>intro hb<;>try exact dsX hb))<;>(conv=>whnf)))
   all_goals rfl
  ·have hl:¬ b.length=0:= λe=>h (List.length_eq_zero_iff.1 e)
   rw [show decide (b=[])=false from decide_eq_false h]
   ((conv=>whnf);repeat' ((first|(intro hq;(try simp only [lnS]at hq);(try rewrite [List.length_map]))|refine sJ ?_|refine .intro _ (.intro rfl ?_)|refine exL (k:= ?_)|refine dwR ?_|((first|refine aB ?_ ?_|refine aC ?_ ?_)<;>intro hb<;>(first|exact ddX hb|try simp only [lnS]at hb))|(refine aA ?_ ?_<;>intro hb<;>try exact dsX hb))<;>(conv=>whnf)))
   all_goals (refine bH ?_;simp;omega)
 ·((conv=>whnf);repeat' ((first|(intro hq;(try simp only [lnS]at hq);(try rewrite [List.length_map]))|refine sJ ?_|refine .intro _ (.intro rfl ?_)|refine exL (k:= ?_)|refine dwR ?_|((first|refine aB ?_ ?_|refine aC ?_ ?_)<;>intro hb<;>(first|exact ddX hb|try simp only [lnS]at hb))|(refine aA ?_ ?_<;>intro hb<;>try exact dsX hb))<;>(conv=>whnf)))
  all_goals rfl
theorem lZ (bs:List UInt8) (hb:bs.length<=1000000):
  Tri Tryz.prog 21 [.d (.sl 1 (bs.map aO))] [] (λr=> ∃x,x=(dW aEb jQ cm0 280 bs).1/\r= .tup [.d (.agg (cmR x)), .d (.int .i64 (dW aEb jQ cm0 280 bs).2)]):=by
 have hdec:=aIg aFq jQ cm0 280 bs
 generalize dW aEb jQ cm0 280 bs=res at *
 refine Tri.says ?_
 refine aM hty Tryz.func21 rfl (kp [0,2,3,4,5,6,7,8,9,27,61]) [] _ _ _ (by simp [Tryz.f21]) (by simp) ?_
 ((conv=>whnf);repeat ((first|(intro hq;try simp only [lnS]at hq)|refine sI ?_|refine .intro _ (.intro rfl ?_));(conv=>whnf)))
 refine RfT.call aAi rfl (λ_=>rfl) (bs,false) hb rfl ?_
 have l1:=vE (bs,false)
 have hT:tCm (bs,false)=fX (uR 8 mU) (λps=>fX rJ λb=>wM tO λm=>⟨(mU (bs,false)).1,ps,b,m⟩) (mU (bs,false)).2:=rfl
 rw [hT]at hdec
 clear hT
 generalize (mU (bs,false)).1=no at *
 generalize (mU (bs,false)).2=s1 at *
 ((conv=>whnf);repeat ((first|(intro hq;try simp only [lnS]at hq)|refine sI ?_|refine .intro _ (.intro rfl ?_));(conv=>whnf)))
 refine RfT.call (aHm 8 (by decide) (by decide)) rfl (λ_=>rfl) s1 (Nat.le_trans l1 hb) rfl ?_
 have l2:=aA6 8 s1
 have hle:=aBg (least:=8) s1 (by decide)
 have hT:fX (uR 8 mU) (λps=>fX rJ λb=>wM tO λm=>(⟨no,ps,b,m⟩:Cm)) s1=fX (tE mU (jC 8 s1).1) (λps=>fX rJ λb=>wM tO λm=>⟨no,ps,b,m⟩) (jC 8 s1).2:=rfl
 rw [hT]at hdec
 clear hT
 generalize (jC 8 s1).1=n at *
 generalize (jC 8 s1).2=s2 at *
 have hs2:s2.1.length<=1000000:=Nat.le_trans l2 (Nat.le_trans l1 hb)
 have hn:n<=1000000:=Nat.le_trans hle (Nat.le_trans l1 hb)
 clear l1 l2 hle
 ((conv=>whnf);repeat ((first|(intro hq;try simp only [lnS]at hq)|refine sI ?_|refine .intro _ (.intro rfl ?_));(conv=>whnf)))
 refine aL.ownC 5 200 41 3 1 1 rfl rfl (bY (by with_unfolding_all exact rfl)) ?_
 refine aR hty (λy:List Int×RS=>([(0, .d (.sl 1 (bs.map aO))),(2, .ptr 2 0),(3, .d (.int .i64 0)),(4, .ptr 12 0),(5, .ptr 5 0),(6, .d (.int .i64 n)),(7, .d (.int .i64 y.1.length))],[(200, .own 3 1 (y.1.map eE).length),(5, .cells 41 ([.d (.int .i64 no), .osl 200 1 (y.1.map eE)]++(List.replicate 32 (D.int .u8 0)).map .d++[.d (.str [])])),(2, .cells 41 (([D.int .i64 0,D.nil]++List.replicate 32 (D.int .u8 0)++[D.str []]).map .d)),(12,rfO y.2)])) (λy=>tE mU y.1.length s2=y/\y.1.length<=n/\y.2.1.length<=1000000) (λy=>n - y.1.length) ([],s2) ⟨rfl,Nat.zero_le _,hs2⟩ ⟨by repeat' (first|exact trivial|exact rfl|refine And.intro ?_ ?_),by repeat' (first|exact trivial|exact rfl|refine And.intro ?_ ?_)⟩ ?_
 rintro⟨l,s⟩ ⟨h1,h2,h3⟩
 dsimp only at h1 h2 h3
 obtain⟨b,d⟩:=s
 have hml:(l.map eE).length=l.length:=List.length_map ..
 have hb63:(l.map eE).length+1<=9223372036854775807:=by rw [hml];omega
 have hb48:((l.map eE).length+1)* 8<=140737488355328:=by rw [hml];omega
 by_cases hc:l.length < n/\d=false
 ·obtain⟨hc,rfl⟩:=hc
  have hless:=vE (b,false)
  have hnx:=rW mU l.length s2 l (b,false) h1 rfl rfl
  ((conv=>whnf);repeat ((first|(intro hq;try simp only [lnS]at hq)|refine sI ?_|refine .intro _ (.intro rfl ?_));(conv=>whnf)))
  refine aB (λh5=> ?_) (λh5=>absurd hc (by dsimp only at h5;omega))
  clear h5
  ((conv=>whnf);repeat ((first|(intro hq;try simp only [lnS]at hq)|refine sI ?_|refine .intro _ (.intro rfl ?_));(conv=>whnf)))
  refine aL.mid [(0, .d (.sl 1 (bs.map aO))),(2, .ptr 2 0),(3, .d (.int .i64 0)),(4, .ptr 12 0),(5, .ptr 5 0),(6, .d (.int .i64 n)),(7, .d (.int .i64 l.length))] [(200, .own 3 1 ((l.map eE).length+1)),(5, .cells 41 ([.d (.int .i64 no), .osl 200 1 (l.map eE++[[.int .i64 (mU (b,false)).1]])]++(List.replicate 32 (D.int .u8 0)).map .d++[.d (.str [])])),(2, .cells 41 (([D.int .i64 0,D.nil]++List.replicate 32 (D.int .u8 0)++[D.str []]).map .d)),(12,rfO (mU (b,false)).2)] ?_ ?_
  ·(refine yY (id:=7) hty (.first 2 (.alt 0 (.alt 1 (.alt 3 (.alt 4 (.alt 5 (.alt 6 (.alt 7 .done .stop) .stop) .stop) .stop) .stop) (.alt 3 (.alt 1 (.alt 4 (.alt 5 (.alt 6 (.alt 7 .done .stop) .stop) .stop) .stop) (.alt 4 (.alt 1 (.alt 5 (.alt 6 (.alt 7 .done .stop) .stop) .stop) .stop) .stop)) .stop)) (.alt 3 (.alt 0 (.alt 1 (.alt 4 (.alt 5 (.alt 6 (.alt 7 .done .stop) .stop) .stop) .stop) (.alt 4 (.alt 1 (.alt 5 (.alt 6 (.alt 7 .done .stop) .stop) .stop) .stop) .stop)) (.alt 4 (.alt 0 (.alt 1 (.alt 5 (.alt 6 (.alt 7 .done .stop) .stop) .stop) .stop) .stop) .stop)) .stop))) (by kernel_rfl) (by kernel_rfl) ?_)
   ((conv=>whnf);repeat' ((first|(intro hq;(try simp only [lnS]at hq);(try rewrite [List.length_map]))|refine sJ ?_|refine .intro _ (.intro rfl ?_)|refine exL (k:= ?_)|(refine And.intro hb63 ?_)|(refine And.intro hb48 ?_)|(refine RfT.call aAi rfl (λ_=>rfl) (b,false) h3 rfl ?_)|exact trivial|(refine And.intro ?_ ?_)|refine dwR ?_|((first|refine aB ?_ ?_|refine aC ?_ ?_)<;>intro hb<;>(first|exact ddX hb|try simp only [lnS]at hb))|(refine aA ?_ ?_<;>intro hb<;>try exact dsX hb))<;>(conv=>whnf)))
   all_goals exact⟨by repeat' (first|exact trivial|exact rfl|refine And.intro ?_ ?_),by repeat' (first|exact trivial|exact rfl|refine And.intro ?_ ?_)⟩
  have hrow:(l++[(mU (b,false)).1]).map eE=l.map eE++[[.int .i64 (mU (b,false)).1]]:=by rw [List.map_append];rfl
  ((conv=>whnf);repeat ((first|(intro hq;try simp only [lnS]at hq)|refine sI ?_|refine .intro _ (.intro rfl ?_));(conv=>whnf)))
  refine⟨(l++[(mU (b,false)).1],(mU (b,false)).2),⟨by dsimp only;rw [List.length_append];exact hnx,by dsimp only;rw [List.length_append,List.length_singleton];omega,Nat.le_trans hless h3⟩,by dsimp only;rw [List.length_append,List.length_singleton];omega, ?_⟩
  dsimp only
  rw [hrow,List.length_append,List.length_append]
  exact⟨by repeat' (first|exact trivial|exact rfl|refine And.intro ?_ ?_),by repeat' (first|exact trivial|exact rfl|refine And.intro ?_ ?_)⟩
 have hfull:tE mU n s2=(l,(b,d)):=by
  by_cases e:l.length=n
  ·rw [<-e];exact h1
  ·have hd:d=true:=by
    cases d with
    |true=>rfl
    |false=>exact absurd ⟨by omega,rfl⟩ hc
   exact rV mU l.length n s2 l (b,d) h1 hd h2
 rw [aBh (f:= λps=>fX rJ λb=>wM tO λm=>(⟨no,ps,b,m⟩:Cm)) hfull]at hdec
 clear hfull h1 hs2
 have l3:=aCb (b,d)
 have hT:fX rJ (λb=>wM tO λm=>(⟨no,l,b,m⟩:Cm)) (b,d)=wM tO (λm=>⟨no,l,(rJ (b,d)).1,m⟩) (rJ (b,d)).2:=rfl
 rw [hT]at hdec
 clear hT
 have hstop:l.length < n->d=true:= λh=>by
  cases d with
  |true=>rfl
  |false=>exact absurd ⟨h,rfl⟩ hc
 clear hc
 generalize hdg:(rJ (b,d)).1=dg at *
 generalize hsg:(rJ (b,d)).2=s3 at *
 have hT:wM tO (λm=>(⟨no,l,dg,m⟩:Cm)) s3=(⟨no,l,dg,(tO s3).1⟩,(tO s3).2):=rfl
 rw [hT]at hdec
 clear hT
 have hs3:s3.1.length<=1000000:=Nat.le_trans l3 h3
 generalize htm:(tO s3).1=m at *
 generalize hts:(tO s3).2=s4 at *
 have hw:=lO ⟨no,l,dg,m⟩
 generalize jQ ⟨no,l,dg,m⟩=ae at *
 obtain⟨a,e⟩:=ae
 have hE:=Tri.at (aIk s4) rfl rfl (λs hs=>by rw [hs];rfl)
 have ha:=eM a
 have hbu:=eM bs
 obtain⟨xl,hx⟩:=dg
 obtain⟨y0,y1,y2,y3,y4,y5,y6,y7,y8,y9,y10,y11,y12,y13,y14,y15,y16,y17,y18,y19,y20,y21,y22,y23,y24,y25,y26,y27,y28,y29,y30,y31,rfl⟩:=eQ hx
 have hw2: ∀id,Tri Tryz.prog 19 [.agg [.d (.int .i64 no), .osl id 1 (l.map eE), .d (.int .u8 y0.toNat), .d (.int .u8 y1.toNat), .d (.int .u8 y2.toNat), .d (.int .u8 y3.toNat), .d (.int .u8 y4.toNat), .d (.int .u8 y5.toNat), .d (.int .u8 y6.toNat), .d (.int .u8 y7.toNat), .d (.int .u8 y8.toNat), .d (.int .u8 y9.toNat), .d (.int .u8 y10.toNat), .d (.int .u8 y11.toNat), .d (.int .u8 y12.toNat), .d (.int .u8 y13.toNat), .d (.int .u8 y14.toNat), .d (.int .u8 y15.toNat), .d (.int .u8 y16.toNat), .d (.int .u8 y17.toNat), .d (.int .u8 y18.toNat), .d (.int .u8 y19.toNat), .d (.int .u8 y20.toNat), .d (.int .u8 y21.toNat), .d (.int .u8 y22.toNat), .d (.int .u8 y23.toNat), .d (.int .u8 y24.toNat), .d (.int .u8 y25.toNat), .d (.int .u8 y26.toNat), .d (.int .u8 y27.toNat), .d (.int .u8 y28.toNat), .d (.int .u8 y29.toNat), .d (.int .u8 y30.toNat), .d (.int .u8 y31.toNat), .d (.str m)]] [] _:= λid=>Tri.args hw ⟨cL.cells (by repeat' (first|exact trivial|exact cL.refl _|exact cL.osl|refine And.intro ?_ ?_)),trivial⟩
 replace hw2:=hw2 200
 ((conv=>whnf);repeat ((first|(intro hq;try simp only [lnS]at hq)|refine sI ?_|refine .intro _ (.intro rfl ?_));(conv=>whnf)))
 refine aB (λh5=> ?_) (λh5=> ?_)
 ·have hnd:(!d)=false:=by rw [hstop (by dsimp only at h5;omega)];rfl
  ((conv=>whnf);repeat ((first|(intro hq;try simp only [lnS]at hq)|refine sI ?_|refine .intro _ (.intro rfl ?_));(conv=>whnf)))
  rw [hnd]
  ((conv=>whnf);repeat ((first|(intro hq;try simp only [lnS]at hq)|refine sI ?_|refine .intro _ (.intro rfl ?_));(conv=>whnf)))
  refine RfT.call aAj rfl (λ_=>rfl) (b,d) h3 rfl ?_
  rw [hdg,hsg]
  ((conv=>whnf);repeat ((first|(intro hq;try simp only [lnS]at hq)|refine sI ?_|refine .intro _ (.intro rfl ?_));(conv=>whnf)))
  refine RfT.call aG6 rfl (λ_=>rfl) s3 hs3 rfl ?_
  rw [htm,hts]
  ((conv=>whnf);repeat ((first|(intro hq;try simp only [lnS]at hq)|refine sI ?_|refine .intro _ (.intro rfl ?_));(conv=>whnf)))
  refine aE [] hw2 trivial (λr hs=> ?_)
  subst hs
  ((conv=>whnf);repeat ((first|(intro hq;try simp only [lnS]at hq)|refine sI ?_|refine .intro _ (.intro rfl ?_));(conv=>whnf)))
  refine aE [(12,rfO s4)] (hE 12) ⟨rfl,trivial⟩ (λr hs=> ?_)
  subst hs
  cases hend:(!s4.2 && decide (s4.1=[]))
  ·have hr:res=(cm0,280):=by
    rw [hdec,if_pos]
    rw [Bool.and_eq_false_iff]at hend
    rcases hend with h|h
    ·exact .inl (by simpa using h)
    ·exact .inr (.inl (of_decide_eq_false h))
   rw [hr]
   ((conv=>whnf);repeat ((first|(intro hq;try simp only [lnS]at hq)|refine sI ?_|refine .intro _ (.intro rfl ?_));(conv=>whnf)))
   exact⟨_,cL.pair (cL.wkd (by repeat' (first|exact trivial|exact rfl|refine And.intro ?_ ?_))),_,rfl,rfl⟩
  rw [Bool.and_eq_true]at hend
  have hbad:s4.2=false:=by simpa using hend.1
  have hnil:s4.1=[]:=of_decide_eq_true hend.2
  ((conv=>whnf);repeat ((first|(intro hq;try simp only [lnS]at hq)|refine sI ?_|refine .intro _ (.intro rfl ?_));(conv=>whnf)))
  refine aC (λh6=> ?_) (λh6=> ?_)
  ·have hr:res=(cm0,280):=by
    rw [hdec,if_pos]
    refine .inr (.inr λh=>h6 ?_)
    injection h
   rw [hr]
   ((conv=>whnf);repeat ((first|(intro hq;try simp only [lnS]at hq)|refine sI ?_|refine .intro _ (.intro rfl ?_));(conv=>whnf)))
   exact⟨_,cL.pair (cL.wkd (by repeat' (first|exact trivial|exact rfl|refine And.intro ?_ ?_))),_,rfl,rfl⟩
  have h6:e=0:=by simpa using h6
  subst h6
  ((conv=>whnf);repeat ((first|(intro hq;try simp only [lnS]at hq)|refine sI ?_|refine .intro _ (.intro rfl ?_));(conv=>whnf)))
  rw [ha,hbu]
  by_cases h7:a=bs
  ·have hr:res=(⟨no,l,⟨[y0,y1,y2,y3,y4,y5,y6,y7,y8,y9,y10,y11,y12,y13,y14,y15,y16,y17,y18,y19,y20,y21,y22,y23,y24,y25,y26,y27,y28,y29,y30,y31],hx⟩,m⟩,0):=by
    rw [hdec,if_neg]
    rintro(h|h|h)
    ·rw [hbad]at h;cases h
    ·exact h hnil
    ·exact h (by rw [h7])
   rw [hr]
   ((conv=>whnf);repeat' ((first|(intro hq;(try simp only [lnS]at hq);(try rewrite [List.length_map]))|refine sJ ?_|refine .intro _ (.intro rfl ?_)|refine exL (k:= ?_)|refine dwR ?_|((first|refine aB ?_ ?_|refine aC ?_ ?_)<;>intro hb<;>(first|exact ddX hb|try simp only [lnS]at hb))|(refine aA ?_ ?_<;>intro hb<;>try exact dsX hb))<;>(conv=>whnf)))
   all_goals first|exact absurd h7 (by assumption)|exact⟨_, .refl _,_,rfl,rfl⟩
  ·have hr:res=(cm0,280):=by
    rw [hdec,if_pos]
    refine .inr (.inr λh=>h7 ?_)
    injection h
   rw [hr]
   ((conv=>whnf);repeat' ((first|(intro hq;(try simp only [lnS]at hq);(try rewrite [List.length_map]))|refine sJ ?_|refine .intro _ (.intro rfl ?_)|refine exL (k:= ?_)|refine dwR ?_|((first|refine aB ?_ ?_|refine aC ?_ ?_)<;>intro hb<;>(first|exact ddX hb|try simp only [lnS]at hb))|(refine aA ?_ ?_<;>intro hb<;>try exact dsX hb))<;>(conv=>whnf)))
   all_goals first|exact absurd (by assumption) h7|exact⟨_,cL.pair (cL.wkd (by repeat' (first|exact trivial|exact rfl|refine And.intro ?_ ?_))),_,rfl,rfl⟩
 ·((conv=>whnf);repeat ((first|(intro hq;try simp only [lnS]at hq)|refine sI ?_|refine .intro _ (.intro rfl ?_));(conv=>whnf)))
  refine RfT.call aAj rfl (λ_=>rfl) (b,d) h3 rfl ?_
  rw [hdg,hsg]
  ((conv=>whnf);repeat ((first|(intro hq;try simp only [lnS]at hq)|refine sI ?_|refine .intro _ (.intro rfl ?_));(conv=>whnf)))
  refine RfT.call aG6 rfl (λ_=>rfl) s3 hs3 rfl ?_
  rw [htm,hts]
  ((conv=>whnf);repeat ((first|(intro hq;try simp only [lnS]at hq)|refine sI ?_|refine .intro _ (.intro rfl ?_));(conv=>whnf)))
  refine aE [] hw2 trivial (λr hs=> ?_)
  subst hs
  ((conv=>whnf);repeat ((first|(intro hq;try simp only [lnS]at hq)|refine sI ?_|refine .intro _ (.intro rfl ?_));(conv=>whnf)))
  refine aE [(12,rfO s4)] (hE 12) ⟨rfl,trivial⟩ (λr hs=> ?_)
  subst hs
  cases hend:(!s4.2 && decide (s4.1=[]))
  ·have hr:res=(cm0,280):=by
    rw [hdec,if_pos]
    rw [Bool.and_eq_false_iff]at hend
    rcases hend with h|h
    ·exact .inl (by simpa using h)
    ·exact .inr (.inl (of_decide_eq_false h))
   rw [hr]
   ((conv=>whnf);repeat ((first|(intro hq;try simp only [lnS]at hq)|refine sI ?_|refine .intro _ (.intro rfl ?_));(conv=>whnf)))
   exact⟨_,cL.pair (cL.wkd (by repeat' (first|exact trivial|exact rfl|refine And.intro ?_ ?_))),_,rfl,rfl⟩
  rw [Bool.and_eq_true]at hend
  have hbad:s4.2=false:=by simpa using hend.1
  have hnil:s4.1=[]:=of_decide_eq_true hend.2
  ((conv=>whnf);repeat ((first|(intro hq;try simp only [lnS]at hq)|refine sI ?_|refine .intro _ (.intro rfl ?_));(conv=>whnf)))
  refine aC (λh6=> ?_) (λh6=> ?_)
  ·have hr:res=(cm0,280):=by
    rw [hdec,if_pos]
    refine .inr (.inr λh=>h6 ?_)
    injection h
   rw [hr]
   ((conv=>whnf);repeat ((first|(intro hq;try simp only [lnS]at hq)|refine sI ?_|refine .intro _ (.intro rfl ?_));(conv=>whnf)))
   exact⟨_,cL.pair (cL.wkd (by repeat' (first|exact trivial|exact rfl|refine And.intro ?_ ?_))),_,rfl,rfl⟩
  have h6:e=0:=by simpa using h6
  subst h6
  ((conv=>whnf);repeat ((first|(intro hq;try simp only [lnS]at hq)|refine sI ?_|refine .intro _ (.intro rfl ?_));(conv=>whnf)))
  rw [ha,hbu]
  by_cases h7:a=bs
  ·have hr:res=(⟨no,l,⟨[y0,y1,y2,y3,y4,y5,y6,y7,y8,y9,y10,y11,y12,y13,y14,y15,y16,y17,y18,y19,y20,y21,y22,y23,y24,y25,y26,y27,y28,y29,y30,y31],hx⟩,m⟩,0):=by
    rw [hdec,if_neg]
    rintro(h|h|h)
    ·rw [hbad]at h;cases h
    ·exact h hnil
    ·exact h (by rw [h7])
   rw [hr]
   ((conv=>whnf);repeat' ((first|(intro hq;(try simp only [lnS]at hq);(try rewrite [List.length_map]))|refine sJ ?_|refine .intro _ (.intro rfl ?_)|refine exL (k:= ?_)|refine dwR ?_|((first|refine aB ?_ ?_|refine aC ?_ ?_)<;>intro hb<;>(first|exact ddX hb|try simp only [lnS]at hb))|(refine aA ?_ ?_<;>intro hb<;>try exact dsX hb))<;>(conv=>whnf)))
   all_goals first|exact absurd h7 (by assumption)|exact⟨_, .refl _,_,rfl,rfl⟩
  ·have hr:res=(cm0,280):=by
    rw [hdec,if_pos]
    refine .inr (.inr λh=>h7 ?_)
    injection h
   rw [hr]
   ((conv=>whnf);repeat' ((first|(intro hq;(try simp only [lnS]at hq);(try rewrite [List.length_map]))|refine sJ ?_|refine .intro _ (.intro rfl ?_)|refine exL (k:= ?_)|refine dwR ?_|((first|refine aB ?_ ?_|refine aC ?_ ?_)<;>intro hb<;>(first|exact ddX hb|try simp only [lnS]at hb))|(refine aA ?_ ?_<;>intro hb<;>try exact dsX hb))<;>(conv=>whnf)))
   all_goals first|exact absurd (by assumption) h7|exact⟨_,cL.pair (cL.wkd (by repeat' (first|exact trivial|exact rfl|refine And.intro ?_ ?_))),_,rfl,rfl⟩
end Go.Proofs.YtcomlapnibckmaaGreatDoor
