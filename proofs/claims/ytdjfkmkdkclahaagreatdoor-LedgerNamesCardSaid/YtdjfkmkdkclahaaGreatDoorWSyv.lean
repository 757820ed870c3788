/-
  Objects: Query as the program writes it. Queries: the order of atoms; numbers in words. Queries: lists of atoms are compared, and made compact. Queries: the tidy form of a part. More of maps: a map held against nil; memory by what lies at its numbers; a result that is data from there on. Queries: terms replaced as a map says. Statements one after another, the state between them said once. A call that is walked into, by what its body is held to; a map of names, and the boxes of the search. Statements one after another, the state between them said once; a statement may return.
  Conditions: none.
-/
import Derived.Test.YtdjfkmkdkclahaaGreatDoorWQqh
import Derived.Test.YtdjfkmkdkclahaaGreatDoorWQqg
import Derived.Test.YtdjfkmkdkclahaaGreatDoorWOb
import Derived.Test.YtdjfkmkdkclahaaGreatDoorWXv
import Derived.Test.YtdjfkmkdkclahaaGreatDoorWSne
import Derived.Test.YtdjfkmkdkclahaaGreatDoorWOh
import Derived.Test.YtdjfkmkdkclahaaGreatDoorWBt
import Derived.Test.YtdjfkmkdkclahaaGreatDoorWTcy
set_option linter.unnecessarySimpa false
set_option linter.unusedSectionVars false
set_option linter.unusedSimpArgs false
set_option linter.unusedVariables false
set_option maxHeartbeats 16000000
namespace Go.Proofs.YtdjfkmkdkclahaaGreatDoor
section
open Go.Proofs Go.RowKit
set_option maxRecDepth 10000
attribute [local irreducible] aH aF Tri aD YVC bO aP
theorem aMa {a:At}(h:atE a=0):a.name.length<=24/\a.x.length<=24/\a.y.length<=24:=by
 unfold atE at h
 by_cases h1:a.kind < 1\/3 < a.kind
 ·rw [if_pos h1]at h;simp at h
 rw [if_neg h1]at h
 by_cases h2:(a.kind≠2/\a.y≠[])\/(a.kind≠3/\(a.lo≠0\/a.hi≠0))
 ·rw [if_pos h2]at h;simp at h
 rw [if_neg h2]at h
 by_cases h3:a.lo < -1099511627776\/a.hi < a.lo\/1099511627776 < a.hi
 ·rw [if_pos h3]at h;simp at h
 rw [if_neg h3]at h
 by_cases h4:wK a.name=false
 ·rw [if_pos h4]at h;simp at h
 rw [if_neg h4]at h
 by_cases h5:dJ a.x=false
 ·rw [if_pos h5]at h;simp at h
 rw [if_neg h5]at h
 by_cases h6:a.kind=2/\dJ a.y=false
 ·rw [if_pos h6]at h;simp at h
 refine⟨aBz (by simpa using h4),xC (by simpa using h5), ?_⟩
 by_cases h7:a.kind=2
 ·refine xC ?_
  cases h8:dJ a.y
  ·exact absurd ⟨h7,h8⟩ h6
  ·rfl
 ·have:a.y=[]:=by
   refine Classical.byContradiction λh8=>h2 (.inl ⟨h7,h8⟩)
  rw [this];simp
theorem wP {q:Qy}(h:qE q=0):(wQy q).length<=1000000:=by
 rw [aIa]at h
 by_cases h1:gK q≠0
 ·rw [if_pos h1]at h;exact absurd h h1
 rw [if_neg h1]at h
 by_cases h2:bS q.parts.flatten≠0
 ·rw [if_pos h2]at h;exact absurd h h2
 rw [if_neg h2]at h
 by_cases h3:oQ q.told q.parts≠0
 ·rw [if_pos h3]at h;exact absurd h h3
 have h1:=Decidable.not_not.1 h1
 have h2:=(eF _).1 (Decidable.not_not.1 h2)
 have h3:=Decidable.not_not.1 h3
 unfold gK at h1
 split at h1
 ·simp at h1
 ·split at h1
  ·simp at h1
  ·rename_i a1 a2
   have hp: ∀p∈q.parts,p.length<=12:=by
    intro p hp
    have h3:(q.parts.any λp=>decide (p.length < 1) || decide (12 < p.length))=false:=by simpa using a2
    have h4:=List.any_eq_false.1 h3 p hp
    simp at h4
    omega
   have ht: ∀s∈q.told,lU s=true:=by
    unfold oQ at h3
    split at h3
    ·simp at h3
    ·rename_i h5
     intro s hs
     cases hv:lU s with
     |true=>rfl
     |false=>exact absurd (List.any_eq_true.2 ⟨s,hs,by rw [hv];rfl⟩) h5
   have e1:((q.told.map kN).flatten).length<=q.told.length * 21:=oI λs hs=>by
    have:=aB0 (ht s hs)
    unfold kN
    simp only [List.length_append,bJ]
    omega
   have e2:((q.parts.map (cU wAt)).flatten).length<=q.parts.length * 1300:=oI λp hp'=>by
    have e3:((p.map wAt).flatten).length<=p.length * 101:=oI λa ha=>by
     obtain⟨b1,b2,b3⟩:=aMa (h2 a (List.mem_flatten.2 ⟨p,hp',ha⟩))
     unfold wAt kN
     simp only [List.length_append,bJ,wQ,dN]
     omega
    have:=hp p hp'
    unfold cU
    simp only [List.length_append,bJ]
    omega
   unfold wQy
   unfold cU at *
   simp only [List.length_append,bJ]at *
   omega
theorem aAy {q:Qy}(h:qE q≠0):aDp q=([],qE q):=by unfold aDp;rw [if_neg h]
theorem aDy {q:Qy}(h:qE q=0):aDp q=(wQy q,0):=by unfold aDp;rw [if_pos h]
theorem pJ (q:Qy):Tri Tryz.prog 46 [.d (.agg (qyR q))] [] (λr=>r= .tup [.d (.sl 1 ((aDp q).1.map bB)), .d (.int .i64 (aDp q).2)]):=by
 refine Tri.says ?_
 have hw:=aHh q
 have hc:=pF q
 have h1:=aAy (q:=q)
 have h2:=aDy (q:=q)
 have h3:=wP (q:=q)
 generalize wQy q=out at *
 generalize aDp q=res at *
 generalize qE q=qe at *
 obtain⟨told,parts⟩:=q
 rw [show qyR ⟨told,parts⟩=[.sl 1 (told.map aT), .sl 1 (parts.map aI)]from rfl]at *
 refine qG [] hty Tryz.func46 [0,1,2,3,4,8] ?_
 ((conv=>whnf);repeat ((first|refine qT hc ?_ |(intro hq;try simp only [lnS]at hq)|refine sI ?_|refine qE_ ?_);conv=>whnf))
 refine aC (λq1=> ?_) (λq1=> ?_)
 ·rw [h1 q1]
  ((conv=>whnf);repeat ((first |(intro hq;try simp only [lnS]at hq)|refine sI ?_|refine qE_ ?_);conv=>whnf))
  exact⟨_,pairN (.d .nil) _,rfl⟩
 have q1:qe=0:=by simpa using q1
 rw [h2 q1]
 have h3:=h3 q1
 clear h1 h2 hc
 ((conv=>whnf);repeat' ((first|(intro hq;(try simp only [lnS]at hq);(try rewrite [List.length_map]))|refine sJ ?_|refine qE_ ?_|refine exL (k:=?_)|refine dwR ?_|((first|refine aB ?_ ?_|refine aC ?_ ?_)<;>intro hb<;>(first|exact ddX hb|try simp only [lnS]at hb))|(refine aA ?_ ?_<;>intro hb<;>try exact dsX hb))<;>(conv=>whnf)))
 refine aF.ownH 4 104 115 5 1 rfl (cO (by with_unfolding_all exact rfl)) (eT (by with_unfolding_all exact rfl)) ?_
 refine WrT.call hw rfl [] (by rw [List.length_nil];omega) (by decide) rfl rfl ?_
 rw [List.nil_append]
 ((conv=>whnf);repeat ((first |(intro hq;try simp only [lnS]at hq)|refine sI ?_|refine qE_ ?_);conv=>whnf))
 exact⟨_, .refl _,rfl⟩
end
section
open Go.Proofs Go.RowKit
set_option maxRecDepth 10000
attribute [local irreducible] aH aF Tri aD YVC bO aP
theorem aCb (a b:At):bE a b=orF [rY a.kind b.kind,dX a.name b.name,dX a.x b.x,dX a.y b.y,rY a.lo b.lo,rY a.hi b.hi]:=rfl
theorem hC (a b:At):Tri Tryz.prog 167 [.d (.agg (atR a)), .d (.agg (atR b))] [] (λr=>r= .d (.int .i64 (bE a b))):=by
 rw [aCb]
 rw [show atR a=[.int .i64 a.kind, .str a.name, .str a.x, .str a.y, .int .i64 a.lo, .int .i64 a.hi]from rfl,show atR b=[.int .i64 b.kind, .str b.name, .str b.x, .str b.y, .int .i64 b.lo, .int .i64 b.hi]from rfl]
 refine qG [2,3] hty Tryz.func167 [0,1,2,3,4] ?_
 ((conv=>whnf);repeat ((first |(intro hq;try simp only [lnS]at hq)|refine sI ?_|refine qE_ ?_);conv=>whnf))
 refine aBe hty 30 (by kernel_rfl) (by kernel_rfl) ?_
 ((conv=>whnf);repeat ((first |(intro hq;try simp only [lnS]at hq)|refine sI ?_|refine qE_ ?_);conv=>whnf))
 refine⟨.d (.int .i64 _),_,[],rfl,trivial,iC _ _, ?_⟩
 ((conv=>whnf);repeat ((first |(intro hq;try simp only [lnS]at hq)|refine sI ?_|refine qE_ ?_);conv=>whnf))
 refine⟨.d (.int .i64 _),_,[],rfl,trivial,iB _ _, ?_⟩
 ((conv=>whnf);repeat ((first |(intro hq;try simp only [lnS]at hq)|refine sI ?_|refine qE_ ?_);conv=>whnf))
 refine⟨.d (.int .i64 _),_,[],rfl,trivial,iB _ _, ?_⟩
 ((conv=>whnf);repeat ((first |(intro hq;try simp only [lnS]at hq)|refine sI ?_|refine qE_ ?_);conv=>whnf))
 refine⟨.d (.int .i64 _),_,[],rfl,trivial,iB _ _, ?_⟩
 ((conv=>whnf);repeat ((first |(intro hq;try simp only [lnS]at hq)|refine sI ?_|refine qE_ ?_);conv=>whnf))
 refine⟨.d (.int .i64 _),_,[],rfl,trivial,iC _ _, ?_⟩
 ((conv=>whnf);repeat ((first |(intro hq;try simp only [lnS]at hq)|refine sI ?_|refine qE_ ?_);conv=>whnf))
 refine⟨.d (.int .i64 _),_,[],rfl,trivial,iC _ _, ?_⟩
 ((conv=>whnf);repeat ((first |(intro hq;try simp only [lnS]at hq)|refine sI ?_|refine qE_ ?_);conv=>whnf))
 refine⟨[],(λr=>r= .d (.int .i64 (orF [rY a.kind b.kind,dX a.name b.name,dX a.x b.x,dX a.y b.y,rY a.lo b.lo,rY a.hi b.hi]))),trivial,Tri.osl (aLb [_,_,_,_,_,_]),λr hs=> ?_⟩
 subst hs
 ((conv=>whnf);repeat ((first |(intro hq;try simp only [lnS]at hq)|refine sI ?_|refine qE_ ?_);conv=>whnf))
 rfl
theorem aMu:Go.Sort.SWO (ltOf bE):=by
 have h:=bC
 refine⟨λx=> ?_,λx y z h1 h2=> ?_,λx y z h1 h2=> ?_⟩
 ·have:=dG.2 (rfl:x=x)
  simp [ltOf,this]
 ·simp only [ltOf,decide_eq_true_eq]at *
  exact(h.t3 x y z).1 h1 h2
 ·simp only [ltOf,decide_eq_false_iff_not]at *
  exact h.ord.tr z y x (by simpa using h2) (by simpa using h1) |> λq=>by simpa using q
theorem aCt (k:Nat) (h:k<=9):Tri Tryz.prog 226 [.d (.int .i64 k)] [] (λr=>r= .d (.str [UInt8.ofNat (48+k)])):=by
 have e:k=0\/k=1\/k=2\/k=3\/k=4\/k=5\/k=6\/k=7\/k=8\/k=9:=by omega
 rcases e with rfl|rfl|rfl|rfl|rfl|rfl|rfl|rfl|rfl|rfl
 all_goals
  refine qG [] hty Tryz.func226 [0,2,4] ?_
  ((conv=>whnf);repeat' ((first|(intro hq;(try simp only [lnS]at hq);(try rewrite [List.length_map]))|refine sJ ?_|refine qE_ ?_|refine exL (k:=?_)|refine dwR ?_|((first|refine aB ?_ ?_|refine aC ?_ ?_)<;>intro hb<;>(first|exact ddX hb|try simp only [lnS]at hb))|(refine aA ?_ ?_<;>intro hb<;>try exact dsX hb))<;>(conv=>whnf)))
  rfl
theorem sW (k:Nat) (h:k<=9):Tri Tryz.prog 206 [.d (.int .i64 k), .d (.int .i64 10)] [] (λr=>r= .d (.str [UInt8.ofNat (48+k)])):=by
 have h1:=aCt k h
 refine qG [] hty Tryz.func206 [0,1,4,5,6,7,9,11,17,23,34] ?_
 ((conv=>whnf);repeat ((first |(intro hq;try simp only [lnS]at hq)|refine sI ?_|refine qE_ ?_);conv=>whnf))
 refine aB (λq=> ?_) (λq=>absurd (by omega) q)
 ((conv=>whnf);repeat ((first|refine qT h1 ?_ |(intro hq;try simp only [lnS]at hq)|refine sI ?_|refine qE_ ?_);conv=>whnf))
 rfl
theorem aFv (k:Nat) (h:k<=9):Tri Tryz.prog 110 [.d (.int .i64 k)] [] (λr=>r= .d (.str [UInt8.ofNat (48+k)])):=by
 have h1:=sW k h
 have h2:Tri Tryz.prog 163 [.d (.int .i64 k)] [] (λr=>r= .d (.str [UInt8.ofNat (48+k)])):=by
  refine qG [] hty Tryz.func163 [0,2] ?_
  ((conv=>whnf);repeat ((first|refine qT h1 ?_ |(intro hq;try simp only [lnS]at hq)|refine sI ?_|refine qE_ ?_);conv=>whnf))
  rfl
 refine qG [] hty Tryz.func110 [0,2] ?_
 ((conv=>whnf);repeat ((first|refine qT h2 ?_ |(intro hq;try simp only [lnS]at hq)|refine sI ?_|refine qE_ ?_);conv=>whnf))
 rfl
end
section
open Go.Proofs Go.RowKit
set_option maxRecDepth 10000
attribute [local irreducible] aH aF Tri aD YVC bO aP
theorem cT (a:At):atR a=[.int .i64 a.kind, .str a.name, .str a.x, .str a.y, .int .i64 a.lo, .int .i64 a.hi]:=rfl
def rM (a b:At):Bool:=decide (a=b)
theorem aMh:aOg Tryz.prog 60=true:=by kernel_rfl
theorem aMk (a b:At):(decide (a.kind=b.kind) && (decide (a.name=b.name) && (decide (a.x=b.x) && (decide (a.y=b.y) && (decide (a.lo=b.lo) && (decide (a.hi=b.hi) && true))))))=rM a b:=by
 unfold rM
 rw [Bool.eq_iff_iff]
 cases a;cases b
 simp
theorem tA (f:FuncId) (hcall:cZ Tryz.prog f=true) (l m:List At) (hf: ∀a∈l,∀b∈m,Tri Tryz.prog f [.d (.agg (atR a)), .d (.agg (atR b))] [] (λr=>r= .d (.int .i64 (bE a b)))):
  Tri Tryz.prog 168 [.d (.sl 6 (l.map atR)), .d (.sl 6 (m.map atR)), .fn f [] []] [] (λr=>r= .d (.int .i64 (bH bE l m))):=by
 refine qG [8,9] hty Tryz.func168 [0,1,2,6,7,8,9,10,11,12,13,14,21,31,38] ?_
 ((conv=>whnf);repeat ((first |(intro hq;try simp only [lnS]at hq)|refine sI ?_|refine qE_ ?_);conv=>whnf))
 refine aG hty (λj:Nat=>([(0, .d (.sl 6 (l.map atR))),(1, .d (.sl 6 (m.map atR))),(2, .fn f [] []),(11, .d (.sl 6 (l.map atR))),(12, .d (.int .i64 l.length)),(13, .d (.int .i64 j))],[])) (λj=>j<=l.length/\j<=m.length/\bH bE l m=bH bE (l.drop j) (m.drop j)) (λj=>l.length - j) 0 ⟨by omega,by omega,rfl⟩ ⟨by repeat' (first|exact trivial|exact rfl|(rw [List.length_map];exact rfl)|refine And.intro ?_ ?_),trivial⟩ ?_
 rintro j ⟨hj,hjm,hn⟩
 ((conv=>whnf);repeat ((first |(intro hq;try simp only [lnS]at hq)|refine sI ?_|refine qE_ ?_);conv=>whnf))
 refine aB (λh1=> ?_) (λh1=> ?_)
 ·have hjl:j < l.length:=by omega
  have hrow:(l.map atR)[(j:Int).toNat]? =some (atR l[j]):=aK hjl
  rw [cT]at hrow
  rw [List.drop_eq_getElem_cons hjl]at hn
  ((conv=>whnf);repeat ((first|(refine⟨_,hrow, ?_⟩) |(intro hq;try simp only [lnS]at hq)|refine sI ?_|refine qE_ ?_);conv=>whnf))
  refine aB (λh2=> ?_) (λh2=> ?_)
  ·have hm:m.drop j=[]:=List.drop_eq_nil_of_le (by simp only [List.length_map]at h2;omega)
   rw [hm,bH]at hn
   ((conv=>whnf);repeat' ((first|(intro hq;(try simp only [lnS]at hq);(try rewrite [List.length_map]))|refine sJ ?_|refine qE_ ?_|refine exL (k:=?_)|refine dwR ?_|((first|refine aB ?_ ?_|refine aC ?_ ?_)<;>intro hb<;>(first|exact ddX hb|try simp only [lnS]at hb))|(refine aA ?_ ?_<;>intro hb<;>try exact dsX hb))<;>(conv=>whnf)))
   exact fX hn.symm
  ·have hjm2:j < m.length:=by simp only [List.length_map]at h2;omega
   have hrow2:(m.map atR)[(j:Int).toNat]? =some (atR m[j]):=aK hjm2
   rw [cT]at hrow2
   have hi:=hf l[j] (List.getElem_mem hjl) m[j] (List.getElem_mem hjm2)
   rw [cT,cT]at hi
   rw [List.drop_eq_getElem_cons hjm2,bH]at hn
   ((conv=>whnf);repeat' ((first|(intro hq;(try simp only [lnS]at hq);(try rewrite [List.length_map]))|refine sJ ?_|refine qE_ ?_|refine exL (k:=?_)| (refine⟨_,hrow2, ?_⟩)|refine qT hi ?_|refine dwR ?_|((first|refine aB ?_ ?_|refine aC ?_ ?_)<;>intro hb<;>(first|exact ddX hb|try simp only [lnS]at hb))|(refine aA ?_ ?_<;>intro hb<;>try exact dsX hb))<;>(conv=>whnf)))
   ·rw [if_pos (by assumption)]at hn
    exact fX hn.symm
   ·rw [if_neg (by simpa using (by assumption:bE l[j] m[j]=0))]at hn
    exact⟨j+1,⟨by omega,by omega,hn⟩,qO,qB,trivial⟩
 ·have hjl:j=l.length:=by omega
  subst hjl
  rw [List.drop_length]at hn
  ((conv=>whnf);repeat' ((first|(intro hq;(try simp only [lnS]at hq);(try rewrite [List.length_map]))|refine sJ ?_|refine qE_ ?_|refine exL (k:=?_)|refine dwR ?_|((first|refine aB ?_ ?_|refine aC ?_ ?_)<;>intro hb<;>(first|exact ddX hb|try simp only [lnS]at hb))|(refine aA ?_ ?_<;>intro hb<;>try exact dsX hb))<;>(conv=>whnf)))
  ·have hjm2:l.length < m.length:=by simp_all
   rw [List.drop_eq_getElem_cons hjm2,bH]at hn
   exact fX hn.symm
  ·have hjm2:m.drop l.length=[]:=List.drop_eq_nil_of_le (by simp_all)
   rw [hjm2,bH]at hn
   exact fX hn.symm
theorem tB (l:List At) (hlen:l.length<=1000000)
  (cap n:Nat) (hn:n=l.length) (hp0:Hp) {pin:Pin} {fr:Fr} {K:SV->Hp->Prop} (hp1: ∀k,100<=k->k∉pin) (hf: ∀k,100<=k->k∉fS fr) (hh: ∀k,100<=k->k∉jP hp0) (hno:aM hp0 70=none) (hsub: ∀o,sA hp0 ((70,o)::hp0))
  (hk: ∀cap',K (.mw 170 6 (kC rM l).length) ((170, .mrow 60 6 cap' ((kC rM l).map atR))::hp0)):
  aF Tryz.prog pin fr ((70, .mrow 60 6 cap (l.map atR))::hp0) 170 [.mw 70 6 n] K:=by
 subst hn
 have fin: ∀(rows:List (List D)) (s:SV) (k:Nat),(s= .ms 70 6 0 k l.length\/(s= .mw 70 6 l.length/\k=l.length))->l.length=rows.length->k=(kC rM l).length->rows.take k=(kC rM l).map atR->PartP pin fr K 170 s ((70, .mrow 60 6 cap rows)::hp0):=by
  intro rows s k h1 h2 h3 h4
  refine⟨70,_,6,cap,k,l.length,rows,hp0,h1,rfl,h2,by rw [h3];exact vW _ _,⟨hp1 _ (by decide),hf _ (by decide),aPc (by decide) rfl hh _ (by decide)⟩,hsub _,hno,λcap'=> ?_⟩
  rw [h3]at h4 |-
  rw [h4]
  exact hk cap'
 refine aF.closeP 170 ?_
 refine aN false [] hty Tryz.func170 rfl (kp [0,2,3,4,5,8,13,25,32,44]) 200 (by simp [Tryz.f170]) ?_
 ((conv=>whnf);repeat' ((first|(intro hq;(try simp only [lnS]at hq);(try rewrite [List.length_map]))|refine sJ ?_|refine qE_ ?_|refine exL (k:=?_)|refine dwR ?_|((first|refine aB ?_ ?_|refine aC ?_ ?_)<;>intro hb<;>(first|exact ddX hb|try simp only [lnS]at hb))|(refine aA ?_ ?_<;>intro hb<;>try exact dsX hb))<;>(conv=>whnf)))
 ·have hd:kC rM l=l:=jQ _ _ (by omega)
  exact fin _ _ l.length (.inr ⟨rfl,rfl⟩) (List.length_map ..).symm (by rw [hd]) (by rw [hd,List.take_of_length_le (by rw [List.length_map];exact Nat.le_refl _)])
 ·refine mG hty (λk:Nat=>([(0, .mw 70 6 l.length),(3, .d (.int .i64 k))],(70, .mrow 60 6 cap (l.map atR))::hp0)) (λk=>(1<=k/\k<=l.length)/\kC rM (l.take k)=l.take k) (λk=>l.length - k) 1 ⟨by omega,jQ _ _ (by rw [List.length_take];omega)⟩ qB rfl ?_
  rintro k ⟨⟨hk1,hkl⟩,hd⟩
  ((conv=>whnf);repeat ((first |(intro hq;try simp only [lnS]at hq)|refine sI ?_|refine qE_ ?_);conv=>whnf))
  refine aB (λh1=> ?_) (λh1=> ?_)
  ·have hkl':k < l.length:=by omega
   have hkp:k - 1 < l.length:=by omega
   have hrow1:(l.map atR)[(k:Int).toNat]? =some (atR l[k]):=aK hkl'
   have hrow2:(l.map atR)[((k:Int) - 1).toNat]? =some (atR l[k - 1]):=by
    rw [show ((k:Int) - 1).toNat=k - 1 by omega,List.getElem?_map,List.getElem?_eq_getElem hkp];rfl
   have hdt:=lQ rM l (k - 1) (by omega)
   simp only [show k - 1+1=k by omega,show k - 1+2=k+1 by omega]at hdt
   ((conv=>whnf);repeat ((first |(intro hq;try simp only [lnS]at hq)|refine sI ?_|refine qE_ ?_);conv=>whnf))
   refine dwR ?_
   ((conv=>whnf);repeat ((first|(refine And.intro aMh ?_)|(refine And.intro (List.length_map ..).symm ?_)|(refine⟨_,hrow1, ?_⟩)|(refine⟨_,hrow2, ?_⟩) |(intro hq;try simp only [lnS]at hq)|refine sI ?_|refine qE_ ?_);conv=>whnf))
   rw [aMk]
   cases hb:rM l[k] l[k - 1]
   ·((conv=>whnf);repeat' ((first|(intro hq;(try simp only [lnS]at hq);(try rewrite [List.length_map]))|refine sJ ?_|refine qE_ ?_|refine exL (k:=?_)|refine dwR ?_|((first|refine aB ?_ ?_|refine aC ?_ ?_)<;>intro hb<;>(first|exact ddX hb|try simp only [lnS]at hb))|(refine aA ?_ ?_<;>intro hb<;>try exact dsX hb))<;>(conv=>whnf)))
    rw [hb,if_neg (by decide),hd]at hdt
    exact⟨k+1,⟨⟨by omega,by omega⟩,by rw [hdt];exact(List.take_succ_eq_append_getElem hkl').symm⟩,qO,qB,rfl⟩
   ·rw [hb,if_pos rfl,hd]at hdt
    ((conv=>whnf);repeat ((first|(refine jK hty rfl rfl rfl rfl rfl rfl ?_) |(intro hq;try simp only [lnS]at hq)|refine sI ?_|refine qE_ ?_);conv=>whnf))
    rw [show ((k:Int)).toNat=k from rfl]
    refine mG hty (λy:Nat×Nat×List At=>([(0, .mw 70 6 l.length),(3, .d (.int .i64 y.2.1)),(4, .ms 70 6 k (l.length - k) l.length),(5, .d (.int .i64 y.1))],(70, .mrow 60 6 cap (y.2.2.map atR))::hp0))
     (λy=>(1<=y.1/\y.1<=l.length - k)/\y.2.2.length=l.length/\(y.2.1+1<=k+y.1/\1<=y.2.1)/\y.2.2.take y.2.1=kC rM (l.take (k+y.1))/\y.2.2.drop (k+y.1 - 1)=l.drop (k+y.1 - 1)) (λy=>l.length - k - y.1) (1,k,l) ⟨qO,rfl,qO,hdt.symm,rfl⟩ qB rfl ?_
    rintro⟨k2,m,q⟩ ⟨⟨hk21,hk2l⟩,hql,⟨hm1,hm0⟩,ht,hdr⟩
    dsimp only at hk21 hk2l hql hm1 hm0 ht hdr
    ((conv=>whnf);repeat ((first|(refine aBu hty rfl rfl rfl ?_) |(intro hq;try simp only [lnS]at hq)|refine sI ?_|refine qE_ ?_);conv=>whnf))
    refine aB (λh2=> ?_) (λh2=> ?_)
    ·have hA:k+k2 < l.length:=by dsimp only at h2;omega
     have hB:k+k2 - 1 < l.length:=by omega
     have hml:m < q.length:=by omega
     have eA:q[k+k2]'(hql ▸ hA)=l[k+k2]:=cS hdr hql (by omega) hA
     have eB:q[k+k2 - 1]'(hql ▸ hB)=l[k+k2 - 1]:=cS hdr hql (by omega) hB
     have hrowA:(q.map atR)[k+(k2:Int).toNat]? =some (atR l[k+k2]):=by
      rw [Int.toNat_natCast,List.getElem?_map,List.getElem?_eq_getElem (hql ▸ hA),eA];rfl
     have hrowB:(q.map atR)[k+((k2:Int) - 1).toNat]? =some (atR l[k+k2 - 1]):=by
      rw [show k+((k2:Int) - 1).toNat=k+k2 - 1 by omega,List.getElem?_map,List.getElem?_eq_getElem (hql ▸ hB),eB];rfl
     have hrowM:(q.map atR)[(m:Int).toNat]? =some (atR q[m]):=aK hml
     have hdt2:=lQ rM l (k+k2 - 1) (by omega)
     simp only [show k+k2 - 1+1=k+k2 by omega,show k+k2 - 1+2=k+(k2+1)by omega]at hdt2
     have hlq:l.length=(q.map atR).length:=by rw [List.length_map,hql]
     have hdr2:q.drop (k+k2)=l.drop (k+k2):=by
      have:=congrArg (List.drop 1) hdr
      rw [List.drop_drop,List.drop_drop,show k+k2 - 1+1=k+k2 by omega]at this
      exact this
     ((conv=>whnf);repeat ((first |(intro hq;try simp only [lnS]at hq)|refine sI ?_|refine qE_ ?_);conv=>whnf))
     refine dwR ?_
     ((conv=>whnf);repeat ((first|(refine And.intro aMh ?_)|(refine And.intro hlq ?_)|(refine⟨_,hrowA, ?_⟩)|(refine⟨_,hrowB, ?_⟩) |(intro hq;try simp only [lnS]at hq)|refine sI ?_|refine qE_ ?_);conv=>whnf))
     rw [aMk]
     cases hb2:rM l[k+k2] l[k+k2 - 1]
     ·((conv=>whnf);repeat' ((first|(intro hq;(try simp only [lnS]at hq);(try rewrite [List.length_map]))|refine sJ ?_|refine qE_ ?_|refine exL (k:=?_)| (refine And.intro hlq ?_)|(refine⟨_,hrowA, ?_⟩)|(refine⟨_,hrowM, ?_⟩)|(refine And.intro (oF rfl) ?_)|refine dwR ?_|((first|refine aB ?_ ?_|refine aC ?_ ?_)<;>intro hb<;>(first|exact ddX hb|try simp only [lnS]at hb))|(refine aA ?_ ?_<;>intro hb<;>try exact dsX hb))<;>(conv=>whnf)))
      rw [hb2,if_neg (by decide),<-ht]at hdt2
      refine⟨(k2+1,m+1,q.set m l[k+k2]),⟨qO,by dsimp only;rw [List.length_set];exact hql,qO, ?_, ?_⟩,qO,qB, ?_⟩
      ·dsimp only
       rw [hdt2]
       exact kQ _ hml
      ·dsimp only
       rw [show k+(k2+1) - 1=k+k2 by omega,List.drop_set_of_lt (by omega)]
       exact hdr2
      ·dsimp only
       rw [List.map_set]
       rfl
     ·((conv=>whnf);repeat' ((first|(intro hq;(try simp only [lnS]at hq);(try rewrite [List.length_map]))|refine sJ ?_|refine qE_ ?_|refine exL (k:=?_)|refine dwR ?_|((first|refine aB ?_ ?_|refine aC ?_ ?_)<;>intro hb<;>(first|exact ddX hb|try simp only [lnS]at hb))|(refine aA ?_ ?_<;>intro hb<;>try exact dsX hb))<;>(conv=>whnf)))
      rw [hb2,if_pos rfl]at hdt2
      exact⟨(k2+1,m,q),⟨qO,hql,qO,by dsimp only;rw [hdt2];exact ht,by dsimp only;rw [show k+(k2+1) - 1=k+k2 by omega];exact hdr2⟩,qO,qB,rfl⟩
    ·have hke:k+k2=l.length:=by dsimp only at h2;omega
     rw [hke,List.take_length]at ht
     have hlq:l.length=(q.map atR).length:=by rw [List.length_map,hql]
     have hmq:m+(l.length - m)=(q.map atR).length:=by rw [List.length_map,hql];omega
     have hml:=congrArg List.length ht
     rw [List.length_take,Nat.min_eq_left (by omega)]at hml
     ((conv=>whnf);repeat' ((first|(intro hq;(try simp only [lnS]at hq);(try rewrite [List.length_map]))|refine sJ ?_|refine qE_ ?_|refine exL (k:=?_)| (refine jK hty rfl rfl rfl rfl rfl rfl ?_)|(refine uH hty rfl rfl (by decide) rfl rfl rfl hlq hmq ?_)|refine dwR ?_|((first|refine aB ?_ ?_|refine aC ?_ ?_)<;>intro hb<;>(first|exact ddX hb|try simp only [lnS]at hb))|(refine aA ?_ ?_<;>intro hb<;>try exact dsX hb))<;>(conv=>whnf)))
     refine fin _ _ m (.inl rfl) ?_ hml ?_
     ·simp only [List.length_append,List.length_take,List.length_replicate,List.length_map]
      show l.length=min m q.length+(l.length - m)
      omega
     ·show ((q.map atR).take m++_).take m=_
      rw [List.take_append_of_le_length (by rw [List.length_take,List.length_map];omega),List.take_take,Nat.min_self,<-List.map_take,ht]
  ·have hkl':k=l.length:=by omega
   subst hkl'
   rw [List.take_length]at hd
   ((conv=>whnf);repeat' ((first|(intro hq;(try simp only [lnS]at hq);(try rewrite [List.length_map]))|refine sJ ?_|refine qE_ ?_|refine exL (k:=?_)|refine dwR ?_|((first|refine aB ?_ ?_|refine aC ?_ ?_)<;>intro hb<;>(first|exact ddX hb|try simp only [lnS]at hb))|(refine aA ?_ ?_<;>intro hb<;>try exact dsX hb))<;>(conv=>whnf)))
   exact fin _ _ l.length (.inr ⟨rfl,rfl⟩) (List.length_map ..).symm (by rw [hd]) (by rw [hd,List.take_of_length_le (by rw [List.length_map];exact Nat.le_refl _)])
end
section
open Go.Proofs Go.RowKit
set_option maxRecDepth 10000
attribute [local irreducible] aH aF Tri aD YVC bO aP
theorem aGj: ∀(p:At) (l:List At),(p::l).Pairwise (λa b=>¬ bE b a < 0)->(p::sX rM p l).Pairwise (λa b=>bE a b < 0)/\ ∀x,x∈p::sX rM p l↔x∈p::l
 |p,[],_=>⟨by simp [sX],λx=>by simp [sX]⟩
 |p,b::r,h=>by
  have h1:=List.pairwise_cons.1 h
  obtain⟨i1,i2⟩:=aGj b r h1.2
  rw [sX]
  by_cases he:b=p
  ·subst he
   rw [if_pos (by simp [rM])]
   exact⟨i1,λx=>by rw [i2];simp⟩
  ·rw [if_neg (by simp [rM,he])]
   have hlt:bE p b < 0:=by
    have h2:=h1.1 b (by simp)
    have h3:=bC.anti p b
    have h4:bE p b≠0:= λe=>he (dG.1 e).symm
    omega
   refine⟨List.pairwise_cons.2 ⟨λx hx=> ?_,i1⟩,λx=> ?_⟩
   ·rcases List.mem_cons.1 hx with rfl|hx
    ·exact hlt
    ·exact(bC.t3 p b x).1 hlt ((List.pairwise_cons.1 i1).1 x hx)
   ·rw [List.mem_cons,i2,List.mem_cons (a:=x) (b:=p)]
theorem aM2 {l l':List At}(hp:l'.Perm l) (hs:l'.Pairwise (λa b=>¬ bE b a < 0)):kC rM l'=lV l:=by
 have h:IsTid l (kC rM l'):=by
  cases l' with
  |nil=>
   have:=hp.symm.eq_nil
   subst this
   exact uV (by simp [kC]) (by simp [kC])
  |cons a r=>
   obtain⟨h1,h2⟩:=aGj a r hs
   exact uV h1 λx=>(h2 x).trans hp.mem_iff
 exact h.uniq (iN l) λ_=>Iff.rfl
theorem aF.nilM {P:Program}{pin:Pin}{fr:Fr}{hp:Hp}{f:FuncId}{args:List SV}{K:SV->Hp->Prop}(id e z:Nat)
  (h:aF P pin fr hp f args λs hp'=>(s= .d .nil/\fA id pin fr hp'/\K (.mw id z 0) ((id, .mrow e z 0 [])::hp'))\/K s hp'):aF P pin fr hp f args K:=by
 unfold aF at *
 intro E ρ0 w0 tm hpin h30 h40 vs hargs
 refine(h E ρ0 w0 tm hpin h30 h40 vs hargs).mono ?_
 rintro e0 w (⟨v,ρ,s,hp1,rfl,⟨rfl,⟨f1,f2,f3⟩,hk⟩|hk,h3,h4,hr⟩|hpan)
 ·obtain⟨m1,m2,m3⟩:=h3.newMrow (id:=id) (e:=e) (z:=z) (cap:=0) (rows:=[]) (v:= .slice none 0 0) f3 (by rw [hpin];exact f1) (Grew.refl w) (.inl ⟨rfl,rfl,none,rfl⟩) (λg hg=>by simp [dM]at hg)
  have ev:=hr.nil_inv
  subst ev
  exact .inl ⟨_,_,_,_,rfl,hk,m1,h4.mono m2 (λ_ _ x=>x) λi hi=>m3 i λe=>f2 (e ▸ hi), .mw id z 0 0 none (by simp) (by simp) (λh=>absurd rfl h) (by simp [Env.retop]) (by simp [Env.retop])⟩
 ·exact .inl ⟨v,ρ,s,hp1,rfl,hk,h3,h4,hr⟩
 ·exact .inr hpan
theorem aAa (l:List At) (hl:l.length<=1000000) {pin:Pin}{fr:Fr}{hp:Hp}{K:SV->Hp->Prop}(hfr:fA 70 pin fr hp)
  (hk: ∀cap,K (.mw 70 6 l.length) ((70, .mrow 60 6 cap (l.map atR))::hp)):
  aF Tryz.prog pin fr hp 169 [.d (.sl 6 (l.map atR))] K:=by
 refine aF.nilM 70 60 6 ?_
 refine zG true hty Tryz.func169 rfl (kp [0,2,4]) 63 (by simp [Tryz.f169]) ?_
 obtain⟨f1,f2,f3⟩:=hfr
 ((conv=>whnf);repeat' ((first|(intro hq;(try simp only [lnS]at hq);(try rewrite [List.length_map]))|refine sJ ?_|refine qE_ ?_|refine exL (k:=?_)|refine dwR ?_|((first|refine aB ?_ ?_|refine aC ?_ ?_)<;>intro hb<;>(first|exact ddX hb|try simp only [lnS]at hb))|(refine aA ?_ ?_<;>intro hb<;>try exact dsX hb))<;>(conv=>whnf)))
 ·rename_i b
  have e:=hq hb
  have e:l=[]:=List.map_eq_nil_iff.1 e
  subst e
  exact .inl ⟨rfl,⟨f1,f2,f3⟩,hk 0⟩
 ·refine⟨⟨by rw [pN];exact λh=>h.elim f1 f2, ?_,f3⟩, ?_, ?_,λcap hc=> ?_⟩
  ·simp [aIv,aG2,SV.ids,aAl]
  ·rw [List.length_map];omega
  ·show (l.map atR).length * 72<=140737488355328
   rw [List.length_map];omega
  ·((conv=>whnf);repeat ((first |(intro hq;try simp only [lnS]at hq)|refine sI ?_|refine qE_ ?_);conv=>whnf))
   rw [List.length_map]
   exact .inr (hk cap)
theorem aD3 (l:List At) (hl:l.length<=100000):Tri Tryz.prog 112 [.d (.agg (aI l))] [] (λr=>r= .d (.agg (aI (lV l)))):=by
 show Tri Tryz.prog 112 [.d (.agg [.sl 6 (l.map atR)])] [] _
 refine qG [1] hty Tryz.func112 [0,1,2,3] ?_
 ((conv=>whnf);repeat ((first |(intro hq;try simp only [lnS]at hq)|refine sI ?_|refine qE_ ?_);conv=>whnf))
 refine aAa l (by omega) (cO (by with_unfolding_all exact rfl)) (λcap=> ?_)
 ((conv=>whnf);repeat ((first |(intro hq;try simp only [lnS]at hq)|refine sI ?_|refine qE_ ?_);conv=>whnf))
 refine kR Tryz.sortAt (by decide) aBv aEr (enters_of Tryz.func167 (by kernel_rfl) rfl) l atR bE aMu (λx _ y _=>hC x y) (id:=70) rfl rfl (by omega) (λl' hp' hs'=> ?_)
 ((conv=>whnf);repeat ((first |(intro hq;try simp only [lnS]at hq)|refine sI ?_|refine qE_ ?_);conv=>whnf))
 have hll:=hp'.length_eq
 refine tB l' (by omega) cap _ hll.symm [(2, .cells 35 [.d .nil])] (by simp) (aOh (by with_unfolding_all exact rfl)) (by simp [jP,HObj.ids,SV.idsL,SV.ids,aAl];try omega) rfl (λo=>qB) (λcap'=> ?_)
 have hdl:=vW rM l'
 rw [aM2 hp' hs']at hdl |-
 ((conv=>whnf);repeat' ((first|(intro hq;(try simp only [lnS]at hq);(try rewrite [List.length_map]))|refine sJ ?_|refine qE_ ?_|refine exL (k:=?_)|refine dwR ?_|((first|refine aB ?_ ?_|refine aC ?_ ?_)<;>intro hb<;>(first|exact ddX hb|try simp only [lnS]at hb))|(refine aA ?_ ?_<;>intro hb<;>try exact dsX hb))<;>(conv=>whnf)))
 exact⟨(List.length_map ..).symm,rfl,rfl⟩
end
section
open Go.Proofs Go.RowKit
section
variable {P:Program}
theorem aH.ownC {C:Cfg}{c:Code}{fr:Fr}{hp:Hp}{K:Ex->Fr->Hp->Prop}(i id t e z k:Nat) {cs:List SV}(hnil:aM hp i=some (.cells t cs)) (hk:cs[k]? =some (.d .nil)) (hfr:fA id C.pin fr hp)
  (h:aH C c fr ((id, .own e z 0)::dQ hp i (.cells t (cs.set k (.osl id z [])))) K):aH C c fr hp K:=by
 intro E a w hpin hrd hsat
 obtain⟨h1,h2,ρ,h3,h4⟩:=hsat
 obtain⟨f1,f2,f3⟩:=hfr
 obtain⟨m1,m2,m3⟩:=h3.newNil (id:=id) e z f3 (by rw [hpin];exact f1)
 have hne:i≠id:= λe=>f3 (by subst e;exact bA hnil (.inl rfl))
 have hi':aM ((id,HObj.own e z 0)::hp) i=some (.cells t cs):=by
  simp only [aM];rw [if_neg (Ne.symm hne)];exact hnil
 have hkl:k < cs.length:=(List.getElem?_eq_some_iff.1 hk).1
 have m4 := m1.recell hi' (cs' := cs.set k (.osl id z [])) (by simp) (λj s' v hs' hv => by
  by_cases e:j=k
  ·subst e
   rw [List.getElem?_set_self hkl]at hs'
   injection hs' with hs'
   subst hs'
   have:=(hv _ hk).nil_inv
   subst this
   exact m3
  ·rw [List.getElem?_set_ne (Ne.symm e)]at hs'
   exact hv _ hs')
 have e2:dQ ((id,HObj.own e z 0)::hp) i (.cells t (cs.set k (.osl id z [])))=(id, .own e z 0)::dQ hp i (.cells t (cs.set k (.osl id z []))):=by
  simp only [dQ];rw [if_neg (Ne.symm hne)]
 rw [e2]at m4
 exact h E a w hpin hrd ⟨h1,h2,_,m4,m2 fr a.tmps f2 h4⟩
end
abbrev Byt:=List UInt8
def aEl (l:Byt):D:= .str l
end
section
open Go.Proofs Go.RowKit
set_option maxRecDepth 10000
attribute [local irreducible] aH aF Tri aD YVC bO aP
def rO (F:Mp):List (bG×SV):=F.map λp=>(p.1, .d (.str p.2))
theorem pM (k:bG): ∀F:Mp,sK (rO F) k=(sK F k).map λs=> .d (.str s)
 | []=>rfl
 |(x,y)::r=>by
  show (if k=x then _ else _)=Option.map _ (if k=x then _ else _)
  by_cases h:k=x
  ·rw [if_pos h,if_pos h];rfl
  ·rw [if_neg h,if_neg h];exact pM k r
theorem pL (k s:bG): ∀F:Mp,yA (rO F) k (.d (.str s))=rO (yA F k s)
 | []=>rfl
 |(x,y)::r=>by
  show (if k=x then _ else _)=rO (if k=x then _ else _)
  by_cases h:k=x
  ·rw [if_pos h,if_pos h];rfl
  ·rw [if_neg h,if_neg h];show _::yA (rO r) k _=_;rw [pL k s r];rfl
theorem nmC {k id:Nat}{o:HObj}{hp:Hp}(h1:k≠id) (h2:o.ids.elem k=false) (h:k∉jP hp):k∉jP ((id,o)::hp):=by
 intro hm
 simp only [jP,List.flatMap_cons,List.mem_append,List.mem_cons]at hm
 rcases hm with(hm|hm)|hm
 ·exact h1 hm
 ·exact eT h2 hm
 ·exact h hm
theorem xJ (l:List At) (hl:l.length<=1000000) (F:Mp) (bs:List Nat) (ck:Nat) {pin:Pin}{fr:Fr}{hp:Hp}{K:SV->Hp->Prop}(hm:aM hp 33=some (.ext (yB aEl (rO F) bs ck)))
  (hp1: ∀k,60<=k->k∉pin) (hf: ∀k,60<=k->k∉fS fr) (hh: ∀k,60<=k->k∉jP hp) (hs0: ∀b,sA hp ((70,b)::hp)) (hs: ∀a b c,sA hp ((140,a)::(106,b)::(70,c)::hp))
  (hk: ∀cap,K (.mw 70 6 (l.map (rpA (gF F))).length) ((70, .mrow 60 6 cap ((l.map (rpA (gF F))).map atR))::hp)):
  aF Tryz.prog pin fr hp 165 [.d (.agg [.sl 6 (l.map atR)]), .xv 33 aBq] K:=by
 have hlm:(l.map atR).length=l.length:=List.length_map ..
 have hbig: ∀k,60<=k->k∉pin.under fr (fS fr):= λk hk h=>(pN.1 h).elim (hp1 k hk) (hf k hk)
 refine aN false [2] hty Tryz.func165 rfl (kp [0,1,2,4,6,7,8,9,10,12,13,14,15,25,35]) 100 (by simp [Tryz.f165]) ?_
 ((conv=>whnf);repeat ((first|(refine frH ⟨hbig _ (Nat.le_of_ble_eq_true rfl),eT (by with_unfolding_all exact rfl),hh _ (Nat.le_of_ble_eq_true rfl)⟩ ?_)|(refine nmH (hh _ (Nat.le_of_ble_eq_true rfl)) ?_) |(intro hq;try simp only [lnS]at hq)|refine sI ?_|refine qE_ ?_);conv=>whnf))
 refine aH.mown 4 70 60 6 rfl (by exact⟨hbig _ (by decide),eT (by with_unfolding_all exact rfl),hh _ (by decide)⟩) ?_
 have hrp: ∀a:At,rpA (gF F) a=⟨a.kind,a.name,(sK F a.x).getD a.x,(sK F a.y).getD a.y,a.lo,a.hi⟩:= λa=>rfl
 refine aG hty (λy:Nat×Nat=>([(1, .xv 33 aBq),(4, .mw 70 6 y.1),(12, .d (.sl 6 (l.map atR))),(13, .d (.int .i64 l.length)),(14, .d (.int .i64 y.1))],(70, .mrow 60 6 y.2 (((l.take y.1).map (rpA (gF F))).map atR))::hp)) (λy=>y.1<=l.length) (λy=>l.length - y.1) (0,0) (Nat.zero_le _) ⟨by repeat' (first|exact trivial|exact rfl|(rw [hlm];exact rfl)|refine And.intro ?_ ?_),rfl,hs0 _⟩ ?_
 rintro⟨j,cap⟩ hj
 dsimp only at hj
 ((conv=>whnf);repeat ((first |(intro hq;try simp only [lnS]at hq)|refine sI ?_|refine qE_ ?_);conv=>whnf))
 refine aB (λh1=> ?_) (λh1=> ?_)
 ·have hjl:j < l.length:=by dsimp only at h1;omega
  have hrow:(l.map atR)[(j:Int).toNat]? =some (atR l[j]):=aK hjl
  rw [cT]at hrow
  have hrp:=hrp l[j]
  have hmx:=pM l[j].x F
  have hmy:=pM l[j].y F
  have hfn:((l.take (j+1)).map (rpA (gF F))).map atR=((l.take j).map (rpA (gF F))).map atR++[atR (rpA (gF F) l[j])]:=by
   rw [List.take_succ_eq_append_getElem hjl,List.map_append,List.map_append];rfl
  have hln:(((l.take j).map (rpA (gF F))).map atR).length=j:=by rw [List.length_map,List.length_map,List.length_take];omega
  generalize sK F l[j].x=mx at *
  generalize sK F l[j].y=my at *
  ((conv=>whnf);repeat ((first|(refine⟨_,hrow, ?_⟩)|(refine frH ⟨hbig _ (Nat.le_of_ble_eq_true rfl),eT (by with_unfolding_all exact rfl),nmC (Nat.ne_of_beq_eq_false rfl) rfl (hh _ (Nat.le_of_ble_eq_true rfl))⟩ ?_)|(refine nmH (nmC (Nat.ne_of_beq_eq_false rfl) rfl (hh _ (Nat.le_of_ble_eq_true rfl))) ?_) |(intro hq;try simp only [lnS]at hq)|refine sI ?_|refine qE_ ?_);conv=>whnf))
  refine jO (id:=33) (ents:=rO F) (bs:=bs) (clock:=ck) (k:=l[j].x) rfl rfl (hU rfl) rfl rfl hm rfl ?_
  rw [hmx]
  cases mx
  all_goals
   ((conv=>whnf);repeat ((first |(intro hq;try simp only [lnS]at hq)|refine sI ?_|refine qE_ ?_);conv=>whnf))
   refine jO (id:=33) (ents:=rO F) (bs:=bs) (clock:=ck) (k:=l[j].y) rfl rfl (hU rfl) rfl rfl hm rfl ?_
   rw [hmy]
   cases my
   all_goals
    rw [hrp]at hfn
    ((conv=>whnf);repeat ((first|(refine frH ⟨hbig _ (Nat.le_of_ble_eq_true rfl),eT (by with_unfolding_all exact rfl),nmC (Nat.ne_of_beq_eq_false rfl) rfl (nmC (Nat.ne_of_beq_eq_false rfl) rfl (hh _ (Nat.le_of_ble_eq_true rfl)))⟩ ?_)|(refine nmH (nmC (Nat.ne_of_beq_eq_false rfl) rfl (nmC (Nat.ne_of_beq_eq_false rfl) rfl (hh _ (Nat.le_of_ble_eq_true rfl)))) ?_) |(intro hq;try simp only [lnS]at hq)|refine sI ?_|refine qE_ ?_);conv=>whnf))
    rw [hln]
    rename_i c2
    refine⟨(j+1,c2),qO,qO,⟨qB, ?_⟩⟩
    dsimp only
    rw [hfn]
    exact⟨rfl,hs _ _ _⟩
 ·have hjl:j=l.length:=by dsimp only at h1;omega
  subst hjl
  rw [List.take_length]
  ((conv=>whnf);repeat ((first |(intro hq;try simp only [lnS]at hq)|refine sI ?_|refine qE_ ?_);conv=>whnf))
  have hk:=hk cap
  rw [List.length_map]at hk
  exact hk
end
section
open Go.RowKit
section
variable {P:Program}
theorem mR (zc:Bool) (frz:List Nat) {ti:TypeId->Option TI}(hti:cG P ti) {f:FuncId}{fn:Func}{c:Code}(hf:P.funcs[f]? =some fn) (hb:fn.body=some c) (keep:Nat->Bool) (pin:List Nat) (args:List SV) (hp:Hp) (post:SV->Prop)
  (hn:args.length<=fn.ntmps) (hnd:(hp.map (·.1)).Nodup) (hx:aH ⟨P,ti,dL pin,fn.ntmps,keep,0,none,zc,frz⟩ c (dK 0 args) (roH hp) (mE ti fn.results.toList post)):Tri P f args hp post:=by
 intro w ρ vs hslt hargs hro
 refine dH (r:=none) (n:=0) |>.1 (callsIn_of_wp_marks hf hb trivial ?_)
 have hm:Mem ⟨w,ρ.S,λ_=>False,dL pin,ρ,none,[],0⟩ ρ (roH hp) w:=by
  have hat: ∀id o,aM (roH hp) id=some o->ρ.at id o=none:=by
   intro id o ho
   rcases eN hp id o hnd ho with⟨t,cs,rfl,_⟩|⟨g,z,rows,rfl,_⟩|⟨X,rfl,_⟩
   ·rfl
   ·rfl
   ·rfl
  refine⟨rfl,rfl, .refl _,Nat.le_refl _,λ_ _ _=>rfl,λ_ _ h=>h,λ_ _ h _ _=>h,hslt,λ_ _ _=>rfl, ?_, ?_, ?_,λid _=>ρ.moved_refl id, ?_,λb hb=>by cases hb⟩
  ·intro id o ho
   rcases eN hp id o hnd ho with⟨t,cs,rfl,h|h⟩|⟨g,z,rows,rfl,h⟩|⟨X,rfl,h|h⟩
   ·exact hro id _ h
   ·exact hro id _ h
   ·exact hro id _ h
   ·exact hro id _ h
   ·exact hro id _ h
  ·intro id o id' o' g h1 _ h3 _;rw [hat id o h1]at h3;cases h3
  ·intro id o g h1 h3;rw [hat id o h1]at h3;cases h3
  ·intro id x g _ _ _ id' o' h3 h4;rw [hat id' o' h3]at h4;cases h4
 have hfs:bW ρ w (dK 0 args) (vs++Array.replicate (fn.ntmps - vs.size) undef):=by
  intro t s ht
  obtain⟨_,h2⟩:=dD args 0 t s ht
  simp only [Nat.sub_zero]at h2
  have hlt:=(List.getElem?_eq_some_iff.1 h2).1
  have hlt':t < vs.size:=by rw [hargs.1];exact hlt
  refine⟨vs[t], ?_,hargs.2 t s _ h2 (Array.getElem?_eq_getElem hlt')⟩
  rw [Array.getElem?_append_left hlt',Array.getElem?_eq_getElem hlt']
 refine wpIn_mono (hx ⟨w,ρ.S,λ_=>False,dL pin,ρ,none,[],0⟩ _ w rfl rfl ⟨?_,rfl,ρ,hm,hfs⟩) ?_
 ·simp only [Array.size_append,Array.size_replicate]
  have:=hargs.1
  omega
 ·rintro e a' w' ⟨x,fr',hp',E',hE,hrel,hk,hnt,hdf,ρ',hm',hf'⟩
  obtain⟨own,o1,o2,o3,o4,o5⟩:=gX hE rfl
  have fin:eY ti fr' hp' fn.results.toList (λl=>dP hp' l λl=>(bY l).ids=[]/\post (bY l))->LeavesInM (FW none) 0 P fn a'.tmps (λe w'=> ∃v S' s,e= .returned v/\post s/\Grew w w'/\(∀b i,ρ.S b i->S' b i)/\(∀b i,S' b i->ρ.S b i\/w.heap.size<=b)/\(∀b i,S' b i->b < w'.heap.size)/\Rep w' (ρ.withS S') s v) a'.defers .returning w':=by
   intro hk
   have hpre:E'.pin.pre=[]:=by rw [hE.pin];rfl
   rw [hdf,o2,hpre]
   refine eX (by simp) [] own E' w' hm' ⟨_,o1,o5⟩ o4 o3 ?_
   rintro E'' w'' ⟨q1,q2,q3,q4,q5,q6⟩ hm'' hkp
   have hf'':bW ρ' w'' fr' a'.tmps:=hf'.mono hkp (λ_ _ x=>x) λi _=>ρ'.moved_refl i
   obtain⟨us,l,r1,r2,r3,r4⟩:=tR hti hm'' hf'' _ _ hk
   obtain⟨l',⟨k1,k2⟩,k3,k4⟩:=gJ hm'' l us _ r2 r3 r4
   have eW:E''.w=w:=q1.trans hE.w
   have eS:E''.S=ρ.S:=q2.trans hE.S
   have eB:E''.B= λ_=>False:=q3.trans hE.B
   refine⟨_,eC r1,_,Sfz ρ' hp',bY l',rfl,k2,⟨by rw [hm''.os,eW],by rw [hm''.tape,eW],by have:=hm''.output;rw [eW]at this;exact this,by have:=hm''.size;rw [eW]at this;exact this,λb hb=> ?_⟩,λb i hs=> .inl (hm''.sold b i (by rw [eS];exact hs)), ?_, ?_, ?_⟩
   ·have:=hm''.old b (by rw [eW];exact hb) (by rw [eB];exact λh=>h)
    rw [eW]at this;exact this
   ·rintro b i (hs|⟨id,e,z,cap,rows,ho,hb,_⟩)
    ·rcases Nat.lt_or_ge b w.heap.size with hlt|hge
     ·left
      have:=hm''.snew b i hs (by rw [eW];exact hlt) (by rw [eB];exact λh=>h)
      rw [eS]at this;exact this
     ·exact .inr hge
    ·rcases hm''.hb id _ b ho hb with hge|hB
     ·rw [eW]at hge;exact .inr hge
     ·rw [eB]at hB;exact hB.elim
   ·rintro b i (hs|⟨id,e,z,cap,rows,ho,hb,_⟩)
    ·exact hm''.slt b i hs
    ·exact hm''.blk_lt ho hb
   ·refine(gM (w:=w'') (ρ:=ρ'.withS (Sfz ρ' hp')) (l:=l') (by rw [k3];exact r2) k4).mono (λ_ _ _=>rfl) (λ_ _ h=>h) λid hid=> ?_
    rw [k1]at hid
    cases hid
  cases x<;>cases e<;>simp only [Ex.rel]at hrel<;>simp only [KX,mE,dL]at hk
  ·exact fin hk
  ·exact hk.elim
  ·exact hk.elim
  ·exact fin hk
theorem aZ {C:Cfg}{x y:Code}{fr:Fr}{hp:Hp}{K:Ex->Fr->Hp->Prop}(h:aH C x fr hp λe fr hp=>match e with| .normal=>aH C y fr hp K|e=>K e fr hp):aH C (.seq x y) fr hp K:=by
 intro E a w hpin hrd hs
 refine wpIn_seq (wpIn_mono (h E a w hpin hrd hs) ?_)
 rintro e a' w' ⟨ex,fr',hp',E',hE,hrel,hk,hs'⟩
 cases ex<;>cases e<;>simp only [Ex.rel]at hrel
 ·have:=hk E' a' w' (hE.pin.trans hpin) (hrd.ext hE) hs'
  rw [hE.rd]at this
  exact wpIn_mono this λe a w ⟨ex,fr',hp',E'',hE',rest⟩=>⟨ex,fr',hp',E'',hE.trans hE',rest⟩
 ·exact⟨.exit _,fr',hp',E',hE,hrel,hk,hs'⟩
 ·exact⟨.goto _,fr',hp',E',hE,hrel,hk,hs'⟩
 ·exact⟨.ret,fr',hp',E',hE,hrel,hk,hs'⟩
 ·exact⟨.pan,fr',hp',E',hE,hrel,hk,hs'⟩
theorem cV {C:Cfg}(hti:cG C.P C.ti) {c:Code}{fr:Fr}{hp:Hp}{K:Ex->Fr->Hp->Prop}(h:X C c fr hp K):aH C c fr hp K:= λE a w hpin hrd hs=>iG hti c fr hp K h E a w hpin hrd hs
end
end
section
open Go.RowKit
section
variable {P:Program}
theorem nG (zc:Bool) (frz:List Nat) {ti:TypeId->Option TI}(hti:cG P ti) {f:FuncId}{fn:Func}{c:Code}(hf:P.funcs[f]? =some fn) (hb:fn.body=some c) (keep:Nat->Bool) (off:Nat) {pin:Pin}{fr:Fr}{hp:Hp}{args:List SV}{K:SV->Hp->Prop}
  (hn:args.length<=fn.ntmps) (hx:aH ⟨P,ti,pin.under fr (fS fr),fn.ntmps,keep,off,none,zc,frz⟩ c (dK 0 args) hp (aN2 ti fn.results.toList K)):aF P pin fr hp f args K:=by
 intro E ρ w tm hpin hm hfs vs hargs
 refine dH (r:=none) (n:=0) |>.1 (callsIn_of_wp_marks hf hb trivial ?_)
 have hfs':bW ρ w (dK 0 args) (vs++Array.replicate (fn.ntmps - vs.size) undef):=by
  intro t s ht
  obtain⟨_,h2⟩:=dD args 0 t s ht
  simp only [Nat.sub_zero]at h2
  have hlt:=(List.getElem?_eq_some_iff.1 h2).1
  have hlt':t < vs.size:=by rw [hargs.1];exact hlt
  refine⟨vs[t], ?_,hargs.2 t s _ h2 (Array.getElem?_eq_getElem hlt')⟩
  rw [Array.getElem?_append_left hlt',Array.getElem?_eq_getElem hlt']
 have hm0:=hm.enter (pin.under fr (fS fr)) none
 refine wpIn_mono (hx (aV w ρ hp (pin.under fr (fS fr)) none E.D) _ w rfl rfl ⟨?_,rfl,ρ,hm0,hfs'⟩) ?_
 ·simp only [Array.size_append,Array.size_replicate]
  have:=hargs.1
  omega
 ·rintro e a' w' ⟨x,fr',hp',E',hE,hrel,hk,hnt,hdf,ρ',hm',hf'⟩
  obtain⟨own,o1,o2,o3,o4,o5⟩:=gX hE rfl
  have hpre:E'.pin.pre=[]:=by rw [hE.pin];rfl
  have finp: ∀ch,Chn pin.pv ch->pin.kp fr hp'->LeavesInM (FW none) 0 P fn a'.tmps (λe w'=>(∃v ρ' s hp',e= .returned v/\K s hp'/\Mem E ρ' hp' w'/\bW ρ' w' fr tm/\Rep w' ρ' s v)\/ ∃ch ρ' hp',e= .panicked ch/\Chn pin.pv ch/\pin.kp fr hp'/\Mem E ρ' hp' w'/\bW ρ' w' fr tm) a'.defers (.panicking ch) w':=by
   intro ch hc hk
   rw [hdf,o2,hpre]
   refine eX (by simp) [] own E' w' hm' ⟨_,o1,o5⟩ o4 o3 ?_
   rintro E'' w'' ⟨q1,q2,q3,q4,q5,q6⟩ hm'' hkp
   have hmE:Mem E ρ' hp' w'':=hm.leave (pin:=pin.under fr (fS fr)) (rd:=none) hm'' ⟨q1.trans hE.w,q2.trans hE.S,q3.trans hE.B,q4.trans hE.pin,q5.trans hE.ρ,λb hb=>by rw [q6,o1];simpa [aV]using hb⟩ (λid hid=>by rw [hpin]at hid;exact List.mem_append_left _ hid)
   have kp:=hm''.kp
   have sold:=hm''.sold
   have mv:=hm''.mv
   rw [q1.trans hE.w,q2.trans hE.S]at kp
   rw [q2.trans hE.S]at sold
   rw [q4.trans hE.pin,q5.trans hE.ρ]at mv
   exact .inr ⟨ch,ρ',hp',rfl,hc,hk,hmE,hfs.mono kp sold λid hid=>mv id (List.mem_append_right _ hid)⟩
  have fin:eY ti fr' hp' fn.results.toList (λl=>K (bY l) hp')->LeavesInM (FW none) 0 P fn a'.tmps (λe w'=>(∃v ρ' s hp',e= .returned v/\K s hp'/\Mem E ρ' hp' w'/\bW ρ' w' fr tm/\Rep w' ρ' s v)\/ ∃ch ρ' hp',e= .panicked ch/\Chn pin.pv ch/\pin.kp fr hp'/\Mem E ρ' hp' w'/\bW ρ' w' fr tm) a'.defers .returning w':=by
   intro hk
   rw [hdf,o2,hpre]
   refine eX (by simp) [] own E' w' hm' ⟨_,o1,o5⟩ o4 o3 ?_
   rintro E'' w'' ⟨q1,q2,q3,q4,q5,q6⟩ hm'' hkp
   have hf'':bW ρ' w'' fr' a'.tmps:=hf'.mono hkp (λ_ _ x=>x) λi _=>ρ'.moved_refl i
   obtain⟨us,l,r1,r2,r3,r4⟩:=tR hti hm'' hf'' _ _ hk
   have hmE:Mem E ρ' hp' w'':=hm.leave (pin:=pin.under fr (fS fr)) (rd:=none) hm'' ⟨q1.trans hE.w,q2.trans hE.S,q3.trans hE.B,q4.trans hE.pin,q5.trans hE.ρ,λb hb=>by rw [q6,o1];simpa [aV]using hb⟩ (λid hid=>by rw [hpin]at hid;exact List.mem_append_left _ hid)
   refine⟨_,eC r1, .inl ⟨_,ρ',bY l,hp',rfl,r4,hmE, ?_,gM r2 r3⟩⟩
   have kp:=hm''.kp
   have sold:=hm''.sold
   have mv:=hm''.mv
   rw [q1.trans hE.w,q2.trans hE.S]at kp
   rw [q2.trans hE.S]at sold
   rw [q4.trans hE.pin,q5.trans hE.ρ]at mv
   exact hfs.mono kp sold λid hid=>mv id (List.mem_append_right _ hid)
  cases x<;>cases e<;>simp only [Ex.rel]at hrel<;>simp only [KX,aN2]at hk
  ·exact fin hk
  ·exact hk.elim
  ·exact hk.elim
  ·exact fin hk
  ·exact finp _ hrel hk
theorem aH.frozC {C:Cfg}{c:Code}{fr:Fr}{hp hp1:Hp}{K:Ex->Fr->Hp->Prop}{id i t e z cap n:Nat}{rows:List (List D)}(ho:aM hp id=some (.mrow e z cap rows)) (hn:n=rows.length) (hsub:sA hp1 hp) (hno:aM hp1 id=none)
  (hc:aM hp1 i=some (.cells t [.mw id z n])) (h:aH C c fr (dQ hp1 i (.cells t [.d (.sl z rows)])) K):aH C c fr hp K:=by
 intro E a w hpin hrd hsat
 obtain⟨h1,h2,ρ,h3,h4⟩:=hsat
 obtain⟨S',s1,s2,s3⟩:=h3.froze ho hsub hno
 obtain⟨q1,_⟩:=h3.sat id _ ho
 have m := s2.recell hc (cs' := [.d (.sl z rows)]) rfl (λj s' v hs' hv => by
  cases j with
  |zero=>
   simp at hs'
   subst hs'
   obtain⟨A,c,_,_,_,_,_,e2⟩:=(hv _ rfl).mw_inv
   have:=e2 (hn.trans q1.symm)
   subst this
   exact .d _ _ s3
  |succ j=>simp at hs')
 exact h E a w hpin hrd ⟨h1,h2,_,m,h4.mono (λ_ _ _=>rfl) s1 λi _=>ρ.moved_withS S' i⟩
theorem aJ8 {pin:Pin}{fr:Fr}{hp:Hp}{f:FuncId}{args:List SV}{K:SV->Hp->Prop}(W:List Nat) (hpI:Hp) {pinI:Pin}{KI:SV->Hp->Prop}
  (hc:aF P pinI [] hpI f args KI) (A:Among (λi=>i) W hpI hp) (hW: ∀k∈W,k∈pinI)
  (hk: ∀s h1,KI s h1->s.ids=[]/\ ∃hp2,Left (λi=>i) W h1 hp hp2/\K s hp2)
  (hkp: ∀h,¬ pinI.kp [] h):aF P pin fr hp f args K:=by
 intro E ρ w tm hpin hm hf vs hv
 have hm0:=hm.pulled pinI none A
 refine(hc _ _ w #[] rfl hm0 (λt s h=>by simp [dE]at h) vs ⟨hv.1,hv.2⟩).mono ?_
 rintro e w' (⟨v,ρ1,s,h1,rfl,k1,k2,k3,k4⟩|⟨ch,ρ1,h1,rfl,k0,k1,k2,k3⟩)
 ·obtain⟨s1,hp2,s3,s4⟩:=hk s h1 k1
  obtain⟨m1,m2⟩:=hm.framed A s3 hW k2
  exact .inl ⟨v,_,s,hp2,rfl,s4,m1,hf.mono k2.kp k2.sold (λi _=>m2 i),k4.noids rfl s1⟩
 ·exact absurd k1 (hkp h1)
theorem aLl {o:Oper}{ts:Array TypeId}{x y:Operand}{k:IntKind}{m n:Int}(ho:o.op= .call { callee:= .builtin .max,args:= #[x,y],argTypes:=ts }) {pin:Pin}{fr:Fr}{hp:Hp}{K:SV->Hp->Prop}
  (hx:evO fr x=some (.d (.int k m))) (hy:evO fr y=some (.d (.int k n))) (hk:K (.d (.int k (if n >m then n else m))) hp):aP P o pin fr hp K:=by
 intro E ρ a w _ hm hf next Q hq
 have e1:=(aR hf hx).int_inv
 have e2:=(aR hf hy).int_inv
 have hrun:(execOp a.eval o).run P w= .ok (.value (.int k (if n >m then n else m))) w:=by
  rw [aO ho]
  simp [builtin,e1,e2,Builtin.max_,Builtin.max2]
 exact bN hrun (hq _ w ρ _ hp hk hm hf (.d _ _ (.int _ _)))
end
end
section
open Go.RowKit
theorem aI1 {C:Cfg}{x y:Code}{fr:Fr}{hp:Hp}{K:Ex->Fr->Hp->Prop}(FR:Fr) (HP:Hp) (h:aH C x fr hp (λe fr' hp'=>match e with| .normal=>Sub fr' hp' FR HP|e=>K e fr' hp')) (hk:aH C y FR HP K):aH C (.seq x y) fr hp K:=
 aZ (h.mono λe fr' hp' hh=>by cases e<;>first|exact aH.sub hh hk|exact hh)
end
end Go.Proofs.YtdjfkmkdkclahaaGreatDoor
