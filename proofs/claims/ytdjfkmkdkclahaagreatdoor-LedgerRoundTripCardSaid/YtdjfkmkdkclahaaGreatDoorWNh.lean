/-
  Objects: Query as the program writes it. Queries: the order of atoms; numbers in words. Queries: lists of atoms are compared, and made compact.
  Conditions: none.
-/
import Derived.Test.YtdjfkmkdkclahaaGreatDoorWQqh
import Derived.Test.YtdjfkmkdkclahaaGreatDoorWQqg
import Derived.Test.YtdjfkmkdkclahaaGreatDoorWSyi
import Derived.Test.YtdjfkmkdkclahaaGreatDoorWXv
set_option linter.unnecessarySimpa false
set_option linter.unusedSectionVars false
set_option linter.unusedSimpArgs false
set_option linter.unusedVariables false
set_option maxHeartbeats 16000000
namespace Go.Proofs.YtdjfkmkdkclahaaGreatDoor
open Go.Proofs Go.RowKit
set_option maxRecDepth 10000
attribute [local irreducible] aJ aG Tri aF YVC cA aU
theorem aKh {a:At}(h:atE a=0):a.name.length<=24/\a.x.length<=24/\a.y.length<=24:=by
 unfold atE at h
 by_cases h1:a.kind < 1\/3 < a.kind
 ·rw [if_pos h1]at h;simp at h
 rw [if_neg h1]at h
 by_cases h2:(a.kind≠2/\a.y≠[])\/(a.kind≠3/\(a.lo≠0\/a.hi≠0))
 ·rw [if_pos h2]at h;simp at h
 rw [if_neg h2]at h
 by_cases h3:a.lo < -1099511627776\/a.hi < a.lo\/1099511627776 < a.hi
 ·rw [if_pos h3]at h;simp at h
 rw [if_neg h3]at h
 by_cases h4:aCv a.name=false
 ·rw [if_pos h4]at h;simp at h
 rw [if_neg h4]at h
 by_cases h5:eF a.x=false
 ·rw [if_pos h5]at h;simp at h
 rw [if_neg h5]at h
 by_cases h6:a.kind=2/\eF a.y=false
 ·rw [if_pos h6]at h;simp at h
 refine⟨oV (by simpa using h4),fR (by simpa using h5), ?_⟩
 by_cases h7:a.kind=2
 ·refine fR ?_
  cases h8:eF a.y
  ·exact absurd ⟨h7,h8⟩ h6
  ·rfl
 ·have:a.y=[]:=by
   refine Classical.byContradiction λh8=>h2 (.inl ⟨h7,h8⟩)
  rw [this];simp
theorem wK {q:Qy}(h:qE q=0):(wQy q).length<=1000000:=by
 rw [aLe]at h
 by_cases h1:hC q≠0
 ·rw [if_pos h1]at h;exact absurd h h1
 rw [if_neg h1]at h
 by_cases h2:cK q.parts.flatten≠0
 ·rw [if_pos h2]at h;exact absurd h h2
 rw [if_neg h2]at h
 by_cases h3:mU q.told q.parts≠0
 ·rw [if_pos h3]at h;exact absurd h h3
 have h1:=Decidable.not_not.1 h1
 have h2:=(dQ _).1 (Decidable.not_not.1 h2)
 have h3:=Decidable.not_not.1 h3
 unfold hC at h1
 split at h1
 ·simp at h1
 ·split at h1
  ·simp at h1
  ·rename_i a1 a2
   have hp: ∀p∈q.parts,p.length<=12:=by
    intro p hp
    have h3:(q.parts.any λp=>decide (p.length < 1) || decide (12 < p.length))=false:=by simpa using a2
    have h4:=List.any_eq_false.1 h3 p hp
    simp at h4
    omega
   have ht: ∀s∈q.told,sC s=true:=by
    unfold mU at h3
    split at h3
    ·simp at h3
    ·rename_i h5
     intro s hs
     cases hv:sC s with
     |true=>rfl
     |false=>exact absurd (List.any_eq_true.2 ⟨s,hs,by rw [hv];rfl⟩) h5
   have e1:((q.told.map gX).flatten).length<=q.told.length * 21:=mC λs hs=>by
    have:=oH (ht s hs)
    unfold gX
    simp only [List.length_append,bB]
    omega
   have e2:((q.parts.map (cE wAt)).flatten).length<=q.parts.length * 1300:=mC λp hp'=>by
    have e3:((p.map wAt).flatten).length<=p.length * 101:=mC λa ha=>by
     obtain⟨b1,b2,b3⟩:=aKh (h2 a (List.mem_flatten.2 ⟨p,hp',ha⟩))
     unfold wAt gX
     simp only [List.length_append,bB,wL,dA]
     omega
    have:=hp p hp'
    unfold cE
    simp only [List.length_append,bB]
    omega
   unfold wQy
   unfold cE at *
   simp only [List.length_append,bB]at *
   omega
theorem aAm {q:Qy}(h:qE q≠0):zA q=([],qE q):=by unfold zA;rw [if_neg h]
theorem aD5 {q:Qy}(h:qE q=0):zA q=(wQy q,0):=by unfold zA;rw [if_pos h]
theorem pP (q:Qy):Tri Tryz.prog 46 [.d (.agg (qyR q))] [] (λr=>r= .tup [.d (.sl 1 ((zA q).1.map bG)), .d (.int .i64 (zA q).2)]):=by
 refine Tri.says ?_
 have hw:=aG1 q
 have hc:=jS q
 have h1:=aAm (q:=q)
 have h2:=aD5 (q:=q)
 have h3:=wK (q:=q)
 generalize wQy q=out at *
 generalize zA q=res at *
 generalize qE q=qe at *
 obtain⟨told,parts⟩:=q
 rw [show qyR ⟨told,parts⟩=[.sl 1 (told.map bQ), .sl 1 (parts.map aQ)]from rfl]at *
 refine aH false [] hty Tryz.func46 rfl (kp [0,1,2,3,4,8]) [] _ _ _ (by simp [Tryz.f46]) (by decide) ?_
 ((conv=>whnf);repeat ((first|(refine aA [] hc trivial (λr hs=> ?_);subst hs)|(intro hq;try simp only [lnS]at hq)|refine sI ?_|refine .intro _ (.intro rfl ?_));(conv=>whnf)))
 refine aD (λq1=> ?_) (λq1=> ?_)
 ·rw [h1 q1]
  ((conv=>whnf);repeat ((first|(intro hq;try simp only [lnS]at hq)|refine sI ?_|refine .intro _ (.intro rfl ?_));(conv=>whnf)))
  exact⟨_,pairN (.d .nil) _,rfl⟩
 have q1:qe=0:=by simpa using q1
 rw [h2 q1]
 have h3:=h3 q1
 clear h1 h2 hc
 ((conv=>whnf);repeat' ((first|(intro hq;(try simp only [lnS]at hq);(try rewrite [List.length_map]))|refine sJ ?_|refine .intro _ (.intro rfl ?_)|refine exL (k:= ?_)|refine dwR ?_|((first|refine aC ?_ ?_|refine aD ?_ ?_)<;>intro hb<;>(first|exact ddX hb|try simp only [lnS]at hb))|(refine aB ?_ ?_<;>intro hb<;>try exact dsX hb))<;>(conv=>whnf)))
 refine aG.ownH 4 104 115 5 1 rfl (cO (by with_unfolding_all exact rfl)) (dX (by with_unfolding_all exact rfl)) ?_
 refine WrT.call hw rfl [] (by rw [List.length_nil];omega) (by decide) rfl rfl ?_
 rw [List.nil_append]
 ((conv=>whnf);repeat ((first|(intro hq;try simp only [lnS]at hq)|refine sI ?_|refine .intro _ (.intro rfl ?_));(conv=>whnf)))
 exact⟨_, .refl _,rfl⟩
end Go.Proofs.YtdjfkmkdkclahaaGreatDoor
namespace Go.Proofs.YtdjfkmkdkclahaaGreatDoor
open Go.Proofs Go.RowKit
set_option maxRecDepth 10000
attribute [local irreducible] aJ aG Tri aF YVC cA aU
theorem aHo (a b:At):bS a b=orF [wE a.kind b.kind,eC a.name b.name,eC a.x b.x,eC a.y b.y,wE a.lo b.lo,wE a.hi b.hi]:=rfl
theorem gG (a b:At):Tri Tryz.prog 167 [.d (.agg (atR a)), .d (.agg (atR b))] [] (λr=>r= .d (.int .i64 (bS a b))):=by
 rw [aHo]
 rw [show atR a=[.int .i64 a.kind, .str a.name, .str a.x, .str a.y, .int .i64 a.lo, .int .i64 a.hi]from rfl,show atR b=[.int .i64 b.kind, .str b.name, .str b.x, .str b.y, .int .i64 b.lo, .int .i64 b.hi]from rfl]
 refine aH false [2,3] hty Tryz.func167 rfl (kp [0,1,2,3,4]) [] _ _ _ (by simp [Tryz.f167]) (by simp) ?_
 ((conv=>whnf);repeat ((first|(intro hq;try simp only [lnS]at hq)|refine sI ?_|refine .intro _ (.intro rfl ?_));(conv=>whnf)))
 refine aAw hty 30 (by kernel_rfl) (by kernel_rfl) ?_
 ((conv=>whnf);repeat ((first|(intro hq;try simp only [lnS]at hq)|refine sI ?_|refine .intro _ (.intro rfl ?_));(conv=>whnf)))
 refine⟨.d (.int .i64 _),_,[],rfl,trivial,gN _ _, ?_⟩
 ((conv=>whnf);repeat ((first|(intro hq;try simp only [lnS]at hq)|refine sI ?_|refine .intro _ (.intro rfl ?_));(conv=>whnf)))
 refine⟨.d (.int .i64 _),_,[],rfl,trivial,gM _ _, ?_⟩
 ((conv=>whnf);repeat ((first|(intro hq;try simp only [lnS]at hq)|refine sI ?_|refine .intro _ (.intro rfl ?_));(conv=>whnf)))
 refine⟨.d (.int .i64 _),_,[],rfl,trivial,gM _ _, ?_⟩
 ((conv=>whnf);repeat ((first|(intro hq;try simp only [lnS]at hq)|refine sI ?_|refine .intro _ (.intro rfl ?_));(conv=>whnf)))
 refine⟨.d (.int .i64 _),_,[],rfl,trivial,gM _ _, ?_⟩
 ((conv=>whnf);repeat ((first|(intro hq;try simp only [lnS]at hq)|refine sI ?_|refine .intro _ (.intro rfl ?_));(conv=>whnf)))
 refine⟨.d (.int .i64 _),_,[],rfl,trivial,gN _ _, ?_⟩
 ((conv=>whnf);repeat ((first|(intro hq;try simp only [lnS]at hq)|refine sI ?_|refine .intro _ (.intro rfl ?_));(conv=>whnf)))
 refine⟨.d (.int .i64 _),_,[],rfl,trivial,gN _ _, ?_⟩
 ((conv=>whnf);repeat ((first|(intro hq;try simp only [lnS]at hq)|refine sI ?_|refine .intro _ (.intro rfl ?_));(conv=>whnf)))
 refine⟨[],(λr=>r= .d (.int .i64 (orF [wE a.kind b.kind,eC a.name b.name,eC a.x b.x,eC a.y b.y,wE a.lo b.lo,wE a.hi b.hi]))),trivial,Tri.osl (aJm [_,_,_,_,_,_]),λr hs=> ?_⟩
 subst hs
 ((conv=>whnf);repeat ((first|(intro hq;try simp only [lnS]at hq)|refine sI ?_|refine .intro _ (.intro rfl ?_));(conv=>whnf)))
 rfl
theorem aL2:Go.Sort.SWO (ltOf bS):=by
 have h:=bH
 refine⟨λx=> ?_,λx y z h1 h2=> ?_,λx y z h1 h2=> ?_⟩
 ·have:=fZ.2 (rfl:x=x)
  simp [ltOf,this]
 ·simp only [ltOf,decide_eq_true_eq]at *
  exact(h.t3 x y z).1 h1 h2
 ·simp only [ltOf,decide_eq_false_iff_not]at *
  exact h.ord.tr z y x (by simpa using h2) (by simpa using h1) |> λq=>by simpa using q
theorem aC6 (k:Nat) (h:k<=9):Tri Tryz.prog 226 [.d (.int .i64 k)] [] (λr=>r= .d (.str [UInt8.ofNat (48+k)])):=by
 have e:k=0\/k=1\/k=2\/k=3\/k=4\/k=5\/k=6\/k=7\/k=8\/k=9:=by omega
 rcases e with rfl|rfl|rfl|rfl|rfl|rfl|rfl|rfl|rfl|rfl
 all_goals
  refine aI hty Tryz.func226 rfl (kp [0,2,4]) [] _ _ _ (by simp [Tryz.f226]) (by simp) ?_
  ((conv=>whnf);repeat' ((first|(intro hq;(try simp only [lnS]at hq);(try rewrite [List.length_map]))|refine sJ ?_|refine .intro _ (.intro rfl ?_)|refine exL (k:= ?_)|refine dwR ?_|((first|refine aC ?_ ?_|refine aD ?_ ?_)<;>intro hb<;>(first|exact ddX hb|try simp only [lnS]at hb))|(refine aB ?_ ?_<;>intro hb<;>try exact dsX hb))<;>(conv=>whnf)))
  rfl
theorem sX (k:Nat) (h:k<=9):Tri Tryz.prog 206 [.d (.int .i64 k), .d (.int .i64 10)] [] (λr=>r= .d (.str [UInt8.ofNat (48+k)])):=by
 have h1:=aC6 k h
 refine aI hty Tryz.func206 rfl (kp [0,1,4,5,6,7,9,11,17,23,34]) [] _ _ _ (by simp [Tryz.f206]) (by simp) ?_
 ((conv=>whnf);repeat ((first|(intro hq;try simp only [lnS]at hq)|refine sI ?_|refine .intro _ (.intro rfl ?_));(conv=>whnf)))
 refine aC (λq=> ?_) (λq=>absurd (by omega) q)
 ((conv=>whnf);repeat ((first|(refine aA [] h1 trivial (λr hs=> ?_);subst hs)|(intro hq;try simp only [lnS]at hq)|refine sI ?_|refine .intro _ (.intro rfl ?_));(conv=>whnf)))
 rfl
theorem aEk (k:Nat) (h:k<=9):Tri Tryz.prog 110 [.d (.int .i64 k)] [] (λr=>r= .d (.str [UInt8.ofNat (48+k)])):=by
 have h1:=sX k h
 have h2:Tri Tryz.prog 163 [.d (.int .i64 k)] [] (λr=>r= .d (.str [UInt8.ofNat (48+k)])):=by
  refine aI hty Tryz.func163 rfl (kp [0,2]) [] _ _ _ (by simp [Tryz.f163]) (by simp) ?_
  ((conv=>whnf);repeat ((first|(refine aA [] h1 trivial (λr hs=> ?_);subst hs)|(intro hq;try simp only [lnS]at hq)|refine sI ?_|refine .intro _ (.intro rfl ?_));(conv=>whnf)))
  rfl
 refine aI hty Tryz.func110 rfl (kp [0,2]) [] _ _ _ (by simp [Tryz.f110]) (by simp) ?_
 ((conv=>whnf);repeat ((first|(refine aA [] h2 trivial (λr hs=> ?_);subst hs)|(intro hq;try simp only [lnS]at hq)|refine sI ?_|refine .intro _ (.intro rfl ?_));(conv=>whnf)))
 rfl
end Go.Proofs.YtdjfkmkdkclahaaGreatDoor
namespace Go.Proofs.YtdjfkmkdkclahaaGreatDoor
open Go.Proofs Go.RowKit
set_option maxRecDepth 10000
attribute [local irreducible] aJ aG Tri aF YVC cA aU
theorem mN (a:At):atR a=[.int .i64 a.kind, .str a.name, .str a.x, .str a.y, .int .i64 a.lo, .int .i64 a.hi]:=rfl
def tA (a b:At):Bool:=decide (a=b)
theorem aMp:aMw Tryz.prog 60=true:=by kernel_rfl
theorem aMx (a b:At):(decide (a.kind=b.kind) && (decide (a.name=b.name) && (decide (a.x=b.x) && (decide (a.y=b.y) && (decide (a.lo=b.lo) && (decide (a.hi=b.hi) && true))))))=tA a b:=by
 unfold tA
 rw [Bool.eq_iff_iff]
 cases a;cases b
 simp
theorem tD (f:FuncId) (hcall:cR Tryz.prog f=true) (l m:List At) (hf: ∀a∈l,∀b∈m,Tri Tryz.prog f [.d (.agg (atR a)), .d (.agg (atR b))] [] (λr=>r= .d (.int .i64 (bS a b)))):
  Tri Tryz.prog 168 [.d (.sl 6 (l.map atR)), .d (.sl 6 (m.map atR)), .fn f [] []] [] (λr=>r= .d (.int .i64 (bN bS l m))):=by
 refine aH false [8,9] hty Tryz.func168 rfl (kp [0,1,2,6,7,8,9,10,11,12,13,14,21,31,38]) [] _ _ _ (by simp [Tryz.f168]) (by simp) ?_
 ((conv=>whnf);repeat ((first|(intro hq;try simp only [lnS]at hq)|refine sI ?_|refine .intro _ (.intro rfl ?_));(conv=>whnf)))
 refine aP hty (λj:Nat=>([(0, .d (.sl 6 (l.map atR))),(1, .d (.sl 6 (m.map atR))),(2, .fn f [] []),(11, .d (.sl 6 (l.map atR))),(12, .d (.int .i64 l.length)),(13, .d (.int .i64 j))],[])) (λj=>j<=l.length/\j<=m.length/\bN bS l m=bN bS (l.drop j) (m.drop j)) (λj=>l.length - j) 0 ⟨by omega,by omega,rfl⟩ ⟨by repeat' (first|exact trivial|exact rfl|(rw [List.length_map];exact rfl)|refine And.intro ?_ ?_),trivial⟩ ?_
 rintro j ⟨hj,hjm,hn⟩
 ((conv=>whnf);repeat ((first|(intro hq;try simp only [lnS]at hq)|refine sI ?_|refine .intro _ (.intro rfl ?_));(conv=>whnf)))
 refine aC (λh1=> ?_) (λh1=> ?_)
 ·have hjl:j < l.length:=by omega
  have hrow:(l.map atR)[(j:Int).toNat]? =some (atR l[j]):=aT hjl
  rw [mN]at hrow
  rw [List.drop_eq_getElem_cons hjl]at hn
  ((conv=>whnf);repeat ((first|(refine⟨_,hrow, ?_⟩)|(intro hq;try simp only [lnS]at hq)|refine sI ?_|refine .intro _ (.intro rfl ?_));(conv=>whnf)))
  refine aC (λh2=> ?_) (λh2=> ?_)
  ·have hm:m.drop j=[]:=List.drop_eq_nil_of_le (by simp only [List.length_map]at h2;omega)
   rw [hm,bN]at hn
   ((conv=>whnf);repeat' ((first|(intro hq;(try simp only [lnS]at hq);(try rewrite [List.length_map]))|refine sJ ?_|refine .intro _ (.intro rfl ?_)|refine exL (k:= ?_)|refine dwR ?_|((first|refine aC ?_ ?_|refine aD ?_ ?_)<;>intro hb<;>(first|exact ddX hb|try simp only [lnS]at hb))|(refine aB ?_ ?_<;>intro hb<;>try exact dsX hb))<;>(conv=>whnf)))
   exact iJ hn.symm
  ·have hjm2:j < m.length:=by simp only [List.length_map]at h2;omega
   have hrow2:(m.map atR)[(j:Int).toNat]? =some (atR m[j]):=aT hjm2
   rw [mN]at hrow2
   have hi:=hf l[j] (List.getElem_mem hjl) m[j] (List.getElem_mem hjm2)
   rw [mN,mN]at hi
   rw [List.drop_eq_getElem_cons hjm2,bN]at hn
   ((conv=>whnf);repeat' ((first|(intro hq;(try simp only [lnS]at hq);(try rewrite [List.length_map]))|refine sJ ?_|refine .intro _ (.intro rfl ?_)|refine exL (k:= ?_)|(refine⟨_,hrow2, ?_⟩)|(refine aA [] hi trivial (λr hs=> ?_);subst hs)|refine dwR ?_|((first|refine aC ?_ ?_|refine aD ?_ ?_)<;>intro hb<;>(first|exact ddX hb|try simp only [lnS]at hb))|(refine aB ?_ ?_<;>intro hb<;>try exact dsX hb))<;>(conv=>whnf)))
   ·rw [if_pos (by assumption)]at hn
    exact iJ hn.symm
   ·rw [if_neg (by simpa using (by assumption:bS l[j] m[j]=0))]at hn
    exact⟨j+1,⟨by omega,by omega,hn⟩,by dsimp only;omega,by repeat' (first|exact trivial|exact rfl|refine And.intro ?_ ?_),trivial⟩
 ·have hjl:j=l.length:=by omega
  subst hjl
  rw [List.drop_length]at hn
  ((conv=>whnf);repeat' ((first|(intro hq;(try simp only [lnS]at hq);(try rewrite [List.length_map]))|refine sJ ?_|refine .intro _ (.intro rfl ?_)|refine exL (k:= ?_)|refine dwR ?_|((first|refine aC ?_ ?_|refine aD ?_ ?_)<;>intro hb<;>(first|exact ddX hb|try simp only [lnS]at hb))|(refine aB ?_ ?_<;>intro hb<;>try exact dsX hb))<;>(conv=>whnf)))
  ·have hjm2:l.length < m.length:=by simp_all
   rw [List.drop_eq_getElem_cons hjm2,bN]at hn
   exact iJ hn.symm
  ·have hjm2:m.drop l.length=[]:=List.drop_eq_nil_of_le (by simp_all)
   rw [hjm2,bN]at hn
   exact iJ hn.symm
theorem tE (l:List At) (hlen:l.length<=1000000)
  (cap n:Nat) (hn:n=l.length) (hp0:Hp) {pin:Pin} {fr:Fr} {K:SV->Hp->Prop} (hp1: ∀k,100<=k->k∉pin) (hf: ∀k,100<=k->k∉fC fr) (hh: ∀k,100<=k->k∉jK hp0) (hno:aN hp0 70=none) (hsub: ∀o,sE hp0 ((70,o)::hp0))
  (hk: ∀cap',K (.mw 170 6 (jO tA l).length) ((170, .mrow 60 6 cap' ((jO tA l).map atR))::hp0)):
  aG Tryz.prog pin fr ((70, .mrow 60 6 cap (l.map atR))::hp0) 170 [.mw 70 6 n] K:=by
 subst hn
 have fin: ∀(rows:List (List D)) (s:SV) (k:Nat),(s= .ms 70 6 0 k l.length\/(s= .mw 70 6 l.length/\k=l.length))->l.length=rows.length->k=(jO tA l).length->rows.take k=(jO tA l).map atR->PartP pin fr K 170 s ((70, .mrow 60 6 cap rows)::hp0):=by
  intro rows s k h1 h2 h3 h4
  refine⟨70,_,6,cap,k,l.length,rows,hp0,h1,rfl,h2,by rw [h3];exact vU _ _,⟨hp1 _ (by decide),hf _ (by decide),aNy (by decide) rfl hh _ (by decide)⟩,hsub _,hno,λcap'=> ?_⟩
  rw [h3]at h4 |-
  rw [h4]
  exact hk cap'
 refine aG.closeP 170 ?_
 refine aL false [] hty Tryz.func170 rfl (kp [0,2,3,4,5,8,13,25,32,44]) 200 (by simp [Tryz.f170]) ?_
 ((conv=>whnf);repeat' ((first|(intro hq;(try simp only [lnS]at hq);(try rewrite [List.length_map]))|refine sJ ?_|refine .intro _ (.intro rfl ?_)|refine exL (k:= ?_)|refine dwR ?_|((first|refine aC ?_ ?_|refine aD ?_ ?_)<;>intro hb<;>(first|exact ddX hb|try simp only [lnS]at hb))|(refine aB ?_ ?_<;>intro hb<;>try exact dsX hb))<;>(conv=>whnf)))
 ·have hd:jO tA l=l:=jA _ _ (by omega)
  exact fin _ _ l.length (.inr ⟨rfl,rfl⟩) (List.length_map ..).symm (by rw [hd]) (by rw [hd,List.take_of_length_le (by rw [List.length_map];exact Nat.le_refl _)])
 ·refine nB hty (λk:Nat=>([(0, .mw 70 6 l.length),(3, .d (.int .i64 k))],(70, .mrow 60 6 cap (l.map atR))::hp0)) (λk=>(1<=k/\k<=l.length)/\jO tA (l.take k)=l.take k) (λk=>l.length - k) 1 ⟨by omega,jA _ _ (by rw [List.length_take];omega)⟩ (by repeat' (first|exact trivial|exact rfl|refine And.intro ?_ ?_)) rfl ?_
  rintro k ⟨⟨hk1,hkl⟩,hd⟩
  ((conv=>whnf);repeat ((first|(intro hq;try simp only [lnS]at hq)|refine sI ?_|refine .intro _ (.intro rfl ?_));(conv=>whnf)))
  refine aC (λh1=> ?_) (λh1=> ?_)
  ·have hkl':k < l.length:=by omega
   have hkp:k - 1 < l.length:=by omega
   have hrow1:(l.map atR)[(k:Int).toNat]? =some (atR l[k]):=aT hkl'
   have hrow2:(l.map atR)[((k:Int) - 1).toNat]? =some (atR l[k - 1]):=by
    rw [show ((k:Int) - 1).toNat=k - 1 by omega,List.getElem?_map,List.getElem?_eq_getElem hkp];rfl
   have hdt:=mI tA l (k - 1) (by omega)
   simp only [show k - 1+1=k by omega,show k - 1+2=k+1 by omega]at hdt
   ((conv=>whnf);repeat ((first|(intro hq;try simp only [lnS]at hq)|refine sI ?_|refine .intro _ (.intro rfl ?_));(conv=>whnf)))
   refine dwR ?_
   ((conv=>whnf);repeat ((first|(refine And.intro aMp ?_)|(refine And.intro (List.length_map ..).symm ?_)|(refine⟨_,hrow1, ?_⟩)|(refine⟨_,hrow2, ?_⟩)|(intro hq;try simp only [lnS]at hq)|refine sI ?_|refine .intro _ (.intro rfl ?_));(conv=>whnf)))
   rw [aMx]
   cases hb:tA l[k] l[k - 1]
   ·((conv=>whnf);repeat' ((first|(intro hq;(try simp only [lnS]at hq);(try rewrite [List.length_map]))|refine sJ ?_|refine .intro _ (.intro rfl ?_)|refine exL (k:= ?_)|refine dwR ?_|((first|refine aC ?_ ?_|refine aD ?_ ?_)<;>intro hb<;>(first|exact ddX hb|try simp only [lnS]at hb))|(refine aB ?_ ?_<;>intro hb<;>try exact dsX hb))<;>(conv=>whnf)))
    rw [hb,if_neg (by decide),hd]at hdt
    exact⟨k+1,⟨⟨by omega,by omega⟩,by rw [hdt];exact(List.take_succ_eq_append_getElem hkl').symm⟩,by dsimp only;omega,by repeat' (first|exact trivial|exact rfl|refine And.intro ?_ ?_),rfl⟩
   ·rw [hb,if_pos rfl,hd]at hdt
    ((conv=>whnf);repeat ((first|(refine iW hty rfl rfl rfl rfl rfl rfl ?_)|(intro hq;try simp only [lnS]at hq)|refine sI ?_|refine .intro _ (.intro rfl ?_));(conv=>whnf)))
    rw [show ((k:Int)).toNat=k from rfl]
    refine nB hty (λy:Nat×Nat×List At=>([(0, .mw 70 6 l.length),(3, .d (.int .i64 y.2.1)),(4, .ms 70 6 k (l.length - k) l.length),(5, .d (.int .i64 y.1))],(70, .mrow 60 6 cap (y.2.2.map atR))::hp0))
     (λy=>(1<=y.1/\y.1<=l.length - k)/\y.2.2.length=l.length/\(y.2.1+1<=k+y.1/\1<=y.2.1)/\y.2.2.take y.2.1=jO tA (l.take (k+y.1))/\y.2.2.drop (k+y.1 - 1)=l.drop (k+y.1 - 1)) (λy=>l.length - k - y.1) (1,k,l) ⟨by dsimp only;omega,rfl,by dsimp only;omega,hdt.symm,rfl⟩ (by repeat' (first|exact trivial|exact rfl|refine And.intro ?_ ?_)) rfl ?_
    rintro⟨k2,m,q⟩ ⟨⟨hk21,hk2l⟩,hql,⟨hm1,hm0⟩,ht,hdr⟩
    dsimp only at hk21 hk2l hql hm1 hm0 ht hdr
    ((conv=>whnf);repeat ((first|(refine aBe hty rfl rfl rfl ?_)|(intro hq;try simp only [lnS]at hq)|refine sI ?_|refine .intro _ (.intro rfl ?_));(conv=>whnf)))
    refine aC (λh2=> ?_) (λh2=> ?_)
    ·have hA:k+k2 < l.length:=by dsimp only at h2;omega
     have hB:k+k2 - 1 < l.length:=by omega
     have hml:m < q.length:=by omega
     have eA:q[k+k2]'(hql ▸ hA)=l[k+k2]:=cN hdr hql (by omega) hA
     have eB:q[k+k2 - 1]'(hql ▸ hB)=l[k+k2 - 1]:=cN hdr hql (by omega) hB
     have hrowA:(q.map atR)[k+(k2:Int).toNat]? =some (atR l[k+k2]):=by
      rw [Int.toNat_natCast,List.getElem?_map,List.getElem?_eq_getElem (hql ▸ hA),eA];rfl
     have hrowB:(q.map atR)[k+((k2:Int) - 1).toNat]? =some (atR l[k+k2 - 1]):=by
      rw [show k+((k2:Int) - 1).toNat=k+k2 - 1 by omega,List.getElem?_map,List.getElem?_eq_getElem (hql ▸ hB),eB];rfl
     have hrowM:(q.map atR)[(m:Int).toNat]? =some (atR q[m]):=aT hml
     have hdt2:=mI tA l (k+k2 - 1) (by omega)
     simp only [show k+k2 - 1+1=k+k2 by omega,show k+k2 - 1+2=k+(k2+1)by omega]at hdt2
     have hlq:l.length=(q.map atR).length:=by rw [List.length_map,hql]
     have hdr2:q.drop (k+k2)=l.drop (k+k2):=by
      have:=congrArg (List.drop 1) hdr
      rw [List.drop_drop,List.drop_drop,show k+k2 - 1+1=k+k2 by omega]at this
      exact this
     ((conv=>whnf);repeat ((first|(intro hq;try simp only [lnS]at hq)|refine sI ?_|refine .intro _ (.intro rfl ?_));(conv=>whnf)))
     refine dwR ?_
     ((conv=>whnf);repeat ((first|(refine And.intro aMp ?_)|(refine And.intro hlq ?_)|(refine⟨_,hrowA, ?_⟩)|(refine⟨_,hrowB, ?_⟩)|(intro hq;try simp only [lnS]at hq)|refine sI ?_|refine .intro _ (.intro rfl ?_));(conv=>whnf)))
     rw [aMx]
     cases hb2:tA l[k+k2] l[k+k2 - 1]
     ·((conv=>whnf);repeat' ((first|(intro hq;(try simp only [lnS]at hq);(try rewrite [List.length_map]))|refine sJ ?_|refine .intro _ (.intro rfl ?_)|refine exL (k:= ?_)|(refine And.intro hlq ?_)|(refine⟨_,hrowA, ?_⟩)|(refine⟨_,hrowM, ?_⟩)|(refine And.intro (oT rfl) ?_)|refine dwR ?_|((first|refine aC ?_ ?_|refine aD ?_ ?_)<;>intro hb<;>(first|exact ddX hb|try simp only [lnS]at hb))|(refine aB ?_ ?_<;>intro hb<;>try exact dsX hb))<;>(conv=>whnf)))
      rw [hb2,if_neg (by decide),<-ht]at hdt2
      refine⟨(k2+1,m+1,q.set m l[k+k2]),⟨by dsimp only;omega,by dsimp only;rw [List.length_set];exact hql,by dsimp only;omega, ?_, ?_⟩,by dsimp only;omega,by repeat' (first|exact trivial|exact rfl|refine And.intro ?_ ?_), ?_⟩
      ·dsimp only
       rw [hdt2]
       exact lC _ hml
      ·dsimp only
       rw [show k+(k2+1) - 1=k+k2 by omega,List.drop_set_of_lt (by omega)]
       exact hdr2
      ·dsimp only
       rw [List.map_set]
       rfl
     ·((conv=>whnf);repeat' ((first|(intro hq;(try simp only [lnS]at hq);(try rewrite [List.length_map]))|refine sJ ?_|refine .intro _ (.intro rfl ?_)|refine exL (k:= ?_)|refine dwR ?_|((first|refine aC ?_ ?_|refine aD ?_ ?_)<;>intro hb<;>(first|exact ddX hb|try simp only [lnS]at hb))|(refine aB ?_ ?_<;>intro hb<;>try exact dsX hb))<;>(conv=>whnf)))
      rw [hb2,if_pos rfl]at hdt2
      exact⟨(k2+1,m,q),⟨by dsimp only;omega,hql,by dsimp only;omega,by dsimp only;rw [hdt2];exact ht,by dsimp only;rw [show k+(k2+1) - 1=k+k2 by omega];exact hdr2⟩,by dsimp only;omega,by repeat' (first|exact trivial|exact rfl|refine And.intro ?_ ?_),rfl⟩
    ·have hke:k+k2=l.length:=by dsimp only at h2;omega
     rw [hke,List.take_length]at ht
     have hlq:l.length=(q.map atR).length:=by rw [List.length_map,hql]
     have hmq:m+(l.length - m)=(q.map atR).length:=by rw [List.length_map,hql];omega
     have hml:=congrArg List.length ht
     rw [List.length_take,Nat.min_eq_left (by omega)]at hml
     ((conv=>whnf);repeat' ((first|(intro hq;(try simp only [lnS]at hq);(try rewrite [List.length_map]))|refine sJ ?_|refine .intro _ (.intro rfl ?_)|refine exL (k:= ?_)|(refine iW hty rfl rfl rfl rfl rfl rfl ?_)|(refine uH hty rfl rfl (by decide) rfl rfl rfl hlq hmq ?_)|refine dwR ?_|((first|refine aC ?_ ?_|refine aD ?_ ?_)<;>intro hb<;>(first|exact ddX hb|try simp only [lnS]at hb))|(refine aB ?_ ?_<;>intro hb<;>try exact dsX hb))<;>(conv=>whnf)))
     refine fin _ _ m (.inl rfl) ?_ hml ?_
     ·simp only [List.length_append,List.length_take,List.length_replicate,List.length_map]
      show l.length=min m q.length+(l.length - m)
      omega
     ·show ((q.map atR).take m++_).take m=_
      rw [List.take_append_of_le_length (by rw [List.length_take,List.length_map];omega),List.take_take,Nat.min_self,<-List.map_take,ht]
  ·have hkl':k=l.length:=by omega
   subst hkl'
   rw [List.take_length]at hd
   ((conv=>whnf);repeat' ((first|(intro hq;(try simp only [lnS]at hq);(try rewrite [List.length_map]))|refine sJ ?_|refine .intro _ (.intro rfl ?_)|refine exL (k:= ?_)|refine dwR ?_|((first|refine aC ?_ ?_|refine aD ?_ ?_)<;>intro hb<;>(first|exact ddX hb|try simp only [lnS]at hb))|(refine aB ?_ ?_<;>intro hb<;>try exact dsX hb))<;>(conv=>whnf)))
   exact fin _ _ l.length (.inr ⟨rfl,rfl⟩) (List.length_map ..).symm (by rw [hd]) (by rw [hd,List.take_of_length_le (by rw [List.length_map];exact Nat.le_refl _)])
end Go.Proofs.YtdjfkmkdkclahaaGreatDoor
