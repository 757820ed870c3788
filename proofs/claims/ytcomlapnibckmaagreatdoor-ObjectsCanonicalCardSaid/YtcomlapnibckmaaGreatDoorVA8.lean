/-
  Terms: CheckConcept, Size, Depth. Terms: Size, Depth, isBare, isEmpty. Terms: isBare, isEmpty. Terms: the shape and the names of an axiom.
  Conditions: none.
-/
import Derived.Test.YtcomlapnibckmaaGreatDoorVA4
set_option linter.unusedSectionVars false
set_option linter.unusedSimpArgs false
set_option linter.unusedVariables false
set_option maxHeartbeats 8000000
namespace Go.Proofs.YtcomlapnibckmaaGreatDoor
open Go.Proofs
set_option maxRecDepth 10000
attribute [local irreducible] aN aH Tri aF YVC cM bB
def gT:List Cn->Int
 | []=>0
 |x::r=>if cV x≠0 then cV x else gT r
def cI (c:Cn):Int:=if (fL c 0 0).1=false then 21 else gT (eK c)
theorem lC: ∀(l m:List Cn),(∀x∈l,cV x=0)->gT (l++m)=gT m
 | [],_,_=>rfl
 |x::l,m,h=>by
  rw [List.cons_append,gT,if_neg (by simp [h x (List.mem_cons_self ..)])]
  exact lC l m λy hy=>h y (List.mem_cons_of_mem _ hy)
theorem aHa: ∀k,100<=k->k∉mH NG:=by
 intro k hk hm
 have e:mH NG=[90,91]:=by with_unfolding_all exact rfl
 rw [e]at hm
 simp at hm
 omega
theorem gC (c:Cn):Tri Tryz.prog 170 [.d (.agg (cnR c))] NG (λr=>r= .d (.int .i64 (cI c))):=by
 have hcR:=bO c
 have hw:=aA4 c
 have hfit:= λhp0 pin fr K=> @aBn c 0 0 hp0 pin fr K (by omega) (by omega)
 rw [hcR]
 simp only [hcR]at hw hfit
 refine aG false [1] hty Tryz.func170 rfl (kp [0,1,2,3,4,5,8,10,11,15]) [] _ _ _ (by simp [Tryz.f170]) (by decide) ?_
 ((conv=>whnf);repeat' ((first|(intro hq;(try simp only [lnS]at hq);(try rewrite [List.length_map]))|refine sJ ?_|refine .intro _ (.intro rfl ?_)|refine exL (k:= ?_)|refine dwR ?_|((first|refine aB ?_ ?_|refine aC ?_ ?_)<;>intro hb<;>(first|exact ddX hb|try simp only [lnS]at hb))|(refine aA ?_ ?_<;>intro hb<;>try exact dsX hb))<;>(conv=>whnf)))
 refine hfit ((2, .cells 30 [.d (.int .i64 0)])::NG) _ _ _ (by simp) (aHb (by with_unfolding_all exact rfl)) (aEh (by decide) (by with_unfolding_all exact rfl) aHa) ?_
 cases hb:(fL c 0 0).1
 ·((conv=>whnf);repeat' ((first|(intro hq;(try simp only [lnS]at hq);(try rewrite [List.length_map]))|refine sJ ?_|refine .intro _ (.intro rfl ?_)|refine exL (k:= ?_)|refine dwR ?_|((first|refine aB ?_ ?_|refine aC ?_ ?_)<;>intro hb<;>(first|exact ddX hb|try simp only [lnS]at hb))|(refine aA ?_ ?_<;>intro hb<;>try exact dsX hb))<;>(conv=>whnf)))
  rw [cI,if_pos hb];rfl
 ·have hE:cI c=gT (eK c):=by rw [cI,if_neg (by simp [hb])]
  rw [hE]
  ((conv=>whnf);repeat ((first|(intro hq;try simp only [lnS]at hq)|refine sI ?_|refine .intro _ (.intro rfl ?_));(conv=>whnf)))
  refine aD [] hw trivial (λs hs=> ?_)
  subst hs
  ((conv=>whnf);repeat ((first|(intro hq;try simp only [lnS]at hq)|refine sI ?_|refine .intro _ (.intro rfl ?_));(conv=>whnf)))
  refine yU 60 (cD (by with_unfolding_all exact rfl)) trivial ?_
  ((conv=>whnf);repeat ((first|(intro hq;try simp only [lnS]at hq)|refine sI ?_|refine .intro _ (.intro rfl ?_));(conv=>whnf)))
  rw [<-hcR]
  refine vK (lid:=60) (by decide) (λe:Int=>(3,_)::(2, .cells 30 [.d (.int .i64 e)])::NG) (λdone e=>e=0/\ ∀x∈done,cV x=0) (λe=>e=gT (eK c)) c 0 ⟨rfl,by simp⟩ (by with_unfolding_all exact rfl) (λe=>aEh (by decide) (by with_unfolding_all exact rfl) (aEh (by decide) (by with_unfolding_all exact rfl) aHa)) (by simp) (aHb (by with_unfolding_all exact rfl)) ?_ ?_ ?_
  ·rintro done x s pin fr K ⟨rfl,hd⟩ ⟨rest,hA⟩ h1 h2 h3 h4
   have hx:=bO x
   have hcf:=nG x
   rw [hx]at hcf |-
   have hbig: ∀k,100<=k->k∉pin++eG fr++[60]:=by
    intro k hk hm
    simp only [aDh,aDi,List.mem_append,List.mem_singleton]at hm
    rcases hm with(hm|hm)|hm
    ·exact h1 k hk hm
    ·exact h2 k hk hm
    ·omega
   refine tE [4] hty (kp [0,1,2,3,4,5,8,10,11,15]) 600 rfl rfl ?_
   ((conv=>whnf);repeat' ((first|(intro hq;(try simp only [lnS]at hq);(try rewrite [List.length_map]))|refine sJ ?_|refine .intro _ (.intro rfl ?_)|refine exL (k:= ?_)|(refine And.intro ⟨hbig _ (Nat.le_of_ble_eq_true rfl),aHb (by with_unfolding_all exact rfl) _ (Nat.le_of_ble_eq_true rfl),fD (by with_unfolding_all exact rfl)⟩ ?_)|(refine aD NG hcf ⟨rfl,rfl,trivial⟩ (λr hs=> ?_);subst hs)|refine dwR ?_|((first|refine aB ?_ ?_|refine aC ?_ ?_)<;>intro hb<;>(first|exact ddX hb|try simp only [lnS]at hb))|(refine aA ?_ ?_<;>intro hb<;>try exact dsX hb))<;>(conv=>whnf)))
   ·exact h4 (cV x) (by rw [<-hA,lC _ _ hd,gT,if_pos (by assumption)])
   ·refine h3 0 ⟨rfl,λy hy=> ?_⟩
    rcases List.mem_append.1 hy with h|h
    ·exact hd y h
    ·simp at h;subst h;assumption
  ·rintro s ⟨rfl,hI⟩
   have hz:gT (eK c)=0:=by
    have:=lC (eK c) [] hI
    simpa [gT]using this
   rw [hz]
   ((conv=>whnf);repeat' ((first|(intro hq;(try simp only [lnS]at hq);(try rewrite [List.length_map]))|refine sJ ?_|refine .intro _ (.intro rfl ?_)|refine exL (k:= ?_)|refine dwR ?_|((first|refine aB ?_ ?_|refine aC ?_ ?_)<;>intro hb<;>(first|exact ddX hb|try simp only [lnS]at hb))|(refine aA ?_ ?_<;>intro hb<;>try exact dsX hb))<;>(conv=>whnf)))
   rfl
  ·rintro s rfl
   ((conv=>whnf);repeat' ((first|(intro hq;(try simp only [lnS]at hq);(try rewrite [List.length_map]))|refine sJ ?_|refine .intro _ (.intro rfl ?_)|refine exL (k:= ?_)|refine dwR ?_|((first|refine aB ?_ ?_|refine aC ?_ ?_)<;>intro hb<;>(first|exact ddX hb|try simp only [lnS]at hb))|(refine aA ?_ ?_<;>intro hb<;>try exact dsX hb))<;>(conv=>whnf)))
   rfl
end Go.Proofs.YtcomlapnibckmaaGreatDoor
namespace Go.Proofs.YtcomlapnibckmaaGreatDoor
open Go.Proofs
set_option maxRecDepth 10000
attribute [local irreducible] aN aH Tri aF YVC cM bB
def nF (c:Cn):Nat:=(eK c).length
mutual
def uM:Cn->Nat
 | .mk _ _ _ _ ps=>aEf ps
def aEf:List Cn->Nat
 | []=>0
 |c::r=>max (uM c+1) (aEf r)
end
mutual
def mF:Cn->Bool
 | .mk k _ _ _ ps=>if k=4 then true else if k=5 then zV ps else false
def zV:List Cn->Bool
 | []=>false
 |c::r=>if mF c=true then true else zV r
end
theorem aDz (c:Cn):mF c=if c.kind=4 then true else if c.kind=5 then zV c.parts else false:=by cases c;rw [mF];rfl
end Go.Proofs.YtcomlapnibckmaaGreatDoor
namespace Go.Proofs.YtcomlapnibckmaaGreatDoor
open Go.Proofs
set_option maxRecDepth 10000
attribute [local irreducible] aN aH Tri aF YVC cM bB
def aG8 (p:Cn->Bool) (l:List Cn):Int:=if l.any p=true then ((l.findIdx p:Nat):Int)else -1
theorem aCn {p:Cn->Bool}{l:List Cn}{j:Nat}(h:j < l.length) (h1:(l.take j).any p=false) (h2:p l[j]=false):(l.take (j+1)).any p=false:=by
 rw [List.take_succ_eq_append_getElem h,List.any_append,h1];simp [h2]
theorem aFq {p:Cn->Bool}{l:List Cn}{j:Nat}(h:j < l.length) (h1:(l.take j).any p=false) (h2:p l[j]=true):aG8 p l=j:=by
 have ha:l.any p=true:=List.any_eq_true.2 ⟨_,List.getElem_mem h,h2⟩
 have hf:l.findIdx p=j:=by
  rw [List.findIdx_eq h]
  refine⟨h2,λi hi=> ?_⟩
  have:=List.any_eq_false.1 h1 (l[i]'(by omega)) (List.mem_iff_getElem.2 ⟨i,by simp;omega,by simp⟩)
  simpa using this
 rw [aG8,if_pos ha,hf]
theorem vY (f:FuncId) (hcall:cO Tryz.prog f=true) (p:Cn->Bool) (l:List Cn) (hf: ∀q∈l,Tri Tryz.prog f [.d (.agg (cnR q))] [] (λr=>r= .d (.bool (p q)))):
  Tri Tryz.prog 270 [.d (cnl l), .fn f [] []] [] (λr=>r= .d (.int .i64 (aG8 p l))):=by
 refine aK hty Tryz.func270 rfl (kp [0,1,4,5,7,8,9,16]) [] _ _ _ (by simp [Tryz.f270]) (by simp) ?_
 ((conv=>whnf);repeat ((first|(intro hq;try simp only [lnS]at hq)|refine sI ?_|refine .intro _ (.intro rfl ?_));(conv=>whnf)))
 refine aQ hty (λj:Nat=>([(0, .d (.sl 5 (l.map cnR))),(1, .fn f [] []),(7, .d (.int .i64 l.length)),(8, .d (.int .i64 j))],[])) (λj=>j<=l.length/\(l.take j).any p=false) (λj=>l.length - j) 0 ⟨by omega,by simp⟩ ⟨by repeat' (first|exact trivial|exact rfl|(rw [List.length_map];exact rfl)|refine And.intro ?_ ?_),trivial⟩ ?_
 rintro j ⟨hj,hn⟩
 ((conv=>whnf);repeat ((first|(intro hq;try simp only [lnS]at hq)|refine sI ?_|refine .intro _ (.intro rfl ?_));(conv=>whnf)))
 refine aB (λh1=> ?_) (λh1=> ?_)
 ·have hjl:j < l.length:=by omega
  have hrow':(l.map cnR)[(j:Int).toNat]? =some (cnR l[j]):=bH hjl
  have hi:=hf l[j] (List.getElem_mem hjl)
  rw [bO]at hrow' hi
  ((conv=>whnf);repeat' ((first|(intro hq;(try simp only [lnS]at hq);(try rewrite [List.length_map]))|refine sJ ?_|refine .intro _ (.intro rfl ?_)|refine exL (k:= ?_)|(refine⟨_,hrow', ?_⟩)|refine dwR ?_|((first|refine aB ?_ ?_|refine aC ?_ ?_)<;>intro hb<;>(first|exact ddX hb|try simp only [lnS]at hb))|(refine aA ?_ ?_<;>intro hb<;>try exact dsX hb))<;>(conv=>whnf)))
  refine aD [] hi trivial (λr hs=> ?_)
  subst hs
  cases hb2:p l[j]
  ·((conv=>whnf);repeat' ((first|(intro hq;(try simp only [lnS]at hq);(try rewrite [List.length_map]))|refine sJ ?_|refine .intro _ (.intro rfl ?_)|refine exL (k:= ?_)|refine dwR ?_|((first|refine aB ?_ ?_|refine aC ?_ ?_)<;>intro hb<;>(first|exact ddX hb|try simp only [lnS]at hb))|(refine aA ?_ ?_<;>intro hb<;>try exact dsX hb))<;>(conv=>whnf)))
   exact⟨j+1,⟨by omega,aCn hjl hn hb2⟩,by dsimp only;omega,by repeat' (first|exact trivial|exact rfl|refine And.intro ?_ ?_),trivial⟩
  ·((conv=>whnf);repeat' ((first|(intro hq;(try simp only [lnS]at hq);(try rewrite [List.length_map]))|refine sJ ?_|refine .intro _ (.intro rfl ?_)|refine exL (k:= ?_)|refine dwR ?_|((first|refine aB ?_ ?_|refine aC ?_ ?_)<;>intro hb<;>(first|exact ddX hb|try simp only [lnS]at hb))|(refine aA ?_ ?_<;>intro hb<;>try exact dsX hb))<;>(conv=>whnf)))
   exact uH (aFq hjl hn hb2).symm
 ·have hjl:j=l.length:=by omega
  subst hjl
  rw [List.take_length]at hn
  ((conv=>whnf);repeat' ((first|(intro hq;(try simp only [lnS]at hq);(try rewrite [List.length_map]))|refine sJ ?_|refine .intro _ (.intro rfl ?_)|refine exL (k:= ?_)|refine dwR ?_|((first|refine aB ?_ ?_|refine aC ?_ ?_)<;>intro hb<;>(first|exact ddX hb|try simp only [lnS]at hb))|(refine aA ?_ ?_<;>intro hb<;>try exact dsX hb))<;>(conv=>whnf)))
  rw [aG8,if_neg (by simp [hn])];rfl
theorem vZ (p:Cn->Bool) (l:List Cn):decide (0<=aG8 p l)=l.any p:=by
 unfold aG8
 cases h:l.any p
 ·simp
 ·simp
theorem pV (f:FuncId) (hcall:cO Tryz.prog f=true) (p:Cn->Bool) (l:List Cn) (hf: ∀q∈l,Tri Tryz.prog f [.d (.agg (cnR q))] [] (λr=>r= .d (.bool (p q)))):
  Tri Tryz.prog 226 [.d (cnl l), .fn f [] []] [] (λr=>r= .d (.bool (l.any p))):=by
 refine aK hty Tryz.func226 rfl (kp [0,1,4]) [] _ _ _ (by simp [Tryz.f226]) (by simp) ?_
 ((conv=>whnf);repeat ((first|(intro hq;try simp only [lnS]at hq)|refine sI ?_|refine .intro _ (.intro rfl ?_));(conv=>whnf)))
 refine aD [] (vY f hcall p l hf) trivial (λr hs=> ?_)
 subst hs
 ((conv=>whnf);repeat' ((first|(intro hq;(try simp only [lnS]at hq);(try rewrite [List.length_map]))|refine sJ ?_|refine .intro _ (.intro rfl ?_)|refine exL (k:= ?_)|refine dwR ?_|((first|refine aB ?_ ?_|refine aC ?_ ?_)<;>intro hb<;>(first|exact ddX hb|try simp only [lnS]at hb))|(refine aA ?_ ?_<;>intro hb<;>try exact dsX hb))<;>(conv=>whnf)))
 exact aV (vZ p l)
theorem uS: ∀l,zV l=l.any mF
 | []=>by simp [zV]
 |c::r=>by rw [zV,uS r,List.any_cons];cases mF c<;>simp
theorem oK: ∀(c:Cn),Tri Tryz.prog 171 [.d (.agg (cnR c))] [] (λr=>r= .d (.bool (mF c))):=by
 refine Cn.ind ?_
 intro c ih
 have hC:=pV 171 (by kernel_rfl) mF c.parts ih
 rw [bO,aDz,uS]
 refine aG false [1] hty Tryz.func171 rfl (kp [0,1,2,4,5,7]) [] _ _ _ (by simp [Tryz.f171]) (by simp) ?_
 ((conv=>whnf);repeat' ((first|(intro hq;(try simp only [lnS]at hq);(try rewrite [List.length_map]))|refine sJ ?_|refine .intro _ (.intro rfl ?_)|refine exL (k:= ?_)|(refine aD [] hC trivial (λr hs=> ?_);subst hs)|refine dwR ?_|((first|refine aB ?_ ?_|refine aC ?_ ?_)<;>intro hb<;>(first|exact ddX hb|try simp only [lnS]at hb))|(refine aA ?_ ?_<;>intro hb<;>try exact dsX hb))<;>(conv=>whnf)))
 ·rw [if_pos (by assumption)];rfl
 ·rw [if_neg (by assumption),if_pos (by assumption)];rfl
 ·rw [if_neg (by assumption),if_neg (by assumption)];rfl
def nC (c:Cn):Bool:=decide (c.kind=0) && (decide (c.name=[]) && (decide (c.lo=0) && (decide (c.hi=0) && decide (c.parts=[]))))
theorem aW (c:Cn):Tri Tryz.prog 221 [.d (.agg (cnR c))] [] (λr=>r= .d (.bool (nC c))):=by
 rw [bO]
 refine aG false [1] hty Tryz.func221 rfl (kp [0,1,2]) [] _ _ _ (by simp [Tryz.f221]) (by simp) ?_
 ((conv=>whnf);repeat' ((first|(intro hq;(try simp only [lnS]at hq);(try rewrite [List.length_map]))|refine sJ ?_|refine .intro _ (.intro rfl ?_)|refine exL (k:= ?_)|refine dwR ?_|((first|refine aB ?_ ?_|refine aC ?_ ?_)<;>intro hb<;>(first|exact ddX hb|try simp only [lnS]at hb))|(refine aA ?_ ?_<;>intro hb<;>try exact dsX hb))<;>(conv=>whnf)))
 all_goals (unfold nC;simp_all [cU])
 all_goals trace_state
end Go.Proofs.YtcomlapnibckmaaGreatDoor
namespace Go.Proofs.YtcomlapnibckmaaGreatDoor
open Go.Proofs
set_option maxRecDepth 10000
attribute [local irreducible] aN aH Tri aF YVC cM bB
def bG (u:Use) (x:Ax):Bool:=
 (u.left || nC x.left) && ((u.right || nC x.right) && ((u.role || decide (x.role=[])) && ((u.a || decide (x.a=[])) && ((u.b || decide (x.b=[])) && (decide (u.least<=x.roles.length) && decide ((x.roles.length:Int)<=u.most))))))
def bA (x:Ax):Bool:=if x.kind < 1\/9 < x.kind then false else bG (pO x.kind) x
theorem lH {k:Int}(n:Nat) (h:n < fJ.length) (hk:k=n):(fJ.map aF0)[k.toNat]? =some (aF0 fJ[n]):=by
 subst hk
 rw [Int.toNat_natCast,List.getElem?_map,List.getElem?_eq_getElem h];rfl
theorem zO (x:Ax) (hk:x.kind=1):Tri Tryz.prog 168 [.d (.agg (axR x))] NG (λr=>r= .d (.bool (bA x))):=by
 have e1:=aW x.left
 have e2:=aW x.right
 rw [bO]at e1 e2
 have hrow:=lH (k:=x.kind) 1 (by decide) hk
 have hE:bA x=bG (fJ[1]'(by decide)) x:=by rw [bA,if_neg (by omega),hk];rfl
 rw [hE]
 refine aG false [1,3] hty Tryz.func168 rfl (kp [0,1,2,3,11]) [] _ _ _ (by simp [Tryz.f168]) (by decide) ?_
 ((conv=>whnf);repeat ((first|(intro hq;try simp only [lnS]at hq)|refine sI ?_|refine .intro _ (.intro rfl ?_));(conv=>whnf)))
 refine aB (λh1=>by omega) (λh1=> ?_)
 ((conv=>whnf);repeat ((first|(intro hq;try simp only [lnS]at hq)|refine sI ?_|refine .intro _ (.intro rfl ?_));(conv=>whnf)))
 refine aB (λh2=>by omega) (λh2=> ?_)
 ((conv=>whnf);repeat' ((first|(intro hq;(try simp only [lnS]at hq);(try rewrite [List.length_map]))|refine sJ ?_|refine .intro _ (.intro rfl ?_)|refine exL (k:= ?_)|(refine cG (id:=91) hty rfl rfl rfl rfl rfl rfl rfl (by omega) (by omega) ?_)|(refine⟨_,hrow, ?_⟩)|(refine aD [] e1 trivial (λr hs=> ?_);subst hs)|(refine aD [] e2 trivial (λr hs=> ?_);subst hs)|refine dwR ?_|((first|refine aB ?_ ?_|refine aC ?_ ?_)<;>intro hb<;>(first|exact ddX hb|try simp only [lnS]at hb))|(refine aA ?_ ?_<;>intro hb<;>try exact dsX hb))<;>(conv=>whnf)))
 all_goals (clear e1 e2 hrow hE;refine aV (Eq.symm ?_);show bG _ x=_;simp only [bG,fJ,List.getElem_cons_succ,List.getElem_cons_zero,Bool.true_or,Bool.false_or,Bool.true_and];simp_all [fJ]<;>omega)
theorem zN (x:Ax) (hk:x.kind=2):Tri Tryz.prog 168 [.d (.agg (axR x))] NG (λr=>r= .d (.bool (bA x))):=by
 have e1:=aW x.left
 have e2:=aW x.right
 rw [bO]at e1 e2
 have hrow:=lH (k:=x.kind) 2 (by decide) hk
 have hE:bA x=bG (fJ[2]'(by decide)) x:=by rw [bA,if_neg (by omega),hk];rfl
 rw [hE]
 refine aG false [1,3] hty Tryz.func168 rfl (kp [0,1,2,3,11]) [] _ _ _ (by simp [Tryz.f168]) (by decide) ?_
 ((conv=>whnf);repeat ((first|(intro hq;try simp only [lnS]at hq)|refine sI ?_|refine .intro _ (.intro rfl ?_));(conv=>whnf)))
 refine aB (λh1=>by omega) (λh1=> ?_)
 ((conv=>whnf);repeat ((first|(intro hq;try simp only [lnS]at hq)|refine sI ?_|refine .intro _ (.intro rfl ?_));(conv=>whnf)))
 refine aB (λh2=>by omega) (λh2=> ?_)
 ((conv=>whnf);repeat' ((first|(intro hq;(try simp only [lnS]at hq);(try rewrite [List.length_map]))|refine sJ ?_|refine .intro _ (.intro rfl ?_)|refine exL (k:= ?_)|(refine cG (id:=91) hty rfl rfl rfl rfl rfl rfl rfl (by omega) (by omega) ?_)|(refine⟨_,hrow, ?_⟩)|(refine aD [] e1 trivial (λr hs=> ?_);subst hs)|(refine aD [] e2 trivial (λr hs=> ?_);subst hs)|refine dwR ?_|((first|refine aB ?_ ?_|refine aC ?_ ?_)<;>intro hb<;>(first|exact ddX hb|try simp only [lnS]at hb))|(refine aA ?_ ?_<;>intro hb<;>try exact dsX hb))<;>(conv=>whnf)))
 all_goals (clear e1 e2 hrow hE;refine aV (Eq.symm ?_);show bG _ x=_;simp only [bG,fJ,List.getElem_cons_succ,List.getElem_cons_zero,Bool.true_or,Bool.false_or,Bool.true_and];simp_all [fJ]<;>omega)
theorem zM (x:Ax) (hk:x.kind=3):Tri Tryz.prog 168 [.d (.agg (axR x))] NG (λr=>r= .d (.bool (bA x))):=by
 have e1:=aW x.left
 have e2:=aW x.right
 rw [bO]at e1 e2
 have hrow:=lH (k:=x.kind) 3 (by decide) hk
 have hE:bA x=bG (fJ[3]'(by decide)) x:=by rw [bA,if_neg (by omega),hk];rfl
 rw [hE]
 refine aG false [1,3] hty Tryz.func168 rfl (kp [0,1,2,3,11]) [] _ _ _ (by simp [Tryz.f168]) (by decide) ?_
 ((conv=>whnf);repeat ((first|(intro hq;try simp only [lnS]at hq)|refine sI ?_|refine .intro _ (.intro rfl ?_));(conv=>whnf)))
 refine aB (λh1=>by omega) (λh1=> ?_)
 ((conv=>whnf);repeat ((first|(intro hq;try simp only [lnS]at hq)|refine sI ?_|refine .intro _ (.intro rfl ?_));(conv=>whnf)))
 refine aB (λh2=>by omega) (λh2=> ?_)
 ((conv=>whnf);repeat' ((first|(intro hq;(try simp only [lnS]at hq);(try rewrite [List.length_map]))|refine sJ ?_|refine .intro _ (.intro rfl ?_)|refine exL (k:= ?_)|(refine cG (id:=91) hty rfl rfl rfl rfl rfl rfl rfl (by omega) (by omega) ?_)|(refine⟨_,hrow, ?_⟩)|(refine aD [] e1 trivial (λr hs=> ?_);subst hs)|(refine aD [] e2 trivial (λr hs=> ?_);subst hs)|refine dwR ?_|((first|refine aB ?_ ?_|refine aC ?_ ?_)<;>intro hb<;>(first|exact ddX hb|try simp only [lnS]at hb))|(refine aA ?_ ?_<;>intro hb<;>try exact dsX hb))<;>(conv=>whnf)))
 all_goals (clear e1 e2 hrow hE;refine aV (Eq.symm ?_);show bG _ x=_;simp only [bG,fJ,List.getElem_cons_succ,List.getElem_cons_zero,Bool.true_or,Bool.false_or,Bool.true_and];simp_all [fJ]<;>omega)
theorem zL (x:Ax) (hk:x.kind=4):Tri Tryz.prog 168 [.d (.agg (axR x))] NG (λr=>r= .d (.bool (bA x))):=by
 have e1:=aW x.left
 have e2:=aW x.right
 rw [bO]at e1 e2
 have hrow:=lH (k:=x.kind) 4 (by decide) hk
 have hE:bA x=bG (fJ[4]'(by decide)) x:=by rw [bA,if_neg (by omega),hk];rfl
 rw [hE]
 refine aG false [1,3] hty Tryz.func168 rfl (kp [0,1,2,3,11]) [] _ _ _ (by simp [Tryz.f168]) (by decide) ?_
 ((conv=>whnf);repeat ((first|(intro hq;try simp only [lnS]at hq)|refine sI ?_|refine .intro _ (.intro rfl ?_));(conv=>whnf)))
 refine aB (λh1=>by omega) (λh1=> ?_)
 ((conv=>whnf);repeat ((first|(intro hq;try simp only [lnS]at hq)|refine sI ?_|refine .intro _ (.intro rfl ?_));(conv=>whnf)))
 refine aB (λh2=>by omega) (λh2=> ?_)
 ((conv=>whnf);repeat' ((first|(intro hq;(try simp only [lnS]at hq);(try rewrite [List.length_map]))|refine sJ ?_|refine .intro _ (.intro rfl ?_)|refine exL (k:= ?_)|(refine cG (id:=91) hty rfl rfl rfl rfl rfl rfl rfl (by omega) (by omega) ?_)|(refine⟨_,hrow, ?_⟩)|(refine aD [] e1 trivial (λr hs=> ?_);subst hs)|(refine aD [] e2 trivial (λr hs=> ?_);subst hs)|refine dwR ?_|((first|refine aB ?_ ?_|refine aC ?_ ?_)<;>intro hb<;>(first|exact ddX hb|try simp only [lnS]at hb))|(refine aA ?_ ?_<;>intro hb<;>try exact dsX hb))<;>(conv=>whnf)))
 all_goals (clear e1 e2 hrow hE;refine aV (Eq.symm ?_);show bG _ x=_;simp only [bG,fJ,List.getElem_cons_succ,List.getElem_cons_zero,Bool.true_or,Bool.false_or,Bool.true_and];simp_all [fJ]<;>omega)
theorem zI (x:Ax) (hk:x.kind=7):Tri Tryz.prog 168 [.d (.agg (axR x))] NG (λr=>r= .d (.bool (bA x))):=by
 have e1:=aW x.left
 have e2:=aW x.right
 rw [bO]at e1 e2
 have hrow:=lH (k:=x.kind) 7 (by decide) hk
 have hE:bA x=bG (fJ[7]'(by decide)) x:=by rw [bA,if_neg (by omega),hk];rfl
 rw [hE]
 refine aG false [1,3] hty Tryz.func168 rfl (kp [0,1,2,3,11]) [] _ _ _ (by simp [Tryz.f168]) (by decide) ?_
 ((conv=>whnf);repeat ((first|(intro hq;try simp only [lnS]at hq)|refine sI ?_|refine .intro _ (.intro rfl ?_));(conv=>whnf)))
 refine aB (λh1=>by omega) (λh1=> ?_)
 ((conv=>whnf);repeat ((first|(intro hq;try simp only [lnS]at hq)|refine sI ?_|refine .intro _ (.intro rfl ?_));(conv=>whnf)))
 refine aB (λh2=>by omega) (λh2=> ?_)
 ((conv=>whnf);repeat' ((first|(intro hq;(try simp only [lnS]at hq);(try rewrite [List.length_map]))|refine sJ ?_|refine .intro _ (.intro rfl ?_)|refine exL (k:= ?_)|(refine cG (id:=91) hty rfl rfl rfl rfl rfl rfl rfl (by omega) (by omega) ?_)|(refine⟨_,hrow, ?_⟩)|(refine aD [] e1 trivial (λr hs=> ?_);subst hs)|(refine aD [] e2 trivial (λr hs=> ?_);subst hs)|refine dwR ?_|((first|refine aB ?_ ?_|refine aC ?_ ?_)<;>intro hb<;>(first|exact ddX hb|try simp only [lnS]at hb))|(refine aA ?_ ?_<;>intro hb<;>try exact dsX hb))<;>(conv=>whnf)))
 all_goals (clear e1 e2 hrow hE;refine aV (Eq.symm ?_);show bG _ x=_;simp only [bG,fJ,List.getElem_cons_succ,List.getElem_cons_zero,Bool.true_or,Bool.false_or,Bool.true_and];simp_all [fJ]<;>omega)
theorem zH (x:Ax) (hk:x.kind=8):Tri Tryz.prog 168 [.d (.agg (axR x))] NG (λr=>r= .d (.bool (bA x))):=by
 have e1:=aW x.left
 have e2:=aW x.right
 rw [bO]at e1 e2
 have hrow:=lH (k:=x.kind) 8 (by decide) hk
 have hE:bA x=bG (fJ[8]'(by decide)) x:=by rw [bA,if_neg (by omega),hk];rfl
 rw [hE]
 refine aG false [1,3] hty Tryz.func168 rfl (kp [0,1,2,3,11]) [] _ _ _ (by simp [Tryz.f168]) (by decide) ?_
 ((conv=>whnf);repeat ((first|(intro hq;try simp only [lnS]at hq)|refine sI ?_|refine .intro _ (.intro rfl ?_));(conv=>whnf)))
 refine aB (λh1=>by omega) (λh1=> ?_)
 ((conv=>whnf);repeat ((first|(intro hq;try simp only [lnS]at hq)|refine sI ?_|refine .intro _ (.intro rfl ?_));(conv=>whnf)))
 refine aB (λh2=>by omega) (λh2=> ?_)
 ((conv=>whnf);repeat' ((first|(intro hq;(try simp only [lnS]at hq);(try rewrite [List.length_map]))|refine sJ ?_|refine .intro _ (.intro rfl ?_)|refine exL (k:= ?_)|(refine cG (id:=91) hty rfl rfl rfl rfl rfl rfl rfl (by omega) (by omega) ?_)|(refine⟨_,hrow, ?_⟩)|(refine aD [] e1 trivial (λr hs=> ?_);subst hs)|(refine aD [] e2 trivial (λr hs=> ?_);subst hs)|refine dwR ?_|((first|refine aB ?_ ?_|refine aC ?_ ?_)<;>intro hb<;>(first|exact ddX hb|try simp only [lnS]at hb))|(refine aA ?_ ?_<;>intro hb<;>try exact dsX hb))<;>(conv=>whnf)))
 all_goals (clear e1 e2 hrow hE;refine aV (Eq.symm ?_);show bG _ x=_;simp only [bG,fJ,List.getElem_cons_succ,List.getElem_cons_zero,Bool.true_or,Bool.false_or,Bool.true_and];simp_all [fJ]<;>omega)
theorem zG (x:Ax) (hk:x.kind=9):Tri Tryz.prog 168 [.d (.agg (axR x))] NG (λr=>r= .d (.bool (bA x))):=by
 have e1:=aW x.left
 have e2:=aW x.right
 rw [bO]at e1 e2
 have hrow:=lH (k:=x.kind) 9 (by decide) hk
 have hE:bA x=bG (fJ[9]'(by decide)) x:=by rw [bA,if_neg (by omega),hk];rfl
 rw [hE]
 refine aG false [1,3] hty Tryz.func168 rfl (kp [0,1,2,3,11]) [] _ _ _ (by simp [Tryz.f168]) (by decide) ?_
 ((conv=>whnf);repeat ((first|(intro hq;try simp only [lnS]at hq)|refine sI ?_|refine .intro _ (.intro rfl ?_));(conv=>whnf)))
 refine aB (λh1=>by omega) (λh1=> ?_)
 ((conv=>whnf);repeat ((first|(intro hq;try simp only [lnS]at hq)|refine sI ?_|refine .intro _ (.intro rfl ?_));(conv=>whnf)))
 refine aB (λh2=>by omega) (λh2=> ?_)
 ((conv=>whnf);repeat' ((first|(intro hq;(try simp only [lnS]at hq);(try rewrite [List.length_map]))|refine sJ ?_|refine .intro _ (.intro rfl ?_)|refine exL (k:= ?_)|(refine cG (id:=91) hty rfl rfl rfl rfl rfl rfl rfl (by omega) (by omega) ?_)|(refine⟨_,hrow, ?_⟩)|(refine aD [] e1 trivial (λr hs=> ?_);subst hs)|(refine aD [] e2 trivial (λr hs=> ?_);subst hs)|refine dwR ?_|((first|refine aB ?_ ?_|refine aC ?_ ?_)<;>intro hb<;>(first|exact ddX hb|try simp only [lnS]at hb))|(refine aA ?_ ?_<;>intro hb<;>try exact dsX hb))<;>(conv=>whnf)))
 all_goals (clear e1 e2 hrow hE;refine aV (Eq.symm ?_);show bG _ x=_;simp only [bG,fJ,List.getElem_cons_succ,List.getElem_cons_zero,Bool.true_or,Bool.false_or,Bool.true_and];simp_all [fJ]<;>omega)
theorem zK (x:Ax) (hk:x.kind=5):Tri Tryz.prog 168 [.d (.agg (axR x))] NG (λr=>r= .d (.bool (bA x))):=by
 have e1:=aW x.left
 have e2:=aW x.right
 rw [bO]at e1 e2
 have hrow:=lH (k:=x.kind) 5 (by decide) hk
 have hE:bA x=bG (fJ[5]'(by decide)) x:=by rw [bA,if_neg (by omega),hk];rfl
 rw [hE]
 refine aG false [1,3] hty Tryz.func168 rfl (kp [0,1,2,3,11]) [] _ _ _ (by simp [Tryz.f168]) (by decide) ?_
 ((conv=>whnf);repeat ((first|(intro hq;try simp only [lnS]at hq)|refine sI ?_|refine .intro _ (.intro rfl ?_));(conv=>whnf)))
 refine aB (λh1=>by omega) (λh1=> ?_)
 ((conv=>whnf);repeat ((first|(intro hq;try simp only [lnS]at hq)|refine sI ?_|refine .intro _ (.intro rfl ?_));(conv=>whnf)))
 refine aB (λh2=>by omega) (λh2=> ?_)
 ((conv=>whnf);repeat' ((first|(intro hq;(try simp only [lnS]at hq);(try rewrite [List.length_map]))|refine sJ ?_|refine .intro _ (.intro rfl ?_)|refine exL (k:= ?_)|(refine cG (id:=91) hty rfl rfl rfl rfl rfl rfl rfl (by omega) (by omega) ?_)|(refine⟨_,hrow, ?_⟩)|(refine aD [] e1 trivial (λr hs=> ?_);subst hs)|(refine aD [] e2 trivial (λr hs=> ?_);subst hs)|refine dwR ?_|((first|refine aB ?_ ?_|refine aC ?_ ?_)<;>intro hb<;>(first|exact ddX hb|try simp only [lnS]at hb))|(refine aA ?_ ?_<;>intro hb<;>try exact dsX hb))<;>(conv=>whnf)))
 all_goals (clear e1 e2 hrow hE;refine aV (Eq.symm ?_);show bG _ x=_;simp only [bG,show (fJ[5]'(by decide)).left=false from rfl,show (fJ[5]'(by decide)).right=false from rfl,show (fJ[5]'(by decide)).role=true from rfl,show (fJ[5]'(by decide)).a=false from rfl,show (fJ[5]'(by decide)).b=false from rfl,Bool.true_or,Bool.false_or,Bool.true_and];have hl:(fJ[5]'(by decide)).least=(5:Int) - 4:=rfl;have hm:(fJ[5]'(by decide)).most=3 * (5:Int) - 14:=rfl;simp_all<;>omega)
theorem zJ (x:Ax) (hk:x.kind=6):Tri Tryz.prog 168 [.d (.agg (axR x))] NG (λr=>r= .d (.bool (bA x))):=by
 have e1:=aW x.left
 have e2:=aW x.right
 rw [bO]at e1 e2
 have hrow:=lH (k:=x.kind) 6 (by decide) hk
 have hE:bA x=bG (fJ[6]'(by decide)) x:=by rw [bA,if_neg (by omega),hk];rfl
 rw [hE]
 refine aG false [1,3] hty Tryz.func168 rfl (kp [0,1,2,3,11]) [] _ _ _ (by simp [Tryz.f168]) (by decide) ?_
 ((conv=>whnf);repeat ((first|(intro hq;try simp only [lnS]at hq)|refine sI ?_|refine .intro _ (.intro rfl ?_));(conv=>whnf)))
 refine aB (λh1=>by omega) (λh1=> ?_)
 ((conv=>whnf);repeat ((first|(intro hq;try simp only [lnS]at hq)|refine sI ?_|refine .intro _ (.intro rfl ?_));(conv=>whnf)))
 refine aB (λh2=>by omega) (λh2=> ?_)
 ((conv=>whnf);repeat' ((first|(intro hq;(try simp only [lnS]at hq);(try rewrite [List.length_map]))|refine sJ ?_|refine .intro _ (.intro rfl ?_)|refine exL (k:= ?_)|(refine cG (id:=91) hty rfl rfl rfl rfl rfl rfl rfl (by omega) (by omega) ?_)|(refine⟨_,hrow, ?_⟩)|(refine aD [] e1 trivial (λr hs=> ?_);subst hs)|(refine aD [] e2 trivial (λr hs=> ?_);subst hs)|refine dwR ?_|((first|refine aB ?_ ?_|refine aC ?_ ?_)<;>intro hb<;>(first|exact ddX hb|try simp only [lnS]at hb))|(refine aA ?_ ?_<;>intro hb<;>try exact dsX hb))<;>(conv=>whnf)))
 all_goals (clear e1 e2 hrow hE;refine aV (Eq.symm ?_);show bG _ x=_;simp only [bG,show (fJ[6]'(by decide)).left=false from rfl,show (fJ[6]'(by decide)).right=false from rfl,show (fJ[6]'(by decide)).role=true from rfl,show (fJ[6]'(by decide)).a=false from rfl,show (fJ[6]'(by decide)).b=false from rfl,Bool.true_or,Bool.false_or,Bool.true_and];have hl:(fJ[6]'(by decide)).least=(6:Int) - 4:=rfl;have hm:(fJ[6]'(by decide)).most=3 * (6:Int) - 14:=rfl;simp_all<;>omega)
theorem sR (x:Ax):Tri Tryz.prog 168 [.d (.agg (axR x))] NG (λr=>r= .d (.bool (bA x))):=by
 by_cases hk:1<=x.kind/\x.kind<=9
 ·rcases(show x.kind=1\/x.kind=2\/x.kind=3\/x.kind=4\/x.kind=5\/x.kind=6\/x.kind=7\/x.kind=8\/x.kind=9 by omega)with h|h|h|h|h|h|h|h|h
  ·exact zO x h
  ·exact zN x h
  ·exact zM x h
  ·exact zL x h
  ·exact zK x h
  ·exact zJ x h
  ·exact zI x h
  ·exact zH x h
  ·exact zG x h
 ·have hE:bA x=false:=by rw [bA,if_pos (by omega)]
  rw [hE]
  refine aG false [1,3] hty Tryz.func168 rfl (kp [0,1,2,3,11]) [] _ _ _ (by simp [Tryz.f168]) (by decide) ?_
  ((conv=>whnf);repeat ((first|(intro hq;try simp only [lnS]at hq)|refine sI ?_|refine .intro _ (.intro rfl ?_));(conv=>whnf)))
  refine aB (λh1=> ?_) (λh1=> ?_)
  ·((conv=>whnf);repeat' ((first|(intro hq;(try simp only [lnS]at hq);(try rewrite [List.length_map]))|refine sJ ?_|refine .intro _ (.intro rfl ?_)|refine exL (k:= ?_)|refine dwR ?_|((first|refine aB ?_ ?_|refine aC ?_ ?_)<;>intro hb<;>(first|exact ddX hb|try simp only [lnS]at hb))|(refine aA ?_ ?_<;>intro hb<;>try exact dsX hb))<;>(conv=>whnf)))
   rfl
  ·((conv=>whnf);repeat ((first|(intro hq;try simp only [lnS]at hq)|refine sI ?_|refine .intro _ (.intro rfl ?_));(conv=>whnf)))
   refine aB (λh2=> ?_) (λh2=>by omega)
   ((conv=>whnf);repeat' ((first|(intro hq;(try simp only [lnS]at hq);(try rewrite [List.length_map]))|refine sJ ?_|refine .intro _ (.intro rfl ?_)|refine exL (k:= ?_)|refine dwR ?_|((first|refine aB ?_ ?_|refine aC ?_ ?_)<;>intro hb<;>(first|exact ddX hb|try simp only [lnS]at hb))|(refine aA ?_ ?_<;>intro hb<;>try exact dsX hb))<;>(conv=>whnf)))
   rfl
def mY (u:Use) (x:Ax):Bool:= !((u.role && !fA x.role) || ((u.a && !eF x.a) || (u.b && !eF x.b))) && x.roles.all fA
theorem aCo {p:List UInt8->Bool}{l:List (List UInt8)}{j:Nat}(h:j < l.length) (h1:(l.take j).all p=true) (h2:p l[j]=true):(l.take (j+1)).all p=true:=by
 rw [List.take_succ_eq_append_getElem h,List.all_append,h1];simp [h2]
theorem uG (x:Ax) (u:Use):Tri Tryz.prog 169 [.d (.agg (axR x)), .d (.agg (aF0 u))] [] (λr=>r= .d (.bool (mY u x))):=by
 refine aG false [2,3] hty Tryz.func169 rfl (kp [0,1,2,3,4,6,34,36,37,38,39,44]) [] _ _ _ (by simp [Tryz.f169]) (by simp) ?_
 ((conv=>whnf);repeat' ((first|(intro hq;(try simp only [lnS]at hq);(try rewrite [List.length_map]))|refine sJ ?_|refine .intro _ (.intro rfl ?_)|refine exL (k:= ?_)|(refine aD [] (fP _) trivial (λr hs=> ?_);subst hs)|(refine aD [] (fU _) trivial (λr hs=> ?_);subst hs)|refine dwR ?_|((first|refine aB ?_ ?_|refine aC ?_ ?_)<;>intro hb<;>(first|exact ddX hb|try simp only [lnS]at hb))|(refine aA ?_ ?_<;>intro hb<;>try exact dsX hb))<;>(conv=>whnf)))
 all_goals first
  |(refine aV (Eq.symm ?_);unfold mY;simp_all;done)
  |skip
 all_goals (
  have hN:mY u x=x.roles.all fA:=by unfold mY;simp_all
  rw [hN]
  refine aQ hty (λj:Nat=>([(36, .d (.sl 1 (x.roles.map cF))),(37, .d (.int .i64 x.roles.length)),(38, .d (.int .i64 j))],[])) (λj=>j<=x.roles.length/\(x.roles.take j).all fA=true) (λj=>x.roles.length - j) 0 ⟨by omega,by simp⟩ ⟨by repeat' (first|exact trivial|exact rfl|(rw [List.length_map];exact rfl)|refine And.intro ?_ ?_),trivial⟩ ?_
  rintro j ⟨hj,hn⟩
  ((conv=>whnf);repeat ((first|(intro hq;try simp only [lnS]at hq)|refine sI ?_|refine .intro _ (.intro rfl ?_));(conv=>whnf)))
  refine aB (λh1=> ?_) (λh1=> ?_)
  ·have hjl:j < x.roles.length:=by omega
   have hrow:(x.roles.map cF)[(j:Int).toNat]? =some (cF x.roles[j]):=bH hjl
   ((conv=>whnf);repeat ((first|(refine⟨_,hrow, ?_⟩)|(intro hq;try simp only [lnS]at hq)|refine sI ?_|refine .intro _ (.intro rfl ?_));(conv=>whnf)))
   refine aD [] (fP x.roles[j]) trivial (λr hs=> ?_)
   subst hs
   cases hb2:fA x.roles[j]
   ·((conv=>whnf);repeat' ((first|(intro hq;(try simp only [lnS]at hq);(try rewrite [List.length_map]))|refine sJ ?_|refine .intro _ (.intro rfl ?_)|refine exL (k:= ?_)|refine dwR ?_|((first|refine aB ?_ ?_|refine aC ?_ ?_)<;>intro hb<;>(first|exact ddX hb|try simp only [lnS]at hb))|(refine aA ?_ ?_<;>intro hb<;>try exact dsX hb))<;>(conv=>whnf)))
    exact aV (List.all_eq_false.2 ⟨_,List.getElem_mem hjl,by simp [hb2]⟩).symm
   ·((conv=>whnf);repeat' ((first|(intro hq;(try simp only [lnS]at hq);(try rewrite [List.length_map]))|refine sJ ?_|refine .intro _ (.intro rfl ?_)|refine exL (k:= ?_)|refine dwR ?_|((first|refine aB ?_ ?_|refine aC ?_ ?_)<;>intro hb<;>(first|exact ddX hb|try simp only [lnS]at hb))|(refine aA ?_ ?_<;>intro hb<;>try exact dsX hb))<;>(conv=>whnf)))
    exact⟨j+1,⟨by omega,aCo hjl hn hb2⟩,by dsimp only;omega,by repeat' (first|exact trivial|exact rfl|refine And.intro ?_ ?_),trivial⟩
  ·have hjl:j=x.roles.length:=by omega
   subst hjl
   rw [List.take_length]at hn
   ((conv=>whnf);repeat' ((first|(intro hq;(try simp only [lnS]at hq);(try rewrite [List.length_map]))|refine sJ ?_|refine .intro _ (.intro rfl ?_)|refine exL (k:= ?_)|refine dwR ?_|((first|refine aB ?_ ?_|refine aC ?_ ?_)<;>intro hb<;>(first|exact ddX hb|try simp only [lnS]at hb))|(refine aA ?_ ?_<;>intro hb<;>try exact dsX hb))<;>(conv=>whnf)))
   exact aV hn.symm)
end Go.Proofs.YtcomlapnibckmaaGreatDoor
