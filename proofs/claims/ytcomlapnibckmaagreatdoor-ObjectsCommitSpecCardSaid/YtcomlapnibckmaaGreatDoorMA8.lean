/-
  Terms: CheckConcept, Size, Depth. Terms: Size, Depth, isBare, isEmpty. Terms: isBare, isEmpty. Terms: the shape and the names of an axiom.
  Conditions: none.
-/
import Derived.Test.YtcomlapnibckmaaGreatDoorMA4
set_option linter.unusedSectionVars false
set_option linter.unusedSimpArgs false
set_option linter.unusedVariables false
set_option maxHeartbeats 8000000
namespace Go.Proofs.YtcomlapnibckmaaGreatDoor
open Go.Proofs
set_option maxRecDepth 10000
attribute [local irreducible] aL aG Tri aD YVC cP bB
def fV:List Cn->Int
 | []=>0
 |x::r=>if cO x≠0 then cO x else fV r
def cD (c:Cn):Int:=if (eF c 0 0).1=false then 21 else fV (dM c)
theorem jV: ∀(l m:List Cn),(∀x∈l,cO x=0)->fV (l++m)=fV m
 | [],_,_=>rfl
 |x::l,m,h=>by
  rw [List.cons_append,fV,if_neg (by simp [h x (List.mem_cons_self ..)])]
  exact jV l m λy hy=>h y (List.mem_cons_of_mem _ hy)
theorem aGe: ∀k,100<=k->k∉oI NG:=by
 intro k hk hm
 have e:oI NG=[90,91]:=by with_unfolding_all exact rfl
 rw [e]at hm
 simp at hm
 omega
theorem fH (c:Cn):Tri Tryz.prog 170 [.d (.agg (cnR c))] NG (λr=>r= .d (.int .i64 (cD c))):=by
 have hcR:=bL c
 have hw:=yF c
 have hfit:= λhp0 pin fr K=> @aAe c 0 0 hp0 pin fr K (by omega) (by omega)
 rw [hcR]
 simp only [hcR]at hw hfit
 refine aH false [1] hty Tryz.func170 rfl (kp [0,1,2,3,4,5,8,10,11,15]) [] _ _ _ (by simp [Tryz.f170]) (by decide) ?_
 ((conv=>whnf);repeat' ((first|(intro hq;(try simp only [lnS]at hq);(try rewrite [List.length_map]))|refine sJ ?_|refine .intro _ (.intro rfl ?_)|refine exL (k:= ?_)|refine dwR ?_|((first|refine aB ?_ ?_|refine aC ?_ ?_)<;>intro hb<;>(first|exact ddX hb|try simp only [lnS]at hb))|(refine aA ?_ ?_<;>intro hb<;>try exact dsX hb))<;>(conv=>whnf)))
 refine hfit ((2, .cells 30 [.d (.int .i64 0)])::NG) _ _ _ (by simp) (aGy (by with_unfolding_all exact rfl)) (aEy (by decide) (by with_unfolding_all exact rfl) aGe) ?_
 cases hb:(eF c 0 0).1
 ·((conv=>whnf);repeat' ((first|(intro hq;(try simp only [lnS]at hq);(try rewrite [List.length_map]))|refine sJ ?_|refine .intro _ (.intro rfl ?_)|refine exL (k:= ?_)|refine dwR ?_|((first|refine aB ?_ ?_|refine aC ?_ ?_)<;>intro hb<;>(first|exact ddX hb|try simp only [lnS]at hb))|(refine aA ?_ ?_<;>intro hb<;>try exact dsX hb))<;>(conv=>whnf)))
  rw [cD,if_pos hb];rfl
 ·have hE:cD c=fV (dM c):=by rw [cD,if_neg (by simp [hb])]
  rw [hE]
  ((conv=>whnf);repeat ((first|(intro hq;try simp only [lnS]at hq)|refine sI ?_|refine .intro _ (.intro rfl ?_));(conv=>whnf)))
  refine aE [] hw trivial (λs hs=> ?_)
  subst hs
  ((conv=>whnf);repeat ((first|(intro hq;try simp only [lnS]at hq)|refine sI ?_|refine .intro _ (.intro rfl ?_));(conv=>whnf)))
  refine wQ 60 (bY (by with_unfolding_all exact rfl)) trivial ?_
  ((conv=>whnf);repeat ((first|(intro hq;try simp only [lnS]at hq)|refine sI ?_|refine .intro _ (.intro rfl ?_));(conv=>whnf)))
  rw [<-hcR]
  refine tV (lid:=60) (by decide) (λe:Int=>(3,_)::(2, .cells 30 [.d (.int .i64 e)])::NG) (λdone e=>e=0/\ ∀x∈done,cO x=0) (λe=>e=fV (dM c)) c 0 ⟨rfl,by simp⟩ (by with_unfolding_all exact rfl) (λe=>aEy (by decide) (by with_unfolding_all exact rfl) (aEy (by decide) (by with_unfolding_all exact rfl) aGe)) (by simp) (aGy (by with_unfolding_all exact rfl)) ?_ ?_ ?_
  ·rintro done x s pin fr K ⟨rfl,hd⟩ ⟨rest,hA⟩ h1 h2 h3 h4
   have hx:=bL x
   have hcf:=mB x
   rw [hx]at hcf |-
   have hbig: ∀k,100<=k->k∉pin++dN fr++[60]:=by
    intro k hk hm
    simp only [aC7,aC8,List.mem_append,List.mem_singleton]at hm
    rcases hm with(hm|hm)|hm
    ·exact h1 k hk hm
    ·exact h2 k hk hm
    ·omega
   refine rM [4] hty (kp [0,1,2,3,4,5,8,10,11,15]) 600 rfl rfl ?_
   ((conv=>whnf);repeat' ((first|(intro hq;(try simp only [lnS]at hq);(try rewrite [List.length_map]))|refine sJ ?_|refine .intro _ (.intro rfl ?_)|refine exL (k:= ?_)|(refine And.intro ⟨hbig _ (Nat.le_of_ble_eq_true rfl),aGy (by with_unfolding_all exact rfl) _ (Nat.le_of_ble_eq_true rfl),fD (by with_unfolding_all exact rfl)⟩ ?_)|(refine aE NG hcf ⟨rfl,rfl,trivial⟩ (λr hs=> ?_);subst hs)|refine dwR ?_|((first|refine aB ?_ ?_|refine aC ?_ ?_)<;>intro hb<;>(first|exact ddX hb|try simp only [lnS]at hb))|(refine aA ?_ ?_<;>intro hb<;>try exact dsX hb))<;>(conv=>whnf)))
   ·exact h4 (cO x) (by rw [<-hA,jV _ _ hd,fV,if_pos (by assumption)])
   ·refine h3 0 ⟨rfl,λy hy=> ?_⟩
    rcases List.mem_append.1 hy with h|h
    ·exact hd y h
    ·simp at h;subst h;assumption
  ·rintro s ⟨rfl,hI⟩
   have hz:fV (dM c)=0:=by
    have:=jV (dM c) [] hI
    simpa [fV]using this
   rw [hz]
   ((conv=>whnf);repeat' ((first|(intro hq;(try simp only [lnS]at hq);(try rewrite [List.length_map]))|refine sJ ?_|refine .intro _ (.intro rfl ?_)|refine exL (k:= ?_)|refine dwR ?_|((first|refine aB ?_ ?_|refine aC ?_ ?_)<;>intro hb<;>(first|exact ddX hb|try simp only [lnS]at hb))|(refine aA ?_ ?_<;>intro hb<;>try exact dsX hb))<;>(conv=>whnf)))
   rfl
  ·rintro s rfl
   ((conv=>whnf);repeat' ((first|(intro hq;(try simp only [lnS]at hq);(try rewrite [List.length_map]))|refine sJ ?_|refine .intro _ (.intro rfl ?_)|refine exL (k:= ?_)|refine dwR ?_|((first|refine aB ?_ ?_|refine aC ?_ ?_)<;>intro hb<;>(first|exact ddX hb|try simp only [lnS]at hb))|(refine aA ?_ ?_<;>intro hb<;>try exact dsX hb))<;>(conv=>whnf)))
   rfl
end Go.Proofs.YtcomlapnibckmaaGreatDoor
namespace Go.Proofs.YtcomlapnibckmaaGreatDoor
open Go.Proofs
set_option maxRecDepth 10000
attribute [local irreducible] aL aG Tri aD YVC cP bB
def lY (c:Cn):Nat:=(dM c).length
mutual
def sU:Cn->Nat
 | .mk _ _ _ _ ps=>aDa ps
def aDa:List Cn->Nat
 | []=>0
 |c::r=>max (sU c+1) (aDa r)
end
mutual
def lA:Cn->Bool
 | .mk k _ _ _ ps=>if k=4 then true else if k=5 then xW ps else false
def xW:List Cn->Bool
 | []=>false
 |c::r=>if lA c=true then true else xW r
end
theorem aCs (c:Cn):lA c=if c.kind=4 then true else if c.kind=5 then xW c.parts else false:=by cases c;rw [lA];rfl
end Go.Proofs.YtcomlapnibckmaaGreatDoor
namespace Go.Proofs.YtcomlapnibckmaaGreatDoor
open Go.Proofs
set_option maxRecDepth 10000
attribute [local irreducible] aL aG Tri aD YVC cP bB
def aFb (p:Cn->Bool) (l:List Cn):Int:=if l.any p=true then ((l.findIdx p:Nat):Int)else -1
theorem aBd {p:Cn->Bool}{l:List Cn}{j:Nat}(h:j < l.length) (h1:(l.take j).any p=false) (h2:p l[j]=false):(l.take (j+1)).any p=false:=by
 rw [List.take_succ_eq_append_getElem h,List.any_append,h1];simp [h2]
theorem aEo {p:Cn->Bool}{l:List Cn}{j:Nat}(h:j < l.length) (h1:(l.take j).any p=false) (h2:p l[j]=true):aFb p l=j:=by
 have ha:l.any p=true:=List.any_eq_true.2 ⟨_,List.getElem_mem h,h2⟩
 have hf:l.findIdx p=j:=by
  rw [List.findIdx_eq h]
  refine⟨h2,λi hi=> ?_⟩
  have:=List.any_eq_false.1 h1 (l[i]'(by omega)) (List.mem_iff_getElem.2 ⟨i,by simp;omega,by simp⟩)
  simpa using this
 rw [aFb,if_pos ha,hf]
theorem uE (f:FuncId) (hcall:cG Tryz.prog f=true) (p:Cn->Bool) (l:List Cn) (hf: ∀q∈l,Tri Tryz.prog f [.d (.agg (cnR q))] [] (λr=>r= .d (.bool (p q)))):
  Tri Tryz.prog 270 [.d (cnl l), .fn f [] []] [] (λr=>r= .d (.int .i64 (aFb p l))):=by
 refine aM hty Tryz.func270 rfl (kp [0,1,4,5,7,8,9,16]) [] _ _ _ (by simp [Tryz.f270]) (by simp) ?_
 ((conv=>whnf);repeat ((first|(intro hq;try simp only [lnS]at hq)|refine sI ?_|refine .intro _ (.intro rfl ?_));(conv=>whnf)))
 refine aR hty (λj:Nat=>([(0, .d (.sl 5 (l.map cnR))),(1, .fn f [] []),(7, .d (.int .i64 l.length)),(8, .d (.int .i64 j))],[])) (λj=>j<=l.length/\(l.take j).any p=false) (λj=>l.length - j) 0 ⟨by omega,by simp⟩ ⟨by repeat' (first|exact trivial|exact rfl|(rw [List.length_map];exact rfl)|refine And.intro ?_ ?_),trivial⟩ ?_
 rintro j ⟨hj,hn⟩
 ((conv=>whnf);repeat ((first|(intro hq;try simp only [lnS]at hq)|refine sI ?_|refine .intro _ (.intro rfl ?_));(conv=>whnf)))
 refine aB (λh1=> ?_) (λh1=> ?_)
 ·have hjl:j < l.length:=by omega
  have hrow':(l.map cnR)[(j:Int).toNat]? =some (cnR l[j]):=cC hjl
  have hi:=hf l[j] (List.getElem_mem hjl)
  rw [bL]at hrow' hi
  ((conv=>whnf);repeat' ((first|(intro hq;(try simp only [lnS]at hq);(try rewrite [List.length_map]))|refine sJ ?_|refine .intro _ (.intro rfl ?_)|refine exL (k:= ?_)|(refine⟨_,hrow', ?_⟩)|refine dwR ?_|((first|refine aB ?_ ?_|refine aC ?_ ?_)<;>intro hb<;>(first|exact ddX hb|try simp only [lnS]at hb))|(refine aA ?_ ?_<;>intro hb<;>try exact dsX hb))<;>(conv=>whnf)))
  refine aE [] hi trivial (λr hs=> ?_)
  subst hs
  cases hb2:p l[j]
  ·((conv=>whnf);repeat' ((first|(intro hq;(try simp only [lnS]at hq);(try rewrite [List.length_map]))|refine sJ ?_|refine .intro _ (.intro rfl ?_)|refine exL (k:= ?_)|refine dwR ?_|((first|refine aB ?_ ?_|refine aC ?_ ?_)<;>intro hb<;>(first|exact ddX hb|try simp only [lnS]at hb))|(refine aA ?_ ?_<;>intro hb<;>try exact dsX hb))<;>(conv=>whnf)))
   exact⟨j+1,⟨by omega,aBd hjl hn hb2⟩,by dsimp only;omega,by repeat' (first|exact trivial|exact rfl|refine And.intro ?_ ?_),trivial⟩
  ·((conv=>whnf);repeat' ((first|(intro hq;(try simp only [lnS]at hq);(try rewrite [List.length_map]))|refine sJ ?_|refine .intro _ (.intro rfl ?_)|refine exL (k:= ?_)|refine dwR ?_|((first|refine aB ?_ ?_|refine aC ?_ ?_)<;>intro hb<;>(first|exact ddX hb|try simp only [lnS]at hb))|(refine aA ?_ ?_<;>intro hb<;>try exact dsX hb))<;>(conv=>whnf)))
   exact sO (aEo hjl hn hb2).symm
 ·have hjl:j=l.length:=by omega
  subst hjl
  rw [List.take_length]at hn
  ((conv=>whnf);repeat' ((first|(intro hq;(try simp only [lnS]at hq);(try rewrite [List.length_map]))|refine sJ ?_|refine .intro _ (.intro rfl ?_)|refine exL (k:= ?_)|refine dwR ?_|((first|refine aB ?_ ?_|refine aC ?_ ?_)<;>intro hb<;>(first|exact ddX hb|try simp only [lnS]at hb))|(refine aA ?_ ?_<;>intro hb<;>try exact dsX hb))<;>(conv=>whnf)))
  rw [aFb,if_neg (by simp [hn])];rfl
theorem uF (p:Cn->Bool) (l:List Cn):decide (0<=aFb p l)=l.any p:=by
 unfold aFb
 cases h:l.any p
 ·simp
 ·simp
theorem oM (f:FuncId) (hcall:cG Tryz.prog f=true) (p:Cn->Bool) (l:List Cn) (hf: ∀q∈l,Tri Tryz.prog f [.d (.agg (cnR q))] [] (λr=>r= .d (.bool (p q)))):
  Tri Tryz.prog 226 [.d (cnl l), .fn f [] []] [] (λr=>r= .d (.bool (l.any p))):=by
 refine aM hty Tryz.func226 rfl (kp [0,1,4]) [] _ _ _ (by simp [Tryz.f226]) (by simp) ?_
 ((conv=>whnf);repeat ((first|(intro hq;try simp only [lnS]at hq)|refine sI ?_|refine .intro _ (.intro rfl ?_));(conv=>whnf)))
 refine aE [] (uE f hcall p l hf) trivial (λr hs=> ?_)
 subst hs
 ((conv=>whnf);repeat' ((first|(intro hq;(try simp only [lnS]at hq);(try rewrite [List.length_map]))|refine sJ ?_|refine .intro _ (.intro rfl ?_)|refine exL (k:= ?_)|refine dwR ?_|((first|refine aB ?_ ?_|refine aC ?_ ?_)<;>intro hb<;>(first|exact ddX hb|try simp only [lnS]at hb))|(refine aA ?_ ?_<;>intro hb<;>try exact dsX hb))<;>(conv=>whnf)))
 exact bH (uF p l)
theorem sX: ∀l,xW l=l.any lA
 | []=>by simp [xW]
 |c::r=>by rw [xW,sX r,List.any_cons];cases lA c<;>simp
theorem nF: ∀(c:Cn),Tri Tryz.prog 171 [.d (.agg (cnR c))] [] (λr=>r= .d (.bool (lA c))):=by
 refine Cn.ind ?_
 intro c ih
 have hC:=oM 171 (by kernel_rfl) lA c.parts ih
 rw [bL,aCs,sX]
 refine aH false [1] hty Tryz.func171 rfl (kp [0,1,2,4,5,7]) [] _ _ _ (by simp [Tryz.f171]) (by simp) ?_
 ((conv=>whnf);repeat' ((first|(intro hq;(try simp only [lnS]at hq);(try rewrite [List.length_map]))|refine sJ ?_|refine .intro _ (.intro rfl ?_)|refine exL (k:= ?_)|(refine aE [] hC trivial (λr hs=> ?_);subst hs)|refine dwR ?_|((first|refine aB ?_ ?_|refine aC ?_ ?_)<;>intro hb<;>(first|exact ddX hb|try simp only [lnS]at hb))|(refine aA ?_ ?_<;>intro hb<;>try exact dsX hb))<;>(conv=>whnf)))
 ·rw [if_pos (by assumption)];rfl
 ·rw [if_neg (by assumption),if_pos (by assumption)];rfl
 ·rw [if_neg (by assumption),if_neg (by assumption)];rfl
def lU (c:Cn):Bool:=decide (c.kind=0) && (decide (c.name=[]) && (decide (c.lo=0) && (decide (c.hi=0) && decide (c.parts=[]))))
theorem aS (c:Cn):Tri Tryz.prog 221 [.d (.agg (cnR c))] [] (λr=>r= .d (.bool (lU c))):=by
 rw [bL]
 refine aH false [1] hty Tryz.func221 rfl (kp [0,1,2]) [] _ _ _ (by simp [Tryz.f221]) (by simp) ?_
 ((conv=>whnf);repeat' ((first|(intro hq;(try simp only [lnS]at hq);(try rewrite [List.length_map]))|refine sJ ?_|refine .intro _ (.intro rfl ?_)|refine exL (k:= ?_)|refine dwR ?_|((first|refine aB ?_ ?_|refine aC ?_ ?_)<;>intro hb<;>(first|exact ddX hb|try simp only [lnS]at hb))|(refine aA ?_ ?_<;>intro hb<;>try exact dsX hb))<;>(conv=>whnf)))
 all_goals (unfold lU;simp_all [cU])
 all_goals trace_state
end Go.Proofs.YtcomlapnibckmaaGreatDoor
namespace Go.Proofs.YtcomlapnibckmaaGreatDoor
open Go.Proofs
set_option maxRecDepth 10000
attribute [local irreducible] aL aG Tri aD YVC cP bB
def bE (u:Use) (x:Ax):Bool:=
 (u.left || lU x.left) && ((u.right || lU x.right) && ((u.role || decide (x.role=[])) && ((u.a || decide (x.a=[])) && ((u.b || decide (x.b=[])) && (decide (u.least<=x.roles.length) && decide ((x.roles.length:Int)<=u.most))))))
def aZ (x:Ax):Bool:=if x.kind < 1\/9 < x.kind then false else bE (oF x.kind) x
theorem kC {k:Int}(n:Nat) (h:n < eC.length) (hk:k=n):(eC.map aDx)[k.toNat]? =some (aDx eC[n]):=by
 subst hk
 rw [Int.toNat_natCast,List.getElem?_map,List.getElem?_eq_getElem h];rfl
theorem xR (x:Ax) (hk:x.kind=1):Tri Tryz.prog 168 [.d (.agg (axR x))] NG (λr=>r= .d (.bool (aZ x))):=by
 have e1:=aS x.left
 have e2:=aS x.right
 rw [bL]at e1 e2
 have hrow:=kC (k:=x.kind) 1 (by decide) hk
 have hE:aZ x=bE (eC[1]'(by decide)) x:=by rw [aZ,if_neg (by omega),hk];rfl
 rw [hE]
 refine aH false [1,3] hty Tryz.func168 rfl (kp [0,1,2,3,11]) [] _ _ _ (by simp [Tryz.f168]) (by decide) ?_
 ((conv=>whnf);repeat ((first|(intro hq;try simp only [lnS]at hq)|refine sI ?_|refine .intro _ (.intro rfl ?_));(conv=>whnf)))
 refine aB (λh1=>by omega) (λh1=> ?_)
 ((conv=>whnf);repeat ((first|(intro hq;try simp only [lnS]at hq)|refine sI ?_|refine .intro _ (.intro rfl ?_));(conv=>whnf)))
 refine aB (λh2=>by omega) (λh2=> ?_)
 ((conv=>whnf);repeat' ((first|(intro hq;(try simp only [lnS]at hq);(try rewrite [List.length_map]))|refine sJ ?_|refine .intro _ (.intro rfl ?_)|refine exL (k:= ?_)|(refine bZ (id:=91) hty rfl rfl rfl rfl rfl rfl rfl (by omega) (by omega) ?_)|(refine⟨_,hrow, ?_⟩)|(refine aE [] e1 trivial (λr hs=> ?_);subst hs)|(refine aE [] e2 trivial (λr hs=> ?_);subst hs)|refine dwR ?_|((first|refine aB ?_ ?_|refine aC ?_ ?_)<;>intro hb<;>(first|exact ddX hb|try simp only [lnS]at hb))|(refine aA ?_ ?_<;>intro hb<;>try exact dsX hb))<;>(conv=>whnf)))
 all_goals (clear e1 e2 hrow hE;refine bH (Eq.symm ?_);show bE _ x=_;simp only [bE,eC,List.getElem_cons_succ,List.getElem_cons_zero,Bool.true_or,Bool.false_or,Bool.true_and];simp_all [eC]<;>omega)
theorem xQ (x:Ax) (hk:x.kind=2):Tri Tryz.prog 168 [.d (.agg (axR x))] NG (λr=>r= .d (.bool (aZ x))):=by
 have e1:=aS x.left
 have e2:=aS x.right
 rw [bL]at e1 e2
 have hrow:=kC (k:=x.kind) 2 (by decide) hk
 have hE:aZ x=bE (eC[2]'(by decide)) x:=by rw [aZ,if_neg (by omega),hk];rfl
 rw [hE]
 refine aH false [1,3] hty Tryz.func168 rfl (kp [0,1,2,3,11]) [] _ _ _ (by simp [Tryz.f168]) (by decide) ?_
 ((conv=>whnf);repeat ((first|(intro hq;try simp only [lnS]at hq)|refine sI ?_|refine .intro _ (.intro rfl ?_));(conv=>whnf)))
 refine aB (λh1=>by omega) (λh1=> ?_)
 ((conv=>whnf);repeat ((first|(intro hq;try simp only [lnS]at hq)|refine sI ?_|refine .intro _ (.intro rfl ?_));(conv=>whnf)))
 refine aB (λh2=>by omega) (λh2=> ?_)
 ((conv=>whnf);repeat' ((first|(intro hq;(try simp only [lnS]at hq);(try rewrite [List.length_map]))|refine sJ ?_|refine .intro _ (.intro rfl ?_)|refine exL (k:= ?_)|(refine bZ (id:=91) hty rfl rfl rfl rfl rfl rfl rfl (by omega) (by omega) ?_)|(refine⟨_,hrow, ?_⟩)|(refine aE [] e1 trivial (λr hs=> ?_);subst hs)|(refine aE [] e2 trivial (λr hs=> ?_);subst hs)|refine dwR ?_|((first|refine aB ?_ ?_|refine aC ?_ ?_)<;>intro hb<;>(first|exact ddX hb|try simp only [lnS]at hb))|(refine aA ?_ ?_<;>intro hb<;>try exact dsX hb))<;>(conv=>whnf)))
 all_goals (clear e1 e2 hrow hE;refine bH (Eq.symm ?_);show bE _ x=_;simp only [bE,eC,List.getElem_cons_succ,List.getElem_cons_zero,Bool.true_or,Bool.false_or,Bool.true_and];simp_all [eC]<;>omega)
theorem xP (x:Ax) (hk:x.kind=3):Tri Tryz.prog 168 [.d (.agg (axR x))] NG (λr=>r= .d (.bool (aZ x))):=by
 have e1:=aS x.left
 have e2:=aS x.right
 rw [bL]at e1 e2
 have hrow:=kC (k:=x.kind) 3 (by decide) hk
 have hE:aZ x=bE (eC[3]'(by decide)) x:=by rw [aZ,if_neg (by omega),hk];rfl
 rw [hE]
 refine aH false [1,3] hty Tryz.func168 rfl (kp [0,1,2,3,11]) [] _ _ _ (by simp [Tryz.f168]) (by decide) ?_
 ((conv=>whnf);repeat ((first|(intro hq;try simp only [lnS]at hq)|refine sI ?_|refine .intro _ (.intro rfl ?_));(conv=>whnf)))
 refine aB (λh1=>by omega) (λh1=> ?_)
 ((conv=>whnf);repeat ((first|(intro hq;try simp only [lnS]at hq)|refine sI ?_|refine .intro _ (.intro rfl ?_));(conv=>whnf)))
 refine aB (λh2=>by omega) (λh2=> ?_)
 ((conv=>whnf);repeat' ((first|(intro hq;(try simp only [lnS]at hq);(try rewrite [List.length_map]))|refine sJ ?_|refine .intro _ (.intro rfl ?_)|refine exL (k:= ?_)|(refine bZ (id:=91) hty rfl rfl rfl rfl rfl rfl rfl (by omega) (by omega) ?_)|(refine⟨_,hrow, ?_⟩)|(refine aE [] e1 trivial (λr hs=> ?_);subst hs)|(refine aE [] e2 trivial (λr hs=> ?_);subst hs)|refine dwR ?_|((first|refine aB ?_ ?_|refine aC ?_ ?_)<;>intro hb<;>(first|exact ddX hb|try simp only [lnS]at hb))|(refine aA ?_ ?_<;>intro hb<;>try exact dsX hb))<;>(conv=>whnf)))
 all_goals (clear e1 e2 hrow hE;refine bH (Eq.symm ?_);show bE _ x=_;simp only [bE,eC,List.getElem_cons_succ,List.getElem_cons_zero,Bool.true_or,Bool.false_or,Bool.true_and];simp_all [eC]<;>omega)
theorem xO (x:Ax) (hk:x.kind=4):Tri Tryz.prog 168 [.d (.agg (axR x))] NG (λr=>r= .d (.bool (aZ x))):=by
 have e1:=aS x.left
 have e2:=aS x.right
 rw [bL]at e1 e2
 have hrow:=kC (k:=x.kind) 4 (by decide) hk
 have hE:aZ x=bE (eC[4]'(by decide)) x:=by rw [aZ,if_neg (by omega),hk];rfl
 rw [hE]
 refine aH false [1,3] hty Tryz.func168 rfl (kp [0,1,2,3,11]) [] _ _ _ (by simp [Tryz.f168]) (by decide) ?_
 ((conv=>whnf);repeat ((first|(intro hq;try simp only [lnS]at hq)|refine sI ?_|refine .intro _ (.intro rfl ?_));(conv=>whnf)))
 refine aB (λh1=>by omega) (λh1=> ?_)
 ((conv=>whnf);repeat ((first|(intro hq;try simp only [lnS]at hq)|refine sI ?_|refine .intro _ (.intro rfl ?_));(conv=>whnf)))
 refine aB (λh2=>by omega) (λh2=> ?_)
 ((conv=>whnf);repeat' ((first|(intro hq;(try simp only [lnS]at hq);(try rewrite [List.length_map]))|refine sJ ?_|refine .intro _ (.intro rfl ?_)|refine exL (k:= ?_)|(refine bZ (id:=91) hty rfl rfl rfl rfl rfl rfl rfl (by omega) (by omega) ?_)|(refine⟨_,hrow, ?_⟩)|(refine aE [] e1 trivial (λr hs=> ?_);subst hs)|(refine aE [] e2 trivial (λr hs=> ?_);subst hs)|refine dwR ?_|((first|refine aB ?_ ?_|refine aC ?_ ?_)<;>intro hb<;>(first|exact ddX hb|try simp only [lnS]at hb))|(refine aA ?_ ?_<;>intro hb<;>try exact dsX hb))<;>(conv=>whnf)))
 all_goals (clear e1 e2 hrow hE;refine bH (Eq.symm ?_);show bE _ x=_;simp only [bE,eC,List.getElem_cons_succ,List.getElem_cons_zero,Bool.true_or,Bool.false_or,Bool.true_and];simp_all [eC]<;>omega)
theorem xL (x:Ax) (hk:x.kind=7):Tri Tryz.prog 168 [.d (.agg (axR x))] NG (λr=>r= .d (.bool (aZ x))):=by
 have e1:=aS x.left
 have e2:=aS x.right
 rw [bL]at e1 e2
 have hrow:=kC (k:=x.kind) 7 (by decide) hk
 have hE:aZ x=bE (eC[7]'(by decide)) x:=by rw [aZ,if_neg (by omega),hk];rfl
 rw [hE]
 refine aH false [1,3] hty Tryz.func168 rfl (kp [0,1,2,3,11]) [] _ _ _ (by simp [Tryz.f168]) (by decide) ?_
 ((conv=>whnf);repeat ((first|(intro hq;try simp only [lnS]at hq)|refine sI ?_|refine .intro _ (.intro rfl ?_));(conv=>whnf)))
 refine aB (λh1=>by omega) (λh1=> ?_)
 ((conv=>whnf);repeat ((first|(intro hq;try simp only [lnS]at hq)|refine sI ?_|refine .intro _ (.intro rfl ?_));(conv=>whnf)))
 refine aB (λh2=>by omega) (λh2=> ?_)
 ((conv=>whnf);repeat' ((first|(intro hq;(try simp only [lnS]at hq);(try rewrite [List.length_map]))|refine sJ ?_|refine .intro _ (.intro rfl ?_)|refine exL (k:= ?_)|(refine bZ (id:=91) hty rfl rfl rfl rfl rfl rfl rfl (by omega) (by omega) ?_)|(refine⟨_,hrow, ?_⟩)|(refine aE [] e1 trivial (λr hs=> ?_);subst hs)|(refine aE [] e2 trivial (λr hs=> ?_);subst hs)|refine dwR ?_|((first|refine aB ?_ ?_|refine aC ?_ ?_)<;>intro hb<;>(first|exact ddX hb|try simp only [lnS]at hb))|(refine aA ?_ ?_<;>intro hb<;>try exact dsX hb))<;>(conv=>whnf)))
 all_goals (clear e1 e2 hrow hE;refine bH (Eq.symm ?_);show bE _ x=_;simp only [bE,eC,List.getElem_cons_succ,List.getElem_cons_zero,Bool.true_or,Bool.false_or,Bool.true_and];simp_all [eC]<;>omega)
theorem xK (x:Ax) (hk:x.kind=8):Tri Tryz.prog 168 [.d (.agg (axR x))] NG (λr=>r= .d (.bool (aZ x))):=by
 have e1:=aS x.left
 have e2:=aS x.right
 rw [bL]at e1 e2
 have hrow:=kC (k:=x.kind) 8 (by decide) hk
 have hE:aZ x=bE (eC[8]'(by decide)) x:=by rw [aZ,if_neg (by omega),hk];rfl
 rw [hE]
 refine aH false [1,3] hty Tryz.func168 rfl (kp [0,1,2,3,11]) [] _ _ _ (by simp [Tryz.f168]) (by decide) ?_
 ((conv=>whnf);repeat ((first|(intro hq;try simp only [lnS]at hq)|refine sI ?_|refine .intro _ (.intro rfl ?_));(conv=>whnf)))
 refine aB (λh1=>by omega) (λh1=> ?_)
 ((conv=>whnf);repeat ((first|(intro hq;try simp only [lnS]at hq)|refine sI ?_|refine .intro _ (.intro rfl ?_));(conv=>whnf)))
 refine aB (λh2=>by omega) (λh2=> ?_)
 ((conv=>whnf);repeat' ((first|(intro hq;(try simp only [lnS]at hq);(try rewrite [List.length_map]))|refine sJ ?_|refine .intro _ (.intro rfl ?_)|refine exL (k:= ?_)|(refine bZ (id:=91) hty rfl rfl rfl rfl rfl rfl rfl (by omega) (by omega) ?_)|(refine⟨_,hrow, ?_⟩)|(refine aE [] e1 trivial (λr hs=> ?_);subst hs)|(refine aE [] e2 trivial (λr hs=> ?_);subst hs)|refine dwR ?_|((first|refine aB ?_ ?_|refine aC ?_ ?_)<;>intro hb<;>(first|exact ddX hb|try simp only [lnS]at hb))|(refine aA ?_ ?_<;>intro hb<;>try exact dsX hb))<;>(conv=>whnf)))
 all_goals (clear e1 e2 hrow hE;refine bH (Eq.symm ?_);show bE _ x=_;simp only [bE,eC,List.getElem_cons_succ,List.getElem_cons_zero,Bool.true_or,Bool.false_or,Bool.true_and];simp_all [eC]<;>omega)
theorem xJ (x:Ax) (hk:x.kind=9):Tri Tryz.prog 168 [.d (.agg (axR x))] NG (λr=>r= .d (.bool (aZ x))):=by
 have e1:=aS x.left
 have e2:=aS x.right
 rw [bL]at e1 e2
 have hrow:=kC (k:=x.kind) 9 (by decide) hk
 have hE:aZ x=bE (eC[9]'(by decide)) x:=by rw [aZ,if_neg (by omega),hk];rfl
 rw [hE]
 refine aH false [1,3] hty Tryz.func168 rfl (kp [0,1,2,3,11]) [] _ _ _ (by simp [Tryz.f168]) (by decide) ?_
 ((conv=>whnf);repeat ((first|(intro hq;try simp only [lnS]at hq)|refine sI ?_|refine .intro _ (.intro rfl ?_));(conv=>whnf)))
 refine aB (λh1=>by omega) (λh1=> ?_)
 ((conv=>whnf);repeat ((first|(intro hq;try simp only [lnS]at hq)|refine sI ?_|refine .intro _ (.intro rfl ?_));(conv=>whnf)))
 refine aB (λh2=>by omega) (λh2=> ?_)
 ((conv=>whnf);repeat' ((first|(intro hq;(try simp only [lnS]at hq);(try rewrite [List.length_map]))|refine sJ ?_|refine .intro _ (.intro rfl ?_)|refine exL (k:= ?_)|(refine bZ (id:=91) hty rfl rfl rfl rfl rfl rfl rfl (by omega) (by omega) ?_)|(refine⟨_,hrow, ?_⟩)|(refine aE [] e1 trivial (λr hs=> ?_);subst hs)|(refine aE [] e2 trivial (λr hs=> ?_);subst hs)|refine dwR ?_|((first|refine aB ?_ ?_|refine aC ?_ ?_)<;>intro hb<;>(first|exact ddX hb|try simp only [lnS]at hb))|(refine aA ?_ ?_<;>intro hb<;>try exact dsX hb))<;>(conv=>whnf)))
 all_goals (clear e1 e2 hrow hE;refine bH (Eq.symm ?_);show bE _ x=_;simp only [bE,eC,List.getElem_cons_succ,List.getElem_cons_zero,Bool.true_or,Bool.false_or,Bool.true_and];simp_all [eC]<;>omega)
theorem xN (x:Ax) (hk:x.kind=5):Tri Tryz.prog 168 [.d (.agg (axR x))] NG (λr=>r= .d (.bool (aZ x))):=by
 have e1:=aS x.left
 have e2:=aS x.right
 rw [bL]at e1 e2
 have hrow:=kC (k:=x.kind) 5 (by decide) hk
 have hE:aZ x=bE (eC[5]'(by decide)) x:=by rw [aZ,if_neg (by omega),hk];rfl
 rw [hE]
 refine aH false [1,3] hty Tryz.func168 rfl (kp [0,1,2,3,11]) [] _ _ _ (by simp [Tryz.f168]) (by decide) ?_
 ((conv=>whnf);repeat ((first|(intro hq;try simp only [lnS]at hq)|refine sI ?_|refine .intro _ (.intro rfl ?_));(conv=>whnf)))
 refine aB (λh1=>by omega) (λh1=> ?_)
 ((conv=>whnf);repeat ((first|(intro hq;try simp only [lnS]at hq)|refine sI ?_|refine .intro _ (.intro rfl ?_));(conv=>whnf)))
 refine aB (λh2=>by omega) (λh2=> ?_)
 ((conv=>whnf);repeat' ((first|(intro hq;(try simp only [lnS]at hq);(try rewrite [List.length_map]))|refine sJ ?_|refine .intro _ (.intro rfl ?_)|refine exL (k:= ?_)|(refine bZ (id:=91) hty rfl rfl rfl rfl rfl rfl rfl (by omega) (by omega) ?_)|(refine⟨_,hrow, ?_⟩)|(refine aE [] e1 trivial (λr hs=> ?_);subst hs)|(refine aE [] e2 trivial (λr hs=> ?_);subst hs)|refine dwR ?_|((first|refine aB ?_ ?_|refine aC ?_ ?_)<;>intro hb<;>(first|exact ddX hb|try simp only [lnS]at hb))|(refine aA ?_ ?_<;>intro hb<;>try exact dsX hb))<;>(conv=>whnf)))
 all_goals (clear e1 e2 hrow hE;refine bH (Eq.symm ?_);show bE _ x=_;simp only [bE,show (eC[5]'(by decide)).left=false from rfl,show (eC[5]'(by decide)).right=false from rfl,show (eC[5]'(by decide)).role=true from rfl,show (eC[5]'(by decide)).a=false from rfl,show (eC[5]'(by decide)).b=false from rfl,Bool.true_or,Bool.false_or,Bool.true_and];have hl:(eC[5]'(by decide)).least=(5:Int) - 4:=rfl;have hm:(eC[5]'(by decide)).most=3 * (5:Int) - 14:=rfl;simp_all<;>omega)
theorem xM (x:Ax) (hk:x.kind=6):Tri Tryz.prog 168 [.d (.agg (axR x))] NG (λr=>r= .d (.bool (aZ x))):=by
 have e1:=aS x.left
 have e2:=aS x.right
 rw [bL]at e1 e2
 have hrow:=kC (k:=x.kind) 6 (by decide) hk
 have hE:aZ x=bE (eC[6]'(by decide)) x:=by rw [aZ,if_neg (by omega),hk];rfl
 rw [hE]
 refine aH false [1,3] hty Tryz.func168 rfl (kp [0,1,2,3,11]) [] _ _ _ (by simp [Tryz.f168]) (by decide) ?_
 ((conv=>whnf);repeat ((first|(intro hq;try simp only [lnS]at hq)|refine sI ?_|refine .intro _ (.intro rfl ?_));(conv=>whnf)))
 refine aB (λh1=>by omega) (λh1=> ?_)
 ((conv=>whnf);repeat ((first|(intro hq;try simp only [lnS]at hq)|refine sI ?_|refine .intro _ (.intro rfl ?_));(conv=>whnf)))
 refine aB (λh2=>by omega) (λh2=> ?_)
 ((conv=>whnf);repeat' ((first|(intro hq;(try simp only [lnS]at hq);(try rewrite [List.length_map]))|refine sJ ?_|refine .intro _ (.intro rfl ?_)|refine exL (k:= ?_)|(refine bZ (id:=91) hty rfl rfl rfl rfl rfl rfl rfl (by omega) (by omega) ?_)|(refine⟨_,hrow, ?_⟩)|(refine aE [] e1 trivial (λr hs=> ?_);subst hs)|(refine aE [] e2 trivial (λr hs=> ?_);subst hs)|refine dwR ?_|((first|refine aB ?_ ?_|refine aC ?_ ?_)<;>intro hb<;>(first|exact ddX hb|try simp only [lnS]at hb))|(refine aA ?_ ?_<;>intro hb<;>try exact dsX hb))<;>(conv=>whnf)))
 all_goals (clear e1 e2 hrow hE;refine bH (Eq.symm ?_);show bE _ x=_;simp only [bE,show (eC[6]'(by decide)).left=false from rfl,show (eC[6]'(by decide)).right=false from rfl,show (eC[6]'(by decide)).role=true from rfl,show (eC[6]'(by decide)).a=false from rfl,show (eC[6]'(by decide)).b=false from rfl,Bool.true_or,Bool.false_or,Bool.true_and];have hl:(eC[6]'(by decide)).least=(6:Int) - 4:=rfl;have hm:(eC[6]'(by decide)).most=3 * (6:Int) - 14:=rfl;simp_all<;>omega)
theorem qV (x:Ax):Tri Tryz.prog 168 [.d (.agg (axR x))] NG (λr=>r= .d (.bool (aZ x))):=by
 by_cases hk:1<=x.kind/\x.kind<=9
 ·rcases(show x.kind=1\/x.kind=2\/x.kind=3\/x.kind=4\/x.kind=5\/x.kind=6\/x.kind=7\/x.kind=8\/x.kind=9 by omega)with h|h|h|h|h|h|h|h|h
  ·exact xR x h
  ·exact xQ x h
  ·exact xP x h
  ·exact xO x h
  ·exact xN x h
  ·exact xM x h
  ·exact xL x h
  ·exact xK x h
  ·exact xJ x h
 ·have hE:aZ x=false:=by rw [aZ,if_pos (by omega)]
  rw [hE]
  refine aH false [1,3] hty Tryz.func168 rfl (kp [0,1,2,3,11]) [] _ _ _ (by simp [Tryz.f168]) (by decide) ?_
  ((conv=>whnf);repeat ((first|(intro hq;try simp only [lnS]at hq)|refine sI ?_|refine .intro _ (.intro rfl ?_));(conv=>whnf)))
  refine aB (λh1=> ?_) (λh1=> ?_)
  ·((conv=>whnf);repeat' ((first|(intro hq;(try simp only [lnS]at hq);(try rewrite [List.length_map]))|refine sJ ?_|refine .intro _ (.intro rfl ?_)|refine exL (k:= ?_)|refine dwR ?_|((first|refine aB ?_ ?_|refine aC ?_ ?_)<;>intro hb<;>(first|exact ddX hb|try simp only [lnS]at hb))|(refine aA ?_ ?_<;>intro hb<;>try exact dsX hb))<;>(conv=>whnf)))
   rfl
  ·((conv=>whnf);repeat ((first|(intro hq;try simp only [lnS]at hq)|refine sI ?_|refine .intro _ (.intro rfl ?_));(conv=>whnf)))
   refine aB (λh2=> ?_) (λh2=>by omega)
   ((conv=>whnf);repeat' ((first|(intro hq;(try simp only [lnS]at hq);(try rewrite [List.length_map]))|refine sJ ?_|refine .intro _ (.intro rfl ?_)|refine exL (k:= ?_)|refine dwR ?_|((first|refine aB ?_ ?_|refine aC ?_ ?_)<;>intro hb<;>(first|exact ddX hb|try simp only [lnS]at hb))|(refine aA ?_ ?_<;>intro hb<;>try exact dsX hb))<;>(conv=>whnf)))
   rfl
def lP (u:Use) (x:Ax):Bool:= !((u.role && !dT x.role) || ((u.a && !jU x.a) || (u.b && !jU x.b))) && x.roles.all dT
theorem aBe {p:List UInt8->Bool}{l:List (List UInt8)}{j:Nat}(h:j < l.length) (h1:(l.take j).all p=true) (h2:p l[j]=true):(l.take (j+1)).all p=true:=by
 rw [List.take_succ_eq_append_getElem h,List.all_append,h1];simp [h2]
theorem sN (x:Ax) (u:Use):Tri Tryz.prog 169 [.d (.agg (axR x)), .d (.agg (aDx u))] [] (λr=>r= .d (.bool (lP u x))):=by
 refine aH false [2,3] hty Tryz.func169 rfl (kp [0,1,2,3,4,6,34,36,37,38,39,44]) [] _ _ _ (by simp [Tryz.f169]) (by simp) ?_
 ((conv=>whnf);repeat' ((first|(intro hq;(try simp only [lnS]at hq);(try rewrite [List.length_map]))|refine sJ ?_|refine .intro _ (.intro rfl ?_)|refine exL (k:= ?_)|(refine aE [] (eG _) trivial (λr hs=> ?_);subst hs)|(refine aE [] (oN _) trivial (λr hs=> ?_);subst hs)|refine dwR ?_|((first|refine aB ?_ ?_|refine aC ?_ ?_)<;>intro hb<;>(first|exact ddX hb|try simp only [lnS]at hb))|(refine aA ?_ ?_<;>intro hb<;>try exact dsX hb))<;>(conv=>whnf)))
 all_goals first
  |(refine bH (Eq.symm ?_);unfold lP;simp_all;done)
  |skip
 all_goals (
  have hN:lP u x=x.roles.all dT:=by unfold lP;simp_all
  rw [hN]
  refine aR hty (λj:Nat=>([(36, .d (.sl 1 (x.roles.map pZ))),(37, .d (.int .i64 x.roles.length)),(38, .d (.int .i64 j))],[])) (λj=>j<=x.roles.length/\(x.roles.take j).all dT=true) (λj=>x.roles.length - j) 0 ⟨by omega,by simp⟩ ⟨by repeat' (first|exact trivial|exact rfl|(rw [List.length_map];exact rfl)|refine And.intro ?_ ?_),trivial⟩ ?_
  rintro j ⟨hj,hn⟩
  ((conv=>whnf);repeat ((first|(intro hq;try simp only [lnS]at hq)|refine sI ?_|refine .intro _ (.intro rfl ?_));(conv=>whnf)))
  refine aB (λh1=> ?_) (λh1=> ?_)
  ·have hjl:j < x.roles.length:=by omega
   have hrow:(x.roles.map pZ)[(j:Int).toNat]? =some (pZ x.roles[j]):=cC hjl
   ((conv=>whnf);repeat ((first|(refine⟨_,hrow, ?_⟩)|(intro hq;try simp only [lnS]at hq)|refine sI ?_|refine .intro _ (.intro rfl ?_));(conv=>whnf)))
   refine aE [] (eG x.roles[j]) trivial (λr hs=> ?_)
   subst hs
   cases hb2:dT x.roles[j]
   ·((conv=>whnf);repeat' ((first|(intro hq;(try simp only [lnS]at hq);(try rewrite [List.length_map]))|refine sJ ?_|refine .intro _ (.intro rfl ?_)|refine exL (k:= ?_)|refine dwR ?_|((first|refine aB ?_ ?_|refine aC ?_ ?_)<;>intro hb<;>(first|exact ddX hb|try simp only [lnS]at hb))|(refine aA ?_ ?_<;>intro hb<;>try exact dsX hb))<;>(conv=>whnf)))
    exact bH (List.all_eq_false.2 ⟨_,List.getElem_mem hjl,by simp [hb2]⟩).symm
   ·((conv=>whnf);repeat' ((first|(intro hq;(try simp only [lnS]at hq);(try rewrite [List.length_map]))|refine sJ ?_|refine .intro _ (.intro rfl ?_)|refine exL (k:= ?_)|refine dwR ?_|((first|refine aB ?_ ?_|refine aC ?_ ?_)<;>intro hb<;>(first|exact ddX hb|try simp only [lnS]at hb))|(refine aA ?_ ?_<;>intro hb<;>try exact dsX hb))<;>(conv=>whnf)))
    exact⟨j+1,⟨by omega,aBe hjl hn hb2⟩,by dsimp only;omega,by repeat' (first|exact trivial|exact rfl|refine And.intro ?_ ?_),trivial⟩
  ·have hjl:j=x.roles.length:=by omega
   subst hjl
   rw [List.take_length]at hn
   ((conv=>whnf);repeat' ((first|(intro hq;(try simp only [lnS]at hq);(try rewrite [List.length_map]))|refine sJ ?_|refine .intro _ (.intro rfl ?_)|refine exL (k:= ?_)|refine dwR ?_|((first|refine aB ?_ ?_|refine aC ?_ ?_)<;>intro hb<;>(first|exact ddX hb|try simp only [lnS]at hb))|(refine aA ?_ ?_<;>intro hb<;>try exact dsX hb))<;>(conv=>whnf)))
   exact bH hn.symm)
end Go.Proofs.YtcomlapnibckmaaGreatDoor
