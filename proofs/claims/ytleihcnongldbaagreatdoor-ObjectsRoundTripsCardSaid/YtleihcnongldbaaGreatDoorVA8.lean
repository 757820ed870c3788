/-
  Terms: CheckConcept, Size, Depth. Terms: Size, Depth, isBare, isEmpty. Terms: isBare, isEmpty. Terms: the shape and the names of an axiom.
  Conditions: none.
-/
import Derived.Test.YtleihcnongldbaaGreatDoorVA4
set_option linter.unusedSectionVars false
set_option linter.unusedSimpArgs false
set_option linter.unusedVariables false
set_option maxHeartbeats 8000000
namespace Go.Proofs.YtleihcnongldbaaGreatDoor
open Go.Proofs
set_option maxRecDepth 10000
attribute [local irreducible] aO aH Tri aG YVC cL bB
def jI:List Cn->Int
 | []=>0
 |x::r=>if cX x≠0 then cX x else jI r
def cD (c:Cn):Int:=if (fN c 0 0).1=false then 21 else jI (eN c)
theorem nG: ∀(l m:List Cn),(∀x∈l,cX x=0)->jI (l++m)=jI m
 | [],_,_=>rfl
 |x::l,m,h=>by
  rw [List.cons_append,jI,if_neg (by simp [h x (List.mem_cons_self ..)])]
  exact nG l m λy hy=>h y (List.mem_cons_of_mem _ hy)
theorem aNa: ∀k,100<=k->k∉pD NG:=by
 intro k hk hm
 have e:pD NG=[90,91]:=by with_unfolding_all exact rfl
 rw [e]at hm
 simp at hm
 omega
theorem iJ (c:Cn):Tri Tryz.prog 133 [.d (.agg (cnR c))] NG (λr=>r= .d (.int .i64 (cD c))):=by
 have hcR:=bG c
 have hw:=aDx c
 have hfit:= λhp0 pin fr K=> @aFn c 0 0 hp0 pin fr K (by omega) (by omega)
 rw [hcR]
 simp only [hcR]at hw hfit
 refine aF false [1] hty Tryz.func133 rfl (kp [0,1,2,3,4,5,8,10,11,15]) [] _ _ _ (by simp [Tryz.f133]) (by decide) ?_
 ((conv=>whnf);repeat' ((first|(intro hq;(try simp only [lnS]at hq);(try rewrite [List.length_map]))|refine sJ ?_|refine .intro _ (.intro rfl ?_)|refine exL (k:= ?_)|refine dwR ?_|((first|refine aB ?_ ?_|refine aC ?_ ?_)<;>intro hb<;>(first|exact ddX hb|try simp only [lnS]at hb))|(refine aA ?_ ?_<;>intro hb<;>try exact dsX hb))<;>(conv=>whnf)))
 refine hfit ((2, .cells 30 [.d (.int .i64 0)])::NG) _ _ _ (by simp) (aNb (by with_unfolding_all exact rfl)) (aJn (by decide) (by with_unfolding_all exact rfl) aNa) ?_
 cases hb:(fN c 0 0).1
 ·((conv=>whnf);repeat' ((first|(intro hq;(try simp only [lnS]at hq);(try rewrite [List.length_map]))|refine sJ ?_|refine .intro _ (.intro rfl ?_)|refine exL (k:= ?_)|refine dwR ?_|((first|refine aB ?_ ?_|refine aC ?_ ?_)<;>intro hb<;>(first|exact ddX hb|try simp only [lnS]at hb))|(refine aA ?_ ?_<;>intro hb<;>try exact dsX hb))<;>(conv=>whnf)))
  rw [cD,if_pos hb];rfl
 ·have hE:cD c=jI (eN c):=by rw [cD,if_neg (by simp [hb])]
  rw [hE]
  ((conv=>whnf);repeat ((first|(intro hq;try simp only [lnS]at hq)|refine sI ?_|refine .intro _ (.intro rfl ?_));(conv=>whnf)))
  refine aD [] hw trivial (λs hs=> ?_)
  subst hs
  ((conv=>whnf);repeat ((first|(intro hq;try simp only [lnS]at hq)|refine sI ?_|refine .intro _ (.intro rfl ?_));(conv=>whnf)))
  refine aCv 60 (cI (by with_unfolding_all exact rfl)) trivial ?_
  ((conv=>whnf);repeat ((first|(intro hq;try simp only [lnS]at hq)|refine sI ?_|refine .intro _ (.intro rfl ?_));(conv=>whnf)))
  rw [<-hcR]
  refine aAg (lid:=60) (by decide) (λe:Int=>(3,_)::(2, .cells 30 [.d (.int .i64 e)])::NG) (λdone e=>e=0/\ ∀x∈done,cX x=0) (λe=>e=jI (eN c)) c 0 ⟨rfl,by simp⟩ (by with_unfolding_all exact rfl) (λe=>aJn (by decide) (by with_unfolding_all exact rfl) (aJn (by decide) (by with_unfolding_all exact rfl) aNa)) (by simp) (aNb (by with_unfolding_all exact rfl)) ?_ ?_ ?_
  ·rintro done x s pin fr K ⟨rfl,hd⟩ ⟨rest,hA⟩ h1 h2 h3 h4
   have hx:=bG x
   have hcf:=qP x
   rw [hx]at hcf |-
   have hbig: ∀k,100<=k->k∉pin++fJ fr++[60]:=by
    intro k hk hm
    simp only [aI1,aI2,List.mem_append,List.mem_singleton]at hm
    rcases hm with(hm|hm)|hm
    ·exact h1 k hk hm
    ·exact h2 k hk hm
    ·omega
   refine yI [4] hty (kp [0,1,2,3,4,5,8,10,11,15]) 600 rfl rfl ?_
   ((conv=>whnf);repeat' ((first|(intro hq;(try simp only [lnS]at hq);(try rewrite [List.length_map]))|refine sJ ?_|refine .intro _ (.intro rfl ?_)|refine exL (k:= ?_)|(refine And.intro ⟨hbig _ (Nat.le_of_ble_eq_true rfl),aNb (by with_unfolding_all exact rfl) _ (Nat.le_of_ble_eq_true rfl),fZ (by with_unfolding_all exact rfl)⟩ ?_)|(refine aD NG hcf ⟨rfl,rfl,trivial⟩ (λr hs=> ?_);subst hs)|refine dwR ?_|((first|refine aB ?_ ?_|refine aC ?_ ?_)<;>intro hb<;>(first|exact ddX hb|try simp only [lnS]at hb))|(refine aA ?_ ?_<;>intro hb<;>try exact dsX hb))<;>(conv=>whnf)))
   ·exact h4 (cX x) (by rw [<-hA,nG _ _ hd,jI,if_pos (by assumption)])
   ·refine h3 0 ⟨rfl,λy hy=> ?_⟩
    rcases List.mem_append.1 hy with h|h
    ·exact hd y h
    ·simp at h;subst h;assumption
  ·rintro s ⟨rfl,hI⟩
   have hz:jI (eN c)=0:=by
    have:=nG (eN c) [] hI
    simpa [jI]using this
   rw [hz]
   ((conv=>whnf);repeat' ((first|(intro hq;(try simp only [lnS]at hq);(try rewrite [List.length_map]))|refine sJ ?_|refine .intro _ (.intro rfl ?_)|refine exL (k:= ?_)|refine dwR ?_|((first|refine aB ?_ ?_|refine aC ?_ ?_)<;>intro hb<;>(first|exact ddX hb|try simp only [lnS]at hb))|(refine aA ?_ ?_<;>intro hb<;>try exact dsX hb))<;>(conv=>whnf)))
   rfl
  ·rintro s rfl
   ((conv=>whnf);repeat' ((first|(intro hq;(try simp only [lnS]at hq);(try rewrite [List.length_map]))|refine sJ ?_|refine .intro _ (.intro rfl ?_)|refine exL (k:= ?_)|refine dwR ?_|((first|refine aB ?_ ?_|refine aC ?_ ?_)<;>intro hb<;>(first|exact ddX hb|try simp only [lnS]at hb))|(refine aA ?_ ?_<;>intro hb<;>try exact dsX hb))<;>(conv=>whnf)))
   rfl
end Go.Proofs.YtleihcnongldbaaGreatDoor
namespace Go.Proofs.YtleihcnongldbaaGreatDoor
open Go.Proofs
set_option maxRecDepth 10000
attribute [local irreducible] aO aH Tri aG YVC cL bB
def bW (c:Cn):Nat:=(eN c).length
theorem aEp (c:Cn):1<=bW c:=by rw [bW,eV];simp
theorem aM6 {a b:Int}(h:a=b):Wk (.d (.int .i64 a)) (.d (.int .i64 b)):=by subst h;exact rfl
mutual
def zQ:Cn->Nat
 | .mk _ _ _ _ ps=>aJi ps
def aJi:List Cn->Nat
 | []=>0
 |c::r=>max (zQ c+1) (aJi r)
end
theorem vB {l:List Cn}{x:Cn}(h:x∈l):(eN x).length<=(bM l).length:=by
 obtain⟨a,b,rfl⟩:=List.append_of_mem h
 rw [dY,bM]
 simp only [List.length_append]
 omega
theorem pJ {c x:Cn}(h:x∈c.parts):bW x < bW c:=by
 have:=vB h
 rw [bW,bW,eV c]
 simp only [List.length_cons]
 omega
mutual
def oZ:Cn->Bool
 | .mk k _ _ _ ps=>if k=4 then true else if k=5 then aDp ps else false
def aDp:List Cn->Bool
 | []=>false
 |c::r=>if oZ c=true then true else aDp r
end
theorem aIq (c:Cn):oZ c=if c.kind=4 then true else if c.kind=5 then aDp c.parts else false:=by cases c;rw [oZ];rfl
end Go.Proofs.YtleihcnongldbaaGreatDoor
namespace Go.Proofs.YtleihcnongldbaaGreatDoor
open Go.Proofs
set_option maxRecDepth 10000
attribute [local irreducible] aO aH Tri aG YVC cL bB
def aLx (p:Cn->Bool) (l:List Cn):Int:=if l.any p=true then ((l.findIdx p:Nat):Int)else -1
theorem aH3 {p:Cn->Bool}{l:List Cn}{j:Nat}(h:j < l.length) (h1:(l.take j).any p=false) (h2:p l[j]=false):(l.take (j+1)).any p=false:=by
 rw [List.take_succ_eq_append_getElem h,List.any_append,h1];simp [h2]
theorem aLc {p:Cn->Bool}{l:List Cn}{j:Nat}(h:j < l.length) (h1:(l.take j).any p=false) (h2:p l[j]=true):aLx p l=j:=by
 have ha:l.any p=true:=List.any_eq_true.2 ⟨_,List.getElem_mem h,h2⟩
 have hf:l.findIdx p=j:=by
  rw [List.findIdx_eq h]
  refine⟨h2,λi hi=> ?_⟩
  have:=List.any_eq_false.1 h1 (l[i]'(by omega)) (List.mem_iff_getElem.2 ⟨i,by simp;omega,by simp⟩)
  simpa using this
 rw [aLx,if_pos ha,hf]
theorem aAu (f:FuncId) (hcall:cV Tryz.prog f=true) (p:Cn->Bool) (l:List Cn) (hf: ∀q∈l,Tri Tryz.prog f [.d (.agg (cnR q))] [] (λr=>r= .d (.bool (p q)))):
  Tri Tryz.prog 193 [.d (cnl l), .fn f [] []] [] (λr=>r= .d (.int .i64 (aLx p l))):=by
 refine aJ hty Tryz.func193 rfl (kp [0,1,4,5,7,8,9,16]) [] _ _ _ (by simp [Tryz.f193]) (by simp) ?_
 ((conv=>whnf);repeat ((first|(intro hq;try simp only [lnS]at hq)|refine sI ?_|refine .intro _ (.intro rfl ?_));(conv=>whnf)))
 refine aL hty (λj:Nat=>([(0, .d (.sl 5 (l.map cnR))),(1, .fn f [] []),(7, .d (.int .i64 l.length)),(8, .d (.int .i64 j))],[])) (λj=>j<=l.length/\(l.take j).any p=false) (λj=>l.length - j) 0 ⟨by omega,by simp⟩ ⟨by repeat' (first|exact trivial|exact rfl|(rw [List.length_map];exact rfl)|refine And.intro ?_ ?_),trivial⟩ ?_
 rintro j ⟨hj,hn⟩
 ((conv=>whnf);repeat ((first|(intro hq;try simp only [lnS]at hq)|refine sI ?_|refine .intro _ (.intro rfl ?_));(conv=>whnf)))
 refine aB (λh1=> ?_) (λh1=> ?_)
 ·have hjl:j < l.length:=by omega
  have hrow':(l.map cnR)[(j:Int).toNat]? =some (cnR l[j]):=aZ hjl
  have hi:=hf l[j] (List.getElem_mem hjl)
  rw [bG]at hrow' hi
  ((conv=>whnf);repeat' ((first|(intro hq;(try simp only [lnS]at hq);(try rewrite [List.length_map]))|refine sJ ?_|refine .intro _ (.intro rfl ?_)|refine exL (k:= ?_)|(refine⟨_,hrow', ?_⟩)|refine dwR ?_|((first|refine aB ?_ ?_|refine aC ?_ ?_)<;>intro hb<;>(first|exact ddX hb|try simp only [lnS]at hb))|(refine aA ?_ ?_<;>intro hb<;>try exact dsX hb))<;>(conv=>whnf)))
  refine aD [] hi trivial (λr hs=> ?_)
  subst hs
  cases hb2:p l[j]
  ·((conv=>whnf);repeat' ((first|(intro hq;(try simp only [lnS]at hq);(try rewrite [List.length_map]))|refine sJ ?_|refine .intro _ (.intro rfl ?_)|refine exL (k:= ?_)|refine dwR ?_|((first|refine aB ?_ ?_|refine aC ?_ ?_)<;>intro hb<;>(first|exact ddX hb|try simp only [lnS]at hb))|(refine aA ?_ ?_<;>intro hb<;>try exact dsX hb))<;>(conv=>whnf)))
   exact⟨j+1,⟨by omega,aH3 hjl hn hb2⟩,by dsimp only;omega,by repeat' (first|exact trivial|exact rfl|refine And.intro ?_ ?_),trivial⟩
  ·((conv=>whnf);repeat' ((first|(intro hq;(try simp only [lnS]at hq);(try rewrite [List.length_map]))|refine sJ ?_|refine .intro _ (.intro rfl ?_)|refine exL (k:= ?_)|refine dwR ?_|((first|refine aB ?_ ?_|refine aC ?_ ?_)<;>intro hb<;>(first|exact ddX hb|try simp only [lnS]at hb))|(refine aA ?_ ?_<;>intro hb<;>try exact dsX hb))<;>(conv=>whnf)))
   exact iF (aLc hjl hn hb2).symm
 ·have hjl:j=l.length:=by omega
  subst hjl
  rw [List.take_length]at hn
  ((conv=>whnf);repeat' ((first|(intro hq;(try simp only [lnS]at hq);(try rewrite [List.length_map]))|refine sJ ?_|refine .intro _ (.intro rfl ?_)|refine exL (k:= ?_)|refine dwR ?_|((first|refine aB ?_ ?_|refine aC ?_ ?_)<;>intro hb<;>(first|exact ddX hb|try simp only [lnS]at hb))|(refine aA ?_ ?_<;>intro hb<;>try exact dsX hb))<;>(conv=>whnf)))
  rw [aLx,if_neg (by simp [hn])];rfl
theorem aAv (p:Cn->Bool) (l:List Cn):decide (0<=aLx p l)=l.any p:=by
 unfold aLx
 cases h:l.any p
 ·simp
 ·simp
theorem uH (f:FuncId) (hcall:cV Tryz.prog f=true) (p:Cn->Bool) (l:List Cn) (hf: ∀q∈l,Tri Tryz.prog f [.d (.agg (cnR q))] [] (λr=>r= .d (.bool (p q)))):
  Tri Tryz.prog 167 [.d (cnl l), .fn f [] []] [] (λr=>r= .d (.bool (l.any p))):=by
 refine aJ hty Tryz.func167 rfl (kp [0,1,4]) [] _ _ _ (by simp [Tryz.f167]) (by simp) ?_
 ((conv=>whnf);repeat ((first|(intro hq;try simp only [lnS]at hq)|refine sI ?_|refine .intro _ (.intro rfl ?_));(conv=>whnf)))
 refine aD [] (aAu f hcall p l hf) trivial (λr hs=> ?_)
 subst hs
 ((conv=>whnf);repeat' ((first|(intro hq;(try simp only [lnS]at hq);(try rewrite [List.length_map]))|refine sJ ?_|refine .intro _ (.intro rfl ?_)|refine exL (k:= ?_)|refine dwR ?_|((first|refine aB ?_ ?_|refine aC ?_ ?_)<;>intro hb<;>(first|exact ddX hb|try simp only [lnS]at hb))|(refine aA ?_ ?_<;>intro hb<;>try exact dsX hb))<;>(conv=>whnf)))
 exact aX (aAv p l)
theorem aA1: ∀l,aDp l=l.any oZ
 | []=>by simp [aDp]
 |c::r=>by rw [aDp,aA1 r,List.any_cons];cases oZ c<;>simp
theorem sM: ∀(c:Cn),Tri Tryz.prog 134 [.d (.agg (cnR c))] [] (λr=>r= .d (.bool (oZ c))):=by
 refine Cn.ind ?_
 intro c ih
 have hC:=uH 134 (by kernel_rfl) oZ c.parts ih
 rw [bG,aIq,aA1]
 refine aF false [1] hty Tryz.func134 rfl (kp [0,1,2,4,5,7]) [] _ _ _ (by simp [Tryz.f134]) (by simp) ?_
 ((conv=>whnf);repeat' ((first|(intro hq;(try simp only [lnS]at hq);(try rewrite [List.length_map]))|refine sJ ?_|refine .intro _ (.intro rfl ?_)|refine exL (k:= ?_)|(refine aD [] hC trivial (λr hs=> ?_);subst hs)|refine dwR ?_|((first|refine aB ?_ ?_|refine aC ?_ ?_)<;>intro hb<;>(first|exact ddX hb|try simp only [lnS]at hb))|(refine aA ?_ ?_<;>intro hb<;>try exact dsX hb))<;>(conv=>whnf)))
 ·rw [if_pos (by assumption)];rfl
 ·rw [if_neg (by assumption),if_pos (by assumption)];rfl
 ·rw [if_neg (by assumption),if_neg (by assumption)];rfl
def gG (c:Cn):Bool:=decide (c.kind=0) && (decide (c.name=[]) && (decide (c.lo=0) && (decide (c.hi=0) && decide (c.parts=[]))))
theorem bA (c:Cn):Tri Tryz.prog 162 [.d (.agg (cnR c))] [] (λr=>r= .d (.bool (gG c))):=by
 rw [bG]
 refine aF false [1] hty Tryz.func162 rfl (kp [0,1,2]) [] _ _ _ (by simp [Tryz.f162]) (by simp) ?_
 ((conv=>whnf);repeat' ((first|(intro hq;(try simp only [lnS]at hq);(try rewrite [List.length_map]))|refine sJ ?_|refine .intro _ (.intro rfl ?_)|refine exL (k:= ?_)|refine dwR ?_|((first|refine aB ?_ ?_|refine aC ?_ ?_)<;>intro hb<;>(first|exact ddX hb|try simp only [lnS]at hb))|(refine aA ?_ ?_<;>intro hb<;>try exact dsX hb))<;>(conv=>whnf)))
 all_goals (unfold gG;simp_all [dE])
 all_goals trace_state
end Go.Proofs.YtleihcnongldbaaGreatDoor
namespace Go.Proofs.YtleihcnongldbaaGreatDoor
open Go.Proofs
set_option maxRecDepth 10000
attribute [local irreducible] aO aH Tri aG YVC cL bB
def bN (u:Use) (x:Ax):Bool:=
 (u.left || gG x.left) && ((u.right || gG x.right) && ((u.role || decide (x.role=[])) && ((u.a || decide (x.a=[])) && ((u.b || decide (x.b=[])) && (decide (u.least<=x.roles.length) && decide ((x.roles.length:Int)<=u.most))))))
def bE (x:Ax):Bool:=if x.kind < 1\/9 < x.kind then false else bN (qM x.kind) x
theorem nM {k:Int}(n:Nat) (h:n < gJ.length) (hk:k=n):(gJ.map aKb)[k.toNat]? =some (aKb gJ[n]):=by
 subst hk
 rw [Int.toNat_natCast,List.getElem?_map,List.getElem?_eq_getElem h];rfl
theorem aDf (x:Ax) (hk:x.kind=1):Tri Tryz.prog 131 [.d (.agg (axR x))] NG (λr=>r= .d (.bool (bE x))):=by
 have e1:=bA x.left
 have e2:=bA x.right
 rw [bG]at e1 e2
 have hrow:=nM (k:=x.kind) 1 (by decide) hk
 have hE:bE x=bN (gJ[1]'(by decide)) x:=by rw [bE,if_neg (by omega),hk];rfl
 rw [hE]
 refine aF false [1,3] hty Tryz.func131 rfl (kp [0,1,2,3,11]) [] _ _ _ (by simp [Tryz.f131]) (by decide) ?_
 ((conv=>whnf);repeat ((first|(intro hq;try simp only [lnS]at hq)|refine sI ?_|refine .intro _ (.intro rfl ?_));(conv=>whnf)))
 refine aB (λh1=>by omega) (λh1=> ?_)
 ((conv=>whnf);repeat ((first|(intro hq;try simp only [lnS]at hq)|refine sI ?_|refine .intro _ (.intro rfl ?_));(conv=>whnf)))
 refine aB (λh2=>by omega) (λh2=> ?_)
 ((conv=>whnf);repeat' ((first|(intro hq;(try simp only [lnS]at hq);(try rewrite [List.length_map]))|refine sJ ?_|refine .intro _ (.intro rfl ?_)|refine exL (k:= ?_)|(refine cN (id:=91) hty rfl rfl rfl rfl rfl rfl rfl (by omega) (by omega) ?_)|(refine⟨_,hrow, ?_⟩)|(refine aD [] e1 trivial (λr hs=> ?_);subst hs)|(refine aD [] e2 trivial (λr hs=> ?_);subst hs)|refine dwR ?_|((first|refine aB ?_ ?_|refine aC ?_ ?_)<;>intro hb<;>(first|exact ddX hb|try simp only [lnS]at hb))|(refine aA ?_ ?_<;>intro hb<;>try exact dsX hb))<;>(conv=>whnf)))
 all_goals (clear e1 e2 hrow hE;refine aX (Eq.symm ?_);show bN _ x=_;simp only [bN,gJ,List.getElem_cons_succ,List.getElem_cons_zero,Bool.true_or,Bool.false_or,Bool.true_and];simp_all [gJ]<;>omega)
theorem aDe (x:Ax) (hk:x.kind=2):Tri Tryz.prog 131 [.d (.agg (axR x))] NG (λr=>r= .d (.bool (bE x))):=by
 have e1:=bA x.left
 have e2:=bA x.right
 rw [bG]at e1 e2
 have hrow:=nM (k:=x.kind) 2 (by decide) hk
 have hE:bE x=bN (gJ[2]'(by decide)) x:=by rw [bE,if_neg (by omega),hk];rfl
 rw [hE]
 refine aF false [1,3] hty Tryz.func131 rfl (kp [0,1,2,3,11]) [] _ _ _ (by simp [Tryz.f131]) (by decide) ?_
 ((conv=>whnf);repeat ((first|(intro hq;try simp only [lnS]at hq)|refine sI ?_|refine .intro _ (.intro rfl ?_));(conv=>whnf)))
 refine aB (λh1=>by omega) (λh1=> ?_)
 ((conv=>whnf);repeat ((first|(intro hq;try simp only [lnS]at hq)|refine sI ?_|refine .intro _ (.intro rfl ?_));(conv=>whnf)))
 refine aB (λh2=>by omega) (λh2=> ?_)
 ((conv=>whnf);repeat' ((first|(intro hq;(try simp only [lnS]at hq);(try rewrite [List.length_map]))|refine sJ ?_|refine .intro _ (.intro rfl ?_)|refine exL (k:= ?_)|(refine cN (id:=91) hty rfl rfl rfl rfl rfl rfl rfl (by omega) (by omega) ?_)|(refine⟨_,hrow, ?_⟩)|(refine aD [] e1 trivial (λr hs=> ?_);subst hs)|(refine aD [] e2 trivial (λr hs=> ?_);subst hs)|refine dwR ?_|((first|refine aB ?_ ?_|refine aC ?_ ?_)<;>intro hb<;>(first|exact ddX hb|try simp only [lnS]at hb))|(refine aA ?_ ?_<;>intro hb<;>try exact dsX hb))<;>(conv=>whnf)))
 all_goals (clear e1 e2 hrow hE;refine aX (Eq.symm ?_);show bN _ x=_;simp only [bN,gJ,List.getElem_cons_succ,List.getElem_cons_zero,Bool.true_or,Bool.false_or,Bool.true_and];simp_all [gJ]<;>omega)
theorem aDd (x:Ax) (hk:x.kind=3):Tri Tryz.prog 131 [.d (.agg (axR x))] NG (λr=>r= .d (.bool (bE x))):=by
 have e1:=bA x.left
 have e2:=bA x.right
 rw [bG]at e1 e2
 have hrow:=nM (k:=x.kind) 3 (by decide) hk
 have hE:bE x=bN (gJ[3]'(by decide)) x:=by rw [bE,if_neg (by omega),hk];rfl
 rw [hE]
 refine aF false [1,3] hty Tryz.func131 rfl (kp [0,1,2,3,11]) [] _ _ _ (by simp [Tryz.f131]) (by decide) ?_
 ((conv=>whnf);repeat ((first|(intro hq;try simp only [lnS]at hq)|refine sI ?_|refine .intro _ (.intro rfl ?_));(conv=>whnf)))
 refine aB (λh1=>by omega) (λh1=> ?_)
 ((conv=>whnf);repeat ((first|(intro hq;try simp only [lnS]at hq)|refine sI ?_|refine .intro _ (.intro rfl ?_));(conv=>whnf)))
 refine aB (λh2=>by omega) (λh2=> ?_)
 ((conv=>whnf);repeat' ((first|(intro hq;(try simp only [lnS]at hq);(try rewrite [List.length_map]))|refine sJ ?_|refine .intro _ (.intro rfl ?_)|refine exL (k:= ?_)|(refine cN (id:=91) hty rfl rfl rfl rfl rfl rfl rfl (by omega) (by omega) ?_)|(refine⟨_,hrow, ?_⟩)|(refine aD [] e1 trivial (λr hs=> ?_);subst hs)|(refine aD [] e2 trivial (λr hs=> ?_);subst hs)|refine dwR ?_|((first|refine aB ?_ ?_|refine aC ?_ ?_)<;>intro hb<;>(first|exact ddX hb|try simp only [lnS]at hb))|(refine aA ?_ ?_<;>intro hb<;>try exact dsX hb))<;>(conv=>whnf)))
 all_goals (clear e1 e2 hrow hE;refine aX (Eq.symm ?_);show bN _ x=_;simp only [bN,gJ,List.getElem_cons_succ,List.getElem_cons_zero,Bool.true_or,Bool.false_or,Bool.true_and];simp_all [gJ]<;>omega)
theorem aDc (x:Ax) (hk:x.kind=4):Tri Tryz.prog 131 [.d (.agg (axR x))] NG (λr=>r= .d (.bool (bE x))):=by
 have e1:=bA x.left
 have e2:=bA x.right
 rw [bG]at e1 e2
 have hrow:=nM (k:=x.kind) 4 (by decide) hk
 have hE:bE x=bN (gJ[4]'(by decide)) x:=by rw [bE,if_neg (by omega),hk];rfl
 rw [hE]
 refine aF false [1,3] hty Tryz.func131 rfl (kp [0,1,2,3,11]) [] _ _ _ (by simp [Tryz.f131]) (by decide) ?_
 ((conv=>whnf);repeat ((first|(intro hq;try simp only [lnS]at hq)|refine sI ?_|refine .intro _ (.intro rfl ?_));(conv=>whnf)))
 refine aB (λh1=>by omega) (λh1=> ?_)
 ((conv=>whnf);repeat ((first|(intro hq;try simp only [lnS]at hq)|refine sI ?_|refine .intro _ (.intro rfl ?_));(conv=>whnf)))
 refine aB (λh2=>by omega) (λh2=> ?_)
 ((conv=>whnf);repeat' ((first|(intro hq;(try simp only [lnS]at hq);(try rewrite [List.length_map]))|refine sJ ?_|refine .intro _ (.intro rfl ?_)|refine exL (k:= ?_)|(refine cN (id:=91) hty rfl rfl rfl rfl rfl rfl rfl (by omega) (by omega) ?_)|(refine⟨_,hrow, ?_⟩)|(refine aD [] e1 trivial (λr hs=> ?_);subst hs)|(refine aD [] e2 trivial (λr hs=> ?_);subst hs)|refine dwR ?_|((first|refine aB ?_ ?_|refine aC ?_ ?_)<;>intro hb<;>(first|exact ddX hb|try simp only [lnS]at hb))|(refine aA ?_ ?_<;>intro hb<;>try exact dsX hb))<;>(conv=>whnf)))
 all_goals (clear e1 e2 hrow hE;refine aX (Eq.symm ?_);show bN _ x=_;simp only [bN,gJ,List.getElem_cons_succ,List.getElem_cons_zero,Bool.true_or,Bool.false_or,Bool.true_and];simp_all [gJ]<;>omega)
theorem aD9 (x:Ax) (hk:x.kind=7):Tri Tryz.prog 131 [.d (.agg (axR x))] NG (λr=>r= .d (.bool (bE x))):=by
 have e1:=bA x.left
 have e2:=bA x.right
 rw [bG]at e1 e2
 have hrow:=nM (k:=x.kind) 7 (by decide) hk
 have hE:bE x=bN (gJ[7]'(by decide)) x:=by rw [bE,if_neg (by omega),hk];rfl
 rw [hE]
 refine aF false [1,3] hty Tryz.func131 rfl (kp [0,1,2,3,11]) [] _ _ _ (by simp [Tryz.f131]) (by decide) ?_
 ((conv=>whnf);repeat ((first|(intro hq;try simp only [lnS]at hq)|refine sI ?_|refine .intro _ (.intro rfl ?_));(conv=>whnf)))
 refine aB (λh1=>by omega) (λh1=> ?_)
 ((conv=>whnf);repeat ((first|(intro hq;try simp only [lnS]at hq)|refine sI ?_|refine .intro _ (.intro rfl ?_));(conv=>whnf)))
 refine aB (λh2=>by omega) (λh2=> ?_)
 ((conv=>whnf);repeat' ((first|(intro hq;(try simp only [lnS]at hq);(try rewrite [List.length_map]))|refine sJ ?_|refine .intro _ (.intro rfl ?_)|refine exL (k:= ?_)|(refine cN (id:=91) hty rfl rfl rfl rfl rfl rfl rfl (by omega) (by omega) ?_)|(refine⟨_,hrow, ?_⟩)|(refine aD [] e1 trivial (λr hs=> ?_);subst hs)|(refine aD [] e2 trivial (λr hs=> ?_);subst hs)|refine dwR ?_|((first|refine aB ?_ ?_|refine aC ?_ ?_)<;>intro hb<;>(first|exact ddX hb|try simp only [lnS]at hb))|(refine aA ?_ ?_<;>intro hb<;>try exact dsX hb))<;>(conv=>whnf)))
 all_goals (clear e1 e2 hrow hE;refine aX (Eq.symm ?_);show bN _ x=_;simp only [bN,gJ,List.getElem_cons_succ,List.getElem_cons_zero,Bool.true_or,Bool.false_or,Bool.true_and];simp_all [gJ]<;>omega)
theorem aD8 (x:Ax) (hk:x.kind=8):Tri Tryz.prog 131 [.d (.agg (axR x))] NG (λr=>r= .d (.bool (bE x))):=by
 have e1:=bA x.left
 have e2:=bA x.right
 rw [bG]at e1 e2
 have hrow:=nM (k:=x.kind) 8 (by decide) hk
 have hE:bE x=bN (gJ[8]'(by decide)) x:=by rw [bE,if_neg (by omega),hk];rfl
 rw [hE]
 refine aF false [1,3] hty Tryz.func131 rfl (kp [0,1,2,3,11]) [] _ _ _ (by simp [Tryz.f131]) (by decide) ?_
 ((conv=>whnf);repeat ((first|(intro hq;try simp only [lnS]at hq)|refine sI ?_|refine .intro _ (.intro rfl ?_));(conv=>whnf)))
 refine aB (λh1=>by omega) (λh1=> ?_)
 ((conv=>whnf);repeat ((first|(intro hq;try simp only [lnS]at hq)|refine sI ?_|refine .intro _ (.intro rfl ?_));(conv=>whnf)))
 refine aB (λh2=>by omega) (λh2=> ?_)
 ((conv=>whnf);repeat' ((first|(intro hq;(try simp only [lnS]at hq);(try rewrite [List.length_map]))|refine sJ ?_|refine .intro _ (.intro rfl ?_)|refine exL (k:= ?_)|(refine cN (id:=91) hty rfl rfl rfl rfl rfl rfl rfl (by omega) (by omega) ?_)|(refine⟨_,hrow, ?_⟩)|(refine aD [] e1 trivial (λr hs=> ?_);subst hs)|(refine aD [] e2 trivial (λr hs=> ?_);subst hs)|refine dwR ?_|((first|refine aB ?_ ?_|refine aC ?_ ?_)<;>intro hb<;>(first|exact ddX hb|try simp only [lnS]at hb))|(refine aA ?_ ?_<;>intro hb<;>try exact dsX hb))<;>(conv=>whnf)))
 all_goals (clear e1 e2 hrow hE;refine aX (Eq.symm ?_);show bN _ x=_;simp only [bN,gJ,List.getElem_cons_succ,List.getElem_cons_zero,Bool.true_or,Bool.false_or,Bool.true_and];simp_all [gJ]<;>omega)
theorem aD7 (x:Ax) (hk:x.kind=9):Tri Tryz.prog 131 [.d (.agg (axR x))] NG (λr=>r= .d (.bool (bE x))):=by
 have e1:=bA x.left
 have e2:=bA x.right
 rw [bG]at e1 e2
 have hrow:=nM (k:=x.kind) 9 (by decide) hk
 have hE:bE x=bN (gJ[9]'(by decide)) x:=by rw [bE,if_neg (by omega),hk];rfl
 rw [hE]
 refine aF false [1,3] hty Tryz.func131 rfl (kp [0,1,2,3,11]) [] _ _ _ (by simp [Tryz.f131]) (by decide) ?_
 ((conv=>whnf);repeat ((first|(intro hq;try simp only [lnS]at hq)|refine sI ?_|refine .intro _ (.intro rfl ?_));(conv=>whnf)))
 refine aB (λh1=>by omega) (λh1=> ?_)
 ((conv=>whnf);repeat ((first|(intro hq;try simp only [lnS]at hq)|refine sI ?_|refine .intro _ (.intro rfl ?_));(conv=>whnf)))
 refine aB (λh2=>by omega) (λh2=> ?_)
 ((conv=>whnf);repeat' ((first|(intro hq;(try simp only [lnS]at hq);(try rewrite [List.length_map]))|refine sJ ?_|refine .intro _ (.intro rfl ?_)|refine exL (k:= ?_)|(refine cN (id:=91) hty rfl rfl rfl rfl rfl rfl rfl (by omega) (by omega) ?_)|(refine⟨_,hrow, ?_⟩)|(refine aD [] e1 trivial (λr hs=> ?_);subst hs)|(refine aD [] e2 trivial (λr hs=> ?_);subst hs)|refine dwR ?_|((first|refine aB ?_ ?_|refine aC ?_ ?_)<;>intro hb<;>(first|exact ddX hb|try simp only [lnS]at hb))|(refine aA ?_ ?_<;>intro hb<;>try exact dsX hb))<;>(conv=>whnf)))
 all_goals (clear e1 e2 hrow hE;refine aX (Eq.symm ?_);show bN _ x=_;simp only [bN,gJ,List.getElem_cons_succ,List.getElem_cons_zero,Bool.true_or,Bool.false_or,Bool.true_and];simp_all [gJ]<;>omega)
theorem aDb (x:Ax) (hk:x.kind=5):Tri Tryz.prog 131 [.d (.agg (axR x))] NG (λr=>r= .d (.bool (bE x))):=by
 have e1:=bA x.left
 have e2:=bA x.right
 rw [bG]at e1 e2
 have hrow:=nM (k:=x.kind) 5 (by decide) hk
 have hE:bE x=bN (gJ[5]'(by decide)) x:=by rw [bE,if_neg (by omega),hk];rfl
 rw [hE]
 refine aF false [1,3] hty Tryz.func131 rfl (kp [0,1,2,3,11]) [] _ _ _ (by simp [Tryz.f131]) (by decide) ?_
 ((conv=>whnf);repeat ((first|(intro hq;try simp only [lnS]at hq)|refine sI ?_|refine .intro _ (.intro rfl ?_));(conv=>whnf)))
 refine aB (λh1=>by omega) (λh1=> ?_)
 ((conv=>whnf);repeat ((first|(intro hq;try simp only [lnS]at hq)|refine sI ?_|refine .intro _ (.intro rfl ?_));(conv=>whnf)))
 refine aB (λh2=>by omega) (λh2=> ?_)
 ((conv=>whnf);repeat' ((first|(intro hq;(try simp only [lnS]at hq);(try rewrite [List.length_map]))|refine sJ ?_|refine .intro _ (.intro rfl ?_)|refine exL (k:= ?_)|(refine cN (id:=91) hty rfl rfl rfl rfl rfl rfl rfl (by omega) (by omega) ?_)|(refine⟨_,hrow, ?_⟩)|(refine aD [] e1 trivial (λr hs=> ?_);subst hs)|(refine aD [] e2 trivial (λr hs=> ?_);subst hs)|refine dwR ?_|((first|refine aB ?_ ?_|refine aC ?_ ?_)<;>intro hb<;>(first|exact ddX hb|try simp only [lnS]at hb))|(refine aA ?_ ?_<;>intro hb<;>try exact dsX hb))<;>(conv=>whnf)))
 all_goals (clear e1 e2 hrow hE;refine aX (Eq.symm ?_);show bN _ x=_;simp only [bN,show (gJ[5]'(by decide)).left=false from rfl,show (gJ[5]'(by decide)).right=false from rfl,show (gJ[5]'(by decide)).role=true from rfl,show (gJ[5]'(by decide)).a=false from rfl,show (gJ[5]'(by decide)).b=false from rfl,Bool.true_or,Bool.false_or,Bool.true_and];have hl:(gJ[5]'(by decide)).least=(5:Int) - 4:=rfl;have hm:(gJ[5]'(by decide)).most=3 * (5:Int) - 14:=rfl;simp_all<;>omega)
theorem aDa (x:Ax) (hk:x.kind=6):Tri Tryz.prog 131 [.d (.agg (axR x))] NG (λr=>r= .d (.bool (bE x))):=by
 have e1:=bA x.left
 have e2:=bA x.right
 rw [bG]at e1 e2
 have hrow:=nM (k:=x.kind) 6 (by decide) hk
 have hE:bE x=bN (gJ[6]'(by decide)) x:=by rw [bE,if_neg (by omega),hk];rfl
 rw [hE]
 refine aF false [1,3] hty Tryz.func131 rfl (kp [0,1,2,3,11]) [] _ _ _ (by simp [Tryz.f131]) (by decide) ?_
 ((conv=>whnf);repeat ((first|(intro hq;try simp only [lnS]at hq)|refine sI ?_|refine .intro _ (.intro rfl ?_));(conv=>whnf)))
 refine aB (λh1=>by omega) (λh1=> ?_)
 ((conv=>whnf);repeat ((first|(intro hq;try simp only [lnS]at hq)|refine sI ?_|refine .intro _ (.intro rfl ?_));(conv=>whnf)))
 refine aB (λh2=>by omega) (λh2=> ?_)
 ((conv=>whnf);repeat' ((first|(intro hq;(try simp only [lnS]at hq);(try rewrite [List.length_map]))|refine sJ ?_|refine .intro _ (.intro rfl ?_)|refine exL (k:= ?_)|(refine cN (id:=91) hty rfl rfl rfl rfl rfl rfl rfl (by omega) (by omega) ?_)|(refine⟨_,hrow, ?_⟩)|(refine aD [] e1 trivial (λr hs=> ?_);subst hs)|(refine aD [] e2 trivial (λr hs=> ?_);subst hs)|refine dwR ?_|((first|refine aB ?_ ?_|refine aC ?_ ?_)<;>intro hb<;>(first|exact ddX hb|try simp only [lnS]at hb))|(refine aA ?_ ?_<;>intro hb<;>try exact dsX hb))<;>(conv=>whnf)))
 all_goals (clear e1 e2 hrow hE;refine aX (Eq.symm ?_);show bN _ x=_;simp only [bN,show (gJ[6]'(by decide)).left=false from rfl,show (gJ[6]'(by decide)).right=false from rfl,show (gJ[6]'(by decide)).role=true from rfl,show (gJ[6]'(by decide)).a=false from rfl,show (gJ[6]'(by decide)).b=false from rfl,Bool.true_or,Bool.false_or,Bool.true_and];have hl:(gJ[6]'(by decide)).least=(6:Int) - 4:=rfl;have hm:(gJ[6]'(by decide)).most=3 * (6:Int) - 14:=rfl;simp_all<;>omega)
theorem xO (x:Ax):Tri Tryz.prog 131 [.d (.agg (axR x))] NG (λr=>r= .d (.bool (bE x))):=by
 by_cases hk:1<=x.kind/\x.kind<=9
 ·rcases(show x.kind=1\/x.kind=2\/x.kind=3\/x.kind=4\/x.kind=5\/x.kind=6\/x.kind=7\/x.kind=8\/x.kind=9 by omega)with h|h|h|h|h|h|h|h|h
  ·exact aDf x h
  ·exact aDe x h
  ·exact aDd x h
  ·exact aDc x h
  ·exact aDb x h
  ·exact aDa x h
  ·exact aD9 x h
  ·exact aD8 x h
  ·exact aD7 x h
 ·have hE:bE x=false:=by rw [bE,if_pos (by omega)]
  rw [hE]
  refine aF false [1,3] hty Tryz.func131 rfl (kp [0,1,2,3,11]) [] _ _ _ (by simp [Tryz.f131]) (by decide) ?_
  ((conv=>whnf);repeat ((first|(intro hq;try simp only [lnS]at hq)|refine sI ?_|refine .intro _ (.intro rfl ?_));(conv=>whnf)))
  refine aB (λh1=> ?_) (λh1=> ?_)
  ·((conv=>whnf);repeat' ((first|(intro hq;(try simp only [lnS]at hq);(try rewrite [List.length_map]))|refine sJ ?_|refine .intro _ (.intro rfl ?_)|refine exL (k:= ?_)|refine dwR ?_|((first|refine aB ?_ ?_|refine aC ?_ ?_)<;>intro hb<;>(first|exact ddX hb|try simp only [lnS]at hb))|(refine aA ?_ ?_<;>intro hb<;>try exact dsX hb))<;>(conv=>whnf)))
   rfl
  ·((conv=>whnf);repeat ((first|(intro hq;try simp only [lnS]at hq)|refine sI ?_|refine .intro _ (.intro rfl ?_));(conv=>whnf)))
   refine aB (λh2=> ?_) (λh2=>by omega)
   ((conv=>whnf);repeat' ((first|(intro hq;(try simp only [lnS]at hq);(try rewrite [List.length_map]))|refine sJ ?_|refine .intro _ (.intro rfl ?_)|refine exL (k:= ?_)|refine dwR ?_|((first|refine aB ?_ ?_|refine aC ?_ ?_)<;>intro hb<;>(first|exact ddX hb|try simp only [lnS]at hb))|(refine aA ?_ ?_<;>intro hb<;>try exact dsX hb))<;>(conv=>whnf)))
   rfl
def qB (u:Use) (x:Ax):Bool:= !((u.role && !fX x.role) || ((u.a && !eZ x.a) || (u.b && !eZ x.b))) && x.roles.all fX
theorem aH4 {p:List UInt8->Bool}{l:List (List UInt8)}{j:Nat}(h:j < l.length) (h1:(l.take j).all p=true) (h2:p l[j]=true):(l.take (j+1)).all p=true:=by
 rw [List.take_succ_eq_append_getElem h,List.all_append,h1];simp [h2]
theorem zJ (x:Ax) (u:Use):Tri Tryz.prog 132 [.d (.agg (axR x)), .d (.agg (aKb u))] [] (λr=>r= .d (.bool (qB u x))):=by
 refine aF false [2,3] hty Tryz.func132 rfl (kp [0,1,2,3,4,6,34,36,37,38,39,44]) [] _ _ _ (by simp [Tryz.f132]) (by simp) ?_
 ((conv=>whnf);repeat' ((first|(intro hq;(try simp only [lnS]at hq);(try rewrite [List.length_map]))|refine sJ ?_|refine .intro _ (.intro rfl ?_)|refine exL (k:= ?_)|(refine aD [] (gS _) trivial (λr hs=> ?_);subst hs)|(refine aD [] (hH _) trivial (λr hs=> ?_);subst hs)|refine dwR ?_|((first|refine aB ?_ ?_|refine aC ?_ ?_)<;>intro hb<;>(first|exact ddX hb|try simp only [lnS]at hb))|(refine aA ?_ ?_<;>intro hb<;>try exact dsX hb))<;>(conv=>whnf)))
 all_goals first
  |(refine aX (Eq.symm ?_);unfold qB;simp_all;done)
  |skip
 all_goals (
  have hN:qB u x=x.roles.all fX:=by unfold qB;simp_all
  rw [hN]
  refine aL hty (λj:Nat=>([(36, .d (.sl 1 (x.roles.map cE))),(37, .d (.int .i64 x.roles.length)),(38, .d (.int .i64 j))],[])) (λj=>j<=x.roles.length/\(x.roles.take j).all fX=true) (λj=>x.roles.length - j) 0 ⟨by omega,by simp⟩ ⟨by repeat' (first|exact trivial|exact rfl|(rw [List.length_map];exact rfl)|refine And.intro ?_ ?_),trivial⟩ ?_
  rintro j ⟨hj,hn⟩
  ((conv=>whnf);repeat ((first|(intro hq;try simp only [lnS]at hq)|refine sI ?_|refine .intro _ (.intro rfl ?_));(conv=>whnf)))
  refine aB (λh1=> ?_) (λh1=> ?_)
  ·have hjl:j < x.roles.length:=by omega
   have hrow:(x.roles.map cE)[(j:Int).toNat]? =some (cE x.roles[j]):=aZ hjl
   ((conv=>whnf);repeat ((first|(refine⟨_,hrow, ?_⟩)|(intro hq;try simp only [lnS]at hq)|refine sI ?_|refine .intro _ (.intro rfl ?_));(conv=>whnf)))
   refine aD [] (gS x.roles[j]) trivial (λr hs=> ?_)
   subst hs
   cases hb2:fX x.roles[j]
   ·((conv=>whnf);repeat' ((first|(intro hq;(try simp only [lnS]at hq);(try rewrite [List.length_map]))|refine sJ ?_|refine .intro _ (.intro rfl ?_)|refine exL (k:= ?_)|refine dwR ?_|((first|refine aB ?_ ?_|refine aC ?_ ?_)<;>intro hb<;>(first|exact ddX hb|try simp only [lnS]at hb))|(refine aA ?_ ?_<;>intro hb<;>try exact dsX hb))<;>(conv=>whnf)))
    exact aX (List.all_eq_false.2 ⟨_,List.getElem_mem hjl,by simp [hb2]⟩).symm
   ·((conv=>whnf);repeat' ((first|(intro hq;(try simp only [lnS]at hq);(try rewrite [List.length_map]))|refine sJ ?_|refine .intro _ (.intro rfl ?_)|refine exL (k:= ?_)|refine dwR ?_|((first|refine aB ?_ ?_|refine aC ?_ ?_)<;>intro hb<;>(first|exact ddX hb|try simp only [lnS]at hb))|(refine aA ?_ ?_<;>intro hb<;>try exact dsX hb))<;>(conv=>whnf)))
    exact⟨j+1,⟨by omega,aH4 hjl hn hb2⟩,by dsimp only;omega,by repeat' (first|exact trivial|exact rfl|refine And.intro ?_ ?_),trivial⟩
  ·have hjl:j=x.roles.length:=by omega
   subst hjl
   rw [List.take_length]at hn
   ((conv=>whnf);repeat' ((first|(intro hq;(try simp only [lnS]at hq);(try rewrite [List.length_map]))|refine sJ ?_|refine .intro _ (.intro rfl ?_)|refine exL (k:= ?_)|refine dwR ?_|((first|refine aB ?_ ?_|refine aC ?_ ?_)<;>intro hb<;>(first|exact ddX hb|try simp only [lnS]at hb))|(refine aA ?_ ?_<;>intro hb<;>try exact dsX hb))<;>(conv=>whnf)))
   exact aX hn.symm)
end Go.Proofs.YtleihcnongldbaaGreatDoor
