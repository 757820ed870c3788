/-
  Terms: CheckConcept, Size, Depth. Terms: Size, Depth, isBare, isEmpty. Terms: isBare, isEmpty. Terms: the shape and the names of an axiom.
  Conditions: none.
-/
import Derived.Test.YtfhoddcminbffaaGreatDoorVA4
set_option linter.unusedSectionVars false
set_option linter.unusedSimpArgs false
set_option linter.unusedVariables false
set_option maxHeartbeats 8000000
namespace Go.Proofs.YtfhoddcminbffaaGreatDoor
open Go.Proofs
set_option maxRecDepth 10000
attribute [local irreducible] aV aM Tri aI YVC dQ bN
def cU:List Cn->Int
 | []=>0
 |x::r=>if bJ x≠0 then bJ x else cU r
def bI (c:Cn):Int:=if (dW c 0 0).1=false then 21 else cU (eO c)
theorem jE: ∀(l m:List Cn),(∀x∈l,bJ x=0)->cU (l++m)=cU m
 | [],_,_=>rfl
 |x::l,m,h=>by
  rw [List.cons_append,cU,if_neg (by simp [h x (List.mem_cons_self ..)])]
  exact jE l m λy hy=>h y (List.mem_cons_of_mem _ hy)
theorem aL5: ∀k,100<=k->k∉iL NG:=by
 intro k hk hm
 have e:iL NG=[90,91]:=by with_unfolding_all exact rfl
 rw [e]at hm
 simp at hm
 omega
theorem iR (c:Cn):Tri Tryz.prog 79 [.d (.agg (cnR c))] NG (λr=>r= .d (.int .i64 (bI c))):=by
 have hcR:=aJ c
 have hw:=aDn c
 have hfit:= λhp0 pin fr K=> @aFj c 0 0 hp0 pin fr K (by omega) (by omega)
 rw [hcR]
 simp only [hcR]at hw hfit
 refine aH false [1] hty Tryz.func79 rfl (kp [0,1,2,3,4,5,8,10,11,15]) [] _ _ _ (by simp [Tryz.f79]) (by decide) ?_
 ((conv=>whnf);repeat' ((first|(intro hq;(try simp only [lnS]at hq);(try rewrite [List.length_map]))|refine sJ ?_|refine .intro _ (.intro rfl ?_)|refine exL (k:= ?_)|refine dwR ?_|((first|refine aD ?_ ?_|refine aF ?_ ?_)<;>intro hb<;>(first|exact ddX hb|try simp only [lnS]at hb))|(refine aC ?_ ?_<;>intro hb<;>try exact dsX hb))<;>(conv=>whnf)))
 refine hfit ((2, .cells 26 [.d (.int .i64 0)])::NG) _ _ _ (by simp) (aKc (by with_unfolding_all exact rfl)) (aIg (by decide) (by with_unfolding_all exact rfl) aL5) ?_
 cases hb:(dW c 0 0).1
 ·((conv=>whnf);repeat' ((first|(intro hq;(try simp only [lnS]at hq);(try rewrite [List.length_map]))|refine sJ ?_|refine .intro _ (.intro rfl ?_)|refine exL (k:= ?_)|refine dwR ?_|((first|refine aD ?_ ?_|refine aF ?_ ?_)<;>intro hb<;>(first|exact ddX hb|try simp only [lnS]at hb))|(refine aC ?_ ?_<;>intro hb<;>try exact dsX hb))<;>(conv=>whnf)))
  rw [bI,if_pos hb];rfl
 ·have hE:bI c=cU (eO c):=by rw [bI,if_neg (by simp [hb])]
  rw [hE]
  ((conv=>whnf);repeat ((first|(intro hq;try simp only [lnS]at hq)|refine sI ?_|refine .intro _ (.intro rfl ?_));(conv=>whnf)))
  refine aG [] hw trivial (λs hs=> ?_)
  subst hs
  ((conv=>whnf);repeat ((first|(intro hq;try simp only [lnS]at hq)|refine sI ?_|refine .intro _ (.intro rfl ?_));(conv=>whnf)))
  refine aC8 60 (dV (by with_unfolding_all exact rfl)) trivial ?_
  ((conv=>whnf);repeat ((first|(intro hq;try simp only [lnS]at hq)|refine sI ?_|refine .intro _ (.intro rfl ?_));(conv=>whnf)))
  rw [<-hcR]
  refine zJ (lid:=60) (by decide) (λe:Int=>(3,_)::(2, .cells 26 [.d (.int .i64 e)])::NG) (λdone e=>e=0/\ ∀x∈done,bJ x=0) (λe=>e=cU (eO c)) c 0 ⟨rfl,by simp⟩ (by with_unfolding_all exact rfl) (λe=>aIg (by decide) (by with_unfolding_all exact rfl) (aIg (by decide) (by with_unfolding_all exact rfl) aL5)) (by simp) (aKc (by with_unfolding_all exact rfl)) ?_ ?_ ?_
  ·rintro done x s pin fr K ⟨rfl,hd⟩ ⟨rest,hA⟩ h1 h2 h3 h4
   have hx:=aJ x
   have hcf:=pE x
   rw [hx]at hcf |-
   have hbig: ∀k,100<=k->k∉pin++fN fr++[60]:=by
    intro k hk hm
    simp only [List.mem_append,List.mem_singleton]at hm
    rcases hm with(hm|hm)|hm
    ·exact h1 k hk hm
    ·exact h2 k hk hm
    ·omega
   refine wJ [4] hty (kp [0,1,2,3,4,5,8,10,11,15]) 600 rfl rfl ?_
   ((conv=>whnf);repeat' ((first|(intro hq;(try simp only [lnS]at hq);(try rewrite [List.length_map]))|refine sJ ?_|refine .intro _ (.intro rfl ?_)|refine exL (k:= ?_)|(refine And.intro ⟨hbig _ (Nat.le_of_ble_eq_true rfl),aKc (by with_unfolding_all exact rfl) _ (Nat.le_of_ble_eq_true rfl),qU (by with_unfolding_all exact rfl)⟩ ?_)|(refine aG NG hcf ⟨rfl,rfl,trivial⟩ (λr hs=> ?_);subst hs)|refine dwR ?_|((first|refine aD ?_ ?_|refine aF ?_ ?_)<;>intro hb<;>(first|exact ddX hb|try simp only [lnS]at hb))|(refine aC ?_ ?_<;>intro hb<;>try exact dsX hb))<;>(conv=>whnf)))
   ·exact h4 (bJ x) (by rw [<-hA,jE _ _ hd,cU,if_pos (by assumption)])
   ·refine h3 0 ⟨rfl,λy hy=> ?_⟩
    rcases List.mem_append.1 hy with h|h
    ·exact hd y h
    ·simp at h;subst h;assumption
  ·rintro s ⟨rfl,hI⟩
   have hz:cU (eO c)=0:=by
    have:=jE (eO c) [] hI
    simpa [cU]using this
   rw [hz]
   ((conv=>whnf);repeat' ((first|(intro hq;(try simp only [lnS]at hq);(try rewrite [List.length_map]))|refine sJ ?_|refine .intro _ (.intro rfl ?_)|refine exL (k:= ?_)|refine dwR ?_|((first|refine aD ?_ ?_|refine aF ?_ ?_)<;>intro hb<;>(first|exact ddX hb|try simp only [lnS]at hb))|(refine aC ?_ ?_<;>intro hb<;>try exact dsX hb))<;>(conv=>whnf)))
   rfl
  ·rintro s rfl
   ((conv=>whnf);repeat' ((first|(intro hq;(try simp only [lnS]at hq);(try rewrite [List.length_map]))|refine sJ ?_|refine .intro _ (.intro rfl ?_)|refine exL (k:= ?_)|refine dwR ?_|((first|refine aD ?_ ?_|refine aF ?_ ?_)<;>intro hb<;>(first|exact ddX hb|try simp only [lnS]at hb))|(refine aC ?_ ?_<;>intro hb<;>try exact dsX hb))<;>(conv=>whnf)))
   rfl
end Go.Proofs.YtfhoddcminbffaaGreatDoor
namespace Go.Proofs.YtfhoddcminbffaaGreatDoor
open Go.Proofs
set_option maxRecDepth 10000
attribute [local irreducible] aV aM Tri aI YVC dQ bN
def aQ (c:Cn):Nat:=(eO c).length
theorem aEf (c:Cn):1<=aQ c:=by rw [aQ,eN];simp
theorem aIo {a b:Int}(h:a=b):Wk (.d (.int .i64 a)) (.d (.int .i64 b)):=by subst h;exact rfl
mutual
def cG:Cn->Nat
 | .mk _ _ _ _ ps=>cQ ps
def cQ:List Cn->Nat
 | []=>0
 |c::r=>max (cG c+1) (cQ r)
end
theorem kG (c:Cn):cG c=cQ c.parts:=by cases c;rw [cG];rfl
theorem nC: ∀(l m:List Cn),cQ (l++m)=max (cQ l) (cQ m)
 | [],m=>by simp [cQ]
 |c::l,m=>by simp only [List.cons_append,cQ,nC l m];omega
theorem aA9 {l:List Cn}{j:Nat}(h:j < l.length):cQ (l.take (j+1))=max (cQ (l.take j)) (cG l[j]+1):=by
 rw [List.take_succ_eq_append_getElem h,nC];simp [cQ]
theorem tT {l:List Cn}{x:Cn}(h:x∈l):(eO x).length<=(bC l).length:=by
 obtain⟨a,b,rfl⟩:=List.append_of_mem h
 rw [cW,bC]
 simp only [List.length_append]
 omega
theorem cT {c x:Cn}(h:x∈c.parts):aQ x < aQ c:=by
 have:=tT h
 rw [aQ,aQ,eN c]
 simp only [List.length_cons]
 omega
mutual
theorem oA: ∀(c:Cn),cG c < aQ c
 | .mk k n lo hi ps=>by
  have:=rU ps
  rw [cG,aQ,eO]
  simp only [List.length_cons]
  omega
theorem rU: ∀(l:List Cn),cQ l<=(bC l).length
 | []=>by simp [cQ]
 |c::r=>by
  have h1:=oA c
  have h2:=rU r
  rw [cQ,bC,List.length_append]
  rw [aQ]at h1
  omega
end
mutual
def bU:Cn->Bool
 | .mk k _ _ _ ps=>if k=4 then true else if k=5 then lU ps else false
def lU:List Cn->Bool
 | []=>false
 |c::r=>if bU c=true then true else lU r
end
theorem aIh (c:Cn):bU c=if c.kind=4 then true else if c.kind=5 then lU c.parts else false:=by cases c;rw [bU];rfl
end Go.Proofs.YtfhoddcminbffaaGreatDoor
namespace Go.Proofs.YtfhoddcminbffaaGreatDoor
open Go.Proofs
set_option maxRecDepth 10000
attribute [local irreducible] aV aM Tri aI YVC dQ bN
def aK8 (p:Cn->Bool) (l:List Cn):Int:=if l.any p=true then ((l.findIdx p:Nat):Int)else -1
theorem aGy {p:Cn->Bool}{l:List Cn}{j:Nat}(h:j < l.length) (h1:(l.take j).any p=false) (h2:p l[j]=false):(l.take (j+1)).any p=false:=by
 rw [List.take_succ_eq_append_getElem h,List.any_append,h1];simp [h2]
theorem aJr {p:Cn->Bool}{l:List Cn}{j:Nat}(h:j < l.length) (h1:(l.take j).any p=false) (h2:p l[j]=true):aK8 p l=j:=by
 have ha:l.any p=true:=List.any_eq_true.2 ⟨_,List.getElem_mem h,h2⟩
 have hf:l.findIdx p=j:=by
  rw [List.findIdx_eq h]
  refine⟨h2,λi hi=> ?_⟩
  have:=List.any_eq_false.1 h1 (l[i]'(by omega)) (List.mem_iff_getElem.2 ⟨i,by simp;omega,by simp⟩)
  simpa using this
 rw [aK8,if_pos ha,hf]
theorem aA2 (f:FuncId) (hcall:cY Tryz.prog f=true) (p:Cn->Bool) (l:List Cn) (hf: ∀q∈l,Tri Tryz.prog f [.d (.agg (cnR q))] [] (λr=>r= .d (.bool (p q)))):
  Tri Tryz.prog 162 [.d (cnl l), .fn f [] []] [] (λr=>r= .d (.int .i64 (aK8 p l))):=by
 refine aN hty Tryz.func162 rfl (kp [0,1,4,5,7,8,9,16]) [] _ _ _ (by simp [Tryz.f162]) (by simp) ?_
 ((conv=>whnf);repeat ((first|(intro hq;try simp only [lnS]at hq)|refine sI ?_|refine .intro _ (.intro rfl ?_));(conv=>whnf)))
 refine aK hty (λj:Nat=>([(0, .d (.sl 5 (l.map cnR))),(1, .fn f [] []),(7, .d (.int .i64 l.length)),(8, .d (.int .i64 j))],[])) (λj=>j<=l.length/\(l.take j).any p=false) (λj=>l.length - j) 0 ⟨by omega,by simp⟩ ⟨by repeat' (first|exact trivial|exact rfl|(rw [List.length_map];exact rfl)|refine And.intro ?_ ?_),trivial⟩ ?_
 rintro j ⟨hj,hn⟩
 ((conv=>whnf);repeat ((first|(intro hq;try simp only [lnS]at hq)|refine sI ?_|refine .intro _ (.intro rfl ?_));(conv=>whnf)))
 refine aD (λh1=> ?_) (λh1=> ?_)
 ·have hjl:j < l.length:=by omega
  have hrow':(l.map cnR)[(j:Int).toNat]? =some (cnR l[j]):=aS hjl
  have hi:=hf l[j] (List.getElem_mem hjl)
  rw [aJ]at hrow' hi
  ((conv=>whnf);repeat' ((first|(intro hq;(try simp only [lnS]at hq);(try rewrite [List.length_map]))|refine sJ ?_|refine .intro _ (.intro rfl ?_)|refine exL (k:= ?_)|(refine⟨_,hrow', ?_⟩)|refine dwR ?_|((first|refine aD ?_ ?_|refine aF ?_ ?_)<;>intro hb<;>(first|exact ddX hb|try simp only [lnS]at hb))|(refine aC ?_ ?_<;>intro hb<;>try exact dsX hb))<;>(conv=>whnf)))
  refine aG [] hi trivial (λr hs=> ?_)
  subst hs
  cases hb2:p l[j]
  ·((conv=>whnf);repeat' ((first|(intro hq;(try simp only [lnS]at hq);(try rewrite [List.length_map]))|refine sJ ?_|refine .intro _ (.intro rfl ?_)|refine exL (k:= ?_)|refine dwR ?_|((first|refine aD ?_ ?_|refine aF ?_ ?_)<;>intro hb<;>(first|exact ddX hb|try simp only [lnS]at hb))|(refine aC ?_ ?_<;>intro hb<;>try exact dsX hb))<;>(conv=>whnf)))
   exact⟨j+1,⟨by omega,aGy hjl hn hb2⟩,by dsimp only;omega,by repeat' (first|exact trivial|exact rfl|refine And.intro ?_ ?_),trivial⟩
  ·((conv=>whnf);repeat' ((first|(intro hq;(try simp only [lnS]at hq);(try rewrite [List.length_map]))|refine sJ ?_|refine .intro _ (.intro rfl ?_)|refine exL (k:= ?_)|refine dwR ?_|((first|refine aD ?_ ?_|refine aF ?_ ?_)<;>intro hb<;>(first|exact ddX hb|try simp only [lnS]at hb))|(refine aC ?_ ?_<;>intro hb<;>try exact dsX hb))<;>(conv=>whnf)))
   exact bZ (aJr hjl hn hb2).symm
 ·have hjl:j=l.length:=by omega
  subst hjl
  rw [List.take_length]at hn
  ((conv=>whnf);repeat' ((first|(intro hq;(try simp only [lnS]at hq);(try rewrite [List.length_map]))|refine sJ ?_|refine .intro _ (.intro rfl ?_)|refine exL (k:= ?_)|refine dwR ?_|((first|refine aD ?_ ?_|refine aF ?_ ?_)<;>intro hb<;>(first|exact ddX hb|try simp only [lnS]at hb))|(refine aC ?_ ?_<;>intro hb<;>try exact dsX hb))<;>(conv=>whnf)))
  rw [aK8,if_neg (by simp [hn])];rfl
theorem aA3 (p:Cn->Bool) (l:List Cn):decide (0<=aK8 p l)=l.any p:=by
 unfold aK8
 cases h:l.any p
 ·simp
 ·simp
theorem sV (f:FuncId) (hcall:cY Tryz.prog f=true) (p:Cn->Bool) (l:List Cn) (hf: ∀q∈l,Tri Tryz.prog f [.d (.agg (cnR q))] [] (λr=>r= .d (.bool (p q)))):
  Tri Tryz.prog 128 [.d (cnl l), .fn f [] []] [] (λr=>r= .d (.bool (l.any p))):=by
 refine aN hty Tryz.func128 rfl (kp [0,1,4]) [] _ _ _ (by simp [Tryz.f128]) (by simp) ?_
 ((conv=>whnf);repeat ((first|(intro hq;try simp only [lnS]at hq)|refine sI ?_|refine .intro _ (.intro rfl ?_));(conv=>whnf)))
 refine aG [] (aA2 f hcall p l hf) trivial (λr hs=> ?_)
 subst hs
 ((conv=>whnf);repeat' ((first|(intro hq;(try simp only [lnS]at hq);(try rewrite [List.length_map]))|refine sJ ?_|refine .intro _ (.intro rfl ?_)|refine exL (k:= ?_)|refine dwR ?_|((first|refine aD ?_ ?_|refine aF ?_ ?_)<;>intro hb<;>(first|exact ddX hb|try simp only [lnS]at hb))|(refine aC ?_ ?_<;>intro hb<;>try exact dsX hb))<;>(conv=>whnf)))
 exact bA (aA3 p l)
theorem yK: ∀l,lU l=l.any bU
 | []=>by simp [lU]
 |c::r=>by rw [lU,yK r,List.any_cons];cases bU c<;>simp
theorem rC: ∀(c:Cn),Tri Tryz.prog 80 [.d (.agg (cnR c))] [] (λr=>r= .d (.bool (bU c))):=by
 refine Cn.ind ?_
 intro c ih
 have hC:=sV 80 (by kernel_rfl) bU c.parts ih
 rw [aJ,aIh,yK]
 refine aH false [1] hty Tryz.func80 rfl (kp [0,1,2,4,5,7]) [] _ _ _ (by simp [Tryz.f80]) (by simp) ?_
 ((conv=>whnf);repeat' ((first|(intro hq;(try simp only [lnS]at hq);(try rewrite [List.length_map]))|refine sJ ?_|refine .intro _ (.intro rfl ?_)|refine exL (k:= ?_)|(refine aG [] hC trivial (λr hs=> ?_);subst hs)|refine dwR ?_|((first|refine aD ?_ ?_|refine aF ?_ ?_)<;>intro hb<;>(first|exact ddX hb|try simp only [lnS]at hb))|(refine aC ?_ ?_<;>intro hb<;>try exact dsX hb))<;>(conv=>whnf)))
 ·rw [if_pos (by assumption)];rfl
 ·rw [if_neg (by assumption),if_pos (by assumption)];rfl
 ·rw [if_neg (by assumption),if_neg (by assumption)];rfl
def eF (c:Cn):Bool:=decide (c.kind=0) && (decide (c.name=[]) && (decide (c.lo=0) && (decide (c.hi=0) && decide (c.parts=[]))))
theorem bD (c:Cn):Tri Tryz.prog 122 [.d (.agg (cnR c))] [] (λr=>r= .d (.bool (eF c))):=by
 rw [aJ]
 refine aH false [1] hty Tryz.func122 rfl (kp [0,1,2]) [] _ _ _ (by simp [Tryz.f122]) (by simp) ?_
 ((conv=>whnf);repeat' ((first|(intro hq;(try simp only [lnS]at hq);(try rewrite [List.length_map]))|refine sJ ?_|refine .intro _ (.intro rfl ?_)|refine exL (k:= ?_)|refine dwR ?_|((first|refine aD ?_ ?_|refine aF ?_ ?_)<;>intro hb<;>(first|exact ddX hb|try simp only [lnS]at hb))|(refine aC ?_ ?_<;>intro hb<;>try exact dsX hb))<;>(conv=>whnf)))
 all_goals (unfold eF;simp_all [cL])
 all_goals trace_state
end Go.Proofs.YtfhoddcminbffaaGreatDoor
namespace Go.Proofs.YtfhoddcminbffaaGreatDoor
open Go.Proofs
set_option maxRecDepth 10000
attribute [local irreducible] aV aM Tri aI YVC dQ bN
def bG (u:Use) (x:Ax):Bool:=
 (u.left || eF x.left) && ((u.right || eF x.right) && ((u.role || decide (x.role=[])) && ((u.a || decide (x.a=[])) && ((u.b || decide (x.b=[])) && (decide (u.least<=x.roles.length) && decide ((x.roles.length:Int)<=u.most))))))
def bE (x:Ax):Bool:=if x.kind < 1\/9 < x.kind then false else bG (cK x.kind) x
theorem lY {k:Int}(n:Nat) (h:n < gM.length) (hk:k=n):(gM.map aJ6)[k.toNat]? =some (aJ6 gM[n]):=by
 subst hk
 rw [Int.toNat_natCast,List.getElem?_map,List.getElem?_eq_getElem h];rfl
theorem aD0 (x:Ax) (hk:x.kind=1):Tri Tryz.prog 77 [.d (.agg (axR x))] NG (λr=>r= .d (.bool (bE x))):=by
 have e1:=bD x.left
 have e2:=bD x.right
 rw [aJ]at e1 e2
 have hrow:=lY (k:=x.kind) 1 (by decide) hk
 have hE:bE x=bG (gM[1]'(by decide)) x:=by rw [bE,if_neg (by omega),hk];rfl
 rw [hE]
 refine aH false [1,3] hty Tryz.func77 rfl (kp [0,1,2,3,11]) [] _ _ _ (by simp [Tryz.f77]) (by decide) ?_
 ((conv=>whnf);repeat ((first|(intro hq;try simp only [lnS]at hq)|refine sI ?_|refine .intro _ (.intro rfl ?_));(conv=>whnf)))
 refine aD (λh1=>by omega) (λh1=> ?_)
 ((conv=>whnf);repeat ((first|(intro hq;try simp only [lnS]at hq)|refine sI ?_|refine .intro _ (.intro rfl ?_));(conv=>whnf)))
 refine aD (λh2=>by omega) (λh2=> ?_)
 ((conv=>whnf);repeat' ((first|(intro hq;(try simp only [lnS]at hq);(try rewrite [List.length_map]))|refine sJ ?_|refine .intro _ (.intro rfl ?_)|refine exL (k:= ?_)|(refine cM (id:=91) hty rfl rfl rfl rfl rfl rfl rfl (by omega) (by omega) ?_)|(refine⟨_,hrow, ?_⟩)|(refine aG [] e1 trivial (λr hs=> ?_);subst hs)|(refine aG [] e2 trivial (λr hs=> ?_);subst hs)|refine dwR ?_|((first|refine aD ?_ ?_|refine aF ?_ ?_)<;>intro hb<;>(first|exact ddX hb|try simp only [lnS]at hb))|(refine aC ?_ ?_<;>intro hb<;>try exact dsX hb))<;>(conv=>whnf)))
 all_goals (clear e1 e2 hrow hE;refine bA (Eq.symm ?_);show bG _ x=_;simp only [bG,gM,List.getElem_cons_succ,List.getElem_cons_zero,Bool.true_or,Bool.false_or,Bool.true_and];simp_all [gM]<;>omega)
theorem aCz (x:Ax) (hk:x.kind=2):Tri Tryz.prog 77 [.d (.agg (axR x))] NG (λr=>r= .d (.bool (bE x))):=by
 have e1:=bD x.left
 have e2:=bD x.right
 rw [aJ]at e1 e2
 have hrow:=lY (k:=x.kind) 2 (by decide) hk
 have hE:bE x=bG (gM[2]'(by decide)) x:=by rw [bE,if_neg (by omega),hk];rfl
 rw [hE]
 refine aH false [1,3] hty Tryz.func77 rfl (kp [0,1,2,3,11]) [] _ _ _ (by simp [Tryz.f77]) (by decide) ?_
 ((conv=>whnf);repeat ((first|(intro hq;try simp only [lnS]at hq)|refine sI ?_|refine .intro _ (.intro rfl ?_));(conv=>whnf)))
 refine aD (λh1=>by omega) (λh1=> ?_)
 ((conv=>whnf);repeat ((first|(intro hq;try simp only [lnS]at hq)|refine sI ?_|refine .intro _ (.intro rfl ?_));(conv=>whnf)))
 refine aD (λh2=>by omega) (λh2=> ?_)
 ((conv=>whnf);repeat' ((first|(intro hq;(try simp only [lnS]at hq);(try rewrite [List.length_map]))|refine sJ ?_|refine .intro _ (.intro rfl ?_)|refine exL (k:= ?_)|(refine cM (id:=91) hty rfl rfl rfl rfl rfl rfl rfl (by omega) (by omega) ?_)|(refine⟨_,hrow, ?_⟩)|(refine aG [] e1 trivial (λr hs=> ?_);subst hs)|(refine aG [] e2 trivial (λr hs=> ?_);subst hs)|refine dwR ?_|((first|refine aD ?_ ?_|refine aF ?_ ?_)<;>intro hb<;>(first|exact ddX hb|try simp only [lnS]at hb))|(refine aC ?_ ?_<;>intro hb<;>try exact dsX hb))<;>(conv=>whnf)))
 all_goals (clear e1 e2 hrow hE;refine bA (Eq.symm ?_);show bG _ x=_;simp only [bG,gM,List.getElem_cons_succ,List.getElem_cons_zero,Bool.true_or,Bool.false_or,Bool.true_and];simp_all [gM]<;>omega)
theorem aCy (x:Ax) (hk:x.kind=3):Tri Tryz.prog 77 [.d (.agg (axR x))] NG (λr=>r= .d (.bool (bE x))):=by
 have e1:=bD x.left
 have e2:=bD x.right
 rw [aJ]at e1 e2
 have hrow:=lY (k:=x.kind) 3 (by decide) hk
 have hE:bE x=bG (gM[3]'(by decide)) x:=by rw [bE,if_neg (by omega),hk];rfl
 rw [hE]
 refine aH false [1,3] hty Tryz.func77 rfl (kp [0,1,2,3,11]) [] _ _ _ (by simp [Tryz.f77]) (by decide) ?_
 ((conv=>whnf);repeat ((first|(intro hq;try simp only [lnS]at hq)|refine sI ?_|refine .intro _ (.intro rfl ?_));(conv=>whnf)))
 refine aD (λh1=>by omega) (λh1=> ?_)
 ((conv=>whnf);repeat ((first|(intro hq;try simp only [lnS]at hq)|refine sI ?_|refine .intro _ (.intro rfl ?_));(conv=>whnf)))
 refine aD (λh2=>by omega) (λh2=> ?_)
 ((conv=>whnf);repeat' ((first|(intro hq;(try simp only [lnS]at hq);(try rewrite [List.length_map]))|refine sJ ?_|refine .intro _ (.intro rfl ?_)|refine exL (k:= ?_)|(refine cM (id:=91) hty rfl rfl rfl rfl rfl rfl rfl (by omega) (by omega) ?_)|(refine⟨_,hrow, ?_⟩)|(refine aG [] e1 trivial (λr hs=> ?_);subst hs)|(refine aG [] e2 trivial (λr hs=> ?_);subst hs)|refine dwR ?_|((first|refine aD ?_ ?_|refine aF ?_ ?_)<;>intro hb<;>(first|exact ddX hb|try simp only [lnS]at hb))|(refine aC ?_ ?_<;>intro hb<;>try exact dsX hb))<;>(conv=>whnf)))
 all_goals (clear e1 e2 hrow hE;refine bA (Eq.symm ?_);show bG _ x=_;simp only [bG,gM,List.getElem_cons_succ,List.getElem_cons_zero,Bool.true_or,Bool.false_or,Bool.true_and];simp_all [gM]<;>omega)
theorem aCx (x:Ax) (hk:x.kind=4):Tri Tryz.prog 77 [.d (.agg (axR x))] NG (λr=>r= .d (.bool (bE x))):=by
 have e1:=bD x.left
 have e2:=bD x.right
 rw [aJ]at e1 e2
 have hrow:=lY (k:=x.kind) 4 (by decide) hk
 have hE:bE x=bG (gM[4]'(by decide)) x:=by rw [bE,if_neg (by omega),hk];rfl
 rw [hE]
 refine aH false [1,3] hty Tryz.func77 rfl (kp [0,1,2,3,11]) [] _ _ _ (by simp [Tryz.f77]) (by decide) ?_
 ((conv=>whnf);repeat ((first|(intro hq;try simp only [lnS]at hq)|refine sI ?_|refine .intro _ (.intro rfl ?_));(conv=>whnf)))
 refine aD (λh1=>by omega) (λh1=> ?_)
 ((conv=>whnf);repeat ((first|(intro hq;try simp only [lnS]at hq)|refine sI ?_|refine .intro _ (.intro rfl ?_));(conv=>whnf)))
 refine aD (λh2=>by omega) (λh2=> ?_)
 ((conv=>whnf);repeat' ((first|(intro hq;(try simp only [lnS]at hq);(try rewrite [List.length_map]))|refine sJ ?_|refine .intro _ (.intro rfl ?_)|refine exL (k:= ?_)|(refine cM (id:=91) hty rfl rfl rfl rfl rfl rfl rfl (by omega) (by omega) ?_)|(refine⟨_,hrow, ?_⟩)|(refine aG [] e1 trivial (λr hs=> ?_);subst hs)|(refine aG [] e2 trivial (λr hs=> ?_);subst hs)|refine dwR ?_|((first|refine aD ?_ ?_|refine aF ?_ ?_)<;>intro hb<;>(first|exact ddX hb|try simp only [lnS]at hb))|(refine aC ?_ ?_<;>intro hb<;>try exact dsX hb))<;>(conv=>whnf)))
 all_goals (clear e1 e2 hrow hE;refine bA (Eq.symm ?_);show bG _ x=_;simp only [bG,gM,List.getElem_cons_succ,List.getElem_cons_zero,Bool.true_or,Bool.false_or,Bool.true_and];simp_all [gM]<;>omega)
theorem aCu (x:Ax) (hk:x.kind=7):Tri Tryz.prog 77 [.d (.agg (axR x))] NG (λr=>r= .d (.bool (bE x))):=by
 have e1:=bD x.left
 have e2:=bD x.right
 rw [aJ]at e1 e2
 have hrow:=lY (k:=x.kind) 7 (by decide) hk
 have hE:bE x=bG (gM[7]'(by decide)) x:=by rw [bE,if_neg (by omega),hk];rfl
 rw [hE]
 refine aH false [1,3] hty Tryz.func77 rfl (kp [0,1,2,3,11]) [] _ _ _ (by simp [Tryz.f77]) (by decide) ?_
 ((conv=>whnf);repeat ((first|(intro hq;try simp only [lnS]at hq)|refine sI ?_|refine .intro _ (.intro rfl ?_));(conv=>whnf)))
 refine aD (λh1=>by omega) (λh1=> ?_)
 ((conv=>whnf);repeat ((first|(intro hq;try simp only [lnS]at hq)|refine sI ?_|refine .intro _ (.intro rfl ?_));(conv=>whnf)))
 refine aD (λh2=>by omega) (λh2=> ?_)
 ((conv=>whnf);repeat' ((first|(intro hq;(try simp only [lnS]at hq);(try rewrite [List.length_map]))|refine sJ ?_|refine .intro _ (.intro rfl ?_)|refine exL (k:= ?_)|(refine cM (id:=91) hty rfl rfl rfl rfl rfl rfl rfl (by omega) (by omega) ?_)|(refine⟨_,hrow, ?_⟩)|(refine aG [] e1 trivial (λr hs=> ?_);subst hs)|(refine aG [] e2 trivial (λr hs=> ?_);subst hs)|refine dwR ?_|((first|refine aD ?_ ?_|refine aF ?_ ?_)<;>intro hb<;>(first|exact ddX hb|try simp only [lnS]at hb))|(refine aC ?_ ?_<;>intro hb<;>try exact dsX hb))<;>(conv=>whnf)))
 all_goals (clear e1 e2 hrow hE;refine bA (Eq.symm ?_);show bG _ x=_;simp only [bG,gM,List.getElem_cons_succ,List.getElem_cons_zero,Bool.true_or,Bool.false_or,Bool.true_and];simp_all [gM]<;>omega)
theorem aCt (x:Ax) (hk:x.kind=8):Tri Tryz.prog 77 [.d (.agg (axR x))] NG (λr=>r= .d (.bool (bE x))):=by
 have e1:=bD x.left
 have e2:=bD x.right
 rw [aJ]at e1 e2
 have hrow:=lY (k:=x.kind) 8 (by decide) hk
 have hE:bE x=bG (gM[8]'(by decide)) x:=by rw [bE,if_neg (by omega),hk];rfl
 rw [hE]
 refine aH false [1,3] hty Tryz.func77 rfl (kp [0,1,2,3,11]) [] _ _ _ (by simp [Tryz.f77]) (by decide) ?_
 ((conv=>whnf);repeat ((first|(intro hq;try simp only [lnS]at hq)|refine sI ?_|refine .intro _ (.intro rfl ?_));(conv=>whnf)))
 refine aD (λh1=>by omega) (λh1=> ?_)
 ((conv=>whnf);repeat ((first|(intro hq;try simp only [lnS]at hq)|refine sI ?_|refine .intro _ (.intro rfl ?_));(conv=>whnf)))
 refine aD (λh2=>by omega) (λh2=> ?_)
 ((conv=>whnf);repeat' ((first|(intro hq;(try simp only [lnS]at hq);(try rewrite [List.length_map]))|refine sJ ?_|refine .intro _ (.intro rfl ?_)|refine exL (k:= ?_)|(refine cM (id:=91) hty rfl rfl rfl rfl rfl rfl rfl (by omega) (by omega) ?_)|(refine⟨_,hrow, ?_⟩)|(refine aG [] e1 trivial (λr hs=> ?_);subst hs)|(refine aG [] e2 trivial (λr hs=> ?_);subst hs)|refine dwR ?_|((first|refine aD ?_ ?_|refine aF ?_ ?_)<;>intro hb<;>(first|exact ddX hb|try simp only [lnS]at hb))|(refine aC ?_ ?_<;>intro hb<;>try exact dsX hb))<;>(conv=>whnf)))
 all_goals (clear e1 e2 hrow hE;refine bA (Eq.symm ?_);show bG _ x=_;simp only [bG,gM,List.getElem_cons_succ,List.getElem_cons_zero,Bool.true_or,Bool.false_or,Bool.true_and];simp_all [gM]<;>omega)
theorem aCs (x:Ax) (hk:x.kind=9):Tri Tryz.prog 77 [.d (.agg (axR x))] NG (λr=>r= .d (.bool (bE x))):=by
 have e1:=bD x.left
 have e2:=bD x.right
 rw [aJ]at e1 e2
 have hrow:=lY (k:=x.kind) 9 (by decide) hk
 have hE:bE x=bG (gM[9]'(by decide)) x:=by rw [bE,if_neg (by omega),hk];rfl
 rw [hE]
 refine aH false [1,3] hty Tryz.func77 rfl (kp [0,1,2,3,11]) [] _ _ _ (by simp [Tryz.f77]) (by decide) ?_
 ((conv=>whnf);repeat ((first|(intro hq;try simp only [lnS]at hq)|refine sI ?_|refine .intro _ (.intro rfl ?_));(conv=>whnf)))
 refine aD (λh1=>by omega) (λh1=> ?_)
 ((conv=>whnf);repeat ((first|(intro hq;try simp only [lnS]at hq)|refine sI ?_|refine .intro _ (.intro rfl ?_));(conv=>whnf)))
 refine aD (λh2=>by omega) (λh2=> ?_)
 ((conv=>whnf);repeat' ((first|(intro hq;(try simp only [lnS]at hq);(try rewrite [List.length_map]))|refine sJ ?_|refine .intro _ (.intro rfl ?_)|refine exL (k:= ?_)|(refine cM (id:=91) hty rfl rfl rfl rfl rfl rfl rfl (by omega) (by omega) ?_)|(refine⟨_,hrow, ?_⟩)|(refine aG [] e1 trivial (λr hs=> ?_);subst hs)|(refine aG [] e2 trivial (λr hs=> ?_);subst hs)|refine dwR ?_|((first|refine aD ?_ ?_|refine aF ?_ ?_)<;>intro hb<;>(first|exact ddX hb|try simp only [lnS]at hb))|(refine aC ?_ ?_<;>intro hb<;>try exact dsX hb))<;>(conv=>whnf)))
 all_goals (clear e1 e2 hrow hE;refine bA (Eq.symm ?_);show bG _ x=_;simp only [bG,gM,List.getElem_cons_succ,List.getElem_cons_zero,Bool.true_or,Bool.false_or,Bool.true_and];simp_all [gM]<;>omega)
theorem aCw (x:Ax) (hk:x.kind=5):Tri Tryz.prog 77 [.d (.agg (axR x))] NG (λr=>r= .d (.bool (bE x))):=by
 have e1:=bD x.left
 have e2:=bD x.right
 rw [aJ]at e1 e2
 have hrow:=lY (k:=x.kind) 5 (by decide) hk
 have hE:bE x=bG (gM[5]'(by decide)) x:=by rw [bE,if_neg (by omega),hk];rfl
 rw [hE]
 refine aH false [1,3] hty Tryz.func77 rfl (kp [0,1,2,3,11]) [] _ _ _ (by simp [Tryz.f77]) (by decide) ?_
 ((conv=>whnf);repeat ((first|(intro hq;try simp only [lnS]at hq)|refine sI ?_|refine .intro _ (.intro rfl ?_));(conv=>whnf)))
 refine aD (λh1=>by omega) (λh1=> ?_)
 ((conv=>whnf);repeat ((first|(intro hq;try simp only [lnS]at hq)|refine sI ?_|refine .intro _ (.intro rfl ?_));(conv=>whnf)))
 refine aD (λh2=>by omega) (λh2=> ?_)
 ((conv=>whnf);repeat' ((first|(intro hq;(try simp only [lnS]at hq);(try rewrite [List.length_map]))|refine sJ ?_|refine .intro _ (.intro rfl ?_)|refine exL (k:= ?_)|(refine cM (id:=91) hty rfl rfl rfl rfl rfl rfl rfl (by omega) (by omega) ?_)|(refine⟨_,hrow, ?_⟩)|(refine aG [] e1 trivial (λr hs=> ?_);subst hs)|(refine aG [] e2 trivial (λr hs=> ?_);subst hs)|refine dwR ?_|((first|refine aD ?_ ?_|refine aF ?_ ?_)<;>intro hb<;>(first|exact ddX hb|try simp only [lnS]at hb))|(refine aC ?_ ?_<;>intro hb<;>try exact dsX hb))<;>(conv=>whnf)))
 all_goals (clear e1 e2 hrow hE;refine bA (Eq.symm ?_);show bG _ x=_;simp only [bG,show (gM[5]'(by decide)).left=false from rfl,show (gM[5]'(by decide)).right=false from rfl,show (gM[5]'(by decide)).role=true from rfl,show (gM[5]'(by decide)).a=false from rfl,show (gM[5]'(by decide)).b=false from rfl,Bool.true_or,Bool.false_or,Bool.true_and];have hl:(gM[5]'(by decide)).least=(5:Int) - 4:=rfl;have hm:(gM[5]'(by decide)).most=3 * (5:Int) - 14:=rfl;simp_all<;>omega)
theorem aCv (x:Ax) (hk:x.kind=6):Tri Tryz.prog 77 [.d (.agg (axR x))] NG (λr=>r= .d (.bool (bE x))):=by
 have e1:=bD x.left
 have e2:=bD x.right
 rw [aJ]at e1 e2
 have hrow:=lY (k:=x.kind) 6 (by decide) hk
 have hE:bE x=bG (gM[6]'(by decide)) x:=by rw [bE,if_neg (by omega),hk];rfl
 rw [hE]
 refine aH false [1,3] hty Tryz.func77 rfl (kp [0,1,2,3,11]) [] _ _ _ (by simp [Tryz.f77]) (by decide) ?_
 ((conv=>whnf);repeat ((first|(intro hq;try simp only [lnS]at hq)|refine sI ?_|refine .intro _ (.intro rfl ?_));(conv=>whnf)))
 refine aD (λh1=>by omega) (λh1=> ?_)
 ((conv=>whnf);repeat ((first|(intro hq;try simp only [lnS]at hq)|refine sI ?_|refine .intro _ (.intro rfl ?_));(conv=>whnf)))
 refine aD (λh2=>by omega) (λh2=> ?_)
 ((conv=>whnf);repeat' ((first|(intro hq;(try simp only [lnS]at hq);(try rewrite [List.length_map]))|refine sJ ?_|refine .intro _ (.intro rfl ?_)|refine exL (k:= ?_)|(refine cM (id:=91) hty rfl rfl rfl rfl rfl rfl rfl (by omega) (by omega) ?_)|(refine⟨_,hrow, ?_⟩)|(refine aG [] e1 trivial (λr hs=> ?_);subst hs)|(refine aG [] e2 trivial (λr hs=> ?_);subst hs)|refine dwR ?_|((first|refine aD ?_ ?_|refine aF ?_ ?_)<;>intro hb<;>(first|exact ddX hb|try simp only [lnS]at hb))|(refine aC ?_ ?_<;>intro hb<;>try exact dsX hb))<;>(conv=>whnf)))
 all_goals (clear e1 e2 hrow hE;refine bA (Eq.symm ?_);show bG _ x=_;simp only [bG,show (gM[6]'(by decide)).left=false from rfl,show (gM[6]'(by decide)).right=false from rfl,show (gM[6]'(by decide)).role=true from rfl,show (gM[6]'(by decide)).a=false from rfl,show (gM[6]'(by decide)).b=false from rfl,Bool.true_or,Bool.false_or,Bool.true_and];have hl:(gM[6]'(by decide)).least=(6:Int) - 4:=rfl;have hm:(gM[6]'(by decide)).most=3 * (6:Int) - 14:=rfl;simp_all<;>omega)
theorem vW (x:Ax):Tri Tryz.prog 77 [.d (.agg (axR x))] NG (λr=>r= .d (.bool (bE x))):=by
 by_cases hk:1<=x.kind/\x.kind<=9
 ·rcases(show x.kind=1\/x.kind=2\/x.kind=3\/x.kind=4\/x.kind=5\/x.kind=6\/x.kind=7\/x.kind=8\/x.kind=9 by omega)with h|h|h|h|h|h|h|h|h
  ·exact aD0 x h
  ·exact aCz x h
  ·exact aCy x h
  ·exact aCx x h
  ·exact aCw x h
  ·exact aCv x h
  ·exact aCu x h
  ·exact aCt x h
  ·exact aCs x h
 ·have hE:bE x=false:=by rw [bE,if_pos (by omega)]
  rw [hE]
  refine aH false [1,3] hty Tryz.func77 rfl (kp [0,1,2,3,11]) [] _ _ _ (by simp [Tryz.f77]) (by decide) ?_
  ((conv=>whnf);repeat ((first|(intro hq;try simp only [lnS]at hq)|refine sI ?_|refine .intro _ (.intro rfl ?_));(conv=>whnf)))
  refine aD (λh1=> ?_) (λh1=> ?_)
  ·((conv=>whnf);repeat' ((first|(intro hq;(try simp only [lnS]at hq);(try rewrite [List.length_map]))|refine sJ ?_|refine .intro _ (.intro rfl ?_)|refine exL (k:= ?_)|refine dwR ?_|((first|refine aD ?_ ?_|refine aF ?_ ?_)<;>intro hb<;>(first|exact ddX hb|try simp only [lnS]at hb))|(refine aC ?_ ?_<;>intro hb<;>try exact dsX hb))<;>(conv=>whnf)))
   rfl
  ·((conv=>whnf);repeat ((first|(intro hq;try simp only [lnS]at hq)|refine sI ?_|refine .intro _ (.intro rfl ?_));(conv=>whnf)))
   refine aD (λh2=> ?_) (λh2=>by omega)
   ((conv=>whnf);repeat' ((first|(intro hq;(try simp only [lnS]at hq);(try rewrite [List.length_map]))|refine sJ ?_|refine .intro _ (.intro rfl ?_)|refine exL (k:= ?_)|refine dwR ?_|((first|refine aD ?_ ?_|refine aF ?_ ?_)<;>intro hb<;>(first|exact ddX hb|try simp only [lnS]at hb))|(refine aC ?_ ?_<;>intro hb<;>try exact dsX hb))<;>(conv=>whnf)))
   rfl
def mN (u:Use) (x:Ax):Bool:= !((u.role && !dF x.role) || ((u.a && !gZ x.a) || (u.b && !gZ x.b))) && x.roles.all dF
theorem aGz {p:List UInt8->Bool}{l:List (List UInt8)}{j:Nat}(h:j < l.length) (h1:(l.take j).all p=true) (h2:p l[j]=true):(l.take (j+1)).all p=true:=by
 rw [List.take_succ_eq_append_getElem h,List.all_append,h1];simp [h2]
theorem xR (x:Ax) (u:Use):Tri Tryz.prog 78 [.d (.agg (axR x)), .d (.agg (aJ6 u))] [] (λr=>r= .d (.bool (mN u x))):=by
 refine aH false [2,3] hty Tryz.func78 rfl (kp [0,1,2,3,4,6,34,36,37,38,39,44]) [] _ _ _ (by simp [Tryz.f78]) (by simp) ?_
 ((conv=>whnf);repeat' ((first|(intro hq;(try simp only [lnS]at hq);(try rewrite [List.length_map]))|refine sJ ?_|refine .intro _ (.intro rfl ?_)|refine exL (k:= ?_)|(refine aG [] (gS _) trivial (λr hs=> ?_);subst hs)|(refine aG [] (lH _) trivial (λr hs=> ?_);subst hs)|refine dwR ?_|((first|refine aD ?_ ?_|refine aF ?_ ?_)<;>intro hb<;>(first|exact ddX hb|try simp only [lnS]at hb))|(refine aC ?_ ?_<;>intro hb<;>try exact dsX hb))<;>(conv=>whnf)))
 all_goals first
  |(refine bA (Eq.symm ?_);unfold mN;simp_all;done)
  |skip
 all_goals (
  have hN:mN u x=x.roles.all dF:=by unfold mN;simp_all
  rw [hN]
  refine aK hty (λj:Nat=>([(36, .d (.sl 1 (x.roles.map dR))),(37, .d (.int .i64 x.roles.length)),(38, .d (.int .i64 j))],[])) (λj=>j<=x.roles.length/\(x.roles.take j).all dF=true) (λj=>x.roles.length - j) 0 ⟨by omega,by simp⟩ ⟨by repeat' (first|exact trivial|exact rfl|(rw [List.length_map];exact rfl)|refine And.intro ?_ ?_),trivial⟩ ?_
  rintro j ⟨hj,hn⟩
  ((conv=>whnf);repeat ((first|(intro hq;try simp only [lnS]at hq)|refine sI ?_|refine .intro _ (.intro rfl ?_));(conv=>whnf)))
  refine aD (λh1=> ?_) (λh1=> ?_)
  ·have hjl:j < x.roles.length:=by omega
   have hrow:(x.roles.map dR)[(j:Int).toNat]? =some (dR x.roles[j]):=aS hjl
   ((conv=>whnf);repeat ((first|(refine⟨_,hrow, ?_⟩)|(intro hq;try simp only [lnS]at hq)|refine sI ?_|refine .intro _ (.intro rfl ?_));(conv=>whnf)))
   refine aG [] (gS x.roles[j]) trivial (λr hs=> ?_)
   subst hs
   cases hb2:dF x.roles[j]
   ·((conv=>whnf);repeat' ((first|(intro hq;(try simp only [lnS]at hq);(try rewrite [List.length_map]))|refine sJ ?_|refine .intro _ (.intro rfl ?_)|refine exL (k:= ?_)|refine dwR ?_|((first|refine aD ?_ ?_|refine aF ?_ ?_)<;>intro hb<;>(first|exact ddX hb|try simp only [lnS]at hb))|(refine aC ?_ ?_<;>intro hb<;>try exact dsX hb))<;>(conv=>whnf)))
    exact bA (List.all_eq_false.2 ⟨_,List.getElem_mem hjl,by simp [hb2]⟩).symm
   ·((conv=>whnf);repeat' ((first|(intro hq;(try simp only [lnS]at hq);(try rewrite [List.length_map]))|refine sJ ?_|refine .intro _ (.intro rfl ?_)|refine exL (k:= ?_)|refine dwR ?_|((first|refine aD ?_ ?_|refine aF ?_ ?_)<;>intro hb<;>(first|exact ddX hb|try simp only [lnS]at hb))|(refine aC ?_ ?_<;>intro hb<;>try exact dsX hb))<;>(conv=>whnf)))
    exact⟨j+1,⟨by omega,aGz hjl hn hb2⟩,by dsimp only;omega,by repeat' (first|exact trivial|exact rfl|refine And.intro ?_ ?_),trivial⟩
  ·have hjl:j=x.roles.length:=by omega
   subst hjl
   rw [List.take_length]at hn
   ((conv=>whnf);repeat' ((first|(intro hq;(try simp only [lnS]at hq);(try rewrite [List.length_map]))|refine sJ ?_|refine .intro _ (.intro rfl ?_)|refine exL (k:= ?_)|refine dwR ?_|((first|refine aD ?_ ?_|refine aF ?_ ?_)<;>intro hb<;>(first|exact ddX hb|try simp only [lnS]at hb))|(refine aC ?_ ?_<;>intro hb<;>try exact dsX hb))<;>(conv=>whnf)))
   exact bA hn.symm)
end Go.Proofs.YtfhoddcminbffaaGreatDoor
