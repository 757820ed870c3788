/-
  Rename: lists of renamings made one by one: two renamings together, what undoes one; plainly. Terms: tidying keeps an axiom valid and adds no names; the names of valid axioms are names. Terms: has, within of the law; FewAxioms of the reference. Terms: within of the law. Terms: vocabularies are sorted without repetition, and are within one another as the law says. Rename: other names in axioms, plainly; tidying and renaming of axioms and lists of axioms. Rename: the laws of axioms with other names, plainly. Bases, plainly: what New makes of axioms, what Check says, and what that means.
  Conditions: none.
-/
import Derived.Test.YtfhoddcminbffaaGreatDoorMBt
import Derived.Test.YtfhoddcminbffaaGreatDoorMPh
import Derived.Test.YtfhoddcminbffaaGreatDoorMAk
import Derived.Test.YtfhoddcminbffaaGreatDoorMRt
import Derived.Test.YtfhoddcminbffaaGreatDoorMQp
set_option linter.unnecessarySimpa false
set_option linter.unusedSectionVars false
set_option linter.unusedSimpArgs false
set_option linter.unusedVariables false
set_option maxHeartbeats 4000000
namespace Go.Proofs.YtfhoddcminbffaaGreatDoor
open Go.Proofs
end Go.Proofs.YtfhoddcminbffaaGreatDoor
namespace Go.Proofs.YtfhoddcminbffaaGreatDoor
open Go.Proofs
structure AxOk (u:Use) (x:Ax):Prop where
 kind:1<=x.kind/\x.kind<=9
 shaped:bA u x=true
 named:pQ u x=true
 left:u.left=true->bH x.left=0
 right:u.right=true->bH x.right=0
 bare:aE1 x=false
theorem eX (x:Ax):bB x=0↔AxOk (bX x.kind) x:=by
 unfold bB bJ
 split
 ·rename_i h
  rw [if_pos rfl]
  constructor
  ·intro h;exact absurd h (by decide)
  ·intro h'
   have hk:=h'.kind
   omega
 ·rename_i h
  by_cases hs:bA (bX x.kind) x=false
  ·rw [if_pos hs]
   constructor
   ·intro h;exact absurd h (by decide)
   ·intro h';rw [h'.shaped]at hs;exact absurd hs (by decide)
  rw [if_neg hs]
  have hs:bA (bX x.kind) x=true:=by simpa using hs
  unfold sT
  split
  ·rename_i hn
   constructor
   ·intro h;exact absurd h (by decide)
   ·intro h';rw [h'.named]at hn;exact absurd hn (by decide)
  ·rename_i hn
   have hn:pQ (bX x.kind) x=true:=by simpa using hn
   split
   ·rename_i h1
    exact⟨λh=>absurd h h1.2,λh'=>absurd (h'.left h1.1) h1.2⟩
   ·rename_i h1
    have h1:(bX x.kind).left=true->bH x.left=0:= λh2=>Classical.byContradiction λh3=>h1 ⟨h2,h3⟩
    split
    ·rename_i h2
     exact⟨λh=>absurd h h2.2,λh'=>absurd (h'.right h2.1) h2.2⟩
    ·rename_i h2
     have h2:(bX x.kind).right=true->bH x.right=0:= λh3=>Classical.byContradiction λh4=>h2 ⟨h3,h4⟩
     split
     ·rename_i hb
      constructor
      ·intro h;exact absurd h (by decide)
      ·intro h';rw [h'.bare]at hb;exact absurd hb (by decide)
     ·rename_i hb
      exact⟨λ_=>⟨by omega,hs,hn,h1,h2,by simpa using hb⟩,λ_=>rfl⟩
structure SideOk (b:Bool) (c t:Cn):Prop where
 ok:b=true->bH t=0
 nam:jY t c
 bare:bU t=true->bU c=true
 same:b=false->t=c
theorem aLq {b:Bool}{c:Cn}(h:b=true->bH c=0) (h0:(bK b c).2=0):SideOk b c (bK b c).1:=by
 unfold bK at h0 |-
 cases b with
 |false=>exact⟨λh=>absurd h (by decide),λ_ _ _ _ h=>h,id,λ_=>rfl⟩
 |true=>
  rw [if_pos rfl]at h0 |-
  obtain⟨h1,h2,h3⟩:=aDr (h rfl) h0
  exact⟨λ_=>h1,h2,h3,λh=>absurd h (by decide)⟩
structure SubX (t x:Ax):Prop where
 a: ∀s,axA t s->axA x s
 b: ∀s,axB t s->axB x s
 c: ∀s,axC t s->axC x s
 d: ∀s,axD t s->axD x s
theorem aOv {x:Ax}{l r:Cn}(hl:jY l x.left) (hr:jY r x.right):SubX { x with left:=l,right:=r } x:=by
 have h: ∀k s,k≠1->k≠5->nZ k l s\/nZ k r s->nZ k x.left s\/nZ k x.right s:= λk s h1 h2 h=>h.imp (hl k s h1 h2) (hr k s h1 h2)
 refine⟨λs hs=>h 3 s (by decide) (by decide) hs,λs hs=> ?_,λs hs=>h 7 s (by decide) (by decide) hs,λs hs=> ?_⟩
 ·have hs:nZ 6 l s\/nZ 6 r s\/s∈x.roles\/x.role=s:=hs
  rcases hs with hs|hs|hs
  ·exact .inl (hl 6 s (by decide) (by decide) hs)
  ·exact .inr (.inl (hr 6 s (by decide) (by decide) hs))
  ·exact .inr (.inr hs)
 ·have hs:nZ 4 l s\/nZ 4 r s\/x.a=s\/x.b=s:=hs
  rcases hs with hs|hs|hs
  ·exact .inl (hl 4 s (by decide) (by decide) hs)
  ·exact .inr (.inl (hr 4 s (by decide) (by decide) hs))
  ·exact .inr (.inr hs)
theorem aOu {x:Ax}{l r:Cn}(hl:jY l x.left) (hr:jY r x.right):SubX { x with left:=r,right:=l } x:=by
 have h: ∀k s,k≠1->k≠5->nZ k r s\/nZ k l s->nZ k x.left s\/nZ k x.right s:= λk s h1 h2 h=>h.symm.imp (hl k s h1 h2) (hr k s h1 h2)
 refine⟨λs hs=>h 3 s (by decide) (by decide) hs,λs hs=> ?_,λs hs=>h 7 s (by decide) (by decide) hs,λs hs=> ?_⟩
 ·have hs:nZ 6 r s\/nZ 6 l s\/s∈x.roles\/x.role=s:=hs
  rcases hs with hs|hs|hs
  ·exact .inr (.inl (hr 6 s (by decide) (by decide) hs))
  ·exact .inl (hl 6 s (by decide) (by decide) hs)
  ·exact .inr (.inr hs)
 ·have hs:nZ 4 r s\/nZ 4 l s\/x.a=s\/x.b=s:=hs
  rcases hs with hs|hs|hs
  ·exact .inr (.inl (hr 4 s (by decide) (by decide) hs))
  ·exact .inl (hl 4 s (by decide) (by decide) hs)
  ·exact .inr (.inr hs)
theorem yA {u:Use}{x:Ax}{l r:Cn}(h:bA u x=true) (hl:u.left=true\/l=x.left) (hr:u.right=true\/r=x.right):bA u { x with left:=l,right:=r }=true:=by
 have h:((u.left || eZ x.left) && ((u.right || eZ x.right) && ((u.role || decide (x.role=[])) && ((u.a || decide (x.a=[])) && ((u.b || decide (x.b=[])) && (decide (u.least<=x.roles.length) && decide ((x.roles.length:Int)<=u.most)))))))=true:=h
 show ((u.left || eZ l) && ((u.right || eZ r) && ((u.role || decide (x.role=[])) && ((u.a || decide (x.a=[])) && ((u.b || decide (x.b=[])) && (decide (u.least<=x.roles.length) && decide ((x.roles.length:Int)<=u.most)))))))=true
 rw [Bool.and_eq_true,Bool.and_eq_true]at h
 rw [Bool.and_eq_true,Bool.and_eq_true]
 refine⟨?_, ?_,h.2.2⟩
 ·rcases hl with hl|rfl
  ·rw [hl];rfl
  ·exact h.1
 ·rcases hr with hr|rfl
  ·rw [hr];rfl
  ·exact h.2.1
theorem aO3 {x:Ax}{l r:Cn}(h:aE1 x=false) (hl:bU l=true->bU x.left=true) (hr:bU r=true->bU x.right=true):aE1 { x with left:=l,right:=r }=false:=by
 have h:(if x.kind=2 then (bU x.left || bU x.right)else if x.kind=1\/x.kind=4\/x.kind=8 then bU x.right else false)=false:=h
 show (if x.kind=2 then (bU l || bU r)else if x.kind=1\/x.kind=4\/x.kind=8 then bU r else false)=false
 revert h hl hr
 cases bU l<;>cases bU r<;>cases bU x.left<;>cases bU x.right<;>split<;>(try split)<;>simp
theorem aKk {x:Ax}{l r:Cn}(hk:x.kind=2\/x.kind=3) (h:aE1 x=false) (hl:bU l=true->bU x.left=true) (hr:bU r=true->bU x.right=true):aE1 { x with left:=r,right:=l }=false:=by
 have h:(if x.kind=2 then (bU x.left || bU x.right)else if x.kind=1\/x.kind=4\/x.kind=8 then bU x.right else false)=false:=h
 show (if x.kind=2 then (bU r || bU l)else if x.kind=1\/x.kind=4\/x.kind=8 then bU l else false)=false
 rcases hk with hk|hk
 ·rw [if_pos hk]at h |-
  revert h hl hr
  cases bU l<;>cases bU r<;>cases bU x.left<;>cases bU x.right<;>simp
 ·rw [if_neg (by omega),if_neg (by omega)]
theorem aKl {x:Ax}(h0:(aS x).2=0):bB x=0/\bB (aS x).1=0/\SubX (aS x).1 x:=by
 have hE:bB x=0:=by
  unfold aS at h0
  split at h0
  ·exact h0
  ·rename_i h;exact Classical.byContradiction λh'=>h h'
 refine⟨hE, ?_⟩
 have ho:=(eX x).1 hE
 have hA:aS x=nW (bX x.kind) x:=by unfold aS;rw [if_neg (by omega)]
 rw [hA]at h0 |-
 have huse:x.kind=2\/x.kind=3->(bX x.kind).left=true/\(bX x.kind).right=true:=by
  rintro(h|h)<;>rw [h]<;>exact⟨rfl,rfl⟩
 rw [eX]
 generalize hl:bK (bX x.kind).left x.left=L
 generalize hr:bK (bX x.kind).right x.right=R
 unfold nW at h0 |-
 rw [hl,hr]at h0 |-
 split at h0
 ·rename_i h;exact absurd h0 h
 ·rename_i hl0
  split at h0
  ·rename_i h;exact absurd h0 h
  ·rename_i hr0
   have sl:SideOk (bX x.kind).left x.left L.1:=by rw [<-hl];exact aLq ho.left (by rw [hl];omega)
   have sr:SideOk (bX x.kind).right x.right R.1:=by rw [<-hr];exact aLq ho.right (by rw [hr];omega)
   rw [if_neg hl0,if_neg hr0]
   split
   ·rename_i hs
    obtain⟨u1,u2⟩:=huse hs.1
    refine⟨⟨ho.kind,yA ho.shaped (.inl u1) (.inl u2),ho.named,λ_=>sr.ok u2,λ_=>sl.ok u1,aKk hs.1 ho.bare sl.bare sr.bare⟩,aOu sl.nam sr.nam⟩
   ·have e1:(bX x.kind).left=true\/L.1=x.left:=by cases hb:(bX x.kind).left with
     |true=>exact .inl rfl
     |false=>exact .inr (sl.same hb)
    have e2:(bX x.kind).right=true\/R.1=x.right:=by cases hb:(bX x.kind).right with
     |true=>exact .inl rfl
     |false=>exact .inr (sr.same hb)
    exact⟨⟨ho.kind,yA ho.shaped e1 e2,ho.named,sl.ok,sr.ok,aO3 ho.bare sl.bare sr.bare⟩,aOv sl.nam sr.nam⟩
end Go.Proofs.YtfhoddcminbffaaGreatDoor
namespace Go.Proofs.YtfhoddcminbffaaGreatDoor
open Go.Proofs
set_option maxRecDepth 10000
attribute [local irreducible] aM aJ Tri aH YVC dI bI
theorem xQ (l:List Ax) (n:Int) (hl: ∀x∈l,SzAx x):Tri Tryz.prog 51 [.d (.sl 16 (l.map axR)), .d (.int .i64 n)] [] (λr=>r= .d (.bool (decide ((l.length:Int)<=n) && l.all wA))):=by
 refine aK hty Tryz.func51 rfl (kp [0,1,4,5,9,13,21]) [] _ _ _ (by simp [Tryz.f51]) (by simp) ?_
 ((conv=>whnf);repeat' ((first|(intro hq;(try simp only [lnS]at hq);(try rewrite [List.length_map]))|refine sJ ?_|refine .intro _ (.intro rfl ?_)|refine exL (k:= ?_)|refine dwR ?_|((first|refine aB ?_ ?_|refine aC ?_ ?_)<;>intro hb<;>(first|exact ddX hb|try simp only [lnS]at hb))|(refine aA ?_ ?_<;>intro hb<;>try exact dsX hb))<;>(conv=>whnf)))
 ·refine aX (Eq.symm ?_)
  rw [decide_eq_false (by omega),Bool.false_and]
 ·have hle:(l.length:Int)<=n:=by omega
  rw [decide_eq_true hle,Bool.true_and]
  refine aG hty (λj:Nat=>([(0, .d (.sl 16 (l.map axR))),(1, .d (.int .i64 n)),(4, .d (.bool false)),(5, .d (.int .i64 j))],[])) (λj=>j<=l.length/\l.all wA=(l.drop j).all wA) (λj=>l.length - j) 0 ⟨by omega,rfl⟩ ⟨by repeat' (first|exact trivial|exact rfl|(rw [List.length_map];exact rfl)|refine And.intro ?_ ?_),trivial⟩ ?_
  rintro j ⟨hj,hn⟩
  ((conv=>whnf);repeat ((first|(intro hq;try simp only [lnS]at hq)|refine sI ?_|refine .intro _ (.intro rfl ?_));(conv=>whnf)))
  refine aB (λh1=> ?_) (λh1=> ?_)
  ·have hjl:j < l.length:=by simp only [List.length_map]at h1;omega
   have hrow:(l.map axR)[(j:Int).toNat]? =some (axR l[j]):=bC hjl
   have hc:=aBt l[j] (hl _ (List.getElem_mem hjl))
   rw [List.drop_eq_getElem_cons hjl,List.all_cons]at hn
   generalize l[j]=x at hrow hn hc
   ((conv=>whnf);repeat' ((first|(intro hq;(try simp only [lnS]at hq);(try rewrite [List.length_map]))|refine sJ ?_|refine .intro _ (.intro rfl ?_)|refine exL (k:= ?_)|(refine⟨_,hrow, ?_⟩)|(refine aD [] hc trivial (λr hs=> ?_);subst hs)|refine dwR ?_|((first|refine aB ?_ ?_|refine aC ?_ ?_)<;>intro hb<;>(first|exact ddX hb|try simp only [lnS]at hb))|(refine aA ?_ ?_<;>intro hb<;>try exact dsX hb))<;>(conv=>whnf)))
   ·refine aX (Eq.symm ?_)
    rw [hn];simp_all
   ·refine⟨j+1,⟨by omega, ?_⟩,by dsimp only;omega,by repeat' (first|exact trivial|exact rfl|refine And.intro ?_ ?_),trivial⟩
    rw [hn];simp_all
  ·have hjl:j=l.length:=by simp only [List.length_map]at h1;omega
   subst hjl
   ((conv=>whnf);repeat' ((first|(intro hq;(try simp only [lnS]at hq);(try rewrite [List.length_map]))|refine sJ ?_|refine .intro _ (.intro rfl ?_)|refine exL (k:= ?_)|refine dwR ?_|((first|refine aB ?_ ?_|refine aC ?_ ?_)<;>intro hb<;>(first|exact ddX hb|try simp only [lnS]at hb))|(refine aA ?_ ?_<;>intro hb<;>try exact dsX hb))<;>(conv=>whnf)))
   refine aX (Eq.symm ?_)
   rw [hn,List.drop_length];rfl
end Go.Proofs.YtfhoddcminbffaaGreatDoor
namespace Go.Proofs.YtfhoddcminbffaaGreatDoor
open Go.Proofs
set_option maxRecDepth 10000
attribute [local irreducible] aM aJ Tri aH YVC dI bI
end Go.Proofs.YtfhoddcminbffaaGreatDoor
namespace Go.Proofs.YtfhoddcminbffaaGreatDoor
open Go.Proofs
theorem aC3 {ks:List (List UInt8)}(h:ks.Nodup):(jR ks).Pairwise (λx y=>Op.bytesLess x y=true):=by
 have h1:(jR ks).Pairwise λx y=>decide (x<=y)=true:=List.pairwise_mergeSort (le:= λx y=>decide (x<=y)) (λa b c h1 h2=>by simp only [decide_eq_true_eq]at *;exact List.le_trans h1 h2) (λa b=>by simp only [Bool.or_eq_true,decide_eq_true_eq];exact List.le_total a b) ks
 have h2:(jR ks).Nodup:=(List.mergeSort_perm _ _).nodup_iff.2 h
 refine(h1.and h2).imp ?_
 rintro x y ⟨h1,h2⟩
 rw [Go.Proofs.bytesLess_eq,decide_eq_true_eq]
 have h1:x<=y:=by simpa using h1
 refine Classical.byContradiction λh3=>h2 (List.le_antisymm h1 (List.not_lt.1 h3))
theorem vF {ks:List (List UInt8)}{s:List UInt8}:s∈jR ks↔s∈ks:=List.mem_mergeSort
theorem rI: ∀(l:List Ax),iE l=0↔ ∀x∈l,bB x=0
 | []=>by simp [iE]
 |x::r=>by
  rw [iE]
  have:=rI r
  split<;>rename_i h
  ·simp [h]
  ·have h:bB x=0:=by simpa using h
   simp [h,this]
end Go.Proofs.YtfhoddcminbffaaGreatDoor
namespace Go.Proofs.YtfhoddcminbffaaGreatDoor
open Go.Proofs
theorem aRp (g:Int->List UInt8->List UInt8):cH g c0=c0:=by rw [jT];rfl
theorem yH {g:Int->List UInt8->List UInt8}{c:Cn}(h:eZ c=true):eZ (cH g c)=true:=by
 have e:=aBg h
 subst e
 rw [aRp];rfl
theorem aC9 (g:Int->List UInt8->List UInt8): ∀c:Cn,bU (cH g c)=bU c:=by
 refine Cn.ind ?_
 intro c ih
 rw [aBm,aBm,cK,cO]
 have:nB (c.parts.map (cH g))=nB c.parts:=by
  rw [Bool.eq_iff_iff,kT,kT]
  constructor
  ·rintro⟨p,hp,h⟩
   obtain⟨q,hq,rfl⟩:=List.mem_map.1 hp
   exact⟨q,hq,by rw [<-ih q hq];exact h⟩
  ·rintro⟨q,hq,h⟩
   exact⟨_,List.mem_map_of_mem hq,by rw [ih q hq];exact h⟩
 rw [this]
structure RenG (g:Int->List UInt8->List UInt8):Prop where
 ok:RenOK g
 nil: ∀k,g k []=[]
theorem aM4 {g:Int->List UInt8->List UInt8}(hg:RenG g) {x:Ax}(h:bB x=0):bB (wW g x)=0:=by
 rw [eX]at h |-
 obtain⟨hk,hs,hn,hl,hr,hb⟩:=h
 have hkk:(wW g x).kind=x.kind:=rfl
 rw [hkk]
 generalize bX x.kind=u at *
 refine⟨hk, ?_, ?_,λh=>sE hg.ok (hl h),λh=>sE hg.ok (hr h), ?_⟩
 ·unfold bA at hs |-
  simp only [Bool.and_eq_true,Bool.or_eq_true,decide_eq_true_eq]at hs |-
  obtain⟨s1,s2,s3,s4,s5,s6,s7⟩:=hs
  refine⟨s1.imp id yH,s2.imp id yH,s3.imp id λe=> ?_,s4.imp id λe=> ?_,s5.imp id λe=> ?_, ?_, ?_⟩
  ·show g 2 x.role=[]
   rw [e,hg.nil]
  ·show g 4 x.a=[]
   rw [e,hg.nil]
  ·show g 4 x.b=[]
   rw [e,hg.nil]
  ·show u.least<=((x.roles.map (g 2)).length:Int)
   rw [List.length_map];exact s6
  ·show ((x.roles.map (g 2)).length:Int)<=u.most
   rw [List.length_map];exact s7
 ·have hn:(!((u.role && !cF x.role) || ((u.a && !iB x.a) || (u.b && !iB x.b))) && x.roles.all cF)=true:=hn
  show (!((u.role && !cF (g 2 x.role)) || ((u.a && !iB (g 4 x.a)) || (u.b && !iB (g 4 x.b)))) && (x.roles.map (g 2)).all cF)=true
  have h1:=hg.ok.plain 2 x.role
  have h2:=hg.ok.name 4 x.a
  have h3:=hg.ok.name 4 x.b
  rw [Bool.and_eq_true]at hn |-
  refine⟨?_, ?_⟩
  ·have hn:=hn.1
   revert hn h1 h2 h3
   cases u.role<;>cases u.a<;>cases u.b<;>cases cF x.role<;>cases iB x.a<;>cases iB x.b<;>simp<;>intros<;>simp_all
  ·rw [List.all_eq_true]at hn |-
   intro s hs
   obtain⟨r,hr,rfl⟩:=List.mem_map.1 hs
   exact hg.ok.plain 2 r (hn.2 r hr)
 ·have hb:(if x.kind=2 then (bU x.left || bU x.right)else if x.kind=1\/x.kind=4\/x.kind=8 then bU x.right else false)=false:=hb
  show (if x.kind=2 then (bU (cH g x.left) || bU (cH g x.right))else if x.kind=1\/x.kind=4\/x.kind=8 then bU (cH g x.right)else false)=false
  rw [aC9,aC9]
  exact hb
theorem aGk {g:Int->List UInt8->List UInt8}(hg:RenG g) {b:Bool}{c:Cn}(h:b=true->bH c=0) (h0:(bK b c).2=0):
  (bK b (cH g c)).2=0/\bK b (cH g (bK b c).1)=bK b (cH g c):=by
 unfold bK at h0 |-
 cases b with
 |false=>exact⟨rfl,rfl⟩
 |true=>
  simp only [if_true]at h0 |-
  exact aOp hg.ok c ((dN c).1 (h rfl)).2.2 h0
theorem tH {x:Ax}(h:bB x=0):aS x=nW (bX x.kind) x:=by unfold aS;rw [if_neg (by omega)]
theorem aUo {k:Int}(h:k=2\/k=3):(bX k).left=(bX k).right:=by
 rcases h with h|h<;>rw [h]<;>rfl
theorem tG {u:Use}{x:Ax}(h1:(bK u.left x.left).2=0) (h2:(bK u.right x.right).2=0):nW u x=if (x.kind=2\/x.kind=3)/\0 < gJ (bK u.left x.left).1 (bK u.right x.right).1 then ({ x with left:=(bK u.right x.right).1,right:=(bK u.left x.left).1 },0)else ({ x with left:=(bK u.left x.left).1,right:=(bK u.right x.right).1 },0):=by
 unfold nW
 rw [if_neg (by omega),if_neg (by omega)]
theorem aIn {u:Use}{x:Ax}(h:(nW u x).2=0):(bK u.left x.left).2=0/\(bK u.right x.right).2=0:=by
 unfold nW at h
 split at h
 ·rename_i h1;exact absurd h h1
 ·rename_i h1
  split at h
  ·rename_i h2;exact absurd h h2
  ·rename_i h2;exact⟨by omega,by omega⟩
theorem aL9 {g:Int->List UInt8->List UInt8}(hg:RenG g) {x:Ax}(h0:(aS x).2=0):(aS (wW g x)).2=0/\aS (wW g (aS x).1)=aS (wW g x):=by
 obtain⟨hE,hE2,_⟩:=aKl h0
 have ho:=(eX x).1 hE
 have hR:=aM4 hg hE
 have hR2:=aM4 hg hE2
 have hu:(wW g x).kind=x.kind:=rfl
 rw [tH hE]at h0
 rw [tH hR,tH hR2,tH hE,hu]
 have hk23:= λh=>aUo (k:=x.kind) h
 obtain⟨z1,z2⟩:=aIn h0
 obtain⟨l1,l2⟩:=aGk hg ho.left z1
 obtain⟨r1,r2⟩:=aGk hg ho.right z2
 have eR:=tG (u:=bX x.kind) (x:=wW g x) l1 r1
 have e0:=tG z1 z2
 have hz:(nW (bX x.kind) (wW g x)).2=0:=by
  rw [eR];split<;>rfl
 refine⟨hz, ?_⟩
 have kk:(nW (bX x.kind) x).1.kind=x.kind:=by rw [e0];split<;>rfl
 have kk2:(wW g (nW (bX x.kind) x).1).kind=x.kind:=kk
 rw [kk2]
 generalize bX x.kind=u at *
 have el:(wW g x).left=cH g x.left:=rfl
 have er:(wW g x).right=cH g x.right:=rfl
 have ek:(wW g x).kind=x.kind:=rfl
 rw [eR,el,er,ek]
 rw [e0]
 split
 ·rename_i hc
  have hsame:=hk23 hc.1
  -- swapped: the sides come the other way round
  have f1:(bK u.left (cH g (bK u.right x.right).1))=bK u.right (cH g x.right):=by rw [hsame];exact r2
  have f2:(bK u.right (cH g (bK u.left x.left).1))=bK u.left (cH g x.left):=by rw [<-hsame];exact l2
  generalize hL:bK u.left (cH g x.left)=L at *
  generalize hRr:bK u.right (cH g x.right)=R at *
  obtain⟨L,le⟩:=L
  obtain⟨R,re⟩:=R
  dsimp only at l1 r1
  subst l1 r1
  rw [tG (u:=u) (x:=wW g { x with left:=(bK u.right x.right).1,right:=(bK u.left x.left).1 }) (by show (bK u.left (cH g (bK u.right x.right).1)).2=0;rw [f1]) (by show (bK u.right (cH g (bK u.left x.left).1)).2=0;rw [f2])]
  show (if (x.kind=2\/x.kind=3)/\0 < gJ (bK u.left (cH g (bK u.right x.right).1)).1 (bK u.right (cH g (bK u.left x.left).1)).1 then _ else _)=_
  have a1:=dM L R
  have g1:(wW g { x with left:=(bK u.right x.right).1,right:=(bK u.left x.left).1 }).left=cH g (bK u.right x.right).1:=rfl
  have g2:(wW g { x with left:=(bK u.right x.right).1,right:=(bK u.left x.left).1 }).right=cH g (bK u.left x.left).1:=rfl
  rw [g1,g2,f1,f2]
  dsimp only
  by_cases c1:0 < gJ R L
  ·rw [if_pos ⟨hc.1,c1⟩,if_neg (λh=>by have:=h.2;omega)]
   rfl
  ·rw [if_neg (λh=>c1 h.2)]
   by_cases c2:0 < gJ L R
   ·rw [if_pos ⟨hc.1,c2⟩]
    rfl
   ·have e:L=R:=mW.1 (by omega)
    rw [if_neg (λh=>c2 h.2),e]
    rfl
 ·rename_i hc
  rw [tG (u:=u) (x:=wW g { x with left:=(bK u.left x.left).1,right:=(bK u.right x.right).1 }) (by show (bK u.left (cH g (bK u.left x.left).1)).2=0;rw [l2];exact l1) (by show (bK u.right (cH g (bK u.right x.right).1)).2=0;rw [r2];exact r1)]
  have g1:(wW g { x with left:=(bK u.left x.left).1,right:=(bK u.right x.right).1 }).left=cH g (bK u.left x.left).1:=rfl
  have g2:(wW g { x with left:=(bK u.left x.left).1,right:=(bK u.right x.right).1 }).right=cH g (bK u.right x.right).1:=rfl
  have g3:(wW g { x with left:=(bK u.left x.left).1,right:=(bK u.right x.right).1 }).kind=x.kind:=rfl
  rw [g1,g2,g3,l2,r2]
  rfl
theorem aC8 {g:Int->List UInt8->List UInt8}: ∀c:Cn,(∀s,(nZ 3 c s->g 1 s=s)/\(nZ 6 c s->g 2 s=s)/\(nZ 7 c s->g 3 s=s)/\(nZ 4 c s->g 4 s=s))->cH g c=c:=by
 refine Cn.ind ?_
 intro c ih h
 have hp:c.parts.map (cH g)=c.parts:=by
  have: ∀p∈c.parts,cH g p=p:= λp hp=>ih p hp λs=>
   ⟨λhk=>(h s).1 ((dT 3 c s).2 (.inr ⟨p,hp,hk⟩)),λhk=>(h s).2.1 ((dT 6 c s).2 (.inr ⟨p,hp,hk⟩)),λhk=>(h s).2.2.1 ((dT 7 c s).2 (.inr ⟨p,hp,hk⟩)),λhk=>(h s).2.2.2 ((dT 4 c s).2 (.inr ⟨p,hp,hk⟩))⟩
  exact(List.map_congr_left this).trans (List.map_id' _)
 have hn:aOd g c.kind c.name=c.name:=by
  unfold aOd
  split
  ·rename_i hk;exact(h c.name).1 ((dT 3 c _).2 (.inl ⟨hk,rfl⟩))
  ·split
   ·rename_i hk;exact(h c.name).2.1 ((dT 6 c _).2 (.inl ⟨hk,rfl⟩))
   ·split
    ·rename_i hk;exact(h c.name).2.2.1 ((dT 7 c _).2 (.inl ⟨hk,rfl⟩))
    ·split
     ·rename_i hk;exact(h c.name).2.2.2 ((dT 4 c _).2 (.inl ⟨hk,rfl⟩))
     ·rfl
 rw [jT,hp,hn]
 cases c;rfl
theorem aM3 {g:Int->List UInt8->List UInt8}{x:Ax}(h1: ∀s,axA x s->g 1 s=s) (h2: ∀s,axB x s->g 2 s=s) (h3: ∀s,axC x s->g 3 s=s) (h4: ∀s,axD x s->g 4 s=s):wW g x=x:=by
 have el:cH g x.left=x.left:=aC8 _ λs=>⟨λh=>h1 s (.inl h),λh=>h2 s (.inl h),λh=>h3 s (.inl h),λh=>h4 s (.inl h)⟩
 have er:cH g x.right=x.right:=aC8 _ λs=>⟨λh=>h1 s (.inr h),λh=>h2 s (.inr (.inl h)),λh=>h3 s (.inr h),λh=>h4 s (.inr (.inl h))⟩
 have eo:x.roles.map (g 2)=x.roles:=(List.map_congr_left λs hs=>h2 s (.inr (.inr (.inl hs)))).trans (List.map_id' _)
 unfold wW
 rw [el,er,eo,h2 x.role (.inr (.inr (.inr rfl))),h4 x.a (.inr (.inr (.inl rfl))),h4 x.b (.inr (.inr (.inr rfl)))]
theorem aM5 (x:Ax):wW (λ_ s=>s) x=x:=aM3 (λ_ _=>rfl) (λ_ _=>rfl) (λ_ _=>rfl) λ_ _=>rfl
theorem aRq:RenG λ_ s=>s:=⟨⟨λ_ _ h=>h,λ_ _ h=>h⟩,λ_=>rfl⟩
theorem aEj {x:Ax}(h0:(aS x).2=0):aS (aS x).1=((aS x).1,0):=by
 have h:=(aL9 aRq h0).2
 rw [aM5,aM5]at h
 rw [h]
 exact Prod.ext rfl h0
end Go.Proofs.YtfhoddcminbffaaGreatDoor
namespace Go.Proofs.YtfhoddcminbffaaGreatDoor
open Go.Proofs
end Go.Proofs.YtfhoddcminbffaaGreatDoor
namespace Go.Proofs.YtfhoddcminbffaaGreatDoor
open Go.Proofs
theorem dA (x:Ax):aQ x x=0:=by have:=gV.anti x x;omega
theorem aO0 (x:Ax):¬ aQ x x < 0:=by rw [dA];omega
theorem lL {x y z:Ax}(h1:aQ x y < 0) (h2:aQ y z < 0):aQ x z < 0:=(gV.t3 x y z).1 h1 h2
def erA (x:Ax):Ax:={ x with isopen:=false }
theorem bO {x y:Ax}:aQ x y=0↔erA x=erA y:=by
 rw [aKi]
 constructor
 ·intro h;rw [h];rfl
 ·intro h
  obtain⟨k,o,l,r,rs,ro,a,b⟩:=x
  obtain⟨k',o',l',r',rs',ro',a',b'⟩:=y
  simp only [erA,Ax.mk.injEq]at h |-
  obtain⟨h1,_,h2⟩:=h
  exact⟨h1,trivial,h2⟩
theorem aQz (x y:Ax):aQ (erA x) (erA y)=aQ x y:=rfl
theorem aHv {x y:Ax}(h:erA x=erA y) (ho:x.isopen=y.isopen):x=y:=by
 obtain⟨k,o,l,r,rs,ro,a,b⟩:=x
 obtain⟨k',o',l',r',rs',ro',a',b'⟩:=y
 simp only [erA,Ax.mk.injEq]at h |-
 obtain⟨h1,_,h2⟩:=h
 exact⟨h1,ho,h2⟩
theorem gZ {x y x' y':Ax}(h1:erA x=erA x') (h2:erA y=erA y'):aQ x y=aQ x' y':=by rw [<-aQz,h1,h2,aQz]
def eqA (x y:Ax):Bool:=decide (x.isopen=y.isopen) && decide (aQ x y=0)
theorem jC {x y:Ax}:eqA x y=true↔x=y:=by
 unfold eqA
 rw [Bool.and_eq_true,decide_eq_true_eq,decide_eq_true_eq,bO]
 exact⟨λh=>aHv h.2 h.1,λh=>by rw [h];exact⟨rfl,rfl⟩⟩
theorem aRk {x y:Ax}(h:erA x=erA y):dG x=dG y:=by
 have h1:dG x=dG (erA x):=rfl
 have h2:dG y=dG (erA y):=rfl
 rw [h1,h2,h]
abbrev xA (l:List Ax):Prop:=l.Pairwise λx y=>aQ x y < 0
theorem aEm {l m:List Ax}(h1:xA l) (h2:xA m) (h: ∀x,x∈l↔x∈m):l=m:=aCi (R:= λx y=>aQ x y < 0) aO0 (λx y z=>lL) h1 h2 h
structure NewOf (tl b:List Ax):Prop where
 str:xA b
 mem: ∀x∈b,∃y∈tl,aQ x y=0
 all: ∀y∈tl,∃x∈b,aQ x y=0
 opn: ∀x∈b,(x.isopen=true↔ ∃y∈tl,aQ x y=0/\y.isopen=true)
theorem NewOf.congr {tl tl' b:List Ax}(h:NewOf tl b) (he: ∀x,x∈tl↔x∈tl'):NewOf tl' b where
 str:=h.str
 mem:= λx hx=>by obtain⟨y,h1,h2⟩:=h.mem x hx;exact⟨y,(he y).1 h1,h2⟩
 all:= λy hy=>h.all y ((he y).2 hy)
 opn:= λx hx=>(h.opn x hx).trans ⟨λ⟨y,h1,h2⟩=>⟨y,(he y).1 h1,h2⟩,λ⟨y,h1,h2⟩=>⟨y,(he y).2 h1,h2⟩⟩
theorem NewOf.sub {tl b b':List Ax}(h:NewOf tl b) (h':NewOf tl b'): ∀x∈b,x∈b':=by
 intro x hx
 obtain⟨y,hy,e⟩:=h.mem x hx
 obtain⟨x',hx',e'⟩:=h'.all y hy
 have he:erA x=erA x':=(bO.1 e).trans (bO.1 e').symm
 have ho:x.isopen=x'.isopen:=by
  rw [Bool.eq_iff_iff,h.opn x hx,h'.opn x' hx']
  exact⟨λ⟨z,h1,h2,h3⟩=>⟨z,h1,by rw [bO,<-he];exact bO.1 h2,h3⟩,λ⟨z,h1,h2,h3⟩=>⟨z,h1,by rw [bO,he];exact bO.1 h2,h3⟩⟩
 rw [aHv he ho]
 exact hx'
theorem NewOf.unique {tl b b':List Ax}(h:NewOf tl b) (h':NewOf tl b'):b=b':=aEm h.str h'.str λx=>⟨h.sub h' x,h'.sub h x⟩
def mM (b:List Ax) (a:Ax):List Ax:=
 match b.getLast? with
 |some z=>if aQ z a=0 then b.dropLast++[{ z with isopen:=z.isopen || a.isopen }]else b++[a]
 |none=>[a]
def jV (l:List Ax):List Ax:=l.foldl mM []
theorem yW (l:List Ax) (a:Ax):jV (l++[a])=mM (jV l) a:=by simp [jV]
theorem aJo {l:List Ax}{j:Nat}(h:j < l.length):jV (l.take (j+1))=mM (jV (l.take j)) l[j]:=by
 rw [List.take_succ_eq_append_getElem h,yW]
theorem aMv (b:List Ax) (a:Ax):(mM b a).length<=b.length+1:=by
 unfold mM
 split
 ·split
  ·simp only [List.length_append,List.length_dropLast,List.length_singleton];omega
  ·simp
 ·simp
theorem aMx: ∀(l:List Ax),(jV l).length<=l.length:=by
 intro l
 have key: ∀(l b:List Ax),(l.foldl mM b).length<=b.length+l.length:=by
  intro l
  induction l with
  |nil=>intro b;simp
  |cons a r ih=>
   intro b
   have h1:=ih (mM b a)
   have h2:=aMv b a
   rw [List.foldl_cons,List.length_cons];omega
 have:=key l []
 simpa [jV]using this
theorem aH8: ∀(n:Nat) (l:List Ax),l.length=n->(l.Pairwise λx y=>¬ aQ y x < 0)->NewOf l (jV l):=by
 intro n
 induction n with
 |zero=>
  intro l hl _
  have:l=[]:=List.length_eq_zero_iff.1 hl
  subst this
  exact⟨.nil,by simp [jV],by simp,by simp [jV]⟩
 |succ n ih=>
  intro l hl hs
  obtain⟨l',a,rfl⟩: ∃l' a,l=l'++[a]:=by
   rcases List.eq_nil_or_concat l with h|⟨l',a,h⟩
   ·rw [h]at hl;simp at hl
   ·exact⟨l',a,by rw [h,List.concat_eq_append]⟩
  rw [List.pairwise_append]at hs
  obtain⟨s1,_,s2⟩:=hs
  have h:=ih l' (by simpa using hl) s1
  rw [yW]
  generalize jV l'=b at h
  -- all of b is at most a
  have hle: ∀x∈b,aQ x a<=0:=by
   intro x hx
   obtain⟨y,hy,e⟩:=h.mem x hx
   have h1:=s2 y hy a (by simp)
   have h2:=gV.anti y a
   rw [gZ (bO.1 e) rfl]
   omega
  unfold mM
  rcases List.eq_nil_or_concat b with hb|⟨b0,z,hb⟩
  ·subst hb
   have hl':l'=[]:=by
    cases l' with
    |nil=>rfl
    |cons y r=>obtain⟨x,hx,_⟩:=h.all y (by simp);cases hx
   subst hl'
   refine⟨by simp,λx hx=>⟨a,by simp, ?_⟩,λy hy=>⟨a,by simp, ?_⟩,λx hx=> ?_⟩
   ·simp at hx;subst hx;exact dA _
   ·simp at hy;subst hy;exact dA _
   ·simp at hx;subst hx
    simp [dA]
  ·rw [List.concat_eq_append]at hb
   subst hb
   simp only [List.getLast?_append,List.getLast?_singleton,Option.some_or,List.dropLast_concat]
   have hst:=h.str
   rw [xA,List.pairwise_append]at hst
   obtain⟨t1,_,t2⟩:=hst
   by_cases hz:aQ z a=0
   ·rw [if_pos hz]
    have hez:erA { z with isopen:=z.isopen || a.isopen }=erA z:=rfl
    have hza:erA z=erA a:=bO.1 hz
    refine⟨?_, ?_, ?_, ?_⟩
    ·rw [xA,List.pairwise_append]
     exact⟨t1,by simp,λx hx y hy=>by simp at hy;subst hy;exact t2 x hx z (by simp)⟩
    ·intro x hx
     rcases List.mem_append.1 hx with hx|hx
     ·obtain⟨y,hy,e⟩:=h.mem x (List.mem_append_left _ hx)
      exact⟨y,List.mem_append_left _ hy,e⟩
     ·simp at hx;subst hx
      exact⟨a,by simp,hz⟩
    ·intro y hy
     rcases List.mem_append.1 hy with hy|hy
     ·obtain⟨x,hx,e⟩:=h.all y hy
      rcases List.mem_append.1 hx with hx|hx
      ·exact⟨x,List.mem_append_left _ hx,e⟩
      ·simp at hx;subst hx
       exact⟨_,List.mem_append_right _ (List.mem_singleton.2 rfl),e⟩
     ·simp at hy;subst hy
      exact⟨_,List.mem_append_right _ (List.mem_singleton.2 rfl),hz⟩
    ·intro x hx
     rcases List.mem_append.1 hx with hx2|hx
     ·rw [h.opn x (List.mem_append_left _ hx2)]
      constructor
      ·rintro⟨y,h1,h2,h3⟩;exact⟨y,List.mem_append_left _ h1,h2,h3⟩
      ·rintro⟨y,h1,h2,h3⟩
       rcases List.mem_append.1 h1 with h1|h1
       ·exact⟨y,h1,h2,h3⟩
       ·simp at h1;subst h1
        have h4:=t2 x hx2 z (by simp)
        rw [gZ rfl hza]at h4
        omega
     ·simp at hx;subst hx
      have h1:=h.opn z (by simp)
      constructor
      ·intro ho
       rcases Bool.or_eq_true _ _ ▸ ho with ho|ho
       ·obtain⟨y,q1,q2,q3⟩:=h1.1 ho
        exact⟨y,List.mem_append_left _ q1,q2,q3⟩
       ·exact⟨a,by simp,hz,ho⟩
      ·rintro⟨y,q1,q2,q3⟩
       show (z.isopen || a.isopen)=true
       rw [Bool.or_eq_true]
       rcases List.mem_append.1 q1 with q1|q1
       ·exact .inl (h1.2 ⟨y,q1,q2,q3⟩)
       ·simp at q1;subst q1;exact .inr q3
   ·rw [if_neg hz]
    have hlt:aQ z a < 0:=by have:=hle z (by simp);omega
    have hall: ∀x∈b0++[z],aQ x a < 0:=by
     intro x hx
     rcases List.mem_append.1 hx with hx|hx
     ·exact lL (t2 x hx z (by simp)) hlt
     ·simp at hx;subst hx;exact hlt
    refine⟨?_, ?_, ?_, ?_⟩
    ·rw [xA,List.pairwise_append]
     exact⟨h.str,by simp,λx hx y hy=>by simp at hy;subst hy;exact hall x hx⟩
    ·intro x hx
     rcases List.mem_append.1 hx with hx|hx
     ·obtain⟨y,hy,e⟩:=h.mem x hx
      exact⟨y,List.mem_append_left _ hy,e⟩
     ·simp at hx;subst hx
      exact⟨x,by simp,dA _⟩
    ·intro y hy
     rcases List.mem_append.1 hy with hy|hy
     ·obtain⟨x,hx,e⟩:=h.all y hy
      exact⟨x,List.mem_append_left _ hx,e⟩
     ·simp at hy;subst hy
      exact⟨y,by simp,dA _⟩
    ·intro x hx
     rcases List.mem_append.1 hx with hx2|hx
     ·rw [h.opn x hx2]
      constructor
      ·rintro⟨y,h1,h2,h3⟩;exact⟨y,List.mem_append_left _ h1,h2,h3⟩
      ·rintro⟨y,h1,h2,h3⟩
       rcases List.mem_append.1 h1 with h1|h1
       ·exact⟨y,h1,h2,h3⟩
       ·simp at h1;subst h1
        have:=hall x hx2;omega
     ·simp at hx;subst hx
      constructor
      ·intro ho;exact⟨x,by simp,dA _,ho⟩
      ·rintro⟨y,h1,h2,h3⟩
       rcases List.mem_append.1 h1 with h1|h1
       ·obtain⟨x',q1,q2⟩:=h.all y h1
        have h4:=hall x' q1
        rw [gZ ((bO.1 q2).trans (bO.1 h2).symm) rfl,dA]at h4
        omega
       ·simp at h1;subst h1;exact h3
theorem aRm (l:List Ax):(l.mergeSort λx y=>decide (aQ x y<=0)).Pairwise λx y=>¬ aQ y x < 0:=by
 have h := List.pairwise_mergeSort (le := λx y => decide (aQ x y <= 0)) (λa b c h1 h2 => by
  have h1:=of_decide_eq_true h1
  have h2:=of_decide_eq_true h2
  refine decide_eq_true ?_
  rcases Int.lt_or_eq_of_le h1 with h1|h1
  ·rcases Int.lt_or_eq_of_le h2 with h2|h2
   ·have:=lL h1 h2;omega
   ·rw [<-gZ rfl (bO.1 h2)];omega
  ·rw [gZ (bO.1 h1) rfl];exact h2) (λa b=>by
  have:=gV.anti a b
  by_cases h:aQ a b<=0
  ·simp [h]
  ·have:aQ b a<=0:=by omega
   simp [this]) l
 refine h.imp λ{x y} h=> ?_
 have h:=of_decide_eq_true h
 have:=gV.anti x y
 omega
def aKr (tl:List Ax):List Ax:=jV (tl.mergeSort λx y=>decide (aQ x y<=0))
theorem aB4 (tl:List Ax):NewOf tl (aKr tl):=(aH8 _ _ rfl (aRm tl)).congr λx=>(List.mergeSort_perm tl _).mem_iff
theorem aB5 {tl S:List Ax}(hp:S.Perm tl) (hs:S.Pairwise λx y=>¬ aQ y x < 0):jV S=aKr tl:=
 ((aH8 _ _ rfl hs).congr λx=>hp.mem_iff).unique (aB4 tl)
def uJ (x:Ax):Bool:=decide (x.kind=5) || (decide (x.kind=6) || decide (x.kind=7))
def fJ:List Ax->Int
 | []=>0
 |x::r=>if (aS x).2≠0 then (aS x).2 else if eqA x (aS x).1=false then 22 else fJ r
def fA:List Ax->Bool
 |x::y::r=>decide (aQ x y= -1) && fA (y::r)
 |_=>true
def dP (x:Ax):Bool:=uJ x && !x.isopen
noncomputable def aY (l:List Ax):Int:=
 if fJ l≠0 then fJ l else if fA l=false then 70 else if 1024 < l.length then 2 else if l.any dP=true then 71 else eG l
theorem gI: ∀(l:List Ax),fJ l=0↔ ∀x∈l,aS x=(x,0)
 | []=>by simp [fJ]
 |x::r=>by
  rw [fJ]
  have ih:=gI r
  constructor
  ·intro h y hy
   split at h
   ·rename_i h1;exact absurd h h1
   ·rename_i h1
    split at h
    ·simp at h
    ·rename_i h2
     rcases List.mem_cons.1 hy with rfl|hy
     ·have:=jC.1 (by simpa using h2:eqA y (aS y).1=true)
      exact Prod.ext this.symm (by simpa using h1)
     ·exact ih.1 h y hy
  ·intro h
   have hx:=h x (by simp)
   rw [if_neg (by rw [hx];simp),if_neg (by rw [hx,jC.2 rfl];simp)]
   exact ih.2 λy hy=>h y (List.mem_cons_of_mem _ hy)
theorem iP: ∀(l:List Ax),fA l=true↔xA l
 | []=>by simp [fA]
 | [x]=>by simp [fA]
 |x::y::r=>by
  rw [fA,Bool.and_eq_true,decide_eq_true_eq,iP (y::r)]
  constructor
  ·rintro⟨h1,h2⟩
   refine List.pairwise_cons.2 ⟨λz hz=> ?_,h2⟩
   rcases List.mem_cons.1 hz with rfl|hz
   ·omega
   ·exact lL (by omega) ((List.pairwise_cons.1 h2).1 z hz)
  ·intro h
   obtain⟨h1,h2⟩:=List.pairwise_cons.1 h
   have:=h1 y (by simp)
   have:=gV.rng x y
   exact⟨by omega,h2⟩
structure BaseOk (l:List Ax):Prop where
 tidy: ∀x∈l,aS x=(x,0)
 str:xA l
 few:l.length<=1024
 open_: ∀x∈l,uJ x=true->x.isopen=true
 circ:¬ jO (ET (cQ l))
theorem cP {x:Ax}(h:(aS x).2=0):bB x=0:=by
 unfold aS at h
 split at h
 ·rename_i h1;exact absurd h h1
 ·rename_i h1;simpa using h1
theorem uI {l:List Ax}(h: ∀x∈l,bB x=0):eG l=0↔¬ jO (ET (cQ l)):=by
 unfold eG
 rw [if_neg (by rw [mR h];simp)]
 split
 ·rename_i h1;simp [h1]
 ·rename_i h1;simp [h1]
theorem cJ (l:List Ax):aY l=0↔BaseOk l:=by
 unfold aY
 constructor
 ·intro h
  split at h
  ·rename_i h1;exact absurd h h1
  ·rename_i h1
   have h1:=(gI l).1 (by simpa using h1)
   split at h
   ·simp at h
   ·rename_i h2
    have h2:=(iP l).1 (by simpa using h2)
    split at h
    ·simp at h
    ·rename_i h3
     split at h
     ·simp at h
     ·rename_i h4
      refine⟨h1,h2,by omega,λx hx hr=> ?_,(uI λx hx=>cP (by rw [h1 x hx])).1 h⟩
      refine Decidable.byContradiction λho=>h4 (List.any_eq_true.2 ⟨x,hx, ?_⟩)
      unfold dP
      rw [hr]
      simpa using ho
 ·rintro⟨h1,h2,h3,h4,h5⟩
  rw [if_neg (by rw [(gI l).2 h1];simp),if_neg (by rw [(iP l).2 h2];simp),if_neg (by omega),if_neg ?_]
  ·exact(uI λx hx=>cP (by rw [h1 x hx])).2 h5
  ·intro h
   obtain⟨x,hx,hs⟩:=List.any_eq_true.1 h
   unfold dP at hs
   rw [Bool.and_eq_true]at hs
   have:=h4 x hx hs.1
   rw [this]at hs
   exact absurd hs.2 (by decide)
def aLc:List Ax->Int
 | []=>0
 |x::r=>if (aS x).2≠0 then (aS x).2 else aLc r
def nH (l:List Ax):List Ax:=l.map λx=>(aS x).1
noncomputable def lE (l:List Ax):List Ax×Int:=
 if aLc l≠0 then ([],aLc l)else if aY (aKr (nH l))≠0 then ([],aY (aKr (nH l)))else (aKr (nH l),0)
theorem nI: ∀(l:List Ax),aLc l=0↔ ∀x∈l,(aS x).2=0
 | []=>by simp [aLc]
 |x::r=>by
  rw [aLc]
  have ih:=nI r
  constructor
  ·intro h y hy
   split at h
   ·rename_i h1;exact absurd h h1
   ·rename_i h1
    rcases List.mem_cons.1 hy with rfl|hy
    ·simpa using h1
    ·exact ih.1 h y hy
  ·intro h
   rw [if_neg (by simp [h x (by simp)])]
   exact ih.2 λy hy=>h y (List.mem_cons_of_mem _ hy)
theorem aAa: ∀{l:List Ax}{j:Nat}(h:j < l.length),(∀x∈l.take j,(aS x).2=0)->(aS l[j]).2≠0->aLc l=(aS l[j]).2
 |x::r,0,_,_,h=>by rw [aLc];exact if_pos h
 |x::r,j+1,hl,hz,h=>by
  rw [aLc,if_neg (by simp [hz x (by simp)])]
  exact aAa (l:=r) (j:=j) (by simpa using hl) (λy hy=>hz y (by rw [List.take_succ_cons];exact List.mem_cons_of_mem _ hy)) h
theorem aQq {l:List Ax}(h:(lE l).2=0):(∀x∈l,(aS x).2=0)/\BaseOk (lE l).1/\NewOf (nH l) (lE l).1:=by
 unfold lE at h |-
 split at h
 ·rename_i h1;exact absurd h h1
 ·rename_i h1
  split at h
  ·rename_i h2;exact absurd h h2
  ·rename_i h2
   rw [if_neg h1,if_neg h2]
   exact⟨(nI l).1 (by simpa using h1),(cJ _).1 (by simpa using h2),aB4 _⟩
theorem aMp {l:List Ax}(h:(lE l).2≠0):(lE l).1=[]:=by
 unfold lE at h |-
 split at h
 ·rename_i h1;rw [if_pos h1]
 ·rename_i h1
  rw [if_neg h1]
  split at h
  ·rename_i h2;rw [if_pos h2]
  ·exact absurd rfl h
theorem aSf {l m:List Ax}(h: ∀x∈l,∃y∈m,aQ x y=0) (hc:jO (ET (cQ l))):jO (ET (cQ m)):=by
 refine jO.mono ?_ hc
 intro a b t hk
 obtain⟨x,hx,hk⟩:=List.mem_flatMap.1 hk
 obtain⟨y,hy,e⟩:=h x hx
 refine⟨t,List.mem_flatMap.2 ⟨y,hy, ?_⟩,id⟩
 rw [<-aRk (bO.1 e)]
 exact hk
end Go.Proofs.YtfhoddcminbffaaGreatDoor
