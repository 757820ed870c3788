/-
  Rename: lists of renamings made one by one: two renamings together, what undoes one; plainly. Terms: tidying keeps an axiom valid and adds no names; the names of valid axioms are names. Terms: has, within of the law; FewAxioms of the reference. Terms: within of the law. Terms: vocabularies are sorted without repetition, and are within one another as the law says.
  Conditions: none.
-/
import Derived.Test.YtfhoddcminbffaaGreatDoorVTcr
import Derived.Test.YtfhoddcminbffaaGreatDoorVBt
import Derived.Test.YtfhoddcminbffaaGreatDoorVTca
import Derived.Test.YtfhoddcminbffaaGreatDoorVAc
set_option linter.unnecessarySimpa false
set_option linter.unusedSectionVars false
set_option linter.unusedSimpArgs false
set_option linter.unusedVariables false
namespace Go.Proofs.YtfhoddcminbffaaGreatDoor
open Go.Proofs
def oZ:List Rn->Rn->List Rn
 | [],x=>[x]
 |a::r,x=>if dT a x < 0 then a::oZ r x else if dT x a < 0 then x::a::r else a::r
theorem kL (a:Rn) (r:List Rn) (x:Rn):oZ (a::r) x=if dT a x < 0 then a::oZ r x else if dT x a < 0 then x::a::r else a::r:=rfl
theorem aFu (a b:Rn):dT b a= - dT a b:=wB.anti a b
theorem qX {x:Rn}: ∀{l:List Rn}{y:Rn},y∈oZ l x->y∈l\/y=x
 | [],y,h=>by simp [oZ]at h;exact .inr h
 |a::r,y,h=>by
  rw [kL]at h
  split at h
  ·rcases List.mem_cons.1 h with rfl|h
   ·exact .inl (by simp)
   ·rcases qX h with h|h
    ·exact .inl (by simp [h])
    ·exact .inr h
  ·split at h
   ·rcases List.mem_cons.1 h with rfl|h
    ·exact .inr rfl
    ·exact .inl h
   ·exact .inl h
theorem wP {x:Rn}: ∀{l:List Rn}{y:Rn},y∈l->y∈oZ l x
 |a::r,y,h=>by
  rw [kL]
  split
  ·rcases List.mem_cons.1 h with rfl|h
   ·simp
   ·exact List.mem_cons_of_mem _ (wP h)
  ·split
   ·exact List.mem_cons_of_mem _ h
   ·exact h
theorem tH {x:Rn}: ∀{l:List Rn},(∀a∈l,gN a=gN x->a=x)->x∈oZ l x
 | [],_=>by simp [oZ]
 |a::r,h=>by
  rw [kL]
  split
  ·exact List.mem_cons_of_mem _ (tH λb hb=>h b (by simp [hb]))
  ·rename_i h1
   split
   ·simp
   ·rename_i h2
    have h3:=aFu a x
    have h0:dT a x=0:=by omega
    have:=h a (by simp) (iP.1 h0)
    simp [this]
theorem wQ {x:Rn}: ∀{l:List Rn},(l.Pairwise λa b=>dT a b < 0)->(oZ l x).Pairwise λa b=>dT a b < 0
 | [],_=>by simp [oZ]
 |a::r,h=>by
  have h1:=List.pairwise_cons.1 h
  rw [kL]
  split
  ·rename_i hx
   refine List.pairwise_cons.2 ⟨λb hb=> ?_,wQ h1.2⟩
   rcases qX hb with hb|rfl
   ·exact h1.1 b hb
   ·exact hx
  ·split
   ·rename_i hx
    refine List.pairwise_cons.2 ⟨λb hb=> ?_,h⟩
    rcases List.mem_cons.1 hb with rfl|hb
    ·exact hx
    ·exact rV hx (h1.1 b hb)
   ·exact h
def sG (l m:List Rn) (r:Rn):Rn:=⟨r.kind,r.old,aO m r.kind (aO l r.kind r.old)⟩
theorem vS {l m:List Rn}{q r:Rn}(h:gN q=gN r):sG l m q=sG l m r:=by
 unfold gN at h
 rw [Prod.mk.injEq]at h
 unfold sG
 rw [h.1,h.2]
def yY (l m out:List Rn) (r:Rn):List Rn:=if (sG l m r).old=(sG l m r).new then out else oZ out (sG l m r)
def sX (l m:List Rn):List Rn:=(l++m).foldl (yY l m) []
theorem rJ (l m:List Rn): ∀(todo done out:List Rn),(out.Pairwise λa b=>dT a b < 0)->(∀r,r∈out↔(∃q∈done,r=sG l m q)/\r.new≠r.old)->
  ((todo.foldl (yY l m) out).Pairwise λa b=>dT a b < 0)/\ ∀r,r∈todo.foldl (yY l m) out↔(∃q∈done++todo,r=sG l m q)/\r.new≠r.old
 | [],done,out,h1,h2=>by
  rw [List.append_nil]
  exact⟨h1,h2⟩
 |x::t,done,out,h1,h2=>by
  rw [List.foldl_cons,show done++x::t=(done++[x])++t by simp]
  by_cases he:(sG l m x).old=(sG l m x).new
  ·rw [show yY l m out x=out by rw [yY,if_pos he]]
   refine rJ l m t (done++[x]) out h1 λr=> ?_
   rw [h2]
   constructor
   ·rintro⟨⟨q,hq,e⟩,hn⟩
    exact⟨⟨q,by simp [hq],e⟩,hn⟩
   ·rintro⟨⟨q,hq,e⟩,hn⟩
    rcases List.mem_append.1 hq with hq|hq
    ·exact⟨⟨q,hq,e⟩,hn⟩
    ·simp only [List.mem_singleton]at hq
     rw [hq]at e
     rw [e]at hn
     exact absurd he.symm hn
  ·rw [show yY l m out x=oZ out (sG l m x)by rw [yY,if_neg he]]
   refine rJ l m t (done++[x]) _ (wQ h1) λr=> ?_
   constructor
   ·intro hr
    rcases qX hr with hr|rfl
    ·obtain⟨⟨q,hq,e⟩,hn⟩:=(h2 r).1 hr
     exact⟨⟨q,by simp [hq],e⟩,hn⟩
    ·exact⟨⟨x,by simp,rfl⟩,λe=>he e.symm⟩
   ·rintro⟨⟨q,hq,e⟩,hn⟩
    rcases List.mem_append.1 hq with hq|hq
    ·exact wP ((h2 r).2 ⟨⟨q,hq,e⟩,hn⟩)
    ·simp only [List.mem_singleton]at hq
     rw [hq]at e
     rw [e]
     refine tH λa ha hk=> ?_
     obtain⟨⟨q2,hq2,e2⟩,_⟩:=(h2 a).1 ha
     rw [e2]at hk |-
     exact vS hk
theorem aFs {l m x:List Rn}(hl:l.Pairwise λa b=>dT a b < 0) (hm:m.Pairwise λa b=>dT a b < 0) (h1:x.Pairwise λa b=>dT a b < 0) (h2: ∀r,r∈x↔(∃q∈l++m,r=sG l m q)/\r.new≠r.old):Comp l m x:=by
 refine⟨h1,λr=> ?_⟩
 rw [h2]
 constructor
 ·rintro⟨⟨q,hq,rfl⟩,hn⟩
  exact⟨rfl,hn⟩
 ·rintro⟨e,hn⟩
  refine⟨?_,hn⟩
  obtain⟨q,hq,hk⟩:=aI5 hl hm (k:=r.kind) (s:=r.old) (by rw [<-e];exact hn)
  refine⟨q,hq, ?_⟩
  rw [vS (r:=r) hk]
  exact Rn.ext' rfl rfl e
theorem aD9 {l m:List Rn}(hl:l.Pairwise λa b=>dT a b < 0) (hm:m.Pairwise λa b=>dT a b < 0):Comp l m (sX l m):=by
 obtain⟨h1,h2⟩:=rJ l m (l++m) [] [] .nil (λr=>by simp)
 exact aFs hl hm h1 (λr=>by rw [<-List.nil_append (l++m)];exact h2 r)
def aA5 (l m s:List Rn):List Rn:=(s.map (sG l m)).filter λr=> !decide (r.new=r.old)
theorem aI6 {l m s:List Rn}(hl:l.Pairwise λa b=>dT a b < 0) (hm:m.Pairwise λa b=>dT a b < 0) (h1:s.Pairwise λa b=>dT a b < 0) (h2: ∀r∈s,r∈l++m) (h3: ∀r∈l++m,∃q∈s,gN q=gN r):aA5 l m s=sX l m:=by
 refine Comp.uniq (l:=l) (m:=m) (aFs hl hm ?_ λr=> ?_) (aD9 hl hm)
 ·refine List.Pairwise.filter _ (List.pairwise_map.2 (h1.imp λ{a b} h=> ?_))
  have e:dT (sG l m a) (sG l m b)=dT a b:=rfl
  rw [e];exact h
 ·unfold aA5
  rw [List.mem_filter,List.mem_map]
  simp only [Bool.not_eq_true',decide_eq_false_iff_not]
  constructor
  ·rintro⟨⟨q,hq,rfl⟩,hn⟩
   exact⟨⟨q,h2 q hq,rfl⟩,hn⟩
  ·rintro⟨⟨q,hq,rfl⟩,hn⟩
   obtain⟨p,hp,e⟩:=h3 q hq
   exact⟨⟨p,hp,vS e⟩,hn⟩
def sW (l m:List Rn):List Rn×Int:=
 if cD l≠0 then ([],cD l)else if cD m≠0 then ([],cD m)else if cD (sX l m)≠0 then ([],cD (sX l m))else (sX l m,0)
end Go.Proofs.YtfhoddcminbffaaGreatDoor
namespace Go.Proofs.YtfhoddcminbffaaGreatDoor
open Go.Proofs
structure AxOk (u:Use) (x:Ax):Prop where
 kind:1<=x.kind/\x.kind<=9
 shaped:bG u x=true
 named:mN u x=true
 left:u.left=true->bI x.left=0
 right:u.right=true->bI x.right=0
 bare:yL x=false
theorem kX (x:Ax):bK x=0↔AxOk (cK x.kind) x:=by
 unfold bK bE
 split
 ·rename_i h
  rw [if_pos rfl]
  constructor
  ·intro h;exact absurd h (by decide)
  ·intro h'
   have hk:=h'.kind
   omega
 ·rename_i h
  by_cases hs:bG (cK x.kind) x=false
  ·rw [if_pos hs]
   constructor
   ·intro h;exact absurd h (by decide)
   ·intro h';rw [h'.shaped]at hs;exact absurd hs (by decide)
  rw [if_neg hs]
  have hs:bG (cK x.kind) x=true:=by simpa using hs
  unfold oW
  split
  ·rename_i hn
   constructor
   ·intro h;exact absurd h (by decide)
   ·intro h';rw [h'.named]at hn;exact absurd hn (by decide)
  ·rename_i hn
   have hn:mN (cK x.kind) x=true:=by simpa using hn
   split
   ·rename_i h1
    exact⟨λh=>absurd h h1.2,λh'=>absurd (h'.left h1.1) h1.2⟩
   ·rename_i h1
    have h1:(cK x.kind).left=true->bI x.left=0:= λh2=>Classical.byContradiction λh3=>h1 ⟨h2,h3⟩
    split
    ·rename_i h2
     exact⟨λh=>absurd h h2.2,λh'=>absurd (h'.right h2.1) h2.2⟩
    ·rename_i h2
     have h2:(cK x.kind).right=true->bI x.right=0:= λh3=>Classical.byContradiction λh4=>h2 ⟨h3,h4⟩
     split
     ·rename_i hb
      constructor
      ·intro h;exact absurd h (by decide)
      ·intro h';rw [h'.bare]at hb;exact absurd hb (by decide)
     ·rename_i hb
      exact⟨λ_=>⟨by omega,hs,hn,h1,h2,by simpa using hb⟩,λ_=>rfl⟩
structure SideOk (b:Bool) (c t:Cn):Prop where
 ok:b=true->bI t=0
 nam:iC t c
 bare:bU t=true->bU c=true
 same:b=false->t=c
theorem aEg {b:Bool}{c:Cn}(h:b=true->bI c=0) (h0:(fV b c).2=0):SideOk b c (fV b c).1:=by
 unfold fV at h0 |-
 cases b with
 |false=>exact⟨λh=>absurd h (by decide),λ_ _ _ _ h=>h,id,λ_=>rfl⟩
 |true=>
  rw [if_pos rfl]at h0 |-
  obtain⟨h1,h2,h3⟩:=yD (h rfl) h0
  exact⟨λ_=>h1,h2,h3,λh=>absurd h (by decide)⟩
structure SubX (t x:Ax):Prop where
 a: ∀s,axA t s->axA x s
 b: ∀s,axB t s->axB x s
 c: ∀s,axC t s->axC x s
 d: ∀s,axD t s->axD x s
theorem aH1 {x:Ax}{l r:Cn}(hl:iC l x.left) (hr:iC r x.right):SubX { x with left:=l,right:=r } x:=by
 have h: ∀k s,k≠1->k≠5->mV k l s\/mV k r s->mV k x.left s\/mV k x.right s:= λk s h1 h2 h=>h.imp (hl k s h1 h2) (hr k s h1 h2)
 refine⟨λs hs=>h 3 s (by decide) (by decide) hs,λs hs=> ?_,λs hs=>h 7 s (by decide) (by decide) hs,λs hs=> ?_⟩
 ·have hs:mV 6 l s\/mV 6 r s\/s∈x.roles\/x.role=s:=hs
  rcases hs with hs|hs|hs
  ·exact .inl (hl 6 s (by decide) (by decide) hs)
  ·exact .inr (.inl (hr 6 s (by decide) (by decide) hs))
  ·exact .inr (.inr hs)
 ·have hs:mV 4 l s\/mV 4 r s\/x.a=s\/x.b=s:=hs
  rcases hs with hs|hs|hs
  ·exact .inl (hl 4 s (by decide) (by decide) hs)
  ·exact .inr (.inl (hr 4 s (by decide) (by decide) hs))
  ·exact .inr (.inr hs)
theorem aH0 {x:Ax}{l r:Cn}(hl:iC l x.left) (hr:iC r x.right):SubX { x with left:=r,right:=l } x:=by
 have h: ∀k s,k≠1->k≠5->mV k r s\/mV k l s->mV k x.left s\/mV k x.right s:= λk s h1 h2 h=>h.symm.imp (hl k s h1 h2) (hr k s h1 h2)
 refine⟨λs hs=>h 3 s (by decide) (by decide) hs,λs hs=> ?_,λs hs=>h 7 s (by decide) (by decide) hs,λs hs=> ?_⟩
 ·have hs:mV 6 r s\/mV 6 l s\/s∈x.roles\/x.role=s:=hs
  rcases hs with hs|hs|hs
  ·exact .inr (.inl (hr 6 s (by decide) (by decide) hs))
  ·exact .inl (hl 6 s (by decide) (by decide) hs)
  ·exact .inr (.inr hs)
 ·have hs:mV 4 r s\/mV 4 l s\/x.a=s\/x.b=s:=hs
  rcases hs with hs|hs|hs
  ·exact .inr (.inl (hr 4 s (by decide) (by decide) hs))
  ·exact .inl (hl 4 s (by decide) (by decide) hs)
  ·exact .inr (.inr hs)
theorem tG {u:Use}{x:Ax}{l r:Cn}(h:bG u x=true) (hl:u.left=true\/l=x.left) (hr:u.right=true\/r=x.right):bG u { x with left:=l,right:=r }=true:=by
 have h:((u.left || eF x.left) && ((u.right || eF x.right) && ((u.role || decide (x.role=[])) && ((u.a || decide (x.a=[])) && ((u.b || decide (x.b=[])) && (decide (u.least<=x.roles.length) && decide ((x.roles.length:Int)<=u.most)))))))=true:=h
 show ((u.left || eF l) && ((u.right || eF r) && ((u.role || decide (x.role=[])) && ((u.a || decide (x.a=[])) && ((u.b || decide (x.b=[])) && (decide (u.least<=x.roles.length) && decide ((x.roles.length:Int)<=u.most)))))))=true
 rw [Bool.and_eq_true,Bool.and_eq_true]at h
 rw [Bool.and_eq_true,Bool.and_eq_true]
 refine⟨?_, ?_,h.2.2⟩
 ·rcases hl with hl|rfl
  ·rw [hl];rfl
  ·exact h.1
 ·rcases hr with hr|rfl
  ·rw [hr];rfl
  ·exact h.2.1
theorem aG0 {x:Ax}{l r:Cn}(h:yL x=false) (hl:bU l=true->bU x.left=true) (hr:bU r=true->bU x.right=true):yL { x with left:=l,right:=r }=false:=by
 have h:(if x.kind=2 then (bU x.left || bU x.right)else if x.kind=1\/x.kind=4\/x.kind=8 then bU x.right else false)=false:=h
 show (if x.kind=2 then (bU l || bU r)else if x.kind=1\/x.kind=4\/x.kind=8 then bU r else false)=false
 revert h hl hr
 cases bU l<;>cases bU r<;>cases bU x.left<;>cases bU x.right<;>split<;>(try split)<;>simp
theorem aDd {x:Ax}{l r:Cn}(hk:x.kind=2\/x.kind=3) (h:yL x=false) (hl:bU l=true->bU x.left=true) (hr:bU r=true->bU x.right=true):yL { x with left:=r,right:=l }=false:=by
 have h:(if x.kind=2 then (bU x.left || bU x.right)else if x.kind=1\/x.kind=4\/x.kind=8 then bU x.right else false)=false:=h
 show (if x.kind=2 then (bU r || bU l)else if x.kind=1\/x.kind=4\/x.kind=8 then bU l else false)=false
 rcases hk with hk|hk
 ·rw [if_pos hk]at h |-
  revert h hl hr
  cases bU l<;>cases bU r<;>cases bU x.left<;>cases bU x.right<;>simp
 ·rw [if_neg (by omega),if_neg (by omega)]
theorem aDg {x:Ax}(h0:(bO x).2=0):bK x=0/\bK (bO x).1=0/\SubX (bO x).1 x:=by
 have hE:bK x=0:=by
  unfold bO at h0
  split at h0
  ·exact h0
  ·rename_i h;exact Classical.byContradiction λh'=>h h'
 refine⟨hE, ?_⟩
 have ho:=(kX x).1 hE
 have hA:bO x=wN (cK x.kind) x:=by unfold bO;rw [if_neg (by omega)]
 rw [hA]at h0 |-
 have huse:x.kind=2\/x.kind=3->(cK x.kind).left=true/\(cK x.kind).right=true:=by
  rintro(h|h)<;>rw [h]<;>exact⟨rfl,rfl⟩
 rw [kX]
 generalize hl:fV (cK x.kind).left x.left=L
 generalize hr:fV (cK x.kind).right x.right=R
 unfold wN at h0 |-
 rw [hl,hr]at h0 |-
 split at h0
 ·rename_i h;exact absurd h0 h
 ·rename_i hl0
  split at h0
  ·rename_i h;exact absurd h0 h
  ·rename_i hr0
   have sl:SideOk (cK x.kind).left x.left L.1:=by rw [<-hl];exact aEg ho.left (by rw [hl];omega)
   have sr:SideOk (cK x.kind).right x.right R.1:=by rw [<-hr];exact aEg ho.right (by rw [hr];omega)
   rw [if_neg hl0,if_neg hr0]
   split
   ·rename_i hs
    obtain⟨u1,u2⟩:=huse hs.1
    refine⟨⟨ho.kind,tG ho.shaped (.inl u1) (.inl u2),ho.named,λ_=>sr.ok u2,λ_=>sl.ok u1,aDd hs.1 ho.bare sl.bare sr.bare⟩,aH0 sl.nam sr.nam⟩
   ·have e1:(cK x.kind).left=true\/L.1=x.left:=by cases hb:(cK x.kind).left with
     |true=>exact .inl rfl
     |false=>exact .inr (sl.same hb)
    have e2:(cK x.kind).right=true\/R.1=x.right:=by cases hb:(cK x.kind).right with
     |true=>exact .inl rfl
     |false=>exact .inr (sr.same hb)
    exact⟨⟨ho.kind,tG ho.shaped e1 e2,ho.named,sl.ok,sr.ok,aG0 ho.bare sl.bare sr.bare⟩,aH1 sl.nam sr.nam⟩
end Go.Proofs.YtfhoddcminbffaaGreatDoor
namespace Go.Proofs.YtfhoddcminbffaaGreatDoor
open Go.Proofs
set_option maxRecDepth 10000
attribute [local irreducible] aV aM Tri aI YVC dQ bN
end Go.Proofs.YtfhoddcminbffaaGreatDoor
namespace Go.Proofs.YtfhoddcminbffaaGreatDoor
open Go.Proofs
set_option maxRecDepth 10000
attribute [local irreducible] aV aM Tri aI YVC dQ bN
end Go.Proofs.YtfhoddcminbffaaGreatDoor
namespace Go.Proofs.YtfhoddcminbffaaGreatDoor
open Go.Proofs
theorem iO: ∀(l:List Ax),gU l=0↔ ∀x∈l,bK x=0
 | []=>by simp [gU]
 |x::r=>by
  rw [gU]
  have:=iO r
  split<;>rename_i h
  ·simp [h]
  ·have h:bK x=0:=by simpa using h
   simp [h,this]
end Go.Proofs.YtfhoddcminbffaaGreatDoor
