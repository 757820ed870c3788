/-
  Base: alike, equal, role axioms, Find, Same, Open.
  Conditions: none.
-/
import Derived.Test.YtbobcfjlbcgchaaGreatDoorWRp
import Derived.Test.YtbobcfjlbcgchaaGreatDoorWOf
import Derived.Test.YtbobcfjlbcgchaaGreatDoorWQf
import Derived.Test.YtbobcfjlbcgchaaGreatDoorWQs
import Derived.Test.YtbobcfjlbcgchaaGreatDoorWOe
set_option linter.unnecessarySimpa false
set_option linter.unusedSectionVars false
set_option linter.unusedSimpArgs false
set_option linter.unusedVariables false
set_option maxHeartbeats 4000000
namespace Go.Proofs.YtbobcfjlbcgchaaGreatDoor
section
theorem aZg (g:Int->List UInt8->List UInt8):cT g c0=c0:=by rw [lP];rfl
theorem aD7 {g:Int->List UInt8->List UInt8}{c:Cn}(h:dQ c=true):dQ (cT g c)=true:=by
 have e:=aG4 h
 subst e
 rw [aZg];rfl
theorem aH5 (g:Int->List UInt8->List UInt8): ∀c:Cn,bX (cT g c)=bX c:=by
 refine Cn.ind ?_
 intro c b
 rw [aGc,aGc,cZ,dD]
 have:qY (c.parts.map (cT g))=qY c.parts:=by
  rw [Bool.eq_iff_iff,mP,mP]
  constructor
  ·rintro⟨p,hp,h⟩
   obtain⟨q,a,rfl⟩:=List.mem_map.1 hp
   exact⟨q,a,by rw [<-b q a];exact h⟩
  ·rintro⟨q,a,h⟩
   exact⟨_,List.mem_map_of_mem a,by rw [b q a];exact h⟩
 rw [this]
structure RenG (g:Int->List UInt8->List UInt8):Prop where
 ok:RenOK g
 nil: ∀k,g k []=[]
theorem aSb {g:Int->List UInt8->List UInt8}(hg:RenG g) {x:Ax}(h:aZ x=0):aZ (aBw g x)=0:=by
 rw [fO]at h |-
 obtain⟨v,d,c,hl,i,hb⟩:=h
 have f:(aBw g x).kind=x.kind:=rfl
 rw [f]
 generalize cC x.kind=u at *
 refine⟨v, ?_, ?_,λh=>xL hg.ok (hl h),λh=>xL hg.ok (i h), ?_⟩
 ·unfold bH at d |-
  simp only [Bool.and_eq_true,Bool.or_eq_true,decide_eq_true_eq]at d |-
  obtain⟨o,k,j,q,p,t,l⟩:=d
  refine⟨o.imp id aD7,k.imp id aD7,j.imp id λe=> ?_,q.imp id λe=> ?_,p.imp id λe=> ?_, ?_, ?_⟩
  ·show g 2 x.role=[]
   rw [e,hg.nil]
  ·show g 4 x.a=[]
   rw [e,hg.nil]
  ·show g 4 x.b=[]
   rw [e,hg.nil]
  ·show u.least<=((x.roles.map (g 2)).length:Int)
   rw [List.length_map];exact t
  ·show ((x.roles.map (g 2)).length:Int)<=u.most
   rw [List.length_map];exact l
 ·have c:(!((u.role && !cA x.role) || ((u.a && !fU x.a) || (u.b && !fU x.b))) && x.roles.all cA)=true:=c
  show (!((u.role && !cA (g 2 x.role)) || ((u.a && !fU (g 4 x.a)) || (u.b && !fU (g 4 x.b)))) && (x.roles.map (g 2)).all cA)=true
  have n:=hg.ok.plain 2 x.role
  have m:=hg.ok.name 4 x.a
  have w:=hg.ok.name 4 x.b
  rw [Bool.and_eq_true]at c |-
  refine⟨?_, ?_⟩
  ·have c:=c.1
   revert c n m w
   cases u.role<;>cases u.a<;>cases u.b<;>cases cA x.role<;>cases fU x.a<;>cases fU x.b<;>simp<;>intros<;>simp_all
  ·rw [List.all_eq_true]at c |-
   intro s d
   obtain⟨r,i,rfl⟩:=List.mem_map.1 d
   exact hg.ok.plain 2 r (c.2 r i)
 ·have hb:(if x.kind=2 then (bX x.left || bX x.right)else if x.kind=1\/x.kind=4\/x.kind=8 then bX x.right else false)=false:=hb
  show (if x.kind=2 then (bX (cT g x.left) || bX (cT g x.right))else if x.kind=1\/x.kind=4\/x.kind=8 then bX (cT g x.right)else false)=false
  rw [aH5,aH5]
  exact hb
theorem aLx {g:Int->List UInt8->List UInt8}(hg:RenG g) {b:Bool}{c:Cn}(h:b=true->bC c=0) (h0:(bO b c).2=0):
  (bO b (cT g c)).2=0/\bO b (cT g (bO b c).1)=bO b (cT g c):=by
 unfold bO at h0 |-
 cases b with
 |false=>exact⟨rfl,rfl⟩
 |true=>
  simp only [if_true]at h0 |-
  exact aV8 hg.ok c ((eH c).1 (h rfl)).2.2 h0
theorem yJ {x:Ax}(h:aZ x=0):cB x=sE (cC x.kind) x:=by unfold cB;rw [if_neg (by omega)]
theorem bDz {k:Int}(h:k=2\/k=3):(cC k).left=(cC k).right:=by
 rcases h with h|h<;>rw [h]<;>rfl
theorem yI {u:Use}{x:Ax}(h1:(bO u.left x.left).2=0) (h2:(bO u.right x.right).2=0):sE u x=if (x.kind=2\/x.kind=3)/\0 < iG (bO u.left x.left).1 (bO u.right x.right).1 then ({ x with left:=(bO u.right x.right).1,right:=(bO u.left x.left).1 },0)else ({ x with left:=(bO u.left x.left).1,right:=(bO u.right x.right).1 },0):=by
 unfold sE
 rw [if_neg (by omega),if_neg (by omega)]
theorem aO3 {u:Use}{x:Ax}(h:(sE u x).2=0):(bO u.left x.left).2=0/\(bO u.right x.right).2=0:=by
 unfold sE at h
 split at h
 ·rename_i a;exact absurd h a
 ·rename_i a
  split at h
  ·rename_i b;exact absurd h b
  ·rename_i b;exact⟨by omega,by omega⟩
theorem aRc {g:Int->List UInt8->List UInt8}(hg:RenG g) {x:Ax}(h0:(cB x).2=0):(cB (aBw g x)).2=0/\cB (aBw g (cB x).1)=cB (aBw g x):=by
 obtain⟨d,m,_⟩:=aQ5 h0
 have B:=(fO x).1 d
 have G:=aSb hg d
 have q:=aSb hg m
 have D:(aBw g x).kind=x.kind:=rfl
 rw [yJ d]at h0
 rw [yJ G,yJ q,yJ d,D]
 have b:= λh=>bDz (k:=x.kind) h
 obtain⟨t,r⟩:=aO3 h0
 obtain⟨i,l⟩:=aLx hg B.left t
 obtain⟨f,j⟩:=aLx hg B.right r
 have z:=yI (u:=cC x.kind) (x:=aBw g x) i f
 have s:=yI t r
 have hz:(sE (cC x.kind) (aBw g x)).2=0:=by
  rw [z];split<;>rfl
 refine⟨hz, ?_⟩
 have I:(sE (cC x.kind) x).1.kind=x.kind:=by rw [s];split<;>rfl
 have o:(aBw g (sE (cC x.kind) x).1).kind=x.kind:=I
 rw [o]
 generalize cC x.kind=u at *
 have H:(aBw g x).left=cT g x.left:=rfl
 have F:(aBw g x).right=cT g x.right:=rfl
 have E:(aBw g x).kind=x.kind:=rfl
 rw [z,H,F,E]
 rw [s]
 split
 ·rename_i c
  have a:=b c.1
  -- swapped: the sides come the other way round
  have w:(bO u.left (cT g (bO u.right x.right).1))=bO u.right (cT g x.right):=by rw [a];exact j
  have A:(bO u.right (cT g (bO u.left x.left).1))=bO u.left (cT g x.left):=by rw [<-a];exact l
  generalize hL:bO u.left (cT g x.left)=L at *
  generalize hRr:bO u.right (cT g x.right)=R at *
  obtain⟨L,le⟩:=L
  obtain⟨R,re⟩:=R
  dsimp only at i f
  subst i f
  rw [yI (u:=u) (x:=aBw g { x with left:=(bO u.right x.right).1,right:=(bO u.left x.left).1 }) (by show (bO u.left (cT g (bO u.right x.right).1)).2=0;rw [w]) (by show (bO u.right (cT g (bO u.left x.left).1)).2=0;rw [A])]
  show (if (x.kind=2\/x.kind=3)/\0 < iG (bO u.left (cT g (bO u.right x.right).1)).1 (bO u.right (cT g (bO u.left x.left).1)).1 then _ else _)=_
  have a1:=eF L R
  have n:(aBw g { x with left:=(bO u.right x.right).1,right:=(bO u.left x.left).1 }).left=cT g (bO u.right x.right).1:=rfl
  have p:(aBw g { x with left:=(bO u.right x.right).1,right:=(bO u.left x.left).1 }).right=cT g (bO u.left x.left).1:=rfl
  rw [n,p,w,A]
  dsimp only
  by_cases y:0 < iG R L
  ·rw [if_pos ⟨c.1,y⟩,if_neg (λh=>by have:=h.2;omega)]
   rfl
  ·rw [if_neg (λh=>y h.2)]
   by_cases v:0 < iG L R
   ·rw [if_pos ⟨c.1,v⟩]
    rfl
   ·have e:L=R:=qP.1 (by omega)
    rw [if_neg (λh=>v h.2),e]
    rfl
 ·rename_i c
  rw [yI (u:=u) (x:=aBw g { x with left:=(bO u.left x.left).1,right:=(bO u.right x.right).1 }) (by show (bO u.left (cT g (bO u.left x.left).1)).2=0;rw [l];exact i) (by show (bO u.right (cT g (bO u.right x.right).1)).2=0;rw [j];exact f)]
  have n:(aBw g { x with left:=(bO u.left x.left).1,right:=(bO u.right x.right).1 }).left=cT g (bO u.left x.left).1:=rfl
  have p:(aBw g { x with left:=(bO u.left x.left).1,right:=(bO u.right x.right).1 }).right=cT g (bO u.right x.right).1:=rfl
  have C:(aBw g { x with left:=(bO u.left x.left).1,right:=(bO u.right x.right).1 }).kind=x.kind:=rfl
  rw [n,p,C,l,j]
  rfl
theorem aH4 {g:Int->List UInt8->List UInt8}: ∀c:Cn,(∀s,(sS 3 c s->g 1 s=s)/\(sS 6 c s->g 2 s=s)/\(sS 7 c s->g 3 s=s)/\(sS 4 c s->g 4 s=s))->cT g c=c:=by
 refine Cn.ind ?_
 intro c d h
 have hp:c.parts.map (cT g)=c.parts:=by
  have: ∀p∈c.parts,cT g p=p:= λp hp=>d p hp λs=>
   ⟨λa=>(h s).1 ((eO 3 c s).2 (.inr ⟨p,hp,a⟩)),λa=>(h s).2.1 ((eO 6 c s).2 (.inr ⟨p,hp,a⟩)),λa=>(h s).2.2.1 ((eO 7 c s).2 (.inr ⟨p,hp,a⟩)),λa=>(h s).2.2.2 ((eO 4 c s).2 (.inr ⟨p,hp,a⟩))⟩
  exact(List.map_congr_left this).trans (List.map_id' _)
 have b:aUv g c.kind c.name=c.name:=by
  unfold aUv
  split
  ·rename_i a;exact(h c.name).1 ((eO 3 c _).2 (.inl ⟨a,rfl⟩))
  ·split
   ·rename_i a;exact(h c.name).2.1 ((eO 6 c _).2 (.inl ⟨a,rfl⟩))
   ·split
    ·rename_i a;exact(h c.name).2.2.1 ((eO 7 c _).2 (.inl ⟨a,rfl⟩))
    ·split
     ·rename_i a;exact(h c.name).2.2.2 ((eO 4 c _).2 (.inl ⟨a,rfl⟩))
     ·rfl
 rw [lP,hp,b]
 cases c;rfl
theorem aSa {g:Int->List UInt8->List UInt8}{x:Ax}(h1: ∀s,axA x s->g 1 s=s) (h2: ∀s,axB x s->g 2 s=s) (h3: ∀s,axC x s->g 3 s=s) (h4: ∀s,axD x s->g 4 s=s):aBw g x=x:=by
 have e:cT g x.left=x.left:=aH4 _ λs=>⟨λh=>h1 s (.inl h),λh=>h2 s (.inl h),λh=>h3 s (.inl h),λh=>h4 s (.inl h)⟩
 have d:cT g x.right=x.right:=aH4 _ λs=>⟨λh=>h1 s (.inr h),λh=>h2 s (.inr (.inl h)),λh=>h3 s (.inr h),λh=>h4 s (.inr (.inl h))⟩
 have f:x.roles.map (g 2)=x.roles:=(List.map_congr_left λs c=>h2 s (.inr (.inr (.inl c)))).trans (List.map_id' _)
 unfold aBw
 rw [e,d,f,h2 x.role (.inr (.inr (.inr rfl))),h4 x.a (.inr (.inr (.inl rfl))),h4 x.b (.inr (.inr (.inr rfl)))]
theorem aSc (x:Ax):aBw (λ_ s=>s) x=x:=aSa (λ_ _=>rfl) (λ_ _=>rfl) (λ_ _=>rfl) λ_ _=>rfl
theorem aZh:RenG λ_ s=>s:=⟨⟨λ_ _ h=>h,λ_ _ h=>h⟩,λ_=>rfl⟩
theorem aJn {x:Ax}(h0:(cB x).2=0):cB (cB x).1=((cB x).1,0):=by
 have h:=(aRc aZh h0).2
 rw [aSc,aSc]at h
 rw [h]
 exact Prod.ext rfl h0
theorem aNg {x y z:Ax}(h1:fW x y < 0) (h2:fW y z < 0):fW x z < 0:=(aNh.t3 x y z).1 h1 h2
def erA (x:Ax):Ax:={ x with isopen:=false }
theorem nF {x y:Ax}:fW x y=0↔erA x=erA y:=by
 rw [aE7]
 constructor
 ·intro h;rw [h];rfl
 ·intro h
  obtain⟨k,o,l,r,rs,ro,a,b⟩:=x
  obtain⟨k',o',l',r',rs',ro',a',b'⟩:=y
  simp only [erA,Ax.mk.injEq]at h |-
  obtain⟨d,_,c⟩:=h
  exact⟨d,trivial,c⟩
theorem aN3 {x y:Ax}(h:erA x=erA y) (ho:x.isopen=y.isopen):x=y:=by
 obtain⟨k,o,l,r,rs,ro,a,b⟩:=x
 obtain⟨k',o',l',r',rs',ro',a',b'⟩:=y
 simp only [erA,Ax.mk.injEq]at h |-
 obtain⟨d,_,c⟩:=h
 exact⟨d,ho,c⟩
def eqA (x y:Ax):Bool:=decide (x.isopen=y.isopen) && decide (fW x y=0)
theorem tM {x y:Ax}:eqA x y=true↔x=y:=by
 unfold eqA
 rw [Bool.and_eq_true,decide_eq_true_eq,decide_eq_true_eq,nF]
 exact⟨λh=>aN3 h.2 h.1,λh=>by rw [h];exact⟨rfl,rfl⟩⟩
abbrev bF8 (l:List Ax):Prop:=l.Pairwise λx y=>fW x y < 0
structure NewOf (tl b:List Ax):Prop where
 str:bF8 b
 mem: ∀x∈b,∃y∈tl,fW x y=0
 all: ∀y∈tl,∃x∈b,fW x y=0
 opn: ∀x∈b,(x.isopen=true↔ ∃y∈tl,fW x y=0/\y.isopen=true)
theorem NewOf.congr {tl tl' b:List Ax}(h:NewOf tl b) (he: ∀x,x∈tl↔x∈tl'):NewOf tl' b where
 str:=h.str
 mem:= λx hx=>by obtain⟨y,a,c⟩:=h.mem x hx;exact⟨y,(he y).1 a,c⟩
 all:= λy d=>h.all y ((he y).2 d)
 opn:= λx hx=>(h.opn x hx).trans ⟨λ⟨y,a,c⟩=>⟨y,(he y).1 a,c⟩,λ⟨y,a,c⟩=>⟨y,(he y).2 a,c⟩⟩
theorem NewOf.sub {tl b b':List Ax}(h:NewOf tl b) (h':NewOf tl b'): ∀x∈b,x∈b':=by
 intro x hx
 obtain⟨y,i,e⟩:=h.mem x hx
 obtain⟨c,a,g⟩:=h'.all y i
 have d:erA x=erA c:=(nF.1 e).trans (nF.1 g).symm
 have f:x.isopen=c.isopen:=by
  rw [Bool.eq_iff_iff,h.opn x hx,h'.opn c a]
  exact⟨λ⟨z,h1,h2,h3⟩=>⟨z,h1,by rw [nF,<-d];exact nF.1 h2,h3⟩,λ⟨z,h1,h2,h3⟩=>⟨z,h1,by rw [nF,d];exact nF.1 h2,h3⟩⟩
 rw [aN3 d f]
 exact a
def aC1 (x:Ax):Bool:=decide (x.kind=5) || (decide (x.kind=6) || decide (x.kind=7))
def gZ:List Ax->Int
 | []=>0
 |x::r=>if (cB x).2≠0 then (cB x).2 else if eqA x (cB x).1=false then 22 else gZ r
def gN:List Ax->Bool
 |x::y::r=>decide (fW x y= -1) && gN (y::r)
 |_=>true
def eK (x:Ax):Bool:=aC1 x && !x.isopen
noncomputable def dL (l:List Ax):Int:=
 if gZ l≠0 then gZ l else if gN l=false then 70 else if 1024 < l.length then 2 else if l.any eK=true then 71 else eZ l
theorem mK: ∀(l:List Ax),gZ l=0↔ ∀x∈l,cB x=(x,0)
 | []=>by simp [gZ]
 |x::r=>by
  rw [gZ]
  have c:=mK r
  constructor
  ·intro h y a
   split at h
   ·rename_i b;exact absurd h b
   ·rename_i b
    split at h
    ·simp at h
    ·rename_i d
     rcases List.mem_cons.1 a with rfl|a
     ·have:=tM.1 (by simpa using d:eqA y (cB y).1=true)
      exact Prod.ext this.symm (by simpa using b)
     ·exact c.1 h y a
  ·intro h
   have hx:=h x (by simp)
   rw [if_neg (by rw [hx];simp),if_neg (by rw [hx,tM.2 rfl];simp)]
   exact c.2 λy a=>h y (List.mem_cons_of_mem _ a)
theorem jW: ∀(l:List Ax),gN l=true↔bF8 l
 | []=>by simp [gN]
 | [x]=>by simp [gN]
 |x::y::r=>by
  rw [gN,Bool.and_eq_true,decide_eq_true_eq,jW (y::r)]
  constructor
  ·rintro⟨b,a⟩
   refine List.pairwise_cons.2 ⟨λz hz=> ?_,a⟩
   rcases List.mem_cons.1 hz with rfl|hz
   ·omega
   ·exact aNg (by omega) ((List.pairwise_cons.1 a).1 z hz)
  ·intro h
   obtain⟨b,a⟩:=List.pairwise_cons.1 h
   have:=b y (by simp)
   have:=aNh.rng x y
   exact⟨by omega,a⟩
structure BaseOk (l:List Ax):Prop where
 tidy: ∀x∈l,cB x=(x,0)
 str:bF8 l
 few:l.length<=1024
 open_: ∀x∈l,aC1 x=true->x.isopen=true
 circ:¬ mV (ET (dW l))
theorem gE {x:Ax}(h:(cB x).2=0):aZ x=0:=by
 unfold cB at h
 split at h
 ·rename_i a;exact absurd h a
 ·rename_i a;simpa using a
theorem zZ {l:List Ax}(h: ∀x∈l,aZ x=0):eZ l=0↔¬ mV (ET (dW l)):=by
 unfold eZ
 rw [if_neg (by rw [qI h];simp)]
 split
 ·rename_i a;simp [a]
 ·rename_i a;simp [a]
theorem aQ3 (l:List Ax):dL l=0↔BaseOk l:=by
 unfold dL
 constructor
 ·intro h
  split at h
  ·rename_i a;exact absurd h a
  ·rename_i a
   have a:=(mK l).1 (by simpa using a)
   split at h
   ·simp at h
   ·rename_i c
    have c:=(jW l).1 (by simpa using c)
    split at h
    ·simp at h
    ·rename_i f
     split at h
     ·simp at h
     ·rename_i d
      refine⟨a,c,by omega,λx hx e=> ?_,(zZ λx hx=>gE (by rw [a x hx])).1 h⟩
      refine Decidable.byContradiction λg=>d (List.any_eq_true.2 ⟨x,hx, ?_⟩)
      unfold eK
      rw [e]
      simpa using g
 ·rintro⟨a,c,f,d,i⟩
  rw [if_neg (by rw [(mK l).2 a];simp),if_neg (by rw [(jW l).2 c];simp),if_neg (by omega),if_neg ?_]
  ·exact(zZ λx hx=>gE (by rw [a x hx])).2 i
  ·intro h
   obtain⟨x,hx,b⟩:=List.any_eq_true.1 h
   unfold eK at b
   rw [Bool.and_eq_true]at b
   have:=d x hx b.1
   rw [this]at b
   exact absurd b.2 (by decide)
end
section
attribute [local irreducible] aK aF Tri aH YVC cG aT
set_option maxRecDepth 10000
abbrev bDs (l:List Ax):D:= .agg [.sl 16 (l.map axR)]
theorem aRl {x:Ax}(h:aZ x=0):SmA x:=by
 obtain⟨h1,h2,h3⟩:=fP h
 exact⟨by omega,by omega,by omega⟩
theorem aLv {x:Ax}(h:(cB x).2=0):SmA (cB x).1:=aRl (gE (by rw [aJn h]))
theorem aTa (x y:Ax) (hx:SmA x) (hy:SmA y):Tri Tryz.prog 35 [.d (.agg (axR x)), .d (.agg (axR y))] [] (λr=>r= .d (.bool (decide (fW x y=0)))):=by
 have c:=mT x y hx.1 hx.2.1 hx.2.2 hy.1 hy.2.1 hy.2.2
 refine qG [2,3] hty Tryz.func35 [0,1,2,3,4] ?_
 generalize fW x y=v at *
 (repeat' first|(refine qW ?_;intros)|((conv=>whnf);first|refine dwR ?_|((first|refine aA ?_ ?_|refine aC ?_ ?_)<;>intro hb<;>(first|exact ddX hb|try simp only [lnS]at hb))|(refine aB ?_ ?_<;>intro hb<;>try exact dsX hb)))
 rfl
theorem aPx (x y:Ax) (hx:SmA x) (hy:SmA y):Tri Tryz.prog 58 [.d (.agg (axR x)), .d (.agg (axR y))] [] (λr=>r= .d (.bool (eqA x y))):=by
 have c:=aTa x y hx hy
 have a:eqA x y=(decide (x.isopen=y.isopen) && decide (fW x y=0)):=rfl
 rw [a]
 generalize decide (fW x y=0)=v at *
 clear a
 obtain⟨k,o,a1,a2,a3,a4,a5,a6⟩:=x
 obtain⟨k',o',b1,b2,b3,b4,b5,b6⟩:=y
 cases o<;>cases o'
 all_goals
  refine qG [2,3] hty Tryz.func58 [0,1,2,3,4] ?_
  (repeat' first|(refine qW ?_;intros)|((conv=>whnf);first|refine dwR ?_|((first|refine aA ?_ ?_|refine aC ?_ ?_)<;>intro hb<;>(first|exact ddX hb|try simp only [lnS]at hb))|(refine aB ?_ ?_<;>intro hb<;>try exact dsX hb)))
 all_goals rfl
theorem aKp (x:Ax):Tri Tryz.prog 59 [.d (.agg (axR x))] [] (λr=>r= .d (.bool (aC1 x))):=by
 unfold aC1
 refine qG [1] hty Tryz.func59 [0,1,2] ?_
 (repeat' first|(refine qW ?_;intros)|((conv=>whnf);first|refine dwR ?_|((first|refine aA ?_ ?_|refine aC ?_ ?_)<;>intro hb<;>(first|exact ddX hb|try simp only [lnS]at hb))|(refine aB ?_ ?_<;>intro hb<;>try exact dsX hb)))
 all_goals (refine bG ?_;simp [*])
end
end Go.Proofs.YtbobcfjlbcgchaaGreatDoor
