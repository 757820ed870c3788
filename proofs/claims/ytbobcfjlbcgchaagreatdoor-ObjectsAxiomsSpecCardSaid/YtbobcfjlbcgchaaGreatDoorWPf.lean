/-
  The reference of objects: lists, concepts and axioms in bytes.
  Conditions: none.
-/
import Derived.Test.YtbobcfjlbcgchaaGreatDoorWJd
import Derived.Test.YtbobcfjlbcgchaaGreatDoorWDe
import Derived.Test.YtbobcfjlbcgchaaGreatDoorWJa
import Derived.Test.YtbobcfjlbcgchaaGreatDoorWYd
import Derived.Test.YtbobcfjlbcgchaaGreatDoorWBp
import Derived.Test.YtbobcfjlbcgchaaGreatDoorWQc
set_option linter.unnecessarySimpa false
set_option linter.unusedSectionVars false
set_option linter.unusedSimpArgs false
set_option linter.unusedVariables false
set_option maxHeartbeats 32000000
namespace Go.Proofs.YtbobcfjlbcgchaaGreatDoor
section
def mix {α:Type}(f g:Nat->α) (n j:Nat):List α:=(List.range n).map λi=>if i < j then f i else g i
theorem wT {α:Type}(f g:Nat->α) (n j:Nat):(mix f g n j).length=n:=by simp [mix]
theorem aAm {α:Type}(f g:Nat->α) {n j i:Nat}(h:i < n):(mix f g n j)[i]? =some (if i < j then f i else g i):=by
 unfold mix
 rw [List.getElem?_map,List.getElem?_range h];rfl
theorem bC9 {α:Type}(f g:Nat->α) {n j i:Nat}(h:i < n):(mix f g n j)[((i:Nat):Int).toNat]? =some (if i < j then f i else g i):=by
 rw [Int.toNat_natCast];exact aAm f g h
theorem aT8 {α:Type}(f g:Nat->α) {n j:Nat}(h:j < n):(mix f g n j)[((j:Nat):Int).toNat]? =some (g j):=by
 rw [bC9 f g h,if_neg (by omega)]
theorem aT7 {α:Type}(f g:Nat->α) {n j:Nat}(h:j < n):(mix f g n j).set j (f j)=mix f g n (j+1):=by
 refine List.ext_getElem? λi=> ?_
 by_cases hi:i < n
 ·by_cases e:j=i
  ·subst e
   rw [List.getElem?_set_self (by rw [wT];exact h),aAm f g h,if_pos (by omega)]
  ·rw [List.getElem?_set_ne e,aAm f g hi,aAm f g hi]
   by_cases e2:i < j
   ·rw [if_pos e2,if_pos (by omega)]
   ·rw [if_neg e2,if_neg (by omega)]
 ·rw [List.getElem?_eq_none (by rw [List.length_set,wT];omega),List.getElem?_eq_none (by rw [wT];omega)]
theorem aMl {α:Type}(f g h:Nat->α) (n:Nat):mix f g n n=mix h f n 0:=by
 unfold mix
 refine List.map_congr_left λi hi=> ?_
 rw [if_pos (List.mem_range.1 hi),if_neg (by omega)]
theorem bA6 {α:Type}(f:Nat->α) (a:α) (n:Nat):List.replicate n a=mix f (λ_=>a) n 0:=by
 refine List.ext_getElem? λi=> ?_
 by_cases hi:i < n
 ·rw [aAm _ _ hi,if_neg (by omega),List.getElem?_replicate,if_pos hi]
 ·rw [List.getElem?_eq_none (by rw [List.length_replicate];omega),List.getElem?_eq_none (by rw [wT];omega)]
def dZ (T:List Stp) (R:List Str) (k i:Nat):List Pth:=uU Op.bytesLess T ((R[i]?).getD []) k
def xK (T:List Stp) (R:List Str) (k i:Nat):List D:=[.sl 2 ((dZ T R k i).map tG)]
def bAo:Option (List Str)->D
 |none=> .nil
 |some L=> .sl 1 (L.map bJ)
def lJ (T:List Stp) (k:Nat) (seen:Pth->Prop):Option (List Str)->Prop
 |none=> ∀p,seen p->jC T p=false
 |some L=>L.length=k+1/\mV (ET T)
theorem aHj (T:List Stp) (R:List Str) (k i:Nat): ∀p∈dZ T R k i,p.1.length=k+1:= λp hp=>(kE k p hp).len
theorem aOw (T:List Stp) (R:List Str) (k i:Nat):(dZ T R k i).length<=2 * T.length+1:=by
 cases k with
 |zero=>show 1<=_;omega
 |succ k=>
  have:=(aHz (n:=k) (lt:=Op.bytesLess) (T:=T) (ps:=dZ T R k i) (aHj T R k i)).le
  have e:dZ T R (k+1) i=kJ Op.bytesLess T (dZ T R k i):=rfl
  rw [e];omega
theorem aKd {T:List Stp}{R:List Str}{k i:Nat}{p:Pth}(hp:p∈dZ T R k i) (h:jC T p=true):mV (ET T):=xU (kE k p hp) h
theorem aK0 {T:List Stp}{R:List Str}(hR: ∀k∈T,k.1∈R) (h: ∀k,k < R.length-> ∀i,i < R.length-> ∀p∈dZ T R k i,jC T p=false):¬ mV (ET T):=by
 intro d
 obtain⟨n,c,s,b,p,hp,a⟩:=(aZi (lt:=Op.bytesLess) hR).1 d
 obtain⟨i,hi,rfl⟩:=List.getElem_of_mem b
 have:=h n c i hi p (by unfold dZ;rw [List.getElem?_eq_getElem hi];exact hp)
 rw [a]at this
 cases this
end
section
attribute [local irreducible] aK aF Tri aH YVC cG aT
set_option maxRecDepth 10000
theorem aC4 (l:List Ax) (hs: ∀x∈l,SmA x):Tri Tryz.prog 116 [.d (.sl 16 (l.map axR))] [] (λr=>r= .d (.int .i64 (cR l))):=by
 refine Tri.len 0 rfl λg=> ?_
 rw [List.length_map]at g
 have i:(l.map axR).length=l.length:=List.length_map ..
 refine qG [] hty Tryz.func116 [0,2,3,4,8,17] ?_
 refine qX ?_;intros
 refine aD hty (λj:Nat=>([(0, .d (.sl 16 (l.map axR))),(3, .d (.int .i64 j))],[])) (λj=>j<=l.length/\ ∀x∈l.take j,aZ x=0) (λj=>l.length - j) 0 ⟨by omega,by simp⟩ ⟨qB,qB⟩ ?_
 rintro j ⟨hj,hz⟩
 refine qX ?_;intros
 refine aA (λb=> ?_) (λb=> ?_)
 ·have a:j < l.length:=by have b:(j:Int) < ((l.map axR).length:Nat):=b;rw [i]at b;omega
  have hrow:=gW a
  have hx:=hs _ (List.getElem_mem a)
  have c:=jA l[j] hx.1 hx.2.1
  have f:=mL a hz
  have k:aZ l[j]=0-> ∀x∈l.take (j+1),aZ x=0:= λh x hx=>by
   rw [List.take_succ_eq_append_getElem a]at hx
   rcases List.mem_append.1 hx with hx|hx
   ·exact hz x hx
   ·simp only [List.mem_singleton]at hx;subst hx;exact h
  clear hx
  generalize aZ l[j]=e at *
  generalize l[j]=x at *
  refine qZ ?_;intros
  refine aC (λm=> ?_) (λm=> ?_)
  ·rw [f m]
   (repeat' first|(refine qW ?_;intros)|((conv=>whnf);first|refine dwR ?_|((first|refine aA ?_ ?_|refine aC ?_ ?_)<;>intro hb<;>(first|exact ddX hb|try simp only [lnS]at hb))|(refine aB ?_ ?_<;>intro hb<;>try exact dsX hb)))
   rfl
  ·(repeat' first|(refine qW ?_;intros)|((conv=>whnf);first|refine dwR ?_|((first|refine aA ?_ ?_|refine aC ?_ ?_)<;>intro hb<;>(first|exact ddX hb|try simp only [lnS]at hb))|(refine aB ?_ ?_<;>intro hb<;>try exact dsX hb)))
   exact⟨j+1,⟨by omega,k (by simpa using m)⟩,qO,⟨qB,qB⟩⟩
 ·have a:j=l.length:=by have b:¬ (j:Int) < ((l.map axR).length:Nat):=b;rw [i]at b;omega
  subst a
  rw [List.take_length]at hz
  rw [qI hz]
  (repeat' first|(refine qW ?_;intros)|((conv=>whnf);first|refine dwR ?_|((first|refine aA ?_ ?_|refine aC ?_ ?_)<;>intro hb<;>(first|exact ddX hb|try simp only [lnS]at hb))|(refine aB ?_ ?_<;>intro hb<;>try exact dsX hb)))
  rfl
theorem aS0 {T:List Stp}{R:List Str}{j:Nat}(h:j < R.length):xK T R 0 j=[.sl 2 [[.sl 1 [[.str R[j]]], .bool false]]]:=by
 unfold xK dZ
 rw [List.getElem?_eq_getElem h]
 rfl
theorem aS1 (T:List Stp) (R:List Str) (k i:Nat):xK T R (k+1) i=[.sl 2 ((kJ Op.bytesLess T (dZ T R k i)).map tG)]:=rfl
theorem aEa (L:List Str):bAo (some L)= .sl 1 (L.map bJ):=rfl
theorem lJ.mono {T:List Stp}{k:Nat}{s s':Pth->Prop}{o:Option (List Str)}(h:lJ T k s o) (hs: ∀p,s' p->s p):lJ T k s' o:=by
 cases o with
 |none=>exact λp hp=>h p (hs p hp)
 |some L=>exact h
theorem aHf (l:List Ax) (J: ∀x∈l,SmA x) (hn:l.length<=10000):Tri Tryz.prog 64 [.d (.sl 16 (l.map axR))] [] (RolP (eZ l)):=by
 have hc:=aC4 l J
 refine qG [13] hty Tryz.func64 [0,2,3,4,5,6,7,8,9,10,11,12,13,17,29,45,51,60,82,95] ?_
 refine qZ ?_;intros
 refine aC (λA=> ?_) (λA=> ?_)
 ·have Q:eZ l=cR l:=by unfold eZ;rw [if_pos A]
  rw [Q]
  (repeat' first|(refine qW ?_;intros)|((conv=>whnf);first|refine dwR ?_|((first|refine aA ?_ ?_|refine aC ?_ ?_)<;>intro hb<;>(first|exact ddX hb|try simp only [lnS]at hb))|(refine aB ?_ ?_<;>intro hb<;>try exact dsX hb)))
  exact⟨_,rfl⟩
 have A:cR l=0:=by simpa using A
 have Q:=(fM l).1 A
 have a2:=aHa l Q hn
 have O:=aOs l Q hn
 have hTl:=rL l λx hx=>(fP (Q x hx)).2.2
 have U:mV (ET (dW l))->eZ l=60:= λh=>by unfold eZ;rw [if_neg (by simp [A]),if_pos h]
 have Y:¬ mV (ET (dW l))->eZ l=0:= λh=>by unfold eZ;rw [if_neg (by simp [A]),if_neg h]
 clear hc A
 refine qX ?_;intros
 refine aL [] a2 trivial (λr J=> ?_)
 subst J
 refine qX ?_;intros
 refine aL [] O trivial (λr J=> ?_)
 obtain⟨R,rfl,hR,hRl⟩:=J.ex
 clear a2 O J
 generalize dW l=T at *
 generalize eZ l=re at *
 have hrT:(T.map s6R).length=T.length:=List.length_map ..
 have g:(R.map bJ).length=R.length:=List.length_map ..
 have Z:(((R.map bJ).length:Nat):Int).toNat=R.length:=by rw [g];rfl
 have hm48:R.length * 24<=140737488355328:=by omega
 refine qX ?_;intros
 rw [Z]
 refine aD hty (λj:Nat=>([(5, .d (.sl 3 (T.map s6R))),(6, .d (.sl 1 (R.map bJ))),(7, .mw 25 1 R.length),(8, .d (.int .i64 j))],[(25, .mrow 169 1 R.length (mix (xK T R 0) (λ_=>[.nil]) R.length j))])) (λj=>j<=R.length) (λj=>R.length - j) 0 (by omega) ⟨qB,congrArg (λr=>some (HObj.mrow 169 1 R.length r)) (bA6 (xK T R 0) [.nil] R.length),trivial⟩ ?_
 rintro j hj
 refine qX ?_;intros
 refine aA (λa=> ?_) (λa=> ?_)
 ·have m:j < R.length:=by have a:(j:Int) < ((R.map bJ).length:Nat):=a;rw [g]at a;omega
  have t:=eI m
  have b:=aT7 (xK T R 0) (λ_=>[.nil]) m
  rw [aS0 m]at b
  have hrow1:=aT8 (xK T R 0) (λ_=>[D.nil]) m
  have a4:=wT (xK T R 0) (λ_=>[D.nil]) R.length j
  generalize R[j]=s at *
  refine qZ ?_;intros
  refine⟨j+1,by omega,qO, ?_⟩
  dsimp only
  rw [<-b]
  exact⟨qB,qB⟩
 have m:j=R.length:=by have a:¬ (j:Int) < ((R.map bJ).length:Nat):=a;rw [g]at a;omega
 subst m
 rw [aMl (xK T R 0) (λ_=>[.nil]) (xK T R 1)]
 clear a hj
 refine qX ?_;intros
 refine aD hty (λk:Nat=>([(5, .d (.sl 3 (T.map s6R))),(6, .d (.sl 1 (R.map bJ))),(7, .mw 25 1 R.length),(9, .d (.int .i64 ((k+1:Nat):Int)))],[(25, .mrow 169 1 R.length (mix (xK T R (k+1)) (xK T R k) R.length 0))])) (λk=>k<=R.length/\ ∀K,K < k-> ∀i,i < R.length-> ∀p∈dZ T R K i,jC T p=false) (λk=>R.length - k) 0 ⟨by omega,by intro K h;omega⟩ ⟨qB,qB⟩ ?_
 rintro k ⟨hk,hz⟩
 refine qX ?_;intros
 refine aA (λa=> ?_) (λa=> ?_)
 ·have V:k < R.length:=by have a:((k+1:Nat):Int)<=((R.map bJ).length:Nat):=a;rw [g]at a;omega
  clear a
  refine qX ?_;intros
  refine aD hty (λy:Nat×Option (List Str)=>([(5, .d (.sl 3 (T.map s6R))),(6, .d (.sl 1 (R.map bJ))),(7, .mw 25 1 R.length),(9, .d (.int .i64 ((k+1:Nat):Int))),(10, .d (bAo y.2)),(11, .d (.int .i64 y.1))],[(25, .mrow 169 1 R.length (mix (xK T R (k+1)) (xK T R k) R.length y.1))])) (λy=>y.1<=R.length/\lJ T k (λp=> ∃i,i < y.1/\p∈dZ T R k i) y.2) (λy=>R.length - y.1) (0,none) ⟨qO,by rintro p ⟨i,h,_⟩;dsimp only at h;omega⟩ ⟨qB,qB⟩ ?_
  rintro⟨i,o⟩ ⟨hi,c⟩
  dsimp only at hi c
  refine qX ?_;intros
  refine aA (λE=> ?_) (λE=> ?_)
  ·have B:i < R.length:=by have E:(i:Int) < ((R.map bJ).length:Nat):=E;rw [g]at E;omega
   clear E
   have t:=aT8 (xK T R (k+1)) (xK T R k) B
   have b:=aT7 (xK T R (k+1)) (xK T R k) B
   rw [aS1]at b
   have a4:=wT (xK T R (k+1)) (xK T R k) R.length i
   generalize mix (xK T R (k+1)) (xK T R k) R.length i=M at *
   have S:xK T R k i=[.sl 2 ((dZ T R k i).map tG)]:=rfl
   rw [S]at t
   have f:=aHj T R k i
   have P:=aOw T R k i
   have C:= λp=>aKd (T:=T) (R:=R) (k:=k) (i:=i) (p:=p)
   have a5:=aHd (dZ T R k i) T k f (by omega) (by omega) (by omega)
   have I:lJ T k (λp=>(∃i',i' < i/\p∈dZ T R k i')\/p∈dZ T R k i) o->True:= λ_=>trivial
   have u:lJ T k (λp=>(∃i',i' < i/\p∈dZ T R k i')\/p∈(dZ T R k i).take 0) o:=c.mono λp hp=>by
    rcases hp with hp|hp
    ·exact hp
    ·simp at hp
   have w: ∀o,lJ T k (λp=>(∃i',i' < i/\p∈dZ T R k i')\/p∈dZ T R k i) o->lJ T k (λp=> ∃i',i' < i+1/\p∈dZ T R k i') o:= λo h=>h.mono λp ⟨i',A,a⟩=>by
    by_cases e:i'=i
    ·subst e;exact .inr a
    ·exact .inl ⟨i',by omega,a⟩
   clear c I S
   generalize hW:(λp=> ∃i',i' < i/\p∈dZ T R k i')=W at *
   have u:lJ T k (λp=>W p\/p∈(dZ T R k i).take 0) o:=by rw [<-hW];exact u
   have w: ∀o,lJ T k (λp=>W p\/p∈dZ T R k i) o->lJ T k (λp=> ∃i',i' < i+1/\p∈dZ T R k i') o:= λo h=>w o (by rw [<-hW]at h;exact h)
   generalize hps:dZ T R k i=ps at t f P C a5 b u w
   have a1:(ps.map tG).length=ps.length:=List.length_map ..
   clear hW
   refine qX ?_;intros
   refine aD hty (λy:Nat×Option (List Str)=>([(5, .d (.sl 3 (T.map s6R))),(6, .d (.sl 1 (R.map bJ))),(7, .mw 25 1 R.length),(9, .d (.int .i64 ((k+1:Nat):Int))),(10, .d (bAo y.2)),(11, .d (.int .i64 i)),(12, .d (.int .i64 y.1))],[(25, .mrow 169 1 R.length M)])) (λy=>y.1<=ps.length/\lJ T k (λp=>W p\/p∈ps.take y.1) y.2) (λy=>ps.length - y.1) (0,o) ⟨qO,u⟩ ⟨(by repeat' (first|exact trivial|exact rfl|exact aBs _|exact⟨rfl,rfl⟩|refine And.intro ?_ ?_)),qB⟩ ?_
   clear u
   rintro⟨q,o⟩ ⟨H,c⟩
   dsimp only at H c
   refine qZ ?_;intros
   refine aA (λF=> ?_) (λF=> ?_)
   ·have n:q < ps.length:=by have F:(q:Int) < ((ps.map tG).length:Nat):=F;rw [a1]at F;omega
    clear F
    have hrowq:=aFi n
    have z:=f _ (List.getElem_mem n)
    have N:=C _ (List.getElem_mem n)
    have hcl:=aFh ps[q] T k z (by omega)
    have v:jC T ps[q]=false->lJ T k (λp=>W p\/p∈ps.take (q+1)) o:= λh=>by
     cases o with
     |none=>
      rintro p (hp|hp)
      ·exact c p (.inl hp)
      ·rw [List.take_succ_eq_append_getElem n]at hp
       rcases List.mem_append.1 hp with hp|hp
       ·exact c p (.inr hp)
       ·simp only [List.mem_singleton]at hp;rw [hp];exact h
     |some L=>exact c
    generalize jC T ps[q]=cb at *
    generalize ps[q]=p at *
    refine qZ ?_;intros
    refine qZ ?_;intros
    cases cb
    ·have v:=v rfl
     refine qX ?_;intros
     refine⟨(q+1,o),⟨qO,v⟩,qO,⟨(by repeat' (first|exact trivial|exact rfl|exact aBs _|exact⟨rfl,rfl⟩|refine And.intro ?_ ?_)),qB⟩⟩
    ·cases o with
     |none=>
      refine qX ?_;intros
      refine⟨(q+1,some p.1),⟨qO,z,N rfl⟩,qO,⟨qB,qB⟩⟩
     |some L=>
      have hless:=aA9 p.1 L (by rw [z,c.1];exact Nat.le_refl _) (by rw [c.1];omega)
      have v:lJ T k (λp=>W p\/p∈ps.take (q+1)) (some L):=c
      have G:L.map bJ≠[]:= λh=>by have:=c.1;rw [List.map_eq_nil_iff.1 h]at this;simp at this
      rw [aEa]
      generalize wW Op.bytesLess p.1 L=lb at *
      ((conv=>whnf);repeat ((first |(intro H;try simp only [lnS]at H)|refine sI ?_|refine qE_ ?_);conv=>whnf))
      rename_i bb
      cases bb
      ·refine qZ ?_;intros
       cases lb
       ·refine qX ?_;intros
        refine⟨(q+1,some L),⟨qO,v⟩,qO,⟨qB,qB⟩⟩
       ·refine qX ?_;intros
        refine⟨(q+1,some p.1),⟨qO,z,N rfl⟩,qO,⟨qB,qB⟩⟩
      ·exact absurd (H rfl) G
   have n:q=ps.length:=by have F:¬ (q:Int) < ((ps.map tG).length:Nat):=F;rw [a1]at F;omega
   subst n
   rw [List.take_length]at c
   have a3:=w o c
   refine qZ ?_;intros
   refine⟨(i+1,o),⟨qO,a3⟩,qO, ?_⟩
   dsimp only
   rw [<-b]
   exact⟨(by repeat' (first|exact trivial|exact rfl|exact aBs _|exact⟨rfl,rfl⟩|refine And.intro ?_ ?_)),qB⟩
  have B:i=R.length:=by have E:¬ (i:Int) < ((R.map bJ).length:Nat):=E;rw [g]at E;omega
  subst B
  rw [aMl (xK T R (k+1)) (xK T R k) (xK T R (k+1+1))]
  cases o with
  |none=>
   refine qX ?_;intros
   refine⟨k+1,⟨by omega,λK hk' i hi p hp=> ?_⟩,qO,⟨qB,qB⟩⟩
   by_cases e:K=k
   ·subst e;exact c p ⟨i,hi,hp⟩
   ·exact hz K (by omega) i hi p hp
  |some L=>
   have G:L.map bJ≠[]:= λh=>by have:=c.1;rw [List.map_eq_nil_iff.1 h]at this;simp at this
   rw [aEa,U c.2]
   ((conv=>whnf);repeat ((first |(intro H;try simp only [lnS]at H)|refine sI ?_|refine qE_ ?_);conv=>whnf))
   rename_i bb
   cases bb
   ·(repeat' first|(refine qW ?_;intros)|((conv=>whnf);first|refine dwR ?_|((first|refine aA ?_ ?_|refine aC ?_ ?_)<;>intro hb<;>(first|exact ddX hb|try simp only [lnS]at hb))|(refine aB ?_ ?_<;>intro hb<;>try exact dsX hb)))
    exact⟨_,rfl⟩
   ·exact absurd (H rfl) G
 have V:k=R.length:=by have a:¬ ((k+1:Nat):Int)<=((R.map bJ).length:Nat):=a;rw [g]at a;omega
 subst V
 rw [Y (aK0 hR hz)]
 (repeat' first|(refine qW ?_;intros)|((conv=>whnf);first|refine dwR ?_|((first|refine aA ?_ ?_|refine aC ?_ ?_)<;>intro hb<;>(first|exact ddX hb|try simp only [lnS]at hb))|(refine aB ?_ ?_<;>intro hb<;>try exact dsX hb)))
 exact⟨_,rfl⟩
theorem aDu: ∀{l:List Ax}{j:Nat}(h:j < l.length),(∀x∈l.take j,cB x=(x,0))->((cB l[j]).2≠0->gZ l=(cB l[j]).2)/\((cB l[j]).2=0->eqA l[j] (cB l[j]).1=false->gZ l=22)
 |x::r,0,_,_=>by
  rw [gZ]
  exact⟨λh=>if_pos h,λh a=>by rw [if_neg (λq=>q h)];exact if_pos a⟩
 |x::r,j+1,hl,hz=>by
  have hx:=hz x (by simp)
  have e:gZ (x::r)=gZ r:=by
   rw [gZ,hx]
   rw [if_neg (by simp),if_neg]
   rw [tM.2 rfl];simp
  rw [e]
  exact aDu (l:=r) (j:=j) (by simpa using hl) (λy b=>hz y (by rw [List.take_succ_cons];exact List.mem_cons_of_mem _ b))
theorem aXe (x y:Ax):eqA x y=eqA y x:=by
 rw [Bool.eq_iff_iff,tM,tM];exact eq_comm
theorem aJs {l:List Ax}{j:Nat}(h:j+1 < l.length) (h1:¬ fW l[j] l[j+1] < 0):gN l=false:=by
 rw [Bool.eq_false_iff]
 intro a
 have:=(jW l).1 a
 exact h1 (List.pairwise_iff_getElem.1 this j (j+1) (by omega) h (by omega))
theorem aOa {l:List Ax}(h: ∀j (h:j+1 < l.length),fW l[j] l[j+1] < 0):gN l=true:=by
 rw [jW]
 refine List.pairwise_iff_getElem.2 λi j hi hj hij=> ?_
 have key: ∀d i (hi:i+d+1 < l.length),fW l[i] l[i+d+1] < 0:=by
  intro d
  induction d with
  |zero=>intro i hi;exact h i hi
  |succ d ih=>
   intro i hi
   exact aNg (ih i (by omega)) (h (i+d+1) (by omega))
 have:=key (j - i - 1) i (by omega)
 have e:i+(j - i - 1)+1=j:=by omega
 simp only [e]at this
 exact this
theorem aHe (l:List Ax) (p: ∀x∈l,SmA x) (hn:l.length<=10000):Tri Tryz.prog 29 [.d (bDs l)] [] (λr=>r= .d (.int .i64 (dL l))):=by
 have g:(l.map axR).length=l.length:=List.length_map ..
 have G:=aHf l p hn
 refine qG [1,4] hty Tryz.func29 [0,1,2,3,4,5,6,7,9,14,27,36,41,56,60,65,82,90] ?_
 refine qX ?_;intros
 refine aD hty (λj:Nat=>([(1, .ea 1 [[.sl 16 (l.map axR)]] 0 0),(3, .d (.int .i64 j))],[])) (λj=>j<=l.length/\ ∀x∈l.take j,cB x=(x,0)) (λj=>l.length - j) 0 ⟨by omega,by simp⟩ ⟨qB,qB⟩ ?_
 rintro j ⟨A,hz⟩
 refine qX ?_;intros
 refine aA (λb=> ?_) (λb=> ?_)
 ·have a:j < l.length:=by have b:(j:Int) < ((l.map axR).length:Nat):=b;rw [g]at b;omega
  have u:=gW a
  have hx:=p _ (List.getElem_mem a)
  have ct:=aA6 l[j] hx.1 hx.2.1
  obtain⟨e1,e2⟩:=aDu a hz
  have C:(cB l[j]).2=0->eqA (cB l[j]).1 l[j]=true-> ∀x∈l.take (j+1),cB x=(x,0):= λf F x hx=>by
   rw [List.take_succ_eq_append_getElem a]at hx
   rcases List.mem_append.1 hx with hx|hx
   ·exact hz x hx
   ·simp only [List.mem_singleton]at hx;subst hx;exact Prod.ext (tM.1 F) f
  have cs:= λf:(cB l[j]).2=0=>aK6 (cB l[j]).1 l[j] (aLv f) hx
  rw [aXe]at e2
  generalize eqA (cB l[j]).1 l[j]=q at *
  generalize (cB l[j]).1=t at *
  generalize (cB l[j]).2=e at *
  generalize l[j]=x at *
  clear hx
  refine qZ ?_;intros
  refine aC (λf=> ?_) (λf=> ?_)
  ·have B:dL l=e:=by unfold dL;rw [e1 f,if_pos f]
   rw [B]
   (repeat' first|(refine qW ?_;intros)|((conv=>whnf);first|refine dwR ?_|((first|refine aA ?_ ?_|refine aC ?_ ?_)<;>intro hb<;>(first|exact ddX hb|try simp only [lnS]at hb))|(refine aB ?_ ?_<;>intro hb<;>try exact dsX hb)))
   rfl
  ·have f:e=0:=by simpa using f
   have cs:=cs f
   refine qX ?_;intros
   refine dwR ?_
   refine qZ ?_;intros
   cases q
   ·have B:dL l=22:=by unfold dL;rw [e2 f rfl,if_pos (by simp)]
    rw [B]
    (repeat' first|(refine qW ?_;intros)|((conv=>whnf);first|refine dwR ?_|((first|refine aA ?_ ?_|refine aC ?_ ?_)<;>intro hb<;>(first|exact ddX hb|try simp only [lnS]at hb))|(refine aB ?_ ?_<;>intro hb<;>try exact dsX hb)))
    rfl
   ·(repeat' first|(refine qW ?_;intros)|((conv=>whnf);first|refine dwR ?_|((first|refine aA ?_ ?_|refine aC ?_ ?_)<;>intro hb<;>(first|exact ddX hb|try simp only [lnS]at hb))|(refine aB ?_ ?_<;>intro hb<;>try exact dsX hb)))
    exact⟨j+1,⟨by omega,C f rfl⟩,qO,⟨qB,qB⟩⟩
 have a:j=l.length:=by have b:¬ (j:Int) < ((l.map axR).length:Nat):=b;rw [g]at b;omega
 subst a
 rw [List.take_length]at hz
 have D:=(mK l).2 hz
 have w:dL l=if gN l=false then 70 else if 1024 < l.length then 2 else if l.any eK=true then 71 else eZ l:=by
  unfold dL;rw [D,if_neg (by simp)]
 rw [w]
 clear w D b A
 refine qX ?_;intros
 refine aD hty (λj:Nat=>([(1, .ea 1 [[.sl 16 (l.map axR)]] 0 0),(6, .d (.int .i64 ((j+1:Nat):Int)))],[])) (λj=>j<=l.length/\ ∀i (h:i+1 < l.length),i < j->fW l[i] l[i+1] < 0) (λj=>l.length - j) 0 ⟨by omega,λi _ h=>by omega⟩ ⟨qB,qB⟩ ?_
 rintro j ⟨A,n⟩
 refine qX ?_;intros
 refine aA (λb=> ?_) (λb=> ?_)
 ·have a:j+1 < l.length:=by have b:((j+1:Nat):Int) < ((l.map axR).length:Nat):=b;rw [g]at b;omega
  have hrow1:(l.map axR)[((((j+1:Nat):Int)) - 1).toNat]? =some (axR l[j]):=by
   have e:((((j+1:Nat):Int)) - 1).toNat=j:=by omega
   rw [e,List.getElem?_map,List.getElem?_eq_getElem (by omega)];rfl
  have hrow2:=gW a
  have hx:=p _ (List.getElem_mem (show j < l.length by omega))
  have z:=p _ (List.getElem_mem a)
  have c:=gR l[j] l[j+1] hx.1 hx.2.1 hx.2.2 z.1 z.2.1 z.2.2
  have k:=aJs a
  have m:fW l[j] l[j+1] < 0-> ∀i (h:i+1 < l.length),i < j+1->fW l[i] l[i+1] < 0:= λf i h hi=>by
   by_cases e:i=j
   ·subst e;exact f
   ·exact n i h (by omega)
  clear hx z n
  generalize fW l[j] l[j+1]=v at *
  generalize l[j]=x at *
  generalize l[j+1]=y at *
  refine dwR ?_
  refine qZ ?_;intros
  refine aA (λf=> ?_) (λf=> ?_)
  ·rw [if_pos (k (by omega))]
   (repeat' first|(refine qW ?_;intros)|((conv=>whnf);first|refine dwR ?_|((first|refine aA ?_ ?_|refine aC ?_ ?_)<;>intro hb<;>(first|exact ddX hb|try simp only [lnS]at hb))|(refine aB ?_ ?_<;>intro hb<;>try exact dsX hb)))
   rfl
  ·(repeat' first|(refine qW ?_;intros)|((conv=>whnf);first|refine dwR ?_|((first|refine aA ?_ ?_|refine aC ?_ ?_)<;>intro hb<;>(first|exact ddX hb|try simp only [lnS]at hb))|(refine aB ?_ ?_<;>intro hb<;>try exact dsX hb)))
   exact⟨j+1,⟨by omega,m (by omega)⟩,qO,⟨qB,qB⟩⟩
 have a:¬ j+1 < l.length:=by have b:¬ ((j+1:Nat):Int) < ((l.map axR).length:Nat):=b;rw [g]at b;omega
 rw [if_neg (by rw [aOa λi h=>n i h (by omega)];simp)]
 clear b n A a
 refine qX ?_;intros
 refine aA (λb=> ?_) (λb=> ?_)
 ·have b:(1024:Int) < ((l.map axR).length:Nat):=b
  rw [if_pos (by rw [g]at b;omega)]
  (repeat' first|(refine qW ?_;intros)|((conv=>whnf);first|refine dwR ?_|((first|refine aA ?_ ?_|refine aC ?_ ?_)<;>intro hb<;>(first|exact ddX hb|try simp only [lnS]at hb))|(refine aB ?_ ?_<;>intro hb<;>try exact dsX hb)))
  rfl
 have b:¬ (1024:Int) < ((l.map axR).length:Nat):=b
 rw [if_neg (by rw [g]at b;omega)]
 clear b
 refine qX ?_;intros
 refine aD hty (λj:Nat=>([(1, .ea 1 [[.sl 16 (l.map axR)]] 0 0),(7, .d (.int .i64 j))],[])) (λj=>j<=l.length/\ ∀x∈l.take j,eK x=false) (λj=>l.length - j) 0 ⟨by omega,by simp⟩ ⟨qB,qB⟩ ?_
 rintro j ⟨A,n⟩
 refine qX ?_;intros
 refine aA (λb=> ?_) (λb=> ?_)
 ·have a:j < l.length:=by have b:(j:Int) < ((l.map axR).length:Nat):=b;rw [g]at b;omega
  have u:=gW a
  have c:=aK7 l[j]
  have k:eK l[j]=true->l.any eK=true:= λh=>List.any_eq_true.2 ⟨_,List.getElem_mem a,h⟩
  have m:eK l[j]=false-> ∀x∈l.take (j+1),eK x=false:= λf x hx=>by
   rw [List.take_succ_eq_append_getElem a]at hx
   rcases List.mem_append.1 hx with hx|hx
   ·exact n x hx
   ·simp only [List.mem_singleton]at hx;subst hx;exact f
  have o:eK l[j]=(aC1 l[j] && !l[j].isopen):=rfl
  clear n
  generalize aC1 l[j]=ra at *
  generalize eK l[j]=sv at *
  generalize l[j]=x at *
  refine qZ ?_;intros
  cases ra
  ·(repeat' first|(refine qW ?_;intros)|((conv=>whnf);first|refine dwR ?_|((first|refine aA ?_ ?_|refine aC ?_ ?_)<;>intro hb<;>(first|exact ddX hb|try simp only [lnS]at hb))|(refine aB ?_ ?_<;>intro hb<;>try exact dsX hb)))
   exact⟨j+1,⟨by omega,m (by rw [o];rfl)⟩,qO,⟨qB,qB⟩⟩
  ·refine qZ ?_;intros
   cases hop:x.isopen
   ·rw [if_pos (k (by rw [o,hop];rfl))]
    (repeat' first|(refine qW ?_;intros)|((conv=>whnf);first|refine dwR ?_|((first|refine aA ?_ ?_|refine aC ?_ ?_)<;>intro hb<;>(first|exact ddX hb|try simp only [lnS]at hb))|(refine aB ?_ ?_<;>intro hb<;>try exact dsX hb)))
    rfl
   ·(repeat' first|(refine qW ?_;intros)|((conv=>whnf);first|refine dwR ?_|((first|refine aA ?_ ?_|refine aC ?_ ?_)<;>intro hb<;>(first|exact ddX hb|try simp only [lnS]at hb))|(refine aB ?_ ?_<;>intro hb<;>try exact dsX hb)))
    exact⟨j+1,⟨by omega,m (by rw [o,hop];rfl)⟩,qO,⟨qB,qB⟩⟩
 have a:j=l.length:=by have b:¬ (j:Int) < ((l.map axR).length:Nat):=b;rw [g]at b;omega
 subst a
 rw [List.take_length]at n
 rw [if_neg (by rw [Bool.not_eq_true,List.any_eq_false];intro x hx;simp [n x hx])]
 have hr:eZ l=0\/eZ l=60:=by
  unfold eZ
  rw [if_neg (by rw [qI λx hx=>gE (by rw [hz x hx])];simp)]
  split
  ·exact .inr rfl
  ·exact .inl rfl
 generalize eZ l=e at *
 ((conv=>whnf);repeat ((first|(refine aL [] G trivial (λr p=> ?_);obtain⟨s,rfl⟩:=p.ex) |(intro E;try simp only [lnS]at E)|refine sI ?_|refine qE_ ?_);conv=>whnf))
 refine aC (λf=> ?_) (λf=> ?_)
 ·rw [show e=60 by omega]
  (repeat' first|(refine qW ?_;intros)|((conv=>whnf);first|refine dwR ?_|((first|refine aA ?_ ?_|refine aC ?_ ?_)<;>intro hb<;>(first|exact ddX hb|try simp only [lnS]at hb))|(refine aB ?_ ?_<;>intro hb<;>try exact dsX hb)))
  rfl
 ·rw [show e=0 by simpa using f]
  (repeat' first|(refine qW ?_;intros)|((conv=>whnf);first|refine dwR ?_|((first|refine aA ?_ ?_|refine aC ?_ ?_)<;>intro hb<;>(first|exact ddX hb|try simp only [lnS]at hb))|(refine aB ?_ ?_<;>intro hb<;>try exact dsX hb)))
  rfl
end
section
attribute [local irreducible] aK aF Tri aH YVC cG aT vZ
open Go.RowKit
set_option maxRecDepth 10000
theorem aNi: ∀(j n:Nat),beN (j+1) n=UInt8.ofNat (n / 256 ^ j % 256)::beN j n
 | 0,n=>by simp [beN]
 |j+1,n=>by
  rw [beN,aNi j (n / 256),beN,List.cons_append,Nat.div_div_eq_div_mul,Nat.pow_succ,Nat.mul_comm 256]
theorem bE2 (x:Nat):((x:Nat):Int).tdiv 256=((x / 256:Nat):Int):=by
 rw [Int.tdiv_eq_ediv_of_nonneg (Int.natCast_nonneg x),Int.natCast_ediv];rfl
theorem bE1 (x:Nat):((x:Nat):Int).tmod 256=((x % 256:Nat):Int):=by
 rw [Int.tmod_eq_emod_of_nonneg (Int.natCast_nonneg x),Int.natCast_emod];rfl
def aQh (m j n:Nat):List UInt8:=List.replicate (m - j) 0++beN j n
theorem aXw (m j n:Nat) (h:j<=m):(aQh m j n).length=m:=by unfold aQh;rw [List.length_append,List.length_replicate,aW];omega
theorem aXv (m j n:Nat) (h:j < m):((aQh m j n).map aN).set (m - 1 - j) (aN (UInt8.ofNat (n / 256 ^ j % 256)))=(aQh m (j+1) n).map aN:=by
 have e:m - j=(m - 1 - j)+1:=by omega
 have e2:m - (j+1)=m - 1 - j:=by omega
 unfold aQh
 rw [e2,aNi,e,List.replicate_succ',List.append_assoc,List.map_append,List.map_append,List.set_append_right _ _ (by simp),List.length_map,List.length_replicate,Nat.sub_self,List.map_append]
 rfl
theorem aUh (m n:Nat):(aQh m 0 n).map aN=List.replicate m [D.int .u8 0]:=by
 unfold aQh;rw [Nat.sub_zero,beN,List.append_nil,List.map_replicate];rfl
theorem aXx (m n:Nat):aQh m m n=beN m n:=by unfold aQh;rw [Nat.sub_self];rfl
theorem aXf {n:Nat}(h:n < 18446744073709551616) (j:Nat):n / 256 ^ j < 18446744073709551616:=Nat.lt_of_le_of_lt (Nat.div_le_self _ _) h
theorem aSm (n m:Nat) (hn:n < 18446744073709551616) (h0:1<=m) (hm:m<=8):vZ Tryz.prog 50 [.d (.int .u64 n), .d (.int .i64 m)] 5 (beN m n):=by
 refine mX ?_
 refine aG false [] hty Tryz.func50 rfl (kp [0,1,4,5,6,12]) 100 (by simp [Tryz.f50]) ?_
 refine qX ?_;intros
 refine aD hty (λj:Nat=>([(0, .d (.int .u64 ((n / 256 ^ j:Nat):Int))),(1, .d (.int .i64 m)),(5, .mw 108 1 m),(6, .d (.int .i64 ((m:Int) - 1 - (j:Int))))],[(108, .mrow 5 1 m ((aQh m j n).map aN))])) (λj=>j<=m) (λj=>m - j) 0 (by omega) ?_ ?_
 ·rw [Int.toNat_natCast]
  refine⟨?_, ?_⟩
  ·dsimp only
   rw [Nat.pow_zero,Nat.div_one,show ((m:Int) - 1 - ((0:Nat):Int))=(m:Int) - 1 by omega]
   exact qB
  ·dsimp only
   rw [aUh]
   exact⟨rfl,trivial⟩
 intro j q
 have f:((aQh m j n).map aN).length=m:=by rw [List.length_map,aXw m j n q]
 have hd:=aXf hn j
 have b:j < m-> ∃g,((aQh m j n).map aN)[m - 1 - j]? =some g:= λh=>⟨_,List.getElem?_eq_getElem (by rw [f];omega)⟩
 have a:j < m->_:=aXv m j n
 have k:n / 256 ^ (j+1)=n / 256 ^ j / 256:=by rw [Nat.pow_succ,Nat.div_div_eq_div_mul]
 generalize hx:n / 256 ^ j=x at *
 refine qX ?_;intros
 refine aA (λl=> ?_) (λl=> ?_)
 ·have c:j < m:=by omega
  obtain⟨g,b⟩:=b c
  replace a:=a c
  have i:((m:Int) - 1 - (j:Int)).toNat=m - 1 - j:=by omega
  have o:=bE1 x
  have p:=bE2 x
  have hb:IntKind.u8.wrap (((x:Nat):Int).tmod 256)=(((UInt8.ofNat (x % 256)).toNat:Nat):Int):=by
   rw [o,oX]
   show ((x % 256:Nat):Int) % 256=_
   omega
  have r:IntKind.u64.wrap (((x:Nat):Int).tdiv 256)=((x / 256:Nat):Int):=by rw [p];exact gK _ (by omega)
  rw [<-i]at b a
  refine qZ ?_;intros
  rw [hb,r,show ((m:Int) - 1 - (j:Int) - 1)=(m:Int) - 1 - ((j+1:Nat):Int)by omega]
  refine⟨j+1,qO,qO, ?_⟩
  dsimp only
  rw [k,<-a]
  exact⟨qB,qB⟩
 ·have c:j=m:=by omega
  subst c
  rw [aXx]
  refine qX ?_;intros
  refine .inr ⟨108,j,j,rfl,rfl,(aW j n).symm, ?_⟩
  intro e
  have:=aW j n
  rw [e]at this
  simp at this
  omega
theorem aHb (z:Int):vZ Tryz.prog 155 [.d (.int .i64 z)] 5 (gJ z):=by
 have a:=aSm (uN z) 8 (bBm z) (by decide) (by decide)
 have e:IntKind.u64.wrap z=((uN z:Nat):Int):=by
  have e:IntKind.u64.wrap z=(z % 18446744073709551616):=rfl
  rw [e];unfold uN;omega
 rw [<-e]at a
 refine mX ?_
 refine aG false [] hty Tryz.func155 rfl (kp [0,2]) 100 (by simp [Tryz.f155]) ?_
 refine qX ?_;intros
 refine vT a 200 (bQ (by with_unfolding_all exact rfl)) ?_
 refine qX ?_;intros
 exact .inl ⟨200,_,rfl,rfl,dF _⟩
theorem aA7 (s:List UInt8) (hs:s.length<=100000000000000):vZ Tryz.prog 99 [.d (.str s)] 5 (bZ s):=by
 have a:=aSm s.length 4 (by omega) (by decide) (by decide)
 have e:IntKind.u64.wrap (s.length:Int)=((s.length:Nat):Int):=gK _ (by omega)
 rw [<-e]at a
 have hb63:((beN 4 s.length).map aN).length+(s.map aN).length<=9223372036854775807:=by rw [dF,dF,aW];omega
 have hb48:(((beN 4 s.length).map aN).length+(s.map aN).length)* 1<=140737488355328:=by rw [dF,dF,aW];omega
 refine mX ?_
 refine aG false [] hty Tryz.func99 rfl (kp [0,2]) 100 (by simp [Tryz.f99]) ?_
 refine qX ?_;intros
 refine vT a 200 (bQ (by with_unfolding_all exact rfl)) ?_
 refine qZ ?_;intros
 refine .inl ⟨200,_, ?_,rfl, ?_⟩
 ·unfold bZ;rw [dM];rfl
 ·unfold bZ;rw [List.length_append,dF,dF]
theorem aLa {a b:Nat}{p q:List UInt8}(hp:p.length=a) (hq:q.length=b) (h:a+b<=100000000000000):(p.map aN).length+(q.map aN).length<=9223372036854775807:=by rw [dF,dF];omega
theorem aLb {a b:Nat}{p q:List UInt8}(hp:p.length=a) (hq:q.length=b) (h:a+b<=100000000000000):((p.map aN).length+(q.map aN).length)* 1<=140737488355328:=by rw [dF,dF];omega
theorem aFg (n:Nat) (h:n<=100000000000000):vZ Tryz.prog 50 [.d (.int .u64 (IntKind.u64.wrap (n:Int))), .d (.int .i64 4)] 5 (beN 4 n):=by
 rw [gK _ (by omega)]
 exact aSm n 4 (by omega) (by decide) (by decide)
theorem uM (s:List UInt8) (p:Nat) (h:p+(bZ s).length<=100000000000000):s.length<=100000000000000:=by
 unfold bZ at h;rw [List.length_append,aW]at h;omega
theorem aW4 (l:List (List UInt8)) (hl:(cU bZ l).length<=100000000000000):vZ Tryz.prog 98 [.d (.sl 1 (l.map bJ))] 5 (cU bZ l):=by
 rw [fJ]at hl
 have hn:=iT (w:=bZ) (Nat.le_refl 1) (λs=>Nat.le_trans (by decide) (aGq s)) l
 have c:(l.map bJ).length=l.length:=List.length_map ..
 have i:=aFg l.length (by omega)
 refine mX ?_
 refine aG false [] hty Tryz.func98 rfl (kp [0,2,3,4,12]) 100 (by simp [Tryz.f98]) ?_
 refine qX ?_;intros
 rw [c]
 refine vT i 200 (bQ (by with_unfolding_all exact rfl)) ?_
 refine qX ?_;intros
 refine aD hty (λj:Nat=>([(0, .d (.sl 1 (l.map bJ))),(3, .osl 200 1 ((beN 4 l.length++((l.take j).map bZ).flatten).map aN)),(4, .d (.int .i64 j))],[(200, .own 5 1 ((beN 4 l.length++((l.take j).map bZ).flatten).map aN).length)])) (λj=>j<=l.length) (λj=>l.length - j) 0 (by omega) ⟨by dsimp only;rw [List.take_zero,List.map_nil,List.flatten_nil,List.append_nil];exact qB,by dsimp only;rw [List.take_zero,List.map_nil,List.flatten_nil,List.append_nil];exact⟨rfl,trivial⟩⟩ ?_
 intro j hj
 refine qX ?_;intros
 rw [c]
 refine aA (λh=> ?_) (λh=> ?_)
 ·have a:j < l.length:=by omega
  have b:(l.map bJ)[((j:Nat):Int).toNat]? =some (bJ l[j]):=bA a
  have g:beN 4 l.length++((l.take (j+1)).map bZ).flatten=beN 4 l.length++((l.take j).map bZ).flatten++bZ l[j]:=by rw [fF (w:=bZ) a,List.append_assoc]
  have f:=qH (w:=bZ) l (j+1)
  rw [fF (w:=bZ) a,List.length_append]at f
  have e:(beN 4 l.length++((l.take j).map bZ).flatten).length=4+(((l.take j).map bZ).flatten).length:=by rw [List.length_append,aW]
  have hb63:=aLa e (q:=bZ l[j]) rfl (by omega)
  have hb48:=aLb e (q:=bZ l[j]) rfl (by omega)
  have hx:=(aA7 l[j] (uM _ _ (Nat.le_trans f (by omega)))).tri
  rw [show bJ l[j]=[.str l[j]]from rfl]at b
  generalize beN 4 l.length++((l.take j).map bZ).flatten=q at *
  refine qZ ?_;intros
  refine⟨j+1,qO,qO, ?_⟩
  dsimp only
  rw [g,dM,List.length_append]
  exact⟨qB,qB⟩
 ·have a:j=l.length:=by omega
  subst a
  rw [List.take_length]
  refine qX ?_;intros
  exact .inl ⟨200,_,rfl,rfl,dF _⟩
theorem aD8: ∀c:Cn,(wC c).length<=100000000000000->vZ Tryz.prog 97 [.d (.agg (cnR c))] 5 (wC c):=by
 refine Cn.ind ?_
 intro c G hp
 rw [aJj]at hp |-
 rw [aJ]
 generalize c.kind=kd at *
 generalize c.name=nm at *
 generalize c.lo=lo at *
 generalize c.hi=hi at *
 generalize c.parts=l at *
 simp only [List.length_append,aS,cY,fJ]at hp
 have hn:=iT (w:=wC) (Nat.le_refl 1) aQp l
 have o:(l.map cnR).length=l.length:=List.length_map ..
 have E:=(aFg l.length (by omega)).tri
 have C:=(aA7 nm (uM nm 0 (by omega))).tri
 have i:=(aHb lo).tri
 have e:=(aHb hi).tri
 have s:[[D.int .u8 (IntKind.u8.wrap kd)]]=(jE kd).map aN:=by rw [aXs];rfl
 have t:1+((bZ nm).map aN).length=((jE kd++bZ nm).map aN).length:=by rw [nH,dF (jE kd),aS]
 have g:1+((bZ nm).map aN).length<=9223372036854775807:=by rw [dF];omega
 have x:(1+((bZ nm).map aN).length)* 1<=140737488355328:=by rw [dF];omega
 refine mX ?_
 refine aG false [1] hty Tryz.func97 rfl (kp [0,1,2,3,4,33]) 100 (by simp [Tryz.f97]) ?_
 refine qX ?_;intros
 refine aK.mid [(1, .ea 5 [[.int .i64 kd, .str nm, .int .i64 lo, .int .i64 hi, .sl 5 (l.map cnR)]] 0 0),(3, .osl 108 1 ([[.int .u8 (IntKind.u8.wrap kd)]]++(bZ nm).map aN))] [(108, .own 5 1 (1+((bZ nm).map aN).length))] ?_ ?_
 ·(refine dN (id:=1) hty (.first 0 (.first 1 (.first 2 (.first 4 (.first 5 (.alt 3 (.alt 6 (.alt 7 (.first 8 .done) .stop) .stop) (.alt 6 (.alt 3 (.alt 7 (.first 8 .done) .stop) .stop) .stop))))))) (by kernel_rfl) (by kernel_rfl) ?_)
  (repeat' first|(refine qW ?_;intros)|((conv=>whnf);first|(refine And.intro g ?_)|(refine And.intro x ?_)|refine qT C ?_|exact trivial|(refine And.intro ?_ ?_)|refine dwR ?_|((first|refine aA ?_ ?_|refine aC ?_ ?_)<;>intro hb<;>(first|exact ddX hb|try simp only [lnS]at hb))|(refine aB ?_ ?_<;>intro hb<;>try exact dsX hb)))
  all_goals exact⟨qB,qB⟩
 rw [s,t,<-dM]
 have p:((jE kd++bZ nm).map aN).length+((gJ lo).map aN).length<=9223372036854775807:=aLa rfl (cY lo) (by simp only [List.length_append,aS];omega)
 have r:(((jE kd++bZ nm).map aN).length+((gJ lo).map aN).length)* 1<=140737488355328:=aLb rfl (cY lo) (by simp only [List.length_append,aS];omega)
 have m:((jE kd++bZ nm).map aN++(gJ lo).map aN).length+((gJ hi).map aN).length<=9223372036854775807:=by simp only [dF,cY,List.length_append,aS];omega
 have k:(((jE kd++bZ nm).map aN++(gJ lo).map aN).length+((gJ hi).map aN).length)* 1<=140737488355328:=by simp only [dF,cY,List.length_append,aS];omega
 refine qX ?_;intros
 refine aK.mid [(1, .ea 5 [[.int .i64 kd, .str nm, .int .i64 lo, .int .i64 hi, .sl 5 (l.map cnR)]] 0 0),(3, .osl 108 1 ((jE kd++bZ nm).map aN++(gJ lo).map aN++(gJ hi).map aN))] [(108, .own 5 1 (((jE kd++bZ nm).map aN++(gJ lo).map aN).length+((gJ hi).map aN).length))] ?_ ?_
 ·(refine dN (id:=2) hty (.first 0 (.first 1 (.first 2 (.first 5 (.first 6 (.alt 3 (.alt 4 (.alt 7 (.alt 8 (.first 9 .done) .stop) .stop) .stop) .stop)))))) (by kernel_rfl) (by kernel_rfl) ?_)
  (repeat' first|(refine qW ?_;intros)|((conv=>whnf);first|(refine And.intro p ?_)|(refine And.intro r ?_)|(refine And.intro m ?_)|(refine And.intro k ?_)|refine qT i ?_|refine qT e ?_|exact trivial|(refine And.intro ?_ ?_)|refine dwR ?_|((first|refine aA ?_ ?_|refine aC ?_ ?_)<;>intro hb<;>(first|exact ddX hb|try simp only [lnS]at hb))|(refine aB ?_ ?_<;>intro hb<;>try exact dsX hb)))
  all_goals exact⟨qB,qB⟩
 rw [<-dM,<-dM,<-nH]
 have h:(jE kd++bZ nm++gJ lo++gJ hi).length=1+(bZ nm).length+8+8:=by simp only [List.length_append,aS,cY]
 have y:=aLa h (aW 4 l.length) (by omega)
 have B:=aLb h (aW 4 l.length) (by omega)
 have b:jE kd++(bZ nm++(gJ lo++(gJ hi++cU wC l)))=jE kd++bZ nm++gJ lo++gJ hi++beN 4 l.length++(l.map wC).flatten:=by
  unfold cU;simp only [List.append_assoc]
 rw [b]
 clear b s t g x p r m k C i e
 generalize jE kd++bZ nm++gJ lo++gJ hi=q at *
 have hrr:(q++beN 4 l.length).length=q.length+4:=by rw [List.length_append,aW]
 refine qX ?_;intros
 rw [o]
 refine qZ ?_;intros
 rw [<-dM,<-nH]
 generalize q++beN 4 l.length=v at *
 clear y B E
 refine aD hty (λj:Nat=>([(1, .ea 5 [[.int .i64 kd, .str nm, .int .i64 lo, .int .i64 hi, .sl 5 (l.map cnR)]] 0 0),(3, .osl 108 1 ((v++((l.take j).map wC).flatten).map aN)),(4, .d (.int .i64 j))],[(108, .own 5 1 ((v++((l.take j).map wC).flatten).map aN).length)])) (λj=>j<=l.length) (λj=>l.length - j) 0 (by omega) ⟨by dsimp only;rw [List.take_zero,List.map_nil,List.flatten_nil,List.append_nil];exact qB,by dsimp only;rw [List.take_zero,List.map_nil,List.flatten_nil,List.append_nil];exact⟨rfl,trivial⟩⟩ ?_
 intro j hj
 refine qX ?_;intros
 rw [o]
 refine aA (λF=> ?_) (λF=> ?_)
 ·have a:j < l.length:=by omega
  have f:(l.map cnR)[((j:Nat):Int).toNat]? =some (cnR l[j]):=bA a
  have A:v++((l.take (j+1)).map wC).flatten=v++((l.take j).map wC).flatten++wC l[j]:=by rw [fF (w:=wC) a,List.append_assoc]
  have z:=qH (w:=wC) l (j+1)
  rw [fF (w:=wC) a,List.length_append]at z
  have hx:=(G l[j] (List.getElem_mem a) (by omega)).tri
  rw [aJ]at f hx
  have n:(v++((l.take j).map wC).flatten).length=v.length+(((l.take j).map wC).flatten).length:=by rw [List.length_append]
  have hb63:=aLa n (q:=wC l[j]) rfl (by omega)
  have hb48:=aLb n (q:=wC l[j]) rfl (by omega)
  generalize v++((l.take j).map wC).flatten=u at *
  refine qZ ?_;intros
  refine⟨j+1,qO,qO, ?_⟩
  dsimp only
  rw [A,dM,List.length_append]
  exact⟨qB,qB⟩
 ·have a:j=l.length:=by omega
  subst a
  rw [List.take_length]
  refine qX ?_;intros
  exact .inl ⟨108,_,rfl,rfl,dF _⟩
end
end Go.Proofs.YtbobcfjlbcgchaaGreatDoor
