/-
  Objects: how long what is written is, and that changed bytes are refused; plain. Canonical parts are valid and their own canonical forms; ledgers, plainly. Ledgers, plainly: adding, finding, before; entries in bytes. The canonical form does not depend on the order in which the variables are listed; plain. The library's sort of atoms, as it lies in this program. Queries: the numbers of parts and atoms; the told variables. Roles: which roles are simple where there are no axioms.
  Conditions: none.
-/
import Derived.Test.YtdjfkmkdkclahaaGreatDoorWOh
import Derived.Test.YtdjfkmkdkclahaaGreatDoorWXv
import Derived.Test.YtdjfkmkdkclahaaGreatDoorWSng
import Derived.Test.YtdjfkmkdkclahaaGreatDoorWTy
import Derived.Test.YtdjfkmkdkclahaaGreatDoorWSw
import Derived.Test.YtdjfkmkdkclahaaGreatDoorWLzp
import Derived.Ground.SlsfProg
import Derived.Test.YtdjfkmkdkclahaaGreatDoorWQqa
import Derived.Test.YtdjfkmkdkclahaaGreatDoorWSne
set_option linter.unnecessarySimpa false
set_option linter.unusedSectionVars false
set_option linter.unusedSimpArgs false
set_option linter.unusedVariables false
set_option maxHeartbeats 16000000
namespace Go.Proofs.YtdjfkmkdkclahaaGreatDoor
section
open Go.Proofs
end
section
open Go.Proofs
def ptE (p:List At):Int:=qE ⟨[],[p]⟩
theorem aN3 (p:List At):ptE p=if p.length < 1\/12 < p.length then 210 else if bS p≠0 then bS p else if 8 < (aQ p).length then 210 else 0:=by
 unfold ptE qE
 dsimp only
 rw [if_neg (show ¬ (([p]:List (List At)).length < 1\/4 < ([p]:List (List At)).length\/3 < ([]:List bG).length)by simp)]
 have h1:(([p]:List (List At)).any λp=>decide (p.length < 1) || decide (12 < p.length))=decide (p.length < 1\/12 < p.length):=by
  simp [Bool.eq_iff_iff]
 have h2:oQ [] [p]=0:=by simp [oQ]
 rw [h1,h2,wS]
 simp only [decide_eq_true_eq,List.flatten_cons,List.flatten_nil,List.append_nil,ne_eq,not_true_eq_false,if_false,List.any_cons,List.any_nil,Bool.or_false]
theorem aBd {p:List At}:ptE p=0↔(1<=p.length/\p.length<=12)/\(∀a∈p,atE a=0)/\(aQ p).length<=8:=by
 rw [aN3,<-eF]
 constructor
 ·intro h
  split at h
  ·simp at h
  ·split at h
   ·exact absurd h (by assumption)
   ·split at h
    ·simp at h
    ·rename_i h1 h2 h3
     exact⟨by omega,Decidable.not_not.1 h2,by omega⟩
 ·rintro⟨h1,h2,h3⟩
  rw [if_neg (by omega),if_neg (by rw [h2];simp),if_neg (by omega)]
theorem zP {p:List At}{s:bG}(h:s∈aQ p):aS s=true:=by
 have:=((cB p).2 s).1 h
 unfold bQ at this
 exact(List.mem_filter.1 this).2
theorem vT (a:At): ∀l:List At,(nQ a l).length<=l.length+1
 | []=>by simp [nQ]
 |b::r=>by
  have:=vT a r
  rw [nQ]
  split
  ·simp only [List.length_cons];omega
  ·split
   ·simp
   ·simp
theorem aB5: ∀l:List At,(lV l).length<=l.length
 | []=>Nat.le_refl _
 |a::r=>by
  have h1:=vT a (lV r)
  have h2:=aB5 r
  show (nQ a (lV r)).length<=r.length+1
  omega
theorem aNu {ρ:bG->bG}{a:At}(hx:dJ a.x=true->dJ (ρ a.x)=true) (hy:dJ a.y=true->dJ (ρ a.y)=true) (h0:ρ []=[]) (h:atE a=0):atE (rpA ρ a)=0:=by
 unfold atE at h |-
 unfold rpA
 dsimp only
 split at h
 ·simp at h
 ·rename_i h1
  split at h
  ·simp at h
  ·rename_i h2
   split at h
   ·simp at h
   ·rename_i h3
    split at h
    ·simp at h
    ·rename_i h4
     split at h
     ·simp at h
     ·rename_i h5
      split at h
      ·simp at h
      ·rename_i h6
       rw [if_neg h1,if_neg,if_neg h3,if_neg h4,if_neg,if_neg]
       ·rintro⟨hk,ht⟩
        have:dJ a.y=true:=by
         cases hc:dJ a.y with
         |true=>rfl
         |false=>exact absurd ⟨hk,hc⟩ h6
        rw [hy this]at ht
        cases ht
       ·rw [hx (by simpa using h5)];simp
       ·rintro(⟨hk,hne⟩|hk)
        ·have:a.y=[]:=Decidable.byContradiction λe=>h2 (.inl ⟨hk,e⟩)
         rw [this,h0]at hne
         exact hne rfl
        ·exact h2 (.inr hk)
instance decAt:DecidableEq At:= λa b=>decidable_of_iff (bE a b=0) dG
structure Ent where
 no:Int
 part:List At
structure Lg where
 reader:bG
 version:Int
 entries:List Ent
def rdF (s:bG):Bool:=cQ s && (!s.contains 58 && !decide (s.head?=some 95))
def wG (n:Int):Bool:=decide (1<=n/\n<=1024)
def aMl (bef:List Ent) (i:Nat) (x:Ent):Int:=if x.no≠(i:Int)+1 then 380 else if ptE x.part≠0 then ptE x.part else if dU x.part=x.part/\x.part∉bef.map Ent.part then 0 else 380
def rN:List Ent->List Ent->Int
 |_,[]=>0
 |bef,x::r=>if aMl bef bef.length x≠0 then aMl bef bef.length x else rN (bef++[x]) r
def lgE (l:Lg):Int:=if rdF l.reader=false\/wG l.version=false then 1 else if 1024 < l.entries.length then 2 else rN [] l.entries
def lg0:Lg:=⟨[],0,[]⟩
def aDs (s:bG) (n:Int):Lg×Int:=if rdF s=false\/wG n=false then (lg0,1)else (⟨s,n,[]⟩,0)
def aK5:List Ent->List At->Option Int
 | [],_=>none
 |x::r,p=>if x.part=p then some x.no else aK5 r p
def mN (l:Lg) (p:List At):Lg×Int×Int:=
 if lgE l≠0 then (lg0,0,lgE l)else if ptE p≠0 then (lg0,0,ptE p)else
 match aK5 l.entries (dU p)with
 |some no=>(l,no,0)
 |none=>if 1024<=l.entries.length then (lg0,0,380)else (⟨l.reader,l.version,l.entries++[⟨(l.entries.length:Int)+1,dU p⟩]⟩,(l.entries.length:Int)+1,0)
def aIy (l:Lg) (p:List At):Int×Bool:=if ptE p≠0 then (0,false)else match aK5 l.entries (dU p)with
 |some no=>(no,true)
 |none=>(0,false)
def aLq (l:Lg):Int:=max 0 (1024 - (l.entries.length:Int))
end
section
open Go.Proofs
instance decEnt:DecidableEq Ent:= λa b=>decidable_of_iff (a.no=b.no/\a.part=b.part) (by cases a;cases b;simp)
def aCc (a b:Lg):Bool:=decide (a.reader=b.reader) && (decide (a.version=b.version) && decide (a.entries=b.entries.take a.entries.length))
theorem oJ {a b:Lg}:aCc a b=true↔a.reader=b.reader/\a.version=b.version/\a.entries=b.entries.take a.entries.length:=by
 unfold aCc
 rw [Bool.and_eq_true,Bool.and_eq_true,decide_eq_true_eq,decide_eq_true_eq,decide_eq_true_eq]
theorem aGu (a:Lg):aCc a a=true:=oJ.2 ⟨rfl,rfl,by rw [List.take_length]⟩
theorem aEi {α:Type}{l m:List α}(h:l=m.take l.length):l.length<=m.length:=by
 have:=congrArg List.length h
 rw [List.length_take]at this
 omega
theorem aH1 {p q:List At}(hp:ptE p=0) (hq:ptE q=0) (h:dU p=dU q) (l:Lg):mN l p=mN l q:=by
 unfold mN
 rw [hp,hq,h]
abbrev EnT:=bG×Int×Ent
def aHd:EnT:=([],0,⟨0,[]⟩)
def enE (y:EnT):Int:=if rdF y.1=false\/wG y.2.1=false\/y.2.2.no < 1\/1024 < y.2.2.no then 1 else ptE y.2.2.part
def wEn (y:EnT):List UInt8:=kN y.1++(aJo y.2.1++(aJo y.2.2.no++wQy ⟨[],[y.2.2.part]⟩))
def aHb (y:EnT):List UInt8×Int:=if enE y=0 then (wEn y,0)else ([],enE y)
def rPt:Rd (List At):= λb=>match vY rQy aDp qy0 280 b with
 |(⟨[],[p]⟩,0)=>some (p,[])
 |_=>none
def rEn:Rd EnT:=dW aDr λs=>dW aBc λn=>dW aBc λno=>lW rPt λp=>(s,n,⟨no,p⟩)
end
section
open Go.Proofs
theorem aJq (a:At):rpA id a=a:=by cases a;rfl
theorem yR {p:List At}{H H':List bG}(hn:H.Nodup) (hn':H'.Nodup) (hm: ∀s,s∈H↔s∈H') {w':List Nat}(hw:w'.Perm (List.range H'.length)): ∃w:List Nat,w.Perm (List.range H.length)/\dB p H w=dB p H' w':=by
 have hl:H.length=H'.length:=((List.perm_ext_iff_of_nodup hn hn').2 hm).length_eq
 obtain⟨w,h1,h2⟩:=aE0 (σ:=id) hn hn' hl (λs hs=>(hm s).1 hs) (λs _ t _ e=>e) hw
 refine⟨w,h1,aAo (ρ:=id) (λx=> ?_) λa ha=> ?_⟩
 ·rw [List.mem_map]
  exact⟨λh=>⟨x,h,aJq x⟩,λ⟨a,h,e⟩=>by rw [aJq]at e;rw [<-e];exact h⟩
 ·have one: ∀s,gW H w s=gW H' w' (id s):=by
   intro s
   by_cases hs:s∈H
   ·exact h2 s hs
   ·rw [show gW H w s=s from nB _ _ _ hs,show gW H' w' (id s)=s from nB _ _ _ (λh=>hs ((hm s).2 h))]
  exact⟨one _,one _⟩
theorem aGo {p:List At}{y:List At}{H:List bG}(hn:H.Nodup) (hm: ∀s,s∈H↔s∈aQ p) (hN:(aQ p).length<=8) (hy:IsCan p H y):y=dU p:=by
 refine aK8 hN ?_
 obtain⟨w,hw,e⟩:=hy.ex
 obtain⟨w1,hw1,e1⟩:=yR (p:=p) (dA p).2 hn (λs=>(hm s).symm) hw
 refine⟨⟨w1,hw1,by rw [e,e1]⟩,λw2 hw2=> ?_⟩
 obtain⟨w3,hw3,e3⟩:=yR (p:=p) hn (dA p).2 hm hw2
 rw [<-e3]
 exact hy.le w3 hw3
theorem zO {p q:List At}(h: ∀x,x∈p↔x∈q) (s:bG):s∈aQ p↔s∈aQ q:=by
 rw [(cB p).2,(cB q).2]
 unfold bQ
 rw [List.mem_filter,List.mem_filter,List.mem_flatMap,List.mem_flatMap]
 constructor
 ·rintro⟨⟨a,ha,hs⟩,hl⟩
  exact⟨⟨a,(h a).1 ha,hs⟩,hl⟩
 ·rintro⟨⟨a,ha,hs⟩,hl⟩
  exact⟨⟨a,(h a).2 ha,hs⟩,hl⟩
theorem nW (p:List At) (s:bG):s∈aQ (lV p)↔s∈aQ p:=zO (iN p).m s
theorem mO (p:List At):(aQ (lV p)).length=(aQ p).length:=((List.perm_ext_iff_of_nodup (dA _).2 (dA _).2).2 (nW p)).length_eq
theorem aNp {p:List At}(hN:(aQ p).length<=8):dfs (lV p) (aQ (lV p)) (aQ (lV p)).length 0 (List.replicate (aQ (lV p)).length none) none=some (dU p):=by
 have hv:Vof p (aQ (lV p)):= λa ha=>⟨λh=>(nW p _).2 (((dA p).1 a ha).1 h),λh=>(nW p _).2 (((dA p).1 a ha).2 h)⟩
 obtain⟨y,e,hy⟩:=aGg (iN p) hv (dA _).2 (by rw [mO];exact hN)
 rw [e,aGo (dA _).2 (nW p) hN hy]
abbrev Mp:=List (bG×bG)
def gF (F:Mp) (s:bG):bG:=(sK F s).getD s
theorem gO {β:Type}(k k':bG) (s:β): ∀F:List (bG×β),sK (yA F k s) k'=if k'=k then some s else sK F k'
 | []=>by
  rw [yA]
  unfold sK
  rfl
 |(x,y)::r=>by
  rw [yA]
  by_cases h:k=x
  ·rw [if_pos h,sK,sK]
   subst h
   split
   ·rfl
   ·rfl
  ·rw [if_neg h,sK,sK,gO k k' s r]
   by_cases h2:k'=x
   ·rw [if_pos h2,if_pos h2,if_neg (λe=>h (by rw [<-e,h2]))]
   ·rw [if_neg h2,if_neg h2]
structure MpOk (H:List bG) (a:Asg) (F:Mp):Prop where
 out: ∀s,s∉H->sK F s=none
 got: ∀(i k:Nat) (s:bG),H[i]? =some s->a[i]? =some (some k)->sK F s=some (nmV k)
theorem MpOk.nil {H:List bG}:MpOk H (List.replicate H.length none) []:=by
 refine⟨λs _=>rfl,λi k s _ h=> ?_⟩
 rw [List.getElem?_replicate]at h
 split at h
 ·cases h
 ·cases h
structure MpN (H:List bG) (a:Asg) (n j:Nat) (F:Mp):Prop extends MpOk H a F where
 nx: ∀(i:Nat) (s:bG),i < j->H[i]? =some s->a[i]? =some none->sK F s=some (nmV (n+1))
theorem MpN.zero {H:List bG}{a:Asg}{n:Nat}{F:Mp}(h:MpOk H a F):MpN H a n 0 F:=⟨h,λi s hi=>by omega⟩
theorem aBm {H:List bG}(hH:H.Nodup) {i j:Nat}{s:bG}(h1:H[i]? =some s) (h2:H[j]? =some s):i=j:=by
 obtain⟨a1,a2⟩:=List.getElem?_eq_some_iff.1 h1
 obtain⟨b1,b2⟩:=List.getElem?_eq_some_iff.1 h2
 have hp:=List.pairwise_iff_getElem.1 hH
 rcases Nat.lt_trichotomy i j with h|h|h
 ·exact absurd (a2.trans b2.symm) (hp i j a1 b1 h)
 ·exact h
 ·exact absurd (b2.trans a2.symm) (hp j i b1 a1 h)
theorem MpN.skip {H:List bG}{a:Asg}{n j:Nat}{F:Mp}(h:MpN H a n j F) {k:Nat}(ha:a[j]? =some (some k)):MpN H a n (j+1) F:=
 ⟨h.toMpOk, λi s hi hs hn => by
  rcases Nat.lt_or_ge i j with hlt|hge
  ·exact h.nx i s hlt hs hn
  ·obtain rfl:i=j:=by omega
   rw [ha]at hn;cases hn⟩
theorem MpN.set {H:List bG}(hH:H.Nodup) {a:Asg}{n j:Nat}{F:Mp}(h:MpN H a n j F) {s:bG}(hs:H[j]? =some s) (ha:a[j]? =some none):MpN H a n (j+1) (yA F s (nmV (n+1))):=by
 refine⟨⟨λt ht=> ?_,λi k t h1 h2=> ?_⟩,λi t hi h1 h2=> ?_⟩
 ·rw [gO,if_neg (λe=>ht (by rw [e];exact List.mem_of_getElem? hs))]
  exact h.out t ht
 ·rw [gO,if_neg (λe=> ?_)]
  ·exact h.got i k t h1 h2
  ·subst e
   obtain rfl:=aBm hH h1 hs
   rw [ha]at h2;cases h2
 ·rw [gO]
  split
  ·rfl
  ·rename_i hne
   refine h.nx i t ?_ h1 h2
   rcases Nat.lt_or_ge i j with hlt|hge
   ·exact hlt
   ·obtain rfl:i=j:=by omega
    rw [hs]at h1
    injection h1 with h1
    exact absurd h1.symm hne
theorem MpN.all {H:List bG}(hH:H.Nodup) {a:Asg}{n:Nat}{F:Mp}(hl:a.length=H.length) (h:MpN H a n H.length F) (s:bG):gF F s=gV H (fI a n) s:=by
 unfold gF
 by_cases hs:s∈H
 ·obtain⟨i,hi⟩:=List.getElem?_of_mem hs
  have hil:=(List.getElem?_eq_some_iff.1 hi).1
  have ha:a[i]? =some (a[i]'(by omega)):=List.getElem?_eq_getElem (by omega)
  have hv:(fI a n)[i]? =some (nmV ((a[i]'(by omega)).getD (n+1))):=by unfold fI;rw [List.getElem?_map,ha];rfl
  rw [aG5 hH hi hv]
  cases hc:a[i]'(by omega)with
  |none=>rw [h.nx i s hil hi (by rw [ha,hc])];rfl
  |some k=>rw [h.got i k s hi (by rw [ha,hc])];rfl
 ·rw [h.out s hs,nB _ _ _ hs];rfl
theorem MpOk.name {H:List bG}(hH:H.Nodup) {a:Asg}{i k:Nat}{F:Mp}(h:MpOk H a F) {s:bG}(hs:H[i]? =some s) (ha:a[i]? =some none):MpOk H (a.set i (some k)) (yA F s (nmV k)):=by
 refine⟨λt ht=> ?_,λj m t h1 h2=> ?_⟩
 ·rw [gO,if_neg (λe=>ht (by rw [e];exact List.mem_of_getElem? hs))]
  exact h.out t ht
 ·rw [gO]
  by_cases e:i=j
  ·subst e
   rw [hs]at h1
   injection h1 with h1
   rw [if_pos h1.symm]
   rw [List.getElem?_set_self (List.getElem?_eq_some_iff.1 ha).1]at h2
   injection h2 with h2
   injection h2 with h2
   rw [h2]
  ·rw [if_neg (λet=> ?_)]
   ·rw [List.getElem?_set_ne e]at h2
    exact h.got j m t h1 h2
   ·subst et
    exact e (aBm hH hs h1)
theorem MpOk.back {H:List bG}{a:Asg}{i k:Nat}{F:Mp}(ha:a[i]? =some none) (h:MpOk H (a.set i (some k)) F):MpOk H a F:=by
 refine⟨h.out,λj m t h1 h2=>h.got j m t h1 ?_⟩
 by_cases e:i=j
 ·subst e
  rw [ha]at h2;cases h2
 ·rw [List.getElem?_set_ne e];exact h2
def aC6 (P:List At) (H:List bG) (f n:Nat) (a:Asg) (best:Option (List At)) (j:Nat):Option (List At):=
 (List.range j).foldl (λbest i=>if a[i]? =some none then dfs P H f (n+1) (a.set i (some (n+1))) best else best) best
theorem aGh {P:List At}{H:List bG}{f n:Nat}{a:Asg}{best:Option (List At)}{j k:Nat}(h:a[j]? =some (some k)):aC6 P H f n a best (j+1)=aC6 P H f n a best j:=by
 unfold aC6
 rw [List.range_succ,List.foldl_append,List.foldl_cons,List.foldl_nil,if_neg (by rw [h];simp)]
theorem aM1 {P:List At}{H:List bG}{f n:Nat}{a:Asg}{best:Option (List At)}{j:Nat}(h:a[j]? =some none):aC6 P H f n a best (j+1)=dfs P H f (n+1) (a.set j (some (n+1))) (aC6 P H f n a best j):=by
 unfold aC6
 rw [List.range_succ,List.foldl_append,List.foldl_cons,List.foldl_nil,if_pos h]
theorem aM0 {P:List At}{H:List bG}{f n:Nat}{a:Asg}{best:Option (List At)}(h:aM3 (yOf P H a n) best=true):dfs P H f n a best=best:=by
 cases f with
 |zero=>rw [dfs,if_pos h]
 |succ f=>rw [dfs,if_pos h]
theorem aJ0 {P:List At}{H:List bG}{n:Nat}{a:Asg}{best:Option (List At)}(h:aM3 (yOf P H a n) best=false):dfs P H 0 n a best=some (yOf P H a n):=by
 rw [dfs,if_neg (by rw [h];simp)]
theorem aJ1 {P:List At}{H:List bG}{f n:Nat}{a:Asg}{best:Option (List At)}(h:aM3 (yOf P H a n) best=false):dfs P H (f+1) n a best=aC6 P H f n a best a.length:=by
 rw [dfs,if_neg (by rw [h];simp)]
 rfl
theorem aEn {l m:List At}(hp:m.Perm l) (hs:m.Pairwise λa b=>¬ bE b a < 0):m=xH bE l:=
 uZ bC (λa b=>wD) (hp.trans (jJ _).symm) (hs.imp λ{a b} h=>by have:=bC.anti a b;omega) (eQ bC _)
end
section
open Go.Proofs Go.Shelf Go.Sort
set_option maxRecDepth 10000
theorem aB8:Tryz.sortAt_ren.t 24=60:=rfl
theorem aBv: ∀w,(isAgg (Tryz.sortAt_ren.t 24)).run Tryz.prog w= .ok true w:=by
 intro w
 rw [aB8]
 obtain⟨d,i,z,h⟩:=aL (hty 60 _ rfl)
 exact h.run_isAgg w
theorem aEr: ∀w,(Go.sizeOf (Tryz.sortAt_ren.t 24)).run Tryz.prog w= .ok 6 w:=by
 intro w
 rw [aB8]
 obtain⟨d,i,z,h⟩:=aL (hty 60 _ rfl)
 exact h.run_size w
end
section
open Go.Proofs Go.RowKit
set_option maxRecDepth 10000
attribute [local irreducible] aH aF Tri aD YVC bO aP
theorem rT (q:Qy):Tri Tryz.prog 60 [.d (.agg (qyR q))] [] (λr=>r= .d (.int .i64 (gK q))):=by
 obtain⟨told,parts⟩:=q
 show Tri Tryz.prog 60 [.d (.agg [.sl 1 (told.map aT), .sl 1 (parts.map aI)])] [] _
 have hlt:(told.map aT).length=told.length:=List.length_map ..
 have hlp:(parts.map aI).length=parts.length:=List.length_map ..
 by_cases h1:parts.length < 1\/4 < parts.length\/3 < told.length
 ·rw [show gK ⟨told,parts⟩=210 from if_pos h1]
  refine qG [1,4] hty Tryz.func60 [0,1,2,4,20,22,23,24,25,37] ?_
  ((conv=>whnf);repeat' ((first|(intro hq;(try simp only [lnS]at hq);(try rewrite [List.length_map]))|refine sJ ?_|refine qE_ ?_|refine exL (k:=?_)|refine dwR ?_|((first|refine aB ?_ ?_|refine aC ?_ ?_)<;>intro hb<;>(first|exact ddX hb|try simp only [lnS]at hb))|(refine aA ?_ ?_<;>intro hb<;>try exact dsX hb))<;>(conv=>whnf)))
  all_goals first|rfl|(exfalso;omega)
 rw [show gK ⟨told,parts⟩=if parts.any (λp=>decide (p.length < 1) || decide (12 < p.length))then 210 else 0 from if_neg h1]
 refine qG [1,4] hty Tryz.func60 [0,1,2,4,20,22,23,24,25,37] ?_
 ((conv=>whnf);repeat' ((first|(intro hq;(try simp only [lnS]at hq);(try rewrite [List.length_map]))|refine sJ ?_|refine qE_ ?_|refine exL (k:=?_)|refine dwR ?_|((first|refine aB ?_ ?_|refine aC ?_ ?_)<;>intro hb<;>(first|exact ddX hb|try simp only [lnS]at hb))|(refine aA ?_ ?_<;>intro hb<;>try exact dsX hb))<;>(conv=>whnf)))
 refine aG hty (λj:Nat=>([(22, .d (.sl 1 (parts.map aI))),(23, .d (.int .i64 parts.length)),(24, .d (.int .i64 j))],[])) (λj=>j<=parts.length/\(parts.take j).any (λp=>decide (p.length < 1) || decide (12 < p.length))=false) (λj=>parts.length - j) 0 ⟨by omega,rfl⟩ ⟨by repeat' (first|exact trivial|exact rfl|(rw [List.length_map];exact rfl)|refine And.intro ?_ ?_),trivial⟩ ?_
 rintro j ⟨hj,hn⟩
 ((conv=>whnf);repeat ((first |(intro hq;try simp only [lnS]at hq)|refine sI ?_|refine qE_ ?_);conv=>whnf))
 refine aB (λh2=> ?_) (λh2=> ?_)
 ·have hjl:j < parts.length:=by omega
  have hrow:(parts.map aI)[(j:Int).toNat]? =some (aI parts[j]):=aK hjl
  have hhit:=iE (F:= λp:List At=>decide (p.length < 1) || decide (12 < p.length)) hjl
  have hsuc:=fE (F:= λp:List At=>decide (p.length < 1) || decide (12 < p.length)) hjl hn
  generalize parts[j]=x at hrow hhit hsuc
  rw [show aI x=[.sl 6 (x.map atR)]from rfl]at hrow
  have hlx:(x.map atR).length=x.length:=List.length_map ..
  ((conv=>whnf);repeat' ((first|(intro hq;(try simp only [lnS]at hq);(try rewrite [List.length_map]))|refine sJ ?_|refine qE_ ?_|refine exL (k:=?_)| (refine⟨_,hrow, ?_⟩)|refine dwR ?_|((first|refine aB ?_ ?_|refine aC ?_ ?_)<;>intro hb<;>(first|exact ddX hb|try simp only [lnS]at hb))|(refine aA ?_ ?_<;>intro hb<;>try exact dsX hb))<;>(conv=>whnf)))
  ·rw [if_pos (hhit (by rw [Bool.or_eq_true,decide_eq_true_eq,decide_eq_true_eq];omega))];rfl
  ·rw [if_pos (hhit (by rw [Bool.or_eq_true,decide_eq_true_eq,decide_eq_true_eq];omega))];rfl
  ·refine⟨j+1,⟨by omega,hsuc (by rw [Bool.or_eq_false_iff,decide_eq_false_iff_not,decide_eq_false_iff_not];omega)⟩,qO,qB,trivial⟩
 ·have hjl:j=parts.length:=by omega
  subst hjl
  rw [List.take_length]at hn
  ((conv=>whnf);repeat' ((first|(intro hq;(try simp only [lnS]at hq);(try rewrite [List.length_map]))|refine sJ ?_|refine qE_ ?_|refine exL (k:=?_)|refine dwR ?_|((first|refine aB ?_ ?_|refine aC ?_ ?_)<;>intro hb<;>(first|exact ddX hb|try simp only [lnS]at hb))|(refine aA ?_ ?_<;>intro hb<;>try exact dsX hb))<;>(conv=>whnf)))
  rw [if_neg (by rw [hn];decide)];rfl
theorem tC (q:Qy) (hp: ∀p∈q.parts,p.length<=100000):Tri Tryz.prog 62 [.d (.agg (qyR q))] [] (λr=>r= .d (.int .i64 (oQ q.told q.parts))):=by
 obtain⟨told,parts⟩:=q
 dsimp only at hp |-
 rw [aB3]
 show Tri Tryz.prog 62 [.d (.agg [.sl 1 (told.map aT), .sl 1 (parts.map aI)])] [] _
 have hlt:(told.map aT).length=told.length:=List.length_map ..
 have hlp:(parts.map aI).length=parts.length:=List.length_map ..
 refine qG [1,8] hty Tryz.func62 [0,1,2,4,5,6,8,10,11,12,13,18,21,22,23,24,33,35,36,37,38,45] ?_
 ((conv=>whnf);repeat' ((first|(intro hq;(try simp only [lnS]at hq);(try rewrite [List.length_map]))|refine sJ ?_|refine qE_ ?_|refine exL (k:=?_)|refine dwR ?_|((first|refine aB ?_ ?_|refine aC ?_ ?_)<;>intro hb<;>(first|exact ddX hb|try simp only [lnS]at hb))|(refine aA ?_ ?_<;>intro hb<;>try exact dsX hb))<;>(conv=>whnf)))
 refine aG hty (λj:Nat=>([(1, .ea 2 [[.sl 1 (told.map aT), .sl 1 (parts.map aI)]] 0 0),(10, .d (.sl 1 (told.map aT))),(11, .d (.int .i64 told.length)),(12, .d (.int .i64 j))],[])) (λj=>j<=told.length/\(told.take j).any (λt=> !lU t)=false) (λj=>told.length - j) 0 ⟨by omega,rfl⟩ ⟨by repeat' (first|exact trivial|exact rfl|(rw [List.length_map];exact rfl)|refine And.intro ?_ ?_),trivial⟩ ?_
 rintro j ⟨hj,hn⟩
 ((conv=>whnf);repeat ((first |(intro hq;try simp only [lnS]at hq)|refine sI ?_|refine qE_ ?_);conv=>whnf))
 refine aB (λh2=> ?_) (λh2=> ?_)
 ·have hjl:j < told.length:=by omega
  have hrow:(told.map aT)[(j:Int).toNat]? =some (aT told[j]):=aK hjl
  have hhit:=iE (F:= λt:List UInt8=> !lU t) hjl
  have hsuc:=fE (F:= λt:List UInt8=> !lU t) hjl hn
  generalize told[j]=x at hrow hhit hsuc
  ((conv=>whnf);repeat' ((first|(intro hq;(try simp only [lnS]at hq);(try rewrite [List.length_map]))|refine sJ ?_|refine qE_ ?_|refine exL (k:=?_)| (refine⟨_,hrow, ?_⟩)|refine qT (jA x) ?_|refine dwR ?_|((first|refine aB ?_ ?_|refine aC ?_ ?_)<;>intro hb<;>(first|exact ddX hb|try simp only [lnS]at hb))|(refine aA ?_ ?_<;>intro hb<;>try exact dsX hb))<;>(conv=>whnf)))
  ·rw [if_pos (hhit hb)];rfl
  ·refine⟨j+1,⟨by omega,hsuc hb⟩,qO,qB,trivial⟩
 have hjl:j=told.length:=by omega
 subst hjl
 rw [List.take_length]at hn
 rw [if_neg (by rw [hn];decide)]
 clear hn h2
 ((conv=>whnf);repeat' ((first|(intro hq;(try simp only [lnS]at hq);(try rewrite [List.length_map]))|refine sJ ?_|refine qE_ ?_|refine exL (k:=?_)|refine dwR ?_|((first|refine aB ?_ ?_|refine aC ?_ ?_)<;>intro hb<;>(first|exact ddX hb|try simp only [lnS]at hb))|(refine aA ?_ ?_<;>intro hb<;>try exact dsX hb))<;>(conv=>whnf)))
 refine aG hty (λj:Nat=>([(1, .ea 2 [[.sl 1 (told.map aT), .sl 1 (parts.map aI)]] 0 0),(21, .d (.sl 1 (told.map aT))),(22, .d (.int .i64 told.length)),(23, .d (.int .i64 j))],[])) (λj=>j<=told.length/\(List.range j).any (aDv told parts)=false) (λj=>told.length - j) 0 ⟨by omega,rfl⟩ ⟨by repeat' (first|exact trivial|exact rfl|(rw [List.length_map];exact rfl)|refine And.intro ?_ ?_),trivial⟩ ?_
 rintro j ⟨hj,hn⟩
 ((conv=>whnf);repeat ((first |(intro hq;try simp only [lnS]at hq)|refine sI ?_|refine qE_ ?_);conv=>whnf))
 refine aB (λh2=> ?_) (λh2=> ?_)
 ·have hjl:j < told.length:=by omega
  have hrow:(told.map aT)[(j:Int).toNat]? =some (aT told[j]):=aK hjl
  have hhit:=kX (F:=aDv told parts) hjl
  have hsuc:=jY (F:=aDv told parts) hn
  have hbad:aDv told parts j=(decide (told[j]∈told.take j) || parts.any (λp=> !decide (told[j]∈bQ p))):=by
   unfold aDv
   rw [show told.getD j []=told[j]by rw [List.getD_eq_getElem?_getD,List.getElem?_eq_getElem hjl];rfl,List.contains_eq_mem]
   simp only [List.contains_eq_mem]
  have hc:=iA (told.take j) told[j]
  generalize told[j]=x at hrow hbad hc
  rw [List.map_take]at hc
  rw [hbad]at hhit hsuc
  ((conv=>whnf);repeat ((first|(refine⟨_,hrow, ?_⟩) |(intro hq;try simp only [lnS]at hq)|refine sI ?_|refine qE_ ?_);conv=>whnf))
  refine bP [] hc trivial (λr hs=> ?_)
  subst hs
  ((conv=>whnf);repeat ((first |(intro hq;try simp only [lnS]at hq)|refine sI ?_|refine qE_ ?_);conv=>whnf))
  refine aB (λh3=> ?_) (λh3=> ?_)
  ·((conv=>whnf);repeat' ((first|(intro hq;(try simp only [lnS]at hq);(try rewrite [List.length_map]))|refine sJ ?_|refine qE_ ?_|refine exL (k:=?_)|refine dwR ?_|((first|refine aB ?_ ?_|refine aC ?_ ?_)<;>intro hb<;>(first|exact ddX hb|try simp only [lnS]at hb))|(refine aA ?_ ?_<;>intro hb<;>try exact dsX hb))<;>(conv=>whnf)))
   rw [if_pos (hhit (by rw [decide_eq_true h3];rfl))];rfl
  rw [decide_eq_false h3,Bool.false_or]at hhit hsuc
  ((conv=>whnf);repeat ((first |(intro hq;try simp only [lnS]at hq)|refine sI ?_|refine qE_ ?_);conv=>whnf))
  refine aG hty (λi:Nat=>([(1, .ea 2 [[.sl 1 (told.map aT), .sl 1 (parts.map aI)]] 0 0),(6, .d (.str x)),(21, .d (.sl 1 (told.map aT))),(22, .d (.int .i64 told.length)),(23, .d (.int .i64 j)),(35, .d (.sl 1 (parts.map aI))),(36, .d (.int .i64 parts.length)),(37, .d (.int .i64 i))],[])) (λi=>i<=parts.length/\(parts.take i).any (λp=> !decide (x∈bQ p))=false) (λi=>parts.length - i) 0 ⟨by omega,rfl⟩ ⟨by repeat' (first|exact trivial|exact rfl|(rw [List.length_map];exact rfl)|refine And.intro ?_ ?_),trivial⟩ ?_
  rintro i ⟨hi,hm⟩
  ((conv=>whnf);repeat ((first |(intro hq;try simp only [lnS]at hq)|refine sI ?_|refine qE_ ?_);conv=>whnf))
  refine aB (λh4=> ?_) (λh4=> ?_)
  ·have hil:i < parts.length:=by omega
   have hrow2:(parts.map aI)[(i:Int).toNat]? =some (aI parts[i]):=aK hil
   have hhit2:=iE (F:= λp:List At=> !decide (x∈bQ p)) hil
   have hsuc2:=fE (F:= λp:List At=> !decide (x∈bQ p)) hil hm
   have hv:=eG parts[i] (hp _ (List.getElem_mem hil))
   have hc2:=iA (aQ parts[i]) x
   have hmem:=(cB parts[i]).2 x
   generalize parts[i]=y at hrow2 hhit2 hsuc2 hv hc2 hmem
   rw [show decide (x∈aQ y)=decide (x∈bQ y)from decide_eq_decide.2 hmem]at hc2
   generalize (aQ y).map aT=vy at hv hc2
   rw [show aI y=[.sl 6 (y.map atR)]from rfl]at hrow2 hv
   ((conv=>whnf);repeat' ((first|(intro hq;(try simp only [lnS]at hq);(try rewrite [List.length_map]))|refine sJ ?_|refine qE_ ?_|refine exL (k:=?_)| (refine⟨_,hrow2, ?_⟩)|refine qT hv ?_|refine qT hc2 ?_|refine dwR ?_|((first|refine aB ?_ ?_|refine aC ?_ ?_)<;>intro hb<;>(first|exact ddX hb|try simp only [lnS]at hb))|(refine aA ?_ ?_<;>intro hb<;>try exact dsX hb))<;>(conv=>whnf)))
   ·rw [if_pos (hhit (hhit2 (by rw [decide_eq_false hb];rfl)))];rfl
   ·exact⟨i+1,⟨by omega,hsuc2 (by rw [decide_eq_true hb];rfl)⟩,qO,qB,trivial⟩
  ·have hil:i=parts.length:=by omega
   subst hil
   rw [List.take_length]at hm
   ((conv=>whnf);repeat' ((first|(intro hq;(try simp only [lnS]at hq);(try rewrite [List.length_map]))|refine sJ ?_|refine qE_ ?_|refine exL (k:=?_)|refine dwR ?_|((first|refine aB ?_ ?_|refine aC ?_ ?_)<;>intro hb<;>(first|exact ddX hb|try simp only [lnS]at hb))|(refine aA ?_ ?_<;>intro hb<;>try exact dsX hb))<;>(conv=>whnf)))
   exact⟨j+1,⟨by omega,hsuc hm⟩,qO,qB,trivial⟩
 ·have hjl:j=told.length:=by omega
  subst hjl
  rw [if_neg (by rw [hn];decide)]
  ((conv=>whnf);repeat' ((first|(intro hq;(try simp only [lnS]at hq);(try rewrite [List.length_map]))|refine sJ ?_|refine qE_ ?_|refine exL (k:=?_)|refine dwR ?_|((first|refine aB ?_ ?_|refine aC ?_ ?_)<;>intro hb<;>(first|exact ddX hb|try simp only [lnS]at hb))|(refine aA ?_ ?_<;>intro hb<;>try exact dsX hb))<;>(conv=>whnf)))
  rfl
end
section
open Go.Proofs Go.RowKit
set_option maxRecDepth 10000
attribute [local irreducible] aH aF Tri aD YVC bO aP
theorem aA5:Tri Tryz.prog 191 [.d .nil] [] (λr=>r= .d (.int .i64 0)):=by
 refine qG [] hty Tryz.func191 [0,2,4,5,6,7,8,9,15] ?_
 ((conv=>whnf);repeat' ((first|(intro hq;(try simp only [lnS]at hq);(try rewrite [List.length_map]))|refine sJ ?_|refine qE_ ?_|refine exL (k:=?_)| (refine dC hty 2 ?_)|refine dwR ?_|((first|refine aB ?_ ?_|refine aC ?_ ?_)<;>intro hb<;>(first|exact ddX hb|try simp only [lnS]at hb))|(refine aA ?_ ?_<;>intro hb<;>try exact dsX hb))<;>(conv=>whnf)))
 rfl
theorem aGn (s:List UInt8):Tri Tryz.prog 145 [.d .nil, .d (.sl 1 [[.str s]])] [] (λr=>r= .d (.int .i64 (if cQ s then 0 else 20))):=by
 refine qG [] hty Tryz.func145 [0,1,4,5,7,8,12,14,15,16,17,23] ?_
 ((conv=>whnf);repeat' ((first|(intro hq;(try simp only [lnS]at hq);(try rewrite [List.length_map]))|refine sJ ?_|refine qE_ ?_|refine exL (k:=?_)| (refine dC hty 2 ?_)|refine qT aA5 ?_|refine qT (gE _) ?_|refine dwR ?_|((first|refine aB ?_ ?_|refine aC ?_ ?_)<;>intro hb<;>(first|exact ddX hb|try simp only [lnS]at hb))|(refine aA ?_ ?_<;>intro hb<;>try exact dsX hb))<;>(conv=>whnf)))
 all_goals (cases h:cQ s)
 all_goals first|rfl|(simp_all;done)|(simp_all;rfl)
theorem aL0 (s:List UInt8) (hn:cQ s=true):Tri Tryz.prog 102 [.d .nil, .d (.str s)] [] (λr=>r= .tup [.d (.bool true), .d (.int .i64 0)]):=by
 have h:=aGn s
 rw [if_pos hn]at h
 refine qG [] hty Tryz.func102 [0,1,4,5,6,7,9,10,12,18,21,22,23,24,29,47,48,49,50,66] ?_
 ((conv=>whnf);repeat ((first |(intro hq;try simp only [lnS]at hq)|refine sI ?_|refine qE_ ?_);conv=>whnf))
 refine bP [] (Tri.args (xs:=_) h ⟨cE.refl _,cE.osl,trivial⟩) trivial (λr hs=> ?_)
 subst hs
 ((conv=>whnf);repeat ((first |(intro hq;try simp only [lnS]at hq)|refine sI ?_|refine qE_ ?_);conv=>whnf))
 refine vP rfl rfl (λl=>D.str l) 34 (cO (by with_unfolding_all exact rfl)) ?_
 ((conv=>whnf);repeat ((first |(intro hq;try simp only [lnS]at hq)|refine sI ?_|refine qE_ ?_);conv=>whnf))
 refine dC hty 2 ?_
 ((conv=>whnf);repeat ((first |(intro hq;try simp only [lnS]at hq)|refine sI ?_|refine qE_ ?_);conv=>whnf))
 refine aN false [] hty Tryz.func146 rfl (kp [0,1,4,5,6,7,9,17,25,26,27,28,34]) 100 (by simp [Tryz.f146]) ?_
 ((conv=>whnf);repeat ((first |(intro hq;try simp only [lnS]at hq)|refine sI ?_|refine qE_ ?_);conv=>whnf))
 refine vP rfl rfl (λl=>D.str l) 35 (cO (by with_unfolding_all exact rfl)) ?_
 ((conv=>whnf);repeat ((first |(intro hq;try simp only [lnS]at hq)|refine sI ?_|refine qE_ ?_);conv=>whnf))
 refine lZ (.inr rfl) rfl (hU rfl) rfl rfl rfl rfl (λbs1 c1=> ?_)
 ((conv=>whnf);repeat ((first |(intro hq;try simp only [lnS]at hq)|refine sI ?_|refine qE_ ?_);conv=>whnf))
 refine dC hty 3 ?_
 ((conv=>whnf);repeat' ((first|(intro hq;(try simp only [lnS]at hq);(try rewrite [List.length_map]))|refine sJ ?_|refine qE_ ?_|refine exL (k:=?_)| (refine jO (id:=34) rfl rfl (hU rfl) rfl rfl rfl rfl ?_)|(refine dC hty 2 ?_)|refine dwR ?_|((first|refine aB ?_ ?_|refine aC ?_ ?_)<;>intro hb<;>(first|exact ddX hb|try simp only [lnS]at hb))|(refine aA ?_ ?_<;>intro hb<;>try exact dsX hb))<;>(conv=>whnf)))
 rfl
end
end Go.Proofs.YtdjfkmkdkclahaaGreatDoor
