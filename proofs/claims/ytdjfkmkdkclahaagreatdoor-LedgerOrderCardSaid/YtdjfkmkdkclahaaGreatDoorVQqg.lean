/-
  Objects: how long what is written is, and that changed bytes are refused; plain. Canonical parts are valid and their own canonical forms; ledgers, plainly. Ledgers, plainly: adding, finding, before; entries in bytes. The canonical form does not depend on the order in which the variables are listed; plain. The library's sort of atoms, as it lies in this program. Queries: the numbers of parts and atoms; the told variables. Roles: which roles are simple where there are no axioms.
  Conditions: none.
-/
import Derived.Test.YtdjfkmkdkclahaaGreatDoorVOh
import Derived.Test.YtdjfkmkdkclahaaGreatDoorVXv
import Derived.Test.YtdjfkmkdkclahaaGreatDoorVSng
import Derived.Test.YtdjfkmkdkclahaaGreatDoorVTy
import Derived.Test.YtdjfkmkdkclahaaGreatDoorVSna
import Derived.Test.YtdjfkmkdkclahaaGreatDoorVLzp
import Derived.Ground.SlsfProg
import Derived.Test.YtdjfkmkdkclahaaGreatDoorVQqa
import Derived.Test.YtdjfkmkdkclahaaGreatDoorVSne
set_option linter.unnecessarySimpa false
set_option linter.unusedSectionVars false
set_option linter.unusedSimpArgs false
set_option linter.unusedVariables false
set_option maxHeartbeats 16000000
namespace Go.Proofs.YtdjfkmkdkclahaaGreatDoor
open Go.Proofs
theorem mV (s:List UInt8):(bR s).length=4+s.length:=by unfold bR;rw [List.length_append,aU]
theorem wO (z:Int):(gK z).length=8:=aU ..
theorem jY {α:Type}{w:α->List UInt8}{k n:Nat}{l:List α}(h: ∀x∈l,(w x).length<=k) (hn:l.length<=n):(bL w l).length<=4+n * k:=by
 have h1:=jF h
 have h2:l.length * k<=n * k:=Nat.mul_le_mul_right _ hn
 unfold bL
 rw [List.length_append,aU]
 omega
theorem aC3 {a:At}(h:atE a=0):(wAt a).length<=101:=by
 have hn:a.name.length<=24/\a.x.length<=24/\a.y.length<=24:=by
  unfold atE at h
  split at h
  ·simp at h
  ·split at h
   ·simp at h
   ·split at h
    ·simp at h
    ·split at h
     ·simp at h
     ·split at h
      ·simp at h
      ·split at h
       ·simp at h
       ·rename_i h1 h2 h3 h4 h5 h6
        have q1:=wK (s:=a.name) (by simpa using h4)
        have q2:=iD (s:=a.x) (by simpa using h5)
        refine⟨q1,q2, ?_⟩
        by_cases hk:a.kind=2
        ·refine iD ?_
         cases ht:fQ a.y with
         |true=>rfl
         |false=>exact absurd ⟨hk,ht⟩ h6
        ·have:a.y=[]:=Decidable.byContradiction λhy=>h2 (Or.inl ⟨hk,hy⟩)
         rw [this];simp
 unfold wAt vS
 simp only [List.length_append,wO,mV,aU]
 omega
theorem aQf {q:Qy}(h:qE q=0):(q.told.length<=3/\ ∀s∈q.told,s.length<=17)/\q.parts.length<=4/\ ∀p∈q.parts,(1<=p.length/\p.length<=12)/\ ∀a∈p,atE a=0:=by
 unfold qE at h
 split at h
 ·simp at h
 ·split at h
  ·simp at h
  ·split at h
   ·exact absurd h (by assumption)
   ·split at h
    ·exact absurd h (by assumption)
    ·rename_i h1 h2 h3 h4
     have h3:=(cV _).1 (Decidable.not_not.1 h3)
     have h4:=Decidable.not_not.1 h4
     have ht: ∀s∈q.told,mW s=true:=by
      unfold sN at h4
      split at h4
      ·simp at h4
      ·rename_i h5
       intro s hs
       cases hv:mW s with
       |true=>rfl
       |false=>exact absurd (List.any_eq_true.2 ⟨s,hs,by rw [hv];rfl⟩) h5
     refine⟨⟨by omega,λs hs=>vU (ht s hs)⟩,by omega,λp hp=>⟨?_,λa ha=>h3 a (List.mem_flatten.2 ⟨p,hp,ha⟩)⟩⟩
     refine Decidable.byContradiction λhc=> ?_
     refine absurd (List.any_eq_true.2 ⟨p,hp, ?_⟩) h2
     rw [Bool.or_eq_true,decide_eq_true_eq,decide_eq_true_eq]
     omega
theorem aR5 {q:Qy}(h:qE q=0):(wQy q).length<=10000:=by
 obtain⟨⟨h1,h2⟩,h3,h4⟩:=aQf h
 have b1:=jY (w:=bR) (k:=21) (l:=q.told) (λs hs=>by rw [mV];have:=h2 s hs;omega) h1
 have b2 := jY (w := bL wAt) (k := 1216) (l := q.parts) (λp hp => by
  have:=jY (w:=wAt) (k:=101) (n:=12) (l:=p) (λa ha=>aC3 ((h4 p hp).2 a ha)) (h4 p hp).1.2
  omega) h3
 unfold wQy
 rw [List.length_append]
 omega
end Go.Proofs.YtdjfkmkdkclahaaGreatDoor
namespace Go.Proofs.YtdjfkmkdkclahaaGreatDoor
open Go.Proofs
def ptE (p:List At):Int:=qE ⟨[],[p]⟩
theorem aU9 (p:List At):ptE p=if p.length < 1\/12 < p.length then 210 else if cE p≠0 then cE p else if 8 < (cG p).length then 210 else 0:=by
 unfold ptE qE
 dsimp only
 rw [if_neg (show ¬ (([p]:List (List At)).length < 1\/4 < ([p]:List (List At)).length\/3 < ([]:List bZ).length)by simp)]
 have h1:(([p]:List (List At)).any λp=>decide (p.length < 1) || decide (12 < p.length))=decide (p.length < 1\/12 < p.length):=by
  simp [Bool.eq_iff_iff]
 have h2:sN [] [p]=0:=by simp [sN]
 rw [h1,h2,aDu]
 simp only [decide_eq_true_eq,List.flatten_cons,List.flatten_nil,List.append_nil,ne_eq,not_true_eq_false,if_false,List.any_cons,List.any_nil,Bool.or_false]
theorem aQi {p:List At}:ptE p=0↔(1<=p.length/\p.length<=12)/\(∀a∈p,atE a=0)/\(cG p).length<=8:=by
 rw [aU9,<-cV]
 constructor
 ·intro h
  split at h
  ·simp at h
  ·split at h
   ·exact absurd h (by assumption)
   ·split at h
    ·simp at h
    ·rename_i h1 h2 h3
     exact⟨by omega,Decidable.not_not.1 h2,by omega⟩
 ·rintro⟨h1,h2,h3⟩
  rw [if_neg (by omega),if_neg (by rw [h2];simp),if_neg (by omega)]
theorem aD3 (a:At): ∀l:List At,(vO a l).length<=l.length+1
 | []=>by simp [vO]
 |b::r=>by
  have:=aD3 a r
  rw [vO]
  split
  ·simp only [List.length_cons];omega
  ·split
   ·simp
   ·simp
theorem aH7: ∀l:List At,(sF l).length<=l.length
 | []=>Nat.le_refl _
 |a::r=>by
  have h1:=aD3 a (sF r)
  have h2:=aH7 r
  show (vO a (sF r)).length<=r.length+1
  omega
instance decAt:DecidableEq At:= λa b=>decidable_of_iff (bM a b=0) dL
structure Ent where
 no:Int
 part:List At
structure Lg where
 reader:bZ
 version:Int
 entries:List Ent
def rdF (s:bZ):Bool:=cT s && (!s.contains 58 && !decide (s.head?=some 95))
def hX (n:Int):Bool:=decide (1<=n/\n<=1024)
def aTk (bef:List Ent) (i:Nat) (x:Ent):Int:=if x.no≠(i:Int)+1 then 380 else if ptE x.part≠0 then ptE x.part else if dP x.part=x.part/\x.part∉bef.map Ent.part then 0 else 380
def zP:List Ent->List Ent->Int
 |_,[]=>0
 |bef,x::r=>if aTk bef bef.length x≠0 then aTk bef bef.length x else zP (bef++[x]) r
def lgE (l:Lg):Int:=if rdF l.reader=false\/hX l.version=false then 1 else if 1024 < l.entries.length then 2 else zP [] l.entries
def lg0:Lg:=⟨[],0,[]⟩
def aDj (s:bZ) (n:Int):Lg×Int:=if rdF s=false\/hX n=false then (lg0,1)else (⟨s,n,[]⟩,0)
def aQu:List Ent->List At->Option Int
 | [],_=>none
 |x::r,p=>if x.part=p then some x.no else aQu r p
def aA1 (l:Lg) (p:List At):Lg×Int×Int:=
 if lgE l≠0 then (lg0,0,lgE l)else if ptE p≠0 then (lg0,0,ptE p)else
 match aQu l.entries (dP p)with
 |some no=>(l,no,0)
 |none=>if 1024<=l.entries.length then (lg0,0,380)else (⟨l.reader,l.version,l.entries++[⟨(l.entries.length:Int)+1,dP p⟩]⟩,(l.entries.length:Int)+1,0)
def aFb (l:Lg) (p:List At):Int×Bool:=if ptE p≠0 then (0,false)else match aQu l.entries (dP p)with
 |some no=>(no,true)
 |none=>(0,false)
def aLv (l:Lg):Int:=max 0 (1024 - (l.entries.length:Int))
end Go.Proofs.YtdjfkmkdkclahaaGreatDoor
namespace Go.Proofs.YtdjfkmkdkclahaaGreatDoor
open Go.Proofs
instance decEnt:DecidableEq Ent:= λa b=>decidable_of_iff (a.no=b.no/\a.part=b.part) (by cases a;cases b;simp)
def mU (a b:Lg):Bool:=decide (a.reader=b.reader) && (decide (a.version=b.version) && decide (a.entries=b.entries.take a.entries.length))
theorem eD {a b:Lg}:mU a b=true↔a.reader=b.reader/\a.version=b.version/\a.entries=b.entries.take a.entries.length:=by
 unfold mU
 rw [Bool.and_eq_true,Bool.and_eq_true,decide_eq_true_eq,decide_eq_true_eq,decide_eq_true_eq]
theorem aFl (a:Lg):mU a a=true:=eD.2 ⟨rfl,rfl,by rw [List.take_length]⟩
theorem wR {α:Type}{l m:List α}(h:l=m.take l.length):l.length<=m.length:=by
 have:=congrArg List.length h
 rw [List.length_take]at this
 omega
theorem aJu {a b c:Lg}(h1:mU a b=true) (h2:mU b c=true):mU a c=true:=by
 obtain⟨a1,a2,a3⟩:=eD.1 h1
 obtain⟨b1,b2,b3⟩:=eD.1 h2
 have hl:=wR a3
 refine eD.2 ⟨a1.trans b1,a2.trans b2, ?_⟩
 conv=>lhs;rw [a3,b3]
 rw [List.take_take,Nat.min_eq_left hl]
theorem aN3 {a b:Lg}(h1:mU a b=true) (h2:mU b a=true):a=b:=by
 obtain⟨a1,a2,a3⟩:=eD.1 h1
 obtain⟨b1,b2,b3⟩:=eD.1 h2
 have hl:=wR a3
 have hl2:=wR b3
 have e:a.entries=b.entries:=by rw [a3,List.take_of_length_le (by omega)]
 cases a;cases b
 dsimp only at *
 subst a1 a2 e
 rfl
abbrev EnT:=bZ×Int×Ent
def pK:EnT:=([],0,⟨0,[]⟩)
def enE (y:EnT):Int:=if rdF y.1=false\/hX y.2.1=false\/y.2.2.no < 1\/1024 < y.2.2.no then 1 else ptE y.2.2.part
def wEn (y:EnT):List UInt8:=bR y.1++(gK y.2.1++(gK y.2.2.no++wQy ⟨[],[y.2.2.part]⟩))
def jS (y:EnT):List UInt8×Int:=if enE y=0 then (wEn y,0)else ([],enE y)
def rPt:Rd (List At):= λb=>match eF rQy lA qy0 280 b with
 |(⟨[],[p]⟩,0)=>some (p,[])
 |_=>none
def rEn:Rd EnT:=dG aFp λs=>dG aEi λn=>dG aEi λno=>pJ rPt λp=>(s,n,⟨no,p⟩)
theorem aU5 {y:EnT}{d:List UInt8}(h:jS y=(d,0)):rEn d=some (y,[]):=by
 obtain⟨h1,rfl⟩:=aH0 h
 obtain⟨s,n,no,p⟩:=y
 unfold enE at h1
 dsimp only at h1
 split at h1
 ·simp at h1
 ·rename_i h2
  have hs:s.length < 4294967296:=by
   have hr:rdF s=true:=by
    cases hr:rdF s with
    |true=>rfl
    |false=>exact absurd (.inl hr) h2
   unfold rdF at hr
   rw [Bool.and_eq_true]at hr
   have:=qH hr.1
   omega
  have hn:1<=n/\n<=1024:=by
   have hr:hX n=true:=by
    cases hr:hX n with
    |true=>rfl
    |false=>exact absurd (.inr (.inl hr)) h2
   exact of_decide_eq_true hr
  have hno:1<=no/\no<=1024:=⟨by omega,by omega⟩
  unfold rEn wEn
  dsimp only
  rw [aZ (lK hs _),aZ (wB (by omega) (by omega) _),aZ (wB (by omega) (by omega) _)]
  have hq:lA ⟨[],[p]⟩=(wQy ⟨[],[p]⟩,0):=if_pos h1
  have hd:eF rQy lA qy0 280 (wQy ⟨[],[p]⟩)=(⟨[],[p]⟩,0):=zT hq (by have:=aL6 hq [];rwa [List.append_nil]at this)
  have hp:rPt (wQy ⟨[],[p]⟩)=some (p,[]):=by unfold rPt;rw [hd];rfl
  rw [bS hp]
end Go.Proofs.YtdjfkmkdkclahaaGreatDoor
namespace Go.Proofs.YtdjfkmkdkclahaaGreatDoor
open Go.Proofs
theorem aQd (a:At):rpA id a=a:=by cases a;rfl
theorem aF9 {p:List At}{H H':List bZ}(hn:H.Nodup) (hn':H'.Nodup) (hm: ∀s,s∈H↔s∈H') {w':List Nat}(hw:w'.Perm (List.range H'.length)): ∃w:List Nat,w.Perm (List.range H.length)/\eO p H w=eO p H' w':=by
 have hl:H.length=H'.length:=((List.perm_ext_iff_of_nodup hn hn').2 hm).length_eq
 obtain⟨w,h1,h2⟩:=aTq (σ:=id) hn hn' hl (λs hs=>(hm s).1 hs) (λs _ t _ e=>e) hw
 refine⟨w,h1,aSn (ρ:=id) (λx=> ?_) λa ha=> ?_⟩
 ·rw [List.mem_map]
  exact⟨λh=>⟨x,h,aQd x⟩,λ⟨a,h,e⟩=>by rw [aQd]at e;rw [<-e];exact h⟩
 ·have one: ∀s,gW H w s=gW H' w' (id s):=by
   intro s
   by_cases hs:s∈H
   ·exact h2 s hs
   ·rw [show gW H w s=s from zG _ _ _ hs,show gW H' w' (id s)=s from zG _ _ _ (λh=>hs ((hm s).2 h))]
  exact⟨one _,one _⟩
theorem aMx {p:List At}{y:List At}{H:List bZ}(hn:H.Nodup) (hm: ∀s,s∈H↔s∈cG p) (hN:(cG p).length<=8) (hy:IsCan p H y):y=dP p:=by
 refine aV0 hN ?_
 obtain⟨w,hw,e⟩:=hy.ex
 obtain⟨w1,hw1,e1⟩:=aF9 (p:=p) (fO p).2 hn (λs=>(hm s).symm) hw
 refine⟨⟨w1,hw1,by rw [e,e1]⟩,λw2 hw2=> ?_⟩
 obtain⟨w3,hw3,e3⟩:=aF9 (p:=p) hn (fO p).2 hm hw2
 rw [<-e3]
 exact hy.le w3 hw3
theorem aFu {p q:List At}(h: ∀x,x∈p↔x∈q) (s:bZ):s∈cG p↔s∈cG q:=by
 rw [(eI p).2,(eI q).2]
 unfold cD
 rw [List.mem_filter,List.mem_filter,List.mem_flatMap,List.mem_flatMap]
 constructor
 ·rintro⟨⟨a,ha,hs⟩,hl⟩
  exact⟨⟨a,(h a).1 ha,hs⟩,hl⟩
 ·rintro⟨⟨a,ha,hs⟩,hl⟩
  exact⟨⟨a,(h a).2 ha,hs⟩,hl⟩
theorem vT (p:List At) (s:bZ):s∈cG (sF p)↔s∈cG p:=aFu (kC p).m s
theorem uE (p:List At):(cG (sF p)).length=(cG p).length:=((List.perm_ext_iff_of_nodup (fO _).2 (fO _).2).2 (vT p)).length_eq
theorem aUx {p:List At}(hN:(cG p).length<=8):dfs (sF p) (cG (sF p)) (cG (sF p)).length 0 (List.replicate (cG (sF p)).length none) none=some (dP p):=by
 have hv:Vof p (cG (sF p)):= λa ha=>⟨λh=>(vT p _).2 (((fO p).1 a ha).1 h),λh=>(vT p _).2 (((fO p).1 a ha).2 h)⟩
 obtain⟨y,e,hy⟩:=aMn (kC p) hv (fO _).2 (by rw [uE];exact hN)
 rw [e,aMx (fO _).2 (vT p) hN hy]
abbrev Mp:=List (bZ×bZ)
def gF (F:Mp) (s:bZ):bZ:=(aAg F s).getD s
theorem iK {β:Type}(k k':bZ) (s:β): ∀F:List (bZ×β),aAg (aEu F k s) k'=if k'=k then some s else aAg F k'
 | []=>by
  rw [aEu]
  unfold aAg
  rfl
 |(x,y)::r=>by
  rw [aEu]
  by_cases h:k=x
  ·rw [if_pos h,aAg,aAg]
   subst h
   split
   ·rfl
   ·rfl
  ·rw [if_neg h,aAg,aAg,iK k k' s r]
   by_cases h2:k'=x
   ·rw [if_pos h2,if_pos h2,if_neg (λe=>h (by rw [<-e,h2]))]
   ·rw [if_neg h2,if_neg h2]
structure MpOk (H:List bZ) (a:Asg) (F:Mp):Prop where
 out: ∀s,s∉H->aAg F s=none
 got: ∀(i k:Nat) (s:bZ),H[i]? =some s->a[i]? =some (some k)->aAg F s=some (nmV k)
theorem MpOk.nil {H:List bZ}:MpOk H (List.replicate H.length none) []:=by
 refine⟨λs _=>rfl,λi k s _ h=> ?_⟩
 rw [List.getElem?_replicate]at h
 split at h
 ·cases h
 ·cases h
structure MpN (H:List bZ) (a:Asg) (n j:Nat) (F:Mp):Prop extends MpOk H a F where
 nx: ∀(i:Nat) (s:bZ),i < j->H[i]? =some s->a[i]? =some none->aAg F s=some (nmV (n+1))
theorem MpN.zero {H:List bZ}{a:Asg}{n:Nat}{F:Mp}(h:MpOk H a F):MpN H a n 0 F:=⟨h,λi s hi=>by omega⟩
theorem aHo {H:List bZ}(hH:H.Nodup) {i j:Nat}{s:bZ}(h1:H[i]? =some s) (h2:H[j]? =some s):i=j:=by
 obtain⟨a1,a2⟩:=List.getElem?_eq_some_iff.1 h1
 obtain⟨b1,b2⟩:=List.getElem?_eq_some_iff.1 h2
 have hp:=List.pairwise_iff_getElem.1 hH
 rcases Nat.lt_trichotomy i j with h|h|h
 ·exact absurd (a2.trans b2.symm) (hp i j a1 b1 h)
 ·exact h
 ·exact absurd (b2.trans a2.symm) (hp j i b1 a1 h)
theorem MpN.skip {H:List bZ}{a:Asg}{n j:Nat}{F:Mp}(h:MpN H a n j F) {k:Nat}(ha:a[j]? =some (some k)):MpN H a n (j+1) F:=
 ⟨h.toMpOk, λi s hi hs hn => by
  rcases Nat.lt_or_ge i j with hlt|hge
  ·exact h.nx i s hlt hs hn
  ·obtain rfl:i=j:=by omega
   rw [ha]at hn;cases hn⟩
theorem MpN.set {H:List bZ}(hH:H.Nodup) {a:Asg}{n j:Nat}{F:Mp}(h:MpN H a n j F) {s:bZ}(hs:H[j]? =some s) (ha:a[j]? =some none):MpN H a n (j+1) (aEu F s (nmV (n+1))):=by
 refine⟨⟨λt ht=> ?_,λi k t h1 h2=> ?_⟩,λi t hi h1 h2=> ?_⟩
 ·rw [iK,if_neg (λe=>ht (by rw [e];exact List.mem_of_getElem? hs))]
  exact h.out t ht
 ·rw [iK,if_neg (λe=> ?_)]
  ·exact h.got i k t h1 h2
  ·subst e
   obtain rfl:=aHo hH h1 hs
   rw [ha]at h2;cases h2
 ·rw [iK]
  split
  ·rfl
  ·rename_i hne
   refine h.nx i t ?_ h1 h2
   rcases Nat.lt_or_ge i j with hlt|hge
   ·exact hlt
   ·obtain rfl:i=j:=by omega
    rw [hs]at h1
    injection h1 with h1
    exact absurd h1.symm hne
theorem MpN.all {H:List bZ}(hH:H.Nodup) {a:Asg}{n:Nat}{F:Mp}(hl:a.length=H.length) (h:MpN H a n H.length F) (s:bZ):gF F s=gV H (fP a n) s:=by
 unfold gF
 by_cases hs:s∈H
 ·obtain⟨i,hi⟩:=List.getElem?_of_mem hs
  have hil:=(List.getElem?_eq_some_iff.1 hi).1
  have ha:a[i]? =some (a[i]'(by omega)):=List.getElem?_eq_getElem (by omega)
  have hv:(fP a n)[i]? =some (nmV ((a[i]'(by omega)).getD (n+1))):=by unfold fP;rw [List.getElem?_map,ha];rfl
  rw [aM9 hH hi hv]
  cases hc:a[i]'(by omega)with
  |none=>rw [h.nx i s hil hi (by rw [ha,hc])];rfl
  |some k=>rw [h.got i k s hi (by rw [ha,hc])];rfl
 ·rw [h.out s hs,zG _ _ _ hs];rfl
theorem MpOk.name {H:List bZ}(hH:H.Nodup) {a:Asg}{i k:Nat}{F:Mp}(h:MpOk H a F) {s:bZ}(hs:H[i]? =some s) (ha:a[i]? =some none):MpOk H (a.set i (some k)) (aEu F s (nmV k)):=by
 refine⟨λt ht=> ?_,λj m t h1 h2=> ?_⟩
 ·rw [iK,if_neg (λe=>ht (by rw [e];exact List.mem_of_getElem? hs))]
  exact h.out t ht
 ·rw [iK]
  by_cases e:i=j
  ·subst e
   rw [hs]at h1
   injection h1 with h1
   rw [if_pos h1.symm]
   rw [List.getElem?_set_self (List.getElem?_eq_some_iff.1 ha).1]at h2
   injection h2 with h2
   injection h2 with h2
   rw [h2]
  ·rw [if_neg (λet=> ?_)]
   ·rw [List.getElem?_set_ne e]at h2
    exact h.got j m t h1 h2
   ·subst et
    exact e (aHo hH hs h1)
theorem MpOk.back {H:List bZ}{a:Asg}{i k:Nat}{F:Mp}(ha:a[i]? =some none) (h:MpOk H (a.set i (some k)) F):MpOk H a F:=by
 refine⟨h.out,λj m t h1 h2=>h.got j m t h1 ?_⟩
 by_cases e:i=j
 ·subst e
  rw [ha]at h2;cases h2
 ·rw [List.getElem?_set_ne e];exact h2
def aIa (P:List At) (H:List bZ) (f n:Nat) (a:Asg) (best:Option (List At)) (j:Nat):Option (List At):=
 (List.range j).foldl (λbest i=>if a[i]? =some none then dfs P H f (n+1) (a.set i (some (n+1))) best else best) best
theorem aMo {P:List At}{H:List bZ}{f n:Nat}{a:Asg}{best:Option (List At)}{j k:Nat}(h:a[j]? =some (some k)):aIa P H f n a best (j+1)=aIa P H f n a best j:=by
 unfold aIa
 rw [List.range_succ,List.foldl_append,List.foldl_cons,List.foldl_nil,if_neg (by rw [h];simp)]
theorem aSw {P:List At}{H:List bZ}{f n:Nat}{a:Asg}{best:Option (List At)}{j:Nat}(h:a[j]? =some none):aIa P H f n a best (j+1)=dfs P H f (n+1) (a.set j (some (n+1))) (aIa P H f n a best j):=by
 unfold aIa
 rw [List.range_succ,List.foldl_append,List.foldl_cons,List.foldl_nil,if_pos h]
theorem aSv {P:List At}{H:List bZ}{f n:Nat}{a:Asg}{best:Option (List At)}(h:aSz (yOf P H a n) best=true):dfs P H f n a best=best:=by
 cases f with
 |zero=>rw [dfs,if_pos h]
 |succ f=>rw [dfs,if_pos h]
theorem aPj {P:List At}{H:List bZ}{n:Nat}{a:Asg}{best:Option (List At)}(h:aSz (yOf P H a n) best=false):dfs P H 0 n a best=some (yOf P H a n):=by
 rw [dfs,if_neg (by rw [h];simp)]
theorem aPk {P:List At}{H:List bZ}{f n:Nat}{a:Asg}{best:Option (List At)}(h:aSz (yOf P H a n) best=false):dfs P H (f+1) n a best=aIa P H f n a best a.length:=by
 rw [dfs,if_neg (by rw [h];simp)]
 rfl
theorem aKq {l m:List At}(hp:m.Perm l) (hs:m.Pairwise λa b=>¬ bM b a < 0):m=aE7 bM l:=
 aCg bJ (λa b=>aDc) (hp.trans (lG _).symm) (hs.imp λ{a b} h=>by have:=bJ.anti a b;omega) (eY bJ _)
end Go.Proofs.YtdjfkmkdkclahaaGreatDoor
namespace Go.Proofs.YtdjfkmkdkclahaaGreatDoor
open Go.Proofs Go.Shelf Go.Sort
set_option maxRecDepth 10000
theorem aHb:Tryz.sortAt_ren.t 24=60:=rfl
theorem aHy: ∀w,(isAgg (Tryz.sortAt_ren.t 24)).run Tryz.prog w= .ok true w:=by
 intro w
 rw [aHb]
 obtain⟨d,i,z,h⟩:=aQ (hty 60 _ rfl)
 exact h.run_isAgg w
theorem aKu: ∀w,(Go.sizeOf (Tryz.sortAt_ren.t 24)).run Tryz.prog w= .ok 6 w:=by
 intro w
 rw [aHb]
 obtain⟨d,i,z,h⟩:=aQ (hty 60 _ rfl)
 exact h.run_size w
end Go.Proofs.YtdjfkmkdkclahaaGreatDoor
namespace Go.Proofs.YtdjfkmkdkclahaaGreatDoor
open Go.Proofs Go.RowKit
set_option maxRecDepth 10000
attribute [local irreducible] aL aH Tri aI YVC bP aS
theorem zY (q:Qy):Tri Tryz.prog 60 [.d (.agg (qyR q))] [] (λr=>r= .d (.int .i64 (iE q))):=by
 obtain⟨told,parts⟩:=q
 show Tri Tryz.prog 60 [.d (.agg [.sl 1 (told.map aV), .sl 1 (parts.map aK)])] [] _
 have hlt:(told.map aV).length=told.length:=List.length_map ..
 have hlp:(parts.map aK).length=parts.length:=List.length_map ..
 by_cases h1:parts.length < 1\/4 < parts.length\/3 < told.length
 ·rw [show iE ⟨told,parts⟩=210 from if_pos h1]
  refine aG false [1,4] hty Tryz.func60 rfl (kp [0,1,2,4,20,22,23,24,25,37]) [] _ _ _ (by simp [Tryz.f60]) (by simp) ?_
  ((conv=>whnf);repeat' ((first|(intro hq;(try simp only [lnS]at hq);(try rewrite [List.length_map]))|refine sJ ?_|refine .intro _ (.intro rfl ?_)|refine exL (k:= ?_)|refine dwR ?_|((first|refine aC ?_ ?_|refine aD ?_ ?_)<;>intro hb<;>(first|exact ddX hb|try simp only [lnS]at hb))|(refine aB ?_ ?_<;>intro hb<;>try exact dsX hb))<;>(conv=>whnf)))
  all_goals first|rfl|(exfalso;omega)
 rw [show iE ⟨told,parts⟩=if parts.any (λp=>decide (p.length < 1) || decide (12 < p.length))then 210 else 0 from if_neg h1]
 refine aG false [1,4] hty Tryz.func60 rfl (kp [0,1,2,4,20,22,23,24,25,37]) [] _ _ _ (by simp [Tryz.f60]) (by simp) ?_
 ((conv=>whnf);repeat' ((first|(intro hq;(try simp only [lnS]at hq);(try rewrite [List.length_map]))|refine sJ ?_|refine .intro _ (.intro rfl ?_)|refine exL (k:= ?_)|refine dwR ?_|((first|refine aC ?_ ?_|refine aD ?_ ?_)<;>intro hb<;>(first|exact ddX hb|try simp only [lnS]at hb))|(refine aB ?_ ?_<;>intro hb<;>try exact dsX hb))<;>(conv=>whnf)))
 refine aJ hty (λj:Nat=>([(22, .d (.sl 1 (parts.map aK))),(23, .d (.int .i64 parts.length)),(24, .d (.int .i64 j))],[])) (λj=>j<=parts.length/\(parts.take j).any (λp=>decide (p.length < 1) || decide (12 < p.length))=false) (λj=>parts.length - j) 0 ⟨by omega,rfl⟩ ⟨by repeat' (first|exact trivial|exact rfl|(rw [List.length_map];exact rfl)|refine And.intro ?_ ?_),trivial⟩ ?_
 rintro j ⟨hj,hn⟩
 ((conv=>whnf);repeat ((first|(intro hq;try simp only [lnS]at hq)|refine sI ?_|refine .intro _ (.intro rfl ?_));(conv=>whnf)))
 refine aC (λh2=> ?_) (λh2=> ?_)
 ·have hjl:j < parts.length:=by omega
  have hrow:(parts.map aK)[(j:Int).toNat]? =some (aK parts[j]):=aO hjl
  have hhit:=jL (F:= λp:List At=>decide (p.length < 1) || decide (12 < p.length)) hjl
  have hsuc:=fL (F:= λp:List At=>decide (p.length < 1) || decide (12 < p.length)) hjl hn
  generalize parts[j]=x at hrow hhit hsuc
  rw [show aK x=[.sl 6 (x.map atR)]from rfl]at hrow
  have hlx:(x.map atR).length=x.length:=List.length_map ..
  ((conv=>whnf);repeat' ((first|(intro hq;(try simp only [lnS]at hq);(try rewrite [List.length_map]))|refine sJ ?_|refine .intro _ (.intro rfl ?_)|refine exL (k:= ?_)|(refine⟨_,hrow, ?_⟩)|refine dwR ?_|((first|refine aC ?_ ?_|refine aD ?_ ?_)<;>intro hb<;>(first|exact ddX hb|try simp only [lnS]at hb))|(refine aB ?_ ?_<;>intro hb<;>try exact dsX hb))<;>(conv=>whnf)))
  ·rw [if_pos (hhit (by rw [Bool.or_eq_true,decide_eq_true_eq,decide_eq_true_eq];omega))];rfl
  ·rw [if_pos (hhit (by rw [Bool.or_eq_true,decide_eq_true_eq,decide_eq_true_eq];omega))];rfl
  ·refine⟨j+1,⟨by omega,hsuc (by rw [Bool.or_eq_false_iff,decide_eq_false_iff_not,decide_eq_false_iff_not];omega)⟩,by dsimp only;omega,by repeat' (first|exact trivial|exact rfl|refine And.intro ?_ ?_),trivial⟩
 ·have hjl:j=parts.length:=by omega
  subst hjl
  rw [List.take_length]at hn
  ((conv=>whnf);repeat' ((first|(intro hq;(try simp only [lnS]at hq);(try rewrite [List.length_map]))|refine sJ ?_|refine .intro _ (.intro rfl ?_)|refine exL (k:= ?_)|refine dwR ?_|((first|refine aC ?_ ?_|refine aD ?_ ?_)<;>intro hb<;>(first|exact ddX hb|try simp only [lnS]at hb))|(refine aB ?_ ?_<;>intro hb<;>try exact dsX hb))<;>(conv=>whnf)))
  rw [if_neg (by rw [hn];decide)];rfl
theorem aAz (q:Qy) (hp: ∀p∈q.parts,p.length<=100000):Tri Tryz.prog 62 [.d (.agg (qyR q))] [] (λr=>r= .d (.int .i64 (sN q.told q.parts))):=by
 obtain⟨told,parts⟩:=q
 dsimp only at hp |-
 rw [aH5]
 show Tri Tryz.prog 62 [.d (.agg [.sl 1 (told.map aV), .sl 1 (parts.map aK)])] [] _
 have hlt:(told.map aV).length=told.length:=List.length_map ..
 have hlp:(parts.map aK).length=parts.length:=List.length_map ..
 refine aG false [1,8] hty Tryz.func62 rfl (kp [0,1,2,4,5,6,8,10,11,12,13,18,21,22,23,24,33,35,36,37,38,45]) [] _ _ _ (by simp [Tryz.f62]) (by simp) ?_
 ((conv=>whnf);repeat' ((first|(intro hq;(try simp only [lnS]at hq);(try rewrite [List.length_map]))|refine sJ ?_|refine .intro _ (.intro rfl ?_)|refine exL (k:= ?_)|refine dwR ?_|((first|refine aC ?_ ?_|refine aD ?_ ?_)<;>intro hb<;>(first|exact ddX hb|try simp only [lnS]at hb))|(refine aB ?_ ?_<;>intro hb<;>try exact dsX hb))<;>(conv=>whnf)))
 refine aJ hty (λj:Nat=>([(1, .ea 2 [[.sl 1 (told.map aV), .sl 1 (parts.map aK)]] 0 0),(10, .d (.sl 1 (told.map aV))),(11, .d (.int .i64 told.length)),(12, .d (.int .i64 j))],[])) (λj=>j<=told.length/\(told.take j).any (λt=> !mW t)=false) (λj=>told.length - j) 0 ⟨by omega,rfl⟩ ⟨by repeat' (first|exact trivial|exact rfl|(rw [List.length_map];exact rfl)|refine And.intro ?_ ?_),trivial⟩ ?_
 rintro j ⟨hj,hn⟩
 ((conv=>whnf);repeat ((first|(intro hq;try simp only [lnS]at hq)|refine sI ?_|refine .intro _ (.intro rfl ?_));(conv=>whnf)))
 refine aC (λh2=> ?_) (λh2=> ?_)
 ·have hjl:j < told.length:=by omega
  have hrow:(told.map aV)[(j:Int).toNat]? =some (aV told[j]):=aO hjl
  have hhit:=jL (F:= λt:List UInt8=> !mW t) hjl
  have hsuc:=fL (F:= λt:List UInt8=> !mW t) hjl hn
  generalize told[j]=x at hrow hhit hsuc
  ((conv=>whnf);repeat' ((first|(intro hq;(try simp only [lnS]at hq);(try rewrite [List.length_map]))|refine sJ ?_|refine .intro _ (.intro rfl ?_)|refine exL (k:= ?_)|(refine⟨_,hrow, ?_⟩)|(refine aA [] (kW x) trivial (λr hs=> ?_);subst hs)|refine dwR ?_|((first|refine aC ?_ ?_|refine aD ?_ ?_)<;>intro hb<;>(first|exact ddX hb|try simp only [lnS]at hb))|(refine aB ?_ ?_<;>intro hb<;>try exact dsX hb))<;>(conv=>whnf)))
  ·rw [if_pos (hhit hb)];rfl
  ·refine⟨j+1,⟨by omega,hsuc hb⟩,by dsimp only;omega,by repeat' (first|exact trivial|exact rfl|refine And.intro ?_ ?_),trivial⟩
 have hjl:j=told.length:=by omega
 subst hjl
 rw [List.take_length]at hn
 rw [if_neg (by rw [hn];decide)]
 clear hn h2
 ((conv=>whnf);repeat' ((first|(intro hq;(try simp only [lnS]at hq);(try rewrite [List.length_map]))|refine sJ ?_|refine .intro _ (.intro rfl ?_)|refine exL (k:= ?_)|refine dwR ?_|((first|refine aC ?_ ?_|refine aD ?_ ?_)<;>intro hb<;>(first|exact ddX hb|try simp only [lnS]at hb))|(refine aB ?_ ?_<;>intro hb<;>try exact dsX hb))<;>(conv=>whnf)))
 refine aJ hty (λj:Nat=>([(1, .ea 2 [[.sl 1 (told.map aV), .sl 1 (parts.map aK)]] 0 0),(21, .d (.sl 1 (told.map aV))),(22, .d (.int .i64 told.length)),(23, .d (.int .i64 j))],[])) (λj=>j<=told.length/\(List.range j).any (aK0 told parts)=false) (λj=>told.length - j) 0 ⟨by omega,rfl⟩ ⟨by repeat' (first|exact trivial|exact rfl|(rw [List.length_map];exact rfl)|refine And.intro ?_ ?_),trivial⟩ ?_
 rintro j ⟨hj,hn⟩
 ((conv=>whnf);repeat ((first|(intro hq;try simp only [lnS]at hq)|refine sI ?_|refine .intro _ (.intro rfl ?_));(conv=>whnf)))
 refine aC (λh2=> ?_) (λh2=> ?_)
 ·have hjl:j < told.length:=by omega
  have hrow:(told.map aV)[(j:Int).toNat]? =some (aV told[j]):=aO hjl
  have hhit:=pV (F:=aK0 told parts) hjl
  have hsuc:=mR (F:=aK0 told parts) hn
  have hbad:aK0 told parts j=(decide (told[j]∈told.take j) || parts.any (λp=> !decide (told[j]∈cD p))):=by
   unfold aK0
   rw [show told.getD j []=told[j]by rw [List.getD_eq_getElem?_getD,List.getElem?_eq_getElem hjl];rfl,List.contains_eq_mem]
   simp only [List.contains_eq_mem]
  have hc:=jH (told.take j) told[j]
  generalize told[j]=x at hrow hbad hc
  rw [List.map_take]at hc
  rw [hbad]at hhit hsuc
  ((conv=>whnf);repeat ((first|(refine⟨_,hrow, ?_⟩)|(intro hq;try simp only [lnS]at hq)|refine sI ?_|refine .intro _ (.intro rfl ?_));(conv=>whnf)))
  refine aA [] hc trivial (λr hs=> ?_)
  subst hs
  ((conv=>whnf);repeat ((first|(intro hq;try simp only [lnS]at hq)|refine sI ?_|refine .intro _ (.intro rfl ?_));(conv=>whnf)))
  refine aC (λh3=> ?_) (λh3=> ?_)
  ·((conv=>whnf);repeat' ((first|(intro hq;(try simp only [lnS]at hq);(try rewrite [List.length_map]))|refine sJ ?_|refine .intro _ (.intro rfl ?_)|refine exL (k:= ?_)|refine dwR ?_|((first|refine aC ?_ ?_|refine aD ?_ ?_)<;>intro hb<;>(first|exact ddX hb|try simp only [lnS]at hb))|(refine aB ?_ ?_<;>intro hb<;>try exact dsX hb))<;>(conv=>whnf)))
   rw [if_pos (hhit (by rw [decide_eq_true h3];rfl))];rfl
  rw [decide_eq_false h3,Bool.false_or]at hhit hsuc
  ((conv=>whnf);repeat ((first|(intro hq;try simp only [lnS]at hq)|refine sI ?_|refine .intro _ (.intro rfl ?_));(conv=>whnf)))
  refine aJ hty (λi:Nat=>([(1, .ea 2 [[.sl 1 (told.map aV), .sl 1 (parts.map aK)]] 0 0),(6, .d (.str x)),(21, .d (.sl 1 (told.map aV))),(22, .d (.int .i64 told.length)),(23, .d (.int .i64 j)),(35, .d (.sl 1 (parts.map aK))),(36, .d (.int .i64 parts.length)),(37, .d (.int .i64 i))],[])) (λi=>i<=parts.length/\(parts.take i).any (λp=> !decide (x∈cD p))=false) (λi=>parts.length - i) 0 ⟨by omega,rfl⟩ ⟨by repeat' (first|exact trivial|exact rfl|(rw [List.length_map];exact rfl)|refine And.intro ?_ ?_),trivial⟩ ?_
  rintro i ⟨hi,hm⟩
  ((conv=>whnf);repeat ((first|(intro hq;try simp only [lnS]at hq)|refine sI ?_|refine .intro _ (.intro rfl ?_));(conv=>whnf)))
  refine aC (λh4=> ?_) (λh4=> ?_)
  ·have hil:i < parts.length:=by omega
   have hrow2:(parts.map aK)[(i:Int).toNat]? =some (aK parts[i]):=aO hil
   have hhit2:=jL (F:= λp:List At=> !decide (x∈cD p)) hil
   have hsuc2:=fL (F:= λp:List At=> !decide (x∈cD p)) hil hm
   have hv:=gT parts[i] (hp _ (List.getElem_mem hil))
   have hc2:=jH (cG parts[i]) x
   have hmem:=(eI parts[i]).2 x
   generalize parts[i]=y at hrow2 hhit2 hsuc2 hv hc2 hmem
   rw [show decide (x∈cG y)=decide (x∈cD y)from decide_eq_decide.2 hmem]at hc2
   generalize (cG y).map aV=vy at hv hc2
   rw [show aK y=[.sl 6 (y.map atR)]from rfl]at hrow2 hv
   ((conv=>whnf);repeat' ((first|(intro hq;(try simp only [lnS]at hq);(try rewrite [List.length_map]))|refine sJ ?_|refine .intro _ (.intro rfl ?_)|refine exL (k:= ?_)|(refine⟨_,hrow2, ?_⟩)|(refine aA [] hv trivial (λr hs=> ?_);subst hs)|(refine aA [] hc2 trivial (λr hs=> ?_);subst hs)|refine dwR ?_|((first|refine aC ?_ ?_|refine aD ?_ ?_)<;>intro hb<;>(first|exact ddX hb|try simp only [lnS]at hb))|(refine aB ?_ ?_<;>intro hb<;>try exact dsX hb))<;>(conv=>whnf)))
   ·rw [if_pos (hhit (hhit2 (by rw [decide_eq_false hb];rfl)))];rfl
   ·exact⟨i+1,⟨by omega,hsuc2 (by rw [decide_eq_true hb];rfl)⟩,by dsimp only;omega,by repeat' (first|exact trivial|exact rfl|refine And.intro ?_ ?_),trivial⟩
  ·have hil:i=parts.length:=by omega
   subst hil
   rw [List.take_length]at hm
   ((conv=>whnf);repeat' ((first|(intro hq;(try simp only [lnS]at hq);(try rewrite [List.length_map]))|refine sJ ?_|refine .intro _ (.intro rfl ?_)|refine exL (k:= ?_)|refine dwR ?_|((first|refine aC ?_ ?_|refine aD ?_ ?_)<;>intro hb<;>(first|exact ddX hb|try simp only [lnS]at hb))|(refine aB ?_ ?_<;>intro hb<;>try exact dsX hb))<;>(conv=>whnf)))
   exact⟨j+1,⟨by omega,hsuc hm⟩,by dsimp only;omega,by repeat' (first|exact trivial|exact rfl|refine And.intro ?_ ?_),trivial⟩
 ·have hjl:j=told.length:=by omega
  subst hjl
  rw [if_neg (by rw [hn];decide)]
  ((conv=>whnf);repeat' ((first|(intro hq;(try simp only [lnS]at hq);(try rewrite [List.length_map]))|refine sJ ?_|refine .intro _ (.intro rfl ?_)|refine exL (k:= ?_)|refine dwR ?_|((first|refine aC ?_ ?_|refine aD ?_ ?_)<;>intro hb<;>(first|exact ddX hb|try simp only [lnS]at hb))|(refine aB ?_ ?_<;>intro hb<;>try exact dsX hb))<;>(conv=>whnf)))
  rfl
end Go.Proofs.YtdjfkmkdkclahaaGreatDoor
namespace Go.Proofs.YtdjfkmkdkclahaaGreatDoor
open Go.Proofs Go.RowKit
set_option maxRecDepth 10000
attribute [local irreducible] aL aH Tri aI YVC bP aS
theorem aG7:Tri Tryz.prog 191 [.d .nil] [] (λr=>r= .d (.int .i64 0)):=by
 refine aF hty Tryz.func191 rfl (kp [0,2,4,5,6,7,8,9,15]) [] _ _ _ (by simp [Tryz.f191]) (by simp) ?_
 ((conv=>whnf);repeat' ((first|(intro hq;(try simp only [lnS]at hq);(try rewrite [List.length_map]))|refine sJ ?_|refine .intro _ (.intro rfl ?_)|refine exL (k:= ?_)|(refine dI hty 2 ?_)|refine dwR ?_|((first|refine aC ?_ ?_|refine aD ?_ ?_)<;>intro hb<;>(first|exact ddX hb|try simp only [lnS]at hb))|(refine aB ?_ ?_<;>intro hb<;>try exact dsX hb))<;>(conv=>whnf)))
 rfl
theorem aMw (s:List UInt8):Tri Tryz.prog 145 [.d .nil, .d (.sl 1 [[.str s]])] [] (λr=>r= .d (.int .i64 (if cT s then 0 else 20))):=by
 refine aF hty Tryz.func145 rfl (kp [0,1,4,5,7,8,12,14,15,16,17,23]) [] _ _ _ (by simp [Tryz.f145]) (by simp) ?_
 ((conv=>whnf);repeat' ((first|(intro hq;(try simp only [lnS]at hq);(try rewrite [List.length_map]))|refine sJ ?_|refine .intro _ (.intro rfl ?_)|refine exL (k:= ?_)|(refine dI hty 2 ?_)|(refine aA [] aG7 trivial (λr hs=> ?_);subst hs)|(refine aA [] (hG _) trivial (λs hs=> ?_);subst hs)|refine dwR ?_|((first|refine aC ?_ ?_|refine aD ?_ ?_)<;>intro hb<;>(first|exact ddX hb|try simp only [lnS]at hb))|(refine aB ?_ ?_<;>intro hb<;>try exact dsX hb))<;>(conv=>whnf)))
 all_goals (cases h:cT s)
 all_goals first|rfl|(simp_all;done)|(simp_all;rfl)
theorem aRr (s:List UInt8) (hn:cT s=true):Tri Tryz.prog 102 [.d .nil, .d (.str s)] [] (λr=>r= .tup [.d (.bool true), .d (.int .i64 0)]):=by
 have h:=aMw s
 rw [if_pos hn]at h
 refine aF hty Tryz.func102 rfl (kp [0,1,4,5,6,7,9,10,12,18,21,22,23,24,29,47,48,49,50,66]) [] _ _ _ (by simp [Tryz.f102]) (by simp) ?_
 ((conv=>whnf);repeat ((first|(intro hq;try simp only [lnS]at hq)|refine sI ?_|refine .intro _ (.intro rfl ?_));(conv=>whnf)))
 refine aA [] (Tri.args (xs:=_) h ⟨bW.refl _,bW.osl,trivial⟩) trivial (λr hs=> ?_)
 subst hs
 ((conv=>whnf);repeat ((first|(intro hq;try simp only [lnS]at hq)|refine sI ?_|refine .intro _ (.intro rfl ?_));(conv=>whnf)))
 refine aCz rfl rfl (λl=>D.str l) 34 (bQ (by with_unfolding_all exact rfl)) ?_
 ((conv=>whnf);repeat ((first|(intro hq;try simp only [lnS]at hq)|refine sI ?_|refine .intro _ (.intro rfl ?_));(conv=>whnf)))
 refine dI hty 2 ?_
 ((conv=>whnf);repeat ((first|(intro hq;try simp only [lnS]at hq)|refine sI ?_|refine .intro _ (.intro rfl ?_));(conv=>whnf)))
 refine aM false [] hty Tryz.func146 rfl (kp [0,1,4,5,6,7,9,17,25,26,27,28,34]) 100 (by simp [Tryz.f146]) ?_
 ((conv=>whnf);repeat ((first|(intro hq;try simp only [lnS]at hq)|refine sI ?_|refine .intro _ (.intro rfl ?_));(conv=>whnf)))
 refine aCz rfl rfl (λl=>D.str l) 35 (bQ (by with_unfolding_all exact rfl)) ?_
 ((conv=>whnf);repeat ((first|(intro hq;try simp only [lnS]at hq)|refine sI ?_|refine .intro _ (.intro rfl ?_));(conv=>whnf)))
 refine sK (.inr rfl) rfl (jE rfl) rfl rfl rfl rfl (λbs1 c1=> ?_)
 ((conv=>whnf);repeat ((first|(intro hq;try simp only [lnS]at hq)|refine sI ?_|refine .intro _ (.intro rfl ?_));(conv=>whnf)))
 refine dI hty 3 ?_
 ((conv=>whnf);repeat' ((first|(intro hq;(try simp only [lnS]at hq);(try rewrite [List.length_map]))|refine sJ ?_|refine .intro _ (.intro rfl ?_)|refine exL (k:= ?_)|(refine lN (id:=34) rfl rfl (jE rfl) rfl rfl rfl rfl ?_)|(refine dI hty 2 ?_)|refine dwR ?_|((first|refine aC ?_ ?_|refine aD ?_ ?_)<;>intro hb<;>(first|exact ddX hb|try simp only [lnS]at hb))|(refine aB ?_ ?_<;>intro hb<;>try exact dsX hb))<;>(conv=>whnf)))
 rfl
end Go.Proofs.YtdjfkmkdkclahaaGreatDoor
