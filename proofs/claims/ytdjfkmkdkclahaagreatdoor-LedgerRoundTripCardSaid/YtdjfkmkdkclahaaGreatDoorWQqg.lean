/-
  Objects: how long what is written is, and that changed bytes are refused; plain. Canonical parts are valid and their own canonical forms; ledgers, plainly. Ledgers, plainly: adding, finding, before; entries in bytes. The canonical form does not depend on the order in which the variables are listed; plain. The library's sort of atoms, as it lies in this program. Queries: the numbers of parts and atoms; the told variables. Roles: which roles are simple where there are no axioms.
  Conditions: none.
-/
import Derived.Test.YtdjfkmkdkclahaaGreatDoorWOh
import Derived.Test.YtdjfkmkdkclahaaGreatDoorWXv
import Derived.Test.YtdjfkmkdkclahaaGreatDoorWSyc
import Derived.Test.YtdjfkmkdkclahaaGreatDoorWSng
import Derived.Test.YtdjfkmkdkclahaaGreatDoorWTy
import Derived.Test.YtdjfkmkdkclahaaGreatDoorWSna
import Derived.Test.YtdjfkmkdkclahaaGreatDoorWLzp
import Derived.Ground.SlsfProg
import Derived.Test.YtdjfkmkdkclahaaGreatDoorWQqa
import Derived.Test.YtdjfkmkdkclahaaGreatDoorWSne
set_option linter.unnecessarySimpa false
set_option linter.unusedSectionVars false
set_option linter.unusedSimpArgs false
set_option linter.unusedVariables false
set_option maxHeartbeats 16000000
namespace Go.Proofs.YtdjfkmkdkclahaaGreatDoor
open Go.Proofs
theorem zB (s:List UInt8):(gX s).length=4+s.length:=by unfold gX;rw [List.length_append,bB]
theorem aD9 (z:Int):(aDa z).length=8:=bB ..
theorem pC {α:Type}{w:α->List UInt8}{k n:Nat}{l:List α}(h: ∀x∈l,(w x).length<=k) (hn:l.length<=n):(cE w l).length<=4+n * k:=by
 have h1:=mC h
 have h2:l.length * k<=n * k:=Nat.mul_le_mul_right _ hn
 unfold cE
 rw [List.length_append,bB]
 omega
theorem aIz {a:At}(h:atE a=0):(wAt a).length<=101:=by
 have hn:a.name.length<=24/\a.x.length<=24/\a.y.length<=24:=by
  unfold atE at h
  split at h
  ·simp at h
  ·split at h
   ·simp at h
   ·split at h
    ·simp at h
    ·split at h
     ·simp at h
     ·split at h
      ·simp at h
      ·split at h
       ·simp at h
       ·rename_i h1 h2 h3 h4 h5 h6
        have q1:=oV (s:=a.name) (by simpa using h4)
        have q2:=fR (s:=a.x) (by simpa using h5)
        refine⟨q1,q2, ?_⟩
        by_cases hk:a.kind=2
        ·refine fR ?_
         cases ht:eF a.y with
         |true=>rfl
         |false=>exact absurd ⟨hk,ht⟩ h6
        ·have:a.y=[]:=Decidable.byContradiction λhy=>h2 (Or.inl ⟨hk,hy⟩)
         rw [this];simp
 unfold wAt aIx
 simp only [List.length_append,aD9,zB,bB]
 omega
theorem aLf {q:Qy}(h:qE q=0):(q.told.length<=3/\ ∀s∈q.told,s.length<=17)/\q.parts.length<=4/\ ∀p∈q.parts,(1<=p.length/\p.length<=12)/\ ∀a∈p,atE a=0:=by
 unfold qE at h
 split at h
 ·simp at h
 ·split at h
  ·simp at h
  ·split at h
   ·exact absurd h (by assumption)
   ·split at h
    ·exact absurd h (by assumption)
    ·rename_i h1 h2 h3 h4
     have h3:=(dQ _).1 (Decidable.not_not.1 h3)
     have h4:=Decidable.not_not.1 h4
     have ht: ∀s∈q.told,sC s=true:=by
      unfold mU at h4
      split at h4
      ·simp at h4
      ·rename_i h5
       intro s hs
       cases hv:sC s with
       |true=>rfl
       |false=>exact absurd (List.any_eq_true.2 ⟨s,hs,by rw [hv];rfl⟩) h5
     refine⟨⟨by omega,λs hs=>oH (ht s hs)⟩,by omega,λp hp=>⟨?_,λa ha=>h3 a (List.mem_flatten.2 ⟨p,hp,ha⟩)⟩⟩
     refine Decidable.byContradiction λhc=> ?_
     refine absurd (List.any_eq_true.2 ⟨p,hp, ?_⟩) h2
     rw [Bool.or_eq_true,decide_eq_true_eq,decide_eq_true_eq]
     omega
theorem aIw {q:Qy}(h:qE q=0):(wQy q).length<=10000:=by
 obtain⟨⟨h1,h2⟩,h3,h4⟩:=aLf h
 have b1:=pC (w:=gX) (k:=21) (l:=q.told) (λs hs=>by rw [zB];have:=h2 s hs;omega) h1
 have b2 := pC (w := cE wAt) (k := 1216) (l := q.parts) (λp hp => by
  have:=pC (w:=wAt) (k:=101) (n:=12) (l:=p) (λa ha=>aIz ((h4 p hp).2 a ha)) (h4 p hp).1.2
  omega) h3
 unfold wQy
 rw [List.length_append]
 omega
end Go.Proofs.YtdjfkmkdkclahaaGreatDoor
namespace Go.Proofs.YtdjfkmkdkclahaaGreatDoor
open Go.Proofs
def ptE (p:List At):Int:=qE ⟨[],[p]⟩
theorem aLg (p:List At):ptE p=if p.length < 1\/12 < p.length then 210 else if cK p≠0 then cK p else if 8 < (aR p).length then 210 else 0:=by
 unfold ptE qE
 dsimp only
 rw [if_neg (show ¬ (([p]:List (List At)).length < 1\/4 < ([p]:List (List At)).length\/3 < ([]:List bL).length)by simp)]
 have h1:(([p]:List (List At)).any λp=>decide (p.length < 1) || decide (12 < p.length))=decide (p.length < 1\/12 < p.length):=by
  simp [Bool.eq_iff_iff]
 have h2:mU [] [p]=0:=by simp [mU]
 rw [h1,h2,wN]
 simp only [decide_eq_true_eq,List.flatten_cons,List.flatten_nil,List.append_nil,ne_eq,not_true_eq_false,if_false,List.any_cons,List.any_nil,Bool.or_false]
theorem aAv {p:List At}:ptE p=0↔(1<=p.length/\p.length<=12)/\(∀a∈p,atE a=0)/\(aR p).length<=8:=by
 rw [aLg,<-dQ]
 constructor
 ·intro h
  split at h
  ·simp at h
  ·split at h
   ·exact absurd h (by assumption)
   ·split at h
    ·simp at h
    ·rename_i h1 h2 h3
     exact⟨by omega,Decidable.not_not.1 h2,by omega⟩
 ·rintro⟨h1,h2,h3⟩
  rw [if_neg (by omega),if_neg (by rw [h2];simp),if_neg (by omega)]
theorem pD {p:List At}{s:bL}(h:s∈aR p):aW s=true:=by
 have:=((cC p).2 s).1 h
 unfold cH at this
 exact(List.mem_filter.1 this).2
theorem aM1 {H:List bL}{w:List Nat}(hH:H.Nodup) (hw:w.Perm (List.range H.length)) {s:bL}(hs:s∈H): ∃k,k < H.length/\gW H w s=nmV (k+1):=by
 have hl:w.length=H.length:=by rw [hw.length_eq,List.length_range]
 obtain⟨i,hi⟩:=List.getElem?_of_mem hs
 have hil:=(List.getElem?_eq_some_iff.1 hi).1
 have hk:w[i]? =some (w[i]'(by omega)):=List.getElem?_eq_getElem (by omega)
 exact⟨_,List.mem_range.1 (hw.mem_iff.1 (List.mem_of_getElem? hk)),aCw hH hi (by rw [List.getElem?_map,hk];rfl)⟩
theorem aM0 {p:List At}{w:List Nat}(hN:(aR p).length<=8) (hw:w.Perm (List.range (aR p).length)):Rnm p (gW (aR p) w):=by
 obtain⟨h1,h2⟩:=cP p
 refine⟨λs hs t ht e=>aEq h2 hN hw (λ_=>hs) (λ_=>ht) e,λs hs=> ?_,λs hs=>iK _ _ _ λhm=>by rw [pD hm]at hs;cases hs⟩
 obtain⟨k,_,e⟩:=aM1 h2 hw hs
 rw [e];exact aBb _
theorem aFd {p:List At}(hN:(aR p).length<=8): ∃w:List Nat,w.Perm (List.range (aR p).length)/\eQ p=iL p (aR p) w:=(aAi hN).ex
theorem vR {p:List At}{H:List bL}{w:List Nat}(x:At):x∈iL p H w↔x∈p.map (rpA (gW H w)):=(gY _).m x
theorem yP {p:List At}(hN:(aR p).length<=8):eQ (eQ p)=eQ p/\(aR (eQ p)).length=(aR p).length:=by
 obtain⟨w,hw,e⟩:=aFd hN
 have hr:=aM0 hN hw
 have hq: ∀x,x∈eQ p↔x∈p.map (rpA (gW (aR p) w)):= λx=>by rw [e];exact vR x
 exact⟨aKd hr hq hN,aE0 hr hq⟩
theorem aBk (a:At): ∀l:List At,(aCt a l).length<=l.length+1
 | []=>by simp [aCt]
 |b::r=>by
  have:=aBk a r
  rw [aCt]
  split
  ·simp only [List.length_cons];omega
  ·split
   ·simp
   ·simp
theorem uT: ∀l:List At,(nK l).length<=l.length
 | []=>Nat.le_refl _
 |a::r=>by
  have h1:=aBk a (nK r)
  have h2:=uT r
  show (aCt a (nK r)).length<=r.length+1
  omega
theorem aJ0: ∀k:Nat,k < 8->sC (nmV (k+1))=true:=by
 have h: ∀k:Fin 8,sC (nmV (k.1+1))=true:=by decide+kernel
 exact λk hk=>h ⟨k,hk⟩
theorem aMa {ρ:bL->bL}{a:At}(hx:eF a.x=true->eF (ρ a.x)=true) (hy:eF a.y=true->eF (ρ a.y)=true) (h0:ρ []=[]) (h:atE a=0):atE (rpA ρ a)=0:=by
 unfold atE at h |-
 unfold rpA
 dsimp only
 split at h
 ·simp at h
 ·rename_i h1
  split at h
  ·simp at h
  ·rename_i h2
   split at h
   ·simp at h
   ·rename_i h3
    split at h
    ·simp at h
    ·rename_i h4
     split at h
     ·simp at h
     ·rename_i h5
      split at h
      ·simp at h
      ·rename_i h6
       rw [if_neg h1,if_neg,if_neg h3,if_neg h4,if_neg,if_neg]
       ·rintro⟨hk,ht⟩
        have:eF a.y=true:=by
         cases hc:eF a.y with
         |true=>rfl
         |false=>exact absurd ⟨hk,hc⟩ h6
        rw [hy this]at ht
        cases ht
       ·rw [hx (by simpa using h5)];simp
       ·rintro(⟨hk,hne⟩|hk)
        ·have:a.y=[]:=Decidable.byContradiction λe=>h2 (.inl ⟨hk,e⟩)
         rw [this,h0]at hne
         exact hne rfl
        ·exact h2 (.inr hk)
theorem aCz {p:List At}(h:ptE p=0):ptE (eQ p)=0:=by
 obtain⟨⟨h1,h2⟩,h3,h4⟩:=aAv.1 h
 obtain⟨w,hw,e⟩:=aFd h4
 have hH:=(cP p).2
 have h0:gW (aR p) w []=[]:=iK _ _ _ λhm=>by have:=pD hm;exact absurd this (by decide)
 have ht: ∀s,eF s=true->eF (gW (aR p) w s)=true:=by
  intro s hs
  by_cases hm:s∈aR p
  ·obtain⟨k,hk,e⟩:=aM1 hH hw hm
   rw [e]
   unfold eF
   rw [aJ0 k (by omega),Bool.true_or]
  ·rw [show gW (aR p) w s=s from iK _ _ _ hm];exact hs
 refine aAv.2 ⟨⟨?_, ?_⟩,λa ha=> ?_, ?_⟩
 ·match p,h1 with
  |a::r,_=>
   have hm:rpA (gW (aR (a::r)) w) a∈eQ (a::r):=by rw [e];exact(vR _).2 (List.mem_map.2 ⟨a,List.mem_cons_self,rfl⟩)
   exact List.length_pos_of_mem hm
 ·have:=uT (p.map (rpA (gW (aR p) w)))
  rw [List.length_map]at this
  rw [e]
  show (nK _).length<=12
  omega
 ·rw [e]at ha
  obtain⟨b,hb,rfl⟩:=List.mem_map.1 ((vR a).1 ha)
  exact aMa (ht _) (ht _) h0 (h3 b hb)
 ·rw [(yP h4).2];exact h4
instance decAt:DecidableEq At:= λa b=>decidable_of_iff (bS a b=0) fZ
structure Ent where
 no:Int
 part:List At
structure Lg where
 reader:bL
 version:Int
 entries:List Ent
def rdF (s:bL):Bool:=fB s && (!s.contains 58 && !decide (s.head?=some 95))
def wC (n:Int):Bool:=decide (1<=n/\n<=1024)
def aIl (bef:List Ent) (i:Nat) (x:Ent):Int:=if x.no≠(i:Int)+1 then 380 else if ptE x.part≠0 then ptE x.part else if eQ x.part=x.part/\x.part∉bef.map Ent.part then 0 else 380
def iM:List Ent->List Ent->Int
 |_,[]=>0
 |bef,x::r=>if aIl bef bef.length x≠0 then aIl bef bef.length x else iM (bef++[x]) r
def lgE (l:Lg):Int:=if rdF l.reader=false\/wC l.version=false then 1 else if 1024 < l.entries.length then 2 else iM [] l.entries
def lg0:Lg:=⟨[],0,[]⟩
def aJv (s:bL) (n:Int):Lg×Int:=if rdF s=false\/wC n=false then (lg0,1)else (⟨s,n,[]⟩,0)
def yD:List Ent->List At->Option Int
 | [],_=>none
 |x::r,p=>if x.part=p then some x.no else yD r p
def aFp (l:Lg) (p:List At):Lg×Int×Int:=
 if lgE l≠0 then (lg0,0,lgE l)else if ptE p≠0 then (lg0,0,ptE p)else
 match yD l.entries (eQ p)with
 |some no=>(l,no,0)
 |none=>if 1024<=l.entries.length then (lg0,0,380)else (⟨l.reader,l.version,l.entries++[⟨(l.entries.length:Int)+1,eQ p⟩]⟩,(l.entries.length:Int)+1,0)
def sZ (l:Lg) (p:List At):Int×Bool:=if ptE p≠0 then (0,false)else match yD l.entries (eQ p)with
 |some no=>(no,true)
 |none=>(0,false)
def aEh (l:Lg):Int:=max 0 (1024 - (l.entries.length:Int))
end Go.Proofs.YtdjfkmkdkclahaaGreatDoor
namespace Go.Proofs.YtdjfkmkdkclahaaGreatDoor
open Go.Proofs
instance decEnt:DecidableEq Ent:= λa b=>decidable_of_iff (a.no=b.no/\a.part=b.part) (by cases a;cases b;simp)
def yS (a b:Lg):Bool:=decide (a.reader=b.reader) && (decide (a.version=b.version) && decide (a.entries=b.entries.take a.entries.length))
theorem mM {a b:Lg}:yS a b=true↔a.reader=b.reader/\a.version=b.version/\a.entries=b.entries.take a.entries.length:=by
 unfold yS
 rw [Bool.and_eq_true,Bool.and_eq_true,decide_eq_true_eq,decide_eq_true_eq,decide_eq_true_eq]
theorem aFh (a:Lg):yS a a=true:=mM.2 ⟨rfl,rfl,by rw [List.take_length]⟩
theorem zI {α:Type}{l m:List α}(h:l=m.take l.length):l.length<=m.length:=by
 have:=congrArg List.length h
 rw [List.length_take]at this
 omega
theorem uB (x:Ent): ∀(r bef:List Ent),iM bef (r++[x])=if iM bef r≠0 then iM bef r else aIl (bef++r) (bef++r).length x
 | [],bef=>by
  rw [List.nil_append,List.append_nil,if_neg (show ¬ iM bef []≠0 by simp [iM]),iM]
  split
  ·rfl
  ·rename_i h
   have h:aIl bef bef.length x=0:=Decidable.not_not.1 h
   rw [h];rfl
 |y::r,bef=>by
  rw [List.cons_append,iM,iM]
  split
  ·rfl
  ·rename_i h
   rw [uB x r,List.append_assoc]
   rfl
theorem yC: ∀{es:List Ent}{p:List At},yD es p=none↔p∉es.map Ent.part
 | [],p=>by simp [yD]
 |x::r,p=>by
  rw [yD]
  by_cases h:x.part=p
  ·rw [if_pos h]
   simp [h]
  ·rw [if_neg h,yC,List.map_cons,List.mem_cons]
   constructor
   ·rintro h1 (h2|h2)
    ·exact h h2.symm
    ·exact h1 h2
   ·exact λh1 h2=>h1 (.inr h2)
theorem yB {x:Ent}{p:List At}: ∀(es:List Ent),yD (es++[x]) p=match yD es p with|some no=>some no|none=>if x.part=p then some x.no else none
 | []=>by simp [yD]
 |y::r=>by
  rw [List.cons_append,yD,yD]
  split
  ·rfl
  ·exact yB r
theorem aLs {l:Lg}(h:lgE l=0):(rdF l.reader=true/\wC l.version=true)/\l.entries.length<=1024/\iM [] l.entries=0:=by
 unfold lgE at h
 split at h
 ·simp at h
 ·rename_i h1
  split at h
  ·simp at h
  ·refine⟨⟨?_, ?_⟩,by omega,h⟩
   ·cases hr:rdF l.reader with
    |true=>rfl
    |false=>exact absurd (.inl hr) h1
   ·cases hr:wC l.version with
    |true=>rfl
    |false=>exact absurd (.inr hr) h1
theorem aLt {l:Lg}(h1:rdF l.reader=true) (h2:wC l.version=true) (h3:l.entries.length<=1024) (h4:iM [] l.entries=0):lgE l=0:=by
 unfold lgE
 rw [if_neg (by rw [h1,h2];simp),if_neg (by omega),h4]
structure Added (l:Lg) (p:List At) (x:Lg) (no:Int):Prop where
 ok:lgE x=0
 fnd:sZ x p=(no,true)
 bef:yS l x=true
 known:(sZ l p).2=decide (x.entries.length=l.entries.length)
 new:(sZ l p).2=false->x.entries.length=l.entries.length+1/\yS x l=false
 len:x.entries.length<=l.entries.length+1
theorem aKk {l x:Lg}{p:List At}{no:Int}(hl:lgE l=0) (h:aFp l p=(x,no,0)):ptE p=0/\Added l p x no:=by
 obtain⟨⟨r1,r2⟩,r3,r4⟩:=aLs hl
 unfold aFp at h
 rw [if_neg (by rw [hl];simp)]at h
 split at h
 ·rename_i hp
  injection h with _ h
  injection h with _ h
  exact absurd h hp
 ·rename_i hp
  have hp:ptE p=0:=Decidable.not_not.1 hp
  have h8:=(aAv.1 hp).2.2
  refine⟨hp, ?_⟩
  have hf: ∀l:Lg,sZ l p=match yD l.entries (eQ p)with|some no=>(no,true)|none=>(0,false):= λl=>by
   unfold sZ
   rw [if_neg (by rw [hp];simp)]
   all_goals rfl
  split at h
  ·rename_i n hn
   injection h with h1 h
   injection h with h2 _
   subst h1 h2
   refine⟨hl,by rw [hf,hn],aFh l,by rw [hf,hn];simp,λe=> ?_,by omega⟩
   rw [hf,hn]at e
   cases e
  ·rename_i hn
   split at h
   ·injection h with _ h
    injection h with _ h
    exact absurd h (by decide)
   ·rename_i hlen
    injection h with h1 h
    injection h with h2 _
    subst h1 h2
    have hnew:aIl l.entries l.entries.length ⟨(l.entries.length:Int)+1,eQ p⟩=0:=by
     unfold aIl
     dsimp only
     rw [if_neg (by simp),aCz hp,if_neg (by simp),if_pos ⟨(yP h8).1,yC.1 hn⟩]
    refine⟨aLt r1 r2 (by dsimp only;rw [List.length_append,List.length_singleton];omega) ?_, ?_, ?_, ?_,λ_=>⟨by dsimp only;rw [List.length_append,List.length_singleton], ?_⟩,by dsimp only;rw [List.length_append,List.length_singleton];omega⟩
    ·dsimp only
     rw [uB,r4,if_neg (by simp),List.nil_append]
     exact hnew
    ·rw [hf]
     dsimp only
     rw [yB,hn]
     dsimp only
     rw [if_pos rfl]
    ·refine mM.2 ⟨rfl,rfl, ?_⟩
     dsimp only
     rw [List.take_left' rfl]
    ·rw [hf,hn]
     dsimp only
     rw [List.length_append,List.length_singleton]
     simp
    ·cases hb:yS ⟨l.reader,l.version,l.entries++[⟨(l.entries.length:Int)+1,eQ p⟩]⟩ l with
     |false=>rfl
     |true=>
      have:=zI (mM.1 hb).2.2
      dsimp only at this
      rw [List.length_append,List.length_singleton]at this
      omega
theorem aKl {l x:Lg}{p:List At}{no e:Int}(hl:lgE l=0) (hlen:l.entries.length < 1024) (h:aFp l p=(x,no,e)) (he:e≠0):x=lg0/\no=0/\ptE p≠0/\e=ptE p:=by
 unfold aFp at h
 rw [if_neg (by rw [hl];simp)]at h
 split at h
 ·rename_i hp
  injection h with h1 h
  injection h with h2 h3
  exact⟨h1.symm,h2.symm,hp,h3.symm⟩
 ·split at h
  ·injection h with _ h
   injection h with _ h
   exact absurd h.symm he
  ·split at h
   ·omega
   ·injection h with _ h
    injection h with _ h
    exact absurd h.symm he
abbrev EnT:=bL×Int×Ent
def uC:EnT:=([],0,⟨0,[]⟩)
def enE (y:EnT):Int:=if rdF y.1=false\/wC y.2.1=false\/y.2.2.no < 1\/1024 < y.2.2.no then 1 else ptE y.2.2.part
def wEn (y:EnT):List UInt8:=gX y.1++(aDa y.2.1++(aDa y.2.2.no++wQy ⟨[],[y.2.2.part]⟩))
def lA (y:EnT):List UInt8×Int:=if enE y=0 then (wEn y,0)else ([],enE y)
def rPt:Rd (List At):= λb=>match gU rQy zA qy0 280 b with
 |(⟨[],[p]⟩,0)=>some (p,[])
 |_=>none
def rEn:Rd EnT:=dW aAt λs=>dW yW λn=>dW yW λno=>mZ rPt λp=>(s,n,⟨no,p⟩)
theorem aLd {y:EnT}{d:List UInt8}(h:lA y=(d,0)):rEn d=some (y,[]):=by
 obtain⟨h1,rfl⟩:=aI1 h
 obtain⟨s,n,no,p⟩:=y
 unfold enE at h1
 dsimp only at h1
 split at h1
 ·simp at h1
 ·rename_i h2
  have hs:s.length < 4294967296:=by
   have hr:rdF s=true:=by
    cases hr:rdF s with
    |true=>rfl
    |false=>exact absurd (.inl hr) h2
   unfold rdF at hr
   rw [Bool.and_eq_true]at hr
   have:=pR hr.1
   omega
  have hn:1<=n/\n<=1024:=by
   have hr:wC n=true:=by
    cases hr:wC n with
    |true=>rfl
    |false=>exact absurd (.inr (.inl hr)) h2
   exact of_decide_eq_true hr
  have hno:1<=no/\no<=1024:=⟨by omega,by omega⟩
  unfold rEn wEn
  dsimp only
  rw [aZ (lH hs _),aZ (oO (by omega) (by omega) _),aZ (oO (by omega) (by omega) _)]
  have hq:zA ⟨[],[p]⟩=(wQy ⟨[],[p]⟩,0):=if_pos h1
  have hd:gU rQy zA qy0 280 (wQy ⟨[],[p]⟩)=(⟨[],[p]⟩,0):=yJ hq (by have:=aLb hq [];rwa [List.append_nil]at this)
  have hp:rPt (wQy ⟨[],[p]⟩)=some (p,[]):=by unfold rPt;rw [hd];rfl
  rw [bM hp]
end Go.Proofs.YtdjfkmkdkclahaaGreatDoor
namespace Go.Proofs.YtdjfkmkdkclahaaGreatDoor
open Go.Proofs
theorem aI5 (a:At):rpA id a=a:=by cases a;rfl
theorem yA {p:List At}{H H':List bL}(hn:H.Nodup) (hn':H'.Nodup) (hm: ∀s,s∈H↔s∈H') {w':List Nat}(hw:w'.Perm (List.range H'.length)): ∃w:List Nat,w.Perm (List.range H.length)/\iL p H w=iL p H' w':=by
 have hl:H.length=H'.length:=((List.perm_ext_iff_of_nodup hn hn').2 hm).length_eq
 obtain⟨w,h1,h2⟩:=aD7 (σ:=id) hn hn' hl (λs hs=>(hm s).1 hs) (λs _ t _ e=>e) hw
 refine⟨w,h1,aAc (ρ:=id) (λx=> ?_) λa ha=> ?_⟩
 ·rw [List.mem_map]
  exact⟨λh=>⟨x,h,aI5 x⟩,λ⟨a,h,e⟩=>by rw [aI5]at e;rw [<-e];exact h⟩
 ·have one: ∀s,gW H w s=gW H' w' (id s):=by
   intro s
   by_cases hs:s∈H
   ·exact h2 s hs
   ·rw [show gW H w s=s from iK _ _ _ hs,show gW H' w' (id s)=s from iK _ _ _ (λh=>hs ((hm s).2 h))]
  exact⟨one _,one _⟩
theorem aKe {p:List At}{y:List At}{H:List bL}(hn:H.Nodup) (hm: ∀s,s∈H↔s∈aR p) (hN:(aR p).length<=8) (hy:IsCan p H y):y=eQ p:=by
 refine aIn hN ?_
 obtain⟨w,hw,e⟩:=hy.ex
 obtain⟨w1,hw1,e1⟩:=yA (p:=p) (cP p).2 hn (λs=>(hm s).symm) hw
 refine⟨⟨w1,hw1,by rw [e,e1]⟩,λw2 hw2=> ?_⟩
 obtain⟨w3,hw3,e3⟩:=yA (p:=p) hn (cP p).2 hm hw2
 rw [<-e3]
 exact hy.le w3 hw3
theorem zC {p q:List At}(h: ∀x,x∈p↔x∈q) (s:bL):s∈aR p↔s∈aR q:=by
 rw [(cC p).2,(cC q).2]
 unfold cH
 rw [List.mem_filter,List.mem_filter,List.mem_flatMap,List.mem_flatMap]
 constructor
 ·rintro⟨⟨a,ha,hs⟩,hl⟩
  exact⟨⟨a,(h a).1 ha,hs⟩,hl⟩
 ·rintro⟨⟨a,ha,hs⟩,hl⟩
  exact⟨⟨a,(h a).2 ha,hs⟩,hl⟩
theorem oG (p:List At) (s:bL):s∈aR (nK p)↔s∈aR p:=zC (gY p).m s
theorem nJ (p:List At):(aR (nK p)).length=(aR p).length:=((List.perm_ext_iff_of_nodup (cP _).2 (cP _).2).2 (oG p)).length_eq
theorem aM4 {p:List At}(hN:(aR p).length<=8):dfs (nK p) (aR (nK p)) (aR (nK p)).length 0 (List.replicate (aR (nK p)).length none) none=some (eQ p):=by
 have hv:Vof p (aR (nK p)):= λa ha=>⟨λh=>(oG p _).2 (((cP p).1 a ha).1 h),λh=>(oG p _).2 (((cP p).1 a ha).2 h)⟩
 obtain⟨y,e,hy⟩:=aF3 (gY p) hv (cP _).2 (by rw [nJ];exact hN)
 rw [e,aKe (cP _).2 (oG p) hN hy]
abbrev Mp:=List (bL×bL)
def gF (F:Mp) (s:bL):bL:=(sL F s).getD s
theorem fV {β:Type}(k k':bL) (s:β): ∀F:List (bL×β),sL (xN F k s) k'=if k'=k then some s else sL F k'
 | []=>by
  rw [xN]
  unfold sL
  rfl
 |(x,y)::r=>by
  rw [xN]
  by_cases h:k=x
  ·rw [if_pos h,sL,sL]
   subst h
   split
   ·rfl
   ·rfl
  ·rw [if_neg h,sL,sL,fV k k' s r]
   by_cases h2:k'=x
   ·rw [if_pos h2,if_pos h2,if_neg (λe=>h (by rw [<-e,h2]))]
   ·rw [if_neg h2,if_neg h2]
structure MpOk (H:List bL) (a:Asg) (F:Mp):Prop where
 out: ∀s,s∉H->sL F s=none
 got: ∀(i k:Nat) (s:bL),H[i]? =some s->a[i]? =some (some k)->sL F s=some (nmV k)
theorem MpOk.nil {H:List bL}:MpOk H (List.replicate H.length none) []:=by
 refine⟨λs _=>rfl,λi k s _ h=> ?_⟩
 rw [List.getElem?_replicate]at h
 split at h
 ·cases h
 ·cases h
structure MpN (H:List bL) (a:Asg) (n j:Nat) (F:Mp):Prop extends MpOk H a F where
 nx: ∀(i:Nat) (s:bL),i < j->H[i]? =some s->a[i]? =some none->sL F s=some (nmV (n+1))
theorem MpN.zero {H:List bL}{a:Asg}{n:Nat}{F:Mp}(h:MpOk H a F):MpN H a n 0 F:=⟨h,λi s hi=>by omega⟩
theorem aB5 {H:List bL}(hH:H.Nodup) {i j:Nat}{s:bL}(h1:H[i]? =some s) (h2:H[j]? =some s):i=j:=by
 obtain⟨a1,a2⟩:=List.getElem?_eq_some_iff.1 h1
 obtain⟨b1,b2⟩:=List.getElem?_eq_some_iff.1 h2
 have hp:=List.pairwise_iff_getElem.1 hH
 rcases Nat.lt_trichotomy i j with h|h|h
 ·exact absurd (a2.trans b2.symm) (hp i j a1 b1 h)
 ·exact h
 ·exact absurd (b2.trans a2.symm) (hp j i b1 a1 h)
theorem MpN.skip {H:List bL}{a:Asg}{n j:Nat}{F:Mp}(h:MpN H a n j F) {k:Nat}(ha:a[j]? =some (some k)):MpN H a n (j+1) F:=
 ⟨h.toMpOk, λi s hi hs hn => by
  rcases Nat.lt_or_ge i j with hlt|hge
  ·exact h.nx i s hlt hs hn
  ·obtain rfl:i=j:=by omega
   rw [ha]at hn;cases hn⟩
theorem MpN.set {H:List bL}(hH:H.Nodup) {a:Asg}{n j:Nat}{F:Mp}(h:MpN H a n j F) {s:bL}(hs:H[j]? =some s) (ha:a[j]? =some none):MpN H a n (j+1) (xN F s (nmV (n+1))):=by
 refine⟨⟨λt ht=> ?_,λi k t h1 h2=> ?_⟩,λi t hi h1 h2=> ?_⟩
 ·rw [fV,if_neg (λe=>ht (by rw [e];exact List.mem_of_getElem? hs))]
  exact h.out t ht
 ·rw [fV,if_neg (λe=> ?_)]
  ·exact h.got i k t h1 h2
  ·subst e
   obtain rfl:=aB5 hH h1 hs
   rw [ha]at h2;cases h2
 ·rw [fV]
  split
  ·rfl
  ·rename_i hne
   refine h.nx i t ?_ h1 h2
   rcases Nat.lt_or_ge i j with hlt|hge
   ·exact hlt
   ·obtain rfl:i=j:=by omega
    rw [hs]at h1
    injection h1 with h1
    exact absurd h1.symm hne
theorem MpN.all {H:List bL}(hH:H.Nodup) {a:Asg}{n:Nat}{F:Mp}(hl:a.length=H.length) (h:MpN H a n H.length F) (s:bL):gF F s=gV H (eT a n) s:=by
 unfold gF
 by_cases hs:s∈H
 ·obtain⟨i,hi⟩:=List.getElem?_of_mem hs
  have hil:=(List.getElem?_eq_some_iff.1 hi).1
  have ha:a[i]? =some (a[i]'(by omega)):=List.getElem?_eq_getElem (by omega)
  have hv:(eT a n)[i]? =some (nmV ((a[i]'(by omega)).getD (n+1))):=by unfold eT;rw [List.getElem?_map,ha];rfl
  rw [aCw hH hi hv]
  cases hc:a[i]'(by omega)with
  |none=>rw [h.nx i s hil hi (by rw [ha,hc])];rfl
  |some k=>rw [h.got i k s hi (by rw [ha,hc])];rfl
 ·rw [h.out s hs,iK _ _ _ hs];rfl
theorem MpOk.name {H:List bL}(hH:H.Nodup) {a:Asg}{i k:Nat}{F:Mp}(h:MpOk H a F) {s:bL}(hs:H[i]? =some s) (ha:a[i]? =some none):MpOk H (a.set i (some k)) (xN F s (nmV k)):=by
 refine⟨λt ht=> ?_,λj m t h1 h2=> ?_⟩
 ·rw [fV,if_neg (λe=>ht (by rw [e];exact List.mem_of_getElem? hs))]
  exact h.out t ht
 ·rw [fV]
  by_cases e:i=j
  ·subst e
   rw [hs]at h1
   injection h1 with h1
   rw [if_pos h1.symm]
   rw [List.getElem?_set_self (List.getElem?_eq_some_iff.1 ha).1]at h2
   injection h2 with h2
   injection h2 with h2
   rw [h2]
  ·rw [if_neg (λet=> ?_)]
   ·rw [List.getElem?_set_ne e]at h2
    exact h.got j m t h1 h2
   ·subst et
    exact e (aB5 hH hs h1)
theorem MpOk.back {H:List bL}{a:Asg}{i k:Nat}{F:Mp}(ha:a[i]? =some none) (h:MpOk H (a.set i (some k)) F):MpOk H a F:=by
 refine⟨h.out,λj m t h1 h2=>h.got j m t h1 ?_⟩
 by_cases e:i=j
 ·subst e
  rw [ha]at h2;cases h2
 ·rw [List.getElem?_set_ne e];exact h2
def aBr (P:List At) (H:List bL) (f n:Nat) (a:Asg) (best:Option (List At)) (j:Nat):Option (List At):=
 (List.range j).foldl (λbest i=>if a[i]? =some none then dfs P H f (n+1) (a.set i (some (n+1))) best else best) best
theorem aF4 {P:List At}{H:List bL}{f n:Nat}{a:Asg}{best:Option (List At)}{j k:Nat}(h:a[j]? =some (some k)):aBr P H f n a best (j+1)=aBr P H f n a best j:=by
 unfold aBr
 rw [List.range_succ,List.foldl_append,List.foldl_cons,List.foldl_nil,if_neg (by rw [h];simp)]
theorem aK6 {P:List At}{H:List bL}{f n:Nat}{a:Asg}{best:Option (List At)}{j:Nat}(h:a[j]? =some none):aBr P H f n a best (j+1)=dfs P H f (n+1) (a.set j (some (n+1))) (aBr P H f n a best j):=by
 unfold aBr
 rw [List.range_succ,List.foldl_append,List.foldl_cons,List.foldl_nil,if_pos h]
theorem aK5 {P:List At}{H:List bL}{f n:Nat}{a:Asg}{best:Option (List At)}(h:aK8 (yOf P H a n) best=true):dfs P H f n a best=best:=by
 cases f with
 |zero=>rw [dfs,if_pos h]
 |succ f=>rw [dfs,if_pos h]
theorem aHf {P:List At}{H:List bL}{n:Nat}{a:Asg}{best:Option (List At)}(h:aK8 (yOf P H a n) best=false):dfs P H 0 n a best=some (yOf P H a n):=by
 rw [dfs,if_neg (by rw [h];simp)]
theorem aHg {P:List At}{H:List bL}{f n:Nat}{a:Asg}{best:Option (List At)}(h:aK8 (yOf P H a n) best=false):dfs P H (f+1) n a best=aBr P H f n a best a.length:=by
 rw [dfs,if_neg (by rw [h];simp)]
 rfl
theorem aDo {l m:List At}(hp:m.Perm l) (hs:m.Pairwise λa b=>¬ bS b a < 0):m=wZ bS l:=
 uY bH (λa b=>aAj) (hp.trans (iV _).symm) (hs.imp λ{a b} h=>by have:=bH.anti a b;omega) (dV bH _)
end Go.Proofs.YtdjfkmkdkclahaaGreatDoor
namespace Go.Proofs.YtdjfkmkdkclahaaGreatDoor
open Go.Proofs Go.Shelf Go.Sort
set_option maxRecDepth 10000
theorem aAs:Tryz.sortAt_ren.t 24=60:=rfl
theorem aBg: ∀w,(isAgg (Tryz.sortAt_ren.t 24)).run Tryz.prog w= .ok true w:=by
 intro w
 rw [aAs]
 obtain⟨d,i,z,h⟩:=aK (hty 60 _ rfl)
 exact h.run_isAgg w
theorem aDs: ∀w,(Go.sizeOf (Tryz.sortAt_ren.t 24)).run Tryz.prog w= .ok 6 w:=by
 intro w
 rw [aAs]
 obtain⟨d,i,z,h⟩:=aK (hty 60 _ rfl)
 exact h.run_size w
end Go.Proofs.YtdjfkmkdkclahaaGreatDoor
namespace Go.Proofs.YtdjfkmkdkclahaaGreatDoor
open Go.Proofs Go.RowKit
set_option maxRecDepth 10000
attribute [local irreducible] aJ aG Tri aF YVC cA aU
theorem rW (q:Qy):Tri Tryz.prog 60 [.d (.agg (qyR q))] [] (λr=>r= .d (.int .i64 (hC q))):=by
 obtain⟨told,parts⟩:=q
 show Tri Tryz.prog 60 [.d (.agg [.sl 1 (told.map bQ), .sl 1 (parts.map aQ)])] [] _
 have hlt:(told.map bQ).length=told.length:=List.length_map ..
 have hlp:(parts.map aQ).length=parts.length:=List.length_map ..
 by_cases h1:parts.length < 1\/4 < parts.length\/3 < told.length
 ·rw [show hC ⟨told,parts⟩=210 from if_pos h1]
  refine aH false [1,4] hty Tryz.func60 rfl (kp [0,1,2,4,20,22,23,24,25,37]) [] _ _ _ (by simp [Tryz.f60]) (by simp) ?_
  ((conv=>whnf);repeat' ((first|(intro hq;(try simp only [lnS]at hq);(try rewrite [List.length_map]))|refine sJ ?_|refine .intro _ (.intro rfl ?_)|refine exL (k:= ?_)|refine dwR ?_|((first|refine aC ?_ ?_|refine aD ?_ ?_)<;>intro hb<;>(first|exact ddX hb|try simp only [lnS]at hb))|(refine aB ?_ ?_<;>intro hb<;>try exact dsX hb))<;>(conv=>whnf)))
  all_goals first|rfl|(exfalso;omega)
 rw [show hC ⟨told,parts⟩=if parts.any (λp=>decide (p.length < 1) || decide (12 < p.length))then 210 else 0 from if_neg h1]
 refine aH false [1,4] hty Tryz.func60 rfl (kp [0,1,2,4,20,22,23,24,25,37]) [] _ _ _ (by simp [Tryz.f60]) (by simp) ?_
 ((conv=>whnf);repeat' ((first|(intro hq;(try simp only [lnS]at hq);(try rewrite [List.length_map]))|refine sJ ?_|refine .intro _ (.intro rfl ?_)|refine exL (k:= ?_)|refine dwR ?_|((first|refine aC ?_ ?_|refine aD ?_ ?_)<;>intro hb<;>(first|exact ddX hb|try simp only [lnS]at hb))|(refine aB ?_ ?_<;>intro hb<;>try exact dsX hb))<;>(conv=>whnf)))
 refine aP hty (λj:Nat=>([(22, .d (.sl 1 (parts.map aQ))),(23, .d (.int .i64 parts.length)),(24, .d (.int .i64 j))],[])) (λj=>j<=parts.length/\(parts.take j).any (λp=>decide (p.length < 1) || decide (12 < p.length))=false) (λj=>parts.length - j) 0 ⟨by omega,rfl⟩ ⟨by repeat' (first|exact trivial|exact rfl|(rw [List.length_map];exact rfl)|refine And.intro ?_ ?_),trivial⟩ ?_
 rintro j ⟨hj,hn⟩
 ((conv=>whnf);repeat ((first|(intro hq;try simp only [lnS]at hq)|refine sI ?_|refine .intro _ (.intro rfl ?_));(conv=>whnf)))
 refine aC (λh2=> ?_) (λh2=> ?_)
 ·have hjl:j < parts.length:=by omega
  have hrow:(parts.map aQ)[(j:Int).toNat]? =some (aQ parts[j]):=aT hjl
  have hhit:=vZ (F:= λp:List At=>decide (p.length < 1) || decide (12 < p.length)) hjl
  have hsuc:=oX (F:= λp:List At=>decide (p.length < 1) || decide (12 < p.length)) hjl hn
  generalize parts[j]=x at hrow hhit hsuc
  rw [show aQ x=[.sl 6 (x.map atR)]from rfl]at hrow
  have hlx:(x.map atR).length=x.length:=List.length_map ..
  ((conv=>whnf);repeat' ((first|(intro hq;(try simp only [lnS]at hq);(try rewrite [List.length_map]))|refine sJ ?_|refine .intro _ (.intro rfl ?_)|refine exL (k:= ?_)|(refine⟨_,hrow, ?_⟩)|refine dwR ?_|((first|refine aC ?_ ?_|refine aD ?_ ?_)<;>intro hb<;>(first|exact ddX hb|try simp only [lnS]at hb))|(refine aB ?_ ?_<;>intro hb<;>try exact dsX hb))<;>(conv=>whnf)))
  ·rw [if_pos (hhit (by rw [Bool.or_eq_true,decide_eq_true_eq,decide_eq_true_eq];omega))];rfl
  ·rw [if_pos (hhit (by rw [Bool.or_eq_true,decide_eq_true_eq,decide_eq_true_eq];omega))];rfl
  ·refine⟨j+1,⟨by omega,hsuc (by rw [Bool.or_eq_false_iff,decide_eq_false_iff_not,decide_eq_false_iff_not];omega)⟩,by dsimp only;omega,by repeat' (first|exact trivial|exact rfl|refine And.intro ?_ ?_),trivial⟩
 ·have hjl:j=parts.length:=by omega
  subst hjl
  rw [List.take_length]at hn
  ((conv=>whnf);repeat' ((first|(intro hq;(try simp only [lnS]at hq);(try rewrite [List.length_map]))|refine sJ ?_|refine .intro _ (.intro rfl ?_)|refine exL (k:= ?_)|refine dwR ?_|((first|refine aC ?_ ?_|refine aD ?_ ?_)<;>intro hb<;>(first|exact ddX hb|try simp only [lnS]at hb))|(refine aB ?_ ?_<;>intro hb<;>try exact dsX hb))<;>(conv=>whnf)))
  rw [if_neg (by rw [hn];decide)];rfl
theorem tG (q:Qy) (hp: ∀p∈q.parts,p.length<=100000):Tri Tryz.prog 62 [.d (.agg (qyR q))] [] (λr=>r= .d (.int .i64 (mU q.told q.parts))):=by
 obtain⟨told,parts⟩:=q
 dsimp only at hp |-
 rw [aGc]
 show Tri Tryz.prog 62 [.d (.agg [.sl 1 (told.map bQ), .sl 1 (parts.map aQ)])] [] _
 have hlt:(told.map bQ).length=told.length:=List.length_map ..
 have hlp:(parts.map aQ).length=parts.length:=List.length_map ..
 refine aH false [1,8] hty Tryz.func62 rfl (kp [0,1,2,4,5,6,8,10,11,12,13,18,21,22,23,24,33,35,36,37,38,45]) [] _ _ _ (by simp [Tryz.f62]) (by simp) ?_
 ((conv=>whnf);repeat' ((first|(intro hq;(try simp only [lnS]at hq);(try rewrite [List.length_map]))|refine sJ ?_|refine .intro _ (.intro rfl ?_)|refine exL (k:= ?_)|refine dwR ?_|((first|refine aC ?_ ?_|refine aD ?_ ?_)<;>intro hb<;>(first|exact ddX hb|try simp only [lnS]at hb))|(refine aB ?_ ?_<;>intro hb<;>try exact dsX hb))<;>(conv=>whnf)))
 refine aP hty (λj:Nat=>([(1, .ea 2 [[.sl 1 (told.map bQ), .sl 1 (parts.map aQ)]] 0 0),(10, .d (.sl 1 (told.map bQ))),(11, .d (.int .i64 told.length)),(12, .d (.int .i64 j))],[])) (λj=>j<=told.length/\(told.take j).any (λt=> !sC t)=false) (λj=>told.length - j) 0 ⟨by omega,rfl⟩ ⟨by repeat' (first|exact trivial|exact rfl|(rw [List.length_map];exact rfl)|refine And.intro ?_ ?_),trivial⟩ ?_
 rintro j ⟨hj,hn⟩
 ((conv=>whnf);repeat ((first|(intro hq;try simp only [lnS]at hq)|refine sI ?_|refine .intro _ (.intro rfl ?_));(conv=>whnf)))
 refine aC (λh2=> ?_) (λh2=> ?_)
 ·have hjl:j < told.length:=by omega
  have hrow:(told.map bQ)[(j:Int).toNat]? =some (bQ told[j]):=aT hjl
  have hhit:=vZ (F:= λt:List UInt8=> !sC t) hjl
  have hsuc:=oX (F:= λt:List UInt8=> !sC t) hjl hn
  generalize told[j]=x at hrow hhit hsuc
  ((conv=>whnf);repeat' ((first|(intro hq;(try simp only [lnS]at hq);(try rewrite [List.length_map]))|refine sJ ?_|refine .intro _ (.intro rfl ?_)|refine exL (k:= ?_)|(refine⟨_,hrow, ?_⟩)|(refine aA [] (iI x) trivial (λr hs=> ?_);subst hs)|refine dwR ?_|((first|refine aC ?_ ?_|refine aD ?_ ?_)<;>intro hb<;>(first|exact ddX hb|try simp only [lnS]at hb))|(refine aB ?_ ?_<;>intro hb<;>try exact dsX hb))<;>(conv=>whnf)))
  ·rw [if_pos (hhit hb)];rfl
  ·refine⟨j+1,⟨by omega,hsuc hb⟩,by dsimp only;omega,by repeat' (first|exact trivial|exact rfl|refine And.intro ?_ ?_),trivial⟩
 have hjl:j=told.length:=by omega
 subst hjl
 rw [List.take_length]at hn
 rw [if_neg (by rw [hn];decide)]
 clear hn h2
 ((conv=>whnf);repeat' ((first|(intro hq;(try simp only [lnS]at hq);(try rewrite [List.length_map]))|refine sJ ?_|refine .intro _ (.intro rfl ?_)|refine exL (k:= ?_)|refine dwR ?_|((first|refine aC ?_ ?_|refine aD ?_ ?_)<;>intro hb<;>(first|exact ddX hb|try simp only [lnS]at hb))|(refine aB ?_ ?_<;>intro hb<;>try exact dsX hb))<;>(conv=>whnf)))
 refine aP hty (λj:Nat=>([(1, .ea 2 [[.sl 1 (told.map bQ), .sl 1 (parts.map aQ)]] 0 0),(21, .d (.sl 1 (told.map bQ))),(22, .d (.int .i64 told.length)),(23, .d (.int .i64 j))],[])) (λj=>j<=told.length/\(List.range j).any (aKu told parts)=false) (λj=>told.length - j) 0 ⟨by omega,rfl⟩ ⟨by repeat' (first|exact trivial|exact rfl|(rw [List.length_map];exact rfl)|refine And.intro ?_ ?_),trivial⟩ ?_
 rintro j ⟨hj,hn⟩
 ((conv=>whnf);repeat ((first|(intro hq;try simp only [lnS]at hq)|refine sI ?_|refine .intro _ (.intro rfl ?_));(conv=>whnf)))
 refine aC (λh2=> ?_) (λh2=> ?_)
 ·have hjl:j < told.length:=by omega
  have hrow:(told.map bQ)[(j:Int).toNat]? =some (bQ told[j]):=aT hjl
  have hhit:=vF (F:=aKu told parts) hjl
  have hsuc:=sH (F:=aKu told parts) hn
  have hbad:aKu told parts j=(decide (told[j]∈told.take j) || parts.any (λp=> !decide (told[j]∈cH p))):=by
   unfold aKu
   rw [show told.getD j []=told[j]by rw [List.getD_eq_getElem?_getD,List.getElem?_eq_getElem hjl];rfl,List.contains_eq_mem]
   simp only [List.contains_eq_mem]
  have hc:=gL (told.take j) told[j]
  generalize told[j]=x at hrow hbad hc
  rw [List.map_take]at hc
  rw [hbad]at hhit hsuc
  ((conv=>whnf);repeat ((first|(refine⟨_,hrow, ?_⟩)|(intro hq;try simp only [lnS]at hq)|refine sI ?_|refine .intro _ (.intro rfl ?_));(conv=>whnf)))
  refine aA [] hc trivial (λr hs=> ?_)
  subst hs
  ((conv=>whnf);repeat ((first|(intro hq;try simp only [lnS]at hq)|refine sI ?_|refine .intro _ (.intro rfl ?_));(conv=>whnf)))
  refine aC (λh3=> ?_) (λh3=> ?_)
  ·((conv=>whnf);repeat' ((first|(intro hq;(try simp only [lnS]at hq);(try rewrite [List.length_map]))|refine sJ ?_|refine .intro _ (.intro rfl ?_)|refine exL (k:= ?_)|refine dwR ?_|((first|refine aC ?_ ?_|refine aD ?_ ?_)<;>intro hb<;>(first|exact ddX hb|try simp only [lnS]at hb))|(refine aB ?_ ?_<;>intro hb<;>try exact dsX hb))<;>(conv=>whnf)))
   rw [if_pos (hhit (by rw [decide_eq_true h3];rfl))];rfl
  rw [decide_eq_false h3,Bool.false_or]at hhit hsuc
  ((conv=>whnf);repeat ((first|(intro hq;try simp only [lnS]at hq)|refine sI ?_|refine .intro _ (.intro rfl ?_));(conv=>whnf)))
  refine aP hty (λi:Nat=>([(1, .ea 2 [[.sl 1 (told.map bQ), .sl 1 (parts.map aQ)]] 0 0),(6, .d (.str x)),(21, .d (.sl 1 (told.map bQ))),(22, .d (.int .i64 told.length)),(23, .d (.int .i64 j)),(35, .d (.sl 1 (parts.map aQ))),(36, .d (.int .i64 parts.length)),(37, .d (.int .i64 i))],[])) (λi=>i<=parts.length/\(parts.take i).any (λp=> !decide (x∈cH p))=false) (λi=>parts.length - i) 0 ⟨by omega,rfl⟩ ⟨by repeat' (first|exact trivial|exact rfl|(rw [List.length_map];exact rfl)|refine And.intro ?_ ?_),trivial⟩ ?_
  rintro i ⟨hi,hm⟩
  ((conv=>whnf);repeat ((first|(intro hq;try simp only [lnS]at hq)|refine sI ?_|refine .intro _ (.intro rfl ?_));(conv=>whnf)))
  refine aC (λh4=> ?_) (λh4=> ?_)
  ·have hil:i < parts.length:=by omega
   have hrow2:(parts.map aQ)[(i:Int).toNat]? =some (aQ parts[i]):=aT hil
   have hhit2:=vZ (F:= λp:List At=> !decide (x∈cH p)) hil
   have hsuc2:=oX (F:= λp:List At=> !decide (x∈cH p)) hil hm
   have hv:=fI parts[i] (hp _ (List.getElem_mem hil))
   have hc2:=gL (aR parts[i]) x
   have hmem:=(cC parts[i]).2 x
   generalize parts[i]=y at hrow2 hhit2 hsuc2 hv hc2 hmem
   rw [show decide (x∈aR y)=decide (x∈cH y)from decide_eq_decide.2 hmem]at hc2
   generalize (aR y).map bQ=vy at hv hc2
   rw [show aQ y=[.sl 6 (y.map atR)]from rfl]at hrow2 hv
   ((conv=>whnf);repeat' ((first|(intro hq;(try simp only [lnS]at hq);(try rewrite [List.length_map]))|refine sJ ?_|refine .intro _ (.intro rfl ?_)|refine exL (k:= ?_)|(refine⟨_,hrow2, ?_⟩)|(refine aA [] hv trivial (λr hs=> ?_);subst hs)|(refine aA [] hc2 trivial (λr hs=> ?_);subst hs)|refine dwR ?_|((first|refine aC ?_ ?_|refine aD ?_ ?_)<;>intro hb<;>(first|exact ddX hb|try simp only [lnS]at hb))|(refine aB ?_ ?_<;>intro hb<;>try exact dsX hb))<;>(conv=>whnf)))
   ·rw [if_pos (hhit (hhit2 (by rw [decide_eq_false hb];rfl)))];rfl
   ·exact⟨i+1,⟨by omega,hsuc2 (by rw [decide_eq_true hb];rfl)⟩,by dsimp only;omega,by repeat' (first|exact trivial|exact rfl|refine And.intro ?_ ?_),trivial⟩
  ·have hil:i=parts.length:=by omega
   subst hil
   rw [List.take_length]at hm
   ((conv=>whnf);repeat' ((first|(intro hq;(try simp only [lnS]at hq);(try rewrite [List.length_map]))|refine sJ ?_|refine .intro _ (.intro rfl ?_)|refine exL (k:= ?_)|refine dwR ?_|((first|refine aC ?_ ?_|refine aD ?_ ?_)<;>intro hb<;>(first|exact ddX hb|try simp only [lnS]at hb))|(refine aB ?_ ?_<;>intro hb<;>try exact dsX hb))<;>(conv=>whnf)))
   exact⟨j+1,⟨by omega,hsuc hm⟩,by dsimp only;omega,by repeat' (first|exact trivial|exact rfl|refine And.intro ?_ ?_),trivial⟩
 ·have hjl:j=told.length:=by omega
  subst hjl
  rw [if_neg (by rw [hn];decide)]
  ((conv=>whnf);repeat' ((first|(intro hq;(try simp only [lnS]at hq);(try rewrite [List.length_map]))|refine sJ ?_|refine .intro _ (.intro rfl ?_)|refine exL (k:= ?_)|refine dwR ?_|((first|refine aC ?_ ?_|refine aD ?_ ?_)<;>intro hb<;>(first|exact ddX hb|try simp only [lnS]at hb))|(refine aB ?_ ?_<;>intro hb<;>try exact dsX hb))<;>(conv=>whnf)))
  rfl
end Go.Proofs.YtdjfkmkdkclahaaGreatDoor
namespace Go.Proofs.YtdjfkmkdkclahaaGreatDoor
open Go.Proofs Go.RowKit
set_option maxRecDepth 10000
attribute [local irreducible] aJ aG Tri aF YVC cA aU
theorem zS:Tri Tryz.prog 191 [.d .nil] [] (λr=>r= .d (.int .i64 0)):=by
 refine aI hty Tryz.func191 rfl (kp [0,2,4,5,6,7,8,9,15]) [] _ _ _ (by simp [Tryz.f191]) (by simp) ?_
 ((conv=>whnf);repeat' ((first|(intro hq;(try simp only [lnS]at hq);(try rewrite [List.length_map]))|refine sJ ?_|refine .intro _ (.intro rfl ?_)|refine exL (k:= ?_)|(refine gP hty 2 ?_)|refine dwR ?_|((first|refine aC ?_ ?_|refine aD ?_ ?_)<;>intro hb<;>(first|exact ddX hb|try simp only [lnS]at hb))|(refine aB ?_ ?_<;>intro hb<;>try exact dsX hb))<;>(conv=>whnf)))
 rfl
theorem aFc (s:List UInt8):Tri Tryz.prog 145 [.d .nil, .d (.sl 1 [[.str s]])] [] (λr=>r= .d (.int .i64 (if fB s then 0 else 20))):=by
 refine aI hty Tryz.func145 rfl (kp [0,1,4,5,7,8,12,14,15,16,17,23]) [] _ _ _ (by simp [Tryz.f145]) (by simp) ?_
 ((conv=>whnf);repeat' ((first|(intro hq;(try simp only [lnS]at hq);(try rewrite [List.length_map]))|refine sJ ?_|refine .intro _ (.intro rfl ?_)|refine exL (k:= ?_)|(refine gP hty 2 ?_)|(refine aA [] zS trivial (λr hs=> ?_);subst hs)|(refine aA [] (fN _) trivial (λs hs=> ?_);subst hs)|refine dwR ?_|((first|refine aC ?_ ?_|refine aD ?_ ?_)<;>intro hb<;>(first|exact ddX hb|try simp only [lnS]at hb))|(refine aB ?_ ?_<;>intro hb<;>try exact dsX hb))<;>(conv=>whnf)))
 all_goals (cases h:fB s)
 all_goals first|rfl|(simp_all;done)|(simp_all;rfl)
theorem aJb (s:List UInt8) (hn:fB s=true):Tri Tryz.prog 102 [.d .nil, .d (.str s)] [] (λr=>r= .tup [.d (.bool true), .d (.int .i64 0)]):=by
 have h:=aFc s
 rw [if_pos hn]at h
 refine aI hty Tryz.func102 rfl (kp [0,1,4,5,6,7,9,10,12,18,21,22,23,24,29,47,48,49,50,66]) [] _ _ _ (by simp [Tryz.f102]) (by simp) ?_
 ((conv=>whnf);repeat ((first|(intro hq;try simp only [lnS]at hq)|refine sI ?_|refine .intro _ (.intro rfl ?_));(conv=>whnf)))
 refine aA [] (Tri.args (xs:=_) h ⟨cJ.refl _,cJ.osl,trivial⟩) trivial (λr hs=> ?_)
 subst hs
 ((conv=>whnf);repeat ((first|(intro hq;try simp only [lnS]at hq)|refine sI ?_|refine .intro _ (.intro rfl ?_));(conv=>whnf)))
 refine vO rfl rfl (λl=>D.str l) 34 (cO (by with_unfolding_all exact rfl)) ?_
 ((conv=>whnf);repeat ((first|(intro hq;try simp only [lnS]at hq)|refine sI ?_|refine .intro _ (.intro rfl ?_));(conv=>whnf)))
 refine gP hty 2 ?_
 ((conv=>whnf);repeat ((first|(intro hq;try simp only [lnS]at hq)|refine sI ?_|refine .intro _ (.intro rfl ?_));(conv=>whnf)))
 refine aL false [] hty Tryz.func146 rfl (kp [0,1,4,5,6,7,9,17,25,26,27,28,34]) 100 (by simp [Tryz.f146]) ?_
 ((conv=>whnf);repeat ((first|(intro hq;try simp only [lnS]at hq)|refine sI ?_|refine .intro _ (.intro rfl ?_));(conv=>whnf)))
 refine vO rfl rfl (λl=>D.str l) 35 (cO (by with_unfolding_all exact rfl)) ?_
 ((conv=>whnf);repeat ((first|(intro hq;try simp only [lnS]at hq)|refine sI ?_|refine .intro _ (.intro rfl ?_));(conv=>whnf)))
 refine mR (.inr rfl) rfl (gJ rfl) rfl rfl rfl rfl (λbs1 c1=> ?_)
 ((conv=>whnf);repeat ((first|(intro hq;try simp only [lnS]at hq)|refine sI ?_|refine .intro _ (.intro rfl ?_));(conv=>whnf)))
 refine gP hty 3 ?_
 ((conv=>whnf);repeat' ((first|(intro hq;(try simp only [lnS]at hq);(try rewrite [List.length_map]))|refine sJ ?_|refine .intro _ (.intro rfl ?_)|refine exL (k:= ?_)|(refine iZ (id:=34) rfl rfl (gJ rfl) rfl rfl rfl rfl ?_)|(refine gP hty 2 ?_)|refine dwR ?_|((first|refine aC ?_ ?_|refine aD ?_ ?_)<;>intro hb<;>(first|exact ddX hb|try simp only [lnS]at hb))|(refine aB ?_ ?_<;>intro hb<;>try exact dsX hb))<;>(conv=>whnf)))
 rfl
end Go.Proofs.YtdjfkmkdkclahaaGreatDoor
