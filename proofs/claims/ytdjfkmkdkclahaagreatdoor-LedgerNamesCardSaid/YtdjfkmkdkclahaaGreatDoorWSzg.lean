/-
  Ledgers, plainly: names of variables and the order of atoms do not matter. Ledgers, the laws: fewParts; ledgers only grow. Ledgers, the laws: the ledger that parts lead to. Ledgers, the law: other names of variables. Ledgers, the law: Before is an order. Regions that draw their order, as a tree: with empty slices that have no room, and append onto rows that may be written.
  Conditions: none.
-/
import Derived.Test.YtdjfkmkdkclahaaGreatDoorWQqg
import Derived.Test.YtdjfkmkdkclahaaGreatDoorWVe
import Derived.Test.YtdjfkmkdkclahaaGreatDoorWQqh
import Derived.Test.YtdjfkmkdkclahaaGreatDoorWZi
import Derived.Test.YtdjfkmkdkclahaaGreatDoorWOh
set_option linter.unnecessarySimpa false
set_option linter.unusedSectionVars false
set_option linter.unusedSimpArgs false
set_option linter.unusedVariables false
set_option maxHeartbeats 8000000
namespace Go.Proofs.YtdjfkmkdkclahaaGreatDoor
section
open Go.Proofs
def ltV (w x y z:UInt8):Nat->UInt8
 | 0=>w
 | 1=>x
 | 2=>y
 |_=>z
def ltB (w x y z:UInt8) (i:Nat):UInt8:=UInt8.ofNat (97+i+4 * ((ltV w x y z i).toNat % 6))
theorem aFm (w x y z:UInt8) {i:Nat}(hi:i < 4):(ltB w x y z i).toNat=97+i+4 * ((ltV w x y z i).toNat % 6):=by
 unfold ltB
 rw [UInt8.toNat_ofNat']
 have:=Nat.mod_lt (ltV w x y z i).toNat (show 0 < 6 by decide)
 omega
def ltF (w x y z:UInt8):List bG->Nat->bG->bG
 | [],_,t=>t
 |v::r,i,t=>if v=t then [63,ltB w x y z i]else ltF w x y z r (i+1) t
theorem yC (w x y z:UInt8) {s:bG}: ∀{H:List bG}{i:Nat},s∈H-> ∃k,H[k]? =some s/\ltF w x y z H i s=[63,ltB w x y z (i+k)]
 | [],_,h=>by cases h
 |v::r,i,h=>by
  by_cases e:v=s
  ·exact⟨0,by simp [e],by rw [ltF,if_pos e];rfl⟩
  ·have hr:s∈r:=by
    rcases List.mem_cons.1 h with h|h
    ·exact absurd h.symm e
    ·exact h
   obtain⟨k,h1,h2⟩:=yC w x y z (i:=i+1) hr
   exact⟨k+1,by simpa using h1,by rw [ltF,if_neg e,h2,Nat.add_assoc,Nat.add_comm 1 k]⟩
theorem vQ (w x y z:UInt8) {s:bG}: ∀{H:List bG}{i:Nat},s∉H->ltF w x y z H i s=s
 | [],_,_=>rfl
 |v::r,i,h=>by
  rw [ltF,if_neg (λe=>h (by rw [e];exact List.mem_cons_self))]
  exact vQ w x y z λhm=>h (List.mem_cons_of_mem _ hm)
theorem aLn {w x y z:UInt8}{i k:Nat}(hi:i < 4) (hk:k < 4) (e:ltB w x y z i=ltB w x y z k):i=k:=by
 have h:=congrArg UInt8.toNat e
 rw [aFm w x y z hi,aFm w x y z hk]at h
 omega
theorem aN1 (w x y z:UInt8) {p:List At}(h:(aQ p).length<=4):Rnm p (ltF w x y z (aQ p) 0):=by
 have hk: ∀{k:Nat} {s:bG},(aQ p)[k]? =some s->k < 4:= λe=>by
  have:=(List.getElem?_eq_some_iff.1 e).1
  omega
 refine⟨λs hs t ht e=> ?_,λs hs=> ?_,λs hs=> ?_⟩
 ·obtain⟨i,h1,h2⟩:=yC w x y z (i:=0) hs
  obtain⟨k,h3,h4⟩:=yC w x y z (i:=0) ht
  rw [h2,h4,Nat.zero_add,Nat.zero_add]at e
  injection e with _ e
  injection e with e _
  obtain rfl:=aLn (hk h1) (hk h3) e
  rw [h1]at h3
  injection h3
 ·obtain⟨i,h1,h2⟩:=yC w x y z (i:=0) hs
  rw [h2]
  rfl
 ·exact vQ w x y z λhm=>by rw [zP hm]at hs;cases hs
theorem aLm (w x y z:UInt8) {i:Nat}(hi:i < 4):kJ (ltB w x y z i)=true:=by
 unfold ltB
 have hm:=Nat.mod_lt (ltV w x y z i).toNat (show 0 < 6 by decide)
 generalize (ltV w x y z i).toNat % 6=m at hm
 have h: ∀i:Fin 4,∀m:Fin 6,kJ (UInt8.ofNat (97+i.1+4 * m.1))=true:=by decide+kernel
 exact h ⟨i,hi⟩ ⟨m,hm⟩
theorem aBr (w x y z:UInt8) {p:List At}(h:(aQ p).length<=4) (s:bG) (hs:dJ s=true):dJ (ltF w x y z (aQ p) 0 s)=true:=by
 by_cases hm:s∈aQ p
 ·obtain⟨i,h1,h2⟩:=yC w x y z (i:=0) hm
  have hi:=(List.getElem?_eq_some_iff.1 h1).1
  rw [h2,Nat.zero_add]
  have hl:=aLm w x y z (i:=i) (by omega)
  unfold dJ lU
  simp [hl]
 ·rw [vQ w x y z hm];exact hs
def aF7 (w x y z:UInt8) (p:List At) (k:Nat):List At:=(p.drop k++p.take k++p.take 1).map (rpA (ltF w x y z (aQ p) 0))
theorem aL8 (w x y z:UInt8) {p:List At}{k:Nat}(a:At):a∈aF7 w x y z p k↔a∈p.map (rpA (ltF w x y z (aQ p) 0)):=by
 unfold aF7
 have h: ∀b:At,b∈p.drop k++p.take k++p.take 1↔b∈p:= λb=>by
  rw [List.mem_append,List.mem_append]
  constructor
  ·rintro((h|h)|h)
   ·exact List.mem_of_mem_drop h
   ·exact List.mem_of_mem_take h
   ·exact List.mem_of_mem_take h
  ·intro h
   rw [<-List.take_append_drop k p,List.mem_append]at h
   rcases h with h|h
   ·exact .inl (.inr h)
   ·exact .inl (.inl h)
 rw [List.mem_map,List.mem_map]
 exact⟨λ⟨b,h1,h2⟩=>⟨b,(h b).1 h1,h2⟩,λ⟨b,h1,h2⟩=>⟨b,(h b).2 h1,h2⟩⟩
theorem aL9 (w x y z:UInt8) (p:List At) (k:Nat):(aF7 w x y z p k).length<=p.length+1/\p.length<=(aF7 w x y z p k).length:=by
 unfold aF7
 rw [List.length_map,List.length_append,List.length_append,List.length_drop,List.length_take,List.length_take]
 omega
theorem aLa (w x y z:UInt8) {p:List At}{k:Nat}(h5:p.length<=5) (h4:(aQ p).length<=4) (hp:ptE p=0) (l:Lg):mN l (aF7 w x y z p k)=mN l p:=by
 obtain⟨⟨h1,h2⟩,h3,_⟩:=aBd.1 hp
 have hr:=aN1 w x y z h4
 have hm:= λa=>aL8 w x y z (p:=p) (k:=k) a
 have hc:=aM7 hr hm (by omega)
 obtain⟨l1,l2⟩:=aL9 w x y z p k
 have hq:ptE (aF7 w x y z p k)=0:=by
  refine aBd.2 ⟨⟨by omega,by omega⟩,λa ha=> ?_,by rw [aEz hr hm];omega⟩
  obtain⟨b,hb,rfl⟩:=List.mem_map.1 ((hm a).1 ha)
  exact aNu (λh=>aBr w x y z h4 _ h) (λh=>aBr w x y z h4 _ h) (hr.fix [] rfl) (h3 b hb)
 exact aH1 hq hp hc l
theorem aMc {l:Lg}{p:List At}(h:(mN l p).2.2=0):ptE p=0:=by
 unfold mN at h
 by_cases h1:lgE l≠0
 ·rw [if_pos h1]at h;exact absurd h h1
 ·rw [if_neg h1]at h
  by_cases h2:ptE p≠0
  ·rw [if_pos h2]at h;exact absurd h h2
  ·exact Decidable.not_not.1 h2
def yD (ps:List (List At)):Lg:=ps.foldl (λl p=>if (mN l p).2.2=0 then (mN l p).1 else l) (aDs [97,110,110] 3).1
theorem aFp (ps:List (List At)) (p:List At):yD (ps++[p])=if (mN (yD ps) p).2.2=0 then (mN (yD ps) p).1 else yD ps:=by
 unfold yD
 rw [List.foldl_append]
 rfl
end
section
open Go.Proofs Go.RowKit
set_option maxRecDepth 10000
attribute [local irreducible] aH aF Tri aD YVC bO aP
def aIz (l:List (List At)):Bool:=l.all (λp=>decide (p.length<=6)) && decide ((l.length:Int)<=8)
theorem vV (l:List (List At)):Tri Tryz.prog 28 [.d (.sl 1 (l.map aI))] [] (λr=>r= .d (.bool (aIz l))):=by
 have hl:(l.map aI).length=l.length:=List.length_map ..
 refine qG [4] hty Tryz.func28 [0,2,4,5,6,7,8,14] ?_
 ((conv=>whnf);repeat ((first |(intro hq;try simp only [lnS]at hq)|refine sI ?_|refine qE_ ?_);conv=>whnf))
 refine aG hty (λj:Nat=>([(0, .d (.sl 1 (l.map aI))),(5, .d (.sl 1 (l.map aI))),(6, .d (.int .i64 l.length)),(7, .d (.int .i64 j))],[])) (λj=>j<=l.length/\ ∀p∈l.take j,p.length<=6) (λj=>l.length - j) 0 ⟨Nat.zero_le _,λp hp=>by simp at hp⟩ ⟨by repeat' (first|exact trivial|exact rfl|(rw [List.length_map];exact rfl)|refine And.intro ?_ ?_),trivial⟩ ?_
 rintro j ⟨hj,hn⟩
 ((conv=>whnf);repeat ((first |(intro hq;try simp only [lnS]at hq)|refine sI ?_|refine qE_ ?_);conv=>whnf))
 refine aB (λh1=> ?_) (λh1=> ?_)
 ·have hjl:j < l.length:=by omega
  have hrow:(l.map aI)[((j:Nat):Int).toNat]? =some (aI l[j]):=aK hjl
  have hpl:(l[j].map atR).length=l[j].length:=List.length_map ..
  have hm:l[j]∈l:=List.getElem_mem hjl
  have hts:l.take (j+1)=l.take j++[l[j]]:=List.take_succ_eq_append_getElem hjl
  rw [show aI l[j]=[.sl 6 (l[j].map atR)]from rfl]at hrow
  ((conv=>whnf);repeat' ((first|(intro hq;(try simp only [lnS]at hq);(try rewrite [List.length_map]))|refine sJ ?_|refine qE_ ?_|refine exL (k:=?_)| (refine⟨_,hrow, ?_⟩)|refine dwR ?_|((first|refine aB ?_ ?_|refine aC ?_ ?_)<;>intro hb<;>(first|exact ddX hb|try simp only [lnS]at hb))|(refine aA ?_ ?_<;>intro hb<;>try exact dsX hb))<;>(conv=>whnf)))
  ·refine aJ ?_
   unfold aIz
   cases h:l.all (λp=>decide (p.length<=6))
   ·rfl
   ·have h2:=List.all_eq_true.1 h _ hm
    simp only [decide_eq_true_eq]at h2
    omega
  ·refine⟨j+1,⟨by omega,λp hp=> ?_⟩,qO,qB,trivial⟩
   rw [hts,List.mem_append,List.mem_singleton]at hp
   rcases hp with hp|rfl
   ·exact hn p hp
   ·omega
 ·have hjl:j=l.length:=by omega
  subst hjl
  rw [List.take_length]at hn
  ((conv=>whnf);repeat ((first |(intro hq;try simp only [lnS]at hq)|refine sI ?_|refine qE_ ?_);conv=>whnf))
  rw [hl]
  refine aJ ?_
  unfold aIz
  rw [List.all_eq_true.2 λp hp=>by simpa using hn p hp,Bool.true_and]
end
section
open Go.Proofs Go.RowKit
set_option maxRecDepth 10000
attribute [local irreducible] aH aF Tri aD YVC bO aP
theorem sG (ps:List (List At)):Tri Tryz.prog 33 [.d (.sl 1 (ps.map aI))] [] (λr=>r= .d (.agg (lgR (yD ps)))):=by
 have hl:(ps.map aI).length=ps.length:=List.length_map ..
 have hn:=aF3 [97,110,110] 3
 have hl0:yD (ps.take 0)=(aDs [97,110,110] 3).1:=rfl
 generalize aDs [97,110,110] 3=n0 at *
 obtain⟨m,e⟩:=n0
 dsimp only at hn hl0
 refine Tri.says ?_
 refine qG [6,7] hty Tryz.func33 [0,2,3,6,7,9,14,15,16,17,28] ?_
 rw [show lgR m=[.str m.reader, .int .i64 m.version, .sl 2 (m.entries.map bM)]from rfl]at hn
 ((conv=>whnf);repeat ((first|refine qT hn ?_ |(intro hq;try simp only [lnS]at hq)|refine sI ?_|refine qE_ ?_);conv=>whnf))
 refine aG hty (λj:Nat=>([(2, .ptr 2 0),(3, .ptr 3 0),(14, .d (.sl 1 (ps.map aI))),(15, .d (.int .i64 ps.length)),(16, .d (.int .i64 j))],[(3, .cells 24 [.d (.str (yD (ps.take j)).reader), .d (.int .i64 (yD (ps.take j)).version), .d (.sl 2 ((yD (ps.take j)).entries.map bM))]),(2, .cells 24 [.d (.str []), .d (.int .i64 0), .d .nil])])) (λj=>j<=ps.length) (λj=>ps.length - j) 0 (Nat.zero_le _) ⟨by rw [hl0];repeat' (first|exact trivial|exact rfl|(rw [hl];exact rfl)|refine And.intro ?_ ?_),by rw [hl0];repeat' (first|exact trivial|exact rfl|refine And.intro ?_ ?_)⟩ ?_
 intro j hj
 ((conv=>whnf);repeat ((first |(intro hq;try simp only [lnS]at hq)|refine sI ?_|refine qE_ ?_);conv=>whnf))
 refine aB (λh1=> ?_) (λh1=> ?_)
 ·have hjl:j < ps.length:=by omega
  have hrow:(ps.map aI)[((j:Nat):Int).toNat]? =some (aI ps[j]):=aK hjl
  have hst:yD (ps.take (j+1))=if (mN (yD (ps.take j)) ps[j]).2.2=0 then (mN (yD (ps.take j)) ps[j]).1 else yD (ps.take j):=by rw [List.take_succ_eq_append_getElem hjl,aFp]
  have ha:=aA9 (yD (ps.take j)) ps[j]
  generalize yD (ps.take j)=l at *
  generalize mN l ps[j]=y at *
  obtain⟨x,no,er⟩:=y
  dsimp only at ha hst
  rw [show aI ps[j]=[.sl 6 (ps[j].map atR)]from rfl]at hrow ha
  rw [show lgR l=[.str l.reader, .int .i64 l.version, .sl 2 (l.entries.map bM)]from rfl,show lgR x=[.str x.reader, .int .i64 x.version, .sl 2 (x.entries.map bM)]from rfl]at ha
  ((conv=>whnf);repeat ((first|(refine⟨_,hrow, ?_⟩)|refine qT ha ?_ |(intro hq;try simp only [lnS]at hq)|refine sI ?_|refine qE_ ?_);conv=>whnf))
  by_cases he:er=0
  ·rw [if_pos he]at hst
   rw [decide_eq_true he]
   ((conv=>whnf);repeat ((first |(intro hq;try simp only [lnS]at hq)|refine sI ?_|refine qE_ ?_);conv=>whnf))
   refine⟨j+1,qO,qO, ?_⟩
   dsimp only
   rw [hst]
   exact⟨qB,qB⟩
  ·rw [if_neg he]at hst
   rw [decide_eq_false he]
   ((conv=>whnf);repeat ((first |(intro hq;try simp only [lnS]at hq)|refine sI ?_|refine qE_ ?_);conv=>whnf))
   refine⟨j+1,qO,qO, ?_⟩
   dsimp only
   rw [hst]
   exact⟨qB,qB⟩
 ·have hjl:j=ps.length:=by omega
  subst hjl
  rw [List.take_length]
  ((conv=>whnf);repeat ((first |(intro hq;try simp only [lnS]at hq)|refine sI ?_|refine qE_ ?_);conv=>whnf))
  exact⟨_, .refl _,rfl⟩
end
section
open Go.Proofs Go.RowKit
set_option maxRecDepth 10000
attribute [local irreducible] aH aF Tri aD YVC bO aP
theorem aJx (w x y z:UInt8) {t:bG}: ∀{H:List bG}{i j:Nat}(h:j < H.length),(∀s∈H.take j,s≠t)->H[j]=t->ltF w x y z H i t=[63,ltB w x y z (i+j)]
 |v::r,i,0,h,_,e=>by
  have e:v=t:=e
  rw [ltF,if_pos e];rfl
 |v::r,i,j+1,h,hn,e=>by
  rw [ltF,if_neg (hn v (by simp)),aJx w x y z (i:=i+1) (j:=j) (by simpa using h) (λs hs=>hn s (by simp [hs])) (by simpa using e),Nat.add_assoc,Nat.add_comm 1 j]
theorem ltW (c:UInt8) {i:Nat}(hi:i < 4):IntKind.u8.wrap (IntKind.u8.wrap (97+IntKind.u8.wrap ((i:Nat):Int))+IntKind.u8.wrap (4 * ((c.toNat:Nat):Int).tmod 6))=(((UInt8.ofNat (97+i+4 * (c.toNat % 6))).toNat:Nat):Int):=by
 have e3: ∀k:Int,IntKind.u8.wrap k=k % 256:= λk=>rfl
 have hm:=Nat.mod_lt c.toNat (show 0 < 6 by decide)
 rw [e3,e3,e3,e3,Int.tmod_eq_emod_of_nonneg (Int.natCast_nonneg _),UInt8.toNat_ofNat']
 omega
theorem uB (H:List bG) (hH:H.length<=4) (w x y z:UInt8) (t:bG):Tri Tryz.prog 32 [.d (.sl 1 (H.map aT)), .d (.agg [.int .u8 w.toNat, .int .u8 x.toNat, .int .u8 y.toNat, .int .u8 z.toNat]), .d (.str t)] [] (λr=>r= .d (.str (ltF w x y z H 0 t))):=by
 have hl:(H.map aT).length=H.length:=List.length_map ..
 refine qG [4] hty Tryz.func32 [0,1,2,4,6,7,8,9,10,11,12,18] ?_
 ((conv=>whnf);repeat ((first |(intro hq;try simp only [lnS]at hq)|refine sI ?_|refine qE_ ?_);conv=>whnf))
 refine aG hty (λj:Nat=>([(2, .d (.str t)),(4, .ea 4 [[.int .u8 w.toNat, .int .u8 x.toNat, .int .u8 y.toNat, .int .u8 z.toNat]] 0 0),(9, .d (.sl 1 (H.map aT))),(10, .d (.int .i64 H.length)),(11, .d (.int .i64 j))],[])) (λj=>j<=H.length/\ ∀s∈H.take j,s≠t) (λj=>H.length - j) 0 ⟨Nat.zero_le _,λs hs=>by simp at hs⟩ ⟨by repeat' (first|exact trivial|exact rfl|(rw [hl];exact rfl)|refine And.intro ?_ ?_),trivial⟩ ?_
 rintro j ⟨hj,hn⟩
 ((conv=>whnf);repeat ((first |(intro hq;try simp only [lnS]at hq)|refine sI ?_|refine qE_ ?_);conv=>whnf))
 refine aB (λh1=> ?_) (λh1=> ?_)
 ·have hjl:j < H.length:=by omega
  have hrow:(H.map aT)[((j:Nat):Int).toNat]? =some (aT H[j]):=aK hjl
  have hat:= @aJx w x y z t H 0 j hjl hn
  have hs: ∀s∈H.take (j+1),s∈H.take j\/s=H[j]:= λs hs=>by
   rw [List.take_succ_eq_append_getElem hjl,List.mem_append,List.mem_singleton]at hs
   exact hs
  rw [show aT H[j]=[.str H[j]]from rfl]at hrow
  generalize H[j]=v at *
  ((conv=>whnf);repeat ((first|(refine⟨_,hrow, ?_⟩) |(intro hq;try simp only [lnS]at hq)|refine sI ?_|refine qE_ ?_);conv=>whnf))
  by_cases he:v=t
  ·rw [decide_eq_true he]
   have hat:=hat he
   rw [Nat.zero_add]at hat
   rw [hat]
   have hj4:j=0\/j=1\/j=2\/j=3:=by omega
   clear hn hs hrow
   rcases hj4 with rfl|rfl|rfl|rfl
   ·have hw:=ltW w (i:=0) (by decide)
    have hu:=fJ [ltB w x y z 0]
    ((conv=>whnf);repeat ((first |(intro hq;try simp only [lnS]at hq)|refine sI ?_|refine qE_ ?_);conv=>whnf))
    rw [hw]
    refine⟨(congrArg (List.map bB) hu).symm, ?_⟩
    ((conv=>whnf);repeat ((first |(intro hq;try simp only [lnS]at hq)|refine sI ?_|refine qE_ ?_);conv=>whnf))
    exact congrArg (λq=>SV.d (.str (63::q))) hu
   ·have hw:=ltW x (i:=1) (by decide)
    have hu:=fJ [ltB w x y z 1]
    ((conv=>whnf);repeat ((first |(intro hq;try simp only [lnS]at hq)|refine sI ?_|refine qE_ ?_);conv=>whnf))
    rw [hw]
    refine⟨(congrArg (List.map bB) hu).symm, ?_⟩
    ((conv=>whnf);repeat ((first |(intro hq;try simp only [lnS]at hq)|refine sI ?_|refine qE_ ?_);conv=>whnf))
    exact congrArg (λq=>SV.d (.str (63::q))) hu
   ·have hw:=ltW y (i:=2) (by decide)
    have hu:=fJ [ltB w x y z 2]
    ((conv=>whnf);repeat ((first |(intro hq;try simp only [lnS]at hq)|refine sI ?_|refine qE_ ?_);conv=>whnf))
    rw [hw]
    refine⟨(congrArg (List.map bB) hu).symm, ?_⟩
    ((conv=>whnf);repeat ((first |(intro hq;try simp only [lnS]at hq)|refine sI ?_|refine qE_ ?_);conv=>whnf))
    exact congrArg (λq=>SV.d (.str (63::q))) hu
   ·have hw:=ltW z (i:=3) (by decide)
    have hu:=fJ [ltB w x y z 3]
    ((conv=>whnf);repeat ((first |(intro hq;try simp only [lnS]at hq)|refine sI ?_|refine qE_ ?_);conv=>whnf))
    rw [hw]
    refine⟨(congrArg (List.map bB) hu).symm, ?_⟩
    ((conv=>whnf);repeat ((first |(intro hq;try simp only [lnS]at hq)|refine sI ?_|refine qE_ ?_);conv=>whnf))
    exact congrArg (λq=>SV.d (.str (63::q))) hu
  ·rw [decide_eq_false he]
   ((conv=>whnf);repeat ((first |(intro hq;try simp only [lnS]at hq)|refine sI ?_|refine qE_ ?_);conv=>whnf))
   refine⟨j+1,⟨by omega,λs hs2=> ?_⟩,qO,qB,trivial⟩
   rcases hs s hs2 with h|rfl
   ·exact hn s h
   ·exact he
 ·have hjl:j=H.length:=by omega
  subst hjl
  rw [List.take_length]at hn
  ((conv=>whnf);repeat ((first |(intro hq;try simp only [lnS]at hq)|refine sI ?_|refine qE_ ?_);conv=>whnf))
  rw [vQ w x y z (λhm=>hn t hm rfl)]
  rfl
end
section
open Go.Proofs Go.RowKit
set_option maxRecDepth 10000
attribute [local irreducible] aH aF Tri aD YVC bO aP
theorem aJh (a:Int): ∃m:Nat,bits .and .i64 a 1023=(m:Int)/\m<=1023:=by
 have h:(BitVec.ofInt 64 a &&& BitVec.ofInt 64 1023).toNat<=1023:=by
  rw [BitVec.toNat_and]
  exact Nat.and_le_right
 refine⟨(BitVec.ofInt 64 a &&& BitVec.ofInt 64 1023).toNat, ?_,h⟩
 show IntKind.i64.wrap ((BitVec.ofInt 64 a &&& BitVec.ofInt 64 1023).toNat:Int)=_
 rw [aKg _ (by omega)]
 unfold sgN
 rw [if_pos (by omega)]
end
section
open Go.Proofs
section
variable {P:Program}
def aPh (P:Program) (ti:TypeId->Option TI) (pin:Pin) (fr:Fr) (hp:Hp) (dst:Nat) (o:Oper) (K:SV->Hp->Prop):Prop:=
 match o.op with
 | .buildSlice t len parts => (match len, parts with
   | 0,⟨[]⟩=>aO2 ti t hp K
   |_,_=>aVC P ti pin fr hp dst o K)
 | .call { callee:= .builtin .append,args:=⟨[x,y]⟩,argTypes:=⟨[t,tx]⟩ }=>ev fr x λs=>ev fr y λr=>oK ti t tx dst s r pin fr hp K
 |_=>aVC P ti pin fr hp dst o K
theorem aPf {ti:TypeId->Option TI}(hti:cG P ti) {o:Oper}{pin:Pin}{fr:Fr}{hp:Hp}{dst:Nat}{K:SV->Hp->Prop}(h:aPh P ti pin fr hp dst o K):oL P o pin fr hp K:=by
 unfold aPh at h
 split at h
 ·rename_i ho
  split at h
  ·exact aN7 hti ho h
  ·exact aPg hti h
 ·rename_i ho;exact pI hti ho h
 ·exact aPg hti h
def aKb (C:Cfg) (all:List Oper) (i:Nat) (fr:Fr) (hp:Hp) (k:Fr->Hp->Prop):Prop:=
 match all[i]? with
 |some o=>
  hX all fr o.guard
   (λfr=>aPh C.P C.ti C.pin fr hp (C.off+o.dst.getD 0) o λs hp'=>put C o.dst s fr λfr'=>k fr' hp')
   (λfr=>put C o.dst (.d (.lit undef)) fr λfr'=>k fr' hp)
 |none=>aD "no such operation"
def iM (C:Cfg) (all:List Oper) (K:Fr->Hp->Prop):OT->Fr->Hp->Prop
 | .done,fr,hp=>iU C.keep fr λfr'=>K fr' hp
 | .stop,_,_=>True
 | .first i t,fr,hp=>yV C all i fr [] λfr' _=>iM C all K t fr' hp
 | .alt i t r,fr,hp=>aKb C all i fr hp (λfr' hp'=>iM C all K t fr' hp')/\iM C all K r fr hp
theorem zU {C:Cfg}(hti:cG C.P C.ti) {all:List Oper}{K:Fr->Hp->Prop}(hsel:Region.noSelect all.toArray=true):
  ∀(T:OT) (fuel:Nat) (listed:Array Bool) (fr:Fr) (hp:Hp) (ρ:Env) (a:Act) (w:World) (E:Entry),E.pin=C.pin->E.w=w->E.S=ρ.S->iM C all K T fr hp->Mem E ρ hp w->a.tmps.size=C.nt->a.defers=(E.D.take E.k).map tZ++E.pin.pre->bW ρ w fr a.tmps->
  (kA all.toArray T listed false=true->T.depth<=fuel->wpS C.P all.toArray (λa w=> ∃fr hp,K fr hp/\Sat E C.nt ⟨fr,hp⟩ a w) fuel (bL ρ.S w) listed a w)/\
  (∀inn,kA all.toArray T listed inn=true->T.depth<=fuel+1-> ∀i∈T.heads,aJi C all (λa w=> ∃fr hp,K fr hp/\Sat E C.nt ⟨fr,hp⟩ a w) fuel (bL ρ.S w) listed a w i):=by
 intro T
 induction T with
 |done=>
  intro fuel listed fr hp ρ a w E hpin hEw hES h hm h1 h2 h3
  refine⟨λhB _=> ?_,λ_ _ _ i hi=>by simp [OT.heads]at hi⟩
  simp only [kA,Bool.not_false,Bool.true_and,List.isEmpty_iff]at hB
  simp only [iM,fO]at h
  have hq: ∃fr hp,K fr hp/\Sat E C.nt ⟨fr,hp⟩ a w:=⟨_,hp,h,h1,h2,ρ,hm,λt s hts=>h3 t s (eE _ _ t s hts)⟩
  cases fuel with
  |zero=>exact⟨hB,hq⟩
  |succ n=>exact⟨λ_=>hq,λi hi=>by rw [hB]at hi;cases hi⟩
 |stop=>
  intro fuel listed fr hp ρ a w E hpin hEw hES h hm h1 h2 h3
  exact⟨λhB=>by simp [kA]at hB,λ_ _ _ i hi=>by simp [OT.heads]at hi⟩
 |first i t ih=>
  intro fuel listed fr hp ρ a w E hpin hEw hES h hm h1 h2 h3
  refine⟨λhB hd=> ?_,λ_ _ _ i hi=>by simp [OT.heads]at hi⟩
  simp only [iM,yV]at h
  split at h
  ·rename_i o ho
   have ho':all.toArray[i]? =some o:=by simpa using ho
   simp only [kA,ho',Bool.not_false,Bool.true_and,Bool.and_eq_true,decide_eq_true_eq,List.contains_iff_mem]at hB
   obtain⟨⟨⟨hk,hr⟩,hf⟩,hB⟩:=hB
   simp only [OT.depth]at hd
   obtain⟨fuel,rfl⟩: ∃n,fuel=n+1:=⟨fuel - 1,by omega⟩
   have hm0:Mem E ρ [] w:=hm.sub (λid o ho=>by simp [aM]at ho)
   obtain⟨fr0,h3,hh⟩:=cC h h3
   rcases hh with⟨hw,h⟩|⟨hw,h⟩
   ·rcases aNq hti h with⟨_,hd',_⟩|⟨hk',_⟩|⟨hk',_⟩
    ·obtain⟨v,s,q1,q2,q3⟩:=hd' E ρ a w hm0 h3
     obtain⟨fr',p1,p2⟩:=cN q3 h1 h3 q2
     exact gH ho' hsel fuel _ listed a w (λ_ _ _=>rfl) (Region.free_spec ho' hf) hr (v:=v) (.inl ⟨hw,λw' hw'=>q1 w' ⟨hw',λid x g hx=>by simp [aM]at hx⟩⟩)
      ((ih fuel _ fr' hp ρ _ w E hpin hEw hES p1 hm (by rw [aU];exact h1) (by rw [put_defers];exact h2) p2).1 hB (by omega))
    ·omega
    ·omega
   ·obtain⟨fr',p1,p2⟩:=cN h h1 h3 (Rep.d _ undef (.lit undef))
    exact gH ho' hsel fuel _ listed a w (λ_ _ _=>rfl) (Region.free_spec ho' hf) hr (v:=undef) (.inr ⟨hw,rfl⟩) ((ih fuel _ fr' hp ρ _ w E hpin hEw hES p1 hm (by rw [aU];exact h1) (by rw [put_defers];exact h2) p2).1 hB (by omega))
  ·exact h.elim
 |alt i t r iht ihr=>
  intro fuel listed fr hp ρ a w E hpin hEw hES h hm h1 h2 h3
  have key: ∀inn,kA all.toArray (.alt i t r) listed inn=true-> ∀n,(OT.alt i t r).depth<=n+1-> ∀j∈(OT.alt i t r).heads,aJi C all (λa w=> ∃fr hp,K fr hp/\Sat E C.nt ⟨fr,hp⟩ a w) n (bL ρ.S w) listed a w j:=by
   intro inn hB n hd j hj
   simp only [kA,Bool.and_eq_true]at hB
   obtain⟨⟨⟨_,hsome⟩,hBt⟩,hBr⟩:=hB
   simp only [OT.depth]at hd
   simp only [iM]at h
   simp only [OT.heads,List.mem_cons]at hj
   rcases hj with rfl|hj
   ·have h:=h.1
    unfold aKb at h
    split at h
    ·rename_i o ho
     have ho':all.toArray[j]? =some o:=by simpa using ho
     unfold aJi
     simp only [ho']
     obtain⟨fr0,h3,hh⟩:=cC h h3
     rcases hh with⟨hw,h⟩|⟨hw,h⟩
     ·rw [if_pos hw]
      refine aPf hti h E ρ a w hpin hm h3 _ noX λv w' ρ' s hp' k1 k2 k3 k4=> ?_
      obtain⟨fr',p1,p2⟩:=cN k1 h1 k3 k4
      have hkp:bL ρ.S w w':=by have:=k2.kp;rwa [hEw,hES]at this
      have hso: ∀b i,ρ.S b i->ρ'.S b i:=by have:=k2.sold;rwa [hES]at this
      refine⟨hkp, ?_⟩
      have hm2:Mem { aV w' ρ' hp' E.pin E.rd E.D with k:=E.k } ρ' hp' w':=by
       have:=k2.enter E.pin E.rd
       exact⟨this.os,this.tape,this.output,this.size,this.old,this.sold,this.snew,this.slt,this.kp,this.sat,this.inj,this.hb,this.mv,this.ro,this.md⟩
      have:=(iht n _ fr' hp' ρ' _ w' { aV w' ρ' hp' E.pin E.rd E.D with k:=E.k } hpin rfl rfl p1 hm2 (by rw [aU];exact h1) (by rw [put_defers];exact h2) p2).1 hBt (by omega)
      refine gS ?_ _ _ _ _ _ _ (λw2 hw2=>hkp.trans hso hw2) this
      rintro a3 w3 ⟨fr3,hp3,q1,q2,q3,ρ3,q4,q5⟩
      exact⟨fr3,hp3,q1,q2,q3,ρ3,k2.leave (pin:=E.pin) (rd:=E.rd) q4 ⟨rfl,rfl,rfl,rfl,rfl,λb hb=>hb⟩ (λid hid=>hid),q5⟩
     ·rw [if_neg (by rw [hw];decide)]
      obtain⟨fr',p1,p2⟩:=cN h h1 h3 (Rep.d _ undef (.lit undef))
      exact(iht n _ fr' hp ρ _ w E hpin hEw hES p1 hm (by rw [aU];exact h1) (by rw [put_defers];exact h2) p2).1 hBt (by omega)
    ·exact h.elim
   ·exact(ihr n listed fr hp ρ a w E hpin hEw hES h.2 hm h1 h2 h3).2 true hBr (by omega) j hj
  refine⟨λhB hd=> ?_,λinn hB hd=>key inn hB fuel hd⟩
  have hd':=hd
  simp only [OT.depth]at hd'
  obtain⟨fuel,rfl⟩: ∃n,fuel=n+1:=⟨fuel - 1,by omega⟩
  have hc:=hB
  simp only [kA,Bool.false_or,Bool.and_eq_true,Bool.not_eq_true',List.all_eq_true,List.contains_iff_mem]at hc
  obtain⟨⟨⟨⟨hne,hcov⟩,_⟩,_⟩,_⟩:=hc
  refine⟨λh0=> ?_,λj hj=> ?_⟩
  ·rw [h0]at hne;cases hne
  ·exact key false hB fuel hd j (hcov j hj)
theorem aCr {C:Cfg}(hti:cG C.P C.ti) {id:Nat}{l:List Oper}{fr:Fr}{hp:Hp}{K:Ex->Fr->Hp->Prop}(T:OT) (hm:C.P.follows .mixedOrders=true)
  (hB:(decide (T.depth<=l.length) && Region.noSelect l.toArray && kA l.toArray T (Array.replicate l.length false) false && eZ l)=true) (h:iM C l (K .normal) T fr hp):aH C (.region id l.toArray true) fr hp K:=by
 intro E a w hpin hrd ⟨h1,h2,ρ,h3,h4⟩
 simp only [Bool.and_eq_true,decide_eq_true_eq]at hB
 obtain⟨⟨⟨b1,b2⟩,b3⟩,hnd⟩:=hB
 refine cH hm hnd fV.noOut ?_
 obtain⟨m1,m2⟩:=h3.grow_same (Grew.drew w)
 generalize hw1:w.drew=w1 at *
 have hm2:Mem { aV w1 ρ hp E.pin E.rd E.D with k:=E.k } ρ hp w1:=by
  have:=m1.enter E.pin E.rd
  exact⟨this.os,this.tape,this.output,this.size,this.old,this.sold,this.snew,this.slt,this.kp,this.sat,this.inj,this.hb,this.mv,this.ro,this.md⟩
 have:=(zU (C:=C) hti b2 T l.length (Array.replicate l.length false) fr hp ρ a w1 { aV w1 ρ hp E.pin E.rd E.D with k:=E.k } hpin rfl rfl h hm2 h1 h2 (m2 fr _ h4)).1 b3 b1
 have h5:=jD (Q:=fV C E K) _ _ _ _ _ (gS (Q':=fV C E K .normal) (λa w ⟨fr',hp',k1,q2,q3,ρ3,q4,q5⟩=>⟨.normal,fr',hp',E, .refl E,trivial,k1,q2,q3,ρ3,m1.leave (pin:=E.pin) (rd:=E.rd) q4 ⟨rfl,rfl,rfl,rfl,rfl,λb hb=>hb⟩ (λid hid=>hid),q5⟩) _ _ _ _ _ _ (λ_ h=>h) this)
 have e:l.toArray.size=l.length:=by simp
 rw [e]
 subst hw1
 exact h5
end
end
end Go.Proofs.YtdjfkmkdkclahaaGreatDoor
