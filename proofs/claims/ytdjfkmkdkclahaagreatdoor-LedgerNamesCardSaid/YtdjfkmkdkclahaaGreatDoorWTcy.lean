/-
  Commits, queries and alignments in bytes: what is written is read again; plain. Bytes as the program reckons them: shifting and or, the bytes of a number. Objects: the reader reads numbers. Objects: the reader reads ints, octets and texts. A contract over the callee's own few objects, under other numbers, in any memory of the caller's. A result that says less. Objects: a reader's contract, over its own object alone; how it is used. Objects: the reader reads digests. Objects: the reader reads lists. Objects: the reader reads commits. Objects: the reader reads concepts. Objects: the reader reads axioms, queries and alignments. Objects: the types that come in. Objects: queries and alignments that come in.
  Conditions: none.
-/
import Derived.Test.YtdjfkmkdkclahaaGreatDoorWOb
import Derived.Test.YtdjfkmkdkclahaaGreatDoorWSi
import Derived.Test.YtdjfkmkdkclahaaGreatDoorWSw
import Derived.Test.YtdjfkmkdkclahaaGreatDoorWA7
import Derived.Test.YtdjfkmkdkclahaaGreatDoorWSq
import Derived.Test.YtdjfkmkdkclahaaGreatDoorWSnb
set_option linter.unnecessarySimpa false
set_option linter.unusedSectionVars false
set_option linter.unusedSimpArgs false
set_option linter.unusedVariables false
set_option maxHeartbeats 8000000
namespace Go.Proofs.YtdjfkmkdkclahaaGreatDoor
section
open Go.Proofs
structure At where
 kind:Int
 name:List UInt8
 x:List UInt8
 y:List UInt8
 lo:Int
 hi:Int
structure Qy where
 told:List (List UInt8)
 parts:List (List At)
def rAt:Rd At:=dW aOo λk=>dW aDr λn=>dW aDr λx=>dW aDr λy=>dW aBc λlo=>lW aBc λhi=>⟨k,n,x,y,lo,hi⟩
def wAt (a:At):List UInt8:=aO3 a.kind++(kN a.name++(kN a.x++(kN a.y++(aJo a.lo++aJo a.hi))))
def rQy:Rd Qy:=dW (kG aDr) λt=>lW (kG (kG rAt)) λp=>⟨t,p⟩
def wQy (q:Qy):List UInt8:=cU kN q.told++cU (cU wAt) q.parts
theorem aGc:wM 29 rAt:=rQ (eU aC5 λ_=>eU fZ λ_=>eU fZ λ_=>eU fZ λ_=>eU lP λ_=>lO lP) (by omega)
end
section
open Go.Proofs Go.RowKit
theorem wN (n:Nat) (h:n < 18446744073709551616):IntKind.u64.wrap (n:Int)=(n:Int):=by
 have e:IntKind.u64.wrap (n:Int)=((n:Int) % 18446744073709551616):=by
  unfold IntKind.wrap
  rfl
 rw [e];omega
theorem aFa {x c:Nat}(hx:x < 72057594037927936) (hc:c < 256):bits .or .u64 (IntKind.u64.wrap ((x:Int)* 2 ^ (min (8:Int).toNat IntKind.u64.bits))) (c:Int)=((256 * x+c:Nat):Int):=by
 have h1:IntKind.u64.wrap ((x:Int)* 2 ^ (min (8:Int).toNat IntKind.u64.bits))=((256 * x:Nat):Int):=by
  have e:(min (8:Int).toNat IntKind.u64.bits)=8:=rfl
  rw [e]
  have:((x:Int)* 2 ^ 8)=((256 * x:Nat):Int):=by omega
  rw [this]
  exact wN _ (by omega)
 rw [h1]
 have h2:(256 * x ||| c)=256 * x+c:=by
  have:=Nat.two_pow_add_eq_or_of_lt (i:=8) (b:=c) (by omega) x
  simpa using this.symm
 unfold bits
 show IntKind.u64.wrap ((BitVec.ofInt 64 ((256 * x:Nat):Int) ||| BitVec.ofInt 64 (c:Int)).toNat:Int)=_
 rw [BitVec.toNat_or,BitVec.ofInt_natCast,BitVec.ofInt_natCast,BitVec.toNat_ofNat,BitVec.toNat_ofNat,Nat.mod_eq_of_lt (by omega),Nat.mod_eq_of_lt (by omega),h2]
 exact wN _ (by omega)
theorem aM8 (z:Int) (s:Nat) (hs:s<=64):IntKind.u8.wrap ((IntKind.u64.wrap z).fdiv (2 ^ (min (s:Int).toNat IntKind.u64.bits)))=((uN z / 2 ^ s % 256:Nat):Int):=by
 have e:(min (s:Int).toNat IntKind.u64.bits)=s:=by
  rw [Int.toNat_natCast];exact Nat.min_eq_left hs
 have e1:IntKind.u64.wrap z=((uN z:Nat):Int):=by
  have e:IntKind.u64.wrap z=(z % 18446744073709551616):=rfl
  rw [e];unfold uN;omega
 rw [e,e1,Int.fdiv_eq_ediv_of_nonneg _ (Int.pow_nonneg (by decide))]
 have e2:((uN z:Nat):Int) / (2 ^ s:Int)=((uN z / 2 ^ s:Nat):Int):=by
  rw [Int.natCast_ediv];rfl
 rw [e2]
 have e3: ∀k:Int,IntKind.u8.wrap k=k % 256:= λk=>rfl
 rw [e3]
 omega
theorem aQ6 (n:Nat):beN 8 n=[56,48,40,32,24,16,8,0].map λs:Nat=>UInt8.ofNat (n / 2 ^ s % 256):=by
 simp only [beN,List.nil_append,List.cons_append,Nat.div_div_eq_div_mul,List.map_cons,List.map_nil,Nat.pow_zero,Nat.div_one]
theorem aQ7 (n:Nat):beN 4 n=[24,16,8,0].map λs:Nat=>UInt8.ofNat (n / 2 ^ s % 256):=by
 simp only [beN,List.nil_append,List.cons_append,Nat.div_div_eq_div_mul,List.map_cons,List.map_nil,Nat.pow_zero,Nat.div_one]
end
section
open Go.Proofs
set_option maxRecDepth 10000
attribute [local irreducible] aH aF Tri aD YVC bO aP
theorem fB (bs:List UInt8) (m:Nat) (hm:m<=8) (hp0:Hp) {pin:Pin}{fr:Fr}{K:SV->Hp->Prop}
  (hok:m<=bs.length->K (.d (.int .u64 (deN (bs.take m)))) ((3, .cells 194 [.d (.sl 1 ((bs.drop m).map bB))])::hp0))
  (hno:bs.length < m->pin.kp fr ((3, .cells 194 [.d (.sl 1 (bs.map bB))])::hp0)) (hpv:pin.pv=none):
  aF Tryz.prog pin fr ((3, .cells 194 [.d (.sl 1 (bs.map bB))])::hp0) 216 [.ptr 3 0, .d (.int .i64 m)] K:=by
 refine aN false [] hty Tryz.func216 rfl (kp [0,1,4,6,9,10,11,12]) 100 (by simp [Tryz.f216]) ?_
 ((conv=>whnf);repeat ((first |(intro hq;try simp only [lnS]at hq)|refine sI ?_|refine qE_ ?_);conv=>whnf))
 refine xD bs m hp0 (λhle=> ?_) (λhlt=>hno hlt) hpv
 have hlen:(bs.take m).length=m:=by rw [List.length_take];omega
 replace hok:=hok hle
 generalize bs.take m=c at *
 generalize bs.drop m=r at *
 ((conv=>whnf);repeat ((first |(intro hq;try simp only [lnS]at hq)|refine sI ?_|refine qE_ ?_);conv=>whnf))
 refine mG hty (λj:Nat=>([(4, .d (.int .u64 ((deN (c.take j):Nat):Int))),(9, .d (.sl 1 (c.map bB))),(10, .d (.int .i64 c.length)),(11, .d (.int .i64 j))],(3, .cells 194 [.d (.sl 1 (r.map bB))])::hp0)) (λj=>j<=c.length) (λj=>c.length - j) 0 (by omega) (by repeat' (first|exact trivial|exact rfl|(rw [List.length_map];exact rfl)|refine And.intro ?_ ?_)) rfl ?_
 intro j hj
 ((conv=>whnf);repeat ((first |(intro hq;try simp only [lnS]at hq)|refine sI ?_|refine qE_ ?_);conv=>whnf))
 refine aB (λh1=> ?_) (λh1=> ?_)
 ·have hjl:j < c.length:=by omega
  have hrow:(c.map bB)[(j:Int).toNat]? =some (bB c[j]):=aK hjl
  have hx:deN (c.take j) < 72057594037927936:=by
   have h2:=nF j (c.take j) (by rw [List.length_take];omega)
   have h3:256 ^ j<=256 ^ 7:=Nat.pow_le_pow_right (by decide) (by omega)
   have h4:(256:Nat) ^ 7=72057594037927936:=by decide
   omega
  have hc:(c[j]).toNat < 256:=c[j].toNat_lt
  have hn:deN (c.take (j+1))=256 * deN (c.take j)+(c[j]).toNat:=by rw [List.take_succ_eq_append_getElem hjl,vZ]
  have ho:=aFa hx hc
  have hw:=wN (c[j]).toNat (by omega)
  ((conv=>whnf);repeat' ((first|(intro hq;(try simp only [lnS]at hq);(try rewrite [List.length_map]))|refine sJ ?_|refine qE_ ?_|refine exL (k:=?_)| (refine⟨_,hrow, ?_⟩)|refine dwR ?_|((first|refine aB ?_ ?_|refine aC ?_ ?_)<;>intro hb<;>(first|exact ddX hb|try simp only [lnS]at hb))|(refine aA ?_ ?_<;>intro hb<;>try exact dsX hb))<;>(conv=>whnf)))
  have ho2:bits .or .u64 (IntKind.u64.wrap (((deN (c.take j):Nat):Int)* 2 ^ (min (8:Int).toNat IntKind.u64.bits))) (IntKind.u64.wrap ((c[j]).toNat:Int))=((deN (c.take (j+1)):Nat):Int):=by rw [hw,hn];exact ho
  refine⟨j+1,qO,qO, ?_⟩
  dsimp only
  rw [<-ho2]
  exact⟨qB,rfl⟩
 ·have hjl:j=c.length:=by omega
  subst hjl
  rw [List.take_length]
  ((conv=>whnf);repeat' ((first|(intro hq;(try simp only [lnS]at hq);(try rewrite [List.length_map]))|refine sJ ?_|refine qE_ ?_|refine exL (k:=?_)|refine dwR ?_|((first|refine aB ?_ ?_|refine aC ?_ ?_)<;>intro hb<;>(first|exact ddX hb|try simp only [lnS]at hb))|(refine aA ?_ ?_<;>intro hb<;>try exact dsX hb))<;>(conv=>whnf)))
  exact hok
end
section
open Go.Proofs
set_option maxRecDepth 10000
attribute [local irreducible] aH aF Tri aD YVC bO aP
def RdC {α:Type}(f:FuncId) (r:Rd α) (e:α->SV):Prop:= ∀(bs:List UInt8) (hp0:Hp) {pin:Pin}{fr:Fr}{K:SV->Hp->Prop}
  (_: ∀x c,r bs=some (x,c)->K (e x) ((3, .cells 194 [.d (.sl 1 (c.map bB))])::hp0))
  (_:r bs=none-> ∀b:List UInt8,pin.kp fr ((3, .cells 194 [.d (.sl 1 (b.map bB))])::hp0)) (_:pin.pv=none),
  aF Tryz.prog pin fr ((3, .cells 194 [.d (.sl 1 (bs.map bB))])::hp0) f [.ptr 3 0] K
theorem jN {bs:List UInt8}{m:Nat}(h:m<=bs.length):oZ m bs=some (bs.take m,bs.drop m):=if_pos h
theorem oA {bs:List UInt8}{m:Nat}(h:bs.length < m):oZ m bs=none:=if_neg (by omega)
theorem vF {bs:List UInt8}{m:Nat}(h:m<=bs.length):xN m bs=some (deN (bs.take m),bs.drop m):=cW (jN h)
theorem vG {bs:List UInt8}{m:Nat}(h:bs.length < m):xN m bs=none:=dR (oA h)
theorem aKg (n:Nat) (h:n < 18446744073709551616):IntKind.i64.wrap (n:Int)=sgN n:=by
 unfold sgN
 rw [IntKind.wrap_i64]
 split<;>omega
theorem aFk:RdC 240 aBc (λz=> .d (.int .i64 z)):=by
 intro bs hp0 pin fr K hok hno hpv
 refine aN false [] hty Tryz.func240 rfl (kp [0,2]) 100 (by simp [Tryz.f240]) ?_
 ((conv=>whnf);repeat ((first |(intro hq;try simp only [lnS]at hq)|refine sI ?_|refine qE_ ?_);conv=>whnf))
 refine fB bs 8 (by omega) hp0 (λhle=> ?_) (λhlt=>hno (dR (vG hlt)) bs) hpv
 have h1:=hok _ _ (cW (f:=sgN) (vF hle))
 rw [<-aKg _ (nF 8 (bs.take 8) (by rw [List.length_take];omega))]at h1
 ((conv=>whnf);repeat' ((first|(intro hq;(try simp only [lnS]at hq);(try rewrite [List.length_map]))|refine sJ ?_|refine qE_ ?_|refine exL (k:=?_)|refine dwR ?_|((first|refine aB ?_ ?_|refine aC ?_ ?_)<;>intro hb<;>(first|exact ddX hb|try simp only [lnS]at hb))|(refine aA ?_ ?_<;>intro hb<;>try exact dsX hb))<;>(conv=>whnf)))
 exact h1
theorem aIo:RdC 239 (lW (xN 1) λn=>(n:Int)) (λz=> .d (.int .i64 z)):=by
 intro bs hp0 pin fr K hok hno hpv
 refine aN false [] hty Tryz.func239 rfl (kp [0,2]) 100 (by simp [Tryz.f239]) ?_
 ((conv=>whnf);repeat ((first |(intro hq;try simp only [lnS]at hq)|refine sI ?_|refine qE_ ?_);conv=>whnf))
 refine fB bs 1 (by omega) hp0 (λhle=> ?_) (λhlt=>hno (dR (vG hlt)) bs) hpv
 have h1:=hok _ _ (cW (f:= λn:Nat=>(n:Int)) (vF hle))
 have h2:=nF 1 (bs.take 1) (by rw [List.length_take];omega)
 have h3:IntKind.i64.wrap ((deN (bs.take 1):Nat):Int)=((deN (bs.take 1):Nat):Int):=IntWalk.i64_in _ (by omega)
 dsimp only at h1
 rw [<-h3]at h1
 ((conv=>whnf);repeat' ((first|(intro hq;(try simp only [lnS]at hq);(try rewrite [List.length_map]))|refine sJ ?_|refine qE_ ?_|refine exL (k:=?_)|refine dwR ?_|((first|refine aB ?_ ?_|refine aC ?_ ?_)<;>intro hb<;>(first|exact ddX hb|try simp only [lnS]at hb))|(refine aA ?_ ?_<;>intro hb<;>try exact dsX hb))<;>(conv=>whnf)))
 exact h1
theorem aKp:RdC 183 (dW (xN 4) oZ) (λs=> .d (.str s)):=by
 intro bs hp0 pin fr K hok hno hpv
 refine aN false [] hty Tryz.func183 rfl (kp [0,2]) 100 (by simp [Tryz.f183]) ?_
 ((conv=>whnf);repeat ((first |(intro hq;try simp only [lnS]at hq)|refine sI ?_|refine qE_ ?_);conv=>whnf))
 refine fB bs 4 (by omega) hp0 (λhle=> ?_) (λhlt=>hno (bD (vG hlt)) bs) hpv
 have h2:=nF 4 (bs.take 4) (by rw [List.length_take];omega)
 have h3:IntKind.i64.wrap ((deN (bs.take 4):Nat):Int)=((deN (bs.take 4):Nat):Int):=IntWalk.i64_in _ (by omega)
 have hb:dW (xN 4) oZ bs=oZ (deN (bs.take 4)) (bs.drop 4):=cK (vF hle)
 rw [hb]at hok hno
 generalize deN (bs.take 4)=m at *
 generalize bs.drop 4=r at *
 ((conv=>whnf);repeat ((first |(intro hq;try simp only [lnS]at hq)|refine sI ?_|refine qE_ ?_);conv=>whnf))
 rw [h3]
 refine xD r m hp0 (λhle2=> ?_) (λhlt=>hno (oA hlt) r) hpv
 have h4:=hok _ _ (jN hle2)
 have h5:=fJ (r.take m)
 ((conv=>whnf);repeat' ((first|(intro hq;(try simp only [lnS]at hq);(try rewrite [List.length_map]))|refine sJ ?_|refine qE_ ?_|refine exL (k:=?_)|refine dwR ?_|((first|refine aB ?_ ?_|refine aC ?_ ?_)<;>intro hb<;>(first|exact ddX hb|try simp only [lnS]at hb))|(refine aA ?_ ?_<;>intro hb<;>try exact dsX hb))<;>(conv=>whnf)))
 rw [h5]
 exact h4
end
section
open Go.RowKit
def SV.ren (σ:Nat->Nat):SV->SV
 | .ptr i o=> .ptr (σ i) o
 | .osl i z r=> .osl (σ i) z r
 | .mw i z n=> .mw (σ i) z n
 |s=>s
def SV.sim:SV->Prop
 | .ptr _ _=>True
 | .osl _ _ _=>True
 | .mw _ _ _=>True
 |s=>s.ids=[]
def HObj.ren (σ:Nat->Nat):HObj->HObj
 | .cells t cs=> .cells t (cs.map (SV.ren σ))
 | .ro t cs=> .ro t (cs.map (SV.ren σ))
 |o=>o
def HObj.sim:HObj->Prop
 | .cells _ cs=> ∀s∈cs,s.sim
 | .ro _ cs=> ∀s∈cs,s.sim
 | .own _ _ _=>True
 | .mrow _ _ _ _=>True
 | .glob _ _ _=>True
 | .ext X=>X.ids=[]
 | .rox X=>X.ids=[]
 | .loop _ _=>False
def Env.like (a b:Env) (σ:Nat->Nat) (i:Nat):Prop:=b.blk (σ i)=a.blk i/\b.n (σ i)=a.n i/\b.tv (σ i)=a.tv i
section
variable {P:Program}
theorem Rep.noids {w:World}{ρ ρ':Env}{s:SV}{v:Value}(h:Rep w ρ s v) (hs:ρ'.S=ρ.S) (hi:s.ids=[]):Rep w ρ' s v:=
 h.mono (λ_ _ _=>rfl) (λb i x=>by rw [hs];exact x) (λid hid=>by rw [hi]at hid;cases hid)
theorem RepD.noS {w:World}{S S':Nat->Nat->Prop}{x:D}{v:Value}(h:RepD w S x v) (hs:S'=S):RepD w S' x v:=by rw [hs];exact h
theorem Rep.toRen {w:World}{a b:Env}{σ:Nat->Nat}{s:SV}{v:Value}(hs:s.sim) (hS:b.S=a.S) (hl: ∀i∈s.ids,a.like b σ i) (h:Rep w a s v):Rep w b (s.ren σ) v:=by
 cases s with
 |ptr i o=>
  cases h with
  |ptr _ _ g hg=>exact .ptr _ _ g ((hl i (by simp [SV.ids])).1.trans hg)
 |osl i z r=>
  obtain⟨_,h2,h3⟩:=hl i (by simp [SV.ids])
  cases h with
  |osl _ _ _ _ h hn ht=>exact .osl _ _ _ _ (h.noS hS) (by rw [h2];exact hn) (by rw [h2,h3];exact ht)
 |mw i z n=>
  obtain⟨_,h2,h3⟩:=hl i (by simp [SV.ids])
  cases h with
  |mw _ _ _ cap A hn hc hA h4 h5=>exact .mw _ _ _ cap A hn hc hA (by rw [h2];exact h4) (by rw [h2,h3];exact h5)
 |_=>exact h.noids hS hs
theorem Rep.ofRen {w:World}{a b:Env}{σ:Nat->Nat}{s:SV}{v:Value}(hs:s.sim) (hS:b.S=a.S) (hl: ∀i∈s.ids,a.like b σ i) (h:Rep w b (s.ren σ) v):Rep w a s v:=by
 cases s with
 |ptr i o=>
  cases h with
  |ptr _ _ g hg=>exact .ptr _ _ g ((hl i (by simp [SV.ids])).1.symm.trans hg)
 |osl i z r=>
  obtain⟨_,h2,h3⟩:=hl i (by simp [SV.ids])
  cases h with
  |osl _ _ _ _ h hn ht=>exact .osl _ _ _ _ (h.noS hS.symm) (by rw [<-h2];exact hn) (by rw [<-h2,<-h3];exact ht)
 |mw i z n=>
  obtain⟨_,h2,h3⟩:=hl i (by simp [SV.ids])
  cases h with
  |mw _ _ _ cap A hn hc hA h4 h5=>exact .mw _ _ _ cap A hn hc hA (by rw [<-h2];exact h4) (by rw [<-h2,<-h3];exact h5)
 |_=>exact h.noids hS.symm hs
theorem cI.toRen {w:World}{a b:Env}{σ:Nat->Nat}{g:Nat}{t:TypeId}{cs:List SV}(hs: ∀s∈cs,s.sim) (hS:b.S=a.S) (hl: ∀i∈SV.idsL cs,a.like b σ i) (h:cI w a g t cs):cI w b g t (cs.map (SV.ren σ)):=by
 obtain⟨cur,h1,h2,h3,h4⟩:=h
 refine⟨cur,h1,by rw [List.length_map];exact h2,h3,λj s v e1 e2=> ?_⟩
 rw [List.getElem?_map]at e1
 obtain⟨s0,e3,rfl⟩:=Option.map_eq_some_iff.1 e1
 exact(h4 j s0 v e3 e2).toRen (hs _ (List.mem_of_getElem? e3)) hS λi hi=>hl i (SV.mem_idsL e3 hi)
theorem cI.ofRen {w:World}{a b:Env}{σ:Nat->Nat}{g:Nat}{t:TypeId}{cs:List SV}(hs: ∀s∈cs,s.sim) (hS:b.S=a.S) (hl: ∀i∈SV.idsL cs,a.like b σ i) (h:cI w b g t (cs.map (SV.ren σ))):cI w a g t cs:=by
 obtain⟨cur,h1,h2,h3,h4⟩:=h
 refine⟨cur,h1,by rw [List.length_map]at h2;exact h2,h3,λj s v e1 e2=> ?_⟩
 exact(h4 j (s.ren σ) v (by rw [List.getElem?_map,e1];rfl) e2).ofRen (hs _ (List.mem_of_getElem? e1)) hS λi hi=>hl i (SV.mem_idsL e1 hi)
theorem HObj.at_ren {a b:Env}{σ:Nat->Nat}{i:Nat}{o:HObj}(hs:o.sim) (hl:a.like b σ i):b.at (σ i) (o.ren σ)=a.at i o:=by
 obtain⟨h1,h2,h3⟩:=hl
 cases o<;>simp only [HObj.ren,Env.at,h1,h3]
theorem wL.toRen {w:World}{a b:Env}{σ:Nat->Nat}{id:Nat}{o:HObj}(hs:o.sim) (hS:b.S=a.S) (hl: ∀i,i=id\/i∈o.ids->a.like b σ i) (h:wL w a id o):wL w b (σ id) (o.ren σ):=by
 obtain⟨l1,l2,l3⟩:=hl id (.inl rfl)
 cases o with
 |cells t cs=>
  obtain⟨g,h1,h2,h3⟩:=h
  exact⟨g,l1.trans h1,h2.toRen hs hS λi hi=>hl i (.inr hi),λi=>by rw [hS];exact h3 i⟩
 |ro t cs=>
  obtain⟨g,h1,h2⟩:=h
  exact⟨g,l1.trans h1,h2.toRen hs hS λi hi=>hl i (.inr hi)⟩
 |own e z n=>
  obtain⟨h1,xs,h2,h3,h4⟩:=h
  refine⟨l2.trans h1,xs, ?_, ?_,h4⟩
  ·rw [l2,l3];exact h2
  ·rw [l2,l3,hS];exact h3
 |mrow e z cap rows=>
  obtain⟨h1,h2⟩:=h
  refine⟨l2.trans h1, ?_⟩
  rw [l3,hS];exact h2
 |loop L s=>exact hs.elim
 |ext X=>
  obtain⟨g,r,h1,h2,h3,h4⟩:=h
  refine⟨g,r,l1.trans h1,h2,X.keep w w a b r (λ_ _ _=>rfl) (λ_ _ x=>by rw [hS];exact x) (λi hi=> ?_) h3,λi=>by rw [hS];exact h4 i⟩
  rw [show X.ids=[]from hs]at hi;cases hi
 |glob g z rows=>
  show View w b.S z rows g 0
  rw [hS];exact h
 |rox X=>
  obtain⟨g,r,h1,h2,h3⟩:=h
  refine⟨g,r,l1.trans h1,h2,X.keep w w a b r (λ_ _ _=>rfl) (λ_ _ x=>by rw [hS];exact x) (λi hi=> ?_) h3⟩
  rw [show X.ids=[]from hs]at hi;cases hi
theorem wL.ofRen {w:World}{a b:Env}{σ:Nat->Nat}{id:Nat}{o:HObj}(hs:o.sim) (hS:b.S=a.S) (hl: ∀i,i=id\/i∈o.ids->a.like b σ i) (h:wL w b (σ id) (o.ren σ)):wL w a id o:=by
 obtain⟨l1,l2,l3⟩:=hl id (.inl rfl)
 cases o with
 |cells t cs=>
  obtain⟨g,h1,h2,h3⟩:=h
  exact⟨g,l1.symm.trans h1,h2.ofRen hs hS λi hi=>hl i (.inr hi),λi=>by rw [<-hS];exact h3 i⟩
 |ro t cs=>
  obtain⟨g,h1,h2⟩:=h
  exact⟨g,l1.symm.trans h1,h2.ofRen hs hS λi hi=>hl i (.inr hi)⟩
 |own e z n=>
  obtain⟨h1,xs,h2,h3,h4⟩:=h
  refine⟨l2.symm.trans h1,xs, ?_, ?_,h4⟩
  ·rw [<-l2,<-l3];exact h2
  ·rw [<-l2,<-l3,<-hS];exact h3
 |mrow e z cap rows=>
  obtain⟨h1,h2⟩:=h
  refine⟨l2.symm.trans h1, ?_⟩
  rw [<-l3,<-hS];exact h2
 |loop L s=>exact hs.elim
 |ext X=>
  obtain⟨g,r,h1,h2,h3,h4⟩:=h
  refine⟨g,r,l1.symm.trans h1,h2,X.keep w w b a r (λ_ _ _=>rfl) (λ_ _ x=>by rw [<-hS];exact x) (λi hi=> ?_) h3,λi=>by rw [<-hS];exact h4 i⟩
  rw [show X.ids=[]from hs]at hi;cases hi
 |glob g z rows=>
  have h:View w b.S z rows g 0:=h
  rw [hS]at h;exact h
 |rox X=>
  obtain⟨g,r,h1,h2,h3⟩:=h
  refine⟨g,r,l1.symm.trans h1,h2,X.keep w w b a r (λ_ _ _=>rfl) (λ_ _ x=>by rw [<-hS];exact x) (λi hi=> ?_) h3⟩
  rw [show X.ids=[]from hs]at hi;cases hi
theorem HObj.rd_ren {σ:Nat->Nat}{o:HObj}:(o.ren σ).Rd↔o.Rd:=by cases o<;>exact Iff.rfl
def Env.pull (ρ:Env) (σ:Nat->Nat):Env:=⟨ρ.S,λi=>ρ.blk (σ i),λi=>ρ.n (σ i),λi=>ρ.tv (σ i)⟩
theorem Env.pull_like (ρ:Env) (σ:Nat->Nat) (i:Nat):(ρ.pull σ).like ρ σ i:=⟨rfl,rfl,rfl⟩
def aDu (σ:Nat->Nat) (W:List Nat) (i:Nat):Option Nat:=W.find? λk=>σ k==i
def Env.push (ρ ρ1:Env) (σ:Nat->Nat) (W:List Nat):Env:=
 ⟨ρ1.S,λi=>match aDu σ W i with|some k=>ρ1.blk k|none=>ρ.blk i,λi=>match aDu σ W i with|some k=>ρ1.n k|none=>ρ.n i,λi=>match aDu σ W i with|some k=>ρ1.tv k|none=>ρ.tv i⟩
theorem qX {σ:Nat->Nat}{W:List Nat}{i k:Nat}(h:aDu σ W i=some k):k∈W/\σ k=i:=by
 unfold aDu at h
 exact⟨List.mem_of_find?_eq_some h,by simpa using List.find?_some h⟩
theorem aLr {σ:Nat->Nat}{W:List Nat}(hinj: ∀a∈W,∀b∈W,σ a=σ b->a=b) {k:Nat}(hk:k∈W):aDu σ W (σ k)=some k:=by
 cases h:aDu σ W (σ k)with
 |none=>
  unfold aDu at h
  rw [List.find?_eq_none]at h
  exact absurd (beq_self_eq_true (σ k)) (h k hk)
 |some j=>
  obtain⟨h1,h2⟩:=qX h
  rw [hinj j h1 k hk h2]
theorem Env.push_like {ρ ρ1:Env}{σ:Nat->Nat}{W:List Nat}(hinj: ∀a∈W,∀b∈W,σ a=σ b->a=b) {k:Nat}(hk:k∈W):ρ1.like (ρ.push ρ1 σ W) σ k:=by
 unfold Env.like Env.push
 simp only [aLr hinj hk,and_self]
structure Left (σ:Nat->Nat) (W:List Nat) (h1 hp hp2:Hp):Prop where
 up: ∀k∈W,∃o,aM h1 k=some o/\o.sim/\¬ o.Rd/\(∀i∈o.ids,i∈W)/\aM hp2 (σ k)=some (o.ren σ)
 rest: ∀i o,aM hp2 i=some o->(∃k∈W,i=σ k)\/aM hp i=some o
structure Among (σ:Nat->Nat) (W:List Nat) (hpI hp:Hp):Prop where
 sub: ∀id o,aM hpI id=some o->aM hp (σ id)=some (o.ren σ)/\o.sim
 inj: ∀id o id' o',aM hpI id=some o->aM hpI id'=some o'->σ id=σ id'->id=id'
 w: ∀k∈W,∃o,aM hpI k=some o
 rd: ∀id o,aM hpI id=some o->id∈W\/ ∀ρ:Env,ρ.at id o=none
theorem Mem.framed {E:Entry}{ρ ρ1:Env}{σ:Nat->Nat}{W:List Nat}{hpI h1 hp hp2:Hp}{w w':World}{pin:Pin}{rd:Option Nat}(hm:Mem E ρ hp w) (A:Among σ W hpI hp) (L:Left σ W h1 hp hp2) (hW: ∀k∈W,k∈pin)
  (hm':Mem (aV w (ρ.pull σ) hpI pin rd E.D) ρ1 h1 w'):Mem E (ρ.push ρ1 σ W) hp2 w'/\ ∀i,ρ.moved (ρ.push ρ1 σ W) i:=by
 have hinj: ∀a∈W,∀b∈W,σ a=σ b->a=b:=by
  intro a ha b hb e
  obtain⟨o,h1⟩:=A.w a ha
  obtain⟨o',h2⟩:=A.w b hb
  exact A.inj _ _ _ _ h1 h2 e
 have hmv: ∀i,ρ.moved (ρ.push ρ1 σ W) i:=by
  intro i
  cases h:aDu σ W i with
  |none=>exact⟨by simp only [Env.push,h], .inl ⟨by simp only [Env.push,h],by simp only [Env.push,h]⟩⟩
  |some k=>
   obtain⟨k1,k2⟩:=qX h
   subst k2
   have:=hm'.mv k (hW k k1)
   unfold Env.moved at this |-
   simp only [Env.push,h]
   exact this
 have hBI: ∀b,(aV w (ρ.pull σ) hpI pin rd E.D).B b-> ∃k∈W,∃o,aM hpI k=some o/\aM hp (σ k)=some (o.ren σ)/\ρ.at (σ k) (o.ren σ)=some b:=by
  rintro b ⟨k,o,e1,e2⟩
  obtain⟨s1,s2⟩:=A.sub k o e1
  rcases A.rd k o e1 with hk|hn
  ·exact⟨k,hk,o,e1,s1,by rw [HObj.at_ren s2 (ρ.pull_like σ k)];exact e2⟩
  ·rw [hn]at e2;cases e2
 have hkp:bL ρ.S w w':=hm'.kp
 have hsold: ∀b i,ρ.S b i->ρ1.S b i:=hm'.sold
 have hother: ∀i o,aDu σ W i=none->(ρ.push ρ1 σ W).at i o=ρ.at i o:=by
  intro i o h
  cases o<;>simp only [Env.at,Env.push,h]
 have hnone: ∀i,(¬ ∃k∈W,i=σ k)->aDu σ W i=none:=by
  intro i h
  cases e:aDu σ W i with
  |none=>rfl
  |some k=>obtain⟨k1,k2⟩:=qX e;exact absurd ⟨k,k1,k2.symm⟩ h
 have hup: ∀k∈W,∀o,aM hp2 (σ k)=some o-> ∃o1,aM h1 k=some o1/\o1.sim/\¬ o1.Rd/\o=o1.ren σ/\(ρ.push ρ1 σ W).at (σ k) o=ρ1.at k o1:=by
  intro k hk o ho
  obtain⟨o1,e1,e2,e3,e4,e5⟩:=L.up k hk
  rw [e5]at ho
  injection ho with ho
  subst ho
  exact⟨o1,e1,e2,e3,rfl,HObj.at_ren e2 (Env.push_like hinj hk)⟩
 have hnotB: ∀i o g,(¬ ∃k∈W,i=σ k)->aM hp i=some o->(ρ.at i o=some g\/ρ.blk i=some g/\o.Rd)->¬ (aV w (ρ.pull σ) hpI pin rd E.D).B g:=by
  intro i o g hi ho hg hB
  obtain⟨k,k1,o',k2,k3,k4⟩:=hBI g hB
  rcases hg with hg|⟨hg,hrd⟩
  ·exact hi ⟨k,k1,hm.inj _ _ _ _ g ho k3 hg k4⟩
  ·exact hm.ro i o g ho hrd hg _ _ k3 k4
 have hlt: ∀i o g,aM hp i=some o->(ρ.at i o=some g\/ρ.blk i=some g/\o.Rd)->g < w.heap.size:=by
  intro i o g ho hg
  rcases hg with hg|⟨hg,hrd⟩
  ·exact hm.blk_lt ho hg
  ·exact hm.ro_lt ho hrd hg
 refine⟨⟨hm'.os.trans hm.os,hm'.tape.trans hm.tape,hm'.output.trans hm.output,Nat.le_trans hm.size hm'.size, ?_,λb i hs=>hsold b i (hm.sold b i hs), ?_,hm'.slt,hm.kp.trans hm.sold hkp, ?_, ?_, ?_,λid hid=>Env.moved_trans (hm.mv id hid) (hmv id), ?_,hm'.md⟩,hmv⟩
 ·intro b hb hnb
  refine(hm'.old b (Nat.lt_of_lt_of_le hb hm.size) λhB=> ?_).trans (hm.old b hb hnb)
  obtain⟨k,k1,o,k2,k3,k4⟩:=hBI b hB
  rcases hm.hb _ _ b k3 k4 with h|h
  ·omega
  ·exact hnb h
 ·intro b i hs hb hnb
  refine hm.snew b i (hm'.snew b i hs (Nat.lt_of_lt_of_le hb hm.size) λhB=> ?_) hb hnb
  obtain⟨k,k1,o,k2,k3,k4⟩:=hBI b hB
  rcases hm.hb _ _ b k3 k4 with h|h
  ·omega
  ·exact hnb h
 ·intro i o ho
  by_cases hi: ∃k∈W,i=σ k
  ·obtain⟨k,hk,rfl⟩:=hi
   obtain⟨o1,e1,e2,e3,e4,e5⟩:=L.up k hk
   rw [e5]at ho
   injection ho with ho
   subst ho
   exact wL.toRen (a := ρ1) e2 rfl (hl := λj hj => by
    rcases hj with rfl|hj
    ·exact Env.push_like hinj hk
    ·exact Env.push_like hinj (e4 j hj)) (h:=hm'.sat k o1 e1)
  ·rcases L.rest i o ho with h|h
   ·exact absurd h hi
   ·have hn:=hnone i hi
    refine(hm.sat i o h).keep hkp hsold (λj _=>hmv j) ⟨by simp only [Env.push,hn],by simp only [Env.push,hn]⟩ ?_ ?_
    ·intro g hg
     exact hm'.old g (hlt i o g h hg) (hnotB i o g hi h hg)
    ·intro g hg j hj
     exact hm'.snew g j hj (hlt i o g h (.inl hg)) (hnotB i o g hi h (.inl hg))
 ·intro i o i' o' g h h' hg hg'
  by_cases hi: ∃k∈W,i=σ k
  ·obtain⟨k,hk,rfl⟩:=hi
   obtain⟨o1,e1,e2,e3,e4,e5⟩:=hup k hk o h
   rw [e5]at hg
   by_cases hi': ∃k∈W,i'=σ k
   ·obtain⟨k',hk',rfl⟩:=hi'
    obtain⟨o1',f1,f2,f3,f4,f5⟩:=hup k' hk' o' h'
    rw [f5]at hg'
    rw [hm'.inj _ _ _ _ g e1 f1 hg hg']
   ·rcases L.rest i' o' h' with h2|h2
    ·exact absurd h2 hi'
    ·rw [hother i' o' (hnone i' hi')]at hg'
     rcases hm'.hb k o1 g e1 hg with hge|hB
     ·have:=hlt i' o' g h2 (.inl hg')
      have hge:w.heap.size<=g:=hge
      omega
     ·exact absurd hB (hnotB i' o' g hi' h2 (.inl hg'))
  ·rcases L.rest i o h with h2|h2
   ·exact absurd h2 hi
   ·rw [hother i o (hnone i hi)]at hg
    by_cases hi': ∃k∈W,i'=σ k
    ·obtain⟨k',hk',rfl⟩:=hi'
     obtain⟨o1',f1,f2,f3,f4,f5⟩:=hup k' hk' o' h'
     rw [f5]at hg'
     rcases hm'.hb k' o1' g f1 hg' with hge|hB
     ·have:=hlt i o g h2 (.inl hg)
      have hge:w.heap.size<=g:=hge
      omega
     ·exact absurd hB (hnotB i o g hi h2 (.inl hg))
    ·rcases L.rest i' o' h' with h3|h3
     ·exact absurd h3 hi'
     ·rw [hother i' o' (hnone i' hi')]at hg'
      exact hm.inj i o i' o' g h2 h3 hg hg'
 ·intro i o g h hg
  by_cases hi: ∃k∈W,i=σ k
  ·obtain⟨k,hk,rfl⟩:=hi
   obtain⟨o1,e1,e2,e3,e4,e5⟩:=hup k hk o h
   rw [e5]at hg
   rcases hm'.hb k o1 g e1 hg with hge|hB
   ·exact .inl (Nat.le_trans hm.size hge)
   ·obtain⟨k,k1,o,k2,k3,k4⟩:=hBI g hB
    exact hm.hb _ _ g k3 k4
  ·rcases L.rest i o h with h2|h2
   ·exact absurd h2 hi
   ·rw [hother i o (hnone i hi)]at hg
    exact hm.hb i o g h2 hg
 ·intro i o g h hrd hg i' o' h' hg'
  by_cases hi: ∃k∈W,i=σ k
  ·obtain⟨k,hk,rfl⟩:=hi
   obtain⟨o1,e1,e2,e3,e4,e5⟩:=hup k hk o h
   rw [e4]at hrd
   exact e3 (HObj.rd_ren.1 hrd)
  ·rcases L.rest i o h with h2|h2
   ·exact absurd h2 hi
   ·have hg:ρ.blk i=some g:=by simpa only [Env.push,hnone i hi]using hg
    by_cases hi': ∃k∈W,i'=σ k
    ·obtain⟨k',hk',rfl⟩:=hi'
     obtain⟨o1',f1,f2,f3,f4,f5⟩:=hup k' hk' o' h'
     rw [f5]at hg'
     rcases hm'.hb k' o1' g f1 hg' with hge|hB
     ·have:=hlt i o g h2 (.inr ⟨hg,hrd⟩)
      have hge:w.heap.size<=g:=hge
      omega
     ·exact absurd hB (hnotB i o g hi h2 (.inr ⟨hg,hrd⟩))
    ·rcases L.rest i' o' h' with h3|h3
     ·exact absurd h3 hi'
     ·rw [hother i' o' (hnone i' hi')]at hg'
      exact hm.ro i o g h2 hrd hg i' o' h3 hg'
theorem Mem.pulled {E:Entry}{ρ:Env}{σ:Nat->Nat}{W:List Nat}{hpI hp:Hp}{w:World}(pin:Pin) (rd:Option Nat) (hm:Mem E ρ hp w) (A:Among σ W hpI hp):Mem (aV w (ρ.pull σ) hpI pin rd E.D) (ρ.pull σ) hpI w:=by
 refine⟨rfl,rfl, .refl _,Nat.le_refl _,λ_ _ _=>rfl,λ_ _ h=>h,λ_ _ h _ _=>h,hm.slt,λ_ _ _=>rfl, ?_, ?_,λid o _ a b=> .inr ⟨id,o,a,b⟩,λid _=>(ρ.pull σ).moved_refl id, ?_,hm.md⟩
 ·intro id o h
  obtain⟨h1,h2⟩:=A.sub id o h
  exact wL.ofRen (b:=ρ) (σ:=σ) h2 rfl (λi _=>ρ.pull_like σ i) (hm.sat _ _ h1)
 ·intro id o id' o' g h h' hg hg'
  obtain⟨h1,h2⟩:=A.sub id o h
  obtain⟨h3,h4⟩:=A.sub id' o' h'
  rw [<-HObj.at_ren h2 (ρ.pull_like σ id)]at hg
  rw [<-HObj.at_ren h4 (ρ.pull_like σ id')]at hg'
  exact A.inj _ _ _ _ h h' (hm.inj _ _ _ _ g h1 h3 hg hg')
 ·intro id o g h hrd hg id' o' h' hg'
  obtain⟨h1,h2⟩:=A.sub id o h
  obtain⟨h3,h4⟩:=A.sub id' o' h'
  rw [<-HObj.at_ren h4 (ρ.pull_like σ id')]at hg'
  exact hm.ro _ _ g h1 (HObj.rd_ren.2 hrd) hg _ _ h3 hg'
theorem iD {pin:Pin}{fr:Fr}{hp:Hp}{f:FuncId}{args:List SV}{K:SV->Hp->Prop}(σ:Nat->Nat) (W:List Nat) (hpI:Hp) {pinI:Pin}{argsI:List SV}{KI:SV->Hp->Prop}
  (hc:aF P pinI [] hpI f argsI KI) (A:Among σ W hpI hp) (hW: ∀k∈W,k∈pinI) (hargs:args=argsI.map (SV.ren σ)) (hsim: ∀s∈argsI,s.sim)
  (hk: ∀s h1,KI s h1->s.sim/\(∀i∈s.ids,i∈W)/\ ∃hp2,Left σ W h1 hp hp2/\K (s.ren σ) hp2)
  (hkp: ∀h1,pinI.kp [] h1-> ∃hp2,Left σ W h1 hp hp2/\pin.kp fr hp2) (hpv:pin.pv=pinI.pv\/ ∀h,¬ pinI.kp [] h):aF P pin fr hp f args K:=by
 intro E ρ w tm hpin hm hf vs hv
 have hinj: ∀a∈W,∀b∈W,σ a=σ b->a=b:=by
  intro a ha b hb e
  obtain⟨o,h1⟩:=A.w a ha
  obtain⟨o',h2⟩:=A.w b hb
  exact A.inj _ _ _ _ h1 h2 e
 have hm0:=hm.pulled pinI none A
 refine(hc _ _ w #[] rfl hm0 (λt s h=>by simp [dE]at h) vs ⟨by rw [hv.1,hargs,List.length_map],λj s v hs hx=> ?_⟩).mono ?_
 ·refine Rep.ofRen (b:=ρ) (σ:=σ) (hsim s (List.mem_of_getElem? hs)) rfl (λi _=>ρ.pull_like σ i) (hv.2 j _ v ?_ hx)
  rw [hargs,List.getElem?_map,hs];rfl
 ·rintro e w' (⟨v,ρ1,s,h1,rfl,k1,k2,k3,k4⟩|⟨ch,ρ1,h1,rfl,k0,k1,k2,k3⟩)
  ·obtain⟨s1,s2,hp2,s3,s4⟩:=hk s h1 k1
   obtain⟨m1,m2⟩:=hm.framed A s3 hW k2
   exact .inl ⟨v,_,s.ren σ,hp2,rfl,s4,m1,hf.mono k2.kp k2.sold (λi _=>m2 i),Rep.toRen (a:=ρ1) s1 rfl (hl:= λi hi=>Env.push_like hinj (s2 i hi)) (h:=k4)⟩
  ·obtain⟨hp2,s3,s4⟩:=hkp h1 k1
   obtain⟨m1,m2⟩:=hm.framed A s3 hW k2
   exact .inr ⟨ch,_,hp2,rfl,hpv.elim (λe=>by rw [e];exact k0) (λe=>absurd k1 (e h1)),s4,m1,hf.mono k2.kp k2.sold (λi _=>m2 i)⟩
theorem aFq {i:Nat}{h1 hp:Hp}{x o:HObj}(hx:aM hp i=some x) (ho:aM h1 3=some o) (hs:o.sim) (hr:¬ o.Rd) (hi:o.ids=[]) (he:o.ren (λ_=>i)=o):Left (λ_=>i) [3] h1 hp (dQ hp i o):=by
 refine⟨λk hk=> ?_,λj y hy=> ?_⟩
 ·obtain rfl:k=3:=by simpa using hk
  have hnone: ∀j∈o.ids,j∈[3]:=by
   intro j hj
   rw [hi]at hj
   cases hj
  refine⟨o,ho,hs,hr,hnone, ?_⟩
  show aM (dQ hp i o) i=_
  rw [aX o hx,if_pos rfl,he]
 ·rw [aX o hx]at hy
  split at hy
  ·rename_i e;exact .inl ⟨3,by simp,e⟩
  ·exact .inr hy
theorem aH0 {i:Nat}{hp:Hp}{x o:HObj}(hx:aM hp i=some x) (he:o.ren (λ_=>i)=x) (hs:o.sim):Among (λ_=>i) [3] [(3,o)] hp:=by
 refine⟨λid y hy=> ?_,λid y id' y' h h' _=> ?_,λk hk=> ?_,λid y hy=> ?_⟩
 ·simp only [aM]at hy
  split at hy
  ·rename_i e;injection hy with hy;subst hy;subst e
   exact⟨by rw [he];exact hx,hs⟩
  ·cases hy
 ·simp only [aM]at h h'
  split at h
  ·split at h'
   ·rename_i e1 e2;rw [<-e1,<-e2]
   ·cases h'
  ·cases h
 ·obtain rfl:k=3:=by simpa using hk
  exact⟨o,by simp [aM]⟩
 ·simp only [aM]at hy
  split at hy
  ·rename_i e;subst e;exact .inl (by simp)
  ·cases hy
end
end
section
open Go.RowKit
def cE (a b:SV):Prop:= ∀(w:World) (ρ:Env) (v:Value),Rep w ρ a v->Rep w ρ b v
theorem cE.refl (a:SV):cE a a:= λ_ _ _ h=>h
theorem cE.osl {id z:Nat}{rows:List (List D)}:cE (.osl id z rows) (.d (.sl z rows)):= λ_ _ _ h=> .d _ _ h.osl_inv.1
theorem cE.wkd {a b:D}(h:WkD a b):cE (.d a) (.d b):= λ_ _ _ hr=>by
 cases hr with
 |d _ _ hd=>exact .d _ _ (aCi hd b h)
theorem cE.nil {z:Nat}:cE (.d .nil) (.d (.sl z [])):=cE.wkd rfl
theorem cE.agg {l m:List SV}(hl:l.length=m.length) (h: ∀(j:Nat) (a b:SV),l[j]? =some a->m[j]? =some b->cE a b):cE (.agg l) (.agg m):= λw ρ v hr=>by
 obtain⟨vs,rfl,h1,h2⟩:=hr.agg_inv
 refine .agg _ _ (h1.trans hl) λj b u hb hu=> ?_
 have hj:j < l.length:=by rw [hl];exact(List.getElem?_eq_some_iff.1 hb).1
 exact h j _ b (List.getElem?_eq_getElem hj) hb w ρ u (h2 j _ u (List.getElem?_eq_getElem hj) hu)
theorem cE.aggD {l:List D}:cE (.agg (l.map .d)) (.d (.agg l)):= λw ρ v hr=>by
 obtain⟨vs,rfl,h1,h2⟩:=hr.agg_inv
 refine .d _ _ (.agg _ _ (by rw [h1,List.length_map]) λj x u hx hu=> ?_)
 have:=h2 j (.d x) u (by rw [List.getElem?_map,hx];rfl) hu
 cases this with
 |d _ _ h=>exact h
def aDo:List SV->List D->Prop
 | [],[]=>True
 |a::l,b::m=>cE a (.d b)/\aDo l m
 |_,_=>False
theorem aDo.at: ∀(l:List SV) (m:List D),aDo l m->l.length=m.length/\ ∀(j:Nat) (a:SV) (b:D),l[j]? =some a->m[j]? =some b->cE a (.d b)
 | [],[],_=>⟨rfl,by simp⟩
 |a::l,b::m,h=>by
  obtain⟨h1,h2⟩:=aDo.at l m h.2
  refine⟨by simp [h1],λj x y hx hy=> ?_⟩
  cases j with
  |zero=>simp at hx hy;subst hx hy;exact h.1
  |succ j=>exact h2 j x y (by simpa using hx) (by simpa using hy)
theorem cE.cells {l:List SV}{m:List D}(h:aDo l m):cE (.agg l) (.d (.agg m)):= λw ρ v hr=>by
 obtain⟨h1,h2⟩:=aDo.at l m h
 refine cE.aggD w ρ v (cE.agg (by rw [List.length_map,h1]) (λj a b ha hb=> ?_) w ρ v hr)
 rw [List.getElem?_map]at hb
 obtain⟨y,hy,rfl⟩:=Option.map_eq_some_iff.1 hb
 exact h2 j a y ha hy
section
variable {P:Program}
theorem aF.says {pin:Pin}{fr:Fr}{hp:Hp}{f:FuncId}{args:List SV}{K:SV->Hp->Prop}(h:aF P pin fr hp f args λs hp'=> ∃s',cE s s'/\K s' hp'):aF P pin fr hp f args K:=by
 intro E ρ w tm h1 h2 h3 vs h4
 refine(h E ρ w tm h1 h2 h3 vs h4).mono ?_
 rintro e w' (⟨v,ρ',s,hp',rfl,⟨s',hs,hk⟩,k2,k3,k4⟩|q)
 ·exact .inl ⟨v,ρ',s',hp',rfl,hk,k2,k3,hs _ _ _ k4⟩
 ·exact .inr q
theorem aF.args {pin:Pin}{fr:Fr}{hp:Hp}{f:FuncId}{args args':List SV}{K:SV->Hp->Prop}(h:aF P pin fr hp f args' K) (hl:args.length=args'.length) (hs: ∀(j:Nat) (a b:SV),args[j]? =some a->args'[j]? =some b->cE a b):aF P pin fr hp f args K:=by
 intro E ρ w tm h1 h2 h3 vs h4
 refine h E ρ w tm h1 h2 h3 vs ⟨h4.1.trans hl,λj b v hb hv=> ?_⟩
 have hj:j < args.length:=by rw [hl];exact(List.getElem?_eq_some_iff.1 hb).1
 exact hs j _ b (List.getElem?_eq_getElem hj) hb w ρ v (h4.2 j _ v (List.getElem?_eq_getElem hj) hv)
theorem aB9 {s:SV}(h:s.ids=[]):s.sim:=by cases s<;>first|trivial|exact h
theorem aBa {σ:Nat->Nat}{s:SV}(h:s.ids=[]):s.ren σ=s:=by cases s<;>first|rfl|(simp [SV.ids]at h)
theorem oX {σ:Nat->Nat}: ∀{l:List SV},SV.idsL l=[]->l.map (SV.ren σ)=l
 | [],_=>rfl
 |s::r,h=>by
  rw [SV.idsL,List.append_eq_nil_iff]at h
  rw [List.map_cons,aBa h.1,oX h.2]
theorem oU: ∀{l:List SV},SV.idsL l=[]-> ∀s∈l,s.sim
 |s::r,h,x,hx=>by
  rw [SV.idsL,List.append_eq_nil_iff]at h
  rcases List.mem_cons.1 hx with rfl|hx
  ·exact aB9 h.1
  ·exact oU h.2 x hx
end
end
section
open Go.Proofs Go.RowKit
set_option maxRecDepth 10000
attribute [local irreducible] aH aF Tri aD YVC bO aP
abbrev rdO (b:List UInt8):HObj:= .cells 194 [.d (.sl 1 (b.map bB))]
abbrev aQ0 (q:Prop):Pin:=⟨[3],λ_ h=>q/\ ∃b:List UInt8,aM h 3=some (rdO b),[],none⟩
def RdT {α:Type}(f:FuncId) (ex:List SV) (r:Rd α) (e:α->SV):Prop:= ∀bs:List UInt8,bs.length<=1000000->
 aF Tryz.prog (aQ0 (r bs=none)) [] [(3,rdO bs)] f (.ptr 3 0::ex) (λs h=> ∃x c,r bs=some (x,c)/\s=e x/\aM h 3=some (rdO c))
theorem RdC.t {α:Type}{f:FuncId}{r:Rd α}{e:α->SV}(h:RdC f r e):RdT f [] r e:= λbs _=>
 h bs [] (λx c hr=>⟨x,c,hr,rfl,rfl⟩) (λhr b=>⟨hr,b,rfl⟩) rfl
theorem mA (m:Nat) (hm:m<=8):RdT 216 [.d (.int .i64 m)] (xN m) (λn=> .d (.int .u64 n)):= λbs _=>
 fB bs m hm [] (λhle=>⟨_,_,vF hle,rfl,rfl⟩) (λhlt=>⟨vG hlt,bs,rfl⟩) rfl
theorem aBk:RdT 240 [] aBc (λz=> .d (.int .i64 z)):=aFk.t
theorem aLg:RdT 239 [] aOo (λz=> .d (.int .i64 z)):=aIo.t
theorem aB6:RdT 183 [] aDr (λs=> .d (.str s)):=aKp.t
theorem RdT.call {α:Type}{f:FuncId}{ex:List SV}{r:Rd α}{e:α->SV}(h:RdT f ex r e) (hx:SV.idsL ex=[]) (he: ∀x,(e x).ids=[]) {pin:Pin}{fr:Fr}{hp:Hp}{i:Nat}{K:SV->Hp->Prop}(bs:List UInt8) (hb:bs.length<=1000000) (hg:aM hp i=some (rdO bs))
  (hok: ∀x c,r bs=some (x,c)->gB hp i (rdO c) (K (e x))) (hno:r bs=none-> ∀b,pin.kp fr (dQ hp i (rdO b))) (hpv:pin.pv=none:=by rfl):aF Tryz.prog pin fr hp f (.ptr i 0::ex) K:=by
 have hs: ∀b,(rdO b).sim:= λb s hs=>by simp at hs;subst hs;exact rfl
 refine iD (λ_=>i) [3] [(3,rdO bs)] (h bs hb) (aH0 hg rfl (hs bs)) (λk hk=>hk) (by rw [List.map_cons,oX hx];rfl) ?_ ?_ ?_ (.inl hpv)
 ·intro s hs
  rcases List.mem_cons.1 hs with rfl|hs
  ·trivial
  ·exact oU hx s hs
 ·rintro s h1 ⟨x,c,e1,rfl,e3⟩
  refine⟨aB9 (he x), ?_,_,aFq hg e3 (hs c) (λh=>h) rfl rfl, ?_⟩
  ·intro j hj
   rw [he]at hj
   cases hj
  rw [aBa (he x)]
  have:=hok x c e1
  rw [cM]at this
  exact this
 ·rintro h1 ⟨hn,b,e3⟩
  exact⟨_,aFq hg e3 (hs b) (λh=>h) rfl rfl,hno hn b⟩
end
section
open Go.Proofs Go.RowKit
set_option maxRecDepth 10000
attribute [local irreducible] aH aF Tri aD YVC bO aP
end
section
open Go.Proofs Go.RowKit
set_option maxRecDepth 10000
attribute [local irreducible] aH aF Tri aD YVC bO aP
theorem jU {α:Type}{r:Rd α}{k:Nat}(h:wM k r) {b c:List UInt8}{x:α}(e:r b=some (x,c)):c.length+k<=b.length:=by
 obtain⟨a,h1,h2⟩:=h b x c e
 rw [h1,List.length_append];omega
theorem pB {α:Type}{r:Rd α}{b c d:List UInt8}{l:List α}{x:α}(h:pC r l.length b=some (l,c)) (e:r c=some (x,d)):pC r (l++[x]).length b=some (l++[x],d):=by
 rw [List.length_append,List.length_singleton,kZ,h]
 simp only [Option.bind_some,e,Option.map_some]
theorem pA {α:Type}{r:Rd α}{b c:List UInt8}{l:List α}{N:Nat}(h:pC r l.length b=some (l,c)) (e:r c=none) (hN:l.length < N):pC r N b=none:=by
 refine aF2 (n:=l.length+1) ?_ (by omega)
 rw [kZ,h]
 simp only [Option.bind_some,e,Option.map_none]
theorem oB {bs c:List UInt8}{N:Nat}(h:xN 4 bs=some (N,c)):N < 4294967296:=by
 obtain⟨l,h1,rfl⟩:=aBb h
 have hl:l.length=4:=by
  unfold oZ at h1
  split at h1
  ·injection h1 with h1;injection h1 with h1 _
   rw [<-h1,List.length_take];omega
  ·cases h1
 exact nF 4 l hl
theorem aLo {N k:Nat}(h:k < N) (hN:N < 4294967296):IntKind.u64.wrap (((N - k:Nat):Int) - 1)=((N - (k+1):Nat):Int):=by
 have e:((N - k:Nat):Int) - 1=((N - (k+1):Nat):Int):=by omega
 rw [e]
 exact wN _ (by omega)
theorem aFo:RdT 182 [.fn 183 [] []] (kG aDr) (λl=> .d (.sl 1 (l.map aT))):=by
 intro bs hb
 refine aF.says ?_
 refine aN false [] hty Tryz.func182 rfl (kp [0,1,4,5,9]) 100 (by simp [Tryz.f182]) ?_
 ((conv=>whnf);repeat ((first |(intro hq;try simp only [lnS]at hq)|refine sI ?_|refine qE_ ?_);conv=>whnf))
 refine RdT.call (mA 4 (by decide)) rfl (λ_=>rfl) bs hb rfl (λN c0 e1=> ?_) (λe1 b=>⟨bD e1,b,rfl⟩)
 have hbind:kG aDr bs=pC aDr N c0:=cK e1
 have hc0:=jU (gA 4) e1
 have hN:=oB e1
 clear e1
 ((conv=>whnf);repeat ((first |(intro hq;try simp only [lnS]at hq)|refine sI ?_|refine qE_ ?_);conv=>whnf))
 refine aH.own 4 104 9 1 rfl (cO (by with_unfolding_all exact rfl)) ?_
 refine aG hty (λy:List (List UInt8)×List UInt8=>([(0, .ptr 3 0),(1, .fn 183 [] []),(4, .osl 104 1 (y.1.map aT)),(5, .d (.int .u64 ((N - y.1.length:Nat):Int)))],[(104, .own 9 1 (y.1.map aT).length),(3,rdO y.2)])) (λy=>pC aDr y.1.length c0=some y/\y.1.length<=N/\y.2.length+y.1.length<=c0.length) (λy=>N - y.1.length) ([],c0) ⟨rfl,Nat.zero_le _,Nat.le_refl _⟩ ⟨qB,qB⟩ ?_
 rintro⟨l,c⟩ ⟨h1,h2,h3⟩
 dsimp only at h1 h2 h3
 have hml:(l.map aT).length=l.length:=List.length_map ..
 have hb63:(l.map aT).length+1<=9223372036854775807:=by rw [hml];omega
 have hb48:((l.map aT).length+1)* 16<=140737488355328:=by rw [hml];omega
 ((conv=>whnf);repeat ((first |(intro hq;try simp only [lnS]at hq)|refine sI ?_|refine qE_ ?_);conv=>whnf))
 refine aB (λh4=> ?_) (λh4=> ?_)
 ·have hlt:l.length < N:=by dsimp only at h4;omega
  have hw:=aLo hlt hN
  refine RdT.call (e:= λx=>SV.d (.str x)) aB6 rfl (λ_=>rfl) c (by omega) rfl (λx d e2=> ?_) (λe2 b=>⟨hbind.trans (pA h1 e2 hlt),b,rfl⟩)
  have hd:=jU fZ e2
  ((conv=>whnf);repeat ((first|(refine And.intro hb63 ?_)|(refine And.intro hb48 ?_) |(intro hq;try simp only [lnS]at hq)|refine sI ?_|refine qE_ ?_);conv=>whnf))
  rw [hw]
  refine⟨(l++[_],d),⟨pB h1 e2,by rw [List.length_append];exact hlt,by dsimp only;rw [List.length_append,List.length_singleton];omega⟩,by dsimp only;rw [List.length_append,List.length_singleton];omega, ?_⟩
  dsimp only
  rw [List.map_append,List.length_append,List.length_append]
  exact⟨qB,qB⟩
 ·have hlN:l.length=N:=by dsimp only at h4;omega
  subst hlN
  ((conv=>whnf);repeat ((first |(intro hq;try simp only [lnS]at hq)|refine sI ?_|refine qE_ ?_);conv=>whnf))
  exact⟨_,cE.osl,l,c,hbind.trans h1,rfl,rfl⟩
end
section
open Go.Proofs Go.RowKit
set_option maxRecDepth 10000
attribute [local irreducible] aH aF Tri aD YVC bO aP
theorem fN {α β:Type}{r:Rd α}{f:α->Rd β}{b c:List UInt8}{x:α}(h:r b=some (x,c)) (k:f x c=none):dW r f b=none:=(cK h).trans k
theorem sH {α β:Type}{r:Rd α}{f:α->Rd β}{b c d:List UInt8}{x:α}{y:β}(h:r b=some (x,c)) (k:f x c=some (y,d)):dW r f b=some (y,d):=(cK h).trans k
end
section
open Go.Proofs Go.RowKit
set_option maxRecDepth 10000
attribute [local irreducible] aH aF Tri aD YVC bO aP
end
section
open Go.Proofs Go.RowKit
set_option maxRecDepth 10000
attribute [local irreducible] aH aF Tri aD YVC bO aP
def atR (a:At):List D:=[.int .i64 a.kind, .str a.name, .str a.x, .str a.y, .int .i64 a.lo, .int .i64 a.hi]
def aI (p:List At):List D:=[.sl 6 (p.map atR)]
theorem aNt:RdT 219 [] rAt (λa=> .d (.agg (atR a))):=by
 intro bs hb
 refine aN false [] hty Tryz.func219 rfl (kp [0,2]) 100 (by simp [Tryz.f219]) ?_
 ((conv=>whnf);repeat ((first |(intro hq;try simp only [lnS]at hq)|refine sI ?_|refine qE_ ?_);conv=>whnf))
 refine RdT.call aLg rfl (λ_=>rfl) bs hb rfl (λkd b1 e1=> ?_) (λe1 b=>⟨bD e1,b,rfl⟩)
 have q1:=jU aC5 e1
 ((conv=>whnf);repeat ((first |(intro hq;try simp only [lnS]at hq)|refine sI ?_|refine qE_ ?_);conv=>whnf))
 refine RdT.call aB6 rfl (λ_=>rfl) b1 (by omega) rfl (λs1 b2 e2=> ?_) (λe2 b=>⟨fN e1 (bD e2),b,rfl⟩)
 have q2:=jU fZ e2
 ((conv=>whnf);repeat ((first |(intro hq;try simp only [lnS]at hq)|refine sI ?_|refine qE_ ?_);conv=>whnf))
 refine RdT.call aB6 rfl (λ_=>rfl) b2 (by omega) rfl (λs2 b3 e3=> ?_) (λe3 b=>⟨fN e1 (fN e2 (bD e3)),b,rfl⟩)
 have q3:=jU fZ e3
 ((conv=>whnf);repeat ((first |(intro hq;try simp only [lnS]at hq)|refine sI ?_|refine qE_ ?_);conv=>whnf))
 refine RdT.call aB6 rfl (λ_=>rfl) b3 (by omega) rfl (λs3 b4 e4=> ?_) (λe4 b=>⟨fN e1 (fN e2 (fN e3 (bD e4))),b,rfl⟩)
 have q4:=jU fZ e4
 ((conv=>whnf);repeat ((first |(intro hq;try simp only [lnS]at hq)|refine sI ?_|refine qE_ ?_);conv=>whnf))
 refine RdT.call aBk rfl (λ_=>rfl) b4 (by omega) rfl (λlo b5 e5=> ?_) (λe5 b=>⟨fN e1 (fN e2 (fN e3 (fN e4 (bD e5)))),b,rfl⟩)
 have q5:=jU lP e5
 ((conv=>whnf);repeat ((first |(intro hq;try simp only [lnS]at hq)|refine sI ?_|refine qE_ ?_);conv=>whnf))
 refine RdT.call aBk rfl (λ_=>rfl) b5 (by omega) rfl (λhi b6 e6=> ?_) (λe6 b=>⟨fN e1 (fN e2 (fN e3 (fN e4 (fN e5 (dR e6))))),b,rfl⟩)
 ((conv=>whnf);repeat ((first |(intro hq;try simp only [lnS]at hq)|refine sI ?_|refine qE_ ?_);conv=>whnf))
 exact⟨⟨kd,s1,s2,s3,lo,hi⟩,b6,sH e1 (sH e2 (sH e3 (sH e4 (sH e5 (cW e6))))),rfl,rfl⟩
theorem aIs:RdT 218 [.fn 219 [] []] (kG rAt) (λl=> .d (.sl 6 (l.map atR))):=by
 intro bs hb
 refine aF.says ?_
 refine aN false [] hty Tryz.func218 rfl (kp [0,1,4,5,9]) 100 (by simp [Tryz.f218]) ?_
 ((conv=>whnf);repeat ((first |(intro hq;try simp only [lnS]at hq)|refine sI ?_|refine qE_ ?_);conv=>whnf))
 refine RdT.call (mA 4 (by decide)) rfl (λ_=>rfl) bs hb rfl (λN c0 e1=> ?_) (λe1 b=>⟨bD e1,b,rfl⟩)
 have hbind:kG rAt bs=pC rAt N c0:=cK e1
 have hc0:=jU (gA 4) e1
 have hN:=oB e1
 clear e1
 ((conv=>whnf);repeat ((first |(intro hq;try simp only [lnS]at hq)|refine sI ?_|refine qE_ ?_);conv=>whnf))
 refine aH.own 4 104 60 6 rfl (cO (by with_unfolding_all exact rfl)) ?_
 refine aG hty (λy:List At×List UInt8=>([(0, .ptr 3 0),(1, .fn 219 [] []),(4, .osl 104 6 (y.1.map atR)),(5, .d (.int .u64 ((N - y.1.length:Nat):Int)))],[(104, .own 60 6 (y.1.map atR).length),(3,rdO y.2)])) (λy=>pC rAt y.1.length c0=some y/\y.1.length<=N/\y.2.length+y.1.length<=c0.length) (λy=>N - y.1.length) ([],c0) ⟨rfl,Nat.zero_le _,Nat.le_refl _⟩ ⟨qB,qB⟩ ?_
 rintro⟨l,c⟩ ⟨h1,h2,h3⟩
 dsimp only at h1 h2 h3
 have hml:(l.map atR).length=l.length:=List.length_map ..
 have hb63:(l.map atR).length+1<=9223372036854775807:=by rw [hml];omega
 have hb48:((l.map atR).length+1)* 72<=140737488355328:=by rw [hml];omega
 ((conv=>whnf);repeat ((first |(intro hq;try simp only [lnS]at hq)|refine sI ?_|refine qE_ ?_);conv=>whnf))
 refine aB (λh4=> ?_) (λh4=> ?_)
 ·have hlt:l.length < N:=by dsimp only at h4;omega
  have hw:=aLo hlt hN
  refine RdT.call (e:= λx=>SV.d (.agg (atR x))) aNt rfl (λ_=>rfl) c (by omega) rfl (λx d e2=> ?_) (λe2 b=>⟨hbind.trans (pA h1 e2 hlt),b,rfl⟩)
  have hd:=jU aGc e2
  ((conv=>whnf);repeat ((first|(refine And.intro hb63 ?_)|(refine And.intro hb48 ?_) |(intro hq;try simp only [lnS]at hq)|refine sI ?_|refine qE_ ?_);conv=>whnf))
  rw [hw]
  refine⟨(l++[_],d),⟨pB h1 e2,by rw [List.length_append];exact hlt,by dsimp only;rw [List.length_append,List.length_singleton];omega⟩,by dsimp only;rw [List.length_append,List.length_singleton];omega, ?_⟩
  dsimp only
  rw [List.map_append,List.length_append,List.length_append]
  exact⟨qB,qB⟩
 ·have hlN:l.length=N:=by dsimp only at h4;omega
  subst hlN
  ((conv=>whnf);repeat ((first |(intro hq;try simp only [lnS]at hq)|refine sI ?_|refine qE_ ?_);conv=>whnf))
  exact⟨_,cE.osl,l,c,hbind.trans h1,rfl,rfl⟩
theorem aN4:RdT 185 [] (kG rAt) (λp=> .d (.agg (aI p))):=by
 intro bs hb
 refine aN false [] hty Tryz.func185 rfl (kp [0,2]) 100 (by simp [Tryz.f185]) ?_
 ((conv=>whnf);repeat ((first |(intro hq;try simp only [lnS]at hq)|refine sI ?_|refine qE_ ?_);conv=>whnf))
 refine RdT.call aIs rfl (λ_=>rfl) bs hb rfl (λl b1 e1=> ?_) (λe1 b=>⟨e1,b,rfl⟩)
 ((conv=>whnf);repeat ((first |(intro hq;try simp only [lnS]at hq)|refine sI ?_|refine qE_ ?_);conv=>whnf))
 exact⟨l,b1,e1,rfl,rfl⟩
theorem aDd:RdT 184 [.fn 185 [] []] (kG (kG rAt)) (λl=> .d (.sl 1 (l.map aI))):=by
 intro bs hb
 refine aF.says ?_
 refine aN false [] hty Tryz.func184 rfl (kp [0,1,4,5,9]) 100 (by simp [Tryz.f184]) ?_
 ((conv=>whnf);repeat ((first |(intro hq;try simp only [lnS]at hq)|refine sI ?_|refine qE_ ?_);conv=>whnf))
 refine RdT.call (mA 4 (by decide)) rfl (λ_=>rfl) bs hb rfl (λN c0 e1=> ?_) (λe1 b=>⟨bD e1,b,rfl⟩)
 have hbind:kG (kG rAt) bs=pC (kG rAt) N c0:=cK e1
 have hc0:=jU (gA 4) e1
 have hN:=oB e1
 clear e1
 ((conv=>whnf);repeat ((first |(intro hq;try simp only [lnS]at hq)|refine sI ?_|refine qE_ ?_);conv=>whnf))
 refine aH.own 4 104 35 1 rfl (cO (by with_unfolding_all exact rfl)) ?_
 refine aG hty (λy:List (List At)×List UInt8=>([(0, .ptr 3 0),(1, .fn 185 [] []),(4, .osl 104 1 (y.1.map aI)),(5, .d (.int .u64 ((N - y.1.length:Nat):Int)))],[(104, .own 35 1 (y.1.map aI).length),(3,rdO y.2)])) (λy=>pC (kG rAt) y.1.length c0=some y/\y.1.length<=N/\y.2.length+y.1.length<=c0.length) (λy=>N - y.1.length) ([],c0) ⟨rfl,Nat.zero_le _,Nat.le_refl _⟩ ⟨qB,qB⟩ ?_
 rintro⟨l,c⟩ ⟨h1,h2,h3⟩
 dsimp only at h1 h2 h3
 have hml:(l.map aI).length=l.length:=List.length_map ..
 have hb63:(l.map aI).length+1<=9223372036854775807:=by rw [hml];omega
 have hb48:((l.map aI).length+1)* 24<=140737488355328:=by rw [hml];omega
 ((conv=>whnf);repeat ((first |(intro hq;try simp only [lnS]at hq)|refine sI ?_|refine qE_ ?_);conv=>whnf))
 refine aB (λh4=> ?_) (λh4=> ?_)
 ·have hlt:l.length < N:=by dsimp only at h4;omega
  have hw:=aLo hlt hN
  refine RdT.call (e:= λx=>SV.d (.agg (aI x))) aN4 rfl (λ_=>rfl) c (by omega) rfl (λx d e2=> ?_) (λe2 b=>⟨hbind.trans (pA h1 e2 hlt),b,rfl⟩)
  have hd:=jU (yU aGc) e2
  ((conv=>whnf);repeat ((first|(refine And.intro hb63 ?_)|(refine And.intro hb48 ?_) |(intro hq;try simp only [lnS]at hq)|refine sI ?_|refine qE_ ?_);conv=>whnf))
  rw [hw]
  refine⟨(l++[_],d),⟨pB h1 e2,by rw [List.length_append];exact hlt,by dsimp only;rw [List.length_append,List.length_singleton];omega⟩,by dsimp only;rw [List.length_append,List.length_singleton];omega, ?_⟩
  dsimp only
  rw [List.map_append,List.length_append,List.length_append]
  exact⟨qB,qB⟩
 ·have hlN:l.length=N:=by dsimp only at h4;omega
  subst hlN
  ((conv=>whnf);repeat ((first |(intro hq;try simp only [lnS]at hq)|refine sI ?_|refine qE_ ?_);conv=>whnf))
  exact⟨_,cE.osl,l,c,hbind.trans h1,rfl,rfl⟩
def qyR (q:Qy):List D:=[.sl 1 (q.told.map aT), .sl 1 (q.parts.map aI)]
theorem aL4:RdT 137 [] rQy (λq=> .d (.agg (qyR q))):=by
 intro bs hb
 refine aN false [] hty Tryz.func137 rfl (kp [0,2]) 100 (by simp [Tryz.f137]) ?_
 ((conv=>whnf);repeat ((first |(intro hq;try simp only [lnS]at hq)|refine sI ?_|refine qE_ ?_);conv=>whnf))
 refine RdT.call aFo rfl (λ_=>rfl) bs hb rfl (λl b1 e1=> ?_) (λe1 b=>⟨bD e1,b,rfl⟩)
 have q1:=jU (yU fZ) e1
 ((conv=>whnf);repeat ((first |(intro hq;try simp only [lnS]at hq)|refine sI ?_|refine qE_ ?_);conv=>whnf))
 refine RdT.call aDd rfl (λ_=>rfl) b1 (by omega) rfl (λp b2 e2=> ?_) (λe2 b=>⟨fN e1 (dR e2),b,rfl⟩)
 ((conv=>whnf);repeat ((first |(intro hq;try simp only [lnS]at hq)|refine sI ?_|refine qE_ ?_);conv=>whnf))
 exact⟨⟨l,p⟩,b2,sH e1 (cW e2),rfl,rfl⟩
end
section
open Go.Proofs Go.RowKit
set_option maxRecDepth 100000
theorem aHr:Tryz.prog.underlying 5=some (.int .u8):=by kernel_rfl
end
section
open Go.Proofs Go.RowKit
set_option maxRecDepth 100000
theorem aMr:aCp Tryz.prog 35=some [33]:=by kernel_rfl
theorem aOn:aCp Tryz.prog 60=some [3,9,9,9,3,3]:=by kernel_rfl
theorem aJp:Tryz.prog.underlying 51=some (.slice 35):=by kernel_rfl
theorem aMs:Tryz.prog.underlying 33=some (.slice 60):=by kernel_rfl
theorem aP8:Tryz.prog.cellsOf 35=1:=by kernel_rfl
theorem aPa:Tryz.prog.cellsOf 60=6:=by kernel_rfl
theorem aGk {n:Nat}{ds:List D}(h:TyD Tryz.prog n 60 ds): ∃a:At,ds=atR a:=by
 obtain⟨m,rfl,a1,b1,rfl,h1,a2,b2,rfl,h2,a3,b3,rfl,h3,a4,b4,rfl,h4,a5,b5,rfl,h5,a6,b6,rfl,h6,rfl⟩:=tL aOn h
 obtain⟨k,rfl,_⟩:=uR u3 h1
 obtain⟨s1,rfl,_⟩:=mB u9 h2
 obtain⟨s2,rfl,_⟩:=mB u9 h3
 obtain⟨s3,rfl,_⟩:=mB u9 h4
 obtain⟨lo,rfl,_⟩:=uR u3 h5
 obtain⟨hi,rfl,_⟩:=uR u3 h6
 exact⟨⟨k,s1,s2,s3,lo,hi⟩,rfl⟩
theorem zA {n:Nat}{ds:List D}(h:TyD Tryz.prog n 35 ds): ∃p:List At,ds=aI p:=by
 obtain⟨m,rfl,a1,b1,rfl,h1,rfl⟩:=tL aMr h
 obtain⟨m,rfl,rows,rfl,hn,hr⟩:=wW aMs h1
 obtain⟨p,rfl⟩:=aA4 (f:=atR) (λr hr=>aGk hr) rows hr
 exact⟨p,by rw [aPa];rfl⟩
theorem aPe {n:Nat}{ds:List D}(h:TyD Tryz.prog n 3 ds): ∃z,nT Tryz.prog 3 ds= .d (.int .i64 z):=by
 obtain⟨z,rfl,_⟩:=uR u3 h
 exact⟨z,by simp only [nT,u3]⟩
end
end Go.Proofs.YtdjfkmkdkclahaaGreatDoor
