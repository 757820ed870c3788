/-
  Commits, queries and alignments in bytes: what is written is read again; plain. Bytes as the program reckons them: shifting and or, the bytes of a number. Objects: the reader reads numbers. Objects: the reader reads ints, octets and texts. A contract over the callee's own few objects, under other numbers, in any memory of the caller's. A result that says less. Objects: a reader's contract, over its own object alone; how it is used. Objects: the reader reads digests. Objects: the reader reads lists. Objects: the reader reads commits. Objects: the reader reads concepts.
  Conditions: none.
-/
import Derived.Test.YtbobcfjlbcgchaaGreatDoorVOb
import Derived.Test.YtbobcfjlbcgchaaGreatDoorVSi
import Derived.Test.YtbobcfjlbcgchaaGreatDoorVSna
import Derived.Test.YtbobcfjlbcgchaaGreatDoorVA1
import Derived.Test.YtbobcfjlbcgchaaGreatDoorVSq
set_option linter.unnecessarySimpa false
set_option linter.unusedSectionVars false
set_option linter.unusedSimpArgs false
set_option linter.unusedVariables false
set_option maxHeartbeats 16000000
namespace Go.Proofs.YtbobcfjlbcgchaaGreatDoor
open Go.Proofs
structure Cm where
 no:Int
 parents:List Int
 base:Dig
 message:List UInt8
def wCm (c:Cm):List UInt8:=lG c.no++(iA lG c.parents++(rT c.base++lC c.message))
structure At where
 kind:Int
 name:List UInt8
 x:List UInt8
 y:List UInt8
 lo:Int
 hi:Int
structure Qy where
 told:List (List UInt8)
 parts:List (List At)
def rAt:Rd At:=dW aU9 λk=>dW aF1 λn=>dW aF1 λx=>dW aF1 λy=>dW aSx λlo=>tH aSx λhi=>⟨k,n,x,y,lo,hi⟩
def rQy:Rd Qy:=dW (iJ aF1) λt=>tH (iJ (iJ rAt)) λp=>⟨t,p⟩
structure Al where
 name:List UInt8
 base:Dig
 axioms:List Ax
 pub:Dig
 index:Int
 parts:List Dig
 path:List Dig
def wAl (a:Al):List UInt8:=lC a.name++(rT a.base++(wAs a.axioms++(rT a.pub++(lG a.index++(iA rT a.parts++iA rT a.path)))))
theorem aNt:yQ 29 rAt:=mR (bZ jA λ_=>bZ cZ λ_=>bZ cZ λ_=>bZ cZ λ_=>bZ kU λ_=>jB kU) (by omega)
end Go.Proofs.YtbobcfjlbcgchaaGreatDoor
namespace Go.Proofs.YtbobcfjlbcgchaaGreatDoor
open Go.Proofs Go.RowKit
theorem sX (n:Nat) (h:n < 18446744073709551616):IntKind.u64.wrap (n:Int)=(n:Int):=by
 have e:IntKind.u64.wrap (n:Int)=((n:Int) % 18446744073709551616):=by
  unfold IntKind.wrap
  rfl
 rw [e];omega
theorem aT4 {x c:Nat}(hx:x < 72057594037927936) (hc:c < 256):bits .or .u64 (IntKind.u64.wrap ((x:Int)* 2 ^ (min (8:Int).toNat IntKind.u64.bits))) (c:Int)=((256 * x+c:Nat):Int):=by
 have h1:IntKind.u64.wrap ((x:Int)* 2 ^ (min (8:Int).toNat IntKind.u64.bits))=((256 * x:Nat):Int):=by
  have e:(min (8:Int).toNat IntKind.u64.bits)=8:=rfl
  rw [e]
  have:((x:Int)* 2 ^ 8)=((256 * x:Nat):Int):=by omega
  rw [this]
  exact sX _ (by omega)
 rw [h1]
 have h2:(256 * x ||| c)=256 * x+c:=by
  have:=Nat.two_pow_add_eq_or_of_lt (i:=8) (b:=c) (by omega) x
  simpa using this.symm
 unfold bits
 show IntKind.u64.wrap ((BitVec.ofInt 64 ((256 * x:Nat):Int) ||| BitVec.ofInt 64 (c:Int)).toNat:Int)=_
 rw [BitVec.toNat_or,BitVec.ofInt_natCast,BitVec.ofInt_natCast,BitVec.toNat_ofNat,BitVec.toNat_ofNat,Nat.mod_eq_of_lt (by omega),Nat.mod_eq_of_lt (by omega),h2]
 exact sX _ (by omega)
theorem aO8 (z:Int) (s:Nat) (hs:s<=64):IntKind.u8.wrap ((IntKind.u64.wrap z).fdiv (2 ^ (min (s:Int).toNat IntKind.u64.bits)))=((uN z / 2 ^ s % 256:Nat):Int):=by
 have e:(min (s:Int).toNat IntKind.u64.bits)=s:=by
  rw [Int.toNat_natCast];exact Nat.min_eq_left hs
 have e1:IntKind.u64.wrap z=((uN z:Nat):Int):=by
  have e:IntKind.u64.wrap z=(z % 18446744073709551616):=rfl
  rw [e];unfold uN;omega
 rw [e,e1,Int.fdiv_eq_ediv_of_nonneg _ (Int.pow_nonneg (by decide))]
 have e2:((uN z:Nat):Int) / (2 ^ s:Int)=((uN z / 2 ^ s:Nat):Int):=by
  rw [Int.natCast_ediv];rfl
 rw [e2]
 have e3: ∀k:Int,IntKind.u8.wrap k=k % 256:= λk=>rfl
 rw [e3]
 omega
theorem aYe (n:Nat):beN 8 n=[56,48,40,32,24,16,8,0].map λs:Nat=>UInt8.ofNat (n / 2 ^ s % 256):=by
 simp only [beN,List.nil_append,List.cons_append,Nat.div_div_eq_div_mul,List.map_cons,List.map_nil,Nat.pow_zero,Nat.div_one]
theorem aYp (n:Nat):beN 4 n=[24,16,8,0].map λs:Nat=>UInt8.ofNat (n / 2 ^ s % 256):=by
 simp only [beN,List.nil_append,List.cons_append,Nat.div_div_eq_div_mul,List.map_cons,List.map_nil,Nat.pow_zero,Nat.div_one]
end Go.Proofs.YtbobcfjlbcgchaaGreatDoor
namespace Go.Proofs.YtbobcfjlbcgchaaGreatDoor
open Go.Proofs
set_option maxRecDepth 10000
attribute [local irreducible] aJ aF Tri aG YVC bS aQ
theorem gS (bs:List UInt8) (m:Nat) (hm:m<=8) (hp0:Hp) {pin:Pin}{fr:Fr}{K:SV->Hp->Prop}
  (hok:m<=bs.length->K (.d (.int .u64 (deN (bs.take m)))) ((3, .cells 104 [.d (.sl 1 ((bs.drop m).map bE))])::hp0))
  (hno:bs.length < m->pin.kp fr ((3, .cells 104 [.d (.sl 1 (bs.map bE))])::hp0)):
  aF Tryz.prog pin fr ((3, .cells 104 [.d (.sl 1 (bs.map bE))])::hp0) 100 [.ptr 3 0, .d (.int .i64 m)] K:=by
 refine aI false [] hty Tryz.func100 rfl (kp [0,1,4,6,9,10,11,12]) 100 (by simp [Tryz.f100]) ?_
 ((conv=>whnf);repeat ((first|(intro hq;try simp only [lnS]at hq)|refine sI ?_|refine .intro _ (.intro rfl ?_));(conv=>whnf)))
 refine aC9 bs m hp0 (λhle=> ?_) (λhlt=>hno hlt)
 have hlen:(bs.take m).length=m:=by rw [List.length_take];omega
 replace hok:=hok hle
 generalize bs.take m=c at *
 generalize bs.drop m=r at *
 ((conv=>whnf);repeat ((first|(intro hq;try simp only [lnS]at hq)|refine sI ?_|refine .intro _ (.intro rfl ?_));(conv=>whnf)))
 refine cX hty (λj:Nat=>([(4, .d (.int .u64 ((deN (c.take j):Nat):Int))),(9, .d (.sl 1 (c.map bE))),(10, .d (.int .i64 c.length)),(11, .d (.int .i64 j))],(3, .cells 104 [.d (.sl 1 (r.map bE))])::hp0)) (λj=>j<=c.length) (λj=>c.length - j) 0 (by omega) (by repeat' (first|exact trivial|exact rfl|(rw [List.length_map];exact rfl)|refine And.intro ?_ ?_)) rfl ?_
 intro j hj
 ((conv=>whnf);repeat ((first|(intro hq;try simp only [lnS]at hq)|refine sI ?_|refine .intro _ (.intro rfl ?_));(conv=>whnf)))
 refine aA (λh1=> ?_) (λh1=> ?_)
 ·have hjl:j < c.length:=by omega
  have hrow:(c.map bE)[(j:Int).toNat]? =some (bE c[j]):=bV hjl
  have hx:deN (c.take j) < 72057594037927936:=by
   have h2:=aA8 j (c.take j) (by rw [List.length_take];omega)
   have h3:256 ^ j<=256 ^ 7:=Nat.pow_le_pow_right (by decide) (by omega)
   have h4:(256:Nat) ^ 7=72057594037927936:=by decide
   omega
  have hc:(c[j]).toNat < 256:=c[j].toNat_lt
  have hn:deN (c.take (j+1))=256 * deN (c.take j)+(c[j]).toNat:=by rw [List.take_succ_eq_append_getElem hjl,aHs]
  have ho:=aT4 hx hc
  have hw:=sX (c[j]).toNat (by omega)
  ((conv=>whnf);repeat' ((first|(intro hq;(try simp only [lnS]at hq);(try rewrite [List.length_map]))|refine sJ ?_|refine .intro _ (.intro rfl ?_)|refine exL (k:= ?_)|(refine⟨_,hrow, ?_⟩)|refine dwR ?_|((first|refine aA ?_ ?_|refine aC ?_ ?_)<;>intro hb<;>(first|exact ddX hb|try simp only [lnS]at hb))|(refine aB ?_ ?_<;>intro hb<;>try exact dsX hb))<;>(conv=>whnf)))
  have ho2:bits .or .u64 (IntKind.u64.wrap (((deN (c.take j):Nat):Int)* 2 ^ (min (8:Int).toNat IntKind.u64.bits))) (IntKind.u64.wrap ((c[j]).toNat:Int))=((deN (c.take (j+1)):Nat):Int):=by rw [hw,hn];exact ho
  refine⟨j+1,by dsimp only;omega,by dsimp only;omega, ?_⟩
  dsimp only
  rw [<-ho2]
  exact⟨by repeat' (first|exact trivial|exact rfl|refine And.intro ?_ ?_),rfl⟩
 ·have hjl:j=c.length:=by omega
  subst hjl
  rw [List.take_length]
  ((conv=>whnf);repeat' ((first|(intro hq;(try simp only [lnS]at hq);(try rewrite [List.length_map]))|refine sJ ?_|refine .intro _ (.intro rfl ?_)|refine exL (k:= ?_)|refine dwR ?_|((first|refine aA ?_ ?_|refine aC ?_ ?_)<;>intro hb<;>(first|exact ddX hb|try simp only [lnS]at hb))|(refine aB ?_ ?_<;>intro hb<;>try exact dsX hb))<;>(conv=>whnf)))
  exact hok
end Go.Proofs.YtbobcfjlbcgchaaGreatDoor
namespace Go.Proofs.YtbobcfjlbcgchaaGreatDoor
open Go.Proofs
set_option maxRecDepth 10000
attribute [local irreducible] aJ aF Tri aG YVC bS aQ
def RdC {α:Type}(f:FuncId) (r:Rd α) (e:α->SV):Prop:= ∀(bs:List UInt8) (hp0:Hp) {pin:Pin}{fr:Fr}{K:SV->Hp->Prop}
  (_: ∀x c,r bs=some (x,c)->K (e x) ((3, .cells 104 [.d (.sl 1 (c.map bE))])::hp0))
  (_:r bs=none-> ∀b:List UInt8,pin.kp fr ((3, .cells 104 [.d (.sl 1 (b.map bE))])::hp0)),
  aF Tryz.prog pin fr ((3, .cells 104 [.d (.sl 1 (bs.map bE))])::hp0) f [.ptr 3 0] K
theorem aGp {bs:List UInt8}{m:Nat}(h:m<=bs.length):yG m bs=some (bs.take m,bs.drop m):=if_pos h
theorem aGq {bs:List UInt8}{m:Nat}(h:bs.length < m):yG m bs=none:=if_neg (by omega)
theorem aB3 {bs:List UInt8}{m:Nat}(h:m<=bs.length):aKm m bs=some (deN (bs.take m),bs.drop m):=gC (aGp h)
theorem aB4 {bs:List UInt8}{m:Nat}(h:bs.length < m):aKm m bs=none:=gD (aGq h)
theorem aWm (n:Nat) (h:n < 18446744073709551616):IntKind.i64.wrap (n:Int)=sgN n:=by
 unfold sgN
 rw [IntKind.wrap_i64]
 split<;>omega
theorem aMt:RdC 156 aSx (λz=> .d (.int .i64 z)):=by
 intro bs hp0 pin fr K hok hno
 refine aI false [] hty Tryz.func156 rfl (kp [0,2]) 100 (by simp [Tryz.f156]) ?_
 ((conv=>whnf);repeat ((first|(intro hq;try simp only [lnS]at hq)|refine sI ?_|refine .intro _ (.intro rfl ?_));(conv=>whnf)))
 refine gS bs 8 (by omega) hp0 (λhle=> ?_) (λhlt=>hno (gD (aB4 hlt)) bs)
 have h1:=hok _ _ (gC (f:=sgN) (aB3 hle))
 rw [<-aWm _ (aA8 8 (bs.take 8) (by rw [List.length_take];omega))]at h1
 ((conv=>whnf);repeat' ((first|(intro hq;(try simp only [lnS]at hq);(try rewrite [List.length_map]))|refine sJ ?_|refine .intro _ (.intro rfl ?_)|refine exL (k:= ?_)|refine dwR ?_|((first|refine aA ?_ ?_|refine aC ?_ ?_)<;>intro hb<;>(first|exact ddX hb|try simp only [lnS]at hb))|(refine aB ?_ ?_<;>intro hb<;>try exact dsX hb))<;>(conv=>whnf)))
 exact h1
theorem aQ5:RdC 101 (tH (aKm 1) λn=>(n:Int)) (λz=> .d (.int .i64 z)):=by
 intro bs hp0 pin fr K hok hno
 refine aI false [] hty Tryz.func101 rfl (kp [0,2]) 100 (by simp [Tryz.f101]) ?_
 ((conv=>whnf);repeat ((first|(intro hq;try simp only [lnS]at hq)|refine sI ?_|refine .intro _ (.intro rfl ?_));(conv=>whnf)))
 refine gS bs 1 (by omega) hp0 (λhle=> ?_) (λhlt=>hno (gD (aB4 hlt)) bs)
 have h1:=hok _ _ (gC (f:= λn:Nat=>(n:Int)) (aB3 hle))
 have h2:=aA8 1 (bs.take 1) (by rw [List.length_take];omega)
 have h3:IntKind.i64.wrap ((deN (bs.take 1):Nat):Int)=((deN (bs.take 1):Nat):Int):=IntWalk.i64_in _ (by omega)
 dsimp only at h1
 rw [<-h3]at h1
 ((conv=>whnf);repeat' ((first|(intro hq;(try simp only [lnS]at hq);(try rewrite [List.length_map]))|refine sJ ?_|refine .intro _ (.intro rfl ?_)|refine exL (k:= ?_)|refine dwR ?_|((first|refine aA ?_ ?_|refine aC ?_ ?_)<;>intro hb<;>(first|exact ddX hb|try simp only [lnS]at hb))|(refine aB ?_ ?_<;>intro hb<;>try exact dsX hb))<;>(conv=>whnf)))
 exact h1
theorem aSc:RdC 78 (dW (aKm 4) yG) (λs=> .d (.str s)):=by
 intro bs hp0 pin fr K hok hno
 refine aI false [] hty Tryz.func78 rfl (kp [0,2]) 100 (by simp [Tryz.f78]) ?_
 ((conv=>whnf);repeat ((first|(intro hq;try simp only [lnS]at hq)|refine sI ?_|refine .intro _ (.intro rfl ?_));(conv=>whnf)))
 refine gS bs 4 (by omega) hp0 (λhle=> ?_) (λhlt=>hno (aW (aB4 hlt)) bs)
 have h2:=aA8 4 (bs.take 4) (by rw [List.length_take];omega)
 have h3:IntKind.i64.wrap ((deN (bs.take 4):Nat):Int)=((deN (bs.take 4):Nat):Int):=IntWalk.i64_in _ (by omega)
 have hb:dW (aKm 4) yG bs=yG (deN (bs.take 4)) (bs.drop 4):=cY (aB3 hle)
 rw [hb]at hok hno
 generalize deN (bs.take 4)=m at *
 generalize bs.drop 4=r at *
 ((conv=>whnf);repeat ((first|(intro hq;try simp only [lnS]at hq)|refine sI ?_|refine .intro _ (.intro rfl ?_));(conv=>whnf)))
 rw [h3]
 refine aC9 r m hp0 (λhle2=> ?_) (λhlt=>hno (aGq hlt) r)
 have h4:=hok _ _ (aGp hle2)
 have h5:=rX (r.take m)
 ((conv=>whnf);repeat' ((first|(intro hq;(try simp only [lnS]at hq);(try rewrite [List.length_map]))|refine sJ ?_|refine .intro _ (.intro rfl ?_)|refine exL (k:= ?_)|refine dwR ?_|((first|refine aA ?_ ?_|refine aC ?_ ?_)<;>intro hb<;>(first|exact ddX hb|try simp only [lnS]at hb))|(refine aB ?_ ?_<;>intro hb<;>try exact dsX hb))<;>(conv=>whnf)))
 rw [h5]
 exact h4
end Go.Proofs.YtbobcfjlbcgchaaGreatDoor
namespace Go.Proofs.YtbobcfjlbcgchaaGreatDoor
open Go.RowKit
def SV.ren (σ:Nat->Nat):SV->SV
 | .ptr i o=> .ptr (σ i) o
 | .osl i z r=> .osl (σ i) z r
 | .mw i z n=> .mw (σ i) z n
 |s=>s
def SV.sim:SV->Prop
 | .ptr _ _=>True
 | .osl _ _ _=>True
 | .mw _ _ _=>True
 |s=>s.ids=[]
def HObj.ren (σ:Nat->Nat):HObj->HObj
 | .cells t cs=> .cells t (cs.map (SV.ren σ))
 | .ro t cs=> .ro t (cs.map (SV.ren σ))
 |o=>o
def HObj.sim:HObj->Prop
 | .cells _ cs=> ∀s∈cs,s.sim
 | .ro _ cs=> ∀s∈cs,s.sim
 | .own _ _ _=>True
 | .mrow _ _ _ _=>True
 | .glob _ _ _=>True
 | .ext X=>X.ids=[]
 | .rox X=>X.ids=[]
 | .loop _ _=>False
def Env.like (a b:Env) (σ:Nat->Nat) (i:Nat):Prop:=b.blk (σ i)=a.blk i/\b.n (σ i)=a.n i/\b.tv (σ i)=a.tv i
section
variable {P:Program}
theorem Rep.noids {w:World}{ρ ρ':Env}{s:SV}{v:Value}(h:Rep w ρ s v) (hs:ρ'.S=ρ.S) (hi:s.ids=[]):Rep w ρ' s v:=
 h.mono (λ_ _ _=>rfl) (λb i x=>by rw [hs];exact x) (λid hid=>by rw [hi]at hid;cases hid)
theorem RepD.noS {w:World}{S S':Nat->Nat->Prop}{x:D}{v:Value}(h:RepD w S x v) (hs:S'=S):RepD w S' x v:=by rw [hs];exact h
theorem Rep.toRen {w:World}{a b:Env}{σ:Nat->Nat}{s:SV}{v:Value}(hs:s.sim) (hS:b.S=a.S) (hl: ∀i∈s.ids,a.like b σ i) (h:Rep w a s v):Rep w b (s.ren σ) v:=by
 cases s with
 |ptr i o=>
  cases h with
  |ptr _ _ g hg=>exact .ptr _ _ g ((hl i (by simp [SV.ids])).1.trans hg)
 |osl i z r=>
  obtain⟨_,h2,h3⟩:=hl i (by simp [SV.ids])
  cases h with
  |osl _ _ _ _ h hn ht=>exact .osl _ _ _ _ (h.noS hS) (by rw [h2];exact hn) (by rw [h2,h3];exact ht)
 |mw i z n=>
  obtain⟨_,h2,h3⟩:=hl i (by simp [SV.ids])
  cases h with
  |mw _ _ _ cap A hn hc hA h4 h5=>exact .mw _ _ _ cap A hn hc hA (by rw [h2];exact h4) (by rw [h2,h3];exact h5)
 |_=>exact h.noids hS hs
theorem Rep.ofRen {w:World}{a b:Env}{σ:Nat->Nat}{s:SV}{v:Value}(hs:s.sim) (hS:b.S=a.S) (hl: ∀i∈s.ids,a.like b σ i) (h:Rep w b (s.ren σ) v):Rep w a s v:=by
 cases s with
 |ptr i o=>
  cases h with
  |ptr _ _ g hg=>exact .ptr _ _ g ((hl i (by simp [SV.ids])).1.symm.trans hg)
 |osl i z r=>
  obtain⟨_,h2,h3⟩:=hl i (by simp [SV.ids])
  cases h with
  |osl _ _ _ _ h hn ht=>exact .osl _ _ _ _ (h.noS hS.symm) (by rw [<-h2];exact hn) (by rw [<-h2,<-h3];exact ht)
 |mw i z n=>
  obtain⟨_,h2,h3⟩:=hl i (by simp [SV.ids])
  cases h with
  |mw _ _ _ cap A hn hc hA h4 h5=>exact .mw _ _ _ cap A hn hc hA (by rw [<-h2];exact h4) (by rw [<-h2,<-h3];exact h5)
 |_=>exact h.noids hS.symm hs
theorem dS.toRen {w:World}{a b:Env}{σ:Nat->Nat}{g:Nat}{t:TypeId}{cs:List SV}(hs: ∀s∈cs,s.sim) (hS:b.S=a.S) (hl: ∀i∈SV.idsL cs,a.like b σ i) (h:dS w a g t cs):dS w b g t (cs.map (SV.ren σ)):=by
 obtain⟨cur,h1,h2,h3,h4⟩:=h
 refine⟨cur,h1,by rw [List.length_map];exact h2,h3,λj s v e1 e2=> ?_⟩
 rw [List.getElem?_map]at e1
 obtain⟨s0,e3,rfl⟩:=Option.map_eq_some_iff.1 e1
 exact(h4 j s0 v e3 e2).toRen (hs _ (List.mem_of_getElem? e3)) hS λi hi=>hl i (SV.mem_idsL e3 hi)
theorem dS.ofRen {w:World}{a b:Env}{σ:Nat->Nat}{g:Nat}{t:TypeId}{cs:List SV}(hs: ∀s∈cs,s.sim) (hS:b.S=a.S) (hl: ∀i∈SV.idsL cs,a.like b σ i) (h:dS w b g t (cs.map (SV.ren σ))):dS w a g t cs:=by
 obtain⟨cur,h1,h2,h3,h4⟩:=h
 refine⟨cur,h1,by rw [List.length_map]at h2;exact h2,h3,λj s v e1 e2=> ?_⟩
 exact(h4 j (s.ren σ) v (by rw [List.getElem?_map,e1];rfl) e2).ofRen (hs _ (List.mem_of_getElem? e1)) hS λi hi=>hl i (SV.mem_idsL e1 hi)
theorem HObj.at_ren {a b:Env}{σ:Nat->Nat}{i:Nat}{o:HObj}(hs:o.sim) (hl:a.like b σ i):b.at (σ i) (o.ren σ)=a.at i o:=by
 obtain⟨h1,h2,h3⟩:=hl
 cases o<;>simp only [HObj.ren,Env.at,h1,h3]
theorem aC1.toRen {w:World}{a b:Env}{σ:Nat->Nat}{id:Nat}{o:HObj}(hs:o.sim) (hS:b.S=a.S) (hl: ∀i,i=id\/i∈o.ids->a.like b σ i) (h:aC1 w a id o):aC1 w b (σ id) (o.ren σ):=by
 obtain⟨l1,l2,l3⟩:=hl id (.inl rfl)
 cases o with
 |cells t cs=>
  obtain⟨g,h1,h2,h3⟩:=h
  exact⟨g,l1.trans h1,h2.toRen hs hS λi hi=>hl i (.inr hi),λi=>by rw [hS];exact h3 i⟩
 |ro t cs=>
  obtain⟨g,h1,h2⟩:=h
  exact⟨g,l1.trans h1,h2.toRen hs hS λi hi=>hl i (.inr hi)⟩
 |own e z n=>
  obtain⟨h1,xs,h2,h3,h4⟩:=h
  refine⟨l2.trans h1,xs, ?_, ?_,h4⟩
  ·rw [l2,l3];exact h2
  ·rw [l2,l3,hS];exact h3
 |mrow e z cap rows=>
  obtain⟨h1,h2⟩:=h
  refine⟨l2.trans h1, ?_⟩
  rw [l3,hS];exact h2
 |loop L s=>exact hs.elim
 |ext X=>
  obtain⟨g,r,h1,h2,h3,h4⟩:=h
  refine⟨g,r,l1.trans h1,h2,X.keep w w a b r (λ_ _ _=>rfl) (λ_ _ x=>by rw [hS];exact x) (λi hi=> ?_) h3,λi=>by rw [hS];exact h4 i⟩
  rw [show X.ids=[]from hs]at hi;cases hi
 |glob g z rows=>
  show View w b.S z rows g 0
  rw [hS];exact h
 |rox X=>
  obtain⟨g,r,h1,h2,h3⟩:=h
  refine⟨g,r,l1.trans h1,h2,X.keep w w a b r (λ_ _ _=>rfl) (λ_ _ x=>by rw [hS];exact x) (λi hi=> ?_) h3⟩
  rw [show X.ids=[]from hs]at hi;cases hi
theorem aC1.ofRen {w:World}{a b:Env}{σ:Nat->Nat}{id:Nat}{o:HObj}(hs:o.sim) (hS:b.S=a.S) (hl: ∀i,i=id\/i∈o.ids->a.like b σ i) (h:aC1 w b (σ id) (o.ren σ)):aC1 w a id o:=by
 obtain⟨l1,l2,l3⟩:=hl id (.inl rfl)
 cases o with
 |cells t cs=>
  obtain⟨g,h1,h2,h3⟩:=h
  exact⟨g,l1.symm.trans h1,h2.ofRen hs hS λi hi=>hl i (.inr hi),λi=>by rw [<-hS];exact h3 i⟩
 |ro t cs=>
  obtain⟨g,h1,h2⟩:=h
  exact⟨g,l1.symm.trans h1,h2.ofRen hs hS λi hi=>hl i (.inr hi)⟩
 |own e z n=>
  obtain⟨h1,xs,h2,h3,h4⟩:=h
  refine⟨l2.symm.trans h1,xs, ?_, ?_,h4⟩
  ·rw [<-l2,<-l3];exact h2
  ·rw [<-l2,<-l3,<-hS];exact h3
 |mrow e z cap rows=>
  obtain⟨h1,h2⟩:=h
  refine⟨l2.symm.trans h1, ?_⟩
  rw [<-l3,<-hS];exact h2
 |loop L s=>exact hs.elim
 |ext X=>
  obtain⟨g,r,h1,h2,h3,h4⟩:=h
  refine⟨g,r,l1.symm.trans h1,h2,X.keep w w b a r (λ_ _ _=>rfl) (λ_ _ x=>by rw [<-hS];exact x) (λi hi=> ?_) h3,λi=>by rw [<-hS];exact h4 i⟩
  rw [show X.ids=[]from hs]at hi;cases hi
 |glob g z rows=>
  have h:View w b.S z rows g 0:=h
  rw [hS]at h;exact h
 |rox X=>
  obtain⟨g,r,h1,h2,h3⟩:=h
  refine⟨g,r,l1.symm.trans h1,h2,X.keep w w b a r (λ_ _ _=>rfl) (λ_ _ x=>by rw [<-hS];exact x) (λi hi=> ?_) h3⟩
  rw [show X.ids=[]from hs]at hi;cases hi
theorem HObj.rd_ren {σ:Nat->Nat}{o:HObj}:(o.ren σ).Rd↔o.Rd:=by cases o<;>exact Iff.rfl
def Env.pull (ρ:Env) (σ:Nat->Nat):Env:=⟨ρ.S,λi=>ρ.blk (σ i),λi=>ρ.n (σ i),λi=>ρ.tv (σ i)⟩
theorem Env.pull_like (ρ:Env) (σ:Nat->Nat) (i:Nat):(ρ.pull σ).like ρ σ i:=⟨rfl,rfl,rfl⟩
def aKp (σ:Nat->Nat) (W:List Nat) (i:Nat):Option Nat:=W.find? λk=>σ k==i
def Env.push (ρ ρ1:Env) (σ:Nat->Nat) (W:List Nat):Env:=
 ⟨ρ1.S,λi=>match aKp σ W i with|some k=>ρ1.blk k|none=>ρ.blk i,λi=>match aKp σ W i with|some k=>ρ1.n k|none=>ρ.n i,λi=>match aKp σ W i with|some k=>ρ1.tv k|none=>ρ.tv i⟩
theorem wT {σ:Nat->Nat}{W:List Nat}{i k:Nat}(h:aKp σ W i=some k):k∈W/\σ k=i:=by
 unfold aKp at h
 exact⟨List.mem_of_find?_eq_some h,by simpa using List.find?_some h⟩
theorem aTg {σ:Nat->Nat}{W:List Nat}(hinj: ∀a∈W,∀b∈W,σ a=σ b->a=b) {k:Nat}(hk:k∈W):aKp σ W (σ k)=some k:=by
 cases h:aKp σ W (σ k)with
 |none=>
  unfold aKp at h
  rw [List.find?_eq_none]at h
  exact absurd (beq_self_eq_true (σ k)) (h k hk)
 |some j=>
  obtain⟨h1,h2⟩:=wT h
  rw [hinj j h1 k hk h2]
theorem Env.push_like {ρ ρ1:Env}{σ:Nat->Nat}{W:List Nat}(hinj: ∀a∈W,∀b∈W,σ a=σ b->a=b) {k:Nat}(hk:k∈W):ρ1.like (ρ.push ρ1 σ W) σ k:=by
 unfold Env.like Env.push
 simp only [aTg hinj hk,and_self]
structure Left (σ:Nat->Nat) (W:List Nat) (h1 hp hp2:Hp):Prop where
 up: ∀k∈W,∃o,aN h1 k=some o/\o.sim/\¬ o.Rd/\(∀i∈o.ids,i∈W)/\aN hp2 (σ k)=some (o.ren σ)
 rest: ∀i o,aN hp2 i=some o->(∃k∈W,i=σ k)\/aN hp i=some o
structure Among (σ:Nat->Nat) (W:List Nat) (hpI hp:Hp):Prop where
 sub: ∀id o,aN hpI id=some o->aN hp (σ id)=some (o.ren σ)/\o.sim
 inj: ∀id o id' o',aN hpI id=some o->aN hpI id'=some o'->σ id=σ id'->id=id'
 w: ∀k∈W,∃o,aN hpI k=some o
 rd: ∀id o,aN hpI id=some o->id∈W\/ ∀ρ:Env,ρ.at id o=none
theorem Mem.framed {E:Entry}{ρ ρ1:Env}{σ:Nat->Nat}{W:List Nat}{hpI h1 hp hp2:Hp}{w w':World}{pin:Pin}{rd:Option Nat}(hm:Mem E ρ hp w) (A:Among σ W hpI hp) (L:Left σ W h1 hp hp2) (hW: ∀k∈W,k∈pin)
  (hm':Mem (cH w (ρ.pull σ) hpI pin rd E.D) ρ1 h1 w'):Mem E (ρ.push ρ1 σ W) hp2 w'/\ ∀i,ρ.moved (ρ.push ρ1 σ W) i:=by
 have hinj: ∀a∈W,∀b∈W,σ a=σ b->a=b:=by
  intro a ha b hb e
  obtain⟨o,h1⟩:=A.w a ha
  obtain⟨o',h2⟩:=A.w b hb
  exact A.inj _ _ _ _ h1 h2 e
 have hmv: ∀i,ρ.moved (ρ.push ρ1 σ W) i:=by
  intro i
  cases h:aKp σ W i with
  |none=>exact⟨by simp only [Env.push,h], .inl ⟨by simp only [Env.push,h],by simp only [Env.push,h]⟩⟩
  |some k=>
   obtain⟨k1,k2⟩:=wT h
   subst k2
   have:=hm'.mv k (hW k k1)
   unfold Env.moved at this |-
   simp only [Env.push,h]
   exact this
 have hBI: ∀b,(cH w (ρ.pull σ) hpI pin rd E.D).B b-> ∃k∈W,∃o,aN hpI k=some o/\aN hp (σ k)=some (o.ren σ)/\ρ.at (σ k) (o.ren σ)=some b:=by
  rintro b ⟨k,o,e1,e2⟩
  obtain⟨s1,s2⟩:=A.sub k o e1
  rcases A.rd k o e1 with hk|hn
  ·exact⟨k,hk,o,e1,s1,by rw [HObj.at_ren s2 (ρ.pull_like σ k)];exact e2⟩
  ·rw [hn]at e2;cases e2
 have hkp:cD ρ.S w w':=hm'.kp
 have hsold: ∀b i,ρ.S b i->ρ1.S b i:=hm'.sold
 have hother: ∀i o,aKp σ W i=none->(ρ.push ρ1 σ W).at i o=ρ.at i o:=by
  intro i o h
  cases o<;>simp only [Env.at,Env.push,h]
 have hnone: ∀i,(¬ ∃k∈W,i=σ k)->aKp σ W i=none:=by
  intro i h
  cases e:aKp σ W i with
  |none=>rfl
  |some k=>obtain⟨k1,k2⟩:=wT e;exact absurd ⟨k,k1,k2.symm⟩ h
 have hup: ∀k∈W,∀o,aN hp2 (σ k)=some o-> ∃o1,aN h1 k=some o1/\o1.sim/\¬ o1.Rd/\o=o1.ren σ/\(ρ.push ρ1 σ W).at (σ k) o=ρ1.at k o1:=by
  intro k hk o ho
  obtain⟨o1,e1,e2,e3,e4,e5⟩:=L.up k hk
  rw [e5]at ho
  injection ho with ho
  subst ho
  exact⟨o1,e1,e2,e3,rfl,HObj.at_ren e2 (Env.push_like hinj hk)⟩
 have hnotB: ∀i o g,(¬ ∃k∈W,i=σ k)->aN hp i=some o->(ρ.at i o=some g\/ρ.blk i=some g/\o.Rd)->¬ (cH w (ρ.pull σ) hpI pin rd E.D).B g:=by
  intro i o g hi ho hg hB
  obtain⟨k,k1,o',k2,k3,k4⟩:=hBI g hB
  rcases hg with hg|⟨hg,hrd⟩
  ·exact hi ⟨k,k1,hm.inj _ _ _ _ g ho k3 hg k4⟩
  ·exact hm.ro i o g ho hrd hg _ _ k3 k4
 have hlt: ∀i o g,aN hp i=some o->(ρ.at i o=some g\/ρ.blk i=some g/\o.Rd)->g < w.heap.size:=by
  intro i o g ho hg
  rcases hg with hg|⟨hg,hrd⟩
  ·exact hm.blk_lt ho hg
  ·exact hm.ro_lt ho hrd hg
 refine⟨⟨hm'.os.trans hm.os,hm'.tape.trans hm.tape,hm'.output.trans hm.output,Nat.le_trans hm.size hm'.size, ?_,λb i hs=>hsold b i (hm.sold b i hs), ?_,hm'.slt,hm.kp.trans hm.sold hkp, ?_, ?_, ?_,λid hid=>Env.moved_trans (hm.mv id hid) (hmv id), ?_,hm'.md⟩,hmv⟩
 ·intro b hb hnb
  refine(hm'.old b (Nat.lt_of_lt_of_le hb hm.size) λhB=> ?_).trans (hm.old b hb hnb)
  obtain⟨k,k1,o,k2,k3,k4⟩:=hBI b hB
  rcases hm.hb _ _ b k3 k4 with h|h
  ·omega
  ·exact hnb h
 ·intro b i hs hb hnb
  refine hm.snew b i (hm'.snew b i hs (Nat.lt_of_lt_of_le hb hm.size) λhB=> ?_) hb hnb
  obtain⟨k,k1,o,k2,k3,k4⟩:=hBI b hB
  rcases hm.hb _ _ b k3 k4 with h|h
  ·omega
  ·exact hnb h
 ·intro i o ho
  by_cases hi: ∃k∈W,i=σ k
  ·obtain⟨k,hk,rfl⟩:=hi
   obtain⟨o1,e1,e2,e3,e4,e5⟩:=L.up k hk
   rw [e5]at ho
   injection ho with ho
   subst ho
   exact aC1.toRen (a := ρ1) e2 rfl (hl := λj hj => by
    rcases hj with rfl|hj
    ·exact Env.push_like hinj hk
    ·exact Env.push_like hinj (e4 j hj)) (h:=hm'.sat k o1 e1)
  ·rcases L.rest i o ho with h|h
   ·exact absurd h hi
   ·have hn:=hnone i hi
    refine(hm.sat i o h).keep hkp hsold (λj _=>hmv j) ⟨by simp only [Env.push,hn],by simp only [Env.push,hn]⟩ ?_ ?_
    ·intro g hg
     exact hm'.old g (hlt i o g h hg) (hnotB i o g hi h hg)
    ·intro g hg j hj
     exact hm'.snew g j hj (hlt i o g h (.inl hg)) (hnotB i o g hi h (.inl hg))
 ·intro i o i' o' g h h' hg hg'
  by_cases hi: ∃k∈W,i=σ k
  ·obtain⟨k,hk,rfl⟩:=hi
   obtain⟨o1,e1,e2,e3,e4,e5⟩:=hup k hk o h
   rw [e5]at hg
   by_cases hi': ∃k∈W,i'=σ k
   ·obtain⟨k',hk',rfl⟩:=hi'
    obtain⟨o1',f1,f2,f3,f4,f5⟩:=hup k' hk' o' h'
    rw [f5]at hg'
    rw [hm'.inj _ _ _ _ g e1 f1 hg hg']
   ·rcases L.rest i' o' h' with h2|h2
    ·exact absurd h2 hi'
    ·rw [hother i' o' (hnone i' hi')]at hg'
     rcases hm'.hb k o1 g e1 hg with hge|hB
     ·have:=hlt i' o' g h2 (.inl hg')
      have hge:w.heap.size<=g:=hge
      omega
     ·exact absurd hB (hnotB i' o' g hi' h2 (.inl hg'))
  ·rcases L.rest i o h with h2|h2
   ·exact absurd h2 hi
   ·rw [hother i o (hnone i hi)]at hg
    by_cases hi': ∃k∈W,i'=σ k
    ·obtain⟨k',hk',rfl⟩:=hi'
     obtain⟨o1',f1,f2,f3,f4,f5⟩:=hup k' hk' o' h'
     rw [f5]at hg'
     rcases hm'.hb k' o1' g f1 hg' with hge|hB
     ·have:=hlt i o g h2 (.inl hg)
      have hge:w.heap.size<=g:=hge
      omega
     ·exact absurd hB (hnotB i o g hi h2 (.inl hg))
    ·rcases L.rest i' o' h' with h3|h3
     ·exact absurd h3 hi'
     ·rw [hother i' o' (hnone i' hi')]at hg'
      exact hm.inj i o i' o' g h2 h3 hg hg'
 ·intro i o g h hg
  by_cases hi: ∃k∈W,i=σ k
  ·obtain⟨k,hk,rfl⟩:=hi
   obtain⟨o1,e1,e2,e3,e4,e5⟩:=hup k hk o h
   rw [e5]at hg
   rcases hm'.hb k o1 g e1 hg with hge|hB
   ·exact .inl (Nat.le_trans hm.size hge)
   ·obtain⟨k,k1,o,k2,k3,k4⟩:=hBI g hB
    exact hm.hb _ _ g k3 k4
  ·rcases L.rest i o h with h2|h2
   ·exact absurd h2 hi
   ·rw [hother i o (hnone i hi)]at hg
    exact hm.hb i o g h2 hg
 ·intro i o g h hrd hg i' o' h' hg'
  by_cases hi: ∃k∈W,i=σ k
  ·obtain⟨k,hk,rfl⟩:=hi
   obtain⟨o1,e1,e2,e3,e4,e5⟩:=hup k hk o h
   rw [e4]at hrd
   exact e3 (HObj.rd_ren.1 hrd)
  ·rcases L.rest i o h with h2|h2
   ·exact absurd h2 hi
   ·have hg:ρ.blk i=some g:=by simpa only [Env.push,hnone i hi]using hg
    by_cases hi': ∃k∈W,i'=σ k
    ·obtain⟨k',hk',rfl⟩:=hi'
     obtain⟨o1',f1,f2,f3,f4,f5⟩:=hup k' hk' o' h'
     rw [f5]at hg'
     rcases hm'.hb k' o1' g f1 hg' with hge|hB
     ·have:=hlt i o g h2 (.inr ⟨hg,hrd⟩)
      have hge:w.heap.size<=g:=hge
      omega
     ·exact absurd hB (hnotB i o g hi h2 (.inr ⟨hg,hrd⟩))
    ·rcases L.rest i' o' h' with h3|h3
     ·exact absurd h3 hi'
     ·rw [hother i' o' (hnone i' hi')]at hg'
      exact hm.ro i o g h2 hrd hg i' o' h3 hg'
theorem Mem.pulled {E:Entry}{ρ:Env}{σ:Nat->Nat}{W:List Nat}{hpI hp:Hp}{w:World}(pin:Pin) (rd:Option Nat) (hm:Mem E ρ hp w) (A:Among σ W hpI hp):Mem (cH w (ρ.pull σ) hpI pin rd E.D) (ρ.pull σ) hpI w:=by
 refine⟨rfl,rfl, .refl _,Nat.le_refl _,λ_ _ _=>rfl,λ_ _ h=>h,λ_ _ h _ _=>h,hm.slt,λ_ _ _=>rfl, ?_, ?_,λid o _ a b=> .inr ⟨id,o,a,b⟩,λid _=>(ρ.pull σ).moved_refl id, ?_,hm.md⟩
 ·intro id o h
  obtain⟨h1,h2⟩:=A.sub id o h
  exact aC1.ofRen (b:=ρ) (σ:=σ) h2 rfl (λi _=>ρ.pull_like σ i) (hm.sat _ _ h1)
 ·intro id o id' o' g h h' hg hg'
  obtain⟨h1,h2⟩:=A.sub id o h
  obtain⟨h3,h4⟩:=A.sub id' o' h'
  rw [<-HObj.at_ren h2 (ρ.pull_like σ id)]at hg
  rw [<-HObj.at_ren h4 (ρ.pull_like σ id')]at hg'
  exact A.inj _ _ _ _ h h' (hm.inj _ _ _ _ g h1 h3 hg hg')
 ·intro id o g h hrd hg id' o' h' hg'
  obtain⟨h1,h2⟩:=A.sub id o h
  obtain⟨h3,h4⟩:=A.sub id' o' h'
  rw [<-HObj.at_ren h4 (ρ.pull_like σ id')]at hg'
  exact hm.ro _ _ g h1 (HObj.rd_ren.2 hrd) hg _ _ h3 hg'
theorem pT {pin:Pin}{fr:Fr}{hp:Hp}{f:FuncId}{args:List SV}{K:SV->Hp->Prop}(σ:Nat->Nat) (W:List Nat) (hpI:Hp) {pinI:Pin}{argsI:List SV}{KI:SV->Hp->Prop}
  (hc:aF P pinI [] hpI f argsI KI) (A:Among σ W hpI hp) (hW: ∀k∈W,k∈pinI) (hargs:args=argsI.map (SV.ren σ)) (hsim: ∀s∈argsI,s.sim)
  (hk: ∀s h1,KI s h1->s.sim/\(∀i∈s.ids,i∈W)/\ ∃hp2,Left σ W h1 hp hp2/\K (s.ren σ) hp2)
  (hkp: ∀h1,pinI.kp [] h1-> ∃hp2,Left σ W h1 hp hp2/\pin.kp fr hp2):aF P pin fr hp f args K:=by
 intro E ρ w tm hpin hm hf vs hv
 have hinj: ∀a∈W,∀b∈W,σ a=σ b->a=b:=by
  intro a ha b hb e
  obtain⟨o,h1⟩:=A.w a ha
  obtain⟨o',h2⟩:=A.w b hb
  exact A.inj _ _ _ _ h1 h2 e
 have hm0:=hm.pulled pinI none A
 refine(hc _ _ w #[] rfl hm0 (λt s h=>by simp [gM]at h) vs ⟨by rw [hv.1,hargs,List.length_map],λj s v hs hx=> ?_⟩).mono ?_
 ·refine Rep.ofRen (b:=ρ) (σ:=σ) (hsim s (List.mem_of_getElem? hs)) rfl (λi _=>ρ.pull_like σ i) (hv.2 j _ v ?_ hx)
  rw [hargs,List.getElem?_map,hs];rfl
 ·rintro e w' (⟨v,ρ1,s,h1,rfl,k1,k2,k3,k4⟩|⟨ch,ρ1,h1,rfl,k0,k1,k2,k3⟩)
  ·obtain⟨s1,s2,hp2,s3,s4⟩:=hk s h1 k1
   obtain⟨m1,m2⟩:=hm.framed A s3 hW k2
   exact .inl ⟨v,_,s.ren σ,hp2,rfl,s4,m1,hf.mono k2.kp k2.sold (λi _=>m2 i),Rep.toRen (a:=ρ1) s1 rfl (hl:= λi hi=>Env.push_like hinj (s2 i hi)) (h:=k4)⟩
  ·obtain⟨hp2,s3,s4⟩:=hkp h1 k1
   obtain⟨m1,m2⟩:=hm.framed A s3 hW k2
   exact .inr ⟨ch,_,hp2,rfl,k0,s4,m1,hf.mono k2.kp k2.sold (λi _=>m2 i)⟩
theorem aTf {i:Nat}{h1 hp:Hp}{x o:HObj}(hx:aN hp i=some x) (ho:aN h1 3=some o) (hs:o.sim) (hr:¬ o.Rd) (hi:o.ids=[]) (he:o.ren (λ_=>i)=o):Left (λ_=>i) [3] h1 hp (dU hp i o):=by
 refine⟨λk hk=> ?_,λj y hy=> ?_⟩
 ·obtain rfl:k=3:=by simpa using hk
  have hnone: ∀j∈o.ids,j∈[3]:=by
   intro j hj
   rw [hi]at hj
   cases hj
  refine⟨o,ho,hs,hr,hnone, ?_⟩
  show aN (dU hp i o) i=_
  rw [bD o hx,if_pos rfl,he]
 ·rw [bD o hx]at hy
  split at hy
  ·rename_i e;exact .inl ⟨3,by simp,e⟩
  ·exact .inr hy
theorem aRt {i:Nat}{hp:Hp}{x o:HObj}(hx:aN hp i=some x) (he:o.ren (λ_=>i)=x) (hs:o.sim):Among (λ_=>i) [3] [(3,o)] hp:=by
 refine⟨λid y hy=> ?_,λid y id' y' h h' _=> ?_,λk hk=> ?_,λid y hy=> ?_⟩
 ·simp only [aN]at hy
  split at hy
  ·rename_i e;injection hy with hy;subst hy;subst e
   exact⟨by rw [he];exact hx,hs⟩
  ·cases hy
 ·simp only [aN]at h h'
  split at h
  ·split at h'
   ·rename_i e1 e2;rw [<-e1,<-e2]
   ·cases h'
  ·cases h
 ·obtain rfl:k=3:=by simpa using hk
  exact⟨o,by simp [aN]⟩
 ·simp only [aN]at hy
  split at hy
  ·rename_i e;subst e;exact .inl (by simp)
  ·cases hy
end
end Go.Proofs.YtbobcfjlbcgchaaGreatDoor
namespace Go.Proofs.YtbobcfjlbcgchaaGreatDoor
open Go.RowKit
def gR (a b:SV):Prop:= ∀(w:World) (ρ:Env) (v:Value),Rep w ρ a v->Rep w ρ b v
theorem gR.refl (a:SV):gR a a:= λ_ _ _ h=>h
theorem gR.osl {id z:Nat}{rows:List (List D)}:gR (.osl id z rows) (.d (.sl z rows)):= λ_ _ _ h=> .d _ _ h.osl_inv.1
theorem gR.wkd {a b:D}(h:WkD a b):gR (.d a) (.d b):= λ_ _ _ hr=>by
 cases hr with
 |d _ _ hd=>exact .d _ _ (aI3 hd b h)
theorem gR.nil {z:Nat}:gR (.d .nil) (.d (.sl z [])):=gR.wkd rfl
theorem gR.agg {l m:List SV}(hl:l.length=m.length) (h: ∀(j:Nat) (a b:SV),l[j]? =some a->m[j]? =some b->gR a b):gR (.agg l) (.agg m):= λw ρ v hr=>by
 obtain⟨vs,rfl,h1,h2⟩:=hr.agg_inv
 refine .agg _ _ (h1.trans hl) λj b u hb hu=> ?_
 have hj:j < l.length:=by rw [hl];exact(List.getElem?_eq_some_iff.1 hb).1
 exact h j _ b (List.getElem?_eq_getElem hj) hb w ρ u (h2 j _ u (List.getElem?_eq_getElem hj) hu)
theorem gR.aggD {l:List D}:gR (.agg (l.map .d)) (.d (.agg l)):= λw ρ v hr=>by
 obtain⟨vs,rfl,h1,h2⟩:=hr.agg_inv
 refine .d _ _ (.agg _ _ (by rw [h1,List.length_map]) λj x u hx hu=> ?_)
 have:=h2 j (.d x) u (by rw [List.getElem?_map,hx];rfl) hu
 cases this with
 |d _ _ h=>exact h
def aKf:List SV->List D->Prop
 | [],[]=>True
 |a::l,b::m=>gR a (.d b)/\aKf l m
 |_,_=>False
theorem aKf.at: ∀(l:List SV) (m:List D),aKf l m->l.length=m.length/\ ∀(j:Nat) (a:SV) (b:D),l[j]? =some a->m[j]? =some b->gR a (.d b)
 | [],[],_=>⟨rfl,by simp⟩
 |a::l,b::m,h=>by
  obtain⟨h1,h2⟩:=aKf.at l m h.2
  refine⟨by simp [h1],λj x y hx hy=> ?_⟩
  cases j with
  |zero=>simp at hx hy;subst hx hy;exact h.1
  |succ j=>exact h2 j x y (by simpa using hx) (by simpa using hy)
theorem gR.cells {l:List SV}{m:List D}(h:aKf l m):gR (.agg l) (.d (.agg m)):= λw ρ v hr=>by
 obtain⟨h1,h2⟩:=aKf.at l m h
 refine gR.aggD w ρ v (gR.agg (by rw [List.length_map,h1]) (λj a b ha hb=> ?_) w ρ v hr)
 rw [List.getElem?_map]at hb
 obtain⟨y,hy,rfl⟩:=Option.map_eq_some_iff.1 hb
 exact h2 j a y ha hy
section
variable {P:Program}
theorem aF.says {pin:Pin}{fr:Fr}{hp:Hp}{f:FuncId}{args:List SV}{K:SV->Hp->Prop}(h:aF P pin fr hp f args λs hp'=> ∃s',gR s s'/\K s' hp'):aF P pin fr hp f args K:=by
 intro E ρ w tm h1 h2 h3 vs h4
 refine(h E ρ w tm h1 h2 h3 vs h4).mono ?_
 rintro e w' (⟨v,ρ',s,hp',rfl,⟨s',hs,hk⟩,k2,k3,k4⟩|q)
 ·exact .inl ⟨v,ρ',s',hp',rfl,hk,k2,k3,hs _ _ _ k4⟩
 ·exact .inr q
theorem aF.args {pin:Pin}{fr:Fr}{hp:Hp}{f:FuncId}{args args':List SV}{K:SV->Hp->Prop}(h:aF P pin fr hp f args' K) (hl:args.length=args'.length) (hs: ∀(j:Nat) (a b:SV),args[j]? =some a->args'[j]? =some b->gR a b):aF P pin fr hp f args K:=by
 intro E ρ w tm h1 h2 h3 vs h4
 refine h E ρ w tm h1 h2 h3 vs ⟨h4.1.trans hl,λj b v hb hv=> ?_⟩
 have hj:j < args.length:=by rw [hl];exact(List.getElem?_eq_some_iff.1 hb).1
 exact hs j _ b (List.getElem?_eq_getElem hj) hb w ρ v (h4.2 j _ v (List.getElem?_eq_getElem hj) hv)
theorem aLv {s:SV}(h:s.ids=[]):s.sim:=by cases s<;>first|trivial|exact h
theorem aMc {σ:Nat->Nat}{s:SV}(h:s.ids=[]):s.ren σ=s:=by cases s<;>first|rfl|(simp [SV.ids]at h)
theorem aB1 {σ:Nat->Nat}: ∀{l:List SV},SV.idsL l=[]->l.map (SV.ren σ)=l
 | [],_=>rfl
 |s::r,h=>by
  rw [SV.idsL,List.append_eq_nil_iff]at h
  rw [List.map_cons,aMc h.1,aB1 h.2]
theorem aAv: ∀{l:List SV},SV.idsL l=[]-> ∀s∈l,s.sim
 |s::r,h,x,hx=>by
  rw [SV.idsL,List.append_eq_nil_iff]at h
  rcases List.mem_cons.1 hx with rfl|hx
  ·exact aLv h.1
  ·exact aAv h.2 x hx
end
end Go.Proofs.YtbobcfjlbcgchaaGreatDoor
namespace Go.Proofs.YtbobcfjlbcgchaaGreatDoor
open Go.Proofs Go.RowKit
set_option maxRecDepth 10000
attribute [local irreducible] aJ aF Tri aG YVC bS aQ
abbrev rdO (b:List UInt8):HObj:= .cells 104 [.d (.sl 1 (b.map bE))]
abbrev aYk (q:Prop):Pin:=⟨[3],λ_ h=>q/\ ∃b:List UInt8,aN h 3=some (rdO b),[]⟩
def RdT {α:Type}(f:FuncId) (ex:List SV) (r:Rd α) (e:α->SV):Prop:= ∀bs:List UInt8,bs.length<=1000000->
 aF Tryz.prog (aYk (r bs=none)) [] [(3,rdO bs)] f (.ptr 3 0::ex) (λs h=> ∃x c,r bs=some (x,c)/\s=e x/\aN h 3=some (rdO c))
theorem RdC.t {α:Type}{f:FuncId}{r:Rd α}{e:α->SV}(h:RdC f r e):RdT f [] r e:= λbs _=>
 h bs [] (λx c hr=>⟨x,c,hr,rfl,rfl⟩) (λhr b=>⟨hr,b,rfl⟩)
theorem jL (m:Nat) (hm:m<=8):RdT 100 [.d (.int .i64 m)] (aKm m) (λn=> .d (.int .u64 n)):= λbs _=>
 gS bs m hm [] (λhle=>⟨_,_,aB3 hle,rfl,rfl⟩) (λhlt=>⟨aB4 hlt,bs,rfl⟩)
theorem uK:RdT 156 [] aSx (λz=> .d (.int .i64 z)):=aMt.t
theorem aB8:RdT 101 [] aU9 (λz=> .d (.int .i64 z)):=aQ5.t
theorem tB:RdT 78 [] aF1 (λs=> .d (.str s)):=aSc.t
theorem RdT.call {α:Type}{f:FuncId}{ex:List SV}{r:Rd α}{e:α->SV}(h:RdT f ex r e) (hx:SV.idsL ex=[]) (he: ∀x,(e x).ids=[]) {pin:Pin}{fr:Fr}{hp:Hp}{i:Nat}{K:SV->Hp->Prop}(bs:List UInt8) (hb:bs.length<=1000000) (hg:aN hp i=some (rdO bs))
  (hok: ∀x c,r bs=some (x,c)->gK hp i (rdO c) (K (e x))) (hno:r bs=none-> ∀b,pin.kp fr (dU hp i (rdO b))):aF Tryz.prog pin fr hp f (.ptr i 0::ex) K:=by
 have hs: ∀b,(rdO b).sim:= λb s hs=>by simp at hs;subst hs;exact rfl
 refine pT (λ_=>i) [3] [(3,rdO bs)] (h bs hb) (aRt hg rfl (hs bs)) (λk hk=>hk) (by rw [List.map_cons,aB1 hx];rfl) ?_ ?_ ?_
 ·intro s hs
  rcases List.mem_cons.1 hs with rfl|hs
  ·trivial
  ·exact aAv hx s hs
 ·rintro s h1 ⟨x,c,e1,rfl,e3⟩
  refine⟨aLv (he x), ?_,_,aTf hg e3 (hs c) (λh=>h) rfl rfl, ?_⟩
  ·intro j hj
   rw [he]at hj
   cases hj
  rw [aMc (he x)]
  have:=hok x c e1
  rw [dM]at this
  exact this
 ·rintro h1 ⟨hn,b,e3⟩
  exact⟨_,aTf hg e3 (hs b) (λh=>h) rfl rfl,hno hn b⟩
def tX (d:Dig):List D:=d.1.map λc=> .int .u8 c.toNat
theorem aQq (d:Dig):(tX d).length=32:=by unfold tX;rw [List.length_map,d.2]
end Go.Proofs.YtbobcfjlbcgchaaGreatDoor
namespace Go.Proofs.YtbobcfjlbcgchaaGreatDoor
open Go.Proofs Go.RowKit
set_option maxRecDepth 10000
attribute [local irreducible] aJ aF Tri aG YVC bS aQ
theorem bP {l:List UInt8}{n:Nat}(h:l.length=n+1): ∃c m,l=c::m/\m.length=n:=by
 cases l with
 |nil=>cases h
 |cons c m=>exact⟨c,m,rfl,by simpa using h⟩
theorem aBg {l:List UInt8}(h:l.length=32): ∃c0 c1 c2 c3 c4 c5 c6 c7 c8 c9 c10 c11 c12 c13 c14 c15 c16 c17 c18 c19 c20 c21 c22 c23 c24 c25 c26 c27 c28 c29 c30 c31:UInt8,l=[c0,c1,c2,c3,c4,c5,c6,c7,c8,c9,c10,c11,c12,c13,c14,c15,c16,c17,c18,c19,c20,c21,c22,c23,c24,c25,c26,c27,c28,c29,c30,c31]:=by
 obtain⟨c0,l0,rfl,h0⟩:=bP h
 obtain⟨c1,l1,rfl,h1⟩:=bP h0
 obtain⟨c2,l2,rfl,h2⟩:=bP h1
 obtain⟨c3,l3,rfl,h3⟩:=bP h2
 obtain⟨c4,l4,rfl,h4⟩:=bP h3
 obtain⟨c5,l5,rfl,h5⟩:=bP h4
 obtain⟨c6,l6,rfl,h6⟩:=bP h5
 obtain⟨c7,l7,rfl,h7⟩:=bP h6
 obtain⟨c8,l8,rfl,h8⟩:=bP h7
 obtain⟨c9,l9,rfl,h9⟩:=bP h8
 obtain⟨c10,l10,rfl,h10⟩:=bP h9
 obtain⟨c11,l11,rfl,h11⟩:=bP h10
 obtain⟨c12,l12,rfl,h12⟩:=bP h11
 obtain⟨c13,l13,rfl,h13⟩:=bP h12
 obtain⟨c14,l14,rfl,h14⟩:=bP h13
 obtain⟨c15,l15,rfl,h15⟩:=bP h14
 obtain⟨c16,l16,rfl,h16⟩:=bP h15
 obtain⟨c17,l17,rfl,h17⟩:=bP h16
 obtain⟨c18,l18,rfl,h18⟩:=bP h17
 obtain⟨c19,l19,rfl,h19⟩:=bP h18
 obtain⟨c20,l20,rfl,h20⟩:=bP h19
 obtain⟨c21,l21,rfl,h21⟩:=bP h20
 obtain⟨c22,l22,rfl,h22⟩:=bP h21
 obtain⟨c23,l23,rfl,h23⟩:=bP h22
 obtain⟨c24,l24,rfl,h24⟩:=bP h23
 obtain⟨c25,l25,rfl,h25⟩:=bP h24
 obtain⟨c26,l26,rfl,h26⟩:=bP h25
 obtain⟨c27,l27,rfl,h27⟩:=bP h26
 obtain⟨c28,l28,rfl,h28⟩:=bP h27
 obtain⟨c29,l29,rfl,h29⟩:=bP h28
 obtain⟨c30,l30,rfl,h30⟩:=bP h29
 obtain⟨c31,l31,rfl,h31⟩:=bP h30
 rw [List.length_eq_zero_iff.1 h31]
 exact⟨c0,c1,c2,c3,c4,c5,c6,c7,c8,c9,c10,c11,c12,c13,c14,c15,c16,c17,c18,c19,c20,c21,c22,c23,c24,c25,c26,c27,c28,c29,c30,c31,rfl⟩
end Go.Proofs.YtbobcfjlbcgchaaGreatDoor
namespace Go.Proofs.YtbobcfjlbcgchaaGreatDoor
open Go.Proofs Go.RowKit
set_option maxRecDepth 10000
attribute [local irreducible] aJ aF Tri aG YVC bS aQ
def aUd (z:Int):List D:=[.int .i64 z]
theorem fP {α:Type}{r:Rd α}{k:Nat}(h:yQ k r) {b c:List UInt8}{x:α}(e:r b=some (x,c)):c.length+k<=b.length:=by
 obtain⟨a,h1,h2⟩:=h b x c e
 rw [h1,List.length_append];omega
theorem mB {α:Type}{r:Rd α}{b c d:List UInt8}{l:List α}{x:α}(h:sH r l.length b=some (l,c)) (e:r c=some (x,d)):sH r (l++[x]).length b=some (l++[x],d):=by
 rw [List.length_append,List.length_singleton,qK,h]
 simp only [Option.bind_some,e,Option.map_some]
theorem mA {α:Type}{r:Rd α}{b c:List UInt8}{l:List α}{N:Nat}(h:sH r l.length b=some (l,c)) (e:r c=none) (hN:l.length < N):sH r N b=none:=by
 refine aMj (n:=l.length+1) ?_ (by omega)
 rw [qK,h]
 simp only [Option.bind_some,e,Option.map_none]
theorem qL {bs c:List UInt8}{N:Nat}(h:aKm 4 bs=some (N,c)):N < 4294967296:=by
 obtain⟨l,h1,rfl⟩:=aGr h
 have hl:l.length=4:=by
  unfold yG at h1
  split at h1
  ·injection h1 with h1;injection h1 with h1 _
   rw [<-h1,List.length_take];omega
  ·cases h1
 exact aA8 4 l hl
theorem aN5 {N k:Nat}(h:k < N) (hN:N < 4294967296):IntKind.u64.wrap (((N - k:Nat):Int) - 1)=((N - (k+1):Nat):Int):=by
 have e:((N - k:Nat):Int) - 1=((N - (k+1):Nat):Int):=by omega
 rw [e]
 exact sX _ (by omega)
theorem aD2:RdT 77 [.fn 78 [] []] (iJ aF1) (λl=> .d (.sl 1 (l.map eO))):=by
 intro bs hb
 refine aF.says ?_
 refine aI false [] hty Tryz.func77 rfl (kp [0,1,4,5,9]) 100 (by simp [Tryz.f77]) ?_
 ((conv=>whnf);repeat ((first|(intro hq;try simp only [lnS]at hq)|refine sI ?_|refine .intro _ (.intro rfl ?_));(conv=>whnf)))
 refine RdT.call (jL 4 (by decide)) rfl (λ_=>rfl) bs hb rfl (λN c0 e1=> ?_) (λe1 b=>⟨aW e1,b,rfl⟩)
 have hbind:iJ aF1 bs=sH aF1 N c0:=cY e1
 have hc0:=fP (gW 4) e1
 have hN:=qL e1
 clear e1
 ((conv=>whnf);repeat ((first|(intro hq;try simp only [lnS]at hq)|refine sI ?_|refine .intro _ (.intro rfl ?_));(conv=>whnf)))
 refine aJ.own 4 104 9 1 rfl (bY (by with_unfolding_all exact rfl)) ?_
 refine aK hty (λy:List (List UInt8)×List UInt8=>([(0, .ptr 3 0),(1, .fn 78 [] []),(4, .osl 104 1 (y.1.map eO)),(5, .d (.int .u64 ((N - y.1.length:Nat):Int)))],[(104, .own 9 1 (y.1.map eO).length),(3,rdO y.2)])) (λy=>sH aF1 y.1.length c0=some y/\y.1.length<=N/\y.2.length+y.1.length<=c0.length) (λy=>N - y.1.length) ([],c0) ⟨rfl,Nat.zero_le _,Nat.le_refl _⟩ ⟨by repeat' (first|exact trivial|exact rfl|refine And.intro ?_ ?_),by repeat' (first|exact trivial|exact rfl|refine And.intro ?_ ?_)⟩ ?_
 rintro⟨l,c⟩ ⟨h1,h2,h3⟩
 dsimp only at h1 h2 h3
 have hml:(l.map eO).length=l.length:=List.length_map ..
 have hb63:(l.map eO).length+1<=9223372036854775807:=by rw [hml];omega
 have hb48:((l.map eO).length+1)* 16<=140737488355328:=by rw [hml];omega
 ((conv=>whnf);repeat ((first|(intro hq;try simp only [lnS]at hq)|refine sI ?_|refine .intro _ (.intro rfl ?_));(conv=>whnf)))
 refine aA (λh4=> ?_) (λh4=> ?_)
 ·have hlt:l.length < N:=by dsimp only at h4;omega
  have hw:=aN5 hlt hN
  refine RdT.call (e:= λx=>SV.d (.str x)) tB rfl (λ_=>rfl) c (by omega) rfl (λx d e2=> ?_) (λe2 b=>⟨hbind.trans (mA h1 e2 hlt),b,rfl⟩)
  have hd:=fP cZ e2
  ((conv=>whnf);repeat ((first|(refine And.intro hb63 ?_)|(refine And.intro hb48 ?_)|(intro hq;try simp only [lnS]at hq)|refine sI ?_|refine .intro _ (.intro rfl ?_));(conv=>whnf)))
  rw [hw]
  refine⟨(l++[_],d),⟨mB h1 e2,by rw [List.length_append];exact hlt,by dsimp only;rw [List.length_append,List.length_singleton];omega⟩,by dsimp only;rw [List.length_append,List.length_singleton];omega, ?_⟩
  dsimp only
  rw [List.map_append,List.length_append,List.length_append]
  exact⟨by repeat' (first|exact trivial|exact rfl|refine And.intro ?_ ?_),by repeat' (first|exact trivial|exact rfl|refine And.intro ?_ ?_)⟩
 ·have hlN:l.length=N:=by dsimp only at h4;omega
  subst hlN
  ((conv=>whnf);repeat ((first|(intro hq;try simp only [lnS]at hq)|refine sI ?_|refine .intro _ (.intro rfl ?_));(conv=>whnf)))
  exact⟨_,gR.osl,l,c,hbind.trans h1,rfl,rfl⟩
end Go.Proofs.YtbobcfjlbcgchaaGreatDoor
namespace Go.Proofs.YtbobcfjlbcgchaaGreatDoor
open Go.Proofs Go.RowKit
set_option maxRecDepth 10000
attribute [local irreducible] aJ aF Tri aG YVC bS aQ
def cmR (c:Cm):List D:=[.int .i64 c.no, .sl 1 (c.parents.map aUd)]++tX c.base++[.str c.message]
theorem cI {α β:Type}{r:Rd α}{f:α->Rd β}{b c:List UInt8}{x:α}(h:r b=some (x,c)) (k:f x c=none):dW r f b=none:=(cY h).trans k
theorem mC {α β:Type}{r:Rd α}{f:α->Rd β}{b c d:List UInt8}{x:α}{y:β}(h:r b=some (x,c)) (k:f x c=some (y,d)):dW r f b=some (y,d):=(cY h).trans k
end Go.Proofs.YtbobcfjlbcgchaaGreatDoor
namespace Go.Proofs.YtbobcfjlbcgchaaGreatDoor
open Go.Proofs Go.RowKit
set_option maxRecDepth 10000
attribute [local irreducible] aJ aF Tri aG YVC bS aQ
theorem xQ: ∀(k d:Nat),d+k=9->RdT 102 [.d (.int .i64 d)] (rC k) (λc=> .d (.agg (cnR c)))
 | 0,d,hd=>by
  intro bs hb
  refine aI false [] hty Tryz.func102 rfl (kp [0,1,3,4,6]) 100 (by simp [Tryz.f102]) ?_
  ((conv=>whnf);repeat ((first|(intro hq;try simp only [lnS]at hq)|refine sI ?_|refine .intro _ (.intro rfl ?_));(conv=>whnf)))
  refine aA (λh1=> ?_) (λh1=> ?_)
  ·((conv=>whnf);repeat ((first|(refine fZ hty rfl (by with_unfolding_all exact rfl) rfl rfl ?_)|(intro hq;try simp only [lnS]at hq)|refine sI ?_|refine .intro _ (.intro rfl ?_));(conv=>whnf)))
   exact⟨bs,rfl⟩
  ·omega
 |k+1,d,hd=>by
  intro bs hb
  have ih:RdT 102 [.d (.int .i64 ((d:Int)+1))] (rC k) (λc=> .d (.agg (cnR c))):=by
   rw [show ((d:Int)+1)=((d+1:Nat):Int)by omega]
   exact xQ k (d+1) (by omega)
  refine aI false [] hty Tryz.func102 rfl (kp [0,1,3,4,6]) 100 (by simp [Tryz.f102]) ?_
  ((conv=>whnf);repeat ((first|(intro hq;try simp only [lnS]at hq)|refine sI ?_|refine .intro _ (.intro rfl ?_));(conv=>whnf)))
  refine aA (λh1=> ?_) (λh1=> ?_)
  ·omega
  clear h1
  ((conv=>whnf);repeat ((first|(intro hq;try simp only [lnS]at hq)|refine sI ?_|refine .intro _ (.intro rfl ?_));(conv=>whnf)))
  refine RdT.call aB8 rfl (λ_=>rfl) bs hb rfl (λkd b1 e1=> ?_) (λe1 b=>⟨aW e1,b,rfl⟩)
  have q1:=fP jA e1
  ((conv=>whnf);repeat ((first|(intro hq;try simp only [lnS]at hq)|refine sI ?_|refine .intro _ (.intro rfl ?_));(conv=>whnf)))
  refine RdT.call tB rfl (λ_=>rfl) b1 (by omega) rfl (λnm b2 e2=> ?_) (λe2 b=>⟨cI e1 (aW e2),b,rfl⟩)
  have q2:=fP cZ e2
  ((conv=>whnf);repeat ((first|(intro hq;try simp only [lnS]at hq)|refine sI ?_|refine .intro _ (.intro rfl ?_));(conv=>whnf)))
  refine RdT.call uK rfl (λ_=>rfl) b2 (by omega) rfl (λlo b3 e3=> ?_) (λe3 b=>⟨cI e1 (cI e2 (aW e3)),b,rfl⟩)
  have q3:=fP kU e3
  ((conv=>whnf);repeat ((first|(intro hq;try simp only [lnS]at hq)|refine sI ?_|refine .intro _ (.intro rfl ?_));(conv=>whnf)))
  refine RdT.call uK rfl (λ_=>rfl) b3 (by omega) rfl (λhi b4 e4=> ?_) (λe4 b=>⟨cI e1 (cI e2 (cI e3 (aW e4))),b,rfl⟩)
  have q4:=fP kU e4
  have key: ∀{y:List Cn} {c:List UInt8},iJ (rC k) b4=some (y,c)->rC (k+1) bs=some (.mk kd nm lo hi y,c):= λe=>mC e1 (mC e2 (mC e3 (mC e4 (gC e))))
  have keyn:iJ (rC k) b4=none->rC (k+1) bs=none:= λe=>cI e1 (cI e2 (cI e3 (cI e4 (gD e))))
  clear e1 e2 e3 e4
  ((conv=>whnf);repeat ((first|(intro hq;try simp only [lnS]at hq)|refine sI ?_|refine .intro _ (.intro rfl ?_));(conv=>whnf)))
  refine aF.says ?_
  refine aI false [] hty Tryz.func157 rfl (kp [0,1,4,5,9]) 200 (by simp [Tryz.f157]) ?_
  ((conv=>whnf);repeat ((first|(intro hq;try simp only [lnS]at hq)|refine sI ?_|refine .intro _ (.intro rfl ?_));(conv=>whnf)))
  refine RdT.call (jL 4 (by decide)) rfl (λ_=>rfl) b4 (by omega) rfl (λN c0 e1=> ?_) (λe1 b=>⟨keyn (aW e1),b,rfl⟩)
  have hbind:iJ (rC k) b4=sH (rC k) N c0:=cY e1
  have hc0:=fP (gW 4) e1
  have hN:=qL e1
  clear e1
  ((conv=>whnf);repeat ((first|(intro hq;try simp only [lnS]at hq)|refine sI ?_|refine .intro _ (.intro rfl ?_));(conv=>whnf)))
  refine aJ.own 4 204 45 5 rfl (bY (by with_unfolding_all exact rfl)) ?_
  refine aK hty (λy:List Cn×List UInt8=>([(0, .ptr 3 0),(1, .fn 158 [] [.ptr 103 0]),(4, .osl 204 5 (y.1.map cnR)),(5, .d (.int .u64 ((N - y.1.length:Nat):Int)))],[(204, .own 45 5 (y.1.map cnR).length),(3,rdO y.2),(103, .cells 3 [.d (.int .i64 d)]),(104, .cells 45 [.d (.int .i64 kd), .d (.str nm), .d (.int .i64 lo), .d (.int .i64 hi), .d .nil])])) (λy=>sH (rC k) y.1.length c0=some y/\y.1.length<=N/\y.2.length+y.1.length<=c0.length) (λy=>N - y.1.length) ([],c0) ⟨rfl,Nat.zero_le _,Nat.le_refl _⟩ ⟨by repeat' (first|exact trivial|exact rfl|refine And.intro ?_ ?_),by repeat' (first|exact trivial|exact rfl|refine And.intro ?_ ?_)⟩ ?_
  rintro⟨l,c⟩ ⟨h1,h2,h3⟩
  dsimp only at h1 h2 h3
  have hml:(l.map cnR).length=l.length:=List.length_map ..
  have hb63:(l.map cnR).length+1<=9223372036854775807:=by rw [hml];omega
  have hb48:((l.map cnR).length+1)* 64<=140737488355328:=by rw [hml];omega
  ((conv=>whnf);repeat ((first|(intro hq;try simp only [lnS]at hq)|refine sI ?_|refine .intro _ (.intro rfl ?_));(conv=>whnf)))
  refine aA (λh4=> ?_) (λh4=> ?_)
  ·have hlt:l.length < N:=by dsimp only at h4;omega
   have hwN:=aN5 hlt hN
   ((conv=>whnf);repeat ((first|(intro hq;try simp only [lnS]at hq)|refine sI ?_|refine .intro _ (.intro rfl ?_));(conv=>whnf)))
   refine aI false [] hty Tryz.func158 rfl (kp [0,1,3]) 300 (by simp [Tryz.f158]) ?_
   ((conv=>whnf);repeat ((first|(intro hq;try simp only [lnS]at hq)|refine sI ?_|refine .intro _ (.intro rfl ?_));(conv=>whnf)))
   refine RdT.call ih rfl (λ_=>rfl) c (by omega) rfl (λx d e2=> ?_) (λe2 b=>⟨keyn (hbind.trans (mA h1 e2 hlt)),b,rfl⟩)
   have hd:=fP (aA4 k) e2
   rw [aT x]
   ((conv=>whnf);repeat ((first|(refine And.intro hb63 ?_)|(refine And.intro hb48 ?_)|(intro hq;try simp only [lnS]at hq)|refine sI ?_|refine .intro _ (.intro rfl ?_));(conv=>whnf)))
   rw [hwN]
   refine⟨(l++[x],d),⟨mB h1 e2,by rw [List.length_append];exact hlt,by dsimp only;rw [List.length_append,List.length_singleton];omega⟩,by dsimp only;rw [List.length_append,List.length_singleton];omega, ?_⟩
   dsimp only
   rw [List.map_append,List.length_append,List.length_append,List.map_singleton,aT x]
   exact⟨by repeat' (first|exact trivial|exact rfl|refine And.intro ?_ ?_),by repeat' (first|exact trivial|exact rfl|refine And.intro ?_ ?_)⟩
  ·have hlN:l.length=N:=by dsimp only at h4;omega
   subst hlN
   ((conv=>whnf);repeat ((first|(intro hq;try simp only [lnS]at hq)|refine sI ?_|refine .intro _ (.intro rfl ?_));(conv=>whnf)))
   refine⟨_,gR.osl, ?_⟩
   ((conv=>whnf);repeat ((first|(intro hq;try simp only [lnS]at hq)|refine sI ?_|refine .intro _ (.intro rfl ?_));(conv=>whnf)))
   refine⟨.mk kd nm lo hi l,c,key (hbind.trans h1), ?_,rfl⟩
   show _=SV.d (D.agg (cnR (.mk kd nm lo hi l)))
   rw [show cnR (.mk kd nm lo hi l)=[.int .i64 kd, .str nm, .int .i64 lo, .int .i64 hi, .sl 5 (l.map cnR)]from aT _]
   rfl
end Go.Proofs.YtbobcfjlbcgchaaGreatDoor
