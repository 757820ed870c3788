/-
  Bytes: numbers in bytes, writers and readers of lists, decoding; plain. Objects: the reader takes bytes. Concepts and axioms in bytes: what is written is read again; plain. Commits, queries and alignments in bytes: what is written is read again; plain. Bytes as the program reckons them: shifting and or, the bytes of a number. Objects: the reader reads numbers. Objects: the reader reads ints, octets and texts.
  Conditions: none.
-/
import Derived.Test.YtleihcnongldbaaGreatDoorVSw
import Derived.Test.YtleihcnongldbaaGreatDoorVSyi
import Derived.Test.YtleihcnongldbaaGreatDoorVSyb
import Derived.Test.YtleihcnongldbaaGreatDoorVA1
import Derived.Test.YtleihcnongldbaaGreatDoorVSi
set_option linter.unnecessarySimpa false
set_option linter.unusedSectionVars false
set_option linter.unusedSimpArgs false
set_option linter.unusedVariables false
set_option maxHeartbeats 4000000
namespace Go.Proofs.YtleihcnongldbaaGreatDoor
def beN:Nat->Nat->List UInt8
 | 0,_=>[]
 |k+1,n=>beN k (n / 256)++[UInt8.ofNat (n % 256)]
def deN (l:List UInt8):Nat:=l.foldl (λx c=>256 * x+c.toNat) 0
theorem aT: ∀k n,(beN k n).length=k
 | 0,_=>rfl
 |k+1,n=>by rw [beN,List.length_append,aT k];rfl
theorem xV (l:List UInt8) (c:UInt8):deN (l++[c])=256 * deN l+c.toNat:=by
 unfold deN;rw [List.foldl_append];rfl
theorem aFr: ∀k n,deN (beN k n)=n % 256 ^ k
 | 0,n=>by simp [beN,deN,Nat.mod_one]
 |k+1,n=>by
  rw [beN,xV,aFr k,Nat.pow_succ,Nat.mul_comm (256 ^ k) 256,Nat.mod_mul]
  have h:(UInt8.ofNat (n % 256)).toNat=n % 256:=by simp
  rw [h];omega
theorem tK: ∀(k:Nat) (l:List UInt8),l.length=k->deN l < 256 ^ k
 | 0,l,h=>by rw [List.length_eq_zero_iff.1 h];decide
 |k+1,l,h=>by
  obtain⟨m,c,rfl⟩: ∃m c,l=m++[c]:=by
   rcases List.eq_nil_or_concat l with e|⟨m,c,e⟩
   ·rw [e]at h;cases h
   ·exact⟨m,c,by rw [e,List.concat_eq_append]⟩
  rw [List.length_append]at h
  have h1:=tK k m (by simpa using h)
  have h2:=c.toNat_lt
  rw [xV,Nat.pow_succ]
  omega
def uN (z:Int):Nat:=(z % 18446744073709551616).toNat
def sgN (n:Nat):Int:=if n < 9223372036854775808 then (n:Int)else (n:Int) - 18446744073709551616
theorem aO9 (z:Int):uN z < 18446744073709551616:=by unfold uN;omega
theorem aMg {z:Int}(h1: -9223372036854775808<=z) (h2:z<=9223372036854775807):sgN (uN z)=z:=by
 unfold sgN uN;split<;>omega
theorem aKn {n:Nat}(h:n < 18446744073709551616): -9223372036854775808<=sgN n/\sgN n<=9223372036854775807:=by
 unfold sgN;split<;>omega
abbrev Rd (α:Type):=List UInt8->Option (α×List UInt8)
section
variable {α β:Type}
def aHg (a:α):Rd α:= λb=>some (a,b)
def nW (r:Rd α) (f:α->β):Rd β:= λb=>(r b).map λp=>(f p.1,p.2)
def bZ (r:Rd α) (f:α->Rd β):Rd β:= λb=>(r b).bind λp=>f p.1 p.2
def jN (n:Nat):Rd (List UInt8):= λb=>if n<=b.length then some (b.take n,b.drop n)else none
def aBf (k:Nat):Rd Nat:=nW (jN k) deN
def mF (r:Rd α):Nat->Rd (List α)
 | 0=>aHg []
 |n+1=>bZ r λx=>nW (mF r n) (x:: ·)
def dG (r:Rd α):Rd (List α):=bZ (aBf 4) (mF r)
theorem bH {r:Rd α}{f:α->β}{b c:List UInt8}{x:α}(h:r b=some (x,c)):nW r f b=some (f x,c):=by simp [nW,h]
theorem aK {r:Rd α}{f:α->Rd β}{b c:List UInt8}{x:α}(h:r b=some (x,c)):bZ r f b=f x c:=by simp [bZ,h]
theorem aN {r:Rd α}{f:α->Rd β}{b:List UInt8}(h:r b=none):bZ r f b=none:=by simp [bZ,h]
theorem dF {r:Rd α}{f:α->β}{b:List UInt8}(h:r b=none):nW r f b=none:=by simp [nW,h]
theorem yV (a c:List UInt8):jN a.length (a++c)=some (a,c):=by
 unfold jN
 rw [if_pos (by rw [List.length_append];omega),List.take_left' rfl,List.drop_left' rfl]
theorem qW (k n:Nat) (c:List UInt8) (h:n < 256 ^ k):aBf k (beN k n++c)=some (n,c):=by
 have h1:=yV (beN k n) c
 rw [aT]at h1
 unfold aBf
 rw [bH h1,aFr,Nat.mod_eq_of_lt h]
theorem fW {r:Rd α}{f:α->Rd β}{b c:List UInt8}{y:β}(h:bZ r f b=some (y,c)): ∃x d,r b=some (x,d)/\f x d=some (y,c):=by
 unfold bZ at h
 obtain⟨p,h1,h2⟩:=Option.bind_eq_some_iff.1 h
 exact⟨p.1,p.2,h1,h2⟩
theorem nV {r:Rd α}{f:α->β}{b c:List UInt8}{y:β}(h:nW r f b=some (y,c)): ∃x,r b=some (x,c)/\y=f x:=by
 unfold nW at h
 obtain⟨p,h1,h2⟩:=Option.map_eq_some_iff.1 h
 injection h2 with h3 h4
 exact⟨p.1,by rw [h1,<-h4],h3.symm⟩
theorem nT (r:Rd α): ∀(n:Nat) (b:List UInt8),mF r (n+1) b=(mF r n b).bind λp=>(r p.2).map λq=>(p.1++[q.1],q.2)
 | 0,b=>by
  show bZ r (λx=>nW (aHg []) (x:: ·)) b=_
  cases h:r b with
  |none=>rw [aN h];simp [mF,aHg,h]
  |some p=>obtain⟨x,c⟩:=p;rw [aK h];simp [mF,aHg,nW,h]
 |n+1,b=>by
  show bZ r (λx=>nW (mF r (n+1)) (x:: ·)) b=(bZ r (λx=>nW (mF r n) (x:: ·)) b).bind _
  cases h:r b with
  |none=>rw [aN h,aN h];rfl
  |some p=>
   obtain⟨x,c⟩:=p
   rw [aK h,aK h]
   unfold nW
   rw [nT r n c]
   cases h2:mF r n c with
   |none=>rfl
   |some q=>
    obtain⟨l,d⟩:=q
    simp only [Option.bind_some,Option.map_some]
    cases h3:r d with
    |none=>rfl
    |some q=>rfl
theorem aEx {r:Rd α}{n m:Nat}{b:List UInt8}(h:mF r n b=none) (hm:n<=m):mF r m b=none:=by
 induction m with
 | zero => obtain rfl : n = 0 := by omega
           exact h
 |succ m ih=>
  by_cases e:n=m+1
  ·rw [<-e];exact h
  ·rw [nT,ih (by omega)];rfl
def bO (w:α->List UInt8) (l:List α):List UInt8:=beN 4 l.length++(l.map w).flatten
theorem aBe {r:Rd α}{w:α->List UInt8}: ∀(l:List α) (_: ∀x∈l,∀c,r (w x++c)=some (x,c)) (c:List UInt8),mF r l.length ((l.map w).flatten++c)=some (l,c)
 | [],_,c=>rfl
 |x::l,h,c=>by
  show bZ r (λx=>nW (mF r l.length) (x:: ·)) _=_
  rw [List.map_cons,List.flatten_cons,List.append_assoc,aK (h x (List.mem_cons_self ..) _),bH (aBe l (λy hy=>h y (List.mem_cons_of_mem _ hy)) c)]
theorem dV {r:Rd α}{w:α->List UInt8}{l:List α}(h: ∀x∈l,∀c,r (w x++c)=some (x,c)) (hl:l.length < 4294967296) (c:List UInt8):dG r (bO w l++c)=some (l,c):=by
 unfold dG bO
 rw [List.append_assoc,aK (qW 4 l.length _ hl)]
 exact aBe l h c
def tY (k:Nat) (r:Rd α):Prop:= ∀b x c,r b=some (x,c)-> ∃a,b=a++c/\k<=a.length
theorem zP (n:Nat):tY n (jN n):=by
 intro b x c h
 unfold jN at h
 split at h
 ·injection h with h;injection h with h1 h2
  exact⟨b.take n,by rw [<-h2,List.take_append_drop],by rw [List.length_take];omega⟩
 ·cases h
theorem gV {r:Rd α}{f:α->β}{k:Nat}(h:tY k r):tY k (nW r f):=by
 intro b x c e
 unfold nW at e
 obtain⟨p,h1,h2⟩:=Option.map_eq_some_iff.1 e
 injection h2 with _ h3
 exact h b p.1 c (by rw [h1,<-h3])
theorem bP {r:Rd α}{f:α->Rd β}{k j:Nat}(h:tY k r) (g: ∀x,tY j (f x)):tY (k+j) (bZ r f):=by
 intro b x c e
 unfold bZ at e
 obtain⟨p,h1,h2⟩:=Option.bind_eq_some_iff.1 e
 obtain⟨a1,e1,q1⟩:=h b p.1 p.2 h1
 obtain⟨a2,e2,q2⟩:=g _ _ _ _ h2
 exact⟨a1++a2,by rw [e1,e2,List.append_assoc],by rw [List.length_append];omega⟩
theorem aBu {r:Rd α}{k:Nat}(h:tY k r): ∀n,tY (k * n) (mF r n)
 | 0=> λb x c e=>⟨[],by injection e with e;injection e with _ e,by simp⟩
 |n+1=>by
  have:=bP (f:= λx=>nW (mF r n) (x:: ·)) h (λx=>gV (aBu h n))
  rw [Nat.mul_succ,Nat.add_comm]
  exact this
theorem lQ {r:Rd α}{k j:Nat}(h:tY k r) (hj:j<=k):tY j r:= λb x c e=>by
 obtain⟨a,h1,h2⟩:=h b x c e
 exact⟨a,h1,by omega⟩
def cZ (rd:Rd α) (wr:α->List UInt8×Int) (zero:α) (bad:Int) (b:List UInt8):α×Int:=
 match rd b with
 |some (x,[])=>if wr x=(b,0)then (x,0)else (zero,bad)
 |_=>(zero,bad)
theorem lT {rd:Rd α}{wr:α->List UInt8×Int}{zero:α}{bad:Int}{b:List UInt8}{x:α}(h1:wr x=(b,0)) (h2:rd b=some (x,[])):cZ rd wr zero bad b=(x,0):=by
 unfold cZ
 rw [h2]
 simp only [if_pos h1]
theorem aBx {rd:Rd α}{wr:α->List UInt8×Int}{zero:α}{bad:Int}{b c:List UInt8}{x:α}(h:rd b=some (x,c)) (hc:c≠[]):cZ rd wr zero bad b=(zero,bad):=by
 unfold cZ
 rw [h]
 cases c with
 |nil=>exact absurd rfl hc
 |cons _ _=>rfl
theorem zL {w:α->List UInt8}{k:Nat}(hw: ∀x,k<=(w x).length): ∀l:List α,k * l.length<=((l.map w).flatten).length
 | []=>by simp
 |x::l=>by
  have h1:=zL hw l
  have h2:=hw x
  rw [List.map_cons,List.flatten_cons,List.length_append,List.length_cons,Nat.mul_succ]
  omega
end
end Go.Proofs.YtleihcnongldbaaGreatDoor
namespace Go.Proofs.YtleihcnongldbaaGreatDoor
open Go.Proofs
set_option maxRecDepth 10000
attribute [local irreducible] aO aH Tri aG YVC cL bB
theorem rU (bs:List UInt8) (m:Nat) (hp0:Hp) {pin:Pin}{fr:Fr}{K:SV->Hp->Prop}
  (hok:m<=bs.length->K (.d (.sl 1 ((bs.take m).map aV))) ((3, .cells 131 [.d (.sl 1 ((bs.drop m).map aV))])::hp0))
  (hno:bs.length < m->pin.kp fr ((3, .cells 131 [.d (.sl 1 (bs.map aV))])::hp0)):
  aH Tryz.prog pin fr ((3, .cells 131 [.d (.sl 1 (bs.map aV))])::hp0) 128 [.ptr 3 0, .d (.int .i64 m)] K:=by
 have hl:(bs.map aV).length=bs.length:=List.length_map ..
 refine aI false [] hty Tryz.func128 rfl (kp [0,1,4,11]) 100 (by simp [Tryz.f128]) ?_
 ((conv=>whnf);repeat' ((first|(intro hq;(try simp only [lnS]at hq);(try rewrite [List.length_map]))|refine sJ ?_|refine .intro _ (.intro rfl ?_)|refine exL (k:= ?_)|(refine aHo hty 19 (by kernel_rfl) (by kernel_rfl) ?_)|(refine cF hty rfl (by with_unfolding_all exact rfl) rfl rfl ?_)|refine dwR ?_|((first|refine aB ?_ ?_|refine aC ?_ ?_)<;>intro hb<;>(first|exact ddX hb|try simp only [lnS]at hb))|(refine aA ?_ ?_<;>intro hb<;>try exact dsX hb))<;>(conv=>whnf)))
 ·exact hno (by omega)
 ·have e1:List.drop 0 (List.take ((m:Nat):Int).toNat (bs.map aV))=(bs.take m).map aV:=by rw [Int.toNat_natCast,List.drop_zero,List.map_take]
  have e2:List.drop ((m:Nat):Int).toNat (List.take ((bs.length:Nat):Int).toNat (bs.map aV))=(bs.drop m).map aV:=by rw [Int.toNat_natCast,Int.toNat_natCast,List.take_of_length_le (by rw [List.length_map];exact Nat.le_refl _),List.map_drop]
  show K (SV.d (D.sl 1 (List.drop 0 (List.take ((m:Nat):Int).toNat (bs.map aV))))) ((3,HObj.cells 131 [SV.d (D.sl 1 (List.drop ((m:Nat):Int).toNat (List.take ((bs.length:Nat):Int).toNat (bs.map aV))))])::hp0)
  rw [e1,e2]
  exact hok (by omega)
end Go.Proofs.YtleihcnongldbaaGreatDoor
namespace Go.Proofs.YtleihcnongldbaaGreatDoor
open Go.Proofs
def yW:Rd Int:=nW (aBf 8) sgN
def aHh:Rd Int:=nW (aBf 1) λn=>(n:Int)
def wW:Rd (List UInt8):=bZ (aBf 4) jN
abbrev Dig:={l:List UInt8 // l.length=32}
def xE:Rd Dig:= λb=>if h:32<=b.length then some (⟨b.take 32,by rw [List.length_take];omega⟩,b.drop 32)else none
def mX (d:Dig):List UInt8:=d.1
def gN (z:Int):List UInt8:=beN 8 (uN z)
def vY (z:Int):List UInt8:=beN 1 (uN z)
def dO (s:List UInt8):List UInt8:=beN 4 s.length++s
theorem iR {z:Int}(h1: -9223372036854775808<=z) (h2:z<=9223372036854775807) (c:List UInt8):yW (gN z++c)=some (z,c):=by
 unfold yW gN
 rw [bH (qW 8 (uN z) c (aO9 z)),aMg h1 h2]
theorem nU {z:Int}(h1:0<=z) (h2:z<=255) (c:List UInt8):aHh (vY z++c)=some (z,c):=by
 unfold aHh vY
 have h:uN z < 256 ^ 1:=by unfold uN;omega
 rw [bH (qW 1 (uN z) c h)]
 have:((uN z:Nat):Int)=z:=by unfold uN;omega
 rw [this]
theorem dT {s:List UInt8}(h:s.length < 4294967296) (c:List UInt8):wW (dO s++c)=some (s,c):=by
 unfold wW dO
 rw [List.append_assoc,aK (qW 4 s.length _ h),yV]
theorem nX (s:Dig) (c:List UInt8):xE (mX s++c)=some (s,c):=by
 obtain⟨l,h⟩:=s
 show xE (l++c)=_
 have h0:32<=(l++c).length:=by rw [List.length_append];omega
 unfold xE
 rw [dif_pos h0]
 have h1:(l++c).take 32=l:=List.take_left' h
 have h2:(l++c).drop 32=c:=List.drop_left' h
 simp only [h1,h2]
mutual
def wC:Cn->List UInt8
 | .mk k n lo hi ps=>vY k++(dO n++(gN lo++(gN hi++(beN 4 ps.length++(wCs ps).flatten))))
def wCs:List Cn->List (List UInt8)
 | []=>[]
 |c::r=>wC c::wCs r
end
theorem aE1: ∀l,wCs l=l.map wC
 | []=>rfl
 |c::r=>by rw [wCs,aE1 r];rfl
theorem aGq (c:Cn):wC c=vY c.kind++(dO c.name++(gN c.lo++(gN c.hi++bO wC c.parts))):=by
 cases c;rw [wC,aE1];rfl
def rC:Nat->Rd Cn
 | 0=> λ_=>none
 |k+1=>bZ aHh λkd=>bZ wW λn=>bZ yW λlo=>bZ yW λhi=>nW (dG (rC k)) (Cn.mk kd n lo hi)
def OkC:Nat->Cn->Prop
 | 0,_=>False
 |k+1,c=>(0<=c.kind/\c.kind<=255)/\c.name.length < 4294967296/\(-9223372036854775808<=c.lo/\c.lo<=9223372036854775807)/\(-9223372036854775808<=c.hi/\c.hi<=9223372036854775807)/\c.parts.length < 4294967296/\ ∀p∈c.parts,OkC k p
theorem aEy: ∀(k:Nat) (c:Cn),OkC k c-> ∀d,rC k (wC c++d)=some (c,d)
 | 0,_,h=>h.elim
 |k+1,c,h=>by
  obtain⟨⟨a1,a2⟩,b,⟨c1,c2⟩,⟨d1,d2⟩,e,f⟩:=h
  intro d
  rw [aGq]
  simp only [List.append_assoc]
  show bZ aHh _ _=_
  rw [aK (nU a1 a2 _),aK (dT b _),aK (iR c1 c2 _),aK (iR d1 d2 _),bH (dV (λp hp=>aEy k p (f p hp)) e d)]
  cases c;rfl
theorem OkC.up: ∀{k j:Nat}{c:Cn},OkC k c->k<=j->OkC j c
 | 0,_,_,h,_=>h.elim
 |k+1,0,_,_,h=>absurd h (by omega)
 |k+1,j+1,c,⟨a,b,e,f,g,h⟩,hj=>⟨a,b,e,f,g,λp hp=>(h p hp).up (by omega)⟩
def wB (o:Bool):List UInt8:=vY (if o then 1 else 0)
def wA (x:Ax):List UInt8:=vY x.kind++(wB x.isopen++(wC x.left++(wC x.right++(bO dO x.roles++(dO x.role++(dO x.a++dO x.b))))))
def wAs (l:List Ax):List UInt8:=bO wA l
def rB:Rd Bool:=nW aHh λz=>decide (z=1)
def rA (m:Nat):Rd Ax:=bZ aHh λk=>bZ rB λo=>bZ (rC m) λl=>bZ (rC m) λr=>bZ (dG wW) λrs=>bZ wW λs1=>bZ wW λs2=>nW wW λs3=>⟨k,o,l,r,rs,s1,s2,s3⟩
def rAs (m:Nat):Rd (List Ax):=dG (rA m)
def OkA (m:Nat) (x:Ax):Prop:=(0<=x.kind/\x.kind<=255)/\OkC m x.left/\OkC m x.right/\(x.roles.length < 4294967296/\ ∀s∈x.roles,s.length < 4294967296)/\x.role.length < 4294967296/\x.a.length < 4294967296/\x.b.length < 4294967296
theorem aMi (o:Bool) (c:List UInt8):rB (wB o++c)=some (o,c):=by
 unfold rB wB
 cases o
 ·rw [bH (nU (by decide) (by decide) c)];rfl
 ·rw [bH (nU (by decide) (by decide) c)];rfl
theorem aMj {m:Nat}{x:Ax}(h:OkA m x) (c:List UInt8):rA m (wA x++c)=some (x,c):=by
 obtain⟨⟨a1,a2⟩,b,d,⟨e1,e2⟩,f,g,i⟩:=h
 unfold wA rA
 simp only [List.append_assoc]
 rw [aK (nU a1 a2 _),aK (aMi _ _),aK (aEy _ _ b _),aK (aEy _ _ d _),aK (dV (λs hs=>dT (e2 s hs)) e1 _),aK (dT f _),aK (dT g _),bH (dT i c)]
theorem aEz {m:Nat}{l:List Ax}(h: ∀x∈l,OkA m x) (hl:l.length < 4294967296) (c:List UInt8):rAs m (wAs l++c)=some (l,c):=
 dV (λx hx=>aMj (h x hx)) hl c
theorem eD (k:Nat):tY k (aBf k):=gV (zP k)
theorem eE:tY 8 yW:=gV (eD 8)
theorem gU:tY 1 aHh:=gV (eD 1)
theorem cC:tY 4 wW:=lQ (bP (j:=0) (eD 4) λn=>lQ (zP n) (Nat.zero_le _)) (by omega)
theorem fA {α:Type}{r:Rd α}{k:Nat}(h:tY k r):tY 4 (dG r):=lQ (bP (j:=0) (eD 4) λn=>lQ (aBu h n) (Nat.zero_le _)) (by omega)
theorem vO: ∀k,tY 25 (rC k)
 | 0=> λb x c e=>by cases e
 |k+1=>lQ (bP gU λ_=>bP cC λ_=>bP eE λ_=>bP eE λ_=>gV (fA (vO k))) (by omega)
theorem aN1:tY 1 rB:=gV gU
theorem aJh (m:Nat):tY 68 (rA m):=lQ (bP gU λ_=>bP aN1 λ_=>bP (vO m) λ_=>bP (vO m) λ_=>bP (fA cC) λ_=>bP cC λ_=>bP cC λ_=>gV cC) (by omega)
end Go.Proofs.YtleihcnongldbaaGreatDoor
namespace Go.Proofs.YtleihcnongldbaaGreatDoor
open Go.Proofs
structure Cm where
 no:Int
 parents:List Int
 base:Dig
 message:List UInt8
def InI (z:Int):Prop:= -9223372036854775808<=z/\z<=9223372036854775807
def rCm:Rd Cm:=bZ yW λn=>bZ (dG yW) λps=>bZ xE λb=>nW wW λm=>⟨n,ps,b,m⟩
def wCm (c:Cm):List UInt8:=gN c.no++(bO gN c.parents++(mX c.base++dO c.message))
def aPv (c:Cm):Prop:=InI c.no/\(c.parents.length < 4294967296/\ ∀z∈c.parents,InI z)/\c.message.length < 4294967296
theorem aKs {c:Cm}(h:aPv c) (d:List UInt8):rCm (wCm c++d)=some (c,d):=by
 obtain⟨a,⟨b1,b2⟩,f⟩:=h
 unfold rCm wCm
 simp only [List.append_assoc]
 rw [aK (iR a.1 a.2 _),aK (dV (λz hz=>iR (b2 z hz).1 (b2 z hz).2) b1 _),aK (nX _ _),bH (dT f d)]
structure At where
 kind:Int
 name:List UInt8
 x:List UInt8
 y:List UInt8
 lo:Int
 hi:Int
structure Qy where
 told:List (List UInt8)
 parts:List (List At)
def rAt:Rd At:=bZ aHh λk=>bZ wW λn=>bZ wW λx=>bZ wW λy=>bZ yW λlo=>nW yW λhi=>⟨k,n,x,y,lo,hi⟩
def wAt (a:At):List UInt8:=vY a.kind++(dO a.name++(dO a.x++(dO a.y++(gN a.lo++gN a.hi))))
def aPe (a:At):Prop:=(0<=a.kind/\a.kind<=255)/\a.name.length < 4294967296/\a.x.length < 4294967296/\a.y.length < 4294967296/\InI a.lo/\InI a.hi
theorem aKt {a:At}(h:aPe a) (d:List UInt8):rAt (wAt a++d)=some (a,d):=by
 obtain⟨⟨a1,a2⟩,b,e,f,g,i⟩:=h
 unfold rAt wAt
 simp only [List.append_assoc]
 rw [aK (nU a1 a2 _),aK (dT b _),aK (dT e _),aK (dT f _),aK (iR g.1 g.2 _),bH (iR i.1 i.2 d)]
def rQy:Rd Qy:=bZ (dG wW) λt=>nW (dG (dG rAt)) λp=>⟨t,p⟩
def wQy (q:Qy):List UInt8:=bO dO q.told++bO (bO wAt) q.parts
def aPu (q:Qy):Prop:=(q.told.length < 4294967296/\ ∀s∈q.told,s.length < 4294967296)/\q.parts.length < 4294967296/\ ∀p∈q.parts,p.length < 4294967296/\ ∀a∈p,aPe a
theorem aKp {q:Qy}(h:aPu q) (d:List UInt8):rQy (wQy q++d)=some (q,d):=by
 obtain⟨⟨a1,a2⟩,b,e⟩:=h
 unfold rQy wQy
 simp only [List.append_assoc]
 rw [aK (dV (λs hs=>dT (a2 s hs)) a1 _),bH (dV (λp hp=>dV (λa ha=>aKt ((e p hp).2 a ha)) (e p hp).1) b d)]
structure Al where
 name:List UInt8
 base:Dig
 axioms:List Ax
 pub:Dig
 index:Int
 parts:List Dig
 path:List Dig
def rAl (m:Nat):Rd Al:=bZ wW λn=>bZ xE λb=>bZ (rAs m) λl=>bZ xE λp=>bZ yW λi=>bZ (dG xE) λx=>nW (dG xE) λy=>⟨n,b,l,p,i,x,y⟩
def wAl (a:Al):List UInt8:=dO a.name++(mX a.base++(wAs a.axioms++(mX a.pub++(gN a.index++(bO mX a.parts++bO mX a.path)))))
def aPw (m:Nat) (a:Al):Prop:=a.name.length < 4294967296/\(a.axioms.length < 4294967296/\ ∀x∈a.axioms,OkA m x)/\InI a.index/\a.parts.length < 4294967296/\a.path.length < 4294967296
theorem aKv {m:Nat}{a:Al}(h:aPw m a) (d:List UInt8):rAl m (wAl a++d)=some (a,d):=by
 obtain⟨a1,⟨c1,c2⟩,f,g,i⟩:=h
 unfold rAl wAl
 simp only [List.append_assoc]
 rw [aK (dT a1 _),aK (nX _ _),aK (aEz c2 c1 _),aK (nX _ _),aK (iR f.1 f.2 _),aK (dV (λs _=>nX s) g _),bH (dV (λs _=>nX s) i d)]
theorem oT:tY 32 xE:=by
 intro b x c h
 unfold xE at h
 split at h
 ·injection h with h;injection h with h1 h2
  exact⟨b.take 32,by rw [<-h2,List.take_append_drop],by rw [List.length_take];omega⟩
 ·cases h
theorem aFp:tY 29 rAt:=lQ (bP gU λ_=>bP cC λ_=>bP cC λ_=>bP cC λ_=>bP eE λ_=>gV eE) (by omega)
end Go.Proofs.YtleihcnongldbaaGreatDoor
namespace Go.Proofs.YtleihcnongldbaaGreatDoor
open Go.Proofs Go.RowKit
theorem yJ (n:Nat) (h:n < 18446744073709551616):IntKind.u64.wrap (n:Int)=(n:Int):=by
 have e:IntKind.u64.wrap (n:Int)=((n:Int) % 18446744073709551616):=by
  unfold IntKind.wrap
  rfl
 rw [e];omega
theorem aL0 {x c:Nat}(hx:x < 72057594037927936) (hc:c < 256):bits .or .u64 (IntKind.u64.wrap ((x:Int)* 2 ^ (min (8:Int).toNat IntKind.u64.bits))) (c:Int)=((256 * x+c:Nat):Int):=by
 have h1:IntKind.u64.wrap ((x:Int)* 2 ^ (min (8:Int).toNat IntKind.u64.bits))=((256 * x:Nat):Int):=by
  have e:(min (8:Int).toNat IntKind.u64.bits)=8:=rfl
  rw [e]
  have:((x:Int)* 2 ^ 8)=((256 * x:Nat):Int):=by omega
  rw [this]
  exact yJ _ (by omega)
 rw [h1]
 have h2:(256 * x ||| c)=256 * x+c:=by
  have:=Nat.two_pow_add_eq_or_of_lt (i:=8) (b:=c) (by omega) x
  simpa using this.symm
 unfold bits
 show IntKind.u64.wrap ((BitVec.ofInt 64 ((256 * x:Nat):Int) ||| BitVec.ofInt 64 (c:Int)).toNat:Int)=_
 rw [BitVec.toNat_or,BitVec.ofInt_natCast,BitVec.ofInt_natCast,BitVec.toNat_ofNat,BitVec.toNat_ofNat,Nat.mod_eq_of_lt (by omega),Nat.mod_eq_of_lt (by omega),h2]
 exact yJ _ (by omega)
theorem aLj (z:Int) (s:Nat) (hs:s<=64):IntKind.u8.wrap ((IntKind.u64.wrap z).fdiv (2 ^ (min (s:Int).toNat IntKind.u64.bits)))=((uN z / 2 ^ s % 256:Nat):Int):=by
 have e:(min (s:Int).toNat IntKind.u64.bits)=s:=by
  rw [Int.toNat_natCast];exact Nat.min_eq_left hs
 have e1:IntKind.u64.wrap z=((uN z:Nat):Int):=by
  have e:IntKind.u64.wrap z=(z % 18446744073709551616):=rfl
  rw [e];unfold uN;omega
 rw [e,e1,Int.fdiv_eq_ediv_of_nonneg _ (Int.pow_nonneg (by decide))]
 have e2:((uN z:Nat):Int) / (2 ^ s:Int)=((uN z / 2 ^ s:Nat):Int):=by
  rw [Int.natCast_ediv];rfl
 rw [e2]
 have e3: ∀k:Int,IntKind.u8.wrap k=k % 256:= λk=>rfl
 rw [e3]
 omega
theorem aQ7 (n:Nat):beN 8 n=[56,48,40,32,24,16,8,0].map λs:Nat=>UInt8.ofNat (n / 2 ^ s % 256):=by
 simp only [beN,List.nil_append,List.cons_append,Nat.div_div_eq_div_mul,List.map_cons,List.map_nil,Nat.pow_zero,Nat.div_one]
theorem aQ8 (n:Nat):beN 4 n=[24,16,8,0].map λs:Nat=>UInt8.ofNat (n / 2 ^ s % 256):=by
 simp only [beN,List.nil_append,List.cons_append,Nat.div_div_eq_div_mul,List.map_cons,List.map_nil,Nat.pow_zero,Nat.div_one]
end Go.Proofs.YtleihcnongldbaaGreatDoor
namespace Go.Proofs.YtleihcnongldbaaGreatDoor
open Go.Proofs
set_option maxRecDepth 10000
attribute [local irreducible] aO aH Tri aG YVC cL bB
theorem fL (bs:List UInt8) (m:Nat) (hm:m<=8) (hp0:Hp) {pin:Pin}{fr:Fr}{K:SV->Hp->Prop}
  (hok:m<=bs.length->K (.d (.int .u64 (deN (bs.take m)))) ((3, .cells 131 [.d (.sl 1 ((bs.drop m).map aV))])::hp0))
  (hno:bs.length < m->pin.kp fr ((3, .cells 131 [.d (.sl 1 (bs.map aV))])::hp0)):
  aH Tryz.prog pin fr ((3, .cells 131 [.d (.sl 1 (bs.map aV))])::hp0) 127 [.ptr 3 0, .d (.int .i64 m)] K:=by
 refine aI false [] hty Tryz.func127 rfl (kp [0,1,4,6,9,10,11,12]) 100 (by simp [Tryz.f127]) ?_
 ((conv=>whnf);repeat ((first|(intro hq;try simp only [lnS]at hq)|refine sI ?_|refine .intro _ (.intro rfl ?_));(conv=>whnf)))
 refine rU bs m hp0 (λhle=> ?_) (λhlt=>hno hlt)
 have hlen:(bs.take m).length=m:=by rw [List.length_take];omega
 replace hok:=hok hle
 generalize bs.take m=c at *
 generalize bs.drop m=r at *
 ((conv=>whnf);repeat ((first|(intro hq;try simp only [lnS]at hq)|refine sI ?_|refine .intro _ (.intro rfl ?_));(conv=>whnf)))
 refine sH hty (λj:Nat=>([(4, .d (.int .u64 ((deN (c.take j):Nat):Int))),(9, .d (.sl 1 (c.map aV))),(10, .d (.int .i64 c.length)),(11, .d (.int .i64 j))],(3, .cells 131 [.d (.sl 1 (r.map aV))])::hp0)) (λj=>j<=c.length) (λj=>c.length - j) 0 (by omega) (by repeat' (first|exact trivial|exact rfl|(rw [List.length_map];exact rfl)|refine And.intro ?_ ?_)) rfl ?_
 intro j hj
 ((conv=>whnf);repeat ((first|(intro hq;try simp only [lnS]at hq)|refine sI ?_|refine .intro _ (.intro rfl ?_));(conv=>whnf)))
 refine aB (λh1=> ?_) (λh1=> ?_)
 ·have hjl:j < c.length:=by omega
  have hrow:(c.map aV)[(j:Int).toNat]? =some (aV c[j]):=aZ hjl
  have hx:deN (c.take j) < 72057594037927936:=by
   have h2:=tK j (c.take j) (by rw [List.length_take];omega)
   have h3:256 ^ j<=256 ^ 7:=Nat.pow_le_pow_right (by decide) (by omega)
   have h4:(256:Nat) ^ 7=72057594037927936:=by decide
   omega
  have hc:(c[j]).toNat < 256:=c[j].toNat_lt
  have hn:deN (c.take (j+1))=256 * deN (c.take j)+(c[j]).toNat:=by rw [List.take_succ_eq_append_getElem hjl,xV]
  have ho:=aL0 hx hc
  have hw:=yJ (c[j]).toNat (by omega)
  ((conv=>whnf);repeat' ((first|(intro hq;(try simp only [lnS]at hq);(try rewrite [List.length_map]))|refine sJ ?_|refine .intro _ (.intro rfl ?_)|refine exL (k:= ?_)|(refine⟨_,hrow, ?_⟩)|refine dwR ?_|((first|refine aB ?_ ?_|refine aC ?_ ?_)<;>intro hb<;>(first|exact ddX hb|try simp only [lnS]at hb))|(refine aA ?_ ?_<;>intro hb<;>try exact dsX hb))<;>(conv=>whnf)))
  have ho2:bits .or .u64 (IntKind.u64.wrap (((deN (c.take j):Nat):Int)* 2 ^ (min (8:Int).toNat IntKind.u64.bits))) (IntKind.u64.wrap ((c[j]).toNat:Int))=((deN (c.take (j+1)):Nat):Int):=by rw [hw,hn];exact ho
  refine⟨j+1,by dsimp only;omega,by dsimp only;omega, ?_⟩
  dsimp only
  rw [<-ho2]
  exact⟨by repeat' (first|exact trivial|exact rfl|refine And.intro ?_ ?_),rfl⟩
 ·have hjl:j=c.length:=by omega
  subst hjl
  rw [List.take_length]
  ((conv=>whnf);repeat' ((first|(intro hq;(try simp only [lnS]at hq);(try rewrite [List.length_map]))|refine sJ ?_|refine .intro _ (.intro rfl ?_)|refine exL (k:= ?_)|refine dwR ?_|((first|refine aB ?_ ?_|refine aC ?_ ?_)<;>intro hb<;>(first|exact ddX hb|try simp only [lnS]at hb))|(refine aA ?_ ?_<;>intro hb<;>try exact dsX hb))<;>(conv=>whnf)))
  exact hok
end Go.Proofs.YtleihcnongldbaaGreatDoor
namespace Go.Proofs.YtleihcnongldbaaGreatDoor
open Go.Proofs
set_option maxRecDepth 10000
attribute [local irreducible] aO aH Tri aG YVC cL bB
def RdC {α:Type}(f:FuncId) (r:Rd α) (e:α->SV):Prop:= ∀(bs:List UInt8) (hp0:Hp) {pin:Pin}{fr:Fr}{K:SV->Hp->Prop}
  (_: ∀x c,r bs=some (x,c)->K (e x) ((3, .cells 131 [.d (.sl 1 (c.map aV))])::hp0))
  (_:r bs=none-> ∀b:List UInt8,pin.kp fr ((3, .cells 131 [.d (.sl 1 (b.map aV))])::hp0)),
  aH Tryz.prog pin fr ((3, .cells 131 [.d (.sl 1 (bs.map aV))])::hp0) f [.ptr 3 0] K
theorem wX {bs:List UInt8}{m:Nat}(h:m<=bs.length):jN m bs=some (bs.take m,bs.drop m):=if_pos h
theorem wZ {bs:List UInt8}{m:Nat}(h:bs.length < m):jN m bs=none:=if_neg (by omega)
theorem xB {bs:List UInt8}{m:Nat}(h:m<=bs.length):aBf m bs=some (deN (bs.take m),bs.drop m):=bH (wX h)
theorem xD {bs:List UInt8}{m:Nat}(h:bs.length < m):aBf m bs=none:=dF (wZ h)
theorem aO4 (n:Nat) (h:n < 18446744073709551616):IntKind.i64.wrap (n:Int)=sgN n:=by
 unfold sgN
 rw [IntKind.wrap_i64]
 split<;>omega
theorem aF9:RdC 90 yW (λz=> .d (.int .i64 z)):=by
 intro bs hp0 pin fr K hok hno
 refine aI false [] hty Tryz.func90 rfl (kp [0,2]) 100 (by simp [Tryz.f90]) ?_
 ((conv=>whnf);repeat ((first|(intro hq;try simp only [lnS]at hq)|refine sI ?_|refine .intro _ (.intro rfl ?_));(conv=>whnf)))
 refine fL bs 8 (by omega) hp0 (λhle=> ?_) (λhlt=>hno (dF (xD hlt)) bs)
 have h1:=hok _ _ (bH (f:=sgN) (xB hle))
 rw [<-aO4 _ (tK 8 (bs.take 8) (by rw [List.length_take];omega))]at h1
 ((conv=>whnf);repeat' ((first|(intro hq;(try simp only [lnS]at hq);(try rewrite [List.length_map]))|refine sJ ?_|refine .intro _ (.intro rfl ?_)|refine exL (k:= ?_)|refine dwR ?_|((first|refine aB ?_ ?_|refine aC ?_ ?_)<;>intro hb<;>(first|exact ddX hb|try simp only [lnS]at hb))|(refine aA ?_ ?_<;>intro hb<;>try exact dsX hb))<;>(conv=>whnf)))
 exact h1
theorem aHy:RdC 137 (nW (aBf 1) λn=>(n:Int)) (λz=> .d (.int .i64 z)):=by
 intro bs hp0 pin fr K hok hno
 refine aI false [] hty Tryz.func137 rfl (kp [0,2]) 100 (by simp [Tryz.f137]) ?_
 ((conv=>whnf);repeat ((first|(intro hq;try simp only [lnS]at hq)|refine sI ?_|refine .intro _ (.intro rfl ?_));(conv=>whnf)))
 refine fL bs 1 (by omega) hp0 (λhle=> ?_) (λhlt=>hno (dF (xD hlt)) bs)
 have h1:=hok _ _ (bH (f:= λn:Nat=>(n:Int)) (xB hle))
 have h2:=tK 1 (bs.take 1) (by rw [List.length_take];omega)
 have h3:IntKind.i64.wrap ((deN (bs.take 1):Nat):Int)=((deN (bs.take 1):Nat):Int):=IntWalk.i64_in _ (by omega)
 dsimp only at h1
 rw [<-h3]at h1
 ((conv=>whnf);repeat' ((first|(intro hq;(try simp only [lnS]at hq);(try rewrite [List.length_map]))|refine sJ ?_|refine .intro _ (.intro rfl ?_)|refine exL (k:= ?_)|refine dwR ?_|((first|refine aB ?_ ?_|refine aC ?_ ?_)<;>intro hb<;>(first|exact ddX hb|try simp only [lnS]at hb))|(refine aA ?_ ?_<;>intro hb<;>try exact dsX hb))<;>(conv=>whnf)))
 exact h1
theorem aKf:RdC 80 (bZ (aBf 4) jN) (λs=> .d (.str s)):=by
 intro bs hp0 pin fr K hok hno
 refine aI false [] hty Tryz.func80 rfl (kp [0,2]) 100 (by simp [Tryz.f80]) ?_
 ((conv=>whnf);repeat ((first|(intro hq;try simp only [lnS]at hq)|refine sI ?_|refine .intro _ (.intro rfl ?_));(conv=>whnf)))
 refine fL bs 4 (by omega) hp0 (λhle=> ?_) (λhlt=>hno (aN (xD hlt)) bs)
 have h2:=tK 4 (bs.take 4) (by rw [List.length_take];omega)
 have h3:IntKind.i64.wrap ((deN (bs.take 4):Nat):Int)=((deN (bs.take 4):Nat):Int):=IntWalk.i64_in _ (by omega)
 have hb:bZ (aBf 4) jN bs=jN (deN (bs.take 4)) (bs.drop 4):=aK (xB hle)
 rw [hb]at hok hno
 generalize deN (bs.take 4)=m at *
 generalize bs.drop 4=r at *
 ((conv=>whnf);repeat ((first|(intro hq;try simp only [lnS]at hq)|refine sI ?_|refine .intro _ (.intro rfl ?_));(conv=>whnf)))
 rw [h3]
 refine rU r m hp0 (λhle2=> ?_) (λhlt=>hno (wZ hlt) r)
 have h4:=hok _ _ (wX hle2)
 have h5:=pH (r.take m)
 ((conv=>whnf);repeat' ((first|(intro hq;(try simp only [lnS]at hq);(try rewrite [List.length_map]))|refine sJ ?_|refine .intro _ (.intro rfl ?_)|refine exL (k:= ?_)|refine dwR ?_|((first|refine aB ?_ ?_|refine aC ?_ ?_)<;>intro hb<;>(first|exact ddX hb|try simp only [lnS]at hb))|(refine aA ?_ ?_<;>intro hb<;>try exact dsX hb))<;>(conv=>whnf)))
 rw [h5]
 exact h4
end Go.Proofs.YtleihcnongldbaaGreatDoor
