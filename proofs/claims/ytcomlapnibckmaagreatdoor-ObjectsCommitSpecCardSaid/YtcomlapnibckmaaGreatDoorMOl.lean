/-
  Bytes: numbers in bytes, writers and readers of lists, decoding; plain. Objects: the reader takes bytes. Concepts and axioms in bytes: what is written is read again; plain. Commits, queries and alignments in bytes: what is written is read again; plain. Bytes as the program reckons them: shifting and or, the bytes of a number. Objects: the reader reads numbers. Objects: the reader reads ints, octets and texts.
  Conditions: none.
-/
import Derived.Test.YtcomlapnibckmaaGreatDoorMSw
import Derived.Test.YtcomlapnibckmaaGreatDoorMSyi
import Derived.Test.YtcomlapnibckmaaGreatDoorMAk
import Derived.Test.YtcomlapnibckmaaGreatDoorMA1
import Derived.Test.YtcomlapnibckmaaGreatDoorMSh
set_option linter.unnecessarySimpa false
set_option linter.unusedSectionVars false
set_option linter.unusedSimpArgs false
set_option linter.unusedVariables false
set_option maxHeartbeats 4000000
namespace Go.Proofs.YtcomlapnibckmaaGreatDoor
def beN:Nat->Nat->List UInt8
 | 0,_=>[]
 |k+1,n=>beN k (n / 256)++[UInt8.ofNat (n % 256)]
def deN (l:List UInt8):Nat:=l.foldl (λx c=>256 * x+c.toNat) 0
theorem aQ: ∀k n,(beN k n).length=k
 | 0,_=>rfl
 |k+1,n=>by rw [beN,List.length_append,aQ k];rfl
theorem mL (l:List UInt8) (c:UInt8):deN (l++[c])=256 * deN l+c.toNat:=by
 unfold deN;rw [List.foldl_append];rfl
theorem aAn: ∀k n,deN (beN k n)=n % 256 ^ k
 | 0,n=>by simp [beN,deN,Nat.mod_one]
 |k+1,n=>by
  rw [beN,mL,aAn k,Nat.pow_succ,Nat.mul_comm (256 ^ k) 256,Nat.mod_mul]
  have h:(UInt8.ofNat (n % 256)).toNat=n % 256:=by simp
  rw [h];omega
theorem lV: ∀(k:Nat) (l:List UInt8),l.length=k->deN l < 256 ^ k
 | 0,l,h=>by rw [List.length_eq_zero_iff.1 h];decide
 |k+1,l,h=>by
  obtain⟨m,c,rfl⟩: ∃m c,l=m++[c]:=by
   rcases List.eq_nil_or_concat l with e|⟨m,c,e⟩
   ·rw [e]at h;cases h
   ·exact⟨m,c,by rw [e,List.concat_eq_append]⟩
  rw [List.length_append]at h
  have h1:=lV k m (by simpa using h)
  have h2:=c.toNat_lt
  rw [mL,Nat.pow_succ]
  omega
def uN (z:Int):Nat:=(z % 18446744073709551616).toNat
def sgN (n:Nat):Int:=if n < 9223372036854775808 then (n:Int)else (n:Int) - 18446744073709551616
theorem aFl (z:Int):uN z < 18446744073709551616:=by unfold uN;omega
theorem aFr {z:Int}(h1: -9223372036854775808<=z) (h2:z<=9223372036854775807):sgN (uN z)=z:=by
 unfold sgN uN;split<;>omega
abbrev Rd (α:Type):=List UInt8->Option (α×List UInt8)
section
variable {α β:Type}
def aBo (a:α):Rd α:= λb=>some (a,b)
def kL (r:Rd α) (f:α->β):Rd β:= λb=>(r b).map λp=>(f p.1,p.2)
def bV (r:Rd α) (f:α->Rd β):Rd β:= λb=>(r b).bind λp=>f p.1 p.2
def eO (n:Nat):Rd (List UInt8):= λb=>if n<=b.length then some (b.take n,b.drop n)else none
def sB (k:Nat):Rd Nat:=kL (eO k) deN
def jD (r:Rd α):Nat->Rd (List α)
 | 0=>aBo []
 |n+1=>bV r λx=>kL (jD r n) (x:: ·)
def dA (r:Rd α):Rd (List α):=bV (sB 4) (jD r)
theorem bU {r:Rd α}{f:α->β}{b c:List UInt8}{x:α}(h:r b=some (x,c)):kL r f b=some (f x,c):=by simp [kL,h]
theorem aU {r:Rd α}{f:α->Rd β}{b c:List UInt8}{x:α}(h:r b=some (x,c)):bV r f b=f x c:=by simp [bV,h]
theorem aK {r:Rd α}{f:α->Rd β}{b:List UInt8}(h:r b=none):bV r f b=none:=by simp [bV,h]
theorem cX {r:Rd α}{f:α->β}{b:List UInt8}(h:r b=none):kL r f b=none:=by simp [kL,h]
theorem rZ (a c:List UInt8):eO a.length (a++c)=some (a,c):=by
 unfold eO
 rw [if_pos (by rw [List.length_append];omega),List.take_left' rfl,List.drop_left' rfl]
theorem mF (k n:Nat) (c:List UInt8) (h:n < 256 ^ k):sB k (beN k n++c)=some (n,c):=by
 have h1:=rZ (beN k n) c
 rw [aQ]at h1
 unfold sB
 rw [bU h1,aAn,Nat.mod_eq_of_lt h]
theorem zQ {r:Rd α}{f:α->Rd β}{b c:List UInt8}{y:β}(h:bV r f b=some (y,c)): ∃x d,r b=some (x,d)/\f x d=some (y,c):=by
 unfold bV at h
 obtain⟨p,h1,h2⟩:=Option.bind_eq_some_iff.1 h
 exact⟨p.1,p.2,h1,h2⟩
theorem uW {r:Rd α}{f:α->β}{b c:List UInt8}{y:β}(h:kL r f b=some (y,c)): ∃x,r b=some (x,c)/\y=f x:=by
 unfold kL at h
 obtain⟨p,h1,h2⟩:=Option.map_eq_some_iff.1 h
 injection h2 with h3 h4
 exact⟨p.1,by rw [h1,<-h4],h3.symm⟩
theorem kK (r:Rd α): ∀(n:Nat) (b:List UInt8),jD r (n+1) b=(jD r n b).bind λp=>(r p.2).map λq=>(p.1++[q.1],q.2)
 | 0,b=>by
  show bV r (λx=>kL (aBo []) (x:: ·)) b=_
  cases h:r b with
  |none=>rw [aK h];simp [jD,aBo,h]
  |some p=>obtain⟨x,c⟩:=p;rw [aU h];simp [jD,aBo,kL,h]
 |n+1,b=>by
  show bV r (λx=>kL (jD r (n+1)) (x:: ·)) b=(bV r (λx=>kL (jD r n) (x:: ·)) b).bind _
  cases h:r b with
  |none=>rw [aK h,aK h];rfl
  |some p=>
   obtain⟨x,c⟩:=p
   rw [aU h,aU h]
   unfold kL
   rw [kK r n c]
   cases h2:jD r n c with
   |none=>rfl
   |some q=>
    obtain⟨l,d⟩:=q
    simp only [Option.bind_some,Option.map_some]
    cases h3:r d with
    |none=>rfl
    |some q=>rfl
theorem zO {r:Rd α}{n m:Nat}{b:List UInt8}(h:jD r n b=none) (hm:n<=m):jD r m b=none:=by
 induction m with
 | zero => obtain rfl : n = 0 := by omega
           exact h
 |succ m ih=>
  by_cases e:n=m+1
  ·rw [<-e];exact h
  ·rw [kK,ih (by omega)];rfl
def cV (w:α->List UInt8) (l:List α):List UInt8:=beN 4 l.length++(l.map w).flatten
theorem qK {r:Rd α}{w:α->List UInt8}: ∀(l:List α) (_: ∀x∈l,∀c,r (w x++c)=some (x,c)) (c:List UInt8),jD r l.length ((l.map w).flatten++c)=some (l,c)
 | [],_,c=>rfl
 |x::l,h,c=>by
  show bV r (λx=>kL (jD r l.length) (x:: ·)) _=_
  rw [List.map_cons,List.flatten_cons,List.append_assoc,aU (h x (List.mem_cons_self ..) _),bU (qK l (λy hy=>h y (List.mem_cons_of_mem _ hy)) c)]
theorem zP {r:Rd α}{w:α->List UInt8}{l:List α}(h: ∀x∈l,∀c,r (w x++c)=some (x,c)) (hl:l.length < 4294967296) (c:List UInt8):dA r (cV w l++c)=some (l,c):=by
 unfold dA cV
 rw [List.append_assoc,aU (mF 4 l.length _ hl)]
 exact qK l h c
def oE (k:Nat) (r:Rd α):Prop:= ∀b x c,r b=some (x,c)-> ∃a,b=a++c/\k<=a.length
theorem sT (n:Nat):oE n (eO n):=by
 intro b x c h
 unfold eO at h
 split at h
 ·injection h with h;injection h with h1 h2
  exact⟨b.take n,by rw [<-h2,List.take_append_drop],by rw [List.length_take];omega⟩
 ·cases h
theorem eJ {r:Rd α}{f:α->β}{k:Nat}(h:oE k r):oE k (kL r f):=by
 intro b x c e
 unfold kL at e
 obtain⟨p,h1,h2⟩:=Option.map_eq_some_iff.1 e
 injection h2 with _ h3
 exact h b p.1 c (by rw [h1,<-h3])
theorem bG {r:Rd α}{f:α->Rd β}{k j:Nat}(h:oE k r) (g: ∀x,oE j (f x)):oE (k+j) (bV r f):=by
 intro b x c e
 unfold bV at e
 obtain⟨p,h1,h2⟩:=Option.bind_eq_some_iff.1 e
 obtain⟨a1,e1,q1⟩:=h b p.1 p.2 h1
 obtain⟨a2,e2,q2⟩:=g _ _ _ _ h2
 exact⟨a1++a2,by rw [e1,e2,List.append_assoc],by rw [List.length_append];omega⟩
theorem vK {r:Rd α}{k:Nat}(h:oE k r): ∀n,oE (k * n) (jD r n)
 | 0=> λb x c e=>⟨[],by injection e with e;injection e with _ e,by simp⟩
 |n+1=>by
  have:=bG (f:= λx=>kL (jD r n) (x:: ·)) h (λx=>eJ (vK h n))
  rw [Nat.mul_succ,Nat.add_comm]
  exact this
theorem iN {r:Rd α}{k j:Nat}(h:oE k r) (hj:j<=k):oE j r:= λb x c e=>by
 obtain⟨a,h1,h2⟩:=h b x c e
 exact⟨a,h1,by omega⟩
def dW (rd:Rd α) (wr:α->List UInt8×Int) (zero:α) (bad:Int) (b:List UInt8):α×Int:=
 match rd b with
 |some (x,[])=>if wr x=(b,0)then (x,0)else (zero,bad)
 |_=>(zero,bad)
theorem sV {rd:Rd α}{wr:α->List UInt8×Int}{zero:α}{bad:Int}{b:List UInt8}{x:α}(h1:wr x=(b,0)) (h2:rd b=some (x,[])):dW rd wr zero bad b=(x,0):=by
 unfold dW
 rw [h2]
 simp only [if_pos h1]
theorem aCh {rd:Rd α}{wr:α->List UInt8×Int}{zero:α}{bad:Int}{b c:List UInt8}{x:α}(h:rd b=some (x,c)) (hc:c≠[]):dW rd wr zero bad b=(zero,bad):=by
 unfold dW
 rw [h]
 cases c with
 |nil=>exact absurd rfl hc
 |cons _ _=>rfl
theorem aEs {rd rd':Rd α}{wr:α->List UInt8×Int}{zero:α}{bad:Int}(h: ∀y d,wr y=(d,0)->rd d=some (y,[])) (h': ∀y d,wr y=(d,0)->rd' d=some (y,[])) (b:List UInt8):dW rd wr zero bad b=dW rd' wr zero bad b:=by
 have key: ∀r:Rd α,(∀y d,wr y=(d,0)->r d=some (y,[]))->(∀y,wr y=(b,0)->dW r wr zero bad b=(y,0))/\((∀y,wr y≠(b,0))->dW r wr zero bad b=(zero,bad)):=by
  intro r hr
  refine⟨λy hy=>sV hy (hr y b hy),λhn=> ?_⟩
  unfold dW
  split
  ·rw [if_neg (hn _)]
  ·rfl
 by_cases hy: ∃y,wr y=(b,0)
 ·obtain⟨y,hy⟩:=hy
  rw [(key rd h).1 y hy,(key rd' h').1 y hy]
 ·have hn: ∀y,wr y≠(b,0):= λy e=>hy ⟨y,e⟩
  rw [(key rd h).2 hn,(key rd' h').2 hn]
def wR (least:Nat):Rd Nat:= λb=>(sB 4 b).bind λp=>if p.2.length / least < p.1 then none else some p
def uX (least:Nat) (r:Rd α):Rd (List α):=bV (wR least) (jD r)
theorem nO {w:α->List UInt8}{k:Nat}(hw: ∀x,k<=(w x).length): ∀l:List α,k * l.length<=((l.map w).flatten).length
 | []=>by simp
 |x::l=>by
  have h1:=nO hw l
  have h2:=hw x
  rw [List.map_cons,List.flatten_cons,List.length_append,List.length_cons,Nat.mul_succ]
  omega
theorem wS {r:Rd α}{w:α->List UInt8}{k:Nat}(hk:0 < k) (hw: ∀x,k<=(w x).length) {l:List α}(h: ∀x∈l,∀c,r (w x++c)=some (x,c)) (hl:l.length < 4294967296) (c:List UInt8):uX k r (cV w l++c)=some (l,c):=by
 have h1:wR k (beN 4 l.length++((l.map w).flatten++c))=some (l.length,(l.map w).flatten++c):=by
  unfold wR
  rw [mF 4 l.length _ hl]
  have h2:=nO hw l
  have h3:l.length<=((l.map w).flatten++c).length / k:=by
   rw [Nat.le_div_iff_mul_le hk,List.length_append,Nat.mul_comm]
   omega
  simp only [Option.bind_some]
  rw [if_neg (by omega)]
 unfold uX cV
 rw [List.append_assoc,aU h1]
 exact qK l h c
end
end Go.Proofs.YtcomlapnibckmaaGreatDoor
namespace Go.Proofs.YtcomlapnibckmaaGreatDoor
open Go.Proofs
set_option maxRecDepth 10000
attribute [local irreducible] aL aG Tri aD YVC cP bB
theorem mR (bs:List UInt8) (m:Nat) (hp0:Hp) {pin:Pin}{fr:Fr}{K:SV->Hp->Prop}
  (hok:m<=bs.length->K (.d (.sl 1 ((bs.take m).map aO))) ((3, .cells 149 [.d (.sl 1 ((bs.drop m).map aO))])::hp0))
  (hno:bs.length < m->pin.kp fr ((3, .cells 149 [.d (.sl 1 (bs.map aO))])::hp0)):
  aG Tryz.prog pin fr ((3, .cells 149 [.d (.sl 1 (bs.map aO))])::hp0) 165 [.ptr 3 0, .d (.int .i64 m)] K:=by
 have hl:(bs.map aO).length=bs.length:=List.length_map ..
 refine aF false [] hty Tryz.func165 rfl (kp [0,1,4,11]) 100 (by simp [Tryz.f165]) ?_
 ((conv=>whnf);repeat' ((first|(intro hq;(try simp only [lnS]at hq);(try rewrite [List.length_map]))|refine sJ ?_|refine .intro _ (.intro rfl ?_)|refine exL (k:= ?_)|(refine aBu hty 19 (by kernel_rfl) (by kernel_rfl) ?_)|(refine cI hty rfl (by with_unfolding_all exact rfl) rfl rfl ?_)|refine dwR ?_|((first|refine aB ?_ ?_|refine aC ?_ ?_)<;>intro hb<;>(first|exact ddX hb|try simp only [lnS]at hb))|(refine aA ?_ ?_<;>intro hb<;>try exact dsX hb))<;>(conv=>whnf)))
 ·exact hno (by omega)
 ·have e1:List.drop 0 (List.take ((m:Nat):Int).toNat (bs.map aO))=(bs.take m).map aO:=by rw [Int.toNat_natCast,List.drop_zero,List.map_take]
  have e2:List.drop ((m:Nat):Int).toNat (List.take ((bs.length:Nat):Int).toNat (bs.map aO))=(bs.drop m).map aO:=by rw [Int.toNat_natCast,Int.toNat_natCast,List.take_of_length_le (by rw [List.length_map];exact Nat.le_refl _),List.map_drop]
  show K (SV.d (D.sl 1 (List.drop 0 (List.take ((m:Nat):Int).toNat (bs.map aO))))) ((3,HObj.cells 149 [SV.d (D.sl 1 (List.drop ((m:Nat):Int).toNat (List.take ((bs.length:Nat):Int).toNat (bs.map aO))))])::hp0)
  rw [e1,e2]
  exact hok (by omega)
end Go.Proofs.YtcomlapnibckmaaGreatDoor
namespace Go.Proofs.YtcomlapnibckmaaGreatDoor
open Go.Proofs
def rK:Rd Int:=kL (sB 8) sgN
def aF8:Rd Int:=kL (sB 1) λn=>(n:Int)
def oZ:Rd (List UInt8):=bV (sB 4) eO
abbrev Dig:={l:List UInt8 // l.length=32}
def tY:Rd Dig:= λb=>if h:32<=b.length then some (⟨b.take 32,by rw [List.length_take];omega⟩,b.drop 32)else none
def jY (d:Dig):List UInt8:=d.1
def cQ (z:Int):List UInt8:=beN 8 (uN z)
def tG (z:Int):List UInt8:=beN 1 (uN z)
def dJ (s:List UInt8):List UInt8:=beN 4 s.length++s
theorem mG {z:Int}(h1: -9223372036854775808<=z) (h2:z<=9223372036854775807) (c:List UInt8):rK (cQ z++c)=some (z,c):=by
 unfold rK cQ
 rw [bU (mF 8 (uN z) c (aFl z)),aFr h1 h2]
theorem uV {s:List UInt8}(h:s.length < 4294967296) (c:List UInt8):oZ (dJ s++c)=some (s,c):=by
 unfold oZ dJ
 rw [List.append_assoc,aU (mF 4 s.length _ h),rZ]
theorem uY (s:Dig) (c:List UInt8):tY (jY s++c)=some (s,c):=by
 obtain⟨l,h⟩:=s
 show tY (l++c)=_
 have h0:32<=(l++c).length:=by rw [List.length_append];omega
 unfold tY
 rw [dif_pos h0]
 have h1:(l++c).take 32=l:=List.take_left' h
 have h2:(l++c).drop 32=c:=List.drop_left' h
 simp only [h1,h2]
mutual
def wC:Cn->List UInt8
 | .mk k n lo hi ps=>tG k++(dJ n++(cQ lo++(cQ hi++(beN 4 ps.length++(wCs ps).flatten))))
def wCs:List Cn->List (List UInt8)
 | []=>[]
 |c::r=>wC c::wCs r
end
theorem yI: ∀l,wCs l=l.map wC
 | []=>rfl
 |c::r=>by rw [wCs,yI r];rfl
theorem aDt (c:Cn):wC c=tG c.kind++(dJ c.name++(cQ c.lo++(cQ c.hi++cV wC c.parts))):=by
 cases c;rw [wC,yI];rfl
def rC:Nat->Rd Cn
 | 0=> λ_=>none
 |k+1=>bV aF8 λkd=>bV oZ λn=>bV rK λlo=>bV rK λhi=>kL (dA (rC k)) (Cn.mk kd n lo hi)
def OkC:Nat->Cn->Prop
 | 0,_=>False
 |k+1,c=>(0<=c.kind/\c.kind<=255)/\c.name.length < 4294967296/\(-9223372036854775808<=c.lo/\c.lo<=9223372036854775807)/\(-9223372036854775808<=c.hi/\c.hi<=9223372036854775807)/\c.parts.length < 4294967296/\ ∀p∈c.parts,OkC k p
theorem OkC.up: ∀{k j:Nat}{c:Cn},OkC k c->k<=j->OkC j c
 | 0,_,_,h,_=>h.elim
 |k+1,0,_,_,h=>absurd h (by omega)
 |k+1,j+1,c,⟨a,b,e,f,g,h⟩,hj=>⟨a,b,e,f,g,λp hp=>(h p hp).up (by omega)⟩
def wB (o:Bool):List UInt8:=tG (if o then 1 else 0)
def wA (x:Ax):List UInt8:=tG x.kind++(wB x.isopen++(wC x.left++(wC x.right++(cV dJ x.roles++(dJ x.role++(dJ x.a++dJ x.b))))))
def wAs (l:List Ax):List UInt8:=cV wA l
def rB:Rd Bool:=kL aF8 λz=>decide (z=1)
def rA (m:Nat):Rd Ax:=bV aF8 λk=>bV rB λo=>bV (rC m) λl=>bV (rC m) λr=>bV (dA oZ) λrs=>bV oZ λs1=>bV oZ λs2=>kL oZ λs3=>⟨k,o,l,r,rs,s1,s2,s3⟩
def rAs (m:Nat):Rd (List Ax):=dA (rA m)
theorem dF (k:Nat):oE k (sB k):=eJ (sT k)
theorem dG:oE 8 rK:=eJ (dF 8)
theorem eI:oE 1 aF8:=eJ (dF 1)
theorem bW:oE 4 oZ:=iN (bG (j:=0) (dF 4) λn=>iN (sT n) (Nat.zero_le _)) (by omega)
theorem fG {α:Type}{r:Rd α}{k:Nat}(h:oE k r):oE 4 (dA r):=iN (bG (j:=0) (dF 4) λn=>iN (vK h n) (Nat.zero_le _)) (by omega)
theorem pN: ∀k,oE 25 (rC k)
 | 0=> λb x c e=>by cases e
 |k+1=>iN (bG eI λ_=>bG bW λ_=>bG dG λ_=>bG dG λ_=>eJ (fG (pN k))) (by omega)
theorem aG8:oE 1 rB:=eJ eI
theorem aG9 (m:Nat):oE 68 (rA m):=iN (bG eI λ_=>bG aG8 λ_=>bG (pN m) λ_=>bG (pN m) λ_=>bG (fG bW) λ_=>bG bW λ_=>bG bW λ_=>eJ bW) (by omega)
end Go.Proofs.YtcomlapnibckmaaGreatDoor
namespace Go.Proofs.YtcomlapnibckmaaGreatDoor
open Go.Proofs
structure Cm where
 no:Int
 parents:List Int
 base:Dig
 message:List UInt8
def InI (z:Int):Prop:= -9223372036854775808<=z/\z<=9223372036854775807
def rCm:Rd Cm:=bV rK λn=>bV (dA rK) λps=>bV tY λb=>kL oZ λm=>⟨n,ps,b,m⟩
def wCm (c:Cm):List UInt8:=cQ c.no++(cV cQ c.parents++(jY c.base++dJ c.message))
def aId (c:Cm):Prop:=InI c.no/\(c.parents.length < 4294967296/\ ∀z∈c.parents,InI z)/\c.message.length < 4294967296
theorem aE9 {c:Cm}(h:aId c) (d:List UInt8):rCm (wCm c++d)=some (c,d):=by
 obtain⟨a,⟨b1,b2⟩,f⟩:=h
 unfold rCm wCm
 simp only [List.append_assoc]
 rw [aU (mG a.1 a.2 _),aU (zP (λz hz=>mG (b2 z hz).1 (b2 z hz).2) b1 _),aU (uY _ _),bU (uV f d)]
structure At where
 kind:Int
 name:List UInt8
 x:List UInt8
 y:List UInt8
 lo:Int
 hi:Int
structure Qy where
 told:List (List UInt8)
 parts:List (List At)
def rAt:Rd At:=bV aF8 λk=>bV oZ λn=>bV oZ λx=>bV oZ λy=>bV rK λlo=>kL rK λhi=>⟨k,n,x,y,lo,hi⟩
def rQy:Rd Qy:=bV (dA oZ) λt=>kL (dA (dA rAt)) λp=>⟨t,p⟩
structure Al where
 name:List UInt8
 base:Dig
 axioms:List Ax
 pub:Dig
 index:Int
 parts:List Dig
 path:List Dig
def wAl (a:Al):List UInt8:=dJ a.name++(jY a.base++(wAs a.axioms++(jY a.pub++(cQ a.index++(cV jY a.parts++cV jY a.path)))))
theorem aCd:oE 32 tY:=by
 intro b x c h
 unfold tY at h
 split at h
 ·injection h with h;injection h with h1 h2
  exact⟨b.take 32,by rw [<-h2,List.take_append_drop],by rw [List.length_take];omega⟩
 ·cases h
theorem aAl:oE 29 rAt:=iN (bG eI λ_=>bG bW λ_=>bG bW λ_=>bG bW λ_=>bG dG λ_=>eJ dG) (by omega)
end Go.Proofs.YtcomlapnibckmaaGreatDoor
namespace Go.Proofs.YtcomlapnibckmaaGreatDoor
open Go.Proofs Go.RowKit
theorem eU (n:Nat) (h:n < 18446744073709551616):IntKind.u64.wrap (n:Int)=(n:Int):=by
 have e:IntKind.u64.wrap (n:Int)=((n:Int) % 18446744073709551616):=by
  unfold IntKind.wrap
  rfl
 rw [e];omega
theorem aEg {x c:Nat}(hx:x < 72057594037927936) (hc:c < 256):bits .or .u64 (IntKind.u64.wrap ((x:Int)* 2 ^ (min (8:Int).toNat IntKind.u64.bits))) (c:Int)=((256 * x+c:Nat):Int):=by
 have h1:IntKind.u64.wrap ((x:Int)* 2 ^ (min (8:Int).toNat IntKind.u64.bits))=((256 * x:Nat):Int):=by
  have e:(min (8:Int).toNat IntKind.u64.bits)=8:=rfl
  rw [e]
  have:((x:Int)* 2 ^ 8)=((256 * x:Nat):Int):=by omega
  rw [this]
  exact eU _ (by omega)
 rw [h1]
 have h2:(256 * x ||| c)=256 * x+c:=by
  have:=Nat.two_pow_add_eq_or_of_lt (i:=8) (b:=c) (by omega) x
  simpa using this.symm
 unfold bits
 show IntKind.u64.wrap ((BitVec.ofInt 64 ((256 * x:Nat):Int) ||| BitVec.ofInt 64 (c:Int)).toNat:Int)=_
 rw [BitVec.toNat_or,BitVec.ofInt_natCast,BitVec.ofInt_natCast,BitVec.toNat_ofNat,BitVec.toNat_ofNat,Nat.mod_eq_of_lt (by omega),Nat.mod_eq_of_lt (by omega),h2]
 exact eU _ (by omega)
theorem aEx (z:Int) (s:Nat) (hs:s<=64):IntKind.u8.wrap ((IntKind.u64.wrap z).fdiv (2 ^ (min (s:Int).toNat IntKind.u64.bits)))=((uN z / 2 ^ s % 256:Nat):Int):=by
 have e:(min (s:Int).toNat IntKind.u64.bits)=s:=by
  rw [Int.toNat_natCast];exact Nat.min_eq_left hs
 have e1:IntKind.u64.wrap z=((uN z:Nat):Int):=by
  have e:IntKind.u64.wrap z=(z % 18446744073709551616):=rfl
  rw [e];unfold uN;omega
 rw [e,e1,Int.fdiv_eq_ediv_of_nonneg _ (Int.pow_nonneg (by decide))]
 have e2:((uN z:Nat):Int) / (2 ^ s:Int)=((uN z / 2 ^ s:Nat):Int):=by
  rw [Int.natCast_ediv];rfl
 rw [e2]
 have e3: ∀k:Int,IntKind.u8.wrap k=k % 256:= λk=>rfl
 rw [e3]
 omega
theorem aIm (n:Nat):beN 8 n=[56,48,40,32,24,16,8,0].map λs:Nat=>UInt8.ofNat (n / 2 ^ s % 256):=by
 simp only [beN,List.nil_append,List.cons_append,Nat.div_div_eq_div_mul,List.map_cons,List.map_nil,Nat.pow_zero,Nat.div_one]
theorem aIn (n:Nat):beN 4 n=[24,16,8,0].map λs:Nat=>UInt8.ofNat (n / 2 ^ s % 256):=by
 simp only [beN,List.nil_append,List.cons_append,Nat.div_div_eq_div_mul,List.map_cons,List.map_nil,Nat.pow_zero,Nat.div_one]
end Go.Proofs.YtcomlapnibckmaaGreatDoor
namespace Go.Proofs.YtcomlapnibckmaaGreatDoor
open Go.Proofs
set_option maxRecDepth 10000
attribute [local irreducible] aL aG Tri aD YVC cP bB
theorem dK (bs:List UInt8) (m:Nat) (hm:m<=8) (hp0:Hp) {pin:Pin}{fr:Fr}{K:SV->Hp->Prop}
  (hok:m<=bs.length->K (.d (.int .u64 (deN (bs.take m)))) ((3, .cells 149 [.d (.sl 1 ((bs.drop m).map aO))])::hp0))
  (hno:bs.length < m->pin.kp fr ((3, .cells 149 [.d (.sl 1 (bs.map aO))])::hp0)):
  aG Tryz.prog pin fr ((3, .cells 149 [.d (.sl 1 (bs.map aO))])::hp0) 164 [.ptr 3 0, .d (.int .i64 m)] K:=by
 refine aF false [] hty Tryz.func164 rfl (kp [0,1,4,6,9,10,11,12]) 100 (by simp [Tryz.f164]) ?_
 ((conv=>whnf);repeat ((first|(intro hq;try simp only [lnS]at hq)|refine sI ?_|refine .intro _ (.intro rfl ?_));(conv=>whnf)))
 refine mR bs m hp0 (λhle=> ?_) (λhlt=>hno hlt)
 have hlen:(bs.take m).length=m:=by rw [List.length_take];omega
 replace hok:=hok hle
 generalize bs.take m=c at *
 generalize bs.drop m=r at *
 ((conv=>whnf);repeat ((first|(intro hq;try simp only [lnS]at hq)|refine sI ?_|refine .intro _ (.intro rfl ?_));(conv=>whnf)))
 refine uC hty (λj:Nat=>([(4, .d (.int .u64 ((deN (c.take j):Nat):Int))),(9, .d (.sl 1 (c.map aO))),(10, .d (.int .i64 c.length)),(11, .d (.int .i64 j))],(3, .cells 149 [.d (.sl 1 (r.map aO))])::hp0)) (λj=>j<=c.length) (λj=>c.length - j) 0 (by omega) (by repeat' (first|exact trivial|exact rfl|(rw [List.length_map];exact rfl)|refine And.intro ?_ ?_)) rfl ?_
 intro j hj
 ((conv=>whnf);repeat ((first|(intro hq;try simp only [lnS]at hq)|refine sI ?_|refine .intro _ (.intro rfl ?_));(conv=>whnf)))
 refine aB (λh1=> ?_) (λh1=> ?_)
 ·have hjl:j < c.length:=by omega
  have hrow:(c.map aO)[(j:Int).toNat]? =some (aO c[j]):=cC hjl
  have hx:deN (c.take j) < 72057594037927936:=by
   have h2:=lV j (c.take j) (by rw [List.length_take];omega)
   have h3:256 ^ j<=256 ^ 7:=Nat.pow_le_pow_right (by decide) (by omega)
   have h4:(256:Nat) ^ 7=72057594037927936:=by decide
   omega
  have hc:(c[j]).toNat < 256:=c[j].toNat_lt
  have hn:deN (c.take (j+1))=256 * deN (c.take j)+(c[j]).toNat:=by rw [List.take_succ_eq_append_getElem hjl,mL]
  have ho:=aEg hx hc
  have hw:=eU (c[j]).toNat (by omega)
  ((conv=>whnf);repeat' ((first|(intro hq;(try simp only [lnS]at hq);(try rewrite [List.length_map]))|refine sJ ?_|refine .intro _ (.intro rfl ?_)|refine exL (k:= ?_)|(refine⟨_,hrow, ?_⟩)|refine dwR ?_|((first|refine aB ?_ ?_|refine aC ?_ ?_)<;>intro hb<;>(first|exact ddX hb|try simp only [lnS]at hb))|(refine aA ?_ ?_<;>intro hb<;>try exact dsX hb))<;>(conv=>whnf)))
  have ho2:bits .or .u64 (IntKind.u64.wrap (((deN (c.take j):Nat):Int)* 2 ^ (min (8:Int).toNat IntKind.u64.bits))) (IntKind.u64.wrap ((c[j]).toNat:Int))=((deN (c.take (j+1)):Nat):Int):=by rw [hw,hn];exact ho
  refine⟨j+1,by dsimp only;omega,by dsimp only;omega, ?_⟩
  dsimp only
  rw [<-ho2]
  exact⟨by repeat' (first|exact trivial|exact rfl|refine And.intro ?_ ?_),rfl⟩
 ·have hjl:j=c.length:=by omega
  subst hjl
  rw [List.take_length]
  ((conv=>whnf);repeat' ((first|(intro hq;(try simp only [lnS]at hq);(try rewrite [List.length_map]))|refine sJ ?_|refine .intro _ (.intro rfl ?_)|refine exL (k:= ?_)|refine dwR ?_|((first|refine aB ?_ ?_|refine aC ?_ ?_)<;>intro hb<;>(first|exact ddX hb|try simp only [lnS]at hb))|(refine aA ?_ ?_<;>intro hb<;>try exact dsX hb))<;>(conv=>whnf)))
  exact hok
end Go.Proofs.YtcomlapnibckmaaGreatDoor
namespace Go.Proofs.YtcomlapnibckmaaGreatDoor
open Go.Proofs
set_option maxRecDepth 10000
attribute [local irreducible] aL aG Tri aD YVC cP bB
def RdC {α:Type}(f:FuncId) (r:Rd α) (e:α->SV):Prop:= ∀(bs:List UInt8) (hp0:Hp) {pin:Pin}{fr:Fr}{K:SV->Hp->Prop}
  (_: ∀x c,r bs=some (x,c)->K (e x) ((3, .cells 149 [.d (.sl 1 (c.map aO))])::hp0))
  (_:r bs=none-> ∀b:List UInt8,pin.kp fr ((3, .cells 149 [.d (.sl 1 (b.map aO))])::hp0)),
  aG Tryz.prog pin fr ((3, .cells 149 [.d (.sl 1 (bs.map aO))])::hp0) f [.ptr 3 0] K
theorem qI {bs:List UInt8}{m:Nat}(h:m<=bs.length):eO m bs=some (bs.take m,bs.drop m):=if_pos h
theorem qJ {bs:List UInt8}{m:Nat}(h:bs.length < m):eO m bs=none:=if_neg (by omega)
theorem qL {bs:List UInt8}{m:Nat}(h:m<=bs.length):sB m bs=some (deN (bs.take m),bs.drop m):=bU (qI h)
theorem qM {bs:List UInt8}{m:Nat}(h:bs.length < m):sB m bs=none:=cX (qJ h)
theorem aFh (n:Nat) (h:n < 18446744073709551616):IntKind.i64.wrap (n:Int)=sgN n:=by
 unfold sgN
 rw [IntKind.wrap_i64]
 split<;>omega
theorem aA3:RdC 106 rK (λz=> .d (.int .i64 z)):=by
 intro bs hp0 pin fr K hok hno
 refine aF false [] hty Tryz.func106 rfl (kp [0,2]) 100 (by simp [Tryz.f106]) ?_
 ((conv=>whnf);repeat ((first|(intro hq;try simp only [lnS]at hq)|refine sI ?_|refine .intro _ (.intro rfl ?_));(conv=>whnf)))
 refine dK bs 8 (by omega) hp0 (λhle=> ?_) (λhlt=>hno (cX (qM hlt)) bs)
 have h1:=hok _ _ (bU (f:=sgN) (qL hle))
 rw [<-aFh _ (lV 8 (bs.take 8) (by rw [List.length_take];omega))]at h1
 ((conv=>whnf);repeat' ((first|(intro hq;(try simp only [lnS]at hq);(try rewrite [List.length_map]))|refine sJ ?_|refine .intro _ (.intro rfl ?_)|refine exL (k:= ?_)|refine dwR ?_|((first|refine aB ?_ ?_|refine aC ?_ ?_)<;>intro hb<;>(first|exact ddX hb|try simp only [lnS]at hb))|(refine aA ?_ ?_<;>intro hb<;>try exact dsX hb))<;>(conv=>whnf)))
 exact h1
theorem aC4:RdC 174 (kL (sB 1) λn=>(n:Int)) (λz=> .d (.int .i64 z)):=by
 intro bs hp0 pin fr K hok hno
 refine aF false [] hty Tryz.func174 rfl (kp [0,2]) 100 (by simp [Tryz.f174]) ?_
 ((conv=>whnf);repeat ((first|(intro hq;try simp only [lnS]at hq)|refine sI ?_|refine .intro _ (.intro rfl ?_));(conv=>whnf)))
 refine dK bs 1 (by omega) hp0 (λhle=> ?_) (λhlt=>hno (cX (qM hlt)) bs)
 have h1:=hok _ _ (bU (f:= λn:Nat=>(n:Int)) (qL hle))
 have h2:=lV 1 (bs.take 1) (by rw [List.length_take];omega)
 have h3:IntKind.i64.wrap ((deN (bs.take 1):Nat):Int)=((deN (bs.take 1):Nat):Int):=IntWalk.i64_in _ (by omega)
 dsimp only at h1
 rw [<-h3]at h1
 ((conv=>whnf);repeat' ((first|(intro hq;(try simp only [lnS]at hq);(try rewrite [List.length_map]))|refine sJ ?_|refine .intro _ (.intro rfl ?_)|refine exL (k:= ?_)|refine dwR ?_|((first|refine aB ?_ ?_|refine aC ?_ ?_)<;>intro hb<;>(first|exact ddX hb|try simp only [lnS]at hb))|(refine aA ?_ ?_<;>intro hb<;>try exact dsX hb))<;>(conv=>whnf)))
 exact h1
theorem aDz:RdC 100 (bV (sB 4) eO) (λs=> .d (.str s)):=by
 intro bs hp0 pin fr K hok hno
 refine aF false [] hty Tryz.func100 rfl (kp [0,2]) 100 (by simp [Tryz.f100]) ?_
 ((conv=>whnf);repeat ((first|(intro hq;try simp only [lnS]at hq)|refine sI ?_|refine .intro _ (.intro rfl ?_));(conv=>whnf)))
 refine dK bs 4 (by omega) hp0 (λhle=> ?_) (λhlt=>hno (aK (qM hlt)) bs)
 have h2:=lV 4 (bs.take 4) (by rw [List.length_take];omega)
 have h3:IntKind.i64.wrap ((deN (bs.take 4):Nat):Int)=((deN (bs.take 4):Nat):Int):=IntWalk.i64_in _ (by omega)
 have hb:bV (sB 4) eO bs=eO (deN (bs.take 4)) (bs.drop 4):=aU (qL hle)
 rw [hb]at hok hno
 generalize deN (bs.take 4)=m at *
 generalize bs.drop 4=r at *
 ((conv=>whnf);repeat ((first|(intro hq;try simp only [lnS]at hq)|refine sI ?_|refine .intro _ (.intro rfl ?_));(conv=>whnf)))
 rw [h3]
 refine mR r m hp0 (λhle2=> ?_) (λhlt=>hno (qJ hlt) r)
 have h4:=hok _ _ (qI hle2)
 have h5:=eM (r.take m)
 ((conv=>whnf);repeat' ((first|(intro hq;(try simp only [lnS]at hq);(try rewrite [List.length_map]))|refine sJ ?_|refine .intro _ (.intro rfl ?_)|refine exL (k:= ?_)|refine dwR ?_|((first|refine aB ?_ ?_|refine aC ?_ ?_)<;>intro hb<;>(first|exact ddX hb|try simp only [lnS]at hb))|(refine aA ?_ ?_<;>intro hb<;>try exact dsX hb))<;>(conv=>whnf)))
 rw [h5]
 exact h4
end Go.Proofs.YtcomlapnibckmaaGreatDoor
