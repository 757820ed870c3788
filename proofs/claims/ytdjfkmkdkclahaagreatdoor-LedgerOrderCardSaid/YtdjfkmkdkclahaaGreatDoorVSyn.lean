/-
  Bytes: numbers in bytes, writers and readers of lists, decoding; plain. Objects: the reader takes bytes. Concepts and axioms in bytes: what is written is read again; plain. Commits, queries and alignments in bytes: what is written is read again; plain. Bytes as the program reckons them: shifting and or, the bytes of a number. Objects: the reader reads numbers. Objects: the reader reads ints, octets and texts. A contract over the callee's own few objects, under other numbers, in any memory of the caller's.
  Conditions: none.
-/
import Derived.Test.YtdjfkmkdkclahaaGreatDoorVSna
import Derived.Test.YtdjfkmkdkclahaaGreatDoorVSyi
import Derived.Test.YtdjfkmkdkclahaaGreatDoorVA1
import Derived.Test.YtdjfkmkdkclahaaGreatDoorVSi
import Derived.Test.YtdjfkmkdkclahaaGreatDoorVSq
set_option linter.unnecessarySimpa false
set_option linter.unusedSectionVars false
set_option linter.unusedSimpArgs false
set_option linter.unusedVariables false
set_option maxHeartbeats 4000000
namespace Go.Proofs.YtdjfkmkdkclahaaGreatDoor
def beN:Nat->Nat->List UInt8
 | 0,_=>[]
 |k+1,n=>beN k (n / 256)++[UInt8.ofNat (n % 256)]
def deN (l:List UInt8):Nat:=l.foldl (λx c=>256 * x+c.toNat) 0
theorem aU: ∀k n,(beN k n).length=k
 | 0,_=>rfl
 |k+1,n=>by rw [beN,List.length_append,aU k];rfl
theorem lS (l:List UInt8) (c:UInt8):deN (l++[c])=256 * deN l+c.toNat:=by
 unfold deN;rw [List.foldl_append];rfl
theorem zU: ∀k n,deN (beN k n)=n % 256 ^ k
 | 0,n=>by simp [beN,deN,Nat.mod_one]
 |k+1,n=>by
  rw [beN,lS,zU k,Nat.pow_succ,Nat.mul_comm (256 ^ k) 256,Nat.mod_mul]
  have h:(UInt8.ofNat (n % 256)).toNat=n % 256:=by simp
  rw [h];omega
theorem jR: ∀(k:Nat) (l:List UInt8),l.length=k->deN l < 256 ^ k
 | 0,l,h=>by rw [List.length_eq_zero_iff.1 h];decide
 |k+1,l,h=>by
  obtain⟨m,c,rfl⟩: ∃m c,l=m++[c]:=by
   rcases List.eq_nil_or_concat l with e|⟨m,c,e⟩
   ·rw [e]at h;cases h
   ·exact⟨m,c,by rw [e,List.concat_eq_append]⟩
  rw [List.length_append]at h
  have h1:=jR k m (by simpa using h)
  have h2:=c.toNat_lt
  rw [lS,Nat.pow_succ]
  omega
def uN (z:Int):Nat:=(z % 18446744073709551616).toNat
def sgN (n:Nat):Int:=if n < 9223372036854775808 then (n:Int)else (n:Int) - 18446744073709551616
theorem aO0 (z:Int):uN z < 18446744073709551616:=by unfold uN;omega
theorem aKx {z:Int}(h1: -9223372036854775808<=z) (h2:z<=9223372036854775807):sgN (uN z)=z:=by
 unfold sgN uN;split<;>omega
theorem aRt {n:Nat}(h:n < 18446744073709551616): -9223372036854775808<=sgN n/\sgN n<=9223372036854775807:=by
 unfold sgN;split<;>omega
abbrev Rd (α:Type):=List UInt8->Option (α×List UInt8)
section
variable {α β:Type}
def aOm (a:α):Rd α:= λb=>some (a,b)
def pJ (r:Rd α) (f:α->β):Rd β:= λb=>(r b).map λp=>(f p.1,p.2)
def dG (r:Rd α) (f:α->Rd β):Rd β:= λb=>(r b).bind λp=>f p.1 p.2
def lW (n:Nat):Rd (List UInt8):= λb=>if n<=b.length then some (b.take n,b.drop n)else none
def aA6 (k:Nat):Rd Nat:=pJ (lW k) deN
def sS (r:Rd α):Nat->Rd (List α)
 | 0=>aOm []
 |n+1=>dG r λx=>pJ (sS r n) (x:: ·)
def kJ (r:Rd α):Rd (List α):=dG (aA6 4) (sS r)
theorem bS {r:Rd α}{f:α->β}{b c:List UInt8}{x:α}(h:r b=some (x,c)):pJ r f b=some (f x,c):=by simp [pJ,h]
theorem aZ {r:Rd α}{f:α->Rd β}{b c:List UInt8}{x:α}(h:r b=some (x,c)):dG r f b=f x c:=by simp [dG,h]
theorem bK {r:Rd α}{f:α->Rd β}{b:List UInt8}(h:r b=none):dG r f b=none:=by simp [dG,h]
theorem dY {r:Rd α}{f:α->β}{b:List UInt8}(h:r b=none):pJ r f b=none:=by simp [pJ,h]
theorem aEe (a c:List UInt8):lW a.length (a++c)=some (a,c):=by
 unfold lW
 rw [if_pos (by rw [List.length_append];omega),List.take_left' rfl,List.drop_left' rfl]
theorem pY (k n:Nat) (c:List UInt8) (h:n < 256 ^ k):aA6 k (beN k n++c)=some (n,c):=by
 have h1:=aEe (beN k n) c
 rw [aU]at h1
 unfold aA6
 rw [bS h1,zU,Nat.mod_eq_of_lt h]
theorem aL8 {r:Rd α}{f:α->Rd β}{b c:List UInt8}{y:β}(h:dG r f b=some (y,c)): ∃x d,r b=some (x,d)/\f x d=some (y,c):=by
 unfold dG at h
 obtain⟨p,h1,h2⟩:=Option.bind_eq_some_iff.1 h
 exact⟨p.1,p.2,h1,h2⟩
theorem aHf {r:Rd α}{f:α->β}{b c:List UInt8}{y:β}(h:pJ r f b=some (y,c)): ∃x,r b=some (x,c)/\y=f x:=by
 unfold pJ at h
 obtain⟨p,h1,h2⟩:=Option.map_eq_some_iff.1 h
 injection h2 with h3 h4
 exact⟨p.1,by rw [h1,<-h4],h3.symm⟩
theorem pW (r:Rd α): ∀(n:Nat) (b:List UInt8),sS r (n+1) b=(sS r n b).bind λp=>(r p.2).map λq=>(p.1++[q.1],q.2)
 | 0,b=>by
  show dG r (λx=>pJ (aOm []) (x:: ·)) b=_
  cases h:r b with
  |none=>rw [bK h];simp [sS,aOm,h]
  |some p=>obtain⟨x,c⟩:=p;rw [aZ h];simp [sS,aOm,pJ,h]
 |n+1,b=>by
  show dG r (λx=>pJ (sS r (n+1)) (x:: ·)) b=(dG r (λx=>pJ (sS r n) (x:: ·)) b).bind _
  cases h:r b with
  |none=>rw [bK h,bK h];rfl
  |some p=>
   obtain⟨x,c⟩:=p
   rw [aZ h,aZ h]
   unfold pJ
   rw [pW r n c]
   cases h2:sS r n c with
   |none=>rfl
   |some q=>
    obtain⟨l,d⟩:=q
    simp only [Option.bind_some,Option.map_some]
    cases h3:r d with
    |none=>rfl
    |some q=>rfl
theorem aL5 {r:Rd α}{n m:Nat}{b:List UInt8}(h:sS r n b=none) (hm:n<=m):sS r m b=none:=by
 induction m with
 | zero => obtain rfl : n = 0 := by omega
           exact h
 |succ m ih=>
  by_cases e:n=m+1
  ·rw [<-e];exact h
  ·rw [pW,ih (by omega)];rfl
def bL (w:α->List UInt8) (l:List α):List UInt8:=beN 4 l.length++(l.map w).flatten
theorem aCp {r:Rd α}{w:α->List UInt8}: ∀(l:List α) (_: ∀x∈l,∀c,r (w x++c)=some (x,c)) (c:List UInt8),sS r l.length ((l.map w).flatten++c)=some (l,c)
 | [],_,c=>rfl
 |x::l,h,c=>by
  show dG r (λx=>pJ (sS r l.length) (x:: ·)) _=_
  rw [List.map_cons,List.flatten_cons,List.append_assoc,aZ (h x (List.mem_cons_self ..) _),bS (aCp l (λy hy=>h y (List.mem_cons_of_mem _ hy)) c)]
theorem xJ {r:Rd α}{w:α->List UInt8}{l:List α}(h: ∀x∈l,∀c,r (w x++c)=some (x,c)) (hl:l.length < 4294967296) (c:List UInt8):kJ r (bL w l++c)=some (l,c):=by
 unfold kJ bL
 rw [List.append_assoc,aZ (pY 4 l.length _ hl)]
 exact aCp l h c
def aDn (k:Nat) (r:Rd α):Prop:= ∀b x c,r b=some (x,c)-> ∃a,b=a++c/\k<=a.length
theorem zR (n:Nat):aDn n (lW n):=by
 intro b x c h
 unfold lW at h
 split at h
 ·injection h with h;injection h with h1 h2
  exact⟨b.take n,by rw [<-h2,List.take_append_drop],by rw [List.length_take];omega⟩
 ·cases h
theorem rY {r:Rd α}{f:α->β}{k:Nat}(h:aDn k r):aDn k (pJ r f):=by
 intro b x c e
 unfold pJ at e
 obtain⟨p,h1,h2⟩:=Option.map_eq_some_iff.1 e
 injection h2 with _ h3
 exact h b p.1 c (by rw [h1,<-h3])
theorem fD {r:Rd α}{f:α->Rd β}{k j:Nat}(h:aDn k r) (g: ∀x,aDn j (f x)):aDn (k+j) (dG r f):=by
 intro b x c e
 unfold dG at e
 obtain⟨p,h1,h2⟩:=Option.bind_eq_some_iff.1 e
 obtain⟨a1,e1,q1⟩:=h b p.1 p.2 h1
 obtain⟨a2,e2,q2⟩:=g _ _ _ _ h2
 exact⟨a1++a2,by rw [e1,e2,List.append_assoc],by rw [List.length_append];omega⟩
theorem aI8 {r:Rd α}{k:Nat}(h:aDn k r): ∀n,aDn (k * n) (sS r n)
 | 0=> λb x c e=>⟨[],by injection e with e;injection e with _ e,by simp⟩
 |n+1=>by
  have:=fD (f:= λx=>pJ (sS r n) (x:: ·)) h (λx=>rY (aI8 h n))
  rw [Nat.mul_succ,Nat.add_comm]
  exact this
theorem zS {r:Rd α}{k j:Nat}(h:aDn k r) (hj:j<=k):aDn j r:= λb x c e=>by
 obtain⟨a,h1,h2⟩:=h b x c e
 exact⟨a,h1,by omega⟩
def eF (rd:Rd α) (wr:α->List UInt8×Int) (zero:α) (bad:Int) (b:List UInt8):α×Int:=
 match rd b with
 |some (x,[])=>if wr x=(b,0)then (x,0)else (zero,bad)
 |_=>(zero,bad)
theorem zT {rd:Rd α}{wr:α->List UInt8×Int}{zero:α}{bad:Int}{b:List UInt8}{x:α}(h1:wr x=(b,0)) (h2:rd b=some (x,[])):eF rd wr zero bad b=(x,0):=by
 unfold eF
 rw [h2]
 simp only [if_pos h1]
theorem aMr {rd rd':Rd α}{wr:α->List UInt8×Int}{zero:α}{bad:Int}(h: ∀y d,wr y=(d,0)->rd d=some (y,[])) (h': ∀y d,wr y=(d,0)->rd' d=some (y,[])) (b:List UInt8):eF rd wr zero bad b=eF rd' wr zero bad b:=by
 have key: ∀r:Rd α,(∀y d,wr y=(d,0)->r d=some (y,[]))->(∀y,wr y=(b,0)->eF r wr zero bad b=(y,0))/\((∀y,wr y≠(b,0))->eF r wr zero bad b=(zero,bad)):=by
  intro r hr
  refine⟨λy hy=>zT hy (hr y b hy),λhn=> ?_⟩
  unfold eF
  split
  ·rw [if_neg (hn _)]
  ·rfl
 by_cases hy: ∃y,wr y=(b,0)
 ·obtain⟨y,hy⟩:=hy
  rw [(key rd h).1 y hy,(key rd' h').1 y hy]
 ·have hn: ∀y,wr y≠(b,0):= λy e=>hy ⟨y,e⟩
  rw [(key rd h).2 hn,(key rd' h').2 hn]
def aJ9 (least:Nat):Rd Nat:= λb=>(aA6 4 b).bind λp=>if p.2.length / least < p.1 then none else some p
def aBd (least:Nat) (r:Rd α):Rd (List α):=dG (aJ9 least) (sS r)
theorem zK {w:α->List UInt8}{k:Nat}(hw: ∀x,k<=(w x).length): ∀l:List α,k * l.length<=((l.map w).flatten).length
 | []=>by simp
 |x::l=>by
  have h1:=zK hw l
  have h2:=hw x
  rw [List.map_cons,List.flatten_cons,List.length_append,List.length_cons,Nat.mul_succ]
  omega
theorem sT {r:Rd α}{w:α->List UInt8}{k:Nat}(hk:0 < k) (hw: ∀x,k<=(w x).length) {l:List α}(h: ∀x∈l,∀c,r (w x++c)=some (x,c)) (hl:l.length < 4294967296) (c:List UInt8):aBd k r (bL w l++c)=some (l,c):=by
 have h1:aJ9 k (beN 4 l.length++((l.map w).flatten++c))=some (l.length,(l.map w).flatten++c):=by
  unfold aJ9
  rw [pY 4 l.length _ hl]
  have h2:=zK hw l
  have h3:l.length<=((l.map w).flatten++c).length / k:=by
   rw [Nat.le_div_iff_mul_le hk,List.length_append,Nat.mul_comm]
   omega
  simp only [Option.bind_some]
  rw [if_neg (by omega)]
 unfold aBd bL
 rw [List.append_assoc,aZ h1]
 exact aCp l h c
end
end Go.Proofs.YtdjfkmkdkclahaaGreatDoor
namespace Go.Proofs.YtdjfkmkdkclahaaGreatDoor
open Go.Proofs
set_option maxRecDepth 10000
attribute [local irreducible] aL aH Tri aI YVC bP aS
theorem aOs {pv:Option (TypeId->Value->Prop)}{t:TypeId}{v:Value}{K:Prop}(h:pv=none) (k:K):pvK pv t v K:=by
 rw [h];exact k
theorem aE2 (bs:List UInt8) (m:Nat) (hp0:Hp) {pin:Pin}{fr:Fr}{K:SV->Hp->Prop}
  (hok:m<=bs.length->K (.d (.sl 1 ((bs.take m).map aP))) ((3, .cells 194 [.d (.sl 1 ((bs.drop m).map aP))])::hp0))
  (hno:bs.length < m->pin.kp fr ((3, .cells 194 [.d (.sl 1 (bs.map aP))])::hp0)) (hpv:pin.pv=none):
  aH Tryz.prog pin fr ((3, .cells 194 [.d (.sl 1 (bs.map aP))])::hp0) 217 [.ptr 3 0, .d (.int .i64 m)] K:=by
 have hl:(bs.map aP).length=bs.length:=List.length_map ..
 refine aM false [] hty Tryz.func217 rfl (kp [0,1,4,11]) 100 (by simp [Tryz.f217]) ?_
 ((conv=>whnf);repeat' ((first|(intro hq;(try simp only [lnS]at hq);(try rewrite [List.length_map]))|refine sJ ?_|refine .intro _ (.intro rfl ?_)|refine exL (k:= ?_)|(refine wC hty 19 (by kernel_rfl) (by kernel_rfl) ?_)|(refine pN hty rfl (by with_unfolding_all exact rfl) rfl rfl ?_)|refine dwR ?_|((first|refine aC ?_ ?_|refine aD ?_ ?_)<;>intro hb<;>(first|exact ddX hb|try simp only [lnS]at hb))|(refine aB ?_ ?_<;>intro hb<;>try exact dsX hb))<;>(conv=>whnf)))
 ·exact aOs hpv (hno (by omega))
 ·have e1:List.drop 0 (List.take ((m:Nat):Int).toNat (bs.map aP))=(bs.take m).map aP:=by rw [Int.toNat_natCast,List.drop_zero,List.map_take]
  have e2:List.drop ((m:Nat):Int).toNat (List.take ((bs.length:Nat):Int).toNat (bs.map aP))=(bs.drop m).map aP:=by rw [Int.toNat_natCast,Int.toNat_natCast,List.take_of_length_le (by rw [List.length_map];exact Nat.le_refl _),List.map_drop]
  show K (SV.d (D.sl 1 (List.drop 0 (List.take ((m:Nat):Int).toNat (bs.map aP))))) ((3,HObj.cells 194 [SV.d (D.sl 1 (List.drop ((m:Nat):Int).toNat (List.take ((bs.length:Nat):Int).toNat (bs.map aP))))])::hp0)
  rw [e1,e2]
  exact hok (by omega)
end Go.Proofs.YtdjfkmkdkclahaaGreatDoor
namespace Go.Proofs.YtdjfkmkdkclahaaGreatDoor
open Go.Proofs
def aEi:Rd Int:=pJ (aA6 8) sgN
def aTd:Rd Int:=pJ (aA6 1) λn=>(n:Int)
def aFp:Rd (List UInt8):=dG (aA6 4) lW
def gK (z:Int):List UInt8:=beN 8 (uN z)
def vS (z:Int):List UInt8:=beN 1 (uN z)
def bR (s:List UInt8):List UInt8:=beN 4 s.length++s
theorem wB {z:Int}(h1: -9223372036854775808<=z) (h2:z<=9223372036854775807) (c:List UInt8):aEi (gK z++c)=some (z,c):=by
 unfold aEi gK
 rw [bS (pY 8 (uN z) c (aO0 z)),aKx h1 h2]
theorem aOn {z:Int}(h1:0<=z) (h2:z<=255) (c:List UInt8):aTd (vS z++c)=some (z,c):=by
 unfold aTd vS
 have h:uN z < 256 ^ 1:=by unfold uN;omega
 rw [bS (pY 1 (uN z) c h)]
 have:((uN z:Nat):Int)=z:=by unfold uN;omega
 rw [this]
theorem lK {s:List UInt8}(h:s.length < 4294967296) (c:List UInt8):aFp (bR s++c)=some (s,c):=by
 unfold aFp bR
 rw [List.append_assoc,aZ (pY 4 s.length _ h),aEe]
def OkC:Nat->Cn->Prop
 | 0,_=>False
 |k+1,c=>(0<=c.kind/\c.kind<=255)/\c.name.length < 4294967296/\(-9223372036854775808<=c.lo/\c.lo<=9223372036854775807)/\(-9223372036854775808<=c.hi/\c.hi<=9223372036854775807)/\c.parts.length < 4294967296/\ ∀p∈c.parts,OkC k p
theorem OkC.up: ∀{k j:Nat}{c:Cn},OkC k c->k<=j->OkC j c
 | 0,_,_,h,_=>h.elim
 |k+1,0,_,_,h=>absurd h (by omega)
 |k+1,j+1,c,⟨a,b,e,f,g,h⟩,hj=>⟨a,b,e,f,g,λp hp=>(h p hp).up (by omega)⟩
theorem gS (k:Nat):aDn k (aA6 k):=rY (zR k)
theorem rZ:aDn 8 aEi:=rY (gS 8)
theorem aI9:aDn 1 aTd:=rY (gS 1)
theorem gR:aDn 4 aFp:=zS (fD (j:=0) (gS 4) λn=>zS (zR n) (Nat.zero_le _)) (by omega)
theorem aFc {α:Type}{r:Rd α}{k:Nat}(h:aDn k r):aDn 4 (kJ r):=zS (fD (j:=0) (gS 4) λn=>zS (aI8 h n) (Nat.zero_le _)) (by omega)
end Go.Proofs.YtdjfkmkdkclahaaGreatDoor
namespace Go.Proofs.YtdjfkmkdkclahaaGreatDoor
open Go.Proofs
def InI (z:Int):Prop:= -9223372036854775808<=z/\z<=9223372036854775807
structure At where
 kind:Int
 name:List UInt8
 x:List UInt8
 y:List UInt8
 lo:Int
 hi:Int
structure Qy where
 told:List (List UInt8)
 parts:List (List At)
def rAt:Rd At:=dG aTd λk=>dG aFp λn=>dG aFp λx=>dG aFp λy=>dG aEi λlo=>pJ aEi λhi=>⟨k,n,x,y,lo,hi⟩
def wAt (a:At):List UInt8:=vS a.kind++(bR a.name++(bR a.x++(bR a.y++(gK a.lo++gK a.hi))))
def aX3 (a:At):Prop:=(0<=a.kind/\a.kind<=255)/\a.name.length < 4294967296/\a.x.length < 4294967296/\a.y.length < 4294967296/\InI a.lo/\InI a.hi
theorem aLa {a:At}(h:aX3 a) (d:List UInt8):rAt (wAt a++d)=some (a,d):=by
 obtain⟨⟨a1,a2⟩,b,e,f,g,i⟩:=h
 unfold rAt wAt
 simp only [List.append_assoc]
 rw [aZ (aOn a1 a2 _),aZ (lK b _),aZ (lK e _),aZ (lK f _),aZ (wB g.1 g.2 _),bS (wB i.1 i.2 d)]
def rQy:Rd Qy:=dG (kJ aFp) λt=>pJ (kJ (kJ rAt)) λp=>⟨t,p⟩
def wQy (q:Qy):List UInt8:=bL bR q.told++bL (bL wAt) q.parts
def aXf (q:Qy):Prop:=(q.told.length < 4294967296/\ ∀s∈q.told,s.length < 4294967296)/\q.parts.length < 4294967296/\ ∀p∈q.parts,p.length < 4294967296/\ ∀a∈p,aX3 a
theorem aRw {q:Qy}(h:aXf q) (d:List UInt8):rQy (wQy q++d)=some (q,d):=by
 obtain⟨⟨a1,a2⟩,b,e⟩:=h
 unfold rQy wQy
 simp only [List.append_assoc]
 rw [aZ (xJ (λs hs=>lK (a2 s hs)) a1 _),bS (xJ (λp hp=>xJ (λa ha=>aLa ((e p hp).2 a ha)) (e p hp).1) b d)]
theorem aMj:aDn 29 rAt:=zS (fD aI9 λ_=>fD gR λ_=>fD gR λ_=>fD gR λ_=>fD rZ λ_=>rY rZ) (by omega)
end Go.Proofs.YtdjfkmkdkclahaaGreatDoor
namespace Go.Proofs.YtdjfkmkdkclahaaGreatDoor
open Go.Proofs Go.RowKit
theorem gJ (n:Nat) (h:n < 18446744073709551616):IntKind.u64.wrap (n:Int)=(n:Int):=by
 have e:IntKind.u64.wrap (n:Int)=((n:Int) % 18446744073709551616):=by
  unfold IntKind.wrap
  rfl
 rw [e];omega
theorem aLf {x c:Nat}(hx:x < 72057594037927936) (hc:c < 256):bits .or .u64 (IntKind.u64.wrap ((x:Int)* 2 ^ (min (8:Int).toNat IntKind.u64.bits))) (c:Int)=((256 * x+c:Nat):Int):=by
 have h1:IntKind.u64.wrap ((x:Int)* 2 ^ (min (8:Int).toNat IntKind.u64.bits))=((256 * x:Nat):Int):=by
  have e:(min (8:Int).toNat IntKind.u64.bits)=8:=rfl
  rw [e]
  have:((x:Int)* 2 ^ 8)=((256 * x:Nat):Int):=by omega
  rw [this]
  exact gJ _ (by omega)
 rw [h1]
 have h2:(256 * x ||| c)=256 * x+c:=by
  have:=Nat.two_pow_add_eq_or_of_lt (i:=8) (b:=c) (by omega) x
  simpa using this.symm
 unfold bits
 show IntKind.u64.wrap ((BitVec.ofInt 64 ((256 * x:Nat):Int) ||| BitVec.ofInt 64 (c:Int)).toNat:Int)=_
 rw [BitVec.toNat_or,BitVec.ofInt_natCast,BitVec.ofInt_natCast,BitVec.toNat_ofNat,BitVec.toNat_ofNat,Nat.mod_eq_of_lt (by omega),Nat.mod_eq_of_lt (by omega),h2]
 exact gJ _ (by omega)
theorem aT4 (z:Int) (s:Nat) (hs:s<=64):IntKind.u8.wrap ((IntKind.u64.wrap z).fdiv (2 ^ (min (s:Int).toNat IntKind.u64.bits)))=((uN z / 2 ^ s % 256:Nat):Int):=by
 have e:(min (s:Int).toNat IntKind.u64.bits)=s:=by
  rw [Int.toNat_natCast];exact Nat.min_eq_left hs
 have e1:IntKind.u64.wrap z=((uN z:Nat):Int):=by
  have e:IntKind.u64.wrap z=(z % 18446744073709551616):=rfl
  rw [e];unfold uN;omega
 rw [e,e1,Int.fdiv_eq_ediv_of_nonneg _ (Int.pow_nonneg (by decide))]
 have e2:((uN z:Nat):Int) / (2 ^ s:Int)=((uN z / 2 ^ s:Nat):Int):=by
  rw [Int.natCast_ediv];rfl
 rw [e2]
 have e3: ∀k:Int,IntKind.u8.wrap k=k % 256:= λk=>rfl
 rw [e3]
 omega
theorem aXt (n:Nat):beN 8 n=[56,48,40,32,24,16,8,0].map λs:Nat=>UInt8.ofNat (n / 2 ^ s % 256):=by
 simp only [beN,List.nil_append,List.cons_append,Nat.div_div_eq_div_mul,List.map_cons,List.map_nil,Nat.pow_zero,Nat.div_one]
theorem aXu (n:Nat):beN 4 n=[24,16,8,0].map λs:Nat=>UInt8.ofNat (n / 2 ^ s % 256):=by
 simp only [beN,List.nil_append,List.cons_append,Nat.div_div_eq_div_mul,List.map_cons,List.map_nil,Nat.pow_zero,Nat.div_one]
end Go.Proofs.YtdjfkmkdkclahaaGreatDoor
namespace Go.Proofs.YtdjfkmkdkclahaaGreatDoor
open Go.Proofs
set_option maxRecDepth 10000
attribute [local irreducible] aL aH Tri aI YVC bP aS
theorem fH (bs:List UInt8) (m:Nat) (hm:m<=8) (hp0:Hp) {pin:Pin}{fr:Fr}{K:SV->Hp->Prop}
  (hok:m<=bs.length->K (.d (.int .u64 (deN (bs.take m)))) ((3, .cells 194 [.d (.sl 1 ((bs.drop m).map aP))])::hp0))
  (hno:bs.length < m->pin.kp fr ((3, .cells 194 [.d (.sl 1 (bs.map aP))])::hp0)) (hpv:pin.pv=none):
  aH Tryz.prog pin fr ((3, .cells 194 [.d (.sl 1 (bs.map aP))])::hp0) 216 [.ptr 3 0, .d (.int .i64 m)] K:=by
 refine aM false [] hty Tryz.func216 rfl (kp [0,1,4,6,9,10,11,12]) 100 (by simp [Tryz.f216]) ?_
 ((conv=>whnf);repeat ((first|(intro hq;try simp only [lnS]at hq)|refine sI ?_|refine .intro _ (.intro rfl ?_));(conv=>whnf)))
 refine aE2 bs m hp0 (λhle=> ?_) (λhlt=>hno hlt) hpv
 have hlen:(bs.take m).length=m:=by rw [List.length_take];omega
 replace hok:=hok hle
 generalize bs.take m=c at *
 generalize bs.drop m=r at *
 ((conv=>whnf);repeat ((first|(intro hq;try simp only [lnS]at hq)|refine sI ?_|refine .intro _ (.intro rfl ?_));(conv=>whnf)))
 refine sV hty (λj:Nat=>([(4, .d (.int .u64 ((deN (c.take j):Nat):Int))),(9, .d (.sl 1 (c.map aP))),(10, .d (.int .i64 c.length)),(11, .d (.int .i64 j))],(3, .cells 194 [.d (.sl 1 (r.map aP))])::hp0)) (λj=>j<=c.length) (λj=>c.length - j) 0 (by omega) (by repeat' (first|exact trivial|exact rfl|(rw [List.length_map];exact rfl)|refine And.intro ?_ ?_)) rfl ?_
 intro j hj
 ((conv=>whnf);repeat ((first|(intro hq;try simp only [lnS]at hq)|refine sI ?_|refine .intro _ (.intro rfl ?_));(conv=>whnf)))
 refine aC (λh1=> ?_) (λh1=> ?_)
 ·have hjl:j < c.length:=by omega
  have hrow:(c.map aP)[(j:Int).toNat]? =some (aP c[j]):=aO hjl
  have hx:deN (c.take j) < 72057594037927936:=by
   have h2:=jR j (c.take j) (by rw [List.length_take];omega)
   have h3:256 ^ j<=256 ^ 7:=Nat.pow_le_pow_right (by decide) (by omega)
   have h4:(256:Nat) ^ 7=72057594037927936:=by decide
   omega
  have hc:(c[j]).toNat < 256:=c[j].toNat_lt
  have hn:deN (c.take (j+1))=256 * deN (c.take j)+(c[j]).toNat:=by rw [List.take_succ_eq_append_getElem hjl,lS]
  have ho:=aLf hx hc
  have hw:=gJ (c[j]).toNat (by omega)
  ((conv=>whnf);repeat' ((first|(intro hq;(try simp only [lnS]at hq);(try rewrite [List.length_map]))|refine sJ ?_|refine .intro _ (.intro rfl ?_)|refine exL (k:= ?_)|(refine⟨_,hrow, ?_⟩)|refine dwR ?_|((first|refine aC ?_ ?_|refine aD ?_ ?_)<;>intro hb<;>(first|exact ddX hb|try simp only [lnS]at hb))|(refine aB ?_ ?_<;>intro hb<;>try exact dsX hb))<;>(conv=>whnf)))
  have ho2:bits .or .u64 (IntKind.u64.wrap (((deN (c.take j):Nat):Int)* 2 ^ (min (8:Int).toNat IntKind.u64.bits))) (IntKind.u64.wrap ((c[j]).toNat:Int))=((deN (c.take (j+1)):Nat):Int):=by rw [hw,hn];exact ho
  refine⟨j+1,by dsimp only;omega,by dsimp only;omega, ?_⟩
  dsimp only
  rw [<-ho2]
  exact⟨by repeat' (first|exact trivial|exact rfl|refine And.intro ?_ ?_),rfl⟩
 ·have hjl:j=c.length:=by omega
  subst hjl
  rw [List.take_length]
  ((conv=>whnf);repeat' ((first|(intro hq;(try simp only [lnS]at hq);(try rewrite [List.length_map]))|refine sJ ?_|refine .intro _ (.intro rfl ?_)|refine exL (k:= ?_)|refine dwR ?_|((first|refine aC ?_ ?_|refine aD ?_ ?_)<;>intro hb<;>(first|exact ddX hb|try simp only [lnS]at hb))|(refine aB ?_ ?_<;>intro hb<;>try exact dsX hb))<;>(conv=>whnf)))
  exact hok
end Go.Proofs.YtdjfkmkdkclahaaGreatDoor
namespace Go.Proofs.YtdjfkmkdkclahaaGreatDoor
open Go.Proofs
set_option maxRecDepth 10000
attribute [local irreducible] aL aH Tri aI YVC bP aS
def RdC {α:Type}(f:FuncId) (r:Rd α) (e:α->SV):Prop:= ∀(bs:List UInt8) (hp0:Hp) {pin:Pin}{fr:Fr}{K:SV->Hp->Prop}
  (_: ∀x c,r bs=some (x,c)->K (e x) ((3, .cells 194 [.d (.sl 1 (c.map aP))])::hp0))
  (_:r bs=none-> ∀b:List UInt8,pin.kp fr ((3, .cells 194 [.d (.sl 1 (b.map aP))])::hp0)) (_:pin.pv=none),
  aH Tryz.prog pin fr ((3, .cells 194 [.d (.sl 1 (bs.map aP))])::hp0) f [.ptr 3 0] K
theorem lL {bs:List UInt8}{m:Nat}(h:m<=bs.length):lW m bs=some (bs.take m,bs.drop m):=if_pos h
theorem vZ {bs:List UInt8}{m:Nat}(h:bs.length < m):lW m bs=none:=if_neg (by omega)
theorem aCq {bs:List UInt8}{m:Nat}(h:m<=bs.length):aA6 m bs=some (deN (bs.take m),bs.drop m):=bS (lL h)
theorem aCr {bs:List UInt8}{m:Nat}(h:bs.length < m):aA6 m bs=none:=dY (vZ h)
theorem aIq (n:Nat) (h:n < 18446744073709551616):IntKind.i64.wrap (n:Int)=sgN n:=by
 unfold sgN
 rw [IntKind.wrap_i64]
 split<;>omega
theorem aLo:RdC 240 aEi (λz=> .d (.int .i64 z)):=by
 intro bs hp0 pin fr K hok hno hpv
 refine aM false [] hty Tryz.func240 rfl (kp [0,2]) 100 (by simp [Tryz.f240]) ?_
 ((conv=>whnf);repeat ((first|(intro hq;try simp only [lnS]at hq)|refine sI ?_|refine .intro _ (.intro rfl ?_));(conv=>whnf)))
 refine fH bs 8 (by omega) hp0 (λhle=> ?_) (λhlt=>hno (dY (aCr hlt)) bs) hpv
 have h1:=hok _ _ (bS (f:=sgN) (aCq hle))
 rw [<-aIq _ (jR 8 (bs.take 8) (by rw [List.length_take];omega))]at h1
 ((conv=>whnf);repeat' ((first|(intro hq;(try simp only [lnS]at hq);(try rewrite [List.length_map]))|refine sJ ?_|refine .intro _ (.intro rfl ?_)|refine exL (k:= ?_)|refine dwR ?_|((first|refine aC ?_ ?_|refine aD ?_ ?_)<;>intro hb<;>(first|exact ddX hb|try simp only [lnS]at hb))|(refine aB ?_ ?_<;>intro hb<;>try exact dsX hb))<;>(conv=>whnf)))
 exact h1
theorem aP4:RdC 239 (pJ (aA6 1) λn=>(n:Int)) (λz=> .d (.int .i64 z)):=by
 intro bs hp0 pin fr K hok hno hpv
 refine aM false [] hty Tryz.func239 rfl (kp [0,2]) 100 (by simp [Tryz.f239]) ?_
 ((conv=>whnf);repeat ((first|(intro hq;try simp only [lnS]at hq)|refine sI ?_|refine .intro _ (.intro rfl ?_));(conv=>whnf)))
 refine fH bs 1 (by omega) hp0 (λhle=> ?_) (λhlt=>hno (dY (aCr hlt)) bs) hpv
 have h1:=hok _ _ (bS (f:= λn:Nat=>(n:Int)) (aCq hle))
 have h2:=jR 1 (bs.take 1) (by rw [List.length_take];omega)
 have h3:IntKind.i64.wrap ((deN (bs.take 1):Nat):Int)=((deN (bs.take 1):Nat):Int):=IntWalk.i64_in _ (by omega)
 dsimp only at h1
 rw [<-h3]at h1
 ((conv=>whnf);repeat' ((first|(intro hq;(try simp only [lnS]at hq);(try rewrite [List.length_map]))|refine sJ ?_|refine .intro _ (.intro rfl ?_)|refine exL (k:= ?_)|refine dwR ?_|((first|refine aC ?_ ?_|refine aD ?_ ?_)<;>intro hb<;>(first|exact ddX hb|try simp only [lnS]at hb))|(refine aB ?_ ?_<;>intro hb<;>try exact dsX hb))<;>(conv=>whnf)))
 exact h1
theorem aRh:RdC 183 (dG (aA6 4) lW) (λs=> .d (.str s)):=by
 intro bs hp0 pin fr K hok hno hpv
 refine aM false [] hty Tryz.func183 rfl (kp [0,2]) 100 (by simp [Tryz.f183]) ?_
 ((conv=>whnf);repeat ((first|(intro hq;try simp only [lnS]at hq)|refine sI ?_|refine .intro _ (.intro rfl ?_));(conv=>whnf)))
 refine fH bs 4 (by omega) hp0 (λhle=> ?_) (λhlt=>hno (bK (aCr hlt)) bs) hpv
 have h2:=jR 4 (bs.take 4) (by rw [List.length_take];omega)
 have h3:IntKind.i64.wrap ((deN (bs.take 4):Nat):Int)=((deN (bs.take 4):Nat):Int):=IntWalk.i64_in _ (by omega)
 have hb:dG (aA6 4) lW bs=lW (deN (bs.take 4)) (bs.drop 4):=aZ (aCq hle)
 rw [hb]at hok hno
 generalize deN (bs.take 4)=m at *
 generalize bs.drop 4=r at *
 ((conv=>whnf);repeat ((first|(intro hq;try simp only [lnS]at hq)|refine sI ?_|refine .intro _ (.intro rfl ?_));(conv=>whnf)))
 rw [h3]
 refine aE2 r m hp0 (λhle2=> ?_) (λhlt=>hno (vZ hlt) r) hpv
 have h4:=hok _ _ (lL hle2)
 have h5:=dT (r.take m)
 ((conv=>whnf);repeat' ((first|(intro hq;(try simp only [lnS]at hq);(try rewrite [List.length_map]))|refine sJ ?_|refine .intro _ (.intro rfl ?_)|refine exL (k:= ?_)|refine dwR ?_|((first|refine aC ?_ ?_|refine aD ?_ ?_)<;>intro hb<;>(first|exact ddX hb|try simp only [lnS]at hb))|(refine aB ?_ ?_<;>intro hb<;>try exact dsX hb))<;>(conv=>whnf)))
 rw [h5]
 exact h4
end Go.Proofs.YtdjfkmkdkclahaaGreatDoor
namespace Go.Proofs.YtdjfkmkdkclahaaGreatDoor
open Go.RowKit
def SV.ren (σ:Nat->Nat):SV->SV
 | .ptr i o=> .ptr (σ i) o
 | .osl i z r=> .osl (σ i) z r
 | .mw i z n=> .mw (σ i) z n
 |s=>s
def SV.sim:SV->Prop
 | .ptr _ _=>True
 | .osl _ _ _=>True
 | .mw _ _ _=>True
 |s=>s.ids=[]
def HObj.ren (σ:Nat->Nat):HObj->HObj
 | .cells t cs=> .cells t (cs.map (SV.ren σ))
 | .ro t cs=> .ro t (cs.map (SV.ren σ))
 |o=>o
def HObj.sim:HObj->Prop
 | .cells _ cs=> ∀s∈cs,s.sim
 | .ro _ cs=> ∀s∈cs,s.sim
 | .own _ _ _=>True
 | .mrow _ _ _ _=>True
 | .glob _ _ _=>True
 | .ext X=>X.ids=[]
 | .rox X=>X.ids=[]
 | .loop _ _=>False
def Env.like (a b:Env) (σ:Nat->Nat) (i:Nat):Prop:=b.blk (σ i)=a.blk i/\b.n (σ i)=a.n i/\b.tv (σ i)=a.tv i
section
variable {P:Program}
theorem Rep.noids {w:World}{ρ ρ':Env}{s:SV}{v:Value}(h:Rep w ρ s v) (hs:ρ'.S=ρ.S) (hi:s.ids=[]):Rep w ρ' s v:=
 h.mono (λ_ _ _=>rfl) (λb i x=>by rw [hs];exact x) (λid hid=>by rw [hi]at hid;cases hid)
theorem RepD.noS {w:World}{S S':Nat->Nat->Prop}{x:D}{v:Value}(h:RepD w S x v) (hs:S'=S):RepD w S' x v:=by rw [hs];exact h
theorem Rep.toRen {w:World}{a b:Env}{σ:Nat->Nat}{s:SV}{v:Value}(hs:s.sim) (hS:b.S=a.S) (hl: ∀i∈s.ids,a.like b σ i) (h:Rep w a s v):Rep w b (s.ren σ) v:=by
 cases s with
 |ptr i o=>
  cases h with
  |ptr _ _ g hg=>exact .ptr _ _ g ((hl i (by simp [SV.ids])).1.trans hg)
 |osl i z r=>
  obtain⟨_,h2,h3⟩:=hl i (by simp [SV.ids])
  cases h with
  |osl _ _ _ _ h hn ht=>exact .osl _ _ _ _ (h.noS hS) (by rw [h2];exact hn) (by rw [h2,h3];exact ht)
 |mw i z n=>
  obtain⟨_,h2,h3⟩:=hl i (by simp [SV.ids])
  cases h with
  |mw _ _ _ cap A hn hc hA h4 h5=>exact .mw _ _ _ cap A hn hc hA (by rw [h2];exact h4) (by rw [h2,h3];exact h5)
 |_=>exact h.noids hS hs
theorem Rep.ofRen {w:World}{a b:Env}{σ:Nat->Nat}{s:SV}{v:Value}(hs:s.sim) (hS:b.S=a.S) (hl: ∀i∈s.ids,a.like b σ i) (h:Rep w b (s.ren σ) v):Rep w a s v:=by
 cases s with
 |ptr i o=>
  cases h with
  |ptr _ _ g hg=>exact .ptr _ _ g ((hl i (by simp [SV.ids])).1.symm.trans hg)
 |osl i z r=>
  obtain⟨_,h2,h3⟩:=hl i (by simp [SV.ids])
  cases h with
  |osl _ _ _ _ h hn ht=>exact .osl _ _ _ _ (h.noS hS.symm) (by rw [<-h2];exact hn) (by rw [<-h2,<-h3];exact ht)
 |mw i z n=>
  obtain⟨_,h2,h3⟩:=hl i (by simp [SV.ids])
  cases h with
  |mw _ _ _ cap A hn hc hA h4 h5=>exact .mw _ _ _ cap A hn hc hA (by rw [<-h2];exact h4) (by rw [<-h2,<-h3];exact h5)
 |_=>exact h.noids hS.symm hs
theorem cP.toRen {w:World}{a b:Env}{σ:Nat->Nat}{g:Nat}{t:TypeId}{cs:List SV}(hs: ∀s∈cs,s.sim) (hS:b.S=a.S) (hl: ∀i∈SV.idsL cs,a.like b σ i) (h:cP w a g t cs):cP w b g t (cs.map (SV.ren σ)):=by
 obtain⟨cur,h1,h2,h3,h4⟩:=h
 refine⟨cur,h1,by rw [List.length_map];exact h2,h3,λj s v e1 e2=> ?_⟩
 rw [List.getElem?_map]at e1
 obtain⟨s0,e3,rfl⟩:=Option.map_eq_some_iff.1 e1
 exact(h4 j s0 v e3 e2).toRen (hs _ (List.mem_of_getElem? e3)) hS λi hi=>hl i (SV.mem_idsL e3 hi)
theorem cP.ofRen {w:World}{a b:Env}{σ:Nat->Nat}{g:Nat}{t:TypeId}{cs:List SV}(hs: ∀s∈cs,s.sim) (hS:b.S=a.S) (hl: ∀i∈SV.idsL cs,a.like b σ i) (h:cP w b g t (cs.map (SV.ren σ))):cP w a g t cs:=by
 obtain⟨cur,h1,h2,h3,h4⟩:=h
 refine⟨cur,h1,by rw [List.length_map]at h2;exact h2,h3,λj s v e1 e2=> ?_⟩
 exact(h4 j (s.ren σ) v (by rw [List.getElem?_map,e1];rfl) e2).ofRen (hs _ (List.mem_of_getElem? e1)) hS λi hi=>hl i (SV.mem_idsL e1 hi)
theorem HObj.at_ren {a b:Env}{σ:Nat->Nat}{i:Nat}{o:HObj}(hs:o.sim) (hl:a.like b σ i):b.at (σ i) (o.ren σ)=a.at i o:=by
 obtain⟨h1,h2,h3⟩:=hl
 cases o<;>simp only [HObj.ren,Env.at,h1,h3]
theorem aDm.toRen {w:World}{a b:Env}{σ:Nat->Nat}{id:Nat}{o:HObj}(hs:o.sim) (hS:b.S=a.S) (hl: ∀i,i=id\/i∈o.ids->a.like b σ i) (h:aDm w a id o):aDm w b (σ id) (o.ren σ):=by
 obtain⟨l1,l2,l3⟩:=hl id (.inl rfl)
 cases o with
 |cells t cs=>
  obtain⟨g,h1,h2,h3⟩:=h
  exact⟨g,l1.trans h1,h2.toRen hs hS λi hi=>hl i (.inr hi),λi=>by rw [hS];exact h3 i⟩
 |ro t cs=>
  obtain⟨g,h1,h2⟩:=h
  exact⟨g,l1.trans h1,h2.toRen hs hS λi hi=>hl i (.inr hi)⟩
 |own e z n=>
  obtain⟨h1,xs,h2,h3,h4⟩:=h
  refine⟨l2.trans h1,xs, ?_, ?_,h4⟩
  ·rw [l2,l3];exact h2
  ·rw [l2,l3,hS];exact h3
 |mrow e z cap rows=>
  obtain⟨h1,h2⟩:=h
  refine⟨l2.trans h1, ?_⟩
  rw [l3,hS];exact h2
 |loop L s=>exact hs.elim
 |ext X=>
  obtain⟨g,r,h1,h2,h3,h4⟩:=h
  refine⟨g,r,l1.trans h1,h2,X.keep w w a b r (λ_ _ _=>rfl) (λ_ _ x=>by rw [hS];exact x) (λi hi=> ?_) h3,λi=>by rw [hS];exact h4 i⟩
  rw [show X.ids=[]from hs]at hi;cases hi
 |glob g z rows=>
  show View w b.S z rows g 0
  rw [hS];exact h
 |rox X=>
  obtain⟨g,r,h1,h2,h3⟩:=h
  refine⟨g,r,l1.trans h1,h2,X.keep w w a b r (λ_ _ _=>rfl) (λ_ _ x=>by rw [hS];exact x) (λi hi=> ?_) h3⟩
  rw [show X.ids=[]from hs]at hi;cases hi
theorem aDm.ofRen {w:World}{a b:Env}{σ:Nat->Nat}{id:Nat}{o:HObj}(hs:o.sim) (hS:b.S=a.S) (hl: ∀i,i=id\/i∈o.ids->a.like b σ i) (h:aDm w b (σ id) (o.ren σ)):aDm w a id o:=by
 obtain⟨l1,l2,l3⟩:=hl id (.inl rfl)
 cases o with
 |cells t cs=>
  obtain⟨g,h1,h2,h3⟩:=h
  exact⟨g,l1.symm.trans h1,h2.ofRen hs hS λi hi=>hl i (.inr hi),λi=>by rw [<-hS];exact h3 i⟩
 |ro t cs=>
  obtain⟨g,h1,h2⟩:=h
  exact⟨g,l1.symm.trans h1,h2.ofRen hs hS λi hi=>hl i (.inr hi)⟩
 |own e z n=>
  obtain⟨h1,xs,h2,h3,h4⟩:=h
  refine⟨l2.symm.trans h1,xs, ?_, ?_,h4⟩
  ·rw [<-l2,<-l3];exact h2
  ·rw [<-l2,<-l3,<-hS];exact h3
 |mrow e z cap rows=>
  obtain⟨h1,h2⟩:=h
  refine⟨l2.symm.trans h1, ?_⟩
  rw [<-l3,<-hS];exact h2
 |loop L s=>exact hs.elim
 |ext X=>
  obtain⟨g,r,h1,h2,h3,h4⟩:=h
  refine⟨g,r,l1.symm.trans h1,h2,X.keep w w b a r (λ_ _ _=>rfl) (λ_ _ x=>by rw [<-hS];exact x) (λi hi=> ?_) h3,λi=>by rw [<-hS];exact h4 i⟩
  rw [show X.ids=[]from hs]at hi;cases hi
 |glob g z rows=>
  have h:View w b.S z rows g 0:=h
  rw [hS]at h;exact h
 |rox X=>
  obtain⟨g,r,h1,h2,h3⟩:=h
  refine⟨g,r,l1.symm.trans h1,h2,X.keep w w b a r (λ_ _ _=>rfl) (λ_ _ x=>by rw [<-hS];exact x) (λi hi=> ?_) h3⟩
  rw [show X.ids=[]from hs]at hi;cases hi
theorem HObj.rd_ren {σ:Nat->Nat}{o:HObj}:(o.ren σ).Rd↔o.Rd:=by cases o<;>exact Iff.rfl
def Env.pull (ρ:Env) (σ:Nat->Nat):Env:=⟨ρ.S,λi=>ρ.blk (σ i),λi=>ρ.n (σ i),λi=>ρ.tv (σ i)⟩
theorem Env.pull_like (ρ:Env) (σ:Nat->Nat) (i:Nat):(ρ.pull σ).like ρ σ i:=⟨rfl,rfl,rfl⟩
def aJy (σ:Nat->Nat) (W:List Nat) (i:Nat):Option Nat:=W.find? λk=>σ k==i
def Env.push (ρ ρ1:Env) (σ:Nat->Nat) (W:List Nat):Env:=
 ⟨ρ1.S,λi=>match aJy σ W i with|some k=>ρ1.blk k|none=>ρ.blk i,λi=>match aJy σ W i with|some k=>ρ1.n k|none=>ρ.n i,λi=>match aJy σ W i with|some k=>ρ1.tv k|none=>ρ.tv i⟩
theorem yY {σ:Nat->Nat}{W:List Nat}{i k:Nat}(h:aJy σ W i=some k):k∈W/\σ k=i:=by
 unfold aJy at h
 exact⟨List.mem_of_find?_eq_some h,by simpa using List.find?_some h⟩
theorem aSj {σ:Nat->Nat}{W:List Nat}(hinj: ∀a∈W,∀b∈W,σ a=σ b->a=b) {k:Nat}(hk:k∈W):aJy σ W (σ k)=some k:=by
 cases h:aJy σ W (σ k)with
 |none=>
  unfold aJy at h
  rw [List.find?_eq_none]at h
  exact absurd (beq_self_eq_true (σ k)) (h k hk)
 |some j=>
  obtain⟨h1,h2⟩:=yY h
  rw [hinj j h1 k hk h2]
theorem Env.push_like {ρ ρ1:Env}{σ:Nat->Nat}{W:List Nat}(hinj: ∀a∈W,∀b∈W,σ a=σ b->a=b) {k:Nat}(hk:k∈W):ρ1.like (ρ.push ρ1 σ W) σ k:=by
 unfold Env.like Env.push
 simp only [aSj hinj hk,and_self]
structure Left (σ:Nat->Nat) (W:List Nat) (h1 hp hp2:Hp):Prop where
 up: ∀k∈W,∃o,aR h1 k=some o/\o.sim/\¬ o.Rd/\(∀i∈o.ids,i∈W)/\aR hp2 (σ k)=some (o.ren σ)
 rest: ∀i o,aR hp2 i=some o->(∃k∈W,i=σ k)\/aR hp i=some o
structure Among (σ:Nat->Nat) (W:List Nat) (hpI hp:Hp):Prop where
 sub: ∀id o,aR hpI id=some o->aR hp (σ id)=some (o.ren σ)/\o.sim
 inj: ∀id o id' o',aR hpI id=some o->aR hpI id'=some o'->σ id=σ id'->id=id'
 w: ∀k∈W,∃o,aR hpI k=some o
 rd: ∀id o,aR hpI id=some o->id∈W\/ ∀ρ:Env,ρ.at id o=none
theorem Mem.framed {E:Entry}{ρ ρ1:Env}{σ:Nat->Nat}{W:List Nat}{hpI h1 hp hp2:Hp}{w w':World}{pin:Pin}{rd:Option Nat}(hm:Mem E ρ hp w) (A:Among σ W hpI hp) (L:Left σ W h1 hp hp2) (hW: ∀k∈W,k∈pin)
  (hm':Mem (bG w (ρ.pull σ) hpI pin rd E.D) ρ1 h1 w'):Mem E (ρ.push ρ1 σ W) hp2 w'/\ ∀i,ρ.moved (ρ.push ρ1 σ W) i:=by
 have hinj: ∀a∈W,∀b∈W,σ a=σ b->a=b:=by
  intro a ha b hb e
  obtain⟨o,h1⟩:=A.w a ha
  obtain⟨o',h2⟩:=A.w b hb
  exact A.inj _ _ _ _ h1 h2 e
 have hmv: ∀i,ρ.moved (ρ.push ρ1 σ W) i:=by
  intro i
  cases h:aJy σ W i with
  |none=>exact⟨by simp only [Env.push,h], .inl ⟨by simp only [Env.push,h],by simp only [Env.push,h]⟩⟩
  |some k=>
   obtain⟨k1,k2⟩:=yY h
   subst k2
   have:=hm'.mv k (hW k k1)
   unfold Env.moved at this |-
   simp only [Env.push,h]
   exact this
 have hBI: ∀b,(bG w (ρ.pull σ) hpI pin rd E.D).B b-> ∃k∈W,∃o,aR hpI k=some o/\aR hp (σ k)=some (o.ren σ)/\ρ.at (σ k) (o.ren σ)=some b:=by
  rintro b ⟨k,o,e1,e2⟩
  obtain⟨s1,s2⟩:=A.sub k o e1
  rcases A.rd k o e1 with hk|hn
  ·exact⟨k,hk,o,e1,s1,by rw [HObj.at_ren s2 (ρ.pull_like σ k)];exact e2⟩
  ·rw [hn]at e2;cases e2
 have hkp:cA ρ.S w w':=hm'.kp
 have hsold: ∀b i,ρ.S b i->ρ1.S b i:=hm'.sold
 have hother: ∀i o,aJy σ W i=none->(ρ.push ρ1 σ W).at i o=ρ.at i o:=by
  intro i o h
  cases o<;>simp only [Env.at,Env.push,h]
 have hnone: ∀i,(¬ ∃k∈W,i=σ k)->aJy σ W i=none:=by
  intro i h
  cases e:aJy σ W i with
  |none=>rfl
  |some k=>obtain⟨k1,k2⟩:=yY e;exact absurd ⟨k,k1,k2.symm⟩ h
 have hup: ∀k∈W,∀o,aR hp2 (σ k)=some o-> ∃o1,aR h1 k=some o1/\o1.sim/\¬ o1.Rd/\o=o1.ren σ/\(ρ.push ρ1 σ W).at (σ k) o=ρ1.at k o1:=by
  intro k hk o ho
  obtain⟨o1,e1,e2,e3,e4,e5⟩:=L.up k hk
  rw [e5]at ho
  injection ho with ho
  subst ho
  exact⟨o1,e1,e2,e3,rfl,HObj.at_ren e2 (Env.push_like hinj hk)⟩
 have hnotB: ∀i o g,(¬ ∃k∈W,i=σ k)->aR hp i=some o->(ρ.at i o=some g\/ρ.blk i=some g/\o.Rd)->¬ (bG w (ρ.pull σ) hpI pin rd E.D).B g:=by
  intro i o g hi ho hg hB
  obtain⟨k,k1,o',k2,k3,k4⟩:=hBI g hB
  rcases hg with hg|⟨hg,hrd⟩
  ·exact hi ⟨k,k1,hm.inj _ _ _ _ g ho k3 hg k4⟩
  ·exact hm.ro i o g ho hrd hg _ _ k3 k4
 have hlt: ∀i o g,aR hp i=some o->(ρ.at i o=some g\/ρ.blk i=some g/\o.Rd)->g < w.heap.size:=by
  intro i o g ho hg
  rcases hg with hg|⟨hg,hrd⟩
  ·exact hm.blk_lt ho hg
  ·exact hm.ro_lt ho hrd hg
 refine⟨⟨hm'.os.trans hm.os,hm'.tape.trans hm.tape,hm'.output.trans hm.output,Nat.le_trans hm.size hm'.size, ?_,λb i hs=>hsold b i (hm.sold b i hs), ?_,hm'.slt,hm.kp.trans hm.sold hkp, ?_, ?_, ?_,λid hid=>Env.moved_trans (hm.mv id hid) (hmv id), ?_,hm'.md⟩,hmv⟩
 ·intro b hb hnb
  refine(hm'.old b (Nat.lt_of_lt_of_le hb hm.size) λhB=> ?_).trans (hm.old b hb hnb)
  obtain⟨k,k1,o,k2,k3,k4⟩:=hBI b hB
  rcases hm.hb _ _ b k3 k4 with h|h
  ·omega
  ·exact hnb h
 ·intro b i hs hb hnb
  refine hm.snew b i (hm'.snew b i hs (Nat.lt_of_lt_of_le hb hm.size) λhB=> ?_) hb hnb
  obtain⟨k,k1,o,k2,k3,k4⟩:=hBI b hB
  rcases hm.hb _ _ b k3 k4 with h|h
  ·omega
  ·exact hnb h
 ·intro i o ho
  by_cases hi: ∃k∈W,i=σ k
  ·obtain⟨k,hk,rfl⟩:=hi
   obtain⟨o1,e1,e2,e3,e4,e5⟩:=L.up k hk
   rw [e5]at ho
   injection ho with ho
   subst ho
   exact aDm.toRen (a := ρ1) e2 rfl (hl := λj hj => by
    rcases hj with rfl|hj
    ·exact Env.push_like hinj hk
    ·exact Env.push_like hinj (e4 j hj)) (h:=hm'.sat k o1 e1)
  ·rcases L.rest i o ho with h|h
   ·exact absurd h hi
   ·have hn:=hnone i hi
    refine(hm.sat i o h).keep hkp hsold (λj _=>hmv j) ⟨by simp only [Env.push,hn],by simp only [Env.push,hn]⟩ ?_ ?_
    ·intro g hg
     exact hm'.old g (hlt i o g h hg) (hnotB i o g hi h hg)
    ·intro g hg j hj
     exact hm'.snew g j hj (hlt i o g h (.inl hg)) (hnotB i o g hi h (.inl hg))
 ·intro i o i' o' g h h' hg hg'
  by_cases hi: ∃k∈W,i=σ k
  ·obtain⟨k,hk,rfl⟩:=hi
   obtain⟨o1,e1,e2,e3,e4,e5⟩:=hup k hk o h
   rw [e5]at hg
   by_cases hi': ∃k∈W,i'=σ k
   ·obtain⟨k',hk',rfl⟩:=hi'
    obtain⟨o1',f1,f2,f3,f4,f5⟩:=hup k' hk' o' h'
    rw [f5]at hg'
    rw [hm'.inj _ _ _ _ g e1 f1 hg hg']
   ·rcases L.rest i' o' h' with h2|h2
    ·exact absurd h2 hi'
    ·rw [hother i' o' (hnone i' hi')]at hg'
     rcases hm'.hb k o1 g e1 hg with hge|hB
     ·have:=hlt i' o' g h2 (.inl hg')
      have hge:w.heap.size<=g:=hge
      omega
     ·exact absurd hB (hnotB i' o' g hi' h2 (.inl hg'))
  ·rcases L.rest i o h with h2|h2
   ·exact absurd h2 hi
   ·rw [hother i o (hnone i hi)]at hg
    by_cases hi': ∃k∈W,i'=σ k
    ·obtain⟨k',hk',rfl⟩:=hi'
     obtain⟨o1',f1,f2,f3,f4,f5⟩:=hup k' hk' o' h'
     rw [f5]at hg'
     rcases hm'.hb k' o1' g f1 hg' with hge|hB
     ·have:=hlt i o g h2 (.inl hg)
      have hge:w.heap.size<=g:=hge
      omega
     ·exact absurd hB (hnotB i o g hi h2 (.inl hg))
    ·rcases L.rest i' o' h' with h3|h3
     ·exact absurd h3 hi'
     ·rw [hother i' o' (hnone i' hi')]at hg'
      exact hm.inj i o i' o' g h2 h3 hg hg'
 ·intro i o g h hg
  by_cases hi: ∃k∈W,i=σ k
  ·obtain⟨k,hk,rfl⟩:=hi
   obtain⟨o1,e1,e2,e3,e4,e5⟩:=hup k hk o h
   rw [e5]at hg
   rcases hm'.hb k o1 g e1 hg with hge|hB
   ·exact .inl (Nat.le_trans hm.size hge)
   ·obtain⟨k,k1,o,k2,k3,k4⟩:=hBI g hB
    exact hm.hb _ _ g k3 k4
  ·rcases L.rest i o h with h2|h2
   ·exact absurd h2 hi
   ·rw [hother i o (hnone i hi)]at hg
    exact hm.hb i o g h2 hg
 ·intro i o g h hrd hg i' o' h' hg'
  by_cases hi: ∃k∈W,i=σ k
  ·obtain⟨k,hk,rfl⟩:=hi
   obtain⟨o1,e1,e2,e3,e4,e5⟩:=hup k hk o h
   rw [e4]at hrd
   exact e3 (HObj.rd_ren.1 hrd)
  ·rcases L.rest i o h with h2|h2
   ·exact absurd h2 hi
   ·have hg:ρ.blk i=some g:=by simpa only [Env.push,hnone i hi]using hg
    by_cases hi': ∃k∈W,i'=σ k
    ·obtain⟨k',hk',rfl⟩:=hi'
     obtain⟨o1',f1,f2,f3,f4,f5⟩:=hup k' hk' o' h'
     rw [f5]at hg'
     rcases hm'.hb k' o1' g f1 hg' with hge|hB
     ·have:=hlt i o g h2 (.inr ⟨hg,hrd⟩)
      have hge:w.heap.size<=g:=hge
      omega
     ·exact absurd hB (hnotB i o g hi h2 (.inr ⟨hg,hrd⟩))
    ·rcases L.rest i' o' h' with h3|h3
     ·exact absurd h3 hi'
     ·rw [hother i' o' (hnone i' hi')]at hg'
      exact hm.ro i o g h2 hrd hg i' o' h3 hg'
theorem Mem.pulled {E:Entry}{ρ:Env}{σ:Nat->Nat}{W:List Nat}{hpI hp:Hp}{w:World}(pin:Pin) (rd:Option Nat) (hm:Mem E ρ hp w) (A:Among σ W hpI hp):Mem (bG w (ρ.pull σ) hpI pin rd E.D) (ρ.pull σ) hpI w:=by
 refine⟨rfl,rfl, .refl _,Nat.le_refl _,λ_ _ _=>rfl,λ_ _ h=>h,λ_ _ h _ _=>h,hm.slt,λ_ _ _=>rfl, ?_, ?_,λid o _ a b=> .inr ⟨id,o,a,b⟩,λid _=>(ρ.pull σ).moved_refl id, ?_,hm.md⟩
 ·intro id o h
  obtain⟨h1,h2⟩:=A.sub id o h
  exact aDm.ofRen (b:=ρ) (σ:=σ) h2 rfl (λi _=>ρ.pull_like σ i) (hm.sat _ _ h1)
 ·intro id o id' o' g h h' hg hg'
  obtain⟨h1,h2⟩:=A.sub id o h
  obtain⟨h3,h4⟩:=A.sub id' o' h'
  rw [<-HObj.at_ren h2 (ρ.pull_like σ id)]at hg
  rw [<-HObj.at_ren h4 (ρ.pull_like σ id')]at hg'
  exact A.inj _ _ _ _ h h' (hm.inj _ _ _ _ g h1 h3 hg hg')
 ·intro id o g h hrd hg id' o' h' hg'
  obtain⟨h1,h2⟩:=A.sub id o h
  obtain⟨h3,h4⟩:=A.sub id' o' h'
  rw [<-HObj.at_ren h4 (ρ.pull_like σ id')]at hg'
  exact hm.ro _ _ g h1 (HObj.rd_ren.2 hrd) hg _ _ h3 hg'
theorem jK {pin:Pin}{fr:Fr}{hp:Hp}{f:FuncId}{args:List SV}{K:SV->Hp->Prop}(σ:Nat->Nat) (W:List Nat) (hpI:Hp) {pinI:Pin}{argsI:List SV}{KI:SV->Hp->Prop}
  (hc:aH P pinI [] hpI f argsI KI) (A:Among σ W hpI hp) (hW: ∀k∈W,k∈pinI) (hargs:args=argsI.map (SV.ren σ)) (hsim: ∀s∈argsI,s.sim)
  (hk: ∀s h1,KI s h1->s.sim/\(∀i∈s.ids,i∈W)/\ ∃hp2,Left σ W h1 hp hp2/\K (s.ren σ) hp2)
  (hkp: ∀h1,pinI.kp [] h1-> ∃hp2,Left σ W h1 hp hp2/\pin.kp fr hp2) (hpv:pin.pv=pinI.pv\/ ∀h,¬ pinI.kp [] h):aH P pin fr hp f args K:=by
 intro E ρ w tm hpin hm hf vs hv
 have hinj: ∀a∈W,∀b∈W,σ a=σ b->a=b:=by
  intro a ha b hb e
  obtain⟨o,h1⟩:=A.w a ha
  obtain⟨o',h2⟩:=A.w b hb
  exact A.inj _ _ _ _ h1 h2 e
 have hm0:=hm.pulled pinI none A
 refine(hc _ _ w #[] rfl hm0 (λt s h=>by simp [dH]at h) vs ⟨by rw [hv.1,hargs,List.length_map],λj s v hs hx=> ?_⟩).mono ?_
 ·refine Rep.ofRen (b:=ρ) (σ:=σ) (hsim s (List.mem_of_getElem? hs)) rfl (λi _=>ρ.pull_like σ i) (hv.2 j _ v ?_ hx)
  rw [hargs,List.getElem?_map,hs];rfl
 ·rintro e w' (⟨v,ρ1,s,h1,rfl,k1,k2,k3,k4⟩|⟨ch,ρ1,h1,rfl,k0,k1,k2,k3⟩)
  ·obtain⟨s1,s2,hp2,s3,s4⟩:=hk s h1 k1
   obtain⟨m1,m2⟩:=hm.framed A s3 hW k2
   exact .inl ⟨v,_,s.ren σ,hp2,rfl,s4,m1,hf.mono k2.kp k2.sold (λi _=>m2 i),Rep.toRen (a:=ρ1) s1 rfl (hl:= λi hi=>Env.push_like hinj (s2 i hi)) (h:=k4)⟩
  ·obtain⟨hp2,s3,s4⟩:=hkp h1 k1
   obtain⟨m1,m2⟩:=hm.framed A s3 hW k2
   exact .inr ⟨ch,_,hp2,rfl,hpv.elim (λe=>by rw [e];exact k0) (λe=>absurd k1 (e h1)),s4,m1,hf.mono k2.kp k2.sold (λi _=>m2 i)⟩
theorem aLw {i:Nat}{h1 hp:Hp}{x o:HObj}(hx:aR hp i=some x) (ho:aR h1 3=some o) (hs:o.sim) (hr:¬ o.Rd) (hi:o.ids=[]) (he:o.ren (λ_=>i)=o):Left (λ_=>i) [3] h1 hp (dW hp i o):=by
 refine⟨λk hk=> ?_,λj y hy=> ?_⟩
 ·obtain rfl:k=3:=by simpa using hk
  have hnone: ∀j∈o.ids,j∈[3]:=by
   intro j hj
   rw [hi]at hj
   cases hj
  refine⟨o,ho,hs,hr,hnone, ?_⟩
  show aR (dW hp i o) i=_
  rw [bC o hx,if_pos rfl,he]
 ·rw [bC o hx]at hy
  split at hy
  ·rename_i e;exact .inl ⟨3,by simp,e⟩
  ·exact .inr hy
theorem aNa {i:Nat}{hp:Hp}{x o:HObj}(hx:aR hp i=some x) (he:o.ren (λ_=>i)=x) (hs:o.sim):Among (λ_=>i) [3] [(3,o)] hp:=by
 refine⟨λid y hy=> ?_,λid y id' y' h h' _=> ?_,λk hk=> ?_,λid y hy=> ?_⟩
 ·simp only [aR]at hy
  split at hy
  ·rename_i e;injection hy with hy;subst hy;subst e
   exact⟨by rw [he];exact hx,hs⟩
  ·cases hy
 ·simp only [aR]at h h'
  split at h
  ·split at h'
   ·rename_i e1 e2;rw [<-e1,<-e2]
   ·cases h'
  ·cases h
 ·obtain rfl:k=3:=by simpa using hk
  exact⟨o,by simp [aR]⟩
 ·simp only [aR]at hy
  split at hy
  ·rename_i e;subst e;exact .inl (by simp)
  ·cases hy
end
end Go.Proofs.YtdjfkmkdkclahaaGreatDoor
