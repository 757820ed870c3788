/-
  Bytes: numbers in bytes, writers and readers of lists, decoding; plain. Objects: the reader takes bytes. Concepts and axioms in bytes: what is written is read again; plain. Commits, queries and alignments in bytes: what is written is read again; plain. Bytes as the program reckons them: shifting and or, the bytes of a number. Objects: the reader reads numbers. Objects: the reader reads ints, octets and texts. A contract over the callee's own few objects, under other numbers, in any memory of the caller's. A result that says less. Objects: a reader's contract, over its own object alone; how it is used. Objects: the reader reads digests.
  Conditions: none.
-/
import Derived.Test.YtleihcnongldbaaGreatDoorWSna
import Derived.Test.YtleihcnongldbaaGreatDoorWSyi
import Derived.Test.YtleihcnongldbaaGreatDoorWA8
import Derived.Test.YtleihcnongldbaaGreatDoorWSi
import Derived.Test.YtleihcnongldbaaGreatDoorWSq
set_option linter.unnecessarySimpa false
set_option linter.unusedSectionVars false
set_option linter.unusedSimpArgs false
set_option linter.unusedVariables false
set_option maxHeartbeats 8000000
namespace Go.Proofs.YtleihcnongldbaaGreatDoor
def beN:Nat->Nat->List UInt8
 | 0,_=>[]
 |k+1,n=>beN k (n / 256)++[UInt8.ofNat (n % 256)]
def deN (l:List UInt8):Nat:=l.foldl (λx c=>256 * x+c.toNat) 0
theorem aP: ∀k n,(beN k n).length=k
 | 0,_=>rfl
 |k+1,n=>by rw [beN,List.length_append,aP k];rfl
theorem wD (l:List UInt8) (c:UInt8):deN (l++[c])=256 * deN l+c.toNat:=by
 unfold deN;rw [List.foldl_append];rfl
theorem aKy: ∀k n,deN (beN k n)=n % 256 ^ k
 | 0,n=>by simp [beN,deN,Nat.mod_one]
 |k+1,n=>by
  rw [beN,wD,aKy k,Nat.pow_succ,Nat.mul_comm (256 ^ k) 256,Nat.mod_mul]
  have h:(UInt8.ofNat (n % 256)).toNat=n % 256:=by simp
  rw [h];omega
theorem tD: ∀(k:Nat) (l:List UInt8),l.length=k->deN l < 256 ^ k
 | 0,l,h=>by rw [List.length_eq_zero_iff.1 h];decide
 |k+1,l,h=>by
  obtain⟨m,c,rfl⟩: ∃m c,l=m++[c]:=by
   rcases List.eq_nil_or_concat l with e|⟨m,c,e⟩
   ·rw [e]at h;cases h
   ·exact⟨m,c,by rw [e,List.concat_eq_append]⟩
  rw [List.length_append]at h
  have h1:=tD k m (by simpa using h)
  have h2:=c.toNat_lt
  rw [wD,Nat.pow_succ]
  omega
def uN (z:Int):Nat:=(z % 18446744073709551616).toNat
def sgN (n:Nat):Int:=if n < 9223372036854775808 then (n:Int)else (n:Int) - 18446744073709551616
theorem aRy (z:Int):uN z < 18446744073709551616:=by unfold uN;omega
theorem aSb {z:Int}(h1: -9223372036854775808<=z) (h2:z<=9223372036854775807):sgN (uN z)=z:=by
 unfold sgN uN;split<;>omega
theorem aQ2 {n:Nat}(h:n < 18446744073709551616): -9223372036854775808<=sgN n/\sgN n<=9223372036854775807:=by
 unfold sgN;split<;>omega
abbrev Rd (α:Type):=List UInt8->Option (α×List UInt8)
section
variable {α β:Type}
def aMr (a:α):Rd α:= λb=>some (a,b)
def qH (r:Rd α) (f:α->β):Rd β:= λb=>(r b).map λp=>(f p.1,p.2)
def bZ (r:Rd α) (f:α->Rd β):Rd β:= λb=>(r b).bind λp=>f p.1 p.2
def iT (n:Nat):Rd (List UInt8):= λb=>if n<=b.length then some (b.take n,b.drop n)else none
def aCu (k:Nat):Rd Nat:=qH (iT k) deN
def oZ (r:Rd α):Nat->Rd (List α)
 | 0=>aMr []
 |n+1=>bZ r λx=>qH (oZ r n) (x:: ·)
def fJ (r:Rd α):Rd (List α):=bZ (aCu 4) (oZ r)
theorem bR {r:Rd α}{f:α->β}{b c:List UInt8}{x:α}(h:r b=some (x,c)):qH r f b=some (f x,c):=by simp [qH,h]
theorem aK {r:Rd α}{f:α->Rd β}{b c:List UInt8}{x:α}(h:r b=some (x,c)):bZ r f b=f x c:=by simp [bZ,h]
theorem aV {r:Rd α}{f:α->Rd β}{b:List UInt8}(h:r b=none):bZ r f b=none:=by simp [bZ,h]
theorem fI {r:Rd α}{f:α->β}{b:List UInt8}(h:r b=none):qH r f b=none:=by simp [qH,h]
theorem aCt (a c:List UInt8):iT a.length (a++c)=some (a,c):=by
 unfold iT
 rw [if_pos (by rw [List.length_append];omega),List.take_left' rfl,List.drop_left' rfl]
theorem rY (k n:Nat) (c:List UInt8) (h:n < 256 ^ k):aCu k (beN k n++c)=some (n,c):=by
 have h1:=aCt (beN k n) c
 rw [aP]at h1
 unfold aCu
 rw [bR h1,aKy,Nat.mod_eq_of_lt h]
theorem dJ {r:Rd α}{f:α->Rd β}{b c:List UInt8}{y:β}(h:bZ r f b=some (y,c)): ∃x d,r b=some (x,d)/\f x d=some (y,c):=by
 unfold bZ at h
 obtain⟨p,h1,h2⟩:=Option.bind_eq_some_iff.1 h
 exact⟨p.1,p.2,h1,h2⟩
theorem oS {r:Rd α}{f:α->β}{b c:List UInt8}{y:β}(h:qH r f b=some (y,c)): ∃x,r b=some (x,c)/\y=f x:=by
 unfold qH at h
 obtain⟨p,h1,h2⟩:=Option.map_eq_some_iff.1 h
 injection h2 with h3 h4
 exact⟨p.1,by rw [h1,<-h4],h3.symm⟩
theorem rX (r:Rd α): ∀(n:Nat) (b:List UInt8),oZ r (n+1) b=(oZ r n b).bind λp=>(r p.2).map λq=>(p.1++[q.1],q.2)
 | 0,b=>by
  show bZ r (λx=>qH (aMr []) (x:: ·)) b=_
  cases h:r b with
  |none=>rw [aV h];simp [oZ,aMr,h]
  |some p=>obtain⟨x,c⟩:=p;rw [aK h];simp [oZ,aMr,qH,h]
 |n+1,b=>by
  show bZ r (λx=>qH (oZ r (n+1)) (x:: ·)) b=(bZ r (λx=>qH (oZ r n) (x:: ·)) b).bind _
  cases h:r b with
  |none=>rw [aV h,aV h];rfl
  |some p=>
   obtain⟨x,c⟩:=p
   rw [aK h,aK h]
   unfold qH
   rw [rX r n c]
   cases h2:oZ r n c with
   |none=>rfl
   |some q=>
    obtain⟨l,d⟩:=q
    simp only [Option.bind_some,Option.map_some]
    cases h3:r d with
    |none=>rfl
    |some q=>rfl
theorem aJt {r:Rd α}{n m:Nat}{b:List UInt8}(h:oZ r n b=none) (hm:n<=m):oZ r m b=none:=by
 induction m with
 | zero => obtain rfl : n = 0 := by omega
           exact h
 |succ m ih=>
  by_cases e:n=m+1
  ·rw [<-e];exact h
  ·rw [rX,ih (by omega)];rfl
def aX (w:α->List UInt8) (l:List α):List UInt8:=beN 4 l.length++(l.map w).flatten
theorem aBj {r:Rd α}{w:α->List UInt8}: ∀(l:List α) (_: ∀x∈l,∀c,r (w x++c)=some (x,c)) (c:List UInt8),oZ r l.length ((l.map w).flatten++c)=some (l,c)
 | [],_,c=>rfl
 |x::l,h,c=>by
  show bZ r (λx=>qH (oZ r l.length) (x:: ·)) _=_
  rw [List.map_cons,List.flatten_cons,List.append_assoc,aK (h x (List.mem_cons_self ..) _),bR (aBj l (λy hy=>h y (List.mem_cons_of_mem _ hy)) c)]
theorem gJ {r:Rd α}{w:α->List UInt8}{l:List α}(h: ∀x∈l,∀c,r (w x++c)=some (x,c)) (hl:l.length < 4294967296) (c:List UInt8):fJ r (aX w l++c)=some (l,c):=by
 unfold fJ aX
 rw [List.append_assoc,aK (rY 4 l.length _ hl)]
 exact aBj l h c
def yZ (k:Nat) (r:Rd α):Prop:= ∀b x c,r b=some (x,c)-> ∃a,b=a++c/\k<=a.length
theorem aDk (n:Nat):yZ n (iT n):=by
 intro b x c h
 unfold iT at h
 split at h
 ·injection h with h;injection h with h1 h2
  exact⟨b.take n,by rw [<-h2,List.take_append_drop],by rw [List.length_take];omega⟩
 ·cases h
theorem jG {r:Rd α}{f:α->β}{k:Nat}(h:yZ k r):yZ k (qH r f):=by
 intro b x c e
 unfold qH at e
 obtain⟨p,h1,h2⟩:=Option.map_eq_some_iff.1 e
 injection h2 with _ h3
 exact h b p.1 c (by rw [h1,<-h3])
theorem cC {r:Rd α}{f:α->Rd β}{k j:Nat}(h:yZ k r) (g: ∀x,yZ j (f x)):yZ (k+j) (bZ r f):=by
 intro b x c e
 unfold bZ at e
 obtain⟨p,h1,h2⟩:=Option.bind_eq_some_iff.1 e
 obtain⟨a1,e1,q1⟩:=h b p.1 p.2 h1
 obtain⟨a2,e2,q2⟩:=g _ _ _ _ h2
 exact⟨a1++a2,by rw [e1,e2,List.append_assoc],by rw [List.length_append];omega⟩
theorem aG8 {r:Rd α}{k:Nat}(h:yZ k r): ∀n,yZ (k * n) (oZ r n)
 | 0=> λb x c e=>⟨[],by injection e with e;injection e with _ e,by simp⟩
 |n+1=>by
  have:=cC (f:= λx=>qH (oZ r n) (x:: ·)) h (λx=>jG (aG8 h n))
  rw [Nat.mul_succ,Nat.add_comm]
  exact this
theorem oG {r:Rd α}{k j:Nat}(h:yZ k r) (hj:j<=k):yZ j r:= λb x c e=>by
 obtain⟨a,h1,h2⟩:=h b x c e
 exact⟨a,h1,by omega⟩
def eM (rd:Rd α) (wr:α->List UInt8×Int) (zero:α) (bad:Int) (b:List UInt8):α×Int:=
 match rd b with
 |some (x,[])=>if wr x=(b,0)then (x,0)else (zero,bad)
 |_=>(zero,bad)
theorem aT6 {rd:Rd α}{wr:α->List UInt8×Int}{zero:α}{bad:Int}{b:List UInt8}(hb:bad≠0) (h:(eM rd wr zero bad b).2=0):wr (eM rd wr zero bad b).1=(b,0)/\rd b=some ((eM rd wr zero bad b).1,[]):=by
 unfold eM at h |-
 split at h
 ·rename_i x h1
  split at h
  ·rename_i h2
   simp only [h1,if_pos h2]
   exact⟨h2,trivial⟩
  ·exact absurd h hb
 ·exact absurd h hb
theorem yL {rd:Rd α}{wr:α->List UInt8×Int}{zero:α}{bad:Int}{b:List UInt8}{x:α}(h1:wr x=(b,0)) (h2:rd b=some (x,[])):eM rd wr zero bad b=(x,0):=by
 unfold eM
 rw [h2]
 simp only [if_pos h1]
theorem aNw {rd:Rd α}{wr:α->List UInt8×Int}{zero:α}{bad:Int}{b c:List UInt8}{x:α}(h:rd b=some (x,c)) (hc:c≠[]):eM rd wr zero bad b=(zero,bad):=by
 unfold eM
 rw [h]
 cases c with
 |nil=>exact absurd rfl hc
 |cons _ _=>rfl
theorem aR1 {rd rd':Rd α}{wr:α->List UInt8×Int}{zero:α}{bad:Int}(h: ∀y d,wr y=(d,0)->rd d=some (y,[])) (h': ∀y d,wr y=(d,0)->rd' d=some (y,[])) (b:List UInt8):eM rd wr zero bad b=eM rd' wr zero bad b:=by
 have key: ∀r:Rd α,(∀y d,wr y=(d,0)->r d=some (y,[]))->(∀y,wr y=(b,0)->eM r wr zero bad b=(y,0))/\((∀y,wr y≠(b,0))->eM r wr zero bad b=(zero,bad)):=by
  intro r hr
  refine⟨λy hy=>yL hy (hr y b hy),λhn=> ?_⟩
  unfold eM
  split
  ·rw [if_neg (hn _)]
  ·rfl
 by_cases hy: ∃y,wr y=(b,0)
 ·obtain⟨y,hy⟩:=hy
  rw [(key rd h).1 y hy,(key rd' h').1 y hy]
 ·have hn: ∀y,wr y≠(b,0):= λy e=>hy ⟨y,e⟩
  rw [(key rd h).2 hn,(key rd' h').2 hn]
def aHe (least:Nat):Rd Nat:= λb=>(aCu 4 b).bind λp=>if p.2.length / least < p.1 then none else some p
def nN (least:Nat) (r:Rd α):Rd (List α):=bZ (aHe least) (oZ r)
theorem yA {w:α->List UInt8}{k:Nat}(hw: ∀x,k<=(w x).length): ∀l:List α,k * l.length<=((l.map w).flatten).length
 | []=>by simp
 |x::l=>by
  have h1:=yA hw l
  have h2:=hw x
  rw [List.map_cons,List.flatten_cons,List.length_append,List.length_cons,Nat.mul_succ]
  omega
theorem eZ {r:Rd α}{w:α->List UInt8}{k:Nat}(hk:0 < k) (hw: ∀x,k<=(w x).length) {l:List α}(h: ∀x∈l,∀c,r (w x++c)=some (x,c)) (hl:l.length < 4294967296) (c:List UInt8):nN k r (aX w l++c)=some (l,c):=by
 have h1:aHe k (beN 4 l.length++((l.map w).flatten++c))=some (l.length,(l.map w).flatten++c):=by
  unfold aHe
  rw [rY 4 l.length _ hl]
  have h2:=yA hw l
  have h3:l.length<=((l.map w).flatten++c).length / k:=by
   rw [Nat.le_div_iff_mul_le hk,List.length_append,Nat.mul_comm]
   omega
  simp only [Option.bind_some]
  rw [if_neg (by omega)]
 unfold nN aX
 rw [List.append_assoc,aK h1]
 exact aBj l h c
end
end Go.Proofs.YtleihcnongldbaaGreatDoor
namespace Go.Proofs.YtleihcnongldbaaGreatDoor
open Go.Proofs
set_option maxRecDepth 10000
attribute [local irreducible] aN aJ Tri aI YVC cP bE
theorem wT (bs:List UInt8) (m:Nat) (hp0:Hp) {pin:Pin}{fr:Fr}{K:SV->Hp->Prop}
  (hok:m<=bs.length->K (.d (.sl 1 ((bs.take m).map aM))) ((3, .cells 131 [.d (.sl 1 ((bs.drop m).map aM))])::hp0))
  (hno:bs.length < m->pin.kp fr ((3, .cells 131 [.d (.sl 1 (bs.map aM))])::hp0)):
  aJ Tryz.prog pin fr ((3, .cells 131 [.d (.sl 1 (bs.map aM))])::hp0) 128 [.ptr 3 0, .d (.int .i64 m)] K:=by
 have hl:(bs.map aM).length=bs.length:=List.length_map ..
 refine aG false [] hty Tryz.func128 rfl (kp [0,1,4,11]) 100 (by simp [Tryz.f128]) ?_
 ((conv=>whnf);repeat' ((first|(intro hq;(try simp only [lnS]at hq);(try rewrite [List.length_map]))|refine sJ ?_|refine .intro _ (.intro rfl ?_)|refine exL (k:= ?_)|(refine aN2 hty 19 (by kernel_rfl) (by kernel_rfl) ?_)|(refine dU hty rfl (by with_unfolding_all exact rfl) rfl rfl ?_)|refine dwR ?_|((first|refine aB ?_ ?_|refine aC ?_ ?_)<;>intro hb<;>(first|exact ddX hb|try simp only [lnS]at hb))|(refine aA ?_ ?_<;>intro hb<;>try exact dsX hb))<;>(conv=>whnf)))
 ·exact hno (by omega)
 ·have e1:List.drop 0 (List.take ((m:Nat):Int).toNat (bs.map aM))=(bs.take m).map aM:=by rw [Int.toNat_natCast,List.drop_zero,List.map_take]
  have e2:List.drop ((m:Nat):Int).toNat (List.take ((bs.length:Nat):Int).toNat (bs.map aM))=(bs.drop m).map aM:=by rw [Int.toNat_natCast,Int.toNat_natCast,List.take_of_length_le (by rw [List.length_map];exact Nat.le_refl _),List.map_drop]
  show K (SV.d (D.sl 1 (List.drop 0 (List.take ((m:Nat):Int).toNat (bs.map aM))))) ((3,HObj.cells 131 [SV.d (D.sl 1 (List.drop ((m:Nat):Int).toNat (List.take ((bs.length:Nat):Int).toNat (bs.map aM))))])::hp0)
  rw [e1,e2]
  exact hok (by omega)
end Go.Proofs.YtleihcnongldbaaGreatDoor
namespace Go.Proofs.YtleihcnongldbaaGreatDoor
open Go.Proofs
def aEp:Rd Int:=qH (aCu 8) sgN
def aEn:Rd Int:=qH (aCu 1) λn=>(n:Int)
def uL:Rd (List UInt8):=bZ (aCu 4) iT
abbrev Dig:={l:List UInt8 // l.length=32}
def vD:Rd Dig:= λb=>if h:32<=b.length then some (⟨b.take 32,by rw [List.length_take];omega⟩,b.drop 32)else none
def fE (d:Dig):List UInt8:=d.1
def dI (z:Int):List UInt8:=beN 8 (uN z)
def eG (z:Int):List UInt8:=beN 1 (uN z)
def bC (s:List UInt8):List UInt8:=beN 4 s.length++s
theorem iY {z:Int}(h1: -9223372036854775808<=z) (h2:z<=9223372036854775807) (c:List UInt8):aEp (dI z++c)=some (z,c):=by
 unfold aEp dI
 rw [bR (rY 8 (uN z) c (aRy z)),aSb h1 h2]
theorem gV {z:Int}(h1:0<=z) (h2:z<=255) (c:List UInt8):aEn (eG z++c)=some (z,c):=by
 unfold aEn eG
 have h:uN z < 256 ^ 1:=by unfold uN;omega
 rw [bR (rY 1 (uN z) c h)]
 have:((uN z:Nat):Int)=z:=by unfold uN;omega
 rw [this]
theorem dC {s:List UInt8}(h:s.length < 4294967296) (c:List UInt8):uL (bC s++c)=some (s,c):=by
 unfold uL bC
 rw [List.append_assoc,aK (rY 4 s.length _ h),aCt]
theorem iZ (s:Dig) (c:List UInt8):vD (fE s++c)=some (s,c):=by
 obtain⟨l,h⟩:=s
 show vD (l++c)=_
 have h0:32<=(l++c).length:=by rw [List.length_append];omega
 unfold vD
 rw [dif_pos h0]
 have h1:(l++c).take 32=l:=List.take_left' h
 have h2:(l++c).drop 32=c:=List.drop_left' h
 simp only [h1,h2]
mutual
def wC:Cn->List UInt8
 | .mk k n lo hi ps=>eG k++(bC n++(dI lo++(dI hi++(beN 4 ps.length++(wCs ps).flatten))))
def wCs:List Cn->List (List UInt8)
 | []=>[]
 |c::r=>wC c::wCs r
end
theorem aIk: ∀l,wCs l=l.map wC
 | []=>rfl
 |c::r=>by rw [wCs,aIk r];rfl
theorem aE4 (c:Cn):wC c=eG c.kind++(bC c.name++(dI c.lo++(dI c.hi++aX wC c.parts))):=by
 cases c;rw [wC,aIk];rfl
def rC:Nat->Rd Cn
 | 0=> λ_=>none
 |k+1=>bZ aEn λkd=>bZ uL λn=>bZ aEp λlo=>bZ aEp λhi=>qH (fJ (rC k)) (Cn.mk kd n lo hi)
def OkC:Nat->Cn->Prop
 | 0,_=>False
 |k+1,c=>(0<=c.kind/\c.kind<=255)/\c.name.length < 4294967296/\(-9223372036854775808<=c.lo/\c.lo<=9223372036854775807)/\(-9223372036854775808<=c.hi/\c.hi<=9223372036854775807)/\c.parts.length < 4294967296/\ ∀p∈c.parts,OkC k p
theorem aJu: ∀(k:Nat) (c:Cn),OkC k c-> ∀d,rC k (wC c++d)=some (c,d)
 | 0,_,h=>h.elim
 |k+1,c,h=>by
  obtain⟨⟨a1,a2⟩,b,⟨c1,c2⟩,⟨d1,d2⟩,e,f⟩:=h
  intro d
  rw [aE4]
  simp only [List.append_assoc]
  show bZ aEn _ _=_
  rw [aK (gV a1 a2 _),aK (dC b _),aK (iY c1 c2 _),aK (iY d1 d2 _),bR (gJ (λp hp=>aJu k p (f p hp)) e d)]
  cases c;rfl
theorem OkC.up: ∀{k j:Nat}{c:Cn},OkC k c->k<=j->OkC j c
 | 0,_,_,h,_=>h.elim
 |k+1,0,_,_,h=>absurd h (by omega)
 |k+1,j+1,c,⟨a,b,e,f,g,h⟩,hj=>⟨a,b,e,f,g,λp hp=>(h p hp).up (by omega)⟩
def wB (o:Bool):List UInt8:=eG (if o then 1 else 0)
def wA (x:Ax):List UInt8:=eG x.kind++(wB x.isopen++(wC x.left++(wC x.right++(aX bC x.roles++(bC x.role++(bC x.a++bC x.b))))))
def wAs (l:List Ax):List UInt8:=aX wA l
def rB:Rd Bool:=qH aEn λz=>decide (z=1)
def rA (m:Nat):Rd Ax:=bZ aEn λk=>bZ rB λo=>bZ (rC m) λl=>bZ (rC m) λr=>bZ (fJ uL) λrs=>bZ uL λs1=>bZ uL λs2=>qH uL λs3=>⟨k,o,l,r,rs,s1,s2,s3⟩
def rAs (m:Nat):Rd (List Ax):=fJ (rA m)
def OkA (m:Nat) (x:Ax):Prop:=(0<=x.kind/\x.kind<=255)/\OkC m x.left/\OkC m x.right/\(x.roles.length < 4294967296/\ ∀s∈x.roles,s.length < 4294967296)/\x.role.length < 4294967296/\x.a.length < 4294967296/\x.b.length < 4294967296
theorem aSe (o:Bool) (c:List UInt8):rB (wB o++c)=some (o,c):=by
 unfold rB wB
 cases o
 ·rw [bR (gV (by decide) (by decide) c)];rfl
 ·rw [bR (gV (by decide) (by decide) c)];rfl
theorem aSg {m:Nat}{x:Ax}(h:OkA m x) (c:List UInt8):rA m (wA x++c)=some (x,c):=by
 obtain⟨⟨a1,a2⟩,b,d,⟨e1,e2⟩,f,g,i⟩:=h
 unfold wA rA
 simp only [List.append_assoc]
 rw [aK (gV a1 a2 _),aK (aSe _ _),aK (aJu _ _ b _),aK (aJu _ _ d _),aK (gJ (λs hs=>dC (e2 s hs)) e1 _),aK (dC f _),aK (dC g _),bR (dC i c)]
theorem aQa {m:Nat}{l:List Ax}(h: ∀x∈l,OkA m x) (hl:l.length < 4294967296) (c:List UInt8):rAs m (wAs l++c)=some (l,c):=
 gJ (λx hx=>aSg (h x hx)) hl c
theorem gG (k:Nat):yZ k (aCu k):=jG (aDk k)
theorem jH:yZ 8 aEp:=jG (gG 8)
theorem jF:yZ 1 aEn:=jG (gG 1)
theorem cY:yZ 4 uL:=oG (cC (j:=0) (gG 4) λn=>oG (aDk n) (Nat.zero_le _)) (by omega)
theorem iN {α:Type}{r:Rd α}{k:Nat}(h:yZ k r):yZ 4 (fJ r):=oG (cC (j:=0) (gG 4) λn=>oG (aG8 h n) (Nat.zero_le _)) (by omega)
theorem aAm: ∀k,yZ 25 (rC k)
 | 0=> λb x c e=>by cases e
 |k+1=>oG (cC jF λ_=>cC cY λ_=>cC jH λ_=>cC jH λ_=>jG (iN (aAm k))) (by omega)
theorem aT5:yZ 1 rB:=jG jF
theorem aOx (m:Nat):yZ 68 (rA m):=oG (cC jF λ_=>cC aT5 λ_=>cC (aAm m) λ_=>cC (aAm m) λ_=>cC (iN cY) λ_=>cC cY λ_=>cC cY λ_=>jG cY) (by omega)
end Go.Proofs.YtleihcnongldbaaGreatDoor
namespace Go.Proofs.YtleihcnongldbaaGreatDoor
open Go.Proofs
structure Cm where
 no:Int
 parents:List Int
 base:Dig
 message:List UInt8
def InI (z:Int):Prop:= -9223372036854775808<=z/\z<=9223372036854775807
def wCm (c:Cm):List UInt8:=dI c.no++(aX dI c.parents++(fE c.base++bC c.message))
structure At where
 kind:Int
 name:List UInt8
 x:List UInt8
 y:List UInt8
 lo:Int
 hi:Int
structure Qy where
 told:List (List UInt8)
 parts:List (List At)
def rAt:Rd At:=bZ aEn λk=>bZ uL λn=>bZ uL λx=>bZ uL λy=>bZ aEp λlo=>qH aEp λhi=>⟨k,n,x,y,lo,hi⟩
def wAt (a:At):List UInt8:=eG a.kind++(bC a.name++(bC a.x++(bC a.y++(dI a.lo++dI a.hi))))
def aVc (a:At):Prop:=(0<=a.kind/\a.kind<=255)/\a.name.length < 4294967296/\a.x.length < 4294967296/\a.y.length < 4294967296/\InI a.lo/\InI a.hi
theorem aJw {a:At}(h:aVc a) (d:List UInt8):rAt (wAt a++d)=some (a,d):=by
 obtain⟨⟨a1,a2⟩,b,e,f,g,i⟩:=h
 unfold rAt wAt
 simp only [List.append_assoc]
 rw [aK (gV a1 a2 _),aK (dC b _),aK (dC e _),aK (dC f _),aK (iY g.1 g.2 _),bR (iY i.1 i.2 d)]
def rQy:Rd Qy:=bZ (fJ uL) λt=>qH (fJ (fJ rAt)) λp=>⟨t,p⟩
def wQy (q:Qy):List UInt8:=aX bC q.told++aX (aX wAt) q.parts
def aVw (q:Qy):Prop:=(q.told.length < 4294967296/\ ∀s∈q.told,s.length < 4294967296)/\q.parts.length < 4294967296/\ ∀p∈q.parts,p.length < 4294967296/\ ∀a∈p,aVc a
theorem aQ4 {q:Qy}(h:aVw q) (d:List UInt8):rQy (wQy q++d)=some (q,d):=by
 obtain⟨⟨a1,a2⟩,b,e⟩:=h
 unfold rQy wQy
 simp only [List.append_assoc]
 rw [aK (gJ (λs hs=>dC (a2 s hs)) a1 _),bR (gJ (λp hp=>gJ (λa ha=>aJw ((e p hp).2 a ha)) (e p hp).1) b d)]
structure Al where
 name:List UInt8
 base:Dig
 axioms:List Ax
 pub:Dig
 index:Int
 parts:List Dig
 path:List Dig
def rAl (m:Nat):Rd Al:=bZ uL λn=>bZ vD λb=>bZ (rAs m) λl=>bZ vD λp=>bZ aEp λi=>bZ (fJ vD) λx=>qH (fJ vD) λy=>⟨n,b,l,p,i,x,y⟩
def wAl (a:Al):List UInt8:=bC a.name++(fE a.base++(wAs a.axioms++(fE a.pub++(dI a.index++(aX fE a.parts++aX fE a.path)))))
def aVd (m:Nat) (a:Al):Prop:=a.name.length < 4294967296/\(a.axioms.length < 4294967296/\ ∀x∈a.axioms,OkA m x)/\InI a.index/\a.parts.length < 4294967296/\a.path.length < 4294967296
theorem aQc {m:Nat}{a:Al}(h:aVd m a) (d:List UInt8):rAl m (wAl a++d)=some (a,d):=by
 obtain⟨a1,⟨c1,c2⟩,f,g,i⟩:=h
 unfold rAl wAl
 simp only [List.append_assoc]
 rw [aK (dC a1 _),aK (iZ _ _),aK (aQa c2 c1 _),aK (iZ _ _),aK (iY f.1 f.2 _),aK (gJ (λs _=>iZ s) g _),bR (gJ (λs _=>iZ s) i d)]
theorem vZ:yZ 32 vD:=by
 intro b x c h
 unfold vD at h
 split at h
 ·injection h with h;injection h with h1 h2
  exact⟨b.take 32,by rw [<-h2,List.take_append_drop],by rw [List.length_take];omega⟩
 ·cases h
theorem aKv:yZ 29 rAt:=oG (cC jF λ_=>cC cY λ_=>cC cY λ_=>cC cY λ_=>cC jH λ_=>jG jH) (by omega)
end Go.Proofs.YtleihcnongldbaaGreatDoor
namespace Go.Proofs.YtleihcnongldbaaGreatDoor
open Go.Proofs Go.RowKit
theorem jW (n:Nat) (h:n < 18446744073709551616):IntKind.u64.wrap (n:Int)=(n:Int):=by
 have e:IntKind.u64.wrap (n:Int)=((n:Int) % 18446744073709551616):=by
  unfold IntKind.wrap
  rfl
 rw [e];omega
theorem aQj {x c:Nat}(hx:x < 72057594037927936) (hc:c < 256):bits .or .u64 (IntKind.u64.wrap ((x:Int)* 2 ^ (min (8:Int).toNat IntKind.u64.bits))) (c:Int)=((256 * x+c:Nat):Int):=by
 have h1:IntKind.u64.wrap ((x:Int)* 2 ^ (min (8:Int).toNat IntKind.u64.bits))=((256 * x:Nat):Int):=by
  have e:(min (8:Int).toNat IntKind.u64.bits)=8:=rfl
  rw [e]
  have:((x:Int)* 2 ^ 8)=((256 * x:Nat):Int):=by omega
  rw [this]
  exact jW _ (by omega)
 rw [h1]
 have h2:(256 * x ||| c)=256 * x+c:=by
  have:=Nat.two_pow_add_eq_or_of_lt (i:=8) (b:=c) (by omega) x
  simpa using this.symm
 unfold bits
 show IntKind.u64.wrap ((BitVec.ofInt 64 ((256 * x:Nat):Int) ||| BitVec.ofInt 64 (c:Int)).toNat:Int)=_
 rw [BitVec.toNat_or,BitVec.ofInt_natCast,BitVec.ofInt_natCast,BitVec.toNat_ofNat,BitVec.toNat_ofNat,Nat.mod_eq_of_lt (by omega),Nat.mod_eq_of_lt (by omega),h2]
 exact jW _ (by omega)
theorem aR6 (z:Int) (s:Nat) (hs:s<=64):IntKind.u8.wrap ((IntKind.u64.wrap z).fdiv (2 ^ (min (s:Int).toNat IntKind.u64.bits)))=((uN z / 2 ^ s % 256:Nat):Int):=by
 have e:(min (s:Int).toNat IntKind.u64.bits)=s:=by
  rw [Int.toNat_natCast];exact Nat.min_eq_left hs
 have e1:IntKind.u64.wrap z=((uN z:Nat):Int):=by
  have e:IntKind.u64.wrap z=(z % 18446744073709551616):=rfl
  rw [e];unfold uN;omega
 rw [e,e1,Int.fdiv_eq_ediv_of_nonneg _ (Int.pow_nonneg (by decide))]
 have e2:((uN z:Nat):Int) / (2 ^ s:Int)=((uN z / 2 ^ s:Nat):Int):=by
  rw [Int.natCast_ediv];rfl
 rw [e2]
 have e3: ∀k:Int,IntKind.u8.wrap k=k % 256:= λk=>rfl
 rw [e3]
 omega
theorem aW8 (n:Nat):beN 8 n=[56,48,40,32,24,16,8,0].map λs:Nat=>UInt8.ofNat (n / 2 ^ s % 256):=by
 simp only [beN,List.nil_append,List.cons_append,Nat.div_div_eq_div_mul,List.map_cons,List.map_nil,Nat.pow_zero,Nat.div_one]
theorem aW9 (n:Nat):beN 4 n=[24,16,8,0].map λs:Nat=>UInt8.ofNat (n / 2 ^ s % 256):=by
 simp only [beN,List.nil_append,List.cons_append,Nat.div_div_eq_div_mul,List.map_cons,List.map_nil,Nat.pow_zero,Nat.div_one]
end Go.Proofs.YtleihcnongldbaaGreatDoor
namespace Go.Proofs.YtleihcnongldbaaGreatDoor
open Go.Proofs
set_option maxRecDepth 10000
attribute [local irreducible] aN aJ Tri aI YVC cP bE
theorem gU (bs:List UInt8) (m:Nat) (hm:m<=8) (hp0:Hp) {pin:Pin}{fr:Fr}{K:SV->Hp->Prop}
  (hok:m<=bs.length->K (.d (.int .u64 (deN (bs.take m)))) ((3, .cells 131 [.d (.sl 1 ((bs.drop m).map aM))])::hp0))
  (hno:bs.length < m->pin.kp fr ((3, .cells 131 [.d (.sl 1 (bs.map aM))])::hp0)):
  aJ Tryz.prog pin fr ((3, .cells 131 [.d (.sl 1 (bs.map aM))])::hp0) 127 [.ptr 3 0, .d (.int .i64 m)] K:=by
 refine aG false [] hty Tryz.func127 rfl (kp [0,1,4,6,9,10,11,12]) 100 (by simp [Tryz.f127]) ?_
 ((conv=>whnf);repeat ((first|(intro hq;try simp only [lnS]at hq)|refine sI ?_|refine .intro _ (.intro rfl ?_));(conv=>whnf)))
 refine wT bs m hp0 (λhle=> ?_) (λhlt=>hno hlt)
 have hlen:(bs.take m).length=m:=by rw [List.length_take];omega
 replace hok:=hok hle
 generalize bs.take m=c at *
 generalize bs.drop m=r at *
 ((conv=>whnf);repeat ((first|(intro hq;try simp only [lnS]at hq)|refine sI ?_|refine .intro _ (.intro rfl ?_));(conv=>whnf)))
 refine xN hty (λj:Nat=>([(4, .d (.int .u64 ((deN (c.take j):Nat):Int))),(9, .d (.sl 1 (c.map aM))),(10, .d (.int .i64 c.length)),(11, .d (.int .i64 j))],(3, .cells 131 [.d (.sl 1 (r.map aM))])::hp0)) (λj=>j<=c.length) (λj=>c.length - j) 0 (by omega) (by repeat' (first|exact trivial|exact rfl|(rw [List.length_map];exact rfl)|refine And.intro ?_ ?_)) rfl ?_
 intro j hj
 ((conv=>whnf);repeat ((first|(intro hq;try simp only [lnS]at hq)|refine sI ?_|refine .intro _ (.intro rfl ?_));(conv=>whnf)))
 refine aB (λh1=> ?_) (λh1=> ?_)
 ·have hjl:j < c.length:=by omega
  have hrow:(c.map aM)[(j:Int).toNat]? =some (aM c[j]):=aS hjl
  have hx:deN (c.take j) < 72057594037927936:=by
   have h2:=tD j (c.take j) (by rw [List.length_take];omega)
   have h3:256 ^ j<=256 ^ 7:=Nat.pow_le_pow_right (by decide) (by omega)
   have h4:(256:Nat) ^ 7=72057594037927936:=by decide
   omega
  have hc:(c[j]).toNat < 256:=c[j].toNat_lt
  have hn:deN (c.take (j+1))=256 * deN (c.take j)+(c[j]).toNat:=by rw [List.take_succ_eq_append_getElem hjl,wD]
  have ho:=aQj hx hc
  have hw:=jW (c[j]).toNat (by omega)
  ((conv=>whnf);repeat' ((first|(intro hq;(try simp only [lnS]at hq);(try rewrite [List.length_map]))|refine sJ ?_|refine .intro _ (.intro rfl ?_)|refine exL (k:= ?_)|(refine⟨_,hrow, ?_⟩)|refine dwR ?_|((first|refine aB ?_ ?_|refine aC ?_ ?_)<;>intro hb<;>(first|exact ddX hb|try simp only [lnS]at hb))|(refine aA ?_ ?_<;>intro hb<;>try exact dsX hb))<;>(conv=>whnf)))
  have ho2:bits .or .u64 (IntKind.u64.wrap (((deN (c.take j):Nat):Int)* 2 ^ (min (8:Int).toNat IntKind.u64.bits))) (IntKind.u64.wrap ((c[j]).toNat:Int))=((deN (c.take (j+1)):Nat):Int):=by rw [hw,hn];exact ho
  refine⟨j+1,by dsimp only;omega,by dsimp only;omega, ?_⟩
  dsimp only
  rw [<-ho2]
  exact⟨by repeat' (first|exact trivial|exact rfl|refine And.intro ?_ ?_),rfl⟩
 ·have hjl:j=c.length:=by omega
  subst hjl
  rw [List.take_length]
  ((conv=>whnf);repeat' ((first|(intro hq;(try simp only [lnS]at hq);(try rewrite [List.length_map]))|refine sJ ?_|refine .intro _ (.intro rfl ?_)|refine exL (k:= ?_)|refine dwR ?_|((first|refine aB ?_ ?_|refine aC ?_ ?_)<;>intro hb<;>(first|exact ddX hb|try simp only [lnS]at hb))|(refine aA ?_ ?_<;>intro hb<;>try exact dsX hb))<;>(conv=>whnf)))
  exact hok
end Go.Proofs.YtleihcnongldbaaGreatDoor
namespace Go.Proofs.YtleihcnongldbaaGreatDoor
open Go.Proofs
set_option maxRecDepth 10000
attribute [local irreducible] aN aJ Tri aI YVC cP bE
def RdC {α:Type}(f:FuncId) (r:Rd α) (e:α->SV):Prop:= ∀(bs:List UInt8) (hp0:Hp) {pin:Pin}{fr:Fr}{K:SV->Hp->Prop}
  (_: ∀x c,r bs=some (x,c)->K (e x) ((3, .cells 131 [.d (.sl 1 (c.map aM))])::hp0))
  (_:r bs=none-> ∀b:List UInt8,pin.kp fr ((3, .cells 131 [.d (.sl 1 (b.map aM))])::hp0)),
  aJ Tryz.prog pin fr ((3, .cells 131 [.d (.sl 1 (bs.map aM))])::hp0) f [.ptr 3 0] K
theorem aBh {bs:List UInt8}{m:Nat}(h:m<=bs.length):iT m bs=some (bs.take m,bs.drop m):=if_pos h
theorem aBi {bs:List UInt8}{m:Nat}(h:bs.length < m):iT m bs=none:=if_neg (by omega)
theorem aBk {bs:List UInt8}{m:Nat}(h:m<=bs.length):aCu m bs=some (deN (bs.take m),bs.drop m):=bR (aBh h)
theorem aBl {bs:List UInt8}{m:Nat}(h:bs.length < m):aCu m bs=none:=fI (aBi h)
theorem aRs (n:Nat) (h:n < 18446744073709551616):IntKind.i64.wrap (n:Int)=sgN n:=by
 unfold sgN
 rw [IntKind.wrap_i64]
 split<;>omega
theorem aKc:RdC 90 aEp (λz=> .d (.int .i64 z)):=by
 intro bs hp0 pin fr K hok hno
 refine aG false [] hty Tryz.func90 rfl (kp [0,2]) 100 (by simp [Tryz.f90]) ?_
 ((conv=>whnf);repeat ((first|(intro hq;try simp only [lnS]at hq)|refine sI ?_|refine .intro _ (.intro rfl ?_));(conv=>whnf)))
 refine gU bs 8 (by omega) hp0 (λhle=> ?_) (λhlt=>hno (fI (aBl hlt)) bs)
 have h1:=hok _ _ (bR (f:=sgN) (aBk hle))
 rw [<-aRs _ (tD 8 (bs.take 8) (by rw [List.length_take];omega))]at h1
 ((conv=>whnf);repeat' ((first|(intro hq;(try simp only [lnS]at hq);(try rewrite [List.length_map]))|refine sJ ?_|refine .intro _ (.intro rfl ?_)|refine exL (k:= ?_)|refine dwR ?_|((first|refine aB ?_ ?_|refine aC ?_ ?_)<;>intro hb<;>(first|exact ddX hb|try simp only [lnS]at hb))|(refine aA ?_ ?_<;>intro hb<;>try exact dsX hb))<;>(conv=>whnf)))
 exact h1
theorem aNd:RdC 137 (qH (aCu 1) λn=>(n:Int)) (λz=> .d (.int .i64 z)):=by
 intro bs hp0 pin fr K hok hno
 refine aG false [] hty Tryz.func137 rfl (kp [0,2]) 100 (by simp [Tryz.f137]) ?_
 ((conv=>whnf);repeat ((first|(intro hq;try simp only [lnS]at hq)|refine sI ?_|refine .intro _ (.intro rfl ?_));(conv=>whnf)))
 refine gU bs 1 (by omega) hp0 (λhle=> ?_) (λhlt=>hno (fI (aBl hlt)) bs)
 have h1:=hok _ _ (bR (f:= λn:Nat=>(n:Int)) (aBk hle))
 have h2:=tD 1 (bs.take 1) (by rw [List.length_take];omega)
 have h3:IntKind.i64.wrap ((deN (bs.take 1):Nat):Int)=((deN (bs.take 1):Nat):Int):=IntWalk.i64_in _ (by omega)
 dsimp only at h1
 rw [<-h3]at h1
 ((conv=>whnf);repeat' ((first|(intro hq;(try simp only [lnS]at hq);(try rewrite [List.length_map]))|refine sJ ?_|refine .intro _ (.intro rfl ?_)|refine exL (k:= ?_)|refine dwR ?_|((first|refine aB ?_ ?_|refine aC ?_ ?_)<;>intro hb<;>(first|exact ddX hb|try simp only [lnS]at hb))|(refine aA ?_ ?_<;>intro hb<;>try exact dsX hb))<;>(conv=>whnf)))
 exact h1
theorem aPs:RdC 80 (bZ (aCu 4) iT) (λs=> .d (.str s)):=by
 intro bs hp0 pin fr K hok hno
 refine aG false [] hty Tryz.func80 rfl (kp [0,2]) 100 (by simp [Tryz.f80]) ?_
 ((conv=>whnf);repeat ((first|(intro hq;try simp only [lnS]at hq)|refine sI ?_|refine .intro _ (.intro rfl ?_));(conv=>whnf)))
 refine gU bs 4 (by omega) hp0 (λhle=> ?_) (λhlt=>hno (aV (aBl hlt)) bs)
 have h2:=tD 4 (bs.take 4) (by rw [List.length_take];omega)
 have h3:IntKind.i64.wrap ((deN (bs.take 4):Nat):Int)=((deN (bs.take 4):Nat):Int):=IntWalk.i64_in _ (by omega)
 have hb:bZ (aCu 4) iT bs=iT (deN (bs.take 4)) (bs.drop 4):=aK (aBk hle)
 rw [hb]at hok hno
 generalize deN (bs.take 4)=m at *
 generalize bs.drop 4=r at *
 ((conv=>whnf);repeat ((first|(intro hq;try simp only [lnS]at hq)|refine sI ?_|refine .intro _ (.intro rfl ?_));(conv=>whnf)))
 rw [h3]
 refine wT r m hp0 (λhle2=> ?_) (λhlt=>hno (aBi hlt) r)
 have h4:=hok _ _ (aBh hle2)
 have h5:=fX (r.take m)
 ((conv=>whnf);repeat' ((first|(intro hq;(try simp only [lnS]at hq);(try rewrite [List.length_map]))|refine sJ ?_|refine .intro _ (.intro rfl ?_)|refine exL (k:= ?_)|refine dwR ?_|((first|refine aB ?_ ?_|refine aC ?_ ?_)<;>intro hb<;>(first|exact ddX hb|try simp only [lnS]at hb))|(refine aA ?_ ?_<;>intro hb<;>try exact dsX hb))<;>(conv=>whnf)))
 rw [h5]
 exact h4
end Go.Proofs.YtleihcnongldbaaGreatDoor
namespace Go.Proofs.YtleihcnongldbaaGreatDoor
open Go.RowKit
def SV.ren (σ:Nat->Nat):SV->SV
 | .ptr i o=> .ptr (σ i) o
 | .osl i z r=> .osl (σ i) z r
 | .mw i z n=> .mw (σ i) z n
 |s=>s
def SV.sim:SV->Prop
 | .ptr _ _=>True
 | .osl _ _ _=>True
 | .mw _ _ _=>True
 |s=>s.ids=[]
def HObj.ren (σ:Nat->Nat):HObj->HObj
 | .cells t cs=> .cells t (cs.map (SV.ren σ))
 | .ro t cs=> .ro t (cs.map (SV.ren σ))
 |o=>o
def HObj.sim:HObj->Prop
 | .cells _ cs=> ∀s∈cs,s.sim
 | .ro _ cs=> ∀s∈cs,s.sim
 | .own _ _ _=>True
 | .mrow _ _ _ _=>True
 | .glob _ _ _=>True
 | .ext X=>X.ids=[]
 | .rox X=>X.ids=[]
 | .loop _ _=>False
def Env.like (a b:Env) (σ:Nat->Nat) (i:Nat):Prop:=b.blk (σ i)=a.blk i/\b.n (σ i)=a.n i/\b.tv (σ i)=a.tv i
section
variable {P:Program}
theorem Rep.noids {w:World}{ρ ρ':Env}{s:SV}{v:Value}(h:Rep w ρ s v) (hs:ρ'.S=ρ.S) (hi:s.ids=[]):Rep w ρ' s v:=
 h.mono (λ_ _ _=>rfl) (λb i x=>by rw [hs];exact x) (λid hid=>by rw [hi]at hid;cases hid)
theorem RepD.noS {w:World}{S S':Nat->Nat->Prop}{x:D}{v:Value}(h:RepD w S x v) (hs:S'=S):RepD w S' x v:=by rw [hs];exact h
theorem Rep.toRen {w:World}{a b:Env}{σ:Nat->Nat}{s:SV}{v:Value}(hs:s.sim) (hS:b.S=a.S) (hl: ∀i∈s.ids,a.like b σ i) (h:Rep w a s v):Rep w b (s.ren σ) v:=by
 cases s with
 |ptr i o=>
  cases h with
  |ptr _ _ g hg=>exact .ptr _ _ g ((hl i (by simp [SV.ids])).1.trans hg)
 |osl i z r=>
  obtain⟨_,h2,h3⟩:=hl i (by simp [SV.ids])
  cases h with
  |osl _ _ _ _ h hn ht=>exact .osl _ _ _ _ (h.noS hS) (by rw [h2];exact hn) (by rw [h2,h3];exact ht)
 |mw i z n=>
  obtain⟨_,h2,h3⟩:=hl i (by simp [SV.ids])
  cases h with
  |mw _ _ _ cap A hn hc hA h4 h5=>exact .mw _ _ _ cap A hn hc hA (by rw [h2];exact h4) (by rw [h2,h3];exact h5)
 |_=>exact h.noids hS hs
theorem Rep.ofRen {w:World}{a b:Env}{σ:Nat->Nat}{s:SV}{v:Value}(hs:s.sim) (hS:b.S=a.S) (hl: ∀i∈s.ids,a.like b σ i) (h:Rep w b (s.ren σ) v):Rep w a s v:=by
 cases s with
 |ptr i o=>
  cases h with
  |ptr _ _ g hg=>exact .ptr _ _ g ((hl i (by simp [SV.ids])).1.symm.trans hg)
 |osl i z r=>
  obtain⟨_,h2,h3⟩:=hl i (by simp [SV.ids])
  cases h with
  |osl _ _ _ _ h hn ht=>exact .osl _ _ _ _ (h.noS hS.symm) (by rw [<-h2];exact hn) (by rw [<-h2,<-h3];exact ht)
 |mw i z n=>
  obtain⟨_,h2,h3⟩:=hl i (by simp [SV.ids])
  cases h with
  |mw _ _ _ cap A hn hc hA h4 h5=>exact .mw _ _ _ cap A hn hc hA (by rw [<-h2];exact h4) (by rw [<-h2,<-h3];exact h5)
 |_=>exact h.noids hS.symm hs
theorem dN.toRen {w:World}{a b:Env}{σ:Nat->Nat}{g:Nat}{t:TypeId}{cs:List SV}(hs: ∀s∈cs,s.sim) (hS:b.S=a.S) (hl: ∀i∈SV.idsL cs,a.like b σ i) (h:dN w a g t cs):dN w b g t (cs.map (SV.ren σ)):=by
 obtain⟨cur,h1,h2,h3,h4⟩:=h
 refine⟨cur,h1,by rw [List.length_map];exact h2,h3,λj s v e1 e2=> ?_⟩
 rw [List.getElem?_map]at e1
 obtain⟨s0,e3,rfl⟩:=Option.map_eq_some_iff.1 e1
 exact(h4 j s0 v e3 e2).toRen (hs _ (List.mem_of_getElem? e3)) hS λi hi=>hl i (SV.mem_idsL e3 hi)
theorem dN.ofRen {w:World}{a b:Env}{σ:Nat->Nat}{g:Nat}{t:TypeId}{cs:List SV}(hs: ∀s∈cs,s.sim) (hS:b.S=a.S) (hl: ∀i∈SV.idsL cs,a.like b σ i) (h:dN w b g t (cs.map (SV.ren σ))):dN w a g t cs:=by
 obtain⟨cur,h1,h2,h3,h4⟩:=h
 refine⟨cur,h1,by rw [List.length_map]at h2;exact h2,h3,λj s v e1 e2=> ?_⟩
 exact(h4 j (s.ren σ) v (by rw [List.getElem?_map,e1];rfl) e2).ofRen (hs _ (List.mem_of_getElem? e1)) hS λi hi=>hl i (SV.mem_idsL e1 hi)
theorem HObj.at_ren {a b:Env}{σ:Nat->Nat}{i:Nat}{o:HObj}(hs:o.sim) (hl:a.like b σ i):b.at (σ i) (o.ren σ)=a.at i o:=by
 obtain⟨h1,h2,h3⟩:=hl
 cases o<;>simp only [HObj.ren,Env.at,h1,h3]
theorem aCf.toRen {w:World}{a b:Env}{σ:Nat->Nat}{id:Nat}{o:HObj}(hs:o.sim) (hS:b.S=a.S) (hl: ∀i,i=id\/i∈o.ids->a.like b σ i) (h:aCf w a id o):aCf w b (σ id) (o.ren σ):=by
 obtain⟨l1,l2,l3⟩:=hl id (.inl rfl)
 cases o with
 |cells t cs=>
  obtain⟨g,h1,h2,h3⟩:=h
  exact⟨g,l1.trans h1,h2.toRen hs hS λi hi=>hl i (.inr hi),λi=>by rw [hS];exact h3 i⟩
 |ro t cs=>
  obtain⟨g,h1,h2⟩:=h
  exact⟨g,l1.trans h1,h2.toRen hs hS λi hi=>hl i (.inr hi)⟩
 |own e z n=>
  obtain⟨h1,xs,h2,h3,h4⟩:=h
  refine⟨l2.trans h1,xs, ?_, ?_,h4⟩
  ·rw [l2,l3];exact h2
  ·rw [l2,l3,hS];exact h3
 |mrow e z cap rows=>
  obtain⟨h1,h2⟩:=h
  refine⟨l2.trans h1, ?_⟩
  rw [l3,hS];exact h2
 |loop L s=>exact hs.elim
 |ext X=>
  obtain⟨g,r,h1,h2,h3,h4⟩:=h
  refine⟨g,r,l1.trans h1,h2,X.keep w w a b r (λ_ _ _=>rfl) (λ_ _ x=>by rw [hS];exact x) (λi hi=> ?_) h3,λi=>by rw [hS];exact h4 i⟩
  rw [show X.ids=[]from hs]at hi;cases hi
 |glob g z rows=>
  show View w b.S z rows g 0
  rw [hS];exact h
 |rox X=>
  obtain⟨g,r,h1,h2,h3⟩:=h
  refine⟨g,r,l1.trans h1,h2,X.keep w w a b r (λ_ _ _=>rfl) (λ_ _ x=>by rw [hS];exact x) (λi hi=> ?_) h3⟩
  rw [show X.ids=[]from hs]at hi;cases hi
theorem aCf.ofRen {w:World}{a b:Env}{σ:Nat->Nat}{id:Nat}{o:HObj}(hs:o.sim) (hS:b.S=a.S) (hl: ∀i,i=id\/i∈o.ids->a.like b σ i) (h:aCf w b (σ id) (o.ren σ)):aCf w a id o:=by
 obtain⟨l1,l2,l3⟩:=hl id (.inl rfl)
 cases o with
 |cells t cs=>
  obtain⟨g,h1,h2,h3⟩:=h
  exact⟨g,l1.symm.trans h1,h2.ofRen hs hS λi hi=>hl i (.inr hi),λi=>by rw [<-hS];exact h3 i⟩
 |ro t cs=>
  obtain⟨g,h1,h2⟩:=h
  exact⟨g,l1.symm.trans h1,h2.ofRen hs hS λi hi=>hl i (.inr hi)⟩
 |own e z n=>
  obtain⟨h1,xs,h2,h3,h4⟩:=h
  refine⟨l2.symm.trans h1,xs, ?_, ?_,h4⟩
  ·rw [<-l2,<-l3];exact h2
  ·rw [<-l2,<-l3,<-hS];exact h3
 |mrow e z cap rows=>
  obtain⟨h1,h2⟩:=h
  refine⟨l2.symm.trans h1, ?_⟩
  rw [<-l3,<-hS];exact h2
 |loop L s=>exact hs.elim
 |ext X=>
  obtain⟨g,r,h1,h2,h3,h4⟩:=h
  refine⟨g,r,l1.symm.trans h1,h2,X.keep w w b a r (λ_ _ _=>rfl) (λ_ _ x=>by rw [<-hS];exact x) (λi hi=> ?_) h3,λi=>by rw [<-hS];exact h4 i⟩
  rw [show X.ids=[]from hs]at hi;cases hi
 |glob g z rows=>
  have h:View w b.S z rows g 0:=h
  rw [hS]at h;exact h
 |rox X=>
  obtain⟨g,r,h1,h2,h3⟩:=h
  refine⟨g,r,l1.symm.trans h1,h2,X.keep w w b a r (λ_ _ _=>rfl) (λ_ _ x=>by rw [<-hS];exact x) (λi hi=> ?_) h3⟩
  rw [show X.ids=[]from hs]at hi;cases hi
theorem HObj.rd_ren {σ:Nat->Nat}{o:HObj}:(o.ren σ).Rd↔o.Rd:=by cases o<;>exact Iff.rfl
def Env.pull (ρ:Env) (σ:Nat->Nat):Env:=⟨ρ.S,λi=>ρ.blk (σ i),λi=>ρ.n (σ i),λi=>ρ.tv (σ i)⟩
theorem Env.pull_like (ρ:Env) (σ:Nat->Nat) (i:Nat):(ρ.pull σ).like ρ σ i:=⟨rfl,rfl,rfl⟩
def aIc (σ:Nat->Nat) (W:List Nat) (i:Nat):Option Nat:=W.find? λk=>σ k==i
def Env.push (ρ ρ1:Env) (σ:Nat->Nat) (W:List Nat):Env:=
 ⟨ρ1.S,λi=>match aIc σ W i with|some k=>ρ1.blk k|none=>ρ.blk i,λi=>match aIc σ W i with|some k=>ρ1.n k|none=>ρ.n i,λi=>match aIc σ W i with|some k=>ρ1.tv k|none=>ρ.tv i⟩
theorem xQ {σ:Nat->Nat}{W:List Nat}{i k:Nat}(h:aIc σ W i=some k):k∈W/\σ k=i:=by
 unfold aIc at h
 exact⟨List.mem_of_find?_eq_some h,by simpa using List.find?_some h⟩
theorem aQv {σ:Nat->Nat}{W:List Nat}(hinj: ∀a∈W,∀b∈W,σ a=σ b->a=b) {k:Nat}(hk:k∈W):aIc σ W (σ k)=some k:=by
 cases h:aIc σ W (σ k)with
 |none=>
  unfold aIc at h
  rw [List.find?_eq_none]at h
  exact absurd (beq_self_eq_true (σ k)) (h k hk)
 |some j=>
  obtain⟨h1,h2⟩:=xQ h
  rw [hinj j h1 k hk h2]
theorem Env.push_like {ρ ρ1:Env}{σ:Nat->Nat}{W:List Nat}(hinj: ∀a∈W,∀b∈W,σ a=σ b->a=b) {k:Nat}(hk:k∈W):ρ1.like (ρ.push ρ1 σ W) σ k:=by
 unfold Env.like Env.push
 simp only [aQv hinj hk,and_self]
structure Left (σ:Nat->Nat) (W:List Nat) (h1 hp hp2:Hp):Prop where
 up: ∀k∈W,∃o,aT h1 k=some o/\o.sim/\¬ o.Rd/\(∀i∈o.ids,i∈W)/\aT hp2 (σ k)=some (o.ren σ)
 rest: ∀i o,aT hp2 i=some o->(∃k∈W,i=σ k)\/aT hp i=some o
structure Among (σ:Nat->Nat) (W:List Nat) (hpI hp:Hp):Prop where
 sub: ∀id o,aT hpI id=some o->aT hp (σ id)=some (o.ren σ)/\o.sim
 inj: ∀id o id' o',aT hpI id=some o->aT hpI id'=some o'->σ id=σ id'->id=id'
 w: ∀k∈W,∃o,aT hpI k=some o
 rd: ∀id o,aT hpI id=some o->id∈W\/ ∀ρ:Env,ρ.at id o=none
theorem Mem.framed {E:Entry}{ρ ρ1:Env}{σ:Nat->Nat}{W:List Nat}{hpI h1 hp hp2:Hp}{w w':World}{pin:Pin}{rd:Option Nat}(hm:Mem E ρ hp w) (A:Among σ W hpI hp) (L:Left σ W h1 hp hp2) (hW: ∀k∈W,k∈pin)
  (hm':Mem (cL w (ρ.pull σ) hpI pin rd E.D) ρ1 h1 w'):Mem E (ρ.push ρ1 σ W) hp2 w'/\ ∀i,ρ.moved (ρ.push ρ1 σ W) i:=by
 have hinj: ∀a∈W,∀b∈W,σ a=σ b->a=b:=by
  intro a ha b hb e
  obtain⟨o,h1⟩:=A.w a ha
  obtain⟨o',h2⟩:=A.w b hb
  exact A.inj _ _ _ _ h1 h2 e
 have hmv: ∀i,ρ.moved (ρ.push ρ1 σ W) i:=by
  intro i
  cases h:aIc σ W i with
  |none=>exact⟨by simp only [Env.push,h], .inl ⟨by simp only [Env.push,h],by simp only [Env.push,h]⟩⟩
  |some k=>
   obtain⟨k1,k2⟩:=xQ h
   subst k2
   have:=hm'.mv k (hW k k1)
   unfold Env.moved at this |-
   simp only [Env.push,h]
   exact this
 have hBI: ∀b,(cL w (ρ.pull σ) hpI pin rd E.D).B b-> ∃k∈W,∃o,aT hpI k=some o/\aT hp (σ k)=some (o.ren σ)/\ρ.at (σ k) (o.ren σ)=some b:=by
  rintro b ⟨k,o,e1,e2⟩
  obtain⟨s1,s2⟩:=A.sub k o e1
  rcases A.rd k o e1 with hk|hn
  ·exact⟨k,hk,o,e1,s1,by rw [HObj.at_ren s2 (ρ.pull_like σ k)];exact e2⟩
  ·rw [hn]at e2;cases e2
 have hkp:cJ ρ.S w w':=hm'.kp
 have hsold: ∀b i,ρ.S b i->ρ1.S b i:=hm'.sold
 have hother: ∀i o,aIc σ W i=none->(ρ.push ρ1 σ W).at i o=ρ.at i o:=by
  intro i o h
  cases o<;>simp only [Env.at,Env.push,h]
 have hnone: ∀i,(¬ ∃k∈W,i=σ k)->aIc σ W i=none:=by
  intro i h
  cases e:aIc σ W i with
  |none=>rfl
  |some k=>obtain⟨k1,k2⟩:=xQ e;exact absurd ⟨k,k1,k2.symm⟩ h
 have hup: ∀k∈W,∀o,aT hp2 (σ k)=some o-> ∃o1,aT h1 k=some o1/\o1.sim/\¬ o1.Rd/\o=o1.ren σ/\(ρ.push ρ1 σ W).at (σ k) o=ρ1.at k o1:=by
  intro k hk o ho
  obtain⟨o1,e1,e2,e3,e4,e5⟩:=L.up k hk
  rw [e5]at ho
  injection ho with ho
  subst ho
  exact⟨o1,e1,e2,e3,rfl,HObj.at_ren e2 (Env.push_like hinj hk)⟩
 have hnotB: ∀i o g,(¬ ∃k∈W,i=σ k)->aT hp i=some o->(ρ.at i o=some g\/ρ.blk i=some g/\o.Rd)->¬ (cL w (ρ.pull σ) hpI pin rd E.D).B g:=by
  intro i o g hi ho hg hB
  obtain⟨k,k1,o',k2,k3,k4⟩:=hBI g hB
  rcases hg with hg|⟨hg,hrd⟩
  ·exact hi ⟨k,k1,hm.inj _ _ _ _ g ho k3 hg k4⟩
  ·exact hm.ro i o g ho hrd hg _ _ k3 k4
 have hlt: ∀i o g,aT hp i=some o->(ρ.at i o=some g\/ρ.blk i=some g/\o.Rd)->g < w.heap.size:=by
  intro i o g ho hg
  rcases hg with hg|⟨hg,hrd⟩
  ·exact hm.blk_lt ho hg
  ·exact hm.ro_lt ho hrd hg
 refine⟨⟨hm'.os.trans hm.os,hm'.tape.trans hm.tape,hm'.output.trans hm.output,Nat.le_trans hm.size hm'.size, ?_,λb i hs=>hsold b i (hm.sold b i hs), ?_,hm'.slt,hm.kp.trans hm.sold hkp, ?_, ?_, ?_,λid hid=>Env.moved_trans (hm.mv id hid) (hmv id), ?_,hm'.md⟩,hmv⟩
 ·intro b hb hnb
  refine(hm'.old b (Nat.lt_of_lt_of_le hb hm.size) λhB=> ?_).trans (hm.old b hb hnb)
  obtain⟨k,k1,o,k2,k3,k4⟩:=hBI b hB
  rcases hm.hb _ _ b k3 k4 with h|h
  ·omega
  ·exact hnb h
 ·intro b i hs hb hnb
  refine hm.snew b i (hm'.snew b i hs (Nat.lt_of_lt_of_le hb hm.size) λhB=> ?_) hb hnb
  obtain⟨k,k1,o,k2,k3,k4⟩:=hBI b hB
  rcases hm.hb _ _ b k3 k4 with h|h
  ·omega
  ·exact hnb h
 ·intro i o ho
  by_cases hi: ∃k∈W,i=σ k
  ·obtain⟨k,hk,rfl⟩:=hi
   obtain⟨o1,e1,e2,e3,e4,e5⟩:=L.up k hk
   rw [e5]at ho
   injection ho with ho
   subst ho
   exact aCf.toRen (a := ρ1) e2 rfl (hl := λj hj => by
    rcases hj with rfl|hj
    ·exact Env.push_like hinj hk
    ·exact Env.push_like hinj (e4 j hj)) (h:=hm'.sat k o1 e1)
  ·rcases L.rest i o ho with h|h
   ·exact absurd h hi
   ·have hn:=hnone i hi
    refine(hm.sat i o h).keep hkp hsold (λj _=>hmv j) ⟨by simp only [Env.push,hn],by simp only [Env.push,hn]⟩ ?_ ?_
    ·intro g hg
     exact hm'.old g (hlt i o g h hg) (hnotB i o g hi h hg)
    ·intro g hg j hj
     exact hm'.snew g j hj (hlt i o g h (.inl hg)) (hnotB i o g hi h (.inl hg))
 ·intro i o i' o' g h h' hg hg'
  by_cases hi: ∃k∈W,i=σ k
  ·obtain⟨k,hk,rfl⟩:=hi
   obtain⟨o1,e1,e2,e3,e4,e5⟩:=hup k hk o h
   rw [e5]at hg
   by_cases hi': ∃k∈W,i'=σ k
   ·obtain⟨k',hk',rfl⟩:=hi'
    obtain⟨o1',f1,f2,f3,f4,f5⟩:=hup k' hk' o' h'
    rw [f5]at hg'
    rw [hm'.inj _ _ _ _ g e1 f1 hg hg']
   ·rcases L.rest i' o' h' with h2|h2
    ·exact absurd h2 hi'
    ·rw [hother i' o' (hnone i' hi')]at hg'
     rcases hm'.hb k o1 g e1 hg with hge|hB
     ·have:=hlt i' o' g h2 (.inl hg')
      have hge:w.heap.size<=g:=hge
      omega
     ·exact absurd hB (hnotB i' o' g hi' h2 (.inl hg'))
  ·rcases L.rest i o h with h2|h2
   ·exact absurd h2 hi
   ·rw [hother i o (hnone i hi)]at hg
    by_cases hi': ∃k∈W,i'=σ k
    ·obtain⟨k',hk',rfl⟩:=hi'
     obtain⟨o1',f1,f2,f3,f4,f5⟩:=hup k' hk' o' h'
     rw [f5]at hg'
     rcases hm'.hb k' o1' g f1 hg' with hge|hB
     ·have:=hlt i o g h2 (.inl hg)
      have hge:w.heap.size<=g:=hge
      omega
     ·exact absurd hB (hnotB i o g hi h2 (.inl hg))
    ·rcases L.rest i' o' h' with h3|h3
     ·exact absurd h3 hi'
     ·rw [hother i' o' (hnone i' hi')]at hg'
      exact hm.inj i o i' o' g h2 h3 hg hg'
 ·intro i o g h hg
  by_cases hi: ∃k∈W,i=σ k
  ·obtain⟨k,hk,rfl⟩:=hi
   obtain⟨o1,e1,e2,e3,e4,e5⟩:=hup k hk o h
   rw [e5]at hg
   rcases hm'.hb k o1 g e1 hg with hge|hB
   ·exact .inl (Nat.le_trans hm.size hge)
   ·obtain⟨k,k1,o,k2,k3,k4⟩:=hBI g hB
    exact hm.hb _ _ g k3 k4
  ·rcases L.rest i o h with h2|h2
   ·exact absurd h2 hi
   ·rw [hother i o (hnone i hi)]at hg
    exact hm.hb i o g h2 hg
 ·intro i o g h hrd hg i' o' h' hg'
  by_cases hi: ∃k∈W,i=σ k
  ·obtain⟨k,hk,rfl⟩:=hi
   obtain⟨o1,e1,e2,e3,e4,e5⟩:=hup k hk o h
   rw [e4]at hrd
   exact e3 (HObj.rd_ren.1 hrd)
  ·rcases L.rest i o h with h2|h2
   ·exact absurd h2 hi
   ·have hg:ρ.blk i=some g:=by simpa only [Env.push,hnone i hi]using hg
    by_cases hi': ∃k∈W,i'=σ k
    ·obtain⟨k',hk',rfl⟩:=hi'
     obtain⟨o1',f1,f2,f3,f4,f5⟩:=hup k' hk' o' h'
     rw [f5]at hg'
     rcases hm'.hb k' o1' g f1 hg' with hge|hB
     ·have:=hlt i o g h2 (.inr ⟨hg,hrd⟩)
      have hge:w.heap.size<=g:=hge
      omega
     ·exact absurd hB (hnotB i o g hi h2 (.inr ⟨hg,hrd⟩))
    ·rcases L.rest i' o' h' with h3|h3
     ·exact absurd h3 hi'
     ·rw [hother i' o' (hnone i' hi')]at hg'
      exact hm.ro i o g h2 hrd hg i' o' h3 hg'
theorem Mem.pulled {E:Entry}{ρ:Env}{σ:Nat->Nat}{W:List Nat}{hpI hp:Hp}{w:World}(pin:Pin) (rd:Option Nat) (hm:Mem E ρ hp w) (A:Among σ W hpI hp):Mem (cL w (ρ.pull σ) hpI pin rd E.D) (ρ.pull σ) hpI w:=by
 refine⟨rfl,rfl, .refl _,Nat.le_refl _,λ_ _ _=>rfl,λ_ _ h=>h,λ_ _ h _ _=>h,hm.slt,λ_ _ _=>rfl, ?_, ?_,λid o _ a b=> .inr ⟨id,o,a,b⟩,λid _=>(ρ.pull σ).moved_refl id, ?_,hm.md⟩
 ·intro id o h
  obtain⟨h1,h2⟩:=A.sub id o h
  exact aCf.ofRen (b:=ρ) (σ:=σ) h2 rfl (λi _=>ρ.pull_like σ i) (hm.sat _ _ h1)
 ·intro id o id' o' g h h' hg hg'
  obtain⟨h1,h2⟩:=A.sub id o h
  obtain⟨h3,h4⟩:=A.sub id' o' h'
  rw [<-HObj.at_ren h2 (ρ.pull_like σ id)]at hg
  rw [<-HObj.at_ren h4 (ρ.pull_like σ id')]at hg'
  exact A.inj _ _ _ _ h h' (hm.inj _ _ _ _ g h1 h3 hg hg')
 ·intro id o g h hrd hg id' o' h' hg'
  obtain⟨h1,h2⟩:=A.sub id o h
  obtain⟨h3,h4⟩:=A.sub id' o' h'
  rw [<-HObj.at_ren h4 (ρ.pull_like σ id')]at hg'
  exact hm.ro _ _ g h1 (HObj.rd_ren.2 hrd) hg _ _ h3 hg'
theorem rI {pin:Pin}{fr:Fr}{hp:Hp}{f:FuncId}{args:List SV}{K:SV->Hp->Prop}(σ:Nat->Nat) (W:List Nat) (hpI:Hp) {pinI:Pin}{argsI:List SV}{KI:SV->Hp->Prop}
  (hc:aJ P pinI [] hpI f argsI KI) (A:Among σ W hpI hp) (hW: ∀k∈W,k∈pinI) (hargs:args=argsI.map (SV.ren σ)) (hsim: ∀s∈argsI,s.sim)
  (hk: ∀s h1,KI s h1->s.sim/\(∀i∈s.ids,i∈W)/\ ∃hp2,Left σ W h1 hp hp2/\K (s.ren σ) hp2)
  (hkp: ∀h1,pinI.kp [] h1-> ∃hp2,Left σ W h1 hp hp2/\pin.kp fr hp2):aJ P pin fr hp f args K:=by
 intro E ρ w tm hpin hm hf vs hv
 have hinj: ∀a∈W,∀b∈W,σ a=σ b->a=b:=by
  intro a ha b hb e
  obtain⟨o,h1⟩:=A.w a ha
  obtain⟨o',h2⟩:=A.w b hb
  exact A.inj _ _ _ _ h1 h2 e
 have hm0:=hm.pulled pinI none A
 refine(hc _ _ w #[] rfl hm0 (λt s h=>by simp [gO]at h) vs ⟨by rw [hv.1,hargs,List.length_map],λj s v hs hx=> ?_⟩).mono ?_
 ·refine Rep.ofRen (b:=ρ) (σ:=σ) (hsim s (List.mem_of_getElem? hs)) rfl (λi _=>ρ.pull_like σ i) (hv.2 j _ v ?_ hx)
  rw [hargs,List.getElem?_map,hs];rfl
 ·rintro e w' (⟨v,ρ1,s,h1,rfl,k1,k2,k3,k4⟩|⟨ch,ρ1,h1,rfl,k0,k1,k2,k3⟩)
  ·obtain⟨s1,s2,hp2,s3,s4⟩:=hk s h1 k1
   obtain⟨m1,m2⟩:=hm.framed A s3 hW k2
   exact .inl ⟨v,_,s.ren σ,hp2,rfl,s4,m1,hf.mono k2.kp k2.sold (λi _=>m2 i),Rep.toRen (a:=ρ1) s1 rfl (hl:= λi hi=>Env.push_like hinj (s2 i hi)) (h:=k4)⟩
  ·obtain⟨hp2,s3,s4⟩:=hkp h1 k1
   obtain⟨m1,m2⟩:=hm.framed A s3 hW k2
   exact .inr ⟨ch,_,hp2,rfl,k0,s4,m1,hf.mono k2.kp k2.sold (λi _=>m2 i)⟩
theorem aQu {i:Nat}{h1 hp:Hp}{x o:HObj}(hx:aT hp i=some x) (ho:aT h1 3=some o) (hs:o.sim) (hr:¬ o.Rd) (hi:o.ids=[]) (he:o.ren (λ_=>i)=o):Left (λ_=>i) [3] h1 hp (gQ hp i o):=by
 refine⟨λk hk=> ?_,λj y hy=> ?_⟩
 ·obtain rfl:k=3:=by simpa using hk
  have hnone: ∀j∈o.ids,j∈[3]:=by
   intro j hj
   rw [hi]at hj
   cases hj
  refine⟨o,ho,hs,hr,hnone, ?_⟩
  show aT (gQ hp i o) i=_
  rw [bN o hx,if_pos rfl,he]
 ·rw [bN o hx]at hy
  split at hy
  ·rename_i e;exact .inl ⟨3,by simp,e⟩
  ·exact .inr hy
theorem aP4 {i:Nat}{hp:Hp}{x o:HObj}(hx:aT hp i=some x) (he:o.ren (λ_=>i)=x) (hs:o.sim):Among (λ_=>i) [3] [(3,o)] hp:=by
 refine⟨λid y hy=> ?_,λid y id' y' h h' _=> ?_,λk hk=> ?_,λid y hy=> ?_⟩
 ·simp only [aT]at hy
  split at hy
  ·rename_i e;injection hy with hy;subst hy;subst e
   exact⟨by rw [he];exact hx,hs⟩
  ·cases hy
 ·simp only [aT]at h h'
  split at h
  ·split at h'
   ·rename_i e1 e2;rw [<-e1,<-e2]
   ·cases h'
  ·cases h
 ·obtain rfl:k=3:=by simpa using hk
  exact⟨o,by simp [aT]⟩
 ·simp only [aT]at hy
  split at hy
  ·rename_i e;subst e;exact .inl (by simp)
  ·cases hy
end
end Go.Proofs.YtleihcnongldbaaGreatDoor
namespace Go.Proofs.YtleihcnongldbaaGreatDoor
open Go.RowKit
def dA (a b:SV):Prop:= ∀(w:World) (ρ:Env) (v:Value),Rep w ρ a v->Rep w ρ b v
theorem dA.refl (a:SV):dA a a:= λ_ _ _ h=>h
theorem dA.osl {id z:Nat}{rows:List (List D)}:dA (.osl id z rows) (.d (.sl z rows)):= λ_ _ _ h=> .d _ _ h.osl_inv.1
theorem dA.wkd {a b:D}(h:WkD a b):dA (.d a) (.d b):= λ_ _ _ hr=>by
 cases hr with
 |d _ _ hd=>exact .d _ _ (aGn hd b h)
theorem dA.nil {z:Nat}:dA (.d .nil) (.d (.sl z [])):=dA.wkd rfl
theorem dA.agg {l m:List SV}(hl:l.length=m.length) (h: ∀(j:Nat) (a b:SV),l[j]? =some a->m[j]? =some b->dA a b):dA (.agg l) (.agg m):= λw ρ v hr=>by
 obtain⟨vs,rfl,h1,h2⟩:=hr.agg_inv
 refine .agg _ _ (h1.trans hl) λj b u hb hu=> ?_
 have hj:j < l.length:=by rw [hl];exact(List.getElem?_eq_some_iff.1 hb).1
 exact h j _ b (List.getElem?_eq_getElem hj) hb w ρ u (h2 j _ u (List.getElem?_eq_getElem hj) hu)
theorem dA.aggD {l:List D}:dA (.agg (l.map .d)) (.d (.agg l)):= λw ρ v hr=>by
 obtain⟨vs,rfl,h1,h2⟩:=hr.agg_inv
 refine .d _ _ (.agg _ _ (by rw [h1,List.length_map]) λj x u hx hu=> ?_)
 have:=h2 j (.d x) u (by rw [List.getElem?_map,hx];rfl) hu
 cases this with
 |d _ _ h=>exact h
def aI9:List SV->List D->Prop
 | [],[]=>True
 |a::l,b::m=>dA a (.d b)/\aI9 l m
 |_,_=>False
theorem aI9.at: ∀(l:List SV) (m:List D),aI9 l m->l.length=m.length/\ ∀(j:Nat) (a:SV) (b:D),l[j]? =some a->m[j]? =some b->dA a (.d b)
 | [],[],_=>⟨rfl,by simp⟩
 |a::l,b::m,h=>by
  obtain⟨h1,h2⟩:=aI9.at l m h.2
  refine⟨by simp [h1],λj x y hx hy=> ?_⟩
  cases j with
  |zero=>simp at hx hy;subst hx hy;exact h.1
  |succ j=>exact h2 j x y (by simpa using hx) (by simpa using hy)
theorem dA.cells {l:List SV}{m:List D}(h:aI9 l m):dA (.agg l) (.d (.agg m)):= λw ρ v hr=>by
 obtain⟨h1,h2⟩:=aI9.at l m h
 refine dA.aggD w ρ v (dA.agg (by rw [List.length_map,h1]) (λj a b ha hb=> ?_) w ρ v hr)
 rw [List.getElem?_map]at hb
 obtain⟨y,hy,rfl⟩:=Option.map_eq_some_iff.1 hb
 exact h2 j a y ha hy
section
variable {P:Program}
theorem aJ.says {pin:Pin}{fr:Fr}{hp:Hp}{f:FuncId}{args:List SV}{K:SV->Hp->Prop}(h:aJ P pin fr hp f args λs hp'=> ∃s',dA s s'/\K s' hp'):aJ P pin fr hp f args K:=by
 intro E ρ w tm h1 h2 h3 vs h4
 refine(h E ρ w tm h1 h2 h3 vs h4).mono ?_
 rintro e w' (⟨v,ρ',s,hp',rfl,⟨s',hs,hk⟩,k2,k3,k4⟩|q)
 ·exact .inl ⟨v,ρ',s',hp',rfl,hk,k2,k3,hs _ _ _ k4⟩
 ·exact .inr q
theorem aJ.args {pin:Pin}{fr:Fr}{hp:Hp}{f:FuncId}{args args':List SV}{K:SV->Hp->Prop}(h:aJ P pin fr hp f args' K) (hl:args.length=args'.length) (hs: ∀(j:Nat) (a b:SV),args[j]? =some a->args'[j]? =some b->dA a b):aJ P pin fr hp f args K:=by
 intro E ρ w tm h1 h2 h3 vs h4
 refine h E ρ w tm h1 h2 h3 vs ⟨h4.1.trans hl,λj b v hb hv=> ?_⟩
 have hj:j < args.length:=by rw [hl];exact(List.getElem?_eq_some_iff.1 hb).1
 exact hs j _ b (List.getElem?_eq_getElem hj) hb w ρ v (h4.2 j _ v (List.getElem?_eq_getElem hj) hv)
theorem aJk {s:SV}(h:s.ids=[]):s.sim:=by cases s<;>first|trivial|exact h
theorem aJq {σ:Nat->Nat}{s:SV}(h:s.ids=[]):s.ren σ=s:=by cases s<;>first|rfl|(simp [SV.ids]at h)
theorem aBf {σ:Nat->Nat}: ∀{l:List SV},SV.idsL l=[]->l.map (SV.ren σ)=l
 | [],_=>rfl
 |s::r,h=>by
  rw [SV.idsL,List.append_eq_nil_iff]at h
  rw [List.map_cons,aJq h.1,aBf h.2]
theorem aBa: ∀{l:List SV},SV.idsL l=[]-> ∀s∈l,s.sim
 |s::r,h,x,hx=>by
  rw [SV.idsL,List.append_eq_nil_iff]at h
  rcases List.mem_cons.1 hx with rfl|hx
  ·exact aJk h.1
  ·exact aBa h.2 x hx
end
end Go.Proofs.YtleihcnongldbaaGreatDoor
namespace Go.Proofs.YtleihcnongldbaaGreatDoor
open Go.Proofs Go.RowKit
set_option maxRecDepth 10000
attribute [local irreducible] aN aJ Tri aI YVC cP bE
abbrev rdO (b:List UInt8):HObj:= .cells 131 [.d (.sl 1 (b.map aM))]
abbrev aW2 (q:Prop):Pin:=⟨[3],λ_ h=>q/\ ∃b:List UInt8,aT h 3=some (rdO b),[]⟩
def RdT {α:Type}(f:FuncId) (ex:List SV) (r:Rd α) (e:α->SV):Prop:= ∀bs:List UInt8,bs.length<=1000000->
 aJ Tryz.prog (aW2 (r bs=none)) [] [(3,rdO bs)] f (.ptr 3 0::ex) (λs h=> ∃x c,r bs=some (x,c)/\s=e x/\aT h 3=some (rdO c))
theorem RdC.t {α:Type}{f:FuncId}{r:Rd α}{e:α->SV}(h:RdC f r e):RdT f [] r e:= λbs _=>
 h bs [] (λx c hr=>⟨x,c,hr,rfl,rfl⟩) (λhr b=>⟨hr,b,rfl⟩)
theorem aS2 (m:Nat):RdT 128 [.d (.int .i64 m)] (iT m) (λl=> .d (.sl 1 (l.map aM))):= λbs _=>
 wT bs m [] (λhle=>⟨_,_,aBh hle,rfl,rfl⟩) (λhlt=>⟨aBi hlt,bs,rfl⟩)
theorem hG (m:Nat) (hm:m<=8):RdT 127 [.d (.int .i64 m)] (aCu m) (λn=> .d (.int .u64 n)):= λbs _=>
 gU bs m hm [] (λhle=>⟨_,_,aBk hle,rfl,rfl⟩) (λhlt=>⟨aBl hlt,bs,rfl⟩)
theorem sF:RdT 90 [] aEp (λz=> .d (.int .i64 z)):=aKc.t
theorem aBr:RdT 137 [] aEn (λz=> .d (.int .i64 z)):=aNd.t
theorem rO:RdT 80 [] uL (λs=> .d (.str s)):=aPs.t
theorem RdT.call {α:Type}{f:FuncId}{ex:List SV}{r:Rd α}{e:α->SV}(h:RdT f ex r e) (hx:SV.idsL ex=[]) (he: ∀x,(e x).ids=[]) {pin:Pin}{fr:Fr}{hp:Hp}{i:Nat}{K:SV->Hp->Prop}(bs:List UInt8) (hb:bs.length<=1000000) (hg:aT hp i=some (rdO bs))
  (hok: ∀x c,r bs=some (x,c)->fQ hp i (rdO c) (K (e x))) (hno:r bs=none-> ∀b,pin.kp fr (gQ hp i (rdO b))):aJ Tryz.prog pin fr hp f (.ptr i 0::ex) K:=by
 have hs: ∀b,(rdO b).sim:= λb s hs=>by simp at hs;subst hs;exact rfl
 refine rI (λ_=>i) [3] [(3,rdO bs)] (h bs hb) (aP4 hg rfl (hs bs)) (λk hk=>hk) (by rw [List.map_cons,aBf hx];rfl) ?_ ?_ ?_
 ·intro s hs
  rcases List.mem_cons.1 hs with rfl|hs
  ·trivial
  ·exact aBa hx s hs
 ·rintro s h1 ⟨x,c,e1,rfl,e3⟩
  refine⟨aJk (he x), ?_,_,aQu hg e3 (hs c) (λh=>h) rfl rfl, ?_⟩
  ·intro j hj
   rw [he]at hj
   cases hj
  rw [aJq (he x)]
  have:=hok x c e1
  rw [dQ]at this
  exact this
 ·rintro h1 ⟨hn,b,e3⟩
  exact⟨_,aQu hg e3 (hs b) (λh=>h) rfl rfl,hno hn b⟩
def gP (d:Dig):List D:=d.1.map λc=> .int .u8 c.toNat
theorem aQ7 {bs l c:List UInt8}(h:iT 32 bs=some (l,c)): ∃e:l.length=32,vD bs=some (⟨l,e⟩,c):=by
 unfold iT at h
 split at h
 ·rename_i h1
  injection h with h
  injection h with h2 h3
  subst h2 h3
  exact⟨by rw [List.length_take];omega,by unfold vD;rw [dif_pos h1]⟩
 ·cases h
theorem aQ8 {bs:List UInt8}(h:iT 32 bs=none):vD bs=none:=by
 unfold iT at h
 split at h
 ·cases h
 ·rename_i h1
  unfold vD
  rw [dif_neg h1]
theorem aO5 (l:List UInt8):l.map aM=(l.map λc=>(D.int .u8 c.toNat)).map λc=>[c]:=by rw [List.map_map];rfl
end Go.Proofs.YtleihcnongldbaaGreatDoor
namespace Go.Proofs.YtleihcnongldbaaGreatDoor
open Go.Proofs Go.RowKit
set_option maxRecDepth 10000
attribute [local irreducible] aN aJ Tri aI YVC cP bE
theorem bY {l:List UInt8}{n:Nat}(h:l.length=n+1): ∃c m,l=c::m/\m.length=n:=by
 cases l with
 |nil=>cases h
 |cons c m=>exact⟨c,m,rfl,by simpa using h⟩
theorem jS {l:List UInt8}(h:l.length=32): ∃c0 c1 c2 c3 c4 c5 c6 c7 c8 c9 c10 c11 c12 c13 c14 c15 c16 c17 c18 c19 c20 c21 c22 c23 c24 c25 c26 c27 c28 c29 c30 c31:UInt8,l=[c0,c1,c2,c3,c4,c5,c6,c7,c8,c9,c10,c11,c12,c13,c14,c15,c16,c17,c18,c19,c20,c21,c22,c23,c24,c25,c26,c27,c28,c29,c30,c31]:=by
 obtain⟨c0,l0,rfl,h0⟩:=bY h
 obtain⟨c1,l1,rfl,h1⟩:=bY h0
 obtain⟨c2,l2,rfl,h2⟩:=bY h1
 obtain⟨c3,l3,rfl,h3⟩:=bY h2
 obtain⟨c4,l4,rfl,h4⟩:=bY h3
 obtain⟨c5,l5,rfl,h5⟩:=bY h4
 obtain⟨c6,l6,rfl,h6⟩:=bY h5
 obtain⟨c7,l7,rfl,h7⟩:=bY h6
 obtain⟨c8,l8,rfl,h8⟩:=bY h7
 obtain⟨c9,l9,rfl,h9⟩:=bY h8
 obtain⟨c10,l10,rfl,h10⟩:=bY h9
 obtain⟨c11,l11,rfl,h11⟩:=bY h10
 obtain⟨c12,l12,rfl,h12⟩:=bY h11
 obtain⟨c13,l13,rfl,h13⟩:=bY h12
 obtain⟨c14,l14,rfl,h14⟩:=bY h13
 obtain⟨c15,l15,rfl,h15⟩:=bY h14
 obtain⟨c16,l16,rfl,h16⟩:=bY h15
 obtain⟨c17,l17,rfl,h17⟩:=bY h16
 obtain⟨c18,l18,rfl,h18⟩:=bY h17
 obtain⟨c19,l19,rfl,h19⟩:=bY h18
 obtain⟨c20,l20,rfl,h20⟩:=bY h19
 obtain⟨c21,l21,rfl,h21⟩:=bY h20
 obtain⟨c22,l22,rfl,h22⟩:=bY h21
 obtain⟨c23,l23,rfl,h23⟩:=bY h22
 obtain⟨c24,l24,rfl,h24⟩:=bY h23
 obtain⟨c25,l25,rfl,h25⟩:=bY h24
 obtain⟨c26,l26,rfl,h26⟩:=bY h25
 obtain⟨c27,l27,rfl,h27⟩:=bY h26
 obtain⟨c28,l28,rfl,h28⟩:=bY h27
 obtain⟨c29,l29,rfl,h29⟩:=bY h28
 obtain⟨c30,l30,rfl,h30⟩:=bY h29
 obtain⟨c31,l31,rfl,h31⟩:=bY h30
 rw [List.length_eq_zero_iff.1 h31]
 exact⟨c0,c1,c2,c3,c4,c5,c6,c7,c8,c9,c10,c11,c12,c13,c14,c15,c16,c17,c18,c19,c20,c21,c22,c23,c24,c25,c26,c27,c28,c29,c30,c31,rfl⟩
theorem aC2:RdT 89 [] vD (λd=> .d (.agg (gP d))):=by
 intro bs hb
 refine aG false [] hty Tryz.func89 rfl (kp [0,2]) 100 (by simp [Tryz.f89]) ?_
 ((conv=>whnf);repeat ((first|(intro hq;try simp only [lnS]at hq)|refine sI ?_|refine .intro _ (.intro rfl ?_));(conv=>whnf)))
 refine RdT.call (aS2 32) rfl (λ_=>rfl) bs hb rfl (λl c e1=> ?_) (λe1 b=>⟨aQ8 e1,b,rfl⟩)
 obtain⟨e,e2⟩:=aQ7 e1
 rw [aO5]
 obtain⟨c0,c1,c2,c3,c4,c5,c6,c7,c8,c9,c10,c11,c12,c13,c14,c15,c16,c17,c18,c19,c20,c21,c22,c23,c24,c25,c26,c27,c28,c29,c30,c31,rfl⟩:=jS e
 ((conv=>whnf);repeat ((first|(intro hq;try simp only [lnS]at hq)|refine sI ?_|refine .intro _ (.intro rfl ?_));(conv=>whnf)))
 refine(aDx hty rfl (by with_unfolding_all exact rfl) rfl [.int .u8 c0.toNat, .int .u8 c1.toNat, .int .u8 c2.toNat, .int .u8 c3.toNat, .int .u8 c4.toNat, .int .u8 c5.toNat, .int .u8 c6.toNat, .int .u8 c7.toNat, .int .u8 c8.toNat, .int .u8 c9.toNat, .int .u8 c10.toNat, .int .u8 c11.toNat, .int .u8 c12.toNat, .int .u8 c13.toNat, .int .u8 c14.toNat, .int .u8 c15.toNat, .int .u8 c16.toNat, .int .u8 c17.toNat, .int .u8 c18.toNat, .int .u8 c19.toNat, .int .u8 c20.toNat, .int .u8 c21.toNat, .int .u8 c22.toNat, .int .u8 c23.toNat, .int .u8 c24.toNat, .int .u8 c25.toNat, .int .u8 c26.toNat, .int .u8 c27.toNat, .int .u8 c28.toNat, .int .u8 c29.toNat, .int .u8 c30.toNat, .int .u8 c31.toNat] rfl rfl (Nat.succ_pos 31) ?_)
 ((conv=>whnf);repeat ((first|(intro hq;try simp only [lnS]at hq)|refine sI ?_|refine .intro _ (.intro rfl ?_));(conv=>whnf)))
 exact⟨_,_,e2,rfl,rfl⟩
end Go.Proofs.YtleihcnongldbaaGreatDoor
