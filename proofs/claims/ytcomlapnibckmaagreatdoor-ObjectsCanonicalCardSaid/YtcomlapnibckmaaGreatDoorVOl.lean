/-
  Bytes: numbers in bytes, writers and readers of lists, decoding; plain. Objects: the reader takes bytes. Concepts and axioms in bytes: what is written is read again; plain. Commits, queries and alignments in bytes: what is written is read again; plain. Bytes as the program reckons them: shifting and or, the bytes of a number. Objects: the reader reads numbers. Objects: the reader reads ints, octets and texts.
  Conditions: none.
-/
import Derived.Test.YtcomlapnibckmaaGreatDoorVSw
import Derived.Test.YtcomlapnibckmaaGreatDoorVSyi
import Derived.Test.YtcomlapnibckmaaGreatDoorVA1
import Derived.Test.YtcomlapnibckmaaGreatDoorVSh
set_option linter.unnecessarySimpa false
set_option linter.unusedSectionVars false
set_option linter.unusedSimpArgs false
set_option linter.unusedVariables false
set_option maxHeartbeats 4000000
namespace Go.Proofs.YtcomlapnibckmaaGreatDoor
def beN:Nat->Nat->List UInt8
 | 0,_=>[]
 |k+1,n=>beN k (n / 256)++[UInt8.ofNat (n % 256)]
def deN (l:List UInt8):Nat:=l.foldl (λx c=>256 * x+c.toNat) 0
theorem aT: ∀k n,(beN k n).length=k
 | 0,_=>rfl
 |k+1,n=>by rw [beN,List.length_append,aT k];rfl
theorem xW (l:List UInt8) (c:UInt8):deN (l++[c])=256 * deN l+c.toNat:=by
 unfold deN;rw [List.foldl_append];rfl
theorem rE: ∀(k:Nat) (l:List UInt8),l.length=k->deN l < 256 ^ k
 | 0,l,h=>by rw [List.length_eq_zero_iff.1 h];decide
 |k+1,l,h=>by
  obtain⟨m,c,rfl⟩: ∃m c,l=m++[c]:=by
   rcases List.eq_nil_or_concat l with e|⟨m,c,e⟩
   ·rw [e]at h;cases h
   ·exact⟨m,c,by rw [e,List.concat_eq_append]⟩
  rw [List.length_append]at h
  have h1:=rE k m (by simpa using h)
  have h2:=c.toNat_lt
  rw [xW,Nat.pow_succ]
  omega
def uN (z:Int):Nat:=(z % 18446744073709551616).toNat
def sgN (n:Nat):Int:=if n < 9223372036854775808 then (n:Int)else (n:Int) - 18446744073709551616
abbrev Rd (α:Type):=List UInt8->Option (α×List UInt8)
section
variable {α β:Type}
def aCz (a:α):Rd α:= λb=>some (a,b)
def mG (r:Rd α) (f:α->β):Rd β:= λb=>(r b).map λp=>(f p.1,p.2)
def cA (r:Rd α) (f:α->Rd β):Rd β:= λb=>(r b).bind λp=>f p.1 p.2
def kM (n:Nat):Rd (List UInt8):= λb=>if n<=b.length then some (b.take n,b.drop n)else none
def zX (k:Nat):Rd Nat:=mG (kM k) deN
def kN (r:Rd α):Nat->Rd (List α)
 | 0=>aCz []
 |n+1=>cA r λx=>mG (kN r n) (x:: ·)
def dD (r:Rd α):Rd (List α):=cA (zX 4) (kN r)
theorem cX {r:Rd α}{f:α->β}{b c:List UInt8}{x:α}(h:r b=some (x,c)):mG r f b=some (f x,c):=by simp [mG,h]
theorem bQ {r:Rd α}{f:α->Rd β}{b c:List UInt8}{x:α}(h:r b=some (x,c)):cA r f b=f x c:=by simp [cA,h]
theorem aL {r:Rd α}{f:α->Rd β}{b:List UInt8}(h:r b=none):cA r f b=none:=by simp [cA,h]
theorem cY {r:Rd α}{f:α->β}{b:List UInt8}(h:r b=none):mG r f b=none:=by simp [mG,h]
theorem aB2 {r:Rd α}{f:α->Rd β}{b c:List UInt8}{y:β}(h:cA r f b=some (y,c)): ∃x d,r b=some (x,d)/\f x d=some (y,c):=by
 unfold cA at h
 obtain⟨p,h1,h2⟩:=Option.bind_eq_some_iff.1 h
 exact⟨p.1,p.2,h1,h2⟩
theorem wX {r:Rd α}{f:α->β}{b c:List UInt8}{y:β}(h:mG r f b=some (y,c)): ∃x,r b=some (x,c)/\y=f x:=by
 unfold mG at h
 obtain⟨p,h1,h2⟩:=Option.map_eq_some_iff.1 h
 injection h2 with h3 h4
 exact⟨p.1,by rw [h1,<-h4],h3.symm⟩
theorem lN (r:Rd α): ∀(n:Nat) (b:List UInt8),kN r (n+1) b=(kN r n b).bind λp=>(r p.2).map λq=>(p.1++[q.1],q.2)
 | 0,b=>by
  show cA r (λx=>mG (aCz []) (x:: ·)) b=_
  cases h:r b with
  |none=>rw [aL h];simp [kN,aCz,h]
  |some p=>obtain⟨x,c⟩:=p;rw [bQ h];simp [kN,aCz,mG,h]
 |n+1,b=>by
  show cA r (λx=>mG (kN r (n+1)) (x:: ·)) b=(cA r (λx=>mG (kN r n) (x:: ·)) b).bind _
  cases h:r b with
  |none=>rw [aL h,aL h];rfl
  |some p=>
   obtain⟨x,c⟩:=p
   rw [bQ h,bQ h]
   unfold mG
   rw [lN r n c]
   cases h2:kN r n c with
   |none=>rfl
   |some q=>
    obtain⟨l,d⟩:=q
    simp only [Option.bind_some,Option.map_some]
    cases h3:r d with
    |none=>rfl
    |some q=>rfl
theorem aB1 {r:Rd α}{n m:Nat}{b:List UInt8}(h:kN r n b=none) (hm:n<=m):kN r m b=none:=by
 induction m with
 | zero => obtain rfl : n = 0 := by omega
           exact h
 |succ m ih=>
  by_cases e:n=m+1
  ·rw [<-e];exact h
  ·rw [lN,ih (by omega)];rfl
def bP (w:α->List UInt8) (l:List α):List UInt8:=beN 4 l.length++(l.map w).flatten
def pN (k:Nat) (r:Rd α):Prop:= ∀b x c,r b=some (x,c)-> ∃a,b=a++c/\k<=a.length
theorem uL (n:Nat):pN n (kM n):=by
 intro b x c h
 unfold kM at h
 split at h
 ·injection h with h;injection h with h1 h2
  exact⟨b.take n,by rw [<-h2,List.take_append_drop],by rw [List.length_take];omega⟩
 ·cases h
theorem fS {r:Rd α}{f:α->β}{k:Nat}(h:pN k r):pN k (mG r f):=by
 intro b x c e
 unfold mG at e
 obtain⟨p,h1,h2⟩:=Option.map_eq_some_iff.1 e
 injection h2 with _ h3
 exact h b p.1 c (by rw [h1,<-h3])
theorem bJ {r:Rd α}{f:α->Rd β}{k j:Nat}(h:pN k r) (g: ∀x,pN j (f x)):pN (k+j) (cA r f):=by
 intro b x c e
 unfold cA at e
 obtain⟨p,h1,h2⟩:=Option.bind_eq_some_iff.1 e
 obtain⟨a1,e1,q1⟩:=h b p.1 p.2 h1
 obtain⟨a2,e2,q2⟩:=g _ _ _ _ h2
 exact⟨a1++a2,by rw [e1,e2,List.append_assoc],by rw [List.length_append];omega⟩
theorem xS {r:Rd α}{k:Nat}(h:pN k r): ∀n,pN (k * n) (kN r n)
 | 0=> λb x c e=>⟨[],by injection e with e;injection e with _ e,by simp⟩
 |n+1=>by
  have:=bJ (f:= λx=>mG (kN r n) (x:: ·)) h (λx=>fS (xS h n))
  rw [Nat.mul_succ,Nat.add_comm]
  exact this
theorem iM {r:Rd α}{k j:Nat}(h:pN k r) (hj:j<=k):pN j r:= λb x c e=>by
 obtain⟨a,h1,h2⟩:=h b x c e
 exact⟨a,h1,by omega⟩
def eE (rd:Rd α) (wr:α->List UInt8×Int) (zero:α) (bad:Int) (b:List UInt8):α×Int:=
 match rd b with
 |some (x,[])=>if wr x=(b,0)then (x,0)else (zero,bad)
 |_=>(zero,bad)
theorem xV {rd:Rd α}{wr:α->List UInt8×Int}{zero:α}{bad:Int}{b:List UInt8}(hb:bad≠0) (h:(eE rd wr zero bad b).2=0):wr (eE rd wr zero bad b).1=(b,0)/\rd b=some ((eE rd wr zero bad b).1,[]):=by
 unfold eE at h |-
 split at h
 ·rename_i x h1
  split at h
  ·rename_i h2
   simp only [h1,if_pos h2]
   exact⟨h2,trivial⟩
  ·exact absurd h hb
 ·exact absurd h hb
theorem aBu {rd:Rd α}{wr:α->List UInt8×Int}{zero:α}{bad:Int}{b:List UInt8}{x:α}(h1:wr x=(b,0)) (h2:rd b=some (x,[])):eE rd wr zero bad b=(x,0):=by
 unfold eE
 rw [h2]
 simp only [if_pos h1]
theorem aDt {rd:Rd α}{wr:α->List UInt8×Int}{zero:α}{bad:Int}{b c:List UInt8}{x:α}(h:rd b=some (x,c)) (hc:c≠[]):eE rd wr zero bad b=(zero,bad):=by
 unfold eE
 rw [h]
 cases c with
 |nil=>exact absurd rfl hc
 |cons _ _=>rfl
theorem uJ {w:α->List UInt8}{k:Nat}(hw: ∀x,k<=(w x).length): ∀l:List α,k * l.length<=((l.map w).flatten).length
 | []=>by simp
 |x::l=>by
  have h1:=uJ hw l
  have h2:=hw x
  rw [List.map_cons,List.flatten_cons,List.length_append,List.length_cons,Nat.mul_succ]
  omega
end
end Go.Proofs.YtcomlapnibckmaaGreatDoor
namespace Go.Proofs.YtcomlapnibckmaaGreatDoor
open Go.Proofs
set_option maxRecDepth 10000
attribute [local irreducible] aN aH Tri aF YVC cM bB
theorem nX (bs:List UInt8) (m:Nat) (hp0:Hp) {pin:Pin}{fr:Fr}{K:SV->Hp->Prop}
  (hok:m<=bs.length->K (.d (.sl 1 ((bs.take m).map bC))) ((3, .cells 149 [.d (.sl 1 ((bs.drop m).map bC))])::hp0))
  (hno:bs.length < m->pin.kp fr ((3, .cells 149 [.d (.sl 1 (bs.map bC))])::hp0)):
  aH Tryz.prog pin fr ((3, .cells 149 [.d (.sl 1 (bs.map bC))])::hp0) 165 [.ptr 3 0, .d (.int .i64 m)] K:=by
 have hl:(bs.map bC).length=bs.length:=List.length_map ..
 refine aI false [] hty Tryz.func165 rfl (kp [0,1,4,11]) 100 (by simp [Tryz.f165]) ?_
 ((conv=>whnf);repeat' ((first|(intro hq;(try simp only [lnS]at hq);(try rewrite [List.length_map]))|refine sJ ?_|refine .intro _ (.intro rfl ?_)|refine exL (k:= ?_)|(refine aD4 hty 19 (by kernel_rfl) (by kernel_rfl) ?_)|(refine cB hty rfl (by with_unfolding_all exact rfl) rfl rfl ?_)|refine dwR ?_|((first|refine aB ?_ ?_|refine aC ?_ ?_)<;>intro hb<;>(first|exact ddX hb|try simp only [lnS]at hb))|(refine aA ?_ ?_<;>intro hb<;>try exact dsX hb))<;>(conv=>whnf)))
 ·exact hno (by omega)
 ·have e1:List.drop 0 (List.take ((m:Nat):Int).toNat (bs.map bC))=(bs.take m).map bC:=by rw [Int.toNat_natCast,List.drop_zero,List.map_take]
  have e2:List.drop ((m:Nat):Int).toNat (List.take ((bs.length:Nat):Int).toNat (bs.map bC))=(bs.drop m).map bC:=by rw [Int.toNat_natCast,Int.toNat_natCast,List.take_of_length_le (by rw [List.length_map];exact Nat.le_refl _),List.map_drop]
  show K (SV.d (D.sl 1 (List.drop 0 (List.take ((m:Nat):Int).toNat (bs.map bC))))) ((3,HObj.cells 149 [SV.d (D.sl 1 (List.drop ((m:Nat):Int).toNat (List.take ((bs.length:Nat):Int).toNat (bs.map bC))))])::hp0)
  rw [e1,e2]
  exact hok (by omega)
end Go.Proofs.YtcomlapnibckmaaGreatDoor
namespace Go.Proofs.YtcomlapnibckmaaGreatDoor
open Go.Proofs
def wZ:Rd Int:=mG (zX 8) sgN
def aG4:Rd Int:=mG (zX 1) λn=>(n:Int)
def tV:Rd (List UInt8):=cA (zX 4) kM
abbrev Dig:={l:List UInt8 // l.length=32}
def vB:Rd Dig:= λb=>if h:32<=b.length then some (⟨b.take 32,by rw [List.length_take];omega⟩,b.drop 32)else none
def mJ (d:Dig):List UInt8:=d.1
def gD (z:Int):List UInt8:=beN 8 (uN z)
def uY (z:Int):List UInt8:=beN 1 (uN z)
def dO (s:List UInt8):List UInt8:=beN 4 s.length++s
mutual
def wC:Cn->List UInt8
 | .mk k n lo hi ps=>uY k++(dO n++(gD lo++(gD hi++(beN 4 ps.length++(wCs ps).flatten))))
def wCs:List Cn->List (List UInt8)
 | []=>[]
 |c::r=>wC c::wCs r
end
theorem aA8: ∀l,wCs l=l.map wC
 | []=>rfl
 |c::r=>by rw [wCs,aA8 r];rfl
theorem aEv (c:Cn):wC c=uY c.kind++(dO c.name++(gD c.lo++(gD c.hi++bP wC c.parts))):=by
 cases c;rw [wC,aA8];rfl
def rC:Nat->Rd Cn
 | 0=> λ_=>none
 |k+1=>cA aG4 λkd=>cA tV λn=>cA wZ λlo=>cA wZ λhi=>mG (dD (rC k)) (Cn.mk kd n lo hi)
def OkC:Nat->Cn->Prop
 | 0,_=>False
 |k+1,c=>(0<=c.kind/\c.kind<=255)/\c.name.length < 4294967296/\(-9223372036854775808<=c.lo/\c.lo<=9223372036854775807)/\(-9223372036854775808<=c.hi/\c.hi<=9223372036854775807)/\c.parts.length < 4294967296/\ ∀p∈c.parts,OkC k p
theorem OkC.up: ∀{k j:Nat}{c:Cn},OkC k c->k<=j->OkC j c
 | 0,_,_,h,_=>h.elim
 |k+1,0,_,_,h=>absurd h (by omega)
 |k+1,j+1,c,⟨a,b,e,f,g,h⟩,hj=>⟨a,b,e,f,g,λp hp=>(h p hp).up (by omega)⟩
def wB (o:Bool):List UInt8:=uY (if o then 1 else 0)
def wA (x:Ax):List UInt8:=uY x.kind++(wB x.isopen++(wC x.left++(wC x.right++(bP dO x.roles++(dO x.role++(dO x.a++dO x.b))))))
def wAs (l:List Ax):List UInt8:=bP wA l
def rB:Rd Bool:=mG aG4 λz=>decide (z=1)
def rA (m:Nat):Rd Ax:=cA aG4 λk=>cA rB λo=>cA (rC m) λl=>cA (rC m) λr=>cA (dD tV) λrs=>cA tV λs1=>cA tV λs2=>mG tV λs3=>⟨k,o,l,r,rs,s1,s2,s3⟩
def rAs (m:Nat):Rd (List Ax):=dD (rA m)
theorem dG (k:Nat):pN k (zX k):=fS (uL k)
theorem dH:pN 8 wZ:=fS (dG 8)
theorem fR:pN 1 aG4:=fS (dG 1)
theorem bY:pN 4 tV:=iM (bJ (j:=0) (dG 4) λn=>iM (uL n) (Nat.zero_le _)) (by omega)
theorem dY {α:Type}{r:Rd α}{k:Nat}(h:pN k r):pN 4 (dD r):=iM (bJ (j:=0) (dG 4) λn=>iM (xS h n) (Nat.zero_le _)) (by omega)
theorem qX: ∀k,pN 25 (rC k)
 | 0=> λb x c e=>by cases e
 |k+1=>iM (bJ fR λ_=>bJ bY λ_=>bJ dH λ_=>bJ dH λ_=>fS (dY (qX k))) (by omega)
theorem aH3:pN 1 rB:=fS fR
theorem aEe (m:Nat):pN 68 (rA m):=iM (bJ fR λ_=>bJ aH3 λ_=>bJ (qX m) λ_=>bJ (qX m) λ_=>bJ (dY bY) λ_=>bJ bY λ_=>bJ bY λ_=>fS bY) (by omega)
end Go.Proofs.YtcomlapnibckmaaGreatDoor
namespace Go.Proofs.YtcomlapnibckmaaGreatDoor
open Go.Proofs
structure Cm where
 no:Int
 parents:List Int
 base:Dig
 message:List UInt8
def rCm:Rd Cm:=cA wZ λn=>cA (dD wZ) λps=>cA vB λb=>mG tV λm=>⟨n,ps,b,m⟩
def wCm (c:Cm):List UInt8:=gD c.no++(bP gD c.parents++(mJ c.base++dO c.message))
structure At where
 kind:Int
 name:List UInt8
 x:List UInt8
 y:List UInt8
 lo:Int
 hi:Int
structure Qy where
 told:List (List UInt8)
 parts:List (List At)
def rAt:Rd At:=cA aG4 λk=>cA tV λn=>cA tV λx=>cA tV λy=>cA wZ λlo=>mG wZ λhi=>⟨k,n,x,y,lo,hi⟩
def wAt (a:At):List UInt8:=uY a.kind++(dO a.name++(dO a.x++(dO a.y++(gD a.lo++gD a.hi))))
def rQy:Rd Qy:=cA (dD tV) λt=>mG (dD (dD rAt)) λp=>⟨t,p⟩
def wQy (q:Qy):List UInt8:=bP dO q.told++bP (bP wAt) q.parts
structure Al where
 name:List UInt8
 base:Dig
 axioms:List Ax
 pub:Dig
 index:Int
 parts:List Dig
 path:List Dig
def rAl (m:Nat):Rd Al:=cA tV λn=>cA vB λb=>cA (rAs m) λl=>cA vB λp=>cA wZ λi=>cA (dD vB) λx=>mG (dD vB) λy=>⟨n,b,l,p,i,x,y⟩
def wAl (a:Al):List UInt8:=dO a.name++(mJ a.base++(wAs a.axioms++(mJ a.pub++(gD a.index++(bP mJ a.parts++bP mJ a.path)))))
theorem mA:pN 32 vB:=by
 intro b x c h
 unfold vB at h
 split at h
 ·injection h with h;injection h with h1 h2
  exact⟨b.take 32,by rw [<-h2,List.take_append_drop],by rw [List.length_take];omega⟩
 ·cases h
theorem aBs:pN 29 rAt:=iM (bJ fR λ_=>bJ bY λ_=>bJ bY λ_=>bJ bY λ_=>bJ dH λ_=>fS dH) (by omega)
end Go.Proofs.YtcomlapnibckmaaGreatDoor
namespace Go.Proofs.YtcomlapnibckmaaGreatDoor
open Go.Proofs Go.RowKit
theorem wM (n:Nat) (h:n < 18446744073709551616):IntKind.u64.wrap (n:Int)=(n:Int):=by
 have e:IntKind.u64.wrap (n:Int)=((n:Int) % 18446744073709551616):=by
  unfold IntKind.wrap
  rfl
 rw [e];omega
theorem aFf {x c:Nat}(hx:x < 72057594037927936) (hc:c < 256):bits .or .u64 (IntKind.u64.wrap ((x:Int)* 2 ^ (min (8:Int).toNat IntKind.u64.bits))) (c:Int)=((256 * x+c:Nat):Int):=by
 have h1:IntKind.u64.wrap ((x:Int)* 2 ^ (min (8:Int).toNat IntKind.u64.bits))=((256 * x:Nat):Int):=by
  have e:(min (8:Int).toNat IntKind.u64.bits)=8:=rfl
  rw [e]
  have:((x:Int)* 2 ^ 8)=((256 * x:Nat):Int):=by omega
  rw [this]
  exact wM _ (by omega)
 rw [h1]
 have h2:(256 * x ||| c)=256 * x+c:=by
  have:=Nat.two_pow_add_eq_or_of_lt (i:=8) (b:=c) (by omega) x
  simpa using this.symm
 unfold bits
 show IntKind.u64.wrap ((BitVec.ofInt 64 ((256 * x:Nat):Int) ||| BitVec.ofInt 64 (c:Int)).toNat:Int)=_
 rw [BitVec.toNat_or,BitVec.ofInt_natCast,BitVec.ofInt_natCast,BitVec.toNat_ofNat,BitVec.toNat_ofNat,Nat.mod_eq_of_lt (by omega),Nat.mod_eq_of_lt (by omega),h2]
 exact wM _ (by omega)
theorem aFv (z:Int) (s:Nat) (hs:s<=64):IntKind.u8.wrap ((IntKind.u64.wrap z).fdiv (2 ^ (min (s:Int).toNat IntKind.u64.bits)))=((uN z / 2 ^ s % 256:Nat):Int):=by
 have e:(min (s:Int).toNat IntKind.u64.bits)=s:=by
  rw [Int.toNat_natCast];exact Nat.min_eq_left hs
 have e1:IntKind.u64.wrap z=((uN z:Nat):Int):=by
  have e:IntKind.u64.wrap z=(z % 18446744073709551616):=rfl
  rw [e];unfold uN;omega
 rw [e,e1,Int.fdiv_eq_ediv_of_nonneg _ (Int.pow_nonneg (by decide))]
 have e2:((uN z:Nat):Int) / (2 ^ s:Int)=((uN z / 2 ^ s:Nat):Int):=by
  rw [Int.natCast_ediv];rfl
 rw [e2]
 have e3: ∀k:Int,IntKind.u8.wrap k=k % 256:= λk=>rfl
 rw [e3]
 omega
theorem aJh (n:Nat):beN 8 n=[56,48,40,32,24,16,8,0].map λs:Nat=>UInt8.ofNat (n / 2 ^ s % 256):=by
 simp only [beN,List.nil_append,List.cons_append,Nat.div_div_eq_div_mul,List.map_cons,List.map_nil,Nat.pow_zero,Nat.div_one]
theorem aJi (n:Nat):beN 4 n=[24,16,8,0].map λs:Nat=>UInt8.ofNat (n / 2 ^ s % 256):=by
 simp only [beN,List.nil_append,List.cons_append,Nat.div_div_eq_div_mul,List.map_cons,List.map_nil,Nat.pow_zero,Nat.div_one]
end Go.Proofs.YtcomlapnibckmaaGreatDoor
namespace Go.Proofs.YtcomlapnibckmaaGreatDoor
open Go.Proofs
set_option maxRecDepth 10000
attribute [local irreducible] aN aH Tri aF YVC cM bB
theorem eI (bs:List UInt8) (m:Nat) (hm:m<=8) (hp0:Hp) {pin:Pin}{fr:Fr}{K:SV->Hp->Prop}
  (hok:m<=bs.length->K (.d (.int .u64 (deN (bs.take m)))) ((3, .cells 149 [.d (.sl 1 ((bs.drop m).map bC))])::hp0))
  (hno:bs.length < m->pin.kp fr ((3, .cells 149 [.d (.sl 1 (bs.map bC))])::hp0)):
  aH Tryz.prog pin fr ((3, .cells 149 [.d (.sl 1 (bs.map bC))])::hp0) 164 [.ptr 3 0, .d (.int .i64 m)] K:=by
 refine aI false [] hty Tryz.func164 rfl (kp [0,1,4,6,9,10,11,12]) 100 (by simp [Tryz.f164]) ?_
 ((conv=>whnf);repeat ((first|(intro hq;try simp only [lnS]at hq)|refine sI ?_|refine .intro _ (.intro rfl ?_));(conv=>whnf)))
 refine nX bs m hp0 (λhle=> ?_) (λhlt=>hno hlt)
 have hlen:(bs.take m).length=m:=by rw [List.length_take];omega
 replace hok:=hok hle
 generalize bs.take m=c at *
 generalize bs.drop m=r at *
 ((conv=>whnf);repeat ((first|(intro hq;try simp only [lnS]at hq)|refine sI ?_|refine .intro _ (.intro rfl ?_));(conv=>whnf)))
 refine oI hty (λj:Nat=>([(4, .d (.int .u64 ((deN (c.take j):Nat):Int))),(9, .d (.sl 1 (c.map bC))),(10, .d (.int .i64 c.length)),(11, .d (.int .i64 j))],(3, .cells 149 [.d (.sl 1 (r.map bC))])::hp0)) (λj=>j<=c.length) (λj=>c.length - j) 0 (by omega) (by repeat' (first|exact trivial|exact rfl|(rw [List.length_map];exact rfl)|refine And.intro ?_ ?_)) rfl ?_
 intro j hj
 ((conv=>whnf);repeat ((first|(intro hq;try simp only [lnS]at hq)|refine sI ?_|refine .intro _ (.intro rfl ?_));(conv=>whnf)))
 refine aB (λh1=> ?_) (λh1=> ?_)
 ·have hjl:j < c.length:=by omega
  have hrow:(c.map bC)[(j:Int).toNat]? =some (bC c[j]):=bH hjl
  have hx:deN (c.take j) < 72057594037927936:=by
   have h2:=rE j (c.take j) (by rw [List.length_take];omega)
   have h3:256 ^ j<=256 ^ 7:=Nat.pow_le_pow_right (by decide) (by omega)
   have h4:(256:Nat) ^ 7=72057594037927936:=by decide
   omega
  have hc:(c[j]).toNat < 256:=c[j].toNat_lt
  have hn:deN (c.take (j+1))=256 * deN (c.take j)+(c[j]).toNat:=by rw [List.take_succ_eq_append_getElem hjl,xW]
  have ho:=aFf hx hc
  have hw:=wM (c[j]).toNat (by omega)
  ((conv=>whnf);repeat' ((first|(intro hq;(try simp only [lnS]at hq);(try rewrite [List.length_map]))|refine sJ ?_|refine .intro _ (.intro rfl ?_)|refine exL (k:= ?_)|(refine⟨_,hrow, ?_⟩)|refine dwR ?_|((first|refine aB ?_ ?_|refine aC ?_ ?_)<;>intro hb<;>(first|exact ddX hb|try simp only [lnS]at hb))|(refine aA ?_ ?_<;>intro hb<;>try exact dsX hb))<;>(conv=>whnf)))
  have ho2:bits .or .u64 (IntKind.u64.wrap (((deN (c.take j):Nat):Int)* 2 ^ (min (8:Int).toNat IntKind.u64.bits))) (IntKind.u64.wrap ((c[j]).toNat:Int))=((deN (c.take (j+1)):Nat):Int):=by rw [hw,hn];exact ho
  refine⟨j+1,by dsimp only;omega,by dsimp only;omega, ?_⟩
  dsimp only
  rw [<-ho2]
  exact⟨by repeat' (first|exact trivial|exact rfl|refine And.intro ?_ ?_),rfl⟩
 ·have hjl:j=c.length:=by omega
  subst hjl
  rw [List.take_length]
  ((conv=>whnf);repeat' ((first|(intro hq;(try simp only [lnS]at hq);(try rewrite [List.length_map]))|refine sJ ?_|refine .intro _ (.intro rfl ?_)|refine exL (k:= ?_)|refine dwR ?_|((first|refine aB ?_ ?_|refine aC ?_ ?_)<;>intro hb<;>(first|exact ddX hb|try simp only [lnS]at hb))|(refine aA ?_ ?_<;>intro hb<;>try exact dsX hb))<;>(conv=>whnf)))
  exact hok
end Go.Proofs.YtcomlapnibckmaaGreatDoor
namespace Go.Proofs.YtcomlapnibckmaaGreatDoor
open Go.Proofs
set_option maxRecDepth 10000
attribute [local irreducible] aN aH Tri aF YVC cM bB
def RdC {α:Type}(f:FuncId) (r:Rd α) (e:α->SV):Prop:= ∀(bs:List UInt8) (hp0:Hp) {pin:Pin}{fr:Fr}{K:SV->Hp->Prop}
  (_: ∀x c,r bs=some (x,c)->K (e x) ((3, .cells 149 [.d (.sl 1 (c.map bC))])::hp0))
  (_:r bs=none-> ∀b:List UInt8,pin.kp fr ((3, .cells 149 [.d (.sl 1 (b.map bC))])::hp0)),
  aH Tryz.prog pin fr ((3, .cells 149 [.d (.sl 1 (bs.map bC))])::hp0) f [.ptr 3 0] K
theorem sE {bs:List UInt8}{m:Nat}(h:m<=bs.length):kM m bs=some (bs.take m,bs.drop m):=if_pos h
theorem sF {bs:List UInt8}{m:Nat}(h:bs.length < m):kM m bs=none:=if_neg (by omega)
theorem sG {bs:List UInt8}{m:Nat}(h:m<=bs.length):zX m bs=some (deN (bs.take m),bs.drop m):=cX (sE h)
theorem sH {bs:List UInt8}{m:Nat}(h:bs.length < m):zX m bs=none:=cY (sF h)
theorem aHv (n:Nat) (h:n < 18446744073709551616):IntKind.i64.wrap (n:Int)=sgN n:=by
 unfold sgN
 rw [IntKind.wrap_i64]
 split<;>omega
theorem aBa:RdC 106 wZ (λz=> .d (.int .i64 z)):=by
 intro bs hp0 pin fr K hok hno
 refine aI false [] hty Tryz.func106 rfl (kp [0,2]) 100 (by simp [Tryz.f106]) ?_
 ((conv=>whnf);repeat ((first|(intro hq;try simp only [lnS]at hq)|refine sI ?_|refine .intro _ (.intro rfl ?_));(conv=>whnf)))
 refine eI bs 8 (by omega) hp0 (λhle=> ?_) (λhlt=>hno (cY (sH hlt)) bs)
 have h1:=hok _ _ (cX (f:=sgN) (sG hle))
 rw [<-aHv _ (rE 8 (bs.take 8) (by rw [List.length_take];omega))]at h1
 ((conv=>whnf);repeat' ((first|(intro hq;(try simp only [lnS]at hq);(try rewrite [List.length_map]))|refine sJ ?_|refine .intro _ (.intro rfl ?_)|refine exL (k:= ?_)|refine dwR ?_|((first|refine aB ?_ ?_|refine aC ?_ ?_)<;>intro hb<;>(first|exact ddX hb|try simp only [lnS]at hb))|(refine aA ?_ ?_<;>intro hb<;>try exact dsX hb))<;>(conv=>whnf)))
 exact h1
theorem aDe:RdC 174 (mG (zX 1) λn=>(n:Int)) (λz=> .d (.int .i64 z)):=by
 intro bs hp0 pin fr K hok hno
 refine aI false [] hty Tryz.func174 rfl (kp [0,2]) 100 (by simp [Tryz.f174]) ?_
 ((conv=>whnf);repeat ((first|(intro hq;try simp only [lnS]at hq)|refine sI ?_|refine .intro _ (.intro rfl ?_));(conv=>whnf)))
 refine eI bs 1 (by omega) hp0 (λhle=> ?_) (λhlt=>hno (cY (sH hlt)) bs)
 have h1:=hok _ _ (cX (f:= λn:Nat=>(n:Int)) (sG hle))
 have h2:=rE 1 (bs.take 1) (by rw [List.length_take];omega)
 have h3:IntKind.i64.wrap ((deN (bs.take 1):Nat):Int)=((deN (bs.take 1):Nat):Int):=IntWalk.i64_in _ (by omega)
 dsimp only at h1
 rw [<-h3]at h1
 ((conv=>whnf);repeat' ((first|(intro hq;(try simp only [lnS]at hq);(try rewrite [List.length_map]))|refine sJ ?_|refine .intro _ (.intro rfl ?_)|refine exL (k:= ?_)|refine dwR ?_|((first|refine aB ?_ ?_|refine aC ?_ ?_)<;>intro hb<;>(first|exact ddX hb|try simp only [lnS]at hb))|(refine aA ?_ ?_<;>intro hb<;>try exact dsX hb))<;>(conv=>whnf)))
 exact h1
theorem aF2:RdC 100 (cA (zX 4) kM) (λs=> .d (.str s)):=by
 intro bs hp0 pin fr K hok hno
 refine aI false [] hty Tryz.func100 rfl (kp [0,2]) 100 (by simp [Tryz.f100]) ?_
 ((conv=>whnf);repeat ((first|(intro hq;try simp only [lnS]at hq)|refine sI ?_|refine .intro _ (.intro rfl ?_));(conv=>whnf)))
 refine eI bs 4 (by omega) hp0 (λhle=> ?_) (λhlt=>hno (aL (sH hlt)) bs)
 have h2:=rE 4 (bs.take 4) (by rw [List.length_take];omega)
 have h3:IntKind.i64.wrap ((deN (bs.take 4):Nat):Int)=((deN (bs.take 4):Nat):Int):=IntWalk.i64_in _ (by omega)
 have hb:cA (zX 4) kM bs=kM (deN (bs.take 4)) (bs.drop 4):=bQ (sG hle)
 rw [hb]at hok hno
 generalize deN (bs.take 4)=m at *
 generalize bs.drop 4=r at *
 ((conv=>whnf);repeat ((first|(intro hq;try simp only [lnS]at hq)|refine sI ?_|refine .intro _ (.intro rfl ?_));(conv=>whnf)))
 rw [h3]
 refine nX r m hp0 (λhle2=> ?_) (λhlt=>hno (sF hlt) r)
 have h4:=hok _ _ (sE hle2)
 have h5:=kI (r.take m)
 ((conv=>whnf);repeat' ((first|(intro hq;(try simp only [lnS]at hq);(try rewrite [List.length_map]))|refine sJ ?_|refine .intro _ (.intro rfl ?_)|refine exL (k:= ?_)|refine dwR ?_|((first|refine aB ?_ ?_|refine aC ?_ ?_)<;>intro hb<;>(first|exact ddX hb|try simp only [lnS]at hb))|(refine aA ?_ ?_<;>intro hb<;>try exact dsX hb))<;>(conv=>whnf)))
 rw [h5]
 exact h4
end Go.Proofs.YtcomlapnibckmaaGreatDoor
