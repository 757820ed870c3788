/-
  The rules of the walk at this program. The library's functions on strings: contracts. The walk through Keyword. Names: the walks through the functions that tell which strings are names. Scopes through which no goto goes, in the round. Regions that draw their order: all orders, given as a tree. Data of which more is known: nil for an empty slice, at any depth. Objects of other kinds: a new one, and one that is written; rows whose cells are known one by one.
  Conditions: none.
-/
import Derived.Test.YtdjfkmkdkclahaaGreatDoorVTy
import Derived.Test.YtdjfkmkdkclahaaGreatDoorVSz
import Derived.Lib.Strings
import Derived.Lib.Slices
import Derived.Lib.Walk
import Derived.Lib.Bytealg
import Derived.RangeFuncBound
import Derived.Laws.IdiomCopy
import Derived.Laws.Externs
import Derived.Lib.Overlaps
import Derived.Lib.AppendZeros
set_option linter.unusedSectionVars false
set_option linter.unusedSimpArgs false
set_option linter.unusedVariables false
set_option maxHeartbeats 2000000
namespace Go.Proofs.YtdjfkmkdkclahaaGreatDoor
open Go.Proofs
set_option maxRecDepth 100000
theorem dwR {pin:Pin}{nt:Nat}{keep:Nat->Bool}{off:Nat}{rd:Option Nat}{zc:Bool}{frz:List Nat}{id:Nat}{l:List Oper}{fr:Fr}{hp:Hp}{K:Ex->Fr->Hp->Prop}(h:aBe ⟨Tryz.prog,ty,pin,nt,keep,off,rd,zc,frz⟩ l (K .normal) l fr hp) (hm:(Tryz.prog).follows .mixedOrders=true:=by kernel_rfl) (hB:(Region.lexB .any l.toArray && gZ l)=true:=by kernel_rfl):aL ⟨Tryz.prog,ty,pin,nt,keep,off,rd,zc,frz⟩ (.region id l.toArray true) fr hp K:=aMk hty hm hB h
end Go.Proofs.YtdjfkmkdkclahaaGreatDoor
namespace Go.Proofs.YtdjfkmkdkclahaaGreatDoor
open Go.Proofs
section
variable {P:Program}
theorem aDz {f:FuncId}{args:List SV}{vs:Array Value}{r:D}{v:Value}(hv: ∀(w:World) (ρ:Env) (us:Array Value),cI w ρ args us->us=vs) (hr: ∀(w:World) (S:Nat->Nat->Prop),RepD w S r v)
  (h: ∀w,Calls P f vs w λe w'=>e= .returned v/\w'=w):Tri P f args [] (λs=>s= .d r):=by
 intro w ρ us hs ha _
 rw [hv w ρ us ha]
 refine(h w).mono ?_
 rintro e w' ⟨rfl,rfl⟩
 exact⟨v,ρ.S, .d r,rfl,rfl,Grew.refl _,λ_ _ h=>h,λ_ _ h=> .inl h,hs, .d _ _ (hr _ _)⟩
theorem aWx {w:World}{ρ:Env}{a b:SV}{us:Array Value}(h:cI w ρ [a,b] us): ∃x y,us= #[x,y]/\Rep w ρ a x/\Rep w ρ b y:=by
 obtain⟨h1,h2⟩:=h
 match us,h1 with
 |⟨[x,y]⟩,_=>exact⟨x,y,rfl,h2 0 a x rfl rfl,h2 1 b y rfl rfl⟩
end
set_option maxRecDepth 100000 in
theorem zB (s:ByteArray) (c:Int) (w:World):
  Calls Tryz.prog 201 #[.string s, .int .u8 c] w λe w'=>e= .returned (.int .i64 (Lib.indexByte s.data.toList c.toNat.toUInt8))/\w'=w:=by
 go_enter Tryz.func201,Tryz.ntmps201
 go_wp2
 rw [run_callFunc_extern Tryz.func224 (by kernel_rfl) (by kernel_rfl) (by kernel_rfl) (e:=Extern.BytealgIndexByte.indexByte) (by kernel_rfl),Lib.run_indexByteString]
 simp only [Result.andThen]
 rw [Oper.upon_value]
 go_wp2
 go_ret
 exact⟨rfl,rfl⟩
set_option maxRecDepth 10000
attribute [local irreducible] aL aH Tri aI
theorem mY (l:List UInt8) (c:UInt8):Tri Tryz.prog 201 [.d (.str l), .d (.int .u8 c.toNat)] [] (λs=>s= .d (.int .i64 (Lib.indexByte l c))):=by
 refine aDz (vs:= #[.string ⟨l.toArray⟩, .int .u8 c.toNat]) (v:= .int .i64 (Lib.indexByte l c)) ?_ (λ_ _=> .int _ _) (λw=> ?_)
 ·intro w ρ us h
  obtain⟨x,y,rfl,h1,h2⟩:=aWx h
  rw [h1.str_inv.1,h2.int_inv]
 ·have:=zB ⟨l.toArray⟩ c.toNat w
  simpa using this
theorem jP (l:List UInt8) (c:UInt8):Tri Tryz.prog 161 [.d (.str l), .d (.str [c])] [] (λs=>s= .d (.int .i64 (Lib.indexByte l c))):=by
 refine aF hty Tryz.func161 rfl (kp [0,1,4,5,6,7,8,9,10,11,12,13,16,24,31,36,59,64,73,93,107,114,132,139]) [] _ _ _ (by simp [Tryz.f161]) (by simp) ?_
 ((conv=>whnf);repeat' ((first|(intro hq;(try simp only [lnS]at hq);(try rewrite [List.length_map]))|refine sJ ?_|refine .intro _ (.intro rfl ?_)|refine exL (k:= ?_)|(refine aA [] (mY l _) trivial (λs hs=> ?_);subst hs)|refine dwR ?_|((first|refine aC ?_ ?_|refine aD ?_ ?_)<;>intro hb<;>(first|exact ddX hb|try simp only [lnS]at hb))|(refine aB ?_ ?_<;>intro hb<;>try exact dsX hb))<;>(conv=>whnf)))
 ·subst hb;simp [Lib.indexByte,cK]
 ·rfl
theorem aN {a b:Bool}(h:a=b):SV.d (.bool a)=SV.d (.bool b):=by rw [h]
theorem aD1 (p l:List UInt8) (_:p.length<=l.length):decide (l.take p.length=p)=p.isPrefixOf l:=by
 rw [Bool.eq_iff_iff,decide_eq_true_eq,List.isPrefixOf_iff_prefix]
 constructor
 ·intro e;rw [<-e];exact List.take_prefix ..
 ·intro e;exact(List.prefix_iff_eq_take.1 e).symm
theorem zD (l p:List UInt8):Tri Tryz.prog 108 [.d (.str l), .d (.str p)] [] (λs=>s= .d (.bool (p.isPrefixOf l))):=by
 refine aF hty Tryz.func108 rfl (kp [0,1,4]) [] _ _ _ (by simp [Tryz.f108]) (by simp) ?_
 ((conv=>whnf);repeat' ((first|(intro hq;(try simp only [lnS]at hq);(try rewrite [List.length_map]))|refine sJ ?_|refine .intro _ (.intro rfl ?_)|refine exL (k:= ?_)|refine dwR ?_|((first|refine aC ?_ ?_|refine aD ?_ ?_)<;>intro hb<;>(first|exact ddX hb|try simp only [lnS]at hb))|(refine aB ?_ ?_<;>intro hb<;>try exact dsX hb))<;>(conv=>whnf)))
 ·exact aN (aD1 p l (by omega))
 ·refine aN (Eq.symm ?_)
  rw [Bool.eq_false_iff]
  intro h
  have:=(List.isPrefixOf_iff_prefix.1 h).length_le
  omega
theorem hC (l p:List UInt8):Tri Tryz.prog 71 [.d (.str l), .d (.str p)] [] (λs=>s= .d (.bool (p.isPrefixOf l))):=by
 refine aF hty Tryz.func71 rfl (kp [0,1,4]) [] _ _ _ (by simp [Tryz.f71]) (by simp) ?_
 ((conv=>whnf);repeat ((first|(intro hq;try simp only [lnS]at hq)|refine sI ?_|refine .intro _ (.intro rfl ?_));(conv=>whnf)))
 refine aA [] (zD l p) trivial (λs hs=> ?_)
 subst hs
 ((conv=>whnf);repeat ((first|(intro hq;try simp only [lnS]at hq)|refine sI ?_|refine .intro _ (.intro rfl ?_));(conv=>whnf)))
 rfl
theorem aGm (l:List UInt8) (c:UInt8):Tri Tryz.prog 107 [.d (.str l), .d (.str [c])] [] (λs=>s= .d (.int .i64 (Lib.indexByte l c))):=by
 refine aF hty Tryz.func107 rfl (kp [0,1,4]) [] _ _ _ (by simp [Tryz.f107]) (by simp) ?_
 ((conv=>whnf);repeat ((first|(intro hq;try simp only [lnS]at hq)|refine sI ?_|refine .intro _ (.intro rfl ?_));(conv=>whnf)))
 refine aA [] (jP l c) trivial (λs hs=> ?_)
 subst hs
 ((conv=>whnf);repeat ((first|(intro hq;try simp only [lnS]at hq)|refine sI ?_|refine .intro _ (.intro rfl ?_));(conv=>whnf)))
 rfl
theorem aAw (l:List UInt8) (c:UInt8):Tri Tryz.prog 70 [.d (.str l), .d (.str [c])] [] (λs=>s= .d (.bool (decide (0<=Lib.indexByte l c)))):=by
 refine aF hty Tryz.func70 rfl (kp [0,1,4]) [] _ _ _ (by simp [Tryz.f70]) (by simp) ?_
 ((conv=>whnf);repeat ((first|(intro hq;try simp only [lnS]at hq)|refine sI ?_|refine .intro _ (.intro rfl ?_));(conv=>whnf)))
 refine aA [] (aGm l c) trivial (λs hs=> ?_)
 subst hs
 ((conv=>whnf);repeat ((first|(intro hq;try simp only [lnS]at hq)|refine sI ?_|refine .intro _ (.intro rfl ?_));(conv=>whnf)))
 rfl
theorem uR: ∀(l:List UInt8) (c:UInt8),Lib.indexByte l c < l.length
 | [],_=>by simp [Lib.indexByte]
 |b::l,c=>by
  have:=uR l c
  unfold Lib.indexByte
  simp only [List.length_cons]
  split
  ·omega
  ·split<;>omega
def aPp (l:List UInt8) (c:UInt8):List UInt8×List UInt8×Bool:=
 if 0<=Lib.indexByte l c then (l.take (Lib.indexByte l c).toNat,l.drop ((Lib.indexByte l c).toNat+1),true)else (l,[],false)
def aWp (r:List UInt8×List UInt8×Bool):SV:= .tup [.d (.str r.1), .d (.str r.2.1), .d (.bool r.2.2)]
theorem aCf (l:List UInt8) (c:UInt8):Tri Tryz.prog 198 [.d (.str l), .d (.str [c])] [] (λs=>s=aWp (aPp l c)):=by
 refine Tri.lenS 0 rfl (λhl=> ?_)
 refine aF hty Tryz.func198 rfl (kp [0,1,4,5,6,7,12]) [] _ _ _ (by simp [Tryz.f198]) (by simp) ?_
 ((conv=>whnf);repeat ((first|(intro hq;try simp only [lnS]at hq)|refine sI ?_|refine .intro _ (.intro rfl ?_));(conv=>whnf)))
 refine aA [] (jP l c) trivial (λs hs=> ?_)
 subst hs
 have hlt:=uR l c
 generalize hi:Lib.indexByte l c=i at hlt |-
 ((conv=>whnf);repeat' ((first|(intro hq;(try simp only [lnS]at hq);(try rewrite [List.length_map]))|refine sJ ?_|refine .intro _ (.intro rfl ?_)|refine exL (k:= ?_)|refine dwR ?_|((first|refine aC ?_ ?_|refine aD ?_ ?_)<;>intro hb<;>(first|exact ddX hb|try simp only [lnS]at hb))|(refine aB ?_ ?_<;>intro hb<;>try exact dsX hb))<;>(conv=>whnf)))
 ·rw [aPp,hi,if_pos hb]
  obtain⟨n,rfl⟩:=Int.eq_ofNat_of_zero_le hb
  simp only [aWp,cK,List.drop_zero,Int.toNat_natCast,List.length_cons,List.length_nil,List.take_length]
  rfl
 ·rw [aPp,hi,if_neg hb];rfl
theorem aPn (l:List UInt8) (c:UInt8):Tri Tryz.prog 158 [.d (.str l), .d (.str [c])] [] (λs=>s=aWp (aPp l c)):=by
 refine aF hty Tryz.func158 rfl (kp [0,1,4,5,6]) [] _ _ _ (by simp [Tryz.f158]) (by simp) ?_
 ((conv=>whnf);repeat ((first|(intro hq;try simp only [lnS]at hq)|refine sI ?_|refine .intro _ (.intro rfl ?_));(conv=>whnf)))
 refine aA [] (aCf l c) trivial (λs hs=> ?_)
 subst hs
 ((conv=>whnf);repeat ((first|(intro hq;try simp only [lnS]at hq)|refine sI ?_|refine .intro _ (.intro rfl ?_));(conv=>whnf)))
 rfl
end Go.Proofs.YtdjfkmkdkclahaaGreatDoor
namespace Go.Proofs.YtdjfkmkdkclahaaGreatDoor
open Go.Proofs
set_option maxRecDepth 10000
attribute [local irreducible] aL aH Tri aI
def kws : List (List UInt8) := [[97, 110, 100],
 [115,111,109,101],
 [105,110],
 [116,111],
 [110,111,116,104,105,110,103],
 [101,118,101,114,121,116,104,105,110,103],
 [111,110,101],
 [111,102],
 [111,112,101,110],
 [112,114,105,118,97,116,101],
 [115,117,98],
 [115,97,109,101],
 [100,105,115,106,111,105,110,116],
 [100,111,109,97,105,110],
 [114,111,108,101],
 [99,104,97,105,110],
 [114,101,102,108,101,120,105,118,101],
 [116,121,112,101],
 [108,105,110,107],
 [115,101,108,101,99,116],
 [119,104,101,114,101],
 [111,114]]
def kwF (s:List UInt8):Bool:=decide (s∈kws)
theorem aF0 (s:List UInt8):Tri Tryz.prog 200 [.d (.str s)] [] (λr=>r= .d (.bool (kwF s))):=by
 refine aF hty Tryz.func200 rfl (kp [0,2,3,4]) [] _ _ _ (by simp [Tryz.f200]) (by simp) ?_
 ((conv=>whnf);repeat' ((first|(intro hq;try simp only [lnS]at hq)|refine sJ ?_|refine .intro _ (.intro rfl ?_)|refine exL (k:= ?_)|refine dwR ?_|((first|refine aC ?_ ?_|refine aD ?_ ?_)<;>intro hb<;>(first|exact ddX hb|try simp only [lnS]at hb))|(refine aB ?_ ?_<;>intro hb<;>try exact dsX hb))<;>(conv=>whnf)))
 all_goals first|(rename_i hb;subst hb;rfl)|skip
 have:kwF s=false:=by simp [kwF,kws, *]
 rw [this];rfl
end Go.Proofs.YtdjfkmkdkclahaaGreatDoor
namespace Go.Proofs.YtdjfkmkdkclahaaGreatDoor
open Go.Proofs
set_option maxRecDepth 10000
attribute [local irreducible] aL aH Tri aI
def qJ (c:UInt8):Bool:=decide (97<=c.toNat/\c.toNat<=122) || decide (65<=c.toNat/\c.toNat<=90)
def cH (c:UInt8):Bool:=qJ c || decide (c.toNat=95) || decide (48<=c.toNat/\c.toNat<=57)
def aJt (c:UInt8):SV:= .d (.int .u8 c.toNat)
def bsv (l:List UInt8):D:= .sl 1 (l.map aP)
theorem rR (c:UInt8):Tri Tryz.prog 199 [aJt c] [] (λr=>r= .d (.bool (qJ c))):=by
 refine aF hty Tryz.func199 rfl (kp [0,2]) [] _ _ _ (by simp [Tryz.f199]) (by simp) ?_
 ((conv=>whnf);repeat' ((first|(intro hq;(try simp only [lnS]at hq);(try rewrite [List.length_map]))|refine sJ ?_|refine .intro _ (.intro rfl ?_)|refine exL (k:= ?_)|refine dwR ?_|((first|refine aC ?_ ?_|refine aD ?_ ?_)<;>intro hb<;>(first|exact ddX hb|try simp only [lnS]at hb))|(refine aB ?_ ?_<;>intro hb<;>try exact dsX hb))<;>(conv=>whnf)))
 all_goals (refine aN (Bool.eq_iff_iff.2 ?_);simp only [qJ,Bool.or_eq_true,decide_eq_true_eq,true_iff,false_iff,Bool.false_eq_true];omega)
theorem sE {α:Type}{p:α->Bool}{l:List α}{k:Nat}(h:k < l.length) (hp:p l[k]=false):l.all p=false:=by
 rw [List.all_eq_false]
 exact⟨l[k],List.getElem_mem h,by simp [hp]⟩
theorem lV {α:Type}{p:α->Bool}{l:List α}{k:Nat}(h:k < l.length) (hk:(l.take k).all p=true) (hp:p l[k]=true):(l.take (k+1)).all p=true:=by
 rw [List.take_succ_eq_append_getElem h,List.all_append,hk];simp [hp]
theorem yW (s:List UInt8):Tri Tryz.prog 160 [.d (.str s)] [] (λr=>r= .d (.bool (s.all cH))):=by
 refine aF hty Tryz.func160 rfl (kp [0,2,4,6,7,8,9,26]) [] _ _ _ (by simp [Tryz.f160]) (by simp) ?_
 ((conv=>whnf);repeat ((first|(intro hq;try simp only [lnS]at hq)|refine sI ?_|refine .intro _ (.intro rfl ?_));(conv=>whnf)))
 refine aJ hty (λk:Nat=>([(6, .d (bsv s)),(7, .d (.int .i64 s.length)),(8, .d (.int .i64 k))],[])) (λk=>k<=s.length/\(s.take k).all cH=true) (λk=>s.length - k) 0 (by simp) ⟨by repeat' (first|exact trivial|exact rfl|(rw [List.length_map];exact rfl)|refine And.intro ?_ ?_),trivial⟩ ?_
 rintro k ⟨hk,hk2⟩
 ((conv=>whnf);repeat' ((first|(intro hq;(try simp only [lnS]at hq);(try rewrite [List.length_map]))|refine sJ ?_|refine .intro _ (.intro rfl ?_)|refine exL (k:= ?_)|(refine⟨_,pT (by first|omega|(simp only [List.length_map];omega)), ?_⟩)|(refine aA [] (rR _) trivial (λs hs=> ?_);subst hs)|refine dwR ?_|((first|refine aC ?_ ?_|refine aD ?_ ?_)<;>intro hb<;>(first|exact ddX hb|try simp only [lnS]at hb))|(refine aB ?_ ?_<;>intro hb<;>try exact dsX hb))<;>(conv=>whnf)))
 ·rename_i h0 h1 h2
  have hkl:k < s.length:=by omega
  have ht:cH s[(k:Int).toNat]=false:=by
   simp only [Bool.not_eq_true']at h1
   simp only [cH,h1,Bool.false_or,Bool.or_eq_false_iff,decide_eq_false_iff_not];omega
  rw [sE (k:=k) hkl ht];rfl
 ·rename_i h0 h1 h2 h3
  have hkl:k < s.length:=by omega
  have ht:cH s[(k:Int).toNat]=false:=by
   simp only [Bool.not_eq_true']at h1
   simp only [cH,h1,Bool.false_or,Bool.or_eq_false_iff,decide_eq_false_iff_not];omega
  rw [sE (k:=k) hkl ht];rfl
 ·have hkl:k < s.length:=by omega
  have ht:cH s[(k:Int).toNat]=true:=by
   simp only [cH,Bool.or_eq_true,decide_eq_true_eq];right;omega
  exact⟨k+1,⟨by omega,lV hkl hk2 ht⟩,by dsimp only;omega,⟨by repeat' (first|exact trivial|exact rfl|refine And.intro ?_ ?_),by repeat' (first|exact trivial|exact rfl|refine And.intro ?_ ?_)⟩⟩
 ·have hkl:k < s.length:=by omega
  have ht:cH s[(k:Int).toNat]=true:=by
   simp only [cH,Bool.or_eq_true,decide_eq_true_eq];left;right;omega
  exact⟨k+1,⟨by omega,lV hkl hk2 ht⟩,by dsimp only;omega,⟨by repeat' (first|exact trivial|exact rfl|refine And.intro ?_ ?_),by repeat' (first|exact trivial|exact rfl|refine And.intro ?_ ?_)⟩⟩
 ·have hkl:k < s.length:=by omega
  have ht:cH s[(k:Int).toNat]=true:=by
   simp only [cH,Bool.or_eq_true];left;left;simpa using hb
  exact⟨k+1,⟨by omega,lV hkl hk2 ht⟩,by dsimp only;omega,⟨by repeat' (first|exact trivial|exact rfl|refine And.intro ?_ ?_),by repeat' (first|exact trivial|exact rfl|refine And.intro ?_ ?_)⟩⟩
 ·rw [List.take_of_length_le (by omega)]at hk2
  rw [hk2];rfl
def uV (s:List UInt8):Bool:=match s with| []=>false|c::r=>qJ c && ((c::r).all cH && !kwF (c::r))
theorem aGj (s:List UInt8):Tri Tryz.prog 159 [.d (.str s)] [] (λr=>r= .d (.bool (uV s))):=by
 cases s with
 |nil=>
  refine aF hty Tryz.func159 rfl (kp [0,2]) [] _ _ _ (by simp [Tryz.f159]) (by simp) ?_
  ((conv=>whnf);repeat' ((first|(intro hq;(try simp only [lnS]at hq);(try rewrite [List.length_map]))|refine sJ ?_|refine .intro _ (.intro rfl ?_)|refine exL (k:= ?_)|refine dwR ?_|((first|refine aC ?_ ?_|refine aD ?_ ?_)<;>intro hb<;>(first|exact ddX hb|try simp only [lnS]at hb))|(refine aB ?_ ?_<;>intro hb<;>try exact dsX hb))<;>(conv=>whnf)))
  rfl
 |cons c r=>
  refine aF hty Tryz.func159 rfl (kp [0,2]) [] _ _ _ (by simp [Tryz.f159]) (by simp) ?_
  ((conv=>whnf);repeat' ((first|(intro hq;(try simp only [lnS]at hq);(try rewrite [List.length_map]))|refine sJ ?_|refine .intro _ (.intro rfl ?_)|refine exL (k:= ?_)|(refine aA [] (rR _) trivial (λs hs=> ?_);subst hs)|(refine aA [] (yW _) trivial (λs hs=> ?_);subst hs)|(refine aA [] (aF0 _) trivial (λs hs=> ?_);subst hs)|refine dwR ?_|((first|refine aC ?_ ?_|refine aD ?_ ?_)<;>intro hb<;>(first|exact ddX hb|try simp only [lnS]at hb))|(refine aB ?_ ?_<;>intro hb<;>try exact dsX hb))<;>(conv=>whnf)))
  ·rename_i h0
   have h0':qJ c=true:=h0
   exact aN (by simp only [uV,h0',hb,Bool.true_and])
  ·rename_i h0
   have h0':qJ c=true:=h0
   exact aN (by simp only [uV,h0',hb,Bool.true_and,Bool.false_and])
  ·have h0':qJ c=false:=hb
   exact aN (by simp only [uV,h0',Bool.false_and])
def aDh (s:List UInt8):Bool:=decide (2<=s.length) && (decide (s.length<=24) && (decide (s.head?=some 95) && s.all cH))
theorem aI3 {s:List UInt8}(h:2<=(s.length:Int)):decide (s.head?=some 95)=decide (s[Int.toNat 0]'(by omega)=95):=by
 match s,h with
 |c::r,_=>simp
theorem u95 {c:UInt8}(h:(c.toNat:Int)=95):c=95:=by
 have h9:(95:UInt8).toNat=95:=by decide
 exact UInt8.toNat_inj.1 (by omega)
theorem yX (s:List UInt8):Tri Tryz.prog 106 [.d (.str s)] [] (λr=>r= .d (.bool (aDh s))):=by
 refine aF hty Tryz.func106 rfl (kp [0,2]) [] _ _ _ (by simp [Tryz.f106]) (by simp) ?_
 ((conv=>whnf);repeat' ((first|(intro hq;(try simp only [lnS]at hq);(try rewrite [List.length_map]))|refine sJ ?_|refine .intro _ (.intro rfl ?_)|refine exL (k:= ?_)|(refine aA [] (yW _) trivial (λs hs=> ?_);subst hs)|refine dwR ?_|((first|refine aC ?_ ?_|refine aD ?_ ?_)<;>intro hb<;>(first|exact ddX hb|try simp only [lnS]at hb))|(refine aB ?_ ?_<;>intro hb<;>try exact dsX hb))<;>(conv=>whnf)))
 ·have h2:2<=(s.length:Int):=by omega
  refine aN ?_
  rw [aDh,aI3 h2,u95 hb]
  simp only [show 2<=s.length from by omega,show s.length<=24 from by omega,decide_true,Bool.true_and]
 ·have h2:2<=(s.length:Int):=by omega
  refine aN ?_
  rw [aDh,aI3 h2]
  have:¬ s[Int.toNat 0]'(by omega)=95:= λe=>hb (by rw [e];rfl)
  simp only [this,decide_false,Bool.false_and,Bool.and_false]
 ·refine aN ?_
  rw [aDh]
  simp only [show ¬ s.length<=24 from by omega,decide_false,Bool.false_and,Bool.and_false]
 ·refine aN ?_
  rw [aDh]
  simp only [show ¬ 2<=s.length from by omega,decide_false,Bool.false_and]
def fW (s:List UInt8):Bool:=decide (s.length<=24) && (uV (aPp s 58).1 && (!(aPp s 58).2.2 || uV (aPp s 58).2.1))
theorem aF1 (s:List UInt8):Tri Tryz.prog 105 [.d (.str s)] [] (λr=>r= .d (.bool (fW s))):=by
 refine aF hty Tryz.func105 rfl (kp [0,2,3,4,5,8]) [] _ _ _ (by simp [Tryz.f105]) (by simp) ?_
 ((conv=>whnf);repeat' ((first|(intro hq;(try simp only [lnS]at hq);(try rewrite [List.length_map]))|refine sJ ?_|refine .intro _ (.intro rfl ?_)|refine exL (k:= ?_)|(refine aA [] (aPn s 58) trivial (λs hs=> ?_);subst hs)|(refine aA [] (aGj _) trivial (λs hs=> ?_);subst hs)|refine dwR ?_|((first|refine aC ?_ ?_|refine aD ?_ ?_)<;>intro hb<;>(first|exact ddX hb|try simp only [lnS]at hb))|(refine aB ?_ ?_<;>intro hb<;>try exact dsX hb))<;>(conv=>whnf)))
 ·refine aN ?_
  rw [fW]
  simp only [show ¬ s.length<=24 from by omega,decide_false,Bool.false_and]
 all_goals
  refine aN ?_
  rw [fW]
  simp only [show s.length<=24 from by omega,decide_true,Bool.true_and]
  simp_all
def cT (s:List UInt8):Bool:=fW s || aDh s
theorem hG (s:List UInt8):Tri Tryz.prog 69 [.d (.str s)] [] (λr=>r= .d (.int .i64 (if cT s then 0 else 20))):=by
 refine aF hty Tryz.func69 rfl (kp [0,2,8]) [] _ _ _ (by simp [Tryz.f69]) (by simp) ?_
 ((conv=>whnf);repeat' ((first|(intro hq;(try simp only [lnS]at hq);(try rewrite [List.length_map]))|refine sJ ?_|refine .intro _ (.intro rfl ?_)|refine exL (k:= ?_)|(refine aA [] (aF1 s) trivial (λs hs=> ?_);subst hs)|(refine aA [] (yX s) trivial (λs hs=> ?_);subst hs)|refine dwR ?_|((first|refine aC ?_ ?_|refine aD ?_ ?_)<;>intro hb<;>(first|exact ddX hb|try simp only [lnS]at hb))|(refine aB ?_ ?_<;>intro hb<;>try exact dsX hb))<;>(conv=>whnf)))
 all_goals (first|(have h9:cT s=true:=by simp_all [cT])|(have h9:cT s=false:=by simp_all [cT]))
 all_goals (rw [h9];rfl)
end Go.Proofs.YtdjfkmkdkclahaaGreatDoor
namespace Go.Proofs.YtdjfkmkdkclahaaGreatDoor
open Go.Proofs
section
variable {F:Fence} {n:Nat} {P:Program} {b:Frame} {a:Act} {k:List Item} {cs:List Frame} {w:World} {Q:Exit->Act->World->Prop}
end
def aR2 {α:Type}(I:α->Fr×Hp) (Ok:α->Prop) (μ:α->Nat) (x:α) (K:Ex->Fr->Hp->Prop) (e:Ex) (fr:Fr) (hp:Hp):Prop:=
 match e with
 | .normal=> ∃y,Ok y/\μ y < μ x/\aRm (I y).1 fr/\hp=(I y).2
 |e=>K e fr hp
theorem Sat.subE {E:Entry}{nt:Nat}{fr fr':Fr}{hp:Hp}{a:Act}{w:World}(h:Sat E nt ⟨fr,hp⟩ a w) (hs:aRm fr' fr):Sat E nt ⟨fr',hp⟩ a w:=by
 obtain⟨h1,h2,ρ,h3,h4⟩:=h
 exact⟨h1,h2,ρ,h3,aKo _ _ hs h4⟩
theorem sV {C:Cfg}(hti:cQ C.P C.ti) {c:Code}{fr:Fr}{hp:Hp}{K:Ex->Fr->Hp->Prop}{α:Type}(I:α->Fr×Hp) (Ok:α->Prop) (μ:α->Nat) (x:α) (h0:Ok x) (hs:aRm (I x).1 fr) (he:hp=(I x).2)
  (round: ∀y,Ok y->X C c (I y).1 (I y).2 (aR2 I Ok μ y K)):aL C (.loop c) fr hp K:=by
 subst he
 intro E a w hpin hrd hsat
 refine wpIn_loop_ghost (λn a w=> ∃y E',μ y=n/\Ok y/\Ext E E'/\Sat E' C.nt ⟨(I y).1,(I y).2⟩ a w) (μ x) ⟨x,E,rfl,h0, .refl E,hsat.subE hs⟩ ?_
 rintro n a' w' ⟨y,E',rfl,hy,hE,hsy⟩
 have:=jM hti c _ _ _ (round y hy) E' a' w' (hE.pin.trans hpin) (hrd.ext hE) hsy
 rw [hE.rd]at this
 refine wpIn_mono this ?_
 rintro e a₁ w₁ ⟨ex,fr₁,hp₁,E'',hE',hrel,hk,hs₁⟩
 cases ex<;>cases e<;>simp only [Ex.rel]at hrel<;>simp only [KX,aR2]at hk
 ·obtain⟨y',k1,k2,k3,rfl⟩:=hk
  exact⟨μ y',k2,y',E'',rfl,k1,hE.trans hE',hs₁.subE k3⟩
 ·exact⟨.exit _,fr₁,hp₁,E'',hE.trans hE',hrel,hk,hs₁⟩
 ·exact⟨.goto _,fr₁,hp₁,E'',hE.trans hE',hrel,hk,hs₁⟩
 ·exact⟨.ret,fr₁,hp₁,E'',hE.trans hE',hrel,hk,hs₁⟩
 ·exact⟨.pan,fr₁,hp₁,E'',hE.trans hE',hrel,hk,hs₁⟩
theorem aH.sub {P:Program}{pin:Pin}{fr:Fr}{hp hp':Hp}{f:FuncId}{args:List SV}{K:SV->Hp->Prop}(hs:aA9 hp' hp) (h:aH P pin fr hp' f args K):aH P pin fr hp f args K:=
 λE ρ w tm hpin hm hf vs ha=>h E ρ w tm hpin (hm.sub (fR _ _ hs)) hf vs ha
theorem aH.mono {P:Program}{pin:Pin}{fr:Fr}{hp:Hp}{f:FuncId}{args:List SV}{K K':SV->Hp->Prop}(hk: ∀s hp,K s hp->K' s hp) (h:aH P pin fr hp f args K):aH P pin fr hp f args K':=
 λE ρ w tm hpin hm hf vs ha=>(h E ρ w tm hpin hm hf vs ha).mono λ_ _ q=>q.imp (λ⟨v,ρ',s,hp',h1,h2,h3⟩=>⟨v,ρ',s,hp',h1,hk _ _ h2,h3⟩) λq=>q
theorem aH.weak {P:Program}{pin:Pin}{fr:Fr}{hp:Hp}{f:FuncId}{args:List SV}{K:SV->Hp->Prop}(h:aH P pin fr hp f args λs hp'=> ∃hp'',aA9 hp'' hp'/\K s hp''):aH P pin fr hp f args K:=
 λE ρ w tm hpin hm hf vs ha=>(h E ρ w tm hpin hm hf vs ha).mono λ_ _ q=>q.imp (λ⟨v,ρ',s,_,h1,⟨hp'',h2,h3⟩,h4,h5⟩=>⟨v,ρ',s,hp'',h1,h3,h4.sub (fR _ _ h2),h5⟩) λq=>q
theorem YVC.weak {P:Program}{pin:Pin}{fr:Fr}{hp:Hp}{lid:Nat}{args:List SV}{K:SV->Hp->Prop}(h:YVC P pin fr hp lid args λs hp'=> ∃hp'',aA9 hp'' hp'/\K s hp''):YVC P pin fr hp lid args K:=
 λE ρ w tm hpin hm hf l vs hl ha=>YieldAt.mono (h E ρ w tm hpin hm hf l vs hl ha) λ_ _ ⟨v,ρ',s,_,h1,⟨hp'',h2,h3⟩,h4,h5⟩=>⟨v,ρ',s,hp'',h1,h3,h4.sub (fR _ _ h2),h5⟩
end Go.Proofs.YtdjfkmkdkclahaaGreatDoor
namespace Go.Proofs.YtdjfkmkdkclahaaGreatDoor
open Go.Proofs
section
variable {P:Program}
inductive OT where
 |done
 |stop
 |first (i:Nat) (t:OT)
 |alt (i:Nat) (t:OT) (r:OT)
def OT.heads:OT->List Nat
 | .alt i _ r=>i::r.heads
 |_=>[]
def OT.depth:OT->Nat
 | .done=>0
 | .stop=>0
 | .first _ t=>t.depth+1
 | .alt _ t r=>max (t.depth+1) r.depth
def aNc (P:Program) (pin:Pin) (fr:Fr) (hp:Hp) (f:Operand) (args:List Operand) (K:SV->Hp->Prop):Prop:=
 ev fr f λs=>match aTi s with
  | some (g, first, cap) => (match evL fr args with
   |some l=>dE P g=true/\aH P pin.calm fr hp g (first++l++cap) K
   |none=>aI "call: an argument")
  |none=>aI "call: no function"
def aVC (P:Program) (ti:TypeId->Option TI) (pin:Pin) (fr:Fr) (hp:Hp) (dst:Nat) (o:Oper) (K:SV->Hp->Prop):Prop:=
 match o.op with
 | .call { callee:= .value f,args:=args,argTypes:=_ }=>aNc P pin fr hp f args.toList K
 |_=>dVC P ti pin fr hp dst o K
theorem aP3 {o:Oper}{f:Operand}{args:Array Operand}{ts:Array TypeId}(ho:o.op= .call { callee:= .value f,args:=args,argTypes:=ts }) {pin:Pin}{fr:Fr}{hp:Hp}{K:SV->Hp->Prop}
  (h:aNc P pin fr hp f args.toList K):aA5 P o pin fr hp K:=by
 intro E ρ a w hpin hm hf next Q hn
 obtain⟨s,hs,hv⟩:=cC h
 have hr:=aW hf hs
 split at hv
 ·rename_i g first cap hfn
  obtain⟨fv,cv,e,h1,h2⟩:=aD5 hfn hr
  split at hv
  ·rename_i l hl
   obtain⟨hcall,hv⟩:=hv
   obtain⟨l1,l2⟩:=zM hf _ _ hl
   have hargs:cI w ρ (first++l++cap) (fv++args.map a.eval++cv):=by
    refine(h1.append ⟨?_, ?_⟩).append h2
    ·simpa using l1
    ·intro j s' v hs' hv'
     refine l2 j s' v hs' ?_
     rw [<-Array.toList_map];simpa using hv'
   unfold Oper.wp
   rw [gY ho e hcall]
   simp only [Oper.upon]
   refine(hv { E with pin:=E.pin.calm } ρ w a.tmps (by rw [hpin]) hm.calm hf _ hargs).mono ?_
   rintro e' w' (⟨v,ρ',s',hp',rfl,k1,k2,k3,k4⟩|⟨_,_,_,_,_,q,_⟩)
   ·exact hn v w' ρ' s' hp' k1 k2.uncalm k3 k4
   ·exact q.elim
  ·exact hv.elim
 ·exact hv.elim
theorem aXv {ti:TypeId->Option TI}(hti:cQ P ti) {o:Oper}{pin:Pin}{fr:Fr}{hp:Hp}{dst:Nat}{K:SV->Hp->Prop}(h:aVC P ti pin fr hp dst o K):aA5 P o pin fr hp K:=by
 unfold aVC at h
 split at h
 ·rename_i ho;exact aP3 ho h
 ·rcases aWo hti (o:=o) h with⟨_,hd,_⟩|⟨_,hd⟩|⟨_,hd⟩
  ·exact .pure hd
  ·exact hd.drop
  ·exact hd
def aQ1 (C:Cfg) (all:List Oper) (i:Nat) (fr:Fr) (hp:Hp) (k:Fr->Hp->Prop):Prop:=
 match all[i]? with
 |some o=>
  pF all fr o.guard
   (λfr=>aVC C.P C.ti C.pin fr hp (C.off+o.dst.getD 0) o λs hp'=>put C o.dst s fr λfr'=>k fr' hp')
   (λfr=>put C o.dst (.d (.lit undef)) fr λfr'=>k fr' hp)
 |none=>aI "no such operation"
end
end Go.Proofs.YtdjfkmkdkclahaaGreatDoor
namespace Go.Proofs.YtdjfkmkdkclahaaGreatDoor
open Go.Proofs
mutual
def WkD:D->D->Prop
 | .nil, .sl _ rows=>rows=[]
 | .sl z rows, .sl z' rows'=>z=z'/\aQ7 rows rows'
 | .agg cs, .agg cs'=>aNf cs cs'
 |a,b=>a=b
def aNf:List D->List D->Prop
 | [],[]=>True
 |a::l,b::m=>WkD a b/\aNf l m
 |_,_=>False
def aQ7:List (List D)->List (List D)->Prop
 | [],[]=>True
 |a::l,b::m=>aNf a b/\aQ7 l m
 |_,_=>False
end
theorem aDf: ∀(l m:List D),aNf l m->l.length=m.length/\ ∀(j:Nat) (x':D),m[j]? =some x'-> ∃x,l[j]? =some x/\WkD x x'
 | [],[],_=>⟨rfl,by simp⟩
 |a::l,b::m,h=>by
  simp only [aNf]at h
  obtain⟨i1,i2⟩:=aDf l m h.2
  refine⟨by simp [i1],λj x' hj=> ?_⟩
  cases j with
  |zero=>simp at hj;subst hj;exact⟨a,by simp,h.1⟩
  |succ j=>simp at hj;obtain⟨x,h1,h2⟩:=i2 j x' hj;exact⟨x,by simpa using h1,h2⟩
 | [],_::_,h=>by simp [aNf]at h
 |_::_,[],h=>by simp [aNf]at h
theorem aNe: ∀(l m:List (List D)),aQ7 l m->l.length=m.length/\ ∀(i:Nat) (row':List D),m[i]? =some row'-> ∃row,l[i]? =some row/\aNf row row'
 | [],[],_=>⟨rfl,by simp⟩
 |a::l,b::m,h=>by
  simp only [aQ7]at h
  obtain⟨i1,i2⟩:=aNe l m h.2
  refine⟨by simp [i1],λj x' hj=> ?_⟩
  cases j with
  |zero=>simp at hj;subst hj;exact⟨a,by simp,h.1⟩
  |succ j=>simp at hj;obtain⟨x,h1,h2⟩:=i2 j x' hj;exact⟨x,by simpa using h1,h2⟩
 | [],_::_,h=>by simp [aQ7]at h
 |_::_,[],h=>by simp [aQ7]at h
theorem aIo {w:World}{S:Nat->Nat->Prop}{a:D}{v:Value}(h:RepD w S a v): ∀b,WkD a b->RepD w S b v:=by
 induction h with
 |int k n=>
  intro b hb
  have:D.int k n=b:=by cases b<;>first|(simp [WkD]at hb;done)|simpa [WkD]using hb
  subst this
  exact .int k n
 |bool x=>
  intro b hb
  have:D.bool x=b:=by cases b<;>first|(simp [WkD]at hb;done)|simpa [WkD]using hb
  subst this
  exact .bool x
 |str l hl=>
  intro b hb
  have:D.str l=b:=by cases b<;>first|(simp [WkD]at hb;done)|simpa [WkD]using hb
  subst this
  exact .str l hl
 |lit u=>
  intro b hb
  have:D.lit u=b:=by cases b<;>first|(simp [WkD]at hb;done)|simpa [WkD]using hb
  subst this
  exact .lit u
 |nil=>
  intro b hb
  cases b with
  |sl z rows=>
   simp only [WkD]at hb
   subst hb
   exact .sl z [] none 0 0 0 (λ_=>undef) (by simp) (by simp) (by simp) (by simp) (by simp) (by simp)
  |nil=>exact .nil
  |_=>simp [WkD]at hb
 |sl z rows A cap b off f hz hn hc hA hcell hrep ih=>
  intro b' hb
  cases b' with
  |sl z' rows'=>
   simp only [WkD]at hb
   obtain⟨rfl,hb⟩:=hb
   obtain⟨e1,e2⟩:=aNe _ _ hb
   rw [e1]
   have key: ∀(i:Nat) (row':List D) (j:Nat) (x':D),rows'[i]? =some row'->row'[j]? =some x'-> ∃row x,rows[i]? =some row/\row[j]? =some x/\WkD x x':=by
    intro i row' j x' h1 h2
    obtain⟨row,r1,r2⟩:=e2 i row' h1
    obtain⟨_,r3⟩:=aDf _ _ r2
    obtain⟨x,x1,x2⟩:=r3 j x' h2
    exact⟨row,x,r1,x1,x2⟩
   refine .sl z rows' A cap b off f ?_ (by omega) hc ?_ ?_ ?_
   ·intro row' hr
    obtain⟨i,hi⟩:=List.mem_iff_getElem?.1 hr
    obtain⟨row,r1,r2⟩:=e2 i row' hi
    rw [<-(aDf _ _ r2).1]
    exact hz row (List.mem_of_getElem? r1)
   ·intro hne
    exact hA λe=>hne (by subst e;simp at e1;exact List.eq_nil_of_length_eq_zero e1.symm)
   ·intro i row' j x' h1 h2
    obtain⟨row,x,r1,r2,_⟩:=key i row' j x' h1 h2
    exact hcell i row j x r1 r2
   ·intro i row' j x' h1 h2
    obtain⟨row,x,r1,r2,r3⟩:=key i row' j x' h1 h2
    exact ih i row j x r1 r2 x' r3
  |_=>simp [WkD]at hb
 |agg cs vs hl h ih=>
  intro b hb
  cases b with
  |agg cs'=>
   simp only [WkD]at hb
   obtain⟨e1,e2⟩:=aDf _ _ hb
   refine .agg cs' vs (by omega) λj x' v h1 h2=> ?_
   obtain⟨x,x1,x2⟩:=e2 j x' h1
   exact ih j x v x1 h2 x' x2
  |_=>simp [WkD]at hb
def WkS:SV->SV->Prop
 | .d a, .d b=>WkD a b
 | .osl _ z rows, .d b=>WkD (.sl z rows) b
 |a,b=>a=b
def aTo:List SV->List SV->Prop
 | [],[]=>True
 |a::l,b::m=>WkS a b/\aTo l m
 |_,_=>False
theorem aVc {w:World}{ρ:Env}{a b:SV}{v:Value}(h:WkS a b) (hr:Rep w ρ a v):Rep w ρ b v:=by
 unfold WkS at h
 split at h
 ·cases hr with
  |d x v h'=>exact .d _ _ (aIo h' _ h)
 ·exact .d _ _ (aIo hr.osl_inv.1 _ h)
 ·subst h;exact hr
theorem aNd: ∀(l m:List SV),aTo l m->l.length=m.length/\ ∀(j:Nat) (x':SV),m[j]? =some x'-> ∃x,l[j]? =some x/\WkS x x'
 | [],[],_=>⟨rfl,by simp⟩
 |a::l,b::m,h=>by
  simp only [aTo]at h
  obtain⟨i1,i2⟩:=aNd l m h.2
  refine⟨by simp [i1],λj x' hj=> ?_⟩
  cases j with
  |zero=>simp at hj;subst hj;exact⟨a,by simp,h.1⟩
  |succ j=>simp at hj;obtain⟨x,h1,h2⟩:=i2 j x' hj;exact⟨x,by simpa using h1,h2⟩
 | [],_::_,h=>by simp [aTo]at h
 |_::_,[],h=>by simp [aTo]at h
theorem Tri.res {P:Program}{f:FuncId}{asv:List SV}{hp:Hp}{post post':SV->Prop}(h:Tri P f asv hp post) (hw: ∀s,post s->post' s\/ ∃a b,s= .d a/\WkD a b/\post' (.d b)):Tri P f asv hp post':=
 λw ρ vs a b c=>(h w ρ vs a b c).mono λ_ _ ⟨v,S',s,h1,h2,h3,h4,h5,h6,h7⟩=>by
  rcases hw s h2 with hp'|⟨x,y,rfl,q,hp'⟩
  ·exact⟨v,S',s,h1,hp',h3,h4,h5,h6,h7⟩
  ·cases h7 with
   |d _ _ h7=>exact⟨v,S', .d y,h1,hp',h3,h4,h5,h6, .d _ _ (aIo h7 _ q)⟩
end Go.Proofs.YtdjfkmkdkclahaaGreatDoor
namespace Go.Proofs.YtdjfkmkdkclahaaGreatDoor
open Go.RowKit
section
variable {P:Program}
def Env.upd3 (ρ:Env) (id:Nat) (b:Option Nat) (n:Nat) (v:Value):Env:=
 { S:=ρ.S,blk:= λi=>if i=id then b else ρ.blk i,n:= λi=>if i=id then n else ρ.n i,tv:= λi=>if i=id then v else ρ.tv i }
theorem Env.moved_upd3 (ρ:Env) {id n:Nat}{b:Option Nat}{v:Value}{i:Nat}(h:i≠id):ρ.moved (ρ.upd3 id b n v) i:=by
 refine⟨by simp [Env.upd3,h], .inl (by simp [Env.upd3,h])⟩
theorem Env.upd3_at (ρ:Env) {id n i:Nat}{b:Option Nat}{v:Value}{x:HObj}(h:i≠id):(ρ.upd3 id b n v).at i x=ρ.at i x:=by
 cases x<;>simp [Env.at,Env.upd3,h]
def aX5 (E:Entry) (ρ:Env) (hp:Hp) (g:Nat):Prop:=
 (∀i o,aR hp i=some o->ρ.at i o≠some g)/\(∀i o,aR hp i=some o->o.Rd->ρ.blk i≠some g)/\(E.w.heap.size<=g\/E.B g)
theorem Mem.free_new {E:Entry}{ρ:Env}{hp:Hp}{w:World}(h:Mem E ρ hp w) {g:Nat}(hg:w.heap.size<=g):aX5 E ρ hp g:=by
 refine⟨λi o ho he=> ?_,λi o ho hrd he=> ?_, ?_⟩
 ·have:=h.blk_lt ho he;omega
 ·have:=h.ro_lt ho hrd he;omega
 ·have:=h.size;left;omega
theorem Mem.free_del {E:Entry}{ρ:Env}{hp hp':Hp}{w:World}(h:Mem E ρ hp w) {id g:Nat}{o:HObj}(ho:aR hp id=some o) (hg:ρ.at id o=some g) (hs:aA9 hp' hp) (hn:aR hp' id=none):aX5 E ρ hp' g:=by
 refine⟨λi x hx he=> ?_,λi x hx hrd he=> ?_,h.hb id o g ho hg⟩
 ·have:=h.inj i x id o g (fR _ _ hs i x hx) ho he hg
  subst this
  rw [hn]at hx;cases hx
 ·exact h.ro i x g (fR _ _ hs i _ hx) hrd he id o ho hg
theorem aCb {id:Nat}: ∀{hp' hp:Hp},aA9 hp' hp->id∉lQ hp->id∉lQ hp'
 | [],_,_,_=>by simp [lQ]
 |(k,o)::r,hp,hs,hn=>by
  obtain⟨h1,h2⟩:=hs
  have ih:=aCb h2 hn
  intro hm
  simp only [lQ,List.flatMap_cons,List.mem_append,List.mem_cons]at hm
  rcases hm with(hm|hm)|hm
  ·exact hn (bI h1 (.inl hm))
  ·exact hn (bI h1 (.inr hm))
  ·exact ih hm
theorem Mem.newObj {E:Entry}{ρ:Env}{hp:Hp}{w w':World}(h:Mem E ρ hp w) {id n:Nat}{b:Option Nat}{v:Value}{o:HObj}(hid:id∉lQ hp) (hpin:id∉E.pin) (hg:Grew w w') (hro:¬ o.Rd)
  (hs:aDm w' (ρ.upd3 id b n v) id o) (hf: ∀g,(ρ.upd3 id b n v).at id o=some g->aX5 E ρ hp g):
  Mem E (ρ.upd3 id b n v) ((id,o)::hp) w'/\cA ρ.S w w'/\ ∀i,i≠id->ρ.moved (ρ.upd3 id b n v) i:=by
 have hk:cA ρ.S w w':=hg.keeps h.slt
 have hmv: ∀i,i≠id->ρ.moved (ρ.upd3 id b n v) i:= λi hi=>ρ.moved_upd3 hi
 have hget: ∀i x,aR ((id,o)::hp) i=some x->(i=id/\x=o)\/(i≠id/\aR hp i=some x):=by
  intro i x hx
  by_cases e:i=id
  ·subst e;simp [aR]at hx;exact .inl ⟨rfl,hx.symm⟩
  ·rw [cO (λh=>e h.symm)]at hx;exact .inr ⟨e,hx⟩
 refine⟨⟨hg.os.trans h.os,hg.tape.trans h.tape,hg.output.trans h.output,Nat.le_trans h.size hg.size, ?_,h.sold,h.snew,λb i hs=>Nat.lt_of_lt_of_le (h.slt b i hs) hg.size,h.kp.trans h.sold hk, ?_, ?_, ?_, ?_, ?_,λb hb=>(hg.block b (bB (h.md b hb))).trans (h.md b hb)⟩,hk,hmv⟩
 ·exact λb hb hB=>(hg.block b (Nat.lt_of_lt_of_le hb h.size)).trans (h.old b hb hB)
 ·intro i x hx
  rcases hget i x hx with⟨rfl,rfl⟩|⟨e1,hx1⟩
  ·exact hs
  ·refine(h.sat i x hx1).keep hk (λ_ _ x=>x) ?_ (by simp [Env.upd3,e1]) ?_ (λ_ _ _ x=>x)
   ·rintro j hj
    exact hmv j λe'=>hid (e' ▸ bI hx1 hj)
   ·rintro g (hg'|⟨hg',hrd⟩)
    ·exact hg.block g (h.blk_lt hx1 hg')
    ·exact hg.block g (h.ro_lt hx1 hrd hg')
 ·intro i x i' x' g hx hx' hg1 hg2
  rcases hget i x hx with⟨e1,rfl⟩|⟨e1,hx1⟩
  ·rcases hget i' x' hx' with⟨e2,rfl⟩|⟨e2,hx2⟩
   ·rw [e1,e2]
   ·subst e1
    rw [ρ.upd3_at e2]at hg2
    exact absurd hg2 ((hf g hg1).1 i' x' hx2)
  ·rcases hget i' x' hx' with⟨e2,rfl⟩|⟨e2,hx2⟩
   ·subst e2
    rw [ρ.upd3_at e1]at hg1
    exact absurd hg1 ((hf g hg2).1 i x hx1)
   ·rw [ρ.upd3_at e1]at hg1
    rw [ρ.upd3_at e2]at hg2
    exact h.inj i x i' x' g hx1 hx2 hg1 hg2
 ·intro i x g hx hg1
  rcases hget i x hx with⟨e1,rfl⟩|⟨e1,hx1⟩
  ·subst e1
   exact(hf g hg1).2.2
  ·rw [ρ.upd3_at e1]at hg1
   exact h.hb i x g hx1 hg1
 ·exact λi hi=>Env.moved_trans (h.mv i hi) (hmv i λe=>hpin (e ▸ hi))
 ·intro i oR g hx hrd hg1 i' x' hx' hg2
  rcases hget i _ hx with⟨_,hc⟩|⟨e1,hx1⟩
  ·exact(hro (hc ▸ hrd)).elim
  ·have hg1':ρ.blk i=some g:=by simpa [Env.upd3,e1]using hg1
   rcases hget i' x' hx' with⟨e2,rfl⟩|⟨e2,hx2⟩
   ·subst e2
    exact(hf g hg2).2.1 i _ hx1 hrd hg1'
   ·rw [ρ.upd3_at e2]at hg2
    exact h.ro i _ g hx1 hrd hg1' i' x' hx2 hg2
theorem Mem.setExt {E:Entry}{ρ:Env}{hp:Hp}{w w':World}(h:Mem E ρ hp w) {id g:Nat}{X X':ExtO}(ho:aR hp id=some (.ext X)) (hg:ρ.blk id=some g)
  (hos:w'.os=w.os) (htape:w'.tape=w.tape) (hout:aNh w' w) (hsz:w.heap.size<=w'.heap.size) (hoth: ∀b,b < w.heap.size->b≠g->w'.heap[b]? =w.heap[b]?)
  {o':Obj} (ho':w'.heap[g]? =some o') (hs:X'.sat w' ρ o'):Mem E ρ (dW hp id (.ext X')) w'/\cA ρ.S w w':=by
 obtain⟨g',x,h1,h2,h3,h4⟩:=h.sat id _ ho
 rw [hg]at h1
 injection h1 with h1
 subst h1
 have hatg:ρ.at id (.ext X)=some g:=hg
 have hk:cA ρ.S w w':= λb i hs=>World.cell?_of_block (w:=w) (hoth b (h.slt b i hs) λe=>h4 i (e ▸ hs))
 have hget: ∀j y,aR (dW hp id (.ext X')) j=some y->(j=id/\y= .ext X')\/(j≠id/\aR hp j=some y):=by
  intro j y hj
  rw [bC _ ho]at hj
  by_cases e1:j=id
  ·simp [e1]at hj;exact .inl ⟨e1,hj.symm⟩
  ·simp [e1]at hj;exact .inr ⟨e1,hj⟩
 have hne: ∀j y b,j≠id->aR hp j=some y->ρ.at j y=some b->b≠g:= λj y b hj hjo hb e=>hj (h.inj j y id _ b hjo ho hb (by rw [hatg,e]))
 refine⟨⟨hos.trans h.os,htape.trans h.tape,hout.trans h.output,Nat.le_trans h.size hsz, ?_,h.sold,h.snew,λb i hs=>Nat.lt_of_lt_of_le (h.slt b i hs) hsz,h.kp.trans h.sold hk, ?_, ?_, ?_,h.mv, ?_, ?_⟩,hk⟩
 ·intro b hb hB
  rw [hoth b (Nat.lt_of_lt_of_le hb h.size) ?_]
  ·exact h.old b hb hB
  ·rintro rfl
   rcases h.hb id _ b ho hatg with hge|hB'
   ·omega
   ·exact hB hB'
 ·intro j y hj
  rcases hget j y hj with⟨rfl,rfl⟩|⟨e1,hj⟩
  ·exact⟨g,o',hg,ho',hs,h4⟩
  ·refine(h.sat j y hj).keep hk (λ_ _ x=>x) (λa _=>ρ.moved_refl a) ⟨rfl,rfl⟩ ?_ (λ_ _ _ x=>x)
   rintro b (hb|⟨hb,hrd⟩)
   ·exact hoth b (h.blk_lt hj hb) (hne j y b e1 hj hb)
   ·exact hoth b (h.ro_lt hj hrd hb) λe=>h.ro j _ b hj hrd hb id _ ho (by rw [hatg,e])
 ·intro j y j' y' b hj hj' hb hb'
  rcases hget j y hj with⟨e1,rfl⟩|⟨e1,hj1⟩
  ·rcases hget j' y' hj' with⟨e2,rfl⟩|⟨e2,hj2⟩
   ·rw [e1,e2]
   ·subst e1
    exact h.inj j (.ext X) j' y' b ho hj2 hb hb'
  ·rcases hget j' y' hj' with⟨e2,rfl⟩|⟨e2,hj2⟩
   ·subst e2
    exact h.inj j y j' (.ext X) b hj1 ho hb hb'
   ·exact h.inj j y j' y' b hj1 hj2 hb hb'
 ·intro j y b hj hb
  rcases hget j y hj with⟨e1,rfl⟩|⟨e1,hj1⟩
  ·subst e1
   exact h.hb j (.ext X) b ho hb
  ·exact h.hb j y b hj1 hb
 ·intro j oR b hj hrd hb j' y' hj' hb'
  rcases hget j _ hj with⟨_,hc⟩|⟨e1,hj1⟩
  ·rw [hc]at hrd;exact hrd.elim
  ·rcases hget j' y' hj' with⟨e2,rfl⟩|⟨e2,hj2⟩
   ·subst e2
    exact h.ro j _ b hj1 hrd hb j' (.ext X) ho hb'
   ·exact h.ro j _ b hj1 hrd hb j' y' hj2 hb'
 ·intro b hb
  refine(hoth b (bB (h.md b hb)) ?_).trans (h.md b hb)
  rintro rfl
  rw [h.md b hb]at h2
  cases h2
  exact X.nd _ _ _ h3
def flatK (rows:List (List D)):Nat->Option D:= λk=>rows.flatten[k]?
end
end Go.Proofs.YtdjfkmkdkclahaaGreatDoor
