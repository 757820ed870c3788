/-
  The rules of the walk at this program. The library's functions on strings: contracts. The walk through Keyword. Names: the walks through the functions that tell which strings are names. Scopes through which no goto goes, in the round.
  Conditions: none.
-/
import Derived.Test.YtleihcnongldbaaGreatDoorVTy
import Derived.Test.YtleihcnongldbaaGreatDoorVSz
import Derived.Lib.Strings
import Derived.Lib.Slices
import Derived.Lib.Walk
import Derived.Lib.Bytealg
import Derived.RangeFuncBound
set_option linter.unnecessarySimpa false
set_option linter.unusedSectionVars false
set_option linter.unusedSimpArgs false
set_option linter.unusedVariables false
set_option maxHeartbeats 2000000
namespace Go.Proofs.YtleihcnongldbaaGreatDoor
open Go.Proofs
set_option maxRecDepth 100000
theorem dwR {pin:Pin}{nt:Nat}{keep:Nat->Bool}{off:Nat}{rd:Option Nat}{zc:Bool}{frz:List Nat}{id:Nat}{l:List Oper}{fr:Fr}{hp:Hp}{K:Ex->Fr->Hp->Prop}(h:uW ⟨Tryz.prog,ty,pin,nt,keep,off,rd,zc,frz⟩ l (K .normal) l fr hp) (hm:(Tryz.prog).follows .mixedOrders=true:=by kernel_rfl) (hB:(Region.lexB .any l.toArray && iV l)=true:=by kernel_rfl):aO ⟨Tryz.prog,ty,pin,nt,keep,off,rd,zc,frz⟩ (.region id l.toArray true) fr hp K:=aFq hty hm hB h
end Go.Proofs.YtleihcnongldbaaGreatDoor
namespace Go.Proofs.YtleihcnongldbaaGreatDoor
open Go.Proofs
section
variable {P:Program}
theorem yP {f:FuncId}{args:List SV}{vs:Array Value}{r:D}{v:Value}(hv: ∀(w:World) (ρ:Env) (us:Array Value),bY w ρ args us->us=vs) (hr: ∀(w:World) (S:Nat->Nat->Prop),RepD w S r v)
  (h: ∀w,Calls P f vs w λe w'=>e= .returned v/\w'=w):Tri P f args [] (λs=>s= .d r):=by
 intro w ρ us hs ha _
 rw [hv w ρ us ha]
 refine(h w).mono ?_
 rintro e w' ⟨rfl,rfl⟩
 exact⟨v,ρ.S, .d r,rfl,rfl,Grew.refl _,λ_ _ h=>h,λ_ _ h=> .inl h,hs, .d _ _ (hr _ _)⟩
theorem aP7 {w:World}{ρ:Env}{a b:SV}{us:Array Value}(h:bY w ρ [a,b] us): ∃x y,us= #[x,y]/\Rep w ρ a x/\Rep w ρ b y:=by
 obtain⟨h1,h2⟩:=h
 match us,h1 with
 |⟨[x,y]⟩,_=>exact⟨x,y,rfl,h2 0 a x rfl rfl,h2 1 b y rfl rfl⟩
end
set_option maxRecDepth 100000 in
theorem sO (s:ByteArray) (c:Int) (w:World):
  Calls Tryz.prog 206 #[.string s, .int .u8 c] w λe w'=>e= .returned (.int .i64 (Lib.indexByte s.data.toList c.toNat.toUInt8))/\w'=w:=by
 go_enter Tryz.func206,Tryz.ntmps206
 go_wp2
 rw [run_callFunc_extern Tryz.func210 (by kernel_rfl) (by kernel_rfl) (by kernel_rfl) (e:=Extern.BytealgIndexByte.indexByte) (by kernel_rfl),Lib.run_indexByteString]
 simp only [Result.andThen]
 rw [Oper.upon_value]
 go_wp2
 go_ret
 exact⟨rfl,rfl⟩
set_option maxRecDepth 10000
attribute [local irreducible] aO aH Tri aG
theorem mY (l:List UInt8) (c:UInt8):Tri Tryz.prog 206 [.d (.str l), .d (.int .u8 c.toNat)] [] (λs=>s= .d (.int .i64 (Lib.indexByte l c))):=by
 refine yP (vs:= #[.string ⟨l.toArray⟩, .int .u8 c.toNat]) (v:= .int .i64 (Lib.indexByte l c)) ?_ (λ_ _=> .int _ _) (λw=> ?_)
 ·intro w ρ us h
  obtain⟨x,y,rfl,h1,h2⟩:=aP7 h
  rw [h1.str_inv.1,h2.int_inv]
 ·have:=sO ⟨l.toArray⟩ c.toNat w
  simpa using this
theorem qO (l:List UInt8) (c:UInt8):Tri Tryz.prog 205 [.d (.str l), .d (.str [c])] [] (λs=>s= .d (.int .i64 (Lib.indexByte l c))):=by
 refine aJ hty Tryz.func205 rfl (kp [0,1,4,5,6,7,8,9,10,11,12,13,16,24,31,36,59,64,73,93,107,114,132,139]) [] _ _ _ (by simp [Tryz.f205]) (by simp) ?_
 ((conv=>whnf);repeat' ((first|(intro hq;(try simp only [lnS]at hq);(try rewrite [List.length_map]))|refine sJ ?_|refine .intro _ (.intro rfl ?_)|refine exL (k:= ?_)|(refine aD [] (mY l _) trivial (λs hs=> ?_);subst hs)|refine dwR ?_|((first|refine aB ?_ ?_|refine aC ?_ ?_)<;>intro hb<;>(first|exact ddX hb|try simp only [lnS]at hb))|(refine aA ?_ ?_<;>intro hb<;>try exact dsX hb))<;>(conv=>whnf)))
 ·subst hb;simp [Lib.indexByte,dE]
 ·rfl
theorem aX {a b:Bool}(h:a=b):SV.d (.bool a)=SV.d (.bool b):=by rw [h]
theorem xP (p l:List UInt8) (_:p.length<=l.length):decide (l.take p.length=p)=p.isPrefixOf l:=by
 rw [Bool.eq_iff_iff,decide_eq_true_eq,List.isPrefixOf_iff_prefix]
 constructor
 ·intro e;rw [<-e];exact List.take_prefix ..
 ·intro e;exact(List.prefix_iff_eq_take.1 e).symm
theorem sS (l p:List UInt8):Tri Tryz.prog 171 [.d (.str l), .d (.str p)] [] (λs=>s= .d (.bool (p.isPrefixOf l))):=by
 refine aJ hty Tryz.func171 rfl (kp [0,1,4]) [] _ _ _ (by simp [Tryz.f171]) (by simp) ?_
 ((conv=>whnf);repeat' ((first|(intro hq;(try simp only [lnS]at hq);(try rewrite [List.length_map]))|refine sJ ?_|refine .intro _ (.intro rfl ?_)|refine exL (k:= ?_)|refine dwR ?_|((first|refine aB ?_ ?_|refine aC ?_ ?_)<;>intro hb<;>(first|exact ddX hb|try simp only [lnS]at hb))|(refine aA ?_ ?_<;>intro hb<;>try exact dsX hb))<;>(conv=>whnf)))
 ·exact aX (xP p l (by omega))
 ·refine aX (Eq.symm ?_)
  rw [Bool.eq_false_iff]
  intro h
  have:=(List.isPrefixOf_iff_prefix.1 h).length_le
  omega
theorem mV (l p:List UInt8):Tri Tryz.prog 145 [.d (.str l), .d (.str p)] [] (λs=>s= .d (.bool (p.isPrefixOf l))):=by
 refine aJ hty Tryz.func145 rfl (kp [0,1,4]) [] _ _ _ (by simp [Tryz.f145]) (by simp) ?_
 ((conv=>whnf);repeat ((first|(intro hq;try simp only [lnS]at hq)|refine sI ?_|refine .intro _ (.intro rfl ?_));(conv=>whnf)))
 refine aD [] (sS l p) trivial (λs hs=> ?_)
 subst hs
 ((conv=>whnf);repeat ((first|(intro hq;try simp only [lnS]at hq)|refine sI ?_|refine .intro _ (.intro rfl ?_));(conv=>whnf)))
 rfl
theorem qD: ∀(l:List UInt8) (c:UInt8),Lib.indexByte l c < l.length
 | [],_=>by simp [Lib.indexByte]
 |b::l,c=>by
  have:=qD l c
  unfold Lib.indexByte
  simp only [List.length_cons]
  split
  ·omega
  ·split<;>omega
def aLh (l:List UInt8) (c:UInt8):List UInt8×List UInt8×Bool:=
 if 0<=Lib.indexByte l c then (l.take (Lib.indexByte l c).toNat,l.drop ((Lib.indexByte l c).toNat+1),true)else (l,[],false)
def aOz (r:List UInt8×List UInt8×Bool):SV:= .tup [.d (.str r.1), .d (.str r.2.1), .d (.bool r.2.2)]
theorem wP (l:List UInt8) (c:UInt8):Tri Tryz.prog 201 [.d (.str l), .d (.str [c])] [] (λs=>s=aOz (aLh l c)):=by
 refine Tri.lenS 0 rfl (λhl=> ?_)
 refine aJ hty Tryz.func201 rfl (kp [0,1,4,5,6,7,12]) [] _ _ _ (by simp [Tryz.f201]) (by simp) ?_
 ((conv=>whnf);repeat ((first|(intro hq;try simp only [lnS]at hq)|refine sI ?_|refine .intro _ (.intro rfl ?_));(conv=>whnf)))
 refine aD [] (qO l c) trivial (λs hs=> ?_)
 subst hs
 have hlt:=qD l c
 generalize hi:Lib.indexByte l c=i at hlt |-
 ((conv=>whnf);repeat' ((first|(intro hq;(try simp only [lnS]at hq);(try rewrite [List.length_map]))|refine sJ ?_|refine .intro _ (.intro rfl ?_)|refine exL (k:= ?_)|refine dwR ?_|((first|refine aB ?_ ?_|refine aC ?_ ?_)<;>intro hb<;>(first|exact ddX hb|try simp only [lnS]at hb))|(refine aA ?_ ?_<;>intro hb<;>try exact dsX hb))<;>(conv=>whnf)))
 ·rw [aLh,hi,if_pos hb]
  obtain⟨n,rfl⟩:=Int.eq_ofNat_of_zero_le hb
  simp only [aOz,dE,List.drop_zero,Int.toNat_natCast,List.length_cons,List.length_nil,List.take_length]
  rfl
 ·rw [aLh,hi,if_neg hb];rfl
theorem aIh (l:List UInt8) (c:UInt8):Tri Tryz.prog 189 [.d (.str l), .d (.str [c])] [] (λs=>s=aOz (aLh l c)):=by
 refine aJ hty Tryz.func189 rfl (kp [0,1,4,5,6]) [] _ _ _ (by simp [Tryz.f189]) (by simp) ?_
 ((conv=>whnf);repeat ((first|(intro hq;try simp only [lnS]at hq)|refine sI ?_|refine .intro _ (.intro rfl ?_));(conv=>whnf)))
 refine aD [] (wP l c) trivial (λs hs=> ?_)
 subst hs
 ((conv=>whnf);repeat ((first|(intro hq;try simp only [lnS]at hq)|refine sI ?_|refine .intro _ (.intro rfl ?_));(conv=>whnf)))
 rfl
end Go.Proofs.YtleihcnongldbaaGreatDoor
namespace Go.Proofs.YtleihcnongldbaaGreatDoor
open Go.Proofs
set_option maxRecDepth 10000
attribute [local irreducible] aO aH Tri aG
def kws : List (List UInt8) := [[97, 110, 100],
 [115,111,109,101],
 [105,110],
 [116,111],
 [110,111,116,104,105,110,103],
 [101,118,101,114,121,116,104,105,110,103],
 [111,110,101],
 [111,102],
 [111,112,101,110],
 [112,114,105,118,97,116,101],
 [115,117,98],
 [115,97,109,101],
 [100,105,115,106,111,105,110,116],
 [100,111,109,97,105,110],
 [114,111,108,101],
 [99,104,97,105,110],
 [114,101,102,108,101,120,105,118,101],
 [116,121,112,101],
 [108,105,110,107],
 [115,101,108,101,99,116],
 [119,104,101,114,101],
 [111,114]]
def kwF (s:List UInt8):Bool:=decide (s∈kws)
theorem zI (s:List UInt8):Tri Tryz.prog 203 [.d (.str s)] [] (λr=>r= .d (.bool (kwF s))):=by
 refine aJ hty Tryz.func203 rfl (kp [0,2,3,4]) [] _ _ _ (by simp [Tryz.f203]) (by simp) ?_
 ((conv=>whnf);repeat' ((first|(intro hq;try simp only [lnS]at hq)|refine sJ ?_|refine .intro _ (.intro rfl ?_)|refine exL (k:= ?_)|refine dwR ?_|((first|refine aB ?_ ?_|refine aC ?_ ?_)<;>intro hb<;>(first|exact ddX hb|try simp only [lnS]at hb))|(refine aA ?_ ?_<;>intro hb<;>try exact dsX hb))<;>(conv=>whnf)))
 all_goals first|(rename_i hb;subst hb;rfl)|skip
 have:kwF s=false:=by simp [kwF,kws, *]
 rw [this];rfl
end Go.Proofs.YtleihcnongldbaaGreatDoor
namespace Go.Proofs.YtleihcnongldbaaGreatDoor
open Go.Proofs
set_option maxRecDepth 10000
attribute [local irreducible] aO aH Tri aG
def aAq (c:UInt8):Bool:=decide (97<=c.toNat/\c.toNat<=122) || decide (65<=c.toNat/\c.toNat<=90)
def dI (c:UInt8):Bool:=aAq c || decide (c.toNat=95) || decide (48<=c.toNat/\c.toNat<=57)
def aN8 (c:UInt8):SV:= .d (.int .u8 c.toNat)
def bsv (l:List UInt8):D:= .sl 1 (l.map aV)
theorem oI (c:UInt8):Tri Tryz.prog 202 [aN8 c] [] (λr=>r= .d (.bool (aAq c))):=by
 refine aJ hty Tryz.func202 rfl (kp [0,2]) [] _ _ _ (by simp [Tryz.f202]) (by simp) ?_
 ((conv=>whnf);repeat' ((first|(intro hq;(try simp only [lnS]at hq);(try rewrite [List.length_map]))|refine sJ ?_|refine .intro _ (.intro rfl ?_)|refine exL (k:= ?_)|refine dwR ?_|((first|refine aB ?_ ?_|refine aC ?_ ?_)<;>intro hb<;>(first|exact ddX hb|try simp only [lnS]at hb))|(refine aA ?_ ?_<;>intro hb<;>try exact dsX hb))<;>(conv=>whnf)))
 all_goals (refine aX (Bool.eq_iff_iff.2 ?_);simp only [aAq,Bool.or_eq_true,decide_eq_true_eq,true_iff,false_iff,Bool.false_eq_true];omega)
theorem yC {α:Type}{p:α->Bool}{l:List α}{k:Nat}(h:k < l.length) (hp:p l[k]=false):l.all p=false:=by
 rw [List.all_eq_false]
 exact⟨l[k],List.getElem_mem h,by simp [hp]⟩
theorem rH {α:Type}{p:α->Bool}{l:List α}{k:Nat}(h:k < l.length) (hk:(l.take k).all p=true) (hp:p l[k]=true):(l.take (k+1)).all p=true:=by
 rw [List.take_succ_eq_append_getElem h,List.all_append,hk];simp [hp]
theorem sK (s:List UInt8):Tri Tryz.prog 194 [.d (.str s)] [] (λr=>r= .d (.bool (s.all dI))):=by
 refine aJ hty Tryz.func194 rfl (kp [0,2,4,6,7,8,9,26]) [] _ _ _ (by simp [Tryz.f194]) (by simp) ?_
 ((conv=>whnf);repeat ((first|(intro hq;try simp only [lnS]at hq)|refine sI ?_|refine .intro _ (.intro rfl ?_));(conv=>whnf)))
 refine aL hty (λk:Nat=>([(6, .d (bsv s)),(7, .d (.int .i64 s.length)),(8, .d (.int .i64 k))],[])) (λk=>k<=s.length/\(s.take k).all dI=true) (λk=>s.length - k) 0 (by simp) ⟨by repeat' (first|exact trivial|exact rfl|(rw [List.length_map];exact rfl)|refine And.intro ?_ ?_),trivial⟩ ?_
 rintro k ⟨hk,hk2⟩
 ((conv=>whnf);repeat' ((first|(intro hq;(try simp only [lnS]at hq);(try rewrite [List.length_map]))|refine sJ ?_|refine .intro _ (.intro rfl ?_)|refine exL (k:= ?_)|(refine⟨_,aEr (by first|omega|(simp only [List.length_map];omega)), ?_⟩)|(refine aD [] (oI _) trivial (λs hs=> ?_);subst hs)|refine dwR ?_|((first|refine aB ?_ ?_|refine aC ?_ ?_)<;>intro hb<;>(first|exact ddX hb|try simp only [lnS]at hb))|(refine aA ?_ ?_<;>intro hb<;>try exact dsX hb))<;>(conv=>whnf)))
 ·rename_i h0 h1 h2
  have hkl:k < s.length:=by omega
  have ht:dI s[(k:Int).toNat]=false:=by
   simp only [Bool.not_eq_true']at h1
   simp only [dI,h1,Bool.false_or,Bool.or_eq_false_iff,decide_eq_false_iff_not];omega
  rw [yC (k:=k) hkl ht];rfl
 ·rename_i h0 h1 h2 h3
  have hkl:k < s.length:=by omega
  have ht:dI s[(k:Int).toNat]=false:=by
   simp only [Bool.not_eq_true']at h1
   simp only [dI,h1,Bool.false_or,Bool.or_eq_false_iff,decide_eq_false_iff_not];omega
  rw [yC (k:=k) hkl ht];rfl
 ·have hkl:k < s.length:=by omega
  have ht:dI s[(k:Int).toNat]=true:=by
   simp only [dI,Bool.or_eq_true,decide_eq_true_eq];right;omega
  exact⟨k+1,⟨by omega,rH hkl hk2 ht⟩,by dsimp only;omega,⟨by repeat' (first|exact trivial|exact rfl|refine And.intro ?_ ?_),by repeat' (first|exact trivial|exact rfl|refine And.intro ?_ ?_)⟩⟩
 ·have hkl:k < s.length:=by omega
  have ht:dI s[(k:Int).toNat]=true:=by
   simp only [dI,Bool.or_eq_true,decide_eq_true_eq];left;right;omega
  exact⟨k+1,⟨by omega,rH hkl hk2 ht⟩,by dsimp only;omega,⟨by repeat' (first|exact trivial|exact rfl|refine And.intro ?_ ?_),by repeat' (first|exact trivial|exact rfl|refine And.intro ?_ ?_)⟩⟩
 ·have hkl:k < s.length:=by omega
  have ht:dI s[(k:Int).toNat]=true:=by
   simp only [dI,Bool.or_eq_true];left;left;simpa using hb
  exact⟨k+1,⟨by omega,rH hkl hk2 ht⟩,by dsimp only;omega,⟨by repeat' (first|exact trivial|exact rfl|refine And.intro ?_ ?_),by repeat' (first|exact trivial|exact rfl|refine And.intro ?_ ?_)⟩⟩
 ·rw [List.take_of_length_le (by omega)]at hk2
  rw [hk2];rfl
def aCh (s:List UInt8):Bool:=match s with| []=>false|c::r=>aAq c && ((c::r).all dI && !kwF (c::r))
theorem aAt (s:List UInt8):Tri Tryz.prog 190 [.d (.str s)] [] (λr=>r= .d (.bool (aCh s))):=by
 cases s with
 |nil=>
  refine aJ hty Tryz.func190 rfl (kp [0,2]) [] _ _ _ (by simp [Tryz.f190]) (by simp) ?_
  ((conv=>whnf);repeat' ((first|(intro hq;(try simp only [lnS]at hq);(try rewrite [List.length_map]))|refine sJ ?_|refine .intro _ (.intro rfl ?_)|refine exL (k:= ?_)|refine dwR ?_|((first|refine aB ?_ ?_|refine aC ?_ ?_)<;>intro hb<;>(first|exact ddX hb|try simp only [lnS]at hb))|(refine aA ?_ ?_<;>intro hb<;>try exact dsX hb))<;>(conv=>whnf)))
  rfl
 |cons c r=>
  refine aJ hty Tryz.func190 rfl (kp [0,2]) [] _ _ _ (by simp [Tryz.f190]) (by simp) ?_
  ((conv=>whnf);repeat' ((first|(intro hq;(try simp only [lnS]at hq);(try rewrite [List.length_map]))|refine sJ ?_|refine .intro _ (.intro rfl ?_)|refine exL (k:= ?_)|(refine aD [] (oI _) trivial (λs hs=> ?_);subst hs)|(refine aD [] (sK _) trivial (λs hs=> ?_);subst hs)|(refine aD [] (zI _) trivial (λs hs=> ?_);subst hs)|refine dwR ?_|((first|refine aB ?_ ?_|refine aC ?_ ?_)<;>intro hb<;>(first|exact ddX hb|try simp only [lnS]at hb))|(refine aA ?_ ?_<;>intro hb<;>try exact dsX hb))<;>(conv=>whnf)))
  ·rename_i h0
   have h0':aAq c=true:=h0
   exact aX (by simp only [aCh,h0',hb,Bool.true_and])
  ·rename_i h0
   have h0':aAq c=true:=h0
   exact aX (by simp only [aCh,h0',hb,Bool.true_and,Bool.false_and])
  ·have h0':aAq c=false:=hb
   exact aX (by simp only [aCh,h0',Bool.false_and])
def aHe (s:List UInt8):Bool:=decide (2<=s.length) && (decide (s.length<=24) && (decide (s.head?=some 95) && s.all dI))
theorem aJb {s:List UInt8}(h:2<=(s.length:Int)):decide (s.head?=some 95)=decide (s[Int.toNat 0]'(by omega)=95):=by
 match s,h with
 |c::r,_=>simp
theorem u95 {c:UInt8}(h:(c.toNat:Int)=95):c=95:=by
 have h9:(95:UInt8).toNat=95:=by decide
 exact UInt8.toNat_inj.1 (by omega)
theorem lP (s:List UInt8):Tri Tryz.prog 170 [.d (.str s)] [] (λr=>r= .d (.bool (aHe s))):=by
 refine aJ hty Tryz.func170 rfl (kp [0,2]) [] _ _ _ (by simp [Tryz.f170]) (by simp) ?_
 ((conv=>whnf);repeat' ((first|(intro hq;(try simp only [lnS]at hq);(try rewrite [List.length_map]))|refine sJ ?_|refine .intro _ (.intro rfl ?_)|refine exL (k:= ?_)|(refine aD [] (sK _) trivial (λs hs=> ?_);subst hs)|refine dwR ?_|((first|refine aB ?_ ?_|refine aC ?_ ?_)<;>intro hb<;>(first|exact ddX hb|try simp only [lnS]at hb))|(refine aA ?_ ?_<;>intro hb<;>try exact dsX hb))<;>(conv=>whnf)))
 ·have h2:2<=(s.length:Int):=by omega
  refine aX ?_
  rw [aHe,aJb h2,u95 hb]
  simp only [show 2<=s.length from by omega,show s.length<=24 from by omega,decide_true,Bool.true_and]
 ·have h2:2<=(s.length:Int):=by omega
  refine aX ?_
  rw [aHe,aJb h2]
  have:¬ s[Int.toNat 0]'(by omega)=95:= λe=>hb (by rw [e];rfl)
  simp only [this,decide_false,Bool.false_and,Bool.and_false]
 ·refine aX ?_
  rw [aHe]
  simp only [show ¬ s.length<=24 from by omega,decide_false,Bool.false_and,Bool.and_false]
 ·refine aX ?_
  rw [aHe]
  simp only [show ¬ 2<=s.length from by omega,decide_false,Bool.false_and]
def fX (s:List UInt8):Bool:=decide (s.length<=24) && (aCh (aLh s 58).1 && (!(aLh s 58).2.2 || aCh (aLh s 58).2.1))
theorem gS (s:List UInt8):Tri Tryz.prog 163 [.d (.str s)] [] (λr=>r= .d (.bool (fX s))):=by
 refine aJ hty Tryz.func163 rfl (kp [0,2,3,4,5,8]) [] _ _ _ (by simp [Tryz.f163]) (by simp) ?_
 ((conv=>whnf);repeat' ((first|(intro hq;(try simp only [lnS]at hq);(try rewrite [List.length_map]))|refine sJ ?_|refine .intro _ (.intro rfl ?_)|refine exL (k:= ?_)|(refine aD [] (aIh s 58) trivial (λs hs=> ?_);subst hs)|(refine aD [] (aAt _) trivial (λs hs=> ?_);subst hs)|refine dwR ?_|((first|refine aB ?_ ?_|refine aC ?_ ?_)<;>intro hb<;>(first|exact ddX hb|try simp only [lnS]at hb))|(refine aA ?_ ?_<;>intro hb<;>try exact dsX hb))<;>(conv=>whnf)))
 ·refine aX ?_
  rw [fX]
  simp only [show ¬ s.length<=24 from by omega,decide_false,Bool.false_and]
 all_goals
  refine aX ?_
  rw [fX]
  simp only [show s.length<=24 from by omega,decide_true,Bool.true_and]
  simp_all
def eZ (s:List UInt8):Bool:=fX s || aHe s
theorem hH (s:List UInt8):Tri Tryz.prog 144 [.d (.str s)] [] (λr=>r= .d (.int .i64 (if eZ s then 0 else 20))):=by
 refine aJ hty Tryz.func144 rfl (kp [0,2,8]) [] _ _ _ (by simp [Tryz.f144]) (by simp) ?_
 ((conv=>whnf);repeat' ((first|(intro hq;(try simp only [lnS]at hq);(try rewrite [List.length_map]))|refine sJ ?_|refine .intro _ (.intro rfl ?_)|refine exL (k:= ?_)|(refine aD [] (gS s) trivial (λs hs=> ?_);subst hs)|(refine aD [] (lP s) trivial (λs hs=> ?_);subst hs)|refine dwR ?_|((first|refine aB ?_ ?_|refine aC ?_ ?_)<;>intro hb<;>(first|exact ddX hb|try simp only [lnS]at hb))|(refine aA ?_ ?_<;>intro hb<;>try exact dsX hb))<;>(conv=>whnf)))
 all_goals (first|(have h9:eZ s=true:=by simp_all [eZ])|(have h9:eZ s=false:=by simp_all [eZ]))
 all_goals (rw [h9];rfl)
end Go.Proofs.YtleihcnongldbaaGreatDoor
namespace Go.Proofs.YtleihcnongldbaaGreatDoor
open Go.Proofs
section
variable {F:Fence} {n:Nat} {P:Program} {b:Frame} {a:Act} {k:List Item} {cs:List Frame} {w:World} {Q:Exit->Act->World->Prop}
end
def aJr {α:Type}(I:α->Fr×Hp) (Ok:α->Prop) (μ:α->Nat) (x:α) (K:Ex->Fr->Hp->Prop) (e:Ex) (fr:Fr) (hp:Hp):Prop:=
 match e with
 | .normal=> ∃y,Ok y/\μ y < μ x/\aKi (I y).1 fr/\hp=(I y).2
 |e=>K e fr hp
theorem Sat.subE {E:Entry}{nt:Nat}{fr fr':Fr}{hp:Hp}{a:Act}{w:World}(h:Sat E nt ⟨fr,hp⟩ a w) (hs:aKi fr' fr):Sat E nt ⟨fr',hp⟩ a w:=by
 obtain⟨h1,h2,ρ,h3,h4⟩:=h
 exact⟨h1,h2,ρ,h3,aEl _ _ hs h4⟩
theorem sH {C:Cfg}(hti:cT C.P C.ti) {c:Code}{fr:Fr}{hp:Hp}{K:Ex->Fr->Hp->Prop}{α:Type}(I:α->Fr×Hp) (Ok:α->Prop) (μ:α->Nat) (x:α) (h0:Ok x) (hs:aKi (I x).1 fr) (he:hp=(I x).2)
  (round: ∀y,Ok y->X C c (I y).1 (I y).2 (aJr I Ok μ y K)):aO C (.loop c) fr hp K:=by
 subst he
 intro E a w hpin hrd hsat
 refine wpIn_loop_ghost (λn a w=> ∃y E',μ y=n/\Ok y/\Ext E E'/\Sat E' C.nt ⟨(I y).1,(I y).2⟩ a w) (μ x) ⟨x,E,rfl,h0, .refl E,hsat.subE hs⟩ ?_
 rintro n a' w' ⟨y,E',rfl,hy,hE,hsy⟩
 have:=jE hti c _ _ _ (round y hy) E' a' w' (hE.pin.trans hpin) (hrd.ext hE) hsy
 rw [hE.rd]at this
 refine wpIn_mono this ?_
 rintro e a₁ w₁ ⟨ex,fr₁,hp₁,E'',hE',hrel,hk,hs₁⟩
 cases ex<;>cases e<;>simp only [Ex.rel]at hrel<;>simp only [KX,aJr]at hk
 ·obtain⟨y',k1,k2,k3,rfl⟩:=hk
  exact⟨μ y',k2,y',E'',rfl,k1,hE.trans hE',hs₁.subE k3⟩
 ·exact⟨.exit _,fr₁,hp₁,E'',hE.trans hE',hrel,hk,hs₁⟩
 ·exact⟨.goto _,fr₁,hp₁,E'',hE.trans hE',hrel,hk,hs₁⟩
 ·exact⟨.ret,fr₁,hp₁,E'',hE.trans hE',hrel,hk,hs₁⟩
 ·exact⟨.pan,fr₁,hp₁,E'',hE.trans hE',hrel,hk,hs₁⟩
theorem aH.sub {P:Program}{pin:Pin}{fr:Fr}{hp hp':Hp}{f:FuncId}{args:List SV}{K:SV->Hp->Prop}(hs:aAc hp' hp) (h:aH P pin fr hp' f args K):aH P pin fr hp f args K:=
 λE ρ w tm hpin hm hf vs ha=>h E ρ w tm hpin (hm.sub (iN _ _ hs)) hf vs ha
theorem aH.mono {P:Program}{pin:Pin}{fr:Fr}{hp:Hp}{f:FuncId}{args:List SV}{K K':SV->Hp->Prop}(hk: ∀s hp,K s hp->K' s hp) (h:aH P pin fr hp f args K):aH P pin fr hp f args K':=
 λE ρ w tm hpin hm hf vs ha=>(h E ρ w tm hpin hm hf vs ha).mono λ_ _ q=>q.imp (λ⟨v,ρ',s,hp',h1,h2,h3⟩=>⟨v,ρ',s,hp',h1,hk _ _ h2,h3⟩) λq=>q
end Go.Proofs.YtleihcnongldbaaGreatDoor
