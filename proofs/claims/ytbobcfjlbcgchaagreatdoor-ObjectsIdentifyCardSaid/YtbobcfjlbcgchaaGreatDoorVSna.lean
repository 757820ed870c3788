/-
  The rules of the walk at this program. The library's functions on strings: contracts. The walk through Keyword. Names: the walks through the functions that tell which strings are names. Scopes through which no goto goes, in the round. Regions that draw their order: all orders, given as a tree. Data of which more is known: nil for an empty slice, at any depth. Objects of other kinds: a new one, and one that is written; rows whose cells are known one by one.
  Conditions: none.
-/
import Derived.Test.YtbobcfjlbcgchaaGreatDoorVTy
import Derived.Test.YtbobcfjlbcgchaaGreatDoorVSz
import Derived.Lib.Strings
import Derived.Lib.Slices
import Derived.Lib.Walk
import Derived.Lib.Bytealg
import Derived.RangeFuncBound
import Derived.Laws.IdiomCopy
import Derived.Laws.Externs
import Derived.Lib.Overlaps
import Derived.Lib.AppendZeros
set_option linter.unusedSectionVars false
set_option linter.unusedSimpArgs false
set_option linter.unusedVariables false
set_option maxHeartbeats 2000000
namespace Go.Proofs.YtbobcfjlbcgchaaGreatDoor
open Go.Proofs
set_option maxRecDepth 100000
theorem dwR {pin:Pin}{nt:Nat}{keep:Nat->Bool}{off:Nat}{rd:Option Nat}{zc:Bool}{frz:List Nat}{id:Nat}{l:List Oper}{fr:Fr}{hp:Hp}{K:Ex->Fr->Hp->Prop}(h:zN ⟨Tryz.prog,ty,pin,nt,keep,off,rd,zc,frz⟩ l (K .normal) l fr hp) (hm:(Tryz.prog).follows .mixedOrders=true:=by kernel_rfl) (hB:(Region.lexB .any l.toArray && kQ l)=true:=by kernel_rfl):aJ ⟨Tryz.prog,ty,pin,nt,keep,off,rd,zc,frz⟩ (.region id l.toArray true) fr hp K:=aNu hty hm hB h
end Go.Proofs.YtbobcfjlbcgchaaGreatDoor
namespace Go.Proofs.YtbobcfjlbcgchaaGreatDoor
open Go.Proofs
section
variable {P:Program}
theorem sZ {f:FuncId}{args:List SV}{vs:Array Value}{r:D}{v:Value}(hv: ∀(w:World) (ρ:Env) (us:Array Value),cL w ρ args us->us=vs) (hr: ∀(w:World) (S:Nat->Nat->Prop),RepD w S r v)
  (h: ∀w,Calls P f vs w λe w'=>e= .returned v/\w'=w):Tri P f args [] (λs=>s= .d r):=by
 intro w ρ us hs ha _
 rw [hv w ρ us ha]
 refine(h w).mono ?_
 rintro e w' ⟨rfl,rfl⟩
 exact⟨v,ρ.S, .d r,rfl,rfl,Grew.refl _,λ_ _ h=>h,λ_ _ h=> .inl h,hs, .d _ _ (hr _ _)⟩
theorem aW0 {w:World}{ρ:Env}{a b:SV}{us:Array Value}(h:cL w ρ [a,b] us): ∃x y,us= #[x,y]/\Rep w ρ a x/\Rep w ρ b y:=by
 obtain⟨h1,h2⟩:=h
 match us,h1 with
 |⟨[x,y]⟩,_=>exact⟨x,y,rfl,h2 0 a x rfl rfl,h2 1 b y rfl rfl⟩
end
set_option maxRecDepth 100000 in
theorem wU (s:ByteArray) (c:Int) (w:World):
  Calls Tryz.prog 252 #[.string s, .int .u8 c] w λe w'=>e= .returned (.int .i64 (Lib.indexByte s.data.toList c.toNat.toUInt8))/\w'=w:=by
 go_enter Tryz.func252,Tryz.ntmps252
 go_wp2
 rw [run_callFunc_extern Tryz.func258 (by kernel_rfl) (by kernel_rfl) (by kernel_rfl) (e:=Extern.BytealgIndexByte.indexByte) (by kernel_rfl),Lib.run_indexByteString]
 simp only [Result.andThen]
 rw [Oper.upon_value]
 go_wp2
 go_ret
 exact⟨rfl,rfl⟩
set_option maxRecDepth 100000 in
theorem pR (a b:ByteArray) (w:World):
  Calls Tryz.prog 132 #[.string a, .string b] w λe w'=>e= .returned (.int .i64 (Lib.compareBytes a.data.toList b.data.toList))/\w'=w:=by
 go_enter Tryz.func132,Tryz.ntmps132
 go_wp2
 rw [run_callFunc_extern Tryz.func180 (by kernel_rfl) (by kernel_rfl) (by kernel_rfl) (e:=Extern.BytealgCompare.compare) (by kernel_rfl),Lib.run_compareString]
 simp only [Result.andThen]
 rw [Oper.upon_value]
 go_wp2
 go_ret
 exact⟨rfl,rfl⟩
set_option maxRecDepth 10000
attribute [local irreducible] aJ aF Tri aG
theorem oJ (l:List UInt8) (c:UInt8):Tri Tryz.prog 252 [.d (.str l), .d (.int .u8 c.toNat)] [] (λs=>s= .d (.int .i64 (Lib.indexByte l c))):=by
 refine sZ (vs:= #[.string ⟨l.toArray⟩, .int .u8 c.toNat]) (v:= .int .i64 (Lib.indexByte l c)) ?_ (λ_ _=> .int _ _) (λw=> ?_)
 ·intro w ρ us h
  obtain⟨x,y,rfl,h1,h2⟩:=aW0 h
  rw [h1.str_inv.1,h2.int_inv]
 ·have:=wU ⟨l.toArray⟩ c.toNat w
  simpa using this
theorem rN (a b:List UInt8):Tri Tryz.prog 132 [.d (.str a), .d (.str b)] [] (λs=>s= .d (.int .i64 (Lib.compareBytes a b))):=by
 refine sZ (vs:= #[.string ⟨a.toArray⟩, .string ⟨b.toArray⟩]) (v:= .int .i64 (Lib.compareBytes a b)) ?_ (λ_ _=> .int _ _) (λw=> ?_)
 ·intro w ρ us h
  obtain⟨x,y,rfl,h1,h2⟩:=aW0 h
  rw [h1.str_inv.1,h2.str_inv.1]
 ·have:=pR ⟨a.toArray⟩ ⟨b.toArray⟩ w
  simpa using this
theorem lT (a b:List UInt8):Tri Tryz.prog 73 [.d (.str a), .d (.str b)] [] (λs=>s= .d (.int .i64 (Lib.compareBytes a b))):=by
 refine aP hty Tryz.func73 rfl (kp [0,1,4]) [] _ _ _ (by simp [Tryz.f73]) (by simp) ?_
 ((conv=>whnf);repeat ((first|(intro hq;try simp only [lnS]at hq)|refine sI ?_|refine .intro _ (.intro rfl ?_));(conv=>whnf)))
 refine aD [] (rN a b) trivial (λs hs=> ?_)
 subst hs
 ((conv=>whnf);repeat ((first|(intro hq;try simp only [lnS]at hq)|refine sI ?_|refine .intro _ (.intro rfl ?_));(conv=>whnf)))
 rfl
theorem tV (l:List UInt8) (c:UInt8):Tri Tryz.prog 243 [.d (.str l), .d (.str [c])] [] (λs=>s= .d (.int .i64 (Lib.indexByte l c))):=by
 refine aP hty Tryz.func243 rfl (kp [0,1,4,5,6,7,8,9,10,11,12,13,16,24,31,36,59,64,73,93,107,114,132,139]) [] _ _ _ (by simp [Tryz.f243]) (by simp) ?_
 ((conv=>whnf);repeat' ((first|(intro hq;(try simp only [lnS]at hq);(try rewrite [List.length_map]))|refine sJ ?_|refine .intro _ (.intro rfl ?_)|refine exL (k:= ?_)|(refine aD [] (oJ l _) trivial (λs hs=> ?_);subst hs)|refine dwR ?_|((first|refine aA ?_ ?_|refine aC ?_ ?_)<;>intro hb<;>(first|exact ddX hb|try simp only [lnS]at hb))|(refine aB ?_ ?_<;>intro hb<;>try exact dsX hb))<;>(conv=>whnf)))
 ·subst hb;simp [Lib.indexByte,cU]
 ·rfl
theorem bQ {a b:Bool}(h:a=b):SV.d (.bool a)=SV.d (.bool b):=by rw [h]
theorem tN: ∀(l:List UInt8) (c:UInt8),Lib.indexByte l c < l.length
 | [],_=>by simp [Lib.indexByte]
 |b::l,c=>by
  have:=tN l c
  unfold Lib.indexByte
  simp only [List.length_cons]
  split
  ·omega
  ·split<;>omega
def aTp (l:List UInt8) (c:UInt8):List UInt8×List UInt8×Bool:=
 if 0<=Lib.indexByte l c then (l.take (Lib.indexByte l c).toNat,l.drop ((Lib.indexByte l c).toNat+1),true)else (l,[],false)
def aXn (r:List UInt8×List UInt8×Bool):SV:= .tup [.d (.str r.1), .d (.str r.2.1), .d (.bool r.2.2)]
theorem aAu (l:List UInt8) (c:UInt8):Tri Tryz.prog 219 [.d (.str l), .d (.str [c])] [] (λs=>s=aXn (aTp l c)):=by
 refine Tri.lenS 0 rfl (λhl=> ?_)
 refine aP hty Tryz.func219 rfl (kp [0,1,4,5,6,7,12]) [] _ _ _ (by simp [Tryz.f219]) (by simp) ?_
 ((conv=>whnf);repeat ((first|(intro hq;try simp only [lnS]at hq)|refine sI ?_|refine .intro _ (.intro rfl ?_));(conv=>whnf)))
 refine aD [] (tV l c) trivial (λs hs=> ?_)
 subst hs
 have hlt:=tN l c
 generalize hi:Lib.indexByte l c=i at hlt |-
 ((conv=>whnf);repeat' ((first|(intro hq;(try simp only [lnS]at hq);(try rewrite [List.length_map]))|refine sJ ?_|refine .intro _ (.intro rfl ?_)|refine exL (k:= ?_)|refine dwR ?_|((first|refine aA ?_ ?_|refine aC ?_ ?_)<;>intro hb<;>(first|exact ddX hb|try simp only [lnS]at hb))|(refine aB ?_ ?_<;>intro hb<;>try exact dsX hb))<;>(conv=>whnf)))
 ·rw [aTp,hi,if_pos hb]
  obtain⟨n,rfl⟩:=Int.eq_ofNat_of_zero_le hb
  simp only [aXn,cU,List.drop_zero,Int.toNat_natCast,List.length_cons,List.length_nil,List.take_length]
  rfl
 ·rw [aTp,hi,if_neg hb];rfl
theorem aQt (l:List UInt8) (c:UInt8):Tri Tryz.prog 193 [.d (.str l), .d (.str [c])] [] (λs=>s=aXn (aTp l c)):=by
 refine aP hty Tryz.func193 rfl (kp [0,1,4,5,6]) [] _ _ _ (by simp [Tryz.f193]) (by simp) ?_
 ((conv=>whnf);repeat ((first|(intro hq;try simp only [lnS]at hq)|refine sI ?_|refine .intro _ (.intro rfl ?_));(conv=>whnf)))
 refine aD [] (aAu l c) trivial (λs hs=> ?_)
 subst hs
 ((conv=>whnf);repeat ((first|(intro hq;try simp only [lnS]at hq)|refine sI ?_|refine .intro _ (.intro rfl ?_));(conv=>whnf)))
 rfl
end Go.Proofs.YtbobcfjlbcgchaaGreatDoor
namespace Go.Proofs.YtbobcfjlbcgchaaGreatDoor
open Go.Proofs
set_option maxRecDepth 10000
attribute [local irreducible] aJ aF Tri aG
def kws : List (List UInt8) := [[97, 110, 100],
 [115,111,109,101],
 [105,110],
 [116,111],
 [110,111,116,104,105,110,103],
 [101,118,101,114,121,116,104,105,110,103],
 [111,110,101],
 [111,102],
 [111,112,101,110],
 [112,114,105,118,97,116,101],
 [115,117,98],
 [115,97,109,101],
 [100,105,115,106,111,105,110,116],
 [100,111,109,97,105,110],
 [114,111,108,101],
 [99,104,97,105,110],
 [114,101,102,108,101,120,105,118,101],
 [116,121,112,101],
 [108,105,110,107],
 [115,101,108,101,99,116],
 [119,104,101,114,101],
 [111,114]]
def kwF (s:List UInt8):Bool:=decide (s∈kws)
theorem aD6 (s:List UInt8):Tri Tryz.prog 222 [.d (.str s)] [] (λr=>r= .d (.bool (kwF s))):=by
 refine aP hty Tryz.func222 rfl (kp [0,2,3,4]) [] _ _ _ (by simp [Tryz.f222]) (by simp) ?_
 ((conv=>whnf);repeat' ((first|(intro hq;try simp only [lnS]at hq)|refine sJ ?_|refine .intro _ (.intro rfl ?_)|refine exL (k:= ?_)|refine dwR ?_|((first|refine aA ?_ ?_|refine aC ?_ ?_)<;>intro hb<;>(first|exact ddX hb|try simp only [lnS]at hb))|(refine aB ?_ ?_<;>intro hb<;>try exact dsX hb))<;>(conv=>whnf)))
 all_goals first|(rename_i hb;subst hb;rfl)|skip
 have:kwF s=false:=by simp [kwF,kws, *]
 rw [this];rfl
end Go.Proofs.YtbobcfjlbcgchaaGreatDoor
namespace Go.Proofs.YtbobcfjlbcgchaaGreatDoor
open Go.Proofs
set_option maxRecDepth 10000
attribute [local irreducible] aJ aF Tri aG
def aTd (c:UInt8):Bool:=decide (97<=c.toNat/\c.toNat<=122) || decide (65<=c.toNat/\c.toNat<=90)
def qC (c:UInt8):Bool:=aTd c || decide (c.toNat=95) || decide (48<=c.toNat/\c.toNat<=57)
def aXs (c:UInt8):SV:= .d (.int .u8 c.toNat)
def bsv (l:List UInt8):D:= .sl 1 (l.map bE)
theorem rF (c:UInt8):Tri Tryz.prog 220 [aXs c] [] (λr=>r= .d (.bool (aTd c))):=by
 refine aP hty Tryz.func220 rfl (kp [0,2]) [] _ _ _ (by simp [Tryz.f220]) (by simp) ?_
 ((conv=>whnf);repeat' ((first|(intro hq;(try simp only [lnS]at hq);(try rewrite [List.length_map]))|refine sJ ?_|refine .intro _ (.intro rfl ?_)|refine exL (k:= ?_)|refine dwR ?_|((first|refine aA ?_ ?_|refine aC ?_ ?_)<;>intro hb<;>(first|exact ddX hb|try simp only [lnS]at hb))|(refine aB ?_ ?_<;>intro hb<;>try exact dsX hb))<;>(conv=>whnf)))
 all_goals (refine bQ (Bool.eq_iff_iff.2 ?_);simp only [aTd,Bool.or_eq_true,decide_eq_true_eq,true_iff,false_iff,Bool.false_eq_true];omega)
theorem aHz {α:Type}{p:α->Bool}{l:List α}{k:Nat}(h:k < l.length) (hp:p l[k]=false):l.all p=false:=by
 rw [List.all_eq_false]
 exact⟨l[k],List.getElem_mem h,by simp [hp]⟩
theorem aBv {α:Type}{p:α->Bool}{l:List α}{k:Nat}(h:k < l.length) (hk:(l.take k).all p=true) (hp:p l[k]=true):(l.take (k+1)).all p=true:=by
 rw [List.take_succ_eq_append_getElem h,List.all_append,hk];simp [hp]
theorem wP (s:List UInt8):Tri Tryz.prog 221 [.d (.str s)] [] (λr=>r= .d (.bool (s.all qC))):=by
 refine aP hty Tryz.func221 rfl (kp [0,2,4,6,7,8,9,26]) [] _ _ _ (by simp [Tryz.f221]) (by simp) ?_
 ((conv=>whnf);repeat ((first|(intro hq;try simp only [lnS]at hq)|refine sI ?_|refine .intro _ (.intro rfl ?_));(conv=>whnf)))
 refine aK hty (λk:Nat=>([(6, .d (bsv s)),(7, .d (.int .i64 s.length)),(8, .d (.int .i64 k))],[])) (λk=>k<=s.length/\(s.take k).all qC=true) (λk=>s.length - k) 0 (by simp) ⟨by repeat' (first|exact trivial|exact rfl|(rw [List.length_map];exact rfl)|refine And.intro ?_ ?_),trivial⟩ ?_
 rintro k ⟨hk,hk2⟩
 ((conv=>whnf);repeat' ((first|(intro hq;(try simp only [lnS]at hq);(try rewrite [List.length_map]))|refine sJ ?_|refine .intro _ (.intro rfl ?_)|refine exL (k:= ?_)|(refine⟨_,aM5 (by first|omega|(simp only [List.length_map];omega)), ?_⟩)|(refine aD [] (rF _) trivial (λs hs=> ?_);subst hs)|refine dwR ?_|((first|refine aA ?_ ?_|refine aC ?_ ?_)<;>intro hb<;>(first|exact ddX hb|try simp only [lnS]at hb))|(refine aB ?_ ?_<;>intro hb<;>try exact dsX hb))<;>(conv=>whnf)))
 ·rename_i h0 h1 h2
  have hkl:k < s.length:=by omega
  have ht:qC s[(k:Int).toNat]=false:=by
   simp only [Bool.not_eq_true']at h1
   simp only [qC,h1,Bool.false_or,Bool.or_eq_false_iff,decide_eq_false_iff_not];omega
  rw [aHz (k:=k) hkl ht];rfl
 ·rename_i h0 h1 h2 h3
  have hkl:k < s.length:=by omega
  have ht:qC s[(k:Int).toNat]=false:=by
   simp only [Bool.not_eq_true']at h1
   simp only [qC,h1,Bool.false_or,Bool.or_eq_false_iff,decide_eq_false_iff_not];omega
  rw [aHz (k:=k) hkl ht];rfl
 ·have hkl:k < s.length:=by omega
  have ht:qC s[(k:Int).toNat]=true:=by
   simp only [qC,Bool.or_eq_true,decide_eq_true_eq];right;omega
  exact⟨k+1,⟨by omega,aBv hkl hk2 ht⟩,by dsimp only;omega,⟨by repeat' (first|exact trivial|exact rfl|refine And.intro ?_ ?_),by repeat' (first|exact trivial|exact rfl|refine And.intro ?_ ?_)⟩⟩
 ·have hkl:k < s.length:=by omega
  have ht:qC s[(k:Int).toNat]=true:=by
   simp only [qC,Bool.or_eq_true,decide_eq_true_eq];left;right;omega
  exact⟨k+1,⟨by omega,aBv hkl hk2 ht⟩,by dsimp only;omega,⟨by repeat' (first|exact trivial|exact rfl|refine And.intro ?_ ?_),by repeat' (first|exact trivial|exact rfl|refine And.intro ?_ ?_)⟩⟩
 ·have hkl:k < s.length:=by omega
  have ht:qC s[(k:Int).toNat]=true:=by
   simp only [qC,Bool.or_eq_true];left;left;simpa using hb
  exact⟨k+1,⟨by omega,aBv hkl hk2 ht⟩,by dsimp only;omega,⟨by repeat' (first|exact trivial|exact rfl|refine And.intro ?_ ?_),by repeat' (first|exact trivial|exact rfl|refine And.intro ?_ ?_)⟩⟩
 ·rw [List.take_of_length_le (by omega)]at hk2
  rw [hk2];rfl
def aIa (s:List UInt8):Bool:=match s with| []=>false|c::r=>aTd c && ((c::r).all qC && !kwF (c::r))
theorem aFd (s:List UInt8):Tri Tryz.prog 194 [.d (.str s)] [] (λr=>r= .d (.bool (aIa s))):=by
 cases s with
 |nil=>
  refine aP hty Tryz.func194 rfl (kp [0,2]) [] _ _ _ (by simp [Tryz.f194]) (by simp) ?_
  ((conv=>whnf);repeat' ((first|(intro hq;(try simp only [lnS]at hq);(try rewrite [List.length_map]))|refine sJ ?_|refine .intro _ (.intro rfl ?_)|refine exL (k:= ?_)|refine dwR ?_|((first|refine aA ?_ ?_|refine aC ?_ ?_)<;>intro hb<;>(first|exact ddX hb|try simp only [lnS]at hb))|(refine aB ?_ ?_<;>intro hb<;>try exact dsX hb))<;>(conv=>whnf)))
  rfl
 |cons c r=>
  refine aP hty Tryz.func194 rfl (kp [0,2]) [] _ _ _ (by simp [Tryz.f194]) (by simp) ?_
  ((conv=>whnf);repeat' ((first|(intro hq;(try simp only [lnS]at hq);(try rewrite [List.length_map]))|refine sJ ?_|refine .intro _ (.intro rfl ?_)|refine exL (k:= ?_)|(refine aD [] (rF _) trivial (λs hs=> ?_);subst hs)|(refine aD [] (wP _) trivial (λs hs=> ?_);subst hs)|(refine aD [] (aD6 _) trivial (λs hs=> ?_);subst hs)|refine dwR ?_|((first|refine aA ?_ ?_|refine aC ?_ ?_)<;>intro hb<;>(first|exact ddX hb|try simp only [lnS]at hb))|(refine aB ?_ ?_<;>intro hb<;>try exact dsX hb))<;>(conv=>whnf)))
  ·rename_i h0
   have h0':aTd c=true:=h0
   exact bQ (by simp only [aIa,h0',hb,Bool.true_and])
  ·rename_i h0
   have h0':aTd c=true:=h0
   exact bQ (by simp only [aIa,h0',hb,Bool.true_and,Bool.false_and])
  ·have h0':aTd c=false:=hb
   exact bQ (by simp only [aIa,h0',Bool.false_and])
def aOj (s:List UInt8):Bool:=decide (2<=s.length) && (decide (s.length<=24) && (decide (s.head?=some 95) && s.all qC))
theorem aRg {s:List UInt8}(h:2<=(s.length:Int)):decide (s.head?=some 95)=decide (s[Int.toNat 0]'(by omega)=95):=by
 match s,h with
 |c::r,_=>simp
theorem u95 {c:UInt8}(h:(c.toNat:Int)=95):c=95:=by
 have h9:(95:UInt8).toNat=95:=by decide
 exact UInt8.toNat_inj.1 (by omega)
theorem mN (s:List UInt8):Tri Tryz.prog 195 [.d (.str s)] [] (λr=>r= .d (.bool (aOj s))):=by
 refine aP hty Tryz.func195 rfl (kp [0,2]) [] _ _ _ (by simp [Tryz.f195]) (by simp) ?_
 ((conv=>whnf);repeat' ((first|(intro hq;(try simp only [lnS]at hq);(try rewrite [List.length_map]))|refine sJ ?_|refine .intro _ (.intro rfl ?_)|refine exL (k:= ?_)|(refine aD [] (wP _) trivial (λs hs=> ?_);subst hs)|refine dwR ?_|((first|refine aA ?_ ?_|refine aC ?_ ?_)<;>intro hb<;>(first|exact ddX hb|try simp only [lnS]at hb))|(refine aB ?_ ?_<;>intro hb<;>try exact dsX hb))<;>(conv=>whnf)))
 ·have h2:2<=(s.length:Int):=by omega
  refine bQ ?_
  rw [aOj,aRg h2,u95 hb]
  simp only [show 2<=s.length from by omega,show s.length<=24 from by omega,decide_true,Bool.true_and]
 ·have h2:2<=(s.length:Int):=by omega
  refine bQ ?_
  rw [aOj,aRg h2]
  have:¬ s[Int.toNat 0]'(by omega)=95:= λe=>hb (by rw [e];rfl)
  simp only [this,decide_false,Bool.false_and,Bool.and_false]
 ·refine bQ ?_
  rw [aOj]
  simp only [show ¬ s.length<=24 from by omega,decide_false,Bool.false_and,Bool.and_false]
 ·refine bQ ?_
  rw [aOj]
  simp only [show ¬ 2<=s.length from by omega,decide_false,Bool.false_and]
def dE (s:List UInt8):Bool:=decide (s.length<=24) && (aIa (aTp s 58).1 && (!(aTp s 58).2.2 || aIa (aTp s 58).2.1))
theorem iY (s:List UInt8):Tri Tryz.prog 144 [.d (.str s)] [] (λr=>r= .d (.bool (dE s))):=by
 refine aP hty Tryz.func144 rfl (kp [0,2,3,4,5,8]) [] _ _ _ (by simp [Tryz.f144]) (by simp) ?_
 ((conv=>whnf);repeat' ((first|(intro hq;(try simp only [lnS]at hq);(try rewrite [List.length_map]))|refine sJ ?_|refine .intro _ (.intro rfl ?_)|refine exL (k:= ?_)|(refine aD [] (aQt s 58) trivial (λs hs=> ?_);subst hs)|(refine aD [] (aFd _) trivial (λs hs=> ?_);subst hs)|refine dwR ?_|((first|refine aA ?_ ?_|refine aC ?_ ?_)<;>intro hb<;>(first|exact ddX hb|try simp only [lnS]at hb))|(refine aB ?_ ?_<;>intro hb<;>try exact dsX hb))<;>(conv=>whnf)))
 ·refine bQ ?_
  rw [dE]
  simp only [show ¬ s.length<=24 from by omega,decide_false,Bool.false_and]
 all_goals
  refine bQ ?_
  rw [dE]
  simp only [show s.length<=24 from by omega,decide_true,Bool.true_and]
  simp_all
def fH (s:List UInt8):Bool:=dE s || aOj s
theorem yP (s:List UInt8):Tri Tryz.prog 145 [.d (.str s)] [] (λr=>r= .d (.int .i64 (if fH s then 0 else 20))):=by
 refine aP hty Tryz.func145 rfl (kp [0,2,8]) [] _ _ _ (by simp [Tryz.f145]) (by simp) ?_
 ((conv=>whnf);repeat' ((first|(intro hq;(try simp only [lnS]at hq);(try rewrite [List.length_map]))|refine sJ ?_|refine .intro _ (.intro rfl ?_)|refine exL (k:= ?_)|(refine aD [] (iY s) trivial (λs hs=> ?_);subst hs)|(refine aD [] (mN s) trivial (λs hs=> ?_);subst hs)|refine dwR ?_|((first|refine aA ?_ ?_|refine aC ?_ ?_)<;>intro hb<;>(first|exact ddX hb|try simp only [lnS]at hb))|(refine aB ?_ ?_<;>intro hb<;>try exact dsX hb))<;>(conv=>whnf)))
 all_goals (first|(have h9:fH s=true:=by simp_all [fH])|(have h9:fH s=false:=by simp_all [fH]))
 all_goals (rw [h9];rfl)
end Go.Proofs.YtbobcfjlbcgchaaGreatDoor
namespace Go.Proofs.YtbobcfjlbcgchaaGreatDoor
open Go.Proofs
section
variable {F:Fence} {n:Nat} {P:Program} {b:Frame} {a:Act} {k:List Item} {cs:List Frame} {w:World} {Q:Exit->Act->World->Prop}
theorem fM {c:Code}:step P (lone (b.atR a (.code (.scope c)::k)) cs w)= .next (lone (b.atR a (.code c:: .inScope c::k)) cs w):=
 step_lone_go (by simp [stepG,stepG.exec,Frame.atR])
theorem aAr {c:Code}:step P (lone (b.atR a (.inScope c::k)) cs w)= .next (lone (b.atR a k) cs w):=
 step_lone_go (by simp [stepG,stepG.exec,Frame.atR])
theorem aI6 {c:Code}(hn: ∀l a w,¬ Q (.goto l) a w) (h:c.wpIn F n P Q a w):(Code.scope c).wpIn F n P Q a w:=by
 intro b k cs hro hb hr
 have h0:(lone (b.atR a (.code (.scope c)::k)) cs w).fenced P F:=fenced_calm hb hr rfl
 obtain⟨e,a₁,w₁,hq,harr⟩:=h b (.inScope c::k) cs hro hb hr
 cases e with
 |normal=>exact⟨.normal,a₁,w₁,hq, .head h0 fM (StepsIn.trans harr (.one (fenced_calm hb hr rfl) aAr))⟩
 |exit id=>
  have hx:exitTo id (.inScope c::k)=exitTo id k:=by simp [exitTo]
  exact ⟨.exit id, a₁, w₁, hq, λk' hk => .head h0 fM (harr.1 k' (by rw [hx]; exact hk)),
   λhr' hk=>let ⟨k₁,h1,h2⟩:=harr.2 hr' (by rw [hx];exact hk);⟨k₁,h1, .head h0 fM h2⟩⟩
 |goto l=>exact(hn l _ _ hq).elim
 |ret=>exact⟨_,a₁,w₁,hq, .of_steps (.one h0 fM) harr⟩
 |panic ch=>exact⟨_,a₁,w₁,hq, .of_steps (.one h0 fM) harr⟩
 |outgrown=>exact⟨_,a₁,w₁,hq, .of_steps (.one h0 fM) harr⟩
end
theorem aM2 {C:Cfg}(hti:dX C.P C.ti) {c:Code}{fr:Fr}{hp:Hp}{K:Ex->Fr->Hp->Prop}
  (h:X C c fr hp λe fr hp=>match e with| .goto _=>aG "goto" |e=>K e fr hp):aJ C (.scope c) fr hp K:=by
 intro E a w hpin hrd hs
 have:=kZ hti c fr hp _ h E a w hpin hrd hs
 refine wpIn_mono (aI6 ?_ this) ?_
 ·rintro l a w ⟨ex,fr',hp',E',hE,hrel,hk,hs'⟩
  cases ex<;>simp only [Ex.rel]at hrel
  exact hk
 ·rintro e a' w' ⟨ex,fr',hp',E',hE,hrel,hk,hs'⟩
  cases ex
  case goto=>exact False.elim hk
  all_goals exact⟨_,fr',hp',E',hE,hrel,hk,hs'⟩
def aRw {α:Type}(I:α->Fr×Hp) (Ok:α->Prop) (μ:α->Nat) (x:α) (K:Ex->Fr->Hp->Prop) (e:Ex) (fr:Fr) (hp:Hp):Prop:=
 match e with
 | .normal=> ∃y,Ok y/\μ y < μ x/\aSg (I y).1 fr/\hp=(I y).2
 |e=>K e fr hp
theorem Sat.subE {E:Entry}{nt:Nat}{fr fr':Fr}{hp:Hp}{a:Act}{w:World}(h:Sat E nt ⟨fr,hp⟩ a w) (hs:aSg fr' fr):Sat E nt ⟨fr',hp⟩ a w:=by
 obtain⟨h1,h2,ρ,h3,h4⟩:=h
 exact⟨h1,h2,ρ,h3,aLo _ _ hs h4⟩
theorem cX {C:Cfg}(hti:dX C.P C.ti) {c:Code}{fr:Fr}{hp:Hp}{K:Ex->Fr->Hp->Prop}{α:Type}(I:α->Fr×Hp) (Ok:α->Prop) (μ:α->Nat) (x:α) (h0:Ok x) (hs:aSg (I x).1 fr) (he:hp=(I x).2)
  (round: ∀y,Ok y->X C c (I y).1 (I y).2 (aRw I Ok μ y K)):aJ C (.loop c) fr hp K:=by
 subst he
 intro E a w hpin hrd hsat
 refine wpIn_loop_ghost (λn a w=> ∃y E',μ y=n/\Ok y/\Ext E E'/\Sat E' C.nt ⟨(I y).1,(I y).2⟩ a w) (μ x) ⟨x,E,rfl,h0, .refl E,hsat.subE hs⟩ ?_
 rintro n a' w' ⟨y,E',rfl,hy,hE,hsy⟩
 have:=kZ hti c _ _ _ (round y hy) E' a' w' (hE.pin.trans hpin) (hrd.ext hE) hsy
 rw [hE.rd]at this
 refine wpIn_mono this ?_
 rintro e a₁ w₁ ⟨ex,fr₁,hp₁,E'',hE',hrel,hk,hs₁⟩
 cases ex<;>cases e<;>simp only [Ex.rel]at hrel<;>simp only [KX,aRw]at hk
 ·obtain⟨y',k1,k2,k3,rfl⟩:=hk
  exact⟨μ y',k2,y',E'',rfl,k1,hE.trans hE',hs₁.subE k3⟩
 ·exact⟨.exit _,fr₁,hp₁,E'',hE.trans hE',hrel,hk,hs₁⟩
 ·exact⟨.goto _,fr₁,hp₁,E'',hE.trans hE',hrel,hk,hs₁⟩
 ·exact⟨.ret,fr₁,hp₁,E'',hE.trans hE',hrel,hk,hs₁⟩
 ·exact⟨.pan,fr₁,hp₁,E'',hE.trans hE',hrel,hk,hs₁⟩
theorem aF.sub {P:Program}{pin:Pin}{fr:Fr}{hp hp':Hp}{f:FuncId}{args:List SV}{K:SV->Hp->Prop}(hs:jK hp' hp) (h:aF P pin fr hp' f args K):aF P pin fr hp f args K:=
 λE ρ w tm hpin hm hf vs ha=>h E ρ w tm hpin (hm.sub (iD _ _ hs)) hf vs ha
theorem aF.mono {P:Program}{pin:Pin}{fr:Fr}{hp:Hp}{f:FuncId}{args:List SV}{K K':SV->Hp->Prop}(hk: ∀s hp,K s hp->K' s hp) (h:aF P pin fr hp f args K):aF P pin fr hp f args K':=
 λE ρ w tm hpin hm hf vs ha=>(h E ρ w tm hpin hm hf vs ha).mono λ_ _ q=>q.imp (λ⟨v,ρ',s,hp',h1,h2,h3⟩=>⟨v,ρ',s,hp',h1,hk _ _ h2,h3⟩) λq=>q
theorem aF.weak {P:Program}{pin:Pin}{fr:Fr}{hp:Hp}{f:FuncId}{args:List SV}{K:SV->Hp->Prop}(h:aF P pin fr hp f args λs hp'=> ∃hp'',jK hp'' hp'/\K s hp''):aF P pin fr hp f args K:=
 λE ρ w tm hpin hm hf vs ha=>(h E ρ w tm hpin hm hf vs ha).mono λ_ _ q=>q.imp (λ⟨v,ρ',s,_,h1,⟨hp'',h2,h3⟩,h4,h5⟩=>⟨v,ρ',s,hp'',h1,h3,h4.sub (iD _ _ h2),h5⟩) λq=>q
theorem YVC.weak {P:Program}{pin:Pin}{fr:Fr}{hp:Hp}{lid:Nat}{args:List SV}{K:SV->Hp->Prop}(h:YVC P pin fr hp lid args λs hp'=> ∃hp'',jK hp'' hp'/\K s hp''):YVC P pin fr hp lid args K:=
 λE ρ w tm hpin hm hf l vs hl ha=>YieldAt.mono (h E ρ w tm hpin hm hf l vs hl ha) λ_ _ ⟨v,ρ',s,_,h1,⟨hp'',h2,h3⟩,h4,h5⟩=>⟨v,ρ',s,hp'',h1,h3,h4.sub (iD _ _ h2),h5⟩
end Go.Proofs.YtbobcfjlbcgchaaGreatDoor
namespace Go.Proofs.YtbobcfjlbcgchaaGreatDoor
open Go.Proofs
section
variable {P:Program}
inductive OT where
 |done
 |stop
 |first (i:Nat) (t:OT)
 |alt (i:Nat) (t:OT) (r:OT)
def OT.heads:OT->List Nat
 | .alt i _ r=>i::r.heads
 |_=>[]
def OT.depth:OT->Nat
 | .done=>0
 | .stop=>0
 | .first _ t=>t.depth+1
 | .alt _ t r=>max (t.depth+1) r.depth
def okT (ops:Array Oper):OT->Array Bool->Bool->Bool
 | .done,listed,inn=> !inn && (Region.ready .any ops listed).isEmpty
 | .stop,_,inn=>inn
 | .first i t, listed, inn => !inn && (match ops[i]? with
   |some o=>kd o.op==0 && (Region.ready .any ops listed).contains i && Region.free .any ops listed i && okT ops t (listed.setIfInBounds i true) false
   |none=>false)
 | .alt i t r,listed,inn=>(inn || (!(Region.ready .any ops listed).isEmpty && (Region.ready .any ops listed).all λj=>(i::r.heads).contains j)) && (ops[i]?).isSome && okT ops t (listed.setIfInBounds i true) false && okT ops r listed true
def aOe (P:Program) (pin:Pin) (fr:Fr) (hp:Hp) (f:Operand) (args:List Operand) (K:SV->Hp->Prop):Prop:=
 ev fr f λs=>match aRk s with
  | some (g, first, cap) => (match evL fr args with
   |some l=>dA P g=true/\aF P pin.calm fr hp g (first++l++cap) K
   |none=>aG "call: an argument")
  |none=>aG "call: no function"
def aVC (P:Program) (ti:TypeId->Option TI) (pin:Pin) (fr:Fr) (hp:Hp) (dst:Nat) (o:Oper) (K:SV->Hp->Prop):Prop:=
 match o.op with
 | .call { callee:= .value f,args:=args,argTypes:=_ }=>aOe P pin fr hp f args.toList K
 |_=>dVC P ti pin fr hp dst o K
theorem aQ3 {o:Oper}{f:Operand}{args:Array Operand}{ts:Array TypeId}(ho:o.op= .call { callee:= .value f,args:=args,argTypes:=ts }) {pin:Pin}{fr:Fr}{hp:Hp}{K:SV->Hp->Prop}
  (h:aOe P pin fr hp f args.toList K):aAe P o pin fr hp K:=by
 intro E ρ a w hpin hm hf next Q hn
 obtain⟨s,hs,hv⟩:=cP h
 have hr:=aR hf hs
 split at hv
 ·rename_i g first cap hfn
  obtain⟨fv,cv,e,h1,h2⟩:=xC hfn hr
  split at hv
  ·rename_i l hl
   obtain⟨hcall,hv⟩:=hv
   obtain⟨l1,l2⟩:=xJ hf _ _ hl
   have hargs:cL w ρ (first++l++cap) (fv++args.map a.eval++cv):=by
    refine(h1.append ⟨?_, ?_⟩).append h2
    ·simpa using l1
    ·intro j s' v hs' hv'
     refine l2 j s' v hs' ?_
     rw [<-Array.toList_map];simpa using hv'
   unfold Oper.wp
   rw [jH ho e hcall]
   simp only [Oper.upon]
   refine(hv { E with pin:=E.pin.calm } ρ w a.tmps (by rw [hpin]) hm.calm hf _ hargs).mono ?_
   rintro e' w' (⟨v,ρ',s',hp',rfl,k1,k2,k3,k4⟩|⟨_,_,_,_,_,q,_⟩)
   ·exact hn v w' ρ' s' hp' k1 k2.uncalm k3 k4
   ·exact q.elim
  ·exact hv.elim
 ·exact hv.elim
theorem aYf {ti:TypeId->Option TI}(hti:dX P ti) {o:Oper}{pin:Pin}{fr:Fr}{hp:Hp}{dst:Nat}{K:SV->Hp->Prop}(h:aVC P ti pin fr hp dst o K):aAe P o pin fr hp K:=by
 unfold aVC at h
 split at h
 ·rename_i ho;exact aQ3 ho h
 ·rcases aWk hti (o:=o) h with⟨_,hd,_⟩|⟨_,hd⟩|⟨_,hd⟩
  ·exact .pure hd
  ·exact hd.drop
  ·exact hd
def aKe (C:Cfg) (all:List Oper) (i:Nat) (fr:Fr) (hp:Hp) (k:Fr->Hp->Prop):Prop:=
 match all[i]? with
 |some o=>
  sO all fr o.guard
   (λfr=>aVC C.P C.ti C.pin fr hp (C.off+o.dst.getD 0) o λs hp'=>put C o.dst s fr λfr'=>k fr' hp')
   (λfr=>put C o.dst (.d (.lit undef)) fr λfr'=>k fr' hp)
 |none=>aG "no such operation"
def tA (C:Cfg) (all:List Oper) (K:Fr->Hp->Prop):OT->Fr->Hp->Prop
 | .done,fr,hp=>qN C.keep fr λfr'=>K fr' hp
 | .stop,_,_=>True
 | .first i t,fr,hp=>aK3 C all i fr hp λfr' hp'=>tA C all K t fr' hp'
 | .alt i t r,fr,hp=>aKe C all i fr hp (λfr' hp'=>tA C all K t fr' hp')/\tA C all K r fr hp
def aU0 (C:Cfg) (all:List Oper) (R:Act->World->Prop) (fuel:Nat) (listed:Array Bool) (a:Act) (w:World) (i:Nat):Prop:=
 match all.toArray[i]? with
 |none=>wpE C.P all.toArray R fuel (λ_=>True) (listed.setIfInBounds i true) a w
 |some o=>
  if Region.wanted o (yielded all.toArray a.tmps)then
   o.wp C.P a w (λa' w'=>if kd o.op=3 then wpE C.P all.toArray R fuel (λ_=>True) (listed.setIfInBounds i true) a' w' else True/\wpE C.P all.toArray R fuel (λ_=>True) (listed.setIfInBounds i true) a' w') noX
  else wpE C.P all.toArray R fuel (λ_=>True) (listed.setIfInBounds i true) (a.put o.dst undef) w
theorem aIh {C:Cfg}(hti:dX C.P C.ti) {all:List Oper}{K:Fr->Hp->Prop}{E:Entry}(hpin:E.pin=C.pin) (hsel:Region.noSelect all.toArray=true):
  ∀(T:OT) (fuel:Nat) (listed:Array Bool) (fr:Fr) (hp:Hp) (ρ:Env) (a:Act) (w:World),tA C all K T fr hp->Mem E ρ hp w->a.tmps.size=C.nt->a.defers=(E.D.take E.k).map tL++E.pin.pre->dD ρ w fr a.tmps->
  (okT all.toArray T listed false=true->T.depth<=fuel->wpE C.P all.toArray (λa w=> ∃fr hp,K fr hp/\Sat E C.nt ⟨fr,hp⟩ a w) fuel (λ_=>True) listed a w)/\
  (∀inn,okT all.toArray T listed inn=true->T.depth<=fuel+1-> ∀i∈T.heads,aU0 C all (λa w=> ∃fr hp,K fr hp/\Sat E C.nt ⟨fr,hp⟩ a w) fuel listed a w i):=by
 intro T
 induction T with
 |done=>
  intro fuel listed fr hp ρ a w h hm h1 h2 h3
  refine⟨λhB _=> ?_,λ_ _ _ i hi=>by simp [OT.heads]at hi⟩
  simp only [okT,Bool.not_false,Bool.true_and,List.isEmpty_iff]at hB
  simp only [tA,mD]at h
  have hq: ∃fr hp,K fr hp/\Sat E C.nt ⟨fr,hp⟩ a w:=⟨_,hp,h,h1,h2,ρ,hm,λt s hts=>h3 t s (jW _ _ t s hts)⟩
  cases fuel with
  |zero=>exact⟨hB,hq⟩
  |succ n=>exact⟨λ_=>hq,λi hi=>by rw [hB]at hi;cases hi⟩
 |stop=>
  intro fuel listed fr hp ρ a w h hm h1 h2 h3
  exact⟨λhB=>by simp [okT]at hB,λ_ _ _ i hi=>by simp [OT.heads]at hi⟩
 |first i t ih=>
  intro fuel listed fr hp ρ a w h hm h1 h2 h3
  refine⟨λhB hd=> ?_,λ_ _ _ i hi=>by simp [OT.heads]at hi⟩
  simp only [tA,aK3]at h
  split at h
  ·rename_i o ho
   have ho':all.toArray[i]? =some o:=by simpa using ho
   simp only [okT,ho',Bool.not_false,Bool.true_and,Bool.and_eq_true,beq_iff_eq,List.contains_iff_mem]at hB
   obtain⟨⟨⟨hk,hr⟩,hf⟩,hB⟩:=hB
   simp only [OT.depth]at hd
   obtain⟨fuel,rfl⟩: ∃n,fuel=n+1:=⟨fuel - 1,by omega⟩
   obtain⟨fr0,h3,hh⟩:=eY h h3
   rcases hh with⟨hw,h⟩|⟨hw,h⟩
   ·rcases aWk hti h with⟨_,hd',hd0⟩|⟨hk',_⟩|⟨hk',_⟩
    ·obtain⟨v,s,q1,q2,q3⟩:=hd' E ρ a w hm h3
     obtain⟨fr',p1,p2⟩:=fJ q3 h1 h3 q2
     refine uZ ho' hsel (by omega) fuel _ listed a w trivial (Region.free_spec ho' hf) (λh0=>absurd hk h0) hr (v:=v) (.inl ⟨hw,λw' _=> ?_⟩) ((ih fuel _ fr' hp ρ _ w p1 hm (by rw [cE];exact h1) (by rw [put_defers];exact h2) p2).1 hB (by omega))
     exact hd0 hk ρ a w v h3 (q1 w (Kept.refl ρ hp w)) w'
    ·omega
    ·omega
   ·obtain⟨fr',p1,p2⟩:=fJ h h1 h3 (Rep.d _ undef (.lit undef))
    exact uZ ho' hsel (by omega) fuel _ listed a w trivial (Region.free_spec ho' hf) (λh0=>absurd hk h0) hr (v:=undef) (.inr ⟨hw,rfl⟩) ((ih fuel _ fr' hp ρ _ w p1 hm (by rw [cE];exact h1) (by rw [put_defers];exact h2) p2).1 hB (by omega))
  ·exact h.elim
 |alt i t r iht ihr=>
  intro fuel listed fr hp ρ a w h hm h1 h2 h3
  have key: ∀inn,okT all.toArray (.alt i t r) listed inn=true-> ∀n,(OT.alt i t r).depth<=n+1-> ∀j∈(OT.alt i t r).heads,aU0 C all (λa w=> ∃fr hp,K fr hp/\Sat E C.nt ⟨fr,hp⟩ a w) n listed a w j:=by
   intro inn hB n hd j hj
   simp only [okT,Bool.and_eq_true]at hB
   obtain⟨⟨⟨_,hsome⟩,hBt⟩,hBr⟩:=hB
   simp only [OT.depth]at hd
   simp only [tA]at h
   simp only [OT.heads,List.mem_cons]at hj
   rcases hj with rfl|hj
   ·have h:=h.1
    unfold aKe at h
    split at h
    ·rename_i o ho
     have ho':all.toArray[j]? =some o:=by simpa using ho
     unfold aU0
     simp only [ho']
     obtain⟨fr0,h3,hh⟩:=eY h h3
     rcases hh with⟨hw,h⟩|⟨hw,h⟩
     ·rw [if_pos hw]
      refine aYf hti h E ρ a w hpin hm h3 _ noX λv w' ρ' s hp' k1 k2 k3 k4=> ?_
      obtain⟨fr',p1,p2⟩:=fJ k1 h1 k3 k4
      have:=(iht n _ fr' hp' ρ' _ w' p1 k2 (by rw [cE];exact h1) (by rw [put_defers];exact h2) p2).1 hBt (by omega)
      split
      ·exact this
      ·exact⟨trivial,this⟩
     ·rw [if_neg (by rw [hw];decide)]
      obtain⟨fr',p1,p2⟩:=fJ h h1 h3 (Rep.d _ undef (.lit undef))
      exact(iht n _ fr' hp ρ _ w p1 hm (by rw [cE];exact h1) (by rw [put_defers];exact h2) p2).1 hBt (by omega)
    ·exact h.elim
   ·exact(ihr n listed fr hp ρ a w h.2 hm h1 h2 h3).2 true hBr (by omega) j hj
  refine⟨λhB hd=> ?_,λinn hB hd=>key inn hB fuel hd⟩
  have hd':=hd
  simp only [OT.depth]at hd'
  obtain⟨fuel,rfl⟩: ∃n,fuel=n+1:=⟨fuel - 1,by omega⟩
  have hc:=hB
  simp only [okT,Bool.false_or,Bool.and_eq_true,Bool.not_eq_true',List.all_eq_true,List.contains_iff_mem]at hc
  obtain⟨⟨⟨⟨hne,hcov⟩,_⟩,_⟩,_⟩:=hc
  refine⟨λh0=> ?_,λj hj=> ?_⟩
  ·rw [h0]at hne;cases hne
  ·exact key false hB fuel hd j (hcov j hj)
theorem aLf {C:Cfg}(hti:dX C.P C.ti) {id:Nat}{l:List Oper}{fr:Fr}{hp:Hp}{K:Ex->Fr->Hp->Prop}(T:OT) (hm:C.P.follows .mixedOrders=true)
  (hB:(decide (T.depth<=l.length) && Region.noSelect l.toArray && okT l.toArray T (Array.replicate l.length false) false && kQ l)=true) (h:tA C l (K .normal) T fr hp):aJ C (.region id l.toArray true) fr hp K:=by
 intro E a w hpin hrd ⟨h1,h2,ρ,h3,h4⟩
 simp only [Bool.and_eq_true,decide_eq_true_eq]at hB
 obtain⟨⟨⟨b1,b2⟩,b3⟩,hnd⟩:=hB
 refine fC hm hnd kK.noOut ?_
 obtain⟨m1,m2⟩:=h3.grow_same (Grew.drew w)
 have:=(aIh (C:=C) hti (E:=E) hpin b2 T l.length (Array.replicate l.length false) fr hp ρ a _ h m1 h1 h2 (m2 fr _ h4)).1 b3 b1
 have h5:=rR (Q:=kK C E K) _ _ _ _ _ (aS3 (Q':=kK C E K .normal) (λa w ⟨fr',hp',k1,k2⟩=>⟨.normal,fr',hp',E, .refl E,trivial,k1,k2⟩) _ _ _ _ _ this)
 have e:l.toArray.size=l.length:=by simp
 rw [e]
 exact h5
end
end Go.Proofs.YtbobcfjlbcgchaaGreatDoor
namespace Go.Proofs.YtbobcfjlbcgchaaGreatDoor
open Go.Proofs
mutual
def WkD:D->D->Prop
 | .nil, .sl _ rows=>rows=[]
 | .sl z rows, .sl z' rows'=>z=z'/\aUi rows rows'
 | .agg cs, .agg cs'=>aRy cs cs'
 |a,b=>a=b
def aRy:List D->List D->Prop
 | [],[]=>True
 |a::l,b::m=>WkD a b/\aRy l m
 |_,_=>False
def aUi:List (List D)->List (List D)->Prop
 | [],[]=>True
 |a::l,b::m=>aRy a b/\aUi l m
 |_,_=>False
end
theorem aBx: ∀(l m:List D),aRy l m->l.length=m.length/\ ∀(j:Nat) (x':D),m[j]? =some x'-> ∃x,l[j]? =some x/\WkD x x'
 | [],[],_=>⟨rfl,by simp⟩
 |a::l,b::m,h=>by
  simp only [aRy]at h
  obtain⟨i1,i2⟩:=aBx l m h.2
  refine⟨by simp [i1],λj x' hj=> ?_⟩
  cases j with
  |zero=>simp at hj;subst hj;exact⟨a,by simp,h.1⟩
  |succ j=>simp at hj;obtain⟨x,h1,h2⟩:=i2 j x' hj;exact⟨x,by simpa using h1,h2⟩
 | [],_::_,h=>by simp [aRy]at h
 |_::_,[],h=>by simp [aRy]at h
theorem aOg: ∀(l m:List (List D)),aUi l m->l.length=m.length/\ ∀(i:Nat) (row':List D),m[i]? =some row'-> ∃row,l[i]? =some row/\aRy row row'
 | [],[],_=>⟨rfl,by simp⟩
 |a::l,b::m,h=>by
  simp only [aUi]at h
  obtain⟨i1,i2⟩:=aOg l m h.2
  refine⟨by simp [i1],λj x' hj=> ?_⟩
  cases j with
  |zero=>simp at hj;subst hj;exact⟨a,by simp,h.1⟩
  |succ j=>simp at hj;obtain⟨x,h1,h2⟩:=i2 j x' hj;exact⟨x,by simpa using h1,h2⟩
 | [],_::_,h=>by simp [aUi]at h
 |_::_,[],h=>by simp [aUi]at h
theorem aI3 {w:World}{S:Nat->Nat->Prop}{a:D}{v:Value}(h:RepD w S a v): ∀b,WkD a b->RepD w S b v:=by
 induction h with
 |int k n=>
  intro b hb
  have:D.int k n=b:=by cases b<;>first|(simp [WkD]at hb;done)|simpa [WkD]using hb
  subst this
  exact .int k n
 |bool x=>
  intro b hb
  have:D.bool x=b:=by cases b<;>first|(simp [WkD]at hb;done)|simpa [WkD]using hb
  subst this
  exact .bool x
 |str l hl=>
  intro b hb
  have:D.str l=b:=by cases b<;>first|(simp [WkD]at hb;done)|simpa [WkD]using hb
  subst this
  exact .str l hl
 |lit u=>
  intro b hb
  have:D.lit u=b:=by cases b<;>first|(simp [WkD]at hb;done)|simpa [WkD]using hb
  subst this
  exact .lit u
 |nil=>
  intro b hb
  cases b with
  |sl z rows=>
   simp only [WkD]at hb
   subst hb
   exact .sl z [] none 0 0 0 (λ_=>undef) (by simp) (by simp) (by simp) (by simp) (by simp) (by simp)
  |nil=>exact .nil
  |_=>simp [WkD]at hb
 |sl z rows A cap b off f hz hn hc hA hcell hrep ih=>
  intro b' hb
  cases b' with
  |sl z' rows'=>
   simp only [WkD]at hb
   obtain⟨rfl,hb⟩:=hb
   obtain⟨e1,e2⟩:=aOg _ _ hb
   rw [e1]
   have key: ∀(i:Nat) (row':List D) (j:Nat) (x':D),rows'[i]? =some row'->row'[j]? =some x'-> ∃row x,rows[i]? =some row/\row[j]? =some x/\WkD x x':=by
    intro i row' j x' h1 h2
    obtain⟨row,r1,r2⟩:=e2 i row' h1
    obtain⟨_,r3⟩:=aBx _ _ r2
    obtain⟨x,x1,x2⟩:=r3 j x' h2
    exact⟨row,x,r1,x1,x2⟩
   refine .sl z rows' A cap b off f ?_ (by omega) hc ?_ ?_ ?_
   ·intro row' hr
    obtain⟨i,hi⟩:=List.mem_iff_getElem?.1 hr
    obtain⟨row,r1,r2⟩:=e2 i row' hi
    rw [<-(aBx _ _ r2).1]
    exact hz row (List.mem_of_getElem? r1)
   ·intro hne
    exact hA λe=>hne (by subst e;simp at e1;exact List.eq_nil_of_length_eq_zero e1.symm)
   ·intro i row' j x' h1 h2
    obtain⟨row,x,r1,r2,_⟩:=key i row' j x' h1 h2
    exact hcell i row j x r1 r2
   ·intro i row' j x' h1 h2
    obtain⟨row,x,r1,r2,r3⟩:=key i row' j x' h1 h2
    exact ih i row j x r1 r2 x' r3
  |_=>simp [WkD]at hb
 |agg cs vs hl h ih=>
  intro b hb
  cases b with
  |agg cs'=>
   simp only [WkD]at hb
   obtain⟨e1,e2⟩:=aBx _ _ hb
   refine .agg cs' vs (by omega) λj x' v h1 h2=> ?_
   obtain⟨x,x1,x2⟩:=e2 j x' h1
   exact ih j x v x1 h2 x' x2
  |_=>simp [WkD]at hb
def WkS:SV->SV->Prop
 | .d a, .d b=>WkD a b
 | .osl _ z rows, .d b=>WkD (.sl z rows) b
 |a,b=>a=b
def aUh:List SV->List SV->Prop
 | [],[]=>True
 |a::l,b::m=>WkS a b/\aUh l m
 |_,_=>False
theorem aW5 {w:World}{ρ:Env}{a b:SV}{v:Value}(h:WkS a b) (hr:Rep w ρ a v):Rep w ρ b v:=by
 unfold WkS at h
 split at h
 ·cases hr with
  |d x v h'=>exact .d _ _ (aI3 h' _ h)
 ·exact .d _ _ (aI3 hr.osl_inv.1 _ h)
 ·subst h;exact hr
theorem aOf: ∀(l m:List SV),aUh l m->l.length=m.length/\ ∀(j:Nat) (x':SV),m[j]? =some x'-> ∃x,l[j]? =some x/\WkS x x'
 | [],[],_=>⟨rfl,by simp⟩
 |a::l,b::m,h=>by
  simp only [aUh]at h
  obtain⟨i1,i2⟩:=aOf l m h.2
  refine⟨by simp [i1],λj x' hj=> ?_⟩
  cases j with
  |zero=>simp at hj;subst hj;exact⟨a,by simp,h.1⟩
  |succ j=>simp at hj;obtain⟨x,h1,h2⟩:=i2 j x' hj;exact⟨x,by simpa using h1,h2⟩
 | [],_::_,h=>by simp [aUh]at h
 |_::_,[],h=>by simp [aUh]at h
theorem Tri.res {P:Program}{f:FuncId}{asv:List SV}{hp:Hp}{post post':SV->Prop}(h:Tri P f asv hp post) (hw: ∀s,post s->post' s\/ ∃a b,s= .d a/\WkD a b/\post' (.d b)):Tri P f asv hp post':=
 λw ρ vs a b c=>(h w ρ vs a b c).mono λ_ _ ⟨v,S',s,h1,h2,h3,h4,h5,h6,h7⟩=>by
  rcases hw s h2 with hp'|⟨x,y,rfl,q,hp'⟩
  ·exact⟨v,S',s,h1,hp',h3,h4,h5,h6,h7⟩
  ·cases h7 with
   |d _ _ h7=>exact⟨v,S', .d y,h1,hp',h3,h4,h5,h6, .d _ _ (aI3 h7 _ q)⟩
end Go.Proofs.YtbobcfjlbcgchaaGreatDoor
namespace Go.Proofs.YtbobcfjlbcgchaaGreatDoor
open Go.RowKit
section
variable {P:Program}
def Env.upd3 (ρ:Env) (id:Nat) (b:Option Nat) (n:Nat) (v:Value):Env:=
 { S:=ρ.S,blk:= λi=>if i=id then b else ρ.blk i,n:= λi=>if i=id then n else ρ.n i,tv:= λi=>if i=id then v else ρ.tv i }
theorem Env.moved_upd3 (ρ:Env) {id n:Nat}{b:Option Nat}{v:Value}{i:Nat}(h:i≠id):ρ.moved (ρ.upd3 id b n v) i:=by
 refine⟨by simp [Env.upd3,h], .inl (by simp [Env.upd3,h])⟩
theorem Env.upd3_at (ρ:Env) {id n i:Nat}{b:Option Nat}{v:Value}{x:HObj}(h:i≠id):(ρ.upd3 id b n v).at i x=ρ.at i x:=by
 cases x<;>simp [Env.at,Env.upd3,h]
def aY2 (E:Entry) (ρ:Env) (hp:Hp) (g:Nat):Prop:=
 (∀i o,aN hp i=some o->ρ.at i o≠some g)/\(∀i o,aN hp i=some o->o.Rd->ρ.blk i≠some g)/\(E.w.heap.size<=g\/E.B g)
theorem Mem.free_new {E:Entry}{ρ:Env}{hp:Hp}{w:World}(h:Mem E ρ hp w) {g:Nat}(hg:w.heap.size<=g):aY2 E ρ hp g:=by
 refine⟨λi o ho he=> ?_,λi o ho hrd he=> ?_, ?_⟩
 ·have:=h.blk_lt ho he;omega
 ·have:=h.ro_lt ho hrd he;omega
 ·have:=h.size;left;omega
theorem Mem.free_del {E:Entry}{ρ:Env}{hp hp':Hp}{w:World}(h:Mem E ρ hp w) {id g:Nat}{o:HObj}(ho:aN hp id=some o) (hg:ρ.at id o=some g) (hs:jK hp' hp) (hn:aN hp' id=none):aY2 E ρ hp' g:=by
 refine⟨λi x hx he=> ?_,λi x hx hrd he=> ?_,h.hb id o g ho hg⟩
 ·have:=h.inj i x id o g (iD _ _ hs i x hx) ho he hg
  subst this
  rw [hn]at hx;cases hx
 ·exact h.ro i x g (iD _ _ hs i _ hx) hrd he id o ho hg
theorem aAp {id:Nat}: ∀{hp' hp:Hp},jK hp' hp->id∉fG hp->id∉fG hp'
 | [],_,_,_=>by simp [fG]
 |(k,o)::r,hp,hs,hn=>by
  obtain⟨h1,h2⟩:=hs
  have ih:=aAp h2 hn
  intro hm
  simp only [fG,List.flatMap_cons,List.mem_append,List.mem_cons]at hm
  rcases hm with(hm|hm)|hm
  ·exact hn (bJ h1 (.inl hm))
  ·exact hn (bJ h1 (.inr hm))
  ·exact ih hm
theorem Mem.newObj {E:Entry}{ρ:Env}{hp:Hp}{w w':World}(h:Mem E ρ hp w) {id n:Nat}{b:Option Nat}{v:Value}{o:HObj}(hid:id∉fG hp) (hpin:id∉E.pin) (hg:Grew w w') (hro:¬ o.Rd)
  (hs:aC1 w' (ρ.upd3 id b n v) id o) (hf: ∀g,(ρ.upd3 id b n v).at id o=some g->aY2 E ρ hp g):
  Mem E (ρ.upd3 id b n v) ((id,o)::hp) w'/\cD ρ.S w w'/\ ∀i,i≠id->ρ.moved (ρ.upd3 id b n v) i:=by
 have hk:cD ρ.S w w':=hg.keeps h.slt
 have hmv: ∀i,i≠id->ρ.moved (ρ.upd3 id b n v) i:= λi hi=>ρ.moved_upd3 hi
 have hget: ∀i x,aN ((id,o)::hp) i=some x->(i=id/\x=o)\/(i≠id/\aN hp i=some x):=by
  intro i x hx
  by_cases e:i=id
  ·subst e;simp [aN]at hx;exact .inl ⟨rfl,hx.symm⟩
  ·rw [cK (λh=>e h.symm)]at hx;exact .inr ⟨e,hx⟩
 refine⟨⟨hg.os.trans h.os,hg.tape.trans h.tape,hg.output.trans h.output,Nat.le_trans h.size hg.size, ?_,h.sold,h.snew,λb i hs=>Nat.lt_of_lt_of_le (h.slt b i hs) hg.size,h.kp.trans h.sold hk, ?_, ?_, ?_, ?_, ?_,λb hb=>(hg.block b (aV (h.md b hb))).trans (h.md b hb)⟩,hk,hmv⟩
 ·exact λb hb hB=>(hg.block b (Nat.lt_of_lt_of_le hb h.size)).trans (h.old b hb hB)
 ·intro i x hx
  rcases hget i x hx with⟨rfl,rfl⟩|⟨e1,hx1⟩
  ·exact hs
  ·refine(h.sat i x hx1).keep hk (λ_ _ x=>x) ?_ (by simp [Env.upd3,e1]) ?_ (λ_ _ _ x=>x)
   ·rintro j hj
    exact hmv j λe'=>hid (e' ▸ bJ hx1 hj)
   ·rintro g (hg'|⟨hg',hrd⟩)
    ·exact hg.block g (h.blk_lt hx1 hg')
    ·exact hg.block g (h.ro_lt hx1 hrd hg')
 ·intro i x i' x' g hx hx' hg1 hg2
  rcases hget i x hx with⟨e1,rfl⟩|⟨e1,hx1⟩
  ·rcases hget i' x' hx' with⟨e2,rfl⟩|⟨e2,hx2⟩
   ·rw [e1,e2]
   ·subst e1
    rw [ρ.upd3_at e2]at hg2
    exact absurd hg2 ((hf g hg1).1 i' x' hx2)
  ·rcases hget i' x' hx' with⟨e2,rfl⟩|⟨e2,hx2⟩
   ·subst e2
    rw [ρ.upd3_at e1]at hg1
    exact absurd hg1 ((hf g hg2).1 i x hx1)
   ·rw [ρ.upd3_at e1]at hg1
    rw [ρ.upd3_at e2]at hg2
    exact h.inj i x i' x' g hx1 hx2 hg1 hg2
 ·intro i x g hx hg1
  rcases hget i x hx with⟨e1,rfl⟩|⟨e1,hx1⟩
  ·subst e1
   exact(hf g hg1).2.2
  ·rw [ρ.upd3_at e1]at hg1
   exact h.hb i x g hx1 hg1
 ·exact λi hi=>Env.moved_trans (h.mv i hi) (hmv i λe=>hpin (e ▸ hi))
 ·intro i oR g hx hrd hg1 i' x' hx' hg2
  rcases hget i _ hx with⟨_,hc⟩|⟨e1,hx1⟩
  ·exact(hro (hc ▸ hrd)).elim
  ·have hg1':ρ.blk i=some g:=by simpa [Env.upd3,e1]using hg1
   rcases hget i' x' hx' with⟨e2,rfl⟩|⟨e2,hx2⟩
   ·subst e2
    exact(hf g hg2).2.1 i _ hx1 hrd hg1'
   ·rw [ρ.upd3_at e2]at hg2
    exact h.ro i _ g hx1 hrd hg1' i' x' hx2 hg2
theorem Mem.setExt {E:Entry}{ρ:Env}{hp:Hp}{w w':World}(h:Mem E ρ hp w) {id g:Nat}{X X':ExtO}(ho:aN hp id=some (.ext X)) (hg:ρ.blk id=some g)
  (hos:w'.os=w.os) (htape:w'.tape=w.tape) (hout:aKg w' w) (hsz:w.heap.size<=w'.heap.size) (hoth: ∀b,b < w.heap.size->b≠g->w'.heap[b]? =w.heap[b]?)
  {o':Obj} (ho':w'.heap[g]? =some o') (hs:X'.sat w' ρ o'):Mem E ρ (dU hp id (.ext X')) w'/\cD ρ.S w w':=by
 obtain⟨g',x,h1,h2,h3,h4⟩:=h.sat id _ ho
 rw [hg]at h1
 injection h1 with h1
 subst h1
 have hatg:ρ.at id (.ext X)=some g:=hg
 have hk:cD ρ.S w w':= λb i hs=>World.cell?_of_block (w:=w) (hoth b (h.slt b i hs) λe=>h4 i (e ▸ hs))
 have hget: ∀j y,aN (dU hp id (.ext X')) j=some y->(j=id/\y= .ext X')\/(j≠id/\aN hp j=some y):=by
  intro j y hj
  rw [bD _ ho]at hj
  by_cases e1:j=id
  ·simp [e1]at hj;exact .inl ⟨e1,hj.symm⟩
  ·simp [e1]at hj;exact .inr ⟨e1,hj⟩
 have hne: ∀j y b,j≠id->aN hp j=some y->ρ.at j y=some b->b≠g:= λj y b hj hjo hb e=>hj (h.inj j y id _ b hjo ho hb (by rw [hatg,e]))
 refine⟨⟨hos.trans h.os,htape.trans h.tape,hout.trans h.output,Nat.le_trans h.size hsz, ?_,h.sold,h.snew,λb i hs=>Nat.lt_of_lt_of_le (h.slt b i hs) hsz,h.kp.trans h.sold hk, ?_, ?_, ?_,h.mv, ?_, ?_⟩,hk⟩
 ·intro b hb hB
  rw [hoth b (Nat.lt_of_lt_of_le hb h.size) ?_]
  ·exact h.old b hb hB
  ·rintro rfl
   rcases h.hb id _ b ho hatg with hge|hB'
   ·omega
   ·exact hB hB'
 ·intro j y hj
  rcases hget j y hj with⟨rfl,rfl⟩|⟨e1,hj⟩
  ·exact⟨g,o',hg,ho',hs,h4⟩
  ·refine(h.sat j y hj).keep hk (λ_ _ x=>x) (λa _=>ρ.moved_refl a) ⟨rfl,rfl⟩ ?_ (λ_ _ _ x=>x)
   rintro b (hb|⟨hb,hrd⟩)
   ·exact hoth b (h.blk_lt hj hb) (hne j y b e1 hj hb)
   ·exact hoth b (h.ro_lt hj hrd hb) λe=>h.ro j _ b hj hrd hb id _ ho (by rw [hatg,e])
 ·intro j y j' y' b hj hj' hb hb'
  rcases hget j y hj with⟨e1,rfl⟩|⟨e1,hj1⟩
  ·rcases hget j' y' hj' with⟨e2,rfl⟩|⟨e2,hj2⟩
   ·rw [e1,e2]
   ·subst e1
    exact h.inj j (.ext X) j' y' b ho hj2 hb hb'
  ·rcases hget j' y' hj' with⟨e2,rfl⟩|⟨e2,hj2⟩
   ·subst e2
    exact h.inj j y j' (.ext X) b hj1 ho hb hb'
   ·exact h.inj j y j' y' b hj1 hj2 hb hb'
 ·intro j y b hj hb
  rcases hget j y hj with⟨e1,rfl⟩|⟨e1,hj1⟩
  ·subst e1
   exact h.hb j (.ext X) b ho hb
  ·exact h.hb j y b hj1 hb
 ·intro j oR b hj hrd hb j' y' hj' hb'
  rcases hget j _ hj with⟨_,hc⟩|⟨e1,hj1⟩
  ·rw [hc]at hrd;exact hrd.elim
  ·rcases hget j' y' hj' with⟨e2,rfl⟩|⟨e2,hj2⟩
   ·subst e2
    exact h.ro j _ b hj1 hrd hb j' (.ext X) ho hb'
   ·exact h.ro j _ b hj1 hrd hb j' y' hj2 hb'
 ·intro b hb
  refine(hoth b (aV (h.md b hb)) ?_).trans (h.md b hb)
  rintro rfl
  rw [h.md b hb]at h2
  cases h2
  exact X.nd _ _ _ h3
def flatK (rows:List (List D)):Nat->Option D:= λk=>rows.flatten[k]?
end
end Go.Proofs.YtbobcfjlbcgchaaGreatDoor
