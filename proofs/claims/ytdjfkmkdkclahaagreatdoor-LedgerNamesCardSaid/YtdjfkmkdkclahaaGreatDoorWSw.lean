/-
  Contracts at arguments of which more is known. A range over a function: the statement, and a round of it. The rules of the walk at this program. The library's functions on strings: contracts. The walk through Keyword. Names: the walks through the functions that tell which strings are names. Scopes through which no goto goes, in the round.
  Conditions: none.
-/
import Derived.Test.YtdjfkmkdkclahaaGreatDoorWSs
import Derived.RangeFuncNested
import Derived.Test.YtdjfkmkdkclahaaGreatDoorWTy
import Derived.Lib.Strings
import Derived.Lib.Slices
import Derived.Lib.Walk
import Derived.Lib.Bytealg
import Derived.RangeFuncBound
set_option linter.unnecessarySimpa false
set_option linter.unusedSectionVars false
set_option linter.unusedSimpArgs false
set_option linter.unusedVariables false
set_option maxHeartbeats 2000000
namespace Go.Proofs.YtdjfkmkdkclahaaGreatDoor
section
open Go.RowKit
section
variable {P:Program}
def WkL:List SV->List SV->Prop
 | [],[]=>True
 |a::l,b::m=>Wk a b/\WkL l m
 |_,_=>False
theorem aO0 {w:World}{ρ:Env}: ∀{asv bs:List SV}{vs:Array Value},WkL asv bs->bU w ρ asv vs->bU w ρ bs vs:=by
 have key: ∀(asv bs:List SV),WkL asv bs->asv.length=bs.length/\ ∀(j:Nat) (b:SV),bs[j]? =some b-> ∃a,asv[j]? =some a/\Wk a b:=by
  intro asv
  induction asv with
  |nil=>
   intro bs h
   cases bs with
   |nil=>exact⟨rfl,by simp⟩
   |cons=>exact h.elim
  |cons a l ih=>
   intro bs h
   cases bs with
   |nil=>exact h.elim
   |cons b m=>
    obtain⟨h1,h2⟩:=h
    obtain⟨i1,i2⟩:=ih m h2
    refine⟨by simp [i1],λj x hx=> ?_⟩
    cases j with
    |zero=>simp at hx;subst hx;exact⟨a,by simp,h1⟩
    |succ j=>simp at hx;obtain⟨y,y1,y2⟩:=i2 j x hx;exact⟨y,by simpa using y1,y2⟩
 intro asv bs vs h hr
 obtain⟨k1,k2⟩:=key asv bs h
 refine⟨hr.1.trans k1,λj b v hb hv=> ?_⟩
 obtain⟨a,a1,a2⟩:=k2 j b hb
 exact aNy a2 (hr.2 j a v a1 hv)
theorem Tri.weak {f:FuncId}{asv bs:List SV}{hp:Hp}{post:SV->Prop}(h:Tri P f bs hp post) (hw:WkL asv bs):Tri P f asv hp post:=
 λw ρ vs a b c=>h w ρ vs a (aO0 hw b) c
end
end
section
open Go.RowKit
section
variable {P:Program}
theorem aH.mownH {C:Cfg}{c:Code}{fr:Fr}{hp:Hp}{K:Ex->Fr->Hp->Prop}(i id t e z:Nat) (hnil:aM hp i=some (.cells t [.d .nil])) (hfr:fA id C.pin fr hp)
  (h:aH C c fr ((id, .mrow e z 0 [])::dQ hp i (.cells t [.mw id z 0])) K):aH C c fr hp K:=by
 intro E a w hpin hrd hsat
 obtain⟨h1,h2,ρ,h3,h4⟩:=hsat
 obtain⟨f1,f2,f3⟩:=hfr
 obtain⟨m1,m2,m3⟩:=h3.newMrow (id:=id) (e:=e) (z:=z) (cap:=0) (rows:=[]) (v:= .slice none 0 0) f3 (by rw [hpin];exact f1) (Grew.refl w) (.inl ⟨rfl,rfl,none,rfl⟩) (λg hg=>by simp [dM]at hg)
 have hne:i≠id:= λe=>f3 (by subst e;exact bA hnil (.inl rfl))
 have hi':aM ((id,HObj.mrow e z 0 [])::hp) i=some (.cells t [.d .nil]):=by
  simp only [aM];rw [if_neg (Ne.symm hne)];exact hnil
 have m4 := m1.recell hi' (cs' := [.mw id z 0]) rfl (λj s' v hs' hv => by
  cases j with
  |zero=>
   simp at hs'
   subst hs'
   have:=(hv _ rfl).nil_inv
   subst this
   exact .mw id z 0 0 none (by simp) (by simp) (λh=>absurd rfl h) (by simp) (by simp [Env.retop])
  |succ j=>simp at hs')
 have e2:dQ ((id,HObj.mrow e z 0 [])::hp) i (.cells t [.mw id z 0])=(id, .mrow e z 0 [])::dQ hp i (.cells t [.mw id z 0]):=by
  simp only [dQ];rw [if_neg (Ne.symm hne)]
 rw [e2]at m4
 exact h E a w hpin hrd ⟨h1,h2,_,m4,h4.mono (ρ':=ρ.retop id 0 (.slice none 0 0)) m2 (λ_ _ x=>x) λj hj=>m3 j λe=>f2 (e ▸ hj)⟩
end
end
section
open Go.Proofs
set_option maxRecDepth 100000
theorem dwR {pin:Pin}{nt:Nat}{keep:Nat->Bool}{off:Nat}{rd:Option Nat}{zc:Bool}{frz:List Nat}{id:Nat}{l:List Oper}{fr:Fr}{hp:Hp}{K:Ex->Fr->Hp->Prop}(h:tT ⟨Tryz.prog,ty,pin,nt,keep,off,rd,zc,frz⟩ l (K .normal) l fr hp) (hm:(Tryz.prog).follows .mixedOrders=true:=by kernel_rfl) (hB:(Region.lexB .any l.toArray && eZ l)=true:=by kernel_rfl):aH ⟨Tryz.prog,ty,pin,nt,keep,off,rd,zc,frz⟩ (.region id l.toArray true) fr hp K:=aGd hty hm hB h
end
section
open Go.Proofs
section
variable {P:Program}
theorem wX {f:FuncId}{args:List SV}{vs:Array Value}{r:D}{v:Value}(hv: ∀(w:World) (ρ:Env) (us:Array Value),bU w ρ args us->us=vs) (hr: ∀(w:World) (S:Nat->Nat->Prop),RepD w S r v)
  (h: ∀w,Calls P f vs w λe w'=>e= .returned v/\w'=w):Tri P f args [] (λs=>s= .d r):=by
 intro w ρ us hs ha _
 rw [hv w ρ us ha]
 refine(h w).mono ?_
 rintro e w' ⟨rfl,rfl⟩
 exact⟨v,ρ.S, .d r,rfl,rfl,Grew.refl _,λ_ _ h=>h,λ_ _ h=> .inl h,hs, .d _ _ (hr _ _)⟩
theorem aPd {w:World}{ρ:Env}{a b:SV}{us:Array Value}(h:bU w ρ [a,b] us): ∃x y,us= #[x,y]/\Rep w ρ a x/\Rep w ρ b y:=by
 obtain⟨h1,h2⟩:=h
 match us,h1 with
 |⟨[x,y]⟩,_=>exact⟨x,y,rfl,h2 0 a x rfl rfl,h2 1 b y rfl rfl⟩
end
set_option maxRecDepth 100000 in
theorem rA (s:ByteArray) (c:Int) (w:World):
  Calls Tryz.prog 201 #[.string s, .int .u8 c] w λe w'=>e= .returned (.int .i64 (Lib.indexByte s.data.toList c.toNat.toUInt8))/\w'=w:=by
 go_enter Tryz.func201,Tryz.ntmps201
 go_wp2
 rw [run_callFunc_extern Tryz.func224 (by kernel_rfl) (by kernel_rfl) (by kernel_rfl) (e:=Extern.BytealgIndexByte.indexByte) (by kernel_rfl),Lib.run_indexByteString]
 simp only [Result.andThen]
 rw [Oper.upon_value]
 go_wp2
 go_ret
 exact⟨rfl,rfl⟩
set_option maxRecDepth 10000
attribute [local irreducible] aH aF Tri aD
theorem kF (l:List UInt8) (c:UInt8):Tri Tryz.prog 201 [.d (.str l), .d (.int .u8 c.toNat)] [] (λs=>s= .d (.int .i64 (Lib.indexByte l c))):=by
 refine wX (vs:= #[.string ⟨l.toArray⟩, .int .u8 c.toNat]) (v:= .int .i64 (Lib.indexByte l c)) ?_ (λ_ _=> .int _ _) (λw=> ?_)
 ·intro w ρ us h
  obtain⟨x,y,rfl,h1,h2⟩:=aPd h
  rw [h1.str_inv.1,h2.int_inv]
 ·have:=rA ⟨l.toArray⟩ c.toNat w
  simpa using this
theorem iI (l:List UInt8) (c:UInt8):Tri Tryz.prog 161 [.d (.str l), .d (.str [c])] [] (λs=>s= .d (.int .i64 (Lib.indexByte l c))):=by
 refine qG [] hty Tryz.func161 [0,1,4,5,6,7,8,9,10,11,12,13,16,24,31,36,59,64,73,93,107,114,132,139] ?_
 ((conv=>whnf);repeat' ((first|(intro hq;(try simp only [lnS]at hq);(try rewrite [List.length_map]))|refine sJ ?_|refine qE_ ?_|refine exL (k:=?_)| refine qT (kF l _) ?_|refine dwR ?_|((first|refine aB ?_ ?_|refine aC ?_ ?_)<;>intro hb<;>(first|exact ddX hb|try simp only [lnS]at hb))|(refine aA ?_ ?_<;>intro hb<;>try exact dsX hb))<;>(conv=>whnf)))
 ·subst hb;simp [Lib.indexByte,bY]
 ·rfl
theorem aJ {a b:Bool}(h:a=b):SV.d (.bool a)=SV.d (.bool b):=by rw [h]
theorem vR (p l:List UInt8) (_:p.length<=l.length):decide (l.take p.length=p)=p.isPrefixOf l:=by
 rw [Bool.eq_iff_iff,decide_eq_true_eq,List.isPrefixOf_iff_prefix]
 constructor
 ·intro e;rw [<-e];exact List.take_prefix ..
 ·intro e;exact(List.prefix_iff_eq_take.1 e).symm
theorem rC (l p:List UInt8):Tri Tryz.prog 108 [.d (.str l), .d (.str p)] [] (λs=>s= .d (.bool (p.isPrefixOf l))):=by
 refine qG [] hty Tryz.func108 [0,1,4] ?_
 ((conv=>whnf);repeat' ((first|(intro hq;(try simp only [lnS]at hq);(try rewrite [List.length_map]))|refine sJ ?_|refine qE_ ?_|refine exL (k:=?_)|refine dwR ?_|((first|refine aB ?_ ?_|refine aC ?_ ?_)<;>intro hb<;>(first|exact ddX hb|try simp only [lnS]at hb))|(refine aA ?_ ?_<;>intro hb<;>try exact dsX hb))<;>(conv=>whnf)))
 ·exact aJ (vR p l (by omega))
 ·refine aJ (Eq.symm ?_)
  rw [Bool.eq_false_iff]
  intro h
  have:=(List.isPrefixOf_iff_prefix.1 h).length_le
  omega
theorem gD (l p:List UInt8):Tri Tryz.prog 71 [.d (.str l), .d (.str p)] [] (λs=>s= .d (.bool (p.isPrefixOf l))):=by
 refine qG [] hty Tryz.func71 [0,1,4] ?_
 ((conv=>whnf);repeat ((first |(intro hq;try simp only [lnS]at hq)|refine sI ?_|refine qE_ ?_);conv=>whnf))
 refine bP [] (rC l p) trivial (λs hs=> ?_)
 subst hs
 ((conv=>whnf);repeat ((first |(intro hq;try simp only [lnS]at hq)|refine sI ?_|refine qE_ ?_);conv=>whnf))
 rfl
theorem aAj (l:List UInt8) (c:UInt8):Tri Tryz.prog 107 [.d (.str l), .d (.str [c])] [] (λs=>s= .d (.int .i64 (Lib.indexByte l c))):=by
 refine qG [] hty Tryz.func107 [0,1,4] ?_
 ((conv=>whnf);repeat ((first |(intro hq;try simp only [lnS]at hq)|refine sI ?_|refine qE_ ?_);conv=>whnf))
 refine bP [] (iI l c) trivial (λs hs=> ?_)
 subst hs
 ((conv=>whnf);repeat ((first |(intro hq;try simp only [lnS]at hq)|refine sI ?_|refine qE_ ?_);conv=>whnf))
 rfl
theorem sZ (l:List UInt8) (c:UInt8):Tri Tryz.prog 70 [.d (.str l), .d (.str [c])] [] (λs=>s= .d (.bool (decide (0<=Lib.indexByte l c)))):=by
 refine qG [] hty Tryz.func70 [0,1,4] ?_
 ((conv=>whnf);repeat ((first |(intro hq;try simp only [lnS]at hq)|refine sI ?_|refine qE_ ?_);conv=>whnf))
 refine bP [] (aAj l c) trivial (λs hs=> ?_)
 subst hs
 ((conv=>whnf);repeat ((first |(intro hq;try simp only [lnS]at hq)|refine sI ?_|refine qE_ ?_);conv=>whnf))
 rfl
theorem nA: ∀(l:List UInt8) (c:UInt8),Lib.indexByte l c < l.length
 | [],_=>by simp [Lib.indexByte]
 |b::l,c=>by
  have:=nA l c
  unfold Lib.indexByte
  simp only [List.length_cons]
  split
  ·omega
  ·split<;>omega
def aJ5 (l:List UInt8) (c:UInt8):List UInt8×List UInt8×Bool:=
 if 0<=Lib.indexByte l c then (l.take (Lib.indexByte l c).toNat,l.drop ((Lib.indexByte l c).toNat+1),true)else (l,[],false)
def aP6 (r:List UInt8×List UInt8×Bool):SV:= .tup [.d (.str r.1), .d (.str r.2.1), .d (.bool r.2.2)]
theorem uY (l:List UInt8) (c:UInt8):Tri Tryz.prog 198 [.d (.str l), .d (.str [c])] [] (λs=>s=aP6 (aJ5 l c)):=by
 refine Tri.lenS 0 rfl (λhl=> ?_)
 refine qG [] hty Tryz.func198 [0,1,4,5,6,7,12] ?_
 ((conv=>whnf);repeat ((first |(intro hq;try simp only [lnS]at hq)|refine sI ?_|refine qE_ ?_);conv=>whnf))
 refine bP [] (iI l c) trivial (λs hs=> ?_)
 subst hs
 have hlt:=nA l c
 generalize hi:Lib.indexByte l c=i at hlt |-
 ((conv=>whnf);repeat' ((first|(intro hq;(try simp only [lnS]at hq);(try rewrite [List.length_map]))|refine sJ ?_|refine qE_ ?_|refine exL (k:=?_)|refine dwR ?_|((first|refine aB ?_ ?_|refine aC ?_ ?_)<;>intro hb<;>(first|exact ddX hb|try simp only [lnS]at hb))|(refine aA ?_ ?_<;>intro hb<;>try exact dsX hb))<;>(conv=>whnf)))
 ·rw [aJ5,hi,if_pos hb]
  obtain⟨n,rfl⟩:=Int.eq_ofNat_of_zero_le hb
  simp only [aP6,bY,List.drop_zero,Int.toNat_natCast,List.length_cons,List.length_nil,List.take_length]
  rfl
 ·rw [aJ5,hi,if_neg hb];rfl
theorem aJ4 (l:List UInt8) (c:UInt8):Tri Tryz.prog 158 [.d (.str l), .d (.str [c])] [] (λs=>s=aP6 (aJ5 l c)):=by
 refine qG [] hty Tryz.func158 [0,1,4,5,6] ?_
 ((conv=>whnf);repeat ((first |(intro hq;try simp only [lnS]at hq)|refine sI ?_|refine qE_ ?_);conv=>whnf))
 refine bP [] (uY l c) trivial (λs hs=> ?_)
 subst hs
 ((conv=>whnf);repeat ((first |(intro hq;try simp only [lnS]at hq)|refine sI ?_|refine qE_ ?_);conv=>whnf))
 rfl
end
section
open Go.Proofs
set_option maxRecDepth 10000
attribute [local irreducible] aH aF Tri aD
def kws : List (List UInt8) := [[97, 110, 100],
 [115,111,109,101],
 [105,110],
 [116,111],
 [110,111,116,104,105,110,103],
 [101,118,101,114,121,116,104,105,110,103],
 [111,110,101],
 [111,102],
 [111,112,101,110],
 [112,114,105,118,97,116,101],
 [115,117,98],
 [115,97,109,101],
 [100,105,115,106,111,105,110,116],
 [100,111,109,97,105,110],
 [114,111,108,101],
 [99,104,97,105,110],
 [114,101,102,108,101,120,105,118,101],
 [116,121,112,101],
 [108,105,110,107],
 [115,101,108,101,99,116],
 [119,104,101,114,101],
 [111,114]]
def kwF (s:List UInt8):Bool:=decide (s∈kws)
theorem yI (s:List UInt8):Tri Tryz.prog 200 [.d (.str s)] [] (λr=>r= .d (.bool (kwF s))):=by
 refine qG [] hty Tryz.func200 [0,2,3,4] ?_
 ((conv=>whnf);repeat' ((first|(intro hq;try simp only [lnS]at hq)|refine sJ ?_|refine qE_ ?_|refine exL (k:=?_)|refine dwR ?_|((first|refine aB ?_ ?_|refine aC ?_ ?_)<;>intro hb<;>(first|exact ddX hb|try simp only [lnS]at hb))|(refine aA ?_ ?_<;>intro hb<;>try exact dsX hb))<;>(conv=>whnf)))
 all_goals first|(rename_i hb;subst hb;rfl)|skip
 have:kwF s=false:=by simp [kwF,kws, *]
 rw [this];rfl
end
section
open Go.Proofs
set_option maxRecDepth 10000
attribute [local irreducible] aH aF Tri aD
def kJ (c:UInt8):Bool:=decide (97<=c.toNat/\c.toNat<=122) || decide (65<=c.toNat/\c.toNat<=90)
def bX (c:UInt8):Bool:=kJ c || decide (c.toNat=95) || decide (48<=c.toNat/\c.toNat<=57)
def aDn (c:UInt8):SV:= .d (.int .u8 c.toNat)
def bsv (l:List UInt8):D:= .sl 1 (l.map bB)
theorem lJ (c:UInt8):Tri Tryz.prog 199 [aDn c] [] (λr=>r= .d (.bool (kJ c))):=by
 refine qG [] hty Tryz.func199 [0,2] ?_
 ((conv=>whnf);repeat' ((first|(intro hq;(try simp only [lnS]at hq);(try rewrite [List.length_map]))|refine sJ ?_|refine qE_ ?_|refine exL (k:=?_)|refine dwR ?_|((first|refine aB ?_ ?_|refine aC ?_ ?_)<;>intro hb<;>(first|exact ddX hb|try simp only [lnS]at hb))|(refine aA ?_ ?_<;>intro hb<;>try exact dsX hb))<;>(conv=>whnf)))
 all_goals (refine aJ (Bool.eq_iff_iff.2 ?_);simp only [kJ,Bool.or_eq_true,decide_eq_true_eq,true_iff,false_iff,Bool.false_eq_true];omega)
theorem lT {α:Type}{p:α->Bool}{l:List α}{k:Nat}(h:k < l.length) (hp:p l[k]=false):l.all p=false:=by
 rw [List.all_eq_false]
 exact⟨l[k],List.getElem_mem h,by simp [hp]⟩
theorem jT {α:Type}{p:α->Bool}{l:List α}{k:Nat}(h:k < l.length) (hk:(l.take k).all p=true) (hp:p l[k]=true):(l.take (k+1)).all p=true:=by
 rw [List.take_succ_eq_append_getElem h,List.all_append,hk];simp [hp]
theorem qV (s:List UInt8):Tri Tryz.prog 160 [.d (.str s)] [] (λr=>r= .d (.bool (s.all bX))):=by
 refine qG [] hty Tryz.func160 [0,2,4,6,7,8,9,26] ?_
 ((conv=>whnf);repeat ((first |(intro hq;try simp only [lnS]at hq)|refine sI ?_|refine qE_ ?_);conv=>whnf))
 refine aG hty (λk:Nat=>([(6, .d (bsv s)),(7, .d (.int .i64 s.length)),(8, .d (.int .i64 k))],[])) (λk=>k<=s.length/\(s.take k).all bX=true) (λk=>s.length - k) 0 (by simp) ⟨by repeat' (first|exact trivial|exact rfl|(rw [List.length_map];exact rfl)|refine And.intro ?_ ?_),trivial⟩ ?_
 rintro k ⟨hk,hk2⟩
 ((conv=>whnf);repeat' ((first|(intro hq;(try simp only [lnS]at hq);(try rewrite [List.length_map]))|refine sJ ?_|refine qE_ ?_|refine exL (k:=?_)| (refine⟨_,kT (by first|omega|(simp only [List.length_map];omega)), ?_⟩)|refine qT (lJ _) ?_|refine dwR ?_|((first|refine aB ?_ ?_|refine aC ?_ ?_)<;>intro hb<;>(first|exact ddX hb|try simp only [lnS]at hb))|(refine aA ?_ ?_<;>intro hb<;>try exact dsX hb))<;>(conv=>whnf)))
 ·rename_i h0 h1 h2
  have hkl:k < s.length:=by omega
  have ht:bX s[(k:Int).toNat]=false:=by
   simp only [Bool.not_eq_true']at h1
   simp only [bX,h1,Bool.false_or,Bool.or_eq_false_iff,decide_eq_false_iff_not];omega
  rw [lT (k:=k) hkl ht];rfl
 ·rename_i h0 h1 h2 h3
  have hkl:k < s.length:=by omega
  have ht:bX s[(k:Int).toNat]=false:=by
   simp only [Bool.not_eq_true']at h1
   simp only [bX,h1,Bool.false_or,Bool.or_eq_false_iff,decide_eq_false_iff_not];omega
  rw [lT (k:=k) hkl ht];rfl
 ·have hkl:k < s.length:=by omega
  have ht:bX s[(k:Int).toNat]=true:=by
   simp only [bX,Bool.or_eq_true,decide_eq_true_eq];right;omega
  exact⟨k+1,⟨by omega,jT hkl hk2 ht⟩,qO,⟨qB,qB⟩⟩
 ·have hkl:k < s.length:=by omega
  have ht:bX s[(k:Int).toNat]=true:=by
   simp only [bX,Bool.or_eq_true,decide_eq_true_eq];left;right;omega
  exact⟨k+1,⟨by omega,jT hkl hk2 ht⟩,qO,⟨qB,qB⟩⟩
 ·have hkl:k < s.length:=by omega
  have ht:bX s[(k:Int).toNat]=true:=by
   simp only [bX,Bool.or_eq_true];left;left;simpa using hb
  exact⟨k+1,⟨by omega,jT hkl hk2 ht⟩,qO,⟨qB,qB⟩⟩
 ·rw [List.take_of_length_le (by omega)]at hk2
  rw [hk2];rfl
def nH (s:List UInt8):Bool:=match s with| []=>false|c::r=>kJ c && ((c::r).all bX && !kwF (c::r))
theorem aAg (s:List UInt8):Tri Tryz.prog 159 [.d (.str s)] [] (λr=>r= .d (.bool (nH s))):=by
 cases s with
 |nil=>
  refine qG [] hty Tryz.func159 [0,2] ?_
  ((conv=>whnf);repeat' ((first|(intro hq;(try simp only [lnS]at hq);(try rewrite [List.length_map]))|refine sJ ?_|refine qE_ ?_|refine exL (k:=?_)|refine dwR ?_|((first|refine aB ?_ ?_|refine aC ?_ ?_)<;>intro hb<;>(first|exact ddX hb|try simp only [lnS]at hb))|(refine aA ?_ ?_<;>intro hb<;>try exact dsX hb))<;>(conv=>whnf)))
  rfl
 |cons c r=>
  refine qG [] hty Tryz.func159 [0,2] ?_
  ((conv=>whnf);repeat' ((first|(intro hq;(try simp only [lnS]at hq);(try rewrite [List.length_map]))|refine sJ ?_|refine qE_ ?_|refine exL (k:=?_)| refine qT (lJ _) ?_|refine qT (qV _) ?_|refine qT (yI _) ?_|refine dwR ?_|((first|refine aB ?_ ?_|refine aC ?_ ?_)<;>intro hb<;>(first|exact ddX hb|try simp only [lnS]at hb))|(refine aA ?_ ?_<;>intro hb<;>try exact dsX hb))<;>(conv=>whnf)))
  ·rename_i h0
   have h0':kJ c=true:=h0
   exact aJ (by simp only [nH,h0',hb,Bool.true_and])
  ·rename_i h0
   have h0':kJ c=true:=h0
   exact aJ (by simp only [nH,h0',hb,Bool.true_and,Bool.false_and])
  ·have h0':kJ c=false:=hb
   exact aJ (by simp only [nH,h0',Bool.false_and])
def wI (s:List UInt8):Bool:=decide (2<=s.length) && (decide (s.length<=24) && (decide (s.head?=some 95) && s.all bX))
theorem aC0 {s:List UInt8}(h:2<=(s.length:Int)):decide (s.head?=some 95)=decide (s[Int.toNat 0]'(by omega)=95):=by
 match s,h with
 |c::r,_=>simp
theorem u95 {c:UInt8}(h:(c.toNat:Int)=95):c=95:=by
 have h9:(95:UInt8).toNat=95:=by decide
 exact UInt8.toNat_inj.1 (by omega)
theorem qW (s:List UInt8):Tri Tryz.prog 106 [.d (.str s)] [] (λr=>r= .d (.bool (wI s))):=by
 refine qG [] hty Tryz.func106 [0,2] ?_
 ((conv=>whnf);repeat' ((first|(intro hq;(try simp only [lnS]at hq);(try rewrite [List.length_map]))|refine sJ ?_|refine qE_ ?_|refine exL (k:=?_)| refine qT (qV _) ?_|refine dwR ?_|((first|refine aB ?_ ?_|refine aC ?_ ?_)<;>intro hb<;>(first|exact ddX hb|try simp only [lnS]at hb))|(refine aA ?_ ?_<;>intro hb<;>try exact dsX hb))<;>(conv=>whnf)))
 ·have h2:2<=(s.length:Int):=by omega
  refine aJ ?_
  rw [wI,aC0 h2,u95 hb]
  simp only [show 2<=s.length from by omega,show s.length<=24 from by omega,decide_true,Bool.true_and]
 ·have h2:2<=(s.length:Int):=by omega
  refine aJ ?_
  rw [wI,aC0 h2]
  have:¬ s[Int.toNat 0]'(by omega)=95:= λe=>hb (by rw [e];rfl)
  simp only [this,decide_false,Bool.false_and,Bool.and_false]
 ·refine aJ ?_
  rw [wI]
  simp only [show ¬ s.length<=24 from by omega,decide_false,Bool.false_and,Bool.and_false]
 ·refine aJ ?_
  rw [wI]
  simp only [show ¬ 2<=s.length from by omega,decide_false,Bool.false_and]
def fP (s:List UInt8):Bool:=decide (s.length<=24) && (nH (aJ5 s 58).1 && (!(aJ5 s 58).2.2 || nH (aJ5 s 58).2.1))
theorem yJ (s:List UInt8):Tri Tryz.prog 105 [.d (.str s)] [] (λr=>r= .d (.bool (fP s))):=by
 refine qG [] hty Tryz.func105 [0,2,3,4,5,8] ?_
 ((conv=>whnf);repeat' ((first|(intro hq;(try simp only [lnS]at hq);(try rewrite [List.length_map]))|refine sJ ?_|refine qE_ ?_|refine exL (k:=?_)| refine qT (aJ4 s 58) ?_|refine qT (aAg _) ?_|refine dwR ?_|((first|refine aB ?_ ?_|refine aC ?_ ?_)<;>intro hb<;>(first|exact ddX hb|try simp only [lnS]at hb))|(refine aA ?_ ?_<;>intro hb<;>try exact dsX hb))<;>(conv=>whnf)))
 ·refine aJ ?_
  rw [fP]
  simp only [show ¬ s.length<=24 from by omega,decide_false,Bool.false_and]
 all_goals
  refine aJ ?_
  rw [fP]
  simp only [show s.length<=24 from by omega,decide_true,Bool.true_and]
  simp_all
def cQ (s:List UInt8):Bool:=fP s || wI s
theorem gE (s:List UInt8):Tri Tryz.prog 69 [.d (.str s)] [] (λr=>r= .d (.int .i64 (if cQ s then 0 else 20))):=by
 refine qG [] hty Tryz.func69 [0,2,8] ?_
 ((conv=>whnf);repeat' ((first|(intro hq;(try simp only [lnS]at hq);(try rewrite [List.length_map]))|refine sJ ?_|refine qE_ ?_|refine exL (k:=?_)| refine qT (yJ s) ?_|refine qT (qW s) ?_|refine dwR ?_|((first|refine aB ?_ ?_|refine aC ?_ ?_)<;>intro hb<;>(first|exact ddX hb|try simp only [lnS]at hb))|(refine aA ?_ ?_<;>intro hb<;>try exact dsX hb))<;>(conv=>whnf)))
 all_goals (first|(have h9:cQ s=true:=by simp_all [cQ])|(have h9:cQ s=false:=by simp_all [cQ]))
 all_goals (rw [h9];rfl)
end
section
open Go.Proofs
section
variable {F:Fence} {n:Nat} {P:Program} {b:Frame} {a:Act} {k:List Item} {cs:List Frame} {w:World} {Q:Exit->Act->World->Prop}
end
def aKe {α:Type}(I:α->Fr×Hp) (Ok:α->Prop) (μ:α->Nat) (x:α) (K:Ex->Fr->Hp->Prop) (e:Ex) (fr:Fr) (hp:Hp):Prop:=
 match e with
 | .normal=> ∃y,Ok y/\μ y < μ x/\aKv (I y).1 fr/\hp=(I y).2
 |e=>K e fr hp
theorem Sat.subE {E:Entry}{nt:Nat}{fr fr':Fr}{hp:Hp}{a:Act}{w:World}(h:Sat E nt ⟨fr,hp⟩ a w) (hs:aKv fr' fr):Sat E nt ⟨fr',hp⟩ a w:=by
 obtain⟨h1,h2,ρ,h3,h4⟩:=h
 exact⟨h1,h2,ρ,h3,aEk _ _ hs h4⟩
theorem mG {C:Cfg}(hti:cG C.P C.ti) {c:Code}{fr:Fr}{hp:Hp}{K:Ex->Fr->Hp->Prop}{α:Type}(I:α->Fr×Hp) (Ok:α->Prop) (μ:α->Nat) (x:α) (h0:Ok x) (hs:aKv (I x).1 fr) (he:hp=(I x).2)
  (round: ∀y,Ok y->X C c (I y).1 (I y).2 (aKe I Ok μ y K)):aH C (.loop c) fr hp K:=by
 subst he
 intro E a w hpin hrd hsat
 refine wpIn_loop_ghost (λn a w=> ∃y E',μ y=n/\Ok y/\Ext E E'/\Sat E' C.nt ⟨(I y).1,(I y).2⟩ a w) (μ x) ⟨x,E,rfl,h0, .refl E,hsat.subE hs⟩ ?_
 rintro n a' w' ⟨y,E',rfl,hy,hE,hsy⟩
 have:=iG hti c _ _ _ (round y hy) E' a' w' (hE.pin.trans hpin) (hrd.ext hE) hsy
 rw [hE.rd]at this
 refine wpIn_mono this ?_
 rintro e a₁ w₁ ⟨ex,fr₁,hp₁,E'',hE',hrel,hk,hs₁⟩
 cases ex<;>cases e<;>simp only [Ex.rel]at hrel<;>simp only [KX,aKe]at hk
 ·obtain⟨y',k1,k2,k3,rfl⟩:=hk
  exact⟨μ y',k2,y',E'',rfl,k1,hE.trans hE',hs₁.subE k3⟩
 ·exact⟨.exit _,fr₁,hp₁,E'',hE.trans hE',hrel,hk,hs₁⟩
 ·exact⟨.goto _,fr₁,hp₁,E'',hE.trans hE',hrel,hk,hs₁⟩
 ·exact⟨.ret,fr₁,hp₁,E'',hE.trans hE',hrel,hk,hs₁⟩
 ·exact⟨.pan,fr₁,hp₁,E'',hE.trans hE',hrel,hk,hs₁⟩
theorem aF.sub {P:Program}{pin:Pin}{fr:Fr}{hp hp':Hp}{f:FuncId}{args:List SV}{K:SV->Hp->Prop}(hs:sA hp' hp) (h:aF P pin fr hp' f args K):aF P pin fr hp f args K:=
 λE ρ w tm hpin hm hf vs ha=>h E ρ w tm hpin (hm.sub (eV _ _ hs)) hf vs ha
theorem aF.mono {P:Program}{pin:Pin}{fr:Fr}{hp:Hp}{f:FuncId}{args:List SV}{K K':SV->Hp->Prop}(hk: ∀s hp,K s hp->K' s hp) (h:aF P pin fr hp f args K):aF P pin fr hp f args K':=
 λE ρ w tm hpin hm hf vs ha=>(h E ρ w tm hpin hm hf vs ha).mono λ_ _ q=>q.imp (λ⟨v,ρ',s,hp',h1,h2,h3⟩=>⟨v,ρ',s,hp',h1,hk _ _ h2,h3⟩) λq=>q
theorem aF.weak {P:Program}{pin:Pin}{fr:Fr}{hp:Hp}{f:FuncId}{args:List SV}{K:SV->Hp->Prop}(h:aF P pin fr hp f args λs hp'=> ∃hp'',sA hp'' hp'/\K s hp''):aF P pin fr hp f args K:=
 λE ρ w tm hpin hm hf vs ha=>(h E ρ w tm hpin hm hf vs ha).mono λ_ _ q=>q.imp (λ⟨v,ρ',s,_,h1,⟨hp'',h2,h3⟩,h4,h5⟩=>⟨v,ρ',s,hp'',h1,h3,h4.sub (eV _ _ h2),h5⟩) λq=>q
theorem YVC.weak {P:Program}{pin:Pin}{fr:Fr}{hp:Hp}{lid:Nat}{args:List SV}{K:SV->Hp->Prop}(h:YVC P pin fr hp lid args λs hp'=> ∃hp'',sA hp'' hp'/\K s hp''):YVC P pin fr hp lid args K:=
 λE ρ w tm hpin hm hf l vs hl ha=>YieldAt.mono (h E ρ w tm hpin hm hf l vs hl ha) λ_ _ ⟨v,ρ',s,_,h1,⟨hp'',h2,h3⟩,h4,h5⟩=>⟨v,ρ',s,hp'',h1,h3,h4.sub (eV _ _ h2),h5⟩
end
end Go.Proofs.YtdjfkmkdkclahaaGreatDoor
