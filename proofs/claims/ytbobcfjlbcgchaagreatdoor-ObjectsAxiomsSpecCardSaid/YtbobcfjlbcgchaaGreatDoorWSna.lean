/-
  Objects of other kinds: a new one, and one that is written; rows whose cells are known one by one.
  Conditions: none.
-/
import Derived.Test.YtbobcfjlbcgchaaGreatDoorWTy
import Derived.Test.YtbobcfjlbcgchaaGreatDoorWSz
import Derived.Lib.Strings
import Derived.Lib.Slices
import Derived.Lib.Walk
import Derived.Lib.Bytealg
import Derived.RangeFuncBound
import Derived.Laws.IdiomCopy
import Derived.Laws.Externs
import Derived.Lib.Overlaps
import Derived.Lib.AppendZeros
set_option linter.unusedSectionVars false
set_option linter.unusedSimpArgs false
set_option linter.unusedVariables false
set_option maxHeartbeats 2000000
namespace Go.Proofs.YtbobcfjlbcgchaaGreatDoor
section
set_option maxRecDepth 100000
theorem dwR {pin:Pin}{nt:Nat}{keep:Nat->Bool}{off:Nat}{rd:Option Nat}{zc:Bool}{frz:List Nat}{id:Nat}{l:List Oper}{fr:Fr}{hp:Hp}{K:Ex->Fr->Hp->Prop}(h:aDd ⟨Tryz.prog,ty,pin,nt,keep,off,rd,zc,frz⟩ l (K .normal) l fr hp) (hm:(Tryz.prog).follows .mixedOrders=true:=by kernel_rfl) (hB:(Region.lexB .any l.toArray && nD l)=true:=by kernel_rfl):aK ⟨Tryz.prog,ty,pin,nt,keep,off,rd,zc,frz⟩ (.region id l.toArray true) fr hp K:=aU0 hty hm hB h
theorem qW {p q:Prop}(k:q) (h:PLift q->p:=by intro qk;((conv=>whnf);(first|(intro qh;try simp only [lnS]at qh)|refine sJ ?_|refine qE_ ?_|refine exL (k:= ?_)|refine qE2 ?_|refine qT2 ?_|refine qQ ?_);(conv=>whnf);repeat ((first|(intro qh;try simp only [lnS]at qh)|refine sJ ?_|refine qE_ ?_|refine exL (k:= ?_)|refine qE2 ?_|refine qT2 ?_|refine qQ ?_);(conv=>whnf)));(repeat revert qh);exact qk.down):p:=h ⟨k⟩
end
section
section
variable {P:Program}
theorem xD {f:FuncId}{args:List SV}{vs:Array Value}{r:D}{v:Value}(hv: ∀(w:World) (ρ:Env) (a:Array Value),cS w ρ args a->a=vs) (hr: ∀(w:World) (S:Nat->Nat->Prop),RepD w S r v)
  (h: ∀w,Calls P f vs w λe w'=>e= .returned v/\w'=w):Tri P f args [] (λs=>s= .d r):=by
 intro w ρ a b c _
 rw [hv w ρ a c]
 refine(h w).mono ?_
 rintro e w' ⟨rfl,rfl⟩
 exact⟨v,ρ.S, .d r,rfl,rfl,Grew.refl _,λ_ _ h=>h,λ_ _ h=> .inl h,b, .d _ _ (hr _ _)⟩
theorem bD6 {w:World}{ρ:Env}{a b:SV}{us:Array Value}(h:cS w ρ [a,b] us): ∃x y,us= #[x,y]/\Rep w ρ a x/\Rep w ρ b y:=by
 obtain⟨d,c⟩:=h
 match us,d with
 |⟨[x,y]⟩,_=>exact⟨x,y,rfl,c 0 a x rfl rfl,c 1 b y rfl rfl⟩
end
set_option maxRecDepth 100000 in
theorem aAy (s:ByteArray) (c:Int) (w:World):
  Calls Tryz.prog 252 #[.string s, .int .u8 c] w λe w'=>e= .returned (.int .i64 (Lib.indexByte s.data.toList c.toNat.toUInt8))/\w'=w:=by
 go_enter Tryz.func252,Tryz.ntmps252
 go_wp2
 rw [run_callFunc_extern Tryz.func258 (by kernel_rfl) (by kernel_rfl) (by kernel_rfl) (e:=Extern.BytealgIndexByte.indexByte) (by kernel_rfl),Lib.run_indexByteString]
 simp only [Result.andThen]
 rw [Oper.upon_value]
 go_wp2
 go_ret
 exact⟨rfl,rfl⟩
set_option maxRecDepth 100000 in
theorem tO (a b:ByteArray) (w:World):
  Calls Tryz.prog 132 #[.string a, .string b] w λe w'=>e= .returned (.int .i64 (Lib.compareBytes a.data.toList b.data.toList))/\w'=w:=by
 go_enter Tryz.func132,Tryz.ntmps132
 go_wp2
 rw [run_callFunc_extern Tryz.func180 (by kernel_rfl) (by kernel_rfl) (by kernel_rfl) (e:=Extern.BytealgCompare.compare) (by kernel_rfl),Lib.run_compareString]
 simp only [Result.andThen]
 rw [Oper.upon_value]
 go_wp2
 go_ret
 exact⟨rfl,rfl⟩
set_option maxRecDepth 10000
attribute [local irreducible] aK aF Tri aH
theorem tB (l:List UInt8) (c:UInt8):Tri Tryz.prog 252 [.d (.str l), .d (.int .u8 c.toNat)] [] (λs=>s= .d (.int .i64 (Lib.indexByte l c))):=by
 refine xD (vs:= #[.string ⟨l.toArray⟩, .int .u8 c.toNat]) (v:= .int .i64 (Lib.indexByte l c)) ?_ (λ_ _=> .int _ _) (λw=> ?_)
 ·intro w ρ us h
  obtain⟨x,y,rfl,a,b⟩:=bD6 h
  rw [a.str_inv.1,b.int_inv]
 ·have:=aAy ⟨l.toArray⟩ c.toNat w
  simpa using this
theorem vP (a b:List UInt8):Tri Tryz.prog 132 [.d (.str a), .d (.str b)] [] (λs=>s= .d (.int .i64 (Lib.compareBytes a b))):=by
 refine xD (vs:= #[.string ⟨a.toArray⟩, .string ⟨b.toArray⟩]) (v:= .int .i64 (Lib.compareBytes a b)) ?_ (λ_ _=> .int _ _) (λw=> ?_)
 ·intro w ρ us h
  obtain⟨x,y,rfl,c,e⟩:=bD6 h
  rw [c.str_inv.1,e.str_inv.1]
 ·have:=tO ⟨a.toArray⟩ ⟨b.toArray⟩ w
  simpa using this
theorem oI (a b:List UInt8):Tri Tryz.prog 73 [.d (.str a), .d (.str b)] [] (λs=>s= .d (.int .i64 (Lib.compareBytes a b))):=by
 refine qG [] hty Tryz.func73 [0,1,4] ?_
 refine qX ?_;intros
 refine aL [] (vP a b) trivial (λs c=> ?_)
 subst c
 refine qX ?_;intros
 rfl
theorem xY (l:List UInt8) (c:UInt8):Tri Tryz.prog 243 [.d (.str l), .d (.str [c])] [] (λs=>s= .d (.int .i64 (Lib.indexByte l c))):=by
 refine qG [] hty Tryz.func243 [0,1,4,5,6,7,8,9,10,11,12,13,16,24,31,36,59,64,73,93,107,114,132,139] ?_
 (repeat' first|(refine qW ?_;intros)|((conv=>whnf);first|refine qT (tB l _) ?_|refine dwR ?_|((first|refine aA ?_ ?_|refine aC ?_ ?_)<;>intro hb<;>(first|exact ddX hb|try simp only [lnS]at hb))|(refine aB ?_ ?_<;>intro hb<;>try exact dsX hb)))
 ·subst hb;simp [Lib.indexByte,eQ]
 ·rfl
theorem bG {a b:Bool}(h:a=b):SV.d (.bool a)=SV.d (.bool b):=by rw [h]
theorem xQ: ∀(l:List UInt8) (c:UInt8),Lib.indexByte l c < l.length
 | [],_=>by simp [Lib.indexByte]
 |b::l,c=>by
  have:=xQ l c
  unfold Lib.indexByte
  simp only [List.length_cons]
  split
  ·omega
  ·split<;>omega
def aXn (l:List UInt8) (c:UInt8):List UInt8×List UInt8×Bool:=
 if 0<=Lib.indexByte l c then (l.take (Lib.indexByte l c).toNat,l.drop ((Lib.indexByte l c).toNat+1),true)else (l,[],false)
def bEv (r:List UInt8×List UInt8×Bool):SV:= .tup [.d (.str r.1), .d (.str r.2.1), .d (.bool r.2.2)]
theorem aEx (l:List UInt8) (c:UInt8):Tri Tryz.prog 219 [.d (.str l), .d (.str [c])] [] (λs=>s=bEv (aXn l c)):=by
 refine Tri.lenS 0 rfl (λhl=> ?_)
 refine qG [] hty Tryz.func219 [0,1,4,5,6,7,12] ?_
 refine qX ?_;intros
 refine aL [] (xY l c) trivial (λs b=> ?_)
 subst b
 have a:=xQ l c
 generalize hi:Lib.indexByte l c=i at a |-
 (repeat' first|(refine qW ?_;intros)|((conv=>whnf);first|refine dwR ?_|((first|refine aA ?_ ?_|refine aC ?_ ?_)<;>intro hb<;>(first|exact ddX hb|try simp only [lnS]at hb))|(refine aB ?_ ?_<;>intro hb<;>try exact dsX hb)))
 ·rw [aXn,hi,if_pos hb]
  obtain⟨n,rfl⟩:=Int.eq_ofNat_of_zero_le hb
  simp only [bEv,eQ,List.drop_zero,Int.toNat_natCast,List.length_cons,List.length_nil,List.take_length]
  rfl
 ·rw [aXn,hi,if_neg hb];rfl
theorem aXm (l:List UInt8) (c:UInt8):Tri Tryz.prog 193 [.d (.str l), .d (.str [c])] [] (λs=>s=bEv (aXn l c)):=by
 refine qG [] hty Tryz.func193 [0,1,4,5,6] ?_
 refine qX ?_;intros
 refine aL [] (aEx l c) trivial (λs a=> ?_)
 subst a
 refine qX ?_;intros
 rfl
end
section
attribute [local irreducible] aK aF Tri aH
set_option maxRecDepth 10000
def kws : List (List UInt8) := [[97, 110, 100],
 [115,111,109,101],
 [105,110],
 [116,111],
 [110,111,116,104,105,110,103],
 [101,118,101,114,121,116,104,105,110,103],
 [111,110,101],
 [111,102],
 [111,112,101,110],
 [112,114,105,118,97,116,101],
 [115,117,98],
 [115,97,109,101],
 [100,105,115,106,111,105,110,116],
 [100,111,109,97,105,110],
 [114,111,108,101],
 [99,104,97,105,110],
 [114,101,102,108,101,120,105,118,101],
 [116,121,112,101],
 [108,105,110,107],
 [115,101,108,101,99,116],
 [119,104,101,114,101],
 [111,114]]
def kwF (s:List UInt8):Bool:=decide (s∈kws)
theorem aI4 (s:List UInt8):Tri Tryz.prog 222 [.d (.str s)] [] (λr=>r= .d (.bool (kwF s))):=by
 refine qG [] hty Tryz.func222 [0,2,3,4] ?_
 ((conv=>whnf);repeat' ((first|(intro a;try simp only [lnS]at a)|refine sJ ?_|refine qE_ ?_|refine exL (k:=?_)|refine dwR ?_|((first|refine aA ?_ ?_|refine aC ?_ ?_)<;>intro hb<;>(first|exact ddX hb|try simp only [lnS]at hb))|(refine aB ?_ ?_<;>intro hb<;>try exact dsX hb))<;>(conv=>whnf)))
 all_goals first|(rename_i hb;subst hb;rfl)|skip
 have:kwF s=false:=by simp [kwF,kws, *]
 rw [this];rfl
def aTb (c:UInt8):Bool:=decide (97<=c.toNat/\c.toNat<=122) || decide (65<=c.toNat/\c.toNat<=90)
def jH (c:UInt8):Bool:=aTb c || decide (c.toNat=95) || decide (48<=c.toNat/\c.toNat<=57)
def bAm (c:UInt8):SV:= .d (.int .u8 c.toNat)
def bsv (l:List UInt8):D:= .sl 1 (l.map aN)
theorem vD (c:UInt8):Tri Tryz.prog 220 [bAm c] [] (λr=>r= .d (.bool (aTb c))):=by
 refine qG [] hty Tryz.func220 [0,2] ?_
 (repeat' first|(refine qW ?_;intros)|((conv=>whnf);first|refine dwR ?_|((first|refine aA ?_ ?_|refine aC ?_ ?_)<;>intro hb<;>(first|exact ddX hb|try simp only [lnS]at hb))|(refine aB ?_ ?_<;>intro hb<;>try exact dsX hb)))
 all_goals (refine bG (Bool.eq_iff_iff.2 ?_);simp only [aTb,Bool.or_eq_true,decide_eq_true_eq,true_iff,false_iff,Bool.false_eq_true];omega)
theorem zG {α:Type}{p:α->Bool}{l:List α}{k:Nat}(h:k < l.length) (hp:p l[k]=false):l.all p=false:=by
 rw [List.all_eq_false]
 exact⟨l[k],List.getElem_mem h,by simp [hp]⟩
theorem vX {α:Type}{p:α->Bool}{l:List α}{k:Nat}(h:k < l.length) (hk:(l.take k).all p=true) (hp:p l[k]=true):(l.take (k+1)).all p=true:=by
 rw [List.take_succ_eq_append_getElem h,List.all_append,hk];simp [hp]
theorem aAt (s:List UInt8):Tri Tryz.prog 221 [.d (.str s)] [] (λr=>r= .d (.bool (s.all jH))):=by
 refine qG [] hty Tryz.func221 [0,2,4,6,7,8,9,26] ?_
 refine qX ?_;intros
 refine aD hty (λk:Nat=>([(6, .d (bsv s)),(7, .d (.int .i64 s.length)),(8, .d (.int .i64 k))],[])) (λk=>k<=s.length/\(s.take k).all jH=true) (λk=>s.length - k) 0 (by simp) ⟨by repeat' (first|exact trivial|exact rfl|(rw [List.length_map];exact rfl)|refine And.intro ?_ ?_),trivial⟩ ?_
 rintro k ⟨hk,b⟩
 (repeat' first|(refine qW ?_;intros)|((conv=>whnf);first|(refine⟨_,aRz (by first|omega|(simp only [List.length_map];omega)), ?_⟩)|refine qT (vD _) ?_|refine dwR ?_|((first|refine aA ?_ ?_|refine aC ?_ ?_)<;>intro hb<;>(first|exact ddX hb|try simp only [lnS]at hb))|(refine aB ?_ ?_<;>intro hb<;>try exact dsX hb)))
 ·rename_i f e g
  have a:k < s.length:=by omega
  have c:jH s[(k:Int).toNat]=false:=by
   simp only [Bool.not_eq_true']at e
   simp only [jH,e,Bool.false_or,Bool.or_eq_false_iff,decide_eq_false_iff_not];omega
  rw [zG (k:=k) a c];rfl
 ·rename_i f e g h3
  have a:k < s.length:=by omega
  have c:jH s[(k:Int).toNat]=false:=by
   simp only [Bool.not_eq_true']at e
   simp only [jH,e,Bool.false_or,Bool.or_eq_false_iff,decide_eq_false_iff_not];omega
  rw [zG (k:=k) a c];rfl
 ·have a:k < s.length:=by omega
  have c:jH s[(k:Int).toNat]=true:=by
   simp only [jH,Bool.or_eq_true,decide_eq_true_eq];right;omega
  exact⟨k+1,⟨by omega,vX a b c⟩,qO,⟨qB,qB⟩⟩
 ·have a:k < s.length:=by omega
  have c:jH s[(k:Int).toNat]=true:=by
   simp only [jH,Bool.or_eq_true,decide_eq_true_eq];left;right;omega
  exact⟨k+1,⟨by omega,vX a b c⟩,qO,⟨qB,qB⟩⟩
 ·have a:k < s.length:=by omega
  have c:jH s[(k:Int).toNat]=true:=by
   simp only [jH,Bool.or_eq_true];left;left;simpa using hb
  exact⟨k+1,⟨by omega,vX a b c⟩,qO,⟨qB,qB⟩⟩
 ·rw [List.take_of_length_le (by omega)]at b
  rw [b];rfl
def xX (s:List UInt8):Bool:=match s with| []=>false|c::r=>aTb c && ((c::r).all jH && !kwF (c::r))
theorem aKo (s:List UInt8):Tri Tryz.prog 194 [.d (.str s)] [] (λr=>r= .d (.bool (xX s))):=by
 cases s with
 |nil=>
  refine qG [] hty Tryz.func194 [0,2] ?_
  (repeat' first|(refine qW ?_;intros)|((conv=>whnf);first|refine dwR ?_|((first|refine aA ?_ ?_|refine aC ?_ ?_)<;>intro hb<;>(first|exact ddX hb|try simp only [lnS]at hb))|(refine aB ?_ ?_<;>intro hb<;>try exact dsX hb)))
  rfl
 |cons c r=>
  refine qG [] hty Tryz.func194 [0,2] ?_
  (repeat' first|(refine qW ?_;intros)|((conv=>whnf);first|refine qT (vD _) ?_|refine qT (aAt _) ?_|refine qT (aI4 _) ?_|refine dwR ?_|((first|refine aA ?_ ?_|refine aC ?_ ?_)<;>intro hb<;>(first|exact ddX hb|try simp only [lnS]at hb))|(refine aB ?_ ?_<;>intro hb<;>try exact dsX hb)))
  ·rename_i b
   have a:aTb c=true:=b
   exact bG (by simp only [xX,a,hb,Bool.true_and])
  ·rename_i b
   have a:aTb c=true:=b
   exact bG (by simp only [xX,a,hb,Bool.true_and,Bool.false_and])
  ·have a:aTb c=false:=hb
   exact bG (by simp only [xX,a,Bool.false_and])
def aF8 (s:List UInt8):Bool:=decide (2<=s.length) && (decide (s.length<=24) && (decide (s.head?=some 95) && s.all jH))
theorem aMw {s:List UInt8}(h:2<=(s.length:Int)):decide (s.head?=some 95)=decide (s[Int.toNat 0]'(by omega)=95):=by
 match s,h with
 |c::r,_=>simp
theorem u95 {c:UInt8}(h:(c.toNat:Int)=95):c=95:=by
 have h9:(95:UInt8).toNat=95:=by decide
 exact UInt8.toNat_inj.1 (by omega)
theorem qF (s:List UInt8):Tri Tryz.prog 195 [.d (.str s)] [] (λr=>r= .d (.bool (aF8 s))):=by
 refine qG [] hty Tryz.func195 [0,2] ?_
 (repeat' first|(refine qW ?_;intros)|((conv=>whnf);first|refine qT (aAt _) ?_|refine dwR ?_|((first|refine aA ?_ ?_|refine aC ?_ ?_)<;>intro hb<;>(first|exact ddX hb|try simp only [lnS]at hb))|(refine aB ?_ ?_<;>intro hb<;>try exact dsX hb)))
 ·have a:2<=(s.length:Int):=by omega
  refine bG ?_
  rw [aF8,aMw a,u95 hb]
  simp only [show 2<=s.length from by omega,show s.length<=24 from by omega,decide_true,Bool.true_and]
 ·have a:2<=(s.length:Int):=by omega
  refine bG ?_
  rw [aF8,aMw a]
  have:¬ s[Int.toNat 0]'(by omega)=95:= λe=>hb (by rw [e];rfl)
  simp only [this,decide_false,Bool.false_and,Bool.and_false]
 ·refine bG ?_
  rw [aF8]
  simp only [show ¬ s.length<=24 from by omega,decide_false,Bool.false_and,Bool.and_false]
 ·refine bG ?_
  rw [aF8]
  simp only [show ¬ 2<=s.length from by omega,decide_false,Bool.false_and]
def cA (s:List UInt8):Bool:=decide (s.length<=24) && (xX (aXn s 58).1 && (!(aXn s 58).2.2 || xX (aXn s 58).2.1))
theorem lF (s:List UInt8):Tri Tryz.prog 144 [.d (.str s)] [] (λr=>r= .d (.bool (cA s))):=by
 refine qG [] hty Tryz.func144 [0,2,3,4,5,8] ?_
 (repeat' first|(refine qW ?_;intros)|((conv=>whnf);first|refine qT (aXm s 58) ?_|refine qT (aKo _) ?_|refine dwR ?_|((first|refine aA ?_ ?_|refine aC ?_ ?_)<;>intro hb<;>(first|exact ddX hb|try simp only [lnS]at hb))|(refine aB ?_ ?_<;>intro hb<;>try exact dsX hb)))
 ·refine bG ?_
  rw [cA]
  simp only [show ¬ s.length<=24 from by omega,decide_false,Bool.false_and]
 all_goals
  refine bG ?_
  rw [cA]
  simp only [show s.length<=24 from by omega,decide_true,Bool.true_and]
  simp_all
def fU (s:List UInt8):Bool:=cA s || aF8 s
theorem aCf (s:List UInt8):Tri Tryz.prog 145 [.d (.str s)] [] (λr=>r= .d (.int .i64 (if fU s then 0 else 20))):=by
 refine qG [] hty Tryz.func145 [0,2,8] ?_
 (repeat' first|(refine qW ?_;intros)|((conv=>whnf);first|refine qT (lF s) ?_|refine qT (qF s) ?_|refine dwR ?_|((first|refine aA ?_ ?_|refine aC ?_ ?_)<;>intro hb<;>(first|exact ddX hb|try simp only [lnS]at hb))|(refine aB ?_ ?_<;>intro hb<;>try exact dsX hb)))
 all_goals (first|(have a:fU s=true:=by simp_all [fU])|(have a:fU s=false:=by simp_all [fU]))
 all_goals (rw [a];rfl)
end
section
section
variable {F:Fence} {n:Nat} {P:Program} {b:Frame} {a:Act} {k:List Item} {cs:List Frame} {w:World} {Q:Exit->Act->World->Prop}
theorem iC {c:Code}:step P (lone (b.atR a (.code (.scope c)::k)) cs w)= .next (lone (b.atR a (.code c:: .inScope c::k)) cs w):=
 step_lone_go (by simp [stepG,stepG.exec,Frame.atR])
theorem aEu {c:Code}:step P (lone (b.atR a (.inScope c::k)) cs w)= .next (lone (b.atR a k) cs w):=
 step_lone_go (by simp [stepG,stepG.exec,Frame.atR])
theorem aNt {c:Code}(hn: ∀l a w,¬ Q (.goto l) a w) (h:c.wpIn F n P Q a w):(Code.scope c).wpIn F n P Q a w:=by
 intro b k cs q hb m
 have f:(lone (b.atR a (.code (.scope c)::k)) cs w).fenced P F:=fenced_calm hb m rfl
 obtain⟨e,i,j,g,d⟩:=h b (.inScope c::k) cs q hb m
 cases e with
 |normal=>exact⟨.normal,i,j,g, .head f iC (StepsIn.trans d (.one (fenced_calm hb m rfl) aEu))⟩
 |exit id=>
  have hx:exitTo id (.inScope c::k)=exitTo id k:=by simp [exitTo]
  exact ⟨.exit id, i, j, g, λr p => .head f iC (d.1 r (by rw [hx]; exact p)),
   λo p=>let ⟨k₁,h1,h2⟩:=d.2 o (by rw [hx];exact p);⟨k₁,h1, .head f iC h2⟩⟩
 |goto l=>exact(hn l _ _ g).elim
 |ret=>exact⟨_,i,j,g, .of_steps (.one f iC) d⟩
 |panic ch=>exact⟨_,i,j,g, .of_steps (.one f iC) d⟩
 |outgrown=>exact⟨_,i,j,g, .of_steps (.one f iC) d⟩
end
theorem aRx {C:Cfg}(hti:fH C.P C.ti) {c:Code}{fr:Fr}{hp:Hp}{K:Ex->Fr->Hp->Prop}
  (h:X C c fr hp λe fr hp=>match e with| .goto _=>aH "goto" |e=>K e fr hp):aK C (.scope c) fr hp K:=by
 intro E a w d j m
 have:=nM hti c fr hp _ h E a w d j m
 refine wpIn_mono (aNt ?_ this) ?_
 ·rintro l a w ⟨ex,f,hp',E',k,b,i,g⟩
  cases ex<;>simp only [Ex.rel]at b
  exact i
 ·rintro e a' w' ⟨ex,f,hp',E',k,b,i,g⟩
  cases ex
  case goto=>exact False.elim i
  all_goals exact⟨_,f,hp',E',k,b,i,g⟩
def aYw {α:Type}(I:α->Fr×Hp) (Ok:α->Prop) (μ:α->Nat) (x:α) (K:Ex->Fr->Hp->Prop) (e:Ex) (fr:Fr) (hp:Hp):Prop:=
 match e with
 | .normal=> ∃y,Ok y/\μ y < μ x/\aZb (I y).1 fr/\hp=(I y).2
 |e=>K e fr hp
theorem Sat.subE {E:Entry}{nt:Nat}{fr fr':Fr}{hp:Hp}{a:Act}{w:World}(h:Sat E nt ⟨fr,hp⟩ a w) (hs:aZb fr' fr):Sat E nt ⟨fr',hp⟩ a w:=by
 obtain⟨b,e,ρ,d,c⟩:=h
 exact⟨b,e,ρ,d,aRi _ _ hs c⟩
theorem lS {C:Cfg}(hti:fH C.P C.ti) {c:Code}{fr:Fr}{hp:Hp}{K:Ex->Fr->Hp->Prop}{α:Type}(I:α->Fr×Hp) (Ok:α->Prop) (μ:α->Nat) (x:α) (h0:Ok x) (hs:aZb (I x).1 fr) (he:hp=(I x).2)
  (round: ∀y,Ok y->X C c (I y).1 (I y).2 (aYw I Ok μ y K)):aK C (.loop c) fr hp K:=by
 subst he
 intro E a w k m l
 refine wpIn_loop_ghost (λn a w=> ∃y E',μ y=n/\Ok y/\Ext E E'/\Sat E' C.nt ⟨(I y).1,(I y).2⟩ a w) (μ x) ⟨x,E,rfl,h0, .refl E,l.subE hs⟩ ?_
 rintro n a' w' ⟨y,E',rfl,q,i,o⟩
 have:=nM hti c _ _ _ (round y q) E' a' w' (i.pin.trans k) (m.ext i) o
 rw [i.rd]at this
 refine wpIn_mono this ?_
 rintro e a₁ w₁ ⟨ex,g,h,E'',d,b,j,f⟩
 cases ex<;>cases e<;>simp only [Ex.rel]at b<;>simp only [KX,aYw]at j
 ·obtain⟨p,s,t,r,rfl⟩:=j
  exact⟨μ p,t,p,E'',rfl,s,i.trans d,f.subE r⟩
 ·exact⟨.exit _,g,h,E'',i.trans d,b,j,f⟩
 ·exact⟨.goto _,g,h,E'',i.trans d,b,j,f⟩
 ·exact⟨.ret,g,h,E'',i.trans d,b,j,f⟩
 ·exact⟨.pan,g,h,E'',i.trans d,b,j,f⟩
theorem aF.sub {P:Program}{pin:Pin}{fr:Fr}{hp hp':Hp}{f:FuncId}{args:List SV}{K:SV->Hp->Prop}(hs:lU hp' hp) (h:aF P pin fr hp' f args K):aF P pin fr hp f args K:=
 λE ρ w c a b d vs e=>h E ρ w c a (b.sub (jU _ _ hs)) d vs e
theorem aF.mono {P:Program}{pin:Pin}{fr:Fr}{hp:Hp}{f:FuncId}{args:List SV}{K K':SV->Hp->Prop}(hk: ∀s hp,K s hp->K' s hp) (h:aF P pin fr hp f args K):aF P pin fr hp f args K':=
 λE ρ w c a b d vs e=>(h E ρ w c a b d vs e).mono λ_ _ q=>q.imp (λ⟨v,ρ',s,hp',h1,h2,h3⟩=>⟨v,ρ',s,hp',h1,hk _ _ h2,h3⟩) λq=>q
theorem aF.weak {P:Program}{pin:Pin}{fr:Fr}{hp:Hp}{f:FuncId}{args:List SV}{K:SV->Hp->Prop}(h:aF P pin fr hp f args λs hp'=> ∃hp'',lU hp'' hp'/\K s hp''):aF P pin fr hp f args K:=
 λE ρ w c a b d vs e=>(h E ρ w c a b d vs e).mono λ_ _ q=>q.imp (λ⟨v,ρ',s,_,h1,⟨hp'',h2,h3⟩,h4,h5⟩=>⟨v,ρ',s,hp'',h1,h3,h4.sub (jU _ _ h2),h5⟩) λq=>q
theorem YVC.weak {P:Program}{pin:Pin}{fr:Fr}{hp:Hp}{lid:Nat}{args:List SV}{K:SV->Hp->Prop}(h:YVC P pin fr hp lid args λs hp'=> ∃hp'',lU hp'' hp'/\K s hp''):YVC P pin fr hp lid args K:=
 λE ρ w c a b d l vs hl e=>YieldAt.mono (h E ρ w c a b d l vs hl e) λ_ _ ⟨v,ρ',s,_,h1,⟨hp'',h2,h3⟩,h4,h5⟩=>⟨v,ρ',s,hp'',h1,h3,h4.sub (jU _ _ h2),h5⟩
section
variable {P:Program}
inductive OT where
 |done
 |stop
 |first (i:Nat) (t:OT)
 |alt (i:Nat) (t:OT) (r:OT)
def OT.heads:OT->List Nat
 | .alt i _ r=>i::r.heads
 |_=>[]
def OT.depth:OT->Nat
 | .done=>0
 | .stop=>0
 | .first _ t=>t.depth+1
 | .alt _ t r=>max (t.depth+1) r.depth
def okT (ops:Array Oper):OT->Array Bool->Bool->Bool
 | .done,listed,inn=> !inn && (Region.ready .any ops listed).isEmpty
 | .stop,_,inn=>inn
 | .first i t, listed, inn => !inn && (match ops[i]? with
   |some o=>kd o.op==0 && (Region.ready .any ops listed).contains i && Region.free .any ops listed i && okT ops t (listed.setIfInBounds i true) false
   |none=>false)
 | .alt i t r,listed,inn=>(inn || (!(Region.ready .any ops listed).isEmpty && (Region.ready .any ops listed).all λj=>(i::r.heads).contains j)) && (ops[i]?).isSome && okT ops t (listed.setIfInBounds i true) false && okT ops r listed true
def aUq (P:Program) (pin:Pin) (fr:Fr) (hp:Hp) (f:Operand) (args:List Operand) (K:SV->Hp->Prop):Prop:=
 ev fr f λs=>match aYl s with
  | some (g, first, cap) => (match evL fr args with
   |some l=>dY P g=true/\aF P pin.calm fr hp g (first++l++cap) K
   |none=>aH "call: an argument")
  |none=>aH "call: no function"
def aVC (P:Program) (ti:TypeId->Option TI) (pin:Pin) (fr:Fr) (hp:Hp) (dst:Nat) (o:Oper) (K:SV->Hp->Prop):Prop:=
 match o.op with
 | .call { callee:= .value f,args:=args,argTypes:=_ }=>aUq P pin fr hp f args.toList K
 |_=>dVC P ti pin fr hp dst o K
theorem aWq {o:Oper}{f:Operand}{args:Array Operand}{ts:Array TypeId}(ho:o.op= .call { callee:= .value f,args:=args,argTypes:=ts }) {pin:Pin}{fr:Fr}{hp:Hp}{K:SV->Hp->Prop}
  (h:aUq P pin fr hp f args.toList K):aEb P o pin fr hp K:=by
 intro E ρ a w i z n next Q J
 obtain⟨s,F,b⟩:=dB h
 have G:=aV n F
 split at b
 ·rename_i g first cap r
  obtain⟨A,cv,e,u,B⟩:=aB4 r G
  split at b
  ·rename_i l hl
   obtain⟨d,b⟩:=b
   obtain⟨y,t⟩:=aBb n _ _ hl
   have c:cS w ρ (first++l++cap) (A++args.map a.eval++cv):=by
    refine(u.append ⟨?_, ?_⟩).append B
    ·simpa using y
    ·intro j m v k p
     refine t j m v k ?_
     rw [<-Array.toList_map];simpa using p
   unfold Oper.wp
   rw [lO ho e d]
   simp only [Oper.upon]
   refine(b { E with pin:=E.pin.calm } ρ w a.tmps (by rw [i]) z.calm n _ c).mono ?_
   rintro e' w' (⟨v,H,m,hp',rfl,D,I,C,x⟩|⟨_,_,_,_,_,q,_⟩)
   ·exact J v w' H m hp' D I.uncalm C x
   ·exact q.elim
  ·exact b.elim
 ·exact b.elim
theorem bFo {ti:TypeId->Option TI}(hti:fH P ti) {o:Oper}{pin:Pin}{fr:Fr}{hp:Hp}{dst:Nat}{K:SV->Hp->Prop}(h:aVC P ti pin fr hp dst o K):aEb P o pin fr hp K:=by
 unfold aVC at h
 split at h
 ·rename_i b;exact aWq b h
 ·rcases bDr hti (o:=o) h with⟨_,a,_⟩|⟨_,a⟩|⟨_,a⟩
  ·exact .pure a
  ·exact a.drop
  ·exact a
def aQ6 (C:Cfg) (all:List Oper) (i:Nat) (fr:Fr) (hp:Hp) (k:Fr->Hp->Prop):Prop:=
 match all[i]? with
 |some o=>
  wX all fr o.guard
   (λfr=>aVC C.P C.ti C.pin fr hp (C.off+o.dst.getD 0) o λs hp'=>put C o.dst s fr λfr'=>k fr' hp')
   (λfr=>put C o.dst (.d (.lit undef)) fr λfr'=>k fr' hp)
 |none=>aH "no such operation"
def xE (C:Cfg) (all:List Oper) (K:Fr->Hp->Prop):OT->Fr->Hp->Prop
 | .done,fr,hp=>uT C.keep fr λfr'=>K fr' hp
 | .stop,_,_=>True
 | .first i t,fr,hp=>aPy C all i fr hp λfr' hp'=>xE C all K t fr' hp'
 | .alt i t r,fr,hp=>aQ6 C all i fr hp (λfr' hp'=>xE C all K t fr' hp')/\xE C all K r fr hp
def bAw (C:Cfg) (all:List Oper) (R:Act->World->Prop) (fuel:Nat) (listed:Array Bool) (a:Act) (w:World) (i:Nat):Prop:=
 match all.toArray[i]? with
 |none=>wpE C.P all.toArray R fuel (λ_=>True) (listed.setIfInBounds i true) a w
 |some o=>
  if Region.wanted o (yielded all.toArray a.tmps)then
   o.wp C.P a w (λa' w'=>if kd o.op=3 then wpE C.P all.toArray R fuel (λ_=>True) (listed.setIfInBounds i true) a' w' else True/\wpE C.P all.toArray R fuel (λ_=>True) (listed.setIfInBounds i true) a' w') noX
  else wpE C.P all.toArray R fuel (λ_=>True) (listed.setIfInBounds i true) (a.put o.dst undef) w
theorem aO2 {C:Cfg}(hti:fH C.P C.ti) {all:List Oper}{K:Fr->Hp->Prop}{E:Entry}(hpin:E.pin=C.pin) (hsel:Region.noSelect all.toArray=true):
  ∀(T:OT) (fuel:Nat) (b:Array Bool) (fr:Fr) (hp:Hp) (ρ:Env) (a:Act) (w:World),xE C all K T fr hp->Mem E ρ hp w->a.tmps.size=C.nt->a.defers=(E.D.take E.k).map xP++E.pin.pre->dV ρ w fr a.tmps->
  (okT all.toArray T b false=true->T.depth<=fuel->wpE C.P all.toArray (λa w=> ∃fr hp,K fr hp/\Sat E C.nt ⟨fr,hp⟩ a w) fuel (λ_=>True) b a w)/\
  (∀l,okT all.toArray T b l=true->T.depth<=fuel+1-> ∀i∈T.heads,bAw C all (λa w=> ∃fr hp,K fr hp/\Sat E C.nt ⟨fr,hp⟩ a w) fuel b a w i):=by
 intro T
 induction T with
 |done=>
  intro fuel b fr hp ρ a w h p m q f
  refine⟨λc _=> ?_,λ_ _ _ i hi=>by simp [OT.heads]at hi⟩
  simp only [okT,Bool.not_false,Bool.true_and,List.isEmpty_iff]at c
  simp only [xE,oU]at h
  have V: ∃fr hp,K fr hp/\Sat E C.nt ⟨fr,hp⟩ a w:=⟨_,hp,h,m,q,ρ,p,λt s M=>f t s (mI _ _ t s M)⟩
  cases fuel with
  |zero=>exact⟨c,V⟩
  |succ n=>exact⟨λ_=>V,λi hi=>by rw [c]at hi;cases hi⟩
 |stop=>
  intro fuel b fr hp ρ a w h p m q f
  exact⟨λc=>by simp [okT]at c,λ_ _ _ i hi=>by simp [OT.heads]at hi⟩
 |first i t ih=>
  intro fuel b fr hp ρ a w h p m q f
  refine⟨λc u=> ?_,λ_ _ _ i hi=>by simp [OT.heads]at hi⟩
  simp only [xE,aPy]at h
  split at h
  ·rename_i o Q
   have g:all.toArray[i]? =some o:=by simpa using Q
   simp only [okT,g,Bool.not_false,Bool.true_and,Bool.and_eq_true,beq_iff_eq,List.contains_iff_mem]at c
   obtain⟨⟨⟨S,W⟩,Y⟩,c⟩:=c
   simp only [OT.depth]at u
   obtain⟨fuel,rfl⟩: ∃n,fuel=n+1:=⟨fuel - 1,by omega⟩
   obtain⟨N,f,O⟩:=gI h f
   rcases O with⟨A,h⟩|⟨A,h⟩
   ·rcases bDr hti h with⟨_,y,R⟩|⟨L,_⟩|⟨L,_⟩
    ·obtain⟨v,s,q1,q2,q3⟩:=y E ρ a w p f
     obtain⟨e,x,z⟩:=gY q3 m f q2
     refine zL g hsel (by omega) fuel _ b a w trivial (Region.free_spec g Y) (λH=>absurd S H) W (v:=v) (.inl ⟨A,λw' _=> ?_⟩) ((ih fuel _ e hp ρ _ w x p (by rw [cH];exact m) (by rw [put_defers];exact q) z).1 c (by omega))
     exact R S ρ a w v f (q1 w (Kept.refl ρ hp w)) w'
    ·omega
    ·omega
   ·obtain⟨e,x,z⟩:=gY h m f (Rep.d _ undef (.lit undef))
    exact zL g hsel (by omega) fuel _ b a w trivial (Region.free_spec g Y) (λH=>absurd S H) W (v:=undef) (.inr ⟨A,rfl⟩) ((ih fuel _ e hp ρ _ w x p (by rw [cH];exact m) (by rw [put_defers];exact q) z).1 c (by omega))
  ·exact h.elim
 |alt i t r iht ihr=>
  intro fuel b fr hp ρ a w h p m q f
  have key: ∀l,okT all.toArray (.alt i t r) b l=true-> ∀n,(OT.alt i t r).depth<=n+1-> ∀j∈(OT.alt i t r).heads,bAw C all (λa w=> ∃fr hp,K fr hp/\Sat E C.nt ⟨fr,hp⟩ a w) n b a w j:=by
   intro l c n u j B
   simp only [okT,Bool.and_eq_true]at c
   obtain⟨⟨⟨_,hsome⟩,F⟩,J⟩:=c
   simp only [OT.depth]at u
   simp only [xE]at h
   simp only [OT.heads,List.mem_cons]at B
   rcases B with rfl|B
   ·have h:=h.1
    unfold aQ6 at h
    split at h
    ·rename_i o Q
     have g:all.toArray[j]? =some o:=by simpa using Q
     unfold bAw
     simp only [g]
     obtain⟨N,f,O⟩:=gI h f
     rcases O with⟨A,h⟩|⟨A,h⟩
     ·rw [if_pos A]
      refine bFo hti h E ρ a w hpin p f _ noX λv w' ρ' s hp' k1 k2 k3 Z=> ?_
      obtain⟨e,x,z⟩:=gY k1 m k3 Z
      have:=(iht n _ e hp' ρ' _ w' x k2 (by rw [cH];exact m) (by rw [put_defers];exact q) z).1 F (by omega)
      split
      ·exact this
      ·exact⟨trivial,this⟩
     ·rw [if_neg (by rw [A];decide)]
      obtain⟨e,x,z⟩:=gY h m f (Rep.d _ undef (.lit undef))
      exact(iht n _ e hp ρ _ w x p (by rw [cH];exact m) (by rw [put_defers];exact q) z).1 F (by omega)
    ·exact h.elim
   ·exact(ihr n b fr hp ρ a w h.2 p m q f).2 true J (by omega) j B
  refine⟨λc u=> ?_,λl c u=>key l c fuel u⟩
  have y:=u
  simp only [OT.depth]at y
  obtain⟨fuel,rfl⟩: ∃n,fuel=n+1:=⟨fuel - 1,by omega⟩
  have U:=c
  simp only [okT,Bool.false_or,Bool.and_eq_true,Bool.not_eq_true',List.all_eq_true,List.contains_iff_mem]at U
  obtain⟨⟨⟨⟨G,I⟩,_⟩,_⟩,_⟩:=U
  refine⟨λH=> ?_,λj B=> ?_⟩
  ·rw [H]at G;cases G
  ·exact key false c fuel u j (I j B)
theorem aGt {C:Cfg}(hti:fH C.P C.ti) {id:Nat}{l:List Oper}{fr:Fr}{hp:Hp}{K:Ex->Fr->Hp->Prop}(T:OT) (hm:C.P.follows .mixedOrders=true)
  (hB:(decide (T.depth<=l.length) && Region.noSelect l.toArray && okT l.toArray T (Array.replicate l.length false) false && nD l)=true) (h:xE C l (K .normal) T fr hp):aK C (.region id l.toArray true) fr hp K:=by
 intro E a w b hrd ⟨d,f,ρ,o,g⟩
 simp only [Bool.and_eq_true,decide_eq_true_eq]at hB
 obtain⟨⟨⟨k,i⟩,m⟩,c⟩:=hB
 refine gP hm c mS.noOut ?_
 obtain⟨j,n⟩:=o.grow_same (Grew.drew w)
 have:=(aO2 (C:=C) hti (E:=E) b i T l.length (Array.replicate l.length false) fr hp ρ a _ h j d f (n fr _ g)).1 m k
 have p:=wF (Q:=mS C E K) _ _ _ _ _ (aZ4 (Q':=mS C E K .normal) (λa w ⟨fr',hp',k1,k2⟩=>⟨.normal,fr',hp',E, .refl E,trivial,k1,k2⟩) _ _ _ _ _ this)
 have e:l.toArray.size=l.length:=by simp
 rw [e]
 exact p
end
mutual
def WkD:D->D->Prop
 | .nil, .sl _ rows=>rows=[]
 | .sl z rows, .sl z' rows'=>z=z'/\aY5 rows rows'
 | .agg cs, .agg cs'=>aUs cs cs'
 |a,b=>a=b
def aUs:List D->List D->Prop
 | [],[]=>True
 |a::l,b::m=>WkD a b/\aUs l m
 |_,_=>False
def aY5:List (List D)->List (List D)->Prop
 | [],[]=>True
 |a::l,b::m=>aUs a b/\aY5 l m
 |_,_=>False
end
theorem aGg: ∀(l m:List D),aUs l m->l.length=m.length/\ ∀(j:Nat) (c:D),m[j]? =some c-> ∃x,l[j]? =some x/\WkD x c
 | [],[],_=>⟨rfl,by simp⟩
 |a::l,b::m,h=>by
  simp only [aUs]at h
  obtain⟨g,e⟩:=aGg l m h.2
  refine⟨by simp [g],λj c d=> ?_⟩
  cases j with
  |zero=>simp at d;subst d;exact⟨a,by simp,h.1⟩
  |succ j=>simp at d;obtain⟨x,f,i⟩:=e j c d;exact⟨x,by simpa using f,i⟩
 | [],_::_,h=>by simp [aUs]at h
 |_::_,[],h=>by simp [aUs]at h
theorem aUr: ∀(l m:List (List D)),aY5 l m->l.length=m.length/\ ∀(i:Nat) (row':List D),m[i]? =some row'-> ∃row,l[i]? =some row/\aUs row row'
 | [],[],_=>⟨rfl,by simp⟩
 |a::l,b::m,h=>by
  simp only [aY5]at h
  obtain⟨g,d⟩:=aUr l m h.2
  refine⟨by simp [g],λj f c=> ?_⟩
  cases j with
  |zero=>simp at c;subst c;exact⟨a,by simp,h.1⟩
  |succ j=>simp at c;obtain⟨x,e,k⟩:=d j f c;exact⟨x,by simpa using e,k⟩
 | [],_::_,h=>by simp [aY5]at h
 |_::_,[],h=>by simp [aY5]at h
theorem aNq {w:World}{S:Nat->Nat->Prop}{a:D}{v:Value}(h:RepD w S a v): ∀b,WkD a b->RepD w S b v:=by
 induction h with
 |int k n=>
  intro b hb
  have:D.int k n=b:=by cases b<;>first|(simp [WkD]at hb;done)|simpa [WkD]using hb
  subst this
  exact .int k n
 |bool x=>
  intro b hb
  have:D.bool x=b:=by cases b<;>first|(simp [WkD]at hb;done)|simpa [WkD]using hb
  subst this
  exact .bool x
 |str l hl=>
  intro b hb
  have:D.str l=b:=by cases b<;>first|(simp [WkD]at hb;done)|simpa [WkD]using hb
  subst this
  exact .str l hl
 |lit u=>
  intro b hb
  have:D.lit u=b:=by cases b<;>first|(simp [WkD]at hb;done)|simpa [WkD]using hb
  subst this
  exact .lit u
 |nil=>
  intro b hb
  cases b with
  |sl z rows=>
   simp only [WkD]at hb
   subst hb
   exact .sl z [] none 0 0 0 (λ_=>undef) (by simp) (by simp) (by simp) (by simp) (by simp) (by simp)
  |nil=>exact .nil
  |_=>simp [WkD]at hb
 |sl z rows A cap b off f hz hn hc hA hcell hrep ih=>
  intro B hb
  cases B with
  |sl z' rows'=>
   simp only [WkD]at hb
   obtain⟨rfl,hb⟩:=hb
   obtain⟨e1,e2⟩:=aUr _ _ hb
   rw [e1]
   have key: ∀(i:Nat) (c:List D) (j:Nat) (g:D),rows'[i]? =some c->c[j]? =some g-> ∃d x,rows[i]? =some d/\d[j]? =some x/\WkD x g:=by
    intro i c j g p o
    obtain⟨d,q,m⟩:=e2 i c p
    obtain⟨_,r⟩:=aGg _ _ m
    obtain⟨x,t,y⟩:=r j g o
    exact⟨d,x,q,t,y⟩
   refine .sl z rows' A cap b off f ?_ (by omega) hc ?_ ?_ ?_
   ·intro c C
    obtain⟨i,hi⟩:=List.mem_iff_getElem?.1 C
    obtain⟨d,q,m⟩:=e2 i c hi
    rw [<-(aGg _ _ m).1]
    exact hz d (List.mem_of_getElem? q)
   ·intro s
    exact hA λe=>s (by subst e;simp at e1;exact List.eq_nil_of_length_eq_zero e1.symm)
   ·intro i c j g p o
    obtain⟨d,x,q,m,_⟩:=key i c j g p o
    exact hcell i d j x q m
   ·intro i c j g p o
    obtain⟨d,x,q,m,r⟩:=key i c j g p o
    exact ih i d j x q m g r
  |_=>simp [WkD]at hb
 |agg cs vs hl h ih=>
  intro b hb
  cases b with
  |agg cs'=>
   simp only [WkD]at hb
   obtain⟨e1,e2⟩:=aGg _ _ hb
   refine .agg cs' vs (by omega) λj g v p o=> ?_
   obtain⟨x,t,y⟩:=e2 j g p
   exact ih j x v t o g y
  |_=>simp [WkD]at hb
def WkS:SV->SV->Prop
 | .d a, .d b=>WkD a b
 | .osl _ z rows, .d b=>WkD (.sl z rows) b
 |a,b=>a=b
def bB2:List SV->List SV->Prop
 | [],[]=>True
 |a::l,b::m=>WkS a b/\bB2 l m
 |_,_=>False
theorem aYy {w:World}{ρ:Env}{a b:SV}{v:Value}(h:WkS a b) (hr:Rep w ρ a v):Rep w ρ b v:=by
 unfold WkS at h
 split at h
 ·cases hr with
  |d x v h'=>exact .d _ _ (aNq h' _ h)
 ·exact .d _ _ (aNq hr.osl_inv.1 _ h)
 ·subst h;exact hr
theorem aLc: ∀(l m:List SV),bB2 l m->l.length=m.length/\ ∀(j:Nat) (c:SV),m[j]? =some c-> ∃x,l[j]? =some x/\WkS x c
 | [],[],_=>⟨rfl,by simp⟩
 |a::l,b::m,h=>by
  simp only [bB2]at h
  obtain⟨g,e⟩:=aLc l m h.2
  refine⟨by simp [g],λj c d=> ?_⟩
  cases j with
  |zero=>simp at d;subst d;exact⟨a,by simp,h.1⟩
  |succ j=>simp at d;obtain⟨x,f,i⟩:=e j c d;exact⟨x,by simpa using f,i⟩
 | [],_::_,h=>by simp [bB2]at h
 |_::_,[],h=>by simp [bB2]at h
theorem Tri.weakD {P:Program}{f:FuncId}{ps qs:List SV}{hp:Hp}{post:SV->Prop}(h:Tri P f qs hp post) (hw:bB2 ps qs):Tri P f ps hp post:=by
 intro w ρ vs a b c
 refine h w ρ vs a ?_ c
 obtain⟨e1,e2⟩:=aLc _ _ hw
 refine⟨b.1.trans e1,λj s v d e=> ?_⟩
 obtain⟨x,g,i⟩:=e2 j s d
 exact aYy i (b.2 j x v g e)
theorem Tri.res {P:Program}{f:FuncId}{asv:List SV}{hp:Hp}{post post':SV->Prop}(h:Tri P f asv hp post) (hw: ∀s,post s->post' s\/ ∃a b,s= .d a/\WkD a b/\post' (.d b)):Tri P f asv hp post':=
 λw ρ vs a b c=>(h w ρ vs a b c).mono λ_ _ ⟨v,S',s,h1,h2,h3,h4,h5,h6,h7⟩=>by
  rcases hw s h2 with hp'|⟨x,y,rfl,q,hp'⟩
  ·exact⟨v,S',s,h1,hp',h3,h4,h5,h6,h7⟩
  ·cases h7 with
   |d _ _ h7=>exact⟨v,S', .d y,h1,hp',h3,h4,h5,h6, .d _ _ (aNq h7 _ q)⟩
end
section
open Go.RowKit
section
variable {P:Program}
def Env.upd3 (ρ:Env) (id:Nat) (b:Option Nat) (n:Nat) (v:Value):Env:=
 { S:=ρ.S,blk:= λi=>if i=id then b else ρ.blk i,n:= λi=>if i=id then n else ρ.n i,tv:= λi=>if i=id then v else ρ.tv i }
theorem Env.moved_upd3 (ρ:Env) {id n:Nat}{b:Option Nat}{v:Value}{i:Nat}(h:i≠id):ρ.moved (ρ.upd3 id b n v) i:=by
 refine⟨by simp [Env.upd3,h], .inl (by simp [Env.upd3,h])⟩
theorem Env.upd3_at (ρ:Env) {id n i:Nat}{b:Option Nat}{v:Value}{x:HObj}(h:i≠id):(ρ.upd3 id b n v).at i x=ρ.at i x:=by
 cases x<;>simp [Env.at,Env.upd3,h]
def bFa (E:Entry) (ρ:Env) (hp:Hp) (g:Nat):Prop:=
 (∀i o,aP hp i=some o->ρ.at i o≠some g)/\(∀i o,aP hp i=some o->o.Rd->ρ.blk i≠some g)/\(E.w.heap.size<=g\/E.B g)
theorem Mem.free_new {E:Entry}{ρ:Env}{hp:Hp}{w:World}(h:Mem E ρ hp w) {g:Nat}(hg:w.heap.size<=g):bFa E ρ hp g:=by
 refine⟨λi o a c=> ?_,λi o a b c=> ?_, ?_⟩
 ·have:=h.blk_lt a c;omega
 ·have:=h.ro_lt a b c;omega
 ·have:=h.size;left;omega
theorem Mem.free_del {E:Entry}{ρ:Env}{hp hp':Hp}{w:World}(h:Mem E ρ hp w) {id g:Nat}{o:HObj}(ho:aP hp id=some o) (hg:ρ.at id o=some g) (hs:lU hp' hp) (hn:aP hp' id=none):bFa E ρ hp' g:=by
 refine⟨λi x hx b=> ?_,λi x hx a b=> ?_,h.hb id o g ho hg⟩
 ·have:=h.inj i x id o g (jU _ _ hs i x hx) ho b hg
  subst this
  rw [hn]at hx;cases hx
 ·exact h.ro i x g (jU _ _ hs i _ hx) a b id o ho hg
theorem aEr {id:Nat}: ∀{hp' hp:Hp},lU hp' hp->id∉gH hp->id∉gH hp'
 | [],_,_,_=>by simp [gH]
 |(k,o)::r,hp,hs,hn=>by
  obtain⟨b,d⟩:=hs
  have c:=aEr d hn
  intro a
  simp only [gH,List.flatMap_cons,List.mem_append,List.mem_cons]at a
  rcases a with(a|a)|a
  ·exact hn (bR b (.inl a))
  ·exact hn (bR b (.inr a))
  ·exact c a
theorem Mem.newObj {E:Entry}{ρ:Env}{hp:Hp}{w w':World}(h:Mem E ρ hp w) {id n:Nat}{b:Option Nat}{v:Value}{o:HObj}(hid:id∉gH hp) (hpin:id∉E.pin) (hg:Grew w w') (hro:¬ o.Rd)
  (u:aGj w' (ρ.upd3 id b n v) id o) (hf: ∀g,(ρ.upd3 id b n v).at id o=some g->bFa E ρ hp g):
  Mem E (ρ.upd3 id b n v) ((id,o)::hp) w'/\cF ρ.S w w'/\ ∀i,i≠id->ρ.moved (ρ.upd3 id b n v) i:=by
 have y:cF ρ.S w w':=hg.keeps h.slt
 have s: ∀i,i≠id->ρ.moved (ρ.upd3 id b n v) i:= λi hi=>ρ.moved_upd3 hi
 have c: ∀i x,aP ((id,o)::hp) i=some x->(i=id/\x=o)\/(i≠id/\aP hp i=some x):=by
  intro i x hx
  by_cases e:i=id
  ·subst e;simp [aP]at hx;exact .inl ⟨rfl,hx.symm⟩
  ·rw [cQ (λh=>e h.symm)]at hx;exact .inr ⟨e,hx⟩
 refine⟨⟨hg.os.trans h.os,hg.tape.trans h.tape,hg.output.trans h.output,Nat.le_trans h.size hg.size, ?_,h.sold,h.snew,λb i u=>Nat.lt_of_lt_of_le (h.slt b i u) hg.size,h.kp.trans h.sold y, ?_, ?_, ?_, ?_, ?_,λb hb=>(hg.block b (bD (h.md b hb))).trans (h.md b hb)⟩,y,s⟩
 ·exact λb hb z=>(hg.block b (Nat.lt_of_lt_of_le hb h.size)).trans (h.old b hb z)
 ·intro i x hx
  rcases c i x hx with⟨rfl,rfl⟩|⟨e1,a⟩
  ·exact u
  ·refine(h.sat i x a).keep y (λ_ _ x=>x) ?_ (by simp [Env.upd3,e1]) ?_ (λ_ _ _ x=>x)
   ·rintro j C
    exact s j λB=>hid (B ▸ bR a C)
   ·rintro g (t|⟨t,l⟩)
    ·exact hg.block g (h.blk_lt a t)
    ·exact hg.block g (h.ro_lt a l t)
 ·intro i x r q g hx m d f
  rcases c i x hx with⟨e1,rfl⟩|⟨e1,a⟩
  ·rcases c r q m with⟨e2,rfl⟩|⟨e2,k⟩
   ·rw [e1,e2]
   ·subst e1
    rw [ρ.upd3_at e2]at f
    exact absurd f ((hf g d).1 r q k)
  ·rcases c r q m with⟨e2,rfl⟩|⟨e2,k⟩
   ·subst e2
    rw [ρ.upd3_at e1]at d
    exact absurd d ((hf g f).1 i x a)
   ·rw [ρ.upd3_at e1]at d
    rw [ρ.upd3_at e2]at f
    exact h.inj i x r q g a k d f
 ·intro i x g hx d
  rcases c i x hx with⟨e1,rfl⟩|⟨e1,a⟩
  ·subst e1
   exact(hf g d).2.2
  ·rw [ρ.upd3_at e1]at d
   exact h.hb i x g a d
 ·exact λi hi=>Env.moved_trans (h.mv i hi) (s i λe=>hpin (e ▸ hi))
 ·intro i oR g hx l d r q m f
  rcases c i _ hx with⟨_,A⟩|⟨e1,a⟩
  ·exact(hro (A ▸ l)).elim
  ·have p:ρ.blk i=some g:=by simpa [Env.upd3,e1]using d
   rcases c r q m with⟨e2,rfl⟩|⟨e2,k⟩
   ·subst e2
    exact(hf g f).2.1 i _ a l p
   ·rw [ρ.upd3_at e2]at f
    exact h.ro i _ g a l p r q k f
theorem Mem.setExt {E:Entry}{ρ:Env}{hp:Hp}{w w':World}(h:Mem E ρ hp w) {id g:Nat}{X X':ExtO}(ho:aP hp id=some (.ext X)) (hg:ρ.blk id=some g)
  (hos:w'.os=w.os) (htape:w'.tape=w.tape) (hout:aQ8 w' w) (hsz:w.heap.size<=w'.heap.size) (hoth: ∀b,b < w.heap.size->b≠g->w'.heap[b]? =w.heap[b]?)
  {o':Obj} (ho':w'.heap[g]? =some o') (r:X'.sat w' ρ o'):Mem E ρ (eY hp id (.ext X')) w'/\cF ρ.S w w':=by
 obtain⟨g',x,s,B,F,C⟩:=h.sat id _ ho
 rw [hg]at s
 injection s with s
 subst s
 have m:ρ.at id (.ext X)=some g:=hg
 have u:cF ρ.S w w':= λb i r=>World.cell?_of_block (w:=w) (hoth b (h.slt b i r) λe=>C i (e ▸ r))
 have c: ∀j y,aP (eY hp id (.ext X')) j=some y->(j=id/\y= .ext X')\/(j≠id/\aP hp j=some y):=by
  intro j y d
  rw [bN _ ho]at d
  by_cases e1:j=id
  ·simp [e1]at d;exact .inl ⟨e1,d.symm⟩
  ·simp [e1]at d;exact .inr ⟨e1,d⟩
 have t: ∀j y b,j≠id->aP hp j=some y->ρ.at j y=some b->b≠g:= λj y b d z hb e=>d (h.inj j y id _ b z ho hb (by rw [m,e]))
 refine⟨⟨hos.trans h.os,htape.trans h.tape,hout.trans h.output,Nat.le_trans h.size hsz, ?_,h.sold,h.snew,λb i r=>Nat.lt_of_lt_of_le (h.slt b i r) hsz,h.kp.trans h.sold u, ?_, ?_, ?_,h.mv, ?_, ?_⟩,u⟩
 ·intro b hb A
  rw [hoth b (Nat.lt_of_lt_of_le hb h.size) ?_]
  ·exact h.old b hb A
  ·rintro rfl
   rcases h.hb id _ b ho m with hge|v
   ·omega
   ·exact A v
 ·intro j y d
  rcases c j y d with⟨rfl,rfl⟩|⟨e1,d⟩
  ·exact⟨g,o',hg,ho',r,C⟩
  ·refine(h.sat j y d).keep u (λ_ _ x=>x) (λa _=>ρ.moved_refl a) ⟨rfl,rfl⟩ ?_ (λ_ _ _ x=>x)
   rintro b (hb|⟨hb,f⟩)
   ·exact hoth b (h.blk_lt d hb) (t j y b e1 d hb)
   ·exact hoth b (h.ro_lt d f hb) λe=>h.ro j _ b d f hb id _ ho (by rw [m,e])
 ·intro j y o q b d p hb l
  rcases c j y d with⟨e1,rfl⟩|⟨e1,k⟩
  ·rcases c o q p with⟨e2,rfl⟩|⟨e2,n⟩
   ·rw [e1,e2]
   ·subst e1
    exact h.inj j (.ext X) o q b ho n hb l
  ·rcases c o q p with⟨e2,rfl⟩|⟨e2,n⟩
   ·subst e2
    exact h.inj j y o (.ext X) b k ho hb l
   ·exact h.inj j y o q b k n hb l
 ·intro j y b d hb
  rcases c j y d with⟨e1,rfl⟩|⟨e1,k⟩
  ·subst e1
   exact h.hb j (.ext X) b ho hb
  ·exact h.hb j y b k hb
 ·intro j oR b d f hb o q p l
  rcases c j _ d with⟨_,D⟩|⟨e1,k⟩
  ·rw [D]at f;exact f.elim
  ·rcases c o q p with⟨e2,rfl⟩|⟨e2,n⟩
   ·subst e2
    exact h.ro j _ b k f hb o (.ext X) ho l
   ·exact h.ro j _ b k f hb o q n l
 ·intro b hb
  refine(hoth b (bD (h.md b hb)) ?_).trans (h.md b hb)
  rintro rfl
  rw [h.md b hb]at B
  cases B
  exact X.nd _ _ _ F
def flatK (rows:List (List D)):Nat->Option D:= λk=>rows.flatten[k]?
end
end
end Go.Proofs.YtbobcfjlbcgchaaGreatDoor
