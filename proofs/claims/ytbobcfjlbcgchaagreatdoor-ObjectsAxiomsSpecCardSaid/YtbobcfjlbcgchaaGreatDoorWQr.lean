/-
  Layer 6: the graph. slices.Reverse on numbers.
  Conditions: none.
-/
import Derived.Test.YtbobcfjlbcgchaaGreatDoorWQs
import Derived.Test.YtbobcfjlbcgchaaGreatDoorWQf
import Derived.Test.YtbobcfjlbcgchaaGreatDoorWOf
import Derived.Test.YtbobcfjlbcgchaaGreatDoorWAp
import Derived.Test.YtbobcfjlbcgchaaGreatDoorWQc
import Derived.Test.YtbobcfjlbcgchaaGreatDoorWAr
import Derived.Test.YtbobcfjlbcgchaaGreatDoorWSna
set_option linter.unnecessarySimpa false
set_option linter.unusedSectionVars false
set_option linter.unusedSimpArgs false
set_option linter.unusedVariables false
set_option maxHeartbeats 16000000
namespace Go.Proofs.YtbobcfjlbcgchaaGreatDoor
section
attribute [local irreducible] aK aF Tri aH YVC cG aT
set_option maxRecDepth 10000
theorem bFx (i j:Nat):Int.fdiv (IntKind.u64.wrap ((i:Int)+(j:Int))) (2 ^ min (Int.toNat 1) IntKind.u64.bits)=((i+j) / 2:Nat)\/18446744073709551616<=i+j:=by
 by_cases h:i+j < 18446744073709551616
 ·left
  have e:IntKind.u64.wrap ((i:Int)+(j:Int))=((i+j:Nat):Int):=by
   rw [IntKind.wrap_u64];omega
  rw [e]
  show Int.fdiv ((i+j:Nat):Int) 2=_
  rw [Int.fdiv_eq_ediv_of_nonneg _ (by omega)]
  omega
 ·right;omega
theorem bCd {i j:Nat}(h:i+j<=4000000):IntKind.i64.wrap (Int.fdiv (IntKind.u64.wrap ((i:Int)+(j:Int))) (2 ^ min (Int.toNat 1) IntKind.u64.bits))=(((i+j) / 2:Nat):Int):=by
 rw [(bFx i j).resolve_right (by omega),IntKind.wrap_i64];omega
theorem aAv (a:List UInt8):Tri Tryz.prog 208 [.d (.str a)] [] (λr=>r= .d (.bool false)):=by
 refine qG [] hty Tryz.func208 [0,2] ?_
 (repeat' first|(refine qW ?_;intros)|((conv=>whnf);first|refine dwR ?_|((first|refine aA ?_ ?_|refine aC ?_ ?_)<;>intro hb<;>(first|exact ddX hb|try simp only [lnS]at hb))|(refine aB ?_ ?_<;>intro hb<;>try exact dsX hb)))
 all_goals first|rfl|(exact bG (by simp))
theorem aPd (a b:List UInt8):Tri Tryz.prog 207 [.d (.str a), .d (.str b)] [] (λr=>r= .d (.bool (Op.bytesLess a b))):=by
 refine qG [] hty Tryz.func207 [0,1,4] ?_
 (repeat' first|(refine qW ?_;intros)|((conv=>whnf);first|refine qT (aAu _) ?_|refine dwR ?_|((first|refine aA ?_ ?_|refine aC ?_ ?_)<;>intro hb<;>(first|exact ddX hb|try simp only [lnS]at hb))|(refine aB ?_ ?_<;>intro hb<;>try exact dsX hb)))
 all_goals rfl
theorem bD2 (a:List UInt8):Op.bytesLess a a=false:=by
 rw [bytesLess_eq,(eT a a).2 rfl];rfl
theorem bD1 {a b c:List UInt8}(h1:Op.bytesLess a b=true) (h2:Op.bytesLess b c=true):Op.bytesLess a c=true:=by
 rw [bytesLess_eq,decide_eq_true_eq]at *
 exact(LCk.str.t3 a b c).1 h1 h2
structure BsP (R:List (List UInt8)) (s:List UInt8) (r:SV):Prop where
 ex: ∃(n:Nat) (b:Bool),r= .tup [.d (.int .i64 n), .d (.bool b)]/\(b=true->R[n]? =some s)/\(b=false->s∉R)
theorem aJ1 (R:List (List UInt8)) (s:List UInt8) (hR:R.Pairwise λx y=>Op.bytesLess x y=true) (hl:R.length<=1000000):Tri Tryz.prog 164 [.d (.sl 1 (R.map bJ)), .d (.str s)] [] (BsP R s):=by
 have hp:=List.pairwise_iff_getElem.1 hR
 refine qG [] hty Tryz.func164 [0,1,4,5,6,7,8,9,15,27] ?_
 refine qX ?_;intros
 rw [List.length_map]
 refine aD hty (λy:Nat×Nat=>([(0, .d (.sl 1 (R.map bJ))),(1, .d (.str s)),(6, .d (.int .i64 R.length)),(7, .d (.int .i64 y.1)),(8, .d (.int .i64 y.2))],[])) (λy=>(y.1<=y.2/\y.2<=R.length)/\(∀(k:Nat) (h:k < R.length),k < y.1->Op.bytesLess R[k] s=true)/\(∀(k:Nat) (h:k < R.length),y.2<=k->Op.bytesLess R[k] s=false)) (λy=>y.2 - y.1) (0,R.length) ⟨qO,λk h w=>by dsimp only at w;omega,λk h w=>by dsimp only at w;omega⟩ ⟨qB,qB⟩ ?_
 rintro⟨i,j⟩ ⟨⟨E,D⟩,t,p⟩
 dsimp only at E D t p |-
 have v:=bCd (i:=i) (j:=j) (by omega)
 refine qX ?_;intros
 refine aA (λA=> ?_) (λA=> ?_)
 ·obtain⟨h,hh⟩: ∃h,h=(i+j) / 2:=⟨_,rfl⟩
  have m:h < R.length:=by omega
  have o:=eI m
  have c:=aPd R[h] s
  have up:Op.bytesLess R[h] s=true-> ∀(k:Nat) (f:k < R.length),k < h+1->Op.bytesLess R[k] s=true:= λe k f hlt=>by
   by_cases l:k=h
   ·subst l;exact e
   ·exact bD1 (hp k h f m (by omega)) e
  have B:Op.bytesLess R[h] s=false-> ∀(k:Nat) (f:k < R.length),h<=k->Op.bytesLess R[k] s=false:= λe k f hle=>by
   by_cases l:k=h
   ·subst l;exact e
   ·rw [Bool.eq_false_iff]
    intro e2
    rw [bD1 (hp h k m f (by omega)) e2]at e
    cases e
  generalize Op.bytesLess R[h] s=b at *
  refine qX ?_;intros
  rw [v,<-hh]
  refine qZ ?_;intros
  cases b
  ·(repeat' first|(refine qW ?_;intros)|((conv=>whnf);first|refine dwR ?_|((first|refine aA ?_ ?_|refine aC ?_ ?_)<;>intro hb<;>(first|exact ddX hb|try simp only [lnS]at hb))|(refine aB ?_ ?_<;>intro hb<;>try exact dsX hb)))
   exact⟨(i,h),⟨qO,t,B rfl⟩,qO,⟨qB,qB⟩⟩
  ·(repeat' first|(refine qW ?_;intros)|((conv=>whnf);first|refine dwR ?_|((first|refine aA ?_ ?_|refine aC ?_ ?_)<;>intro hb<;>(first|exact ddX hb|try simp only [lnS]at hb))|(refine aB ?_ ?_<;>intro hb<;>try exact dsX hb)))
   exact⟨(h+1,j),⟨qO,up rfl,p⟩,qO,⟨qB,qB⟩⟩
 ·have q:i=j:=by omega
  subst q
  have a:(∀h:i < R.length,R[i]≠s)->s∉R:= λr C=>by
   obtain⟨k,f,rfl⟩:=List.getElem_of_mem C
   rcases Nat.lt_trichotomy k i with h|h|h
   ·have:=t k f h;rw [bD2]at this;cases this
   ·subst h;exact r f rfl
   ·have z:=p i (by omega) (Nat.le_refl _)
    rw [hp i k (by omega) f h]at z;cases z
  by_cases n:i < R.length
  ·have o:=eI n
   have u:R[i]? =some R[i]:=List.getElem?_eq_getElem n
   have c1:=aAv R[i]
   have c2:=aAv s
   have g:R[i]≠s->s∉R:= λh=>a λ_=>h
   clear a
   generalize R[i]=x at *
   (repeat' first|(refine qW ?_;intros)|((conv=>whnf);first|refine dwR ?_|((first|refine aA ?_ ?_|refine aC ?_ ?_)<;>intro hb<;>(first|exact ddX hb|try simp only [lnS]at hb))|(refine aB ?_ ?_<;>intro hb<;>try exact dsX hb)))
   all_goals first
    |(exact⟨i,true,rfl,λ_=>(by rw [u];simp_all),λh=>(by cases h)⟩)
    |(exact⟨i,false,rfl,λh=>(by cases h),λ_=>g (by assumption)⟩)
  ·(repeat' first|(refine qW ?_;intros)|((conv=>whnf);first|refine dwR ?_|((first|refine aA ?_ ?_|refine aC ?_ ?_)<;>intro hb<;>(first|exact ddX hb|try simp only [lnS]at hb))|(refine aB ?_ ?_<;>intro hb<;>try exact dsX hb)))
   all_goals exact⟨i,false,rfl,(λh=>by cases h),λ_=>a (λh=>absurd h n)⟩
def aBx (ents:List (Byt×SV)) (i:Nat):Byt:=(ents.map (·.1)).getD i []
theorem aTh {ents:List (Byt×SV)}{i:Nat}{p:Byt×SV}(h:ents[i]? =some p):i < ents.length/\aBx ents i=p.1:=by
 refine⟨(List.getElem?_eq_some_iff.1 h).1, ?_⟩
 rw [aBx,List.getD,List.getElem?_map,h];rfl
structure FreeM (pin:Pin) (fr:Fr) (hp:Hp) (c d:Nat):Prop where
 p: ∀k,100<=k->k < 200->k∉pin
 f: ∀k,100<=k->k < 200->k∉gD fr
 h: ∀k,100<=k->k < 200->k∉gH hp
 d1: ∀k,100<=k->k < 200->k≠d
 s: ∀o,lU hp ((c,o)::hp)
theorem FreeM.key {pin:Pin}{fr:Fr}{hp:Hp}{c d:Nat}(F:FreeM pin fr hp c d) {k:Nat}(h1:100<=k) (h2:k < 200) {x:Hp}(hs:lU hp x) {o:HObj}:lU hp ((k,o)::x):=
 gM hs λ_ hp e=>F.h k h1 h2 (e ▸ qE hp)
theorem aY3 (ents:List (Byt×SV)) (g:List Nat×Nat) (hlen:ents.length<=1000000) (d:Nat) (hp0:Hp) (hg:aP hp0 d=some (.ext (aC8 aGy ents g.1 g.2))) {pin:Pin}{fr:Fr}{K:SV->Hp->Prop}(F:FreeM pin fr hp0 51 d) (hcd:51≠d)
  (hk: ∀(ks':List Byt) (cap:Nat),ks'.Perm (ents.map (·.1))->K (.mw 145 1 ks'.length) ((145, .mrow 9 1 cap (ks'.map bJ))::(51, .cells 160 [.xv d rR])::hp0)):
  aF Tryz.prog pin fr ((51, .cells 160 [.xv d rR])::hp0) 223 [.d .nil, .fn 205 [] [.ptr 51 0]] K:=by
 have d1:=F.d1 141 (by omega) (by omega)
 have t:=F.d1 145 (by omega) (by omega)
 have w:=F.d1 147 (by omega) (by omega)
 have q:=F.d1 149 (by omega) (by omega)
 have C:=F.d1 170 (by omega) (by omega)
 have m:=F.p
 have G:=F.f
 have x:=F.h
 refine aF.weak ?_
 refine aG false [] hty Tryz.func223 rfl (kp [0,1,2,4,5,6,7]) 139 (by simp [Tryz.f223]) ?_
 ((conv=>whnf);repeat ((first|(refine And.intro (by refine⟨?_, ?_, ?_⟩<;>simp [bL,bB,gT,bU,dG,SV.ids,SV.idsL,dH,iL,iD,iM,iN,cD,eY,m,G,x,d1,t,w,q,C]) ?_)|(refine And.intro (by simp [SV.ids,SV.idsL]) ?_) |(intro c;try simp only [lnS]at c)|refine sI ?_|refine qE_ ?_);conv=>whnf))
 refine aK.mownC 141 145 46 9 1 0 rfl rfl (by refine⟨?_, ?_, ?_⟩<;>simp [bL,bB,gT,bU,dG,SV.ids,SV.idsL,dH,iL,iD,iM,iN,cD,eY,m,G,x,d1,t,w,q,C]) ?_
 refine rO 149 (by refine⟨?_, ?_, ?_⟩<;>simp [bL,bB,gT,bU,dG,SV.ids,SV.idsL,dH,iL,iD,iM,iN,cD,eY,m,G,x,d1,t,w,q,C]) trivial ?_
 ((conv=>whnf);repeat ((first |(intro c;try simp only [lnS]at c)|refine sI ?_|refine qE_ ?_);conv=>whnf))
 refine aG false [] hty Tryz.func205 rfl (kp [0,1,3,5,7,13]) 150 (by simp [Tryz.f205]) ?_
 ((conv=>whnf);repeat ((first|(refine aH8 (id:=d) (ents:=ents) (bs:=g.1) (clock:=g.2) rfl rfl rfl (aR (aR (aR (aR hg hcd) d1) t) q) 147 (by refine⟨?_, ?_, ?_⟩<;>simp [bL,bB,gT,bU,dG,SV.ids,SV.idsL,dH,iL,iD,iM,iN,cD,eY,m,G,x,d1,t,w,q,C]) ?_) |(intro c;try simp only [lnS]at c)|refine sI ?_|refine qE_ ?_);conv=>whnf))
 refine lS hty (λy:List Nat×Nat=>([(0, .yld 149),(5, .xv 147 aKn)],(147, .ext (aFx d g.1 g.2 y.1))::(149,_)::(145, .mrow 9 1 y.2 ((y.1.map (aBx ents)).map bJ))::(141, .cells 46 [.mw 145 1 y.1.length])::(51, .cells 160 [.xv d rR])::hp0)) (λy=>y.1.Nodup/\ ∀i∈y.1,i < ents.length) (λy=>ents.length - y.1.length) ([],0) ⟨.nil,by simp⟩ qB rfl ?_
 rintro⟨vis,cap⟩ ⟨k,n⟩
 dsimp only at k n
 have hvle:=aEg k n
 ((conv=>whnf);repeat ((first |(intro c;try simp only [lnS]at c)|refine sI ?_|refine qE_ ?_);conv=>whnf))
 refine aMj (id:=d) (it:=147) (ents:=ents) (bs:=g.1) (clock:=g.2) (vis:=vis) (kD:=aGy) rfl rfl rfl (aR (aR (aR (aR (aR hg hcd) d1) t) q) w) (λE=> ?_) (λi p hp A=> ?_)
 ·have u:=aMb (l:=ents.map (·.1)) k (by simpa using n) (λi hi=>E i (by simpa using hi)) (aBx ents) (λi h=>by rw [aBx,List.getD,List.getElem?_eq_getElem h];rfl)
  have r:=hk (vis.map (aBx ents)) cap u
  rw [List.length_map]at r
  ((conv=>whnf);repeat ((first |(intro c;try simp only [lnS]at c)|refine sI ?_|refine qE_ ?_);conv=>whnf))
  refine aG6 (x _ (by decide) (by decide)) ?_
  ((conv=>whnf);repeat ((first |(intro c;try simp only [lnS]at c)|refine sI ?_|refine qE_ ?_);conv=>whnf))
  refine⟨_, ?_,r⟩
  refine⟨rfl,rfl,F.key (by decide) (by decide) (F.key (by decide) (by decide) (F.key (by decide) (by decide) (F.s _)))⟩
 ·obtain⟨D,J⟩:=aTh hp
  have hvl2:vis.length+1<=ents.length:=by
   have L:(vis++[i]).Nodup:=by
    rw [List.nodup_append]
    exact⟨k,by simp,λa E b hb=>by simp at hb;subst hb;exact λe=>A (e ▸ E)⟩
   have:=aEg L (λj H=>by rcases List.mem_append.1 H with h|h;exact n j h;simp at h;subst h;exact D)
   simpa using this
  have o:((vis.map (aBx ents)).map bJ).length=vis.length:=by rw [List.length_map,List.length_map]
  have z:((vis.map (aBx ents)).map bJ).length+1<=9223372036854775807:=by rw [o];omega
  have B:(((vis.map (aBx ents)).map bJ).length+1)* 16<=140737488355328:=by rw [o];omega
  ((conv=>whnf);repeat ((first|(refine aIj (id:=d) (it:=147) (i:=i) (ents:=ents) (bs:=g.1) (clock:=g.2) (vis:=vis) (kD:=aGy) rfl rfl rfl (aR (aR (aR (aR (aR hg hcd) d1) t) q) w) hp ?_) |(intro c;try simp only [lnS]at c)|refine sI ?_|refine qE_ ?_);conv=>whnf))
  refine YVC.weak ?_
  refine kX [] hty (kp [0,1,2,4,5,6,7]) 160 rfl rfl ?_
  ((conv=>whnf);repeat ((first|(refine And.intro (by refine⟨?_, ?_, ?_⟩<;>simp [bL,bB,gT,bU,dG,SV.ids,SV.idsL,dH,iL,iD,iM,iN,cD,eY,m,G,x,d1,t,w,q,C]) ?_)|(refine And.intro o.symm ?_)|(refine And.intro z ?_)|(refine And.intro B ?_) |(intro c;try simp only [lnS]at c)|refine sI ?_|refine qE_ ?_);conv=>whnf))
  rename_i cap'
  refine aB9 ⟨rfl,rfl,rfl,rfl,rfl,F.key (Nat.le_of_ble_eq_true rfl) (Nat.le_of_ble_eq_true rfl) (F.key (by decide) (by decide) (F.key (by decide) (by decide) (F.key (by decide) (by decide) (F.key (by decide) (by decide) (F.s _)))))⟩ ?_
  refine qX ?_;intros
  have v:((vis++[i]).map (aBx ents)).map bJ=(vis.map (aBx ents)).map bJ++[[.str p.1]]:=by
   rw [List.map_append,List.map_append,<-J];rfl
  have I:SV.mw 145 1 (vis++[i]).length=SV.mw 145 1 (((vis.map (aBx ents)).map bJ).length+1):=by rw [o,List.length_append];rfl
  refine⟨(vis++[i],cap'),⟨?_, ?_⟩, ?_,qB, ?_⟩
  ·dsimp only
   rw [List.nodup_append]
   exact⟨k,by simp,λa E b hb=>by simp at hb;subst hb;exact λe=>A (e ▸ E)⟩
  ·intro j H
   rcases List.mem_append.1 H with h|h
   ·exact n j h
   ·simp at h;subst h;exact D
  ·dsimp only;rw [List.length_append];simp;omega
  ·dsimp only
   rw [v,I]
   rfl
theorem aVl (ents:List (Byt×SV)) (g:List Nat×Nat) (hlen:ents.length<=1000000) (d:Nat) (hp0:Hp) (hg:aP hp0 d=some (.ext (aC8 aGy ents g.1 g.2))) {pin:Pin}{fr:Fr}{K:SV->Hp->Prop}(F:FreeM pin fr hp0 51 d) (hcd:51≠d)
  (e:K (.d (.sl 1 ((lN (ents.map (·.1))).map bJ))) hp0):
  aF Tryz.prog pin fr ((51, .cells 160 [.xv d rR])::hp0) 161 [.fn 205 [] [.ptr 51 0]] K:=by
 have d1:=F.d1 141 (by omega) (by omega)
 have j:=F.p
 have o:=F.f
 have n:=F.h
 refine aF.frozR ?_
 refine aG false [] hty Tryz.func161 rfl (kp [0,2,3]) 110 (by simp [Tryz.f161]) ?_
 refine qX ?_;intros
 refine aG false [] hty Tryz.func204 rfl (kp [0,2]) 120 (by simp [Tryz.f204]) ?_
 refine qX ?_;intros
 refine aY3 ents g hlen d hp0 hg ⟨λk e m=>by simp [bL,bB,SV.ids,SV.idsL,cD,j k e m,o k e m];omega,λk e m=>by simp [bL,bB,SV.ids,SV.idsL,dG,cD];omega,n,F.d1,F.s⟩ hcd (λb cap a=> ?_)
 have c:=a.length_eq
 rw [List.length_map]at c
 refine qX ?_;intros
 refine xH Tryz.sortStr b rfl rfl (by omega) ?_
 have i:(b.mergeSort λx y=>decide (x<=y))=lN (ents.map (·.1)):=mergeSort_of_perm a
 rw [i]
 have l:(lN (ents.map (·.1))).length=ents.length:=by
  have:=(List.mergeSort_perm (ents.map (·.1)) λx y=>decide (x<=y)).length_eq
  rw [List.length_map]at this
  exact this
 refine qX ?_;intros
 refine⟨145,_,1,cap,b.length,_,hp0,rfl,rfl,by rw [List.length_map,l];exact c,F.key (by decide) (by decide) (F.s _),aB1 (n _ (by decide) (by decide)),e⟩
theorem aY2 (ents:List (Byt×SV)) (g:List Nat×Nat) (hlen:ents.length<=1000000) (d:Nat) (hp0:Hp) (hg:aP hp0 d=some (.ext (aC8 aGy ents g.1 g.2))) {pin:Pin}{fr:Fr}{K:SV->Hp->Prop}(F:FreeM pin fr hp0 53 d) (hcd:53≠d)
  (hk: ∀(ks':List Byt) (cap:Nat),ks'.Perm (ents.map (·.1))->K (.mw 145 1 ks'.length) ((145, .mrow 9 1 cap (ks'.map bJ))::(53, .cells 209 [.xv d rR])::hp0)):
  aF Tryz.prog pin fr ((53, .cells 209 [.xv d rR])::hp0) 223 [.d .nil, .fn 206 [] [.ptr 53 0]] K:=by
 have d1:=F.d1 141 (by omega) (by omega)
 have t:=F.d1 145 (by omega) (by omega)
 have w:=F.d1 147 (by omega) (by omega)
 have q:=F.d1 149 (by omega) (by omega)
 have C:=F.d1 170 (by omega) (by omega)
 have m:=F.p
 have G:=F.f
 have x:=F.h
 refine aF.weak ?_
 refine aG false [] hty Tryz.func223 rfl (kp [0,1,2,4,5,6,7]) 139 (by simp [Tryz.f223]) ?_
 ((conv=>whnf);repeat ((first|(refine And.intro (by refine⟨?_, ?_, ?_⟩<;>simp [bL,bB,gT,bU,dG,SV.ids,SV.idsL,dH,iL,iD,iM,iN,cD,eY,m,G,x,d1,t,w,q,C]) ?_)|(refine And.intro (by simp [SV.ids,SV.idsL]) ?_) |(intro c;try simp only [lnS]at c)|refine sI ?_|refine qE_ ?_);conv=>whnf))
 refine aK.mownC 141 145 46 9 1 0 rfl rfl (by refine⟨?_, ?_, ?_⟩<;>simp [bL,bB,gT,bU,dG,SV.ids,SV.idsL,dH,iL,iD,iM,iN,cD,eY,m,G,x,d1,t,w,q,C]) ?_
 refine rO 149 (by refine⟨?_, ?_, ?_⟩<;>simp [bL,bB,gT,bU,dG,SV.ids,SV.idsL,dH,iL,iD,iM,iN,cD,eY,m,G,x,d1,t,w,q,C]) trivial ?_
 ((conv=>whnf);repeat ((first |(intro c;try simp only [lnS]at c)|refine sI ?_|refine qE_ ?_);conv=>whnf))
 refine aG false [] hty Tryz.func206 rfl (kp [0,1,3,5,7,13]) 150 (by simp [Tryz.f206]) ?_
 ((conv=>whnf);repeat ((first|(refine aH8 (id:=d) (ents:=ents) (bs:=g.1) (clock:=g.2) rfl rfl rfl (aR (aR (aR (aR hg hcd) d1) t) q) 147 (by refine⟨?_, ?_, ?_⟩<;>simp [bL,bB,gT,bU,dG,SV.ids,SV.idsL,dH,iL,iD,iM,iN,cD,eY,m,G,x,d1,t,w,q,C]) ?_) |(intro c;try simp only [lnS]at c)|refine sI ?_|refine qE_ ?_);conv=>whnf))
 refine lS hty (λy:List Nat×Nat=>([(0, .yld 149),(5, .xv 147 aKn)],(147, .ext (aFx d g.1 g.2 y.1))::(149,_)::(145, .mrow 9 1 y.2 ((y.1.map (aBx ents)).map bJ))::(141, .cells 46 [.mw 145 1 y.1.length])::(53, .cells 209 [.xv d rR])::hp0)) (λy=>y.1.Nodup/\ ∀i∈y.1,i < ents.length) (λy=>ents.length - y.1.length) ([],0) ⟨.nil,by simp⟩ qB rfl ?_
 rintro⟨vis,cap⟩ ⟨k,n⟩
 dsimp only at k n
 have hvle:=aEg k n
 ((conv=>whnf);repeat ((first |(intro c;try simp only [lnS]at c)|refine sI ?_|refine qE_ ?_);conv=>whnf))
 refine aMj (id:=d) (it:=147) (ents:=ents) (bs:=g.1) (clock:=g.2) (vis:=vis) (kD:=aGy) rfl rfl rfl (aR (aR (aR (aR (aR hg hcd) d1) t) q) w) (λE=> ?_) (λi p hp A=> ?_)
 ·have u:=aMb (l:=ents.map (·.1)) k (by simpa using n) (λi hi=>E i (by simpa using hi)) (aBx ents) (λi h=>by rw [aBx,List.getD,List.getElem?_eq_getElem h];rfl)
  have r:=hk (vis.map (aBx ents)) cap u
  rw [List.length_map]at r
  ((conv=>whnf);repeat ((first |(intro c;try simp only [lnS]at c)|refine sI ?_|refine qE_ ?_);conv=>whnf))
  refine aG6 (x _ (by decide) (by decide)) ?_
  ((conv=>whnf);repeat ((first |(intro c;try simp only [lnS]at c)|refine sI ?_|refine qE_ ?_);conv=>whnf))
  refine⟨_, ?_,r⟩
  refine⟨rfl,rfl,F.key (by decide) (by decide) (F.key (by decide) (by decide) (F.key (by decide) (by decide) (F.s _)))⟩
 ·obtain⟨D,J⟩:=aTh hp
  have hvl2:vis.length+1<=ents.length:=by
   have L:(vis++[i]).Nodup:=by
    rw [List.nodup_append]
    exact⟨k,by simp,λa E b hb=>by simp at hb;subst hb;exact λe=>A (e ▸ E)⟩
   have:=aEg L (λj H=>by rcases List.mem_append.1 H with h|h;exact n j h;simp at h;subst h;exact D)
   simpa using this
  have o:((vis.map (aBx ents)).map bJ).length=vis.length:=by rw [List.length_map,List.length_map]
  have z:((vis.map (aBx ents)).map bJ).length+1<=9223372036854775807:=by rw [o];omega
  have B:(((vis.map (aBx ents)).map bJ).length+1)* 16<=140737488355328:=by rw [o];omega
  ((conv=>whnf);repeat ((first|(refine aIj (id:=d) (it:=147) (i:=i) (ents:=ents) (bs:=g.1) (clock:=g.2) (vis:=vis) (kD:=aGy) rfl rfl rfl (aR (aR (aR (aR (aR hg hcd) d1) t) q) w) hp ?_) |(intro c;try simp only [lnS]at c)|refine sI ?_|refine qE_ ?_);conv=>whnf))
  refine YVC.weak ?_
  refine kX [] hty (kp [0,1,2,4,5,6,7]) 160 rfl rfl ?_
  ((conv=>whnf);repeat ((first|(refine And.intro (by refine⟨?_, ?_, ?_⟩<;>simp [bL,bB,gT,bU,dG,SV.ids,SV.idsL,dH,iL,iD,iM,iN,cD,eY,m,G,x,d1,t,w,q,C]) ?_)|(refine And.intro o.symm ?_)|(refine And.intro z ?_)|(refine And.intro B ?_) |(intro c;try simp only [lnS]at c)|refine sI ?_|refine qE_ ?_);conv=>whnf))
  rename_i cap'
  refine aB9 ⟨rfl,rfl,rfl,rfl,rfl,F.key (Nat.le_of_ble_eq_true rfl) (Nat.le_of_ble_eq_true rfl) (F.key (by decide) (by decide) (F.key (by decide) (by decide) (F.key (by decide) (by decide) (F.key (by decide) (by decide) (F.s _)))))⟩ ?_
  refine qX ?_;intros
  have v:((vis++[i]).map (aBx ents)).map bJ=(vis.map (aBx ents)).map bJ++[[.str p.1]]:=by
   rw [List.map_append,List.map_append,<-J];rfl
  have I:SV.mw 145 1 (vis++[i]).length=SV.mw 145 1 (((vis.map (aBx ents)).map bJ).length+1):=by rw [o,List.length_append];rfl
  refine⟨(vis++[i],cap'),⟨?_, ?_⟩, ?_,qB, ?_⟩
  ·dsimp only
   rw [List.nodup_append]
   exact⟨k,by simp,λa E b hb=>by simp at hb;subst hb;exact λe=>A (e ▸ E)⟩
  ·intro j H
   rcases List.mem_append.1 H with h|h
   ·exact n j h
   ·simp at h;subst h;exact D
  ·dsimp only;rw [List.length_append];simp;omega
  ·dsimp only
   rw [v,I]
   rfl
theorem aVk (ents:List (Byt×SV)) (g:List Nat×Nat) (hlen:ents.length<=1000000) (d:Nat) (hp0:Hp) (hg:aP hp0 d=some (.ext (aC8 aGy ents g.1 g.2))) {pin:Pin}{fr:Fr}{K:SV->Hp->Prop}(F:FreeM pin fr hp0 53 d) (hcd:53≠d)
  (e:K (.d (.sl 1 ((lN (ents.map (·.1))).map bJ))) hp0):
  aF Tryz.prog pin fr ((53, .cells 209 [.xv d rR])::hp0) 161 [.fn 206 [] [.ptr 53 0]] K:=by
 have d1:=F.d1 141 (by omega) (by omega)
 have j:=F.p
 have o:=F.f
 have n:=F.h
 refine aF.frozR ?_
 refine aG false [] hty Tryz.func161 rfl (kp [0,2,3]) 110 (by simp [Tryz.f161]) ?_
 refine qX ?_;intros
 refine aG false [] hty Tryz.func204 rfl (kp [0,2]) 120 (by simp [Tryz.f204]) ?_
 refine qX ?_;intros
 refine aY2 ents g hlen d hp0 hg ⟨λk e m=>by simp [bL,bB,SV.ids,SV.idsL,cD,j k e m,o k e m];omega,λk e m=>by simp [bL,bB,SV.ids,SV.idsL,dG,cD];omega,n,F.d1,F.s⟩ hcd (λb cap a=> ?_)
 have c:=a.length_eq
 rw [List.length_map]at c
 refine qX ?_;intros
 refine xH Tryz.sortStr b rfl rfl (by omega) ?_
 have i:(b.mergeSort λx y=>decide (x<=y))=lN (ents.map (·.1)):=mergeSort_of_perm a
 rw [i]
 have l:(lN (ents.map (·.1))).length=ents.length:=by
  have:=(List.mergeSort_perm (ents.map (·.1)) λx y=>decide (x<=y)).length_eq
  rw [List.length_map]at this
  exact this
 refine qX ?_;intros
 refine⟨145,_,1,cap,b.length,_,hp0,rfl,rfl,by rw [List.length_map,l];exact c,F.key (by decide) (by decide) (F.s _),aB1 (n _ (by decide) (by decide)),e⟩
def aQc (p:Nat×Bool):List D:=[.int .i64 p.1, .bool p.2]
def aGf (l:List (Nat×Bool)):List D:=[.sl 2 (l.map aQc)]
def aJq (R:List Str):D:= .sl 1 (R.map bJ)
def bDb (M:List (Str×Inn)) (R:List Str) (a:Str) (l:List (Nat×Bool)):Prop:= ∀to t,(to,t)∈l↔ ∃b,R[to]? =some b/\ME M a b t
theorem bCg {M:List (Str×Inn)}(hn:(M.map (·.1)).Nodup) {G:Adj}(hl:G.length=(lN (M.map (·.1))).length) (h: ∀i a,(lN (M.map (·.1)))[i]? =some a->bDb M (lN (M.map (·.1))) a (nZ G i)):GOk M (lN (M.map (·.1))) G where
 len:=hl
 nd:=(List.mergeSort_perm _ _).nodup_iff.2 hn
 mem:= λa=>aAp
 sound:= λi j t e=>by
  have hi:=aUn e
  obtain⟨b,c,d⟩:=(h i _ (List.getElem?_eq_getElem (by omega)) j t).1 e
  exact⟨(List.getElem?_eq_some_iff.1 c).1,_,b,List.getElem?_eq_getElem (by omega),c,d⟩
 full:= λi j t a b c d f=>(h i a c j t).2 ⟨b,d,f⟩
theorem aT6 (M:List (Str×Inn)) (g:List Nat×Nat) (hp0:Hp) (F:FarH hp0) (k:Nat) (a:k∈gH (mpH M g hp0)):k=33\/(80<=k/\k < 100)\/(1000<=k/\k < 1000+M.length):=by
 have := aEv M g hp0 F k (by
  unfold stH
  rw [bU]
  exact List.mem_append_right _ a)
 by_cases h:k=23
 ·subst h
  unfold mpH at a
  rw [bU,aMu]at a
  simp only [List.mem_append,List.mem_cons]at a
  rcases a with(a|a)|a|a
  ·cases a
  ·have a:23∈aUw (mU 0 M):=a
   have:=aKy 0 M 23 a;omega
  ·have:=aTo 0 M 23 a;omega
  ·have:=F.lo 23 a;omega
 ·omega
theorem nE {M:List (Str×Inn)}{g:List Nat×Nat}{hp0:Hp}(F:FarH hp0):lU (mpH M g hp0) (mpH M g hp0):=by
 refine uE λp hp=> ?_
 have a:=uD (aJr (M:=M) (g:=g) F) p (List.mem_cons_of_mem _ hp)
 have h2:=aT6 M g hp0 F p.1 (qE hp)
 have b:aP ((23,HObj.cells 160 [.xv 33 rR])::mpH M g hp0) p.1=some p.2:=a
 rwa [aP,if_neg (by omega)]at b
theorem bAa {M:List (Str×Inn)}{a:Str}(h:a∈M.map (·.1)): ∃i x,aC6 a M=some i/\M[i]? =some (a,x):=by
 cases hp:aC6 a M with
 |none=>exact absurd h (aAd.1 hp)
 |some i=>
  obtain⟨x,hx⟩:=aAc hp
  exact⟨i,x,rfl,hx⟩
theorem aTy (l:List (Str×Bool)):(aGi l).map (·.1)=l.map (·.1):=by
 unfold aGi;rw [List.map_map];rfl
theorem nmC {k id:Nat}{o:HObj}{hp:Hp}(h1:k≠id) (h2:k∉o.ids) (h3:k∉gH hp):k∉gH ((id,o)::hp):=by
 rw [bU]
 simp only [List.cons_append,List.mem_cons,List.mem_append]
 rintro(h|h|h)
 ·exact h1 h
 ·exact h2 h
 ·exact h3 h
theorem aTp {k:Nat}{o:HObj}{hp:Hp}(h:lU hp hp) (hk: ∀p∈hp,p.1≠k):lU ((k,o)::hp) ((k,o)::hp):=
 ⟨gF,gM h hk⟩
theorem kyC {k id:Nat}{o:HObj}{hp:Hp}(h1:id≠k) (h: ∀p∈hp,p.1≠k): ∀p∈(id,o)::hp,p.1≠k:=by
 intro p hp
 rcases List.mem_cons.1 hp with rfl|hp
 ·exact h1
 ·exact h p hp
theorem kyN {k:Nat}{hp:Hp}(h:k∉gH hp): ∀p∈hp,p.1≠k:= λp hp e=>h (e ▸ qE hp)
theorem aMy {pin:Pin}{fr:Fr}{hp:Hp}{c d:Nat}(h1: ∀k,100<=k->k < 200->k∉pin) (h2: ∀k,100<=k->k < 200->k∉gD fr) (h3: ∀k,100<=k->k < 200->k∉gH hp) (h4:d < 100\/200<=d) (h5:lU hp hp) (h6:c∉gH hp):FreeM pin fr hp c d:=
 ⟨h1,h2,h3,λk _ _=>by omega,λo=>gM h5 λp hp e=>h6 (e ▸ qE hp)⟩
theorem aMm {β:Type}{k:Str}: ∀{l:List (Str×β)},k∈l.map (·.1)↔ ∃v,qD l k=some v
 | []=>by simp [qD]
 |(q,w)::r=>by
  rw [qD]
  by_cases h:k=q
  ·rw [if_pos h];simp [h]
  ·rw [if_neg h,<-aMm];simp [h]
theorem aFr (M:List (Str×Inn)) (g:List Nat×Nat) (hn:(M.map (·.1)).Nodup) (hl:M.length<=1000000) (hli: ∀p∈M,p.2.1.length<=1000000) (hp0:Hp) (F:FarH hp0) {pin:Pin}{fr:Fr}{K:SV->Hp->Prop}(hp1: ∀k,(50<=k/\k < 80)\/(100<=k/\k < 200)->k∉pin) (hf: ∀k,(50<=k/\k < 80)\/(100<=k/\k < 200)->k∉gD fr)
  (hk: ∀R G,GOk M R G->R.length=M.length->K (.agg [.d (aJq R), .osl 65 1 (G.map aGf)]) hp0):
  aF Tryz.prog pin fr (mpH M g hp0) 108 [.xv 33 rR] K:=by
 have hI:=aT6 M g hp0 F
 refine aF.weak ?_
 refine aG false [] hty Tryz.func108 rfl (kp [0,2,4,5,7,8,9,15,16,17,18,25,26,27,28,38]) 60 (by simp [Tryz.f108]) ?_
 have c: ∀k,(50<=k/\k < 80)\/(100<=k/\k < 200)->k∉pin.under fr (gD fr):= λk h q=>(iS.1 q).elim (hp1 k h) (hf k h)
 have m: ∀k,(50<=k/\k < 80)\/(100<=k/\k < 200)->k∉gH (mpH M g hp0):= λk h q=>by have:=hI k q;omega
 ((conv=>whnf);repeat ((first|(refine And.intro (show fE 62 _ _ _ from⟨c _ (by omega),by simp [bL,bB,SV.ids,SV.idsL,dG,cD],m _ (by omega)⟩) ?_) |(intro f;try simp only [lnS]at f)|refine sI ?_|refine qE_ ?_);conv=>whnf))
 refine aG false [] hty Tryz.func162 rfl (kp [0,1,2]) 50 (by simp [Tryz.f162]) ?_
 ((conv=>whnf);repeat ((first|(refine And.intro (show fE 51 _ _ _ from⟨by intro q;exact(iS.1 q).elim (c _ (by omega)) (by simp [bL,bB,SV.ids,SV.idsL,dG,cD]),by simp [bL,bB,SV.ids,SV.idsL,dG,cD],nmC (show 51≠62 by decide) (by simp [dH,SV.ids,SV.idsL]) (m _ (by omega))⟩) ?_)|(refine And.intro (by simp [SV.ids,SV.idsL]) ?_) |(intro f;try simp only [lnS]at f)|refine sI ?_|refine qE_ ?_);conv=>whnf))
 have z: ∀{hp:Hp} (k:Nat) (o:HObj),(50<=k/\k < 80)\/(100<=k/\k < 200)->lU (mpH M g hp0) hp->lU (mpH M g hp0) ((k,o)::hp):= λk o hk h=>gM h (kyN (m k hk))
 have w: ∀o:HObj,lU ((62,o)::mpH M g hp0) ((62,o)::mpH M g hp0):= λo=>aTp (nE F) (kyN (m _ (by omega)))
 refine aVl (mU 0 M) g (by rw [aN5];exact hl) 33 _ (aR gF (show 62≠33 by decide)) (aMy (λk a b=>c k (by omega)) (λk a b=>by simp [eQ,bL,bB,SV.ids,SV.idsL,dG,cD];omega) (λk a b=>nmC (show k≠62 by omega) (by simp [dH,SV.ids,SV.idsL]) (m k (by omega))) (.inl (by decide)) (w _) (nmC (show 51≠62 by decide) (by simp [dH,SV.ids,SV.idsL]) (m _ (by omega)))) (by decide) ?_
 rw [aIk]
 have b0:(lN (M.map (·.1))).length=M.length:=by
  have:=(List.mergeSort_perm (M.map (·.1)) λx y=>decide (x<=y)).length_eq
  rw [List.length_map]at this
  exact this
 have b7:=aGz hn
 have b4: ∀a,a∈lN (M.map (·.1))->a∈M.map (·.1):= λa h=>aAp.1 h
 have c1:(lN (M.map (·.1))).Nodup:=(List.mergeSort_perm _ _).nodup_iff.2 hn
 have a7:= λG B N=>hk _ G (bCg hn B N) b0
 generalize lN (M.map (·.1))=R at *
 ((conv=>whnf);repeat ((first |(intro f;try simp only [lnS]at f)|refine sI ?_|refine qE_ ?_);conv=>whnf))
 rw [List.length_map]
 refine aK.ownC 62 65 158 210 1 1 rfl rfl ⟨c _ (by omega),by simp [bL,bB,SV.ids,SV.idsL,dG,cD],nmC (show 65≠62 by decide) (by simp [dH,SV.ids,SV.idsL]) (m _ (by omega))⟩ ?_
 refine aD hty (λy:Nat×Adj=>([(0, .xv 33 rR),(2, .ptr 62 0),(15, .d (aJq R)),(16, .d (.int .i64 R.length)),(17, .d (.int .i64 y.1))],(65, .own 210 1 (y.2.map aGf).length)::(62, .cells 158 [.d (aJq R), .osl 65 1 (y.2.map aGf)])::mpH M g hp0)) (λy=>(y.1<=R.length/\y.2.length=y.1)/\ ∀i a,i < y.1->R[i]? =some a->bDb M R a (nZ y.2 i)) (λy=>R.length - y.1) (0,[]) ⟨by exact⟨Nat.zero_le _,rfl⟩,λi a h=>by dsimp only at h;omega⟩ ⟨qB,rfl,rfl,gM (gM (nE F) (kyN (m _ (by omega)))) (kyN (m _ (by omega)))⟩ ?_
 rintro⟨j,G⟩ ⟨⟨hj,Z⟩,hG⟩
 dsimp only at hj Z hG
 ((conv=>whnf);repeat ((first |(intro f;try simp only [lnS]at f)|refine sI ?_|refine qE_ ?_);conv=>whnf))
 refine aA (λB=> ?_) (λB=> ?_)
 ·have J:j < R.length:=by dsimp only at B;omega
  have V:=eI J
  have b5:R[j]? =some R[j]:=List.getElem?_eq_getElem J
  obtain⟨i,x,a4,hi⟩:=bAa (b4 _ (List.getElem_mem J))
  generalize R[j]=a at *
  have hm:=qC a 0 M
  rw [a4]at hm
  have a1:=aB0 0 M i _ hp0 hi
  have Y:=hli _ (List.mem_of_getElem? hi)
  dsimp only at Y
  ((conv=>whnf);repeat ((first|(refine⟨_,V, ?_⟩) |(intro f;try simp only [lnS]at f)|refine sI ?_|refine qE_ ?_);conv=>whnf))
  refine eC (id:=33) (ents:=mU 0 M) (k:=a) (bs:=g.1) (clock:=g.2) rfl rfl (eN rfl) rfl rfl rfl rfl ?_
  rw [hm,show wU false (Option.map (λi=>SV.xv (1000+(0+i)) rR) (some i)) (ofV (Value.map none))=SV.xv (1000+(0+i)) rR from rfl]
  ((conv=>whnf);repeat ((first |(intro f;try simp only [lnS]at f)|refine sI ?_|refine qE_ ?_);conv=>whnf))
  have A: ∀k o,(50<=k/\k < 80)\/(100<=k/\k < 200)->k≠65->k≠62->k∉gH ((65, .own 210 1 o)::(62, .cells 158 [.d (aJq R), .osl 65 1 (G.map aGf)])::mpH M g hp0):= λk o h B N=>nmC B (by simp [iD]) (nmC N (by simp [dH,SV.ids,SV.idsL,B]) (m k h))
  have L: ∀o,lU ((65, .own 210 1 o)::(62, .cells 158 [.d (aJq R), .osl 65 1 (G.map aGf)])::mpH M g hp0) ((65, .own 210 1 o)::(62, .cells 158 [.d (aJq R), .osl 65 1 (G.map aGf)])::mpH M g hp0):= λo=>aTp (w _) (kyC (by decide) (kyN (m _ (by omega))))
  refine aG false [] hty Tryz.func163 rfl (kp [0,1,2]) 52 (by simp [Tryz.f163]) ?_
  ((conv=>whnf);repeat ((first|(refine And.intro (show fE 53 _ _ _ from⟨by intro q;exact(iS.1 q).elim (c _ (by omega)) (by simp [bL,bB,SV.ids,SV.idsL,dG,cD];omega),by simp [bL,bB,SV.ids,SV.idsL,dG,cD];omega,A 53 _ (by omega) (by decide) (by decide)⟩) ?_)|(refine And.intro (by simp [SV.ids,SV.idsL];omega) ?_) |(intro f;try simp only [lnS]at f)|refine sI ?_|refine qE_ ?_);conv=>whnf))
  refine aVk (aGi x.1) x.2 (by unfold aGi;rw [List.length_map];exact Y) (1000+(0+i)) _ (aR (aR (aR a1 (show 33≠1000+(0+i)by omega)) (show 62≠1000+(0+i)by omega)) (show 65≠1000+(0+i)by omega)) (aMy (λk a b=>c k (by omega)) (λk a b=>by simp [eQ,bL,bB,SV.ids,SV.idsL,dG,cD];omega) (λk a b=>A k _ (by omega) (by omega) (by omega)) (.inr (by omega)) (L _) (A 53 _ (by omega) (by decide) (by decide))) (by omega) ?_
  rw [aTy]
  have hSl:(lN (x.1.map (·.1))).length=x.1.length:=by
   have:=(List.mergeSort_perm (x.1.map (·.1)) λx y=>decide (x<=y)).length_eq
   rw [List.length_map]at this
   exact this
  have a2: ∀s,s∈lN (x.1.map (·.1))↔ ∃v,qD x.1 s=some v:= λs=>aAp.trans aMm
  have a5: ∀b t,ME M a b t↔qD x.1 b=some t:= λb t=>by
   constructor
   ·rintro⟨P,x',B,N⟩
    have:=aFq hn hi B
    subst this
    rw [hi]at B
    simp at B
    rw [B];exact N
   ·intro h;exact⟨i,x,hi,h⟩
  generalize lN (x.1.map (·.1))=S at *
  ((conv=>whnf);repeat ((first |(intro f;try simp only [lnS]at f)|refine sI ?_|refine qE_ ?_);conv=>whnf))
  rw [List.length_map]
  refine aK.own 5 66 215 2 rfl ⟨c _ (by omega),by simp [bL,bB,SV.ids,SV.idsL,dG,cD],A 66 _ (by omega) (by decide) (by decide)⟩ ?_
  refine aD hty (λy:Nat×List (Nat×Bool)=>([(0, .xv 33 rR),(2, .ptr 62 0),(4, .d (.str a)),(5, .osl 66 2 (y.2.map aQc)),(15, .d (aJq R)),(16, .d (.int .i64 R.length)),(17, .d (.int .i64 j)),(25, .d (aJq S)),(26, .d (.int .i64 S.length)),(27, .d (.int .i64 y.1))],(66, .own 215 2 (y.2.map aQc).length)::(65, .own 210 1 (G.map aGf).length)::(62, .cells 158 [.d (aJq R), .osl 65 1 (G.map aGf)])::mpH M g hp0)) (λy=>(y.1<=S.length/\y.2.length<=y.1)/\ ∀U t,(U,t)∈y.2↔ ∃b,b∈S.take y.1/\R[U]? =some b/\qD x.1 b=some t) (λy=>S.length - y.1) (0,[]) ⟨by exact⟨Nat.zero_le _,Nat.le_refl _⟩,λU t=>by simp⟩ ⟨qB,rfl,rfl,rfl,z 66 _ (by omega) (z 65 _ (by omega) (z 62 _ (by omega) (nE F)))⟩ ?_
  rintro⟨k,l⟩ ⟨⟨b2,b1⟩,H⟩
  dsimp only at b2 b1 H
  ((conv=>whnf);repeat ((first |(intro f;try simp only [lnS]at f)|refine sI ?_|refine qE_ ?_);conv=>whnf))
  refine aA (λN=> ?_) (λN=> ?_)
  ·have E:k < S.length:=by dsimp only at N;omega
   have T:=eI E
   have a9:S.take (k+1)=S.take k++[S[k]]:=List.take_succ_eq_append_getElem E
   obtain⟨v,hv⟩:=(a2 _).1 (List.getElem_mem E)
   generalize S[k]=s at *
   have bs:=aJ1 R s b7 (by omega)
   ((conv=>whnf);repeat ((first|(refine⟨_,T, ?_⟩) |(intro f;try simp only [lnS]at f)|refine sI ?_|refine qE_ ?_);conv=>whnf))
   refine aL [] bs trivial (λr hs=> ?_)
   obtain⟨n,b,rfl,b3,b8⟩:=hs.ex
   cases b
   ·((conv=>whnf);repeat' ((first|(intro f;(try simp only [lnS]at f);(try rewrite [List.length_map]))|refine sJ ?_|refine qE_ ?_|refine exL (k:=?_)|refine dwR ?_|((first|refine aA ?_ ?_|refine aC ?_ ?_)<;>intro hb<;>(first|exact ddX hb|try simp only [lnS]at hb))|(refine aB ?_ ?_<;>intro hb<;>try exact dsX hb))<;>(conv=>whnf)))
    refine⟨(k+1,l),⟨qO,λU t=> ?_⟩,qO,⟨qB,rfl,rfl,rfl,z 66 _ (by omega) (z 65 _ (by omega) (z 62 _ (by omega) (nE F)))⟩⟩
    rw [H,a9]
    constructor
    ·rintro⟨b,u,C⟩;exact⟨b,List.mem_append_left _ u,C⟩
    ·rintro⟨b,u,C,D⟩
     rcases List.mem_append.1 u with u|u
     ·exact⟨b,u,C,D⟩
     ·simp at u;subst u
      exact absurd (List.mem_of_getElem? C) (b8 rfl)
   ·have O:=b3 rfl
    have a8:=aHy (qD x.1 s)
    rw [<-aAo,hv]at a8
    have a3:(l.map aQc).length=l.length:=List.length_map ..
    have W:(l.map aQc).length+1<=9223372036854775807:=by rw [a3];omega
    have a6:((l.map aQc).length+1)* 16<=140737488355328:=by rw [a3];omega
    ((conv=>whnf);repeat ((first |(intro f;try simp only [lnS]at f)|refine sI ?_|refine qE_ ?_);conv=>whnf))
    refine eC (id:=33) (ents:=mU 0 M) (k:=a) (bs:=g.1) (clock:=g.2) rfl rfl (eN rfl) rfl rfl rfl rfl ?_
    rw [hm,show wU false (Option.map (λi=>SV.xv (1000+(0+i)) rR) (some i)) (ofV (Value.map none))=SV.xv (1000+(0+i)) rR from rfl]
    ((conv=>whnf);repeat ((first |(intro f;try simp only [lnS]at f)|refine sI ?_|refine qE_ ?_);conv=>whnf))
    refine eC (id:=1000+(0+i)) (ents:=aGi x.1) (k:=s) (bs:=x.2.1) (clock:=x.2.2) rfl rfl (eN rfl) rfl rfl (aR (aR (aR (aR a1 (show 33≠1000+(0+i)by omega)) (show 62≠1000+(0+i)by omega)) (show 65≠1000+(0+i)by omega)) (show 66≠1000+(0+i)by omega)) rfl ?_
    rw [show ofV (Value.bool false)=SV.d (.bool false)from rfl,a8]
    ((conv=>whnf);repeat ((first|(refine And.intro (show fE 107 _ _ _ from⟨c _ (by omega),by simp [eQ,aC7,jV,bAx,bL,bB,SV.ids,SV.idsL,dG,cD]<;>omega,nmC (show 107≠66 by decide) (by simp [iD]) (A 107 _ (by omega) (by decide) (by decide))⟩) ?_)|(refine And.intro W ?_)|(refine And.intro a6 ?_) |(intro f;try simp only [lnS]at f)|refine sI ?_|refine qE_ ?_);conv=>whnf))
    have Q:(l++[(n,v)]).map aQc=l.map aQc++[[.int .i64 n, .bool v]]:=by rw [List.map_append];rfl
    refine⟨(k+1,l++[(n,v)]),⟨⟨qO,by dsimp only;rw [List.length_append,List.length_singleton];omega⟩,λU t=> ?_⟩,qO, ?_⟩
    ·rw [a9]
     dsimp only
     rw [List.mem_append,H]
     constructor
     ·rintro(⟨b,u,C⟩|q)
      ·exact⟨b,List.mem_append_left _ u,C⟩
      ·simp at q
       obtain⟨rfl,rfl⟩:=q
       exact⟨s,by simp,O,hv⟩
     ·rintro⟨b,u,C,D⟩
      rcases List.mem_append.1 u with u|u
      ·exact .inl ⟨b,u,C,D⟩
      ·simp at u;subst u
       right
       rw [hv]at D
       injection D with D
       obtain⟨e1,e2⟩:=List.getElem?_eq_some_iff.1 C
       obtain⟨e3,e4⟩:=List.getElem?_eq_some_iff.1 O
       have:=(List.getElem_inj c1).1 (e2.trans e4.symm)
       simp [this,D]
    ·dsimp only
     rw [Q,List.length_append]
     exact⟨qB,rfl,rfl,rfl,z _ _ (by right;exact⟨Nat.le_of_ble_eq_true rfl,Nat.le_of_ble_eq_true rfl⟩) (z 66 _ (by omega) (z 65 _ (by omega) (z 62 _ (by omega) (nE F))))⟩
  ·((conv=>whnf);repeat ((first|(refine And.intro (show fE 113 _ _ _ from⟨c _ (by omega),by simp [eQ,bL,bB,SV.ids,SV.idsL,dG,cD],nmC (show 113≠66 by decide) (by simp [iD]) (A 113 _ (by omega) (by decide) (by decide))⟩) ?_) |(intro f;try simp only [lnS]at f)|refine sI ?_|refine qE_ ?_);conv=>whnf))
   have E:k=S.length:=by dsimp only at N;omega
   subst E
   rw [List.take_length]at H
   have Q:(G++[l]).map aGf=G.map aGf++[aGf l]:=by rw [List.map_append];rfl
   refine⟨(j+1,G++[l]),⟨⟨qO,by dsimp only;rw [List.length_append,List.length_singleton];omega⟩,λP a' b9 I=> ?_⟩,qO, ?_⟩
   ·dsimp only at b9 |-
    by_cases b6:P < j
    ·have e:nZ (G++[l]) P=nZ G P:=by
      unfold nZ
      rw [List.getElem?_append_left (by omega)]
     rw [e]
     exact hG P a' b6 I
    ·have:P=j:=by omega
     subst this
     rw [b5]at I
     injection I with I
     subst I
     have e:nZ (G++[l]) P=l:=by
      unfold nZ
      rw [List.getElem?_append_right (by omega),Z,Nat.sub_self];rfl
     rw [e]
     intro U t
     rw [H]
     constructor
     ·rintro⟨b,u,C,D⟩;exact⟨b,C,(a5 b t).2 D⟩
     ·rintro⟨b,u,C⟩
      have D:=(a5 b t).1 C
      exact⟨b,(a2 b).2 ⟨t,D⟩,u,D⟩
   ·dsimp only
    rw [Q,List.length_append]
    exact⟨qB,rfl,rfl,z _ _ (by right;exact⟨Nat.le_of_ble_eq_true rfl,Nat.le_of_ble_eq_true rfl⟩) (z 66 _ (by omega) (z 65 _ (by omega) (z 62 _ (by omega) (nE F))))⟩
 ·have J:j=R.length:=by dsimp only at B;omega
  refine qX ?_;intros
  refine⟨hp0, ?_,a7 G (by omega) (λi a ha=>hG i a (by have:=(List.getElem?_eq_some_iff.1 ha).1;omega) ha)⟩
  have h0:lU hp0 (mpH M g hp0):=uE λp hp=>uD (nE F) p (List.mem_cons_of_mem _ (List.mem_append_right _ hp))
  exact gM (gM h0 λp hp e=>by have:=F.lo _ (qE hp);omega) λp hp e=>by have:=F.lo _ (qE hp);omega
structure RevI (l:List Int) (i:Nat) (rows:List Int):Prop where
 len:rows.length=l.length
 at_: ∀(k:Nat) (h:k < l.length),rows[k]'(by omega)=if k < i\/l.length<=k+i then l[l.length - 1 - k]'(by omega)else l[k]
theorem RevI.zero (l:List Int):RevI l 0 l:=⟨rfl,λk h=>by rw [if_neg (by omega)]⟩
theorem RevI.step {l rows:List Int}{i:Nat}(h:RevI l i rows) (hi:2 * i+1 < l.length) (x y:Int) (hx:x=l[l.length - 1 - i]'(by omega)) (hy:y=l[i]'(by omega)):RevI l (i+1) ((rows.set i x).set (l.length - 1 - i) y):=by
 have hl:=h.len
 refine⟨by simp [h.len],λk d=> ?_⟩
 rw [List.getElem_set,List.getElem_set]
 by_cases a:l.length - 1 - i=k
 ·rw [if_pos a,if_pos (by omega),hy];congr 1;omega
 ·rw [if_neg a]
  by_cases c:i=k
  ·rw [if_pos c,if_pos (by omega),hx];congr 1;omega
  ·rw [if_neg c,h.at_ k d]
   by_cases b:k < i\/l.length<=k+i
   ·rw [if_pos b,if_pos (by omega)]
   ·rw [if_neg b,if_neg (by omega)]
theorem RevI.done {l rows:List Int}{i:Nat}(h:RevI l i rows) (hi:l.length<=2 * i+1):rows=l.reverse:=by
 have hl:=h.len
 refine List.ext_getElem (by simp [h.len]) λk h1 h2=> ?_
 rw [List.getElem_reverse,h.at_ k (by omega)]
 by_cases a:k < i\/l.length<=k+i
 ·rw [if_pos a]
 ·rw [if_neg a];congr 1;omega
theorem RevI.mid {l rows:List Int}{i k:Nat}(h:RevI l i rows) (h1:i<=k) (h2:k+i < l.length):rows[k]'(by have:=h.len;omega)=l[k]'(by omega):=by
 rw [h.at_ k (by omega),if_neg (by omega)]
theorem aF7 (l:List Int) (cap:Nat) (rest:Hp) {pin:Pin}{fr:Fr}{K:SV->Hp->Prop}(hl:l.length<=1000000)
  (fin:K (eQ []) ((76, .mrow 3 1 cap (l.reverse.map aHr))::rest)):
  aF Tryz.prog pin fr ((76, .mrow 3 1 cap (l.map aHr))::rest) 167 [.mw 76 1 l.length] K:=by
 refine aL4 hty Tryz.func167 rfl (kp [0,2,3,9]) 500 (by simp [Tryz.f167]) ?_
 ((conv=>whnf);repeat ((first |(intro b;try simp only [lnS]at b)|refine sI ?_|refine qE_ ?_);conv=>whnf))
 refine lS hty (λy:Nat×List Int=>([(0, .mw 76 1 l.length),(2, .d (.int .i64 y.1)),(3, .d (.int .i64 (l.length - 1 - y.1)))],(76, .mrow 3 1 cap (y.2.map aHr))::rest)) (λy=>y.1<=l.length/\RevI l y.1 y.2) (λy=>l.length - y.1) (0,l) ⟨Nat.zero_le _, .zero l⟩ (by repeat' (first|exact trivial|exact rfl|exact bBf (qO)|refine And.intro ?_ ?_)) rfl ?_
 rintro⟨i,rows⟩ ⟨hi,a⟩
 dsimp only at hi a
 have hlen:=a.len
 ((conv=>whnf);repeat ((first |(intro b;try simp only [lnS]at b)|refine sI ?_|refine qE_ ?_);conv=>whnf))
 refine aA (λc=> ?_) (λc=> ?_)
 ·dsimp only at c
  (conv=>whnf)
  refine yR hty [0,1,2,3,4,5,6,7,8,9,10,11,12,13,14,15] (by kernel_rfl) (by kernel_rfl) ?_
  (repeat' first|(refine qW ?_;intros)|((conv=>whnf);first|(refine⟨_,aRz (by first|omega|(simp only [List.length_map];omega)), ?_⟩)|refine dwR ?_|((first|refine aA ?_ ?_|refine aC ?_ ?_)<;>intro hb<;>(first|exact ddX hb|try simp only [lnS]at hb))|(refine aB ?_ ?_<;>intro hb<;>try exact dsX hb)))
  refine⟨_,List.getElem?_eq_getElem (by simp only [List.length_set,List.length_map];omega), ?_⟩
  ((conv=>whnf);repeat' ((first|(intro b;(try simp only [lnS]at b);(try rewrite [List.length_map]))|refine sJ ?_|refine qE_ ?_|refine exL (k:=?_)| (refine⟨_,aRz (by first|omega|(simp only [List.length_map];omega)), ?_⟩)|refine dwR ?_|((first|refine aA ?_ ?_|refine aC ?_ ?_)<;>intro hb<;>(first|exact ddX hb|try simp only [lnS]at hb))|(refine aB ?_ ?_<;>intro hb<;>try exact dsX hb))<;>(conv=>whnf)))
  have e1:((l.length:Int) - 1 - (i:Int)).toNat=l.length - 1 - i:=by omega
  refine⟨(i+1,(rows.set i (rows[l.length - 1 - i]'(by omega))).set (l.length - 1 - i) (rows[i]'(by omega))),⟨qO,a.step (by omega) _ _ (a.mid (by omega) (by omega)) (a.mid (by omega) (by omega))⟩,qO,by repeat' (first|exact trivial|exact rfl|exact bBf (qO)|refine And.intro ?_ ?_), ?_⟩
  simp only [e1,Int.toNat_natCast,List.map_set]
  rfl
 ·dsimp only at c
  rw [a.done (by omega)]
  exact fin
end
end Go.Proofs.YtbobcfjlbcgchaaGreatDoor
