/-
  Terms: the shape and the names of an axiom.
  Conditions: none.
-/
import Derived.Test.YtbobcfjlbcgchaaGreatDoorWSna
import Derived.Test.YtbobcfjlbcgchaaGreatDoorWSnc
set_option linter.unusedSectionVars false
set_option linter.unusedSimpArgs false
set_option linter.unusedVariables false
set_option maxHeartbeats 8000000
namespace Go.Proofs.YtbobcfjlbcgchaaGreatDoor
section
inductive Cn where
 |mk (kind:Int) (name:List UInt8) (lo hi:Int) (parts:List Cn)
def Cn.kind:Cn->Int| .mk k _ _ _ _=>k
def Cn.name:Cn->List UInt8| .mk _ n _ _ _=>n
def Cn.lo:Cn->Int| .mk _ _ l _ _=>l
def Cn.hi:Cn->Int| .mk _ _ _ h _=>h
def Cn.parts:Cn->List Cn| .mk _ _ _ _ p=>p
mutual
def cnR:Cn->List D
 | .mk k n lo hi ps=>[.int .i64 k, .str n, .int .i64 lo, .int .i64 hi, .sl 5 (bCt ps)]
def bCt:List Cn->List (List D)
 | []=>[]
 |c::r=>cnR c::bCt r
end
theorem aGa: ∀l,bCt l=l.map cnR
 | []=>rfl
 |c::r=>by rw [bCt,aGa r];rfl
theorem aJ (c:Cn):cnR c=[.int .i64 c.kind, .str c.name, .int .i64 c.lo, .int .i64 c.hi, .sl 5 (c.parts.map cnR)]:=by
 cases c;rw [cnR,aGa];rfl
def cv (c:Cn):D:= .agg (cnR c)
def cnl (l:List Cn):D:= .sl 5 (l.map cnR)
mutual
theorem Cn.ind {p:Cn->Prop}(h: ∀c,(∀q∈c.parts,p q)->p c): ∀c,p c
 | .mk k n lo hi ps=>h _ (Cn.indL h ps)
theorem Cn.indL {p:Cn->Prop}(h: ∀c,(∀q∈c.parts,p q)->p c): ∀(l:List Cn),∀q∈l,p q
 | []=>by simp
 |c::r=>by
  intro q a
  rcases List.mem_cons.1 a with e|e
  ·rw [e];exact Cn.ind h c
  ·exact Cn.indL h r q e
end
def bJ (s:List UInt8):List D:=[.str s]
def aO6 (l:List (List UInt8)):D:= .sl 1 (l.map bJ)
structure Ax where
 kind:Int
 isopen:Bool
 left:Cn
 right:Cn
 roles:List (List UInt8)
 role:List UInt8
 a:List UInt8
 b:List UInt8
def axR (x : Ax) : List D := [.int .i64 x.kind, .bool x.isopen, .int .i64 x.left.kind, .str x.left.name, .int .i64 x.left.lo, .int .i64 x.left.hi, cnl x.left.parts,
 .int .i64 x.right.kind, .str x.right.name, .int .i64 x.right.lo, .int .i64 x.right.hi,cnl x.right.parts,aO6 x.roles, .str x.role, .str x.a, .str x.b]
theorem aYj {id:Nat}{pin:Pin}{fr0 fr:Fr}{hp:Hp}(h1: ∀k,100<=k->k∉pin) (h2: ∀k,100<=k->k∉gD fr0) (h4: ∀k,100<=k->k∉gH hp) (hid:100<=id) (h3:(gD fr).all (λk=>decide (k < 100))=true):fE id (pin.under fr0 (gD fr0)) fr hp:=by
 refine⟨?_, ?_,h4 id hid⟩
 ·simp [h1 id hid,h2 id hid]
 ·intro a
  have:=List.all_eq_true.1 h3 id a
  simp at this
  omega
theorem aXy {k0:Nat}{o:HObj}{hp:Hp}(h0:k0 < 100) (h1:o.ids=[]) (h2: ∀k,100<=k->k∉gH hp): ∀k,100<=k->k∉gH ((k0,o)::hp):=by
 intro k b a
 simp only [gH,List.flatMap_cons,List.mem_append,List.mem_cons,h1,List.not_mem_nil,or_false]at a
 rcases a with a|a
 ·omega
 ·exact h2 k b a
theorem bBa {pin:Pin}{fr0:Fr}(h1: ∀k,100<=k->k∉pin) (h2: ∀k,100<=k->k∉gD fr0): ∀k,100<=k->k∉pin.under fr0 (gD fr0):=by
 intro k a;simp [h1 k a,h2 k a]
theorem bBb {fr:Fr}(h3:(gD fr).all (λk=>decide (k < 100))=true): ∀k,100<=k->k∉gD fr:=by
 intro k hk a
 have:=List.all_eq_true.1 h3 k a
 simp at this
 omega
theorem bA {α:Type}{f:α->List D}{l:List α}{i:Nat}(h:i < l.length):(l.map f)[((i:Nat):Int).toNat]? =some (f l[i]):=by
 rw [Int.toNat_natCast,List.getElem?_map,List.getElem?_eq_getElem h];rfl
end
section
attribute [local irreducible] aK aF Tri aH YVC cG aT
set_option maxRecDepth 10000
mutual
def fV:Cn->Int->Int->Bool×Int
 | .mk _ _ _ _ ps,d,n=>if 8 < d\/64 < n+1 then (false,n+1)else gV ps d (n+1)
def gV:List Cn->Int->Int->Bool×Int
 | [],_,n=>(true,n)
 |c::r,d,n=>if (fV c (d+1) n).1=true then gV r d (fV c (d+1) n).2 else (false,(fV c (d+1) n).2)
end
theorem zA (c:Cn) (d n:Int):fV c d n=if 8 < d\/64 < n+1 then (false,n+1)else gV c.parts d (n+1):=by
 cases c;rw [fV];rfl
mutual
theorem aId: ∀(c:Cn) (d n:Int),0<=n->n<=64->0<=(fV c d n).2/\(fV c d n).2<=65/\((fV c d n).1=true->(fV c d n).2<=64)
 | .mk _ _ _ _ ps,d,n,h0,h1=>by
  rw [fV]
  split
  ·exact⟨by simp only;omega,by simp only;omega,by simp⟩
  ·exact vJ ps d (n+1) (by omega) (by omega)
theorem vJ: ∀(l:List Cn) (d n:Int),0<=n->n<=64->0<=(gV l d n).2/\(gV l d n).2<=65/\((gV l d n).1=true->(gV l d n).2<=64)
 | [],d,n,h0,h1=>by rw [gV];exact⟨h0,by simp only;omega,λ_=>h1⟩
 |c::r,d,n,h0,h1=>by
  have h:=aId c (d+1) n h0 h1
  rw [gV]
  split
  ·rename_i hb
   exact vJ r d _ h.1 (h.2.2 hb)
  ·exact⟨h.1,h.2.1,by simp⟩
end
theorem aTu: ∀(c:Cn) (d n:Int) (a:Hp) {pin:Pin}{fr:Fr}{K:SV->Hp->Prop}(_:0<=d/\d<=9) (_:0<=n/\n<=64) (_: ∀k,100<=k->k∉pin) (_: ∀k,100<=k->k∉gD fr) (_: ∀k,100<=k->k∉gH a)
  (_:K (.d (.bool (fV c d n).1)) ((3, .cells 3 [.d (.int .i64 (fV c d n).2)])::a)),
  aF Tryz.prog pin fr ((3, .cells 3 [.d (.int .i64 n)])::a) 146 [.d (.agg (cnR c)), .d (.int .i64 d), .ptr 3 0] K:=by
 refine Cn.ind ?_
 intro c s d n a pin fr K hd hn hp q l f
 rw [aJ]
 rw [zA]at f
 refine aG false [3,8] hty Tryz.func146 rfl (kp [0,1,2,3,6,8,21,23,24,25,26,34]) 100 (by simp [Tryz.f146]) ?_
 (repeat' first|(refine qW ?_;intros)|((conv=>whnf);first|(refine And.intro (aYj hp q (aXy (by decide) (by with_unfolding_all exact rfl) l) (Nat.le_of_ble_eq_true rfl) (by with_unfolding_all exact rfl)) ?_)|(refine And.intro (aXy (by decide) (by with_unfolding_all exact rfl) l _ (Nat.le_of_ble_eq_true rfl)) ?_)|refine dwR ?_|((first|refine aA ?_ ?_|refine aC ?_ ?_)<;>intro hb<;>(first|exact ddX hb|try simp only [lnS]at hb))|(refine aB ?_ ?_<;>intro hb<;>try exact dsX hb)))
 ·rw [if_pos (.inl (by assumption))]at f
  exact f
 ·rw [if_pos (.inr (by assumption))]at f
  exact f
 ·rw [if_neg (by omega)]at f
  have hb0:=vJ c.parts d (n+1) (by omega) (by omega)
  refine lS hty (λy:Nat×Int=>([(1, .d (.int .i64 d)),(2, .ptr 3 0),(23, .d (.sl 5 (c.parts.map cnR))),(24, .d (.int .i64 c.parts.length)),(25, .d (.int .i64 y.1))],(3, .cells 3 [.d (.int .i64 y.2)])::a)) (λy=>y.1<=c.parts.length/\(0<=y.2/\y.2<=64)/\gV c.parts d (n+1)=gV (c.parts.drop y.1) d y.2) (λy=>c.parts.length - y.1) (0,n+1) ⟨by omega,qO,by simp⟩ (by repeat' (first|exact trivial|exact rfl|(rw [List.length_map];exact rfl)|refine And.intro ?_ ?_)) rfl ?_
  rintro⟨j,m⟩ ⟨t,p,g⟩
  dsimp only at t p g
  refine qX ?_;intros
  refine aA (λr=> ?_) (λr=> ?_)
  ·have b:j < c.parts.length:=by omega
   have h:(c.parts.map cnR)[(j:Int).toNat]? =some (cnR c.parts[j]):=bA b
   have e:=h
   rw [aJ]at e
   rw [List.drop_eq_getElem_cons b,gV]at g
   have o:=aId c.parts[j] (d+1) m p.1 p.2
   (repeat' first|(refine qW ?_;intros)|((conv=>whnf);first|(refine And.intro (aYj hp q (aXy (by decide) (by with_unfolding_all exact rfl) l) (Nat.le_of_ble_eq_true rfl) (by with_unfolding_all exact rfl)) ?_)|(refine And.intro (aXy (by decide) (by with_unfolding_all exact rfl) l _ (Nat.le_of_ble_eq_true rfl)) ?_)|(refine⟨_,e, ?_⟩)|refine dwR ?_|((first|refine aA ?_ ?_|refine aC ?_ ?_)<;>intro hb<;>(first|exact ddX hb|try simp only [lnS]at hb))|(refine aB ?_ ?_<;>intro hb<;>try exact dsX hb)))
   have i:= @s c.parts[j] (List.getElem_mem b) (d+1) m a
   rw [aJ]at i
   refine i (by omega) p (bBa hp q) (bBb (by with_unfolding_all exact rfl)) l ?_
   cases hbv:(fV c.parts[j] (d+1) m).1
   ·rw [hbv,if_neg (by decide)]at g
    rw [g]at f
    (repeat' first|(refine qW ?_;intros)|((conv=>whnf);first|refine dwR ?_|((first|refine aA ?_ ?_|refine aC ?_ ?_)<;>intro hb<;>(first|exact ddX hb|try simp only [lnS]at hb))|(refine aB ?_ ?_<;>intro hb<;>try exact dsX hb)))
    exact f
   ·rw [hbv,if_pos rfl]at g
    (repeat' first|(refine qW ?_;intros)|((conv=>whnf);first|refine dwR ?_|((first|refine aA ?_ ?_|refine aC ?_ ?_)<;>intro hb<;>(first|exact ddX hb|try simp only [lnS]at hb))|(refine aB ?_ ?_<;>intro hb<;>try exact dsX hb)))
    exact⟨(j+1,(fV c.parts[j] (d+1) m).2),⟨qO,⟨o.1,o.2.2 hbv⟩,g⟩,qO,qB,rfl⟩
  ·have b:j=c.parts.length:=by dsimp only at r;omega
   subst b
   rw [List.drop_length,gV]at g
   rw [g]at f
   (repeat' first|(refine qW ?_;intros)|((conv=>whnf);first|refine dwR ?_|((first|refine aA ?_ ?_|refine aC ?_ ?_)<;>intro hb<;>(first|exact ddX hb|try simp only [lnS]at hb))|(refine aB ?_ ?_<;>intro hb<;>try exact dsX hb)))
   exact f
structure Need where
 name:Int
 least:Int
 most:Int
 nums:Bool
def aT4:List Need:=[⟨0,0,0,false⟩,⟨0,0,0,false⟩,⟨0,0,0,false⟩,⟨1,0,0,false⟩,⟨2,0,0,false⟩,⟨0,2,8,false⟩,⟨1,1,1,false⟩,⟨1,0,0,true⟩]
def aWw (n:Need):List D:=[.int .i64 n.name, .int .i64 n.least, .int .i64 n.most, .bool n.nums]
structure Use where
 left:Bool
 right:Bool
 role:Bool
 a:Bool
 b:Bool
 least:Int
 most:Int
def kR : List Use := [⟨false, false, false, false, false, 0, 0⟩, ⟨true, true, false, false, false, 0, 0⟩, ⟨true, true, false, false, false, 0, 0⟩, ⟨true, true, false, false, false, 0, 0⟩, ⟨false, true, true, false, false, 0, 0⟩,
 ⟨false,false,true,false,false,1,1⟩,⟨false,false,true,false,false,2,4⟩,⟨false,false,true,false,false,0,0⟩,⟨false,true,false,true,false,0,0⟩,⟨false,false,true,true,true,0,0⟩]
def aZ7 (u:Use):List D:=[.bool u.left, .bool u.right, .bool u.role, .bool u.a, .bool u.b, .int .i64 u.least, .int .i64 u.most]
def NG:Hp:=[(90, .glob 3 4 (aT4.map aWw)),(91, .glob 0 7 (kR.map aZ7))]
def gA (k:Int):Need:=aT4.getD k.toNat ⟨0,0,0,false⟩
def cC (k:Int):Use:=kR.getD k.toNat ⟨false,false,false,false,false,0,0⟩
theorem aWv {k:Int}(h:1<=k/\k<=7):(aT4.map aWw)[k.toNat]? =some (aWw (gA k)):=by
 have hl:k.toNat < aT4.length:=by show k.toNat < 8;omega
 rw [List.getElem?_map,List.getElem?_eq_getElem hl,gA,List.getD,List.getElem?_eq_getElem hl];rfl
theorem aR0 {k:Int}(h:1<=k/\k<=9):(kR.map aZ7)[k.toNat]? =some (aZ7 (cC k)):=by
 have hl:k.toNat < kR.length:=by show k.toNat < 10;omega
 rw [List.getElem?_map,List.getElem?_eq_getElem hl,cC,List.getD,List.getElem?_eq_getElem hl];rfl
def aFs (n:Need) (s:List UInt8):Int:=if n.name=0\/cA s=true\/(n.name=2/\aF8 s=true)then 0 else 20
def iE (n:Need) (c:Cn):Int:=
 if (c.parts.length:Int) < n.least\/n.most < c.parts.length\/(n.name=0/\c.name≠[])then 21
 else if n.nums=true then (if c.lo < -1099511627776\/c.hi < c.lo\/1099511627776 < c.hi then 21 else aFs n c.name)
 else (if c.lo≠0\/c.hi≠0 then 21 else aFs n c.name)
def bM (c:Cn):Int:=if c.kind < 1\/7 < c.kind then 21 else iE (gA c.kind) c
theorem cM {a b:Int}(h:a=b):SV.d (.int .i64 a)=SV.d (.int .i64 b):=by rw [h]
theorem yF (c:Cn):Tri Tryz.prog 148 [.d (.agg (cnR c))] NG (λr=>r= .d (.int .i64 (bM c))):=by
 rw [aJ]
 refine qG [] hty Tryz.func148 [0,1,2,3,11,39,41,56,64,82] ?_
 refine qX ?_;intros
 refine aA (λb=> ?_) (λb=> ?_)
 ·(repeat' first|(refine qW ?_;intros)|((conv=>whnf);first|refine dwR ?_|((first|refine aA ?_ ?_|refine aC ?_ ?_)<;>intro hb<;>(first|exact ddX hb|try simp only [lnS]at hb))|(refine aB ?_ ?_<;>intro hb<;>try exact dsX hb)))
  exact cM (by rw [bM,if_pos (.inl b)])
 ·refine qX ?_;intros
  refine aA (λf=> ?_) (λf=> ?_)
  ·(repeat' first|(refine qW ?_;intros)|((conv=>whnf);first|refine dwR ?_|((first|refine aA ?_ ?_|refine aC ?_ ?_)<;>intro hb<;>(first|exact ddX hb|try simp only [lnS]at hb))|(refine aB ?_ ?_<;>intro hb<;>try exact dsX hb)))
   exact cM (by rw [bM,if_pos (.inr f)])
  ·have e:bM c=iE (gA c.kind) c:=by rw [bM,if_neg (by omega)]
   rw [e]
   have a:=aWv (k:=c.kind) (by omega)
   generalize gA c.kind=n at a
   clear e
   (repeat' first|(refine qW ?_;intros)|((conv=>whnf);first|(refine dE (id:=90) hty rfl rfl rfl rfl rfl rfl rfl (by omega) (by omega) ?_)|(refine⟨_,a, ?_⟩)|refine qT (lF _) ?_|refine qT (qF _) ?_|refine dwR ?_|((first|refine aA ?_ ?_|refine aC ?_ ?_)<;>intro hb<;>(first|exact ddX hb|try simp only [lnS]at hb))|(refine aB ?_ ?_<;>intro hb<;>try exact dsX hb)))
   all_goals (
    refine cM (Eq.symm ?_)
    unfold iE
    first
    |(rw [if_pos (by first|exact .inl (by assumption)|exact .inr (.inl (by assumption))|exact .inr (.inr ⟨by assumption,by assumption⟩))])
    | (rw [if_neg (by simp_all)]
       first
       | (rw [if_pos (by assumption)]
          first
          |(rw [if_pos (by omega)])
          |(rw [if_neg (by omega)];unfold aFs;simp_all))
       | (rw [if_neg (by simp_all)]
          first
          |(rw [if_pos (by omega)])
          |(rw [if_neg (by omega)];unfold aFs;simp_all))))
mutual
def fT:Cn->List Cn
 | .mk k n lo hi ps=> .mk k n lo hi ps::aX ps
def aX:List Cn->List Cn
 | []=>[]
 |c::r=>fT c++aX r
end
theorem dO (c:Cn):fT c=c::aX c.parts:=by cases c;rw [fT];rfl
theorem eM: ∀(l m:List Cn),aX (l++m)=aX l++aX m
 | [],m=>by simp [aX]
 |c::l,m=>by simp [aX,eM l m]
theorem aAj {l:List Cn}{j:Nat}(h:j < l.length):aX (l.take (j+1))=aX (l.take j)++fT l[j]:=by
 rw [List.take_succ_eq_append_getElem h,eM];simp [aX]
structure Rounds (all:List Cn) (lid:Nat) (Cont:List Cn->Hp->Prop) (Stop:Hp->Prop):Prop where
 big: ∀done hp,Cont done hp-> ∀k,100<=k->k∉gH hp
 step: ∀(done:List Cn) (x:Cn) (hp:Hp) (pin:Pin) (fr:Fr) (K:SV->Hp->Prop),Cont done hp->(∃rest,done++x::rest=all)->(∀k,100<=k->k∉pin)->(∀k,100<=k->k∉gD fr)->
  (∀hp',Cont (done++[x]) hp'->K (.d (.bool true)) hp')->(∀hp',Stop hp'->K (.d (.bool false)) hp')->YVC Tryz.prog pin fr hp lid [.d (.agg (cnR x))] K
theorem bFl {lid:Nat}(hlid:lid < 100): ∀fr:Fr,gD fr=[lid]\/gD fr=[lid,lid]\/gD fr=[lid,lid,lid]-> ∀k,100<=k->k∉gD fr:=by
 intro fr h k hk a
 rcases h with h|h|h<;>rw [h]at a<;>simp at a<;>omega
theorem aNx {all:List Cn}{lid:Nat}(hlid:lid < 100) {Cont:List Cn->Hp->Prop}{Stop:Hp->Prop}(R:Rounds all lid Cont Stop): ∀(c:Cn) (done:List Cn) (hp:Hp) {pin:Pin}{fr:Fr}{K:SV->Hp->Prop}(_:Cont done hp) (_: ∃rest,done++(fT c++rest)=all) (_: ∀k,100<=k->k∉pin) (_: ∀k,100<=k->k∉gD fr)
  (_: ∀hp',Cont (done++fT c) hp'->K (.d (.bool true)) hp') (_: ∀hp',Stop hp'->K (.d (.bool false)) hp'),aF Tryz.prog pin fr hp 197 [.d (.agg (cnR c)), .yld lid] K:=by
 refine Cn.ind ?_
 intro c F done hp pin fr K B m h s z o
 have C:=R.big _ _ B
 have a:=bFl hlid
 have r:=aJ c
 rw [r]
 refine aG false [2,6] hty Tryz.func197 rfl (kp [0,1,2,4,6,10,12,13,14,15,21]) 100 (by simp [Tryz.f197]) ?_
 (repeat' first|(refine qW ?_;intros)|((conv=>whnf);first|(refine And.intro ⟨bBa h s _ (Nat.le_of_ble_eq_true rfl),a _ (by with_unfolding_all first|exact .inl rfl|exact .inr (.inl rfl)|exact .inr (.inr rfl)) _ (Nat.le_of_ble_eq_true rfl),C _ (Nat.le_of_ble_eq_true rfl)⟩ ?_)|(refine And.intro (C _ (Nat.le_of_ble_eq_true rfl)) ?_)|refine dwR ?_|((first|refine aA ?_ ?_|refine aC ?_ ?_)<;>intro hb<;>(first|exact ddX hb|try simp only [lnS]at hb))|(refine aB ?_ ?_<;>intro hb<;>try exact dsX hb)))
 obtain⟨rest,m⟩:=m
 rw [dO]at m
 have D:= λpin fr K=>R.step done c hp pin fr K B ⟨aX c.parts++rest,by simpa using m⟩
 simp only [r]at D
 refine D _ _ _ (bBa h s) (a _ (by with_unfolding_all first|exact .inl rfl|exact .inr (.inl rfl)|exact .inr (.inr rfl))) (λl v=> ?_) (λl w=> ?_)
 ·(repeat' first|(refine qW ?_;intros)|((conv=>whnf);first|refine dwR ?_|((first|refine aA ?_ ?_|refine aC ?_ ?_)<;>intro hb<;>(first|exact ddX hb|try simp only [lnS]at hb))|(refine aB ?_ ?_<;>intro hb<;>try exact dsX hb)))
  refine lS hty (λy:Nat×Hp=>([(1, .yld lid),(12, .d (.sl 5 (c.parts.map cnR))),(13, .d (.int .i64 c.parts.length)),(14, .d (.int .i64 y.1))],y.2)) (λy=>y.1<=c.parts.length/\Cont (done++c::aX (c.parts.take y.1)) y.2) (λy=>c.parts.length - y.1) (0,l) ⟨by omega,by simpa [aX]using v⟩ (by repeat' (first|exact trivial|exact rfl|(rw [List.length_map];exact rfl)|refine And.intro ?_ ?_)) rfl ?_
  rintro⟨j,x⟩ ⟨E,g⟩
  dsimp only at E g
  have q:=R.big _ _ g
  refine qX ?_;intros
  refine aA (λA=> ?_) (λA=> ?_)
  ·have b:j < c.parts.length:=by omega
   have i:(c.parts.map cnR)[(j:Int).toNat]? =some (cnR c.parts[j]):=bA b
   have f:=i
   rw [aJ]at f
   (repeat' first|(refine qW ?_;intros)|((conv=>whnf);first|(refine And.intro ⟨bBa h s _ (Nat.le_of_ble_eq_true rfl),a _ (by with_unfolding_all first|exact .inl rfl|exact .inr (.inl rfl)|exact .inr (.inr rfl)) _ (Nat.le_of_ble_eq_true rfl),q _ (Nat.le_of_ble_eq_true rfl)⟩ ?_)|(refine And.intro (q _ (Nat.le_of_ble_eq_true rfl)) ?_)|(refine⟨_,f, ?_⟩)|refine dwR ?_|((first|refine aA ?_ ?_|refine aC ?_ ?_)<;>intro hb<;>(first|exact ddX hb|try simp only [lnS]at hb))|(refine aB ?_ ?_<;>intro hb<;>try exact dsX hb)))
   have n:= @F c.parts[j] (List.getElem_mem b) (done++c::aX (c.parts.take j)) x
   rw [aJ]at n
   refine n g ⟨aX (c.parts.drop (j + 1)) ++ rest, by
    rw [<-m]
    have e:aX c.parts=aX (c.parts.take j)++(fT c.parts[j]++aX (c.parts.drop (j+1))):=by
     conv=>lhs;rw [<-List.take_append_drop j c.parts,eM,List.drop_eq_getElem_cons b,aX]
    rw [e];simp⟩ (bBa h s) (a _ (by with_unfolding_all first|exact .inl rfl|exact .inr (.inl rfl)|exact .inr (.inr rfl))) (λp u=> ?_) (λp t=> ?_)
   ·(repeat' first|(refine qW ?_;intros)|((conv=>whnf);first|refine dwR ?_|((first|refine aA ?_ ?_|refine aC ?_ ?_)<;>intro hb<;>(first|exact ddX hb|try simp only [lnS]at hb))|(refine aB ?_ ?_<;>intro hb<;>try exact dsX hb)))
    refine⟨(j+1,p),⟨qO, ?_⟩,qO,qB,rfl⟩
    dsimp only
    rw [aAj b]
    simpa using u
   ·(repeat' first|(refine qW ?_;intros)|((conv=>whnf);first|refine dwR ?_|((first|refine aA ?_ ?_|refine aC ?_ ?_)<;>intro hb<;>(first|exact ddX hb|try simp only [lnS]at hb))|(refine aB ?_ ?_<;>intro hb<;>try exact dsX hb)))
    exact o _ t
  ·have b:j=c.parts.length:=by dsimp only at A;omega
   subst b
   rw [List.take_length,<-dO]at g
   (repeat' first|(refine qW ?_;intros)|((conv=>whnf);first|refine dwR ?_|((first|refine aA ?_ ?_|refine aC ?_ ?_)<;>intro hb<;>(first|exact ddX hb|try simp only [lnS]at hb))|(refine aB ?_ ?_<;>intro hb<;>try exact dsX hb)))
   exact z _ g
 ·(repeat' first|(refine qW ?_;intros)|((conv=>whnf);first|refine dwR ?_|((first|refine aA ?_ ?_|refine aC ?_ ?_)<;>intro hb<;>(first|exact ddX hb|try simp only [lnS]at hb))|(refine aB ?_ ?_<;>intro hb<;>try exact dsX hb)))
  exact o _ w
theorem aGo (c:Cn):Tri Tryz.prog 147 [.d (.agg (cnR c))] [] (λr=>r= .fn 196 [] [.ea 5 [cnR c] 0 0]):=by
 rw [aJ]
 refine qG [1] hty Tryz.func147 [0,1,2] ?_
 (repeat' first|(refine qW ?_;intros)|((conv=>whnf);first|refine dwR ?_|((first|refine aA ?_ ?_|refine aC ?_ ?_)<;>intro hb<;>(first|exact ddX hb|try simp only [lnS]at hb))|(refine aB ?_ ?_<;>intro hb<;>try exact dsX hb)))
 rfl
theorem aNw {lid:Nat}(hlid:lid < 100) {Cont:List Cn->Hp->Prop}{Stop:Hp->Prop}(c:Cn) (R:Rounds (fT c) lid Cont Stop) {hp:Hp}{pin:Pin}{fr:Fr}{K:SV->Hp->Prop}(hC:Cont [] hp) (hp1: ∀k,100<=k->k∉pin) (hf: ∀k,100<=k->k∉gD fr)
  (hk1: ∀hp',Cont (fT c) hp'->K (eQ []) hp') (hk2: ∀hp',Stop hp'->K (eQ []) hp'):aF Tryz.prog pin fr hp 196 [.yld lid, .ea 5 [cnR c] 0 0] K:=by
 have a:=aJ c
 have vs:= λpin fr K=> @aNx (fT c) lid hlid Cont Stop R c [] hp pin fr K hC ⟨[],by simp⟩
 rw [a]
 simp only [a]at vs
 refine aG false [] hty Tryz.func196 rfl (kp [0,1]) 200 (by simp [Tryz.f196]) ?_
 (repeat' first|(refine qW ?_;intros)|((conv=>whnf);first|refine dwR ?_|((first|refine aA ?_ ?_|refine aC ?_ ?_)<;>intro hb<;>(first|exact ddX hb|try simp only [lnS]at hb))|(refine aB ?_ ?_<;>intro hb<;>try exact dsX hb)))
 refine vs _ _ _ (bBa hp1 hf) (bFl hlid _ (by with_unfolding_all first|exact .inl rfl|exact .inr (.inl rfl)|exact .inr (.inr rfl))) (λb e=> ?_) (λb d=> ?_)
 ·(repeat' first|(refine qW ?_;intros)|((conv=>whnf);first|refine dwR ?_|((first|refine aA ?_ ?_|refine aC ?_ ?_)<;>intro hb<;>(first|exact ddX hb|try simp only [lnS]at hb))|(refine aB ?_ ?_<;>intro hb<;>try exact dsX hb)))
  exact hk1 _ (by simpa using e)
 ·(repeat' first|(refine qW ?_;intros)|((conv=>whnf);first|refine dwR ?_|((first|refine aA ?_ ?_|refine aC ?_ ?_)<;>intro hb<;>(first|exact ddX hb|try simp only [lnS]at hb))|(refine aB ?_ ?_<;>intro hb<;>try exact dsX hb)))
  exact hk2 _ d
theorem zY {lid:Nat}(hlid:lid < 100) {L:LoopI}{σ:Type}(St:σ->Hp) (Inv:List Cn->σ->Prop) (Bad:σ->Prop) (c:Cn) (s0:σ) (h0:Inv [] s0) {pin:Pin}{fr:Fr}{K:SV->Hp->Prop}(hL:L.fr.all (λp=>p.2.ids.isEmpty || p.2.ids.all λk=>decide (k < 100))=true) (hb: ∀s,∀k,100<=k->k∉gH (St s)) (hp1: ∀k,100<=k->k∉pin) (hf: ∀k,100<=k->k∉gD fr)
  (step : ∀ (done : List Cn) (x : Cn) (s : σ) (pin : Pin) (fr : Fr) (K : SV -> Hp -> Prop), Inv done s -> (∃ rest, done ++ x :: rest = fT c) -> (∀ k, 100 <= k -> k ∉ pin) -> (∀ k, 100 <= k -> k ∉ gD fr) ->
   (∀a,Inv (done++[x]) a->K (.d (.bool true)) ((lid, .loop L .ready)::St a))->(∀a,Bad a->K (.d (.bool false)) ((lid, .loop L (.done .ret))::St a))->YVC Tryz.prog pin fr ((lid, .loop L .ready)::St s) lid [.d (.agg (cnR x))] K)
  (hk1: ∀s,Inv (fT c) s->K (eQ []) ((lid, .loop L .ready)::St s)) (hk2: ∀s,Bad s->K (eQ []) ((lid, .loop L (.done .ret))::St s)):
  aF Tryz.prog pin fr ((lid, .loop L .ready)::St s0) 196 [.yld lid, .ea 5 [cnR c] 0 0] K:=by
 refine aNw hlid (Cont:= λdone hp=> ∃s,hp=(lid, .loop L .ready)::St s/\Inv done s) (Stop:= λhp=> ∃s,hp=(lid, .loop L (.done .ret))::St s/\Bad s) c ⟨?_, ?_⟩ ⟨s0,rfl,h0⟩ hp1 hf ?_ ?_
 ·rintro done hp ⟨s,rfl,_⟩ k n b
  simp only [gH,List.flatMap_cons,List.mem_append,List.mem_cons]at b
  rcases b with(b|b)|b
  ·omega
  ·simp only [HObj.ids,gD,List.mem_flatMap]at b
   obtain⟨p,i,e⟩:=b
   have:=List.all_eq_true.1 hL p i
   simp only [Bool.or_eq_true]at this
   rcases this with h|h
   ·rw [List.isEmpty_iff.1 h]at e;simp at e
   ·have:=List.all_eq_true.1 h k e
    simp at this;omega
  ·exact hb s k n b
 ·rintro done x hp pin fr K ⟨s,rfl,j⟩ l i e o m
  exact step done x s pin fr K j l i e (λa g=>o _ ⟨a,rfl,g⟩) (λa f=>m _ ⟨a,rfl,f⟩)
 ·rintro hp ⟨s,rfl,j⟩
  exact hk1 s j
 ·rintro hp ⟨s,rfl,f⟩
  exact hk2 s f
def eE:List Cn->Int
 | []=>0
 |x::r=>if bM x≠0 then bM x else eE r
def bC (c:Cn):Int:=if (fV c 0 0).1=false then 21 else eE (fT c)
theorem nI: ∀(l m:List Cn),(∀x∈l,bM x=0)->eE (l++m)=eE m
 | [],_,_=>rfl
 |x::l,m,h=>by
  rw [List.cons_append,eE,if_neg (by simp [h x (List.mem_cons_self ..)])]
  exact nI l m λy a=>h y (List.mem_cons_of_mem _ a)
theorem bD3: ∀k,100<=k->k∉gH NG:=by
 intro k hk a
 have e:gH NG=[90,91]:=by with_unfolding_all exact rfl
 rw [e]at a
 simp at a
 omega
theorem mN (c:Cn):Tri Tryz.prog 89 [.d (.agg (cnR c))] NG (λr=>r= .d (.int .i64 (bC c))):=by
 have f:=aJ c
 have m:=aGo c
 have a:= λl pin fr K=> @aTu c 0 0 l pin fr K (by omega) (by omega)
 rw [f]
 simp only [f]at m a
 refine qG [1] hty Tryz.func89 [0,1,2,3,4,5,8,10,11,15] ?_
 (repeat' first|(refine qW ?_;intros)|((conv=>whnf);first|refine dwR ?_|((first|refine aA ?_ ?_|refine aC ?_ ?_)<;>intro hb<;>(first|exact ddX hb|try simp only [lnS]at hb))|(refine aB ?_ ?_<;>intro hb<;>try exact dsX hb)))
 refine a ((2, .cells 26 [.d (.int .i64 0)])::NG) _ _ _ (by simp) (bBb (by with_unfolding_all exact rfl)) (aXy (by decide) (by with_unfolding_all exact rfl) bD3) ?_
 cases hb:(fV c 0 0).1
 ·(repeat' first|(refine qW ?_;intros)|((conv=>whnf);first|refine dwR ?_|((first|refine aA ?_ ?_|refine aC ?_ ?_)<;>intro hb<;>(first|exact ddX hb|try simp only [lnS]at hb))|(refine aB ?_ ?_<;>intro hb<;>try exact dsX hb)))
  rw [bC,if_pos hb];rfl
 ·have q:bC c=eE (fT c):=by rw [bC,if_neg (by simp [hb])]
  rw [q]
  refine qX ?_;intros
  refine aL [] m trivial (λs j=> ?_)
  subst j
  refine qX ?_;intros
  refine rO 60 (bQ (by with_unfolding_all exact rfl)) trivial ?_
  refine qX ?_;intros
  rw [<-f]
  refine zY (lid:=60) (by decide) (λe:Int=>(3,_)::(2, .cells 26 [.d (.int .i64 e)])::NG) (λdone e=>e=0/\ ∀x∈done,bM x=0) (λe=>e=eE (fT c)) c 0 ⟨rfl,by simp⟩ (by with_unfolding_all exact rfl) (λe=>aXy (by decide) (by with_unfolding_all exact rfl) (aXy (by decide) (by with_unfolding_all exact rfl) bD3)) (by simp) (bBb (by with_unfolding_all exact rfl)) ?_ ?_ ?_
  ·rintro done x s pin fr K ⟨rfl,n⟩ ⟨rest,p⟩ v t A w
   have hx:=aJ x
   have g:=yF x
   rw [hx]at g |-
   have i: ∀k,100<=k->k∉pin++gD fr++[60]:=by
    intro k o b
    simp only [aWz,aX0,List.mem_append,List.mem_singleton]at b
    rcases b with(b|b)|b
    ·exact v k o b
    ·exact t k o b
    ·omega
   refine kX [4] hty (kp [0,1,2,3,4,5,8,10,11,15]) 600 rfl rfl ?_
   (repeat' first|(refine qW ?_;intros)|((conv=>whnf);first|(refine And.intro ⟨i _ (Nat.le_of_ble_eq_true rfl),bBb (by with_unfolding_all exact rfl) _ (Nat.le_of_ble_eq_true rfl),mF (by with_unfolding_all exact rfl)⟩ ?_)|(refine aL NG g ⟨rfl,rfl,trivial⟩ (λr j=> ?_);subst j)|refine dwR ?_|((first|refine aA ?_ ?_|refine aC ?_ ?_)<;>intro hb<;>(first|exact ddX hb|try simp only [lnS]at hb))|(refine aB ?_ ?_<;>intro hb<;>try exact dsX hb)))
   ·exact w (bM x) (by rw [<-p,nI _ _ n,eE,if_pos (by assumption)])
   ·refine A 0 ⟨rfl,λy u=> ?_⟩
    rcases List.mem_append.1 u with h|h
    ·exact n y h
    ·simp at h;subst h;assumption
  ·rintro s ⟨rfl,z⟩
   have hz:eE (fT c)=0:=by
    have:=nI (fT c) [] z
    simpa [eE]using this
   rw [hz]
   (repeat' first|(refine qW ?_;intros)|((conv=>whnf);first|refine dwR ?_|((first|refine aA ?_ ?_|refine aC ?_ ?_)<;>intro hb<;>(first|exact ddX hb|try simp only [lnS]at hb))|(refine aB ?_ ?_<;>intro hb<;>try exact dsX hb)))
   rfl
  ·rintro s rfl
   (repeat' first|(refine qW ?_;intros)|((conv=>whnf);first|refine dwR ?_|((first|refine aA ?_ ?_|refine aC ?_ ?_)<;>intro hb<;>(first|exact ddX hb|try simp only [lnS]at hb))|(refine aB ?_ ?_<;>intro hb<;>try exact dsX hb)))
   rfl
def aM (c:Cn):Nat:=(fT c).length
theorem aRq (c:Cn):1<=aM c:=by rw [aM,dO];simp
theorem aRo (c:Cn) (b:aM c<=1000000):Tri Tryz.prog 130 [.d (.agg (cnR c))] [] (λr=>r= .d (.int .i64 (aM c))):=by
 have a:=aJ c
 have f:=aGo c
 rw [a]
 simp only [a]at f
 refine qG [1] hty Tryz.func130 [0,1,2,4] ?_
 refine qX ?_;intros
 refine aL [] f trivial (λs b=> ?_)
 subst b
 refine qX ?_;intros
 refine rO 60 (bQ (by with_unfolding_all exact rfl)) trivial ?_
 refine qX ?_;intros
 rw [<-a]
 refine zY (lid:=60) (by decide) (λn:Nat=>(2, .cells 3 [.d (.int .i64 n)])::[]) (λdone n=>n=done.length) (λ_=>False) c 0 rfl (by with_unfolding_all exact rfl) (λe=>aXy (by decide) (by with_unfolding_all exact rfl) (by simp [gH])) (by simp) (bBb (by with_unfolding_all exact rfl)) ?_ ?_ ?_
 ·rintro done x n pin fr K rfl ⟨rest,g⟩ h1 h2 i h4
  have hl:done.length < aM c:=by rw [aM,<-g];simp
  refine kX [] hty (kp [0,1,2,4]) 600 rfl rfl ?_
  (repeat' first|(refine qW ?_;intros)|((conv=>whnf);first|refine dwR ?_|((first|refine aA ?_ ?_|refine aC ?_ ?_)<;>intro hb<;>(first|exact ddX hb|try simp only [lnS]at hb))|(refine aB ?_ ?_<;>intro hb<;>try exact dsX hb)))
  have:=i (done.length+1) (by simp)
  exact this
 ·rintro n rfl
  (repeat' first|(refine qW ?_;intros)|((conv=>whnf);first|refine dwR ?_|((first|refine aA ?_ ?_|refine aC ?_ ?_)<;>intro hb<;>(first|exact ddX hb|try simp only [lnS]at hb))|(refine aB ?_ ?_<;>intro hb<;>try exact dsX hb)))
  rfl
 ·rintro n h
  exact h.elim
theorem aLj {a b:Int}(h:a=b):Wk (.d (.int .i64 a)) (.d (.int .i64 b)):=by subst h;exact rfl
mutual
def cV:Cn->Nat
 | .mk _ _ _ _ ps=>dI ps
def dI:List Cn->Nat
 | []=>0
 |c::r=>max (cV c+1) (dI r)
end
theorem kN (c:Cn):cV c=dI c.parts:=by cases c;rw [cV];rfl
theorem vN: ∀(l m:List Cn),dI (l++m)=max (dI l) (dI m)
 | [],m=>by simp [dI]
 |c::l,m=>by simp only [List.cons_append,dI,vN l m];omega
theorem aKz {l:List Cn}{j:Nat}(h:j < l.length):dI (l.take (j+1))=max (dI (l.take j)) (cV l[j]+1):=by
 rw [List.take_succ_eq_append_getElem h,vN];simp [dI]
theorem aDi {l:List Cn}{x:Cn}(h:x∈l):(fT x).length<=(aX l).length:=by
 obtain⟨a,b,rfl⟩:=List.append_of_mem h
 rw [eM,aX]
 simp only [List.length_append]
 omega
theorem fK {c x:Cn}(h:x∈c.parts):aM x < aM c:=by
 have:=aDi h
 rw [aM,aM,dO c]
 simp only [List.length_cons]
 omega
mutual
theorem xB: ∀(c:Cn),cV c < aM c
 | .mk k n lo hi ps=>by
  have:=aBf ps
  rw [cV,aM,fT]
  simp only [List.length_cons]
  omega
theorem aBf: ∀(l:List Cn),dI l<=(aX l).length
 | []=>by simp [dI]
 |c::r=>by
  have a:=xB c
  have h2:=aBf r
  rw [dI,aX,List.length_append]
  rw [aM]at a
  omega
end
mutual
def bX:Cn->Bool
 | .mk k _ _ _ ps=>if k=4 then true else if k=5 then qY ps else false
def qY:List Cn->Bool
 | []=>false
 |c::r=>if bX c=true then true else qY r
end
theorem aGc (c:Cn):bX c=if c.kind=4 then true else if c.kind=5 then qY c.parts else false:=by cases c;rw [bX];rfl
def bB9 (p:Cn->Bool) (l:List Cn):Int:=if l.any p=true then ((l.findIdx p:Nat):Int)else -1
theorem aVb {p:Cn->Bool}{l:List Cn}{j:Nat}(h:j < l.length) (h1:(l.take j).any p=false) (h2:p l[j]=false):(l.take (j+1)).any p=false:=by
 rw [List.take_succ_eq_append_getElem h,List.any_append,h1];simp [h2]
theorem bAc {p:Cn->Bool}{l:List Cn}{j:Nat}(h:j < l.length) (h1:(l.take j).any p=false) (h2:p l[j]=true):bB9 p l=j:=by
 have a:l.any p=true:=List.any_eq_true.2 ⟨_,List.getElem_mem h,h2⟩
 have b:l.findIdx p=j:=by
  rw [List.findIdx_eq h]
  refine⟨h2,λi hi=> ?_⟩
  have:=List.any_eq_false.1 h1 (l[i]'(by omega)) (List.mem_iff_getElem.2 ⟨i,by simp;omega,by simp⟩)
  simpa using this
 rw [bB9,if_pos a,b]
theorem aKr (f:FuncId) (hcall:dY Tryz.prog f=true) (p:Cn->Bool) (l:List Cn) (hf: ∀q∈l,Tri Tryz.prog f [.d (.agg (cnR q))] [] (λr=>r= .d (.bool (p q)))):
  Tri Tryz.prog 198 [.d (cnl l), .fn f [] []] [] (λr=>r= .d (.int .i64 (bB9 p l))):=by
 refine qG [] hty Tryz.func198 [0,1,4,5,7,8,9,16] ?_
 refine qX ?_;intros
 refine aD hty (λj:Nat=>([(0, .d (.sl 5 (l.map cnR))),(1, .fn f [] []),(7, .d (.int .i64 l.length)),(8, .d (.int .i64 j))],[])) (λj=>j<=l.length/\(l.take j).any p=false) (λj=>l.length - j) 0 ⟨by omega,by simp⟩ ⟨by repeat' (first|exact trivial|exact rfl|(rw [List.length_map];exact rfl)|refine And.intro ?_ ?_),trivial⟩ ?_
 rintro j ⟨hj,c⟩
 refine qX ?_;intros
 refine aA (λe=> ?_) (λe=> ?_)
 ·have a:j < l.length:=by omega
  have b:(l.map cnR)[(j:Int).toNat]? =some (cnR l[j]):=bA a
  have hi:=hf l[j] (List.getElem_mem a)
  rw [aJ]at b hi
  ((conv=>whnf);repeat' ((first|(intro h;(try simp only [lnS]at h);(try rewrite [List.length_map]))|refine sJ ?_|refine qE_ ?_|refine exL (k:=?_)| (refine⟨_,b, ?_⟩)|refine dwR ?_|((first|refine aA ?_ ?_|refine aC ?_ ?_)<;>intro hb<;>(first|exact ddX hb|try simp only [lnS]at hb))|(refine aB ?_ ?_<;>intro hb<;>try exact dsX hb))<;>(conv=>whnf)))
  refine aL [] hi trivial (λr g=> ?_)
  subst g
  cases hb2:p l[j]
  ·(repeat' first|(refine qW ?_;intros)|((conv=>whnf);first|refine dwR ?_|((first|refine aA ?_ ?_|refine aC ?_ ?_)<;>intro hb<;>(first|exact ddX hb|try simp only [lnS]at hb))|(refine aB ?_ ?_<;>intro hb<;>try exact dsX hb)))
   exact⟨j+1,⟨by omega,aVb a c hb2⟩,qO,qB,trivial⟩
  ·(repeat' first|(refine qW ?_;intros)|((conv=>whnf);first|refine dwR ?_|((first|refine aA ?_ ?_|refine aC ?_ ?_)<;>intro hb<;>(first|exact ddX hb|try simp only [lnS]at hb))|(refine aB ?_ ?_<;>intro hb<;>try exact dsX hb)))
   exact cM (bAc a c hb2).symm
 ·have a:j=l.length:=by omega
  subst a
  rw [List.take_length]at c
  (repeat' first|(refine qW ?_;intros)|((conv=>whnf);first|refine dwR ?_|((first|refine aA ?_ ?_|refine aC ?_ ?_)<;>intro hb<;>(first|exact ddX hb|try simp only [lnS]at hb))|(refine aB ?_ ?_<;>intro hb<;>try exact dsX hb)))
  rw [bB9,if_neg (by simp [c])];rfl
theorem aKs (p:Cn->Bool) (l:List Cn):decide (0<=bB9 p l)=l.any p:=by
 unfold bB9
 cases h:l.any p
 ·simp
 ·simp
theorem aCd (f:FuncId) (hcall:dY Tryz.prog f=true) (p:Cn->Bool) (l:List Cn) (hf: ∀q∈l,Tri Tryz.prog f [.d (.agg (cnR q))] [] (λr=>r= .d (.bool (p q)))):
  Tri Tryz.prog 149 [.d (cnl l), .fn f [] []] [] (λr=>r= .d (.bool (l.any p))):=by
 refine qG [] hty Tryz.func149 [0,1,4] ?_
 refine qX ?_;intros
 refine aL [] (aKr f hcall p l hf) trivial (λr a=> ?_)
 subst a
 (repeat' first|(refine qW ?_;intros)|((conv=>whnf);first|refine dwR ?_|((first|refine aA ?_ ?_|refine aC ?_ ?_)<;>intro hb<;>(first|exact ddX hb|try simp only [lnS]at hb))|(refine aB ?_ ?_<;>intro hb<;>try exact dsX hb)))
 exact bG (aKs p l)
theorem aJ3: ∀l,qY l=l.any bX
 | []=>by simp [qY]
 |c::r=>by rw [qY,aJ3 r,List.any_cons];cases bX c<;>simp
theorem aAw: ∀(c:Cn),Tri Tryz.prog 90 [.d (.agg (cnR c))] [] (λr=>r= .d (.bool (bX c))):=by
 refine Cn.ind ?_
 intro c a
 have hC:=aCd 90 (by kernel_rfl) bX c.parts a
 rw [aJ,aGc,aJ3]
 refine qG [1] hty Tryz.func90 [0,1,2,4,5,7] ?_
 (repeat' first|(refine qW ?_;intros)|((conv=>whnf);first|refine dwR ?_|((first|refine aA ?_ ?_|refine aC ?_ ?_)<;>intro hb<;>(first|exact ddX hb|try simp only [lnS]at hb))|(refine aB ?_ ?_<;>intro hb<;>try exact dsX hb)))
 ·rw [if_pos (by assumption)];rfl
 ·rw [if_neg (by assumption),if_pos (by assumption)];rfl
 ·rw [if_neg (by assumption),if_neg (by assumption)];rfl
def dQ (c:Cn):Bool:=decide (c.kind=0) && (decide (c.name=[]) && (decide (c.lo=0) && (decide (c.hi=0) && decide (c.parts=[]))))
theorem bK (c:Cn):Tri Tryz.prog 143 [.d (.agg (cnR c))] [] (λr=>r= .d (.bool (dQ c))):=by
 rw [aJ]
 refine qG [1] hty Tryz.func143 [0,1,2] ?_
 (repeat' first|(refine qW ?_;intros)|((conv=>whnf);first|refine dwR ?_|((first|refine aA ?_ ?_|refine aC ?_ ?_)<;>intro hb<;>(first|exact ddX hb|try simp only [lnS]at hb))|(refine aB ?_ ?_<;>intro hb<;>try exact dsX hb)))
 all_goals (unfold dQ;simp_all [eQ])
 all_goals trace_state
def bH (u:Use) (x:Ax):Bool:=
 (u.left || dQ x.left) && ((u.right || dQ x.right) && ((u.role || decide (x.role=[])) && ((u.a || decide (x.a=[])) && ((u.b || decide (x.b=[])) && (decide (u.least<=x.roles.length) && decide ((x.roles.length:Int)<=u.most))))))
def bI (x:Ax):Bool:=if x.kind < 1\/9 < x.kind then false else bH (cC x.kind) x
theorem tX {k:Int}(n:Nat) (h:n < kR.length) (hk:k=n):(kR.map aZ7)[k.toNat]? =some (aZ7 kR[n]):=by
 subst hk
 rw [Int.toNat_natCast,List.getElem?_map,List.getElem?_eq_getElem h];rfl
theorem aPo (x:Ax) (hk:x.kind=1):Tri Tryz.prog 87 [.d (.agg (axR x))] NG (λr=>r= .d (.bool (bI x))):=by
 have e1:=bK x.left
 have e2:=bK x.right
 rw [aJ]at e1 e2
 have a:=tX (k:=x.kind) 1 (by decide) hk
 have b:bI x=bH (kR[1]'(by decide)) x:=by rw [bI,if_neg (by omega),hk];rfl
 rw [b]
 refine qG [1,3] hty Tryz.func87 [0,1,2,3,11] ?_
 refine qX ?_;intros
 refine aA (λc=>by omega) (λc=> ?_)
 refine qX ?_;intros
 refine aA (λe=>by omega) (λe=> ?_)
 (repeat' first|(refine qW ?_;intros)|((conv=>whnf);first|(refine dE (id:=91) hty rfl rfl rfl rfl rfl rfl rfl (by omega) (by omega) ?_)|(refine⟨_,a, ?_⟩)|refine qT e1 ?_|refine qT e2 ?_|refine dwR ?_|((first|refine aA ?_ ?_|refine aC ?_ ?_)<;>intro hb<;>(first|exact ddX hb|try simp only [lnS]at hb))|(refine aB ?_ ?_<;>intro hb<;>try exact dsX hb)))
 all_goals (clear e1 e2 a b;refine bG (Eq.symm ?_);show bH _ x=_;simp only [bH,kR,List.getElem_cons_succ,List.getElem_cons_zero,Bool.true_or,Bool.false_or,Bool.true_and];simp_all [kR]<;>omega)
theorem aPn (x:Ax) (hk:x.kind=2):Tri Tryz.prog 87 [.d (.agg (axR x))] NG (λr=>r= .d (.bool (bI x))):=by
 have e1:=bK x.left
 have e2:=bK x.right
 rw [aJ]at e1 e2
 have a:=tX (k:=x.kind) 2 (by decide) hk
 have b:bI x=bH (kR[2]'(by decide)) x:=by rw [bI,if_neg (by omega),hk];rfl
 rw [b]
 refine qG [1,3] hty Tryz.func87 [0,1,2,3,11] ?_
 refine qX ?_;intros
 refine aA (λc=>by omega) (λc=> ?_)
 refine qX ?_;intros
 refine aA (λe=>by omega) (λe=> ?_)
 (repeat' first|(refine qW ?_;intros)|((conv=>whnf);first|(refine dE (id:=91) hty rfl rfl rfl rfl rfl rfl rfl (by omega) (by omega) ?_)|(refine⟨_,a, ?_⟩)|refine qT e1 ?_|refine qT e2 ?_|refine dwR ?_|((first|refine aA ?_ ?_|refine aC ?_ ?_)<;>intro hb<;>(first|exact ddX hb|try simp only [lnS]at hb))|(refine aB ?_ ?_<;>intro hb<;>try exact dsX hb)))
 all_goals (clear e1 e2 a b;refine bG (Eq.symm ?_);show bH _ x=_;simp only [bH,kR,List.getElem_cons_succ,List.getElem_cons_zero,Bool.true_or,Bool.false_or,Bool.true_and];simp_all [kR]<;>omega)
theorem aPm (x:Ax) (hk:x.kind=3):Tri Tryz.prog 87 [.d (.agg (axR x))] NG (λr=>r= .d (.bool (bI x))):=by
 have e1:=bK x.left
 have e2:=bK x.right
 rw [aJ]at e1 e2
 have a:=tX (k:=x.kind) 3 (by decide) hk
 have b:bI x=bH (kR[3]'(by decide)) x:=by rw [bI,if_neg (by omega),hk];rfl
 rw [b]
 refine qG [1,3] hty Tryz.func87 [0,1,2,3,11] ?_
 refine qX ?_;intros
 refine aA (λc=>by omega) (λc=> ?_)
 refine qX ?_;intros
 refine aA (λe=>by omega) (λe=> ?_)
 (repeat' first|(refine qW ?_;intros)|((conv=>whnf);first|(refine dE (id:=91) hty rfl rfl rfl rfl rfl rfl rfl (by omega) (by omega) ?_)|(refine⟨_,a, ?_⟩)|refine qT e1 ?_|refine qT e2 ?_|refine dwR ?_|((first|refine aA ?_ ?_|refine aC ?_ ?_)<;>intro hb<;>(first|exact ddX hb|try simp only [lnS]at hb))|(refine aB ?_ ?_<;>intro hb<;>try exact dsX hb)))
 all_goals (clear e1 e2 a b;refine bG (Eq.symm ?_);show bH _ x=_;simp only [bH,kR,List.getElem_cons_succ,List.getElem_cons_zero,Bool.true_or,Bool.false_or,Bool.true_and];simp_all [kR]<;>omega)
theorem aPl (x:Ax) (hk:x.kind=4):Tri Tryz.prog 87 [.d (.agg (axR x))] NG (λr=>r= .d (.bool (bI x))):=by
 have e1:=bK x.left
 have e2:=bK x.right
 rw [aJ]at e1 e2
 have a:=tX (k:=x.kind) 4 (by decide) hk
 have b:bI x=bH (kR[4]'(by decide)) x:=by rw [bI,if_neg (by omega),hk];rfl
 rw [b]
 refine qG [1,3] hty Tryz.func87 [0,1,2,3,11] ?_
 refine qX ?_;intros
 refine aA (λc=>by omega) (λc=> ?_)
 refine qX ?_;intros
 refine aA (λe=>by omega) (λe=> ?_)
 (repeat' first|(refine qW ?_;intros)|((conv=>whnf);first|(refine dE (id:=91) hty rfl rfl rfl rfl rfl rfl rfl (by omega) (by omega) ?_)|(refine⟨_,a, ?_⟩)|refine qT e1 ?_|refine qT e2 ?_|refine dwR ?_|((first|refine aA ?_ ?_|refine aC ?_ ?_)<;>intro hb<;>(first|exact ddX hb|try simp only [lnS]at hb))|(refine aB ?_ ?_<;>intro hb<;>try exact dsX hb)))
 all_goals (clear e1 e2 a b;refine bG (Eq.symm ?_);show bH _ x=_;simp only [bH,kR,List.getElem_cons_succ,List.getElem_cons_zero,Bool.true_or,Bool.false_or,Bool.true_and];simp_all [kR]<;>omega)
theorem aPi (x:Ax) (hk:x.kind=7):Tri Tryz.prog 87 [.d (.agg (axR x))] NG (λr=>r= .d (.bool (bI x))):=by
 have e1:=bK x.left
 have e2:=bK x.right
 rw [aJ]at e1 e2
 have a:=tX (k:=x.kind) 7 (by decide) hk
 have b:bI x=bH (kR[7]'(by decide)) x:=by rw [bI,if_neg (by omega),hk];rfl
 rw [b]
 refine qG [1,3] hty Tryz.func87 [0,1,2,3,11] ?_
 refine qX ?_;intros
 refine aA (λc=>by omega) (λc=> ?_)
 refine qX ?_;intros
 refine aA (λe=>by omega) (λe=> ?_)
 (repeat' first|(refine qW ?_;intros)|((conv=>whnf);first|(refine dE (id:=91) hty rfl rfl rfl rfl rfl rfl rfl (by omega) (by omega) ?_)|(refine⟨_,a, ?_⟩)|refine qT e1 ?_|refine qT e2 ?_|refine dwR ?_|((first|refine aA ?_ ?_|refine aC ?_ ?_)<;>intro hb<;>(first|exact ddX hb|try simp only [lnS]at hb))|(refine aB ?_ ?_<;>intro hb<;>try exact dsX hb)))
 all_goals (clear e1 e2 a b;refine bG (Eq.symm ?_);show bH _ x=_;simp only [bH,kR,List.getElem_cons_succ,List.getElem_cons_zero,Bool.true_or,Bool.false_or,Bool.true_and];simp_all [kR]<;>omega)
theorem aPh (x:Ax) (hk:x.kind=8):Tri Tryz.prog 87 [.d (.agg (axR x))] NG (λr=>r= .d (.bool (bI x))):=by
 have e1:=bK x.left
 have e2:=bK x.right
 rw [aJ]at e1 e2
 have a:=tX (k:=x.kind) 8 (by decide) hk
 have b:bI x=bH (kR[8]'(by decide)) x:=by rw [bI,if_neg (by omega),hk];rfl
 rw [b]
 refine qG [1,3] hty Tryz.func87 [0,1,2,3,11] ?_
 refine qX ?_;intros
 refine aA (λc=>by omega) (λc=> ?_)
 refine qX ?_;intros
 refine aA (λe=>by omega) (λe=> ?_)
 (repeat' first|(refine qW ?_;intros)|((conv=>whnf);first|(refine dE (id:=91) hty rfl rfl rfl rfl rfl rfl rfl (by omega) (by omega) ?_)|(refine⟨_,a, ?_⟩)|refine qT e1 ?_|refine qT e2 ?_|refine dwR ?_|((first|refine aA ?_ ?_|refine aC ?_ ?_)<;>intro hb<;>(first|exact ddX hb|try simp only [lnS]at hb))|(refine aB ?_ ?_<;>intro hb<;>try exact dsX hb)))
 all_goals (clear e1 e2 a b;refine bG (Eq.symm ?_);show bH _ x=_;simp only [bH,kR,List.getElem_cons_succ,List.getElem_cons_zero,Bool.true_or,Bool.false_or,Bool.true_and];simp_all [kR]<;>omega)
theorem aPg (x:Ax) (hk:x.kind=9):Tri Tryz.prog 87 [.d (.agg (axR x))] NG (λr=>r= .d (.bool (bI x))):=by
 have e1:=bK x.left
 have e2:=bK x.right
 rw [aJ]at e1 e2
 have a:=tX (k:=x.kind) 9 (by decide) hk
 have b:bI x=bH (kR[9]'(by decide)) x:=by rw [bI,if_neg (by omega),hk];rfl
 rw [b]
 refine qG [1,3] hty Tryz.func87 [0,1,2,3,11] ?_
 refine qX ?_;intros
 refine aA (λc=>by omega) (λc=> ?_)
 refine qX ?_;intros
 refine aA (λe=>by omega) (λe=> ?_)
 (repeat' first|(refine qW ?_;intros)|((conv=>whnf);first|(refine dE (id:=91) hty rfl rfl rfl rfl rfl rfl rfl (by omega) (by omega) ?_)|(refine⟨_,a, ?_⟩)|refine qT e1 ?_|refine qT e2 ?_|refine dwR ?_|((first|refine aA ?_ ?_|refine aC ?_ ?_)<;>intro hb<;>(first|exact ddX hb|try simp only [lnS]at hb))|(refine aB ?_ ?_<;>intro hb<;>try exact dsX hb)))
 all_goals (clear e1 e2 a b;refine bG (Eq.symm ?_);show bH _ x=_;simp only [bH,kR,List.getElem_cons_succ,List.getElem_cons_zero,Bool.true_or,Bool.false_or,Bool.true_and];simp_all [kR]<;>omega)
theorem aPk (x:Ax) (hk:x.kind=5):Tri Tryz.prog 87 [.d (.agg (axR x))] NG (λr=>r= .d (.bool (bI x))):=by
 have e1:=bK x.left
 have e2:=bK x.right
 rw [aJ]at e1 e2
 have c:=tX (k:=x.kind) 5 (by decide) hk
 have e:bI x=bH (kR[5]'(by decide)) x:=by rw [bI,if_neg (by omega),hk];rfl
 rw [e]
 refine qG [1,3] hty Tryz.func87 [0,1,2,3,11] ?_
 refine qX ?_;intros
 refine aA (λf=>by omega) (λf=> ?_)
 refine qX ?_;intros
 refine aA (λg=>by omega) (λg=> ?_)
 (repeat' first|(refine qW ?_;intros)|((conv=>whnf);first|(refine dE (id:=91) hty rfl rfl rfl rfl rfl rfl rfl (by omega) (by omega) ?_)|(refine⟨_,c, ?_⟩)|refine qT e1 ?_|refine qT e2 ?_|refine dwR ?_|((first|refine aA ?_ ?_|refine aC ?_ ?_)<;>intro hb<;>(first|exact ddX hb|try simp only [lnS]at hb))|(refine aB ?_ ?_<;>intro hb<;>try exact dsX hb)))
 all_goals (clear e1 e2 c e;refine bG (Eq.symm ?_);show bH _ x=_;simp only [bH,show (kR[5]'(by decide)).left=false from rfl,show (kR[5]'(by decide)).right=false from rfl,show (kR[5]'(by decide)).role=true from rfl,show (kR[5]'(by decide)).a=false from rfl,show (kR[5]'(by decide)).b=false from rfl,Bool.true_or,Bool.false_or,Bool.true_and];have hl:(kR[5]'(by decide)).least=(5:Int) - 4:=rfl;have hm:(kR[5]'(by decide)).most=3 * (5:Int) - 14:=rfl;simp_all<;>omega)
theorem aPj (x:Ax) (hk:x.kind=6):Tri Tryz.prog 87 [.d (.agg (axR x))] NG (λr=>r= .d (.bool (bI x))):=by
 have e1:=bK x.left
 have e2:=bK x.right
 rw [aJ]at e1 e2
 have c:=tX (k:=x.kind) 6 (by decide) hk
 have e:bI x=bH (kR[6]'(by decide)) x:=by rw [bI,if_neg (by omega),hk];rfl
 rw [e]
 refine qG [1,3] hty Tryz.func87 [0,1,2,3,11] ?_
 refine qX ?_;intros
 refine aA (λf=>by omega) (λf=> ?_)
 refine qX ?_;intros
 refine aA (λg=>by omega) (λg=> ?_)
 (repeat' first|(refine qW ?_;intros)|((conv=>whnf);first|(refine dE (id:=91) hty rfl rfl rfl rfl rfl rfl rfl (by omega) (by omega) ?_)|(refine⟨_,c, ?_⟩)|refine qT e1 ?_|refine qT e2 ?_|refine dwR ?_|((first|refine aA ?_ ?_|refine aC ?_ ?_)<;>intro hb<;>(first|exact ddX hb|try simp only [lnS]at hb))|(refine aB ?_ ?_<;>intro hb<;>try exact dsX hb)))
 all_goals (clear e1 e2 c e;refine bG (Eq.symm ?_);show bH _ x=_;simp only [bH,show (kR[6]'(by decide)).left=false from rfl,show (kR[6]'(by decide)).right=false from rfl,show (kR[6]'(by decide)).role=true from rfl,show (kR[6]'(by decide)).a=false from rfl,show (kR[6]'(by decide)).b=false from rfl,Bool.true_or,Bool.false_or,Bool.true_and];have hl:(kR[6]'(by decide)).least=(6:Int) - 4:=rfl;have hm:(kR[6]'(by decide)).most=3 * (6:Int) - 14:=rfl;simp_all<;>omega)
theorem aFy (x:Ax):Tri Tryz.prog 87 [.d (.agg (axR x))] NG (λr=>r= .d (.bool (bI x))):=by
 by_cases hk:1<=x.kind/\x.kind<=9
 ·rcases(show x.kind=1\/x.kind=2\/x.kind=3\/x.kind=4\/x.kind=5\/x.kind=6\/x.kind=7\/x.kind=8\/x.kind=9 by omega)with h|h|h|h|h|h|h|h|h
  ·exact aPo x h
  ·exact aPn x h
  ·exact aPm x h
  ·exact aPl x h
  ·exact aPk x h
  ·exact aPj x h
  ·exact aPi x h
  ·exact aPh x h
  ·exact aPg x h
 ·have b:bI x=false:=by rw [bI,if_pos (by omega)]
  rw [b]
  refine qG [1,3] hty Tryz.func87 [0,1,2,3,11] ?_
  refine qX ?_;intros
  refine aA (λa=> ?_) (λa=> ?_)
  ·(repeat' first|(refine qW ?_;intros)|((conv=>whnf);first|refine dwR ?_|((first|refine aA ?_ ?_|refine aC ?_ ?_)<;>intro hb<;>(first|exact ddX hb|try simp only [lnS]at hb))|(refine aB ?_ ?_<;>intro hb<;>try exact dsX hb)))
   rfl
  ·refine qX ?_;intros
   refine aA (λc=> ?_) (λc=>by omega)
   (repeat' first|(refine qW ?_;intros)|((conv=>whnf);first|refine dwR ?_|((first|refine aA ?_ ?_|refine aC ?_ ?_)<;>intro hb<;>(first|exact ddX hb|try simp only [lnS]at hb))|(refine aB ?_ ?_<;>intro hb<;>try exact dsX hb)))
   rfl
def pZ (u:Use) (x:Ax):Bool:= !((u.role && !cA x.role) || ((u.a && !fU x.a) || (u.b && !fU x.b))) && x.roles.all cA
theorem aVc {p:List UInt8->Bool}{l:List (List UInt8)}{j:Nat}(h:j < l.length) (h1:(l.take j).all p=true) (h2:p l[j]=true):(l.take (j+1)).all p=true:=by
 rw [List.take_succ_eq_append_getElem h,List.all_append,h1];simp [h2]
theorem aI6 (x:Ax) (u:Use):Tri Tryz.prog 88 [.d (.agg (axR x)), .d (.agg (aZ7 u))] [] (λr=>r= .d (.bool (pZ u x))):=by
 refine qG [2,3] hty Tryz.func88 [0,1,2,3,4,6,34,36,37,38,39,44] ?_
 (repeat' first|(refine qW ?_;intros)|((conv=>whnf);first|refine qT (lF _) ?_|refine qT (aCf _) ?_|refine dwR ?_|((first|refine aA ?_ ?_|refine aC ?_ ?_)<;>intro hb<;>(first|exact ddX hb|try simp only [lnS]at hb))|(refine aB ?_ ?_<;>intro hb<;>try exact dsX hb)))
 all_goals first
  |(refine bG (Eq.symm ?_);unfold pZ;simp_all;done)
  |skip
 all_goals (
  have f:pZ u x=x.roles.all cA:=by unfold pZ;simp_all
  rw [f]
  refine aD hty (λj:Nat=>([(36, .d (.sl 1 (x.roles.map bJ))),(37, .d (.int .i64 x.roles.length)),(38, .d (.int .i64 j))],[])) (λj=>j<=x.roles.length/\(x.roles.take j).all cA=true) (λj=>x.roles.length - j) 0 ⟨by omega,by simp⟩ ⟨by repeat' (first|exact trivial|exact rfl|(rw [List.length_map];exact rfl)|refine And.intro ?_ ?_),trivial⟩ ?_
  rintro j ⟨hj,b⟩
  refine qX ?_;intros
  refine aA (λc=> ?_) (λc=> ?_)
  ·have a:j < x.roles.length:=by omega
   have hrow:(x.roles.map bJ)[(j:Int).toNat]? =some (bJ x.roles[j]):=bA a
   refine qZ ?_;intros
   refine aL [] (lF x.roles[j]) trivial (λr e=> ?_)
   subst e
   cases hb2:cA x.roles[j]
   ·(repeat' first|(refine qW ?_;intros)|((conv=>whnf);first|refine dwR ?_|((first|refine aA ?_ ?_|refine aC ?_ ?_)<;>intro hb<;>(first|exact ddX hb|try simp only [lnS]at hb))|(refine aB ?_ ?_<;>intro hb<;>try exact dsX hb)))
    exact bG (List.all_eq_false.2 ⟨_,List.getElem_mem a,by simp [hb2]⟩).symm
   ·(repeat' first|(refine qW ?_;intros)|((conv=>whnf);first|refine dwR ?_|((first|refine aA ?_ ?_|refine aC ?_ ?_)<;>intro hb<;>(first|exact ddX hb|try simp only [lnS]at hb))|(refine aB ?_ ?_<;>intro hb<;>try exact dsX hb)))
    exact⟨j+1,⟨by omega,aVc a b hb2⟩,qO,qB,trivial⟩
  ·have a:j=x.roles.length:=by omega
   subst a
   rw [List.take_length]at b
   (repeat' first|(refine qW ?_;intros)|((conv=>whnf);first|refine dwR ?_|((first|refine aA ?_ ?_|refine aC ?_ ?_)<;>intro hb<;>(first|exact ddX hb|try simp only [lnS]at hb))|(refine aB ?_ ?_<;>intro hb<;>try exact dsX hb)))
   exact bG b.symm)
end
end Go.Proofs.YtbobcfjlbcgchaaGreatDoor
