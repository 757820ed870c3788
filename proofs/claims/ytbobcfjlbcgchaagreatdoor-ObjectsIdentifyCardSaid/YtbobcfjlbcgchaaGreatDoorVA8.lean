/-
  Terms: the limits of a concept: fits. Terms: the fields of a concept: checkFields. Terms: the concepts within a concept, one after another: visit and walk. Terms: CheckConcept, Size, Depth. Terms: Size, Depth, isBare, isEmpty. Terms: isBare, isEmpty. Terms: the shape and the names of an axiom.
  Conditions: none.
-/
import Derived.Test.YtbobcfjlbcgchaaGreatDoorVA1
import Derived.Test.YtbobcfjlbcgchaaGreatDoorVSna
set_option linter.unusedSectionVars false
set_option linter.unusedSimpArgs false
set_option linter.unusedVariables false
set_option maxHeartbeats 8000000
namespace Go.Proofs.YtbobcfjlbcgchaaGreatDoor
open Go.Proofs
set_option maxRecDepth 10000
attribute [local irreducible] aJ aF Tri aG YVC bS aQ
mutual
def gN:Cn->Int->Int->Bool×Int
 | .mk _ _ _ _ ps,d,n=>if 8 < d\/64 < n+1 then (false,n+1)else jY ps d (n+1)
def jY:List Cn->Int->Int->Bool×Int
 | [],_,n=>(true,n)
 |c::r,d,n=>if (gN c (d+1) n).1=true then jY r d (gN c (d+1) n).2 else (false,(gN c (d+1) n).2)
end
theorem aHh (c:Cn) (d n:Int):gN c d n=if 8 < d\/64 < n+1 then (false,n+1)else jY c.parts d (n+1):=by
 cases c;rw [gN];rfl
mutual
theorem aDf: ∀(c:Cn) (d n:Int),0<=n->n<=64->0<=(gN c d n).2/\(gN c d n).2<=65/\((gN c d n).1=true->(gN c d n).2<=64)
 | .mk _ _ _ _ ps,d,n,h0,h1=>by
  rw [gN]
  split
  ·exact⟨by simp only;omega,by simp only;omega,by simp⟩
  ·exact rJ ps d (n+1) (by omega) (by omega)
theorem rJ: ∀(l:List Cn) (d n:Int),0<=n->n<=64->0<=(jY l d n).2/\(jY l d n).2<=65/\((jY l d n).1=true->(jY l d n).2<=64)
 | [],d,n,h0,h1=>by rw [jY];exact⟨h0,by simp only;omega,λ_=>h1⟩
 |c::r,d,n,h0,h1=>by
  have h:=aDf c (d+1) n h0 h1
  rw [jY]
  split
  ·rename_i hb
   exact rJ r d _ h.1 (h.2.2 hb)
  ·exact⟨h.1,h.2.1,by simp⟩
end
theorem aNo: ∀(c:Cn) (d n:Int) (hp0:Hp) {pin:Pin}{fr:Fr}{K:SV->Hp->Prop}(_:0<=d/\d<=9) (_:0<=n/\n<=64) (_: ∀k,100<=k->k∉pin) (_: ∀k,100<=k->k∉eQ fr) (_: ∀k,100<=k->k∉fG hp0)
  (_:K (.d (.bool (gN c d n).1)) ((3, .cells 3 [.d (.int .i64 (gN c d n).2)])::hp0)),
  aF Tryz.prog pin fr ((3, .cells 3 [.d (.int .i64 n)])::hp0) 146 [.d (.agg (cnR c)), .d (.int .i64 d), .ptr 3 0] K:=by
 refine Cn.ind ?_
 intro c ih d n hp0 pin fr K hd hn hp hf hh hk
 rw [aT]
 rw [aHh]at hk
 refine aI false [3,8] hty Tryz.func146 rfl (kp [0,1,2,3,6,8,21,23,24,25,26,34]) 100 (by simp [Tryz.f146]) ?_
 ((conv=>whnf);repeat' ((first|(intro hq;(try simp only [lnS]at hq);(try rewrite [List.length_map]))|refine sJ ?_|refine .intro _ (.intro rfl ?_)|refine exL (k:= ?_)|(refine And.intro (aRi hp hf (aQz (by decide) (by with_unfolding_all exact rfl) hh) (Nat.le_of_ble_eq_true rfl) (by with_unfolding_all exact rfl)) ?_)|(refine And.intro (aQz (by decide) (by with_unfolding_all exact rfl) hh _ (Nat.le_of_ble_eq_true rfl)) ?_)|refine dwR ?_|((first|refine aA ?_ ?_|refine aC ?_ ?_)<;>intro hb<;>(first|exact ddX hb|try simp only [lnS]at hb))|(refine aB ?_ ?_<;>intro hb<;>try exact dsX hb))<;>(conv=>whnf)))
 ·rw [if_pos (.inl (by assumption))]at hk
  exact hk
 ·rw [if_pos (.inr (by assumption))]at hk
  exact hk
 ·rw [if_neg (by omega)]at hk
  have hb0:=rJ c.parts d (n+1) (by omega) (by omega)
  refine cX hty (λy:Nat×Int=>([(1, .d (.int .i64 d)),(2, .ptr 3 0),(23, .d (.sl 5 (c.parts.map cnR))),(24, .d (.int .i64 c.parts.length)),(25, .d (.int .i64 y.1))],(3, .cells 3 [.d (.int .i64 y.2)])::hp0)) (λy=>y.1<=c.parts.length/\(0<=y.2/\y.2<=64)/\jY c.parts d (n+1)=jY (c.parts.drop y.1) d y.2) (λy=>c.parts.length - y.1) (0,n+1) ⟨by omega,by dsimp only;omega,by simp⟩ (by repeat' (first|exact trivial|exact rfl|(rw [List.length_map];exact rfl)|refine And.intro ?_ ?_)) rfl ?_
  rintro⟨j,m⟩ ⟨hj,hm,he⟩
  dsimp only at hj hm he
  ((conv=>whnf);repeat ((first|(intro hq;try simp only [lnS]at hq)|refine sI ?_|refine .intro _ (.intro rfl ?_));(conv=>whnf)))
  refine aA (λh1=> ?_) (λh1=> ?_)
  ·have hjl:j < c.parts.length:=by omega
   have hrow:(c.parts.map cnR)[(j:Int).toNat]? =some (cnR c.parts[j]):=bV hjl
   have hrow':=hrow
   rw [aT]at hrow'
   rw [List.drop_eq_getElem_cons hjl,jY]at he
   have hbm:=aDf c.parts[j] (d+1) m hm.1 hm.2
   ((conv=>whnf);repeat' ((first|(intro hq;(try simp only [lnS]at hq);(try rewrite [List.length_map]))|refine sJ ?_|refine .intro _ (.intro rfl ?_)|refine exL (k:= ?_)|(refine And.intro (aRi hp hf (aQz (by decide) (by with_unfolding_all exact rfl) hh) (Nat.le_of_ble_eq_true rfl) (by with_unfolding_all exact rfl)) ?_)|(refine And.intro (aQz (by decide) (by with_unfolding_all exact rfl) hh _ (Nat.le_of_ble_eq_true rfl)) ?_)|(refine⟨_,hrow', ?_⟩)|refine dwR ?_|((first|refine aA ?_ ?_|refine aC ?_ ?_)<;>intro hb<;>(first|exact ddX hb|try simp only [lnS]at hb))|(refine aB ?_ ?_<;>intro hb<;>try exact dsX hb))<;>(conv=>whnf)))
   have ih':= @ih c.parts[j] (List.getElem_mem hjl) (d+1) m hp0
   rw [aT]at ih'
   refine ih' (by omega) hm (aUf hp hf) (aUg (by with_unfolding_all exact rfl)) hh ?_
   cases hbv:(gN c.parts[j] (d+1) m).1
   ·rw [hbv,if_neg (by decide)]at he
    rw [he]at hk
    ((conv=>whnf);repeat' ((first|(intro hq;(try simp only [lnS]at hq);(try rewrite [List.length_map]))|refine sJ ?_|refine .intro _ (.intro rfl ?_)|refine exL (k:= ?_)|refine dwR ?_|((first|refine aA ?_ ?_|refine aC ?_ ?_)<;>intro hb<;>(first|exact ddX hb|try simp only [lnS]at hb))|(refine aB ?_ ?_<;>intro hb<;>try exact dsX hb))<;>(conv=>whnf)))
    exact hk
   ·rw [hbv,if_pos rfl]at he
    ((conv=>whnf);repeat' ((first|(intro hq;(try simp only [lnS]at hq);(try rewrite [List.length_map]))|refine sJ ?_|refine .intro _ (.intro rfl ?_)|refine exL (k:= ?_)|refine dwR ?_|((first|refine aA ?_ ?_|refine aC ?_ ?_)<;>intro hb<;>(first|exact ddX hb|try simp only [lnS]at hb))|(refine aB ?_ ?_<;>intro hb<;>try exact dsX hb))<;>(conv=>whnf)))
    exact⟨(j+1,(gN c.parts[j] (d+1) m).2),⟨by dsimp only;omega,⟨hbm.1,hbm.2.2 hbv⟩,he⟩,by dsimp only;omega,by repeat' (first|exact trivial|exact rfl|refine And.intro ?_ ?_),rfl⟩
  ·have hjl:j=c.parts.length:=by dsimp only at h1;omega
   subst hjl
   rw [List.drop_length,jY]at he
   rw [he]at hk
   ((conv=>whnf);repeat' ((first|(intro hq;(try simp only [lnS]at hq);(try rewrite [List.length_map]))|refine sJ ?_|refine .intro _ (.intro rfl ?_)|refine exL (k:= ?_)|refine dwR ?_|((first|refine aA ?_ ?_|refine aC ?_ ?_)<;>intro hb<;>(first|exact ddX hb|try simp only [lnS]at hb))|(refine aB ?_ ?_<;>intro hb<;>try exact dsX hb))<;>(conv=>whnf)))
   exact hk
end Go.Proofs.YtbobcfjlbcgchaaGreatDoor
namespace Go.Proofs.YtbobcfjlbcgchaaGreatDoor
open Go.Proofs
set_option maxRecDepth 10000
attribute [local irreducible] aJ aF Tri aG YVC bS aQ
structure Need where
 name:Int
 least:Int
 most:Int
 nums:Bool
def aMw:List Need:=[⟨0,0,0,false⟩,⟨0,0,0,false⟩,⟨0,0,0,false⟩,⟨1,0,0,false⟩,⟨2,0,0,false⟩,⟨0,2,8,false⟩,⟨1,1,1,false⟩,⟨1,0,0,true⟩]
def aQa (n:Need):List D:=[.int .i64 n.name, .int .i64 n.least, .int .i64 n.most, .bool n.nums]
structure Use where
 left:Bool
 right:Bool
 role:Bool
 a:Bool
 b:Bool
 least:Int
 most:Int
def iQ : List Use := [⟨false, false, false, false, false, 0, 0⟩, ⟨true, true, false, false, false, 0, 0⟩, ⟨true, true, false, false, false, 0, 0⟩, ⟨true, true, false, false, false, 0, 0⟩, ⟨false, true, true, false, false, 0, 0⟩,
 ⟨false,false,true,false,false,1,1⟩,⟨false,false,true,false,false,2,4⟩,⟨false,false,true,false,false,0,0⟩,⟨false,true,false,true,false,0,0⟩,⟨false,false,true,true,true,0,0⟩]
def aS9 (u:Use):List D:=[.bool u.left, .bool u.right, .bool u.role, .bool u.a, .bool u.b, .int .i64 u.least, .int .i64 u.most]
def NG:Hp:=[(90, .glob 3 4 (aMw.map aQa)),(91, .glob 0 7 (iQ.map aS9))]
def gP (k:Int):Need:=aMw.getD k.toNat ⟨0,0,0,false⟩
def dB (k:Int):Use:=iQ.getD k.toNat ⟨false,false,false,false,false,0,0⟩
theorem aQ9 {k:Int}(h:1<=k/\k<=7):(aMw.map aQa)[k.toNat]? =some (aQa (gP k)):=by
 have hl:k.toNat < aMw.length:=by show k.toNat < 8;omega
 rw [List.getElem?_map,List.getElem?_eq_getElem hl,gP,List.getD,List.getElem?_eq_getElem hl];rfl
theorem aL8 {k:Int}(h:1<=k/\k<=9):(iQ.map aS9)[k.toNat]? =some (aS9 (dB k)):=by
 have hl:k.toNat < iQ.length:=by show k.toNat < 10;omega
 rw [List.getElem?_map,List.getElem?_eq_getElem hl,dB,List.getD,List.getElem?_eq_getElem hl];rfl
def aBc (n:Need) (s:List UInt8):Int:=if n.name=0\/dE s=true\/(n.name=2/\aOj s=true)then 0 else 20
def gO (n:Need) (c:Cn):Int:=
 if (c.parts.length:Int) < n.least\/n.most < c.parts.length\/(n.name=0/\c.name≠[])then 21
 else if n.nums=true then (if c.lo < -1099511627776\/c.hi < c.lo\/1099511627776 < c.hi then 21 else aBc n c.name)
 else (if c.lo≠0\/c.hi≠0 then 21 else aBc n c.name)
def bR (c:Cn):Int:=if c.kind < 1\/7 < c.kind then 21 else gO (gP c.kind) c
theorem eX {a b:Int}(h:a=b):SV.d (.int .i64 a)=SV.d (.int .i64 b):=by rw [h]
theorem uB (c:Cn):Tri Tryz.prog 148 [.d (.agg (cnR c))] NG (λr=>r= .d (.int .i64 (bR c))):=by
 rw [aT]
 refine aH false [] hty Tryz.func148 rfl (kp [0,1,2,3,11,39,41,56,64,82]) [] _ _ _ (by simp [Tryz.f148]) (by decide) ?_
 ((conv=>whnf);repeat ((first|(intro hq;try simp only [lnS]at hq)|refine sI ?_|refine .intro _ (.intro rfl ?_));(conv=>whnf)))
 refine aA (λh1=> ?_) (λh1=> ?_)
 ·((conv=>whnf);repeat' ((first|(intro hq;(try simp only [lnS]at hq);(try rewrite [List.length_map]))|refine sJ ?_|refine .intro _ (.intro rfl ?_)|refine exL (k:= ?_)|refine dwR ?_|((first|refine aA ?_ ?_|refine aC ?_ ?_)<;>intro hb<;>(first|exact ddX hb|try simp only [lnS]at hb))|(refine aB ?_ ?_<;>intro hb<;>try exact dsX hb))<;>(conv=>whnf)))
  exact eX (by rw [bR,if_pos (.inl h1)])
 ·((conv=>whnf);repeat ((first|(intro hq;try simp only [lnS]at hq)|refine sI ?_|refine .intro _ (.intro rfl ?_));(conv=>whnf)))
  refine aA (λh2=> ?_) (λh2=> ?_)
  ·((conv=>whnf);repeat' ((first|(intro hq;(try simp only [lnS]at hq);(try rewrite [List.length_map]))|refine sJ ?_|refine .intro _ (.intro rfl ?_)|refine exL (k:= ?_)|refine dwR ?_|((first|refine aA ?_ ?_|refine aC ?_ ?_)<;>intro hb<;>(first|exact ddX hb|try simp only [lnS]at hb))|(refine aB ?_ ?_<;>intro hb<;>try exact dsX hb))<;>(conv=>whnf)))
   exact eX (by rw [bR,if_pos (.inr h2)])
  ·have hE:bR c=gO (gP c.kind) c:=by rw [bR,if_neg (by omega)]
   rw [hE]
   have hrow:=aQ9 (k:=c.kind) (by omega)
   generalize gP c.kind=n at hrow
   clear hE
   ((conv=>whnf);repeat' ((first|(intro hq;(try simp only [lnS]at hq);(try rewrite [List.length_map]))|refine sJ ?_|refine .intro _ (.intro rfl ?_)|refine exL (k:= ?_)|(refine cR (id:=90) hty rfl rfl rfl rfl rfl rfl rfl (by omega) (by omega) ?_)|(refine⟨_,hrow, ?_⟩)|(refine aD [] (iY _) trivial (λr hs=> ?_);subst hs)|(refine aD [] (mN _) trivial (λr hs=> ?_);subst hs)|refine dwR ?_|((first|refine aA ?_ ?_|refine aC ?_ ?_)<;>intro hb<;>(first|exact ddX hb|try simp only [lnS]at hb))|(refine aB ?_ ?_<;>intro hb<;>try exact dsX hb))<;>(conv=>whnf)))
   all_goals (
    refine eX (Eq.symm ?_)
    unfold gO
    first
    |(rw [if_pos (by first|exact .inl (by assumption)|exact .inr (.inl (by assumption))|exact .inr (.inr ⟨by assumption,by assumption⟩))])
    | (rw [if_neg (by simp_all)]
       first
       | (rw [if_pos (by assumption)]
          first
          |(rw [if_pos (by omega)])
          |(rw [if_neg (by omega)];unfold aBc;simp_all))
       | (rw [if_neg (by simp_all)]
          first
          |(rw [if_pos (by omega)])
          |(rw [if_neg (by omega)];unfold aBc;simp_all))))
end Go.Proofs.YtbobcfjlbcgchaaGreatDoor
namespace Go.Proofs.YtbobcfjlbcgchaaGreatDoor
open Go.Proofs
set_option maxRecDepth 10000
attribute [local irreducible] aJ aF Tri aG YVC bS aQ
mutual
def gG:Cn->List Cn
 | .mk k n lo hi ps=> .mk k n lo hi ps::bM ps
def bM:List Cn->List Cn
 | []=>[]
 |c::r=>gG c++bM r
end
theorem eP (c:Cn):gG c=c::bM c.parts:=by cases c;rw [gG];rfl
theorem dN: ∀(l m:List Cn),bM (l++m)=bM l++bM m
 | [],m=>by simp [bM]
 |c::l,m=>by simp [bM,dN l m]
theorem wE {l:List Cn}{j:Nat}(h:j < l.length):bM (l.take (j+1))=bM (l.take j)++gG l[j]:=by
 rw [List.take_succ_eq_append_getElem h,dN];simp [bM]
structure Rounds (all:List Cn) (lid:Nat) (Cont:List Cn->Hp->Prop) (Stop:Hp->Prop):Prop where
 big: ∀done hp,Cont done hp-> ∀k,100<=k->k∉fG hp
 step: ∀(done:List Cn) (x:Cn) (hp:Hp) (pin:Pin) (fr:Fr) (K:SV->Hp->Prop),Cont done hp->(∃rest,done++x::rest=all)->(∀k,100<=k->k∉pin)->(∀k,100<=k->k∉eQ fr)->
  (∀hp',Cont (done++[x]) hp'->K (.d (.bool true)) hp')->(∀hp',Stop hp'->K (.d (.bool false)) hp')->YVC Tryz.prog pin fr hp lid [.d (.agg (cnR x))] K
theorem aYb {lid:Nat}(hlid:lid < 100): ∀fr:Fr,eQ fr=[lid]\/eQ fr=[lid,lid]\/eQ fr=[lid,lid,lid]-> ∀k,100<=k->k∉eQ fr:=by
 intro fr h k hk hm
 rcases h with h|h|h<;>rw [h]at hm<;>simp at hm<;>omega
theorem aId {all:List Cn}{lid:Nat}(hlid:lid < 100) {Cont:List Cn->Hp->Prop}{Stop:Hp->Prop}(R:Rounds all lid Cont Stop): ∀(c:Cn) (done:List Cn) (hp:Hp) {pin:Pin}{fr:Fr}{K:SV->Hp->Prop}(_:Cont done hp) (_: ∃rest,done++(gG c++rest)=all) (_: ∀k,100<=k->k∉pin) (_: ∀k,100<=k->k∉eQ fr)
  (_: ∀hp',Cont (done++gG c) hp'->K (.d (.bool true)) hp') (_: ∀hp',Stop hp'->K (.d (.bool false)) hp'),aF Tryz.prog pin fr hp 197 [.d (.agg (cnR c)), .yld lid] K:=by
 refine Cn.ind ?_
 intro c ih done hp pin fr K hC hA hp1 hf hk1 hk2
 have hh:=R.big _ _ hC
 have hlidF:=aYb hlid
 have hcR:=aT c
 rw [hcR]
 refine aI false [2,6] hty Tryz.func197 rfl (kp [0,1,2,4,6,10,12,13,14,15,21]) 100 (by simp [Tryz.f197]) ?_
 ((conv=>whnf);repeat' ((first|(intro hq;(try simp only [lnS]at hq);(try rewrite [List.length_map]))|refine sJ ?_|refine .intro _ (.intro rfl ?_)|refine exL (k:= ?_)|(refine And.intro ⟨aUf hp1 hf _ (Nat.le_of_ble_eq_true rfl),hlidF _ (by with_unfolding_all first|exact .inl rfl|exact .inr (.inl rfl)|exact .inr (.inr rfl)) _ (Nat.le_of_ble_eq_true rfl),hh _ (Nat.le_of_ble_eq_true rfl)⟩ ?_)|(refine And.intro (hh _ (Nat.le_of_ble_eq_true rfl)) ?_)|refine dwR ?_|((first|refine aA ?_ ?_|refine aC ?_ ?_)<;>intro hb<;>(first|exact ddX hb|try simp only [lnS]at hb))|(refine aB ?_ ?_<;>intro hb<;>try exact dsX hb))<;>(conv=>whnf)))
 obtain⟨rest,hA⟩:=hA
 rw [eP]at hA
 have st:= λpin fr K=>R.step done c hp pin fr K hC ⟨bM c.parts++rest,by simpa using hA⟩
 simp only [hcR]at st
 refine st _ _ _ (aUf hp1 hf) (hlidF _ (by with_unfolding_all first|exact .inl rfl|exact .inr (.inl rfl)|exact .inr (.inr rfl))) (λhp2 hC2=> ?_) (λhp2 hS2=> ?_)
 ·((conv=>whnf);repeat' ((first|(intro hq;(try simp only [lnS]at hq);(try rewrite [List.length_map]))|refine sJ ?_|refine .intro _ (.intro rfl ?_)|refine exL (k:= ?_)|refine dwR ?_|((first|refine aA ?_ ?_|refine aC ?_ ?_)<;>intro hb<;>(first|exact ddX hb|try simp only [lnS]at hb))|(refine aB ?_ ?_<;>intro hb<;>try exact dsX hb))<;>(conv=>whnf)))
  refine cX hty (λy:Nat×Hp=>([(1, .yld lid),(12, .d (.sl 5 (c.parts.map cnR))),(13, .d (.int .i64 c.parts.length)),(14, .d (.int .i64 y.1))],y.2)) (λy=>y.1<=c.parts.length/\Cont (done++c::bM (c.parts.take y.1)) y.2) (λy=>c.parts.length - y.1) (0,hp2) ⟨by omega,by simpa [bM]using hC2⟩ (by repeat' (first|exact trivial|exact rfl|(rw [List.length_map];exact rfl)|refine And.intro ?_ ?_)) rfl ?_
  rintro⟨j,hp3⟩ ⟨hj,hC3⟩
  dsimp only at hj hC3
  have hh3:=R.big _ _ hC3
  ((conv=>whnf);repeat ((first|(intro hq;try simp only [lnS]at hq)|refine sI ?_|refine .intro _ (.intro rfl ?_));(conv=>whnf)))
  refine aA (λh1=> ?_) (λh1=> ?_)
  ·have hjl:j < c.parts.length:=by omega
   have hrow:(c.parts.map cnR)[(j:Int).toNat]? =some (cnR c.parts[j]):=bV hjl
   have hrow':=hrow
   rw [aT]at hrow'
   ((conv=>whnf);repeat' ((first|(intro hq;(try simp only [lnS]at hq);(try rewrite [List.length_map]))|refine sJ ?_|refine .intro _ (.intro rfl ?_)|refine exL (k:= ?_)|(refine And.intro ⟨aUf hp1 hf _ (Nat.le_of_ble_eq_true rfl),hlidF _ (by with_unfolding_all first|exact .inl rfl|exact .inr (.inl rfl)|exact .inr (.inr rfl)) _ (Nat.le_of_ble_eq_true rfl),hh3 _ (Nat.le_of_ble_eq_true rfl)⟩ ?_)|(refine And.intro (hh3 _ (Nat.le_of_ble_eq_true rfl)) ?_)|(refine⟨_,hrow', ?_⟩)|refine dwR ?_|((first|refine aA ?_ ?_|refine aC ?_ ?_)<;>intro hb<;>(first|exact ddX hb|try simp only [lnS]at hb))|(refine aB ?_ ?_<;>intro hb<;>try exact dsX hb))<;>(conv=>whnf)))
   have ih':= @ih c.parts[j] (List.getElem_mem hjl) (done++c::bM (c.parts.take j)) hp3
   rw [aT]at ih'
   refine ih' hC3 ⟨bM (c.parts.drop (j + 1)) ++ rest, by
    rw [<-hA]
    have e:bM c.parts=bM (c.parts.take j)++(gG c.parts[j]++bM (c.parts.drop (j+1))):=by
     conv=>lhs;rw [<-List.take_append_drop j c.parts,dN,List.drop_eq_getElem_cons hjl,bM]
    rw [e];simp⟩ (aUf hp1 hf) (hlidF _ (by with_unfolding_all first|exact .inl rfl|exact .inr (.inl rfl)|exact .inr (.inr rfl))) (λhp4 hC4=> ?_) (λhp4 hS4=> ?_)
   ·((conv=>whnf);repeat' ((first|(intro hq;(try simp only [lnS]at hq);(try rewrite [List.length_map]))|refine sJ ?_|refine .intro _ (.intro rfl ?_)|refine exL (k:= ?_)|refine dwR ?_|((first|refine aA ?_ ?_|refine aC ?_ ?_)<;>intro hb<;>(first|exact ddX hb|try simp only [lnS]at hb))|(refine aB ?_ ?_<;>intro hb<;>try exact dsX hb))<;>(conv=>whnf)))
    refine⟨(j+1,hp4),⟨by dsimp only;omega, ?_⟩,by dsimp only;omega,by repeat' (first|exact trivial|exact rfl|refine And.intro ?_ ?_),rfl⟩
    dsimp only
    rw [wE hjl]
    simpa using hC4
   ·((conv=>whnf);repeat' ((first|(intro hq;(try simp only [lnS]at hq);(try rewrite [List.length_map]))|refine sJ ?_|refine .intro _ (.intro rfl ?_)|refine exL (k:= ?_)|refine dwR ?_|((first|refine aA ?_ ?_|refine aC ?_ ?_)<;>intro hb<;>(first|exact ddX hb|try simp only [lnS]at hb))|(refine aB ?_ ?_<;>intro hb<;>try exact dsX hb))<;>(conv=>whnf)))
    exact hk2 _ hS4
  ·have hjl:j=c.parts.length:=by dsimp only at h1;omega
   subst hjl
   rw [List.take_length,<-eP]at hC3
   ((conv=>whnf);repeat' ((first|(intro hq;(try simp only [lnS]at hq);(try rewrite [List.length_map]))|refine sJ ?_|refine .intro _ (.intro rfl ?_)|refine exL (k:= ?_)|refine dwR ?_|((first|refine aA ?_ ?_|refine aC ?_ ?_)<;>intro hb<;>(first|exact ddX hb|try simp only [lnS]at hb))|(refine aB ?_ ?_<;>intro hb<;>try exact dsX hb))<;>(conv=>whnf)))
   exact hk1 _ hC3
 ·((conv=>whnf);repeat' ((first|(intro hq;(try simp only [lnS]at hq);(try rewrite [List.length_map]))|refine sJ ?_|refine .intro _ (.intro rfl ?_)|refine exL (k:= ?_)|refine dwR ?_|((first|refine aA ?_ ?_|refine aC ?_ ?_)<;>intro hb<;>(first|exact ddX hb|try simp only [lnS]at hb))|(refine aB ?_ ?_<;>intro hb<;>try exact dsX hb))<;>(conv=>whnf)))
  exact hk2 _ hS2
theorem aC5 (c:Cn):Tri Tryz.prog 147 [.d (.agg (cnR c))] [] (λr=>r= .fn 196 [] [.ea 5 [cnR c] 0 0]):=by
 rw [aT]
 refine aH false [1] hty Tryz.func147 rfl (kp [0,1,2]) [] _ _ _ (by simp [Tryz.f147]) (by simp) ?_
 ((conv=>whnf);repeat' ((first|(intro hq;(try simp only [lnS]at hq);(try rewrite [List.length_map]))|refine sJ ?_|refine .intro _ (.intro rfl ?_)|refine exL (k:= ?_)|refine dwR ?_|((first|refine aA ?_ ?_|refine aC ?_ ?_)<;>intro hb<;>(first|exact ddX hb|try simp only [lnS]at hb))|(refine aB ?_ ?_<;>intro hb<;>try exact dsX hb))<;>(conv=>whnf)))
 rfl
theorem aIb {lid:Nat}(hlid:lid < 100) {Cont:List Cn->Hp->Prop}{Stop:Hp->Prop}(c:Cn) (R:Rounds (gG c) lid Cont Stop) {hp:Hp}{pin:Pin}{fr:Fr}{K:SV->Hp->Prop}(hC:Cont [] hp) (hp1: ∀k,100<=k->k∉pin) (hf: ∀k,100<=k->k∉eQ fr)
  (hk1: ∀hp',Cont (gG c) hp'->K (cU []) hp') (hk2: ∀hp',Stop hp'->K (cU []) hp'):aF Tryz.prog pin fr hp 196 [.yld lid, .ea 5 [cnR c] 0 0] K:=by
 have hcR:=aT c
 have vs:= λpin fr K=> @aId (gG c) lid hlid Cont Stop R c [] hp pin fr K hC ⟨[],by simp⟩
 rw [hcR]
 simp only [hcR]at vs
 refine aI false [] hty Tryz.func196 rfl (kp [0,1]) 200 (by simp [Tryz.f196]) ?_
 ((conv=>whnf);repeat' ((first|(intro hq;(try simp only [lnS]at hq);(try rewrite [List.length_map]))|refine sJ ?_|refine .intro _ (.intro rfl ?_)|refine exL (k:= ?_)|refine dwR ?_|((first|refine aA ?_ ?_|refine aC ?_ ?_)<;>intro hb<;>(first|exact ddX hb|try simp only [lnS]at hb))|(refine aB ?_ ?_<;>intro hb<;>try exact dsX hb))<;>(conv=>whnf)))
 refine vs _ _ _ (aUf hp1 hf) (aYb hlid _ (by with_unfolding_all first|exact .inl rfl|exact .inr (.inl rfl)|exact .inr (.inr rfl))) (λhp2 hC2=> ?_) (λhp2 hS2=> ?_)
 ·((conv=>whnf);repeat' ((first|(intro hq;(try simp only [lnS]at hq);(try rewrite [List.length_map]))|refine sJ ?_|refine .intro _ (.intro rfl ?_)|refine exL (k:= ?_)|refine dwR ?_|((first|refine aA ?_ ?_|refine aC ?_ ?_)<;>intro hb<;>(first|exact ddX hb|try simp only [lnS]at hb))|(refine aB ?_ ?_<;>intro hb<;>try exact dsX hb))<;>(conv=>whnf)))
  exact hk1 _ (by simpa using hC2)
 ·((conv=>whnf);repeat' ((first|(intro hq;(try simp only [lnS]at hq);(try rewrite [List.length_map]))|refine sJ ?_|refine .intro _ (.intro rfl ?_)|refine exL (k:= ?_)|refine dwR ?_|((first|refine aA ?_ ?_|refine aC ?_ ?_)<;>intro hb<;>(first|exact ddX hb|try simp only [lnS]at hb))|(refine aB ?_ ?_<;>intro hb<;>try exact dsX hb))<;>(conv=>whnf)))
  exact hk2 _ hS2
theorem vT {lid:Nat}(hlid:lid < 100) {L:LoopI}{σ:Type}(St:σ->Hp) (Inv:List Cn->σ->Prop) (Bad:σ->Prop) (c:Cn) (s0:σ) (h0:Inv [] s0) {pin:Pin}{fr:Fr}{K:SV->Hp->Prop}(hL:L.fr.all (λp=>p.2.ids.isEmpty || p.2.ids.all λk=>decide (k < 100))=true) (hb: ∀s,∀k,100<=k->k∉fG (St s)) (hp1: ∀k,100<=k->k∉pin) (hf: ∀k,100<=k->k∉eQ fr)
  (step : ∀ (done : List Cn) (x : Cn) (s : σ) (pin : Pin) (fr : Fr) (K : SV -> Hp -> Prop), Inv done s -> (∃ rest, done ++ x :: rest = gG c) -> (∀ k, 100 <= k -> k ∉ pin) -> (∀ k, 100 <= k -> k ∉ eQ fr) ->
   (∀s',Inv (done++[x]) s'->K (.d (.bool true)) ((lid, .loop L .ready)::St s'))->(∀s',Bad s'->K (.d (.bool false)) ((lid, .loop L (.done .ret))::St s'))->YVC Tryz.prog pin fr ((lid, .loop L .ready)::St s) lid [.d (.agg (cnR x))] K)
  (hk1: ∀s,Inv (gG c) s->K (cU []) ((lid, .loop L .ready)::St s)) (hk2: ∀s,Bad s->K (cU []) ((lid, .loop L (.done .ret))::St s)):
  aF Tryz.prog pin fr ((lid, .loop L .ready)::St s0) 196 [.yld lid, .ea 5 [cnR c] 0 0] K:=by
 refine aIb hlid (Cont:= λdone hp=> ∃s,hp=(lid, .loop L .ready)::St s/\Inv done s) (Stop:= λhp=> ∃s,hp=(lid, .loop L (.done .ret))::St s/\Bad s) c ⟨?_, ?_⟩ ⟨s0,rfl,h0⟩ hp1 hf ?_ ?_
 ·rintro done hp ⟨s,rfl,_⟩ k hk hm
  simp only [fG,List.flatMap_cons,List.mem_append,List.mem_cons]at hm
  rcases hm with(hm|hm)|hm
  ·omega
  ·simp only [HObj.ids,eQ,List.mem_flatMap]at hm
   obtain⟨p,h1,h2⟩:=hm
   have:=List.all_eq_true.1 hL p h1
   simp only [Bool.or_eq_true]at this
   rcases this with h|h
   ·rw [List.isEmpty_iff.1 h]at h2;simp at h2
   ·have:=List.all_eq_true.1 h k h2
    simp at this;omega
  ·exact hb s k hk hm
 ·rintro done x hp pin fr K ⟨s,rfl,hI⟩ hA h1 h2 h3 h4
  exact step done x s pin fr K hI hA h1 h2 (λs' hI'=>h3 _ ⟨s',rfl,hI'⟩) (λs' hB=>h4 _ ⟨s',rfl,hB⟩)
 ·rintro hp ⟨s,rfl,hI⟩
  exact hk1 s hI
 ·rintro hp ⟨s,rfl,hB⟩
  exact hk2 s hB
end Go.Proofs.YtbobcfjlbcgchaaGreatDoor
namespace Go.Proofs.YtbobcfjlbcgchaaGreatDoor
open Go.Proofs
set_option maxRecDepth 10000
attribute [local irreducible] aJ aF Tri aG YVC bS aQ
def jZ:List Cn->Int
 | []=>0
 |x::r=>if bR x≠0 then bR x else jZ r
def bK (c:Cn):Int:=if (gN c 0 0).1=false then 21 else jZ (gG c)
theorem kT: ∀(l m:List Cn),(∀x∈l,bR x=0)->jZ (l++m)=jZ m
 | [],_,_=>rfl
 |x::l,m,h=>by
  rw [List.cons_append,jZ,if_neg (by simp [h x (List.mem_cons_self ..)])]
  exact kT l m λy hy=>h y (List.mem_cons_of_mem _ hy)
theorem aVy: ∀k,100<=k->k∉fG NG:=by
 intro k hk hm
 have e:fG NG=[90,91]:=by with_unfolding_all exact rfl
 rw [e]at hm
 simp at hm
 omega
theorem kE (c:Cn):Tri Tryz.prog 89 [.d (.agg (cnR c))] NG (λr=>r= .d (.int .i64 (bK c))):=by
 have hcR:=aT c
 have hw:=aC5 c
 have hfit:= λhp0 pin fr K=> @aNo c 0 0 hp0 pin fr K (by omega) (by omega)
 rw [hcR]
 simp only [hcR]at hw hfit
 refine aH false [1] hty Tryz.func89 rfl (kp [0,1,2,3,4,5,8,10,11,15]) [] _ _ _ (by simp [Tryz.f89]) (by decide) ?_
 ((conv=>whnf);repeat' ((first|(intro hq;(try simp only [lnS]at hq);(try rewrite [List.length_map]))|refine sJ ?_|refine .intro _ (.intro rfl ?_)|refine exL (k:= ?_)|refine dwR ?_|((first|refine aA ?_ ?_|refine aC ?_ ?_)<;>intro hb<;>(first|exact ddX hb|try simp only [lnS]at hb))|(refine aB ?_ ?_<;>intro hb<;>try exact dsX hb))<;>(conv=>whnf)))
 refine hfit ((2, .cells 26 [.d (.int .i64 0)])::NG) _ _ _ (by simp) (aUg (by with_unfolding_all exact rfl)) (aQz (by decide) (by with_unfolding_all exact rfl) aVy) ?_
 cases hb:(gN c 0 0).1
 ·((conv=>whnf);repeat' ((first|(intro hq;(try simp only [lnS]at hq);(try rewrite [List.length_map]))|refine sJ ?_|refine .intro _ (.intro rfl ?_)|refine exL (k:= ?_)|refine dwR ?_|((first|refine aA ?_ ?_|refine aC ?_ ?_)<;>intro hb<;>(first|exact ddX hb|try simp only [lnS]at hb))|(refine aB ?_ ?_<;>intro hb<;>try exact dsX hb))<;>(conv=>whnf)))
  rw [bK,if_pos hb];rfl
 ·have hE:bK c=jZ (gG c):=by rw [bK,if_neg (by simp [hb])]
  rw [hE]
  ((conv=>whnf);repeat ((first|(intro hq;try simp only [lnS]at hq)|refine sI ?_|refine .intro _ (.intro rfl ?_));(conv=>whnf)))
  refine aD [] hw trivial (λs hs=> ?_)
  subst hs
  ((conv=>whnf);repeat ((first|(intro hq;try simp only [lnS]at hq)|refine sI ?_|refine .intro _ (.intro rfl ?_));(conv=>whnf)))
  refine nI 60 (bY (by with_unfolding_all exact rfl)) trivial ?_
  ((conv=>whnf);repeat ((first|(intro hq;try simp only [lnS]at hq)|refine sI ?_|refine .intro _ (.intro rfl ?_));(conv=>whnf)))
  rw [<-hcR]
  refine vT (lid:=60) (by decide) (λe:Int=>(3,_)::(2, .cells 26 [.d (.int .i64 e)])::NG) (λdone e=>e=0/\ ∀x∈done,bR x=0) (λe=>e=jZ (gG c)) c 0 ⟨rfl,by simp⟩ (by with_unfolding_all exact rfl) (λe=>aQz (by decide) (by with_unfolding_all exact rfl) (aQz (by decide) (by with_unfolding_all exact rfl) aVy)) (by simp) (aUg (by with_unfolding_all exact rfl)) ?_ ?_ ?_
  ·rintro done x s pin fr K ⟨rfl,hd⟩ ⟨rest,hA⟩ h1 h2 h3 h4
   have hx:=aT x
   have hcf:=uB x
   rw [hx]at hcf |-
   have hbig: ∀k,100<=k->k∉pin++eQ fr++[60]:=by
    intro k hk hm
    simp only [aQd,aQe,List.mem_append,List.mem_singleton]at hm
    rcases hm with(hm|hm)|hm
    ·exact h1 k hk hm
    ·exact h2 k hk hm
    ·omega
   refine iU [4] hty (kp [0,1,2,3,4,5,8,10,11,15]) 600 rfl rfl ?_
   ((conv=>whnf);repeat' ((first|(intro hq;(try simp only [lnS]at hq);(try rewrite [List.length_map]))|refine sJ ?_|refine .intro _ (.intro rfl ?_)|refine exL (k:= ?_)|(refine And.intro ⟨hbig _ (Nat.le_of_ble_eq_true rfl),aUg (by with_unfolding_all exact rfl) _ (Nat.le_of_ble_eq_true rfl),jR (by with_unfolding_all exact rfl)⟩ ?_)|(refine aD NG hcf ⟨rfl,rfl,trivial⟩ (λr hs=> ?_);subst hs)|refine dwR ?_|((first|refine aA ?_ ?_|refine aC ?_ ?_)<;>intro hb<;>(first|exact ddX hb|try simp only [lnS]at hb))|(refine aB ?_ ?_<;>intro hb<;>try exact dsX hb))<;>(conv=>whnf)))
   ·exact h4 (bR x) (by rw [<-hA,kT _ _ hd,jZ,if_pos (by assumption)])
   ·refine h3 0 ⟨rfl,λy hy=> ?_⟩
    rcases List.mem_append.1 hy with h|h
    ·exact hd y h
    ·simp at h;subst h;assumption
  ·rintro s ⟨rfl,hI⟩
   have hz:jZ (gG c)=0:=by
    have:=kT (gG c) [] hI
    simpa [jZ]using this
   rw [hz]
   ((conv=>whnf);repeat' ((first|(intro hq;(try simp only [lnS]at hq);(try rewrite [List.length_map]))|refine sJ ?_|refine .intro _ (.intro rfl ?_)|refine exL (k:= ?_)|refine dwR ?_|((first|refine aA ?_ ?_|refine aC ?_ ?_)<;>intro hb<;>(first|exact ddX hb|try simp only [lnS]at hb))|(refine aB ?_ ?_<;>intro hb<;>try exact dsX hb))<;>(conv=>whnf)))
   rfl
  ·rintro s rfl
   ((conv=>whnf);repeat' ((first|(intro hq;(try simp only [lnS]at hq);(try rewrite [List.length_map]))|refine sJ ?_|refine .intro _ (.intro rfl ?_)|refine exL (k:= ?_)|refine dwR ?_|((first|refine aA ?_ ?_|refine aC ?_ ?_)<;>intro hb<;>(first|exact ddX hb|try simp only [lnS]at hb))|(refine aB ?_ ?_<;>intro hb<;>try exact dsX hb))<;>(conv=>whnf)))
   rfl
end Go.Proofs.YtbobcfjlbcgchaaGreatDoor
namespace Go.Proofs.YtbobcfjlbcgchaaGreatDoor
open Go.Proofs
set_option maxRecDepth 10000
attribute [local irreducible] aJ aF Tri aG YVC bS aQ
def bB (c:Cn):Nat:=(gG c).length
theorem aLu (c:Cn):1<=bB c:=by rw [bB,eP];simp
theorem aLt (c:Cn) (hs:bB c<=1000000):Tri Tryz.prog 130 [.d (.agg (cnR c))] [] (λr=>r= .d (.int .i64 (bB c))):=by
 have hcR:=aT c
 have hw:=aC5 c
 rw [hcR]
 simp only [hcR]at hw
 refine aH false [1] hty Tryz.func130 rfl (kp [0,1,2,4]) [] _ _ _ (by simp [Tryz.f130]) (by simp) ?_
 ((conv=>whnf);repeat ((first|(intro hq;try simp only [lnS]at hq)|refine sI ?_|refine .intro _ (.intro rfl ?_));(conv=>whnf)))
 refine aD [] hw trivial (λs hs=> ?_)
 subst hs
 ((conv=>whnf);repeat ((first|(intro hq;try simp only [lnS]at hq)|refine sI ?_|refine .intro _ (.intro rfl ?_));(conv=>whnf)))
 refine nI 60 (bY (by with_unfolding_all exact rfl)) trivial ?_
 ((conv=>whnf);repeat ((first|(intro hq;try simp only [lnS]at hq)|refine sI ?_|refine .intro _ (.intro rfl ?_));(conv=>whnf)))
 rw [<-hcR]
 refine vT (lid:=60) (by decide) (λn:Nat=>(2, .cells 3 [.d (.int .i64 n)])::[]) (λdone n=>n=done.length) (λ_=>False) c 0 rfl (by with_unfolding_all exact rfl) (λe=>aQz (by decide) (by with_unfolding_all exact rfl) (by simp [fG])) (by simp) (aUg (by with_unfolding_all exact rfl)) ?_ ?_ ?_
 ·rintro done x n pin fr K rfl ⟨rest,hA⟩ h1 h2 h3 h4
  have hl:done.length < bB c:=by rw [bB,<-hA];simp
  refine iU [] hty (kp [0,1,2,4]) 600 rfl rfl ?_
  ((conv=>whnf);repeat' ((first|(intro hq;(try simp only [lnS]at hq);(try rewrite [List.length_map]))|refine sJ ?_|refine .intro _ (.intro rfl ?_)|refine exL (k:= ?_)|refine dwR ?_|((first|refine aA ?_ ?_|refine aC ?_ ?_)<;>intro hb<;>(first|exact ddX hb|try simp only [lnS]at hb))|(refine aB ?_ ?_<;>intro hb<;>try exact dsX hb))<;>(conv=>whnf)))
  have:=h3 (done.length+1) (by simp)
  exact this
 ·rintro n rfl
  ((conv=>whnf);repeat' ((first|(intro hq;(try simp only [lnS]at hq);(try rewrite [List.length_map]))|refine sJ ?_|refine .intro _ (.intro rfl ?_)|refine exL (k:= ?_)|refine dwR ?_|((first|refine aA ?_ ?_|refine aC ?_ ?_)<;>intro hb<;>(first|exact ddX hb|try simp only [lnS]at hb))|(refine aB ?_ ?_<;>intro hb<;>try exact dsX hb))<;>(conv=>whnf)))
  rfl
 ·rintro n h
  exact h.elim
theorem aRa {a b:Int}(h:a=b):Wk (.d (.int .i64 a)) (.d (.int .i64 b)):=by subst h;exact rfl
mutual
def dV:Cn->Nat
 | .mk _ _ _ _ ps=>gQ ps
def gQ:List Cn->Nat
 | []=>0
 |c::r=>max (dV c+1) (gQ r)
end
theorem kC (c:Cn):dV c=gQ c.parts:=by cases c;rw [dV];rfl
theorem zS {l:List Cn}{x:Cn}(h:x∈l):(gG x).length<=(bM l).length:=by
 obtain⟨a,b,rfl⟩:=List.append_of_mem h
 rw [dN,bM]
 simp only [List.length_append]
 omega
theorem sE {c x:Cn}(h:x∈c.parts):bB x < bB c:=by
 have:=zS h
 rw [bB,bB,eP c]
 simp only [List.length_cons]
 omega
mutual
def cC:Cn->Bool
 | .mk k _ _ _ ps=>if k=4 then true else if k=5 then sV ps else false
def sV:List Cn->Bool
 | []=>false
 |c::r=>if cC c=true then true else sV r
end
theorem aBs (c:Cn):cC c=if c.kind=4 then true else if c.kind=5 then sV c.parts else false:=by cases c;rw [cC];rfl
end Go.Proofs.YtbobcfjlbcgchaaGreatDoor
namespace Go.Proofs.YtbobcfjlbcgchaaGreatDoor
open Go.Proofs
set_option maxRecDepth 10000
attribute [local irreducible] aJ aF Tri aG YVC bS aQ
def aUe (p:Cn->Bool) (l:List Cn):Int:=if l.any p=true then ((l.findIdx p:Nat):Int)else -1
theorem aP1 {p:Cn->Bool}{l:List Cn}{j:Nat}(h:j < l.length) (h1:(l.take j).any p=false) (h2:p l[j]=false):(l.take (j+1)).any p=false:=by
 rw [List.take_succ_eq_append_getElem h,List.any_append,h1];simp [h2]
theorem aTj {p:Cn->Bool}{l:List Cn}{j:Nat}(h:j < l.length) (h1:(l.take j).any p=false) (h2:p l[j]=true):aUe p l=j:=by
 have ha:l.any p=true:=List.any_eq_true.2 ⟨_,List.getElem_mem h,h2⟩
 have hf:l.findIdx p=j:=by
  rw [List.findIdx_eq h]
  refine⟨h2,λi hi=> ?_⟩
  have:=List.any_eq_false.1 h1 (l[i]'(by omega)) (List.mem_iff_getElem.2 ⟨i,by simp;omega,by simp⟩)
  simpa using this
 rw [aUe,if_pos ha,hf]
theorem aFg (f:FuncId) (hcall:dA Tryz.prog f=true) (p:Cn->Bool) (l:List Cn) (hf: ∀q∈l,Tri Tryz.prog f [.d (.agg (cnR q))] [] (λr=>r= .d (.bool (p q)))):
  Tri Tryz.prog 198 [.d (cnl l), .fn f [] []] [] (λr=>r= .d (.int .i64 (aUe p l))):=by
 refine aP hty Tryz.func198 rfl (kp [0,1,4,5,7,8,9,16]) [] _ _ _ (by simp [Tryz.f198]) (by simp) ?_
 ((conv=>whnf);repeat ((first|(intro hq;try simp only [lnS]at hq)|refine sI ?_|refine .intro _ (.intro rfl ?_));(conv=>whnf)))
 refine aK hty (λj:Nat=>([(0, .d (.sl 5 (l.map cnR))),(1, .fn f [] []),(7, .d (.int .i64 l.length)),(8, .d (.int .i64 j))],[])) (λj=>j<=l.length/\(l.take j).any p=false) (λj=>l.length - j) 0 ⟨by omega,by simp⟩ ⟨by repeat' (first|exact trivial|exact rfl|(rw [List.length_map];exact rfl)|refine And.intro ?_ ?_),trivial⟩ ?_
 rintro j ⟨hj,hn⟩
 ((conv=>whnf);repeat ((first|(intro hq;try simp only [lnS]at hq)|refine sI ?_|refine .intro _ (.intro rfl ?_));(conv=>whnf)))
 refine aA (λh1=> ?_) (λh1=> ?_)
 ·have hjl:j < l.length:=by omega
  have hrow':(l.map cnR)[(j:Int).toNat]? =some (cnR l[j]):=bV hjl
  have hi:=hf l[j] (List.getElem_mem hjl)
  rw [aT]at hrow' hi
  ((conv=>whnf);repeat' ((first|(intro hq;(try simp only [lnS]at hq);(try rewrite [List.length_map]))|refine sJ ?_|refine .intro _ (.intro rfl ?_)|refine exL (k:= ?_)|(refine⟨_,hrow', ?_⟩)|refine dwR ?_|((first|refine aA ?_ ?_|refine aC ?_ ?_)<;>intro hb<;>(first|exact ddX hb|try simp only [lnS]at hb))|(refine aB ?_ ?_<;>intro hb<;>try exact dsX hb))<;>(conv=>whnf)))
  refine aD [] hi trivial (λr hs=> ?_)
  subst hs
  cases hb2:p l[j]
  ·((conv=>whnf);repeat' ((first|(intro hq;(try simp only [lnS]at hq);(try rewrite [List.length_map]))|refine sJ ?_|refine .intro _ (.intro rfl ?_)|refine exL (k:= ?_)|refine dwR ?_|((first|refine aA ?_ ?_|refine aC ?_ ?_)<;>intro hb<;>(first|exact ddX hb|try simp only [lnS]at hb))|(refine aB ?_ ?_<;>intro hb<;>try exact dsX hb))<;>(conv=>whnf)))
   exact⟨j+1,⟨by omega,aP1 hjl hn hb2⟩,by dsimp only;omega,by repeat' (first|exact trivial|exact rfl|refine And.intro ?_ ?_),trivial⟩
  ·((conv=>whnf);repeat' ((first|(intro hq;(try simp only [lnS]at hq);(try rewrite [List.length_map]))|refine sJ ?_|refine .intro _ (.intro rfl ?_)|refine exL (k:= ?_)|refine dwR ?_|((first|refine aA ?_ ?_|refine aC ?_ ?_)<;>intro hb<;>(first|exact ddX hb|try simp only [lnS]at hb))|(refine aB ?_ ?_<;>intro hb<;>try exact dsX hb))<;>(conv=>whnf)))
   exact eX (aTj hjl hn hb2).symm
 ·have hjl:j=l.length:=by omega
  subst hjl
  rw [List.take_length]at hn
  ((conv=>whnf);repeat' ((first|(intro hq;(try simp only [lnS]at hq);(try rewrite [List.length_map]))|refine sJ ?_|refine .intro _ (.intro rfl ?_)|refine exL (k:= ?_)|refine dwR ?_|((first|refine aA ?_ ?_|refine aC ?_ ?_)<;>intro hb<;>(first|exact ddX hb|try simp only [lnS]at hb))|(refine aB ?_ ?_<;>intro hb<;>try exact dsX hb))<;>(conv=>whnf)))
  rw [aUe,if_neg (by simp [hn])];rfl
theorem aFh (p:Cn->Bool) (l:List Cn):decide (0<=aUe p l)=l.any p:=by
 unfold aUe
 cases h:l.any p
 ·simp
 ·simp
theorem yN (f:FuncId) (hcall:dA Tryz.prog f=true) (p:Cn->Bool) (l:List Cn) (hf: ∀q∈l,Tri Tryz.prog f [.d (.agg (cnR q))] [] (λr=>r= .d (.bool (p q)))):
  Tri Tryz.prog 149 [.d (cnl l), .fn f [] []] [] (λr=>r= .d (.bool (l.any p))):=by
 refine aP hty Tryz.func149 rfl (kp [0,1,4]) [] _ _ _ (by simp [Tryz.f149]) (by simp) ?_
 ((conv=>whnf);repeat ((first|(intro hq;try simp only [lnS]at hq)|refine sI ?_|refine .intro _ (.intro rfl ?_));(conv=>whnf)))
 refine aD [] (aFg f hcall p l hf) trivial (λr hs=> ?_)
 subst hs
 ((conv=>whnf);repeat' ((first|(intro hq;(try simp only [lnS]at hq);(try rewrite [List.length_map]))|refine sJ ?_|refine .intro _ (.intro rfl ?_)|refine exL (k:= ?_)|refine dwR ?_|((first|refine aA ?_ ?_|refine aC ?_ ?_)<;>intro hb<;>(first|exact ddX hb|try simp only [lnS]at hb))|(refine aB ?_ ?_<;>intro hb<;>try exact dsX hb))<;>(conv=>whnf)))
 exact bQ (aFh p l)
theorem aE1: ∀l,sV l=l.any cC
 | []=>by simp [sV]
 |c::r=>by rw [sV,aE1 r,List.any_cons];cases cC c<;>simp
theorem wS: ∀(c:Cn),Tri Tryz.prog 90 [.d (.agg (cnR c))] [] (λr=>r= .d (.bool (cC c))):=by
 refine Cn.ind ?_
 intro c ih
 have hC:=yN 90 (by kernel_rfl) cC c.parts ih
 rw [aT,aBs,aE1]
 refine aH false [1] hty Tryz.func90 rfl (kp [0,1,2,4,5,7]) [] _ _ _ (by simp [Tryz.f90]) (by simp) ?_
 ((conv=>whnf);repeat' ((first|(intro hq;(try simp only [lnS]at hq);(try rewrite [List.length_map]))|refine sJ ?_|refine .intro _ (.intro rfl ?_)|refine exL (k:= ?_)|(refine aD [] hC trivial (λr hs=> ?_);subst hs)|refine dwR ?_|((first|refine aA ?_ ?_|refine aC ?_ ?_)<;>intro hb<;>(first|exact ddX hb|try simp only [lnS]at hb))|(refine aB ?_ ?_<;>intro hb<;>try exact dsX hb))<;>(conv=>whnf)))
 ·rw [if_pos (by assumption)];rfl
 ·rw [if_neg (by assumption),if_pos (by assumption)];rfl
 ·rw [if_neg (by assumption),if_neg (by assumption)];rfl
def fF (c:Cn):Bool:=decide (c.kind=0) && (decide (c.name=[]) && (decide (c.lo=0) && (decide (c.hi=0) && decide (c.parts=[]))))
theorem aX (c:Cn):Tri Tryz.prog 143 [.d (.agg (cnR c))] [] (λr=>r= .d (.bool (fF c))):=by
 rw [aT]
 refine aH false [1] hty Tryz.func143 rfl (kp [0,1,2]) [] _ _ _ (by simp [Tryz.f143]) (by simp) ?_
 ((conv=>whnf);repeat' ((first|(intro hq;(try simp only [lnS]at hq);(try rewrite [List.length_map]))|refine sJ ?_|refine .intro _ (.intro rfl ?_)|refine exL (k:= ?_)|refine dwR ?_|((first|refine aA ?_ ?_|refine aC ?_ ?_)<;>intro hb<;>(first|exact ddX hb|try simp only [lnS]at hb))|(refine aB ?_ ?_<;>intro hb<;>try exact dsX hb))<;>(conv=>whnf)))
 all_goals (unfold fF;simp_all [cU])
 all_goals trace_state
end Go.Proofs.YtbobcfjlbcgchaaGreatDoor
namespace Go.Proofs.YtbobcfjlbcgchaaGreatDoor
open Go.Proofs
set_option maxRecDepth 10000
attribute [local irreducible] aJ aF Tri aG YVC bS aQ
def bI (u:Use) (x:Ax):Bool:=
 (u.left || fF x.left) && ((u.right || fF x.right) && ((u.role || decide (x.role=[])) && ((u.a || decide (x.a=[])) && ((u.b || decide (x.b=[])) && (decide (u.least<=x.roles.length) && decide ((x.roles.length:Int)<=u.most))))))
def bC (x:Ax):Bool:=if x.kind < 1\/9 < x.kind then false else bI (dB x.kind) x
theorem pY {k:Int}(n:Nat) (h:n < iQ.length) (hk:k=n):(iQ.map aS9)[k.toNat]? =some (aS9 iQ[n]):=by
 subst hk
 rw [Int.toNat_natCast,List.getElem?_map,List.getElem?_eq_getElem h];rfl
theorem aJu (x:Ax) (hk:x.kind=1):Tri Tryz.prog 87 [.d (.agg (axR x))] NG (λr=>r= .d (.bool (bC x))):=by
 have e1:=aX x.left
 have e2:=aX x.right
 rw [aT]at e1 e2
 have hrow:=pY (k:=x.kind) 1 (by decide) hk
 have hE:bC x=bI (iQ[1]'(by decide)) x:=by rw [bC,if_neg (by omega),hk];rfl
 rw [hE]
 refine aH false [1,3] hty Tryz.func87 rfl (kp [0,1,2,3,11]) [] _ _ _ (by simp [Tryz.f87]) (by decide) ?_
 ((conv=>whnf);repeat ((first|(intro hq;try simp only [lnS]at hq)|refine sI ?_|refine .intro _ (.intro rfl ?_));(conv=>whnf)))
 refine aA (λh1=>by omega) (λh1=> ?_)
 ((conv=>whnf);repeat ((first|(intro hq;try simp only [lnS]at hq)|refine sI ?_|refine .intro _ (.intro rfl ?_));(conv=>whnf)))
 refine aA (λh2=>by omega) (λh2=> ?_)
 ((conv=>whnf);repeat' ((first|(intro hq;(try simp only [lnS]at hq);(try rewrite [List.length_map]))|refine sJ ?_|refine .intro _ (.intro rfl ?_)|refine exL (k:= ?_)|(refine cR (id:=91) hty rfl rfl rfl rfl rfl rfl rfl (by omega) (by omega) ?_)|(refine⟨_,hrow, ?_⟩)|(refine aD [] e1 trivial (λr hs=> ?_);subst hs)|(refine aD [] e2 trivial (λr hs=> ?_);subst hs)|refine dwR ?_|((first|refine aA ?_ ?_|refine aC ?_ ?_)<;>intro hb<;>(first|exact ddX hb|try simp only [lnS]at hb))|(refine aB ?_ ?_<;>intro hb<;>try exact dsX hb))<;>(conv=>whnf)))
 all_goals (clear e1 e2 hrow hE;refine bQ (Eq.symm ?_);show bI _ x=_;simp only [bI,iQ,List.getElem_cons_succ,List.getElem_cons_zero,Bool.true_or,Bool.false_or,Bool.true_and];simp_all [iQ]<;>omega)
theorem aJt (x:Ax) (hk:x.kind=2):Tri Tryz.prog 87 [.d (.agg (axR x))] NG (λr=>r= .d (.bool (bC x))):=by
 have e1:=aX x.left
 have e2:=aX x.right
 rw [aT]at e1 e2
 have hrow:=pY (k:=x.kind) 2 (by decide) hk
 have hE:bC x=bI (iQ[2]'(by decide)) x:=by rw [bC,if_neg (by omega),hk];rfl
 rw [hE]
 refine aH false [1,3] hty Tryz.func87 rfl (kp [0,1,2,3,11]) [] _ _ _ (by simp [Tryz.f87]) (by decide) ?_
 ((conv=>whnf);repeat ((first|(intro hq;try simp only [lnS]at hq)|refine sI ?_|refine .intro _ (.intro rfl ?_));(conv=>whnf)))
 refine aA (λh1=>by omega) (λh1=> ?_)
 ((conv=>whnf);repeat ((first|(intro hq;try simp only [lnS]at hq)|refine sI ?_|refine .intro _ (.intro rfl ?_));(conv=>whnf)))
 refine aA (λh2=>by omega) (λh2=> ?_)
 ((conv=>whnf);repeat' ((first|(intro hq;(try simp only [lnS]at hq);(try rewrite [List.length_map]))|refine sJ ?_|refine .intro _ (.intro rfl ?_)|refine exL (k:= ?_)|(refine cR (id:=91) hty rfl rfl rfl rfl rfl rfl rfl (by omega) (by omega) ?_)|(refine⟨_,hrow, ?_⟩)|(refine aD [] e1 trivial (λr hs=> ?_);subst hs)|(refine aD [] e2 trivial (λr hs=> ?_);subst hs)|refine dwR ?_|((first|refine aA ?_ ?_|refine aC ?_ ?_)<;>intro hb<;>(first|exact ddX hb|try simp only [lnS]at hb))|(refine aB ?_ ?_<;>intro hb<;>try exact dsX hb))<;>(conv=>whnf)))
 all_goals (clear e1 e2 hrow hE;refine bQ (Eq.symm ?_);show bI _ x=_;simp only [bI,iQ,List.getElem_cons_succ,List.getElem_cons_zero,Bool.true_or,Bool.false_or,Bool.true_and];simp_all [iQ]<;>omega)
theorem aJs (x:Ax) (hk:x.kind=3):Tri Tryz.prog 87 [.d (.agg (axR x))] NG (λr=>r= .d (.bool (bC x))):=by
 have e1:=aX x.left
 have e2:=aX x.right
 rw [aT]at e1 e2
 have hrow:=pY (k:=x.kind) 3 (by decide) hk
 have hE:bC x=bI (iQ[3]'(by decide)) x:=by rw [bC,if_neg (by omega),hk];rfl
 rw [hE]
 refine aH false [1,3] hty Tryz.func87 rfl (kp [0,1,2,3,11]) [] _ _ _ (by simp [Tryz.f87]) (by decide) ?_
 ((conv=>whnf);repeat ((first|(intro hq;try simp only [lnS]at hq)|refine sI ?_|refine .intro _ (.intro rfl ?_));(conv=>whnf)))
 refine aA (λh1=>by omega) (λh1=> ?_)
 ((conv=>whnf);repeat ((first|(intro hq;try simp only [lnS]at hq)|refine sI ?_|refine .intro _ (.intro rfl ?_));(conv=>whnf)))
 refine aA (λh2=>by omega) (λh2=> ?_)
 ((conv=>whnf);repeat' ((first|(intro hq;(try simp only [lnS]at hq);(try rewrite [List.length_map]))|refine sJ ?_|refine .intro _ (.intro rfl ?_)|refine exL (k:= ?_)|(refine cR (id:=91) hty rfl rfl rfl rfl rfl rfl rfl (by omega) (by omega) ?_)|(refine⟨_,hrow, ?_⟩)|(refine aD [] e1 trivial (λr hs=> ?_);subst hs)|(refine aD [] e2 trivial (λr hs=> ?_);subst hs)|refine dwR ?_|((first|refine aA ?_ ?_|refine aC ?_ ?_)<;>intro hb<;>(first|exact ddX hb|try simp only [lnS]at hb))|(refine aB ?_ ?_<;>intro hb<;>try exact dsX hb))<;>(conv=>whnf)))
 all_goals (clear e1 e2 hrow hE;refine bQ (Eq.symm ?_);show bI _ x=_;simp only [bI,iQ,List.getElem_cons_succ,List.getElem_cons_zero,Bool.true_or,Bool.false_or,Bool.true_and];simp_all [iQ]<;>omega)
theorem aJr (x:Ax) (hk:x.kind=4):Tri Tryz.prog 87 [.d (.agg (axR x))] NG (λr=>r= .d (.bool (bC x))):=by
 have e1:=aX x.left
 have e2:=aX x.right
 rw [aT]at e1 e2
 have hrow:=pY (k:=x.kind) 4 (by decide) hk
 have hE:bC x=bI (iQ[4]'(by decide)) x:=by rw [bC,if_neg (by omega),hk];rfl
 rw [hE]
 refine aH false [1,3] hty Tryz.func87 rfl (kp [0,1,2,3,11]) [] _ _ _ (by simp [Tryz.f87]) (by decide) ?_
 ((conv=>whnf);repeat ((first|(intro hq;try simp only [lnS]at hq)|refine sI ?_|refine .intro _ (.intro rfl ?_));(conv=>whnf)))
 refine aA (λh1=>by omega) (λh1=> ?_)
 ((conv=>whnf);repeat ((first|(intro hq;try simp only [lnS]at hq)|refine sI ?_|refine .intro _ (.intro rfl ?_));(conv=>whnf)))
 refine aA (λh2=>by omega) (λh2=> ?_)
 ((conv=>whnf);repeat' ((first|(intro hq;(try simp only [lnS]at hq);(try rewrite [List.length_map]))|refine sJ ?_|refine .intro _ (.intro rfl ?_)|refine exL (k:= ?_)|(refine cR (id:=91) hty rfl rfl rfl rfl rfl rfl rfl (by omega) (by omega) ?_)|(refine⟨_,hrow, ?_⟩)|(refine aD [] e1 trivial (λr hs=> ?_);subst hs)|(refine aD [] e2 trivial (λr hs=> ?_);subst hs)|refine dwR ?_|((first|refine aA ?_ ?_|refine aC ?_ ?_)<;>intro hb<;>(first|exact ddX hb|try simp only [lnS]at hb))|(refine aB ?_ ?_<;>intro hb<;>try exact dsX hb))<;>(conv=>whnf)))
 all_goals (clear e1 e2 hrow hE;refine bQ (Eq.symm ?_);show bI _ x=_;simp only [bI,iQ,List.getElem_cons_succ,List.getElem_cons_zero,Bool.true_or,Bool.false_or,Bool.true_and];simp_all [iQ]<;>omega)
theorem aJo (x:Ax) (hk:x.kind=7):Tri Tryz.prog 87 [.d (.agg (axR x))] NG (λr=>r= .d (.bool (bC x))):=by
 have e1:=aX x.left
 have e2:=aX x.right
 rw [aT]at e1 e2
 have hrow:=pY (k:=x.kind) 7 (by decide) hk
 have hE:bC x=bI (iQ[7]'(by decide)) x:=by rw [bC,if_neg (by omega),hk];rfl
 rw [hE]
 refine aH false [1,3] hty Tryz.func87 rfl (kp [0,1,2,3,11]) [] _ _ _ (by simp [Tryz.f87]) (by decide) ?_
 ((conv=>whnf);repeat ((first|(intro hq;try simp only [lnS]at hq)|refine sI ?_|refine .intro _ (.intro rfl ?_));(conv=>whnf)))
 refine aA (λh1=>by omega) (λh1=> ?_)
 ((conv=>whnf);repeat ((first|(intro hq;try simp only [lnS]at hq)|refine sI ?_|refine .intro _ (.intro rfl ?_));(conv=>whnf)))
 refine aA (λh2=>by omega) (λh2=> ?_)
 ((conv=>whnf);repeat' ((first|(intro hq;(try simp only [lnS]at hq);(try rewrite [List.length_map]))|refine sJ ?_|refine .intro _ (.intro rfl ?_)|refine exL (k:= ?_)|(refine cR (id:=91) hty rfl rfl rfl rfl rfl rfl rfl (by omega) (by omega) ?_)|(refine⟨_,hrow, ?_⟩)|(refine aD [] e1 trivial (λr hs=> ?_);subst hs)|(refine aD [] e2 trivial (λr hs=> ?_);subst hs)|refine dwR ?_|((first|refine aA ?_ ?_|refine aC ?_ ?_)<;>intro hb<;>(first|exact ddX hb|try simp only [lnS]at hb))|(refine aB ?_ ?_<;>intro hb<;>try exact dsX hb))<;>(conv=>whnf)))
 all_goals (clear e1 e2 hrow hE;refine bQ (Eq.symm ?_);show bI _ x=_;simp only [bI,iQ,List.getElem_cons_succ,List.getElem_cons_zero,Bool.true_or,Bool.false_or,Bool.true_and];simp_all [iQ]<;>omega)
theorem aJn (x:Ax) (hk:x.kind=8):Tri Tryz.prog 87 [.d (.agg (axR x))] NG (λr=>r= .d (.bool (bC x))):=by
 have e1:=aX x.left
 have e2:=aX x.right
 rw [aT]at e1 e2
 have hrow:=pY (k:=x.kind) 8 (by decide) hk
 have hE:bC x=bI (iQ[8]'(by decide)) x:=by rw [bC,if_neg (by omega),hk];rfl
 rw [hE]
 refine aH false [1,3] hty Tryz.func87 rfl (kp [0,1,2,3,11]) [] _ _ _ (by simp [Tryz.f87]) (by decide) ?_
 ((conv=>whnf);repeat ((first|(intro hq;try simp only [lnS]at hq)|refine sI ?_|refine .intro _ (.intro rfl ?_));(conv=>whnf)))
 refine aA (λh1=>by omega) (λh1=> ?_)
 ((conv=>whnf);repeat ((first|(intro hq;try simp only [lnS]at hq)|refine sI ?_|refine .intro _ (.intro rfl ?_));(conv=>whnf)))
 refine aA (λh2=>by omega) (λh2=> ?_)
 ((conv=>whnf);repeat' ((first|(intro hq;(try simp only [lnS]at hq);(try rewrite [List.length_map]))|refine sJ ?_|refine .intro _ (.intro rfl ?_)|refine exL (k:= ?_)|(refine cR (id:=91) hty rfl rfl rfl rfl rfl rfl rfl (by omega) (by omega) ?_)|(refine⟨_,hrow, ?_⟩)|(refine aD [] e1 trivial (λr hs=> ?_);subst hs)|(refine aD [] e2 trivial (λr hs=> ?_);subst hs)|refine dwR ?_|((first|refine aA ?_ ?_|refine aC ?_ ?_)<;>intro hb<;>(first|exact ddX hb|try simp only [lnS]at hb))|(refine aB ?_ ?_<;>intro hb<;>try exact dsX hb))<;>(conv=>whnf)))
 all_goals (clear e1 e2 hrow hE;refine bQ (Eq.symm ?_);show bI _ x=_;simp only [bI,iQ,List.getElem_cons_succ,List.getElem_cons_zero,Bool.true_or,Bool.false_or,Bool.true_and];simp_all [iQ]<;>omega)
theorem aJm (x:Ax) (hk:x.kind=9):Tri Tryz.prog 87 [.d (.agg (axR x))] NG (λr=>r= .d (.bool (bC x))):=by
 have e1:=aX x.left
 have e2:=aX x.right
 rw [aT]at e1 e2
 have hrow:=pY (k:=x.kind) 9 (by decide) hk
 have hE:bC x=bI (iQ[9]'(by decide)) x:=by rw [bC,if_neg (by omega),hk];rfl
 rw [hE]
 refine aH false [1,3] hty Tryz.func87 rfl (kp [0,1,2,3,11]) [] _ _ _ (by simp [Tryz.f87]) (by decide) ?_
 ((conv=>whnf);repeat ((first|(intro hq;try simp only [lnS]at hq)|refine sI ?_|refine .intro _ (.intro rfl ?_));(conv=>whnf)))
 refine aA (λh1=>by omega) (λh1=> ?_)
 ((conv=>whnf);repeat ((first|(intro hq;try simp only [lnS]at hq)|refine sI ?_|refine .intro _ (.intro rfl ?_));(conv=>whnf)))
 refine aA (λh2=>by omega) (λh2=> ?_)
 ((conv=>whnf);repeat' ((first|(intro hq;(try simp only [lnS]at hq);(try rewrite [List.length_map]))|refine sJ ?_|refine .intro _ (.intro rfl ?_)|refine exL (k:= ?_)|(refine cR (id:=91) hty rfl rfl rfl rfl rfl rfl rfl (by omega) (by omega) ?_)|(refine⟨_,hrow, ?_⟩)|(refine aD [] e1 trivial (λr hs=> ?_);subst hs)|(refine aD [] e2 trivial (λr hs=> ?_);subst hs)|refine dwR ?_|((first|refine aA ?_ ?_|refine aC ?_ ?_)<;>intro hb<;>(first|exact ddX hb|try simp only [lnS]at hb))|(refine aB ?_ ?_<;>intro hb<;>try exact dsX hb))<;>(conv=>whnf)))
 all_goals (clear e1 e2 hrow hE;refine bQ (Eq.symm ?_);show bI _ x=_;simp only [bI,iQ,List.getElem_cons_succ,List.getElem_cons_zero,Bool.true_or,Bool.false_or,Bool.true_and];simp_all [iQ]<;>omega)
theorem aJq (x:Ax) (hk:x.kind=5):Tri Tryz.prog 87 [.d (.agg (axR x))] NG (λr=>r= .d (.bool (bC x))):=by
 have e1:=aX x.left
 have e2:=aX x.right
 rw [aT]at e1 e2
 have hrow:=pY (k:=x.kind) 5 (by decide) hk
 have hE:bC x=bI (iQ[5]'(by decide)) x:=by rw [bC,if_neg (by omega),hk];rfl
 rw [hE]
 refine aH false [1,3] hty Tryz.func87 rfl (kp [0,1,2,3,11]) [] _ _ _ (by simp [Tryz.f87]) (by decide) ?_
 ((conv=>whnf);repeat ((first|(intro hq;try simp only [lnS]at hq)|refine sI ?_|refine .intro _ (.intro rfl ?_));(conv=>whnf)))
 refine aA (λh1=>by omega) (λh1=> ?_)
 ((conv=>whnf);repeat ((first|(intro hq;try simp only [lnS]at hq)|refine sI ?_|refine .intro _ (.intro rfl ?_));(conv=>whnf)))
 refine aA (λh2=>by omega) (λh2=> ?_)
 ((conv=>whnf);repeat' ((first|(intro hq;(try simp only [lnS]at hq);(try rewrite [List.length_map]))|refine sJ ?_|refine .intro _ (.intro rfl ?_)|refine exL (k:= ?_)|(refine cR (id:=91) hty rfl rfl rfl rfl rfl rfl rfl (by omega) (by omega) ?_)|(refine⟨_,hrow, ?_⟩)|(refine aD [] e1 trivial (λr hs=> ?_);subst hs)|(refine aD [] e2 trivial (λr hs=> ?_);subst hs)|refine dwR ?_|((first|refine aA ?_ ?_|refine aC ?_ ?_)<;>intro hb<;>(first|exact ddX hb|try simp only [lnS]at hb))|(refine aB ?_ ?_<;>intro hb<;>try exact dsX hb))<;>(conv=>whnf)))
 all_goals (clear e1 e2 hrow hE;refine bQ (Eq.symm ?_);show bI _ x=_;simp only [bI,show (iQ[5]'(by decide)).left=false from rfl,show (iQ[5]'(by decide)).right=false from rfl,show (iQ[5]'(by decide)).role=true from rfl,show (iQ[5]'(by decide)).a=false from rfl,show (iQ[5]'(by decide)).b=false from rfl,Bool.true_or,Bool.false_or,Bool.true_and];have hl:(iQ[5]'(by decide)).least=(5:Int) - 4:=rfl;have hm:(iQ[5]'(by decide)).most=3 * (5:Int) - 14:=rfl;simp_all<;>omega)
theorem aJp (x:Ax) (hk:x.kind=6):Tri Tryz.prog 87 [.d (.agg (axR x))] NG (λr=>r= .d (.bool (bC x))):=by
 have e1:=aX x.left
 have e2:=aX x.right
 rw [aT]at e1 e2
 have hrow:=pY (k:=x.kind) 6 (by decide) hk
 have hE:bC x=bI (iQ[6]'(by decide)) x:=by rw [bC,if_neg (by omega),hk];rfl
 rw [hE]
 refine aH false [1,3] hty Tryz.func87 rfl (kp [0,1,2,3,11]) [] _ _ _ (by simp [Tryz.f87]) (by decide) ?_
 ((conv=>whnf);repeat ((first|(intro hq;try simp only [lnS]at hq)|refine sI ?_|refine .intro _ (.intro rfl ?_));(conv=>whnf)))
 refine aA (λh1=>by omega) (λh1=> ?_)
 ((conv=>whnf);repeat ((first|(intro hq;try simp only [lnS]at hq)|refine sI ?_|refine .intro _ (.intro rfl ?_));(conv=>whnf)))
 refine aA (λh2=>by omega) (λh2=> ?_)
 ((conv=>whnf);repeat' ((first|(intro hq;(try simp only [lnS]at hq);(try rewrite [List.length_map]))|refine sJ ?_|refine .intro _ (.intro rfl ?_)|refine exL (k:= ?_)|(refine cR (id:=91) hty rfl rfl rfl rfl rfl rfl rfl (by omega) (by omega) ?_)|(refine⟨_,hrow, ?_⟩)|(refine aD [] e1 trivial (λr hs=> ?_);subst hs)|(refine aD [] e2 trivial (λr hs=> ?_);subst hs)|refine dwR ?_|((first|refine aA ?_ ?_|refine aC ?_ ?_)<;>intro hb<;>(first|exact ddX hb|try simp only [lnS]at hb))|(refine aB ?_ ?_<;>intro hb<;>try exact dsX hb))<;>(conv=>whnf)))
 all_goals (clear e1 e2 hrow hE;refine bQ (Eq.symm ?_);show bI _ x=_;simp only [bI,show (iQ[6]'(by decide)).left=false from rfl,show (iQ[6]'(by decide)).right=false from rfl,show (iQ[6]'(by decide)).role=true from rfl,show (iQ[6]'(by decide)).a=false from rfl,show (iQ[6]'(by decide)).b=false from rfl,Bool.true_or,Bool.false_or,Bool.true_and];have hl:(iQ[6]'(by decide)).least=(6:Int) - 4:=rfl;have hm:(iQ[6]'(by decide)).most=3 * (6:Int) - 14:=rfl;simp_all<;>omega)
theorem aBi (x:Ax):Tri Tryz.prog 87 [.d (.agg (axR x))] NG (λr=>r= .d (.bool (bC x))):=by
 by_cases hk:1<=x.kind/\x.kind<=9
 ·rcases(show x.kind=1\/x.kind=2\/x.kind=3\/x.kind=4\/x.kind=5\/x.kind=6\/x.kind=7\/x.kind=8\/x.kind=9 by omega)with h|h|h|h|h|h|h|h|h
  ·exact aJu x h
  ·exact aJt x h
  ·exact aJs x h
  ·exact aJr x h
  ·exact aJq x h
  ·exact aJp x h
  ·exact aJo x h
  ·exact aJn x h
  ·exact aJm x h
 ·have hE:bC x=false:=by rw [bC,if_pos (by omega)]
  rw [hE]
  refine aH false [1,3] hty Tryz.func87 rfl (kp [0,1,2,3,11]) [] _ _ _ (by simp [Tryz.f87]) (by decide) ?_
  ((conv=>whnf);repeat ((first|(intro hq;try simp only [lnS]at hq)|refine sI ?_|refine .intro _ (.intro rfl ?_));(conv=>whnf)))
  refine aA (λh1=> ?_) (λh1=> ?_)
  ·((conv=>whnf);repeat' ((first|(intro hq;(try simp only [lnS]at hq);(try rewrite [List.length_map]))|refine sJ ?_|refine .intro _ (.intro rfl ?_)|refine exL (k:= ?_)|refine dwR ?_|((first|refine aA ?_ ?_|refine aC ?_ ?_)<;>intro hb<;>(first|exact ddX hb|try simp only [lnS]at hb))|(refine aB ?_ ?_<;>intro hb<;>try exact dsX hb))<;>(conv=>whnf)))
   rfl
  ·((conv=>whnf);repeat ((first|(intro hq;try simp only [lnS]at hq)|refine sI ?_|refine .intro _ (.intro rfl ?_));(conv=>whnf)))
   refine aA (λh2=> ?_) (λh2=>by omega)
   ((conv=>whnf);repeat' ((first|(intro hq;(try simp only [lnS]at hq);(try rewrite [List.length_map]))|refine sJ ?_|refine .intro _ (.intro rfl ?_)|refine exL (k:= ?_)|refine dwR ?_|((first|refine aA ?_ ?_|refine aC ?_ ?_)<;>intro hb<;>(first|exact ddX hb|try simp only [lnS]at hb))|(refine aB ?_ ?_<;>intro hb<;>try exact dsX hb))<;>(conv=>whnf)))
   rfl
def oF (u:Use) (x:Ax):Bool:= !((u.role && !dE x.role) || ((u.a && !fH x.a) || (u.b && !fH x.b))) && x.roles.all dE
theorem aP2 {p:List UInt8->Bool}{l:List (List UInt8)}{j:Nat}(h:j < l.length) (h1:(l.take j).all p=true) (h2:p l[j]=true):(l.take (j+1)).all p=true:=by
 rw [List.take_succ_eq_append_getElem h,List.all_append,h1];simp [h2]
theorem aD8 (x:Ax) (u:Use):Tri Tryz.prog 88 [.d (.agg (axR x)), .d (.agg (aS9 u))] [] (λr=>r= .d (.bool (oF u x))):=by
 refine aH false [2,3] hty Tryz.func88 rfl (kp [0,1,2,3,4,6,34,36,37,38,39,44]) [] _ _ _ (by simp [Tryz.f88]) (by simp) ?_
 ((conv=>whnf);repeat' ((first|(intro hq;(try simp only [lnS]at hq);(try rewrite [List.length_map]))|refine sJ ?_|refine .intro _ (.intro rfl ?_)|refine exL (k:= ?_)|(refine aD [] (iY _) trivial (λr hs=> ?_);subst hs)|(refine aD [] (yP _) trivial (λr hs=> ?_);subst hs)|refine dwR ?_|((first|refine aA ?_ ?_|refine aC ?_ ?_)<;>intro hb<;>(first|exact ddX hb|try simp only [lnS]at hb))|(refine aB ?_ ?_<;>intro hb<;>try exact dsX hb))<;>(conv=>whnf)))
 all_goals first
  |(refine bQ (Eq.symm ?_);unfold oF;simp_all;done)
  |skip
 all_goals (
  have hN:oF u x=x.roles.all dE:=by unfold oF;simp_all
  rw [hN]
  refine aK hty (λj:Nat=>([(36, .d (.sl 1 (x.roles.map eO))),(37, .d (.int .i64 x.roles.length)),(38, .d (.int .i64 j))],[])) (λj=>j<=x.roles.length/\(x.roles.take j).all dE=true) (λj=>x.roles.length - j) 0 ⟨by omega,by simp⟩ ⟨by repeat' (first|exact trivial|exact rfl|(rw [List.length_map];exact rfl)|refine And.intro ?_ ?_),trivial⟩ ?_
  rintro j ⟨hj,hn⟩
  ((conv=>whnf);repeat ((first|(intro hq;try simp only [lnS]at hq)|refine sI ?_|refine .intro _ (.intro rfl ?_));(conv=>whnf)))
  refine aA (λh1=> ?_) (λh1=> ?_)
  ·have hjl:j < x.roles.length:=by omega
   have hrow:(x.roles.map eO)[(j:Int).toNat]? =some (eO x.roles[j]):=bV hjl
   ((conv=>whnf);repeat ((first|(refine⟨_,hrow, ?_⟩)|(intro hq;try simp only [lnS]at hq)|refine sI ?_|refine .intro _ (.intro rfl ?_));(conv=>whnf)))
   refine aD [] (iY x.roles[j]) trivial (λr hs=> ?_)
   subst hs
   cases hb2:dE x.roles[j]
   ·((conv=>whnf);repeat' ((first|(intro hq;(try simp only [lnS]at hq);(try rewrite [List.length_map]))|refine sJ ?_|refine .intro _ (.intro rfl ?_)|refine exL (k:= ?_)|refine dwR ?_|((first|refine aA ?_ ?_|refine aC ?_ ?_)<;>intro hb<;>(first|exact ddX hb|try simp only [lnS]at hb))|(refine aB ?_ ?_<;>intro hb<;>try exact dsX hb))<;>(conv=>whnf)))
    exact bQ (List.all_eq_false.2 ⟨_,List.getElem_mem hjl,by simp [hb2]⟩).symm
   ·((conv=>whnf);repeat' ((first|(intro hq;(try simp only [lnS]at hq);(try rewrite [List.length_map]))|refine sJ ?_|refine .intro _ (.intro rfl ?_)|refine exL (k:= ?_)|refine dwR ?_|((first|refine aA ?_ ?_|refine aC ?_ ?_)<;>intro hb<;>(first|exact ddX hb|try simp only [lnS]at hb))|(refine aB ?_ ?_<;>intro hb<;>try exact dsX hb))<;>(conv=>whnf)))
    exact⟨j+1,⟨by omega,aP2 hjl hn hb2⟩,by dsimp only;omega,by repeat' (first|exact trivial|exact rfl|refine And.intro ?_ ?_),trivial⟩
  ·have hjl:j=x.roles.length:=by omega
   subst hjl
   rw [List.take_length]at hn
   ((conv=>whnf);repeat' ((first|(intro hq;(try simp only [lnS]at hq);(try rewrite [List.length_map]))|refine sJ ?_|refine .intro _ (.intro rfl ?_)|refine exL (k:= ?_)|refine dwR ?_|((first|refine aA ?_ ?_|refine aC ?_ ?_)<;>intro hb<;>(first|exact ddX hb|try simp only [lnS]at hb))|(refine aB ?_ ?_<;>intro hb<;>try exact dsX hb))<;>(conv=>whnf)))
   exact bQ hn.symm)
end Go.Proofs.YtbobcfjlbcgchaaGreatDoor
