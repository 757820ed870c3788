/-
  Terms: the limits of a concept: fits. Terms: the fields of a concept: checkFields. Terms: the concepts within a concept, one after another: visit and walk.
  Conditions: none.
-/
import Derived.Test.YtleihcnongldbaaGreatDoorVA1
import Derived.Test.YtleihcnongldbaaGreatDoorVSw
set_option linter.unusedSectionVars false
set_option linter.unusedSimpArgs false
set_option linter.unusedVariables false
set_option maxHeartbeats 8000000
namespace Go.Proofs.YtleihcnongldbaaGreatDoor
open Go.Proofs
set_option maxRecDepth 10000
attribute [local irreducible] aO aH Tri aG YVC cL bB
mutual
def fN:Cn->Int->Int->Bool×Int
 | .mk _ _ _ _ ps,d,n=>if 8 < d\/64 < n+1 then (false,n+1)else iX ps d (n+1)
def iX:List Cn->Int->Int->Bool×Int
 | [],_,n=>(true,n)
 |c::r,d,n=>if (fN c (d+1) n).1=true then iX r d (fN c (d+1) n).2 else (false,(fN c (d+1) n).2)
end
theorem rD (c:Cn) (d n:Int):fN c d n=if 8 < d\/64 < n+1 then (false,n+1)else iX c.parts d (n+1):=by
 cases c;rw [fN];rfl
mutual
theorem zN: ∀(c:Cn) (d n:Int),0<=n->n<=64->0<=(fN c d n).2/\(fN c d n).2<=65/\((fN c d n).1=true->(fN c d n).2<=64)
 | .mk _ _ _ _ ps,d,n,h0,h1=>by
  rw [fN]
  split
  ·exact⟨by simp only;omega,by simp only;omega,by simp⟩
  ·exact oM ps d (n+1) (by omega) (by omega)
theorem oM: ∀(l:List Cn) (d n:Int),0<=n->n<=64->0<=(iX l d n).2/\(iX l d n).2<=65/\((iX l d n).1=true->(iX l d n).2<=64)
 | [],d,n,h0,h1=>by rw [iX];exact⟨h0,by simp only;omega,λ_=>h1⟩
 |c::r,d,n,h0,h1=>by
  have h:=zN c (d+1) n h0 h1
  rw [iX]
  split
  ·rename_i hb
   exact oM r d _ h.1 (h.2.2 hb)
  ·exact⟨h.1,h.2.1,by simp⟩
end
theorem aFn: ∀(c:Cn) (d n:Int) (hp0:Hp) {pin:Pin}{fr:Fr}{K:SV->Hp->Prop}(_:0<=d/\d<=9) (_:0<=n/\n<=64) (_: ∀k,100<=k->k∉pin) (_: ∀k,100<=k->k∉fJ fr) (_: ∀k,100<=k->k∉pD hp0)
  (_:K (.d (.bool (fN c d n).1)) ((3, .cells 3 [.d (.int .i64 (fN c d n).2)])::hp0)),
  aH Tryz.prog pin fr ((3, .cells 3 [.d (.int .i64 n)])::hp0) 164 [.d (.agg (cnR c)), .d (.int .i64 d), .ptr 3 0] K:=by
 refine Cn.ind ?_
 intro c ih d n hp0 pin fr K hd hn hp hf hh hk
 rw [bG]
 rw [rD]at hk
 refine aI false [3,8] hty Tryz.func164 rfl (kp [0,1,2,3,6,8,21,23,24,25,26,34]) 100 (by simp [Tryz.f164]) ?_
 ((conv=>whnf);repeat' ((first|(intro hq;(try simp only [lnS]at hq);(try rewrite [List.length_map]))|refine sJ ?_|refine .intro _ (.intro rfl ?_)|refine exL (k:= ?_)|(refine And.intro (aJd hp hf (aJn (by decide) (by with_unfolding_all exact rfl) hh) (Nat.le_of_ble_eq_true rfl) (by with_unfolding_all exact rfl)) ?_)|(refine And.intro (aJn (by decide) (by with_unfolding_all exact rfl) hh _ (Nat.le_of_ble_eq_true rfl)) ?_)|refine dwR ?_|((first|refine aB ?_ ?_|refine aC ?_ ?_)<;>intro hb<;>(first|exact ddX hb|try simp only [lnS]at hb))|(refine aA ?_ ?_<;>intro hb<;>try exact dsX hb))<;>(conv=>whnf)))
 ·rw [if_pos (.inl (by assumption))]at hk
  exact hk
 ·rw [if_pos (.inr (by assumption))]at hk
  exact hk
 ·rw [if_neg (by omega)]at hk
  have hb0:=oM c.parts d (n+1) (by omega) (by omega)
  refine sH hty (λy:Nat×Int=>([(1, .d (.int .i64 d)),(2, .ptr 3 0),(23, .d (.sl 5 (c.parts.map cnR))),(24, .d (.int .i64 c.parts.length)),(25, .d (.int .i64 y.1))],(3, .cells 3 [.d (.int .i64 y.2)])::hp0)) (λy=>y.1<=c.parts.length/\(0<=y.2/\y.2<=64)/\iX c.parts d (n+1)=iX (c.parts.drop y.1) d y.2) (λy=>c.parts.length - y.1) (0,n+1) ⟨by omega,by dsimp only;omega,by simp⟩ (by repeat' (first|exact trivial|exact rfl|(rw [List.length_map];exact rfl)|refine And.intro ?_ ?_)) rfl ?_
  rintro⟨j,m⟩ ⟨hj,hm,he⟩
  dsimp only at hj hm he
  ((conv=>whnf);repeat ((first|(intro hq;try simp only [lnS]at hq)|refine sI ?_|refine .intro _ (.intro rfl ?_));(conv=>whnf)))
  refine aB (λh1=> ?_) (λh1=> ?_)
  ·have hjl:j < c.parts.length:=by omega
   have hrow:(c.parts.map cnR)[(j:Int).toNat]? =some (cnR c.parts[j]):=aZ hjl
   have hrow':=hrow
   rw [bG]at hrow'
   rw [List.drop_eq_getElem_cons hjl,iX]at he
   have hbm:=zN c.parts[j] (d+1) m hm.1 hm.2
   ((conv=>whnf);repeat' ((first|(intro hq;(try simp only [lnS]at hq);(try rewrite [List.length_map]))|refine sJ ?_|refine .intro _ (.intro rfl ?_)|refine exL (k:= ?_)|(refine And.intro (aJd hp hf (aJn (by decide) (by with_unfolding_all exact rfl) hh) (Nat.le_of_ble_eq_true rfl) (by with_unfolding_all exact rfl)) ?_)|(refine And.intro (aJn (by decide) (by with_unfolding_all exact rfl) hh _ (Nat.le_of_ble_eq_true rfl)) ?_)|(refine⟨_,hrow', ?_⟩)|refine dwR ?_|((first|refine aB ?_ ?_|refine aC ?_ ?_)<;>intro hb<;>(first|exact ddX hb|try simp only [lnS]at hb))|(refine aA ?_ ?_<;>intro hb<;>try exact dsX hb))<;>(conv=>whnf)))
   have ih':= @ih c.parts[j] (List.getElem_mem hjl) (d+1) m hp0
   rw [bG]at ih'
   refine ih' (by omega) hm (aLy hp hf) (aNb (by with_unfolding_all exact rfl)) hh ?_
   cases hbv:(fN c.parts[j] (d+1) m).1
   ·rw [hbv,if_neg (by decide)]at he
    rw [he]at hk
    ((conv=>whnf);repeat' ((first|(intro hq;(try simp only [lnS]at hq);(try rewrite [List.length_map]))|refine sJ ?_|refine .intro _ (.intro rfl ?_)|refine exL (k:= ?_)|refine dwR ?_|((first|refine aB ?_ ?_|refine aC ?_ ?_)<;>intro hb<;>(first|exact ddX hb|try simp only [lnS]at hb))|(refine aA ?_ ?_<;>intro hb<;>try exact dsX hb))<;>(conv=>whnf)))
    exact hk
   ·rw [hbv,if_pos rfl]at he
    ((conv=>whnf);repeat' ((first|(intro hq;(try simp only [lnS]at hq);(try rewrite [List.length_map]))|refine sJ ?_|refine .intro _ (.intro rfl ?_)|refine exL (k:= ?_)|refine dwR ?_|((first|refine aB ?_ ?_|refine aC ?_ ?_)<;>intro hb<;>(first|exact ddX hb|try simp only [lnS]at hb))|(refine aA ?_ ?_<;>intro hb<;>try exact dsX hb))<;>(conv=>whnf)))
    exact⟨(j+1,(fN c.parts[j] (d+1) m).2),⟨by dsimp only;omega,⟨hbm.1,hbm.2.2 hbv⟩,he⟩,by dsimp only;omega,by repeat' (first|exact trivial|exact rfl|refine And.intro ?_ ?_),rfl⟩
  ·have hjl:j=c.parts.length:=by dsimp only at h1;omega
   subst hjl
   rw [List.drop_length,iX]at he
   rw [he]at hk
   ((conv=>whnf);repeat' ((first|(intro hq;(try simp only [lnS]at hq);(try rewrite [List.length_map]))|refine sJ ?_|refine .intro _ (.intro rfl ?_)|refine exL (k:= ?_)|refine dwR ?_|((first|refine aB ?_ ?_|refine aC ?_ ?_)<;>intro hb<;>(first|exact ddX hb|try simp only [lnS]at hb))|(refine aA ?_ ?_<;>intro hb<;>try exact dsX hb))<;>(conv=>whnf)))
   exact hk
end Go.Proofs.YtleihcnongldbaaGreatDoor
namespace Go.Proofs.YtleihcnongldbaaGreatDoor
open Go.Proofs
set_option maxRecDepth 10000
attribute [local irreducible] aO aH Tri aG YVC cL bB
structure Need where
 name:Int
 least:Int
 most:Int
 nums:Bool
def aFa:List Need:=[⟨0,0,0,false⟩,⟨0,0,0,false⟩,⟨0,0,0,false⟩,⟨1,0,0,false⟩,⟨2,0,0,false⟩,⟨0,2,8,false⟩,⟨1,1,1,false⟩,⟨1,0,0,true⟩]
def aI0 (n:Need):List D:=[.int .i64 n.name, .int .i64 n.least, .int .i64 n.most, .bool n.nums]
structure Use where
 left:Bool
 right:Bool
 role:Bool
 a:Bool
 b:Bool
 least:Int
 most:Int
def gJ : List Use := [⟨false, false, false, false, false, 0, 0⟩, ⟨true, true, false, false, false, 0, 0⟩, ⟨true, true, false, false, false, 0, 0⟩, ⟨true, true, false, false, false, 0, 0⟩, ⟨false, true, true, false, false, 0, 0⟩,
 ⟨false,false,true,false,false,1,1⟩,⟨false,false,true,false,false,2,4⟩,⟨false,false,true,false,false,0,0⟩,⟨false,true,false,true,false,0,0⟩,⟨false,false,true,true,true,0,0⟩]
def aKb (u:Use):List D:=[.bool u.left, .bool u.right, .bool u.role, .bool u.a, .bool u.b, .int .i64 u.least, .int .i64 u.most]
def NG:Hp:=[(90, .glob 1 4 (aFa.map aI0)),(91, .glob 0 7 (gJ.map aKb))]
def sE (k:Int):Need:=aFa.getD k.toNat ⟨0,0,0,false⟩
def qM (k:Int):Use:=gJ.getD k.toNat ⟨false,false,false,false,false,0,0⟩
theorem aHz {k:Int}(h:1<=k/\k<=7):(aFa.map aI0)[k.toNat]? =some (aI0 (sE k)):=by
 have hl:k.toNat < aFa.length:=by show k.toNat < 8;omega
 rw [List.getElem?_map,List.getElem?_eq_getElem hl,sE,List.getD,List.getElem?_eq_getElem hl];rfl
theorem aKa {k:Int}(h:1<=k/\k<=9):(gJ.map aKb)[k.toNat]? =some (aKb (qM k)):=by
 have hl:k.toNat < gJ.length:=by show k.toNat < 10;omega
 rw [List.getElem?_map,List.getElem?_eq_getElem hl,qM,List.getD,List.getElem?_eq_getElem hl];rfl
def aD3 (n:Need) (s:List UInt8):Int:=if n.name=0\/fX s=true\/(n.name=2/\aHe s=true)then 0 else 20
def tB (n:Need) (c:Cn):Int:=
 if (c.parts.length:Int) < n.least\/n.most < c.parts.length\/(n.name=0/\c.name≠[])then 21
 else if n.nums=true then (if c.lo < -1099511627776\/c.hi < c.lo\/1099511627776 < c.hi then 21 else aD3 n c.name)
 else (if c.lo≠0\/c.hi≠0 then 21 else aD3 n c.name)
def cX (c:Cn):Int:=if c.kind < 1\/7 < c.kind then 21 else tB (sE c.kind) c
theorem iF {a b:Int}(h:a=b):SV.d (.int .i64 a)=SV.d (.int .i64 b):=by rw [h]
theorem qP (c:Cn):Tri Tryz.prog 166 [.d (.agg (cnR c))] NG (λr=>r= .d (.int .i64 (cX c))):=by
 rw [bG]
 refine aF false [] hty Tryz.func166 rfl (kp [0,1,2,3,11,39,41,56,64,82]) [] _ _ _ (by simp [Tryz.f166]) (by decide) ?_
 ((conv=>whnf);repeat ((first|(intro hq;try simp only [lnS]at hq)|refine sI ?_|refine .intro _ (.intro rfl ?_));(conv=>whnf)))
 refine aB (λh1=> ?_) (λh1=> ?_)
 ·((conv=>whnf);repeat' ((first|(intro hq;(try simp only [lnS]at hq);(try rewrite [List.length_map]))|refine sJ ?_|refine .intro _ (.intro rfl ?_)|refine exL (k:= ?_)|refine dwR ?_|((first|refine aB ?_ ?_|refine aC ?_ ?_)<;>intro hb<;>(first|exact ddX hb|try simp only [lnS]at hb))|(refine aA ?_ ?_<;>intro hb<;>try exact dsX hb))<;>(conv=>whnf)))
  exact iF (by rw [cX,if_pos (.inl h1)])
 ·((conv=>whnf);repeat ((first|(intro hq;try simp only [lnS]at hq)|refine sI ?_|refine .intro _ (.intro rfl ?_));(conv=>whnf)))
  refine aB (λh2=> ?_) (λh2=> ?_)
  ·((conv=>whnf);repeat' ((first|(intro hq;(try simp only [lnS]at hq);(try rewrite [List.length_map]))|refine sJ ?_|refine .intro _ (.intro rfl ?_)|refine exL (k:= ?_)|refine dwR ?_|((first|refine aB ?_ ?_|refine aC ?_ ?_)<;>intro hb<;>(first|exact ddX hb|try simp only [lnS]at hb))|(refine aA ?_ ?_<;>intro hb<;>try exact dsX hb))<;>(conv=>whnf)))
   exact iF (by rw [cX,if_pos (.inr h2)])
  ·have hE:cX c=tB (sE c.kind) c:=by rw [cX,if_neg (by omega)]
   rw [hE]
   have hrow:=aHz (k:=c.kind) (by omega)
   generalize sE c.kind=n at hrow
   clear hE
   ((conv=>whnf);repeat' ((first|(intro hq;(try simp only [lnS]at hq);(try rewrite [List.length_map]))|refine sJ ?_|refine .intro _ (.intro rfl ?_)|refine exL (k:= ?_)|(refine cN (id:=90) hty rfl rfl rfl rfl rfl rfl rfl (by omega) (by omega) ?_)|(refine⟨_,hrow, ?_⟩)|(refine aD [] (gS _) trivial (λr hs=> ?_);subst hs)|(refine aD [] (lP _) trivial (λr hs=> ?_);subst hs)|refine dwR ?_|((first|refine aB ?_ ?_|refine aC ?_ ?_)<;>intro hb<;>(first|exact ddX hb|try simp only [lnS]at hb))|(refine aA ?_ ?_<;>intro hb<;>try exact dsX hb))<;>(conv=>whnf)))
   all_goals (
    refine iF (Eq.symm ?_)
    unfold tB
    first
    |(rw [if_pos (by first|exact .inl (by assumption)|exact .inr (.inl (by assumption))|exact .inr (.inr ⟨by assumption,by assumption⟩))])
    | (rw [if_neg (by simp_all)]
       first
       | (rw [if_pos (by assumption)]
          first
          |(rw [if_pos (by omega)])
          |(rw [if_neg (by omega)];unfold aD3;simp_all))
       | (rw [if_neg (by simp_all)]
          first
          |(rw [if_pos (by omega)])
          |(rw [if_neg (by omega)];unfold aD3;simp_all))))
end Go.Proofs.YtleihcnongldbaaGreatDoor
namespace Go.Proofs.YtleihcnongldbaaGreatDoor
open Go.Proofs
set_option maxRecDepth 10000
attribute [local irreducible] aO aH Tri aG YVC cL bB
mutual
def eN:Cn->List Cn
 | .mk k n lo hi ps=> .mk k n lo hi ps::bM ps
def bM:List Cn->List Cn
 | []=>[]
 |c::r=>eN c++bM r
end
theorem eV (c:Cn):eN c=c::bM c.parts:=by cases c;rw [eN];rfl
theorem dY: ∀(l m:List Cn),bM (l++m)=bM l++bM m
 | [],m=>by simp [bM]
 |c::l,m=>by simp [bM,dY l m]
theorem sB {l:List Cn}{j:Nat}(h:j < l.length):bM (l.take (j+1))=bM (l.take j)++eN l[j]:=by
 rw [List.take_succ_eq_append_getElem h,dY];simp [bM]
structure Rounds (all:List Cn) (lid:Nat) (Cont:List Cn->Hp->Prop) (Stop:Hp->Prop):Prop where
 big: ∀done hp,Cont done hp-> ∀k,100<=k->k∉pD hp
 step: ∀(done:List Cn) (x:Cn) (hp:Hp) (pin:Pin) (fr:Fr) (K:SV->Hp->Prop),Cont done hp->(∃rest,done++x::rest=all)->(∀k,100<=k->k∉pin)->(∀k,100<=k->k∉fJ fr)->
  (∀hp',Cont (done++[x]) hp'->K (.d (.bool true)) hp')->(∀hp',Stop hp'->K (.d (.bool false)) hp')->YVC Tryz.prog pin fr hp lid [.d (.agg (cnR x))] K
theorem aPp {lid:Nat}(hlid:lid < 100): ∀fr:Fr,fJ fr=[lid]\/fJ fr=[lid,lid]\/fJ fr=[lid,lid,lid]-> ∀k,100<=k->k∉fJ fr:=by
 intro fr h k hk hm
 rcases h with h|h|h<;>rw [h]at hm<;>simp at hm<;>omega
theorem aCj {all:List Cn}{lid:Nat}(hlid:lid < 100) {Cont:List Cn->Hp->Prop}{Stop:Hp->Prop}(R:Rounds all lid Cont Stop): ∀(c:Cn) (done:List Cn) (hp:Hp) {pin:Pin}{fr:Fr}{K:SV->Hp->Prop}(_:Cont done hp) (_: ∃rest,done++(eN c++rest)=all) (_: ∀k,100<=k->k∉pin) (_: ∀k,100<=k->k∉fJ fr)
  (_: ∀hp',Cont (done++eN c) hp'->K (.d (.bool true)) hp') (_: ∀hp',Stop hp'->K (.d (.bool false)) hp'),aH Tryz.prog pin fr hp 192 [.d (.agg (cnR c)), .yld lid] K:=by
 refine Cn.ind ?_
 intro c ih done hp pin fr K hC hA hp1 hf hk1 hk2
 have hh:=R.big _ _ hC
 have hlidF:=aPp hlid
 have hcR:=bG c
 rw [hcR]
 refine aI false [2,6] hty Tryz.func192 rfl (kp [0,1,2,4,6,10,12,13,14,15,21]) 100 (by simp [Tryz.f192]) ?_
 ((conv=>whnf);repeat' ((first|(intro hq;(try simp only [lnS]at hq);(try rewrite [List.length_map]))|refine sJ ?_|refine .intro _ (.intro rfl ?_)|refine exL (k:= ?_)|(refine And.intro ⟨aLy hp1 hf _ (Nat.le_of_ble_eq_true rfl),hlidF _ (by with_unfolding_all first|exact .inl rfl|exact .inr (.inl rfl)|exact .inr (.inr rfl)) _ (Nat.le_of_ble_eq_true rfl),hh _ (Nat.le_of_ble_eq_true rfl)⟩ ?_)|(refine And.intro (hh _ (Nat.le_of_ble_eq_true rfl)) ?_)|refine dwR ?_|((first|refine aB ?_ ?_|refine aC ?_ ?_)<;>intro hb<;>(first|exact ddX hb|try simp only [lnS]at hb))|(refine aA ?_ ?_<;>intro hb<;>try exact dsX hb))<;>(conv=>whnf)))
 obtain⟨rest,hA⟩:=hA
 rw [eV]at hA
 have st:= λpin fr K=>R.step done c hp pin fr K hC ⟨bM c.parts++rest,by simpa using hA⟩
 simp only [hcR]at st
 refine st _ _ _ (aLy hp1 hf) (hlidF _ (by with_unfolding_all first|exact .inl rfl|exact .inr (.inl rfl)|exact .inr (.inr rfl))) (λhp2 hC2=> ?_) (λhp2 hS2=> ?_)
 ·((conv=>whnf);repeat' ((first|(intro hq;(try simp only [lnS]at hq);(try rewrite [List.length_map]))|refine sJ ?_|refine .intro _ (.intro rfl ?_)|refine exL (k:= ?_)|refine dwR ?_|((first|refine aB ?_ ?_|refine aC ?_ ?_)<;>intro hb<;>(first|exact ddX hb|try simp only [lnS]at hb))|(refine aA ?_ ?_<;>intro hb<;>try exact dsX hb))<;>(conv=>whnf)))
  refine sH hty (λy:Nat×Hp=>([(1, .yld lid),(12, .d (.sl 5 (c.parts.map cnR))),(13, .d (.int .i64 c.parts.length)),(14, .d (.int .i64 y.1))],y.2)) (λy=>y.1<=c.parts.length/\Cont (done++c::bM (c.parts.take y.1)) y.2) (λy=>c.parts.length - y.1) (0,hp2) ⟨by omega,by simpa [bM]using hC2⟩ (by repeat' (first|exact trivial|exact rfl|(rw [List.length_map];exact rfl)|refine And.intro ?_ ?_)) rfl ?_
  rintro⟨j,hp3⟩ ⟨hj,hC3⟩
  dsimp only at hj hC3
  have hh3:=R.big _ _ hC3
  ((conv=>whnf);repeat ((first|(intro hq;try simp only [lnS]at hq)|refine sI ?_|refine .intro _ (.intro rfl ?_));(conv=>whnf)))
  refine aB (λh1=> ?_) (λh1=> ?_)
  ·have hjl:j < c.parts.length:=by omega
   have hrow:(c.parts.map cnR)[(j:Int).toNat]? =some (cnR c.parts[j]):=aZ hjl
   have hrow':=hrow
   rw [bG]at hrow'
   ((conv=>whnf);repeat' ((first|(intro hq;(try simp only [lnS]at hq);(try rewrite [List.length_map]))|refine sJ ?_|refine .intro _ (.intro rfl ?_)|refine exL (k:= ?_)|(refine And.intro ⟨aLy hp1 hf _ (Nat.le_of_ble_eq_true rfl),hlidF _ (by with_unfolding_all first|exact .inl rfl|exact .inr (.inl rfl)|exact .inr (.inr rfl)) _ (Nat.le_of_ble_eq_true rfl),hh3 _ (Nat.le_of_ble_eq_true rfl)⟩ ?_)|(refine And.intro (hh3 _ (Nat.le_of_ble_eq_true rfl)) ?_)|(refine⟨_,hrow', ?_⟩)|refine dwR ?_|((first|refine aB ?_ ?_|refine aC ?_ ?_)<;>intro hb<;>(first|exact ddX hb|try simp only [lnS]at hb))|(refine aA ?_ ?_<;>intro hb<;>try exact dsX hb))<;>(conv=>whnf)))
   have ih':= @ih c.parts[j] (List.getElem_mem hjl) (done++c::bM (c.parts.take j)) hp3
   rw [bG]at ih'
   refine ih' hC3 ⟨bM (c.parts.drop (j + 1)) ++ rest, by
    rw [<-hA]
    have e:bM c.parts=bM (c.parts.take j)++(eN c.parts[j]++bM (c.parts.drop (j+1))):=by
     conv=>lhs;rw [<-List.take_append_drop j c.parts,dY,List.drop_eq_getElem_cons hjl,bM]
    rw [e];simp⟩ (aLy hp1 hf) (hlidF _ (by with_unfolding_all first|exact .inl rfl|exact .inr (.inl rfl)|exact .inr (.inr rfl))) (λhp4 hC4=> ?_) (λhp4 hS4=> ?_)
   ·((conv=>whnf);repeat' ((first|(intro hq;(try simp only [lnS]at hq);(try rewrite [List.length_map]))|refine sJ ?_|refine .intro _ (.intro rfl ?_)|refine exL (k:= ?_)|refine dwR ?_|((first|refine aB ?_ ?_|refine aC ?_ ?_)<;>intro hb<;>(first|exact ddX hb|try simp only [lnS]at hb))|(refine aA ?_ ?_<;>intro hb<;>try exact dsX hb))<;>(conv=>whnf)))
    refine⟨(j+1,hp4),⟨by dsimp only;omega, ?_⟩,by dsimp only;omega,by repeat' (first|exact trivial|exact rfl|refine And.intro ?_ ?_),rfl⟩
    dsimp only
    rw [sB hjl]
    simpa using hC4
   ·((conv=>whnf);repeat' ((first|(intro hq;(try simp only [lnS]at hq);(try rewrite [List.length_map]))|refine sJ ?_|refine .intro _ (.intro rfl ?_)|refine exL (k:= ?_)|refine dwR ?_|((first|refine aB ?_ ?_|refine aC ?_ ?_)<;>intro hb<;>(first|exact ddX hb|try simp only [lnS]at hb))|(refine aA ?_ ?_<;>intro hb<;>try exact dsX hb))<;>(conv=>whnf)))
    exact hk2 _ hS4
  ·have hjl:j=c.parts.length:=by dsimp only at h1;omega
   subst hjl
   rw [List.take_length,<-eV]at hC3
   ((conv=>whnf);repeat' ((first|(intro hq;(try simp only [lnS]at hq);(try rewrite [List.length_map]))|refine sJ ?_|refine .intro _ (.intro rfl ?_)|refine exL (k:= ?_)|refine dwR ?_|((first|refine aB ?_ ?_|refine aC ?_ ?_)<;>intro hb<;>(first|exact ddX hb|try simp only [lnS]at hb))|(refine aA ?_ ?_<;>intro hb<;>try exact dsX hb))<;>(conv=>whnf)))
   exact hk1 _ hC3
 ·((conv=>whnf);repeat' ((first|(intro hq;(try simp only [lnS]at hq);(try rewrite [List.length_map]))|refine sJ ?_|refine .intro _ (.intro rfl ?_)|refine exL (k:= ?_)|refine dwR ?_|((first|refine aB ?_ ?_|refine aC ?_ ?_)<;>intro hb<;>(first|exact ddX hb|try simp only [lnS]at hb))|(refine aA ?_ ?_<;>intro hb<;>try exact dsX hb))<;>(conv=>whnf)))
  exact hk2 _ hS2
theorem aDx (c:Cn):Tri Tryz.prog 165 [.d (.agg (cnR c))] [] (λr=>r= .fn 191 [] [.ea 5 [cnR c] 0 0]):=by
 rw [bG]
 refine aF false [1] hty Tryz.func165 rfl (kp [0,1,2]) [] _ _ _ (by simp [Tryz.f165]) (by simp) ?_
 ((conv=>whnf);repeat' ((first|(intro hq;(try simp only [lnS]at hq);(try rewrite [List.length_map]))|refine sJ ?_|refine .intro _ (.intro rfl ?_)|refine exL (k:= ?_)|refine dwR ?_|((first|refine aB ?_ ?_|refine aC ?_ ?_)<;>intro hb<;>(first|exact ddX hb|try simp only [lnS]at hb))|(refine aA ?_ ?_<;>intro hb<;>try exact dsX hb))<;>(conv=>whnf)))
 rfl
theorem aCi {lid:Nat}(hlid:lid < 100) {Cont:List Cn->Hp->Prop}{Stop:Hp->Prop}(c:Cn) (R:Rounds (eN c) lid Cont Stop) {hp:Hp}{pin:Pin}{fr:Fr}{K:SV->Hp->Prop}(hC:Cont [] hp) (hp1: ∀k,100<=k->k∉pin) (hf: ∀k,100<=k->k∉fJ fr)
  (hk1: ∀hp',Cont (eN c) hp'->K (dE []) hp') (hk2: ∀hp',Stop hp'->K (dE []) hp'):aH Tryz.prog pin fr hp 191 [.yld lid, .ea 5 [cnR c] 0 0] K:=by
 have hcR:=bG c
 have vs:= λpin fr K=> @aCj (eN c) lid hlid Cont Stop R c [] hp pin fr K hC ⟨[],by simp⟩
 rw [hcR]
 simp only [hcR]at vs
 refine aI false [] hty Tryz.func191 rfl (kp [0,1]) 200 (by simp [Tryz.f191]) ?_
 ((conv=>whnf);repeat' ((first|(intro hq;(try simp only [lnS]at hq);(try rewrite [List.length_map]))|refine sJ ?_|refine .intro _ (.intro rfl ?_)|refine exL (k:= ?_)|refine dwR ?_|((first|refine aB ?_ ?_|refine aC ?_ ?_)<;>intro hb<;>(first|exact ddX hb|try simp only [lnS]at hb))|(refine aA ?_ ?_<;>intro hb<;>try exact dsX hb))<;>(conv=>whnf)))
 refine vs _ _ _ (aLy hp1 hf) (aPp hlid _ (by with_unfolding_all first|exact .inl rfl|exact .inr (.inl rfl)|exact .inr (.inr rfl))) (λhp2 hC2=> ?_) (λhp2 hS2=> ?_)
 ·((conv=>whnf);repeat' ((first|(intro hq;(try simp only [lnS]at hq);(try rewrite [List.length_map]))|refine sJ ?_|refine .intro _ (.intro rfl ?_)|refine exL (k:= ?_)|refine dwR ?_|((first|refine aB ?_ ?_|refine aC ?_ ?_)<;>intro hb<;>(first|exact ddX hb|try simp only [lnS]at hb))|(refine aA ?_ ?_<;>intro hb<;>try exact dsX hb))<;>(conv=>whnf)))
  exact hk1 _ (by simpa using hC2)
 ·((conv=>whnf);repeat' ((first|(intro hq;(try simp only [lnS]at hq);(try rewrite [List.length_map]))|refine sJ ?_|refine .intro _ (.intro rfl ?_)|refine exL (k:= ?_)|refine dwR ?_|((first|refine aB ?_ ?_|refine aC ?_ ?_)<;>intro hb<;>(first|exact ddX hb|try simp only [lnS]at hb))|(refine aA ?_ ?_<;>intro hb<;>try exact dsX hb))<;>(conv=>whnf)))
  exact hk2 _ hS2
theorem aAg {lid:Nat}(hlid:lid < 100) {L:LoopI}{σ:Type}(St:σ->Hp) (Inv:List Cn->σ->Prop) (Bad:σ->Prop) (c:Cn) (s0:σ) (h0:Inv [] s0) {pin:Pin}{fr:Fr}{K:SV->Hp->Prop}(hL:L.fr.all (λp=>p.2.ids.isEmpty || p.2.ids.all λk=>decide (k < 100))=true) (hb: ∀s,∀k,100<=k->k∉pD (St s)) (hp1: ∀k,100<=k->k∉pin) (hf: ∀k,100<=k->k∉fJ fr)
  (step : ∀ (done : List Cn) (x : Cn) (s : σ) (pin : Pin) (fr : Fr) (K : SV -> Hp -> Prop), Inv done s -> (∃ rest, done ++ x :: rest = eN c) -> (∀ k, 100 <= k -> k ∉ pin) -> (∀ k, 100 <= k -> k ∉ fJ fr) ->
   (∀s',Inv (done++[x]) s'->K (.d (.bool true)) ((lid, .loop L .ready)::St s'))->(∀s',Bad s'->K (.d (.bool false)) ((lid, .loop L (.done .ret))::St s'))->YVC Tryz.prog pin fr ((lid, .loop L .ready)::St s) lid [.d (.agg (cnR x))] K)
  (hk1: ∀s,Inv (eN c) s->K (dE []) ((lid, .loop L .ready)::St s)) (hk2: ∀s,Bad s->K (dE []) ((lid, .loop L (.done .ret))::St s)):
  aH Tryz.prog pin fr ((lid, .loop L .ready)::St s0) 191 [.yld lid, .ea 5 [cnR c] 0 0] K:=by
 refine aCi hlid (Cont:= λdone hp=> ∃s,hp=(lid, .loop L .ready)::St s/\Inv done s) (Stop:= λhp=> ∃s,hp=(lid, .loop L (.done .ret))::St s/\Bad s) c ⟨?_, ?_⟩ ⟨s0,rfl,h0⟩ hp1 hf ?_ ?_
 ·rintro done hp ⟨s,rfl,_⟩ k hk hm
  simp only [pD,List.flatMap_cons,List.mem_append,List.mem_cons]at hm
  rcases hm with(hm|hm)|hm
  ·omega
  ·simp only [HObj.ids,fJ,List.mem_flatMap]at hm
   obtain⟨p,h1,h2⟩:=hm
   have:=List.all_eq_true.1 hL p h1
   simp only [Bool.or_eq_true]at this
   rcases this with h|h
   ·rw [List.isEmpty_iff.1 h]at h2;simp at h2
   ·have:=List.all_eq_true.1 h k h2
    simp at this;omega
  ·exact hb s k hk hm
 ·rintro done x hp pin fr K ⟨s,rfl,hI⟩ hA h1 h2 h3 h4
  exact step done x s pin fr K hI hA h1 h2 (λs' hI'=>h3 _ ⟨s',rfl,hI'⟩) (λs' hB=>h4 _ ⟨s',rfl,hB⟩)
 ·rintro hp ⟨s,rfl,hI⟩
  exact hk1 s hI
 ·rintro hp ⟨s,rfl,hB⟩
  exact hk2 s hB
end Go.Proofs.YtleihcnongldbaaGreatDoor
