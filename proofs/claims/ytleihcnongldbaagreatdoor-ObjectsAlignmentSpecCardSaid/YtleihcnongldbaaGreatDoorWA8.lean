/-
  Rows known cell by cell: slices of them, copy, append of zero values; and back to rows. Arrays of numbers: are two equal? And a row of a package-level array. Rows known cell by cell: at a call's begin and end. Terms: concepts and axioms as data. Terms: the limits of a concept: fits. Terms: the fields of a concept: checkFields. Terms: the concepts within a concept, one after another: visit and walk. Terms: CheckConcept, Size, Depth. Terms: Size, Depth, isBare, isEmpty. Terms: isBare, isEmpty. Terms: the shape and the names of an axiom.
  Conditions: none.
-/
import Derived.Test.YtleihcnongldbaaGreatDoorWSna
import Derived.Lib.AppendZerosOnto
set_option linter.unusedSectionVars false
set_option linter.unusedSimpArgs false
set_option linter.unusedVariables false
set_option maxHeartbeats 8000000
namespace Go.Proofs.YtleihcnongldbaaGreatDoor
open Go.RowKit
section
variable {P:Program}
def slT (ti:TypeId->Option TI) (t:TypeId):Option (TypeId×TI):=
 match ti t with
 |some { td:= .slice e, .. }=>(match ti e with|some T=>some (e,T)|none=>none)
 |_=>none
theorem aJg {ti:TypeId->Option TI}(hti:dT P ti) {t e:TypeId}{T:TI}(h:slT ti t=some (e,T)):P.underlying t=some (.slice e)/\ ∃d i z,TIok P e T d i z:=by
 unfold slT at h
 split at h
 ·rename_i e' _ _ _ hT
  obtain⟨d,i,z,hT⟩:=aR (hti _ _ hT)
  have hd:=cH hT.td
  subst hd
  split at h
  ·rename_i T' hT2
   simp only [Option.some.injEq,Prod.mk.injEq]at h
   obtain⟨rfl,rfl⟩:=h
   exact⟨hT.und,aR (hti _ _ hT2)⟩
  ·cases h
 ·cases h
theorem aJf {ti:TypeId->Option TI}(hti:dT P ti) {o:Oper}{t e:TypeId}{T:TI}{x:Operand}{lo hi:Option Operand}(ho:o.op= .slice t x lo hi none) (hT:slT ti t=some (e,T)) {a:Act}{A:Option Addr}{len cap a' b m':Nat}
  (e1:a.eval x= .slice A len cap) {w':World} (e2:(Instr.sliceBounds true len cap (lo.map a.eval) (hi.map a.eval) none).run P w'= .ok (a',b,m') w'):
  (execOp a.eval o).run P w'= .ok (.value (.slice (if m'=a' then A else A.map (·.add (a' * T.size))) (b - a') (m' - a'))) w':=by
 obtain⟨hu,d,i,z,hT2⟩:=aJg hti hT
 simp [execOp,ho,Instr.sliceAt,run_underlying hu,Instr.slice,e1,e2,hT2.run_size]
end
end Go.Proofs.YtleihcnongldbaaGreatDoor
namespace Go.Proofs.YtleihcnongldbaaGreatDoor
open Go.RowKit
section
variable {P:Program}
def aOf (P:Program) (t:TypeId):Bool:= !P.eqGuardType P.depth t
def sW (td:TD):List D->List D->Option Bool
 | [],[]=>some true
 |x::xs,y::ys=>match aDj td x y with
  |some c=>match sW td xs ys with|some b=>some (c && b)|none=>none
  |none=>none
 |_,_=>none
theorem yI {td:TD}: ∀{xs ys:List D}{b:Bool},sW td xs ys=some b->xs.length=ys.length
 | [],[],_,_=>rfl
 |x::xs,y::ys,b,h=>by
  simp only [sW]at h
  split at h
  ·split at h
   ·rename_i h'
    simp [yI h']
   ·cases h
  ·cases h
 | [],_::_,_,h=>by simp [sW]at h
 |_::_,[],_,h=>by simp [sW]at h
theorem wZ {t:TypeId}{T:TI}{dd:TypeDesc}{i:TypeInfo}{z:Value}(hT:TIok P t T dd i z) (ha:T.td.isAgg=false) {w:World}{S:Nat->Nat->Prop}(d:Nat) (w':World): ∀(xs ys:List D) (b:Bool) (k:Nat) (us vs:Array Value),sW T.td xs ys=some b->
  (∀(j:Nat) (x:D),xs[j]? =some x-> ∃u,us[k+j]? =some u/\RepD w S x u)->(∀(j:Nat) (x:D),ys[j]? =some x-> ∃u,vs[k+j]? =some u/\RepD w S x u)->
  (forIn (m := Sem) (List.range' k xs.length) ((none, ()) : Option Bool × Unit) (λi _ => do
    let x <-part t us i
    let y <-part t vs i
    let c <-Op.equalIn (d+1) t x y
    if (!c)=true then pure (ForInStep.done (some false,()))else pure (ForInStep.yield (none,())))).run P w'= .ok ((if b then none else some false),()) w'
 | [],[],b,k,us,vs,h,_,_=>by
  simp [sW]at h
  subst h
  simp
 |x::xs,y::ys,b,k,us,vs,h,hx,hy=>by
  simp only [sW]at h
  split at h
  ·rename_i c hc
   split at h
   ·rename_i b' hb'
    injection h with h
    obtain⟨u,u1,u2⟩:=hx 0 x rfl
    obtain⟨v,v1,v2⟩:=hy 0 y rfl
    have hr:=zX (P:=P) hc u2 v2 hT rfl d w'
    have ih := wZ hT ha d w' xs ys b' (k + 1) us vs hb' (λj x' h' => by
     obtain⟨q,q1,q2⟩:=hx (j+1) x' (by simpa using h')
     exact⟨q,by rw [<-q1];congr 1;omega,q2⟩) (λj x' h'=>by
     obtain⟨q,q1,q2⟩:=hy (j+1) x' (by simpa using h')
     exact⟨q,by rw [<-q1];congr 1;omega,q2⟩)
    simp only [Nat.add_zero]at u1 v1
    simp only [List.length_cons,List.range'_succ,List.forIn_cons,Sem.run_bind,iX hT,ha,Bool.false_eq_true,if_false,u1,v1,Result.andThen_ok,hr,Sem.run_ite]
    cases c
    ·simp at h
     subst h
     simp
    ·simp at h
     subst h
     simpa using ih
   ·cases h
  ·cases h
 | [],_::_,_,_,_,_,h,_,_=>by simp [sW]at h
 |_::_,[],_,_,_,_,h,_,_=>by simp [sW]at h
theorem nG {t e:TypeId}{n:Nat}{T:TI}{dd:TypeDesc}{i:TypeInfo}{z:Value}(ht:P.underlying t=some (.array n e)) (hT:TIok P e T dd i z) (h1:T.size=1) {d:Nat}{us vs:Array Value}{w':World}{b:Bool}
  (h : (forIn (m := Sem) (List.range' 0 n) ((none, ()) : Option Bool × Unit) (λi _ => do
    let x <-part e us i
    let y <-part e vs i
    let c <-Op.equalIn (d+1) e x y
    if (!c)=true then pure (ForInStep.done (some false,()))else pure (ForInStep.yield (none,())))).run P w'= .ok ((if b then none else some false),()) w'):
  (Op.equalIn (d+2) t (.agg us) (.agg vs)).run P w'= .ok b w':=by
 rw [Op.equalIn]
 simp only [Sem.run_bind,run_underlying ht,Result.andThen_ok,hT.run_size w',h1,Nat.mul_one]
 rw [Std.Legacy.Range.forIn_eq_forIn_range']
 simp only [Std.Legacy.Range.size,Nat.sub_zero,Nat.add_sub_cancel,Nat.div_one]
 first|rw [h]|erw [h]
 cases b<;>simp
theorem aLd {ti:TypeId->Option TI}(hti:dT P ti) {o:Oper}{t t' e:TypeId}{n:Nat}{x y:Operand}(ho:o.op= .binOp .eql t x y t') {Ts T:TI}(hT:ti t=some Ts) (htd:Ts.td= .array n e) (hE:ti e=some T) (ha:T.td.isAgg=false) (h1:T.size=1) (hg:aOf P t=true) {fr:Fr}{hp:Hp}{K:SV->Prop}{xs ys:List D}{b:Bool}
  (hx:evO fr x=some (.d (.agg xs))) (hy:evO fr y=some (.d (.agg ys))) (hn:xs.length=n) (hb:sW T.td xs ys=some b) (hk:K (.d (.bool b))):cP P o fr hp K:=by
 intro E ρ a w hm hf
 obtain⟨us,e1,hl1,hh1⟩:=(bB hf hx).dagg_inv
 obtain⟨vs,e2,hl2,hh2⟩:=(bB hf hy).dagg_inv
 obtain⟨d0,i0,z0,hT0⟩:=aR (hti _ _ hT)
 obtain⟨d1,i1,z1,hE1⟩:=aR (hti _ _ hE)
 have hd:d0= .array n e:=by
  have:=hT0.td
  rw [htd]at this
  cases d0<;>simp [aCd]at this
  obtain⟨rfl,rfl⟩:=this
  rfl
 subst hd
 have hlen:=yI hb
 refine⟨.bool b,_,λw' _=> ?_, .d _ _ (.bool _),hk⟩
 have k2:P.eqGuardType P.depth t=false:=by simpa [aOf]using hg
 have hrun := wZ (P := P) hE1 ha (w := w) (S := ρ.S) 9998 w' xs ys b 0 us vs hb (λj x h => by
  have hj:=(List.getElem?_eq_some_iff.1 h).1
  exact⟨us[j]'(by omega),by rw [Nat.zero_add];exact Array.getElem?_eq_getElem (by omega),hh1 j x _ h (Array.getElem?_eq_getElem (by omega))⟩) (λj x h=>by
  have hj:=(List.getElem?_eq_some_iff.1 h).1
  exact⟨vs[j]'(by omega),by rw [Nat.zero_add];exact Array.getElem?_eq_getElem (by omega),hh2 j x _ h (Array.getElem?_eq_getElem (by omega))⟩)
 have heq:(Op.equalIn 10000 t (.agg us) (.agg vs)).run P w'= .ok b w':=nG hT0.und hE1 h1 (by rw [<-hn];exact hrun)
 simp only [execOp,ho,e1,e2,Sem.run_bind,run_eqGuard_agg w' _ t x y us vs k2,Result.andThen_ok,run_eql_struct,heq]
 rfl
theorem dK {ti:TypeId->Option TI}(hti:dT P ti) {o:Oper}{t e:TypeId}{g m z:Nat}{y:Operand}(ho:o.op= .indexAddr t (.global g) y) {Ts T:TI}(hT:ti t=some Ts) (htd:Ts.td= .array m e) (hE:ti e=some T) {fr:Fr}{hp:Hp}{K:SV->Prop}{id:Nat}{rows:List (List D)}
  (hg:aT hp id=some (.glob g z rows)) (hz:T.size=z) {k:IntKind} {n:Int} (hy:evO fr y=some (.d (.int k n))) (h0:0<=n) (h1:n.toNat < m) (hk:K (.ea z rows n.toNat 0)):cP P o fr hp K:=by
 intro E ρ a w hm hf
 have ei:=(bB hf hy).int_inv
 obtain⟨d0,i0,z0,hT0⟩:=aR (hti _ _ hT)
 obtain⟨d1,i1,z1,hE1⟩:=aR (hti _ _ hE)
 have hd:d0= .array m e:=by
  have:=hT0.td
  rw [htd]at this
  exact iR this
 subst hd
 have hv:View w ρ.S z rows g 0:=hm.sat id _ hg
 have e1:a.eval (.global g)= .pointer (some ⟨g,0,none⟩):=rfl
 refine⟨.pointer (some (Addr.add ⟨g,0,none⟩ (n.toNat * T.size))),_,λw' _=> ?_, ?_,hk⟩
 ·have:=gE (P:=P) hT0.und hE1 w' ⟨g,0,none⟩ k n h0 h1
  simp [execOp,ho,e1,ei,this]
 ·rw [cT,hz]
  exact .ea z rows n.toNat 0 g 0 hv
theorem aNi {o:Oper}{x y:Operand}{ts:Array TypeId}(ho:o.op= .call { callee:= .builtin .max,args:= #[x,y],argTypes:=ts }) {pin:Pin}{fr:Fr}{hp:Hp}{K:SV->Hp->Prop}{k k':IntKind}{a b:Int}
  (hx:evO fr x=some (.d (.int k a))) (hy:evO fr y=some (.d (.int k' b))) (hk:K (.d (.int k (max a b))) hp):bE P o pin fr hp K:=by
 intro E ρ ac w _ hm hf next Q hn
 have e1:=(bB hf hx).int_inv
 have e2:=(bB hf hy).int_inv
 have hrun:(execOp ac.eval o).run P w= .ok (.value (.int k (max a b))) w:=by
  have:(if b >a then b else a)=max a b:=by omega
  simp [aZ ho,builtin,Builtin.max_,Builtin.max2,e1,e2,this]
 exact cQ hrun (hn _ _ ρ _ _ hk hm hf (.d _ _ (.int _ _)))
end
end Go.Proofs.YtleihcnongldbaaGreatDoor
namespace Go.Proofs.YtleihcnongldbaaGreatDoor
open Go.RowKit
section
variable {P:Program}
end
end Go.Proofs.YtleihcnongldbaaGreatDoor
namespace Go.Proofs.YtleihcnongldbaaGreatDoor
open Go.Proofs
inductive Cn where
 |mk (kind:Int) (name:List UInt8) (lo hi:Int) (parts:List Cn)
def Cn.kind:Cn->Int| .mk k _ _ _ _=>k
def Cn.name:Cn->List UInt8| .mk _ n _ _ _=>n
def Cn.lo:Cn->Int| .mk _ _ l _ _=>l
def Cn.hi:Cn->Int| .mk _ _ _ h _=>h
def Cn.parts:Cn->List Cn| .mk _ _ _ _ p=>p
mutual
def cnR:Cn->List D
 | .mk k n lo hi ps=>[.int .i64 k, .str n, .int .i64 lo, .int .i64 hi, .sl 5 (aU0 ps)]
def aU0:List Cn->List (List D)
 | []=>[]
 |c::r=>cnR c::aU0 r
end
theorem aGb: ∀l,aU0 l=l.map cnR
 | []=>rfl
 |c::r=>by rw [aU0,aGb r];rfl
theorem bA (c:Cn):cnR c=[.int .i64 c.kind, .str c.name, .int .i64 c.lo, .int .i64 c.hi, .sl 5 (c.parts.map cnR)]:=by
 cases c;rw [cnR,aGb];rfl
def cv (c:Cn):D:= .agg (cnR c)
def cnl (l:List Cn):D:= .sl 5 (l.map cnR)
mutual
theorem Cn.ind {p:Cn->Prop}(h: ∀c,(∀q∈c.parts,p q)->p c): ∀c,p c
 | .mk k n lo hi ps=>h _ (Cn.indL h ps)
theorem Cn.indL {p:Cn->Prop}(h: ∀c,(∀q∈c.parts,p q)->p c): ∀(l:List Cn),∀q∈l,p q
 | []=>by simp
 |c::r=>by
  intro q hq
  rcases List.mem_cons.1 hq with e|e
  ·rw [e];exact Cn.ind h c
  ·exact Cn.indL h r q e
end
def bL (s:List UInt8):List D:=[.str s]
def aLs (l:List (List UInt8)):D:= .sl 1 (l.map bL)
structure Ax where
 kind:Int
 isopen:Bool
 left:Cn
 right:Cn
 roles:List (List UInt8)
 role:List UInt8
 a:List UInt8
 b:List UInt8
def axR (x : Ax) : List D := [.int .i64 x.kind, .bool x.isopen, .int .i64 x.left.kind, .str x.left.name, .int .i64 x.left.lo, .int .i64 x.left.hi, cnl x.left.parts,
 .int .i64 x.right.kind, .str x.right.name, .int .i64 x.right.lo, .int .i64 x.right.hi,cnl x.right.parts,aLs x.roles, .str x.role, .str x.a, .str x.b]
theorem aOt {id:Nat}{pin:Pin}{fr0 fr:Fr}{hp:Hp}(h1: ∀k,100<=k->k∉pin) (h2: ∀k,100<=k->k∉gR fr0) (h4: ∀k,100<=k->k∉tK hp) (hid:100<=id) (h3:(gR fr).all (λk=>decide (k < 100))=true):jT id (pin.under fr0 (gR fr0)) fr hp:=by
 refine⟨?_, ?_,h4 id hid⟩
 ·simp [h1 id hid,h2 id hid]
 ·intro hm
  have:=List.all_eq_true.1 h3 id hm
  simp at this
  omega
theorem aP2 {k0:Nat}{o:HObj}{hp:Hp}(h0:k0 < 100) (h1:o.ids=[]) (h2: ∀k,100<=k->k∉tK hp): ∀k,100<=k->k∉tK ((k0,o)::hp):=by
 intro k hk hm
 simp only [tK,List.flatMap_cons,List.mem_append,List.mem_cons,h1,List.not_mem_nil,or_false]at hm
 rcases hm with hm|hm
 ·omega
 ·exact h2 k hk hm
theorem aRn {pin:Pin}{fr0:Fr}(h1: ∀k,100<=k->k∉pin) (h2: ∀k,100<=k->k∉gR fr0): ∀k,100<=k->k∉pin.under fr0 (gR fr0):=by
 intro k hk;simp [h1 k hk,h2 k hk]
theorem aTf {fr:Fr}(h3:(gR fr).all (λk=>decide (k < 100))=true): ∀k,100<=k->k∉gR fr:=by
 intro k hk hm
 have:=List.all_eq_true.1 h3 k hm
 simp at this
 omega
theorem aS {α:Type}{f:α->List D}{l:List α}{i:Nat}(h:i < l.length):(l.map f)[((i:Nat):Int).toNat]? =some (f l[i]):=by
 rw [Int.toNat_natCast,List.getElem?_map,List.getElem?_eq_getElem h];rfl
end Go.Proofs.YtleihcnongldbaaGreatDoor
namespace Go.Proofs.YtleihcnongldbaaGreatDoor
open Go.Proofs
set_option maxRecDepth 10000
attribute [local irreducible] aN aJ Tri aI YVC cP bE
mutual
def eK:Cn->Int->Int->Bool×Int
 | .mk _ _ _ _ ps,d,n=>if 8 < d\/64 < n+1 then (false,n+1)else fO ps d (n+1)
def fO:List Cn->Int->Int->Bool×Int
 | [],_,n=>(true,n)
 |c::r,d,n=>if (eK c (d+1) n).1=true then fO r d (eK c (d+1) n).2 else (false,(eK c (d+1) n).2)
end
theorem vX (c:Cn) (d n:Int):eK c d n=if 8 < d\/64 < n+1 then (false,n+1)else fO c.parts d (n+1):=by
 cases c;rw [eK];rfl
mutual
theorem aDg: ∀(c:Cn) (d n:Int),0<=n->n<=64->0<=(eK c d n).2/\(eK c d n).2<=65/\((eK c d n).1=true->(eK c d n).2<=64)
 | .mk _ _ _ _ ps,d,n,h0,h1=>by
  rw [eK]
  split
  ·exact⟨by simp only;omega,by simp only;omega,by simp⟩
  ·exact sT ps d (n+1) (by omega) (by omega)
theorem sT: ∀(l:List Cn) (d n:Int),0<=n->n<=64->0<=(fO l d n).2/\(fO l d n).2<=65/\((fO l d n).1=true->(fO l d n).2<=64)
 | [],d,n,h0,h1=>by rw [fO];exact⟨h0,by simp only;omega,λ_=>h1⟩
 |c::r,d,n,h0,h1=>by
  have h:=aDg c (d+1) n h0 h1
  rw [fO]
  split
  ·rename_i hb
   exact sT r d _ h.1 (h.2.2 hb)
  ·exact⟨h.1,h.2.1,by simp⟩
end
theorem aKr: ∀(c:Cn) (d n:Int) (hp0:Hp) {pin:Pin}{fr:Fr}{K:SV->Hp->Prop}(_:0<=d/\d<=9) (_:0<=n/\n<=64) (_: ∀k,100<=k->k∉pin) (_: ∀k,100<=k->k∉gR fr) (_: ∀k,100<=k->k∉tK hp0)
  (_:K (.d (.bool (eK c d n).1)) ((3, .cells 3 [.d (.int .i64 (eK c d n).2)])::hp0)),
  aJ Tryz.prog pin fr ((3, .cells 3 [.d (.int .i64 n)])::hp0) 164 [.d (.agg (cnR c)), .d (.int .i64 d), .ptr 3 0] K:=by
 refine Cn.ind ?_
 intro c ih d n hp0 pin fr K hd hn hp hf hh hk
 rw [bA]
 rw [vX]at hk
 refine aG false [3,8] hty Tryz.func164 rfl (kp [0,1,2,3,6,8,21,23,24,25,26,34]) 100 (by simp [Tryz.f164]) ?_
 ((conv=>whnf);repeat' ((first|(intro hq;(try simp only [lnS]at hq);(try rewrite [List.length_map]))|refine sJ ?_|refine .intro _ (.intro rfl ?_)|refine exL (k:= ?_)|(refine And.intro (aOt hp hf (aP2 (by decide) (by with_unfolding_all exact rfl) hh) (Nat.le_of_ble_eq_true rfl) (by with_unfolding_all exact rfl)) ?_)|(refine And.intro (aP2 (by decide) (by with_unfolding_all exact rfl) hh _ (Nat.le_of_ble_eq_true rfl)) ?_)|refine dwR ?_|((first|refine aB ?_ ?_|refine aC ?_ ?_)<;>intro hb<;>(first|exact ddX hb|try simp only [lnS]at hb))|(refine aA ?_ ?_<;>intro hb<;>try exact dsX hb))<;>(conv=>whnf)))
 ·rw [if_pos (.inl (by assumption))]at hk
  exact hk
 ·rw [if_pos (.inr (by assumption))]at hk
  exact hk
 ·rw [if_neg (by omega)]at hk
  have hb0:=sT c.parts d (n+1) (by omega) (by omega)
  refine xN hty (λy:Nat×Int=>([(1, .d (.int .i64 d)),(2, .ptr 3 0),(23, .d (.sl 5 (c.parts.map cnR))),(24, .d (.int .i64 c.parts.length)),(25, .d (.int .i64 y.1))],(3, .cells 3 [.d (.int .i64 y.2)])::hp0)) (λy=>y.1<=c.parts.length/\(0<=y.2/\y.2<=64)/\fO c.parts d (n+1)=fO (c.parts.drop y.1) d y.2) (λy=>c.parts.length - y.1) (0,n+1) ⟨by omega,by dsimp only;omega,by simp⟩ (by repeat' (first|exact trivial|exact rfl|(rw [List.length_map];exact rfl)|refine And.intro ?_ ?_)) rfl ?_
  rintro⟨j,m⟩ ⟨hj,hm,he⟩
  dsimp only at hj hm he
  ((conv=>whnf);repeat ((first|(intro hq;try simp only [lnS]at hq)|refine sI ?_|refine .intro _ (.intro rfl ?_));(conv=>whnf)))
  refine aB (λh1=> ?_) (λh1=> ?_)
  ·have hjl:j < c.parts.length:=by omega
   have hrow:(c.parts.map cnR)[(j:Int).toNat]? =some (cnR c.parts[j]):=aS hjl
   have hrow':=hrow
   rw [bA]at hrow'
   rw [List.drop_eq_getElem_cons hjl,fO]at he
   have hbm:=aDg c.parts[j] (d+1) m hm.1 hm.2
   ((conv=>whnf);repeat' ((first|(intro hq;(try simp only [lnS]at hq);(try rewrite [List.length_map]))|refine sJ ?_|refine .intro _ (.intro rfl ?_)|refine exL (k:= ?_)|(refine And.intro (aOt hp hf (aP2 (by decide) (by with_unfolding_all exact rfl) hh) (Nat.le_of_ble_eq_true rfl) (by with_unfolding_all exact rfl)) ?_)|(refine And.intro (aP2 (by decide) (by with_unfolding_all exact rfl) hh _ (Nat.le_of_ble_eq_true rfl)) ?_)|(refine⟨_,hrow', ?_⟩)|refine dwR ?_|((first|refine aB ?_ ?_|refine aC ?_ ?_)<;>intro hb<;>(first|exact ddX hb|try simp only [lnS]at hb))|(refine aA ?_ ?_<;>intro hb<;>try exact dsX hb))<;>(conv=>whnf)))
   have ih':= @ih c.parts[j] (List.getElem_mem hjl) (d+1) m hp0
   rw [bA]at ih'
   refine ih' (by omega) hm (aRn hp hf) (aTf (by with_unfolding_all exact rfl)) hh ?_
   cases hbv:(eK c.parts[j] (d+1) m).1
   ·rw [hbv,if_neg (by decide)]at he
    rw [he]at hk
    ((conv=>whnf);repeat' ((first|(intro hq;(try simp only [lnS]at hq);(try rewrite [List.length_map]))|refine sJ ?_|refine .intro _ (.intro rfl ?_)|refine exL (k:= ?_)|refine dwR ?_|((first|refine aB ?_ ?_|refine aC ?_ ?_)<;>intro hb<;>(first|exact ddX hb|try simp only [lnS]at hb))|(refine aA ?_ ?_<;>intro hb<;>try exact dsX hb))<;>(conv=>whnf)))
    exact hk
   ·rw [hbv,if_pos rfl]at he
    ((conv=>whnf);repeat' ((first|(intro hq;(try simp only [lnS]at hq);(try rewrite [List.length_map]))|refine sJ ?_|refine .intro _ (.intro rfl ?_)|refine exL (k:= ?_)|refine dwR ?_|((first|refine aB ?_ ?_|refine aC ?_ ?_)<;>intro hb<;>(first|exact ddX hb|try simp only [lnS]at hb))|(refine aA ?_ ?_<;>intro hb<;>try exact dsX hb))<;>(conv=>whnf)))
    exact⟨(j+1,(eK c.parts[j] (d+1) m).2),⟨by dsimp only;omega,⟨hbm.1,hbm.2.2 hbv⟩,he⟩,by dsimp only;omega,by repeat' (first|exact trivial|exact rfl|refine And.intro ?_ ?_),rfl⟩
  ·have hjl:j=c.parts.length:=by dsimp only at h1;omega
   subst hjl
   rw [List.drop_length,fO]at he
   rw [he]at hk
   ((conv=>whnf);repeat' ((first|(intro hq;(try simp only [lnS]at hq);(try rewrite [List.length_map]))|refine sJ ?_|refine .intro _ (.intro rfl ?_)|refine exL (k:= ?_)|refine dwR ?_|((first|refine aB ?_ ?_|refine aC ?_ ?_)<;>intro hb<;>(first|exact ddX hb|try simp only [lnS]at hb))|(refine aA ?_ ?_<;>intro hb<;>try exact dsX hb))<;>(conv=>whnf)))
   exact hk
end Go.Proofs.YtleihcnongldbaaGreatDoor
namespace Go.Proofs.YtleihcnongldbaaGreatDoor
open Go.Proofs
set_option maxRecDepth 10000
attribute [local irreducible] aN aJ Tri aI YVC cP bE
structure Need where
 name:Int
 least:Int
 most:Int
 nums:Bool
def aKd:List Need:=[⟨0,0,0,false⟩,⟨0,0,0,false⟩,⟨0,0,0,false⟩,⟨1,0,0,false⟩,⟨2,0,0,false⟩,⟨0,2,8,false⟩,⟨1,1,1,false⟩,⟨1,0,0,true⟩]
def aNf (n:Need):List D:=[.int .i64 n.name, .int .i64 n.least, .int .i64 n.most, .bool n.nums]
structure Use where
 left:Bool
 right:Bool
 role:Bool
 a:Bool
 b:Bool
 least:Int
 most:Int
def iS : List Use := [⟨false, false, false, false, false, 0, 0⟩, ⟨true, true, false, false, false, 0, 0⟩, ⟨true, true, false, false, false, 0, 0⟩, ⟨true, true, false, false, false, 0, 0⟩, ⟨false, true, true, false, false, 0, 0⟩,
 ⟨false,false,true,false,false,1,1⟩,⟨false,false,true,false,false,2,4⟩,⟨false,false,true,false,false,0,0⟩,⟨false,true,false,true,false,0,0⟩,⟨false,false,true,true,true,0,0⟩]
def aPo (u:Use):List D:=[.bool u.left, .bool u.right, .bool u.role, .bool u.a, .bool u.b, .int .i64 u.least, .int .i64 u.most]
def NG:Hp:=[(90, .glob 1 4 (aKd.map aNf)),(91, .glob 0 7 (iS.map aPo))]
def iK (k:Int):Need:=aKd.getD k.toNat ⟨0,0,0,false⟩
def gT (k:Int):Use:=iS.getD k.toNat ⟨false,false,false,false,false,0,0⟩
theorem aNe {k:Int}(h:1<=k/\k<=7):(aKd.map aNf)[k.toNat]? =some (aNf (iK k)):=by
 have hl:k.toNat < aKd.length:=by show k.toNat < 8;omega
 rw [List.getElem?_map,List.getElem?_eq_getElem hl,iK,List.getD,List.getElem?_eq_getElem hl];rfl
theorem aPn {k:Int}(h:1<=k/\k<=9):(iS.map aPo)[k.toNat]? =some (aPo (gT k)):=by
 have hl:k.toNat < iS.length:=by show k.toNat < 10;omega
 rw [List.getElem?_map,List.getElem?_eq_getElem hl,gT,List.getD,List.getElem?_eq_getElem hl];rfl
def aEv (n:Need) (s:List UInt8):Int:=if n.name=0\/dD s=true\/(n.name=2/\aBe s=true)then 0 else 20
def rE (n:Need) (c:Cn):Int:=
 if (c.parts.length:Int) < n.least\/n.most < c.parts.length\/(n.name=0/\c.name≠[])then 21
 else if n.nums=true then (if c.lo < -1099511627776\/c.hi < c.lo\/1099511627776 < c.hi then 21 else aEv n c.name)
 else (if c.lo≠0\/c.hi≠0 then 21 else aEv n c.name)
def cS (c:Cn):Int:=if c.kind < 1\/7 < c.kind then 21 else rE (iK c.kind) c
theorem eI {a b:Int}(h:a=b):SV.d (.int .i64 a)=SV.d (.int .i64 b):=by rw [h]
theorem vG (c:Cn):Tri Tryz.prog 166 [.d (.agg (cnR c))] NG (λr=>r= .d (.int .i64 (cS c))):=by
 rw [bA]
 refine aE false [] hty Tryz.func166 rfl (kp [0,1,2,3,11,39,41,56,64,82]) [] _ _ _ (by simp [Tryz.f166]) (by decide) ?_
 ((conv=>whnf);repeat ((first|(intro hq;try simp only [lnS]at hq)|refine sI ?_|refine .intro _ (.intro rfl ?_));(conv=>whnf)))
 refine aB (λh1=> ?_) (λh1=> ?_)
 ·((conv=>whnf);repeat' ((first|(intro hq;(try simp only [lnS]at hq);(try rewrite [List.length_map]))|refine sJ ?_|refine .intro _ (.intro rfl ?_)|refine exL (k:= ?_)|refine dwR ?_|((first|refine aB ?_ ?_|refine aC ?_ ?_)<;>intro hb<;>(first|exact ddX hb|try simp only [lnS]at hb))|(refine aA ?_ ?_<;>intro hb<;>try exact dsX hb))<;>(conv=>whnf)))
  exact eI (by rw [cS,if_pos (.inl h1)])
 ·((conv=>whnf);repeat ((first|(intro hq;try simp only [lnS]at hq)|refine sI ?_|refine .intro _ (.intro rfl ?_));(conv=>whnf)))
  refine aB (λh2=> ?_) (λh2=> ?_)
  ·((conv=>whnf);repeat' ((first|(intro hq;(try simp only [lnS]at hq);(try rewrite [List.length_map]))|refine sJ ?_|refine .intro _ (.intro rfl ?_)|refine exL (k:= ?_)|refine dwR ?_|((first|refine aB ?_ ?_|refine aC ?_ ?_)<;>intro hb<;>(first|exact ddX hb|try simp only [lnS]at hb))|(refine aA ?_ ?_<;>intro hb<;>try exact dsX hb))<;>(conv=>whnf)))
   exact eI (by rw [cS,if_pos (.inr h2)])
  ·have hE:cS c=rE (iK c.kind) c:=by rw [cS,if_neg (by omega)]
   rw [hE]
   have hrow:=aNe (k:=c.kind) (by omega)
   generalize iK c.kind=n at hrow
   clear hE
   ((conv=>whnf);repeat' ((first|(intro hq;(try simp only [lnS]at hq);(try rewrite [List.length_map]))|refine sJ ?_|refine .intro _ (.intro rfl ?_)|refine exL (k:= ?_)|(refine dK (id:=90) hty rfl rfl rfl rfl rfl rfl rfl (by omega) (by omega) ?_)|(refine⟨_,hrow, ?_⟩)|(refine aD [] (jD _) trivial (λr hs=> ?_);subst hs)|(refine aD [] (oF _) trivial (λr hs=> ?_);subst hs)|refine dwR ?_|((first|refine aB ?_ ?_|refine aC ?_ ?_)<;>intro hb<;>(first|exact ddX hb|try simp only [lnS]at hb))|(refine aA ?_ ?_<;>intro hb<;>try exact dsX hb))<;>(conv=>whnf)))
   all_goals (
    refine eI (Eq.symm ?_)
    unfold rE
    first
    |(rw [if_pos (by first|exact .inl (by assumption)|exact .inr (.inl (by assumption))|exact .inr (.inr ⟨by assumption,by assumption⟩))])
    | (rw [if_neg (by simp_all)]
       first
       | (rw [if_pos (by assumption)]
          first
          |(rw [if_pos (by omega)])
          |(rw [if_neg (by omega)];unfold aEv;simp_all))
       | (rw [if_neg (by simp_all)]
          first
          |(rw [if_pos (by omega)])
          |(rw [if_neg (by omega)];unfold aEv;simp_all))))
end Go.Proofs.YtleihcnongldbaaGreatDoor
namespace Go.Proofs.YtleihcnongldbaaGreatDoor
open Go.Proofs
set_option maxRecDepth 10000
attribute [local irreducible] aN aJ Tri aI YVC cP bE
mutual
def eJ:Cn->List Cn
 | .mk k n lo hi ps=> .mk k n lo hi ps::bD ps
def bD:List Cn->List Cn
 | []=>[]
 |c::r=>eJ c++bD r
end
theorem eD (c:Cn):eJ c=c::bD c.parts:=by cases c;rw [eJ];rfl
theorem fK: ∀(l m:List Cn),bD (l++m)=bD l++bD m
 | [],m=>by simp [bD]
 |c::l,m=>by simp [bD,fK l m]
theorem xJ {l:List Cn}{j:Nat}(h:j < l.length):bD (l.take (j+1))=bD (l.take j)++eJ l[j]:=by
 rw [List.take_succ_eq_append_getElem h,fK];simp [bD]
structure Rounds (all:List Cn) (lid:Nat) (Cont:List Cn->Hp->Prop) (Stop:Hp->Prop):Prop where
 big: ∀done hp,Cont done hp-> ∀k,100<=k->k∉tK hp
 step: ∀(done:List Cn) (x:Cn) (hp:Hp) (pin:Pin) (fr:Fr) (K:SV->Hp->Prop),Cont done hp->(∃rest,done++x::rest=all)->(∀k,100<=k->k∉pin)->(∀k,100<=k->k∉gR fr)->
  (∀hp',Cont (done++[x]) hp'->K (.d (.bool true)) hp')->(∀hp',Stop hp'->K (.d (.bool false)) hp')->YVC Tryz.prog pin fr hp lid [.d (.agg (cnR x))] K
theorem aVq {lid:Nat}(hlid:lid < 100): ∀fr:Fr,gR fr=[lid]\/gR fr=[lid,lid]\/gR fr=[lid,lid,lid]-> ∀k,100<=k->k∉gR fr:=by
 intro fr h k hk hm
 rcases h with h|h|h<;>rw [h]at hm<;>simp at hm<;>omega
theorem aGv {all:List Cn}{lid:Nat}(hlid:lid < 100) {Cont:List Cn->Hp->Prop}{Stop:Hp->Prop}(R:Rounds all lid Cont Stop): ∀(c:Cn) (done:List Cn) (hp:Hp) {pin:Pin}{fr:Fr}{K:SV->Hp->Prop}(_:Cont done hp) (_: ∃rest,done++(eJ c++rest)=all) (_: ∀k,100<=k->k∉pin) (_: ∀k,100<=k->k∉gR fr)
  (_: ∀hp',Cont (done++eJ c) hp'->K (.d (.bool true)) hp') (_: ∀hp',Stop hp'->K (.d (.bool false)) hp'),aJ Tryz.prog pin fr hp 192 [.d (.agg (cnR c)), .yld lid] K:=by
 refine Cn.ind ?_
 intro c ih done hp pin fr K hC hA hp1 hf hk1 hk2
 have hh:=R.big _ _ hC
 have hlidF:=aVq hlid
 have hcR:=bA c
 rw [hcR]
 refine aG false [2,6] hty Tryz.func192 rfl (kp [0,1,2,4,6,10,12,13,14,15,21]) 100 (by simp [Tryz.f192]) ?_
 ((conv=>whnf);repeat' ((first|(intro hq;(try simp only [lnS]at hq);(try rewrite [List.length_map]))|refine sJ ?_|refine .intro _ (.intro rfl ?_)|refine exL (k:= ?_)|(refine And.intro ⟨aRn hp1 hf _ (Nat.le_of_ble_eq_true rfl),hlidF _ (by with_unfolding_all first|exact .inl rfl|exact .inr (.inl rfl)|exact .inr (.inr rfl)) _ (Nat.le_of_ble_eq_true rfl),hh _ (Nat.le_of_ble_eq_true rfl)⟩ ?_)|(refine And.intro (hh _ (Nat.le_of_ble_eq_true rfl)) ?_)|refine dwR ?_|((first|refine aB ?_ ?_|refine aC ?_ ?_)<;>intro hb<;>(first|exact ddX hb|try simp only [lnS]at hb))|(refine aA ?_ ?_<;>intro hb<;>try exact dsX hb))<;>(conv=>whnf)))
 obtain⟨rest,hA⟩:=hA
 rw [eD]at hA
 have st:= λpin fr K=>R.step done c hp pin fr K hC ⟨bD c.parts++rest,by simpa using hA⟩
 simp only [hcR]at st
 refine st _ _ _ (aRn hp1 hf) (hlidF _ (by with_unfolding_all first|exact .inl rfl|exact .inr (.inl rfl)|exact .inr (.inr rfl))) (λhp2 hC2=> ?_) (λhp2 hS2=> ?_)
 ·((conv=>whnf);repeat' ((first|(intro hq;(try simp only [lnS]at hq);(try rewrite [List.length_map]))|refine sJ ?_|refine .intro _ (.intro rfl ?_)|refine exL (k:= ?_)|refine dwR ?_|((first|refine aB ?_ ?_|refine aC ?_ ?_)<;>intro hb<;>(first|exact ddX hb|try simp only [lnS]at hb))|(refine aA ?_ ?_<;>intro hb<;>try exact dsX hb))<;>(conv=>whnf)))
  refine xN hty (λy:Nat×Hp=>([(1, .yld lid),(12, .d (.sl 5 (c.parts.map cnR))),(13, .d (.int .i64 c.parts.length)),(14, .d (.int .i64 y.1))],y.2)) (λy=>y.1<=c.parts.length/\Cont (done++c::bD (c.parts.take y.1)) y.2) (λy=>c.parts.length - y.1) (0,hp2) ⟨by omega,by simpa [bD]using hC2⟩ (by repeat' (first|exact trivial|exact rfl|(rw [List.length_map];exact rfl)|refine And.intro ?_ ?_)) rfl ?_
  rintro⟨j,hp3⟩ ⟨hj,hC3⟩
  dsimp only at hj hC3
  have hh3:=R.big _ _ hC3
  ((conv=>whnf);repeat ((first|(intro hq;try simp only [lnS]at hq)|refine sI ?_|refine .intro _ (.intro rfl ?_));(conv=>whnf)))
  refine aB (λh1=> ?_) (λh1=> ?_)
  ·have hjl:j < c.parts.length:=by omega
   have hrow:(c.parts.map cnR)[(j:Int).toNat]? =some (cnR c.parts[j]):=aS hjl
   have hrow':=hrow
   rw [bA]at hrow'
   ((conv=>whnf);repeat' ((first|(intro hq;(try simp only [lnS]at hq);(try rewrite [List.length_map]))|refine sJ ?_|refine .intro _ (.intro rfl ?_)|refine exL (k:= ?_)|(refine And.intro ⟨aRn hp1 hf _ (Nat.le_of_ble_eq_true rfl),hlidF _ (by with_unfolding_all first|exact .inl rfl|exact .inr (.inl rfl)|exact .inr (.inr rfl)) _ (Nat.le_of_ble_eq_true rfl),hh3 _ (Nat.le_of_ble_eq_true rfl)⟩ ?_)|(refine And.intro (hh3 _ (Nat.le_of_ble_eq_true rfl)) ?_)|(refine⟨_,hrow', ?_⟩)|refine dwR ?_|((first|refine aB ?_ ?_|refine aC ?_ ?_)<;>intro hb<;>(first|exact ddX hb|try simp only [lnS]at hb))|(refine aA ?_ ?_<;>intro hb<;>try exact dsX hb))<;>(conv=>whnf)))
   have ih':= @ih c.parts[j] (List.getElem_mem hjl) (done++c::bD (c.parts.take j)) hp3
   rw [bA]at ih'
   refine ih' hC3 ⟨bD (c.parts.drop (j + 1)) ++ rest, by
    rw [<-hA]
    have e:bD c.parts=bD (c.parts.take j)++(eJ c.parts[j]++bD (c.parts.drop (j+1))):=by
     conv=>lhs;rw [<-List.take_append_drop j c.parts,fK,List.drop_eq_getElem_cons hjl,bD]
    rw [e];simp⟩ (aRn hp1 hf) (hlidF _ (by with_unfolding_all first|exact .inl rfl|exact .inr (.inl rfl)|exact .inr (.inr rfl))) (λhp4 hC4=> ?_) (λhp4 hS4=> ?_)
   ·((conv=>whnf);repeat' ((first|(intro hq;(try simp only [lnS]at hq);(try rewrite [List.length_map]))|refine sJ ?_|refine .intro _ (.intro rfl ?_)|refine exL (k:= ?_)|refine dwR ?_|((first|refine aB ?_ ?_|refine aC ?_ ?_)<;>intro hb<;>(first|exact ddX hb|try simp only [lnS]at hb))|(refine aA ?_ ?_<;>intro hb<;>try exact dsX hb))<;>(conv=>whnf)))
    refine⟨(j+1,hp4),⟨by dsimp only;omega, ?_⟩,by dsimp only;omega,by repeat' (first|exact trivial|exact rfl|refine And.intro ?_ ?_),rfl⟩
    dsimp only
    rw [xJ hjl]
    simpa using hC4
   ·((conv=>whnf);repeat' ((first|(intro hq;(try simp only [lnS]at hq);(try rewrite [List.length_map]))|refine sJ ?_|refine .intro _ (.intro rfl ?_)|refine exL (k:= ?_)|refine dwR ?_|((first|refine aB ?_ ?_|refine aC ?_ ?_)<;>intro hb<;>(first|exact ddX hb|try simp only [lnS]at hb))|(refine aA ?_ ?_<;>intro hb<;>try exact dsX hb))<;>(conv=>whnf)))
    exact hk2 _ hS4
  ·have hjl:j=c.parts.length:=by dsimp only at h1;omega
   subst hjl
   rw [List.take_length,<-eD]at hC3
   ((conv=>whnf);repeat' ((first|(intro hq;(try simp only [lnS]at hq);(try rewrite [List.length_map]))|refine sJ ?_|refine .intro _ (.intro rfl ?_)|refine exL (k:= ?_)|refine dwR ?_|((first|refine aB ?_ ?_|refine aC ?_ ?_)<;>intro hb<;>(first|exact ddX hb|try simp only [lnS]at hb))|(refine aA ?_ ?_<;>intro hb<;>try exact dsX hb))<;>(conv=>whnf)))
   exact hk1 _ hC3
 ·((conv=>whnf);repeat' ((first|(intro hq;(try simp only [lnS]at hq);(try rewrite [List.length_map]))|refine sJ ?_|refine .intro _ (.intro rfl ?_)|refine exL (k:= ?_)|refine dwR ?_|((first|refine aB ?_ ?_|refine aC ?_ ?_)<;>intro hb<;>(first|exact ddX hb|try simp only [lnS]at hb))|(refine aA ?_ ?_<;>intro hb<;>try exact dsX hb))<;>(conv=>whnf)))
  exact hk2 _ hS2
theorem aIh (c:Cn):Tri Tryz.prog 165 [.d (.agg (cnR c))] [] (λr=>r= .fn 191 [] [.ea 5 [cnR c] 0 0]):=by
 rw [bA]
 refine aE false [1] hty Tryz.func165 rfl (kp [0,1,2]) [] _ _ _ (by simp [Tryz.f165]) (by simp) ?_
 ((conv=>whnf);repeat' ((first|(intro hq;(try simp only [lnS]at hq);(try rewrite [List.length_map]))|refine sJ ?_|refine .intro _ (.intro rfl ?_)|refine exL (k:= ?_)|refine dwR ?_|((first|refine aB ?_ ?_|refine aC ?_ ?_)<;>intro hb<;>(first|exact ddX hb|try simp only [lnS]at hb))|(refine aA ?_ ?_<;>intro hb<;>try exact dsX hb))<;>(conv=>whnf)))
 rfl
theorem aGu {lid:Nat}(hlid:lid < 100) {Cont:List Cn->Hp->Prop}{Stop:Hp->Prop}(c:Cn) (R:Rounds (eJ c) lid Cont Stop) {hp:Hp}{pin:Pin}{fr:Fr}{K:SV->Hp->Prop}(hC:Cont [] hp) (hp1: ∀k,100<=k->k∉pin) (hf: ∀k,100<=k->k∉gR fr)
  (hk1: ∀hp',Cont (eJ c) hp'->K (fD []) hp') (hk2: ∀hp',Stop hp'->K (fD []) hp'):aJ Tryz.prog pin fr hp 191 [.yld lid, .ea 5 [cnR c] 0 0] K:=by
 have hcR:=bA c
 have vs:= λpin fr K=> @aGv (eJ c) lid hlid Cont Stop R c [] hp pin fr K hC ⟨[],by simp⟩
 rw [hcR]
 simp only [hcR]at vs
 refine aG false [] hty Tryz.func191 rfl (kp [0,1]) 200 (by simp [Tryz.f191]) ?_
 ((conv=>whnf);repeat' ((first|(intro hq;(try simp only [lnS]at hq);(try rewrite [List.length_map]))|refine sJ ?_|refine .intro _ (.intro rfl ?_)|refine exL (k:= ?_)|refine dwR ?_|((first|refine aB ?_ ?_|refine aC ?_ ?_)<;>intro hb<;>(first|exact ddX hb|try simp only [lnS]at hb))|(refine aA ?_ ?_<;>intro hb<;>try exact dsX hb))<;>(conv=>whnf)))
 refine vs _ _ _ (aRn hp1 hf) (aVq hlid _ (by with_unfolding_all first|exact .inl rfl|exact .inr (.inl rfl)|exact .inr (.inr rfl))) (λhp2 hC2=> ?_) (λhp2 hS2=> ?_)
 ·((conv=>whnf);repeat' ((first|(intro hq;(try simp only [lnS]at hq);(try rewrite [List.length_map]))|refine sJ ?_|refine .intro _ (.intro rfl ?_)|refine exL (k:= ?_)|refine dwR ?_|((first|refine aB ?_ ?_|refine aC ?_ ?_)<;>intro hb<;>(first|exact ddX hb|try simp only [lnS]at hb))|(refine aA ?_ ?_<;>intro hb<;>try exact dsX hb))<;>(conv=>whnf)))
  exact hk1 _ (by simpa using hC2)
 ·((conv=>whnf);repeat' ((first|(intro hq;(try simp only [lnS]at hq);(try rewrite [List.length_map]))|refine sJ ?_|refine .intro _ (.intro rfl ?_)|refine exL (k:= ?_)|refine dwR ?_|((first|refine aB ?_ ?_|refine aC ?_ ?_)<;>intro hb<;>(first|exact ddX hb|try simp only [lnS]at hb))|(refine aA ?_ ?_<;>intro hb<;>try exact dsX hb))<;>(conv=>whnf)))
  exact hk2 _ hS2
theorem aEh {lid:Nat}(hlid:lid < 100) {L:LoopI}{σ:Type}(St:σ->Hp) (Inv:List Cn->σ->Prop) (Bad:σ->Prop) (c:Cn) (s0:σ) (h0:Inv [] s0) {pin:Pin}{fr:Fr}{K:SV->Hp->Prop}(hL:L.fr.all (λp=>p.2.ids.isEmpty || p.2.ids.all λk=>decide (k < 100))=true) (hb: ∀s,∀k,100<=k->k∉tK (St s)) (hp1: ∀k,100<=k->k∉pin) (hf: ∀k,100<=k->k∉gR fr)
  (step : ∀ (done : List Cn) (x : Cn) (s : σ) (pin : Pin) (fr : Fr) (K : SV -> Hp -> Prop), Inv done s -> (∃ rest, done ++ x :: rest = eJ c) -> (∀ k, 100 <= k -> k ∉ pin) -> (∀ k, 100 <= k -> k ∉ gR fr) ->
   (∀s',Inv (done++[x]) s'->K (.d (.bool true)) ((lid, .loop L .ready)::St s'))->(∀s',Bad s'->K (.d (.bool false)) ((lid, .loop L (.done .ret))::St s'))->YVC Tryz.prog pin fr ((lid, .loop L .ready)::St s) lid [.d (.agg (cnR x))] K)
  (hk1: ∀s,Inv (eJ c) s->K (fD []) ((lid, .loop L .ready)::St s)) (hk2: ∀s,Bad s->K (fD []) ((lid, .loop L (.done .ret))::St s)):
  aJ Tryz.prog pin fr ((lid, .loop L .ready)::St s0) 191 [.yld lid, .ea 5 [cnR c] 0 0] K:=by
 refine aGu hlid (Cont:= λdone hp=> ∃s,hp=(lid, .loop L .ready)::St s/\Inv done s) (Stop:= λhp=> ∃s,hp=(lid, .loop L (.done .ret))::St s/\Bad s) c ⟨?_, ?_⟩ ⟨s0,rfl,h0⟩ hp1 hf ?_ ?_
 ·rintro done hp ⟨s,rfl,_⟩ k hk hm
  simp only [tK,List.flatMap_cons,List.mem_append,List.mem_cons]at hm
  rcases hm with(hm|hm)|hm
  ·omega
  ·simp only [HObj.ids,gR,List.mem_flatMap]at hm
   obtain⟨p,h1,h2⟩:=hm
   have:=List.all_eq_true.1 hL p h1
   simp only [Bool.or_eq_true]at this
   rcases this with h|h
   ·rw [List.isEmpty_iff.1 h]at h2;simp at h2
   ·have:=List.all_eq_true.1 h k h2
    simp at this;omega
  ·exact hb s k hk hm
 ·rintro done x hp pin fr K ⟨s,rfl,hI⟩ hA h1 h2 h3 h4
  exact step done x s pin fr K hI hA h1 h2 (λs' hI'=>h3 _ ⟨s',rfl,hI'⟩) (λs' hB=>h4 _ ⟨s',rfl,hB⟩)
 ·rintro hp ⟨s,rfl,hI⟩
  exact hk1 s hI
 ·rintro hp ⟨s,rfl,hB⟩
  exact hk2 s hB
end Go.Proofs.YtleihcnongldbaaGreatDoor
namespace Go.Proofs.YtleihcnongldbaaGreatDoor
open Go.Proofs
set_option maxRecDepth 10000
attribute [local irreducible] aN aJ Tri aI YVC cP bE
def dL:List Cn->Int
 | []=>0
 |x::r=>if cS x≠0 then cS x else dL r
def cA (c:Cn):Int:=if (eK c 0 0).1=false then 21 else dL (eJ c)
theorem mK: ∀(l m:List Cn),(∀x∈l,cS x=0)->dL (l++m)=dL m
 | [],_,_=>rfl
 |x::l,m,h=>by
  rw [List.cons_append,dL,if_neg (by simp [h x (List.mem_cons_self ..)])]
  exact mK l m λy hy=>h y (List.mem_cons_of_mem _ hy)
theorem aTe: ∀k,100<=k->k∉tK NG:=by
 intro k hk hm
 have e:tK NG=[90,91]:=by with_unfolding_all exact rfl
 rw [e]at hm
 simp at hm
 omega
theorem lN (c:Cn):Tri Tryz.prog 133 [.d (.agg (cnR c))] NG (λr=>r= .d (.int .i64 (cA c))):=by
 have hcR:=bA c
 have hw:=aIh c
 have hfit:= λhp0 pin fr K=> @aKr c 0 0 hp0 pin fr K (by omega) (by omega)
 rw [hcR]
 simp only [hcR]at hw hfit
 refine aE false [1] hty Tryz.func133 rfl (kp [0,1,2,3,4,5,8,10,11,15]) [] _ _ _ (by simp [Tryz.f133]) (by decide) ?_
 ((conv=>whnf);repeat' ((first|(intro hq;(try simp only [lnS]at hq);(try rewrite [List.length_map]))|refine sJ ?_|refine .intro _ (.intro rfl ?_)|refine exL (k:= ?_)|refine dwR ?_|((first|refine aB ?_ ?_|refine aC ?_ ?_)<;>intro hb<;>(first|exact ddX hb|try simp only [lnS]at hb))|(refine aA ?_ ?_<;>intro hb<;>try exact dsX hb))<;>(conv=>whnf)))
 refine hfit ((2, .cells 30 [.d (.int .i64 0)])::NG) _ _ _ (by simp) (aTf (by with_unfolding_all exact rfl)) (aP2 (by decide) (by with_unfolding_all exact rfl) aTe) ?_
 cases hb:(eK c 0 0).1
 ·((conv=>whnf);repeat' ((first|(intro hq;(try simp only [lnS]at hq);(try rewrite [List.length_map]))|refine sJ ?_|refine .intro _ (.intro rfl ?_)|refine exL (k:= ?_)|refine dwR ?_|((first|refine aB ?_ ?_|refine aC ?_ ?_)<;>intro hb<;>(first|exact ddX hb|try simp only [lnS]at hb))|(refine aA ?_ ?_<;>intro hb<;>try exact dsX hb))<;>(conv=>whnf)))
  rw [cA,if_pos hb];rfl
 ·have hE:cA c=dL (eJ c):=by rw [cA,if_neg (by simp [hb])]
  rw [hE]
  ((conv=>whnf);repeat ((first|(intro hq;try simp only [lnS]at hq)|refine sI ?_|refine .intro _ (.intro rfl ?_));(conv=>whnf)))
  refine aD [] hw trivial (λs hs=> ?_)
  subst hs
  ((conv=>whnf);repeat ((first|(intro hq;try simp only [lnS]at hq)|refine sI ?_|refine .intro _ (.intro rfl ?_));(conv=>whnf)))
  refine aHc 60 (bW (by with_unfolding_all exact rfl)) trivial ?_
  ((conv=>whnf);repeat ((first|(intro hq;try simp only [lnS]at hq)|refine sI ?_|refine .intro _ (.intro rfl ?_));(conv=>whnf)))
  rw [<-hcR]
  refine aEh (lid:=60) (by decide) (λe:Int=>(3,_)::(2, .cells 30 [.d (.int .i64 e)])::NG) (λdone e=>e=0/\ ∀x∈done,cS x=0) (λe=>e=dL (eJ c)) c 0 ⟨rfl,by simp⟩ (by with_unfolding_all exact rfl) (λe=>aP2 (by decide) (by with_unfolding_all exact rfl) (aP2 (by decide) (by with_unfolding_all exact rfl) aTe)) (by simp) (aTf (by with_unfolding_all exact rfl)) ?_ ?_ ?_
  ·rintro done x s pin fr K ⟨rfl,hd⟩ ⟨rest,hA⟩ h1 h2 h3 h4
   have hx:=bA x
   have hcf:=vG x
   rw [hx]at hcf |-
   have hbig: ∀k,100<=k->k∉pin++gR fr++[60]:=by
    intro k hk hm
    simp only [aNg,aNh,List.mem_append,List.mem_singleton]at hm
    rcases hm with(hm|hm)|hm
    ·exact h1 k hk hm
    ·exact h2 k hk hm
    ·omega
   refine aCg [4] hty (kp [0,1,2,3,4,5,8,10,11,15]) 600 rfl rfl ?_
   ((conv=>whnf);repeat' ((first|(intro hq;(try simp only [lnS]at hq);(try rewrite [List.length_map]))|refine sJ ?_|refine .intro _ (.intro rfl ?_)|refine exL (k:= ?_)|(refine And.intro ⟨hbig _ (Nat.le_of_ble_eq_true rfl),aTf (by with_unfolding_all exact rfl) _ (Nat.le_of_ble_eq_true rfl),iJ (by with_unfolding_all exact rfl)⟩ ?_)|(refine aD NG hcf ⟨rfl,rfl,trivial⟩ (λr hs=> ?_);subst hs)|refine dwR ?_|((first|refine aB ?_ ?_|refine aC ?_ ?_)<;>intro hb<;>(first|exact ddX hb|try simp only [lnS]at hb))|(refine aA ?_ ?_<;>intro hb<;>try exact dsX hb))<;>(conv=>whnf)))
   ·exact h4 (cS x) (by rw [<-hA,mK _ _ hd,dL,if_pos (by assumption)])
   ·refine h3 0 ⟨rfl,λy hy=> ?_⟩
    rcases List.mem_append.1 hy with h|h
    ·exact hd y h
    ·simp at h;subst h;assumption
  ·rintro s ⟨rfl,hI⟩
   have hz:dL (eJ c)=0:=by
    have:=mK (eJ c) [] hI
    simpa [dL]using this
   rw [hz]
   ((conv=>whnf);repeat' ((first|(intro hq;(try simp only [lnS]at hq);(try rewrite [List.length_map]))|refine sJ ?_|refine .intro _ (.intro rfl ?_)|refine exL (k:= ?_)|refine dwR ?_|((first|refine aB ?_ ?_|refine aC ?_ ?_)<;>intro hb<;>(first|exact ddX hb|try simp only [lnS]at hb))|(refine aA ?_ ?_<;>intro hb<;>try exact dsX hb))<;>(conv=>whnf)))
   rfl
  ·rintro s rfl
   ((conv=>whnf);repeat' ((first|(intro hq;(try simp only [lnS]at hq);(try rewrite [List.length_map]))|refine sJ ?_|refine .intro _ (.intro rfl ?_)|refine exL (k:= ?_)|refine dwR ?_|((first|refine aB ?_ ?_|refine aC ?_ ?_)<;>intro hb<;>(first|exact ddX hb|try simp only [lnS]at hb))|(refine aA ?_ ?_<;>intro hb<;>try exact dsX hb))<;>(conv=>whnf)))
   rfl
end Go.Proofs.YtleihcnongldbaaGreatDoor
namespace Go.Proofs.YtleihcnongldbaaGreatDoor
open Go.Proofs
set_option maxRecDepth 10000
attribute [local irreducible] aN aJ Tri aI YVC cP bE
def bH (c:Cn):Nat:=(eJ c).length
theorem aJi (c:Cn):1<=bH c:=by rw [bH,eD];simp
theorem aOi {a b:Int}(h:a=b):Wk (.d (.int .i64 a)) (.d (.int .i64 b)):=by subst h;exact rfl
mutual
def eT:Cn->Nat
 | .mk _ _ _ _ ps=>eQ ps
def eQ:List Cn->Nat
 | []=>0
 |c::r=>max (eT c+1) (eQ r)
end
theorem aKx (c:Cn):eT c=eQ c.parts:=by cases c;rw [eT];rfl
theorem sX: ∀(l m:List Cn),eQ (l++m)=max (eQ l) (eQ m)
 | [],m=>by simp [eQ]
 |c::l,m=>by simp only [List.cons_append,eQ,sX l m];omega
theorem aF6 {l:List Cn}{j:Nat}(h:j < l.length):eQ (l.take (j+1))=max (eQ (l.take j)) (eT l[j]+1):=by
 rw [List.take_succ_eq_append_getElem h,sX];simp [eQ]
theorem aA6 {l:List Cn}{x:Cn}(h:x∈l):(eJ x).length<=(bD l).length:=by
 obtain⟨a,b,rfl⟩:=List.append_of_mem h
 rw [fK,bD]
 simp only [List.length_append]
 omega
theorem kC {c x:Cn}(h:x∈c.parts):bH x < bH c:=by
 have:=aA6 h
 rw [bH,bH,eD c]
 simp only [List.length_cons]
 omega
mutual
theorem tY: ∀(c:Cn),eT c < bH c
 | .mk k n lo hi ps=>by
  have:=yK ps
  rw [eT,bH,eJ]
  simp only [List.length_cons]
  omega
theorem yK: ∀(l:List Cn),eQ l<=(bD l).length
 | []=>by simp [eQ]
 |c::r=>by
  have h1:=tY c
  have h2:=yK r
  rw [eQ,bD,List.length_append]
  rw [bH]at h1
  omega
end
mutual
def jV:Cn->Bool
 | .mk k _ _ _ ps=>if k=4 then true else if k=5 then yV ps else false
def yV:List Cn->Bool
 | []=>false
 |c::r=>if jV c=true then true else yV r
end
theorem aOc (c:Cn):jV c=if c.kind=4 then true else if c.kind=5 then yV c.parts else false:=by cases c;rw [jV];rfl
end Go.Proofs.YtleihcnongldbaaGreatDoor
namespace Go.Proofs.YtleihcnongldbaaGreatDoor
open Go.Proofs
set_option maxRecDepth 10000
attribute [local irreducible] aN aJ Tri aI YVC cP bE
def aRm (p:Cn->Bool) (l:List Cn):Int:=if l.any p=true then ((l.findIdx p:Nat):Int)else -1
theorem aMa {p:Cn->Bool}{l:List Cn}{j:Nat}(h:j < l.length) (h1:(l.take j).any p=false) (h2:p l[j]=false):(l.take (j+1)).any p=false:=by
 rw [List.take_succ_eq_append_getElem h,List.any_append,h1];simp [h2]
theorem aQw {p:Cn->Bool}{l:List Cn}{j:Nat}(h:j < l.length) (h1:(l.take j).any p=false) (h2:p l[j]=true):aRm p l=j:=by
 have ha:l.any p=true:=List.any_eq_true.2 ⟨_,List.getElem_mem h,h2⟩
 have hf:l.findIdx p=j:=by
  rw [List.findIdx_eq h]
  refine⟨h2,λi hi=> ?_⟩
  have:=List.any_eq_false.1 h1 (l[i]'(by omega)) (List.mem_iff_getElem.2 ⟨i,by simp;omega,by simp⟩)
  simpa using this
 rw [aRm,if_pos ha,hf]
theorem aF0 (f:FuncId) (hcall:dR Tryz.prog f=true) (p:Cn->Bool) (l:List Cn) (hf: ∀q∈l,Tri Tryz.prog f [.d (.agg (cnR q))] [] (λr=>r= .d (.bool (p q)))):
  Tri Tryz.prog 193 [.d (cnl l), .fn f [] []] [] (λr=>r= .d (.int .i64 (aRm p l))):=by
 refine aF hty Tryz.func193 rfl (kp [0,1,4,5,7,8,9,16]) [] _ _ _ (by simp [Tryz.f193]) (by simp) ?_
 ((conv=>whnf);repeat ((first|(intro hq;try simp only [lnS]at hq)|refine sI ?_|refine .intro _ (.intro rfl ?_));(conv=>whnf)))
 refine aH hty (λj:Nat=>([(0, .d (.sl 5 (l.map cnR))),(1, .fn f [] []),(7, .d (.int .i64 l.length)),(8, .d (.int .i64 j))],[])) (λj=>j<=l.length/\(l.take j).any p=false) (λj=>l.length - j) 0 ⟨by omega,by simp⟩ ⟨by repeat' (first|exact trivial|exact rfl|(rw [List.length_map];exact rfl)|refine And.intro ?_ ?_),trivial⟩ ?_
 rintro j ⟨hj,hn⟩
 ((conv=>whnf);repeat ((first|(intro hq;try simp only [lnS]at hq)|refine sI ?_|refine .intro _ (.intro rfl ?_));(conv=>whnf)))
 refine aB (λh1=> ?_) (λh1=> ?_)
 ·have hjl:j < l.length:=by omega
  have hrow':(l.map cnR)[(j:Int).toNat]? =some (cnR l[j]):=aS hjl
  have hi:=hf l[j] (List.getElem_mem hjl)
  rw [bA]at hrow' hi
  ((conv=>whnf);repeat' ((first|(intro hq;(try simp only [lnS]at hq);(try rewrite [List.length_map]))|refine sJ ?_|refine .intro _ (.intro rfl ?_)|refine exL (k:= ?_)|(refine⟨_,hrow', ?_⟩)|refine dwR ?_|((first|refine aB ?_ ?_|refine aC ?_ ?_)<;>intro hb<;>(first|exact ddX hb|try simp only [lnS]at hb))|(refine aA ?_ ?_<;>intro hb<;>try exact dsX hb))<;>(conv=>whnf)))
  refine aD [] hi trivial (λr hs=> ?_)
  subst hs
  cases hb2:p l[j]
  ·((conv=>whnf);repeat' ((first|(intro hq;(try simp only [lnS]at hq);(try rewrite [List.length_map]))|refine sJ ?_|refine .intro _ (.intro rfl ?_)|refine exL (k:= ?_)|refine dwR ?_|((first|refine aB ?_ ?_|refine aC ?_ ?_)<;>intro hb<;>(first|exact ddX hb|try simp only [lnS]at hb))|(refine aA ?_ ?_<;>intro hb<;>try exact dsX hb))<;>(conv=>whnf)))
   exact⟨j+1,⟨by omega,aMa hjl hn hb2⟩,by dsimp only;omega,by repeat' (first|exact trivial|exact rfl|refine And.intro ?_ ?_),trivial⟩
  ·((conv=>whnf);repeat' ((first|(intro hq;(try simp only [lnS]at hq);(try rewrite [List.length_map]))|refine sJ ?_|refine .intro _ (.intro rfl ?_)|refine exL (k:= ?_)|refine dwR ?_|((first|refine aB ?_ ?_|refine aC ?_ ?_)<;>intro hb<;>(first|exact ddX hb|try simp only [lnS]at hb))|(refine aA ?_ ?_<;>intro hb<;>try exact dsX hb))<;>(conv=>whnf)))
   exact eI (aQw hjl hn hb2).symm
 ·have hjl:j=l.length:=by omega
  subst hjl
  rw [List.take_length]at hn
  ((conv=>whnf);repeat' ((first|(intro hq;(try simp only [lnS]at hq);(try rewrite [List.length_map]))|refine sJ ?_|refine .intro _ (.intro rfl ?_)|refine exL (k:= ?_)|refine dwR ?_|((first|refine aB ?_ ?_|refine aC ?_ ?_)<;>intro hb<;>(first|exact ddX hb|try simp only [lnS]at hb))|(refine aA ?_ ?_<;>intro hb<;>try exact dsX hb))<;>(conv=>whnf)))
  rw [aRm,if_neg (by simp [hn])];rfl
theorem aF1 (p:Cn->Bool) (l:List Cn):decide (0<=aRm p l)=l.any p:=by
 unfold aRm
 cases h:l.any p
 ·simp
 ·simp
theorem zJ (f:FuncId) (hcall:dR Tryz.prog f=true) (p:Cn->Bool) (l:List Cn) (hf: ∀q∈l,Tri Tryz.prog f [.d (.agg (cnR q))] [] (λr=>r= .d (.bool (p q)))):
  Tri Tryz.prog 167 [.d (cnl l), .fn f [] []] [] (λr=>r= .d (.bool (l.any p))):=by
 refine aF hty Tryz.func167 rfl (kp [0,1,4]) [] _ _ _ (by simp [Tryz.f167]) (by simp) ?_
 ((conv=>whnf);repeat ((first|(intro hq;try simp only [lnS]at hq)|refine sI ?_|refine .intro _ (.intro rfl ?_));(conv=>whnf)))
 refine aD [] (aF0 f hcall p l hf) trivial (λr hs=> ?_)
 subst hs
 ((conv=>whnf);repeat' ((first|(intro hq;(try simp only [lnS]at hq);(try rewrite [List.length_map]))|refine sJ ?_|refine .intro _ (.intro rfl ?_)|refine exL (k:= ?_)|refine dwR ?_|((first|refine aB ?_ ?_|refine aC ?_ ?_)<;>intro hb<;>(first|exact ddX hb|try simp only [lnS]at hb))|(refine aA ?_ ?_<;>intro hb<;>try exact dsX hb))<;>(conv=>whnf)))
 exact aQ (aF1 p l)
theorem aDu: ∀l,yV l=l.any jV
 | []=>by simp [yV]
 |c::r=>by rw [yV,aDu r,List.any_cons];cases jV c<;>simp
theorem xP: ∀(c:Cn),Tri Tryz.prog 134 [.d (.agg (cnR c))] [] (λr=>r= .d (.bool (jV c))):=by
 refine Cn.ind ?_
 intro c ih
 have hC:=zJ 134 (by kernel_rfl) jV c.parts ih
 rw [bA,aOc,aDu]
 refine aE false [1] hty Tryz.func134 rfl (kp [0,1,2,4,5,7]) [] _ _ _ (by simp [Tryz.f134]) (by simp) ?_
 ((conv=>whnf);repeat' ((first|(intro hq;(try simp only [lnS]at hq);(try rewrite [List.length_map]))|refine sJ ?_|refine .intro _ (.intro rfl ?_)|refine exL (k:= ?_)|(refine aD [] hC trivial (λr hs=> ?_);subst hs)|refine dwR ?_|((first|refine aB ?_ ?_|refine aC ?_ ?_)<;>intro hb<;>(first|exact ddX hb|try simp only [lnS]at hb))|(refine aA ?_ ?_<;>intro hb<;>try exact dsX hb))<;>(conv=>whnf)))
 ·rw [if_pos (by assumption)];rfl
 ·rw [if_neg (by assumption),if_pos (by assumption)];rfl
 ·rw [if_neg (by assumption),if_neg (by assumption)];rfl
def fC (c:Cn):Bool:=decide (c.kind=0) && (decide (c.name=[]) && (decide (c.lo=0) && (decide (c.hi=0) && decide (c.parts=[]))))
theorem bK (c:Cn):Tri Tryz.prog 162 [.d (.agg (cnR c))] [] (λr=>r= .d (.bool (fC c))):=by
 rw [bA]
 refine aE false [1] hty Tryz.func162 rfl (kp [0,1,2]) [] _ _ _ (by simp [Tryz.f162]) (by simp) ?_
 ((conv=>whnf);repeat' ((first|(intro hq;(try simp only [lnS]at hq);(try rewrite [List.length_map]))|refine sJ ?_|refine .intro _ (.intro rfl ?_)|refine exL (k:= ?_)|refine dwR ?_|((first|refine aB ?_ ?_|refine aC ?_ ?_)<;>intro hb<;>(first|exact ddX hb|try simp only [lnS]at hb))|(refine aA ?_ ?_<;>intro hb<;>try exact dsX hb))<;>(conv=>whnf)))
 all_goals (unfold fC;simp_all [fD])
 all_goals trace_state
end Go.Proofs.YtleihcnongldbaaGreatDoor
namespace Go.Proofs.YtleihcnongldbaaGreatDoor
open Go.Proofs
set_option maxRecDepth 10000
attribute [local irreducible] aN aJ Tri aI YVC cP bE
def bU (u:Use) (x:Ax):Bool:=
 (u.left || fC x.left) && ((u.right || fC x.right) && ((u.role || decide (x.role=[])) && ((u.a || decide (x.a=[])) && ((u.b || decide (x.b=[])) && (decide (u.least<=x.roles.length) && decide ((x.roles.length:Int)<=u.most))))))
def bJ (x:Ax):Bool:=if x.kind < 1\/9 < x.kind then false else bU (gT x.kind) x
theorem rM {k:Int}(n:Nat) (h:n < iS.length) (hk:k=n):(iS.map aPo)[k.toNat]? =some (aPo iS[n]):=by
 subst hk
 rw [Int.toNat_natCast,List.getElem?_map,List.getElem?_eq_getElem h];rfl
theorem aHx (x:Ax) (hk:x.kind=1):Tri Tryz.prog 131 [.d (.agg (axR x))] NG (λr=>r= .d (.bool (bJ x))):=by
 have e1:=bK x.left
 have e2:=bK x.right
 rw [bA]at e1 e2
 have hrow:=rM (k:=x.kind) 1 (by decide) hk
 have hE:bJ x=bU (iS[1]'(by decide)) x:=by rw [bJ,if_neg (by omega),hk];rfl
 rw [hE]
 refine aE false [1,3] hty Tryz.func131 rfl (kp [0,1,2,3,11]) [] _ _ _ (by simp [Tryz.f131]) (by decide) ?_
 ((conv=>whnf);repeat ((first|(intro hq;try simp only [lnS]at hq)|refine sI ?_|refine .intro _ (.intro rfl ?_));(conv=>whnf)))
 refine aB (λh1=>by omega) (λh1=> ?_)
 ((conv=>whnf);repeat ((first|(intro hq;try simp only [lnS]at hq)|refine sI ?_|refine .intro _ (.intro rfl ?_));(conv=>whnf)))
 refine aB (λh2=>by omega) (λh2=> ?_)
 ((conv=>whnf);repeat' ((first|(intro hq;(try simp only [lnS]at hq);(try rewrite [List.length_map]))|refine sJ ?_|refine .intro _ (.intro rfl ?_)|refine exL (k:= ?_)|(refine dK (id:=91) hty rfl rfl rfl rfl rfl rfl rfl (by omega) (by omega) ?_)|(refine⟨_,hrow, ?_⟩)|(refine aD [] e1 trivial (λr hs=> ?_);subst hs)|(refine aD [] e2 trivial (λr hs=> ?_);subst hs)|refine dwR ?_|((first|refine aB ?_ ?_|refine aC ?_ ?_)<;>intro hb<;>(first|exact ddX hb|try simp only [lnS]at hb))|(refine aA ?_ ?_<;>intro hb<;>try exact dsX hb))<;>(conv=>whnf)))
 all_goals (clear e1 e2 hrow hE;refine aQ (Eq.symm ?_);show bU _ x=_;simp only [bU,iS,List.getElem_cons_succ,List.getElem_cons_zero,Bool.true_or,Bool.false_or,Bool.true_and];simp_all [iS]<;>omega)
theorem aHw (x:Ax) (hk:x.kind=2):Tri Tryz.prog 131 [.d (.agg (axR x))] NG (λr=>r= .d (.bool (bJ x))):=by
 have e1:=bK x.left
 have e2:=bK x.right
 rw [bA]at e1 e2
 have hrow:=rM (k:=x.kind) 2 (by decide) hk
 have hE:bJ x=bU (iS[2]'(by decide)) x:=by rw [bJ,if_neg (by omega),hk];rfl
 rw [hE]
 refine aE false [1,3] hty Tryz.func131 rfl (kp [0,1,2,3,11]) [] _ _ _ (by simp [Tryz.f131]) (by decide) ?_
 ((conv=>whnf);repeat ((first|(intro hq;try simp only [lnS]at hq)|refine sI ?_|refine .intro _ (.intro rfl ?_));(conv=>whnf)))
 refine aB (λh1=>by omega) (λh1=> ?_)
 ((conv=>whnf);repeat ((first|(intro hq;try simp only [lnS]at hq)|refine sI ?_|refine .intro _ (.intro rfl ?_));(conv=>whnf)))
 refine aB (λh2=>by omega) (λh2=> ?_)
 ((conv=>whnf);repeat' ((first|(intro hq;(try simp only [lnS]at hq);(try rewrite [List.length_map]))|refine sJ ?_|refine .intro _ (.intro rfl ?_)|refine exL (k:= ?_)|(refine dK (id:=91) hty rfl rfl rfl rfl rfl rfl rfl (by omega) (by omega) ?_)|(refine⟨_,hrow, ?_⟩)|(refine aD [] e1 trivial (λr hs=> ?_);subst hs)|(refine aD [] e2 trivial (λr hs=> ?_);subst hs)|refine dwR ?_|((first|refine aB ?_ ?_|refine aC ?_ ?_)<;>intro hb<;>(first|exact ddX hb|try simp only [lnS]at hb))|(refine aA ?_ ?_<;>intro hb<;>try exact dsX hb))<;>(conv=>whnf)))
 all_goals (clear e1 e2 hrow hE;refine aQ (Eq.symm ?_);show bU _ x=_;simp only [bU,iS,List.getElem_cons_succ,List.getElem_cons_zero,Bool.true_or,Bool.false_or,Bool.true_and];simp_all [iS]<;>omega)
theorem aHv (x:Ax) (hk:x.kind=3):Tri Tryz.prog 131 [.d (.agg (axR x))] NG (λr=>r= .d (.bool (bJ x))):=by
 have e1:=bK x.left
 have e2:=bK x.right
 rw [bA]at e1 e2
 have hrow:=rM (k:=x.kind) 3 (by decide) hk
 have hE:bJ x=bU (iS[3]'(by decide)) x:=by rw [bJ,if_neg (by omega),hk];rfl
 rw [hE]
 refine aE false [1,3] hty Tryz.func131 rfl (kp [0,1,2,3,11]) [] _ _ _ (by simp [Tryz.f131]) (by decide) ?_
 ((conv=>whnf);repeat ((first|(intro hq;try simp only [lnS]at hq)|refine sI ?_|refine .intro _ (.intro rfl ?_));(conv=>whnf)))
 refine aB (λh1=>by omega) (λh1=> ?_)
 ((conv=>whnf);repeat ((first|(intro hq;try simp only [lnS]at hq)|refine sI ?_|refine .intro _ (.intro rfl ?_));(conv=>whnf)))
 refine aB (λh2=>by omega) (λh2=> ?_)
 ((conv=>whnf);repeat' ((first|(intro hq;(try simp only [lnS]at hq);(try rewrite [List.length_map]))|refine sJ ?_|refine .intro _ (.intro rfl ?_)|refine exL (k:= ?_)|(refine dK (id:=91) hty rfl rfl rfl rfl rfl rfl rfl (by omega) (by omega) ?_)|(refine⟨_,hrow, ?_⟩)|(refine aD [] e1 trivial (λr hs=> ?_);subst hs)|(refine aD [] e2 trivial (λr hs=> ?_);subst hs)|refine dwR ?_|((first|refine aB ?_ ?_|refine aC ?_ ?_)<;>intro hb<;>(first|exact ddX hb|try simp only [lnS]at hb))|(refine aA ?_ ?_<;>intro hb<;>try exact dsX hb))<;>(conv=>whnf)))
 all_goals (clear e1 e2 hrow hE;refine aQ (Eq.symm ?_);show bU _ x=_;simp only [bU,iS,List.getElem_cons_succ,List.getElem_cons_zero,Bool.true_or,Bool.false_or,Bool.true_and];simp_all [iS]<;>omega)
theorem aHu (x:Ax) (hk:x.kind=4):Tri Tryz.prog 131 [.d (.agg (axR x))] NG (λr=>r= .d (.bool (bJ x))):=by
 have e1:=bK x.left
 have e2:=bK x.right
 rw [bA]at e1 e2
 have hrow:=rM (k:=x.kind) 4 (by decide) hk
 have hE:bJ x=bU (iS[4]'(by decide)) x:=by rw [bJ,if_neg (by omega),hk];rfl
 rw [hE]
 refine aE false [1,3] hty Tryz.func131 rfl (kp [0,1,2,3,11]) [] _ _ _ (by simp [Tryz.f131]) (by decide) ?_
 ((conv=>whnf);repeat ((first|(intro hq;try simp only [lnS]at hq)|refine sI ?_|refine .intro _ (.intro rfl ?_));(conv=>whnf)))
 refine aB (λh1=>by omega) (λh1=> ?_)
 ((conv=>whnf);repeat ((first|(intro hq;try simp only [lnS]at hq)|refine sI ?_|refine .intro _ (.intro rfl ?_));(conv=>whnf)))
 refine aB (λh2=>by omega) (λh2=> ?_)
 ((conv=>whnf);repeat' ((first|(intro hq;(try simp only [lnS]at hq);(try rewrite [List.length_map]))|refine sJ ?_|refine .intro _ (.intro rfl ?_)|refine exL (k:= ?_)|(refine dK (id:=91) hty rfl rfl rfl rfl rfl rfl rfl (by omega) (by omega) ?_)|(refine⟨_,hrow, ?_⟩)|(refine aD [] e1 trivial (λr hs=> ?_);subst hs)|(refine aD [] e2 trivial (λr hs=> ?_);subst hs)|refine dwR ?_|((first|refine aB ?_ ?_|refine aC ?_ ?_)<;>intro hb<;>(first|exact ddX hb|try simp only [lnS]at hb))|(refine aA ?_ ?_<;>intro hb<;>try exact dsX hb))<;>(conv=>whnf)))
 all_goals (clear e1 e2 hrow hE;refine aQ (Eq.symm ?_);show bU _ x=_;simp only [bU,iS,List.getElem_cons_succ,List.getElem_cons_zero,Bool.true_or,Bool.false_or,Bool.true_and];simp_all [iS]<;>omega)
theorem aHr (x:Ax) (hk:x.kind=7):Tri Tryz.prog 131 [.d (.agg (axR x))] NG (λr=>r= .d (.bool (bJ x))):=by
 have e1:=bK x.left
 have e2:=bK x.right
 rw [bA]at e1 e2
 have hrow:=rM (k:=x.kind) 7 (by decide) hk
 have hE:bJ x=bU (iS[7]'(by decide)) x:=by rw [bJ,if_neg (by omega),hk];rfl
 rw [hE]
 refine aE false [1,3] hty Tryz.func131 rfl (kp [0,1,2,3,11]) [] _ _ _ (by simp [Tryz.f131]) (by decide) ?_
 ((conv=>whnf);repeat ((first|(intro hq;try simp only [lnS]at hq)|refine sI ?_|refine .intro _ (.intro rfl ?_));(conv=>whnf)))
 refine aB (λh1=>by omega) (λh1=> ?_)
 ((conv=>whnf);repeat ((first|(intro hq;try simp only [lnS]at hq)|refine sI ?_|refine .intro _ (.intro rfl ?_));(conv=>whnf)))
 refine aB (λh2=>by omega) (λh2=> ?_)
 ((conv=>whnf);repeat' ((first|(intro hq;(try simp only [lnS]at hq);(try rewrite [List.length_map]))|refine sJ ?_|refine .intro _ (.intro rfl ?_)|refine exL (k:= ?_)|(refine dK (id:=91) hty rfl rfl rfl rfl rfl rfl rfl (by omega) (by omega) ?_)|(refine⟨_,hrow, ?_⟩)|(refine aD [] e1 trivial (λr hs=> ?_);subst hs)|(refine aD [] e2 trivial (λr hs=> ?_);subst hs)|refine dwR ?_|((first|refine aB ?_ ?_|refine aC ?_ ?_)<;>intro hb<;>(first|exact ddX hb|try simp only [lnS]at hb))|(refine aA ?_ ?_<;>intro hb<;>try exact dsX hb))<;>(conv=>whnf)))
 all_goals (clear e1 e2 hrow hE;refine aQ (Eq.symm ?_);show bU _ x=_;simp only [bU,iS,List.getElem_cons_succ,List.getElem_cons_zero,Bool.true_or,Bool.false_or,Bool.true_and];simp_all [iS]<;>omega)
theorem aHq (x:Ax) (hk:x.kind=8):Tri Tryz.prog 131 [.d (.agg (axR x))] NG (λr=>r= .d (.bool (bJ x))):=by
 have e1:=bK x.left
 have e2:=bK x.right
 rw [bA]at e1 e2
 have hrow:=rM (k:=x.kind) 8 (by decide) hk
 have hE:bJ x=bU (iS[8]'(by decide)) x:=by rw [bJ,if_neg (by omega),hk];rfl
 rw [hE]
 refine aE false [1,3] hty Tryz.func131 rfl (kp [0,1,2,3,11]) [] _ _ _ (by simp [Tryz.f131]) (by decide) ?_
 ((conv=>whnf);repeat ((first|(intro hq;try simp only [lnS]at hq)|refine sI ?_|refine .intro _ (.intro rfl ?_));(conv=>whnf)))
 refine aB (λh1=>by omega) (λh1=> ?_)
 ((conv=>whnf);repeat ((first|(intro hq;try simp only [lnS]at hq)|refine sI ?_|refine .intro _ (.intro rfl ?_));(conv=>whnf)))
 refine aB (λh2=>by omega) (λh2=> ?_)
 ((conv=>whnf);repeat' ((first|(intro hq;(try simp only [lnS]at hq);(try rewrite [List.length_map]))|refine sJ ?_|refine .intro _ (.intro rfl ?_)|refine exL (k:= ?_)|(refine dK (id:=91) hty rfl rfl rfl rfl rfl rfl rfl (by omega) (by omega) ?_)|(refine⟨_,hrow, ?_⟩)|(refine aD [] e1 trivial (λr hs=> ?_);subst hs)|(refine aD [] e2 trivial (λr hs=> ?_);subst hs)|refine dwR ?_|((first|refine aB ?_ ?_|refine aC ?_ ?_)<;>intro hb<;>(first|exact ddX hb|try simp only [lnS]at hb))|(refine aA ?_ ?_<;>intro hb<;>try exact dsX hb))<;>(conv=>whnf)))
 all_goals (clear e1 e2 hrow hE;refine aQ (Eq.symm ?_);show bU _ x=_;simp only [bU,iS,List.getElem_cons_succ,List.getElem_cons_zero,Bool.true_or,Bool.false_or,Bool.true_and];simp_all [iS]<;>omega)
theorem aHp (x:Ax) (hk:x.kind=9):Tri Tryz.prog 131 [.d (.agg (axR x))] NG (λr=>r= .d (.bool (bJ x))):=by
 have e1:=bK x.left
 have e2:=bK x.right
 rw [bA]at e1 e2
 have hrow:=rM (k:=x.kind) 9 (by decide) hk
 have hE:bJ x=bU (iS[9]'(by decide)) x:=by rw [bJ,if_neg (by omega),hk];rfl
 rw [hE]
 refine aE false [1,3] hty Tryz.func131 rfl (kp [0,1,2,3,11]) [] _ _ _ (by simp [Tryz.f131]) (by decide) ?_
 ((conv=>whnf);repeat ((first|(intro hq;try simp only [lnS]at hq)|refine sI ?_|refine .intro _ (.intro rfl ?_));(conv=>whnf)))
 refine aB (λh1=>by omega) (λh1=> ?_)
 ((conv=>whnf);repeat ((first|(intro hq;try simp only [lnS]at hq)|refine sI ?_|refine .intro _ (.intro rfl ?_));(conv=>whnf)))
 refine aB (λh2=>by omega) (λh2=> ?_)
 ((conv=>whnf);repeat' ((first|(intro hq;(try simp only [lnS]at hq);(try rewrite [List.length_map]))|refine sJ ?_|refine .intro _ (.intro rfl ?_)|refine exL (k:= ?_)|(refine dK (id:=91) hty rfl rfl rfl rfl rfl rfl rfl (by omega) (by omega) ?_)|(refine⟨_,hrow, ?_⟩)|(refine aD [] e1 trivial (λr hs=> ?_);subst hs)|(refine aD [] e2 trivial (λr hs=> ?_);subst hs)|refine dwR ?_|((first|refine aB ?_ ?_|refine aC ?_ ?_)<;>intro hb<;>(first|exact ddX hb|try simp only [lnS]at hb))|(refine aA ?_ ?_<;>intro hb<;>try exact dsX hb))<;>(conv=>whnf)))
 all_goals (clear e1 e2 hrow hE;refine aQ (Eq.symm ?_);show bU _ x=_;simp only [bU,iS,List.getElem_cons_succ,List.getElem_cons_zero,Bool.true_or,Bool.false_or,Bool.true_and];simp_all [iS]<;>omega)
theorem aHt (x:Ax) (hk:x.kind=5):Tri Tryz.prog 131 [.d (.agg (axR x))] NG (λr=>r= .d (.bool (bJ x))):=by
 have e1:=bK x.left
 have e2:=bK x.right
 rw [bA]at e1 e2
 have hrow:=rM (k:=x.kind) 5 (by decide) hk
 have hE:bJ x=bU (iS[5]'(by decide)) x:=by rw [bJ,if_neg (by omega),hk];rfl
 rw [hE]
 refine aE false [1,3] hty Tryz.func131 rfl (kp [0,1,2,3,11]) [] _ _ _ (by simp [Tryz.f131]) (by decide) ?_
 ((conv=>whnf);repeat ((first|(intro hq;try simp only [lnS]at hq)|refine sI ?_|refine .intro _ (.intro rfl ?_));(conv=>whnf)))
 refine aB (λh1=>by omega) (λh1=> ?_)
 ((conv=>whnf);repeat ((first|(intro hq;try simp only [lnS]at hq)|refine sI ?_|refine .intro _ (.intro rfl ?_));(conv=>whnf)))
 refine aB (λh2=>by omega) (λh2=> ?_)
 ((conv=>whnf);repeat' ((first|(intro hq;(try simp only [lnS]at hq);(try rewrite [List.length_map]))|refine sJ ?_|refine .intro _ (.intro rfl ?_)|refine exL (k:= ?_)|(refine dK (id:=91) hty rfl rfl rfl rfl rfl rfl rfl (by omega) (by omega) ?_)|(refine⟨_,hrow, ?_⟩)|(refine aD [] e1 trivial (λr hs=> ?_);subst hs)|(refine aD [] e2 trivial (λr hs=> ?_);subst hs)|refine dwR ?_|((first|refine aB ?_ ?_|refine aC ?_ ?_)<;>intro hb<;>(first|exact ddX hb|try simp only [lnS]at hb))|(refine aA ?_ ?_<;>intro hb<;>try exact dsX hb))<;>(conv=>whnf)))
 all_goals (clear e1 e2 hrow hE;refine aQ (Eq.symm ?_);show bU _ x=_;simp only [bU,show (iS[5]'(by decide)).left=false from rfl,show (iS[5]'(by decide)).right=false from rfl,show (iS[5]'(by decide)).role=true from rfl,show (iS[5]'(by decide)).a=false from rfl,show (iS[5]'(by decide)).b=false from rfl,Bool.true_or,Bool.false_or,Bool.true_and];have hl:(iS[5]'(by decide)).least=(5:Int) - 4:=rfl;have hm:(iS[5]'(by decide)).most=3 * (5:Int) - 14:=rfl;simp_all<;>omega)
theorem aHs (x:Ax) (hk:x.kind=6):Tri Tryz.prog 131 [.d (.agg (axR x))] NG (λr=>r= .d (.bool (bJ x))):=by
 have e1:=bK x.left
 have e2:=bK x.right
 rw [bA]at e1 e2
 have hrow:=rM (k:=x.kind) 6 (by decide) hk
 have hE:bJ x=bU (iS[6]'(by decide)) x:=by rw [bJ,if_neg (by omega),hk];rfl
 rw [hE]
 refine aE false [1,3] hty Tryz.func131 rfl (kp [0,1,2,3,11]) [] _ _ _ (by simp [Tryz.f131]) (by decide) ?_
 ((conv=>whnf);repeat ((first|(intro hq;try simp only [lnS]at hq)|refine sI ?_|refine .intro _ (.intro rfl ?_));(conv=>whnf)))
 refine aB (λh1=>by omega) (λh1=> ?_)
 ((conv=>whnf);repeat ((first|(intro hq;try simp only [lnS]at hq)|refine sI ?_|refine .intro _ (.intro rfl ?_));(conv=>whnf)))
 refine aB (λh2=>by omega) (λh2=> ?_)
 ((conv=>whnf);repeat' ((first|(intro hq;(try simp only [lnS]at hq);(try rewrite [List.length_map]))|refine sJ ?_|refine .intro _ (.intro rfl ?_)|refine exL (k:= ?_)|(refine dK (id:=91) hty rfl rfl rfl rfl rfl rfl rfl (by omega) (by omega) ?_)|(refine⟨_,hrow, ?_⟩)|(refine aD [] e1 trivial (λr hs=> ?_);subst hs)|(refine aD [] e2 trivial (λr hs=> ?_);subst hs)|refine dwR ?_|((first|refine aB ?_ ?_|refine aC ?_ ?_)<;>intro hb<;>(first|exact ddX hb|try simp only [lnS]at hb))|(refine aA ?_ ?_<;>intro hb<;>try exact dsX hb))<;>(conv=>whnf)))
 all_goals (clear e1 e2 hrow hE;refine aQ (Eq.symm ?_);show bU _ x=_;simp only [bU,show (iS[6]'(by decide)).left=false from rfl,show (iS[6]'(by decide)).right=false from rfl,show (iS[6]'(by decide)).role=true from rfl,show (iS[6]'(by decide)).a=false from rfl,show (iS[6]'(by decide)).b=false from rfl,Bool.true_or,Bool.false_or,Bool.true_and];have hl:(iS[6]'(by decide)).least=(6:Int) - 4:=rfl;have hm:(iS[6]'(by decide)).most=3 * (6:Int) - 14:=rfl;simp_all<;>omega)
theorem aBx (x:Ax):Tri Tryz.prog 131 [.d (.agg (axR x))] NG (λr=>r= .d (.bool (bJ x))):=by
 by_cases hk:1<=x.kind/\x.kind<=9
 ·rcases(show x.kind=1\/x.kind=2\/x.kind=3\/x.kind=4\/x.kind=5\/x.kind=6\/x.kind=7\/x.kind=8\/x.kind=9 by omega)with h|h|h|h|h|h|h|h|h
  ·exact aHx x h
  ·exact aHw x h
  ·exact aHv x h
  ·exact aHu x h
  ·exact aHt x h
  ·exact aHs x h
  ·exact aHr x h
  ·exact aHq x h
  ·exact aHp x h
 ·have hE:bJ x=false:=by rw [bJ,if_pos (by omega)]
  rw [hE]
  refine aE false [1,3] hty Tryz.func131 rfl (kp [0,1,2,3,11]) [] _ _ _ (by simp [Tryz.f131]) (by decide) ?_
  ((conv=>whnf);repeat ((first|(intro hq;try simp only [lnS]at hq)|refine sI ?_|refine .intro _ (.intro rfl ?_));(conv=>whnf)))
  refine aB (λh1=> ?_) (λh1=> ?_)
  ·((conv=>whnf);repeat' ((first|(intro hq;(try simp only [lnS]at hq);(try rewrite [List.length_map]))|refine sJ ?_|refine .intro _ (.intro rfl ?_)|refine exL (k:= ?_)|refine dwR ?_|((first|refine aB ?_ ?_|refine aC ?_ ?_)<;>intro hb<;>(first|exact ddX hb|try simp only [lnS]at hb))|(refine aA ?_ ?_<;>intro hb<;>try exact dsX hb))<;>(conv=>whnf)))
   rfl
  ·((conv=>whnf);repeat ((first|(intro hq;try simp only [lnS]at hq)|refine sI ?_|refine .intro _ (.intro rfl ?_));(conv=>whnf)))
   refine aB (λh2=> ?_) (λh2=>by omega)
   ((conv=>whnf);repeat' ((first|(intro hq;(try simp only [lnS]at hq);(try rewrite [List.length_map]))|refine sJ ?_|refine .intro _ (.intro rfl ?_)|refine exL (k:= ?_)|refine dwR ?_|((first|refine aB ?_ ?_|refine aC ?_ ?_)<;>intro hb<;>(first|exact ddX hb|try simp only [lnS]at hb))|(refine aA ?_ ?_<;>intro hb<;>try exact dsX hb))<;>(conv=>whnf)))
   rfl
def sG (u:Use) (x:Ax):Bool:= !((u.role && !dD x.role) || ((u.a && !dM x.a) || (u.b && !dM x.b))) && x.roles.all dD
theorem aMb {p:List UInt8->Bool}{l:List (List UInt8)}{j:Nat}(h:j < l.length) (h1:(l.take j).all p=true) (h2:p l[j]=true):(l.take (j+1)).all p=true:=by
 rw [List.take_succ_eq_append_getElem h,List.all_append,h1];simp [h2]
theorem aDa (x:Ax) (u:Use):Tri Tryz.prog 132 [.d (.agg (axR x)), .d (.agg (aPo u))] [] (λr=>r= .d (.bool (sG u x))):=by
 refine aE false [2,3] hty Tryz.func132 rfl (kp [0,1,2,3,4,6,34,36,37,38,39,44]) [] _ _ _ (by simp [Tryz.f132]) (by simp) ?_
 ((conv=>whnf);repeat' ((first|(intro hq;(try simp only [lnS]at hq);(try rewrite [List.length_map]))|refine sJ ?_|refine .intro _ (.intro rfl ?_)|refine exL (k:= ?_)|(refine aD [] (jD _) trivial (λr hs=> ?_);subst hs)|(refine aD [] (jU _) trivial (λr hs=> ?_);subst hs)|refine dwR ?_|((first|refine aB ?_ ?_|refine aC ?_ ?_)<;>intro hb<;>(first|exact ddX hb|try simp only [lnS]at hb))|(refine aA ?_ ?_<;>intro hb<;>try exact dsX hb))<;>(conv=>whnf)))
 all_goals first
  |(refine aQ (Eq.symm ?_);unfold sG;simp_all;done)
  |skip
 all_goals (
  have hN:sG u x=x.roles.all dD:=by unfold sG;simp_all
  rw [hN]
  refine aH hty (λj:Nat=>([(36, .d (.sl 1 (x.roles.map bL))),(37, .d (.int .i64 x.roles.length)),(38, .d (.int .i64 j))],[])) (λj=>j<=x.roles.length/\(x.roles.take j).all dD=true) (λj=>x.roles.length - j) 0 ⟨by omega,by simp⟩ ⟨by repeat' (first|exact trivial|exact rfl|(rw [List.length_map];exact rfl)|refine And.intro ?_ ?_),trivial⟩ ?_
  rintro j ⟨hj,hn⟩
  ((conv=>whnf);repeat ((first|(intro hq;try simp only [lnS]at hq)|refine sI ?_|refine .intro _ (.intro rfl ?_));(conv=>whnf)))
  refine aB (λh1=> ?_) (λh1=> ?_)
  ·have hjl:j < x.roles.length:=by omega
   have hrow:(x.roles.map bL)[(j:Int).toNat]? =some (bL x.roles[j]):=aS hjl
   ((conv=>whnf);repeat ((first|(refine⟨_,hrow, ?_⟩)|(intro hq;try simp only [lnS]at hq)|refine sI ?_|refine .intro _ (.intro rfl ?_));(conv=>whnf)))
   refine aD [] (jD x.roles[j]) trivial (λr hs=> ?_)
   subst hs
   cases hb2:dD x.roles[j]
   ·((conv=>whnf);repeat' ((first|(intro hq;(try simp only [lnS]at hq);(try rewrite [List.length_map]))|refine sJ ?_|refine .intro _ (.intro rfl ?_)|refine exL (k:= ?_)|refine dwR ?_|((first|refine aB ?_ ?_|refine aC ?_ ?_)<;>intro hb<;>(first|exact ddX hb|try simp only [lnS]at hb))|(refine aA ?_ ?_<;>intro hb<;>try exact dsX hb))<;>(conv=>whnf)))
    exact aQ (List.all_eq_false.2 ⟨_,List.getElem_mem hjl,by simp [hb2]⟩).symm
   ·((conv=>whnf);repeat' ((first|(intro hq;(try simp only [lnS]at hq);(try rewrite [List.length_map]))|refine sJ ?_|refine .intro _ (.intro rfl ?_)|refine exL (k:= ?_)|refine dwR ?_|((first|refine aB ?_ ?_|refine aC ?_ ?_)<;>intro hb<;>(first|exact ddX hb|try simp only [lnS]at hb))|(refine aA ?_ ?_<;>intro hb<;>try exact dsX hb))<;>(conv=>whnf)))
    exact⟨j+1,⟨by omega,aMb hjl hn hb2⟩,by dsimp only;omega,by repeat' (first|exact trivial|exact rfl|refine And.intro ?_ ?_),trivial⟩
  ·have hjl:j=x.roles.length:=by omega
   subst hjl
   rw [List.take_length]at hn
   ((conv=>whnf);repeat' ((first|(intro hq;(try simp only [lnS]at hq);(try rewrite [List.length_map]))|refine sJ ?_|refine .intro _ (.intro rfl ?_)|refine exL (k:= ?_)|refine dwR ?_|((first|refine aB ?_ ?_|refine aC ?_ ?_)<;>intro hb<;>(first|exact ddX hb|try simp only [lnS]at hb))|(refine aA ?_ ?_<;>intro hb<;>try exact dsX hb))<;>(conv=>whnf)))
   exact aQ hn.symm)
end Go.Proofs.YtleihcnongldbaaGreatDoor
