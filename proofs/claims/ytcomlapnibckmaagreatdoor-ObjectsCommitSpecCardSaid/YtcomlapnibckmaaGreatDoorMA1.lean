/-
  Rows known cell by cell: slices of them, copy, append of zero values; and back to rows. Arrays of numbers: are two equal? And a row of a package-level array. Rows known cell by cell: at a call's begin and end. Terms: concepts and axioms as data.
  Conditions: none.
-/
import Derived.Test.YtcomlapnibckmaaGreatDoorMSna
import Derived.Lib.AppendZerosOnto
import Derived.Test.YtcomlapnibckmaaGreatDoorMSw
set_option linter.unnecessarySimpa false
set_option linter.unusedSectionVars false
set_option linter.unusedSimpArgs false
set_option linter.unusedVariables false
namespace Go.Proofs.YtcomlapnibckmaaGreatDoor
open Go.RowKit
section
variable {P:Program}
end
end Go.Proofs.YtcomlapnibckmaaGreatDoor
namespace Go.Proofs.YtcomlapnibckmaaGreatDoor
open Go.RowKit
section
variable {P:Program}
def aGh (P:Program) (t:TypeId):Bool:= !P.eqGuardType P.depth t
def lJ (td:TD):List D->List D->Option Bool
 | [],[]=>some true
 |x::xs,y::ys=>match sR td x y with
  |some c=>match lJ td xs ys with|some b=>some (c && b)|none=>none
  |none=>none
 |_,_=>none
theorem sS {td:TD}: ∀{xs ys:List D}{b:Bool},lJ td xs ys=some b->xs.length=ys.length
 | [],[],_,_=>rfl
 |x::xs,y::ys,b,h=>by
  simp only [lJ]at h
  split at h
  ·split at h
   ·rename_i h'
    simp [sS h']
   ·cases h
  ·cases h
 | [],_::_,_,h=>by simp [lJ]at h
 |_::_,[],_,h=>by simp [lJ]at h
theorem rX {t:TypeId}{T:TI}{dd:TypeDesc}{i:TypeInfo}{z:Value}(hT:TIok P t T dd i z) (ha:T.td.isAgg=false) {w:World}{S:Nat->Nat->Prop}(d:Nat) (w':World): ∀(xs ys:List D) (b:Bool) (k:Nat) (us vs:Array Value),lJ T.td xs ys=some b->
  (∀(j:Nat) (x:D),xs[j]? =some x-> ∃u,us[k+j]? =some u/\RepD w S x u)->(∀(j:Nat) (x:D),ys[j]? =some x-> ∃u,vs[k+j]? =some u/\RepD w S x u)->
  (forIn (m := Sem) (List.range' k xs.length) ((none, ()) : Option Bool × Unit) (λi _ => do
    let x <-part t us i
    let y <-part t vs i
    let c <-Op.equalIn (d+1) t x y
    if (!c)=true then pure (ForInStep.done (some false,()))else pure (ForInStep.yield (none,())))).run P w'= .ok ((if b then none else some false),()) w'
 | [],[],b,k,us,vs,h,_,_=>by
  simp [lJ]at h
  subst h
  simp
 |x::xs,y::ys,b,k,us,vs,h,hx,hy=>by
  simp only [lJ]at h
  split at h
  ·rename_i c hc
   split at h
   ·rename_i b' hb'
    injection h with h
    obtain⟨u,u1,u2⟩:=hx 0 x rfl
    obtain⟨v,v1,v2⟩:=hy 0 y rfl
    have hr:=oY (P:=P) hc u2 v2 hT rfl d w'
    have ih := rX hT ha d w' xs ys b' (k + 1) us vs hb' (λj x' h' => by
     obtain⟨q,q1,q2⟩:=hx (j+1) x' (by simpa using h')
     exact⟨q,by rw [<-q1];congr 1;omega,q2⟩) (λj x' h'=>by
     obtain⟨q,q1,q2⟩:=hy (j+1) x' (by simpa using h')
     exact⟨q,by rw [<-q1];congr 1;omega,q2⟩)
    simp only [Nat.add_zero]at u1 v1
    simp only [List.length_cons,List.range'_succ,List.forIn_cons,Sem.run_bind,fN hT,ha,Bool.false_eq_true,if_false,u1,v1,Result.andThen_ok,hr,Sem.run_ite]
    cases c
    ·simp at h
     subst h
     simp
    ·simp at h
     subst h
     simpa using ih
   ·cases h
  ·cases h
 | [],_::_,_,_,_,_,h,_,_=>by simp [lJ]at h
 |_::_,[],_,_,_,_,h,_,_=>by simp [lJ]at h
theorem mX {t e:TypeId}{n:Nat}{T:TI}{dd:TypeDesc}{i:TypeInfo}{z:Value}(ht:P.underlying t=some (.array n e)) (hT:TIok P e T dd i z) (h1:T.size=1) {d:Nat}{us vs:Array Value}{w':World}{b:Bool}
  (h : (forIn (m := Sem) (List.range' 0 n) ((none, ()) : Option Bool × Unit) (λi _ => do
    let x <-part e us i
    let y <-part e vs i
    let c <-Op.equalIn (d+1) e x y
    if (!c)=true then pure (ForInStep.done (some false,()))else pure (ForInStep.yield (none,())))).run P w'= .ok ((if b then none else some false),()) w'):
  (Op.equalIn (d+2) t (.agg us) (.agg vs)).run P w'= .ok b w':=by
 rw [Op.equalIn]
 simp only [Sem.run_bind,run_underlying ht,Result.andThen_ok,hT.run_size w',h1,Nat.mul_one]
 rw [Std.Legacy.Range.forIn_eq_forIn_range']
 simp only [Std.Legacy.Range.size,Nat.sub_zero,Nat.add_sub_cancel,Nat.div_one]
 first|rw [h]|erw [h]
 cases b<;>simp
theorem bZ {ti:TypeId->Option TI}(hti:cT P ti) {o:Oper}{t e:TypeId}{g m z:Nat}{y:Operand}(ho:o.op= .indexAddr t (.global g) y) {Ts T:TI}(hT:ti t=some Ts) (htd:Ts.td= .array m e) (hE:ti e=some T) {fr:Fr}{hp:Hp}{K:SV->Prop}{id:Nat}{rows:List (List D)}
  (hg:aJ hp id=some (.glob g z rows)) (hz:T.size=z) {k:IntKind} {n:Int} (hy:evO fr y=some (.d (.int k n))) (h0:0<=n) (h1:n.toNat < m) (hk:K (.ea z rows n.toNat 0)):cP P o fr hp K:=by
 intro E ρ a w hm hf
 have ei:=(aV hf hy).int_inv
 obtain⟨d0,i0,z0,hT0⟩:=aI (hti _ _ hT)
 obtain⟨d1,i1,z1,hE1⟩:=aI (hti _ _ hE)
 have hd:d0= .array m e:=by
  have:=hT0.td
  rw [htd]at this
  exact dZ this
 subst hd
 have hv:View w ρ.S z rows g 0:=hm.sat id _ hg
 have e1:a.eval (.global g)= .pointer (some ⟨g,0,none⟩):=rfl
 refine⟨.pointer (some (Addr.add ⟨g,0,none⟩ (n.toNat * T.size))),_,λw' _=> ?_, ?_,hk⟩
 ·have:=dE (P:=P) hT0.und hE1 w' ⟨g,0,none⟩ k n h0 h1
  simp [execOp,ho,e1,ei,this]
 ·rw [bN,hz]
  exact .ea z rows n.toNat 0 g 0 hv
end
end Go.Proofs.YtcomlapnibckmaaGreatDoor
namespace Go.Proofs.YtcomlapnibckmaaGreatDoor
open Go.RowKit
section
variable {P:Program}
end
end Go.Proofs.YtcomlapnibckmaaGreatDoor
namespace Go.Proofs.YtcomlapnibckmaaGreatDoor
open Go.Proofs
inductive Cn where
 |mk (kind:Int) (name:List UInt8) (lo hi:Int) (parts:List Cn)
def Cn.kind:Cn->Int| .mk k _ _ _ _=>k
def Cn.name:Cn->List UInt8| .mk _ n _ _ _=>n
def Cn.lo:Cn->Int| .mk _ _ l _ _=>l
def Cn.hi:Cn->Int| .mk _ _ _ h _=>h
def Cn.parts:Cn->List Cn| .mk _ _ _ _ p=>p
mutual
def cnR:Cn->List D
 | .mk k n lo hi ps=>[.int .i64 k, .str n, .int .i64 lo, .int .i64 hi, .sl 5 (aGw ps)]
def aGw:List Cn->List (List D)
 | []=>[]
 |c::r=>cnR c::aGw r
end
theorem vN: ∀l,aGw l=l.map cnR
 | []=>rfl
 |c::r=>by rw [aGw,vN r];rfl
theorem bL (c:Cn):cnR c=[.int .i64 c.kind, .str c.name, .int .i64 c.lo, .int .i64 c.hi, .sl 5 (c.parts.map cnR)]:=by
 cases c;rw [cnR,vN];rfl
def cv (c:Cn):D:= .agg (cnR c)
def cnl (l:List Cn):D:= .sl 5 (l.map cnR)
mutual
theorem Cn.ind {p:Cn->Prop}(h: ∀c,(∀q∈c.parts,p q)->p c): ∀c,p c
 | .mk k n lo hi ps=>h _ (Cn.indL h ps)
theorem Cn.indL {p:Cn->Prop}(h: ∀c,(∀q∈c.parts,p q)->p c): ∀(l:List Cn),∀q∈l,p q
 | []=>by simp
 |c::r=>by
  intro q hq
  rcases List.mem_cons.1 hq with e|e
  ·rw [e];exact Cn.ind h c
  ·exact Cn.indL h r q e
end
def pZ (s:List UInt8):List D:=[.str s]
def aF7 (l:List (List UInt8)):D:= .sl 1 (l.map pZ)
structure Ax where
 kind:Int
 isopen:Bool
 left:Cn
 right:Cn
 roles:List (List UInt8)
 role:List UInt8
 a:List UInt8
 b:List UInt8
def axR (x : Ax) : List D := [.int .i64 x.kind, .bool x.isopen, .int .i64 x.left.kind, .str x.left.name, .int .i64 x.left.lo, .int .i64 x.left.hi, cnl x.left.parts,
 .int .i64 x.right.kind, .str x.right.name, .int .i64 x.right.lo, .int .i64 x.right.hi,cnl x.right.parts,aF7 x.roles, .str x.role, .str x.a, .str x.b]
theorem aD6 {id:Nat}{pin:Pin}{fr0 fr:Fr}{hp:Hp}(h1: ∀k,100<=k->k∉pin) (h2: ∀k,100<=k->k∉dN fr0) (h4: ∀k,100<=k->k∉oI hp) (hid:100<=id) (h3:(dN fr).all (λk=>decide (k < 100))=true):gF id (pin.under fr0 (dN fr0)) fr hp:=by
 refine⟨?_, ?_,h4 id hid⟩
 ·simp [h1 id hid,h2 id hid]
 ·intro hm
  have:=List.all_eq_true.1 h3 id hm
  simp at this
  omega
theorem aEy {k0:Nat}{o:HObj}{hp:Hp}(h0:k0 < 100) (h1:o.ids=[]) (h2: ∀k,100<=k->k∉oI hp): ∀k,100<=k->k∉oI ((k0,o)::hp):=by
 intro k hk hm
 simp only [oI,List.flatMap_cons,List.mem_append,List.mem_cons,h1,List.not_mem_nil,or_false]at hm
 rcases hm with hm|hm
 ·omega
 ·exact h2 k hk hm
theorem aFc {pin:Pin}{fr0:Fr}(h1: ∀k,100<=k->k∉pin) (h2: ∀k,100<=k->k∉dN fr0): ∀k,100<=k->k∉pin.under fr0 (dN fr0):=by
 intro k hk;simp [h1 k hk,h2 k hk]
theorem aGy {fr:Fr}(h3:(dN fr).all (λk=>decide (k < 100))=true): ∀k,100<=k->k∉dN fr:=by
 intro k hk hm
 have:=List.all_eq_true.1 h3 k hm
 simp at this
 omega
theorem cC {α:Type}{f:α->List D}{l:List α}{i:Nat}(h:i < l.length):(l.map f)[((i:Nat):Int).toNat]? =some (f l[i]):=by
 rw [Int.toNat_natCast,List.getElem?_map,List.getElem?_eq_getElem h];rfl
end Go.Proofs.YtcomlapnibckmaaGreatDoor
