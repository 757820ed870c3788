/-
  Rows known cell by cell: slices of them, copy, append of zero values; and back to rows. Arrays of numbers: are two equal? And a row of a package-level array. Rows known cell by cell: at a call's begin and end. Terms: concepts and axioms as data. Terms: the limits of a concept: fits. Terms: the fields of a concept: checkFields. Terms: the concepts within a concept, one after another: visit and walk. Terms: CheckConcept, Size, Depth. Terms: Size, Depth, isBare, isEmpty. Terms: isBare, isEmpty. Terms: the shape and the names of an axiom.
  Conditions: none.
-/
import Derived.Test.YtfhoddcminbffaaGreatDoorMSna
import Derived.Lib.AppendZerosOnto
set_option linter.unusedSectionVars false
set_option linter.unusedSimpArgs false
set_option linter.unusedVariables false
set_option maxHeartbeats 8000000
namespace Go.Proofs.YtfhoddcminbffaaGreatDoor
open Go.RowKit
section
variable {P:Program}
def slT (ti:TypeId->Option TI) (t:TypeId):Option (TypeId×TI):=
 match ti t with
 |some { td:= .slice e, .. }=>(match ti e with|some T=>some (e,T)|none=>none)
 |_=>none
theorem aLm {ti:TypeId->Option TI}(hti:fD P ti) {t e:TypeId}{T:TI}(h:slT ti t=some (e,T)):P.underlying t=some (.slice e)/\ ∃d i z,TIok P e T d i z:=by
 unfold slT at h
 split at h
 ·rename_i e' _ _ _ hT
  obtain⟨d,i,z,hT⟩:=aP (hti _ _ hT)
  have hd:=bZ hT.td
  subst hd
  split at h
  ·rename_i T' hT2
   simp only [Option.some.injEq,Prod.mk.injEq]at h
   obtain⟨rfl,rfl⟩:=h
   exact⟨hT.und,aP (hti _ _ hT2)⟩
  ·cases h
 ·cases h
theorem aLl {ti:TypeId->Option TI}(hti:fD P ti) {o:Oper}{t e:TypeId}{T:TI}{x:Operand}{lo hi:Option Operand}(ho:o.op= .slice t x lo hi none) (hT:slT ti t=some (e,T)) {a:Act}{A:Option Addr}{len cap a' b m':Nat}
  (e1:a.eval x= .slice A len cap) {w':World} (e2:(Instr.sliceBounds true len cap (lo.map a.eval) (hi.map a.eval) none).run P w'= .ok (a',b,m') w'):
  (execOp a.eval o).run P w'= .ok (.value (.slice (if m'=a' then A else A.map (·.add (a' * T.size))) (b - a') (m' - a'))) w':=by
 obtain⟨hu,d,i,z,hT2⟩:=aLm hti hT
 simp [execOp,ho,Instr.sliceAt,run_underlying hu,Instr.slice,e1,e2,hT2.run_size]
end
end Go.Proofs.YtfhoddcminbffaaGreatDoor
namespace Go.Proofs.YtfhoddcminbffaaGreatDoor
open Go.RowKit
section
variable {P:Program}
theorem cZ {ti:TypeId->Option TI}(hti:fD P ti) {o:Oper}{t e:TypeId}{g m z:Nat}{y:Operand}(ho:o.op= .indexAddr t (.global g) y) {Ts T:TI}(hT:ti t=some Ts) (htd:Ts.td= .array m e) (hE:ti e=some T) {fr:Fr}{hp:Hp}{K:SV->Prop}{id:Nat}{rows:List (List D)}
  (hg:aU hp id=some (.glob g z rows)) (hz:T.size=z) {k:IntKind} {n:Int} (hy:evO fr y=some (.d (.int k n))) (h0:0<=n) (h1:n.toNat < m) (hk:K (.ea z rows n.toNat 0)):dI P o fr hp K:=by
 intro E ρ a w hm hf
 have ei:=(aV hf hy).int_inv
 obtain⟨d0,i0,z0,hT0⟩:=aP (hti _ _ hT)
 obtain⟨d1,i1,z1,hE1⟩:=aP (hti _ _ hE)
 have hd:d0= .array m e:=by
  have:=hT0.td
  rw [htd]at this
  exact kU this
 subst hd
 have hv:View w ρ.S z rows g 0:=hm.sat id _ hg
 have e1:a.eval (.global g)= .pointer (some ⟨g,0,none⟩):=rfl
 refine⟨.pointer (some (Addr.add ⟨g,0,none⟩ (n.toNat * T.size))),_,λw' _=> ?_, ?_,hk⟩
 ·have:=gP (P:=P) hT0.und hE1 w' ⟨g,0,none⟩ k n h0 h1
  simp [execOp,ho,e1,ei,this]
 ·rw [cN,hz]
  exact .ea z rows n.toNat 0 g 0 hv
theorem aB8 {o:Oper}{x y:Operand}{ts:Array TypeId}(ho:o.op= .call { callee:= .builtin .max,args:= #[x,y],argTypes:=ts }) {pin:List Nat}{fr:Fr}{hp:Hp}{K:SV->Hp->Prop}{k k':IntKind}{a b:Int}
  (hx:evO fr x=some (.d (.int k a))) (hy:evO fr y=some (.d (.int k' b))) (hk:K (.d (.int k (max a b))) hp):bI P o pin fr hp K:=by
 intro E ρ ac w _ hm hf next Q hn
 have e1:=(aV hf hx).int_inv
 have e2:=(aV hf hy).int_inv
 have hrun:(execOp ac.eval o).run P w= .ok (.value (.int k (max a b))) w:=by
  have:(if b >a then b else a)=max a b:=by omega
  simp [aR ho,builtin,Builtin.max_,Builtin.max2,e1,e2,this]
 exact cD hrun (hn _ _ ρ _ _ hk hm hf (.d _ _ (.int _ _)))
theorem aM.mownC {C:Cfg}{c:Code}{fr:Fr}{hp:Hp}{K:Ex->Fr->Hp->Prop}(i id t e z k:Nat) {cs:List SV}(hnil:aU hp i=some (.cells t cs)) (hk:cs[k]? =some (.d .nil)) (hfr:fX id C.pin fr hp)
  (h:aM C c fr ((id, .mrow e z 0 [])::hY hp i (.cells t (cs.set k (.mw id z 0)))) K):aM C c fr hp K:=by
 intro E a w hpin hrd hsat
 obtain⟨h1,h2,ρ,h3,h4⟩:=hsat
 obtain⟨f1,f2,f3⟩:=hfr
 obtain⟨m1,m2,m3⟩:=h3.newMrow (id:=id) (e:=e) (z:=z) (cap:=0) (rows:=[]) (v:= .slice none 0 0) f3 (by rw [hpin];exact f1) (Grew.refl w) (.inl ⟨rfl,rfl,none,rfl⟩) (λg hg=>by simp [fM]at hg)
 have hne:i≠id:= λe=>f3 (by subst e;exact bQ hnil (.inl rfl))
 have hi':aU ((id,HObj.mrow e z 0 [])::hp) i=some (.cells t cs):=by
  simp only [aU];rw [if_neg (Ne.symm hne)];exact hnil
 have hkl:k < cs.length:=(List.getElem?_eq_some_iff.1 hk).1
 have m4 := m1.recell hi' (cs' := cs.set k (.mw id z 0)) (by simp) (λj s' v hs' hv => by
  by_cases e:j=k
  ·subst e
   rw [List.getElem?_set_self hkl]at hs'
   injection hs' with hs'
   subst hs'
   have:=(hv _ hk).nil_inv
   subst this
   exact .mw id z 0 0 none (by simp) (by simp) (λh=>absurd rfl h) (by simp) (by simp [Env.retop])
  ·rw [List.getElem?_set_ne (Ne.symm e)]at hs'
   exact hv _ hs')
 have e2:hY ((id,HObj.mrow e z 0 [])::hp) i (.cells t (cs.set k (.mw id z 0)))=(id, .mrow e z 0 [])::hY hp i (.cells t (cs.set k (.mw id z 0))):=by
  simp only [hY];rw [if_neg (Ne.symm hne)]
 rw [e2]at m4
 exact h E a w hpin hrd ⟨h1,h2,_,m4,h4.mono (ρ':=ρ.retop id 0 (.slice none 0 0)) m2 (λ_ _ x=>x) λj hj=>m3 j λe=>f2 (e ▸ hj)⟩
end
end Go.Proofs.YtfhoddcminbffaaGreatDoor
namespace Go.Proofs.YtfhoddcminbffaaGreatDoor
open Go.RowKit
section
variable {P:Program}
end
end Go.Proofs.YtfhoddcminbffaaGreatDoor
namespace Go.Proofs.YtfhoddcminbffaaGreatDoor
open Go.Proofs
inductive Cn where
 |mk (kind:Int) (name:List UInt8) (lo hi:Int) (parts:List Cn)
def Cn.kind:Cn->Int| .mk k _ _ _ _=>k
def Cn.name:Cn->List UInt8| .mk _ n _ _ _=>n
def Cn.lo:Cn->Int| .mk _ _ l _ _=>l
def Cn.hi:Cn->Int| .mk _ _ _ h _=>h
def Cn.parts:Cn->List Cn| .mk _ _ _ _ p=>p
mutual
def cnR:Cn->List D
 | .mk k n lo hi ps=>[.int .i64 k, .str n, .int .i64 lo, .int .i64 hi, .sl 5 (aTu ps)]
def aTu:List Cn->List (List D)
 | []=>[]
 |c::r=>cnR c::aTu r
end
theorem aBk: ∀l,aTu l=l.map cnR
 | []=>rfl
 |c::r=>by rw [aTu,aBk r];rfl
theorem aL (c:Cn):cnR c=[.int .i64 c.kind, .str c.name, .int .i64 c.lo, .int .i64 c.hi, .sl 5 (c.parts.map cnR)]:=by
 cases c;rw [cnR,aBk];rfl
def cv (c:Cn):D:= .agg (cnR c)
def cnl (l:List Cn):D:= .sl 5 (l.map cnR)
mutual
theorem Cn.ind {p:Cn->Prop}(h: ∀c,(∀q∈c.parts,p q)->p c): ∀c,p c
 | .mk k n lo hi ps=>h _ (Cn.indL h ps)
theorem Cn.indL {p:Cn->Prop}(h: ∀c,(∀q∈c.parts,p q)->p c): ∀(l:List Cn),∀q∈l,p q
 | []=>by simp
 |c::r=>by
  intro q hq
  rcases List.mem_cons.1 hq with e|e
  ·rw [e];exact Cn.ind h c
  ·exact Cn.indL h r q e
end
def bN (s:List UInt8):List D:=[.str s]
def aOx (l:List (List UInt8)):D:= .sl 1 (l.map bN)
structure Ax where
 kind:Int
 isopen:Bool
 left:Cn
 right:Cn
 roles:List (List UInt8)
 role:List UInt8
 a:List UInt8
 b:List UInt8
def axR (x : Ax) : List D := [.int .i64 x.kind, .bool x.isopen, .int .i64 x.left.kind, .str x.left.name, .int .i64 x.left.lo, .int .i64 x.left.hi, cnl x.left.parts,
 .int .i64 x.right.kind, .str x.right.name, .int .i64 x.right.lo, .int .i64 x.right.hi,cnl x.right.parts,aOx x.roles, .str x.role, .str x.a, .str x.b]
theorem aQu {id:Nat}{pin:List Nat}{fr0 fr:Fr}{hp:Hp}(h1: ∀k,100<=k->k∉pin) (h2: ∀k,100<=k->k∉fV fr0) (h4: ∀k,100<=k->k∉gG hp) (hid:100<=id) (h3:(fV fr).all (λk=>decide (k < 100))=true):fX id (pin++fV fr0) fr hp:=by
 refine⟨?_, ?_,h4 id hid⟩
 ·simp [h1 id hid,h2 id hid]
 ·intro hm
  have:=List.all_eq_true.1 h3 id hm
  simp at this
  omega
theorem aQe {k0:Nat}{o:HObj}{hp:Hp}(h0:k0 < 100) (h1:o.ids=[]) (h2: ∀k,100<=k->k∉gG hp): ∀k,100<=k->k∉gG ((k0,o)::hp):=by
 intro k hk hm
 simp only [gG,List.flatMap_cons,List.mem_append,List.mem_cons,h1,List.not_mem_nil,or_false]at hm
 rcases hm with hm|hm
 ·omega
 ·exact h2 k hk hm
theorem aSz {pin:List Nat}{fr0:Fr}(h1: ∀k,100<=k->k∉pin) (h2: ∀k,100<=k->k∉fV fr0): ∀k,100<=k->k∉pin++fV fr0:=by
 intro k hk;simp [h1 k hk,h2 k hk]
theorem aT0 {fr:Fr}(h3:(fV fr).all (λk=>decide (k < 100))=true): ∀k,100<=k->k∉fV fr:=by
 intro k hk hm
 have:=List.all_eq_true.1 h3 k hm
 simp at this
 omega
theorem bC {α:Type}{f:α->List D}{l:List α}{i:Nat}(h:i < l.length):(l.map f)[((i:Nat):Int).toNat]? =some (f l[i]):=by
 rw [Int.toNat_natCast,List.getElem?_map,List.getElem?_eq_getElem h];rfl
end Go.Proofs.YtfhoddcminbffaaGreatDoor
namespace Go.Proofs.YtfhoddcminbffaaGreatDoor
open Go.Proofs
set_option maxRecDepth 10000
attribute [local irreducible] aM aJ Tri aH YVC dI bI
mutual
def fF:Cn->Int->Int->Bool×Int
 | .mk _ _ _ _ ps,d,n=>if 8 < d\/64 < n+1 then (false,n+1)else gH ps d (n+1)
def gH:List Cn->Int->Int->Bool×Int
 | [],_,n=>(true,n)
 |c::r,d,n=>if (fF c (d+1) n).1=true then gH r d (fF c (d+1) n).2 else (false,(fF c (d+1) n).2)
end
theorem aHs (c:Cn) (d n:Int):fF c d n=if 8 < d\/64 < n+1 then (false,n+1)else gH c.parts d (n+1):=by
 cases c;rw [fF];rfl
mutual
theorem aDc: ∀(c:Cn) (d n:Int),0<=n->n<=64->0<=(fF c d n).2/\(fF c d n).2<=65/\((fF c d n).1=true->(fF c d n).2<=64)
 | .mk _ _ _ _ ps,d,n,h0,h1=>by
  rw [fF]
  split
  ·exact⟨by simp only;omega,by simp only;omega,by simp⟩
  ·exact qC ps d (n+1) (by omega) (by omega)
theorem qC: ∀(l:List Cn) (d n:Int),0<=n->n<=64->0<=(gH l d n).2/\(gH l d n).2<=65/\((gH l d n).1=true->(gH l d n).2<=64)
 | [],d,n,h0,h1=>by rw [gH];exact⟨h0,by simp only;omega,λ_=>h1⟩
 |c::r,d,n,h0,h1=>by
  have h:=aDc c (d+1) n h0 h1
  rw [gH]
  split
  ·rename_i hb
   exact qC r d _ h.1 (h.2.2 hb)
  ·exact⟨h.1,h.2.1,by simp⟩
end
theorem aNj: ∀(c:Cn) (d n:Int) (hp0:Hp) {pin:List Nat}{fr:Fr}{K:SV->Hp->Prop}(_:0<=d/\d<=9) (_:0<=n/\n<=64) (_: ∀k,100<=k->k∉pin) (_: ∀k,100<=k->k∉fV fr) (_: ∀k,100<=k->k∉gG hp0)
  (_:K (.d (.bool (fF c d n).1)) ((3, .cells 3 [.d (.int .i64 (fF c d n).2)])::hp0)),
  aJ Tryz.prog pin fr ((3, .cells 3 [.d (.int .i64 n)])::hp0) 125 [.d (.agg (cnR c)), .d (.int .i64 d), .ptr 3 0] K:=by
 refine Cn.ind ?_
 intro c ih d n hp0 pin fr K hd hn hp hf hh hk
 rw [aL]
 rw [aHs]at hk
 refine bE false [3,8] hty Tryz.func125 rfl (kp [0,1,2,3,6,8,21,23,24,25,26,34]) 100 (by simp [Tryz.f125]) ?_
 ((conv=>whnf);repeat' ((first|(intro hq;(try simp only [lnS]at hq);(try rewrite [List.length_map]))|refine sJ ?_|refine .intro _ (.intro rfl ?_)|refine exL (k:= ?_)|(refine And.intro (aQu hp hf (aQe (by decide) (by with_unfolding_all exact rfl) hh) (Nat.le_of_ble_eq_true rfl) (by with_unfolding_all exact rfl)) ?_)|(refine And.intro (aQe (by decide) (by with_unfolding_all exact rfl) hh _ (Nat.le_of_ble_eq_true rfl)) ?_)|refine dwR ?_|((first|refine aB ?_ ?_|refine aC ?_ ?_)<;>intro hb<;>(first|exact ddX hb|try simp only [lnS]at hb))|(refine aA ?_ ?_<;>intro hb<;>try exact dsX hb))<;>(conv=>whnf)))
 ·rw [if_pos (.inl (by assumption))]at hk
  exact hk
 ·rw [if_pos (.inr (by assumption))]at hk
  exact hk
 ·rw [if_neg (by omega)]at hk
  have hb0:=qC c.parts d (n+1) (by omega) (by omega)
  refine dE hty (λy:Nat×Int=>([(1, .d (.int .i64 d)),(2, .ptr 3 0),(23, .d (.sl 5 (c.parts.map cnR))),(24, .d (.int .i64 c.parts.length)),(25, .d (.int .i64 y.1))],(3, .cells 3 [.d (.int .i64 y.2)])::hp0)) (λy=>y.1<=c.parts.length/\(0<=y.2/\y.2<=64)/\gH c.parts d (n+1)=gH (c.parts.drop y.1) d y.2) (λy=>c.parts.length - y.1) (0,n+1) ⟨by omega,by dsimp only;omega,by simp⟩ (by repeat' (first|exact trivial|exact rfl|(rw [List.length_map];exact rfl)|refine And.intro ?_ ?_)) rfl ?_
  rintro⟨j,m⟩ ⟨hj,hm,he⟩
  dsimp only at hj hm he
  ((conv=>whnf);repeat ((first|(intro hq;try simp only [lnS]at hq)|refine sI ?_|refine .intro _ (.intro rfl ?_));(conv=>whnf)))
  refine aB (λh1=> ?_) (λh1=> ?_)
  ·have hjl:j < c.parts.length:=by omega
   have hrow:(c.parts.map cnR)[(j:Int).toNat]? =some (cnR c.parts[j]):=bC hjl
   have hrow':=hrow
   rw [aL]at hrow'
   rw [List.drop_eq_getElem_cons hjl,gH]at he
   have hbm:=aDc c.parts[j] (d+1) m hm.1 hm.2
   ((conv=>whnf);repeat' ((first|(intro hq;(try simp only [lnS]at hq);(try rewrite [List.length_map]))|refine sJ ?_|refine .intro _ (.intro rfl ?_)|refine exL (k:= ?_)|(refine And.intro (aQu hp hf (aQe (by decide) (by with_unfolding_all exact rfl) hh) (Nat.le_of_ble_eq_true rfl) (by with_unfolding_all exact rfl)) ?_)|(refine And.intro (aQe (by decide) (by with_unfolding_all exact rfl) hh _ (Nat.le_of_ble_eq_true rfl)) ?_)|(refine⟨_,hrow', ?_⟩)|refine dwR ?_|((first|refine aB ?_ ?_|refine aC ?_ ?_)<;>intro hb<;>(first|exact ddX hb|try simp only [lnS]at hb))|(refine aA ?_ ?_<;>intro hb<;>try exact dsX hb))<;>(conv=>whnf)))
   have ih':= @ih c.parts[j] (List.getElem_mem hjl) (d+1) m hp0
   rw [aL]at ih'
   refine ih' (by omega) hm (aSz hp hf) (aT0 (by with_unfolding_all exact rfl)) hh ?_
   cases hbv:(fF c.parts[j] (d+1) m).1
   ·rw [hbv,if_neg (by decide)]at he
    rw [he]at hk
    ((conv=>whnf);repeat' ((first|(intro hq;(try simp only [lnS]at hq);(try rewrite [List.length_map]))|refine sJ ?_|refine .intro _ (.intro rfl ?_)|refine exL (k:= ?_)|refine dwR ?_|((first|refine aB ?_ ?_|refine aC ?_ ?_)<;>intro hb<;>(first|exact ddX hb|try simp only [lnS]at hb))|(refine aA ?_ ?_<;>intro hb<;>try exact dsX hb))<;>(conv=>whnf)))
    exact hk
   ·rw [hbv,if_pos rfl]at he
    ((conv=>whnf);repeat' ((first|(intro hq;(try simp only [lnS]at hq);(try rewrite [List.length_map]))|refine sJ ?_|refine .intro _ (.intro rfl ?_)|refine exL (k:= ?_)|refine dwR ?_|((first|refine aB ?_ ?_|refine aC ?_ ?_)<;>intro hb<;>(first|exact ddX hb|try simp only [lnS]at hb))|(refine aA ?_ ?_<;>intro hb<;>try exact dsX hb))<;>(conv=>whnf)))
    exact⟨(j+1,(fF c.parts[j] (d+1) m).2),⟨by dsimp only;omega,⟨hbm.1,hbm.2.2 hbv⟩,he⟩,by dsimp only;omega,by repeat' (first|exact trivial|exact rfl|refine And.intro ?_ ?_),rfl⟩
  ·have hjl:j=c.parts.length:=by dsimp only at h1;omega
   subst hjl
   rw [List.drop_length,gH]at he
   rw [he]at hk
   ((conv=>whnf);repeat' ((first|(intro hq;(try simp only [lnS]at hq);(try rewrite [List.length_map]))|refine sJ ?_|refine .intro _ (.intro rfl ?_)|refine exL (k:= ?_)|refine dwR ?_|((first|refine aB ?_ ?_|refine aC ?_ ?_)<;>intro hb<;>(first|exact ddX hb|try simp only [lnS]at hb))|(refine aA ?_ ?_<;>intro hb<;>try exact dsX hb))<;>(conv=>whnf)))
   exact hk
end Go.Proofs.YtfhoddcminbffaaGreatDoor
namespace Go.Proofs.YtfhoddcminbffaaGreatDoor
open Go.Proofs
set_option maxRecDepth 10000
attribute [local irreducible] aM aJ Tri aH YVC dI bI
structure Need where
 name:Int
 least:Int
 most:Int
 nums:Bool
def aMq:List Need:=[⟨0,0,0,false⟩,⟨0,0,0,false⟩,⟨0,0,0,false⟩,⟨1,0,0,false⟩,⟨2,0,0,false⟩,⟨0,2,8,false⟩,⟨1,1,1,false⟩,⟨1,0,0,true⟩]
def aPq (n:Need):List D:=[.int .i64 n.name, .int .i64 n.least, .int .i64 n.most, .bool n.nums]
structure Use where
 left:Bool
 right:Bool
 role:Bool
 a:Bool
 b:Bool
 least:Int
 most:Int
def jF : List Use := [⟨false, false, false, false, false, 0, 0⟩, ⟨true, true, false, false, false, 0, 0⟩, ⟨true, true, false, false, false, 0, 0⟩, ⟨true, true, false, false, false, 0, 0⟩, ⟨false, true, true, false, false, 0, 0⟩,
 ⟨false,false,true,false,false,1,1⟩,⟨false,false,true,false,false,2,4⟩,⟨false,false,true,false,false,0,0⟩,⟨false,true,false,true,false,0,0⟩,⟨false,false,true,true,true,0,0⟩]
def aRd (u:Use):List D:=[.bool u.left, .bool u.right, .bool u.role, .bool u.a, .bool u.b, .int .i64 u.least, .int .i64 u.most]
def NG:Hp:=[(90, .glob 1 4 (aMq.map aPq)),(91, .glob 0 7 (jF.map aRd))]
def fH (k:Int):Need:=aMq.getD k.toNat ⟨0,0,0,false⟩
def bX (k:Int):Use:=jF.getD k.toNat ⟨false,false,false,false,false,0,0⟩
theorem aPp {k:Int}(h:1<=k/\k<=7):(aMq.map aPq)[k.toNat]? =some (aPq (fH k)):=by
 have hl:k.toNat < aMq.length:=by show k.toNat < 8;omega
 rw [List.getElem?_map,List.getElem?_eq_getElem hl,fH,List.getD,List.getElem?_eq_getElem hl];rfl
theorem aL2 {k:Int}(h:1<=k/\k<=9):(jF.map aRd)[k.toNat]? =some (aRd (bX k)):=by
 have hl:k.toNat < jF.length:=by show k.toNat < 10;omega
 rw [List.getElem?_map,List.getElem?_eq_getElem hl,bX,List.getD,List.getElem?_eq_getElem hl];rfl
def aFh (n:Need) (s:List UInt8):Int:=if n.name=0\/cF s=true\/(n.name=2/\aC7 s=true)then 0 else 20
def iC (n:Need) (c:Cn):Int:=
 if (c.parts.length:Int) < n.least\/n.most < c.parts.length\/(n.name=0/\c.name≠[])then 21
 else if n.nums=true then (if c.lo < -1099511627776\/c.hi < c.lo\/1099511627776 < c.hi then 21 else aFh n c.name)
 else (if c.lo≠0\/c.hi≠0 then 21 else aFh n c.name)
def bM (c:Cn):Int:=if c.kind < 1\/7 < c.kind then 21 else iC (fH c.kind) c
theorem cC {a b:Int}(h:a=b):SV.d (.int .i64 a)=SV.d (.int .i64 b):=by rw [h]
theorem tA (c:Cn):Tri Tryz.prog 127 [.d (.agg (cnR c))] NG (λr=>r= .d (.int .i64 (bM c))):=by
 rw [aL]
 refine aF false [] hty Tryz.func127 rfl (kp [0,1,2,3,11,39,41,56,64,82]) [] _ _ _ (by simp [Tryz.f127]) (by decide) ?_
 ((conv=>whnf);repeat ((first|(intro hq;try simp only [lnS]at hq)|refine sI ?_|refine .intro _ (.intro rfl ?_));(conv=>whnf)))
 refine aB (λh1=> ?_) (λh1=> ?_)
 ·((conv=>whnf);repeat' ((first|(intro hq;(try simp only [lnS]at hq);(try rewrite [List.length_map]))|refine sJ ?_|refine .intro _ (.intro rfl ?_)|refine exL (k:= ?_)|refine dwR ?_|((first|refine aB ?_ ?_|refine aC ?_ ?_)<;>intro hb<;>(first|exact ddX hb|try simp only [lnS]at hb))|(refine aA ?_ ?_<;>intro hb<;>try exact dsX hb))<;>(conv=>whnf)))
  exact cC (by rw [bM,if_pos (.inl h1)])
 ·((conv=>whnf);repeat ((first|(intro hq;try simp only [lnS]at hq)|refine sI ?_|refine .intro _ (.intro rfl ?_));(conv=>whnf)))
  refine aB (λh2=> ?_) (λh2=> ?_)
  ·((conv=>whnf);repeat' ((first|(intro hq;(try simp only [lnS]at hq);(try rewrite [List.length_map]))|refine sJ ?_|refine .intro _ (.intro rfl ?_)|refine exL (k:= ?_)|refine dwR ?_|((first|refine aB ?_ ?_|refine aC ?_ ?_)<;>intro hb<;>(first|exact ddX hb|try simp only [lnS]at hb))|(refine aA ?_ ?_<;>intro hb<;>try exact dsX hb))<;>(conv=>whnf)))
   exact cC (by rw [bM,if_pos (.inr h2)])
  ·have hE:bM c=iC (fH c.kind) c:=by rw [bM,if_neg (by omega)]
   rw [hE]
   have hrow:=aPp (k:=c.kind) (by omega)
   generalize fH c.kind=n at hrow
   clear hE
   ((conv=>whnf);repeat' ((first|(intro hq;(try simp only [lnS]at hq);(try rewrite [List.length_map]))|refine sJ ?_|refine .intro _ (.intro rfl ?_)|refine exL (k:= ?_)|(refine cZ (id:=90) hty rfl rfl rfl rfl rfl rfl rfl (by omega) (by omega) ?_)|(refine⟨_,hrow, ?_⟩)|(refine aD [] (jM _) trivial (λr hs=> ?_);subst hs)|(refine aD [] (mP _) trivial (λr hs=> ?_);subst hs)|refine dwR ?_|((first|refine aB ?_ ?_|refine aC ?_ ?_)<;>intro hb<;>(first|exact ddX hb|try simp only [lnS]at hb))|(refine aA ?_ ?_<;>intro hb<;>try exact dsX hb))<;>(conv=>whnf)))
   all_goals (
    refine cC (Eq.symm ?_)
    unfold iC
    first
    |(rw [if_pos (by first|exact .inl (by assumption)|exact .inr (.inl (by assumption))|exact .inr (.inr ⟨by assumption,by assumption⟩))])
    | (rw [if_neg (by simp_all)]
       first
       | (rw [if_pos (by assumption)]
          first
          |(rw [if_pos (by omega)])
          |(rw [if_neg (by omega)];unfold aFh;simp_all))
       | (rw [if_neg (by simp_all)]
          first
          |(rw [if_pos (by omega)])
          |(rw [if_neg (by omega)];unfold aFh;simp_all))))
end Go.Proofs.YtfhoddcminbffaaGreatDoor
namespace Go.Proofs.YtfhoddcminbffaaGreatDoor
open Go.Proofs
set_option maxRecDepth 10000
attribute [local irreducible] aM aJ Tri aH YVC dI bI
mutual
def fT:Cn->List Cn
 | .mk k n lo hi ps=> .mk k n lo hi ps::aZ ps
def aZ:List Cn->List Cn
 | []=>[]
 |c::r=>fT c++aZ r
end
theorem fS (c:Cn):fT c=c::aZ c.parts:=by cases c;rw [fT];rfl
theorem dR: ∀(l m:List Cn),aZ (l++m)=aZ l++aZ m
 | [],m=>by simp [aZ]
 |c::l,m=>by simp [aZ,dR l m]
theorem uY {l:List Cn}{j:Nat}(h:j < l.length):aZ (l.take (j+1))=aZ (l.take j)++fT l[j]:=by
 rw [List.take_succ_eq_append_getElem h,dR];simp [aZ]
structure Rounds (all:List Cn) (lid:Nat) (Cont:List Cn->Hp->Prop) (Stop:Hp->Prop):Prop where
 big: ∀done hp,Cont done hp-> ∀k,100<=k->k∉gG hp
 step: ∀(done:List Cn) (x:Cn) (hp:Hp) (pin:List Nat) (fr:Fr) (K:SV->Hp->Prop),Cont done hp->(∃rest,done++x::rest=all)->(∀k,100<=k->k∉pin)->(∀k,100<=k->k∉fV fr)->
  (∀hp',Cont (done++[x]) hp'->K (.d (.bool true)) hp')->(∀hp',Stop hp'->K (.d (.bool false)) hp')->YVC Tryz.prog pin fr hp lid [.d (.agg (cnR x))] K
theorem aVq {lid:Nat}(hlid:lid < 100): ∀fr:Fr,fV fr=[lid]\/fV fr=[lid,lid]\/fV fr=[lid,lid,lid]-> ∀k,100<=k->k∉fV fr:=by
 intro fr h k hk hm
 rcases h with h|h|h<;>rw [h]at hm<;>simp at hm<;>omega
theorem aIi {all:List Cn}{lid:Nat}(hlid:lid < 100) {Cont:List Cn->Hp->Prop}{Stop:Hp->Prop}(R:Rounds all lid Cont Stop): ∀(c:Cn) (done:List Cn) (hp:Hp) {pin:List Nat}{fr:Fr}{K:SV->Hp->Prop}(_:Cont done hp) (_: ∃rest,done++(fT c++rest)=all) (_: ∀k,100<=k->k∉pin) (_: ∀k,100<=k->k∉fV fr)
  (_: ∀hp',Cont (done++fT c) hp'->K (.d (.bool true)) hp') (_: ∀hp',Stop hp'->K (.d (.bool false)) hp'),aJ Tryz.prog pin fr hp 161 [.d (.agg (cnR c)), .yld lid] K:=by
 refine Cn.ind ?_
 intro c ih done hp pin fr K hC hA hp1 hf hk1 hk2
 have hh:=R.big _ _ hC
 have hlidF:=aVq hlid
 have hcR:=aL c
 rw [hcR]
 refine bE false [2,6] hty Tryz.func161 rfl (kp [0,1,2,4,6,10,12,13,14,15,21]) 100 (by simp [Tryz.f161]) ?_
 ((conv=>whnf);repeat' ((first|(intro hq;(try simp only [lnS]at hq);(try rewrite [List.length_map]))|refine sJ ?_|refine .intro _ (.intro rfl ?_)|refine exL (k:= ?_)|(refine And.intro ⟨aSz hp1 hf _ (Nat.le_of_ble_eq_true rfl),hlidF _ (by with_unfolding_all first|exact .inl rfl|exact .inr (.inl rfl)|exact .inr (.inr rfl)) _ (Nat.le_of_ble_eq_true rfl),hh _ (Nat.le_of_ble_eq_true rfl)⟩ ?_)|(refine And.intro (hh _ (Nat.le_of_ble_eq_true rfl)) ?_)|refine dwR ?_|((first|refine aB ?_ ?_|refine aC ?_ ?_)<;>intro hb<;>(first|exact ddX hb|try simp only [lnS]at hb))|(refine aA ?_ ?_<;>intro hb<;>try exact dsX hb))<;>(conv=>whnf)))
 obtain⟨rest,hA⟩:=hA
 rw [fS]at hA
 have st:= λpin fr K=>R.step done c hp pin fr K hC ⟨aZ c.parts++rest,by simpa using hA⟩
 simp only [hcR]at st
 refine st _ _ _ (aSz hp1 hf) (hlidF _ (by with_unfolding_all first|exact .inl rfl|exact .inr (.inl rfl)|exact .inr (.inr rfl))) (λhp2 hC2=> ?_) (λhp2 hS2=> ?_)
 ·((conv=>whnf);repeat' ((first|(intro hq;(try simp only [lnS]at hq);(try rewrite [List.length_map]))|refine sJ ?_|refine .intro _ (.intro rfl ?_)|refine exL (k:= ?_)|refine dwR ?_|((first|refine aB ?_ ?_|refine aC ?_ ?_)<;>intro hb<;>(first|exact ddX hb|try simp only [lnS]at hb))|(refine aA ?_ ?_<;>intro hb<;>try exact dsX hb))<;>(conv=>whnf)))
  refine dE hty (λy:Nat×Hp=>([(1, .yld lid),(12, .d (.sl 5 (c.parts.map cnR))),(13, .d (.int .i64 c.parts.length)),(14, .d (.int .i64 y.1))],y.2)) (λy=>y.1<=c.parts.length/\Cont (done++c::aZ (c.parts.take y.1)) y.2) (λy=>c.parts.length - y.1) (0,hp2) ⟨by omega,by simpa [aZ]using hC2⟩ (by repeat' (first|exact trivial|exact rfl|(rw [List.length_map];exact rfl)|refine And.intro ?_ ?_)) rfl ?_
  rintro⟨j,hp3⟩ ⟨hj,hC3⟩
  dsimp only at hj hC3
  have hh3:=R.big _ _ hC3
  ((conv=>whnf);repeat ((first|(intro hq;try simp only [lnS]at hq)|refine sI ?_|refine .intro _ (.intro rfl ?_));(conv=>whnf)))
  refine aB (λh1=> ?_) (λh1=> ?_)
  ·have hjl:j < c.parts.length:=by omega
   have hrow:(c.parts.map cnR)[(j:Int).toNat]? =some (cnR c.parts[j]):=bC hjl
   have hrow':=hrow
   rw [aL]at hrow'
   ((conv=>whnf);repeat' ((first|(intro hq;(try simp only [lnS]at hq);(try rewrite [List.length_map]))|refine sJ ?_|refine .intro _ (.intro rfl ?_)|refine exL (k:= ?_)|(refine And.intro ⟨aSz hp1 hf _ (Nat.le_of_ble_eq_true rfl),hlidF _ (by with_unfolding_all first|exact .inl rfl|exact .inr (.inl rfl)|exact .inr (.inr rfl)) _ (Nat.le_of_ble_eq_true rfl),hh3 _ (Nat.le_of_ble_eq_true rfl)⟩ ?_)|(refine And.intro (hh3 _ (Nat.le_of_ble_eq_true rfl)) ?_)|(refine⟨_,hrow', ?_⟩)|refine dwR ?_|((first|refine aB ?_ ?_|refine aC ?_ ?_)<;>intro hb<;>(first|exact ddX hb|try simp only [lnS]at hb))|(refine aA ?_ ?_<;>intro hb<;>try exact dsX hb))<;>(conv=>whnf)))
   have ih':= @ih c.parts[j] (List.getElem_mem hjl) (done++c::aZ (c.parts.take j)) hp3
   rw [aL]at ih'
   refine ih' hC3 ⟨aZ (c.parts.drop (j + 1)) ++ rest, by
    rw [<-hA]
    have e:aZ c.parts=aZ (c.parts.take j)++(fT c.parts[j]++aZ (c.parts.drop (j+1))):=by
     conv=>lhs;rw [<-List.take_append_drop j c.parts,dR,List.drop_eq_getElem_cons hjl,aZ]
    rw [e];simp⟩ (aSz hp1 hf) (hlidF _ (by with_unfolding_all first|exact .inl rfl|exact .inr (.inl rfl)|exact .inr (.inr rfl))) (λhp4 hC4=> ?_) (λhp4 hS4=> ?_)
   ·((conv=>whnf);repeat' ((first|(intro hq;(try simp only [lnS]at hq);(try rewrite [List.length_map]))|refine sJ ?_|refine .intro _ (.intro rfl ?_)|refine exL (k:= ?_)|refine dwR ?_|((first|refine aB ?_ ?_|refine aC ?_ ?_)<;>intro hb<;>(first|exact ddX hb|try simp only [lnS]at hb))|(refine aA ?_ ?_<;>intro hb<;>try exact dsX hb))<;>(conv=>whnf)))
    refine⟨(j+1,hp4),⟨by dsimp only;omega, ?_⟩,by dsimp only;omega,by repeat' (first|exact trivial|exact rfl|refine And.intro ?_ ?_),rfl⟩
    dsimp only
    rw [uY hjl]
    simpa using hC4
   ·((conv=>whnf);repeat' ((first|(intro hq;(try simp only [lnS]at hq);(try rewrite [List.length_map]))|refine sJ ?_|refine .intro _ (.intro rfl ?_)|refine exL (k:= ?_)|refine dwR ?_|((first|refine aB ?_ ?_|refine aC ?_ ?_)<;>intro hb<;>(first|exact ddX hb|try simp only [lnS]at hb))|(refine aA ?_ ?_<;>intro hb<;>try exact dsX hb))<;>(conv=>whnf)))
    exact hk2 _ hS4
  ·have hjl:j=c.parts.length:=by dsimp only at h1;omega
   subst hjl
   rw [List.take_length,<-fS]at hC3
   ((conv=>whnf);repeat' ((first|(intro hq;(try simp only [lnS]at hq);(try rewrite [List.length_map]))|refine sJ ?_|refine .intro _ (.intro rfl ?_)|refine exL (k:= ?_)|refine dwR ?_|((first|refine aB ?_ ?_|refine aC ?_ ?_)<;>intro hb<;>(first|exact ddX hb|try simp only [lnS]at hb))|(refine aA ?_ ?_<;>intro hb<;>try exact dsX hb))<;>(conv=>whnf)))
   exact hk1 _ hC3
 ·((conv=>whnf);repeat' ((first|(intro hq;(try simp only [lnS]at hq);(try rewrite [List.length_map]))|refine sJ ?_|refine .intro _ (.intro rfl ?_)|refine exL (k:= ?_)|refine dwR ?_|((first|refine aB ?_ ?_|refine aC ?_ ?_)<;>intro hb<;>(first|exact ddX hb|try simp only [lnS]at hb))|(refine aA ?_ ?_<;>intro hb<;>try exact dsX hb))<;>(conv=>whnf)))
  exact hk2 _ hS2
theorem aBz (c:Cn):Tri Tryz.prog 126 [.d (.agg (cnR c))] [] (λr=>r= .fn 160 [] [.ea 5 [cnR c] 0 0]):=by
 rw [aL]
 refine aF false [1] hty Tryz.func126 rfl (kp [0,1,2]) [] _ _ _ (by simp [Tryz.f126]) (by simp) ?_
 ((conv=>whnf);repeat' ((first|(intro hq;(try simp only [lnS]at hq);(try rewrite [List.length_map]))|refine sJ ?_|refine .intro _ (.intro rfl ?_)|refine exL (k:= ?_)|refine dwR ?_|((first|refine aB ?_ ?_|refine aC ?_ ?_)<;>intro hb<;>(first|exact ddX hb|try simp only [lnS]at hb))|(refine aA ?_ ?_<;>intro hb<;>try exact dsX hb))<;>(conv=>whnf)))
 rfl
theorem aIh {lid:Nat}(hlid:lid < 100) {Cont:List Cn->Hp->Prop}{Stop:Hp->Prop}(c:Cn) (R:Rounds (fT c) lid Cont Stop) {hp:Hp}{pin:List Nat}{fr:Fr}{K:SV->Hp->Prop}(hC:Cont [] hp) (hp1: ∀k,100<=k->k∉pin) (hf: ∀k,100<=k->k∉fV fr)
  (hk1: ∀hp',Cont (fT c) hp'->K (dQ []) hp') (hk2: ∀hp',Stop hp'->K (dQ []) hp'):aJ Tryz.prog pin fr hp 160 [.yld lid, .ea 5 [cnR c] 0 0] K:=by
 have hcR:=aL c
 have vs:= λpin fr K=> @aIi (fT c) lid hlid Cont Stop R c [] hp pin fr K hC ⟨[],by simp⟩
 rw [hcR]
 simp only [hcR]at vs
 refine bE false [] hty Tryz.func160 rfl (kp [0,1]) 200 (by simp [Tryz.f160]) ?_
 ((conv=>whnf);repeat' ((first|(intro hq;(try simp only [lnS]at hq);(try rewrite [List.length_map]))|refine sJ ?_|refine .intro _ (.intro rfl ?_)|refine exL (k:= ?_)|refine dwR ?_|((first|refine aB ?_ ?_|refine aC ?_ ?_)<;>intro hb<;>(first|exact ddX hb|try simp only [lnS]at hb))|(refine aA ?_ ?_<;>intro hb<;>try exact dsX hb))<;>(conv=>whnf)))
 refine vs _ _ _ (aSz hp1 hf) (aVq hlid _ (by with_unfolding_all first|exact .inl rfl|exact .inr (.inl rfl)|exact .inr (.inr rfl))) (λhp2 hC2=> ?_) (λhp2 hS2=> ?_)
 ·((conv=>whnf);repeat' ((first|(intro hq;(try simp only [lnS]at hq);(try rewrite [List.length_map]))|refine sJ ?_|refine .intro _ (.intro rfl ?_)|refine exL (k:= ?_)|refine dwR ?_|((first|refine aB ?_ ?_|refine aC ?_ ?_)<;>intro hb<;>(first|exact ddX hb|try simp only [lnS]at hb))|(refine aA ?_ ?_<;>intro hb<;>try exact dsX hb))<;>(conv=>whnf)))
  exact hk1 _ (by simpa using hC2)
 ·((conv=>whnf);repeat' ((first|(intro hq;(try simp only [lnS]at hq);(try rewrite [List.length_map]))|refine sJ ?_|refine .intro _ (.intro rfl ?_)|refine exL (k:= ?_)|refine dwR ?_|((first|refine aB ?_ ?_|refine aC ?_ ?_)<;>intro hb<;>(first|exact ddX hb|try simp only [lnS]at hb))|(refine aA ?_ ?_<;>intro hb<;>try exact dsX hb))<;>(conv=>whnf)))
  exact hk2 _ hS2
theorem uH {lid:Nat}(hlid:lid < 100) {L:LoopI}{σ:Type}(St:σ->Hp) (Inv:List Cn->σ->Prop) (Bad:σ->Prop) (c:Cn) (s0:σ) (h0:Inv [] s0) {pin:List Nat}{fr:Fr}{K:SV->Hp->Prop}(hL:L.fr.all (λp=>p.2.ids.isEmpty || p.2.ids.all λk=>decide (k < 100))=true) (hb: ∀s,∀k,100<=k->k∉gG (St s)) (hp1: ∀k,100<=k->k∉pin) (hf: ∀k,100<=k->k∉fV fr)
  (step : ∀ (done : List Cn) (x : Cn) (s : σ) (pin : List Nat) (fr : Fr) (K : SV -> Hp -> Prop), Inv done s -> (∃ rest, done ++ x :: rest = fT c) -> (∀ k, 100 <= k -> k ∉ pin) -> (∀ k, 100 <= k -> k ∉ fV fr) ->
   (∀s',Inv (done++[x]) s'->K (.d (.bool true)) ((lid, .loop L .ready)::St s'))->(∀s',Bad s'->K (.d (.bool false)) ((lid, .loop L (.done .ret))::St s'))->YVC Tryz.prog pin fr ((lid, .loop L .ready)::St s) lid [.d (.agg (cnR x))] K)
  (hk1: ∀s,Inv (fT c) s->K (dQ []) ((lid, .loop L .ready)::St s)) (hk2: ∀s,Bad s->K (dQ []) ((lid, .loop L (.done .ret))::St s)):
  aJ Tryz.prog pin fr ((lid, .loop L .ready)::St s0) 160 [.yld lid, .ea 5 [cnR c] 0 0] K:=by
 refine aIh hlid (Cont:= λdone hp=> ∃s,hp=(lid, .loop L .ready)::St s/\Inv done s) (Stop:= λhp=> ∃s,hp=(lid, .loop L (.done .ret))::St s/\Bad s) c ⟨?_, ?_⟩ ⟨s0,rfl,h0⟩ hp1 hf ?_ ?_
 ·rintro done hp ⟨s,rfl,_⟩ k hk hm
  simp only [gG,List.flatMap_cons,List.mem_append,List.mem_cons]at hm
  rcases hm with(hm|hm)|hm
  ·omega
  ·simp only [HObj.ids,fV,List.mem_flatMap]at hm
   obtain⟨p,h1,h2⟩:=hm
   have:=List.all_eq_true.1 hL p h1
   simp only [Bool.or_eq_true]at this
   rcases this with h|h
   ·rw [List.isEmpty_iff.1 h]at h2;simp at h2
   ·have:=List.all_eq_true.1 h k h2
    simp at this;omega
  ·exact hb s k hk hm
 ·rintro done x hp pin fr K ⟨s,rfl,hI⟩ hA h1 h2 h3 h4
  exact step done x s pin fr K hI hA h1 h2 (λs' hI'=>h3 _ ⟨s',rfl,hI'⟩) (λs' hB=>h4 _ ⟨s',rfl,hB⟩)
 ·rintro hp ⟨s,rfl,hI⟩
  exact hk1 s hI
 ·rintro hp ⟨s,rfl,hB⟩
  exact hk2 s hB
end Go.Proofs.YtfhoddcminbffaaGreatDoor
namespace Go.Proofs.YtfhoddcminbffaaGreatDoor
open Go.Proofs
set_option maxRecDepth 10000
attribute [local irreducible] aM aJ Tri aH YVC dI bI
def dL:List Cn->Int
 | []=>0
 |x::r=>if bM x≠0 then bM x else dL r
def bH (c:Cn):Int:=if (fF c 0 0).1=false then 21 else dL (fT c)
theorem lG: ∀(l m:List Cn),(∀x∈l,bM x=0)->dL (l++m)=dL m
 | [],_,_=>rfl
 |x::l,m,h=>by
  rw [List.cons_append,dL,if_neg (by simp [h x (List.mem_cons_self ..)])]
  exact lG l m λy hy=>h y (List.mem_cons_of_mem _ hy)
theorem aU4: ∀k,100<=k->k∉gG NG:=by
 intro k hk hm
 have e:gG NG=[90,91]:=by with_unfolding_all exact rfl
 rw [e]at hm
 simp at hm
 omega
theorem kR (c:Cn):Tri Tryz.prog 79 [.d (.agg (cnR c))] NG (λr=>r= .d (.int .i64 (bH c))):=by
 have hcR:=aL c
 have hw:=aBz c
 have hfit:= λhp0 pin fr K=> @aNj c 0 0 hp0 pin fr K (by omega) (by omega)
 rw [hcR]
 simp only [hcR]at hw hfit
 refine aF false [1] hty Tryz.func79 rfl (kp [0,1,2,3,4,5,8,10,11,15]) [] _ _ _ (by simp [Tryz.f79]) (by decide) ?_
 ((conv=>whnf);repeat' ((first|(intro hq;(try simp only [lnS]at hq);(try rewrite [List.length_map]))|refine sJ ?_|refine .intro _ (.intro rfl ?_)|refine exL (k:= ?_)|refine dwR ?_|((first|refine aB ?_ ?_|refine aC ?_ ?_)<;>intro hb<;>(first|exact ddX hb|try simp only [lnS]at hb))|(refine aA ?_ ?_<;>intro hb<;>try exact dsX hb))<;>(conv=>whnf)))
 refine hfit ((2, .cells 26 [.d (.int .i64 0)])::NG) _ _ _ (by simp) (aT0 (by with_unfolding_all exact rfl)) (aQe (by decide) (by with_unfolding_all exact rfl) aU4) ?_
 cases hb:(fF c 0 0).1
 ·((conv=>whnf);repeat' ((first|(intro hq;(try simp only [lnS]at hq);(try rewrite [List.length_map]))|refine sJ ?_|refine .intro _ (.intro rfl ?_)|refine exL (k:= ?_)|refine dwR ?_|((first|refine aB ?_ ?_|refine aC ?_ ?_)<;>intro hb<;>(first|exact ddX hb|try simp only [lnS]at hb))|(refine aA ?_ ?_<;>intro hb<;>try exact dsX hb))<;>(conv=>whnf)))
  rw [bH,if_pos hb];rfl
 ·have hE:bH c=dL (fT c):=by rw [bH,if_neg (by simp [hb])]
  rw [hE]
  ((conv=>whnf);repeat ((first|(intro hq;try simp only [lnS]at hq)|refine sI ?_|refine .intro _ (.intro rfl ?_));(conv=>whnf)))
  refine aD [] hw trivial (λs hs=> ?_)
  subst hs
  ((conv=>whnf);repeat ((first|(intro hq;try simp only [lnS]at hq)|refine sI ?_|refine .intro _ (.intro rfl ?_));(conv=>whnf)))
  refine nO 60 (bW (by with_unfolding_all exact rfl)) trivial ?_
  ((conv=>whnf);repeat ((first|(intro hq;try simp only [lnS]at hq)|refine sI ?_|refine .intro _ (.intro rfl ?_));(conv=>whnf)))
  rw [<-hcR]
  refine uH (lid:=60) (by decide) (λe:Int=>(3,_)::(2, .cells 26 [.d (.int .i64 e)])::NG) (λdone e=>e=0/\ ∀x∈done,bM x=0) (λe=>e=dL (fT c)) c 0 ⟨rfl,by simp⟩ (by with_unfolding_all exact rfl) (λe=>aQe (by decide) (by with_unfolding_all exact rfl) (aQe (by decide) (by with_unfolding_all exact rfl) aU4)) (by simp) (aT0 (by with_unfolding_all exact rfl)) ?_ ?_ ?_
  ·rintro done x s pin fr K ⟨rfl,hd⟩ ⟨rest,hA⟩ h1 h2 h3 h4
   have hx:=aL x
   have hcf:=tA x
   rw [hx]at hcf |-
   have hbig: ∀k,100<=k->k∉pin++fV fr++[60]:=by
    intro k hk hm
    simp only [List.mem_append,List.mem_singleton]at hm
    rcases hm with(hm|hm)|hm
    ·exact h1 k hk hm
    ·exact h2 k hk hm
    ·omega
   refine jH [4] hty (kp [0,1,2,3,4,5,8,10,11,15]) 600 rfl rfl ?_
   ((conv=>whnf);repeat' ((first|(intro hq;(try simp only [lnS]at hq);(try rewrite [List.length_map]))|refine sJ ?_|refine .intro _ (.intro rfl ?_)|refine exL (k:= ?_)|(refine And.intro ⟨hbig _ (Nat.le_of_ble_eq_true rfl),aT0 (by with_unfolding_all exact rfl) _ (Nat.le_of_ble_eq_true rfl),uX (by with_unfolding_all exact rfl)⟩ ?_)|(refine aD NG hcf ⟨rfl,rfl,trivial⟩ (λr hs=> ?_);subst hs)|refine dwR ?_|((first|refine aB ?_ ?_|refine aC ?_ ?_)<;>intro hb<;>(first|exact ddX hb|try simp only [lnS]at hb))|(refine aA ?_ ?_<;>intro hb<;>try exact dsX hb))<;>(conv=>whnf)))
   ·exact h4 (bM x) (by rw [<-hA,lG _ _ hd,dL,if_pos (by assumption)])
   ·refine h3 0 ⟨rfl,λy hy=> ?_⟩
    rcases List.mem_append.1 hy with h|h
    ·exact hd y h
    ·simp at h;subst h;assumption
  ·rintro s ⟨rfl,hI⟩
   have hz:dL (fT c)=0:=by
    have:=lG (fT c) [] hI
    simpa [dL]using this
   rw [hz]
   ((conv=>whnf);repeat' ((first|(intro hq;(try simp only [lnS]at hq);(try rewrite [List.length_map]))|refine sJ ?_|refine .intro _ (.intro rfl ?_)|refine exL (k:= ?_)|refine dwR ?_|((first|refine aB ?_ ?_|refine aC ?_ ?_)<;>intro hb<;>(first|exact ddX hb|try simp only [lnS]at hb))|(refine aA ?_ ?_<;>intro hb<;>try exact dsX hb))<;>(conv=>whnf)))
   rfl
  ·rintro s rfl
   ((conv=>whnf);repeat' ((first|(intro hq;(try simp only [lnS]at hq);(try rewrite [List.length_map]))|refine sJ ?_|refine .intro _ (.intro rfl ?_)|refine exL (k:= ?_)|refine dwR ?_|((first|refine aB ?_ ?_|refine aC ?_ ?_)<;>intro hb<;>(first|exact ddX hb|try simp only [lnS]at hb))|(refine aA ?_ ?_<;>intro hb<;>try exact dsX hb))<;>(conv=>whnf)))
   rfl
end Go.Proofs.YtfhoddcminbffaaGreatDoor
namespace Go.Proofs.YtfhoddcminbffaaGreatDoor
open Go.Proofs
set_option maxRecDepth 10000
attribute [local irreducible] aM aJ Tri aH YVC dI bI
def aN (c:Cn):Nat:=(fT c).length
theorem aLp (c:Cn):1<=aN c:=by rw [aN,fS];simp
theorem aLo (c:Cn) (hs:aN c<=1000000):Tri Tryz.prog 144 [.d (.agg (cnR c))] [] (λr=>r= .d (.int .i64 (aN c))):=by
 have hcR:=aL c
 have hw:=aBz c
 rw [hcR]
 simp only [hcR]at hw
 refine aF false [1] hty Tryz.func144 rfl (kp [0,1,2,4]) [] _ _ _ (by simp [Tryz.f144]) (by simp) ?_
 ((conv=>whnf);repeat ((first|(intro hq;try simp only [lnS]at hq)|refine sI ?_|refine .intro _ (.intro rfl ?_));(conv=>whnf)))
 refine aD [] hw trivial (λs hs=> ?_)
 subst hs
 ((conv=>whnf);repeat ((first|(intro hq;try simp only [lnS]at hq)|refine sI ?_|refine .intro _ (.intro rfl ?_));(conv=>whnf)))
 refine nO 60 (bW (by with_unfolding_all exact rfl)) trivial ?_
 ((conv=>whnf);repeat ((first|(intro hq;try simp only [lnS]at hq)|refine sI ?_|refine .intro _ (.intro rfl ?_));(conv=>whnf)))
 rw [<-hcR]
 refine uH (lid:=60) (by decide) (λn:Nat=>(2, .cells 3 [.d (.int .i64 n)])::[]) (λdone n=>n=done.length) (λ_=>False) c 0 rfl (by with_unfolding_all exact rfl) (λe=>aQe (by decide) (by with_unfolding_all exact rfl) (by simp [gG])) (by simp) (aT0 (by with_unfolding_all exact rfl)) ?_ ?_ ?_
 ·rintro done x n pin fr K rfl ⟨rest,hA⟩ h1 h2 h3 h4
  have hl:done.length < aN c:=by rw [aN,<-hA];simp
  refine jH [] hty (kp [0,1,2,4]) 600 rfl rfl ?_
  ((conv=>whnf);repeat' ((first|(intro hq;(try simp only [lnS]at hq);(try rewrite [List.length_map]))|refine sJ ?_|refine .intro _ (.intro rfl ?_)|refine exL (k:= ?_)|refine dwR ?_|((first|refine aB ?_ ?_|refine aC ?_ ?_)<;>intro hb<;>(first|exact ddX hb|try simp only [lnS]at hb))|(refine aA ?_ ?_<;>intro hb<;>try exact dsX hb))<;>(conv=>whnf)))
  have:=h3 (done.length+1) (by simp)
  exact this
 ·rintro n rfl
  ((conv=>whnf);repeat' ((first|(intro hq;(try simp only [lnS]at hq);(try rewrite [List.length_map]))|refine sJ ?_|refine .intro _ (.intro rfl ?_)|refine exL (k:= ?_)|refine dwR ?_|((first|refine aB ?_ ?_|refine aC ?_ ?_)<;>intro hb<;>(first|exact ddX hb|try simp only [lnS]at hb))|(refine aA ?_ ?_<;>intro hb<;>try exact dsX hb))<;>(conv=>whnf)))
  rfl
 ·rintro n h
  exact h.elim
theorem aGc {a b:Int}(h:a=b):Wk (.d (.int .i64 a)) (.d (.int .i64 b)):=by subst h;exact rfl
mutual
def cI:Cn->Nat
 | .mk _ _ _ _ ps=>cU ps
def cU:List Cn->Nat
 | []=>0
 |c::r=>max (cI c+1) (cU r)
end
theorem jD (c:Cn):cI c=cU c.parts:=by cases c;rw [cI];rfl
theorem qF: ∀(l m:List Cn),cU (l++m)=max (cU l) (cU m)
 | [],m=>by simp [cU]
 |c::l,m=>by simp only [List.cons_append,cU,qF l m];omega
theorem aG1 {l:List Cn}{j:Nat}(h:j < l.length):cU (l.take (j+1))=max (cU (l.take j)) (cI l[j]+1):=by
 rw [List.take_succ_eq_append_getElem h,qF];simp [cU]
theorem yS {l:List Cn}{x:Cn}(h:x∈l):(fT x).length<=(aZ l).length:=by
 obtain⟨a,b,rfl⟩:=List.append_of_mem h
 rw [dR,aZ]
 simp only [List.length_append]
 omega
theorem eP {c x:Cn}(h:x∈c.parts):aN x < aN c:=by
 have:=yS h
 rw [aN,aN,fS c]
 simp only [List.length_cons]
 omega
mutual
theorem rK: ∀(c:Cn),cI c < aN c
 | .mk k n lo hi ps=>by
  have:=wG ps
  rw [cI,aN,fT]
  simp only [List.length_cons]
  omega
theorem wG: ∀(l:List Cn),cU l<=(aZ l).length
 | []=>by simp [cU]
 |c::r=>by
  have h1:=rK c
  have h2:=wG r
  rw [cU,aZ,List.length_append]
  rw [aN]at h1
  omega
end
mutual
def bU:Cn->Bool
 | .mk k _ _ _ ps=>if k=4 then true else if k=5 then nB ps else false
def nB:List Cn->Bool
 | []=>false
 |c::r=>if bU c=true then true else nB r
end
theorem aBm (c:Cn):bU c=if c.kind=4 then true else if c.kind=5 then nB c.parts else false:=by cases c;rw [bU];rfl
end Go.Proofs.YtfhoddcminbffaaGreatDoor
namespace Go.Proofs.YtfhoddcminbffaaGreatDoor
open Go.Proofs
set_option maxRecDepth 10000
attribute [local irreducible] aM aJ Tri aH YVC dI bI
def aSy (p:Cn->Bool) (l:List Cn):Int:=if l.any p=true then ((l.findIdx p:Nat):Int)else -1
theorem aOs {p:Cn->Bool}{l:List Cn}{j:Nat}(h:j < l.length) (h1:(l.take j).any p=false) (h2:p l[j]=false):(l.take (j+1)).any p=false:=by
 rw [List.take_succ_eq_append_getElem h,List.any_append,h1];simp [h2]
theorem aS9 {p:Cn->Bool}{l:List Cn}{j:Nat}(h:j < l.length) (h1:(l.take j).any p=false) (h2:p l[j]=true):aSy p l=j:=by
 have ha:l.any p=true:=List.any_eq_true.2 ⟨_,List.getElem_mem h,h2⟩
 have hf:l.findIdx p=j:=by
  rw [List.findIdx_eq h]
  refine⟨h2,λi hi=> ?_⟩
  have:=List.any_eq_false.1 h1 (l[i]'(by omega)) (List.mem_iff_getElem.2 ⟨i,by simp;omega,by simp⟩)
  simpa using this
 rw [aSy,if_pos ha,hf]
theorem aFr (f:FuncId) (hcall:dV Tryz.prog f=true) (p:Cn->Bool) (l:List Cn) (hf: ∀q∈l,Tri Tryz.prog f [.d (.agg (cnR q))] [] (λr=>r= .d (.bool (p q)))):
  Tri Tryz.prog 162 [.d (cnl l), .fn f [] []] [] (λr=>r= .d (.int .i64 (aSy p l))):=by
 refine aK hty Tryz.func162 rfl (kp [0,1,4,5,7,8,9,16]) [] _ _ _ (by simp [Tryz.f162]) (by simp) ?_
 ((conv=>whnf);repeat ((first|(intro hq;try simp only [lnS]at hq)|refine sI ?_|refine .intro _ (.intro rfl ?_));(conv=>whnf)))
 refine aG hty (λj:Nat=>([(0, .d (.sl 5 (l.map cnR))),(1, .fn f [] []),(7, .d (.int .i64 l.length)),(8, .d (.int .i64 j))],[])) (λj=>j<=l.length/\(l.take j).any p=false) (λj=>l.length - j) 0 ⟨by omega,by simp⟩ ⟨by repeat' (first|exact trivial|exact rfl|(rw [List.length_map];exact rfl)|refine And.intro ?_ ?_),trivial⟩ ?_
 rintro j ⟨hj,hn⟩
 ((conv=>whnf);repeat ((first|(intro hq;try simp only [lnS]at hq)|refine sI ?_|refine .intro _ (.intro rfl ?_));(conv=>whnf)))
 refine aB (λh1=> ?_) (λh1=> ?_)
 ·have hjl:j < l.length:=by omega
  have hrow':(l.map cnR)[(j:Int).toNat]? =some (cnR l[j]):=bC hjl
  have hi:=hf l[j] (List.getElem_mem hjl)
  rw [aL]at hrow' hi
  ((conv=>whnf);repeat' ((first|(intro hq;(try simp only [lnS]at hq);(try rewrite [List.length_map]))|refine sJ ?_|refine .intro _ (.intro rfl ?_)|refine exL (k:= ?_)|(refine⟨_,hrow', ?_⟩)|refine dwR ?_|((first|refine aB ?_ ?_|refine aC ?_ ?_)<;>intro hb<;>(first|exact ddX hb|try simp only [lnS]at hb))|(refine aA ?_ ?_<;>intro hb<;>try exact dsX hb))<;>(conv=>whnf)))
  refine aD [] hi trivial (λr hs=> ?_)
  subst hs
  cases hb2:p l[j]
  ·((conv=>whnf);repeat' ((first|(intro hq;(try simp only [lnS]at hq);(try rewrite [List.length_map]))|refine sJ ?_|refine .intro _ (.intro rfl ?_)|refine exL (k:= ?_)|refine dwR ?_|((first|refine aB ?_ ?_|refine aC ?_ ?_)<;>intro hb<;>(first|exact ddX hb|try simp only [lnS]at hb))|(refine aA ?_ ?_<;>intro hb<;>try exact dsX hb))<;>(conv=>whnf)))
   exact⟨j+1,⟨by omega,aOs hjl hn hb2⟩,by dsimp only;omega,by repeat' (first|exact trivial|exact rfl|refine And.intro ?_ ?_),trivial⟩
  ·((conv=>whnf);repeat' ((first|(intro hq;(try simp only [lnS]at hq);(try rewrite [List.length_map]))|refine sJ ?_|refine .intro _ (.intro rfl ?_)|refine exL (k:= ?_)|refine dwR ?_|((first|refine aB ?_ ?_|refine aC ?_ ?_)<;>intro hb<;>(first|exact ddX hb|try simp only [lnS]at hb))|(refine aA ?_ ?_<;>intro hb<;>try exact dsX hb))<;>(conv=>whnf)))
   exact cC (aS9 hjl hn hb2).symm
 ·have hjl:j=l.length:=by omega
  subst hjl
  rw [List.take_length]at hn
  ((conv=>whnf);repeat' ((first|(intro hq;(try simp only [lnS]at hq);(try rewrite [List.length_map]))|refine sJ ?_|refine .intro _ (.intro rfl ?_)|refine exL (k:= ?_)|refine dwR ?_|((first|refine aB ?_ ?_|refine aC ?_ ?_)<;>intro hb<;>(first|exact ddX hb|try simp only [lnS]at hb))|(refine aA ?_ ?_<;>intro hb<;>try exact dsX hb))<;>(conv=>whnf)))
  rw [aSy,if_neg (by simp [hn])];rfl
theorem aFt (p:Cn->Bool) (l:List Cn):decide (0<=aSy p l)=l.any p:=by
 unfold aSy
 cases h:l.any p
 ·simp
 ·simp
theorem xR (f:FuncId) (hcall:dV Tryz.prog f=true) (p:Cn->Bool) (l:List Cn) (hf: ∀q∈l,Tri Tryz.prog f [.d (.agg (cnR q))] [] (λr=>r= .d (.bool (p q)))):
  Tri Tryz.prog 128 [.d (cnl l), .fn f [] []] [] (λr=>r= .d (.bool (l.any p))):=by
 refine aK hty Tryz.func128 rfl (kp [0,1,4]) [] _ _ _ (by simp [Tryz.f128]) (by simp) ?_
 ((conv=>whnf);repeat ((first|(intro hq;try simp only [lnS]at hq)|refine sI ?_|refine .intro _ (.intro rfl ?_));(conv=>whnf)))
 refine aD [] (aFr f hcall p l hf) trivial (λr hs=> ?_)
 subst hs
 ((conv=>whnf);repeat' ((first|(intro hq;(try simp only [lnS]at hq);(try rewrite [List.length_map]))|refine sJ ?_|refine .intro _ (.intro rfl ?_)|refine exL (k:= ?_)|refine dwR ?_|((first|refine aB ?_ ?_|refine aC ?_ ?_)<;>intro hb<;>(first|exact ddX hb|try simp only [lnS]at hb))|(refine aA ?_ ?_<;>intro hb<;>try exact dsX hb))<;>(conv=>whnf)))
 exact aX (aFt p l)
theorem aE0: ∀l,nB l=l.any bU
 | []=>by simp [nB]
 |c::r=>by rw [nB,aE0 r,List.any_cons];cases bU c<;>simp
theorem vN: ∀(c:Cn),Tri Tryz.prog 80 [.d (.agg (cnR c))] [] (λr=>r= .d (.bool (bU c))):=by
 refine Cn.ind ?_
 intro c ih
 have hC:=xR 80 (by kernel_rfl) bU c.parts ih
 rw [aL,aBm,aE0]
 refine aF false [1] hty Tryz.func80 rfl (kp [0,1,2,4,5,7]) [] _ _ _ (by simp [Tryz.f80]) (by simp) ?_
 ((conv=>whnf);repeat' ((first|(intro hq;(try simp only [lnS]at hq);(try rewrite [List.length_map]))|refine sJ ?_|refine .intro _ (.intro rfl ?_)|refine exL (k:= ?_)|(refine aD [] hC trivial (λr hs=> ?_);subst hs)|refine dwR ?_|((first|refine aB ?_ ?_|refine aC ?_ ?_)<;>intro hb<;>(first|exact ddX hb|try simp only [lnS]at hb))|(refine aA ?_ ?_<;>intro hb<;>try exact dsX hb))<;>(conv=>whnf)))
 ·rw [if_pos (by assumption)];rfl
 ·rw [if_neg (by assumption),if_pos (by assumption)];rfl
 ·rw [if_neg (by assumption),if_neg (by assumption)];rfl
def eZ (c:Cn):Bool:=decide (c.kind=0) && (decide (c.name=[]) && (decide (c.lo=0) && (decide (c.hi=0) && decide (c.parts=[]))))
theorem bD (c:Cn):Tri Tryz.prog 122 [.d (.agg (cnR c))] [] (λr=>r= .d (.bool (eZ c))):=by
 rw [aL]
 refine aF false [1] hty Tryz.func122 rfl (kp [0,1,2]) [] _ _ _ (by simp [Tryz.f122]) (by simp) ?_
 ((conv=>whnf);repeat' ((first|(intro hq;(try simp only [lnS]at hq);(try rewrite [List.length_map]))|refine sJ ?_|refine .intro _ (.intro rfl ?_)|refine exL (k:= ?_)|refine dwR ?_|((first|refine aB ?_ ?_|refine aC ?_ ?_)<;>intro hb<;>(first|exact ddX hb|try simp only [lnS]at hb))|(refine aA ?_ ?_<;>intro hb<;>try exact dsX hb))<;>(conv=>whnf)))
 all_goals (unfold eZ;simp_all [dQ])
 all_goals trace_state
end Go.Proofs.YtfhoddcminbffaaGreatDoor
namespace Go.Proofs.YtfhoddcminbffaaGreatDoor
open Go.Proofs
set_option maxRecDepth 10000
attribute [local irreducible] aM aJ Tri aH YVC dI bI
def bA (u:Use) (x:Ax):Bool:=
 (u.left || eZ x.left) && ((u.right || eZ x.right) && ((u.role || decide (x.role=[])) && ((u.a || decide (x.a=[])) && ((u.b || decide (x.b=[])) && (decide (u.least<=x.roles.length) && decide ((x.roles.length:Int)<=u.most))))))
def bJ (x:Ax):Bool:=if x.kind < 1\/9 < x.kind then false else bA (bX x.kind) x
theorem oX {k:Int}(n:Nat) (h:n < jF.length) (hk:k=n):(jF.map aRd)[k.toNat]? =some (aRd jF[n]):=by
 subst hk
 rw [Int.toNat_natCast,List.getElem?_map,List.getElem?_eq_getElem h];rfl
theorem aK3 (x:Ax) (hk:x.kind=1):Tri Tryz.prog 77 [.d (.agg (axR x))] NG (λr=>r= .d (.bool (bJ x))):=by
 have e1:=bD x.left
 have e2:=bD x.right
 rw [aL]at e1 e2
 have hrow:=oX (k:=x.kind) 1 (by decide) hk
 have hE:bJ x=bA (jF[1]'(by decide)) x:=by rw [bJ,if_neg (by omega),hk];rfl
 rw [hE]
 refine aF false [1,3] hty Tryz.func77 rfl (kp [0,1,2,3,11]) [] _ _ _ (by simp [Tryz.f77]) (by decide) ?_
 ((conv=>whnf);repeat ((first|(intro hq;try simp only [lnS]at hq)|refine sI ?_|refine .intro _ (.intro rfl ?_));(conv=>whnf)))
 refine aB (λh1=>by omega) (λh1=> ?_)
 ((conv=>whnf);repeat ((first|(intro hq;try simp only [lnS]at hq)|refine sI ?_|refine .intro _ (.intro rfl ?_));(conv=>whnf)))
 refine aB (λh2=>by omega) (λh2=> ?_)
 ((conv=>whnf);repeat' ((first|(intro hq;(try simp only [lnS]at hq);(try rewrite [List.length_map]))|refine sJ ?_|refine .intro _ (.intro rfl ?_)|refine exL (k:= ?_)|(refine cZ (id:=91) hty rfl rfl rfl rfl rfl rfl rfl (by omega) (by omega) ?_)|(refine⟨_,hrow, ?_⟩)|(refine aD [] e1 trivial (λr hs=> ?_);subst hs)|(refine aD [] e2 trivial (λr hs=> ?_);subst hs)|refine dwR ?_|((first|refine aB ?_ ?_|refine aC ?_ ?_)<;>intro hb<;>(first|exact ddX hb|try simp only [lnS]at hb))|(refine aA ?_ ?_<;>intro hb<;>try exact dsX hb))<;>(conv=>whnf)))
 all_goals (clear e1 e2 hrow hE;refine aX (Eq.symm ?_);show bA _ x=_;simp only [bA,jF,List.getElem_cons_succ,List.getElem_cons_zero,Bool.true_or,Bool.false_or,Bool.true_and];simp_all [jF]<;>omega)
theorem aK2 (x:Ax) (hk:x.kind=2):Tri Tryz.prog 77 [.d (.agg (axR x))] NG (λr=>r= .d (.bool (bJ x))):=by
 have e1:=bD x.left
 have e2:=bD x.right
 rw [aL]at e1 e2
 have hrow:=oX (k:=x.kind) 2 (by decide) hk
 have hE:bJ x=bA (jF[2]'(by decide)) x:=by rw [bJ,if_neg (by omega),hk];rfl
 rw [hE]
 refine aF false [1,3] hty Tryz.func77 rfl (kp [0,1,2,3,11]) [] _ _ _ (by simp [Tryz.f77]) (by decide) ?_
 ((conv=>whnf);repeat ((first|(intro hq;try simp only [lnS]at hq)|refine sI ?_|refine .intro _ (.intro rfl ?_));(conv=>whnf)))
 refine aB (λh1=>by omega) (λh1=> ?_)
 ((conv=>whnf);repeat ((first|(intro hq;try simp only [lnS]at hq)|refine sI ?_|refine .intro _ (.intro rfl ?_));(conv=>whnf)))
 refine aB (λh2=>by omega) (λh2=> ?_)
 ((conv=>whnf);repeat' ((first|(intro hq;(try simp only [lnS]at hq);(try rewrite [List.length_map]))|refine sJ ?_|refine .intro _ (.intro rfl ?_)|refine exL (k:= ?_)|(refine cZ (id:=91) hty rfl rfl rfl rfl rfl rfl rfl (by omega) (by omega) ?_)|(refine⟨_,hrow, ?_⟩)|(refine aD [] e1 trivial (λr hs=> ?_);subst hs)|(refine aD [] e2 trivial (λr hs=> ?_);subst hs)|refine dwR ?_|((first|refine aB ?_ ?_|refine aC ?_ ?_)<;>intro hb<;>(first|exact ddX hb|try simp only [lnS]at hb))|(refine aA ?_ ?_<;>intro hb<;>try exact dsX hb))<;>(conv=>whnf)))
 all_goals (clear e1 e2 hrow hE;refine aX (Eq.symm ?_);show bA _ x=_;simp only [bA,jF,List.getElem_cons_succ,List.getElem_cons_zero,Bool.true_or,Bool.false_or,Bool.true_and];simp_all [jF]<;>omega)
theorem aK1 (x:Ax) (hk:x.kind=3):Tri Tryz.prog 77 [.d (.agg (axR x))] NG (λr=>r= .d (.bool (bJ x))):=by
 have e1:=bD x.left
 have e2:=bD x.right
 rw [aL]at e1 e2
 have hrow:=oX (k:=x.kind) 3 (by decide) hk
 have hE:bJ x=bA (jF[3]'(by decide)) x:=by rw [bJ,if_neg (by omega),hk];rfl
 rw [hE]
 refine aF false [1,3] hty Tryz.func77 rfl (kp [0,1,2,3,11]) [] _ _ _ (by simp [Tryz.f77]) (by decide) ?_
 ((conv=>whnf);repeat ((first|(intro hq;try simp only [lnS]at hq)|refine sI ?_|refine .intro _ (.intro rfl ?_));(conv=>whnf)))
 refine aB (λh1=>by omega) (λh1=> ?_)
 ((conv=>whnf);repeat ((first|(intro hq;try simp only [lnS]at hq)|refine sI ?_|refine .intro _ (.intro rfl ?_));(conv=>whnf)))
 refine aB (λh2=>by omega) (λh2=> ?_)
 ((conv=>whnf);repeat' ((first|(intro hq;(try simp only [lnS]at hq);(try rewrite [List.length_map]))|refine sJ ?_|refine .intro _ (.intro rfl ?_)|refine exL (k:= ?_)|(refine cZ (id:=91) hty rfl rfl rfl rfl rfl rfl rfl (by omega) (by omega) ?_)|(refine⟨_,hrow, ?_⟩)|(refine aD [] e1 trivial (λr hs=> ?_);subst hs)|(refine aD [] e2 trivial (λr hs=> ?_);subst hs)|refine dwR ?_|((first|refine aB ?_ ?_|refine aC ?_ ?_)<;>intro hb<;>(first|exact ddX hb|try simp only [lnS]at hb))|(refine aA ?_ ?_<;>intro hb<;>try exact dsX hb))<;>(conv=>whnf)))
 all_goals (clear e1 e2 hrow hE;refine aX (Eq.symm ?_);show bA _ x=_;simp only [bA,jF,List.getElem_cons_succ,List.getElem_cons_zero,Bool.true_or,Bool.false_or,Bool.true_and];simp_all [jF]<;>omega)
theorem aK0 (x:Ax) (hk:x.kind=4):Tri Tryz.prog 77 [.d (.agg (axR x))] NG (λr=>r= .d (.bool (bJ x))):=by
 have e1:=bD x.left
 have e2:=bD x.right
 rw [aL]at e1 e2
 have hrow:=oX (k:=x.kind) 4 (by decide) hk
 have hE:bJ x=bA (jF[4]'(by decide)) x:=by rw [bJ,if_neg (by omega),hk];rfl
 rw [hE]
 refine aF false [1,3] hty Tryz.func77 rfl (kp [0,1,2,3,11]) [] _ _ _ (by simp [Tryz.f77]) (by decide) ?_
 ((conv=>whnf);repeat ((first|(intro hq;try simp only [lnS]at hq)|refine sI ?_|refine .intro _ (.intro rfl ?_));(conv=>whnf)))
 refine aB (λh1=>by omega) (λh1=> ?_)
 ((conv=>whnf);repeat ((first|(intro hq;try simp only [lnS]at hq)|refine sI ?_|refine .intro _ (.intro rfl ?_));(conv=>whnf)))
 refine aB (λh2=>by omega) (λh2=> ?_)
 ((conv=>whnf);repeat' ((first|(intro hq;(try simp only [lnS]at hq);(try rewrite [List.length_map]))|refine sJ ?_|refine .intro _ (.intro rfl ?_)|refine exL (k:= ?_)|(refine cZ (id:=91) hty rfl rfl rfl rfl rfl rfl rfl (by omega) (by omega) ?_)|(refine⟨_,hrow, ?_⟩)|(refine aD [] e1 trivial (λr hs=> ?_);subst hs)|(refine aD [] e2 trivial (λr hs=> ?_);subst hs)|refine dwR ?_|((first|refine aB ?_ ?_|refine aC ?_ ?_)<;>intro hb<;>(first|exact ddX hb|try simp only [lnS]at hb))|(refine aA ?_ ?_<;>intro hb<;>try exact dsX hb))<;>(conv=>whnf)))
 all_goals (clear e1 e2 hrow hE;refine aX (Eq.symm ?_);show bA _ x=_;simp only [bA,jF,List.getElem_cons_succ,List.getElem_cons_zero,Bool.true_or,Bool.false_or,Bool.true_and];simp_all [jF]<;>omega)
theorem aJx (x:Ax) (hk:x.kind=7):Tri Tryz.prog 77 [.d (.agg (axR x))] NG (λr=>r= .d (.bool (bJ x))):=by
 have e1:=bD x.left
 have e2:=bD x.right
 rw [aL]at e1 e2
 have hrow:=oX (k:=x.kind) 7 (by decide) hk
 have hE:bJ x=bA (jF[7]'(by decide)) x:=by rw [bJ,if_neg (by omega),hk];rfl
 rw [hE]
 refine aF false [1,3] hty Tryz.func77 rfl (kp [0,1,2,3,11]) [] _ _ _ (by simp [Tryz.f77]) (by decide) ?_
 ((conv=>whnf);repeat ((first|(intro hq;try simp only [lnS]at hq)|refine sI ?_|refine .intro _ (.intro rfl ?_));(conv=>whnf)))
 refine aB (λh1=>by omega) (λh1=> ?_)
 ((conv=>whnf);repeat ((first|(intro hq;try simp only [lnS]at hq)|refine sI ?_|refine .intro _ (.intro rfl ?_));(conv=>whnf)))
 refine aB (λh2=>by omega) (λh2=> ?_)
 ((conv=>whnf);repeat' ((first|(intro hq;(try simp only [lnS]at hq);(try rewrite [List.length_map]))|refine sJ ?_|refine .intro _ (.intro rfl ?_)|refine exL (k:= ?_)|(refine cZ (id:=91) hty rfl rfl rfl rfl rfl rfl rfl (by omega) (by omega) ?_)|(refine⟨_,hrow, ?_⟩)|(refine aD [] e1 trivial (λr hs=> ?_);subst hs)|(refine aD [] e2 trivial (λr hs=> ?_);subst hs)|refine dwR ?_|((first|refine aB ?_ ?_|refine aC ?_ ?_)<;>intro hb<;>(first|exact ddX hb|try simp only [lnS]at hb))|(refine aA ?_ ?_<;>intro hb<;>try exact dsX hb))<;>(conv=>whnf)))
 all_goals (clear e1 e2 hrow hE;refine aX (Eq.symm ?_);show bA _ x=_;simp only [bA,jF,List.getElem_cons_succ,List.getElem_cons_zero,Bool.true_or,Bool.false_or,Bool.true_and];simp_all [jF]<;>omega)
theorem aJw (x:Ax) (hk:x.kind=8):Tri Tryz.prog 77 [.d (.agg (axR x))] NG (λr=>r= .d (.bool (bJ x))):=by
 have e1:=bD x.left
 have e2:=bD x.right
 rw [aL]at e1 e2
 have hrow:=oX (k:=x.kind) 8 (by decide) hk
 have hE:bJ x=bA (jF[8]'(by decide)) x:=by rw [bJ,if_neg (by omega),hk];rfl
 rw [hE]
 refine aF false [1,3] hty Tryz.func77 rfl (kp [0,1,2,3,11]) [] _ _ _ (by simp [Tryz.f77]) (by decide) ?_
 ((conv=>whnf);repeat ((first|(intro hq;try simp only [lnS]at hq)|refine sI ?_|refine .intro _ (.intro rfl ?_));(conv=>whnf)))
 refine aB (λh1=>by omega) (λh1=> ?_)
 ((conv=>whnf);repeat ((first|(intro hq;try simp only [lnS]at hq)|refine sI ?_|refine .intro _ (.intro rfl ?_));(conv=>whnf)))
 refine aB (λh2=>by omega) (λh2=> ?_)
 ((conv=>whnf);repeat' ((first|(intro hq;(try simp only [lnS]at hq);(try rewrite [List.length_map]))|refine sJ ?_|refine .intro _ (.intro rfl ?_)|refine exL (k:= ?_)|(refine cZ (id:=91) hty rfl rfl rfl rfl rfl rfl rfl (by omega) (by omega) ?_)|(refine⟨_,hrow, ?_⟩)|(refine aD [] e1 trivial (λr hs=> ?_);subst hs)|(refine aD [] e2 trivial (λr hs=> ?_);subst hs)|refine dwR ?_|((first|refine aB ?_ ?_|refine aC ?_ ?_)<;>intro hb<;>(first|exact ddX hb|try simp only [lnS]at hb))|(refine aA ?_ ?_<;>intro hb<;>try exact dsX hb))<;>(conv=>whnf)))
 all_goals (clear e1 e2 hrow hE;refine aX (Eq.symm ?_);show bA _ x=_;simp only [bA,jF,List.getElem_cons_succ,List.getElem_cons_zero,Bool.true_or,Bool.false_or,Bool.true_and];simp_all [jF]<;>omega)
theorem aJv (x:Ax) (hk:x.kind=9):Tri Tryz.prog 77 [.d (.agg (axR x))] NG (λr=>r= .d (.bool (bJ x))):=by
 have e1:=bD x.left
 have e2:=bD x.right
 rw [aL]at e1 e2
 have hrow:=oX (k:=x.kind) 9 (by decide) hk
 have hE:bJ x=bA (jF[9]'(by decide)) x:=by rw [bJ,if_neg (by omega),hk];rfl
 rw [hE]
 refine aF false [1,3] hty Tryz.func77 rfl (kp [0,1,2,3,11]) [] _ _ _ (by simp [Tryz.f77]) (by decide) ?_
 ((conv=>whnf);repeat ((first|(intro hq;try simp only [lnS]at hq)|refine sI ?_|refine .intro _ (.intro rfl ?_));(conv=>whnf)))
 refine aB (λh1=>by omega) (λh1=> ?_)
 ((conv=>whnf);repeat ((first|(intro hq;try simp only [lnS]at hq)|refine sI ?_|refine .intro _ (.intro rfl ?_));(conv=>whnf)))
 refine aB (λh2=>by omega) (λh2=> ?_)
 ((conv=>whnf);repeat' ((first|(intro hq;(try simp only [lnS]at hq);(try rewrite [List.length_map]))|refine sJ ?_|refine .intro _ (.intro rfl ?_)|refine exL (k:= ?_)|(refine cZ (id:=91) hty rfl rfl rfl rfl rfl rfl rfl (by omega) (by omega) ?_)|(refine⟨_,hrow, ?_⟩)|(refine aD [] e1 trivial (λr hs=> ?_);subst hs)|(refine aD [] e2 trivial (λr hs=> ?_);subst hs)|refine dwR ?_|((first|refine aB ?_ ?_|refine aC ?_ ?_)<;>intro hb<;>(first|exact ddX hb|try simp only [lnS]at hb))|(refine aA ?_ ?_<;>intro hb<;>try exact dsX hb))<;>(conv=>whnf)))
 all_goals (clear e1 e2 hrow hE;refine aX (Eq.symm ?_);show bA _ x=_;simp only [bA,jF,List.getElem_cons_succ,List.getElem_cons_zero,Bool.true_or,Bool.false_or,Bool.true_and];simp_all [jF]<;>omega)
theorem aJz (x:Ax) (hk:x.kind=5):Tri Tryz.prog 77 [.d (.agg (axR x))] NG (λr=>r= .d (.bool (bJ x))):=by
 have e1:=bD x.left
 have e2:=bD x.right
 rw [aL]at e1 e2
 have hrow:=oX (k:=x.kind) 5 (by decide) hk
 have hE:bJ x=bA (jF[5]'(by decide)) x:=by rw [bJ,if_neg (by omega),hk];rfl
 rw [hE]
 refine aF false [1,3] hty Tryz.func77 rfl (kp [0,1,2,3,11]) [] _ _ _ (by simp [Tryz.f77]) (by decide) ?_
 ((conv=>whnf);repeat ((first|(intro hq;try simp only [lnS]at hq)|refine sI ?_|refine .intro _ (.intro rfl ?_));(conv=>whnf)))
 refine aB (λh1=>by omega) (λh1=> ?_)
 ((conv=>whnf);repeat ((first|(intro hq;try simp only [lnS]at hq)|refine sI ?_|refine .intro _ (.intro rfl ?_));(conv=>whnf)))
 refine aB (λh2=>by omega) (λh2=> ?_)
 ((conv=>whnf);repeat' ((first|(intro hq;(try simp only [lnS]at hq);(try rewrite [List.length_map]))|refine sJ ?_|refine .intro _ (.intro rfl ?_)|refine exL (k:= ?_)|(refine cZ (id:=91) hty rfl rfl rfl rfl rfl rfl rfl (by omega) (by omega) ?_)|(refine⟨_,hrow, ?_⟩)|(refine aD [] e1 trivial (λr hs=> ?_);subst hs)|(refine aD [] e2 trivial (λr hs=> ?_);subst hs)|refine dwR ?_|((first|refine aB ?_ ?_|refine aC ?_ ?_)<;>intro hb<;>(first|exact ddX hb|try simp only [lnS]at hb))|(refine aA ?_ ?_<;>intro hb<;>try exact dsX hb))<;>(conv=>whnf)))
 all_goals (clear e1 e2 hrow hE;refine aX (Eq.symm ?_);show bA _ x=_;simp only [bA,show (jF[5]'(by decide)).left=false from rfl,show (jF[5]'(by decide)).right=false from rfl,show (jF[5]'(by decide)).role=true from rfl,show (jF[5]'(by decide)).a=false from rfl,show (jF[5]'(by decide)).b=false from rfl,Bool.true_or,Bool.false_or,Bool.true_and];have hl:(jF[5]'(by decide)).least=(5:Int) - 4:=rfl;have hm:(jF[5]'(by decide)).most=3 * (5:Int) - 14:=rfl;simp_all<;>omega)
theorem aJy (x:Ax) (hk:x.kind=6):Tri Tryz.prog 77 [.d (.agg (axR x))] NG (λr=>r= .d (.bool (bJ x))):=by
 have e1:=bD x.left
 have e2:=bD x.right
 rw [aL]at e1 e2
 have hrow:=oX (k:=x.kind) 6 (by decide) hk
 have hE:bJ x=bA (jF[6]'(by decide)) x:=by rw [bJ,if_neg (by omega),hk];rfl
 rw [hE]
 refine aF false [1,3] hty Tryz.func77 rfl (kp [0,1,2,3,11]) [] _ _ _ (by simp [Tryz.f77]) (by decide) ?_
 ((conv=>whnf);repeat ((first|(intro hq;try simp only [lnS]at hq)|refine sI ?_|refine .intro _ (.intro rfl ?_));(conv=>whnf)))
 refine aB (λh1=>by omega) (λh1=> ?_)
 ((conv=>whnf);repeat ((first|(intro hq;try simp only [lnS]at hq)|refine sI ?_|refine .intro _ (.intro rfl ?_));(conv=>whnf)))
 refine aB (λh2=>by omega) (λh2=> ?_)
 ((conv=>whnf);repeat' ((first|(intro hq;(try simp only [lnS]at hq);(try rewrite [List.length_map]))|refine sJ ?_|refine .intro _ (.intro rfl ?_)|refine exL (k:= ?_)|(refine cZ (id:=91) hty rfl rfl rfl rfl rfl rfl rfl (by omega) (by omega) ?_)|(refine⟨_,hrow, ?_⟩)|(refine aD [] e1 trivial (λr hs=> ?_);subst hs)|(refine aD [] e2 trivial (λr hs=> ?_);subst hs)|refine dwR ?_|((first|refine aB ?_ ?_|refine aC ?_ ?_)<;>intro hb<;>(first|exact ddX hb|try simp only [lnS]at hb))|(refine aA ?_ ?_<;>intro hb<;>try exact dsX hb))<;>(conv=>whnf)))
 all_goals (clear e1 e2 hrow hE;refine aX (Eq.symm ?_);show bA _ x=_;simp only [bA,show (jF[6]'(by decide)).left=false from rfl,show (jF[6]'(by decide)).right=false from rfl,show (jF[6]'(by decide)).role=true from rfl,show (jF[6]'(by decide)).a=false from rfl,show (jF[6]'(by decide)).b=false from rfl,Bool.true_or,Bool.false_or,Bool.true_and];have hl:(jF[6]'(by decide)).least=(6:Int) - 4:=rfl;have hm:(jF[6]'(by decide)).most=3 * (6:Int) - 14:=rfl;simp_all<;>omega)
theorem aBb (x:Ax):Tri Tryz.prog 77 [.d (.agg (axR x))] NG (λr=>r= .d (.bool (bJ x))):=by
 by_cases hk:1<=x.kind/\x.kind<=9
 ·rcases(show x.kind=1\/x.kind=2\/x.kind=3\/x.kind=4\/x.kind=5\/x.kind=6\/x.kind=7\/x.kind=8\/x.kind=9 by omega)with h|h|h|h|h|h|h|h|h
  ·exact aK3 x h
  ·exact aK2 x h
  ·exact aK1 x h
  ·exact aK0 x h
  ·exact aJz x h
  ·exact aJy x h
  ·exact aJx x h
  ·exact aJw x h
  ·exact aJv x h
 ·have hE:bJ x=false:=by rw [bJ,if_pos (by omega)]
  rw [hE]
  refine aF false [1,3] hty Tryz.func77 rfl (kp [0,1,2,3,11]) [] _ _ _ (by simp [Tryz.f77]) (by decide) ?_
  ((conv=>whnf);repeat ((first|(intro hq;try simp only [lnS]at hq)|refine sI ?_|refine .intro _ (.intro rfl ?_));(conv=>whnf)))
  refine aB (λh1=> ?_) (λh1=> ?_)
  ·((conv=>whnf);repeat' ((first|(intro hq;(try simp only [lnS]at hq);(try rewrite [List.length_map]))|refine sJ ?_|refine .intro _ (.intro rfl ?_)|refine exL (k:= ?_)|refine dwR ?_|((first|refine aB ?_ ?_|refine aC ?_ ?_)<;>intro hb<;>(first|exact ddX hb|try simp only [lnS]at hb))|(refine aA ?_ ?_<;>intro hb<;>try exact dsX hb))<;>(conv=>whnf)))
   rfl
  ·((conv=>whnf);repeat ((first|(intro hq;try simp only [lnS]at hq)|refine sI ?_|refine .intro _ (.intro rfl ?_));(conv=>whnf)))
   refine aB (λh2=> ?_) (λh2=>by omega)
   ((conv=>whnf);repeat' ((first|(intro hq;(try simp only [lnS]at hq);(try rewrite [List.length_map]))|refine sJ ?_|refine .intro _ (.intro rfl ?_)|refine exL (k:= ?_)|refine dwR ?_|((first|refine aB ?_ ?_|refine aC ?_ ?_)<;>intro hb<;>(first|exact ddX hb|try simp only [lnS]at hb))|(refine aA ?_ ?_<;>intro hb<;>try exact dsX hb))<;>(conv=>whnf)))
   rfl
def pQ (u:Use) (x:Ax):Bool:= !((u.role && !cF x.role) || ((u.a && !iB x.a) || (u.b && !iB x.b))) && x.roles.all cF
theorem aOt {p:List UInt8->Bool}{l:List (List UInt8)}{j:Nat}(h:j < l.length) (h1:(l.take j).all p=true) (h2:p l[j]=true):(l.take (j+1)).all p=true:=by
 rw [List.take_succ_eq_append_getElem h,List.all_append,h1];simp [h2]
theorem aD3 (x:Ax) (u:Use):Tri Tryz.prog 78 [.d (.agg (axR x)), .d (.agg (aRd u))] [] (λr=>r= .d (.bool (pQ u x))):=by
 refine aF false [2,3] hty Tryz.func78 rfl (kp [0,1,2,3,4,6,34,36,37,38,39,44]) [] _ _ _ (by simp [Tryz.f78]) (by simp) ?_
 ((conv=>whnf);repeat' ((first|(intro hq;(try simp only [lnS]at hq);(try rewrite [List.length_map]))|refine sJ ?_|refine .intro _ (.intro rfl ?_)|refine exL (k:= ?_)|(refine aD [] (jM _) trivial (λr hs=> ?_);subst hs)|(refine aD [] (xT _) trivial (λr hs=> ?_);subst hs)|refine dwR ?_|((first|refine aB ?_ ?_|refine aC ?_ ?_)<;>intro hb<;>(first|exact ddX hb|try simp only [lnS]at hb))|(refine aA ?_ ?_<;>intro hb<;>try exact dsX hb))<;>(conv=>whnf)))
 all_goals first
  |(refine aX (Eq.symm ?_);unfold pQ;simp_all;done)
  |skip
 all_goals (
  have hN:pQ u x=x.roles.all cF:=by unfold pQ;simp_all
  rw [hN]
  refine aG hty (λj:Nat=>([(36, .d (.sl 1 (x.roles.map bN))),(37, .d (.int .i64 x.roles.length)),(38, .d (.int .i64 j))],[])) (λj=>j<=x.roles.length/\(x.roles.take j).all cF=true) (λj=>x.roles.length - j) 0 ⟨by omega,by simp⟩ ⟨by repeat' (first|exact trivial|exact rfl|(rw [List.length_map];exact rfl)|refine And.intro ?_ ?_),trivial⟩ ?_
  rintro j ⟨hj,hn⟩
  ((conv=>whnf);repeat ((first|(intro hq;try simp only [lnS]at hq)|refine sI ?_|refine .intro _ (.intro rfl ?_));(conv=>whnf)))
  refine aB (λh1=> ?_) (λh1=> ?_)
  ·have hjl:j < x.roles.length:=by omega
   have hrow:(x.roles.map bN)[(j:Int).toNat]? =some (bN x.roles[j]):=bC hjl
   ((conv=>whnf);repeat ((first|(refine⟨_,hrow, ?_⟩)|(intro hq;try simp only [lnS]at hq)|refine sI ?_|refine .intro _ (.intro rfl ?_));(conv=>whnf)))
   refine aD [] (jM x.roles[j]) trivial (λr hs=> ?_)
   subst hs
   cases hb2:cF x.roles[j]
   ·((conv=>whnf);repeat' ((first|(intro hq;(try simp only [lnS]at hq);(try rewrite [List.length_map]))|refine sJ ?_|refine .intro _ (.intro rfl ?_)|refine exL (k:= ?_)|refine dwR ?_|((first|refine aB ?_ ?_|refine aC ?_ ?_)<;>intro hb<;>(first|exact ddX hb|try simp only [lnS]at hb))|(refine aA ?_ ?_<;>intro hb<;>try exact dsX hb))<;>(conv=>whnf)))
    exact aX (List.all_eq_false.2 ⟨_,List.getElem_mem hjl,by simp [hb2]⟩).symm
   ·((conv=>whnf);repeat' ((first|(intro hq;(try simp only [lnS]at hq);(try rewrite [List.length_map]))|refine sJ ?_|refine .intro _ (.intro rfl ?_)|refine exL (k:= ?_)|refine dwR ?_|((first|refine aB ?_ ?_|refine aC ?_ ?_)<;>intro hb<;>(first|exact ddX hb|try simp only [lnS]at hb))|(refine aA ?_ ?_<;>intro hb<;>try exact dsX hb))<;>(conv=>whnf)))
    exact⟨j+1,⟨by omega,aOt hjl hn hb2⟩,by dsimp only;omega,by repeat' (first|exact trivial|exact rfl|refine And.intro ?_ ?_),trivial⟩
  ·have hjl:j=x.roles.length:=by omega
   subst hjl
   rw [List.take_length]at hn
   ((conv=>whnf);repeat' ((first|(intro hq;(try simp only [lnS]at hq);(try rewrite [List.length_map]))|refine sJ ?_|refine .intro _ (.intro rfl ?_)|refine exL (k:= ?_)|refine dwR ?_|((first|refine aB ?_ ?_|refine aC ?_ ?_)<;>intro hb<;>(first|exact ddX hb|try simp only [lnS]at hb))|(refine aA ?_ ?_<;>intro hb<;>try exact dsX hb))<;>(conv=>whnf)))
   exact aX hn.symm)
end Go.Proofs.YtfhoddcminbffaaGreatDoor
