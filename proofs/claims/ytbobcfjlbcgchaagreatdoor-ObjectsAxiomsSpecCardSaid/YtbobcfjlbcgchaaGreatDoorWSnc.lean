/-
  Rows known cell by cell: at a call's begin and end.
  Conditions: none.
-/
import Derived.Test.YtbobcfjlbcgchaaGreatDoorWSna
import Derived.Lib.AppendZerosOnto
set_option linter.unnecessarySimpa false
set_option linter.unusedSectionVars false
set_option linter.unusedSimpArgs false
set_option linter.unusedVariables false
namespace Go.Proofs.YtbobcfjlbcgchaaGreatDoor
section
open Go.RowKit
section
variable {P:Program}
def slT (ti:TypeId->Option TI) (t:TypeId):Option (TypeId×TI):=
 match ti t with
 |some { td:= .slice e, .. }=>(match ti e with|some T=>some (e,T)|none=>none)
 |_=>none
theorem aCy {ti:TypeId->Option TI}(hti:fH P ti) {t e:TypeId}{T:TI}(h:slT ti t=some (e,T)):P.underlying t=some (.slice e)/\ ∃d i z,TIok P e T d i z:=by
 unfold slT at h
 split at h
 ·rename_i e' _ _ _ a
  obtain⟨d,i,z,a⟩:=aO (hti _ _ a)
  have c:=cK a.td
  subst c
  split at h
  ·rename_i T' b
   simp only [Option.some.injEq,Prod.mk.injEq]at h
   obtain⟨rfl,rfl⟩:=h
   exact⟨a.und,aO (hti _ _ b)⟩
  ·cases h
 ·cases h
theorem aRm {ti:TypeId->Option TI}(hti:fH P ti) {o:Oper}{t e:TypeId}{T:TI}{x:Operand}{lo hi:Option Operand}(ho:o.op= .slice t x lo hi none) (hT:slT ti t=some (e,T)) {a:Act}{A:Option Addr}{len cap a' b m':Nat}
  (e1:a.eval x= .slice A len cap) {w':World} (e2:(Instr.sliceBounds true len cap (lo.map a.eval) (hi.map a.eval) none).run P w'= .ok (a',b,m') w'):
  (execOp a.eval o).run P w'= .ok (.value (.slice (if m'=a' then A else A.map (·.add (a' * T.size))) (b - a') (m' - a'))) w':=by
 obtain⟨f,d,i,z,c⟩:=aCy hti hT
 simp [execOp,ho,Instr.sliceAt,run_underlying f,Instr.slice,e1,e2,c.run_size]
end
section
variable {P:Program}
def bD5 (P:Program) (t:TypeId):Bool:= !P.eqGuardType P.depth t
def vM (td:TD):List D->List D->Option Bool
 | [],[]=>some true
 |x::xs,y::ys=>match aIh td x y with
  |some c=>match vM td xs ys with|some b=>some (c && b)|none=>none
  |none=>none
 |_,_=>none
theorem aIi {td:TD}: ∀{xs ys:List D}{b:Bool},vM td xs ys=some b->xs.length=ys.length
 | [],[],_,_=>rfl
 |x::xs,y::ys,b,h=>by
  simp only [vM]at h
  split at h
  ·split at h
   ·rename_i a
    simp [aIi a]
   ·cases h
  ·cases h
 | [],_::_,_,h=>by simp [vM]at h
 |_::_,[],_,h=>by simp [vM]at h
theorem aH0 {t:TypeId}{T:TI}{dd:TypeDesc}{i:TypeInfo}{z:Value}(hT:TIok P t T dd i z) (ha:T.td.isAgg=false) {w:World}{S:Nat->Nat->Prop}(d:Nat) (w':World): ∀(xs ys:List D) (b:Bool) (k:Nat) (us vs:Array Value),vM T.td xs ys=some b->
  (∀(j:Nat) (x:D),xs[j]? =some x-> ∃u,us[k+j]? =some u/\RepD w S x u)->(∀(j:Nat) (x:D),ys[j]? =some x-> ∃u,vs[k+j]? =some u/\RepD w S x u)->
  (forIn (m := Sem) (List.range' k xs.length) ((none, ()) : Option Bool × Unit) (λi _ => do
    let x <-part t us i
    let y <-part t vs i
    let c <-Op.equalIn (d+1) t x y
    if (!c)=true then pure (ForInStep.done (some false,()))else pure (ForInStep.yield (none,())))).run P w'= .ok ((if b then none else some false),()) w'
 | [],[],b,k,us,vs,h,_,_=>by
  simp [vM]at h
  subst h
  simp
 |x::xs,y::ys,b,k,us,vs,h,hx,hy=>by
  simp only [vM]at h
  split at h
  ·rename_i c s
   split at h
   ·rename_i p f
    injection h with h
    obtain⟨u,n,C⟩:=hx 0 x rfl
    obtain⟨v,o,r⟩:=hy 0 y rfl
    have B:=aD5 (P:=P) s C r hT rfl d w'
    have A := aH0 hT ha d w' xs ys p (k + 1) us vs f (λj a l => by
     obtain⟨q,g,e⟩:=hx (j+1) a (by simpa using l)
     exact⟨q,by rw [<-g];congr 1;omega,e⟩) (λj a l=>by
     obtain⟨q,g,e⟩:=hy (j+1) a (by simpa using l)
     exact⟨q,by rw [<-g];congr 1;omega,e⟩)
    simp only [Nat.add_zero]at n o
    simp only [List.length_cons,List.range'_succ,List.forIn_cons,Sem.run_bind,lA hT,ha,Bool.false_eq_true,if_false,n,o,Result.andThen_ok,B,Sem.run_ite]
    cases c
    ·simp at h
     subst h
     simp
    ·simp at h
     subst h
     simpa using A
   ·cases h
  ·cases h
 | [],_::_,_,_,_,_,h,_,_=>by simp [vM]at h
 |_::_,[],_,_,_,_,h,_,_=>by simp [vM]at h
theorem zU {t e:TypeId}{n:Nat}{T:TI}{dd:TypeDesc}{i:TypeInfo}{z:Value}(ht:P.underlying t=some (.array n e)) (hT:TIok P e T dd i z) (h1:T.size=1) {d:Nat}{us vs:Array Value}{w':World}{b:Bool}
  (h : (forIn (m := Sem) (List.range' 0 n) ((none, ()) : Option Bool × Unit) (λi _ => do
    let x <-part e us i
    let y <-part e vs i
    let c <-Op.equalIn (d+1) e x y
    if (!c)=true then pure (ForInStep.done (some false,()))else pure (ForInStep.yield (none,())))).run P w'= .ok ((if b then none else some false),()) w'):
  (Op.equalIn (d+2) t (.agg us) (.agg vs)).run P w'= .ok b w':=by
 rw [Op.equalIn]
 simp only [Sem.run_bind,run_underlying ht,Result.andThen_ok,hT.run_size w',h1,Nat.mul_one]
 rw [Std.Legacy.Range.forIn_eq_forIn_range']
 simp only [Std.Legacy.Range.size,Nat.sub_zero,Nat.add_sub_cancel,Nat.div_one]
 first|rw [h]|erw [h]
 cases b<;>simp
theorem bAn {ti:TypeId->Option TI}(hti:fH P ti) {o:Oper}{t t' e:TypeId}{n:Nat}{x y:Operand}(ho:o.op= .binOp .eql t x y t') {Ts T:TI}(hT:ti t=some Ts) (htd:Ts.td= .array n e) (hE:ti e=some T) (ha:T.td.isAgg=false) (h1:T.size=1) (hg:bD5 P t=true) {fr:Fr}{hp:Hp}{K:SV->Prop}{xs ys:List D}{b:Bool}
  (hx:evO fr x=some (.d (.agg xs))) (hy:evO fr y=some (.d (.agg ys))) (hn:xs.length=n) (hb:vM T.td xs ys=some b) (hk:K (.d (.bool b))):cG P o fr hp K:=by
 intro E ρ a w hm q
 obtain⟨i,e1,hl1,m⟩:=(aV q hx).dagg_inv
 obtain⟨vs,e2,hl2,k⟩:=(aV q hy).dagg_inv
 obtain⟨p,i0,z0,f⟩:=aO (hti _ _ hT)
 obtain⟨d1,i1,z1,g⟩:=aO (hti _ _ hE)
 have u:p= .array n e:=by
  have:=f.td
  rw [htd]at this
  cases p<;>simp [aGv]at this
  obtain⟨rfl,rfl⟩:=this
  rfl
 subst u
 have hlen:=aIi hb
 refine⟨.bool b,_,λw' _=> ?_, .d _ _ (.bool _),hk⟩
 have s:P.eqGuardType P.depth t=false:=by simpa [bD5]using hg
 have c := aH0 (P := P) g ha (w := w) (S := ρ.S) 9998 w' xs ys b 0 i vs hb (λj x h => by
  have r:=(List.getElem?_eq_some_iff.1 h).1
  exact⟨i[j]'(by omega),by rw [Nat.zero_add];exact Array.getElem?_eq_getElem (by omega),m j x _ h (Array.getElem?_eq_getElem (by omega))⟩) (λj x h=>by
  have r:=(List.getElem?_eq_some_iff.1 h).1
  exact⟨vs[j]'(by omega),by rw [Nat.zero_add];exact Array.getElem?_eq_getElem (by omega),k j x _ h (Array.getElem?_eq_getElem (by omega))⟩)
 have l:(Op.equalIn 10000 t (.agg i) (.agg vs)).run P w'= .ok b w':=zU f.und g h1 (by rw [<-hn];exact c)
 simp only [execOp,ho,e1,e2,Sem.run_bind,run_eqGuard_agg w' _ t x y i vs s,Result.andThen_ok,run_eql_struct,l]
 rfl
theorem dE {ti:TypeId->Option TI}(hti:fH P ti) {o:Oper}{t e:TypeId}{g m z:Nat}{y:Operand}(ho:o.op= .indexAddr t (.global g) y) {Ts T:TI}(hT:ti t=some Ts) (htd:Ts.td= .array m e) (hE:ti e=some T) {fr:Fr}{hp:Hp}{K:SV->Prop}{id:Nat}{rows:List (List D)}
  (hg:aP hp id=some (.glob g z rows)) (hz:T.size=z) {k:IntKind} {n:Int} (hy:evO fr y=some (.d (.int k n))) (h0:0<=n) (h1:n.toNat < m) (hk:K (.ea z rows n.toNat 0)):cG P o fr hp K:=by
 intro E ρ a w f l
 have h:=(aV l hy).int_inv
 obtain⟨i,i0,z0,b⟩:=aO (hti _ _ hT)
 obtain⟨d1,i1,z1,c⟩:=aO (hti _ _ hE)
 have p:i= .array m e:=by
  have:=b.td
  rw [htd]at this
  exact mQ this
 subst p
 have j:View w ρ.S z rows g 0:=f.sat id _ hg
 have e1:a.eval (.global g)= .pointer (some ⟨g,0,none⟩):=rfl
 refine⟨.pointer (some (Addr.add ⟨g,0,none⟩ (n.toNat * T.size))),_,λw' _=> ?_, ?_,hk⟩
 ·have:=iJ (P:=P) b.und c w' ⟨g,0,none⟩ k n h0 h1
  simp [execOp,ho,e1,h,this]
 ·rw [cW,hz]
  exact .ea z rows n.toNat 0 g 0 j
theorem aX2 {o:Oper}{x y:Operand}{ts:Array TypeId}(ho:o.op= .call { callee:= .builtin .max,args:= #[x,y],argTypes:=ts }) {pin:Pin}{fr:Fr}{hp:Hp}{K:SV->Hp->Prop}{k k':IntKind}{a b:Int}
  (hx:evO fr x=some (.d (.int k a))) (hy:evO fr y=some (.d (.int k' b))) (hk:K (.d (.int k (max a b))) hp):aT P o pin fr hp K:=by
 intro E ρ h w _ f e next Q g
 have e1:=(aV e hx).int_inv
 have e2:=(aV e hy).int_inv
 have c:(execOp h.eval o).run P w= .ok (.value (.int k (max a b))) w:=by
  have:(if b >a then b else a)=max a b:=by omega
  simp [aU ho,builtin,Builtin.max_,Builtin.max2,e1,e2,this]
 exact bW c (g _ _ ρ _ _ hk f e (.d _ _ (.int _ _)))
theorem aK.mownC {C:Cfg}{c:Code}{fr:Fr}{hp:Hp}{K:Ex->Fr->Hp->Prop}(i id t e z k:Nat) {cs:List SV}(hnil:aP hp i=some (.cells t cs)) (hk:cs[k]? =some (.d .nil)) (hfr:fE id C.pin fr hp)
  (h:aK C c fr ((id, .mrow e z 0 [])::eY hp i (.cells t (cs.set k (.mw id z 0)))) K):aK C c fr hp K:=by
 intro E a w f p l
 obtain⟨D,B,ρ,L,H⟩:=l
 obtain⟨y,G,s⟩:=hfr
 obtain⟨u,A,J⟩:=L.newMrow (id:=id) (e:=e) (z:=z) (cap:=0) (rows:=[]) (v:= .slice none 0 0) s (by rw [f];exact y) (Grew.refl w) (.inl ⟨rfl,rfl,none,rfl⟩) (λg F=>by simp [gB]at F)
 have m:i≠id:= λe=>s (by subst e;exact bR hnil (.inl rfl))
 have o:aP ((id,HObj.mrow e z 0 [])::hp) i=some (.cells t cs):=by
  simp only [aP];rw [if_neg (Ne.symm m)];exact hnil
 have n:k < cs.length:=(List.getElem?_eq_some_iff.1 hk).1
 have q := u.recell o (cs' := cs.set k (.mw id z 0)) (by simp) (λj s' v b r => by
  by_cases e:j=k
  ·subst e
   rw [List.getElem?_set_self n]at b
   injection b with b
   subst b
   have:=(r _ hk).nil_inv
   subst this
   exact .mw id z 0 0 none (by simp) (by simp) (λh=>absurd rfl h) (by simp) (by simp [Env.retop])
  ·rw [List.getElem?_set_ne (Ne.symm e)]at b
   exact r _ b)
 have e2:eY ((id,HObj.mrow e z 0 [])::hp) i (.cells t (cs.set k (.mw id z 0)))=(id, .mrow e z 0 [])::eY hp i (.cells t (cs.set k (.mw id z 0))):=by
  simp only [eY];rw [if_neg (Ne.symm m)]
 rw [e2]at q
 exact h E a w f p ⟨D,B,_,q,H.mono (ρ':=ρ.retop id 0 (.slice none 0 0)) A (λ_ _ x=>x) λj I=>J j λe=>G (e ▸ I)⟩
end
section
variable {P:Program}
end
end
end Go.Proofs.YtbobcfjlbcgchaaGreatDoor
