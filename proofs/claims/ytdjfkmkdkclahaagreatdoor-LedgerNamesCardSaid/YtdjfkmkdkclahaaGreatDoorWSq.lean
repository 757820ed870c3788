/-
  Contracts of functions that leave what was there alone; loops; statements whose order is open. Loops; statements whose order is open and that only read. How the symbolic walk is reckoned by rewriting: what is looked into, and what is left closed. Calls that are walked into; scopes with a label; loops that are unrolled. Statements whose order is open, and that make memory, append, call or store.
  Conditions: none.
-/
import Derived.Test.YtdjfkmkdkclahaaGreatDoorWSl
import Derived.Deep.LoopGhost
import Derived.Sort.LoopGhostIn
import Derived.OrdersIn
set_option linter.unusedSectionVars false
set_option linter.unusedSimpArgs false
set_option linter.unusedVariables false
namespace Go.Proofs.YtdjfkmkdkclahaaGreatDoor
section
open Go.RowKit
section
variable {P:Program}
def RO (w:World) (ρ:Env) (id:Nat):HObj->Prop
 | .cells t cs=> ∃g,ρ.blk id=some g/\cI w ρ g t cs
 | .ro t cs=> ∃g,ρ.blk id=some g/\cI w ρ g t cs
 | .own _ _ _=>True
 | .mrow _ _ _ _=>True
 | .loop _ _=>True
 | .ext X=> ∃g o,ρ.blk id=some g/\w.heap[g]? =some o/\X.sat w ρ o
 | .glob g z rows=>View w ρ.S z rows g 0
 | .rox X=> ∃g o,ρ.blk id=some g/\w.heap[g]? =some o/\X.sat w ρ o
theorem wL.ro_ {w:World}{ρ:Env}{id:Nat}{o:HObj}(h:wL w ρ id o):RO w ρ id o:=by
 cases o with
 |cells t cs=>obtain⟨g,h1,h2,_⟩:=h;exact⟨g,h1,h2⟩
 |ro t cs=>exact h
 |own=>trivial
 |mrow=>trivial
 |loop=>trivial
 |ext X=>obtain⟨g,o,h1,h2,h3,_⟩:=h;exact⟨g,o,h1,h2,h3⟩
 |glob=>exact h
 |rox=>exact h
def Tri (P:Program) (f:FuncId) (args:List SV) (hp:Hp) (post:SV->Prop):Prop:=
 ∀(w:World) (ρ:Env) (vs:Array Value),(∀b i,ρ.S b i->b < w.heap.size)->bU w ρ args vs->(∀id o,aM hp id=some o->RO w ρ id o)->
  Calls P f vs w λe w'=> ∃v S' s,e= .returned v/\post s/\Grew w w'/\(∀b i,ρ.S b i->S' b i)/\(∀b i,S' b i->ρ.S b i\/w.heap.size<=b)/\(∀b i,S' b i->b < w'.heap.size)/\Rep w' (ρ.withS S') s v
theorem Tri.mono {f:FuncId}{args:List SV}{hp:Hp}{post post':SV->Prop}(h:Tri P f args hp post) (hp': ∀s,post s->post' s):Tri P f args hp post':=
 λw ρ vs a b c=>(h w ρ vs a b c).mono λ_ _ ⟨v,S',s,h1,h2,h3⟩=>⟨v,S',s,h1,hp' s h2,h3⟩
def sA:Hp->Hp->Prop
 | [],_=>True
 |(id,o)::r,hp=>aM hp id=some o/\sA r hp
theorem eV: ∀(hp' hp:Hp),sA hp' hp-> ∀id o,aM hp' id=some o->aM hp id=some o:=by
 intro hp'
 induction hp' with
 |nil=>intro hp _ id o h;simp [aM]at h
 |cons p r ih=>
  obtain⟨k,x⟩:=p
  intro hp h id o hg
  simp only [aM]at hg
  by_cases e:k=id
  ·subst e;simp at hg;subst hg;exact h.1
  ·simp [e]at hg;exact ih hp h.2 id o hg
theorem bP {pin:Pin}{fr:Fr}{hp:Hp}{f:FuncId}{args:List SV}{K:SV->Hp->Prop}(hpc:Hp) {post:SV->Prop}(hc:Tri P f args hpc post) (hsub:sA hpc hp) (hk: ∀s,post s->K s hp):aF P pin fr hp f args K:=by
 intro E ρ w tm _ hm hf vs hv
 refine(hc w ρ vs hm.slt hv λid o ho=>(hm.sat id o (eV _ _ hsub id o ho)).ro_).mono ?_
 rintro e w' ⟨v,S',s,h1,h2,h3,h4,h5,h6,h7⟩
 obtain⟨m1,m2⟩:=hm.grow h3 S' h4 h5 h6
 exact .inl ⟨v,_,s,hp,h1,hk s h2,m1,m2 fr tm hf,h7⟩
theorem qT {pin:Pin}{fr:Fr}{hp:Hp}{f:FuncId}{args:List SV}{K:SV->Hp->Prop}{s:SV}(hc:Tri P f args [] (λr=>r=s)) (k:K s hp):aF P pin fr hp f args K:=bP [] hc trivial λr hs=>by subst hs;exact k
def dK:Nat->List SV->Fr
 |_,[]=>[]
 |k,s::r=>(k,s)::dK (k+1) r
theorem dD: ∀(l:List SV) (k t:Nat) (s:SV),dE (dK k l) t=some s->k<=t/\l[t - k]? =some s:=by
 intro l
 induction l with
 |nil=>intro k t s h;simp [dK,dE]at h
 |cons x r ih=>
  intro k t s h
  simp only [dK,dE]at h
  by_cases e:k=t
  ·subst e;simp at h;subst h;exact⟨Nat.le_refl _,by simp⟩
  ·simp [e]at h
   obtain⟨h1,h2⟩:=ih (k+1) t s h
   refine⟨by omega, ?_⟩
   obtain⟨q,hq⟩: ∃q,t - k=q+1:=⟨t - (k+1),by omega⟩
   rw [hq,List.getElem?_cons_succ]
   rw [<-h2];congr 1;omega
def roH:Hp->Hp
 | []=>[]
 |(id, .cells t cs)::r=>(id, .ro t cs)::roH r
 |(id, .ro t cs)::r=>(id, .ro t cs)::roH r
 |(_, .own _ _ _)::r=>roH r
 |(_, .mrow _ _ _ _)::r=>roH r
 |(_, .loop _ _)::r=>roH r
 |(id, .ext X)::r=>(id, .rox X)::roH r
 |(id, .rox X)::r=>(id, .rox X)::roH r
 |(id, .glob g z rows)::r=>(id, .glob g z rows)::roH r
theorem eN: ∀(hp:Hp) (id:Nat) (o:HObj),(hp.map (·.1)).Nodup->aM (roH hp) id=some o->(∃t cs,o= .ro t cs/\(aM hp id=some (.cells t cs)\/aM hp id=some (.ro t cs)))\/(∃g z rows,o= .glob g z rows/\aM hp id=some (.glob g z rows))\/ ∃X,o= .rox X/\(aM hp id=some (.ext X)\/aM hp id=some (.rox X)):=by
 intro hp
 induction hp with
 |nil=>intro id o _ h;simp [roH,aM]at h
 |cons p r ih=>
  obtain⟨k,x⟩:=p
  intro id o hnd h
  rw [List.map_cons,List.nodup_cons]at hnd
  have hno: ∀(r:Hp) o,k∉r.map (·.1)->aM (roH r) k≠some o:=by
   intro r
   induction r with
   |nil=>intro o _ h;simp [roH,aM]at h
   |cons q r ih=>
    obtain⟨k',x'⟩:=q
    intro o hk
    simp only [List.map_cons,List.mem_cons,not_or]at hk
    cases x'<;>simp only [roH,aM,if_neg (λe=>hk.1 (Eq.symm e))]<;>exact ih o hk.2
  cases x with
  |cells t cs=>
   simp only [roH,aM]at h |-
   by_cases e:k=id
   ·simp [e]at h;subst h;exact .inl ⟨t,cs,rfl, .inl (by simp [e])⟩
   ·simp [e]at h;simp only [e,if_false];exact ih id o hnd.2 h
  |ro t cs=>
   simp only [roH,aM]at h |-
   by_cases e:k=id
   ·simp [e]at h;subst h;exact .inl ⟨t,cs,rfl, .inr (by simp [e])⟩
   ·simp [e]at h;simp only [e,if_false];exact ih id o hnd.2 h
  |own a b c=>
   simp only [roH,aM]at h |-
   by_cases e:k=id
   ·subst e;exact absurd h (hno r o hnd.1)
   ·simp only [e,if_false];exact ih id o hnd.2 h
  |mrow a b c d=>
   simp only [roH,aM]at h |-
   by_cases e:k=id
   ·subst e;exact absurd h (hno r o hnd.1)
   ·simp only [e,if_false];exact ih id o hnd.2 h
  |loop a b=>
   simp only [roH,aM]at h |-
   by_cases e:k=id
   ·subst e;exact absurd h (hno r o hnd.1)
   ·simp only [e,if_false];exact ih id o hnd.2 h
  |ext X=>
   simp only [roH,aM]at h |-
   by_cases e:k=id
   ·simp [e]at h;subst h;exact .inr (.inr ⟨X,rfl, .inl (by simp [e])⟩)
   ·simp [e]at h;simp only [e,if_false];exact ih id o hnd.2 h
  |rox X=>
   simp only [roH,aM]at h |-
   by_cases e:k=id
   ·simp [e]at h;subst h;exact .inr (.inr ⟨X,rfl, .inr (by simp [e])⟩)
   ·simp [e]at h;simp only [e,if_false];exact ih id o hnd.2 h
  |glob g z rows=>
   simp only [roH,aM]at h |-
   by_cases e:k=id
   ·simp [e]at h;subst h;exact .inr (.inl ⟨g,z,rows,rfl,by simp [e]⟩)
   ·simp [e]at h;simp only [e,if_false];exact ih id o hnd.2 h
def eY (ti:TypeId->Option TI) (fr:Fr) (hp:Hp):List ResultVar->(List SV->Prop)->Prop
 | [],K=>K []
 | .tmp t::r,K=>ev fr (.tmp t) λs=>eY ti fr hp r λl=>K (s::l)
 | .cell a t::r,K=>ev fr (.tmp a) λs=>aCn ti t s hp λx=>eY ti fr hp r λl=>K (x::l)
def bY:List SV->SV
 | [s]=>s
 |l=> .tup l
def aCz (tm:Array Value):ResultVar->Sem Value
 | .tmp t=>pure (tm.getD t undef)
 | .cell x t=>do loadVar t (<-asAddr (tm.getD x undef))
def aPq:List Value->Value
 | [v]=>v
 |l=> .tuple l.toArray
theorem tR {ti:TypeId->Option TI}(hti:cG P ti) {E:Entry}{ρ:Env}{w:World}{fr:Fr}{hp:Hp}{a:Act}(hm:Mem E ρ hp w) (hf:bW ρ w fr a.tmps): ∀(rs:List ResultVar) (K:List SV->Prop),eY ti fr hp rs K->
  ∃vs l,(rs.mapM (aCz a.tmps)).run P w= .ok vs w/\vs.length=l.length/\(∀(j:Nat) (s:SV) (v:Value),l[j]? =some s->vs[j]? =some v->Rep w ρ s v)/\K l:=by
 intro rs
 induction rs with
 |nil=>intro K h;exact⟨[],[],by simp,rfl,by simp,h⟩
 |cons r rest ih=>
  intro K h
  cases r with
  |tmp t=>
   simp only [eY]at h
   obtain⟨s,hs,h⟩:=bR h
   have hr:=aR hf hs
   obtain⟨vs,l,q1,q2,q3,q4⟩:=ih _ h
   refine⟨a.tmps.getD t undef::vs,s::l, ?_,by simp [q2], ?_,q4⟩
   ·simp only [List.mapM_cons,aCz,Sem.run_bind,Sem.run_pure,Result.andThen_ok]
    rw [q1]
    simp
   ·intro j s' v hs' hv
    cases j with
    |zero=>simp at hs' hv;subst hs';rw [<-hv];simpa [Act.eval]using hr
    |succ j=>exact q3 j s' v (by simpa using hs') (by simpa using hv)
  |cell x t=>
   simp only [eY]at h
   obtain⟨s,hs,h⟩:=bR h
   have hr:=aR hf hs
   have hl:ev fr (.tmp x) λs=>aCn ti t s hp λx=>eY ti fr hp rest λl=>K (x::l):=by
    unfold ev;rw [hs];exact h
   obtain⟨v,y,p1,p2,p3⟩:=aFh (P:=P) hti (o:={ dst:=none,op:= .load t (.tmp x),type:=0,pos:= "",after:= #[],guard:=none }) rfl hl E ρ a w hm hf
   obtain⟨vs,l,q1,q2,q3,q4⟩:=ih _ p3
   have hrun:=p1 w (Kept.refl ρ hp w)
   refine⟨v::vs,y::l, ?_,by simp [q2], ?_,q4⟩
   ·have hlv:(do loadVar t (<-asAddr (a.tmps.getD x undef)):Sem Value).run P w= .ok v w:=by
     have hptr: ∃ad,a.eval (.tmp x)= .pointer (some ad):=by
      unfold aCn at h
      split at h
      ·exact h.elim
      ·split at h
       ·obtain⟨g,_,e⟩:=hr.ptr_inv;exact⟨_,e⟩
       ·obtain⟨b,o,_,e⟩:=hr.ea_inv;exact⟨_,e⟩
       ·obtain⟨ad,e,_⟩:=hr.mp_inv;exact⟨ad,e⟩
       ·exact h.elim
     obtain⟨ad,had⟩:=hptr
     have had':a.tmps.getD x undef= .pointer (some ad):=had
     simp only [execOp,Instr.loadAt,had,Instr.sureAddr,Sem.run_bind,Sem.run_pure,Result.andThen_ok]at hrun
     simp only [had',asAddr,Sem.run_bind,Sem.run_pure,Result.andThen_ok]
     cases hlv:(loadVar t ad).run P w with
     |ok u w'=>rw [hlv]at hrun;simp only [Result.andThen_ok]at hrun;injection hrun with h1 h2;injection h1 with h1;rw [h1,h2]
     |halt u w'=>rw [hlv]at hrun;simp [Result.andThen]at hrun
    simp only [List.mapM_cons,aCz,Sem.run_bind]
    simp only [Sem.run_bind]at hlv
    rw [hlv]
    simp only [Result.andThen_ok]
    rw [q1]
    simp
   ·intro j s' u hs' hu
    cases j with
    |zero=>simp at hs' hu;subst hs';subst hu;exact p2
    |succ j=>exact q3 j s' u (by simpa using hs') (by simpa using hu)
theorem eC {fn:Func}{a:Act}{w:World}{vs:List Value}(h:(fn.results.toList.mapM (aCz a.tmps)).run P w= .ok vs w):(results fn a.tmps).run P w= .ok (aPq vs) w:=by
 have e:results fn a.tmps=(do let vs <-fn.results.mapM (aCz a.tmps);pure (if h:vs.size=1 then vs[0]else .tuple vs)):=by
  unfold results
  congr 1
 have e2:(fn.results.mapM (aCz a.tmps)).run P w= .ok vs.toArray w:=by
  rw [Array.mapM_eq_mapM_toList]
  rw [map_eq_pure_bind,Sem.run_bind,h]
  rfl
 rw [e,Sem.run_bind,e2]
 simp only [Result.andThen_ok]
 match vs with
 | []=>rfl
 | [v]=>rfl
 |a::b::r=>rfl
theorem gM {w:World}{ρ:Env}{l:List SV}{vs:List Value}(hl:vs.length=l.length) (h: ∀(j:Nat) (s:SV) (v:Value),l[j]? =some s->vs[j]? =some v->Rep w ρ s v):Rep w ρ (bY l) (aPq vs):=by
 match l,vs,hl with
 | [],[],_=>exact .tup [] #[] rfl (by simp)
 | [s],[v],_=>exact h 0 s v rfl rfl
 |s::s'::r,v::v'::r',hl=>exact .tup _ _ (by simpa using hl) λj x u hx hu=>h j x u hx (by simpa using hu)
mutual
def aEh (hp:Hp):SV->(SV->Prop)->Prop
 | .osl _ z rows,K=>K (.d (.sl z rows))
 | .mw id z n, K => (match aM hp id with
  |some (.mrow _ z' _ rows)=>z=z'/\n=rows.length/\K (.d (.sl z rows))
  |_=>aD "a result: no such rows")
 | .agg cs,K=>dP hp cs λl=>K (vN l)
 | .d x,K=>K (.d x)
 | .tup _,_=>aD "a result: a tuple"
 | .ptr id off,K=>K (.ptr id off)
 | .ea z rows i off,K=>K (.ea z rows i off)
 | .msl id z off n,K=>K (.msl id z off n)
 | .fn f a b,K=>K (.fn f a b)
 | .ms _ _ _ _ _,_=>aD "a result: a part of rows"
 | .mp _ _ _ _ _,_=>aD "a result: an address in rows"
 | .zc,K=> ∃z,K (.d (.sl z []))
 | .yld _,_=>aD "a result: a round"
 | .xv _ _,_=>aD "a result: a value of another kind"
def dP (hp:Hp):List SV->(List SV->Prop)->Prop
 | [],K=>K []
 |s::r,K=>aEh hp s λx=>dP hp r λl=>K (x::l)
end
def Sfz (ρ:Env) (hp:Hp):Nat->Nat->Prop:= λb i=>ρ.S b i\/ ∃id e z cap rows,aM hp id=some (.mrow e z cap rows)/\dM (ρ.tv id)=some b/\i < rows.length * z
theorem Rep.wider {w:World}{ρ:Env}{s:SV}{v:Value}{S':Nat->Nat->Prop}(h:Rep w ρ s v) (hs: ∀b i,ρ.S b i->S' b i):Rep w (ρ.withS S') s v:=
 h.mono (λ_ _ _=>rfl) hs λid _=>ρ.moved_withS S' id
theorem aDb {E:Entry}{ρ:Env}{hp:Hp}{w:World}(hm:Mem E ρ hp w) {id e z cap:Nat}{rows:List (List D)}(ho:aM hp id=some (.mrow e z cap rows)):RepD w (Sfz ρ hp) (.sl z rows) (ρ.tv id):=by
 obtain⟨_,h2⟩:=hm.sat id _ ho
 rcases h2 with⟨rfl,_,A,e1⟩|⟨hc,g,cur,e1,q1,q2,q3,q4,q6,q7⟩
 ·rw [e1]
  exact RepD.mk_sl (b:=0) (off:=0) (by simp) (by simp) (λhne=>absurd rfl hne) ⟨by simp,by simp⟩ (by simp)
 ·rw [e1]
  have hb:dM (ρ.tv id)=some g:=by rw [e1];have:cap≠0:=(by omega);simp [dM,this]
  refine RepD.mk_sl (b:=g) (off:=0) q2 q3 (λ_=>rfl) ?_ rfl
  refine q6.view (λk v hv=> ?_) (λk hk=> ?_) (λx v hx=>hx.mono (λ_ _ _=>rfl) λb i hs=> .inl hs)
  ·rw [Nat.zero_add,cell_of_row w g k cur e (0,0) q1]
   rw [List.getElem?_take]at hv
   split at hv
   ·simpa using hv
   ·cases hv
  ·rw [Nat.zero_add]
   right
   refine⟨id,e,z,cap,rows,ho,hb, ?_⟩
   rw [q6.len]at hk;exact hk
mutual
theorem aHu {E:Entry}{ρ:Env}{hp:Hp}{w:World}(hm:Mem E ρ hp w): ∀(s:SV) (v:Value) (K:SV->Prop),Rep w ρ s v->aEh hp s K-> ∃s',K s'/\Rep w (ρ.withS (Sfz ρ hp)) s' v
 | .osl _ z rows,v,K,hr,h=>⟨_,h,(Rep.d _ _ hr.osl_inv.1:Rep w ρ (.d (.sl z rows)) v).wider λ_ _ x=> .inl x⟩
 | .mw id z n,v,K,hr,h=>by
  simp only [aEh]at h
  split at h
  ·rename_i e z' cap rows ho
   obtain⟨rfl,rfl,hk⟩:=h
   obtain⟨A,c,_,_,_,_,_,e2⟩:=hr.mw_inv
   obtain⟨q1,_⟩:=hm.sat id _ ho
   have e3:=e2 q1.symm
   subst e3
   exact⟨_,hk, .d _ _ (aDb hm ho)⟩
  ·exact h.elim
 | .agg cs,v,K,hr,h=>by
  simp only [aEh]at h
  obtain⟨vs,e,hl,hh⟩:=hr.agg_inv
  subst e
  obtain⟨l,hk,h1,h2⟩:=gJ hm cs vs.toList _ (by simpa using hl) (λj s u hs hu=>hh j s u hs (by simpa using hu)) h
  exact⟨_,hk,iS (by rw [h1];simpa using hl) λj s u hs hu=>h2 j s u hs (by simpa using hu)⟩
 | .d x,v,K,hr,h=>⟨_,h,hr.wider λ_ _ x=> .inl x⟩
 | .tup _,_,_,_,h=>h.elim
 | .ptr id off,v,K,hr,h=>⟨_,h,hr.wider λ_ _ x=> .inl x⟩
 | .ea z rows i off,v,K,hr,h=>⟨_,h,hr.wider λ_ _ x=> .inl x⟩
 | .msl id z off n,v,K,hr,h=>⟨_,h,hr.wider λ_ _ x=> .inl x⟩
 | .fn f a b,v,K,hr,h=>⟨_,h,hr.wider λ_ _ x=> .inl x⟩
 | .ms _ _ _ _ _,_,_,_,h=>h.elim
 | .mp _ _ _ _ _,_,_,_,h=>h.elim
 | .zc,v,K,hr,h=>by
  simp only [aEh]at h
  obtain⟨z,hk⟩:=h
  obtain⟨A,e⟩:=hr.zc_inv
  subst e
  exact⟨_,hk, .d _ _ (RepD.mk_sl (b:=0) (off:=0) (by simp) (by simp) (λhne=>absurd rfl hne) ⟨by simp,by simp⟩ (by simp))⟩
 | .yld _,_,_,_,h=>h.elim
 | .xv _ _,_,_,_,h=>h.elim
theorem gJ {E:Entry}{ρ:Env}{hp:Hp}{w:World}(hm:Mem E ρ hp w): ∀(l:List SV) (vs:List Value) (K:List SV->Prop),vs.length=l.length->(∀(j:Nat) (s:SV) (u:Value),l[j]? =some s->vs[j]? =some u->Rep w ρ s u)->dP hp l K->
  ∃l',K l'/\l'.length=l.length/\ ∀(j:Nat) (s:SV) (u:Value),l'[j]? =some s->vs[j]? =some u->Rep w (ρ.withS (Sfz ρ hp)) s u
 | [],vs,K,_,_,h=>⟨[],h,rfl,by simp⟩
 |s::r,[],K,hl,_,_=>by simp at hl
 |s::r,v::vs,K,hl,hh,h=>by
  simp only [dP]at h
  obtain⟨s',hk,h1⟩:=aHu hm s v _ (hh 0 s v rfl rfl) h
  obtain⟨l',hk2,h2,h3⟩:=gJ hm r vs _ (by simpa using hl) (λj s u hs hu=>hh (j+1) s u (by simpa using hs) (by simpa using hu)) hk
  refine⟨s'::l',hk2,by simp [h2],λj x u hx hu=> ?_⟩
  cases j with
  |zero=>simp at hx hu;subst hx;subst hu;exact h1
  |succ j=>exact h3 j x u (by simpa using hx) (by simpa using hu)
end
def mE (ti:TypeId->Option TI) (rs:List ResultVar) (post:SV->Prop) (e:Ex) (fr:Fr) (hp:Hp):Prop:=
 match e with
 | .ret=>eY ti fr hp rs λl=>dP hp l λl=>(bY l).ids=[]/\post (bY l)
 | .normal=>eY ti fr hp rs λl=>dP hp l λl=>(bY l).ids=[]/\post (bY l)
 |_=>aD "the end"
theorem Mem.putOther {E E':Entry}{ρ:Env}{hp:Hp}{w:World}(h:Mem E ρ hp w) {b:Nat}{o o':Obj}(hb:w.heap[b]? =some o) (ho: ∀c t q,o≠ .cells c t q) (ho': ∀c t q,o'≠ .cells c t q) (hnew:E.w.heap.size<=b) (hrx: ∀id X,aM hp id=some (.rox X)->ρ.blk id≠some b) (hat: ∀id x,aM hp id=some x->ρ.at id x≠some b)
  (hE:E'.w=E.w/\E'.S=E.S/\E'.B=E.B/\E'.pin=E.pin/\E'.ρ=E.ρ) (hD: ∀d∈E'.D,d∈E.D/\d≠b):
  Mem E' ρ hp (w.putObj b o')/\bL ρ.S w (w.putObj b o'):=by
 obtain⟨e1,e2,e3,e4,e5⟩:=hE
 have hoth: ∀k,k≠b->(w.putObj b o').heap[k]? =w.heap[k]? := λk hk=>World.putObj_heap_other hk
 have hcell: ∀k i,(w.putObj b o').cell? ⟨k,i,none⟩=w.cell? ⟨k,i,none⟩:=by
  intro k i
  by_cases e:k=b
  ·subst e
   have h1:=World.putObj_heap_same (w:=w) (r:=k) (o:=o') (aW hb)
   unfold World.cell?
   simp only [h1,hb]
   cases o<;>cases o'<;>first|rfl|exact absurd rfl (ho _ _ _)|exact absurd rfl (ho' _ _ _)
  ·exact World.cell?_of_block (w:=w) (hoth k e)
 have hk:bL ρ.S w (w.putObj b o'):= λk i _=>hcell k i
 have hro: ∀id x g,aM hp id=some x->x.Rd->ρ.blk id=some g->g≠b:=by
  rintro id x g hg1 hrd hg2 rfl
  have hs:=h.sat id _ hg1
  cases x with
  |ro t cs=>
   obtain⟨g',h1,cur,h2,_⟩:=hs
   rw [hg2]at h1;injection h1 with h1;subst h1
   rw [hb]at h2;injection h2 with h2;exact ho _ _ _ h2
  |rox X=>exact hrx id X hg1 hg2
  |_=>exact hrd.elim
 refine⟨⟨by rw [e1];exact h.os,by rw [e1];exact h.tape,by rw [e1];exact h.output,by rw [e1];simpa using h.size, ?_,by rw [e2];exact h.sold, ?_,by simpa using h.slt, ?_, ?_,h.inj, ?_, ?_,h.ro, ?_⟩,hk⟩
 ·rw [e1,e3]
  intro k hk' hB
  rw [hoth k (by omega)]
  exact h.old k hk' hB
 ·rw [e1,e2,e3];exact h.snew
 ·rw [e1,e2];exact h.kp.trans h.sold hk
 ·intro id x hx
  refine(h.sat id x hx).keep hk (λ_ _ x=>x) (λi _=>ρ.moved_refl i) ⟨rfl,rfl⟩ ?_ (λ_ _ _ x=>x)
  rintro g (hg|⟨hg,hrd⟩)
  ·exact hoth g λe=>hat id x hx (e ▸ hg)
  ·exact hoth g (hro id x g hx hrd hg)
 ·rw [e1,e3];exact h.hb
 ·rw [e4,e5];exact h.mv
 ·intro d hd
  obtain⟨d1,d2⟩:=hD d hd
  rw [hoth d d2];exact h.md d d1
theorem Mem.notDef {E:Entry}{ρ:Env}{hp:Hp}{w:World}(h:Mem E ρ hp w) {b:Nat}{x:Option (List Deferred)}(hb:w.heap[b]? =some (.deferred x)): ∀id o,aM hp id=some o->ρ.at id o≠some b:=by
 intro id o ho hat
 have hs:=h.sat id o ho
 cases o with
 |cells t cs=>
  obtain⟨g,h1,⟨cur,h2,_⟩,_⟩:=hs
  simp only [Env.at]at hat
  rw [h1]at hat;injection hat with hat;subst hat
  rw [hb]at h2;cases h2
 |ro=>simp [Env.at]at hat
 |own e z n=>
  obtain⟨_,xs,h1,_⟩:=hs
  exact iW h1 hat hb
 |mrow e z cap rows=>
  obtain⟨_,h1⟩:=hs
  obtain⟨cur,h2⟩:=h1.heap hat
  rw [hb]at h2;cases h2
 |loop L s=>
  obtain⟨g,r,h1,h2,_⟩:=hs
  simp only [Env.at]at hat
  rw [h1]at hat;injection hat with hat;subst hat
  rw [hb]at h2;cases h2
 |ext X=>
  obtain⟨g,r,h1,h2,h3,_⟩:=hs
  simp only [Env.at]at hat
  rw [h1]at hat;injection hat with hat;subst hat
  rw [hb]at h2;cases h2
  exact X.nd _ _ _ h3
 |glob=>simp [Env.at]at hat
 |rox=>simp [Env.at]at hat
theorem eX {ρ:Env}{hp:Hp}{fn:Func}{tmps:Array Value}{R:Ending->World->Prop}{u:FrameMode}(hu:u≠ .run) (pre:List Deferred): ∀(own:List Nat) (E:Entry) (w:World),Mem E ρ hp w->(∃D0,E.D=own++D0/\ ∀b∈own,b∉D0)->own.Nodup->(∀b∈own,E.w.heap.size<=b)->
  (∀E' w',E'.w=E.w/\E'.S=E.S/\E'.B=E.B/\E'.pin=E.pin/\E'.ρ=E.ρ/\E'.D=E.D.drop own.length->Mem E' ρ hp w'->bL ρ.S w w'->LeavesInM (FW none) 0 P fn tmps R pre u w')->
  LeavesInM (FW none) 0 P fn tmps R (own.map tZ++pre) u w
 | [],E,w,hm,_,_,_,fin=>fin E w ⟨rfl,rfl,rfl,rfl,rfl,rfl⟩ hm (λ_ _ _=>rfl)
 |b::own,E,w,hm,⟨D0,hD,hD0⟩,hnd,hnew,fin=>by
  have hb:w.heap[b]? =some (.deferred (some [])):=hm.md b (by rw [hD];simp)
  rw [List.nodup_cons]at hnd
  obtain ⟨m1, m2⟩ := hm.putOther (E' := { E with D := own ++ D0 }) (o' := .deferred none) hb (λ_ _ _ e => by cases e) (λ_ _ _ e => by cases e) (hnew b (List.mem_cons_self ..)) (λi X hi he => by
    obtain⟨g,r,h1,h2,h3⟩:=hm.sat i _ hi
    rw [he]at h1;injection h1 with h1;subst h1
    rw [hb]at h2;cases h2
    exact X.nd _ _ _ h3) (hm.notDef hb) ⟨rfl,rfl,rfl,rfl,rfl⟩
   (λd hd => ⟨by rw [hD]; exact List.mem_cons_of_mem _ hd, λe => by
    subst e
    rcases List.mem_append.1 hd with hd|hd
    ·exact hnd.1 hd
    ·exact hD0 d (List.mem_cons_self ..) hd⟩)
  refine⟨hu, .inl ⟨b,_,rfl,run_takeDeferred hb, ?_⟩⟩
  refine eX hu pre own { E with D:=own++D0 } _ m1 ⟨D0,rfl,λd hd=>hD0 d (List.mem_cons_of_mem _ hd)⟩ hnd.2 (λd hd=>hnew d (List.mem_cons_of_mem _ hd)) ?_
  intro E' w' hE hm' hk
  refine fin E' w' ⟨hE.1,hE.2.1,hE.2.2.1,hE.2.2.2.1,hE.2.2.2.2.1, ?_⟩ hm' (m2.trans (λ_ _ x=>x) hk)
  rw [hE.2.2.2.2.2,hD]
  simp
theorem gX {E E':Entry}(h:Ext E E') (h0:E.k=0): ∃own,E'.D=own++E.D/\E'.D.take E'.k=own/\(∀b∈own,E'.w.heap.size<=b)/\own.Nodup/\ ∀b∈own,b∉E.D:=by
 obtain⟨D',d1,d2,d3,d4⟩:=h.D
 refine⟨D',d1, ?_,by rw [h.w];exact λb hb=>(d4 b hb).1,d3,λb hb=>(d4 b hb).2⟩
 rw [d2,h0,d1];simp
theorem xA (zc:Bool) (frz:List Nat) {ti:TypeId->Option TI}(hti:cG P ti) {f:FuncId}{fn:Func}{c:Code}(hf:P.funcs[f]? =some fn) (hb:fn.body=some c) (keep:Nat->Bool) (pin:List Nat) (args:List SV) (hp:Hp) (post:SV->Prop)
  (hn:args.length<=fn.ntmps) (hnd:(hp.map (·.1)).Nodup) (hx:X ⟨P,ti,dL pin,fn.ntmps,keep,0,none,zc,frz⟩ c (dK 0 args) (roH hp) (mE ti fn.results.toList post)):Tri P f args hp post:=by
 intro w ρ vs hslt hargs hro
 refine dH (r:=none) (n:=0) |>.1 (callsIn_of_wp_marks hf hb trivial ?_)
 have hm:Mem ⟨w,ρ.S,λ_=>False,dL pin,ρ,none,[],0⟩ ρ (roH hp) w:=by
  have hat: ∀id o,aM (roH hp) id=some o->ρ.at id o=none:=by
   intro id o ho
   rcases eN hp id o hnd ho with⟨t,cs,rfl,_⟩|⟨g,z,rows,rfl,_⟩|⟨X,rfl,_⟩
   ·rfl
   ·rfl
   ·rfl
  refine⟨rfl,rfl, .refl _,Nat.le_refl _,λ_ _ _=>rfl,λ_ _ h=>h,λ_ _ h _ _=>h,hslt,λ_ _ _=>rfl, ?_, ?_, ?_,λid _=>ρ.moved_refl id, ?_,λb hb=>by cases hb⟩
  ·intro id o ho
   rcases eN hp id o hnd ho with⟨t,cs,rfl,h|h⟩|⟨g,z,rows,rfl,h⟩|⟨X,rfl,h|h⟩
   ·exact hro id _ h
   ·exact hro id _ h
   ·exact hro id _ h
   ·exact hro id _ h
   ·exact hro id _ h
  ·intro id o id' o' g h1 _ h3 _;rw [hat id o h1]at h3;cases h3
  ·intro id o g h1 h3;rw [hat id o h1]at h3;cases h3
  ·intro id x g _ _ _ id' o' h3 h4;rw [hat id' o' h3]at h4;cases h4
 have hfs:bW ρ w (dK 0 args) (vs++Array.replicate (fn.ntmps - vs.size) undef):=by
  intro t s ht
  obtain⟨_,h2⟩:=dD args 0 t s ht
  simp only [Nat.sub_zero]at h2
  have hlt:=(List.getElem?_eq_some_iff.1 h2).1
  have hlt':t < vs.size:=by rw [hargs.1];exact hlt
  refine⟨vs[t], ?_,hargs.2 t s _ h2 (Array.getElem?_eq_getElem hlt')⟩
  rw [Array.getElem?_append_left hlt',Array.getElem?_eq_getElem hlt']
 refine wpIn_mono (iG (C:=⟨P,ti,dL pin,fn.ntmps,keep,0,none,zc,frz⟩) hti c _ _ _ hx ⟨w,ρ.S,λ_=>False,dL pin,ρ,none,[],0⟩ _ w rfl rfl ⟨?_,rfl,ρ,hm,hfs⟩) ?_
 ·simp only [Array.size_append,Array.size_replicate]
  have:=hargs.1
  omega
 ·rintro e a' w' ⟨x,fr',hp',E',hE,hrel,hk,hnt,hdf,ρ',hm',hf'⟩
  obtain⟨own,o1,o2,o3,o4,o5⟩:=gX hE rfl
  have fin:eY ti fr' hp' fn.results.toList (λl=>dP hp' l λl=>(bY l).ids=[]/\post (bY l))->LeavesInM (FW none) 0 P fn a'.tmps (λe w'=> ∃v S' s,e= .returned v/\post s/\Grew w w'/\(∀b i,ρ.S b i->S' b i)/\(∀b i,S' b i->ρ.S b i\/w.heap.size<=b)/\(∀b i,S' b i->b < w'.heap.size)/\Rep w' (ρ.withS S') s v) a'.defers .returning w':=by
   intro hk
   have hpre:E'.pin.pre=[]:=by rw [hE.pin];rfl
   rw [hdf,o2,hpre]
   refine eX (by simp) [] own E' w' hm' ⟨_,o1,o5⟩ o4 o3 ?_
   rintro E'' w'' ⟨q1,q2,q3,q4,q5,q6⟩ hm'' hkp
   have hf'':bW ρ' w'' fr' a'.tmps:=hf'.mono hkp (λ_ _ x=>x) λi _=>ρ'.moved_refl i
   obtain⟨us,l,r1,r2,r3,r4⟩:=tR hti hm'' hf'' _ _ hk
   obtain⟨l',⟨k1,k2⟩,k3,k4⟩:=gJ hm'' l us _ r2 r3 r4
   have eW:E''.w=w:=q1.trans hE.w
   have eS:E''.S=ρ.S:=q2.trans hE.S
   have eB:E''.B= λ_=>False:=q3.trans hE.B
   refine⟨_,eC r1,_,Sfz ρ' hp',bY l',rfl,k2,⟨by rw [hm''.os,eW],by rw [hm''.tape,eW],by have:=hm''.output;rw [eW]at this;exact this,by have:=hm''.size;rw [eW]at this;exact this,λb hb=> ?_⟩,λb i hs=> .inl (hm''.sold b i (by rw [eS];exact hs)), ?_, ?_, ?_⟩
   ·have:=hm''.old b (by rw [eW];exact hb) (by rw [eB];exact λh=>h)
    rw [eW]at this;exact this
   ·rintro b i (hs|⟨id,e,z,cap,rows,ho,hb,_⟩)
    ·rcases Nat.lt_or_ge b w.heap.size with hlt|hge
     ·left
      have:=hm''.snew b i hs (by rw [eW];exact hlt) (by rw [eB];exact λh=>h)
      rw [eS]at this;exact this
     ·exact .inr hge
    ·rcases hm''.hb id _ b ho hb with hge|hB
     ·rw [eW]at hge;exact .inr hge
     ·rw [eB]at hB;exact hB.elim
   ·rintro b i (hs|⟨id,e,z,cap,rows,ho,hb,_⟩)
    ·exact hm''.slt b i hs
    ·exact hm''.blk_lt ho hb
   ·refine(gM (w:=w'') (ρ:=ρ'.withS (Sfz ρ' hp')) (l:=l') (by rw [k3];exact r2) k4).mono (λ_ _ _=>rfl) (λ_ _ h=>h) λid hid=> ?_
    rw [k1]at hid
    cases hid
  cases x<;>cases e<;>simp only [Ex.rel]at hrel<;>simp only [KX,mE,dL]at hk
  ·exact fin hk
  ·exact hk.elim
  ·exact hk.elim
  ·exact fin hk
end
end
section
open Go.RowKit
section
def Wk:SV->SV->Prop
 | .osl _ z rows, .d (.sl z' rows')=>z=z'/\rows=rows'
 | .d .nil, .d (.sl _ rows)=>rows=[]
 | .zc, .d (.sl _ rows)=>rows=[]
 |a,b=>a=b
theorem aNy {w:World}{ρ:Env}{s s':SV}{v:Value}(h:Wk s s') (hr:Rep w ρ s v):Rep w ρ s' v:=by
 unfold Wk at h
 split at h
 ·obtain⟨rfl,rfl⟩:=h
  exact .d _ _ hr.osl_inv.1
 ·subst h
  have e:=hr.nil_inv
  subst e
  exact .d _ _ (RepD.mk_sl (b:=0) (off:=0) (by simp) (by simp) (λhne=>absurd rfl hne) ⟨by simp,by simp⟩ (by simp))
 ·subst h
  obtain⟨A,e⟩:=hr.zc_inv
  subst e
  exact .d _ _ (RepD.mk_sl (b:=0) (off:=0) (by simp) (by simp) (λhne=>absurd rfl hne) ⟨by simp,by simp⟩ (by simp))
 ·subst h;exact hr
def aKv:Fr->Fr->Prop
 | [],_=>True
 |(t,s)::r,fr=>(match dE fr t with|some x=>Wk x s|none=>aD "a slot is not known")/\aKv r fr
theorem aEk {w:World}{ρ:Env}{tm:Array Value}: ∀(fr' fr:Fr),aKv fr' fr->bW ρ w fr tm->bW ρ w fr' tm:=by
 intro fr'
 induction fr' with
 |nil=>intro fr _ _ t s h;simp [dE]at h
 |cons p r ih=>
  obtain⟨k,x⟩:=p
  intro fr h hf t s hg
  simp only [aKv]at h
  simp only [dE]at hg
  by_cases e:k=t
  ·subst e
   simp at hg
   subst hg
   obtain⟨h1,_⟩:=h
   split at h1
   ·rename_i y hy
    obtain⟨v,h2,h3⟩:=hf k y hy
    exact⟨v,h2,aNy h1 h3⟩
   ·exact h1.elim
  ·simp [e]at hg
   exact ih fr h.2 hf t s hg
structure Sub (fr:Fr) (hp:Hp) (fr':Fr) (hp':Hp):Prop where
 f:aKv fr' fr
 h:sA hp' hp
theorem Sat.sub {E:Entry}{nt:Nat}{fr fr':Fr}{hp hp':Hp}{a:Act}{w:World}(h:Sat E nt ⟨fr,hp⟩ a w) (hs:Sub fr hp fr' hp'):Sat E nt ⟨fr',hp'⟩ a w:=by
 obtain⟨h1,h2,ρ,h3,h4⟩:=h
 exact⟨h1,h2,ρ,h3.sub (eV _ _ hs.h),aEk _ _ hs.f h4⟩
theorem aH.sub {C:Cfg}{c:Code}{fr fr':Fr}{hp hp':Hp}{K:Ex->Fr->Hp->Prop}(hs:Sub fr hp fr' hp') (h:aH C c fr' hp' K):aH C c fr hp K:=
 λE a w hpin hrd hsat=>h E a w hpin hrd (hsat.sub hs)
theorem aH.mono {C:Cfg}{c:Code}{fr:Fr}{hp:Hp}{K K':Ex->Fr->Hp->Prop}(h:aH C c fr hp K) (hk: ∀e fr hp,K e fr hp->K' e fr hp):aH C c fr hp K':=
 λE a w hpin hrd hsat=>wpIn_mono (h E a w hpin hrd hsat) λ_ _ _ ⟨x,f,p,E',h0,h1,h2,h3⟩=>⟨x,f,p,E',h0,h1,KX.mono hk h2,h3⟩
theorem aH.own {C:Cfg}{c:Code}{fr:Fr}{hp:Hp}{K:Ex->Fr->Hp->Prop}(t id e z:Nat) (hnil:dE fr t=some (.d .nil)) (hfr:fA id C.pin fr hp)
  (h:aH C c (zX fr t (.osl id z [])) ((id, .own e z 0)::hp) K):aH C c fr hp K:=by
 intro E a w hpin hrd hsat
 obtain⟨h1,h2,ρ,h3,h4⟩:=hsat
 obtain⟨f1,f2,f3⟩:=hfr
 obtain⟨m1,m2,m3⟩:=h3.newNil (id:=id) e z f3 (by rw [hpin];exact f1)
 refine h E a w hpin hrd ⟨h1,h2,_,m1, ?_⟩
 intro u s hu
 rw [fT]at hu
 by_cases e1:u=t
 ·subst e1
  simp at hu
  subst hu
  obtain⟨v,k1,k2⟩:=h4 u _ hnil
  have ev:=k2.nil_inv
  subst ev
  exact⟨_,k1,m3⟩
 ·simp [e1]at hu
  exact m2 fr a.tmps f2 h4 u s hu
theorem aH.mown {C:Cfg}{c:Code}{fr:Fr}{hp:Hp}{K:Ex->Fr->Hp->Prop}(t id e z:Nat) (hnil:dE fr t=some (.d .nil)) (hfr:fA id C.pin fr hp)
  (h:aH C c (zX fr t (.mw id z 0)) ((id, .mrow e z 0 [])::hp) K):aH C c fr hp K:=by
 intro E a w hpin hrd hsat
 obtain⟨h1,h2,ρ,h3,h4⟩:=hsat
 obtain⟨f1,f2,f3⟩:=hfr
 obtain⟨m1,m2,m3⟩:=h3.newMrow (id:=id) (e:=e) (z:=z) (cap:=0) (rows:=[]) (v:= .slice none 0 0) f3 (by rw [hpin];exact f1) (Grew.refl w) (.inl ⟨rfl,rfl,none,rfl⟩) (λg hg=>by simp [dM]at hg)
 refine h E a w hpin hrd ⟨h1,h2,_,m1, ?_⟩
 intro u s hu
 rw [fT]at hu
 by_cases e1:u=t
 ·subst e1
  simp at hu
  subst hu
  obtain⟨v,k1,k2⟩:=h4 u _ hnil
  have ev:=k2.nil_inv
  subst ev
  exact⟨_,k1, .mw id z 0 0 none (by simp) (by simp) (λh=>absurd rfl h) (by simp) (by simp [Env.retop])⟩
 ·simp [e1]at hu
  exact(h4.mono (ρ':=ρ.retop id 0 (.slice none 0 0)) m2 (λ_ _ x=>x) λi hi=>m3 i λe=>f2 (e ▸ hi)) u s hu
def aKd {α:Type}(I:α->Fr×Hp) (Ok:α->Prop) (μ:α->Nat) (x:α) (K:Ex->Fr->Hp->Prop) (e:Ex) (fr:Fr) (hp:Hp):Prop:=
 match e with
 | .normal=> ∃y,Ok y/\μ y < μ x/\Sub fr hp (I y).1 (I y).2
 |e=>K e fr hp
theorem aG {C:Cfg}(hti:cG C.P C.ti) {c:Code}{fr:Fr}{hp:Hp}{K:Ex->Fr->Hp->Prop}{α:Type}(I:α->Fr×Hp) (Ok:α->Prop) (μ:α->Nat) (x:α) (h0:Ok x) (hs:Sub fr hp (I x).1 (I x).2)
  (round: ∀y,Ok y->X C c (I y).1 (I y).2 (aKd I Ok μ y K)):aH C (.loop c) fr hp K:=by
 intro E a w hpin hrd hsat
 refine wpIn_loop_ghost (λn a w=> ∃y E',μ y=n/\Ok y/\Ext E E'/\Sat E' C.nt ⟨(I y).1,(I y).2⟩ a w) (μ x) ⟨x,E,rfl,h0, .refl E,hsat.sub hs⟩ ?_
 rintro n a' w' ⟨y,E',rfl,hy,hE,hsy⟩
 have:=iG hti c _ _ _ (round y hy) E' a' w' (hE.pin.trans hpin) (hrd.ext hE) hsy
 rw [hE.rd]at this
 refine wpIn_mono this ?_
 rintro e a₁ w₁ ⟨ex,fr₁,hp₁,E'',hE',hrel,hk,hs₁⟩
 cases ex<;>cases e<;>simp only [Ex.rel]at hrel<;>simp only [KX,aKd]at hk
 ·obtain⟨y',k1,k2,k3⟩:=hk
  exact⟨μ y',k2,y',E'',rfl,k1,hE.trans hE',hs₁.sub k3⟩
 ·exact⟨.exit _,fr₁,hp₁,E'',hE.trans hE',hrel,hk,hs₁⟩
 ·exact⟨.goto _,fr₁,hp₁,E'',hE.trans hE',hrel,hk,hs₁⟩
 ·exact⟨.ret,fr₁,hp₁,E'',hE.trans hE',hrel,hk,hs₁⟩
 ·exact⟨.pan,fr₁,hp₁,E'',hE.trans hE',hrel,hk,hs₁⟩
def eZ (l:List Oper):Bool:=l.all λo=>match o.op with| .defer _=>false|_=>true
theorem aD9 {l:List Oper}(h:eZ l=true) {o:Oper}(ho:o∈l): ∀c,o.op≠ .defer c:=by
 intro c e
 have:=List.all_eq_true.1 h o ho
 rw [e]at this
 cases this
theorem aHi {P:Program}{l:List Oper}(hd:eZ l=true) {r:Option Nat}{Q:Exit->Act->World->Prop}(hQ:¬ LetsOut Q): ∀(is:List Nat) (a:Act) (w:World),wpOps P l.toArray Q is a w->wpOpsIn (FW r) 0 P l.toArray Q is a w:=by
 intro is
 induction is with
 |nil=>intro a w h;exact h
 |cons i rest ih=>
  intro a w h
  simp only [wpOps]at h
  simp only [wpOpsIn]
  split
  ·rename_i ho;simp only [ho]at h;exact ih a w h
  ·rename_i o ho
   simp only [ho]at h
   have hmem:o∈l:=by
    have:l[i]? =some o:=by simpa using ho
    exact List.mem_of_getElem? this
   split
   ·rename_i hw
    simp only [hw,if_true]at h
    rcases h with h|⟨_,h⟩
    ·exact aKh (aD9 hd hmem) (Oper.wp_mono (λa w=>ih a w) h)
    ·exact absurd h hQ
   ·rename_i hw
    simp only [hw]at h
    exact⟨λ_ _=>trivial,ih _ _ h⟩
theorem cH {P:Program}{l:List Oper}(hm:P.follows .mixedOrders=true) (hd:eZ l=true) {r:Option Nat}{Q:Exit->Act->World->Prop}(hQ:¬ LetsOut Q) {id:Nat}{a:Act}{w:World}
  (h:wpAny P .any l.toArray Q l.toArray.size (Array.replicate l.toArray.size false) a { w with drawn:=w.drawn+1 }):(Code.region id l.toArray true).wpIn (FW r) 0 P Q a w:=
 wpIn_region_draw λt=>by
  simp only [Region.schedule,hm,Bool.true_or,if_true]
  exact aHi hd hQ _ _ _ (wpAny_sound _ t _ a _ h)
def aHo:SV->Option Value
 | .d (.int k n)=>some (.int k n)
 | .d (.bool b)=>some (.bool b)
 | .d (.str l)=>some (.string ⟨l.toArray⟩)
 |_=>none
theorem aHn {w:World}{ρ:Env}{s:SV}{u v:Value}(h:aHo s=some u) (hr:Rep w ρ s v):v=u:=by
 unfold aHo at h
 split at h
 ·injection h with h;rw [<-h];exact hr.int_inv
 ·injection h with h;rw [<-h];exact hr.bool_inv
 ·injection h with h;rw [<-h];exact hr.str_inv.1
 ·cases h
def aL5 (P:Program) (fr:Fr) (hp:Hp) (f:Operand) (args:List Operand) (K:SV->Prop):Prop:=
 ev fr f λs=>match aMj s with
  | some (g, first, cap) => (match evL fr args with
   |some l=>cZ P g=true/\ ∃r u hpc,aHo r=some u/\sA hpc hp/\Tri P g (first++l++cap) hpc (· =r)/\K r
   |none=>aD "call: an argument")
  |none=>aD "call: no function"
def qVC (P:Program) (ti:TypeId->Option TI) (fr:Fr) (hp:Hp) (o:Oper) (K:SV->Prop):Prop:=
 match o.op with
 | .call { callee:= .value f,args:=args,argTypes:=_ }=>aL5 P fr hp f args.toList K
 |_=>jZ P ti fr hp o K
theorem RO.grow {w w':World}{ρ:Env}{id:Nat}{o:HObj}(h:RO w ρ id o) (hg:Grew w w') (hs: ∀b i,ρ.S b i->b < w.heap.size):RO w' ρ id o:=by
 have key: ∀t cs,(∃g,ρ.blk id=some g/\cI w ρ g t cs)-> ∃g,ρ.blk id=some g/\cI w' ρ g t cs:=by
  rintro t cs ⟨g,h1,h2⟩
  refine⟨g,h1,h2.mono ?_ (hg.keeps hs) (λ_ _ x=>x) λi _=>ρ.moved_refl i⟩
  obtain⟨cur,hc,_⟩:=h2
  exact hg.block g (aW hc)
 cases o with
 |cells t cs=>exact key t cs h
 |ro t cs=>exact key t cs h
 |own=>trivial
 |mrow=>trivial
 |loop=>trivial
 |ext X=>
  obtain⟨g,x,h1,h2,h3⟩:=h
  exact⟨g,x,h1,(hg.block g (aW h2)).trans h2,X.keep w w' ρ ρ x (hg.keeps hs) (λ_ _ x=>x) (λi _=>ρ.moved_refl i) h3⟩
 |glob=>exact View.mono h (hg.keeps hs) λ_ _ x=>x
 |rox X=>
  obtain⟨g,x,h1,h2,h3⟩:=h
  exact⟨g,x,h1,(hg.block g (aW h2)).trans h2,X.keep w w' ρ ρ x (hg.keeps hs) (λ_ _ x=>x) (λi _=>ρ.moved_refl i) h3⟩
theorem eK {P:Program}{o:Oper}{a:Act}{f:Operand}{args:Array Operand}{ts:Array TypeId}(ho:o.op= .call { callee:= .value f,args:=args,argTypes:=ts }) {g:FuncId}{fv cv:Array Value}(e:a.eval f= .func (.func g) fv cv) (hcall:cZ P g=true) (w:World):
  (execOp a.eval o).run P w= .ok (.enter g (fv++args.map a.eval++cv)) w:=by
 unfold cZ at hcall
 split at hcall
 ·rename_i fn hfn'
  simp only [Bool.and_eq_true,Bool.not_eq_true']at hcall
  obtain⟨c1,c2⟩:=hcall
  have c3:fn.body.isNone=false:=by cases hb:fn.body<;>simp_all
  simp only [execOp,ho,resolve,e,Deferred.ofValue,invoke,callFunc,Sem.run_bind,Sem.run_pure,Result.andThen_ok,run_program,hfn',c2,c3,Bool.false_eq_true,if_false]
 ·cases hcall
theorem aPp {P:Program}{ti:TypeId->Option TI}(hti:cG P ti) {o:Oper}{fr:Fr}{hp:Hp}{K:SV->Prop}(h:qVC P ti fr hp o K) {E:Entry}{ρ:Env}{a:Act}{w:World}(hm:Mem E ρ hp w) (hf:bW ρ w fr a.tmps):
  ∃v s,(∀w',Grew w w'->o.quietAt P a (Grew w) w' v)/\Rep w ρ s v/\K s:=by
 unfold qVC at h
 split at h
 ·rename_i f args ts hop
  obtain⟨s,hs,hv⟩:=bR h
  have hr:=aR hf hs
  split at hv
  ·rename_i g first cap hfn
   obtain⟨fv,cv,e,h1,h2⟩:=rF hfn hr
   split at hv
   ·rename_i l hl
    obtain⟨hcall,r,u,hpc,hval,hsub,htri,hk⟩:=hv
    obtain⟨l1,l2⟩:=nD hf _ _ hl
    have hargs:bU w ρ (first++l++cap) (fv++args.map a.eval++cv):=by
     refine(h1.append ⟨?_, ?_⟩).append h2
     ·simpa using l1
     ·intro j s' v hs' hv'
      refine l2 j s' v hs' ?_
      rw [<-Array.toList_map];simpa using hv'
    have hro: ∀id o,aM hpc id=some o->RO w ρ id o:= λid o ho=>(hm.sat id o (eV _ _ hsub id o ho)).ro_
    have hat: ∀w',Grew w w'->Calls P g (fv++args.map a.eval++cv) w' λe w''=>e= .returned u/\Grew w w''/\ ∃S',Rep w'' (ρ.withS S') r u:=by
     intro w' hg
     refine(htri w' ρ _ (λb i hs=>Nat.lt_of_lt_of_le (hm.slt b i hs) hg.size) ⟨hargs.1,λj s v a b=>(hargs.2 j s v a b).grow hg hm.slt⟩ λid o ho=>(hro id o ho).grow hg hm.slt).mono ?_
     rintro e' w'' ⟨v,S',s',q1,q2,q3,_,_,_,q7⟩
     subst q2
     have:=aHn hval q7
     subst this
     exact⟨q1,hg.trans q3,S',q7⟩
    have hrep:Rep w ρ r u:=by
     obtain⟨e',w'',fr',⟨_,_,S',q⟩,_⟩:=hat w (Grew.refl w) []
     unfold aHo at hval
     split at hval
     ·injection hval with hval;rw [<-hval];exact .d _ _ (.int _ _)
     ·injection hval with hval;rw [<-hval];exact .d _ _ (.bool _)
     ·have:=q.str_inv
      injection hval with hval;rw [<-hval];exact .d _ _ (.str _ (by simpa only [maxLen]using this.2))
     ·cases hval
    refine⟨u,r, ?_,hrep,hk⟩
    intro w' hg
    unfold Oper.quietAt
    rw [eK hop e hcall]
    exact⟨rfl,(hat w' hg).mono λ_ _ ⟨q1,q2,_⟩=>⟨q1,q2⟩⟩
   ·exact hv.elim
  ·exact hv.elim
 ·obtain⟨v,s,q1,q2,q3⟩:=vI hti (o:=o) h E ρ a w hm hf
  refine⟨v,s,λw' hg=> ?_,q2,q3⟩
  unfold Oper.quietAt
  rw [q1 w' (hm.kept_grew hg)]
  exact⟨rfl,rfl⟩
def aI8 (C:Cfg) (all:List Oper) (o:Oper) (fr:Fr) (hp:Hp) (k:Fr->Prop):Prop:=
 hX all fr o.guard
  (λfr=>qVC C.P C.ti fr hp o λs=>put C o.dst s fr λfr'=>k fr')
  (λfr=>put C o.dst (.d (.lit undef)) fr λfr'=>k fr')
def tT (C:Cfg) (all:List Oper) (K:Fr->Hp->Prop):List Oper->Fr->Hp->Prop
 | [],fr,hp=>iU C.keep fr λfr'=>K fr' hp
 |o::r,fr,hp=>aI8 C all o fr hp λfr'=>tT C all K r fr' hp
theorem aD2 {C:Cfg}(hti:cG C.P C.ti) {all:List Oper}{K:Fr->Hp->Prop}{E:Entry}{ρ:Env}{w:World}{hp:Hp}{df:List Deferred}(hm:Mem E ρ hp w): ∀(l:List Oper) (fr:Fr) (a:Act),tT C all K l fr hp->a.tmps.size=C.nt->a.defers=df->bW ρ w fr a.tmps->
  wpQuiet C.P all.toArray (Grew w) (λa'=> ∃fr',K fr' hp/\a'.tmps.size=C.nt/\a'.defers=df/\bW ρ w fr' a'.tmps) l a:=by
 intro l
 induction l with
 |nil=>
  intro fr a h h1 h2 h3
  simp only [tT,fO]at h
  exact⟨_,h,h1,h2,λt s hts=>h3 t s (eE _ _ t s hts)⟩
 |cons o r ih=>
  intro fr a h h1 h2 h3
  simp only [tT,aI8]at h
  simp only [wpQuiet]
  obtain⟨fr0,h3,hh⟩:=cC h h3
  rcases hh with⟨hw,h⟩|⟨hw,h⟩
  ·simp only [hw,if_true]
   obtain⟨v,s,q1,q2,q3⟩:=aPp hti h hm h3
   obtain⟨fr',p1,p2⟩:=cN q3 h1 h3 q2
   exact⟨v,q1,ih fr' _ p1 (by rw [aU];exact h1) (by rw [put_defers];exact h2) p2⟩
  ·simp only [hw,Bool.false_eq_true,if_false]
   obtain⟨fr',p1,p2⟩:=cN h h1 h3 (Rep.d _ undef (.lit undef))
   exact ih fr' _ p1 (by rw [aU];exact h1) (by rw [put_defers];exact h2) p2
theorem aGd {C:Cfg}(hti:cG C.P C.ti) {id:Nat}{l:List Oper}{fr:Fr}{hp:Hp}{K:Ex->Fr->Hp->Prop}(hm:C.P.follows .mixedOrders=true) (hB:(Region.lexB .any l.toArray && eZ l)=true)
  (h:tT C l (K .normal) l fr hp):aH C (.region id l.toArray true) fr hp K:=by
 intro E a w hpin hrd ⟨h1,h2,ρ,h3,h4⟩
 rw [Bool.and_eq_true]at hB
 obtain⟨hB,hnd⟩:=hB
 simp only [Region.lexB,Bool.and_eq_true]at hB
 refine cH hm hnd fV.noOut (wpAny_of_quiet (C:=Grew w) (Q:= λa'=> ∀w',Grew w w'->fV C E K .normal a' w') (λ_ w' hw' h=>h w' hw') _ _ _ _ (Grew.drew w) ?_)
 have:=aD2 (C:=C) hti (all:=l) (K:=K .normal) h3 l fr a h h1 rfl h4
 have hmono: ∀(l':List Oper) (a':Act),wpQuiet C.P l.toArray (Grew w) (λa''=> ∃fr',K .normal fr' hp/\a''.tmps.size=C.nt/\a''.defers=a.defers/\bW ρ w fr' a''.tmps) l' a'->
   wpQuiet C.P l.toArray (Grew w) (λa'=> ∀w',Grew w w'->fV C E K .normal a' w') l' a':=by
  intro l'
  induction l' with
  |nil=>
   rintro a' ⟨fr',k1,k2,k3,k4⟩ w' hg
   obtain⟨m1,m2⟩:=h3.grow_same hg
   exact⟨.normal,fr',hp,E, .refl E,trivial,k1,k2,k3.trans h2,ρ,m1,m2 fr' _ k4⟩
  |cons o r ih=>
   intro a' h
   simp only [wpQuiet]at h |-
   split
   ·rename_i hw
    simp only [hw,if_true]at h
    exact Oper.quiet_mono (λa h=>ih a h) h
   ·rename_i hw
    simp only [hw]at h
    exact ih _ h
 have hq:=hmono l a this
 have:=wpAnyQ_lex (C:=Grew w) (md:= .any) hB.1 l 0 (Array.replicate l.toArray.size false) a (by simp) (by simpa using hB.2) hq
 simpa using this
end
end
section
def aNm:List (Nat×TI)->Nat->Option TI
 | [],_=>none
 |(k,T)::r,t=>if k=t then some T else aNm r t
def aPv (P:Program):List (Nat×TI)->Prop
 | []=>True
 |(t,T)::r=>cY P t=some T/\aPv P r
theorem aKm {P:Program}: ∀{l:List (Nat×TI)},aPv P l->cG P (aNm l):=by
 intro l
 induction l with
 |nil=>intro _ t T h;simp [aNm]at h
 |cons p r ih=>
  obtain⟨k,U⟩:=p
  intro h t T hg
  simp only [aNm]at hg
  by_cases e:k=t
  ·subst e;simp at hg;subst hg;exact h.1
  ·simp [e]at hg;exact ih h.2 t T hg
def kp:List Nat->Nat->Bool
 | [],_=>false
 |k::r,t=>if k=t then true else kp r t
theorem qG {P:Program}(frz:List Nat) {ti:TypeId->Option TI}(hti:cG P ti) {f:FuncId}{fn:Func}{c:Code}(hf:P.funcs[f]? =some fn) (kl:List Nat) {args:List SV}{hp:Hp}{post:SV->Prop}(hx:X ⟨P,ti,dL [],fn.ntmps,kp kl,0,none,false,frz⟩ c (dK 0 args) (roH hp) (mE ti fn.results.toList post)) (hb:fn.body=some c:=by exact rfl) (hn:args.length<=fn.ntmps:=by exact Nat.le_of_ble_eq_true rfl) (hnd:(hp.map (·.1)).Nodup:=by simp):Tri P f args hp post:=xA false frz hti hf hb (kp kl) [] args hp post hn hnd hx
theorem aGr (c:UInt8):(c.toNat:Int).toNat < 256:=by have:=c.toNat_lt;omega
theorem kT {α:Type}{f:α->List D}{l:List α}{i:Nat}(h:i < l.length):(l.map f)[i]? =some (f l[i]):=by
 rw [List.getElem?_map,List.getElem?_eq_getElem h];rfl
end
section
open Go.RowKit
section
variable {P:Program}
def aV (w:World) (ρ:Env) (hp:Hp) (pin:Pin) (rd:Option Nat) (D:List Nat):Entry:=⟨w,ρ.S,λb=> ∃id o,aM hp id=some o/\ρ.at id o=some b,pin,ρ,rd,D,0⟩
theorem Mem.enter {E:Entry}{ρ:Env}{hp:Hp}{w:World}(h:Mem E ρ hp w) (pin:Pin) (rd:Option Nat):Mem (aV w ρ hp pin rd E.D) ρ hp w:=
 ⟨rfl,rfl, .refl _,Nat.le_refl _,λ_ _ _=>rfl,λ_ _ h=>h,λ_ _ h _ _=>h,h.slt,λ_ _ _=>rfl,h.sat,h.inj,λid o _ a b=> .inr ⟨id,o,a,b⟩,λid _=>ρ.moved_refl id,h.ro,h.md⟩
theorem Mem.leave {E E2:Entry}{ρ ρ':Env}{hp hp':Hp}{w w':World}{pin:Pin}{rd:Option Nat}(h:Mem E ρ hp w) (h':Mem E2 ρ' hp' w') (hE:E2.w=w/\E2.S=ρ.S/\E2.B=(aV w ρ hp pin rd E.D).B/\E2.pin=pin/\E2.ρ=ρ/\ ∀b∈E.D,b∈E2.D) (hsub: ∀id∈E.pin,id∈pin):Mem E ρ' hp' w':=by
 obtain⟨e1,e2,e3,e4,e5,e6⟩:=hE
 have hB: ∀b,b < E.w.heap.size->¬ E.B b->¬ E2.B b:=by
  rw [e3]
  rintro b hb hnb ⟨id,o,h1,h2⟩
  rcases h.hb id o b h1 h2 with hge|hbb
  ·omega
  ·exact hnb hbb
 have hos:=h'.os;have htp:=h'.tape;have hou:=h'.output;have hsz:=h'.size;have hkp:=h'.kp;have hsold:=h'.sold;have hsnew:=h'.snew;have hold:=h'.old;have hhb:=h'.hb;have hmv:=h'.mv
 rw [e1]at hos htp hou hsz hkp hsnew hold hhb
 rw [e2]at hkp hsold hsnew
 rw [e4,e5]at hmv
 refine⟨hos.trans h.os,htp.trans h.tape,hou.trans h.output,Nat.le_trans h.size hsz, ?_, ?_, ?_,h'.slt,h.kp.trans h.sold hkp,h'.sat,h'.inj, ?_, ?_,h'.ro,λb hb=>h'.md b (e6 b hb)⟩
 ·exact λb hb hnb=>(hold b (Nat.lt_of_lt_of_le hb h.size) (hB b hb hnb)).trans (h.old b hb hnb)
 ·exact λb i hs=>hsold b i (h.sold b i hs)
 ·exact λb i hs hb hnb=>h.snew b i (hsnew b i hs (Nat.lt_of_lt_of_le hb h.size) (hB b hb hnb)) hb hnb
 ·intro id o g h1 h2
  rcases hhb id o g h1 h2 with hge|hb
  ·exact .inl (Nat.le_trans h.size hge)
  ·rw [e3]at hb
   obtain⟨id',o',h3,h4⟩:=hb
   exact h.hb id' o' g h3 h4
 ·exact λid hid=>Env.moved_trans (h.mv id hid) (hmv id (hsub id hid))
def aN2 (ti:TypeId->Option TI) (rs:List ResultVar) (K:SV->Hp->Prop) (e:Ex) (fr:Fr) (hp:Hp):Prop:=
 match e with
 | .ret=>eY ti fr hp rs λl=>K (bY l) hp
 | .normal=>eY ti fr hp rs λl=>K (bY l) hp
 |_=>aD "the end"
theorem aN (zc:Bool) (frz:List Nat) {ti:TypeId->Option TI}(hti:cG P ti) {f:FuncId}{fn:Func}{c:Code}(hf:P.funcs[f]? =some fn) (hb:fn.body=some c) (keep:Nat->Bool) (off:Nat) {pin:Pin}{fr:Fr}{hp:Hp}{args:List SV}{K:SV->Hp->Prop}
  (hn:args.length<=fn.ntmps) (hx:X ⟨P,ti,pin.under fr (fS fr),fn.ntmps,keep,off,none,zc,frz⟩ c (dK 0 args) hp (aN2 ti fn.results.toList K)):aF P pin fr hp f args K:=by
 intro E ρ w tm hpin hm hfs vs hargs
 refine dH (r:=none) (n:=0) |>.1 (callsIn_of_wp_marks hf hb trivial ?_)
 have hfs':bW ρ w (dK 0 args) (vs++Array.replicate (fn.ntmps - vs.size) undef):=by
  intro t s ht
  obtain⟨_,h2⟩:=dD args 0 t s ht
  simp only [Nat.sub_zero]at h2
  have hlt:=(List.getElem?_eq_some_iff.1 h2).1
  have hlt':t < vs.size:=by rw [hargs.1];exact hlt
  refine⟨vs[t], ?_,hargs.2 t s _ h2 (Array.getElem?_eq_getElem hlt')⟩
  rw [Array.getElem?_append_left hlt',Array.getElem?_eq_getElem hlt']
 have hm0:=hm.enter (pin.under fr (fS fr)) none
 refine wpIn_mono (iG (C:=⟨P,ti,pin.under fr (fS fr),fn.ntmps,keep,off,none,zc,frz⟩) hti c _ _ _ hx (aV w ρ hp (pin.under fr (fS fr)) none E.D) _ w rfl rfl ⟨?_,rfl,ρ,hm0,hfs'⟩) ?_
 ·simp only [Array.size_append,Array.size_replicate]
  have:=hargs.1
  omega
 ·rintro e a' w' ⟨x,fr',hp',E',hE,hrel,hk,hnt,hdf,ρ',hm',hf'⟩
  obtain⟨own,o1,o2,o3,o4,o5⟩:=gX hE rfl
  have hpre:E'.pin.pre=[]:=by rw [hE.pin];rfl
  have finp: ∀ch,Chn pin.pv ch->pin.kp fr hp'->LeavesInM (FW none) 0 P fn a'.tmps (λe w'=>(∃v ρ' s hp',e= .returned v/\K s hp'/\Mem E ρ' hp' w'/\bW ρ' w' fr tm/\Rep w' ρ' s v)\/ ∃ch ρ' hp',e= .panicked ch/\Chn pin.pv ch/\pin.kp fr hp'/\Mem E ρ' hp' w'/\bW ρ' w' fr tm) a'.defers (.panicking ch) w':=by
   intro ch hc hk
   rw [hdf,o2,hpre]
   refine eX (by simp) [] own E' w' hm' ⟨_,o1,o5⟩ o4 o3 ?_
   rintro E'' w'' ⟨q1,q2,q3,q4,q5,q6⟩ hm'' hkp
   have hmE:Mem E ρ' hp' w'':=hm.leave (pin:=pin.under fr (fS fr)) (rd:=none) hm'' ⟨q1.trans hE.w,q2.trans hE.S,q3.trans hE.B,q4.trans hE.pin,q5.trans hE.ρ,λb hb=>by rw [q6,o1];simpa [aV]using hb⟩ (λid hid=>by rw [hpin]at hid;exact List.mem_append_left _ hid)
   have kp:=hm''.kp
   have sold:=hm''.sold
   have mv:=hm''.mv
   rw [q1.trans hE.w,q2.trans hE.S]at kp
   rw [q2.trans hE.S]at sold
   rw [q4.trans hE.pin,q5.trans hE.ρ]at mv
   exact .inr ⟨ch,ρ',hp',rfl,hc,hk,hmE,hfs.mono kp sold λid hid=>mv id (List.mem_append_right _ hid)⟩
  have fin:eY ti fr' hp' fn.results.toList (λl=>K (bY l) hp')->LeavesInM (FW none) 0 P fn a'.tmps (λe w'=>(∃v ρ' s hp',e= .returned v/\K s hp'/\Mem E ρ' hp' w'/\bW ρ' w' fr tm/\Rep w' ρ' s v)\/ ∃ch ρ' hp',e= .panicked ch/\Chn pin.pv ch/\pin.kp fr hp'/\Mem E ρ' hp' w'/\bW ρ' w' fr tm) a'.defers .returning w':=by
   intro hk
   rw [hdf,o2,hpre]
   refine eX (by simp) [] own E' w' hm' ⟨_,o1,o5⟩ o4 o3 ?_
   rintro E'' w'' ⟨q1,q2,q3,q4,q5,q6⟩ hm'' hkp
   have hf'':bW ρ' w'' fr' a'.tmps:=hf'.mono hkp (λ_ _ x=>x) λi _=>ρ'.moved_refl i
   obtain⟨us,l,r1,r2,r3,r4⟩:=tR hti hm'' hf'' _ _ hk
   have hmE:Mem E ρ' hp' w'':=hm.leave (pin:=pin.under fr (fS fr)) (rd:=none) hm'' ⟨q1.trans hE.w,q2.trans hE.S,q3.trans hE.B,q4.trans hE.pin,q5.trans hE.ρ,λb hb=>by rw [q6,o1];simpa [aV]using hb⟩ (λid hid=>by rw [hpin]at hid;exact List.mem_append_left _ hid)
   refine⟨_,eC r1, .inl ⟨_,ρ',bY l,hp',rfl,r4,hmE, ?_,gM r2 r3⟩⟩
   have kp:=hm''.kp
   have sold:=hm''.sold
   have mv:=hm''.mv
   rw [q1.trans hE.w,q2.trans hE.S]at kp
   rw [q2.trans hE.S]at sold
   rw [q4.trans hE.pin,q5.trans hE.ρ]at mv
   exact hfs.mono kp sold λid hid=>mv id (List.mem_append_right _ hid)
  cases x<;>cases e<;>simp only [Ex.rel]at hrel<;>simp only [KX,aN2]at hk
  ·exact fin hk
  ·exact hk.elim
  ·exact hk.elim
  ·exact fin hk
  ·exact finp _ hrel hk
theorem zG (zc:Bool) {ti:TypeId->Option TI}(hti:cG P ti) {f:FuncId}{fn:Func}{c:Code}(hf:P.funcs[f]? =some fn) (hb:fn.body=some c) (keep:Nat->Bool) (off:Nat) {pin:Pin}{fr:Fr}{hp:Hp}{args:List SV}{K:SV->Hp->Prop}
  (hn:args.length<=fn.ntmps) (hx:X ⟨P,ti,pin.under fr (fS fr),fn.ntmps,keep,off,none,zc,[]⟩ c (dK 0 args) hp (aN2 ti fn.results.toList K)):aF P pin fr hp f args K:=aN zc [] hti hf hb keep off hn hx
def XL (C:Cfg) (c:Code):Nat->Fr->Hp->(Ex->Fr->Hp->Prop)->Prop
 | 0,_,_,_=>aD "unrolled to the end"
 |n+1,fr,hp,K=>X C c fr hp λe fr hp=>match e with| .normal=>XL C c n fr hp K|e=>K e fr hp
theorem dC {C:Cfg}(hti:cG C.P C.ti) {c:Code}: ∀(n:Nat) {fr:Fr}{hp:Hp}{K:Ex->Fr->Hp->Prop},XL C c n fr hp K->aH C (.loop c) fr hp K:=by
 intro n
 intro fr hp K h E a w hpin hrd hsat
 refine wpIn_loop_ghost (λm a w=> ∃fr hp E',Ext E E'/\Sat E' C.nt ⟨fr,hp⟩ a w/\XL C c m fr hp K) n ⟨fr,hp,E, .refl E,hsat,h⟩ ?_
 rintro m a' w' ⟨fr',hp',E',hE,hs',hx⟩
 cases m with
 |zero=>exact hx.elim
 |succ m=>
  have:=iG hti c _ _ _ hx E' a' w' (hE.pin.trans hpin) (hrd.ext hE) hs'
  rw [hE.rd]at this
  refine wpIn_mono this ?_
  rintro e a₁ w₁ ⟨ex,fr₁,hp₁,E'',hE',hrel,hk,hs₁⟩
  cases ex<;>cases e<;>simp only [Ex.rel]at hrel
  ·exact⟨m,by omega,fr₁,hp₁,E'',hE.trans hE',hs₁,hk⟩
  ·exact⟨.exit _,fr₁,hp₁,E'',hE.trans hE',hrel,hk,hs₁⟩
  ·exact⟨.goto _,fr₁,hp₁,E'',hE.trans hE',hrel,hk,hs₁⟩
  ·exact⟨.ret,fr₁,hp₁,E'',hE.trans hE',hrel,hk,hs₁⟩
  ·exact⟨.pan,fr₁,hp₁,E'',hE.trans hE',hrel,hk,hs₁⟩
end
end
section
open Go.RowKit
section
variable {P:Program}
def kd:Op->Nat
 | .move _=>0
 | .assign _=>0
 | .binOp .add _ _ _ _=>0
 | .binOp .sub _ _ _ _=>0
 | .store _ _ _=>3
 | .alloc _=>2
 | .box _ _=>2
 | .buildSlice _ _ _=>2
 | .makeSlice _ _ _=>2
 | .call { callee:= .builtin .append,args:=_,argTypes:=_ }=>2
 | .call { callee:= .builtin .copy,args:=_,argTypes:=_ }=>3
 | .call { callee:= .value _,args:=_,argTypes:=_ }=>2
 |_=>1
def noX:Exit->Act->World->Prop:= λ_ _ _=>False
def wpE (P:Program) (ops:Array Oper) (Q:Act->World->Prop):Nat->(World->Prop)->Array Bool->Act->World->Prop
 | 0,_,listed,a,w=>Region.ready .any ops listed=[]/\Q a w
 |fuel+1,Cl,listed,a,w=>
  (Region.ready .any ops listed=[]->Q a w)/\
  ∀i∈Region.ready .any ops listed,
   match ops[i]? with
   |none=>wpE P ops Q fuel Cl (listed.setIfInBounds i true) a w
   |some o=>
    if Region.wanted o (yielded ops a.tmps)then
     o.wp P a w (λa' w'=>if kd o.op=3 then wpE P ops Q fuel (λ_=>True) (listed.setIfInBounds i true) a' w' else Cl w'/\wpE P ops Q fuel Cl (listed.setIfInBounds i true) a' w') noX
    else wpE P ops Q fuel Cl (listed.setIfInBounds i true) (a.put o.dst undef) w
theorem oN {o:Oper}{a:Act}{w:World}{K K':Act->World->Prop}{Q:Exit->Act->World->Prop}(h: ∀a w,K a w->K' a w) (hh:o.wp P a w K noX):o.wp P a w K' Q:=by
 unfold Oper.wp at *
 generalize (execOp a.eval o).run P w=r at *
 cases r with
 |ok n w'=>
  cases n<;>simp only [Oper.upon]at hh |-<;>
   first
    |exact h _ _ hh
    |exact Calls.mono hh (λe w'' he=>by cases e<;>first|exact h _ _ he|exact he.elim|(obtain⟨_,_,he⟩:=he;exact he.elim))
    |exact Rows.mono hh (λ_ _ he=>h _ _ he)
 |halt x w'=>cases x<;>simp only [Oper.upon]at hh |-<;>first|exact hh.elim|exact hh
theorem aHj {ops:Array Oper}{Q:Act->World->Prop}: ∀(fuel:Nat) (Cl Cl':World->Prop) (listed:Array Bool) (a:Act) (w:World),(∀w,Cl' w->Cl w)->wpE P ops Q fuel Cl' listed a w->wpE P ops Q fuel Cl listed a w:=by
 intro fuel
 induction fuel with
 |zero=>intro Cl Cl' listed a w _ h;exact h
 |succ fuel ih=>
  intro Cl Cl' listed a w hc h
  refine⟨h.1,λi hi=> ?_⟩
  have:=h.2 i hi
  split
  ·rename_i ho;simp only [ho]at this;exact ih _ _ _ _ _ hc this
  ·rename_i o ho
   simp only [ho]at this
   split
   ·rename_i hw
    simp only [hw,if_true]at this
    refine oN (λa' w' hk=> ?_) this
    split
    ·rename_i h3;simp only [h3,if_true]at hk;exact hk
    ·rename_i h3;simp only [h3,if_false]at hk;exact⟨hc _ hk.1,ih _ _ _ _ _ hc hk.2⟩
   ·rename_i hw;simp only [hw]at this;exact ih _ _ _ _ _ hc this
theorem tH {ops:Array Oper}{Q:Exit->Act->World->Prop}: ∀(fuel:Nat) (Cl:World->Prop) (listed:Array Bool) (a:Act) (w:World),wpE P ops (Q .normal) fuel Cl listed a w->wpAny P .any ops Q fuel listed a w:=by
 intro fuel
 induction fuel with
 |zero=>intro Cl listed a w h;exact h
 |succ fuel ih=>
  intro Cl listed a w h
  refine⟨h.1,λi hi=> ?_⟩
  have:=h.2 i hi
  unfold wpOp
  split
  ·rename_i ho;simp only [ho]at this;exact ih _ _ _ _ this
  ·rename_i o ho
   simp only [ho]at this
   split
   ·rename_i hw
    simp only [hw,if_true]at this
    left
    refine oN (λa' w' hk=> ?_) this
    split at hk
    ·exact ih _ _ _ _ hk
    ·exact ih _ _ _ _ hk.2
   ·rename_i hw;simp only [hw]at this;exact ih _ _ _ _ this
def YE (P:Program) (ops:Array Oper) (Cl:World->Prop) (o:Oper) (v:Value) (a:Act):Prop:=
 (Region.wanted o (yielded ops a.tmps)=true/\ ∀w,(Cl w\/kd o.op=0)->(execOp a.eval o).run P w= .ok (.value v) w)\/(Region.wanted o (yielded ops a.tmps)=false/\v=undef)
theorem YE.of_same {ops:Array Oper}{Cl:World->Prop}{o:Oper}{v:Value}{a a':Act}(hy:YE P ops Cl o v a) (he:execOp a'.eval o=execOp a.eval o)
  (hw:Region.wanted o (yielded ops a'.tmps)=Region.wanted o (yielded ops a.tmps)):YE P ops Cl o v a':=by
 unfold YE at *
 rw [he,hw]
 exact hy
theorem aB1 {o:Oper}{a:Act}{d:Option Tmp}{v:Value}{K:Act->World->Prop}{r:Result Next}(h2: ∀x,d=some x->o.dst≠some x)
  (hh:o.upon P (a.put d v) K noX r):o.upon P a (λa' w'=>K (a'.put d v) w') noX r:=by
 cases r with
 |ok n w'=>
  cases n<;>simp only [Oper.upon]at hh |-
  all_goals first
   |(rw [<-Act.put_comm a v _ h2];exact hh)
   |exact hh.elim
   |exact Calls.mono hh (λe w'' he=>by cases e with|returned u=>(have he':K ((a.put d v).put o.dst u) w'':=he;rw [Act.put_comm a v u h2]at he';exact he')|panicked ch=>exact he|outgrown=>exact he)
   |exact Rows.mono hh (λ_ _ he=>by rw [<-Act.put_comm a v _ h2];exact he)
   |(rw [<-Act.put_comm _ v _ h2,<-Act.put_defers];exact hh)
   |exact hh
 |halt x w'=>cases x<;>simp only [Oper.upon]at hh |-<;>exact hh
theorem aDz {ops:Array Oper}{Q:Act->World->Prop}{i:Nat}{oi:Oper}{v:Value}(hi:ops[i]? =some oi) (hsel:Region.noSelect ops=true) (hk3:kd oi.op≠3):
  ∀(fuel:Nat) (Cl:World->Prop) (listed:Array Bool) (a:Act) (w:World),Cl w->
   (∀j oj,ops[j]? =some oj->j≠i->listed.getD j true=false->(∀e∈oj.after,Region.binds .any e=true->e.on≠i)->oi.apart ops oj=true)->
   (kd oi.op≠0-> ∀j oj,ops[j]? =some oj->listed.getD j true=false->kd oj.op=3-> ∃e∈oj.after,Region.binds .any e=true/\e.on=i)->
   i∈Region.ready .any ops listed->YE P ops Cl oi v a->
   wpE P ops Q fuel Cl (listed.setIfInBounds i true) (a.put oi.dst v) w->wpE P ops Q (fuel+1) Cl listed a w:=by
 have own: ∀(fuel:Nat) (Cl:World->Prop) (listed:Array Bool) (a:Act) (w:World),Cl w->YE P ops Cl oi v a->wpE P ops Q fuel Cl (listed.setIfInBounds i true) (a.put oi.dst v) w->
   (match ops[i]? with
   |none=>wpE P ops Q fuel Cl (listed.setIfInBounds i true) a w
   |some o=>if Region.wanted o (yielded ops a.tmps)then o.wp P a w (λa' w'=>if kd o.op=3 then wpE P ops Q fuel (λ_=>True) (listed.setIfInBounds i true) a' w' else Cl w'/\wpE P ops Q fuel Cl (listed.setIfInBounds i true) a' w') noX
    else wpE P ops Q fuel Cl (listed.setIfInBounds i true) (a.put o.dst undef) w):=by
  intro fuel Cl listed a w hc hy H
  simp only [hi]
  rcases hy with⟨hw,hrun⟩|⟨hw,rfl⟩
  ·simp only [hw,if_true]
   refine bN (hrun w (.inl hc)) ?_
   simp only [hk3,if_false]
   exact⟨hc,H⟩
  ·simp only [hw,Bool.false_eq_true,if_false];exact H
 intro fuel
 induction fuel with
 |zero=>
  intro Cl listed a w hc _ _ hr hy H
  refine⟨λh=>(by rw [h]at hr;cases hr),λj hj=> ?_⟩
  by_cases hji:j=i
  ·subst hji;exact own 0 Cl listed a w hc hy H
  ·have:=ready_mono hj hji
   rw [H.1]at this
   cases this
 |succ fuel ih=>
  intro Cl listed a w hc hfree hT hr hy H
  refine⟨λh=>(by rw [h]at hr;cases hr),λj hj=> ?_⟩
  by_cases hji:j=i
  ·subst hji;exact own _ Cl listed a w hc hy H
  ·have h1:=H.2 j (ready_mono hj hji)
   obtain⟨hjun,oj,hoj,hall⟩:=mem_ready.1 hj
   have hnot: ∀e∈oj.after,Region.binds .any e=true->e.on≠i:= λe he hb heq=>by
    have h1:=hall e he hb
    have h0:=(mem_ready.1 hr).1
    rw [heq]at h1
    rcases Nat.lt_or_ge i listed.size with h'|h'
    ·simp [h']at h0 h1;rw [h0]at h1;cases h1
    ·simp [Array.getElem?_eq_none h']at h1
   obtain⟨p1,p2,p3⟩:=Oper.apart_spec (hfree j oj hoj hji hjun hnot)
   have si:= λcs b=>Region.noSelect_spec hsel i oi cs b hi
   have sj:= λcs b=>Region.noSelect_spec hsel j oj cs b hoj
   have keepY: ∀(Cl':World->Prop),YE P ops Cl' oi v a-> ∀u,YE P ops Cl' oi v (a.put oj.dst u):= λCl' hy u=>hy.of_same (execOp_put oi si a oj.dst u p3) (wanted_put oi a oj.dst u p3)
   have hfree': ∀k ok,ops[k]? =some ok->k≠i->(listed.setIfInBounds j true).getD k true=false->
     (∀e∈ok.after,Region.binds .any e=true->e.on≠i)->oi.apart ops ok=true:= λk ok hk hki hun hno=>by
    refine hfree k ok hk hki ?_ hno
    by_cases hjk:j=k
    ·subst hjk;exact hjun
    ·rw [getD_set_ne true hjk]at hun;exact hun
   have hT':kd oi.op≠0-> ∀k ok,ops[k]? =some ok->(listed.setIfInBounds j true).getD k true=false->kd ok.op=3-> ∃e∈ok.after,Region.binds .any e=true/\e.on=i:= λh0 k ok hk hun h3=>by
    refine hT h0 k ok hk ?_ h3
    by_cases hjk:j=k
    ·subst hjk;exact hjun
    ·rw [getD_set_ne true hjk]at hun;exact hun
   have hrj:=ready_mono hr (Ne.symm hji)
   simp only [hoj]at h1 |-
   rw [wanted_put oj a oi.dst v p1]at h1
   split
   ·rename_i hw
    simp only [hw,if_true]at h1
    -- the operation, before the other one's value is in its slot
    have h2:oj.wp P a w (λa' w'=>(if kd oj.op=3 then wpE P ops Q fuel (λ_=>True) ((listed.setIfInBounds i true).setIfInBounds j true) (a'.put oi.dst v) w' else Cl w'/\wpE P ops Q fuel Cl ((listed.setIfInBounds i true).setIfInBounds j true) (a'.put oi.dst v) w')) noX:=by
     unfold Oper.wp at h1 |-
     rw [execOp_put oj sj a oi.dst v p1]at h1
     exact aB1 p2 h1
    -- and that it leaves the other one's slots alone
    have h3:oj.wp P a w (λa' w'=>(∀Cl',YE P ops Cl' oi v a->YE P ops Cl' oi v a')/\(if kd oj.op=3 then wpE P ops Q fuel (λ_=>True) ((listed.setIfInBounds i true).setIfInBounds j true) (a'.put oi.dst v) w' else Cl w'/\wpE P ops Q fuel Cl ((listed.setIfInBounds i true).setIfInBounds j true) (a'.put oi.dst v) w')) noX:=by
     have hput: ∀u,(∀Cl',YE P ops Cl' oi v a->YE P ops Cl' oi v (a.put oj.dst u)):= λu Cl' hy=>keepY Cl' hy u
     unfold Oper.wp at h2 |-
     generalize (execOp a.eval oj).run P w=r at h2
     cases r with
     |ok n w'=>
      cases n<;>simp only [Oper.upon]at h2 |-
      all_goals first
       |exact⟨hput _,h2⟩
       |exact h2.elim
       |exact Calls.mono h2 (λe w'' he=>by cases e<;>first|exact⟨hput _,he⟩|exact he)
       |exact Rows.mono h2 (λ_ _ he=>⟨hput _,he⟩)
       |exact⟨λCl' hy=>(keepY Cl' hy undef).of_same (by cases oj.dst<;>rfl) (by cases oj.dst<;>rfl),h2⟩
       |exact h2
     |halt x w'=>cases x<;>simp only [Oper.upon]at h2 |-<;>exact h2
    refine oN (λa' w' ⟨hyk,hk⟩=> ?_) h3
    split
    ·rename_i h3'
     simp only [h3',if_true]at hk
     by_cases hk0:kd oi.op=0
     ·refine ih (λ_=>True) (listed.setIfInBounds j true) a' w' trivial hfree' hT' hrj (hyk _ ?_) ?_
      ·rcases hy with⟨hw',hrun⟩|h
       ·exact .inl ⟨hw',λw _=>hrun w (.inr hk0)⟩
       ·exact .inr h
      ·rw [Array.setIfInBounds_comm _ _ hji];exact hk
     ·obtain⟨e,he,hb,heq⟩:=hT hk0 j oj hoj hjun h3'
      exact absurd heq (hnot e he hb)
    ·rename_i h3'
     simp only [h3',if_false]at hk
     refine⟨hk.1,ih Cl (listed.setIfInBounds j true) a' w' hk.1 hfree' hT' hrj (hyk _ hy) ?_⟩
     rw [Array.setIfInBounds_comm _ _ hji];exact hk.2
   ·rename_i hw
    simp only [hw]at h1
    refine ih Cl (listed.setIfInBounds j true) _ w hc hfree' hT' hrj (keepY Cl hy undef) ?_
    rw [Array.setIfInBounds_comm _ _ hji,<-Act.put_comm a v undef p2]
    exact h1
end
end
end Go.Proofs.YtdjfkmkdkclahaaGreatDoor
