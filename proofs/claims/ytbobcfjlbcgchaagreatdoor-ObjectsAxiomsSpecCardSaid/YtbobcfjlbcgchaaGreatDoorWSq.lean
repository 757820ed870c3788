/-
  Statements whose order is open, and that make memory, append, call or store.
  Conditions: none.
-/
import Derived.Test.YtbobcfjlbcgchaaGreatDoorWSl
import Derived.Deep.LoopGhost
import Derived.Sort.LoopGhostIn
import Derived.OrdersIn
set_option linter.unusedSectionVars false
set_option linter.unusedSimpArgs false
set_option linter.unusedVariables false
namespace Go.Proofs.YtbobcfjlbcgchaaGreatDoor
section
open Go.RowKit
section
variable {P:Program}
def RO (w:World) (ρ:Env) (id:Nat):HObj->Prop
 | .cells t cs=> ∃g,ρ.blk id=some g/\eP w ρ g t cs
 | .ro t cs=> ∃g,ρ.blk id=some g/\eP w ρ g t cs
 | .own _ _ _=>True
 | .mrow _ _ _ _=>True
 | .loop _ _=>True
 | .ext X=> ∃g o,ρ.blk id=some g/\w.heap[g]? =some o/\X.sat w ρ o
 | .glob g z rows=>View w ρ.S z rows g 0
 | .rox X=> ∃g o,ρ.blk id=some g/\w.heap[g]? =some o/\X.sat w ρ o
theorem aGj.ro_ {w:World}{ρ:Env}{id:Nat}{o:HObj}(h:aGj w ρ id o):RO w ρ id o:=by
 cases o with
 |cells t cs=>obtain⟨g,a,b,_⟩:=h;exact⟨g,a,b⟩
 |ro t cs=>exact h
 |own=>trivial
 |mrow=>trivial
 |loop=>trivial
 |ext X=>obtain⟨g,o,a,b,c,_⟩:=h;exact⟨g,o,a,b,c⟩
 |glob=>exact h
 |rox=>exact h
def Tri (P:Program) (f:FuncId) (args:List SV) (hp:Hp) (post:SV->Prop):Prop:=
 ∀(w:World) (ρ:Env) (vs:Array Value),(∀b i,ρ.S b i->b < w.heap.size)->cS w ρ args vs->(∀id o,aP hp id=some o->RO w ρ id o)->
  Calls P f vs w λe w'=> ∃v S' s,e= .returned v/\post s/\Grew w w'/\(∀b i,ρ.S b i->S' b i)/\(∀b i,S' b i->ρ.S b i\/w.heap.size<=b)/\(∀b i,S' b i->b < w'.heap.size)/\Rep w' (ρ.withS S') s v
theorem Tri.mono {f:FuncId}{args:List SV}{hp:Hp}{post post':SV->Prop}(h:Tri P f args hp post) (hp': ∀s,post s->post' s):Tri P f args hp post':=
 λw ρ vs a b c=>(h w ρ vs a b c).mono λ_ _ ⟨v,S',s,h1,h2,h3⟩=>⟨v,S',s,h1,hp' s h2,h3⟩
def lU:Hp->Hp->Prop
 | [],_=>True
 |(id,o)::r,hp=>aP hp id=some o/\lU r hp
theorem jU: ∀(hp' hp:Hp),lU hp' hp-> ∀id o,aP hp' id=some o->aP hp id=some o:=by
 intro hp'
 induction hp' with
 |nil=>intro hp _ id o h;simp [aP]at h
 |cons p r ih=>
  obtain⟨k,x⟩:=p
  intro hp h id o a
  simp only [aP]at a
  by_cases e:k=id
  ·subst e;simp at a;subst a;exact h.1
  ·simp [e]at a;exact ih hp h.2 id o a
theorem aL {pin:Pin}{fr:Fr}{hp:Hp}{f:FuncId}{args:List SV}{K:SV->Hp->Prop}(hpc:Hp) {post:SV->Prop}(hc:Tri P f args hpc post) (hsub:lU hpc hp) (hk: ∀s,post s->K s hp):aF P pin fr hp f args K:=by
 intro E ρ w d _ a m vs i
 refine(hc w ρ vs a.slt i λid o l=>(a.sat id o (jU _ _ hsub id o l)).ro_).mono ?_
 rintro e w' ⟨v,S',s,j,h,p,k,q,c,n⟩
 obtain⟨b,g⟩:=a.grow p S' k q c
 exact .inl ⟨v,_,s,hp,j,hk s h,b,g fr d m,n⟩
theorem qT {pin:Pin}{fr:Fr}{hp:Hp}{f:FuncId}{args:List SV}{K:SV->Hp->Prop}{s:SV}(hc:Tri P f args [] (λr=>r=s)) (k:K s hp):aF P pin fr hp f args K:=aL [] hc trivial λr a=>by subst a;exact k
def dG:Nat->List SV->Fr
 |_,[]=>[]
 |k,s::r=>(k,s)::dG (k+1) r
theorem rV: ∀(l:List SV) (k t:Nat) (s:SV),jB (dG k l) t=some s->k<=t/\l[t - k]? =some s:=by
 intro l
 induction l with
 |nil=>intro k t s h;simp [dG,jB]at h
 |cons x r ih=>
  intro k t s h
  simp only [dG,jB]at h
  by_cases e:k=t
  ·subst e;simp at h;subst h;exact⟨Nat.le_refl _,by simp⟩
  ·simp [e]at h
   obtain⟨h1,a⟩:=ih (k+1) t s h
   refine⟨by omega, ?_⟩
   obtain⟨q,hq⟩: ∃q,t - k=q+1:=⟨t - (k+1),by omega⟩
   rw [hq,List.getElem?_cons_succ]
   rw [<-a];congr 1;omega
def roH:Hp->Hp
 | []=>[]
 |(id, .cells t cs)::r=>(id, .ro t cs)::roH r
 |(id, .ro t cs)::r=>(id, .ro t cs)::roH r
 |(_, .own _ _ _)::r=>roH r
 |(_, .mrow _ _ _ _)::r=>roH r
 |(_, .loop _ _)::r=>roH r
 |(id, .ext X)::r=>(id, .rox X)::roH r
 |(id, .rox X)::r=>(id, .rox X)::roH r
 |(id, .glob g z rows)::r=>(id, .glob g z rows)::roH r
theorem yZ: ∀(hp:Hp) (id:Nat) (o:HObj),(hp.map (·.1)).Nodup->aP (roH hp) id=some o->(∃t cs,o= .ro t cs/\(aP hp id=some (.cells t cs)\/aP hp id=some (.ro t cs)))\/(∃g z rows,o= .glob g z rows/\aP hp id=some (.glob g z rows))\/ ∃X,o= .rox X/\(aP hp id=some (.ext X)\/aP hp id=some (.rox X)):=by
 intro hp
 induction hp with
 |nil=>intro id o _ h;simp [roH,aP]at h
 |cons p r ih=>
  obtain⟨k,x⟩:=p
  intro id o f h
  rw [List.map_cons,List.nodup_cons]at f
  have i: ∀(r:Hp) o,k∉r.map (·.1)->aP (roH r) k≠some o:=by
   intro r
   induction r with
   |nil=>intro o _ h;simp [roH,aP]at h
   |cons q r ih=>
    obtain⟨k',l⟩:=q
    intro o j
    simp only [List.map_cons,List.mem_cons,not_or]at j
    cases l<;>simp only [roH,aP,if_neg (λe=>j.1 (Eq.symm e))]<;>exact ih o j.2
  cases x with
  |cells t cs=>
   simp only [roH,aP]at h |-
   by_cases e:k=id
   ·simp [e]at h;subst h;exact .inl ⟨t,cs,rfl, .inl (by simp [e])⟩
   ·simp [e]at h;simp only [e,if_false];exact ih id o f.2 h
  |ro t cs=>
   simp only [roH,aP]at h |-
   by_cases e:k=id
   ·simp [e]at h;subst h;exact .inl ⟨t,cs,rfl, .inr (by simp [e])⟩
   ·simp [e]at h;simp only [e,if_false];exact ih id o f.2 h
  |own a b c=>
   simp only [roH,aP]at h |-
   by_cases e:k=id
   ·subst e;exact absurd h (i r o f.1)
   ·simp only [e,if_false];exact ih id o f.2 h
  |mrow a b c d=>
   simp only [roH,aP]at h |-
   by_cases e:k=id
   ·subst e;exact absurd h (i r o f.1)
   ·simp only [e,if_false];exact ih id o f.2 h
  |loop a b=>
   simp only [roH,aP]at h |-
   by_cases e:k=id
   ·subst e;exact absurd h (i r o f.1)
   ·simp only [e,if_false];exact ih id o f.2 h
  |ext X=>
   simp only [roH,aP]at h |-
   by_cases e:k=id
   ·simp [e]at h;subst h;exact .inr (.inr ⟨X,rfl, .inl (by simp [e])⟩)
   ·simp [e]at h;simp only [e,if_false];exact ih id o f.2 h
  |rox X=>
   simp only [roH,aP]at h |-
   by_cases e:k=id
   ·simp [e]at h;subst h;exact .inr (.inr ⟨X,rfl, .inr (by simp [e])⟩)
   ·simp [e]at h;simp only [e,if_false];exact ih id o f.2 h
  |glob g z rows=>
   simp only [roH,aP]at h |-
   by_cases e:k=id
   ·simp [e]at h;subst h;exact .inr (.inl ⟨g,z,rows,rfl,by simp [e]⟩)
   ·simp [e]at h;simp only [e,if_false];exact ih id o f.2 h
def oN (ti:TypeId->Option TI) (fr:Fr) (hp:Hp):List ResultVar->(List SV->Prop)->Prop
 | [],K=>K []
 | .tmp t::r,K=>ev fr (.tmp t) λs=>oN ti fr hp r λl=>K (s::l)
 | .cell a t::r,K=>ev fr (.tmp a) λs=>aO0 ti t s hp λx=>oN ti fr hp r λl=>K (x::l)
def eQ:List SV->SV
 | [s]=>s
 |l=> .tup l
def aOk (tm:Array Value):ResultVar->Sem Value
 | .tmp t=>pure (tm.getD t undef)
 | .cell x t=>do loadVar t (<-asAddr (tm.getD x undef))
def bFk:List Value->Value
 | [v]=>v
 |l=> .tuple l.toArray
theorem aS7 {ti:TypeId->Option TI}(hti:fH P ti) {E:Entry}{ρ:Env}{w:World}{fr:Fr}{hp:Hp}{a:Act}(hm:Mem E ρ hp w) (hf:dV ρ w fr a.tmps): ∀(rs:List ResultVar) (K:List SV->Prop),oN ti fr hp rs K->
  ∃vs l,(rs.mapM (aOk a.tmps)).run P w= .ok vs w/\vs.length=l.length/\(∀(j:Nat) (s:SV) (v:Value),l[j]? =some s->vs[j]? =some v->Rep w ρ s v)/\K l:=by
 intro rs
 induction rs with
 |nil=>intro K h;exact⟨[],[],by simp,rfl,by simp,h⟩
 |cons r rest ih=>
  intro K h
  cases r with
  |tmp t=>
   simp only [oN]at h
   obtain⟨s,q,h⟩:=dB h
   have m:=aV hf q
   obtain⟨vs,l,G,C,F,A⟩:=ih _ h
   refine⟨a.tmps.getD t undef::vs,s::l, ?_,by simp [C], ?_,A⟩
   ·simp only [List.mapM_cons,aOk,Sem.run_bind,Sem.run_pure,Result.andThen_ok]
    rw [G]
    simp
   ·intro j z v d D
    cases j with
    |zero=>simp at d D;subst d;rw [<-D];simpa [Act.eval]using m
    |succ j=>exact F j z v (by simpa using d) (by simpa using D)
  |cell x t=>
   simp only [oN]at h
   obtain⟨s,q,h⟩:=dB h
   have m:=aV hf q
   have hl:ev fr (.tmp x) λs=>aO0 ti t s hp λx=>oN ti fr hp rest λl=>K (x::l):=by
    unfold ev;rw [q];exact h
   obtain⟨v,y,J,I,H⟩:=aSx (P:=P) hti (o:={ dst:=none,op:= .load t (.tmp x),type:=0,pos:= "",after:= #[],guard:=none }) rfl hl E ρ a w hm hf
   obtain⟨vs,l,G,C,F,A⟩:=ih _ H
   have c:=J w (Kept.refl ρ hp w)
   refine⟨v::vs,y::l, ?_,by simp [C], ?_,A⟩
   ·have f:(do loadVar t (<-asAddr (a.tmps.getD x undef)):Sem Value).run P w= .ok v w:=by
     have n: ∃i,a.eval (.tmp x)= .pointer (some i):=by
      unfold aO0 at h
      split at h
      ·exact h.elim
      ·split at h
       ·obtain⟨g,_,e⟩:=m.ptr_inv;exact⟨_,e⟩
       ·obtain⟨b,o,_,e⟩:=m.ea_inv;exact⟨_,e⟩
       ·obtain⟨i,e,_⟩:=m.mp_inv;exact⟨i,e⟩
       ·exact h.elim
     obtain⟨i,k⟩:=n
     have p:a.tmps.getD x undef= .pointer (some i):=k
     simp only [execOp,Instr.loadAt,k,Instr.sureAddr,Sem.run_bind,Sem.run_pure,Result.andThen_ok]at c
     simp only [p,asAddr,Sem.run_bind,Sem.run_pure,Result.andThen_ok]
     cases f:(loadVar t i).run P w with
     |ok u w'=>rw [f]at c;simp only [Result.andThen_ok]at c;injection c with h1 h2;injection h1 with h1;rw [h1,h2]
     |halt u w'=>rw [f]at c;simp [Result.andThen]at c
    simp only [List.mapM_cons,aOk,Sem.run_bind]
    simp only [Sem.run_bind]at f
    rw [f]
    simp only [Result.andThen_ok]
    rw [G]
    simp
   ·intro j z u d B
    cases j with
    |zero=>simp at d B;subst d;subst B;exact I
    |succ j=>exact F j z u (by simpa using d) (by simpa using B)
theorem tD {fn:Func}{a:Act}{w:World}{vs:List Value}(h:(fn.results.toList.mapM (aOk a.tmps)).run P w= .ok vs w):(results fn a.tmps).run P w= .ok (bFk vs) w:=by
 have e:results fn a.tmps=(do let vs <-fn.results.mapM (aOk a.tmps);pure (if h:vs.size=1 then vs[0]else .tuple vs)):=by
  unfold results
  congr 1
 have e2:(fn.results.mapM (aOk a.tmps)).run P w= .ok vs.toArray w:=by
  rw [Array.mapM_eq_mapM_toList]
  rw [map_eq_pure_bind,Sem.run_bind,h]
  rfl
 rw [e,Sem.run_bind,e2]
 simp only [Result.andThen_ok]
 match vs with
 | []=>rfl
 | [v]=>rfl
 |a::b::r=>rfl
theorem aA3 {w:World}{ρ:Env}{l:List SV}{vs:List Value}(hl:vs.length=l.length) (h: ∀(j:Nat) (s:SV) (v:Value),l[j]? =some s->vs[j]? =some v->Rep w ρ s v):Rep w ρ (eQ l) (bFk vs):=by
 match l,vs,hl with
 | [],[],_=>exact .tup [] #[] rfl (by simp)
 | [s],[v],_=>exact h 0 s v rfl rfl
 |s::s'::r,v::v'::r',hl=>exact .tup _ _ (by simpa using hl) λj x u hx a=>h j x u hx (by simpa using a)
mutual
def aRe (hp:Hp):SV->(SV->Prop)->Prop
 | .osl _ z rows,K=>K (.d (.sl z rows))
 | .mw id z n, K => (match aP hp id with
  |some (.mrow _ z' _ rows)=>z=z'/\n=rows.length/\K (.d (.sl z rows))
  |_=>aH "a result: no such rows")
 | .agg cs,K=>nN hp cs λl=>K (aC7 l)
 | .d x,K=>K (.d x)
 | .tup _,_=>aH "a result: a tuple"
 | .ptr id off,K=>K (.ptr id off)
 | .ea z rows i off,K=>K (.ea z rows i off)
 | .msl id z off n,K=>K (.msl id z off n)
 | .fn f a b,K=>K (.fn f a b)
 | .ms _ _ _ _ _,_=>aH "a result: a part of rows"
 | .mp _ _ _ _ _,_=>aH "a result: an address in rows"
 | .zc,K=> ∃z,K (.d (.sl z []))
 | .yld _,_=>aH "a result: a round"
 | .xv _ _,_=>aH "a result: a value of another kind"
def nN (hp:Hp):List SV->(List SV->Prop)->Prop
 | [],K=>K []
 |s::r,K=>aRe hp s λx=>nN hp r λl=>K (x::l)
end
def Sfz (ρ:Env) (hp:Hp):Nat->Nat->Prop:= λb i=>ρ.S b i\/ ∃id e z cap rows,aP hp id=some (.mrow e z cap rows)/\gB (ρ.tv id)=some b/\i < rows.length * z
theorem Rep.wider {w:World}{ρ:Env}{s:SV}{v:Value}{S':Nat->Nat->Prop}(h:Rep w ρ s v) (hs: ∀b i,ρ.S b i->S' b i):Rep w (ρ.withS S') s v:=
 h.mono (λ_ _ _=>rfl) hs λid _=>ρ.moved_withS S' id
theorem aP9 {E:Entry}{ρ:Env}{hp:Hp}{w:World}(hm:Mem E ρ hp w) {id e z cap:Nat}{rows:List (List D)}(ho:aP hp id=some (.mrow e z cap rows)):RepD w (Sfz ρ hp) (.sl z rows) (ρ.tv id):=by
 obtain⟨_,j⟩:=hm.sat id _ ho
 rcases j with⟨rfl,_,A,e1⟩|⟨hc,g,cur,e1,n,h,m,q4,f,q7⟩
 ·rw [e1]
  exact RepD.mk_sl (b:=0) (off:=0) (by simp) (by simp) (λc=>absurd rfl c) ⟨by simp,by simp⟩ (by simp)
 ·rw [e1]
  have hb:gB (ρ.tv id)=some g:=by rw [e1];have:cap≠0:=(by omega);simp [gB,this]
  refine RepD.mk_sl (b:=g) (off:=0) h m (λ_=>rfl) ?_ rfl
  refine f.view (λk v a=> ?_) (λk d=> ?_) (λx v hx=>hx.mono (λ_ _ _=>rfl) λb i l=> .inl l)
  ·rw [Nat.zero_add,cell_of_row w g k cur e (0,0) n]
   rw [List.getElem?_take]at a
   split at a
   ·simpa using a
   ·cases a
  ·rw [Nat.zero_add]
   right
   refine⟨id,e,z,cap,rows,ho,hb, ?_⟩
   rw [f.len]at d;exact d
mutual
theorem aVa {E:Entry}{ρ:Env}{hp:Hp}{w:World}(hm:Mem E ρ hp w): ∀(s:SV) (v:Value) (K:SV->Prop),Rep w ρ s v->aRe hp s K-> ∃s',K s'/\Rep w (ρ.withS (Sfz ρ hp)) s' v
 | .osl _ z rows,v,K,hr,h=>⟨_,h,(Rep.d _ _ hr.osl_inv.1:Rep w ρ (.d (.sl z rows)) v).wider λ_ _ x=> .inl x⟩
 | .mw id z n,v,K,hr,h=>by
  simp only [aRe]at h
  split at h
  ·rename_i e z' cap rows p
   obtain⟨rfl,rfl,g⟩:=h
   obtain⟨A,c,_,_,_,_,_,e2⟩:=hr.mw_inv
   obtain⟨B,_⟩:=hm.sat id _ p
   have y:=e2 B.symm
   subst y
   exact⟨_,g, .d _ _ (aP9 hm p)⟩
  ·exact h.elim
 | .agg cs,v,K,hr,h=>by
  simp only [aRe]at h
  obtain⟨vs,e,hl,q⟩:=hr.agg_inv
  subst e
  obtain⟨l,g,t,r⟩:=uA hm cs vs.toList _ (by simpa using hl) (λj s u m k=>q j s u m (by simpa using k)) h
  exact⟨_,g,oO (by rw [t];simpa using hl) λj s u m k=>r j s u m (by simpa using k)⟩
 | .d x,v,K,hr,h=>⟨_,h,hr.wider λ_ _ x=> .inl x⟩
 | .tup _,_,_,_,h=>h.elim
 | .ptr id off,v,K,hr,h=>⟨_,h,hr.wider λ_ _ x=> .inl x⟩
 | .ea z rows i off,v,K,hr,h=>⟨_,h,hr.wider λ_ _ x=> .inl x⟩
 | .msl id z off n,v,K,hr,h=>⟨_,h,hr.wider λ_ _ x=> .inl x⟩
 | .fn f a b,v,K,hr,h=>⟨_,h,hr.wider λ_ _ x=> .inl x⟩
 | .ms _ _ _ _ _,_,_,_,h=>h.elim
 | .mp _ _ _ _ _,_,_,_,h=>h.elim
 | .zc,v,K,hr,h=>by
  simp only [aRe]at h
  obtain⟨z,g⟩:=h
  obtain⟨A,e⟩:=hr.zc_inv
  subst e
  exact⟨_,g, .d _ _ (RepD.mk_sl (b:=0) (off:=0) (by simp) (by simp) (λo=>absurd rfl o) ⟨by simp,by simp⟩ (by simp))⟩
 | .yld _,_,_,_,h=>h.elim
 | .xv _ _,_,_,_,h=>h.elim
theorem uA {E:Entry}{ρ:Env}{hp:Hp}{w:World}(hm:Mem E ρ hp w): ∀(l:List SV) (vs:List Value) (K:List SV->Prop),vs.length=l.length->(∀(j:Nat) (s:SV) (u:Value),l[j]? =some s->vs[j]? =some u->Rep w ρ s u)->nN hp l K->
  ∃b,K b/\b.length=l.length/\ ∀(j:Nat) (s:SV) (u:Value),b[j]? =some s->vs[j]? =some u->Rep w (ρ.withS (Sfz ρ hp)) s u
 | [],vs,K,_,_,h=>⟨[],h,rfl,by simp⟩
 |s::r,[],K,hl,_,_=>by simp at hl
 |s::r,v::vs,K,hl,hh,h=>by
  simp only [nN]at h
  obtain⟨i,f,d⟩:=aVa hm s v _ (hh 0 s v rfl rfl) h
  obtain⟨b,c,k,g⟩:=uA hm r vs _ (by simpa using hl) (λj s u e a=>hh (j+1) s u (by simpa using e) (by simpa using a)) f
  refine⟨i::b,c,by simp [k],λj x u hx a=> ?_⟩
  cases j with
  |zero=>simp at hx a;subst hx;subst a;exact d
  |succ j=>exact g j x u (by simpa using hx) (by simpa using a)
end
def aOj (ti:TypeId->Option TI) (rs:List ResultVar) (post:SV->Prop) (e:Ex) (fr:Fr) (hp:Hp):Prop:=
 match e with
 | .ret=>oN ti fr hp rs λl=>nN hp l λl=>(eQ l).ids=[]/\post (eQ l)
 | .normal=>oN ti fr hp rs λl=>nN hp l λl=>(eQ l).ids=[]/\post (eQ l)
 |_=>aH "the end"
theorem Mem.putOther {E E':Entry}{ρ:Env}{hp:Hp}{w:World}(h:Mem E ρ hp w) {b:Nat}{o o':Obj}(hb:w.heap[b]? =some o) (ho: ∀c t q,o≠ .cells c t q) (ho': ∀c t q,o'≠ .cells c t q) (hnew:E.w.heap.size<=b) (hrx: ∀id X,aP hp id=some (.rox X)->ρ.blk id≠some b) (hat: ∀id x,aP hp id=some x->ρ.at id x≠some b)
  (hE:E'.w=E.w/\E'.S=E.S/\E'.B=E.B/\E'.pin=E.pin/\E'.ρ=E.ρ) (hD: ∀d∈E'.D,d∈E.D/\d≠b):
  Mem E' ρ hp (w.putObj b o')/\cF ρ.S w (w.putObj b o'):=by
 obtain⟨e1,e2,y,C,I⟩:=hE
 have a: ∀k,k≠b->(w.putObj b o').heap[k]? =w.heap[k]? := λk p=>World.putObj_heap_other p
 have j: ∀k i,(w.putObj b o').cell? ⟨k,i,none⟩=w.cell? ⟨k,i,none⟩:=by
  intro k i
  by_cases e:k=b
  ·subst e
   have l:=World.putObj_heap_same (w:=w) (r:=k) (o:=o') (bD hb)
   unfold World.cell?
   simp only [l,hb]
   cases o<;>cases o'<;>first|rfl|exact absurd rfl (ho _ _ _)|exact absurd rfl (ho' _ _ _)
  ·exact World.cell?_of_block (w:=w) (a k e)
 have p:cF ρ.S w (w.putObj b o'):= λk i _=>j k i
 have z: ∀id x g,aP hp id=some x->x.Rd->ρ.blk id=some g->g≠b:=by
  rintro id x g n f m rfl
  have F:=h.sat id _ n
  cases x with
  |ro t cs=>
   obtain⟨g',l,cur,s,_⟩:=F
   rw [m]at l;injection l with l;subst l
   rw [hb]at s;injection s with s;exact ho _ _ _ s
  |rox X=>exact hrx id X n m
  |_=>exact f.elim
 refine⟨⟨by rw [e1];exact h.os,by rw [e1];exact h.tape,by rw [e1];exact h.output,by rw [e1];simpa using h.size, ?_,by rw [e2];exact h.sold, ?_,by simpa using h.slt, ?_, ?_,h.inj, ?_, ?_,h.ro, ?_⟩,p⟩
 ·rw [e1,y]
  intro k u A
  rw [a k (by omega)]
  exact h.old k u A
 ·rw [e1,e2,y];exact h.snew
 ·rw [e1,e2];exact h.kp.trans h.sold p
 ·intro id x hx
  refine(h.sat id x hx).keep p (λ_ _ x=>x) (λi _=>ρ.moved_refl i) ⟨rfl,rfl⟩ ?_ (λ_ _ _ x=>x)
  rintro g (v|⟨v,f⟩)
  ·exact a g λe=>hat id x hx (e ▸ v)
  ·exact a g (z id x g hx f v)
 ·rw [e1,y];exact h.hb
 ·rw [C,I];exact h.mv
 ·intro d H
  obtain⟨d1,G⟩:=hD d H
  rw [a d G];exact h.md d d1
theorem Mem.notDef {E:Entry}{ρ:Env}{hp:Hp}{w:World}(h:Mem E ρ hp w) {b:Nat}{x:Option (List Deferred)}(hb:w.heap[b]? =some (.deferred x)): ∀id o,aP hp id=some o->ρ.at id o≠some b:=by
 intro id o i a
 have f:=h.sat id o i
 cases o with
 |cells t cs=>
  obtain⟨g,d,⟨cur,c,_⟩,_⟩:=f
  simp only [Env.at]at a
  rw [d]at a;injection a with a;subst a
  rw [hb]at c;cases c
 |ro=>simp [Env.at]at a
 |own e z n=>
  obtain⟨_,xs,d,_⟩:=f
  exact oW d a hb
 |mrow e z cap rows=>
  obtain⟨_,d⟩:=f
  obtain⟨cur,c⟩:=d.heap a
  rw [hb]at c;cases c
 |loop L s=>
  obtain⟨g,r,d,c,_⟩:=f
  simp only [Env.at]at a
  rw [d]at a;injection a with a;subst a
  rw [hb]at c;cases c
 |ext X=>
  obtain⟨g,r,d,c,j,_⟩:=f
  simp only [Env.at]at a
  rw [d]at a;injection a with a;subst a
  rw [hb]at c;cases c
  exact X.nd _ _ _ j
 |glob=>simp [Env.at]at a
 |rox=>simp [Env.at]at a
theorem wQ {ρ:Env}{hp:Hp}{fn:Func}{tmps:Array Value}{R:Ending->World->Prop}{u:FrameMode}(hu:u≠ .run) (pre:List Deferred): ∀(own:List Nat) (E:Entry) (w:World),Mem E ρ hp w->(∃D0,E.D=own++D0/\ ∀b∈own,b∉D0)->own.Nodup->(∀b∈own,E.w.heap.size<=b)->
  (∀E' w',E'.w=E.w/\E'.S=E.S/\E'.B=E.B/\E'.pin=E.pin/\E'.ρ=E.ρ/\E'.D=E.D.drop own.length->Mem E' ρ hp w'->cF ρ.S w w'->LeavesInM (FW none) 0 P fn tmps R pre u w')->
  LeavesInM (FW none) 0 P fn tmps R (own.map xP++pre) u w
 | [],E,w,hm,_,_,_,fin=>fin E w ⟨rfl,rfl,rfl,rfl,rfl,rfl⟩ hm (λ_ _ _=>rfl)
 |b::own,E,w,hm,⟨D0,hD,hD0⟩,hnd,hnew,fin=>by
  have hb:w.heap[b]? =some (.deferred (some [])):=hm.md b (by rw [hD];simp)
  rw [List.nodup_cons]at hnd
  obtain ⟨k, l⟩ := hm.putOther (E' := { E with D := own ++ D0 }) (o' := .deferred none) hb (λ_ _ _ e => by cases e) (λ_ _ _ e => by cases e) (hnew b (List.mem_cons_self ..)) (λi X hi m => by
    obtain⟨g,r,f,j,o⟩:=hm.sat i _ hi
    rw [m]at f;injection f with f;subst f
    rw [hb]at j;cases j
    exact X.nd _ _ _ o) (hm.notDef hb) ⟨rfl,rfl,rfl,rfl,rfl⟩
   (λd a => ⟨by rw [hD]; exact List.mem_cons_of_mem _ a, λe => by
    subst e
    rcases List.mem_append.1 a with a|a
    ·exact hnd.1 a
    ·exact hD0 d (List.mem_cons_self ..) a⟩)
  refine⟨hu, .inl ⟨b,_,rfl,run_takeDeferred hb, ?_⟩⟩
  refine wQ hu pre own { E with D:=own++D0 } _ k ⟨D0,rfl,λd a=>hD0 d (List.mem_cons_of_mem _ a)⟩ hnd.2 (λd a=>hnew d (List.mem_cons_of_mem _ a)) ?_
  intro E' w' c h n
  refine fin E' w' ⟨c.1,c.2.1,c.2.2.1,c.2.2.2.1,c.2.2.2.2.1, ?_⟩ h (l.trans (λ_ _ x=>x) n)
  rw [c.2.2.2.2.2,hD]
  simp
theorem aEn {E E':Entry}(h:Ext E E') (h0:E.k=0): ∃own,E'.D=own++E.D/\E'.D.take E'.k=own/\(∀b∈own,E'.w.heap.size<=b)/\own.Nodup/\ ∀b∈own,b∉E.D:=by
 obtain⟨D',d1,d,c,a⟩:=h.D
 refine⟨D',d1, ?_,by rw [h.w];exact λb hb=>(a b hb).1,c,λb hb=>(a b hb).2⟩
 rw [d,h0,d1];simp
theorem aGs (zc:Bool) (frz:List Nat) {ti:TypeId->Option TI}(hti:fH P ti) {f:FuncId}{fn:Func}{c:Code}(hf:P.funcs[f]? =some fn) (hb:fn.body=some c) (keep:Nat->Bool) (pin:List Nat) (args:List SV) (hp:Hp) (post:SV->Prop)
  (hn:args.length<=fn.ntmps) (hnd:(hp.map (·.1)).Nodup) (hx:X ⟨P,ti,yA pin,fn.ntmps,keep,0,none,zc,frz⟩ c (dG 0 args) (roH hp) (aOj ti fn.results.toList post)):Tri P f args hp post:=by
 intro w ρ vs E d j
 refine mO (r:=none) (n:=0) |>.1 (callsIn_of_wp_marks hf hb trivial ?_)
 have hm:Mem ⟨w,ρ.S,λ_=>False,yA pin,ρ,none,[],0⟩ ρ (roH hp) w:=by
  have D: ∀id o,aP (roH hp) id=some o->ρ.at id o=none:=by
   intro id o q
   rcases yZ hp id o hnd q with⟨t,cs,rfl,_⟩|⟨g,z,rows,rfl,_⟩|⟨X,rfl,_⟩
   ·rfl
   ·rfl
   ·rfl
  refine⟨rfl,rfl, .refl _,Nat.le_refl _,λ_ _ _=>rfl,λ_ _ h=>h,λ_ _ h _ _=>h,E,λ_ _ _=>rfl, ?_, ?_, ?_,λid _=>ρ.moved_refl id, ?_,λb hb=>by cases hb⟩
  ·intro id o q
   rcases yZ hp id o hnd q with⟨t,cs,rfl,h|h⟩|⟨g,z,rows,rfl,h⟩|⟨X,rfl,h|h⟩
   ·exact j id _ h
   ·exact j id _ h
   ·exact j id _ h
   ·exact j id _ h
   ·exact j id _ h
  ·intro id o I o' g Y _ A _;rw [D id o Y]at A;cases A
  ·intro id o g Y A;rw [D id o Y]at A;cases A
  ·intro id x g _ _ _ I o' A h4;rw [D I o' A]at h4;cases h4
 have W:dV ρ w (dG 0 args) (vs++Array.replicate (fn.ntmps - vs.size) undef):=by
  intro t s ht
  obtain⟨_,h2⟩:=rV args 0 t s ht
  simp only [Nat.sub_zero]at h2
  have y:=(List.getElem?_eq_some_iff.1 h2).1
  have k:t < vs.size:=by rw [d.1];exact y
  refine⟨vs[t], ?_,d.2 t s _ h2 (Array.getElem?_eq_getElem k)⟩
  rw [Array.getElem?_append_left k,Array.getElem?_eq_getElem k]
 refine wpIn_mono (nM (C:=⟨P,ti,yA pin,fn.ntmps,keep,0,none,zc,frz⟩) hti c _ _ _ hx ⟨w,ρ.S,λ_=>False,yA pin,ρ,none,[],0⟩ _ w rfl rfl ⟨?_,rfl,ρ,hm,W⟩) ?_
 ·simp only [Array.size_append,Array.size_replicate]
  have:=d.1
  omega
 ·rintro e a' w' ⟨x,H,hp',E',G,L,u,hnt,V,Q,a1,U⟩
  obtain⟨R,o1,o2,o3,o4,o5⟩:=aEn G rfl
  have M:oN ti H hp' fn.results.toList (λl=>nN hp' l λl=>(eQ l).ids=[]/\post (eQ l))->LeavesInM (FW none) 0 P fn a'.tmps (λe w'=> ∃v S' s,e= .returned v/\post s/\Grew w w'/\(∀b i,ρ.S b i->S' b i)/\(∀b i,S' b i->ρ.S b i\/w.heap.size<=b)/\(∀b i,S' b i->b < w'.heap.size)/\Rep w' (ρ.withS S') s v) a'.defers .returning w':=by
   intro u
   have J:E'.pin.pre=[]:=by rw [G.pin];rfl
   rw [V,o2,J]
   refine wQ (by simp) [] R E' w' a1 ⟨_,o1,o5⟩ o4 o3 ?_
   rintro E'' F ⟨q1,q2,q3,q4,q5,q6⟩ a T
   have N:dV Q F H a'.tmps:=U.mono T (λ_ _ x=>x) λi _=>Q.moved_refl i
   obtain⟨us,l,r1,r2,r3,r4⟩:=aS7 hti a N _ _ u
   obtain⟨l',⟨k1,k2⟩,k3,k4⟩:=uA a l us _ r2 r3 r4
   have p:E''.w=w:=q1.trans G.w
   have eS:E''.S=ρ.S:=q2.trans G.S
   have Z:E''.B= λ_=>False:=q3.trans G.B
   refine⟨_,tD r1,_,Sfz Q hp',eQ l',rfl,k2,⟨by rw [a.os,p],by rw [a.tape,p],by have:=a.output;rw [p]at this;exact this,by have:=a.size;rw [p]at this;exact this,λb hb=> ?_⟩,λb i O=> .inl (a.sold b i (by rw [eS];exact O)), ?_, ?_, ?_⟩
   ·have:=a.old b (by rw [p];exact hb) (by rw [Z];exact λh=>h)
    rw [p]at this;exact this
   ·rintro b i (O|⟨id,e,z,cap,rows,q,hb,_⟩)
    ·rcases Nat.lt_or_ge b w.heap.size with y|m
     ·left
      have:=a.snew b i O (by rw [p];exact y) (by rw [Z];exact λh=>h)
      rw [eS]at this;exact this
     ·exact .inr m
    ·rcases a.hb id _ b q hb with m|hB
     ·rw [p]at m;exact .inr m
     ·rw [Z]at hB;exact hB.elim
   ·rintro b i (O|⟨id,e,z,cap,rows,q,hb,_⟩)
    ·exact a.slt b i O
    ·exact a.blk_lt q hb
   ·refine(aA3 (w:=F) (ρ:=Q.withS (Sfz Q hp')) (l:=l') (by rw [k3];exact r2) k4).mono (λ_ _ _=>rfl) (λ_ _ h=>h) λid K=> ?_
    rw [k1]at K
    cases K
  cases x<;>cases e<;>simp only [Ex.rel]at L<;>simp only [KX,aOj,yA]at u
  ·exact M u
  ·exact u.elim
  ·exact u.elim
  ·exact M u
end
section
def Wk:SV->SV->Prop
 | .osl _ z rows, .d (.sl z' rows')=>z=z'/\rows=rows'
 | .d .nil, .d (.sl _ rows)=>rows=[]
 | .zc, .d (.sl _ rows)=>rows=[]
 |a,b=>a=b
theorem bD9 {w:World}{ρ:Env}{s s':SV}{v:Value}(h:Wk s s') (hr:Rep w ρ s v):Rep w ρ s' v:=by
 unfold Wk at h
 split at h
 ·obtain⟨rfl,rfl⟩:=h
  exact .d _ _ hr.osl_inv.1
 ·subst h
  have e:=hr.nil_inv
  subst e
  exact .d _ _ (RepD.mk_sl (b:=0) (off:=0) (by simp) (by simp) (λa=>absurd rfl a) ⟨by simp,by simp⟩ (by simp))
 ·subst h
  obtain⟨A,e⟩:=hr.zc_inv
  subst e
  exact .d _ _ (RepD.mk_sl (b:=0) (off:=0) (by simp) (by simp) (λa=>absurd rfl a) ⟨by simp,by simp⟩ (by simp))
 ·subst h;exact hr
theorem bB1 (s:SV):Wk s s=True:=by
 unfold Wk;split<;>simp_all
def aZb:Fr->Fr->Prop
 | [],_=>True
 |(t,s)::r,fr=>(match jB fr t with|some x=>Wk x s|none=>aH "a slot is not known")/\aZb r fr
theorem aRi {w:World}{ρ:Env}{tm:Array Value}: ∀(a fr:Fr),aZb a fr->dV ρ w fr tm->dV ρ w a tm:=by
 intro a
 induction a with
 |nil=>intro fr _ _ t s h;simp [jB]at h
 |cons p r ih=>
  obtain⟨k,x⟩:=p
  intro fr h d t s b
  simp only [aZb]at h
  simp only [jB]at b
  by_cases e:k=t
  ·subst e
   simp at b
   subst b
   obtain⟨c,_⟩:=h
   split at c
   ·rename_i y i
    obtain⟨v,f,g⟩:=d k y i
    exact⟨v,f,bD9 c g⟩
   ·exact c.elim
  ·simp [e]at b
   exact ih fr h.2 d t s b
structure Sub (fr:Fr) (hp:Hp) (fr':Fr) (hp':Hp):Prop where
 f:aZb fr' fr
 h:lU hp' hp
theorem Sat.sub {E:Entry}{nt:Nat}{fr fr':Fr}{hp hp':Hp}{a:Act}{w:World}(h:Sat E nt ⟨fr,hp⟩ a w) (hs:Sub fr hp fr' hp'):Sat E nt ⟨fr',hp'⟩ a w:=by
 obtain⟨b,e,ρ,d,c⟩:=h
 exact⟨b,e,ρ,d.sub (jU _ _ hs.h),aRi _ _ hs.f c⟩
theorem aK.sub {C:Cfg}{c:Code}{fr fr':Fr}{hp hp':Hp}{K:Ex->Fr->Hp->Prop}(hs:Sub fr hp fr' hp') (h:aK C c fr' hp' K):aK C c fr hp K:=
 λE a w d e b=>h E a w d e (b.sub hs)
theorem aK.mono {C:Cfg}{c:Code}{fr:Fr}{hp:Hp}{K K':Ex->Fr->Hp->Prop}(h:aK C c fr hp K) (hk: ∀e fr hp,K e fr hp->K' e fr hp):aK C c fr hp K':=
 λE a w d g b=>wpIn_mono (h E a w d g b) λ_ _ _ ⟨x,f,p,E',h0,h1,h2,h3⟩=>⟨x,f,p,E',h0,h1,KX.mono hk h2,h3⟩
theorem aK.own {C:Cfg}{c:Code}{fr:Fr}{hp:Hp}{K:Ex->Fr->Hp->Prop}(t id e z:Nat) (hnil:jB fr t=some (.d .nil)) (hfr:fE id C.pin fr hp)
  (h:aK C c (aOd fr t (.osl id z [])) ((id, .own e z 0)::hp) K):aK C c fr hp K:=by
 intro E a w b i g
 obtain⟨p,n,ρ,A,j⟩:=g
 obtain⟨k,q,y⟩:=hfr
 obtain⟨l,m,x⟩:=A.newNil (id:=id) e z y (by rw [b];exact k)
 refine h E a w b i ⟨p,n,_,l, ?_⟩
 intro u s f
 rw [kM]at f
 by_cases e1:u=t
 ·subst e1
  simp at f
  subst f
  obtain⟨v,o,r⟩:=j u _ hnil
  have ev:=r.nil_inv
  subst ev
  exact⟨_,o,x⟩
 ·simp [e1]at f
  exact m fr a.tmps q j u s f
theorem aK.mown {C:Cfg}{c:Code}{fr:Fr}{hp:Hp}{K:Ex->Fr->Hp->Prop}(t id e z:Nat) (hnil:jB fr t=some (.d .nil)) (hfr:fE id C.pin fr hp)
  (h:aK C c (aOd fr t (.mw id z 0)) ((id, .mrow e z 0 [])::hp) K):aK C c fr hp K:=by
 intro E a w b k j
 obtain⟨r,p,ρ,G,l⟩:=j
 obtain⟨m,A,F⟩:=hfr
 obtain⟨n,o,D⟩:=G.newMrow (id:=id) (e:=e) (z:=z) (cap:=0) (rows:=[]) (v:= .slice none 0 0) F (by rw [b];exact m) (Grew.refl w) (.inl ⟨rfl,rfl,none,rfl⟩) (λg y=>by simp [gB]at y)
 refine h E a w b k ⟨r,p,_,n, ?_⟩
 intro u s f
 rw [kM]at f
 by_cases e1:u=t
 ·subst e1
  simp at f
  subst f
  obtain⟨v,q,B⟩:=l u _ hnil
  have ev:=B.nil_inv
  subst ev
  exact⟨_,q, .mw id z 0 0 none (by simp) (by simp) (λh=>absurd rfl h) (by simp) (by simp [Env.retop])⟩
 ·simp [e1]at f
  exact(l.mono (ρ':=ρ.retop id 0 (.slice none 0 0)) o (λ_ _ x=>x) λi hi=>D i λe=>A (e ▸ hi)) u s f
def aYv {α:Type}(I:α->Fr×Hp) (Ok:α->Prop) (μ:α->Nat) (x:α) (K:Ex->Fr->Hp->Prop) (e:Ex) (fr:Fr) (hp:Hp):Prop:=
 match e with
 | .normal=> ∃y,Ok y/\μ y < μ x/\Sub fr hp (I y).1 (I y).2
 |e=>K e fr hp
theorem aD {C:Cfg}(hti:fH C.P C.ti) {c:Code}{fr:Fr}{hp:Hp}{K:Ex->Fr->Hp->Prop}{α:Type}(I:α->Fr×Hp) (Ok:α->Prop) (μ:α->Nat) (x:α) (h0:Ok x) (hs:Sub fr hp (I x).1 (I x).2)
  (round: ∀y,Ok y->X C c (I y).1 (I y).2 (aYv I Ok μ y K)):aK C (.loop c) fr hp K:=by
 intro E a w k m l
 refine wpIn_loop_ghost (λn a w=> ∃y E',μ y=n/\Ok y/\Ext E E'/\Sat E' C.nt ⟨(I y).1,(I y).2⟩ a w) (μ x) ⟨x,E,rfl,h0, .refl E,l.sub hs⟩ ?_
 rintro n a' w' ⟨y,E',rfl,q,i,o⟩
 have:=nM hti c _ _ _ (round y q) E' a' w' (i.pin.trans k) (m.ext i) o
 rw [i.rd]at this
 refine wpIn_mono this ?_
 rintro e a₁ w₁ ⟨ex,g,h,E'',d,b,j,f⟩
 cases ex<;>cases e<;>simp only [Ex.rel]at b<;>simp only [KX,aYv]at j
 ·obtain⟨p,s,t,r⟩:=j
  exact⟨μ p,t,p,E'',rfl,s,i.trans d,f.sub r⟩
 ·exact⟨.exit _,g,h,E'',i.trans d,b,j,f⟩
 ·exact⟨.goto _,g,h,E'',i.trans d,b,j,f⟩
 ·exact⟨.ret,g,h,E'',i.trans d,b,j,f⟩
 ·exact⟨.pan,g,h,E'',i.trans d,b,j,f⟩
def nD (l:List Oper):Bool:=l.all λo=>match o.op with| .defer _=>false|_=>true
theorem aP6 {l:List Oper}(h:nD l=true) {o:Oper}(ho:o∈l): ∀c,o.op≠ .defer c:=by
 intro c e
 have:=List.all_eq_true.1 h o ho
 rw [e]at this
 cases this
theorem aUy {P:Program}{l:List Oper}(hd:nD l=true) {r:Option Nat}{Q:Exit->Act->World->Prop}(hQ:¬ LetsOut Q): ∀(d:List Nat) (a:Act) (w:World),wpOps P l.toArray Q d a w->wpOpsIn (FW r) 0 P l.toArray Q d a w:=by
 intro d
 induction d with
 |nil=>intro a w h;exact h
 |cons i rest ih=>
  intro a w h
  simp only [wpOps]at h
  simp only [wpOpsIn]
  split
  ·rename_i c;simp only [c]at h;exact ih a w h
  ·rename_i o c
   simp only [c]at h
   have b:o∈l:=by
    have:l[i]? =some o:=by simpa using c
    exact List.mem_of_getElem? this
   split
   ·rename_i e
    simp only [e,if_true]at h
    rcases h with h|⟨_,h⟩
    ·exact aZ3 (aP6 hd b) (Oper.wp_mono (λa w=>ih a w) h)
    ·exact absurd h hQ
   ·rename_i e
    simp only [e]at h
    exact⟨λ_ _=>trivial,ih _ _ h⟩
theorem gP {P:Program}{l:List Oper}(hm:P.follows .mixedOrders=true) (hd:nD l=true) {r:Option Nat}{Q:Exit->Act->World->Prop}(hQ:¬ LetsOut Q) {id:Nat}{a:Act}{w:World}
  (h:wpAny P .any l.toArray Q l.toArray.size (Array.replicate l.toArray.size false) a { w with drawn:=w.drawn+1 }):(Code.region id l.toArray true).wpIn (FW r) 0 P Q a w:=
 wpIn_region_draw λt=>by
  simp only [Region.schedule,hm,Bool.true_or,if_true]
  exact aUy hd hQ _ _ _ (wpAny_sound _ t _ a _ h)
def aNz:SV->Option Value
 | .d (.int k n)=>some (.int k n)
 | .d (.bool b)=>some (.bool b)
 | .d (.str l)=>some (.string ⟨l.toArray⟩)
 |_=>none
theorem aV2 {w:World}{ρ:Env}{s:SV}{u v:Value}(h:aNz s=some u) (hr:Rep w ρ s v):v=u:=by
 unfold aNz at h
 split at h
 ·injection h with h;rw [<-h];exact hr.int_inv
 ·injection h with h;rw [<-h];exact hr.bool_inv
 ·injection h with h;rw [<-h];exact hr.str_inv.1
 ·cases h
def aZu (P:Program) (fr:Fr) (hp:Hp) (f:Operand) (args:List Operand) (K:SV->Prop):Prop:=
 ev fr f λs=>match aYl s with
  | some (g, first, cap) => (match evL fr args with
   |some l=>dY P g=true/\ ∃r u hpc,aNz r=some u/\lU hpc hp/\Tri P g (first++l++cap) hpc (· =r)/\K r
   |none=>aH "call: an argument")
  |none=>aH "call: no function"
def qVC (P:Program) (ti:TypeId->Option TI) (fr:Fr) (hp:Hp) (o:Oper) (K:SV->Prop):Prop:=
 match o.op with
 | .call { callee:= .value f,args:=args,argTypes:=_ }=>aZu P fr hp f args.toList K
 |_=>uS P ti fr hp o K
theorem RO.grow {w w':World}{ρ:Env}{id:Nat}{o:HObj}(h:RO w ρ id o) (hg:Grew w w') (hs: ∀b i,ρ.S b i->b < w.heap.size):RO w' ρ id o:=by
 have key: ∀t cs,(∃g,ρ.blk id=some g/\eP w ρ g t cs)-> ∃g,ρ.blk id=some g/\eP w' ρ g t cs:=by
  rintro t cs ⟨g,c,a⟩
  refine⟨g,c,a.mono ?_ (hg.keeps hs) (λ_ _ x=>x) λi _=>ρ.moved_refl i⟩
  obtain⟨cur,e,_⟩:=a
  exact hg.block g (bD e)
 cases o with
 |cells t cs=>exact key t cs h
 |ro t cs=>exact key t cs h
 |own=>trivial
 |mrow=>trivial
 |loop=>trivial
 |ext X=>
  obtain⟨g,x,c,a,d⟩:=h
  exact⟨g,x,c,(hg.block g (bD a)).trans a,X.keep w w' ρ ρ x (hg.keeps hs) (λ_ _ x=>x) (λi _=>ρ.moved_refl i) d⟩
 |glob=>exact View.mono h (hg.keeps hs) λ_ _ x=>x
 |rox X=>
  obtain⟨g,x,c,a,d⟩:=h
  exact⟨g,x,c,(hg.block g (bD a)).trans a,X.keep w w' ρ ρ x (hg.keeps hs) (λ_ _ x=>x) (λi _=>ρ.moved_refl i) d⟩
theorem lO {P:Program}{o:Oper}{a:Act}{f:Operand}{args:Array Operand}{ts:Array TypeId}(ho:o.op= .call { callee:= .value f,args:=args,argTypes:=ts }) {g:FuncId}{fv cv:Array Value}(e:a.eval f= .func (.func g) fv cv) (hcall:dY P g=true) (w:World):
  (execOp a.eval o).run P w= .ok (.enter g (fv++args.map a.eval++cv)) w:=by
 unfold dY at hcall
 split at hcall
 ·rename_i fn b
  simp only [Bool.and_eq_true,Bool.not_eq_true']at hcall
  obtain⟨c1,c⟩:=hcall
  have d:fn.body.isNone=false:=by cases hb:fn.body<;>simp_all
  simp only [execOp,ho,resolve,e,Deferred.ofValue,invoke,callFunc,Sem.run_bind,Sem.run_pure,Result.andThen_ok,run_program,b,c,d,Bool.false_eq_true,if_false]
 ·cases hcall
theorem bFj {P:Program}{ti:TypeId->Option TI}(hti:fH P ti) {o:Oper}{fr:Fr}{hp:Hp}{K:SV->Prop}(h:qVC P ti fr hp o K) {E:Entry}{ρ:Env}{a:Act}{w:World}(hm:Mem E ρ hp w) (hf:dV ρ w fr a.tmps):
  ∃v s,(∀w',Grew w w'->o.quietAt P a (Grew w) w' v)/\Rep w ρ s v/\K s:=by
 unfold qVC at h
 split at h
 ·rename_i f args ts H
  obtain⟨s,I,x⟩:=dB h
  have Y:=aV hf I
  split at x
  ·rename_i g first cap N
   obtain⟨Q,cv,e,U,W⟩:=aB4 N Y
   split at x
   ·rename_i l hl
    obtain⟨p,r,u,J,c,B,t,Z⟩:=x
    obtain⟨V,S⟩:=aBb hf _ _ hl
    have k:cS w ρ (first++l++cap) (Q++args.map a.eval++cv):=by
     refine(U.append ⟨?_, ?_⟩).append W
     ·simpa using V
     ·intro j O v D M
      refine S j O v D ?_
      rw [<-Array.toList_map];simpa using M
    have G: ∀id o,aP J id=some o->RO w ρ id o:= λid o L=>(hm.sat id o (jU _ _ B id o L)).ro_
    have z: ∀w',Grew w w'->Calls P g (Q++args.map a.eval++cv) w' λe m=>e= .returned u/\Grew w m/\ ∃S',Rep m (ρ.withS S') r u:=by
     intro w' n
     refine(t w' ρ _ (λb i I=>Nat.lt_of_lt_of_le (hm.slt b i I) n.size) ⟨k.1,λj s v a b=>(k.2 j s v a b).grow n hm.slt⟩ λid o L=>(G id o L).grow n hm.slt).mono ?_
     rintro T m ⟨v,S',O,C,A,F,_,_,_,R⟩
     subst A
     have:=aV2 c R
     subst this
     exact⟨C,n.trans F,S',R⟩
    have y:Rep w ρ r u:=by
     obtain⟨T,m,fr',⟨_,_,S',q⟩,_⟩:=z w (Grew.refl w) []
     unfold aNz at c
     split at c
     ·injection c with c;rw [<-c];exact .d _ _ (.int _ _)
     ·injection c with c;rw [<-c];exact .d _ _ (.bool _)
     ·have:=q.str_inv
      injection c with c;rw [<-c];exact .d _ _ (.str _ (by simpa only [maxLen]using this.2))
     ·cases c
    refine⟨u,r, ?_,y,Z⟩
    intro w' n
    unfold Oper.quietAt
    rw [lO H e p]
    exact⟨rfl,(z w' n).mono λ_ _ ⟨C,A,_⟩=>⟨C,A⟩⟩
   ·exact x.elim
  ·exact x.elim
 ·obtain⟨v,s,C,A,F⟩:=aKc hti (o:=o) h E ρ a w hm hf
  refine⟨v,s,λw' n=> ?_,A,F⟩
  unfold Oper.quietAt
  rw [C w' (hm.kept_grew n)]
  exact⟨rfl,rfl⟩
def aW8 (C:Cfg) (all:List Oper) (o:Oper) (fr:Fr) (hp:Hp) (k:Fr->Prop):Prop:=
 wX all fr o.guard
  (λfr=>qVC C.P C.ti fr hp o λs=>put C o.dst s fr λfr'=>k fr')
  (λfr=>put C o.dst (.d (.lit undef)) fr λfr'=>k fr')
def aDd (C:Cfg) (all:List Oper) (K:Fr->Hp->Prop):List Oper->Fr->Hp->Prop
 | [],fr,hp=>uT C.keep fr λfr'=>K fr' hp
 |o::r,fr,hp=>aW8 C all o fr hp λfr'=>aDd C all K r fr' hp
theorem aOt {C:Cfg}(hti:fH C.P C.ti) {all:List Oper}{K:Fr->Hp->Prop}{E:Entry}{ρ:Env}{w:World}{hp:Hp}{df:List Deferred}(hm:Mem E ρ hp w): ∀(l:List Oper) (fr:Fr) (a:Act),aDd C all K l fr hp->a.tmps.size=C.nt->a.defers=df->dV ρ w fr a.tmps->
  wpQuiet C.P all.toArray (Grew w) (λa'=> ∃b,K b hp/\a'.tmps.size=C.nt/\a'.defers=df/\dV ρ w b a'.tmps) l a:=by
 intro l
 induction l with
 |nil=>
  intro fr a h e f c
  simp only [aDd,oU]at h
  exact⟨_,h,e,f,λt s j=>c t s (mI _ _ t s j)⟩
 |cons o r ih=>
  intro fr a h e f c
  simp only [aDd,aW8]at h
  simp only [wpQuiet]
  obtain⟨fr0,c,n⟩:=gI h c
  rcases n with⟨k,h⟩|⟨k,h⟩
  ·simp only [k,if_true]
   obtain⟨v,s,q,m,p⟩:=bFj hti h hm c
   obtain⟨b,i,g⟩:=gY p e c m
   exact⟨v,q,ih b _ i (by rw [cH];exact e) (by rw [put_defers];exact f) g⟩
  ·simp only [k,Bool.false_eq_true,if_false]
   obtain⟨b,i,g⟩:=gY h e c (Rep.d _ undef (.lit undef))
   exact ih b _ i (by rw [cH];exact e) (by rw [put_defers];exact f) g
theorem aU0 {C:Cfg}(hti:fH C.P C.ti) {id:Nat}{l:List Oper}{fr:Fr}{hp:Hp}{K:Ex->Fr->Hp->Prop}(hm:C.P.follows .mixedOrders=true) (e:(Region.lexB .any l.toArray && nD l)=true)
  (h:aDd C l (K .normal) l fr hp):aK C (.region id l.toArray true) fr hp K:=by
 intro E a w hpin hrd ⟨t,p,ρ,k,v⟩
 rw [Bool.and_eq_true]at e
 obtain⟨e,j⟩:=e
 simp only [Region.lexB,Bool.and_eq_true]at e
 refine gP hm j mS.noOut (wpAny_of_quiet (C:=Grew w) (Q:= λa'=> ∀w',Grew w w'->mS C E K .normal a' w') (λ_ w' g h=>h w' g) _ _ _ _ (Grew.drew w) ?_)
 have:=aOt (C:=C) hti (all:=l) (K:=K .normal) k l fr a h t rfl v
 have d: ∀(f:List Oper) (a':Act),wpQuiet C.P l.toArray (Grew w) (λc=> ∃b,K .normal b hp/\c.tmps.size=C.nt/\c.defers=a.defers/\dV ρ w b c.tmps) f a'->
   wpQuiet C.P l.toArray (Grew w) (λa'=> ∀w',Grew w w'->mS C E K .normal a' w') f a':=by
  intro f
  induction f with
  |nil=>
   rintro a' ⟨b,s,z,q,x⟩ w' u
   obtain⟨m,n⟩:=k.grow_same u
   exact⟨.normal,b,hp,E, .refl E,trivial,s,z,q.trans p,ρ,m,n b _ x⟩
  |cons o r ih=>
   intro a' h
   simp only [wpQuiet]at h |-
   split
   ·rename_i i
    simp only [i,if_true]at h
    exact Oper.quiet_mono (λa h=>ih a h) h
   ·rename_i i
    simp only [i]at h
    exact ih _ h
 have y:=d l a this
 have:=wpAnyQ_lex (C:=Grew w) (md:= .any) e.1 l 0 (Array.replicate l.toArray.size false) a (by simp) (by simpa using e.2) y
 simpa using this
end
end
section
def bCf:List (Nat×TI)->Nat->Option TI
 | [],_=>none
 |(k,T)::r,t=>if k=t then some T else bCf r t
def bFp (P:Program):List (Nat×TI)->Prop
 | []=>True
 |(t,T)::r=>eG P t=some T/\bFp P r
theorem aZ8 {P:Program}: ∀{l:List (Nat×TI)},bFp P l->fH P (bCf l):=by
 intro l
 induction l with
 |nil=>intro _ t T h;simp [bCf]at h
 |cons p r ih=>
  obtain⟨k,U⟩:=p
  intro h t T a
  simp only [bCf]at a
  by_cases e:k=t
  ·subst e;simp at a;subst a;exact h.1
  ·simp [e]at a;exact ih h.2 t T a
def kp:List Nat->Nat->Bool
 | [],_=>false
 |k::r,t=>if k=t then true else kp r t
theorem qG {P:Program}(frz:List Nat) {ti:TypeId->Option TI}(hti:fH P ti) {f:FuncId}{fn:Func}{c:Code}(hf:P.funcs[f]? =some fn) (kl:List Nat) {args:List SV}{hp:Hp}{post:SV->Prop}(hx:X ⟨P,ti,yA [],fn.ntmps,kp kl,0,none,false,frz⟩ c (dG 0 args) (roH hp) (aOj ti fn.results.toList post)) (hb:fn.body=some c:=by exact rfl) (hn:args.length<=fn.ntmps:=by exact Nat.le_of_ble_eq_true rfl) (hnd:(hp.map (·.1)).Nodup:=by first|simp;done|decide):Tri P f args hp post:=aGs false frz hti hf hb (kp kl) [] args hp post hn hnd hx
theorem aBs (s:SV):Wk s s:=by rw [bB1];trivial
theorem aUf (c:UInt8):(c.toNat:Int).toNat < 256:=by have:=c.toNat_lt;omega
theorem aRz {α:Type}{f:α->List D}{l:List α}{i:Nat}(h:i < l.length):(l.map f)[i]? =some (f l[i]):=by
 rw [List.getElem?_map,List.getElem?_eq_getElem h];rfl
end
section
open Go.RowKit
section
variable {P:Program}
def cN (w:World) (ρ:Env) (hp:Hp) (pin:Pin) (rd:Option Nat) (D:List Nat):Entry:=⟨w,ρ.S,λb=> ∃id o,aP hp id=some o/\ρ.at id o=some b,pin,ρ,rd,D,0⟩
theorem Mem.enter {E:Entry}{ρ:Env}{hp:Hp}{w:World}(h:Mem E ρ hp w) (pin:Pin) (rd:Option Nat):Mem (cN w ρ hp pin rd E.D) ρ hp w:=
 ⟨rfl,rfl, .refl _,Nat.le_refl _,λ_ _ _=>rfl,λ_ _ h=>h,λ_ _ h _ _=>h,h.slt,λ_ _ _=>rfl,h.sat,h.inj,λid o _ a b=> .inr ⟨id,o,a,b⟩,λid _=>ρ.moved_refl id,h.ro,h.md⟩
theorem Mem.leave {E E2:Entry}{ρ ρ':Env}{hp hp':Hp}{w w':World}{pin:Pin}{rd:Option Nat}(h:Mem E ρ hp w) (h':Mem E2 ρ' hp' w') (hE:E2.w=w/\E2.S=ρ.S/\E2.B=(cN w ρ hp pin rd E.D).B/\E2.pin=pin/\E2.ρ=ρ/\ ∀b∈E.D,b∈E2.D) (hsub: ∀id∈E.pin,id∈pin):Mem E ρ' hp' w':=by
 obtain⟨e1,e2,z,F,C,H⟩:=hE
 have y: ∀b,b < E.w.heap.size->¬ E.B b->¬ E2.B b:=by
  rw [z]
  rintro b hb a ⟨id,o,u,v⟩
  rcases h.hb id o b u v with q|s
  ·omega
  ·exact a s
 have l:=h'.os;have m:=h'.tape;have r:=h'.output;have j:=h'.size;have f:=h'.kp;have d:=h'.sold;have c:=h'.snew;have e:=h'.old;have p:=h'.hb;have k:=h'.mv
 rw [e1]at l m r j f c e p
 rw [e2]at f d c
 rw [F,C]at k
 refine⟨l.trans h.os,m.trans h.tape,r.trans h.output,Nat.le_trans h.size j, ?_, ?_, ?_,h'.slt,h.kp.trans h.sold f,h'.sat,h'.inj, ?_, ?_,h'.ro,λb hb=>h'.md b (H b hb)⟩
 ·exact λb hb a=>(e b (Nat.lt_of_lt_of_le hb h.size) (y b hb a)).trans (h.old b hb a)
 ·exact λb i x=>d b i (h.sold b i x)
 ·exact λb i x hb a=>h.snew b i (c b i x (Nat.lt_of_lt_of_le hb h.size) (y b hb a)) hb a
 ·intro id o g u v
  rcases p id o g u v with q|hb
  ·exact .inl (Nat.le_trans h.size q)
  ·rw [z]at hb
   obtain⟨t,o',A,G⟩:=hb
   exact h.hb t o' g A G
 ·exact λid n=>Env.moved_trans (h.mv id n) (k id (hsub id n))
def bEa (ti:TypeId->Option TI) (rs:List ResultVar) (K:SV->Hp->Prop) (e:Ex) (fr:Fr) (hp:Hp):Prop:=
 match e with
 | .ret=>oN ti fr hp rs λl=>K (eQ l) hp
 | .normal=>oN ti fr hp rs λl=>K (eQ l) hp
 |_=>aH "the end"
theorem aG (zc:Bool) (frz:List Nat) {ti:TypeId->Option TI}(hti:fH P ti) {f:FuncId}{fn:Func}{c:Code}(hf:P.funcs[f]? =some fn) (hb:fn.body=some c) (keep:Nat->Bool) (off:Nat) {pin:Pin}{fr:Fr}{hp:Hp}{args:List SV}{K:SV->Hp->Prop}
  (hn:args.length<=fn.ntmps) (hx:X ⟨P,ti,pin.under fr (gD fr),fn.ntmps,keep,off,none,zc,frz⟩ c (dG 0 args) hp (bEa ti fn.results.toList K)):aF P pin fr hp f args K:=by
 intro E ρ w V q hm R vs j
 refine mO (r:=none) (n:=0) |>.1 (callsIn_of_wp_marks hf hb trivial ?_)
 have L:dV ρ w (dG 0 args) (vs++Array.replicate (fn.ntmps - vs.size) undef):=by
  intro t s ht
  obtain⟨_,h2⟩:=rV args 0 t s ht
  simp only [Nat.sub_zero]at h2
  have a1:=(List.getElem?_eq_some_iff.1 h2).1
  have k:t < vs.size:=by rw [j.1];exact a1
  refine⟨vs[t], ?_,j.2 t s _ h2 (Array.getElem?_eq_getElem k)⟩
  rw [Array.getElem?_append_left k,Array.getElem?_eq_getElem k]
 have a2:=hm.enter (pin.under fr (gD fr)) none
 refine wpIn_mono (nM (C:=⟨P,ti,pin.under fr (gD fr),fn.ntmps,keep,off,none,zc,frz⟩) hti c _ _ _ hx (cN w ρ hp (pin.under fr (gD fr)) none E.D) _ w rfl rfl ⟨?_,rfl,ρ,a2,L⟩) ?_
 ·simp only [Array.size_append,Array.size_replicate]
  have:=j.1
  omega
 ·rintro e a' w' ⟨x,H,hp',E',d,u,o,hnt,O,g,N,Y⟩
  obtain⟨F,W,o2,o3,o4,o5⟩:=aEn d rfl
  have y:E'.pin.pre=[]:=by rw [d.pin];rfl
  have M: ∀m,Chn m->pin.kp fr hp'->LeavesInM (FW none) 0 P fn a'.tmps (λe w'=>(∃v g s hp',e= .returned v/\K s hp'/\Mem E g hp' w'/\dV g w' fr V/\Rep w' g s v)\/ ∃m g hp',e= .panicked m/\Chn m/\pin.kp fr hp'/\Mem E g hp' w'/\dV g w' fr V) a'.defers (.panicking m) w':=by
   intro m hc o
   rw [O,o2,y]
   refine wQ (by simp) [] F E' w' N ⟨_,W,o5⟩ o4 o3 ?_
   rintro E'' p ⟨U,A,Z,G,J,q6⟩ a I
   have z:Mem E g hp' p:=hm.leave (pin:=pin.under fr (gD fr)) (rd:=none) a ⟨U.trans d.w,A.trans d.S,Z.trans d.B,G.trans d.pin,J.trans d.ρ,λb hb=>by rw [q6,W];simpa [cN]using hb⟩ (λid h=>by rw [q]at h;exact List.mem_append_left _ h)
   have kp:=a.kp
   have sold:=a.sold
   have mv:=a.mv
   rw [U.trans d.w,A.trans d.S]at kp
   rw [A.trans d.S]at sold
   rw [G.trans d.pin,J.trans d.ρ]at mv
   exact .inr ⟨m,g,hp',rfl,hc,o,z,R.mono kp sold λid h=>mv id (List.mem_append_right _ h)⟩
  have Q:oN ti H hp' fn.results.toList (λl=>K (eQ l) hp')->LeavesInM (FW none) 0 P fn a'.tmps (λe w'=>(∃v g s hp',e= .returned v/\K s hp'/\Mem E g hp' w'/\dV g w' fr V/\Rep w' g s v)\/ ∃m g hp',e= .panicked m/\Chn m/\pin.kp fr hp'/\Mem E g hp' w'/\dV g w' fr V) a'.defers .returning w':=by
   intro o
   rw [O,o2,y]
   refine wQ (by simp) [] F E' w' N ⟨_,W,o5⟩ o4 o3 ?_
   rintro E'' p ⟨U,A,Z,G,J,q6⟩ a I
   have T:dV g p H a'.tmps:=Y.mono I (λ_ _ x=>x) λi _=>g.moved_refl i
   obtain⟨us,l,r1,r2,r3,r4⟩:=aS7 hti a T _ _ o
   have z:Mem E g hp' p:=hm.leave (pin:=pin.under fr (gD fr)) (rd:=none) a ⟨U.trans d.w,A.trans d.S,Z.trans d.B,G.trans d.pin,J.trans d.ρ,λb hb=>by rw [q6,W];simpa [cN]using hb⟩ (λid h=>by rw [q]at h;exact List.mem_append_left _ h)
   refine⟨_,tD r1, .inl ⟨_,g,eQ l,hp',rfl,r4,z, ?_,aA3 r2 r3⟩⟩
   have kp:=a.kp
   have sold:=a.sold
   have mv:=a.mv
   rw [U.trans d.w,A.trans d.S]at kp
   rw [A.trans d.S]at sold
   rw [G.trans d.pin,J.trans d.ρ]at mv
   exact R.mono kp sold λid h=>mv id (List.mem_append_right _ h)
  cases x<;>cases e<;>simp only [Ex.rel]at u<;>simp only [KX,bEa]at o
  ·exact Q o
  ·exact o.elim
  ·exact o.elim
  ·exact Q o
  ·exact M _ u o
theorem aL4 {ti:TypeId->Option TI}(hti:fH P ti) {f:FuncId}{fn:Func}{c:Code}(hf:P.funcs[f]? =some fn) (hb:fn.body=some c) (keep:Nat->Bool) (off:Nat) {pin:Pin}{fr:Fr}{hp:Hp}{args:List SV}{K:SV->Hp->Prop}
  (hn:args.length<=fn.ntmps) (hx:X ⟨P,ti,pin.under fr (gD fr),fn.ntmps,keep,off,none,false,[]⟩ c (dG 0 args) hp (bEa ti fn.results.toList K)):aF P pin fr hp f args K:=aG false [] hti hf hb keep off hn hx
def XL (C:Cfg) (c:Code):Nat->Fr->Hp->(Ex->Fr->Hp->Prop)->Prop
 | 0,_,_,_=>aH "unrolled to the end"
 |n+1,fr,hp,K=>X C c fr hp λe fr hp=>match e with| .normal=>XL C c n fr hp K|e=>K e fr hp
theorem aCp {C:Cfg}(hti:fH C.P C.ti) {c:Code}: ∀(n:Nat) {fr:Fr}{hp:Hp}{K:Ex->Fr->Hp->Prop},XL C c n fr hp K->aK C (.loop c) fr hp K:=by
 intro n
 intro fr hp K h E a w k q l
 refine wpIn_loop_ghost (λm a w=> ∃fr hp E',Ext E E'/\Sat E' C.nt ⟨fr,hp⟩ a w/\XL C c m fr hp K) n ⟨fr,hp,E, .refl E,l,h⟩ ?_
 rintro m a' w' ⟨fr',hp',E',j,p,hx⟩
 cases m with
 |zero=>exact hx.elim
 |succ m=>
  have:=nM hti c _ _ _ hx E' a' w' (j.pin.trans k) (q.ext j) p
  rw [j.rd]at this
  refine wpIn_mono this ?_
  rintro e a₁ w₁ ⟨ex,g,i,E'',d,b,o,f⟩
  cases ex<;>cases e<;>simp only [Ex.rel]at b
  ·exact⟨m,by omega,g,i,E'',j.trans d,f,o⟩
  ·exact⟨.exit _,g,i,E'',j.trans d,b,o,f⟩
  ·exact⟨.goto _,g,i,E'',j.trans d,b,o,f⟩
  ·exact⟨.ret,g,i,E'',j.trans d,b,o,f⟩
  ·exact⟨.pan,g,i,E'',j.trans d,b,o,f⟩
end
section
variable {P:Program}
def kd:Op->Nat
 | .move _=>0
 | .assign _=>0
 | .binOp .add _ _ _ _=>0
 | .binOp .sub _ _ _ _=>0
 | .store _ _ _=>3
 | .alloc _=>2
 | .box _ _=>2
 | .buildSlice _ _ _=>2
 | .makeSlice _ _ _=>2
 | .call { callee:= .builtin .append,args:=_,argTypes:=_ }=>2
 | .call { callee:= .builtin .copy,args:=_,argTypes:=_ }=>3
 | .call { callee:= .value _,args:=_,argTypes:=_ }=>2
 |_=>1
def noX:Exit->Act->World->Prop:= λ_ _ _=>False
def wpE (P:Program) (ops:Array Oper) (Q:Act->World->Prop):Nat->(World->Prop)->Array Bool->Act->World->Prop
 | 0,_,listed,a,w=>Region.ready .any ops listed=[]/\Q a w
 |fuel+1,Cl,listed,a,w=>
  (Region.ready .any ops listed=[]->Q a w)/\
  ∀i∈Region.ready .any ops listed,
   match ops[i]? with
   |none=>wpE P ops Q fuel Cl (listed.setIfInBounds i true) a w
   |some o=>
    if Region.wanted o (yielded ops a.tmps)then
     o.wp P a w (λa' w'=>if kd o.op=3 then wpE P ops Q fuel (λ_=>True) (listed.setIfInBounds i true) a' w' else Cl w'/\wpE P ops Q fuel Cl (listed.setIfInBounds i true) a' w') noX
    else wpE P ops Q fuel Cl (listed.setIfInBounds i true) (a.put o.dst undef) w
theorem zK {o:Oper}{a:Act}{w:World}{K K':Act->World->Prop}{Q:Exit->Act->World->Prop}(h: ∀a w,K a w->K' a w) (hh:o.wp P a w K noX):o.wp P a w K' Q:=by
 unfold Oper.wp at *
 generalize (execOp a.eval o).run P w=r at *
 cases r with
 |ok n w'=>
  cases n<;>simp only [Oper.upon]at hh |-<;>
   first
    |exact h _ _ hh
    |exact Calls.mono hh (λe w'' b=>by cases e<;>first|exact h _ _ b|exact b.elim|(obtain⟨_,_,b⟩:=b;exact b.elim))
    |exact Rows.mono hh (λ_ _ b=>h _ _ b)
 |halt x w'=>cases x<;>simp only [Oper.upon]at hh |-<;>first|exact hh.elim|exact hh
theorem aUz {ops:Array Oper}{Q:Act->World->Prop}: ∀(fuel:Nat) (Cl Cl':World->Prop) (b:Array Bool) (a:Act) (w:World),(∀w,Cl' w->Cl w)->wpE P ops Q fuel Cl' b a w->wpE P ops Q fuel Cl b a w:=by
 intro fuel
 induction fuel with
 |zero=>intro Cl Cl' b a w _ h;exact h
 |succ fuel ih=>
  intro Cl Cl' b a w d h
  refine⟨h.1,λi hi=> ?_⟩
  have:=h.2 i hi
  split
  ·rename_i e;simp only [e]at this;exact ih _ _ _ _ _ d this
  ·rename_i o e
   simp only [e]at this
   split
   ·rename_i f
    simp only [f,if_true]at this
    refine zK (λa' w' c=> ?_) this
    split
    ·rename_i g;simp only [g,if_true]at c;exact c
    ·rename_i g;simp only [g,if_false]at c;exact⟨d _ c.1,ih _ _ _ _ _ d c.2⟩
   ·rename_i f;simp only [f]at this;exact ih _ _ _ _ _ d this
theorem wF {ops:Array Oper}{Q:Exit->Act->World->Prop}: ∀(fuel:Nat) (Cl:World->Prop) (b:Array Bool) (a:Act) (w:World),wpE P ops (Q .normal) fuel Cl b a w->wpAny P .any ops Q fuel b a w:=by
 intro fuel
 induction fuel with
 |zero=>intro Cl b a w h;exact h
 |succ fuel ih=>
  intro Cl b a w h
  refine⟨h.1,λi hi=> ?_⟩
  have:=h.2 i hi
  unfold wpOp
  split
  ·rename_i c;simp only [c]at this;exact ih _ _ _ _ this
  ·rename_i o c
   simp only [c]at this
   split
   ·rename_i d
    simp only [d,if_true]at this
    left
    refine zK (λa' w' e=> ?_) this
    split at e
    ·exact ih _ _ _ _ e
    ·exact ih _ _ _ _ e.2
   ·rename_i d;simp only [d]at this;exact ih _ _ _ _ this
def YE (P:Program) (ops:Array Oper) (Cl:World->Prop) (o:Oper) (v:Value) (a:Act):Prop:=
 (Region.wanted o (yielded ops a.tmps)=true/\ ∀w,(Cl w\/kd o.op=0)->(execOp a.eval o).run P w= .ok (.value v) w)\/(Region.wanted o (yielded ops a.tmps)=false/\v=undef)
theorem YE.of_same {ops:Array Oper}{Cl:World->Prop}{o:Oper}{v:Value}{a a':Act}(hy:YE P ops Cl o v a) (he:execOp a'.eval o=execOp a.eval o)
  (hw:Region.wanted o (yielded ops a'.tmps)=Region.wanted o (yielded ops a.tmps)):YE P ops Cl o v a':=by
 unfold YE at *
 rw [he,hw]
 exact hy
theorem aLm {o:Oper}{a:Act}{d:Option Tmp}{v:Value}{K:Act->World->Prop}{r:Result Next}(h2: ∀x,d=some x->o.dst≠some x)
  (hh:o.upon P (a.put d v) K noX r):o.upon P a (λa' w'=>K (a'.put d v) w') noX r:=by
 cases r with
 |ok n w'=>
  cases n<;>simp only [Oper.upon]at hh |-
  all_goals first
   |(rw [<-Act.put_comm a v _ h2];exact hh)
   |exact hh.elim
   |exact Calls.mono hh (λe f c=>by cases e with|returned u=>(have b:K ((a.put d v).put o.dst u) f:=c;rw [Act.put_comm a v u h2]at b;exact b)|panicked ch=>exact c|outgrown=>exact c)
   |exact Rows.mono hh (λ_ _ c=>by rw [<-Act.put_comm a v _ h2];exact c)
   |(rw [<-Act.put_comm _ v _ h2,<-Act.put_defers];exact hh)
   |exact hh
 |halt x w'=>cases x<;>simp only [Oper.upon]at hh |-<;>exact hh
theorem zL {ops:Array Oper}{Q:Act->World->Prop}{i:Nat}{oi:Oper}{v:Value}(hi:ops[i]? =some oi) (hsel:Region.noSelect ops=true) (hk3:kd oi.op≠3):
  ∀(fuel:Nat) (Cl:World->Prop) (c:Array Bool) (a:Act) (w:World),Cl w->
   (∀j d,ops[j]? =some d->j≠i->c.getD j true=false->(∀e∈d.after,Region.binds .any e=true->e.on≠i)->oi.apart ops d=true)->
   (kd oi.op≠0-> ∀j d,ops[j]? =some d->c.getD j true=false->kd d.op=3-> ∃e∈d.after,Region.binds .any e=true/\e.on=i)->
   i∈Region.ready .any ops c->YE P ops Cl oi v a->
   wpE P ops Q fuel Cl (c.setIfInBounds i true) (a.put oi.dst v) w->wpE P ops Q (fuel+1) Cl c a w:=by
 have O: ∀(fuel:Nat) (Cl:World->Prop) (c:Array Bool) (a:Act) (w:World),Cl w->YE P ops Cl oi v a->wpE P ops Q fuel Cl (c.setIfInBounds i true) (a.put oi.dst v) w->
   (match ops[i]? with
   |none=>wpE P ops Q fuel Cl (c.setIfInBounds i true) a w
   |some o=>if Region.wanted o (yielded ops a.tmps)then o.wp P a w (λa' w'=>if kd o.op=3 then wpE P ops Q fuel (λ_=>True) (c.setIfInBounds i true) a' w' else Cl w'/\wpE P ops Q fuel Cl (c.setIfInBounds i true) a' w') noX
    else wpE P ops Q fuel Cl (c.setIfInBounds i true) (a.put o.dst undef) w):=by
  intro fuel Cl c a w I m H
  simp only [hi]
  rcases m with⟨M,s⟩|⟨M,rfl⟩
  ·simp only [M,if_true]
   refine bW (s w (.inl I)) ?_
   simp only [hk3,if_false]
   exact⟨I,H⟩
  ·simp only [M,Bool.false_eq_true,if_false];exact H
 intro fuel
 induction fuel with
 |zero=>
  intro Cl c a w I _ _ L m H
  refine⟨λh=>(by rw [h]at L;cases L),λj T=> ?_⟩
  by_cases f:j=i
  ·subst f;exact O 0 Cl c a w I m H
  ·have:=ready_mono T f
   rw [H.1]at this
   cases this
 |succ fuel ih=>
  intro Cl c a w I y hT L m H
  refine⟨λh=>(by rw [h]at L;cases L),λj T=> ?_⟩
  by_cases f:j=i
  ·subst f;exact O _ Cl c a w I m H
  ·have q:=H.2 j (ready_mono T f)
   obtain⟨p,d,E,S⟩:=mem_ready.1 T
   have F: ∀e∈d.after,Region.binds .any e=true->e.on≠i:= λe G hb J=>by
    have q:=S e G hb
    have U:=(mem_ready.1 L).1
    rw [J]at q
    rcases Nat.lt_or_ge i c.size with h'|h'
    ·simp [h']at U q;rw [U]at q;cases q
    ·simp [Array.getElem?_eq_none h']at q
   obtain⟨p1,p2,p3⟩:=Oper.apart_spec (y j d E f p F)
   have si:= λcs b=>Region.noSelect_spec hsel i oi cs b hi
   have sj:= λcs b=>Region.noSelect_spec hsel j d cs b E
   have l: ∀(Cl':World->Prop),YE P ops Cl' oi v a-> ∀u,YE P ops Cl' oi v (a.put d.dst u):= λCl' m u=>m.of_same (execOp_put oi si a d.dst u p3) (wanted_put oi a d.dst u p3)
   have g: ∀k ok,ops[k]? =some ok->k≠i->(c.setIfInBounds j true).getD k true=false->
     (∀e∈ok.after,Region.binds .any e=true->e.on≠i)->oi.apart ops ok=true:= λk ok C Z z Y=>by
    refine y k ok C Z ?_ Y
    by_cases t:j=k
    ·subst t;exact p
    ·rw [getD_set_ne true t]at z;exact z
   have K:kd oi.op≠0-> ∀k ok,ops[k]? =some ok->(c.setIfInBounds j true).getD k true=false->kd ok.op=3-> ∃e∈ok.after,Region.binds .any e=true/\e.on=i:= λU k ok C z W=>by
    refine hT U k ok C ?_ W
    by_cases t:j=k
    ·subst t;exact p
    ·rw [getD_set_ne true t]at z;exact z
   have N:=ready_mono L (Ne.symm f)
   simp only [E]at q |-
   rw [wanted_put d a oi.dst v p1]at q
   split
   ·rename_i M
    simp only [M,if_true]at q
    -- the operation, before the other one's value is in its slot
    have A:d.wp P a w (λa' w'=>(if kd d.op=3 then wpE P ops Q fuel (λ_=>True) ((c.setIfInBounds i true).setIfInBounds j true) (a'.put oi.dst v) w' else Cl w'/\wpE P ops Q fuel Cl ((c.setIfInBounds i true).setIfInBounds j true) (a'.put oi.dst v) w')) noX:=by
     unfold Oper.wp at q |-
     rw [execOp_put d sj a oi.dst v p1]at q
     exact aLm p2 q
    -- and that it leaves the other one's slots alone
    have W:d.wp P a w (λa' w'=>(∀Cl',YE P ops Cl' oi v a->YE P ops Cl' oi v a')/\(if kd d.op=3 then wpE P ops Q fuel (λ_=>True) ((c.setIfInBounds i true).setIfInBounds j true) (a'.put oi.dst v) w' else Cl w'/\wpE P ops Q fuel Cl ((c.setIfInBounds i true).setIfInBounds j true) (a'.put oi.dst v) w')) noX:=by
     have B: ∀u,(∀Cl',YE P ops Cl' oi v a->YE P ops Cl' oi v (a.put d.dst u)):= λu Cl' m=>l Cl' m u
     unfold Oper.wp at A |-
     generalize (execOp a.eval d).run P w=r at A
     cases r with
     |ok n w'=>
      cases n<;>simp only [Oper.upon]at A |-
      all_goals first
       |exact⟨B _,A⟩
       |exact A.elim
       |exact Calls.mono A (λe w'' G=>by cases e<;>first|exact⟨B _,G⟩|exact G)
       |exact Rows.mono A (λ_ _ G=>⟨B _,G⟩)
       |exact⟨λCl' m=>(l Cl' m undef).of_same (by cases d.dst<;>rfl) (by cases d.dst<;>rfl),A⟩
       |exact A
     |halt x w'=>cases x<;>simp only [Oper.upon]at A |-<;>exact A
    refine zK (λa' w' ⟨hyk,C⟩=> ?_) W
    split
    ·rename_i D
     simp only [D,if_true]at C
     by_cases R:kd oi.op=0
     ·refine ih (λ_=>True) (c.setIfInBounds j true) a' w' trivial g K N (hyk _ ?_) ?_
      ·rcases m with⟨V,s⟩|h
       ·exact .inl ⟨V,λw _=>s w (.inr R)⟩
       ·exact .inr h
      ·rw [Array.setIfInBounds_comm _ _ f];exact C
     ·obtain⟨e,G,hb,J⟩:=hT R j d E p D
      exact absurd J (F e G hb)
    ·rename_i D
     simp only [D,if_false]at C
     refine⟨C.1,ih Cl (c.setIfInBounds j true) a' w' C.1 g K N (hyk _ m) ?_⟩
     rw [Array.setIfInBounds_comm _ _ f];exact C.2
   ·rename_i M
    simp only [M]at q
    refine ih Cl (c.setIfInBounds j true) _ w I g K N (l Cl m undef) ?_
    rw [Array.setIfInBounds_comm _ _ f,<-Act.put_comm a v undef p2]
    exact q
end
end
end Go.Proofs.YtbobcfjlbcgchaaGreatDoor
