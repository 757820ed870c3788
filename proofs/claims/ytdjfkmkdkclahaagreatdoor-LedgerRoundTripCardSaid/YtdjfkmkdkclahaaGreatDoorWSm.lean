/-
  Contracts of functions that leave what was there alone; loops; statements whose order is open.
  Conditions: none.
-/
import Derived.Test.YtdjfkmkdkclahaaGreatDoorWSl
set_option linter.unusedSectionVars false
set_option linter.unusedSimpArgs false
set_option linter.unusedVariables false
namespace Go.Proofs.YtdjfkmkdkclahaaGreatDoor
open Go.RowKit
section
variable {P:Program}
def RO (w:World) (ρ:Env) (id:Nat):HObj->Prop
 | .cells t cs=> ∃g,ρ.blk id=some g/\cD w ρ g t cs
 | .ro t cs=> ∃g,ρ.blk id=some g/\cD w ρ g t cs
 | .own _ _ _=>True
 | .mrow _ _ _ _=>True
 | .loop _ _=>True
 | .ext X=> ∃g o,ρ.blk id=some g/\w.heap[g]? =some o/\X.sat w ρ o
 | .glob g z rows=>View w ρ.S z rows g 0
 | .rox X=> ∃g o,ρ.blk id=some g/\w.heap[g]? =some o/\X.sat w ρ o
theorem wF.ro_ {w:World}{ρ:Env}{id:Nat}{o:HObj}(h:wF w ρ id o):RO w ρ id o:=by
 cases o with
 |cells t cs=>obtain⟨g,h1,h2,_⟩:=h;exact⟨g,h1,h2⟩
 |ro t cs=>exact h
 |own=>trivial
 |mrow=>trivial
 |loop=>trivial
 |ext X=>obtain⟨g,o,h1,h2,h3,_⟩:=h;exact⟨g,o,h1,h2,h3⟩
 |glob=>exact h
 |rox=>exact h
def Tri (P:Program) (f:FuncId) (args:List SV) (hp:Hp) (post:SV->Prop):Prop:=
 ∀(w:World) (ρ:Env) (vs:Array Value),(∀b i,ρ.S b i->b < w.heap.size)->bZ w ρ args vs->(∀id o,aN hp id=some o->RO w ρ id o)->
  Calls P f vs w λe w'=> ∃v S' s,e= .returned v/\post s/\Grew w w'/\(∀b i,ρ.S b i->S' b i)/\(∀b i,S' b i->ρ.S b i\/w.heap.size<=b)/\(∀b i,S' b i->b < w'.heap.size)/\Rep w' (ρ.withS S') s v
theorem Tri.mono {f:FuncId}{args:List SV}{hp:Hp}{post post':SV->Prop}(h:Tri P f args hp post) (hp': ∀s,post s->post' s):Tri P f args hp post':=
 λw ρ vs a b c=>(h w ρ vs a b c).mono λ_ _ ⟨v,S',s,h1,h2,h3⟩=>⟨v,S',s,h1,hp' s h2,h3⟩
def sE:Hp->Hp->Prop
 | [],_=>True
 |(id,o)::r,hp=>aN hp id=some o/\sE r hp
theorem eU: ∀(hp' hp:Hp),sE hp' hp-> ∀id o,aN hp' id=some o->aN hp id=some o:=by
 intro hp'
 induction hp' with
 |nil=>intro hp _ id o h;simp [aN]at h
 |cons p r ih=>
  obtain⟨k,x⟩:=p
  intro hp h id o hg
  simp only [aN]at hg
  by_cases e:k=id
  ·subst e;simp at hg;subst hg;exact h.1
  ·simp [e]at hg;exact ih hp h.2 id o hg
theorem aA {pin:Pin}{fr:Fr}{hp:Hp}{f:FuncId}{args:List SV}{K:SV->Hp->Prop}(hpc:Hp) {post:SV->Prop}(hc:Tri P f args hpc post) (hsub:sE hpc hp) (hk: ∀s,post s->K s hp):aG P pin fr hp f args K:=by
 intro E ρ w tm _ hm hf vs hv
 refine(hc w ρ vs hm.slt hv λid o ho=>(hm.sat id o (eU _ _ hsub id o ho)).ro_).mono ?_
 rintro e w' ⟨v,S',s,h1,h2,h3,h4,h5,h6,h7⟩
 obtain⟨m1,m2⟩:=hm.grow h3 S' h4 h5 h6
 exact .inl ⟨v,_,s,hp,h1,hk s h2,m1,m2 fr tm hf,h7⟩
def cX:Nat->List SV->Fr
 |_,[]=>[]
 |k,s::r=>(k,s)::cX (k+1) r
theorem cU: ∀(l:List SV) (k t:Nat) (s:SV),cV (cX k l) t=some s->k<=t/\l[t - k]? =some s:=by
 intro l
 induction l with
 |nil=>intro k t s h;simp [cX,cV]at h
 |cons x r ih=>
  intro k t s h
  simp only [cX,cV]at h
  by_cases e:k=t
  ·subst e;simp at h;subst h;exact⟨Nat.le_refl _,by simp⟩
  ·simp [e]at h
   obtain⟨h1,h2⟩:=ih (k+1) t s h
   refine⟨by omega, ?_⟩
   obtain⟨q,hq⟩: ∃q,t - k=q+1:=⟨t - (k+1),by omega⟩
   rw [hq,List.getElem?_cons_succ]
   rw [<-h2];congr 1;omega
def roH:Hp->Hp
 | []=>[]
 |(id, .cells t cs)::r=>(id, .ro t cs)::roH r
 |(id, .ro t cs)::r=>(id, .ro t cs)::roH r
 |(_, .own _ _ _)::r=>roH r
 |(_, .mrow _ _ _ _)::r=>roH r
 |(_, .loop _ _)::r=>roH r
 |(id, .ext X)::r=>(id, .rox X)::roH r
 |(id, .rox X)::r=>(id, .rox X)::roH r
 |(id, .glob g z rows)::r=>(id, .glob g z rows)::roH r
theorem dT: ∀(hp:Hp) (id:Nat) (o:HObj),(hp.map (·.1)).Nodup->aN (roH hp) id=some o->(∃t cs,o= .ro t cs/\(aN hp id=some (.cells t cs)\/aN hp id=some (.ro t cs)))\/(∃g z rows,o= .glob g z rows/\aN hp id=some (.glob g z rows))\/ ∃X,o= .rox X/\(aN hp id=some (.ext X)\/aN hp id=some (.rox X)):=by
 intro hp
 induction hp with
 |nil=>intro id o _ h;simp [roH,aN]at h
 |cons p r ih=>
  obtain⟨k,x⟩:=p
  intro id o hnd h
  rw [List.map_cons,List.nodup_cons]at hnd
  have hno: ∀(r:Hp) o,k∉r.map (·.1)->aN (roH r) k≠some o:=by
   intro r
   induction r with
   |nil=>intro o _ h;simp [roH,aN]at h
   |cons q r ih=>
    obtain⟨k',x'⟩:=q
    intro o hk
    simp only [List.map_cons,List.mem_cons,not_or]at hk
    cases x'<;>simp only [roH,aN,if_neg (λe=>hk.1 (Eq.symm e))]<;>exact ih o hk.2
  cases x with
  |cells t cs=>
   simp only [roH,aN]at h |-
   by_cases e:k=id
   ·simp [e]at h;subst h;exact .inl ⟨t,cs,rfl, .inl (by simp [e])⟩
   ·simp [e]at h;simp only [e,if_false];exact ih id o hnd.2 h
  |ro t cs=>
   simp only [roH,aN]at h |-
   by_cases e:k=id
   ·simp [e]at h;subst h;exact .inl ⟨t,cs,rfl, .inr (by simp [e])⟩
   ·simp [e]at h;simp only [e,if_false];exact ih id o hnd.2 h
  |own a b c=>
   simp only [roH,aN]at h |-
   by_cases e:k=id
   ·subst e;exact absurd h (hno r o hnd.1)
   ·simp only [e,if_false];exact ih id o hnd.2 h
  |mrow a b c d=>
   simp only [roH,aN]at h |-
   by_cases e:k=id
   ·subst e;exact absurd h (hno r o hnd.1)
   ·simp only [e,if_false];exact ih id o hnd.2 h
  |loop a b=>
   simp only [roH,aN]at h |-
   by_cases e:k=id
   ·subst e;exact absurd h (hno r o hnd.1)
   ·simp only [e,if_false];exact ih id o hnd.2 h
  |ext X=>
   simp only [roH,aN]at h |-
   by_cases e:k=id
   ·simp [e]at h;subst h;exact .inr (.inr ⟨X,rfl, .inl (by simp [e])⟩)
   ·simp [e]at h;simp only [e,if_false];exact ih id o hnd.2 h
  |rox X=>
   simp only [roH,aN]at h |-
   by_cases e:k=id
   ·simp [e]at h;subst h;exact .inr (.inr ⟨X,rfl, .inr (by simp [e])⟩)
   ·simp [e]at h;simp only [e,if_false];exact ih id o hnd.2 h
  |glob g z rows=>
   simp only [roH,aN]at h |-
   by_cases e:k=id
   ·simp [e]at h;subst h;exact .inr (.inl ⟨g,z,rows,rfl,by simp [e]⟩)
   ·simp [e]at h;simp only [e,if_false];exact ih id o hnd.2 h
def eH (ti:TypeId->Option TI) (fr:Fr) (hp:Hp):List ResultVar->(List SV->Prop)->Prop
 | [],K=>K []
 | .tmp t::r,K=>ev fr (.tmp t) λs=>eH ti fr hp r λl=>K (s::l)
 | .cell a t::r,K=>ev fr (.tmp a) λs=>aC4 ti t s hp λx=>eH ti fr hp r λl=>K (x::l)
def bX:List SV->SV
 | [s]=>s
 |l=> .tup l
def aCc (tm:Array Value):ResultVar->Sem Value
 | .tmp t=>pure (tm.getD t undef)
 | .cell x t=>do loadVar t (<-asAddr (tm.getD x undef))
def aOc:List Value->Value
 | [v]=>v
 |l=> .tuple l.toArray
theorem tS {ti:TypeId->Option TI}(hti:cI P ti) {E:Entry}{ρ:Env}{w:World}{fr:Fr}{hp:Hp}{a:Act}(hm:Mem E ρ hp w) (hf:bW ρ w fr a.tmps): ∀(rs:List ResultVar) (K:List SV->Prop),eH ti fr hp rs K->
  ∃vs l,(rs.mapM (aCc a.tmps)).run P w= .ok vs w/\vs.length=l.length/\(∀(j:Nat) (s:SV) (v:Value),l[j]? =some s->vs[j]? =some v->Rep w ρ s v)/\K l:=by
 intro rs
 induction rs with
 |nil=>intro K h;exact⟨[],[],by simp,rfl,by simp,h⟩
 |cons r rest ih=>
  intro K h
  cases r with
  |tmp t=>
   simp only [eH]at h
   obtain⟨s,hs,h⟩:=bR h
   have hr:=aS hf hs
   obtain⟨vs,l,q1,q2,q3,q4⟩:=ih _ h
   refine⟨a.tmps.getD t undef::vs,s::l, ?_,by simp [q2], ?_,q4⟩
   ·simp only [List.mapM_cons,aCc,Sem.run_bind,Sem.run_pure,Result.andThen_ok]
    rw [q1]
    simp
   ·intro j s' v hs' hv
    cases j with
    |zero=>simp at hs' hv;subst hs';rw [<-hv];simpa [Act.eval]using hr
    |succ j=>exact q3 j s' v (by simpa using hs') (by simpa using hv)
  |cell x t=>
   simp only [eH]at h
   obtain⟨s,hs,h⟩:=bR h
   have hr:=aS hf hs
   have hl:ev fr (.tmp x) λs=>aC4 ti t s hp λx=>eH ti fr hp rest λl=>K (x::l):=by
    unfold ev;rw [hs];exact h
   obtain⟨v,y,p1,p2,p3⟩:=aEb (P:=P) hti (o:={ dst:=none,op:= .load t (.tmp x),type:=0,pos:= "",after:= #[],guard:=none }) rfl hl E ρ a w hm hf
   obtain⟨vs,l,q1,q2,q3,q4⟩:=ih _ p3
   have hrun:=p1 w (Kept.refl ρ hp w)
   refine⟨v::vs,y::l, ?_,by simp [q2], ?_,q4⟩
   ·have hlv:(do loadVar t (<-asAddr (a.tmps.getD x undef)):Sem Value).run P w= .ok v w:=by
     have hptr: ∃ad,a.eval (.tmp x)= .pointer (some ad):=by
      unfold aC4 at h
      split at h
      ·exact h.elim
      ·split at h
       ·obtain⟨g,_,e⟩:=hr.ptr_inv;exact⟨_,e⟩
       ·obtain⟨b,o,_,e⟩:=hr.ea_inv;exact⟨_,e⟩
       ·obtain⟨ad,e,_⟩:=hr.mp_inv;exact⟨ad,e⟩
       ·exact h.elim
     obtain⟨ad,had⟩:=hptr
     have had':a.tmps.getD x undef= .pointer (some ad):=had
     simp only [execOp,Instr.loadAt,had,Instr.sureAddr,Sem.run_bind,Sem.run_pure,Result.andThen_ok]at hrun
     simp only [had',asAddr,Sem.run_bind,Sem.run_pure,Result.andThen_ok]
     cases hlv:(loadVar t ad).run P w with
     |ok u w'=>rw [hlv]at hrun;simp only [Result.andThen_ok]at hrun;injection hrun with h1 h2;injection h1 with h1;rw [h1,h2]
     |halt u w'=>rw [hlv]at hrun;simp [Result.andThen]at hrun
    simp only [List.mapM_cons,aCc,Sem.run_bind]
    simp only [Sem.run_bind]at hlv
    rw [hlv]
    simp only [Result.andThen_ok]
    rw [q1]
    simp
   ·intro j s' u hs' hu
    cases j with
    |zero=>simp at hs' hu;subst hs';subst hu;exact p2
    |succ j=>exact q3 j s' u (by simpa using hs') (by simpa using hu)
theorem dM {fn:Func}{a:Act}{w:World}{vs:List Value}(h:(fn.results.toList.mapM (aCc a.tmps)).run P w= .ok vs w):(results fn a.tmps).run P w= .ok (aOc vs) w:=by
 have e:results fn a.tmps=(do let vs <-fn.results.mapM (aCc a.tmps);pure (if h:vs.size=1 then vs[0]else .tuple vs)):=by
  unfold results
  congr 1
 have e2:(fn.results.mapM (aCc a.tmps)).run P w= .ok vs.toArray w:=by
  rw [Array.mapM_eq_mapM_toList]
  rw [map_eq_pure_bind,Sem.run_bind,h]
  rfl
 rw [e,Sem.run_bind,e2]
 simp only [Result.andThen_ok]
 match vs with
 | []=>rfl
 | [v]=>rfl
 |a::b::r=>rfl
theorem fT {w:World}{ρ:Env}{l:List SV}{vs:List Value}(hl:vs.length=l.length) (h: ∀(j:Nat) (s:SV) (v:Value),l[j]? =some s->vs[j]? =some v->Rep w ρ s v):Rep w ρ (bX l) (aOc vs):=by
 match l,vs,hl with
 | [],[],_=>exact .tup [] #[] rfl (by simp)
 | [s],[v],_=>exact h 0 s v rfl rfl
 |s::s'::r,v::v'::r',hl=>exact .tup _ _ (by simpa using hl) λj x u hx hu=>h j x u hx (by simpa using hu)
mutual
def aDk (hp:Hp):SV->(SV->Prop)->Prop
 | .osl _ z rows,K=>K (.d (.sl z rows))
 | .mw id z n, K => (match aN hp id with
  |some (.mrow _ z' _ rows)=>z=z'/\n=rows.length/\K (.d (.sl z rows))
  |_=>aF "a result: no such rows")
 | .agg cs,K=>dC hp cs λl=>K (vM l)
 | .d x,K=>K (.d x)
 | .tup _,_=>aF "a result: a tuple"
 | .ptr id off,K=>K (.ptr id off)
 | .ea z rows i off,K=>K (.ea z rows i off)
 | .msl id z off n,K=>K (.msl id z off n)
 | .fn f a b,K=>K (.fn f a b)
 | .ms _ _ _ _ _,_=>aF "a result: a part of rows"
 | .mp _ _ _ _ _,_=>aF "a result: an address in rows"
 | .zc,K=> ∃z,K (.d (.sl z []))
 | .yld _,_=>aF "a result: a round"
 | .xv _ _,_=>aF "a result: a value of another kind"
def dC (hp:Hp):List SV->(List SV->Prop)->Prop
 | [],K=>K []
 |s::r,K=>aDk hp s λx=>dC hp r λl=>K (x::l)
end
def Sfz (ρ:Env) (hp:Hp):Nat->Nat->Prop:= λb i=>ρ.S b i\/ ∃id e z cap rows,aN hp id=some (.mrow e z cap rows)/\cZ (ρ.tv id)=some b/\i < rows.length * z
theorem Rep.wider {w:World}{ρ:Env}{s:SV}{v:Value}{S':Nat->Nat->Prop}(h:Rep w ρ s v) (hs: ∀b i,ρ.S b i->S' b i):Rep w (ρ.withS S') s v:=
 h.mono (λ_ _ _=>rfl) hs λid _=>ρ.moved_withS S' id
theorem aCo {E:Entry}{ρ:Env}{hp:Hp}{w:World}(hm:Mem E ρ hp w) {id e z cap:Nat}{rows:List (List D)}(ho:aN hp id=some (.mrow e z cap rows)):RepD w (Sfz ρ hp) (.sl z rows) (ρ.tv id):=by
 obtain⟨_,h2⟩:=hm.sat id _ ho
 rcases h2 with⟨rfl,_,A,e1⟩|⟨hc,g,cur,e1,q1,q2,q3,q4,q6,q7⟩
 ·rw [e1]
  exact RepD.mk_sl (b:=0) (off:=0) (by simp) (by simp) (λhne=>absurd rfl hne) ⟨by simp,by simp⟩ (by simp)
 ·rw [e1]
  have hb:cZ (ρ.tv id)=some g:=by rw [e1];have:cap≠0:=(by omega);simp [cZ,this]
  refine RepD.mk_sl (b:=g) (off:=0) q2 q3 (λ_=>rfl) ?_ rfl
  refine q6.view (λk v hv=> ?_) (λk hk=> ?_) (λx v hx=>hx.mono (λ_ _ _=>rfl) λb i hs=> .inl hs)
  ·rw [Nat.zero_add,cell_of_row w g k cur e (0,0) q1]
   rw [List.getElem?_take]at hv
   split at hv
   ·simpa using hv
   ·cases hv
  ·rw [Nat.zero_add]
   right
   refine⟨id,e,z,cap,rows,ho,hb, ?_⟩
   rw [q6.len]at hk;exact hk
mutual
theorem aGd {E:Entry}{ρ:Env}{hp:Hp}{w:World}(hm:Mem E ρ hp w): ∀(s:SV) (v:Value) (K:SV->Prop),Rep w ρ s v->aDk hp s K-> ∃s',K s'/\Rep w (ρ.withS (Sfz ρ hp)) s' v
 | .osl _ z rows,v,K,hr,h=>⟨_,h,(Rep.d _ _ hr.osl_inv.1:Rep w ρ (.d (.sl z rows)) v).wider λ_ _ x=> .inl x⟩
 | .mw id z n,v,K,hr,h=>by
  simp only [aDk]at h
  split at h
  ·rename_i e z' cap rows ho
   obtain⟨rfl,rfl,hk⟩:=h
   obtain⟨A,c,_,_,_,_,_,e2⟩:=hr.mw_inv
   obtain⟨q1,_⟩:=hm.sat id _ ho
   have e3:=e2 q1.symm
   subst e3
   exact⟨_,hk, .d _ _ (aCo hm ho)⟩
  ·exact h.elim
 | .agg cs,v,K,hr,h=>by
  simp only [aDk]at h
  obtain⟨vs,e,hl,hh⟩:=hr.agg_inv
  subst e
  obtain⟨l,hk,h1,h2⟩:=fQ hm cs vs.toList _ (by simpa using hl) (λj s u hs hu=>hh j s u hs (by simpa using hu)) h
  exact⟨_,hk,hU (by rw [h1];simpa using hl) λj s u hs hu=>h2 j s u hs (by simpa using hu)⟩
 | .d x,v,K,hr,h=>⟨_,h,hr.wider λ_ _ x=> .inl x⟩
 | .tup _,_,_,_,h=>h.elim
 | .ptr id off,v,K,hr,h=>⟨_,h,hr.wider λ_ _ x=> .inl x⟩
 | .ea z rows i off,v,K,hr,h=>⟨_,h,hr.wider λ_ _ x=> .inl x⟩
 | .msl id z off n,v,K,hr,h=>⟨_,h,hr.wider λ_ _ x=> .inl x⟩
 | .fn f a b,v,K,hr,h=>⟨_,h,hr.wider λ_ _ x=> .inl x⟩
 | .ms _ _ _ _ _,_,_,_,h=>h.elim
 | .mp _ _ _ _ _,_,_,_,h=>h.elim
 | .zc,v,K,hr,h=>by
  simp only [aDk]at h
  obtain⟨z,hk⟩:=h
  obtain⟨A,e⟩:=hr.zc_inv
  subst e
  exact⟨_,hk, .d _ _ (RepD.mk_sl (b:=0) (off:=0) (by simp) (by simp) (λhne=>absurd rfl hne) ⟨by simp,by simp⟩ (by simp))⟩
 | .yld _,_,_,_,h=>h.elim
 | .xv _ _,_,_,_,h=>h.elim
theorem fQ {E:Entry}{ρ:Env}{hp:Hp}{w:World}(hm:Mem E ρ hp w): ∀(l:List SV) (vs:List Value) (K:List SV->Prop),vs.length=l.length->(∀(j:Nat) (s:SV) (u:Value),l[j]? =some s->vs[j]? =some u->Rep w ρ s u)->dC hp l K->
  ∃l',K l'/\l'.length=l.length/\ ∀(j:Nat) (s:SV) (u:Value),l'[j]? =some s->vs[j]? =some u->Rep w (ρ.withS (Sfz ρ hp)) s u
 | [],vs,K,_,_,h=>⟨[],h,rfl,by simp⟩
 |s::r,[],K,hl,_,_=>by simp at hl
 |s::r,v::vs,K,hl,hh,h=>by
  simp only [dC]at h
  obtain⟨s',hk,h1⟩:=aGd hm s v _ (hh 0 s v rfl rfl) h
  obtain⟨l',hk2,h2,h3⟩:=fQ hm r vs _ (by simpa using hl) (λj s u hs hu=>hh (j+1) s u (by simpa using hs) (by simpa using hu)) hk
  refine⟨s'::l',hk2,by simp [h2],λj x u hx hu=> ?_⟩
  cases j with
  |zero=>simp at hx hu;subst hx;subst hu;exact h1
  |succ j=>exact h3 j x u (by simpa using hx) (by simpa using hu)
end
def mX (ti:TypeId->Option TI) (rs:List ResultVar) (post:SV->Prop) (e:Ex) (fr:Fr) (hp:Hp):Prop:=
 match e with
 | .ret=>eH ti fr hp rs λl=>dC hp l λl=>(bX l).ids=[]/\post (bX l)
 | .normal=>eH ti fr hp rs λl=>dC hp l λl=>(bX l).ids=[]/\post (bX l)
 |_=>aF "the end"
theorem Mem.putOther {E E':Entry}{ρ:Env}{hp:Hp}{w:World}(h:Mem E ρ hp w) {b:Nat}{o o':Obj}(hb:w.heap[b]? =some o) (ho: ∀c t q,o≠ .cells c t q) (ho': ∀c t q,o'≠ .cells c t q) (hnew:E.w.heap.size<=b) (hrx: ∀id X,aN hp id=some (.rox X)->ρ.blk id≠some b) (hat: ∀id x,aN hp id=some x->ρ.at id x≠some b)
  (hE:E'.w=E.w/\E'.S=E.S/\E'.B=E.B/\E'.pin=E.pin/\E'.ρ=E.ρ) (hD: ∀d∈E'.D,d∈E.D/\d≠b):
  Mem E' ρ hp (w.putObj b o')/\bP ρ.S w (w.putObj b o'):=by
 obtain⟨e1,e2,e3,e4,e5⟩:=hE
 have hoth: ∀k,k≠b->(w.putObj b o').heap[k]? =w.heap[k]? := λk hk=>World.putObj_heap_other hk
 have hcell: ∀k i,(w.putObj b o').cell? ⟨k,i,none⟩=w.cell? ⟨k,i,none⟩:=by
  intro k i
  by_cases e:k=b
  ·subst e
   have h1:=World.putObj_heap_same (w:=w) (r:=k) (o:=o') (aV hb)
   unfold World.cell?
   simp only [h1,hb]
   cases o<;>cases o'<;>first|rfl|exact absurd rfl (ho _ _ _)|exact absurd rfl (ho' _ _ _)
  ·exact World.cell?_of_block (w:=w) (hoth k e)
 have hk:bP ρ.S w (w.putObj b o'):= λk i _=>hcell k i
 have hro: ∀id x g,aN hp id=some x->x.Rd->ρ.blk id=some g->g≠b:=by
  rintro id x g hg1 hrd hg2 rfl
  have hs:=h.sat id _ hg1
  cases x with
  |ro t cs=>
   obtain⟨g',h1,cur,h2,_⟩:=hs
   rw [hg2]at h1;injection h1 with h1;subst h1
   rw [hb]at h2;injection h2 with h2;exact ho _ _ _ h2
  |rox X=>exact hrx id X hg1 hg2
  |_=>exact hrd.elim
 refine⟨⟨by rw [e1];exact h.os,by rw [e1];exact h.tape,by rw [e1];exact h.output,by rw [e1];simpa using h.size, ?_,by rw [e2];exact h.sold, ?_,by simpa using h.slt, ?_, ?_,h.inj, ?_, ?_,h.ro, ?_⟩,hk⟩
 ·rw [e1,e3]
  intro k hk' hB
  rw [hoth k (by omega)]
  exact h.old k hk' hB
 ·rw [e1,e2,e3];exact h.snew
 ·rw [e1,e2];exact h.kp.trans h.sold hk
 ·intro id x hx
  refine(h.sat id x hx).keep hk (λ_ _ x=>x) (λi _=>ρ.moved_refl i) ⟨rfl,rfl⟩ ?_ (λ_ _ _ x=>x)
  rintro g (hg|⟨hg,hrd⟩)
  ·exact hoth g λe=>hat id x hx (e ▸ hg)
  ·exact hoth g (hro id x g hx hrd hg)
 ·rw [e1,e3];exact h.hb
 ·rw [e4,e5];exact h.mv
 ·intro d hd
  obtain⟨d1,d2⟩:=hD d hd
  rw [hoth d d2];exact h.md d d1
theorem Mem.notDef {E:Entry}{ρ:Env}{hp:Hp}{w:World}(h:Mem E ρ hp w) {b:Nat}{x:Option (List Deferred)}(hb:w.heap[b]? =some (.deferred x)): ∀id o,aN hp id=some o->ρ.at id o≠some b:=by
 intro id o ho hat
 have hs:=h.sat id o ho
 cases o with
 |cells t cs=>
  obtain⟨g,h1,⟨cur,h2,_⟩,_⟩:=hs
  simp only [Env.at]at hat
  rw [h1]at hat;injection hat with hat;subst hat
  rw [hb]at h2;cases h2
 |ro=>simp [Env.at]at hat
 |own e z n=>
  obtain⟨_,xs,h1,_⟩:=hs
  exact iB h1 hat hb
 |mrow e z cap rows=>
  obtain⟨_,h1⟩:=hs
  obtain⟨cur,h2⟩:=h1.heap hat
  rw [hb]at h2;cases h2
 |loop L s=>
  obtain⟨g,r,h1,h2,_⟩:=hs
  simp only [Env.at]at hat
  rw [h1]at hat;injection hat with hat;subst hat
  rw [hb]at h2;cases h2
 |ext X=>
  obtain⟨g,r,h1,h2,h3,_⟩:=hs
  simp only [Env.at]at hat
  rw [h1]at hat;injection hat with hat;subst hat
  rw [hb]at h2;cases h2
  exact X.nd _ _ _ h3
 |glob=>simp [Env.at]at hat
 |rox=>simp [Env.at]at hat
theorem eG {ρ:Env}{hp:Hp}{fn:Func}{tmps:Array Value}{R:Ending->World->Prop}{u:FrameMode}(hu:u≠ .run) (pre:List Deferred): ∀(own:List Nat) (E:Entry) (w:World),Mem E ρ hp w->(∃D0,E.D=own++D0/\ ∀b∈own,b∉D0)->own.Nodup->(∀b∈own,E.w.heap.size<=b)->
  (∀E' w',E'.w=E.w/\E'.S=E.S/\E'.B=E.B/\E'.pin=E.pin/\E'.ρ=E.ρ/\E'.D=E.D.drop own.length->Mem E' ρ hp w'->bP ρ.S w w'->LeavesInM (FW none) 0 P fn tmps R pre u w')->
  LeavesInM (FW none) 0 P fn tmps R (own.map aB9++pre) u w
 | [],E,w,hm,_,_,_,fin=>fin E w ⟨rfl,rfl,rfl,rfl,rfl,rfl⟩ hm (λ_ _ _=>rfl)
 |b::own,E,w,hm,⟨D0,hD,hD0⟩,hnd,hnew,fin=>by
  have hb:w.heap[b]? =some (.deferred (some [])):=hm.md b (by rw [hD];simp)
  rw [List.nodup_cons]at hnd
  obtain ⟨m1, m2⟩ := hm.putOther (E' := { E with D := own ++ D0 }) (o' := .deferred none) hb (λ_ _ _ e => by cases e) (λ_ _ _ e => by cases e) (hnew b (List.mem_cons_self ..)) (λi X hi he => by
    obtain⟨g,r,h1,h2,h3⟩:=hm.sat i _ hi
    rw [he]at h1;injection h1 with h1;subst h1
    rw [hb]at h2;cases h2
    exact X.nd _ _ _ h3) (hm.notDef hb) ⟨rfl,rfl,rfl,rfl,rfl⟩
   (λd hd => ⟨by rw [hD]; exact List.mem_cons_of_mem _ hd, λe => by
    subst e
    rcases List.mem_append.1 hd with hd|hd
    ·exact hnd.1 hd
    ·exact hD0 d (List.mem_cons_self ..) hd⟩)
  refine⟨hu, .inl ⟨b,_,rfl,run_takeDeferred hb, ?_⟩⟩
  refine eG hu pre own { E with D:=own++D0 } _ m1 ⟨D0,rfl,λd hd=>hD0 d (List.mem_cons_of_mem _ hd)⟩ hnd.2 (λd hd=>hnew d (List.mem_cons_of_mem _ hd)) ?_
  intro E' w' hE hm' hk
  refine fin E' w' ⟨hE.1,hE.2.1,hE.2.2.1,hE.2.2.2.1,hE.2.2.2.2.1, ?_⟩ hm' (m2.trans (λ_ _ x=>x) hk)
  rw [hE.2.2.2.2.2,hD]
  simp
theorem gB {E E':Entry}(h:Ext E E') (h0:E.k=0): ∃own,E'.D=own++E.D/\E'.D.take E'.k=own/\(∀b∈own,E'.w.heap.size<=b)/\own.Nodup/\ ∀b∈own,b∉E.D:=by
 obtain⟨D',d1,d2,d3,d4⟩:=h.D
 refine⟨D',d1, ?_,by rw [h.w];exact λb hb=>(d4 b hb).1,d3,λb hb=>(d4 b hb).2⟩
 rw [d2,h0,d1];simp
theorem aH (zc:Bool) (frz:List Nat) {ti:TypeId->Option TI}(hti:cI P ti) {f:FuncId}{fn:Func}{c:Code}(hf:P.funcs[f]? =some fn) (hb:fn.body=some c) (keep:Nat->Bool) (pin:List Nat) (args:List SV) (hp:Hp) (post:SV->Prop)
  (hn:args.length<=fn.ntmps) (hnd:(hp.map (·.1)).Nodup) (hx:X ⟨P,ti,cY pin,fn.ntmps,keep,0,none,zc,frz⟩ c (cX 0 args) (roH hp) (mX ti fn.results.toList post)):Tri P f args hp post:=by
 intro w ρ vs hslt hargs hro
 refine cW (r:=none) (n:=0) |>.1 (callsIn_of_wp_marks hf hb trivial ?_)
 have hm:Mem ⟨w,ρ.S,λ_=>False,cY pin,ρ,none,[],0⟩ ρ (roH hp) w:=by
  have hat: ∀id o,aN (roH hp) id=some o->ρ.at id o=none:=by
   intro id o ho
   rcases dT hp id o hnd ho with⟨t,cs,rfl,_⟩|⟨g,z,rows,rfl,_⟩|⟨X,rfl,_⟩
   ·rfl
   ·rfl
   ·rfl
  refine⟨rfl,rfl, .refl _,Nat.le_refl _,λ_ _ _=>rfl,λ_ _ h=>h,λ_ _ h _ _=>h,hslt,λ_ _ _=>rfl, ?_, ?_, ?_,λid _=>ρ.moved_refl id, ?_,λb hb=>by cases hb⟩
  ·intro id o ho
   rcases dT hp id o hnd ho with⟨t,cs,rfl,h|h⟩|⟨g,z,rows,rfl,h⟩|⟨X,rfl,h|h⟩
   ·exact hro id _ h
   ·exact hro id _ h
   ·exact hro id _ h
   ·exact hro id _ h
   ·exact hro id _ h
  ·intro id o id' o' g h1 _ h3 _;rw [hat id o h1]at h3;cases h3
  ·intro id o g h1 h3;rw [hat id o h1]at h3;cases h3
  ·intro id x g _ _ _ id' o' h3 h4;rw [hat id' o' h3]at h4;cases h4
 have hfs:bW ρ w (cX 0 args) (vs++Array.replicate (fn.ntmps - vs.size) undef):=by
  intro t s ht
  obtain⟨_,h2⟩:=cU args 0 t s ht
  simp only [Nat.sub_zero]at h2
  have hlt:=(List.getElem?_eq_some_iff.1 h2).1
  have hlt':t < vs.size:=by rw [hargs.1];exact hlt
  refine⟨vs[t], ?_,hargs.2 t s _ h2 (Array.getElem?_eq_getElem hlt')⟩
  rw [Array.getElem?_append_left hlt',Array.getElem?_eq_getElem hlt']
 refine wpIn_mono (gO (C:=⟨P,ti,cY pin,fn.ntmps,keep,0,none,zc,frz⟩) hti c _ _ _ hx ⟨w,ρ.S,λ_=>False,cY pin,ρ,none,[],0⟩ _ w rfl rfl ⟨?_,rfl,ρ,hm,hfs⟩) ?_
 ·simp only [Array.size_append,Array.size_replicate]
  have:=hargs.1
  omega
 ·rintro e a' w' ⟨x,fr',hp',E',hE,hrel,hk,hnt,hdf,ρ',hm',hf'⟩
  obtain⟨own,o1,o2,o3,o4,o5⟩:=gB hE rfl
  have fin:eH ti fr' hp' fn.results.toList (λl=>dC hp' l λl=>(bX l).ids=[]/\post (bX l))->LeavesInM (FW none) 0 P fn a'.tmps (λe w'=> ∃v S' s,e= .returned v/\post s/\Grew w w'/\(∀b i,ρ.S b i->S' b i)/\(∀b i,S' b i->ρ.S b i\/w.heap.size<=b)/\(∀b i,S' b i->b < w'.heap.size)/\Rep w' (ρ.withS S') s v) a'.defers .returning w':=by
   intro hk
   have hpre:E'.pin.pre=[]:=by rw [hE.pin];rfl
   rw [hdf,o2,hpre]
   refine eG (by simp) [] own E' w' hm' ⟨_,o1,o5⟩ o4 o3 ?_
   rintro E'' w'' ⟨q1,q2,q3,q4,q5,q6⟩ hm'' hkp
   have hf'':bW ρ' w'' fr' a'.tmps:=hf'.mono hkp (λ_ _ x=>x) λi _=>ρ'.moved_refl i
   obtain⟨us,l,r1,r2,r3,r4⟩:=tS hti hm'' hf'' _ _ hk
   obtain⟨l',⟨k1,k2⟩,k3,k4⟩:=fQ hm'' l us _ r2 r3 r4
   have eW:E''.w=w:=q1.trans hE.w
   have eS:E''.S=ρ.S:=q2.trans hE.S
   have eB:E''.B= λ_=>False:=q3.trans hE.B
   refine⟨_,dM r1,_,Sfz ρ' hp',bX l',rfl,k2,⟨by rw [hm''.os,eW],by rw [hm''.tape,eW],by have:=hm''.output;rw [eW]at this;exact this,by have:=hm''.size;rw [eW]at this;exact this,λb hb=> ?_⟩,λb i hs=> .inl (hm''.sold b i (by rw [eS];exact hs)), ?_, ?_, ?_⟩
   ·have:=hm''.old b (by rw [eW];exact hb) (by rw [eB];exact λh=>h)
    rw [eW]at this;exact this
   ·rintro b i (hs|⟨id,e,z,cap,rows,ho,hb,_⟩)
    ·rcases Nat.lt_or_ge b w.heap.size with hlt|hge
     ·left
      have:=hm''.snew b i hs (by rw [eW];exact hlt) (by rw [eB];exact λh=>h)
      rw [eS]at this;exact this
     ·exact .inr hge
    ·rcases hm''.hb id _ b ho hb with hge|hB
     ·rw [eW]at hge;exact .inr hge
     ·rw [eB]at hB;exact hB.elim
   ·rintro b i (hs|⟨id,e,z,cap,rows,ho,hb,_⟩)
    ·exact hm''.slt b i hs
    ·exact hm''.blk_lt ho hb
   ·refine(fT (w:=w'') (ρ:=ρ'.withS (Sfz ρ' hp')) (l:=l') (by rw [k3];exact r2) k4).mono (λ_ _ _=>rfl) (λ_ _ h=>h) λid hid=> ?_
    rw [k1]at hid
    cases hid
  cases x<;>cases e<;>simp only [Ex.rel]at hrel<;>simp only [KX,mX,cY]at hk
  ·exact fin hk
  ·exact hk.elim
  ·exact hk.elim
  ·exact fin hk
theorem aI {ti:TypeId->Option TI}(hti:cI P ti) {f:FuncId}{fn:Func}{c:Code}(hf:P.funcs[f]? =some fn) (hb:fn.body=some c) (keep:Nat->Bool) (pin:List Nat) (args:List SV) (hp:Hp) (post:SV->Prop)
  (hn:args.length<=fn.ntmps) (hnd:(hp.map (·.1)).Nodup) (hx:X ⟨P,ti,cY pin,fn.ntmps,keep,0,none,false,[]⟩ c (cX 0 args) (roH hp) (mX ti fn.results.toList post)):Tri P f args hp post:=
 aH false [] hti hf hb keep pin args hp post hn hnd hx
end
end Go.Proofs.YtdjfkmkdkclahaaGreatDoor
