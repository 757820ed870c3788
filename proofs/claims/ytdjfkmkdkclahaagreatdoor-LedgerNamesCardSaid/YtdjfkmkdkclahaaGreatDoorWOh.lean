/-
  A deferred closure that recovers: in a call that comes back it does nothing; after a panic it runs its body. A function whose deferred closure recovers: what its body is held to. A function whose deferred closure recovers: its end, after a return and after a panic. The contract of a function whose deferred closure recovers. Objects: bytes.Equal; what decoding answers; decoding a commit. Objects: decoding axioms, queries and alignments; the readers. A statement whose ends are many: what they have in common is told once, and the rest follows from there. Regions that draw their order: reads of data and pure operations are taken first; the rest as a tree. Rows that the call may write are stable from here on: data. Arguments that say less; rows made here handed to a callee for good. Objects: Alignment as the program writes it; ReadCommit; Query of the empty query. Objects: the law's examples. What encoding a query answers, and that both readers read it again; plain.
  Conditions: none.
-/
import Derived.Test.YtdjfkmkdkclahaaGreatDoorWOb
import Derived.RecoverIn
import Derived.Test.YtdjfkmkdkclahaaGreatDoorWOy
import Derived.Test.YtdjfkmkdkclahaaGreatDoorWSnb
import Derived.Test.YtdjfkmkdkclahaaGreatDoorWSyp
set_option linter.unnecessarySimpa false
set_option linter.unusedSectionVars false
set_option linter.unusedSimpArgs false
set_option linter.unusedVariables false
set_option maxHeartbeats 16000000
namespace Go.Proofs.YtdjfkmkdkclahaaGreatDoor
section
open Go.RowKit
section
variable {P:Program}
theorem eI (w:World) {t:TypeId}{ms:Array (String×TypeId)}(b:Bool) (v:Value) (hv:(v= .nilIface/\b=false)\/ ∃tx x,v= .iface tx x/\b=true) (ht:P.underlying t=some (.interface ms)):(binOp .neq t v .nilIface).run P w= .ok (.bool b) w:=by
 have h: ∀d:Nat,(Op.equalIn (d+1) t v .nilIface).run P w= .ok (!b) w:= λd=>by
  rcases hv with⟨rfl,rfl⟩|⟨tx,x,rfl,rfl⟩<;>simp [Op.equalIn,run_underlying ht]
 simp only [binOp]
 simp [Op.equal,Op.maxDepth,h 9999]
theorem aI6 {g:FuncId}{gn:Func}{r0:Nat}{rc nq:Oper}{a c:Nat}{tI tJ:TypeId}{ms:Array (String×TypeId)}{Y:Code}(hg:P.funcs[g]? =some gn) (hb:gn.body=some (.seq (.region r0 #[rc,nq] false) (.cond (.tmp c) Y .skip)))
  (h1:rc.op= .call { callee:= .builtin .recover,args:= #[],argTypes:= #[] }) (h2:rc.dst=some a) (h3:rc.guard=none) (h4:nq.op= .binOp .neq tI (.tmp a) (.const .nilIface) tJ) (h5:nq.dst=some c) (h6:nq.guard=none)
  (hI:P.underlying tI=some (.interface ms)) (ha:a < gn.ntmps) (hc:c < gn.ntmps) (hres:gn.results= #[]) {args:Array Value} (hsz:args.size<=gn.ntmps) {n:Nat} {w:World} {R:Ending->FrameMode->World->Prop} (hR: ∀v,R (.returned v) .returning w):
  CallsDIn (FW none) n P g args .returning w R:=by
 refine callsDIn_of_wpSIn hg hb trivial (λc₀ cs hm=> ?_)
 refine wpSIn_seq (wpSIn_region ?_)
 show wpOpsSIn (FW none) n P #[rc,nq] _ [0,1] _ _ _
 have hrec:recoverD (c₀::cs)=none:=by simp [recoverD,hm]
 have w1: ∀y,Region.wanted rc y=true:= λy=>by simp [Region.wanted,h3]
 have w2: ∀y,Region.wanted nq y=true:= λy=>by simp [Region.wanted,h6]
 have e1: ∀ev:Operand->Value,(execOp ev rc).run P w= .ok .recover w:= λev=>by simp [execOp,h1,resolve,invoke,builtin]
 have k1:(#[rc,nq]:Array Oper)[0]? =some rc:=rfl
 have k2:(#[rc,nq]:Array Oper)[1]? =some nq:=rfl
 simp only [wpOpsSIn,k1,k2,w1,w2,if_true,e1,hrec]
 refine⟨λ_ _=>trivial,λ_ _=>trivial, ?_⟩
 generalize hA:({ tmps:=args++Array.replicate (gn.ntmps - args.size) undef,defers:=[] }:Act)=A
 have hAs:A.tmps.size=gn.ntmps:=by rw [<-hA];simp;omega
 have hAd:A.defers=[]:=by rw [<-hA]
 have ev1:(A.put rc.dst .nilIface).eval (.tmp a)= .nilIface:=by
  rw [h2]
  simp [Act.put,Act.eval,hAs,ha]
 have e2:(execOp (A.put rc.dst .nilIface).eval nq).run P w= .ok (.value (.bool false)) w:=by
  have ev2:(A.put rc.dst .nilIface).eval (.const .nilIface)= .nilIface:=rfl
  simp [execOp,h4,ev1,ev2,eqGuard,eI w false .nilIface (.inl ⟨rfl,rfl⟩) hI]
 rw [e2]
 have ev3:((A.put rc.dst .nilIface).put nq.dst (.bool false)).eval (.tmp c)= .bool false:=by
  rw [h5]
  simp [Act.put,Act.eval,h2,hAs,hc]
 refine wpSIn_cond ev3 ?_
 refine wpSIn_of_wpIn rfl (wpIn_skip ?_)
 refine⟨by rw [put_defers,put_defers];exact hAd, .returning, ?_, .tuple #[], ?_,hR _⟩
 ·rw [<-hm]
 ·simp [results,hres]
theorem aL1 {g:FuncId}{gn:Func}{r0:Nat}{rc nq:Oper}{a c:Nat}{tI tJ:TypeId}{ms:Array (String×TypeId)}{Y:Code}(hg:P.funcs[g]? =some gn) (hb:gn.body=some (.seq (.region r0 #[rc,nq] false) (.cond (.tmp c) Y .skip)))
  (h1:rc.op= .call { callee:= .builtin .recover,args:= #[],argTypes:= #[] }) (h2:rc.dst=some a) (h3:rc.guard=none) (h4:nq.op= .binOp .neq tI (.tmp a) (.const .nilIface) tJ) (h5:nq.dst=some c) (h6:nq.guard=none)
  (hI:P.underlying tI=some (.interface ms)) (ha:a < gn.ntmps) (hc:c < gn.ntmps) (hres:gn.results= #[]) {args:Array Value} (hsz:args.size<=gn.ntmps) {n:Nat} {w:World} {R:Ending->FrameMode->World->Prop} {t:TypeId} {x:Value}
  (hY : ∀ A : Act, A.tmps = ((args ++ Array.replicate (gn.ntmps - args.size) undef).setIfInBounds a (.iface t x)).setIfInBounds c (.bool true) -> A.defers = [] ->
   Y.wpIn (FW none) n P (λe a' w'=>(e= .normal\/e= .ret)/\a'.defers=[]/\ ∀v,R (.returned v) (.panicking [{ v:= .iface t x,recovered:=true }]) w') A w):
  CallsDIn (FW none) n P g args (.panicking [{ v:= .iface t x,recovered:=false }]) w R:=by
 refine callsDIn_of_wpSIn hg hb trivial (λc₀ cs hm=> ?_)
 refine wpSIn_seq (wpSIn_region ?_)
 show wpOpsSIn (FW none) n P #[rc,nq] _ [0,1] _ _ _
 have hrec:recoverD (c₀::cs)=some (.iface t x,{ c₀ with mode:= .panicking [{ v:= .iface t x,recovered:=true }] }::cs):=by simp [recoverD,hm]
 have w1: ∀y,Region.wanted rc y=true:= λy=>by simp [Region.wanted,h3]
 have w2: ∀y,Region.wanted nq y=true:= λy=>by simp [Region.wanted,h6]
 have e1: ∀ev:Operand->Value,(execOp ev rc).run P w= .ok .recover w:= λev=>by simp [execOp,h1,resolve,invoke,builtin]
 have k1:(#[rc,nq]:Array Oper)[0]? =some rc:=rfl
 have k2:(#[rc,nq]:Array Oper)[1]? =some nq:=rfl
 simp only [wpOpsSIn,k1,k2,w1,w2,if_true,e1,hrec]
 refine⟨λ_ _=>trivial,λ_ _=>trivial, ?_⟩
 generalize hA:({ tmps:=args++Array.replicate (gn.ntmps - args.size) undef,defers:=[] }:Act)=A
 have hAs:A.tmps.size=gn.ntmps:=by rw [<-hA];simp;omega
 have hAd:A.defers=[]:=by rw [<-hA]
 have ev1:(A.put rc.dst (.iface t x)).eval (.tmp a)= .iface t x:=by
  rw [h2]
  simp [Act.put,Act.eval,hAs,ha]
 have e2:(execOp (A.put rc.dst (.iface t x)).eval nq).run P w= .ok (.value (.bool true)) w:=by
  have ev2:(A.put rc.dst (.iface t x)).eval (.const .nilIface)= .nilIface:=rfl
  simp [execOp,h4,ev1,ev2,eqGuard,eI w true (.iface t x) (.inr ⟨_,_,rfl,rfl⟩) hI]
 rw [e2]
 have ev3:((A.put rc.dst (.iface t x)).put nq.dst (.bool true)).eval (.tmp c)= .bool true:=by
  rw [h5]
  simp [Act.put,Act.eval,h2,hAs,hc]
 refine wpSIn_cond ev3 ?_
 refine wpSIn_of_wpIn rfl (wpIn_mono (hY _ ?_ (by rw [put_defers,put_defers];exact hAd)) ?_)
 ·rw [h2,h5,<-hA];rfl
 ·rintro e a' w' ⟨he,hd,hR⟩
  rcases he with rfl|rfl<;>exact⟨hd,_,rfl, .tuple #[],by simp [results,hres],hR _⟩
end
end
section
open Go.RowKit
section
variable {P:Program}
theorem Mem.relit {E:Entry}{ρ:Env}{hp:Hp}{w:World}(h:Mem E ρ hp w) {i:Nat}{t:TypeId}{cs:List SV}(hi:aM hp i=some (.cells t cs)):
  ∃vs:List Value,vs.length=cs.length/\Mem E ρ (dQ hp i (.cells t (vs.map λv=> .d (.lit v)))) w:=by
 obtain⟨g0,g1,⟨cur,c1,c2,c3,c4⟩,g3⟩:=h.sat i _ hi
 refine⟨cur.toList,by simpa using c2, ?_⟩
 refine⟨h.os,h.tape,h.output,h.size,h.old,h.sold,h.snew,h.slt,h.kp, ?_, ?_, ?_,h.mv, ?_,h.md⟩
 ·intro id o ho
  rw [aX _ hi]at ho
  split at ho
  ·rename_i e;subst e
   injection ho with ho;subst ho
   exact ⟨g0, g1, ⟨cur, c1, by simp, c3, λj s' v hs' hv => by
    rw [List.getElem?_map,Option.map_eq_some_iff]at hs'
    obtain⟨u,hu,rfl⟩:=hs'
    rw [Array.getElem?_toList,hv]at hu
    injection hu with hu
    subst hu
    exact .d _ _ (.lit _)⟩,g3⟩
  ·exact h.sat id o ho
 ·intro id o id' o' g h1 h2 h3 h4
  rw [aX _ hi]at h1 h2
  have key: ∀k x,(if k=i then some (HObj.cells t (cur.toList.map λv=>SV.d (.lit v)))else aM hp k)=some x->ρ.at k x=some g-> ∃x',aM hp k=some x'/\ρ.at k x'=some g:=by
   intro k x hx hg
   split at hx
   ·rename_i e;subst e
    injection hx with hx;subst hx
    exact⟨_,hi,hg⟩
   ·exact⟨x,hx,hg⟩
  obtain⟨x,a1,a2⟩:=key id o h1 h3
  obtain⟨x',b1,b2⟩:=key id' o' h2 h4
  exact h.inj id x id' x' g a1 b1 a2 b2
 ·intro id o g h1 h3
  rw [aX _ hi]at h1
  split at h1
  ·rename_i e;subst e
   injection h1 with h1;subst h1
   exact h.hb id _ g hi h3
  ·exact h.hb id o g h1 h3
 ·intro id oR g h1 hrd h2 id' o' h3 h4
  rw [aX _ hi]at h1 h3
  split at h1
  ·injection h1 with h1;subst h1;exact hrd.elim
  ·split at h3
   ·rename_i e;subst e
    injection h3 with h3;subst h3
    exact h.ro id oR g h1 hrd h2 id' _ hi h4
   ·exact h.ro id oR g h1 hrd h2 id' o' h3 h4
def aPj (x y:Nat) (tx ty:TypeId) (nx:Nat):Fr->Hp->Prop:= λfr hp=>
 dE fr x=some (.ptr x 0)/\dE fr y=some (.ptr y 0)/\(∃cx,aM hp x=some (.cells tx cx)/\cx.length=nx)/\ ∃cy,aM hp y=some (.cells ty [cy])
def KPq (q:Prop) (x y:Nat) (tx ty:TypeId) (nx:Nat):Fr->Hp->Prop:= λfr hp=>q/\aPj x y tx ty nx fr hp
theorem aF0 {mk df:Oper}{B:Code}{g d x y j:Nat}
  (m1:mk.op= .makeFunc (.func g) #[] #[.tmp x, .tmp y]) (m2:mk.dst=some d) (m3:mk.guard=none) (d1:df.op= .defer { callee:= .value (.tmp d),args:= #[],argTypes:= #[] }) (d2:df.dst=none) (d3:df.guard=none)
  {E:Entry} {fr:Fr} {hp:Hp} {nt:Nat} {a:Act} {w:World} {Q:Exit->Act->World->Prop} (hd:d < nt) (hs:Sat E nt ⟨fr,hp⟩ a w) (hE:E.k=0/\E.pin.pre=[]) (hx:dE fr x=some (.ptr x 0)) (hy:dE fr y=some (.ptr y 0)) (ids:List Nat) (kp:Fr->Hp->Prop) (pv:Option (TypeId->Value->Prop))
  (hB : ∀ ρ gx gy a', Mem E ρ hp w -> ρ.blk x = some gx -> ρ.blk y = some gy ->
   Sat (aV w ρ hp ⟨ids,kp,[{ target:= .fn (.func g) #[.pointer (some ⟨gx,0,none⟩), .pointer (some ⟨gy,0,none⟩)],args:= #[] }],pv⟩ none E.D) nt ⟨zX fr d (.fn g [] [.ptr x 0, .ptr y 0]),hp⟩ a' w->B.wpIn (FW none) 0 P Q a' w):
  (Code.seq (.region j #[mk,df] false) B).wpIn (FW none) 0 P Q a w:=by
 obtain⟨h1,h2,ρ,hm,hf⟩:=hs
 have ex: ∃gx,a.eval (.tmp x)= .pointer (some ⟨gx,0,none⟩)/\ρ.blk x=some gx:=by
  obtain⟨v,q1,q2⟩:=hf x _ hx
  cases q2 with
  |ptr id off gx h=>exact⟨gx,by simp [Act.eval,Array.getD_eq_getD_getElem?,q1],h⟩
 have ey: ∃gy,a.eval (.tmp y)= .pointer (some ⟨gy,0,none⟩)/\ρ.blk y=some gy:=by
  obtain⟨v,q1,q2⟩:=hf y _ hy
  cases q2 with
  |ptr id off gx h=>exact⟨gx,by simp [Act.eval,Array.getD_eq_getD_getElem?,q1],h⟩
 obtain⟨gx,ex,bx⟩:=ex
 obtain⟨gy,ey,by_⟩:=ey
 refine wpIn_seq (wpIn_region ?_)
 show wpOpsIn (FW none) 0 P #[mk,df] _ [0,1] a w
 have w1: ∀y,Region.wanted mk y=true:= λy=>by simp [Region.wanted,m3]
 have w2: ∀y,Region.wanted df y=true:= λy=>by simp [Region.wanted,d3]
 have k1:(#[mk,df]:Array Oper)[0]? =some mk:=rfl
 have k2:(#[mk,df]:Array Oper)[1]? =some df:=rfl
 simp only [wpOpsIn,k1,k2,w1,w2,if_true]
 have e1:(execOp a.eval mk).run P w= .ok (.value (.func (.func g) #[] #[.pointer (some ⟨gx,0,none⟩), .pointer (some ⟨gy,0,none⟩)])) w:=by
  simp [execOp,m1,Instr.makeFunc,ex,ey]
 refine⟨λ_ _=>trivial, ?_⟩
 show Oper.uponIn (FW none) 0 P mk a _ _ ((execOp a.eval mk).run P w)
 rw [e1,Oper.uponIn_value]
 refine⟨λ_ _=>trivial, ?_⟩
 generalize hA:a.put mk.dst (.func (.func g) #[] #[.pointer (some ⟨gx,0,none⟩), .pointer (some ⟨gy,0,none⟩)])=A
 have hv:A.eval (.tmp d)= .func (.func g) #[] #[.pointer (some ⟨gx,0,none⟩), .pointer (some ⟨gy,0,none⟩)]:=by
  rw [<-hA,m2]
  have hd':d < a.tmps.size:=by rw [h1];exact hd
  simp [Act.put,Act.eval,hd']
 have e2:(execOp A.eval df).run P w= .ok (.defer { target:= .fn (.func g) #[.pointer (some ⟨gx,0,none⟩), .pointer (some ⟨gy,0,none⟩)],args:= #[] }) w:=by
  simp [execOp,d1,resolve,hv,Deferred.ofValue]
 show Oper.uponIn (FW none) 0 P df A _ _ ((execOp A.eval df).run P w)
 rw [e2,Oper.uponIn_defer,d2]
 refine hB ρ gx gy _ hm bx by_ ⟨?_, ?_,ρ,hm.enter _ none, ?_⟩
 ·show A.tmps.size=nt
  rw [<-hA,aU];exact h1
 ·show _::A.defers=_
  rw [<-hA,put_defers,h2,hE.1,hE.2];simp [aV]
 ·intro t s ht
  rw [fT]at ht
  show ∃v,A.tmps[t]? =some v/\Rep w ρ s v
  rw [<-hA,m2]
  by_cases e:t=d
  ·subst e
   simp at ht
   subst ht
   have hd':t < a.tmps.size:=by rw [h1];exact hd
   refine⟨.func (.func g) #[] #[.pointer (some ⟨gx,0,none⟩), .pointer (some ⟨gy,0,none⟩)],by simp [Act.put,hd'], ?_⟩
   refine .fn g [] [.ptr x 0, .ptr y 0] #[] #[.pointer (some ⟨gx,0,none⟩), .pointer (some ⟨gy,0,none⟩)] rfl rfl (by intro j s v h;simp at h) ?_
   intro j s v q1 q2
   match j with
   | 0=>simp at q1 q2;subst q1;subst q2;exact .ptr x 0 gx bx
   | 1=>simp at q1 q2;subst q1;subst q2;exact .ptr y 0 gy by_
   |j+2=>simp at q1
  ·simp [e]at ht
   obtain⟨v,q1,q2⟩:=hf t s ht
   refine⟨v, ?_,q2⟩
   simp only [Act.put]
   rw [Array.getElem?_setIfInBounds_ne (Ne.symm e)]
   exact q1
end
end
section
open Go.RowKit
section
variable {P:Program}
def dV (post:SV->Prop) (w:World) (ρ:Env) (e:Ending) (w':World):Prop:=
 ∃v S' s,e= .returned v/\post s/\Grew w w'/\(∀b i,ρ.S b i->S' b i)/\(∀b i,S' b i->ρ.S b i\/w.heap.size<=b)/\(∀b i,S' b i->b < w'.heap.size)/\Rep w' (ρ.withS S') s v
theorem uT {ti:TypeId->Option TI}(hti:cG P ti) {fn:Func}{post:SV->Prop}{w w':World}{ρ ρ':Env}{pinX:Pin}{D:List Nat}{k:Nat}{rd:Option Nat}{fr':Fr}{hp':Hp}{tmps:Array Value}(hm:Mem ⟨w,ρ.S,λ_=>False,pinX,ρ,rd,D,k⟩ ρ' hp' w') (hf:bW ρ' w' fr' tmps)
  (hk:eY ti fr' hp' fn.results.toList (λl=>dP hp' l λl=>(bY l).ids=[]/\post (bY l))):LeavesInM (FW none) 0 P fn tmps (dV post w ρ) [] .returning w':=by
 obtain⟨us,l,r1,r2,r3,r4⟩:=tR hti hm (a:={ tmps:=tmps,defers:=[] }) hf _ _ hk
 obtain⟨l',⟨k1,k2⟩,k3,k4⟩:=gJ hm l us _ r2 r3 r4
 refine⟨_,eC (a:={ tmps:=tmps,defers:=[] }) r1,_,Sfz ρ' hp',bY l',rfl,k2,⟨hm.os,hm.tape,hm.output,hm.size,λb hb=>hm.old b hb (λh=>h)⟩,λb i hs=> .inl (hm.sold b i hs), ?_, ?_, ?_⟩
 ·rintro b i (hs|⟨id,e,z,cap,rows,ho,hb,_⟩)
  ·rcases Nat.lt_or_ge b w.heap.size with hlt|hge
   ·exact .inl (hm.snew b i hs hlt (λh=>h))
   ·exact .inr hge
  ·rcases hm.hb id _ b ho hb with hge|hB
   ·exact .inr hge
   ·exact hB.elim
 ·rintro b i (hs|⟨id,e,z,cap,rows,ho,hb,_⟩)
  ·exact hm.slt b i hs
  ·exact hm.blk_lt ho hb
 ·refine(gM (w:=w') (ρ:=ρ'.withS (Sfz ρ' hp')) (l:=l') (by rw [k3];exact r2) k4).mono (λ_ _ _=>rfl) (λ_ _ h=>h) λid hid=> ?_
  rw [k1]at hid
  cases hid
theorem oD {fn gn:Func}{g:FuncId}{cv:Array Value}{tmps:Array Value}{R:Ending->World->Prop}{u:FrameMode}{w:World}(hu:u≠ .run) (hg:P.funcs[g]? =some gn) (hcall:cZ P g=true)
  (h : CallsDIn (FW none) 0 P g cv u w fun
     | .returned _,u',w'=>LeavesInM (FW none) 0 P fn tmps R [] (settle u') w'
     | .panicked chain,u',w'=>LeavesInM (FW none) 0 P fn tmps R [] (raised u' chain) w'
     | .outgrown,_,w'=>R .outgrown w'):LeavesInM (FW none) 0 P fn tmps R [{ target:= .fn (.func g) cv,args:= #[] }] u w:=by
 refine⟨hu, .inr ⟨λh=>(by cases h), .func g,cv,g,cv,rfl, ?_,λ_ _=>trivial,h⟩⟩
 unfold cZ at hcall
 rw [hg]at hcall
 simp only [Bool.and_eq_true,Bool.not_eq_true']at hcall
 obtain⟨c1,c2⟩:=hcall
 have c3:gn.body.isNone=false:=by cases hb:gn.body<;>simp_all
 simp only [invoke,callFunc,Sem.run_bind,Sem.run_pure,Result.andThen_ok,run_program,hg,c2,c3,Bool.false_eq_true,if_false]
 simp
end
end
section
open Go.RowKit
section
variable {P:Program}
theorem mD {F:Fence}{n:Nat}{ops:Array Oper}{Q:Exit->Act->World->Prop}{a:Act}{w:World}(h:wpOpsIn F n P ops.toList.toArray Q (List.range' 0 ops.toList.length) a w):wpOpsIn F n P ops Q (List.range ops.size) a w:=by
 simpa [List.range_eq_range']using h
theorem aKn (zc:Bool) (frz:List Nat) {ti:TypeId->Option TI}(hti:cG P ti) {f:FuncId}{fn:Func}{i j:Nat}{opsA:Array Oper}{mk df:Oper}{B:Code}
  (hf:P.funcs[f]? =some fn) (hb:fn.body=some (.seq (.region i opsA false) (.seq (.region j #[mk,df] false) B)))
  {g:FuncId} {gn:Func} {r0 r1 r2:Nat} {rc nq:Oper} {a c:Nat} {tI tJ:TypeId} {ms:Array (String×TypeId)} {o1 o2:Array Oper}
  (hg:P.funcs[g]? =some gn) (hgb:gn.body=some (.seq (.region r0 #[rc,nq] false) (.cond (.tmp c) (.seq (.region r1 o1 false) (.region r2 o2 false)) .skip)))
  (h1:rc.op= .call { callee:= .builtin .recover,args:= #[],argTypes:= #[] }) (h2:rc.dst=some a) (h3:rc.guard=none) (h4:nq.op= .binOp .neq tI (.tmp a) (.const .nilIface) tJ) (h5:nq.dst=some c) (h6:nq.guard=none)
  (hI:P.underlying tI=some (.interface ms)) (ha:a < gn.ntmps) (hc:c < gn.ntmps) (hac:2<=a) (hcc:2<=c) (hgr:gn.results= #[]) (hcall:cZ P g=true)
  {d x y:Nat} {tx ty:TypeId}
  (m1:mk.op= .makeFunc (.func g) #[] #[.tmp x, .tmp y]) (m2:mk.dst=some d) (m3:mk.guard=none) (d1:df.op= .defer { callee:= .value (.tmp d),args:= #[],argTypes:= #[] }) (d2:df.dst=none) (d3:df.guard=none) (hd:d < fn.ntmps) (hxy:x≠y)
  (keep keepY:Nat->Bool) (pin:List Nat) (args:List SV) (hp:Hp) (post:SV->Prop) (nx:Nat) (q:Prop) (hn:args.length<=fn.ntmps) (hnd:(hp.map (·.1)).Nodup)
  (hA : mF ⟨P, ti, dL pin, fn.ntmps, keep, 0, none, zc, frz⟩ opsA.toList (λfr hp1 => dE fr x = some (.ptr x 0) /\ dE fr y = some (.ptr y 0) /\
   ∀pre,X ⟨P,ti,⟨x::y::pin,KPq q x y tx ty nx,pre,none⟩,fn.ntmps,keep,0,none,zc,frz⟩ B (zX fr d (.fn g [] [.ptr x 0, .ptr y 0])) hp1 (mE ti fn.results.toList post)) opsA.toList (dK 0 args) (roH hp))
  (hY : q -> ∀ (vx : List Value) (vy : Value), vx.length = nx -> mF ⟨P, ti, dL (x :: y :: pin), gn.ntmps, keepY, 200, none, false, []⟩ o1.toList (λfr hp1 => mF ⟨P, ti, dL (x :: y :: pin), gn.ntmps, keepY, 200, none, false, []⟩ o2.toList
   (λ_ hp2=>eY ti [(x, .ptr x 0),(y, .ptr y 0)] hp2 fn.results.toList (λl=>dP hp2 l λl=>(bY l).ids=[]/\post (bY l))) o2.toList fr hp1) o1.toList [(0, .ptr x 0),(1, .ptr y 0)] [(x, .cells tx (vx.map λv=> .d (.lit v))),(y, .cells ty [.d (.lit vy)])]):
  Tri P f args hp post:=by
 intro w ρ vs hslt hargs hro
 refine dH (r:=none) (n:=0) |>.1 (callsIn_of_wp_marks hf hb trivial ?_)
 have hm:Mem ⟨w,ρ.S,λ_=>False,dL pin,ρ,none,[],0⟩ ρ (roH hp) w:=by
  have hat: ∀id o,aM (roH hp) id=some o->ρ.at id o=none:=by
   intro id o ho
   rcases eN hp id o hnd ho with⟨t,cs,rfl,_⟩|⟨g,z,rows,rfl,_⟩|⟨X,rfl,_⟩
   ·rfl
   ·rfl
   ·rfl
  refine⟨rfl,rfl, .refl _,Nat.le_refl _,λ_ _ _=>rfl,λ_ _ h=>h,λ_ _ h _ _=>h,hslt,λ_ _ _=>rfl, ?_, ?_, ?_,λid _=>ρ.moved_refl id, ?_,λb hb=>by cases hb⟩
  ·intro id o ho
   rcases eN hp id o hnd ho with⟨t,cs,rfl,h|h⟩|⟨g,z,rows,rfl,h⟩|⟨X,rfl,h|h⟩
   ·exact hro id _ h
   ·exact hro id _ h
   ·exact hro id _ h
   ·exact hro id _ h
   ·exact hro id _ h
  ·intro id o id' o' g h1 _ h3 _;rw [hat id o h1]at h3;cases h3
  ·intro id o g h1 h3;rw [hat id o h1]at h3;cases h3
  ·intro id x g _ _ _ id' o' h3 h4;rw [hat id' o' h3]at h4;cases h4
 have hfs:bW ρ w (dK 0 args) (vs++Array.replicate (fn.ntmps - vs.size) undef):=by
  intro t s ht
  obtain⟨_,h2⟩:=dD args 0 t s ht
  simp only [Nat.sub_zero]at h2
  have hlt:=(List.getElem?_eq_some_iff.1 h2).1
  have hlt':t < vs.size:=by rw [hargs.1];exact hlt
  refine⟨vs[t], ?_,hargs.2 t s _ h2 (Array.getElem?_eq_getElem hlt')⟩
  rw [Array.getElem?_append_left hlt',Array.getElem?_eq_getElem hlt']
 refine wpIn_seq (wpIn_region ?_)
 have key : ∀ fr1 hp1 a1 w1, (dE fr1 x = some (.ptr x 0) /\ dE fr1 y = some (.ptr y 0) /\
   ∀pre,X ⟨P,ti,⟨x::y::pin,KPq q x y tx ty nx,pre,none⟩,fn.ntmps,keep,0,none,zc,frz⟩ B (zX fr1 d (.fn g [] [.ptr x 0, .ptr y 0])) hp1 (mE ti fn.results.toList post))->
   Sat ⟨w,ρ.S,λ_=>False,dL pin,ρ,none,[],0⟩ fn.ntmps ⟨fr1,hp1⟩ a1 w1->
   (Code.seq (.region j #[mk,df] false) B).wpIn (FW none) 0 P (bodyPostM (FW none) 0 P fn (dV post w ρ)) a1 w1:=by
  rintro fr1 hp1 a1 w1 ⟨kx,ky,kB⟩ hs
  refine aF0 m1 m2 m3 d1 d2 d3 hd hs ⟨rfl,rfl⟩ kx ky (x::y::pin) (KPq q x y tx ty nx) none ?_
  intro ρ1 gx gy a2 hm1 bx by_ hs2
  generalize hdfr:({ target:= .fn (.func g) #[.pointer (some ⟨gx,0,none⟩), .pointer (some ⟨gy,0,none⟩)],args:= #[] }:Deferred)=dfr at hs2
  refine wpIn_mono (iG (C:=⟨P,ti,⟨x::y::pin,KPq q x y tx ty nx,[dfr],none⟩,fn.ntmps,keep,0,none,zc,frz⟩) hti B _ _ _ (kB _) (aV w1 ρ1 hp1 ⟨x::y::pin,KPq q x y tx ty nx,[dfr],none⟩ none []) a2 w1 rfl rfl hs2) ?_
  rintro e a' w' ⟨e0,fr',hp',E',hE,hrel,hk,hnt,hdf,ρ',hm',hf'⟩
  obtain⟨own,q1,q2,q3,q4,q5⟩:=gX hE rfl
  have hpre:E'.pin.pre=[dfr]:=by rw [hE.pin];rfl
  have fin:eY ti fr' hp' fn.results.toList (λl=>dP hp' l λl=>(bY l).ids=[]/\post (bY l))->LeavesInM (FW none) 0 P fn a'.tmps (dV post w ρ) a'.defers .returning w':=by
   intro hk
   rw [hdf,q2,hpre]
   refine eX (by simp) [dfr] own E' w' hm' ⟨_,q1,q5⟩ q4 q3 ?_
   rintro E'' w'' ⟨p1,p2,p3,p4,p5,p6⟩ hm'' hkp
   have hmE:=hm1.leave (pin:=⟨x::y::pin,KPq q x y tx ty nx,[dfr],none⟩) (rd:=none) hm'' ⟨p1.trans hE.w,p2.trans hE.S,p3.trans hE.B,p4.trans hE.pin,p5.trans hE.ρ,λb hb=>by cases hb⟩ (λid hid=>List.mem_cons_of_mem _ (List.mem_cons_of_mem _ hid))
   have hf'':bW ρ' w'' fr' a'.tmps:=hf'.mono hkp (λ_ _ x=>x) λi _=>ρ'.moved_refl i
   rw [<-hdfr]
   exact oD (by simp) hg hcall (aI6 hg hgb h1 h2 h3 h4 h5 h6 hI ha hc hgr (by simp;omega) (λv=>uT hti hmE hf'' hk))
  have finp: ∀ch,Chn none ch->KPq q x y tx ty nx fr' hp'->LeavesInM (FW none) 0 P fn a'.tmps (dV post w ρ) a'.defers (.panicking ch) w':=by
   rintro ch ⟨t,v,rfl,_⟩ ⟨hqq,kx',ky',⟨cx,hx',lx⟩,cy,hy'⟩
   rw [hdf,q2,hpre]
   refine eX (by simp) [dfr] own E' w' hm' ⟨_,q1,q5⟩ q4 q3 ?_
   rintro E'' w'' ⟨p1,p2,p3,p4,p5,p6⟩ hm'' hkp
   have hmE:=hm1.leave (pin:=⟨x::y::pin,KPq q x y tx ty nx,[dfr],none⟩) (rd:=none) hm'' ⟨p1.trans hE.w,p2.trans hE.S,p3.trans hE.B,p4.trans hE.pin,p5.trans hE.ρ,λb hb=>by cases hb⟩ (λid hid=>List.mem_cons_of_mem _ (List.mem_cons_of_mem _ hid))
   have hf'':bW ρ' w'' fr' a'.tmps:=hf'.mono hkp (λ_ _ x=>x) λi _=>ρ'.moved_refl i
   have hmv:=hm''.mv
   rw [p4.trans hE.pin,p5.trans hE.ρ]at hmv
   have bx':ρ'.blk x=some gx:=(hmv x (List.mem_cons_self ..)).1.trans bx
   have by':ρ'.blk y=some gy:=(hmv y (List.mem_cons_of_mem _ (List.mem_cons_self ..))).1.trans by_
   have hmY := hmE.sub (hp' := [(x, .cells tx cx), (y, .cells ty [cy])]) (by
    intro id o h
    simp only [aM]at h
    split at h
    ·rename_i e;subst e;injection h with h;subst h;exact hx'
    ·split at h
     ·rename_i e;subst e;injection h with h;subst h;exact hy'
     ·cases h)
   obtain⟨vx,lvx,hmY⟩:=hmY.relit (i:=x) (t:=tx) (cs:=cx) (by simp [aM])
   rw [show dQ [(x,HObj.cells tx cx),(y, .cells ty [cy])] x (.cells tx (vx.map λv=> .d (.lit v)))=[(x, .cells tx (vx.map λv=> .d (.lit v))),(y, .cells ty [cy])]by simp [dQ]]at hmY
   obtain⟨vyl,lvy,hmY⟩:=hmY.relit (i:=y) (t:=ty) (cs:=[cy]) (by simp [aM,hxy])
   obtain⟨vy,rfl⟩: ∃vy,vyl=[vy]:=by
    match vyl,lvy with
    | [v],_=>exact⟨v,rfl⟩
   rw [show dQ [(x,HObj.cells tx (vx.map λv=> .d (.lit v))),(y, .cells ty [cy])] y (.cells ty ([vy].map λv=> .d (.lit v)))=[(x, .cells tx (vx.map λv=> .d (.lit v))),(y, .cells ty [.d (.lit vy)])]by simp [dQ,hxy]]at hmY
   have hfx:bW ρ' w'' [(x, .ptr x 0),(y, .ptr y 0)] a'.tmps:=by
    intro t s ht
    simp only [dE]at ht
    split at ht
    ·rename_i e;subst e;injection ht with ht;subst ht;exact hf'' _ _ kx'
    ·split at ht
     ·rename_i e;subst e;injection ht with ht;subst ht;exact hf'' _ _ ky'
     ·cases ht
   rw [<-hdfr]
   refine oD (by simp) hg hcall (aL1 hg hgb h1 h2 h3 h4 h5 h6 hI ha hc hgr (by simp;omega) ?_)
   intro A hAt hAd
   have sY:Sat (aV w'' ρ' [(x, .cells tx (vx.map λv=> .d (.lit v))),(y, .cells ty [.d (.lit vy)])] (dL (x::y::pin)) none []) gn.ntmps ⟨[(0, .ptr x 0),(1, .ptr y 0)],[(x, .cells tx (vx.map λv=> .d (.lit v))),(y, .cells ty [.d (.lit vy)])]⟩ A w'':=by
    refine⟨by rw [hAt];simp;omega,by rw [hAd];rfl,ρ',hmY.enter (dL (x::y::pin)) none, ?_⟩
    intro t s ht
    simp only [dE]at ht
    split at ht
    ·rename_i e
     subst e
     injection ht with ht
     subst ht
     refine⟨.pointer (some ⟨gx,0,none⟩), ?_, .ptr x 0 gx bx'⟩
     rw [hAt,Array.getElem?_setIfInBounds_ne (by omega),Array.getElem?_setIfInBounds_ne (by omega),Array.getElem?_append_left (by simp)]
     rfl
    ·split at ht
     ·rename_i e
      subst e
      injection ht with ht
      subst ht
      refine⟨.pointer (some ⟨gy,0,none⟩), ?_, .ptr y 0 gy by'⟩
      rw [hAt,Array.getElem?_setIfInBounds_ne (by omega),Array.getElem?_setIfInBounds_ne (by omega),Array.getElem?_append_left (by simp)]
      rfl
     ·cases ht
   refine wpIn_seq (wpIn_region ?_)
   have last: ∀fr2 hp2 a2 w2,eY ti [(x, .ptr x 0),(y, .ptr y 0)] hp2 fn.results.toList (λl=>dP hp2 l λl=>(bY l).ids=[]/\post (bY l))->
     Sat (aV w'' ρ' [(x, .cells tx (vx.map λv=> .d (.lit v))),(y, .cells ty [.d (.lit vy)])] (dL (x::y::pin)) none []) gn.ntmps ⟨fr2,hp2⟩ a2 w2->a2.defers=[]/\LeavesInM (FW none) 0 P fn a'.tmps (dV post w ρ) [] .returning w2:=by
    rintro fr2 hp2 a2 w2 hk2 ⟨_,s2,ρ2,hm2,_⟩
    refine⟨by rw [s2];rfl, ?_⟩
    have hmF:=hmY.leave (pin:=dL (x::y::pin)) (rd:=none) hm2 ⟨rfl,rfl,rfl,rfl,rfl,λb hb=>by cases hb⟩ (λid hid=> ?_)
    ·refine uT hti hmF (hfx.mono hm2.kp hm2.sold λid hid=>hm2.mv id ?_) hk2
     have hid:id=x\/id=y:=by simpa [fS,SV.ids]using hid
     show id∈x::y::pin
     rcases hid with e|e
     ·rw [e];exact List.mem_cons_self ..
     ·rw [e];exact List.mem_cons_of_mem _ (List.mem_cons_self ..)
    ·exact List.mem_cons_of_mem _ (List.mem_cons_of_mem _ hid)
   have f2: ∀fr2 hp2 a2 w2,mF ⟨P,ti,dL (x::y::pin),gn.ntmps,keepY,200,none,false,[]⟩ o2.toList
     (λ_ hp2=>eY ti [(x, .ptr x 0),(y, .ptr y 0)] hp2 fn.results.toList (λl=>dP hp2 l λl=>(bY l).ids=[]/\post (bY l))) o2.toList fr2 hp2->
     Sat (aV w'' ρ' [(x, .cells tx (vx.map λv=> .d (.lit v))),(y, .cells ty [.d (.lit vy)])] (dL (x::y::pin)) none []) gn.ntmps ⟨fr2,hp2⟩ a2 w2->
     wpOpsIn (FW none) 0 P o2 (λe aY wY=>(e= .normal\/e= .ret)/\aY.defers=[]/\ ∀v':Value,LeavesInM (FW none) 0 P fn a'.tmps (dV post w ρ) [] (settle (.panicking [{ v:= .iface t v,recovered:=true }])) wY) (List.range o2.size) a2 w2:=by
    intro fr2 hp2 a2 w2 hk2 hs2
    have:=fR (C:=⟨P,ti,dL (x::y::pin),gn.ntmps,keepY,200,none,false,[]⟩) hti (all:=o2.toList) (E:=aV w'' ρ' [(x, .cells tx (vx.map λv=> .d (.lit v))),(y, .cells ty [.d (.lit vy)])] (dL (x::y::pin)) none [])
     (Q:= λe aY wY=>(e= .normal\/e= .ret)/\aY.defers=[]/\ ∀v':Value,LeavesInM (FW none) 0 P fn a'.tmps (dV post w ρ) [] (settle (.panicking [{ v:= .iface t v,recovered:=true }])) wY) rfl
     (λfr3 hp3 a3 w3 hk3 hs3 => by
      obtain⟨z1,z2⟩:=last fr3 hp3 a3 w3 hk3 hs3
      exact⟨.inl rfl,z1,λ_=>z2⟩) (λ_ _ _ _ _ _ hk=>hk.elim) o2.toList 0 _ _ _ _ rfl hk2 hs2
    exact mD this
   have f1:=fR (C:=⟨P,ti,dL (x::y::pin),gn.ntmps,keepY,200,none,false,[]⟩) hti (all:=o1.toList) (E:=aV w'' ρ' [(x, .cells tx (vx.map λv=> .d (.lit v))),(y, .cells ty [.d (.lit vy)])] (dL (x::y::pin)) none [])
    (Q := Exit.then ((Code.region r2 o2 false).wpIn (FW none) 0 P (λe aY wY => (e = .normal \/ e = .ret) /\ aY.defers = [] /\ ∀ v' : Value, LeavesInM (FW none) 0 P fn a'.tmps (dV post w ρ) [] (settle (.panicking [{ v := .iface t v, recovered := true }])) wY))
     (λe aY wY=>(e= .normal\/e= .ret)/\aY.defers=[]/\ ∀v':Value,LeavesInM (FW none) 0 P fn a'.tmps (dV post w ρ) [] (settle (.panicking [{ v:= .iface t v,recovered:=true }])) wY)) rfl
    (λfr2 hp2 a2 w2 hk2 hs2=>wpIn_region (f2 fr2 hp2 a2 w2 hk2 hs2)) (λ_ _ _ _ _ _ hk=>hk.elim) o1.toList 0 _ _ _ _ rfl (hY hqq vx vy (lvx.trans lx)) sY
   exact mD f1
  cases e0<;>cases e<;>simp only [Ex.rel]at hrel<;>simp only [KX,mE]at hk
  ·exact fin hk
  ·exact hk.elim
  ·exact hk.elim
  ·exact fin hk
  ·exact finp _ hrel hk
 have s0:Sat ⟨w,ρ.S,λ_=>False,dL pin,ρ,none,[],0⟩ fn.ntmps ⟨dK 0 args,roH hp⟩ { tmps:=vs++Array.replicate (fn.ntmps - vs.size) undef,defers:=[] } w:=by
  refine⟨?_,rfl,ρ,hm,hfs⟩
  simp only [Array.size_append,Array.size_replicate]
  have:=hargs.1
  omega
 have:=fR (C:=⟨P,ti,dL pin,fn.ntmps,keep,0,none,zc,frz⟩) hti (all:=opsA.toList) (E:=⟨w,ρ.S,λ_=>False,dL pin,ρ,none,[],0⟩) (Q:=Exit.then ((Code.seq (.region j #[mk,df] false) B).wpIn (FW none) 0 P (bodyPostM (FW none) 0 P fn (dV post w ρ))) (bodyPostM (FW none) 0 P fn (dV post w ρ))) rfl (λfr hp a w hk hs=>key fr hp a w hk hs) (λ_ _ _ _ _ _ hk=>hk.elim) opsA.toList 0 _ _ _ _ rfl hA s0
 exact mD this
end
end
section
open Go.Proofs Go.RowKit
set_option maxRecDepth 10000
attribute [local irreducible] aH aF Tri aD YVC bO aP
theorem yZ {α:Type}{rd:Rd α}{wr:α->List UInt8×Int}{zero:α}{bad:Int}{b c:List UInt8}{x:α}(h:rd b=some (x,c)):vY rd wr zero bad b=if c=[]/\wr x=(b,0)then (x,0)else (zero,bad):=by
 unfold vY
 rw [h]
 cases c with
 |nil=>simp
 |cons _ _=>simp
theorem gQ {α:Type}{rd:Rd α}{wr:α->List UInt8×Int}{zero:α}{bad:Int}{b:List UInt8}(h:rd b=none):vY rd wr zero bad b=(zero,bad):=by
 unfold vY;rw [h]
theorem jB (a b:List UInt8):Tri Tryz.prog 57 [.d (.sl 1 (a.map bB)), .d (.sl 1 (b.map bB))] [] (λr=>r= .d (.bool (decide (a=b)))):=by
 have ha:=fJ a
 have hb:=fJ b
 refine qG [] hty Tryz.func57 [0,1,4] ?_
 ((conv=>whnf);repeat' ((first|(intro hq;(try simp only [lnS]at hq);(try rewrite [List.length_map]))|refine sJ ?_|refine qE_ ?_|refine exL (k:=?_)|refine dwR ?_|((first|refine aB ?_ ?_|refine aC ?_ ?_)<;>intro hb<;>(first|exact ddX hb|try simp only [lnS]at hb))|(refine aA ?_ ?_<;>intro hb<;>try exact dsX hb))<;>(conv=>whnf)))
 rw [ha,hb]
 rfl
theorem aC8 {α:Type}{l:List α}{n:Nat}(h:l.length=n+1): ∃c m,l=c::m/\m.length=n:=by
 cases l with
 |nil=>cases h
 |cons c m=>exact⟨c,m,rfl,by simpa using h⟩
end
section
open Go.Proofs Go.RowKit
set_option maxRecDepth 10000
attribute [local irreducible] aH aF Tri aD YVC bO aP
def qy0:Qy:=⟨[],[]⟩
theorem vX (wr:Qy->List UInt8×Int) (bs:List UInt8) (hb:bs.length<=1000000) (hwr: ∀x c,rQy bs=some (x,c)->Tri Tryz.prog 46 [.d (.agg (qyR x))] [] (λr=>r= .tup [.d (.sl 1 ((wr x).1.map bB)), .d (.int .i64 (wr x).2)])):
  Tri Tryz.prog 136 [.d (.sl 1 (bs.map bB)), .fn 137 [] [], .fn 46 [] []] [] (λr=> ∃x,x=(vY rQy wr qy0 280 bs).1/\r= .tup [.d (.agg (qyR x)), .d (.int .i64 (vY rQy wr qy0 280 bs).2)]):=by
 have hlb:=jV bs
 have hsl:List.drop 0 (List.take (((bs.map bB).length:Nat):Int).toNat (bs.map bB))=bs.map bB:=by rw [List.drop_zero,Int.toNat_natCast,List.take_of_length_le (Nat.le_refl _)]
 refine Tri.says ?_
 refine aKn false [] hty Tryz.func136 rfl Tryz.func181 rfl rfl rfl rfl rfl rfl rfl (by kernel_rfl) (by decide) (by decide) (by decide) (by decide) rfl (by kernel_rfl) (ms:= #[]) (d:=11) (x:=6) (y:=7) (tx:=56) (ty:=27) rfl rfl rfl rfl rfl rfl (by decide) (by decide) (kp [0,1,2,6,7,8,9,10,44]) (kp [0,1,2,4]) [] _ _ _ 2 (vY rQy wr qy0 280 bs=(qy0,280)) (by simp [Tryz.f136]) (by decide) ?_ ?_
 ·((conv=>whnf);repeat ((first |(intro hq;try simp only [lnS]at hq)|refine sI ?_|refine qE_ ?_);conv=>whnf))
  rw [hsl]
  refine RdT.call aL4 rfl (λ_=>rfl) bs hb rfl (λx c e1=> ?_) (λe1 b=>⟨gQ e1,rfl,rfl,⟨_,rfl,rfl⟩,_,rfl⟩)
  have hw:=hwr x c e1
  have hd:=yZ (wr:=wr) (zero:=qy0) (bad:=280) e1
  generalize vY rQy wr qy0 280 bs=res at *
  generalize wr x=ae at *
  obtain⟨a,e⟩:=ae
  have heq:=jB a bs
  obtain⟨tl,pl⟩:=x
  ((conv=>whnf);repeat ((first|refine qT hw ?_ |(intro hq;try simp only [lnS]at hq)|refine sI ?_|refine qE_ ?_);conv=>whnf))
  refine aC (λh2=> ?_) (λh2=> ?_)
  ·have hr:res=(qy0,280):=by rw [hd,if_neg];rintro⟨_,h⟩;injection h with h3 h4;exact h2 h4
   ((conv=>whnf);repeat ((first|(refine kP hty rfl (by with_unfolding_all exact rfl) rfl rfl ?_) |(intro hq;try simp only [lnS]at hq)|refine sI ?_|refine qE_ ?_);conv=>whnf))
   exact⟨⟨_,rfl,rfl⟩,_,rfl⟩
  have h2:e=0:=by simpa using h2
  subst h2
  ((conv=>whnf);repeat ((first |(intro hq;try simp only [lnS]at hq)|refine sI ?_|refine qE_ ?_);conv=>whnf))
  refine aB (λh3=> ?_) (λh3=> ?_)
  ·have hr:res=(qy0,280):=by rw [hd,if_neg];rintro⟨h,_⟩;subst h;simp at h3
   ((conv=>whnf);repeat ((first|(refine kP hty rfl (by with_unfolding_all exact rfl) rfl rfl ?_) |(intro hq;try simp only [lnS]at hq)|refine sI ?_|refine qE_ ?_);conv=>whnf))
   exact⟨⟨_,rfl,rfl⟩,_,rfl⟩
  have h3:c=[]:=by
   rw [jV]at h3
   exact List.length_eq_zero_iff.1 (by omega)
  subst h3
  ((conv=>whnf);repeat ((first|refine qT heq ?_ |(intro hq;try simp only [lnS]at hq)|refine sI ?_|refine qE_ ?_);conv=>whnf))
  by_cases h4:a=bs
  ·subst h4
   rw [decide_eq_true rfl]
   rw [if_pos ⟨rfl,rfl⟩]at hd
   subst hd
   ((conv=>whnf);repeat ((first |(intro hq;try simp only [lnS]at hq)|refine sI ?_|refine qE_ ?_);conv=>whnf))
   exact⟨_, .refl _,_,rfl,rfl⟩
  ·have hr:res=(qy0,280):=by rw [hd,if_neg];rintro⟨_,h⟩;injection h with h5 h6;exact h4 h5
   rw [decide_eq_false h4]
   ((conv=>whnf);repeat ((first|(refine kP hty rfl (by with_unfolding_all exact rfl) rfl rfl ?_) |(intro hq;try simp only [lnS]at hq)|refine sI ?_|refine qE_ ?_);conv=>whnf))
   exact⟨⟨_,rfl,rfl⟩,_,rfl⟩
 ·intro hr vx vy hcx
  rw [hr]
  obtain⟨s0,vx0,rfl,h0x⟩:=aC8 hcx
  obtain⟨s1,vx1,rfl,h1x⟩:=aC8 h0x
  obtain rfl:=List.length_eq_zero_iff.1 h1x
  ((conv=>whnf);repeat ((first |(intro hq;try simp only [lnS]at hq)|refine sI ?_|refine qE_ ?_);conv=>whnf))
  exact⟨_,cE.pair (cE.wkd qB),_,rfl,rfl⟩
theorem sC (wr:Qy->List UInt8×Int) (bs:List UInt8) (hb:bs.length<=1000000) (hwr: ∀x c,rQy bs=some (x,c)->Tri Tryz.prog 46 [.d (.agg (qyR x))] [] (λr=>r= .tup [.d (.sl 1 ((wr x).1.map bB)), .d (.int .i64 (wr x).2)])):
  Tri Tryz.prog 87 [.d (.sl 1 (bs.map bB))] [] (λr=> ∃x,x=(vY rQy wr qy0 280 bs).1/\r= .tup [.d (.agg (qyR x)), .d (.int .i64 (vY rQy wr qy0 280 bs).2)]):=by
 have hd:=vX wr bs hb hwr
 generalize vY rQy wr qy0 280 bs=res at *
 refine qG [] hty Tryz.func87 [0,2,3] ?_
 ((conv=>whnf);repeat ((first |(intro hq;try simp only [lnS]at hq)|refine sI ?_|refine qE_ ?_);conv=>whnf))
 refine bP [] hd trivial (λr hs=> ?_)
 obtain⟨x,hx0,rfl⟩:=hs
 obtain⟨tl,pl⟩:=x
 ((conv=>whnf);repeat ((first |(intro hq;try simp only [lnS]at hq)|refine sI ?_|refine qE_ ?_);conv=>whnf))
 rw [<-hx0]
 rfl
end
section
open Go.Proofs
theorem aH.mid {C:Cfg}{c:Code}{fr:Fr}{hp:Hp}{K:Ex->Fr->Hp->Prop}(FR:Fr) (HP:Hp) (h:aH C c fr hp (λe fr' hp'=>e= .normal/\Sub fr' hp' FR HP)) (hk:K .normal FR HP):aH C c fr hp K:=
 λE a w hpin hrd hsat=>wpIn_mono (h E a w hpin hrd hsat) λ_ _ _ ⟨x,fr',hp',E',h0,h1,h2,h3⟩=>by
  cases x with
  |pan=>exact⟨.pan,fr',hp',E',h0,h1,h2,h3⟩
  |normal=>obtain⟨_,hs⟩:=h2;exact⟨.normal,FR,HP,E',h0,h1,hk,h3.sub hs⟩
  |_=>obtain⟨e,_⟩:=h2;cases e
end
section
open Go.Proofs
section
variable {P:Program}
def wpS (P:Program) (ops:Array Oper) (Q:Act->World->Prop):Nat->(World->Prop)->Array Bool->Act->World->Prop
 | 0,_,listed,a,w=>Region.ready .any ops listed=[]/\Q a w
 |fuel+1,Cl,listed,a,w=>
  (Region.ready .any ops listed=[]->Q a w)/\
  ∀i∈Region.ready .any ops listed,
   match ops[i]? with
   |none=>wpS P ops Q fuel Cl (listed.setIfInBounds i true) a w
   |some o=>
    if Region.wanted o (yielded ops a.tmps)then
     o.wp P a w (λa' w'=>Cl w'/\wpS P ops Q fuel Cl (listed.setIfInBounds i true) a' w') noX
    else wpS P ops Q fuel Cl (listed.setIfInBounds i true) (a.put o.dst undef) w
theorem gS {ops:Array Oper}{Q Q':Act->World->Prop}(hQ: ∀a w,Q a w->Q' a w): ∀(fuel:Nat) (Cl Cl':World->Prop) (listed:Array Bool) (a:Act) (w:World),(∀w,Cl' w->Cl w)->wpS P ops Q fuel Cl' listed a w->wpS P ops Q' fuel Cl listed a w:=by
 intro fuel
 induction fuel with
 |zero=>intro Cl Cl' listed a w _ h;exact⟨h.1,hQ _ _ h.2⟩
 |succ fuel ih=>
  intro Cl Cl' listed a w hc h
  refine⟨λh0=>hQ _ _ (h.1 h0),λi hi=> ?_⟩
  have:=h.2 i hi
  split
  ·rename_i ho;simp only [ho]at this;exact ih _ _ _ _ _ hc this
  ·rename_i o ho
   simp only [ho]at this
   split
   ·rename_i hw
    simp only [hw,if_true]at this
    exact oN (λa' w' hk=>⟨hc _ hk.1,ih _ _ _ _ _ hc hk.2⟩) this
   ·rename_i hw;simp only [hw]at this;exact ih _ _ _ _ _ hc this
theorem jD {ops:Array Oper}{Q:Exit->Act->World->Prop}: ∀(fuel:Nat) (Cl:World->Prop) (listed:Array Bool) (a:Act) (w:World),wpS P ops (Q .normal) fuel Cl listed a w->wpAny P .any ops Q fuel listed a w:=by
 intro fuel
 induction fuel with
 |zero=>intro Cl listed a w h;exact h
 |succ fuel ih=>
  intro Cl listed a w h
  refine⟨h.1,λi hi=> ?_⟩
  have:=h.2 i hi
  unfold wpOp
  split
  ·rename_i ho;simp only [ho]at this;exact ih _ _ _ _ this
  ·rename_i o ho
   simp only [ho]at this
   split
   ·rename_i hw
    simp only [hw,if_true]at this
    left
    exact oN (λa' w' hk=>ih _ _ _ _ hk.2) this
   ·rename_i hw;simp only [hw]at this;exact ih _ _ _ _ this
def YS (P:Program) (ops:Array Oper) (Cl:World->Prop) (o:Oper) (v:Value) (a:Act):Prop:=
 (Region.wanted o (yielded ops a.tmps)=true/\ ∀w,Cl w->(execOp a.eval o).run P w= .ok (.value v) w)\/(Region.wanted o (yielded ops a.tmps)=false/\v=undef)
theorem YS.of_same {ops:Array Oper}{Cl:World->Prop}{o:Oper}{v:Value}{a a':Act}(hy:YS P ops Cl o v a) (he:execOp a'.eval o=execOp a.eval o)
  (hw:Region.wanted o (yielded ops a'.tmps)=Region.wanted o (yielded ops a.tmps)):YS P ops Cl o v a':=by
 unfold YS at *
 rw [he,hw]
 exact hy
theorem gH {ops:Array Oper}{Q:Act->World->Prop}{i:Nat}{oi:Oper}{v:Value}(hi:ops[i]? =some oi) (hsel:Region.noSelect ops=true):
  ∀(fuel:Nat) (Cl:World->Prop) (listed:Array Bool) (a:Act) (w:World),Cl w->
   (∀j oj,ops[j]? =some oj->j≠i->listed.getD j true=false->(∀e∈oj.after,Region.binds .any e=true->e.on≠i)->oi.apart ops oj=true)->
   i∈Region.ready .any ops listed->YS P ops Cl oi v a->
   wpS P ops Q fuel Cl (listed.setIfInBounds i true) (a.put oi.dst v) w->wpS P ops Q (fuel+1) Cl listed a w:=by
 have own: ∀(fuel:Nat) (Cl:World->Prop) (listed:Array Bool) (a:Act) (w:World),Cl w->YS P ops Cl oi v a->wpS P ops Q fuel Cl (listed.setIfInBounds i true) (a.put oi.dst v) w->
   (match ops[i]? with
   |none=>wpS P ops Q fuel Cl (listed.setIfInBounds i true) a w
   |some o=>if Region.wanted o (yielded ops a.tmps)then o.wp P a w (λa' w'=>Cl w'/\wpS P ops Q fuel Cl (listed.setIfInBounds i true) a' w') noX
    else wpS P ops Q fuel Cl (listed.setIfInBounds i true) (a.put o.dst undef) w):=by
  intro fuel Cl listed a w hc hy H
  simp only [hi]
  rcases hy with⟨hw,hrun⟩|⟨hw,rfl⟩
  ·simp only [hw,if_true]
   exact bN (hrun w hc) ⟨hc,H⟩
  ·simp only [hw,Bool.false_eq_true,if_false];exact H
 intro fuel
 induction fuel with
 |zero=>
  intro Cl listed a w hc _ hr hy H
  refine⟨λh=>(by rw [h]at hr;cases hr),λj hj=> ?_⟩
  by_cases hji:j=i
  ·subst hji;exact own 0 Cl listed a w hc hy H
  ·have:=ready_mono hj hji
   rw [H.1]at this
   cases this
 |succ fuel ih=>
  intro Cl listed a w hc hfree hr hy H
  refine⟨λh=>(by rw [h]at hr;cases hr),λj hj=> ?_⟩
  by_cases hji:j=i
  ·subst hji;exact own _ Cl listed a w hc hy H
  ·have h1:=H.2 j (ready_mono hj hji)
   obtain⟨hjun,oj,hoj,hall⟩:=mem_ready.1 hj
   have hnot: ∀e∈oj.after,Region.binds .any e=true->e.on≠i:= λe he hb heq=>by
    have h1:=hall e he hb
    have h0:=(mem_ready.1 hr).1
    rw [heq]at h1
    rcases Nat.lt_or_ge i listed.size with h'|h'
    ·simp [h']at h0 h1;rw [h0]at h1;cases h1
    ·simp [Array.getElem?_eq_none h']at h1
   obtain⟨p1,p2,p3⟩:=Oper.apart_spec (hfree j oj hoj hji hjun hnot)
   have si:= λcs b=>Region.noSelect_spec hsel i oi cs b hi
   have sj:= λcs b=>Region.noSelect_spec hsel j oj cs b hoj
   have keepY:YS P ops Cl oi v a-> ∀u,YS P ops Cl oi v (a.put oj.dst u):= λhy u=>hy.of_same (execOp_put oi si a oj.dst u p3) (wanted_put oi a oj.dst u p3)
   have hfree': ∀k ok,ops[k]? =some ok->k≠i->(listed.setIfInBounds j true).getD k true=false->
     (∀e∈ok.after,Region.binds .any e=true->e.on≠i)->oi.apart ops ok=true:= λk ok hk hki hun hno=>by
    refine hfree k ok hk hki ?_ hno
    by_cases hjk:j=k
    ·subst hjk;exact hjun
    ·rw [getD_set_ne true hjk]at hun;exact hun
   have hrj:=ready_mono hr (Ne.symm hji)
   simp only [hoj]at h1 |-
   rw [wanted_put oj a oi.dst v p1]at h1
   split
   ·rename_i hw
    simp only [hw,if_true]at h1
    have h2:oj.wp P a w (λa' w'=>(Cl w'/\wpS P ops Q fuel Cl ((listed.setIfInBounds i true).setIfInBounds j true) (a'.put oi.dst v) w')) noX:=by
     unfold Oper.wp at h1 |-
     rw [execOp_put oj sj a oi.dst v p1]at h1
     exact aB1 (K:= λa' w'=>Cl w'/\wpS P ops Q fuel Cl ((listed.setIfInBounds i true).setIfInBounds j true) a' w') p2 h1
    have h3:oj.wp P a w (λa' w'=>YS P ops Cl oi v a'/\(Cl w'/\wpS P ops Q fuel Cl ((listed.setIfInBounds i true).setIfInBounds j true) (a'.put oi.dst v) w')) noX:=by
     have hput: ∀u,YS P ops Cl oi v (a.put oj.dst u):= λu=>keepY hy u
     unfold Oper.wp at h2 |-
     generalize (execOp a.eval oj).run P w=r at h2
     cases r with
     |ok n w'=>
      cases n<;>simp only [Oper.upon]at h2 |-
      all_goals first
       |exact⟨hput _,h2⟩
       |exact h2.elim
       |exact Calls.mono h2 (λe w'' he=>by cases e<;>first|exact⟨hput _,he⟩|exact he)
       |exact Rows.mono h2 (λ_ _ he=>⟨hput _,he⟩)
       |exact⟨(keepY hy undef).of_same (by cases oj.dst<;>rfl) (by cases oj.dst<;>rfl),h2⟩
       |exact h2
     |halt x w'=>cases x<;>simp only [Oper.upon]at h2 |-<;>exact h2
    refine oN (λa' w' ⟨hyk,hk⟩=> ?_) h3
    refine⟨hk.1,ih Cl (listed.setIfInBounds j true) a' w' hk.1 hfree' hrj hyk ?_⟩
    rw [Array.setIfInBounds_comm _ _ hji];exact hk.2
   ·rename_i hw
    simp only [hw]at h1
    refine ih Cl (listed.setIfInBounds j true) (a.put oj.dst undef) w hc hfree' hrj (keepY hy undef) ?_
    rw [Array.setIfInBounds_comm _ _ hji,<-Act.put_comm a v _ p2]
    simpa using h1
def kA (ops:Array Oper):OT->Array Bool->Bool->Bool
 | .done,listed,inn=> !inn && (Region.ready .any ops listed).isEmpty
 | .stop,_,inn=>inn
 | .first i t, listed, inn => !inn && (match ops[i]? with
   |some o=>decide (kd o.op<=1) && (Region.ready .any ops listed).contains i && Region.free .any ops listed i && kA ops t (listed.setIfInBounds i true) false
   |none=>false)
 | .alt i t r,listed,inn=>(inn || (!(Region.ready .any ops listed).isEmpty && (Region.ready .any ops listed).all λj=>(i::r.heads).contains j)) && (ops[i]?).isSome && kA ops t (listed.setIfInBounds i true) false && kA ops r listed true
def dO (C:Cfg) (all:List Oper) (K:Fr->Hp->Prop):OT->Fr->Hp->Prop
 | .done,fr,hp=>iU C.keep fr λfr'=>K fr' hp
 | .stop,_,_=>True
 | .first i t,fr,hp=>yV C all i fr [] λfr' _=>dO C all K t fr' hp
 | .alt i t r,fr,hp=>aJe C all i fr hp (λfr' hp'=>dO C all K t fr' hp')/\dO C all K r fr hp
def aJi (C:Cfg) (all:List Oper) (R:Act->World->Prop) (fuel:Nat) (Cl:World->Prop) (listed:Array Bool) (a:Act) (w:World) (i:Nat):Prop:=
 match all.toArray[i]? with
 |none=>wpS C.P all.toArray R fuel Cl (listed.setIfInBounds i true) a w
 |some o=>
  if Region.wanted o (yielded all.toArray a.tmps)then
   o.wp C.P a w (λa' w'=>Cl w'/\wpS C.P all.toArray R fuel Cl (listed.setIfInBounds i true) a' w') noX
  else wpS C.P all.toArray R fuel Cl (listed.setIfInBounds i true) (a.put o.dst undef) w
theorem oP {C:Cfg}(hti:cG C.P C.ti) {all:List Oper}{K:Fr->Hp->Prop}(hsel:Region.noSelect all.toArray=true):
  ∀(T:OT) (fuel:Nat) (listed:Array Bool) (fr:Fr) (hp:Hp) (ρ:Env) (a:Act) (w:World) (E:Entry),E.pin=C.pin->E.w=w->E.S=ρ.S->dO C all K T fr hp->Mem E ρ hp w->a.tmps.size=C.nt->a.defers=(E.D.take E.k).map tZ++E.pin.pre->bW ρ w fr a.tmps->
  (kA all.toArray T listed false=true->T.depth<=fuel->wpS C.P all.toArray (λa w=> ∃fr hp,K fr hp/\Sat E C.nt ⟨fr,hp⟩ a w) fuel (bL ρ.S w) listed a w)/\
  (∀inn,kA all.toArray T listed inn=true->T.depth<=fuel+1-> ∀i∈T.heads,aJi C all (λa w=> ∃fr hp,K fr hp/\Sat E C.nt ⟨fr,hp⟩ a w) fuel (bL ρ.S w) listed a w i):=by
 intro T
 induction T with
 |done=>
  intro fuel listed fr hp ρ a w E hpin hEw hES h hm h1 h2 h3
  refine⟨λhB _=> ?_,λ_ _ _ i hi=>by simp [OT.heads]at hi⟩
  simp only [kA,Bool.not_false,Bool.true_and,List.isEmpty_iff]at hB
  simp only [dO,fO]at h
  have hq: ∃fr hp,K fr hp/\Sat E C.nt ⟨fr,hp⟩ a w:=⟨_,hp,h,h1,h2,ρ,hm,λt s hts=>h3 t s (eE _ _ t s hts)⟩
  cases fuel with
  |zero=>exact⟨hB,hq⟩
  |succ n=>exact⟨λ_=>hq,λi hi=>by rw [hB]at hi;cases hi⟩
 |stop=>
  intro fuel listed fr hp ρ a w E hpin hEw hES h hm h1 h2 h3
  exact⟨λhB=>by simp [kA]at hB,λ_ _ _ i hi=>by simp [OT.heads]at hi⟩
 |first i t ih=>
  intro fuel listed fr hp ρ a w E hpin hEw hES h hm h1 h2 h3
  refine⟨λhB hd=> ?_,λ_ _ _ i hi=>by simp [OT.heads]at hi⟩
  simp only [dO,yV]at h
  split at h
  ·rename_i o ho
   have ho':all.toArray[i]? =some o:=by simpa using ho
   simp only [kA,ho',Bool.not_false,Bool.true_and,Bool.and_eq_true,decide_eq_true_eq,List.contains_iff_mem]at hB
   obtain⟨⟨⟨hk,hr⟩,hf⟩,hB⟩:=hB
   simp only [OT.depth]at hd
   obtain⟨fuel,rfl⟩: ∃n,fuel=n+1:=⟨fuel - 1,by omega⟩
   have hm0:Mem E ρ [] w:=hm.sub (λid o ho=>by simp [aM]at ho)
   obtain⟨fr0,h3,hh⟩:=cC h h3
   rcases hh with⟨hw,h⟩|⟨hw,h⟩
   ·rcases aNq hti h with⟨_,hd',_⟩|⟨hk',_⟩|⟨hk',_⟩
    ·obtain⟨v,s,q1,q2,q3⟩:=hd' E ρ a w hm0 h3
     obtain⟨fr',p1,p2⟩:=cN q3 h1 h3 q2
     exact gH ho' hsel fuel _ listed a w (λ_ _ _=>rfl) (Region.free_spec ho' hf) hr (v:=v) (.inl ⟨hw,λw' hw'=>q1 w' ⟨hw',λid x g hx=>by simp [aM]at hx⟩⟩)
      ((ih fuel _ fr' hp ρ _ w E hpin hEw hES p1 hm (by rw [aU];exact h1) (by rw [put_defers];exact h2) p2).1 hB (by omega))
    ·omega
    ·omega
   ·obtain⟨fr',p1,p2⟩:=cN h h1 h3 (Rep.d _ undef (.lit undef))
    exact gH ho' hsel fuel _ listed a w (λ_ _ _=>rfl) (Region.free_spec ho' hf) hr (v:=undef) (.inr ⟨hw,rfl⟩) ((ih fuel _ fr' hp ρ _ w E hpin hEw hES p1 hm (by rw [aU];exact h1) (by rw [put_defers];exact h2) p2).1 hB (by omega))
  ·exact h.elim
 |alt i t r iht ihr=>
  intro fuel listed fr hp ρ a w E hpin hEw hES h hm h1 h2 h3
  have key: ∀inn,kA all.toArray (.alt i t r) listed inn=true-> ∀n,(OT.alt i t r).depth<=n+1-> ∀j∈(OT.alt i t r).heads,aJi C all (λa w=> ∃fr hp,K fr hp/\Sat E C.nt ⟨fr,hp⟩ a w) n (bL ρ.S w) listed a w j:=by
   intro inn hB n hd j hj
   simp only [kA,Bool.and_eq_true]at hB
   obtain⟨⟨⟨_,hsome⟩,hBt⟩,hBr⟩:=hB
   simp only [OT.depth]at hd
   simp only [dO]at h
   simp only [OT.heads,List.mem_cons]at hj
   rcases hj with rfl|hj
   ·have h:=h.1
    unfold aJe at h
    split at h
    ·rename_i o ho
     have ho':all.toArray[j]? =some o:=by simpa using ho
     unfold aJi
     simp only [ho']
     obtain⟨fr0,h3,hh⟩:=cC h h3
     rcases hh with⟨hw,h⟩|⟨hw,h⟩
     ·rw [if_pos hw]
      refine aPg hti h E ρ a w hpin hm h3 _ noX λv w' ρ' s hp' k1 k2 k3 k4=> ?_
      obtain⟨fr',p1,p2⟩:=cN k1 h1 k3 k4
      have hkp:bL ρ.S w w':=by have:=k2.kp;rwa [hEw,hES]at this
      have hso: ∀b i,ρ.S b i->ρ'.S b i:=by have:=k2.sold;rwa [hES]at this
      refine⟨hkp, ?_⟩
      have hm2:Mem { aV w' ρ' hp' E.pin E.rd E.D with k:=E.k } ρ' hp' w':=by
       have:=k2.enter E.pin E.rd
       exact⟨this.os,this.tape,this.output,this.size,this.old,this.sold,this.snew,this.slt,this.kp,this.sat,this.inj,this.hb,this.mv,this.ro,this.md⟩
      have:=(iht n _ fr' hp' ρ' _ w' { aV w' ρ' hp' E.pin E.rd E.D with k:=E.k } hpin rfl rfl p1 hm2 (by rw [aU];exact h1) (by rw [put_defers];exact h2) p2).1 hBt (by omega)
      refine gS ?_ _ _ _ _ _ _ (λw2 hw2=>hkp.trans hso hw2) this
      rintro a3 w3 ⟨fr3,hp3,q1,q2,q3,ρ3,q4,q5⟩
      exact⟨fr3,hp3,q1,q2,q3,ρ3,k2.leave (pin:=E.pin) (rd:=E.rd) q4 ⟨rfl,rfl,rfl,rfl,rfl,λb hb=>hb⟩ (λid hid=>hid),q5⟩
     ·rw [if_neg (by rw [hw];decide)]
      obtain⟨fr',p1,p2⟩:=cN h h1 h3 (Rep.d _ undef (.lit undef))
      exact(iht n _ fr' hp ρ _ w E hpin hEw hES p1 hm (by rw [aU];exact h1) (by rw [put_defers];exact h2) p2).1 hBt (by omega)
    ·exact h.elim
   ·exact(ihr n listed fr hp ρ a w E hpin hEw hES h.2 hm h1 h2 h3).2 true hBr (by omega) j hj
  refine⟨λhB hd=> ?_,λinn hB hd=>key inn hB fuel hd⟩
  have hd':=hd
  simp only [OT.depth]at hd'
  obtain⟨fuel,rfl⟩: ∃n,fuel=n+1:=⟨fuel - 1,by omega⟩
  have hc:=hB
  simp only [kA,Bool.false_or,Bool.and_eq_true,Bool.not_eq_true',List.all_eq_true,List.contains_iff_mem]at hc
  obtain⟨⟨⟨⟨hne,hcov⟩,_⟩,_⟩,_⟩:=hc
  refine⟨λh0=> ?_,λj hj=> ?_⟩
  ·rw [h0]at hne;cases hne
  ·exact key false hB fuel hd j (hcov j hj)
theorem bI {C:Cfg}(hti:cG C.P C.ti) {id:Nat}{l:List Oper}{fr:Fr}{hp:Hp}{K:Ex->Fr->Hp->Prop}(T:OT) (hm:C.P.follows .mixedOrders=true)
  (hB:(decide (T.depth<=l.length) && Region.noSelect l.toArray && kA l.toArray T (Array.replicate l.length false) false && eZ l)=true) (h:dO C l (K .normal) T fr hp):aH C (.region id l.toArray true) fr hp K:=by
 intro E a w hpin hrd ⟨h1,h2,ρ,h3,h4⟩
 simp only [Bool.and_eq_true,decide_eq_true_eq]at hB
 obtain⟨⟨⟨b1,b2⟩,b3⟩,hnd⟩:=hB
 refine cH hm hnd fV.noOut ?_
 obtain⟨m1,m2⟩:=h3.grow_same (Grew.drew w)
 generalize hw1:w.drew=w1 at *
 have hm2:Mem { aV w1 ρ hp E.pin E.rd E.D with k:=E.k } ρ hp w1:=by
  have:=m1.enter E.pin E.rd
  exact⟨this.os,this.tape,this.output,this.size,this.old,this.sold,this.snew,this.slt,this.kp,this.sat,this.inj,this.hb,this.mv,this.ro,this.md⟩
 have:=(oP (C:=C) hti b2 T l.length (Array.replicate l.length false) fr hp ρ a w1 { aV w1 ρ hp E.pin E.rd E.D with k:=E.k } hpin rfl rfl h hm2 h1 h2 (m2 fr _ h4)).1 b3 b1
 have h5:=jD (Q:=fV C E K) _ _ _ _ _ (gS (Q':=fV C E K .normal) (λa w ⟨fr',hp',k1,q2,q3,ρ3,q4,q5⟩=>⟨.normal,fr',hp',E, .refl E,trivial,k1,q2,q3,ρ3,m1.leave (pin:=E.pin) (rd:=E.rd) q4 ⟨rfl,rfl,rfl,rfl,rfl,λb hb=>hb⟩ (λid hid=>hid),q5⟩) _ _ _ _ _ _ (λ_ h=>h) this)
 have e:l.toArray.size=l.length:=by simp
 rw [e]
 subst hw1
 exact h5
end
end
section
open Go.Proofs
theorem Mem.froze {E:Entry}{ρ:Env}{hp hp':Hp}{w:World}(h:Mem E ρ hp w) {id e z cap:Nat}{rows:List (List D)}(ho:aM hp id=some (.mrow e z cap rows)) (hsub:sA hp' hp) (hno:aM hp' id=none):
  ∃S':Nat->Nat->Prop,(∀b i,ρ.S b i->S' b i)/\Mem E (ρ.withS S') hp' w/\RepD w S' (.sl z rows) (ρ.tv id):=by
 have hat: ∀b,dM (ρ.tv id)=some b->ρ.at id (.mrow e z cap rows)=some b:= λb hb=>hb
 have hs0: ∀i o,aM hp' i=some o->aM hp i=some o:=eV _ _ hsub
 have hne: ∀i o,aM hp' i=some o->i≠id:= λi o hi e=>by rw [e,hno]at hi;cases hi
 refine⟨λb i=>ρ.S b i\/(dM (ρ.tv id)=some b/\i < rows.length * z),λb i hs=> .inl hs, ?_, ?_⟩
 ·refine⟨h.os,h.tape,h.output,h.size,h.old,λb i hs=> .inl (h.sold b i hs), ?_, ?_,h.kp, ?_,λi o i' o' g hi hi'=>h.inj i o i' o' g (hs0 i o hi) (hs0 i' o' hi'),λi o g hi=>h.hb i o g (hs0 i o hi),λi hi=>Env.moved_trans (h.mv i hi) (ρ.moved_withS _ i), ?_,h.md⟩
  ·rintro b i (hs|⟨hb,_⟩) hlt hB
   ·exact h.snew b i hs hlt hB
   ·rcases h.hb id _ b ho (hat b hb)with h1|h1
    ·omega
    ·exact absurd h1 hB
  ·rintro b i (hs|⟨hb,_⟩)
   ·exact h.slt b i hs
   ·exact h.blk_lt ho (hat b hb)
  ·intro i o hi
   refine(h.sat i o (hs0 i o hi)).keep (λ_ _ _=>rfl) (λb i hs=> .inl hs) (λi _=>ρ.moved_withS _ i) ⟨rfl,rfl⟩ (λg _=>rfl) ?_
   rintro g hg j (hs|⟨hb,_⟩)
   ·exact hs
   ·exact absurd (h.inj i o id _ g (hs0 i o hi) ho hg (hat g hb)) (hne i o hi)
  ·intro i oR g hi hrd hg i' o' hi'
   exact h.ro i oR g (hs0 _ _ hi) hrd hg i' o' (hs0 _ _ hi')
 ·obtain⟨_,h2⟩:=h.sat id _ ho
  rcases h2 with⟨rfl,_,A,e1⟩|⟨hc,g,cur,e1,q1,q2,q3,q4,q6,q7⟩
  ·rw [e1]
   exact RepD.mk_sl (b:=0) (off:=0) (by simp) (by simp) (λhne=>absurd rfl hne) ⟨by simp,by simp⟩ (by simp)
  ·have hb:dM (ρ.tv id)=some g:=by
    rw [e1];have:cap≠0:=by omega
    simp [dM,this]
   have key:RepD w (λb i=>ρ.S b i\/(dM (ρ.tv id)=some b/\i < rows.length * z)) (.sl z rows) (.slice (some ⟨g,0,none⟩) rows.length cap):=by
    refine RepD.mk_sl (b:=g) (off:=0) q2 q3 (λ_=>rfl) ?_ rfl
    refine q6.view (λk v hv=> ?_) (λk hk=> ?_) (λx v hx=>hx.mono (λ_ _ _=>rfl) λb i hs=> .inl hs)
    ·rw [Nat.zero_add,cell_of_row w g k cur e (0,0) q1]
     rw [List.getElem?_take]at hv
     split at hv
     ·simpa using hv
     ·cases hv
    ·rw [Nat.zero_add]
     right
     refine⟨hb, ?_⟩
     rw [q6.len]at hk;exact hk
   rw [e1]at key |-
   exact key
theorem aF.froz {P:Program}{pin:Pin}{fr:Fr}{hp hp':Hp}{f:FuncId}{asv:List SV}{K:SV->Hp->Prop}(j id:Nat) {e z cap n:Nat}{rows:List (List D)}(ho:aM hp id=some (.mrow e z cap rows)) (hn:n=rows.length) (hj:asv[j]? =some (.mw id z n))
  (hsub:sA hp' hp) (hno:aM hp' id=none) (h:aF P pin fr hp' f (asv.set j (.d (.sl z rows))) K):aF P pin fr hp f asv K:=by
 intro E ρ w tm hpin h3 h4 vs hargs
 obtain⟨S',s1,s2,s3⟩:=h3.froze ho hsub hno
 obtain⟨q1,_⟩:=h3.sat id _ ho
 refine h E _ w tm hpin s2 (h4.mono (λ_ _ _=>rfl) s1 λi _=>ρ.moved_withS S' i) vs ⟨by simpa using hargs.1, ?_⟩
 intro k s v hs hv
 by_cases e:j=k
 ·subst e
  have hjl:=(List.getElem?_eq_some_iff.1 hj).1
  rw [List.getElem?_set_self hjl]at hs
  injection hs with hs
  subst hs
  obtain⟨A,c,_,_,_,_,_,e2⟩:=(hargs.2 j _ v hj hv).mw_inv
  have:=e2 (hn.trans q1.symm)
  subst this
  exact .d _ _ s3
 ·rw [List.getElem?_set_ne e]at hs
  exact(hargs.2 k s v hs hv).mono (λ_ _ _=>rfl) s1 λi _=>ρ.moved_withS S' i
theorem aH.froz {C:Cfg}{c:Code}{fr:Fr}{hp hp':Hp}{K:Ex->Fr->Hp->Prop}(t id:Nat) {e z cap n:Nat}{rows:List (List D)}(ht:dE fr t=some (.mw id z n)) (ho:aM hp id=some (.mrow e z cap rows)) (hn:n=rows.length)
  (hsub:sA hp' hp) (hno:aM hp' id=none) (h:aH C c ((t, .d (.sl z rows))::fr) hp' K):aH C c fr hp K:=by
 intro E a w hpin hrd hsat
 obtain⟨h1,h2,ρ,h3,h4⟩:=hsat
 obtain⟨S',s1,s2,s3⟩:=h3.froze ho hsub hno
 obtain⟨q1,_⟩:=h3.sat id _ ho
 refine h E a w hpin hrd ⟨h1,h2,_,s2, ?_⟩
 intro k s hs
 simp only [dE]at hs
 by_cases e:t=k
 ·rw [if_pos e]at hs
  injection hs with hs
  subst hs;subst e
  obtain⟨v,hv,hr⟩:=h4 t _ ht
  obtain⟨A,c,_,_,_,_,_,e2⟩:=hr.mw_inv
  have:=e2 (hn.trans q1.symm)
  subst this
  exact⟨_,hv, .d _ _ s3⟩
 ·rw [if_neg e]at hs
  obtain⟨v,hv,hr⟩:=h4 k _ hs
  exact⟨v,hv,hr.mono (λ_ _ _=>rfl) s1 λi _=>ρ.moved_withS S' i⟩
end
section
open Go.RowKit
section
variable {P:Program}
def zJ:List SV->List SV->Prop
 | [],[]=>True
 |a::l,b::m=>cE a b/\zJ l m
 |_,_=>False
theorem zJ.at: ∀(l m:List SV),zJ l m->l.length=m.length/\ ∀(j:Nat) (a b:SV),l[j]? =some a->m[j]? =some b->cE a b
 | [],[],_=>⟨rfl,by simp⟩
 |a::l,b::m,h=>by
  obtain⟨h1,h2⟩:=zJ.at l m h.2
  refine⟨by simp [h1],λj x y hx hy=> ?_⟩
  cases j with
  |zero=>simp at hx hy;subst hx hy;exact h.1
  |succ j=>exact h2 j x y (by simpa using hx) (by simpa using hy)
theorem zJ.ok {w:World}{ρ:Env}{l m:List SV}{vs:Array Value}(h:zJ l m) (hv:bU w ρ l vs):bU w ρ m vs:=by
 obtain⟨h1,h2⟩:=zJ.at l m h
 refine⟨hv.1.trans h1,λj b v hb hx=> ?_⟩
 have hj:j < l.length:=by rw [h1];exact(List.getElem?_eq_some_iff.1 hb).1
 exact h2 j _ b (List.getElem?_eq_getElem hj) hb w ρ v (hv.2 j _ v (List.getElem?_eq_getElem hj) hx)
theorem Tri.args {f:FuncId}{xs bs:List SV}{hp:Hp}{post:SV->Prop}(h:Tri P f bs hp post) (hs:zJ xs bs):Tri P f xs hp post:=
 λw ρ vs a b c=>h w ρ vs a (hs.ok b) c
end
end
section
open Go.Proofs Go.RowKit
set_option maxRecDepth 10000
attribute [local irreducible] aH aF Tri aD YVC bO aP
end
section
open Go.Proofs Go.RowKit
set_option maxRecDepth 10000
attribute [local irreducible] aH aF Tri aD YVC bO aP
end
section
open Go.Proofs
def lU (s:List UInt8):Bool:=decide (2<=s.length) && (decide (s.length<=17) && (decide (s.head?=some 63) && ((s.drop 1).headD 0 |>kJ) && (s.drop 2).all bX))
def wK (s:List UInt8):Bool:=cQ s && !decide (s.head?=some 95)
def dJ (s:List UInt8):Bool:=lU s || wK s
def atE (a:At):Int:=
 if a.kind < 1\/3 < a.kind then 210
 else if (a.kind≠2/\a.y≠[])\/(a.kind≠3/\(a.lo≠0\/a.hi≠0))then 210
 else if a.lo < -1099511627776\/a.hi < a.lo\/1099511627776 < a.hi then 210
 else if wK a.name=false then 20
 else if dJ a.x=false then 20
 else if a.kind=2/\dJ a.y=false then 20 else 0
def bS:List At->Int
 | []=>0
 |a::r=>if atE a≠0 then atE a else bS r
def aS (s:List UInt8):Bool:=decide (s.head?=some 63)
def bQ (p:List At):List (List UInt8):=(p.flatMap λa=>[a.x,a.y]).filter aS
def oQ (told:List (List UInt8)) (parts:List (List At)):Int:=
 if told.any (λt=> !lU t)then 20
 else if (List.range told.length).any (λi=>(told.take i).contains (told.getD i []) || parts.any (λp=> !(bQ p).contains (told.getD i [])))then 210 else 0
def qE (q:Qy):Int:=
 if q.parts.length < 1\/4 < q.parts.length\/3 < q.told.length then 210
 else if q.parts.any (λp=>decide (p.length < 1) || decide (12 < p.length))then 210
 else if bS q.parts.flatten≠0 then bS q.parts.flatten
 else if oQ q.told q.parts≠0 then oQ q.told q.parts
 else if q.parts.any (λp=>decide (8 < (bQ p).eraseDups.length))then 210 else 0
def aDp (q:Qy):List UInt8×Int:=if qE q=0 then (wQy q,0)else ([],qE q)
theorem aB0 {s:List UInt8}(h:lU s=true):s.length<=17:=by
 unfold lU at h
 simp only [Bool.and_eq_true,decide_eq_true_eq]at h
 exact h.2.1
theorem aBz {s:List UInt8}(h:wK s=true):s.length<=24:=by
 unfold wK at h
 rw [Bool.and_eq_true]at h
 exact xZ h.1
theorem xC {s:List UInt8}(h:dJ s=true):s.length<=24:=by
 unfold dJ at h
 rcases Bool.or_eq_true_iff.1 h with h|h
 ·have:=aB0 h;omega
 ·exact aBz h
theorem eF: ∀(l:List At),bS l=0↔ ∀a∈l,atE a=0
 | []=>by simp [bS]
 |a::r=>by
  rw [bS]
  by_cases h:atE a≠0
  ·rw [if_pos h]
   exact⟨λe=>absurd e h,λe=>absurd (e a (List.mem_cons_self ..)) h⟩
  ·rw [if_neg h,eF r]
   have h:=Decidable.not_not.1 h
   refine⟨λe b hb=> ?_,λe b hb=>e b (List.mem_cons_of_mem _ hb)⟩
   rcases List.mem_cons.1 hb with hb|hb
   ·rw [hb];exact h
   ·exact e b hb
end
end Go.Proofs.YtdjfkmkdkclahaaGreatDoor
