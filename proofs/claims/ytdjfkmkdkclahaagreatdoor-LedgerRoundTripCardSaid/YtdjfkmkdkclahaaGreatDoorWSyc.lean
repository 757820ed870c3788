/-
  A deferred closure that recovers: in a call that comes back it does nothing; after a panic it runs its body. A function whose deferred closure recovers: what its body is held to. A function whose deferred closure recovers: its end, after a return and after a panic. The contract of a function whose deferred closure recovers. Objects: bytes.Equal; what decoding answers; decoding a commit. Objects: decoding axioms, queries and alignments; the readers. A statement whose ends are many: what they have in common is told once, and the rest follows from there.
  Conditions: none.
-/
import Derived.Test.YtdjfkmkdkclahaaGreatDoorWSyi
import Derived.RecoverIn
import Derived.Test.YtdjfkmkdkclahaaGreatDoorWOy
import Derived.Test.YtdjfkmkdkclahaaGreatDoorWSna
set_option linter.unnecessarySimpa false
set_option linter.unusedSectionVars false
set_option linter.unusedSimpArgs false
set_option linter.unusedVariables false
set_option maxHeartbeats 16000000
namespace Go.Proofs.YtdjfkmkdkclahaaGreatDoor
open Go.RowKit
section
variable {P:Program}
theorem dR (w:World) {t:TypeId}{ms:Array (String×TypeId)}(b:Bool) (v:Value) (hv:(v= .nilIface/\b=false)\/ ∃tx x,v= .iface tx x/\b=true) (ht:P.underlying t=some (.interface ms)):(binOp .neq t v .nilIface).run P w= .ok (.bool b) w:=by
 have h: ∀d:Nat,(Op.equalIn (d+1) t v .nilIface).run P w= .ok (!b) w:= λd=>by
  rcases hv with⟨rfl,rfl⟩|⟨tx,x,rfl,rfl⟩<;>simp [Op.equalIn,run_underlying ht]
 simp only [binOp]
 simp [Op.equal,Op.maxDepth,h 9999]
theorem aGp {g:FuncId}{gn:Func}{r0:Nat}{rc nq:Oper}{a c:Nat}{tI tJ:TypeId}{ms:Array (String×TypeId)}{Y:Code}(hg:P.funcs[g]? =some gn) (hb:gn.body=some (.seq (.region r0 #[rc,nq] false) (.cond (.tmp c) Y .skip)))
  (h1:rc.op= .call { callee:= .builtin .recover,args:= #[],argTypes:= #[] }) (h2:rc.dst=some a) (h3:rc.guard=none) (h4:nq.op= .binOp .neq tI (.tmp a) (.const .nilIface) tJ) (h5:nq.dst=some c) (h6:nq.guard=none)
  (hI:P.underlying tI=some (.interface ms)) (ha:a < gn.ntmps) (hc:c < gn.ntmps) (hres:gn.results= #[]) {args:Array Value} (hsz:args.size<=gn.ntmps) {n:Nat} {w:World} {R:Ending->FrameMode->World->Prop} (hR: ∀v,R (.returned v) .returning w):
  CallsDIn (FW none) n P g args .returning w R:=by
 refine callsDIn_of_wpSIn hg hb trivial (λc₀ cs hm=> ?_)
 refine wpSIn_seq (wpSIn_region ?_)
 show wpOpsSIn (FW none) n P #[rc,nq] _ [0,1] _ _ _
 have hrec:recoverD (c₀::cs)=none:=by simp [recoverD,hm]
 have w1: ∀y,Region.wanted rc y=true:= λy=>by simp [Region.wanted,h3]
 have w2: ∀y,Region.wanted nq y=true:= λy=>by simp [Region.wanted,h6]
 have e1: ∀ev:Operand->Value,(execOp ev rc).run P w= .ok .recover w:= λev=>by simp [execOp,h1,resolve,invoke,builtin]
 have k1:(#[rc,nq]:Array Oper)[0]? =some rc:=rfl
 have k2:(#[rc,nq]:Array Oper)[1]? =some nq:=rfl
 simp only [wpOpsSIn,k1,k2,w1,w2,if_true,e1,hrec]
 refine⟨λ_ _=>trivial,λ_ _=>trivial, ?_⟩
 generalize hA:({ tmps:=args++Array.replicate (gn.ntmps - args.size) undef,defers:=[] }:Act)=A
 have hAs:A.tmps.size=gn.ntmps:=by rw [<-hA];simp;omega
 have hAd:A.defers=[]:=by rw [<-hA]
 have ev1:(A.put rc.dst .nilIface).eval (.tmp a)= .nilIface:=by
  rw [h2]
  simp [Act.put,Act.eval,hAs,ha]
 have e2:(execOp (A.put rc.dst .nilIface).eval nq).run P w= .ok (.value (.bool false)) w:=by
  have ev2:(A.put rc.dst .nilIface).eval (.const .nilIface)= .nilIface:=rfl
  simp [execOp,h4,ev1,ev2,eqGuard,dR w false .nilIface (.inl ⟨rfl,rfl⟩) hI]
 rw [e2]
 have ev3:((A.put rc.dst .nilIface).put nq.dst (.bool false)).eval (.tmp c)= .bool false:=by
  rw [h5]
  simp [Act.put,Act.eval,h2,hAs,hc]
 refine wpSIn_cond ev3 ?_
 refine wpSIn_of_wpIn rfl (wpIn_skip ?_)
 refine⟨by rw [put_defers,put_defers];exact hAd, .returning, ?_, .tuple #[], ?_,hR _⟩
 ·rw [<-hm]
 ·simp [results,hres]
theorem aJd {g:FuncId}{gn:Func}{r0:Nat}{rc nq:Oper}{a c:Nat}{tI tJ:TypeId}{ms:Array (String×TypeId)}{Y:Code}(hg:P.funcs[g]? =some gn) (hb:gn.body=some (.seq (.region r0 #[rc,nq] false) (.cond (.tmp c) Y .skip)))
  (h1:rc.op= .call { callee:= .builtin .recover,args:= #[],argTypes:= #[] }) (h2:rc.dst=some a) (h3:rc.guard=none) (h4:nq.op= .binOp .neq tI (.tmp a) (.const .nilIface) tJ) (h5:nq.dst=some c) (h6:nq.guard=none)
  (hI:P.underlying tI=some (.interface ms)) (ha:a < gn.ntmps) (hc:c < gn.ntmps) (hres:gn.results= #[]) {args:Array Value} (hsz:args.size<=gn.ntmps) {n:Nat} {w:World} {R:Ending->FrameMode->World->Prop} {t:TypeId} {x:Value}
  (hY : ∀ A : Act, A.tmps = ((args ++ Array.replicate (gn.ntmps - args.size) undef).setIfInBounds a (.iface t x)).setIfInBounds c (.bool true) -> A.defers = [] ->
   Y.wpIn (FW none) n P (λe a' w'=>(e= .normal\/e= .ret)/\a'.defers=[]/\ ∀v,R (.returned v) (.panicking [{ v:= .iface t x,recovered:=true }]) w') A w):
  CallsDIn (FW none) n P g args (.panicking [{ v:= .iface t x,recovered:=false }]) w R:=by
 refine callsDIn_of_wpSIn hg hb trivial (λc₀ cs hm=> ?_)
 refine wpSIn_seq (wpSIn_region ?_)
 show wpOpsSIn (FW none) n P #[rc,nq] _ [0,1] _ _ _
 have hrec:recoverD (c₀::cs)=some (.iface t x,{ c₀ with mode:= .panicking [{ v:= .iface t x,recovered:=true }] }::cs):=by simp [recoverD,hm]
 have w1: ∀y,Region.wanted rc y=true:= λy=>by simp [Region.wanted,h3]
 have w2: ∀y,Region.wanted nq y=true:= λy=>by simp [Region.wanted,h6]
 have e1: ∀ev:Operand->Value,(execOp ev rc).run P w= .ok .recover w:= λev=>by simp [execOp,h1,resolve,invoke,builtin]
 have k1:(#[rc,nq]:Array Oper)[0]? =some rc:=rfl
 have k2:(#[rc,nq]:Array Oper)[1]? =some nq:=rfl
 simp only [wpOpsSIn,k1,k2,w1,w2,if_true,e1,hrec]
 refine⟨λ_ _=>trivial,λ_ _=>trivial, ?_⟩
 generalize hA:({ tmps:=args++Array.replicate (gn.ntmps - args.size) undef,defers:=[] }:Act)=A
 have hAs:A.tmps.size=gn.ntmps:=by rw [<-hA];simp;omega
 have hAd:A.defers=[]:=by rw [<-hA]
 have ev1:(A.put rc.dst (.iface t x)).eval (.tmp a)= .iface t x:=by
  rw [h2]
  simp [Act.put,Act.eval,hAs,ha]
 have e2:(execOp (A.put rc.dst (.iface t x)).eval nq).run P w= .ok (.value (.bool true)) w:=by
  have ev2:(A.put rc.dst (.iface t x)).eval (.const .nilIface)= .nilIface:=rfl
  simp [execOp,h4,ev1,ev2,eqGuard,dR w true (.iface t x) (.inr ⟨_,_,rfl,rfl⟩) hI]
 rw [e2]
 have ev3:((A.put rc.dst (.iface t x)).put nq.dst (.bool true)).eval (.tmp c)= .bool true:=by
  rw [h5]
  simp [Act.put,Act.eval,h2,hAs,hc]
 refine wpSIn_cond ev3 ?_
 refine wpSIn_of_wpIn rfl (wpIn_mono (hY _ ?_ (by rw [put_defers,put_defers];exact hAd)) ?_)
 ·rw [h2,h5,<-hA];rfl
 ·rintro e a' w' ⟨he,hd,hR⟩
  rcases he with rfl|rfl<;>exact⟨hd,_,rfl, .tuple #[],by simp [results,hres],hR _⟩
end
end Go.Proofs.YtdjfkmkdkclahaaGreatDoor
namespace Go.Proofs.YtdjfkmkdkclahaaGreatDoor
open Go.RowKit
section
variable {P:Program}
theorem Mem.relit {E:Entry}{ρ:Env}{hp:Hp}{w:World}(h:Mem E ρ hp w) {i:Nat}{t:TypeId}{cs:List SV}(hi:aN hp i=some (.cells t cs)):
  ∃vs:List Value,vs.length=cs.length/\Mem E ρ (dL hp i (.cells t (vs.map λv=> .d (.lit v)))) w:=by
 obtain⟨g0,g1,⟨cur,c1,c2,c3,c4⟩,g3⟩:=h.sat i _ hi
 refine⟨cur.toList,by simpa using c2, ?_⟩
 refine⟨h.os,h.tape,h.output,h.size,h.old,h.sold,h.snew,h.slt,h.kp, ?_, ?_, ?_,h.mv, ?_,h.md⟩
 ·intro id o ho
  rw [aX _ hi]at ho
  split at ho
  ·rename_i e;subst e
   injection ho with ho;subst ho
   exact ⟨g0, g1, ⟨cur, c1, by simp, c3, λj s' v hs' hv => by
    rw [List.getElem?_map,Option.map_eq_some_iff]at hs'
    obtain⟨u,hu,rfl⟩:=hs'
    rw [Array.getElem?_toList,hv]at hu
    injection hu with hu
    subst hu
    exact .d _ _ (.lit _)⟩,g3⟩
  ·exact h.sat id o ho
 ·intro id o id' o' g h1 h2 h3 h4
  rw [aX _ hi]at h1 h2
  have key: ∀k x,(if k=i then some (HObj.cells t (cur.toList.map λv=>SV.d (.lit v)))else aN hp k)=some x->ρ.at k x=some g-> ∃x',aN hp k=some x'/\ρ.at k x'=some g:=by
   intro k x hx hg
   split at hx
   ·rename_i e;subst e
    injection hx with hx;subst hx
    exact⟨_,hi,hg⟩
   ·exact⟨x,hx,hg⟩
  obtain⟨x,a1,a2⟩:=key id o h1 h3
  obtain⟨x',b1,b2⟩:=key id' o' h2 h4
  exact h.inj id x id' x' g a1 b1 a2 b2
 ·intro id o g h1 h3
  rw [aX _ hi]at h1
  split at h1
  ·rename_i e;subst e
   injection h1 with h1;subst h1
   exact h.hb id _ g hi h3
  ·exact h.hb id o g h1 h3
 ·intro id oR g h1 hrd h2 id' o' h3 h4
  rw [aX _ hi]at h1 h3
  split at h1
  ·injection h1 with h1;subst h1;exact hrd.elim
  ·split at h3
   ·rename_i e;subst e
    injection h3 with h3;subst h3
    exact h.ro id oR g h1 hrd h2 id' _ hi h4
   ·exact h.ro id oR g h1 hrd h2 id' o' h3 h4
def aO6 (x y:Nat) (tx ty:TypeId) (nx:Nat):Fr->Hp->Prop:= λfr hp=>
 cV fr x=some (.ptr x 0)/\cV fr y=some (.ptr y 0)/\(∃cx,aN hp x=some (.cells tx cx)/\cx.length=nx)/\ ∃cy,aN hp y=some (.cells ty [cy])
def KPq (q:Prop) (x y:Nat) (tx ty:TypeId) (nx:Nat):Fr->Hp->Prop:= λfr hp=>q/\aO6 x y tx ty nx fr hp
theorem aE2 {mk df:Oper}{B:Code}{g d x y j:Nat}
  (m1:mk.op= .makeFunc (.func g) #[] #[.tmp x, .tmp y]) (m2:mk.dst=some d) (m3:mk.guard=none) (d1:df.op= .defer { callee:= .value (.tmp d),args:= #[],argTypes:= #[] }) (d2:df.dst=none) (d3:df.guard=none)
  {E:Entry} {fr:Fr} {hp:Hp} {nt:Nat} {a:Act} {w:World} {Q:Exit->Act->World->Prop} (hd:d < nt) (hs:Sat E nt ⟨fr,hp⟩ a w) (hE:E.k=0/\E.pin.pre=[]) (hx:cV fr x=some (.ptr x 0)) (hy:cV fr y=some (.ptr y 0)) (ids:List Nat) (kp:Fr->Hp->Prop) (pv:Option (TypeId->Value->Prop))
  (hB : ∀ ρ gx gy a', Mem E ρ hp w -> ρ.blk x = some gx -> ρ.blk y = some gy ->
   Sat (bA w ρ hp ⟨ids,kp,[{ target:= .fn (.func g) #[.pointer (some ⟨gx,0,none⟩), .pointer (some ⟨gy,0,none⟩)],args:= #[] }],pv⟩ none E.D) nt ⟨zL fr d (.fn g [] [.ptr x 0, .ptr y 0]),hp⟩ a' w->B.wpIn (FW none) 0 P Q a' w):
  (Code.seq (.region j #[mk,df] false) B).wpIn (FW none) 0 P Q a w:=by
 obtain⟨h1,h2,ρ,hm,hf⟩:=hs
 have ex: ∃gx,a.eval (.tmp x)= .pointer (some ⟨gx,0,none⟩)/\ρ.blk x=some gx:=by
  obtain⟨v,q1,q2⟩:=hf x _ hx
  cases q2 with
  |ptr id off gx h=>exact⟨gx,by simp [Act.eval,Array.getD_eq_getD_getElem?,q1],h⟩
 have ey: ∃gy,a.eval (.tmp y)= .pointer (some ⟨gy,0,none⟩)/\ρ.blk y=some gy:=by
  obtain⟨v,q1,q2⟩:=hf y _ hy
  cases q2 with
  |ptr id off gx h=>exact⟨gx,by simp [Act.eval,Array.getD_eq_getD_getElem?,q1],h⟩
 obtain⟨gx,ex,bx⟩:=ex
 obtain⟨gy,ey,by_⟩:=ey
 refine wpIn_seq (wpIn_region ?_)
 show wpOpsIn (FW none) 0 P #[mk,df] _ [0,1] a w
 have w1: ∀y,Region.wanted mk y=true:= λy=>by simp [Region.wanted,m3]
 have w2: ∀y,Region.wanted df y=true:= λy=>by simp [Region.wanted,d3]
 have k1:(#[mk,df]:Array Oper)[0]? =some mk:=rfl
 have k2:(#[mk,df]:Array Oper)[1]? =some df:=rfl
 simp only [wpOpsIn,k1,k2,w1,w2,if_true]
 have e1:(execOp a.eval mk).run P w= .ok (.value (.func (.func g) #[] #[.pointer (some ⟨gx,0,none⟩), .pointer (some ⟨gy,0,none⟩)])) w:=by
  simp [execOp,m1,Instr.makeFunc,ex,ey]
 refine⟨λ_ _=>trivial, ?_⟩
 show Oper.uponIn (FW none) 0 P mk a _ _ ((execOp a.eval mk).run P w)
 rw [e1,Oper.uponIn_value]
 refine⟨λ_ _=>trivial, ?_⟩
 generalize hA:a.put mk.dst (.func (.func g) #[] #[.pointer (some ⟨gx,0,none⟩), .pointer (some ⟨gy,0,none⟩)])=A
 have hv:A.eval (.tmp d)= .func (.func g) #[] #[.pointer (some ⟨gx,0,none⟩), .pointer (some ⟨gy,0,none⟩)]:=by
  rw [<-hA,m2]
  have hd':d < a.tmps.size:=by rw [h1];exact hd
  simp [Act.put,Act.eval,hd']
 have e2:(execOp A.eval df).run P w= .ok (.defer { target:= .fn (.func g) #[.pointer (some ⟨gx,0,none⟩), .pointer (some ⟨gy,0,none⟩)],args:= #[] }) w:=by
  simp [execOp,d1,resolve,hv,Deferred.ofValue]
 show Oper.uponIn (FW none) 0 P df A _ _ ((execOp A.eval df).run P w)
 rw [e2,Oper.uponIn_defer,d2]
 refine hB ρ gx gy _ hm bx by_ ⟨?_, ?_,ρ,hm.enter _ none, ?_⟩
 ·show A.tmps.size=nt
  rw [<-hA,bC];exact h1
 ·show _::A.defers=_
  rw [<-hA,put_defers,h2,hE.1,hE.2];simp [bA]
 ·intro t s ht
  rw [fD]at ht
  show ∃v,A.tmps[t]? =some v/\Rep w ρ s v
  rw [<-hA,m2]
  by_cases e:t=d
  ·subst e
   simp at ht
   subst ht
   have hd':t < a.tmps.size:=by rw [h1];exact hd
   refine⟨.func (.func g) #[] #[.pointer (some ⟨gx,0,none⟩), .pointer (some ⟨gy,0,none⟩)],by simp [Act.put,hd'], ?_⟩
   refine .fn g [] [.ptr x 0, .ptr y 0] #[] #[.pointer (some ⟨gx,0,none⟩), .pointer (some ⟨gy,0,none⟩)] rfl rfl (by intro j s v h;simp at h) ?_
   intro j s v q1 q2
   match j with
   | 0=>simp at q1 q2;subst q1;subst q2;exact .ptr x 0 gx bx
   | 1=>simp at q1 q2;subst q1;subst q2;exact .ptr y 0 gy by_
   |j+2=>simp at q1
  ·simp [e]at ht
   obtain⟨v,q1,q2⟩:=hf t s ht
   refine⟨v, ?_,q2⟩
   simp only [Act.put]
   rw [Array.getElem?_setIfInBounds_ne (Ne.symm e)]
   exact q1
end
end Go.Proofs.YtdjfkmkdkclahaaGreatDoor
namespace Go.Proofs.YtdjfkmkdkclahaaGreatDoor
open Go.RowKit
section
variable {P:Program}
def dH (post:SV->Prop) (w:World) (ρ:Env) (e:Ending) (w':World):Prop:=
 ∃v S' s,e= .returned v/\post s/\Grew w w'/\(∀b i,ρ.S b i->S' b i)/\(∀b i,S' b i->ρ.S b i\/w.heap.size<=b)/\(∀b i,S' b i->b < w'.heap.size)/\Rep w' (ρ.withS S') s v
theorem uS {ti:TypeId->Option TI}(hti:cI P ti) {fn:Func}{post:SV->Prop}{w w':World}{ρ ρ':Env}{pinX:Pin}{D:List Nat}{k:Nat}{rd:Option Nat}{fr':Fr}{hp':Hp}{tmps:Array Value}(hm:Mem ⟨w,ρ.S,λ_=>False,pinX,ρ,rd,D,k⟩ ρ' hp' w') (hf:bW ρ' w' fr' tmps)
  (hk:eH ti fr' hp' fn.results.toList (λl=>dC hp' l λl=>(bX l).ids=[]/\post (bX l))):LeavesInM (FW none) 0 P fn tmps (dH post w ρ) [] .returning w':=by
 obtain⟨us,l,r1,r2,r3,r4⟩:=tS hti hm (a:={ tmps:=tmps,defers:=[] }) hf _ _ hk
 obtain⟨l',⟨k1,k2⟩,k3,k4⟩:=fQ hm l us _ r2 r3 r4
 refine⟨_,dM (a:={ tmps:=tmps,defers:=[] }) r1,_,Sfz ρ' hp',bX l',rfl,k2,⟨hm.os,hm.tape,hm.output,hm.size,λb hb=>hm.old b hb (λh=>h)⟩,λb i hs=> .inl (hm.sold b i hs), ?_, ?_, ?_⟩
 ·rintro b i (hs|⟨id,e,z,cap,rows,ho,hb,_⟩)
  ·rcases Nat.lt_or_ge b w.heap.size with hlt|hge
   ·exact .inl (hm.snew b i hs hlt (λh=>h))
   ·exact .inr hge
  ·rcases hm.hb id _ b ho hb with hge|hB
   ·exact .inr hge
   ·exact hB.elim
 ·rintro b i (hs|⟨id,e,z,cap,rows,ho,hb,_⟩)
  ·exact hm.slt b i hs
  ·exact hm.blk_lt ho hb
 ·refine(fT (w:=w') (ρ:=ρ'.withS (Sfz ρ' hp')) (l:=l') (by rw [k3];exact r2) k4).mono (λ_ _ _=>rfl) (λ_ _ h=>h) λid hid=> ?_
  rw [k1]at hid
  cases hid
theorem oP {fn gn:Func}{g:FuncId}{cv:Array Value}{tmps:Array Value}{R:Ending->World->Prop}{u:FrameMode}{w:World}(hu:u≠ .run) (hg:P.funcs[g]? =some gn) (hcall:cR P g=true)
  (h : CallsDIn (FW none) 0 P g cv u w fun
     | .returned _,u',w'=>LeavesInM (FW none) 0 P fn tmps R [] (settle u') w'
     | .panicked chain,u',w'=>LeavesInM (FW none) 0 P fn tmps R [] (raised u' chain) w'
     | .outgrown,_,w'=>R .outgrown w'):LeavesInM (FW none) 0 P fn tmps R [{ target:= .fn (.func g) cv,args:= #[] }] u w:=by
 refine⟨hu, .inr ⟨λh=>(by cases h), .func g,cv,g,cv,rfl, ?_,λ_ _=>trivial,h⟩⟩
 unfold cR at hcall
 rw [hg]at hcall
 simp only [Bool.and_eq_true,Bool.not_eq_true']at hcall
 obtain⟨c1,c2⟩:=hcall
 have c3:gn.body.isNone=false:=by cases hb:gn.body<;>simp_all
 simp only [invoke,callFunc,Sem.run_bind,Sem.run_pure,Result.andThen_ok,run_program,hg,c2,c3,Bool.false_eq_true,if_false]
 simp
end
end Go.Proofs.YtdjfkmkdkclahaaGreatDoor
namespace Go.Proofs.YtdjfkmkdkclahaaGreatDoor
open Go.RowKit
section
variable {P:Program}
theorem mW {F:Fence}{n:Nat}{ops:Array Oper}{Q:Exit->Act->World->Prop}{a:Act}{w:World}(h:wpOpsIn F n P ops.toList.toArray Q (List.range' 0 ops.toList.length) a w):wpOpsIn F n P ops Q (List.range ops.size) a w:=by
 simpa [List.range_eq_range']using h
theorem aJ4 (zc:Bool) (frz:List Nat) {ti:TypeId->Option TI}(hti:cI P ti) {f:FuncId}{fn:Func}{i j:Nat}{opsA:Array Oper}{mk df:Oper}{B:Code}
  (hf:P.funcs[f]? =some fn) (hb:fn.body=some (.seq (.region i opsA false) (.seq (.region j #[mk,df] false) B)))
  {g:FuncId} {gn:Func} {r0 r1 r2:Nat} {rc nq:Oper} {a c:Nat} {tI tJ:TypeId} {ms:Array (String×TypeId)} {o1 o2:Array Oper}
  (hg:P.funcs[g]? =some gn) (hgb:gn.body=some (.seq (.region r0 #[rc,nq] false) (.cond (.tmp c) (.seq (.region r1 o1 false) (.region r2 o2 false)) .skip)))
  (h1:rc.op= .call { callee:= .builtin .recover,args:= #[],argTypes:= #[] }) (h2:rc.dst=some a) (h3:rc.guard=none) (h4:nq.op= .binOp .neq tI (.tmp a) (.const .nilIface) tJ) (h5:nq.dst=some c) (h6:nq.guard=none)
  (hI:P.underlying tI=some (.interface ms)) (ha:a < gn.ntmps) (hc:c < gn.ntmps) (hac:2<=a) (hcc:2<=c) (hgr:gn.results= #[]) (hcall:cR P g=true)
  {d x y:Nat} {tx ty:TypeId}
  (m1:mk.op= .makeFunc (.func g) #[] #[.tmp x, .tmp y]) (m2:mk.dst=some d) (m3:mk.guard=none) (d1:df.op= .defer { callee:= .value (.tmp d),args:= #[],argTypes:= #[] }) (d2:df.dst=none) (d3:df.guard=none) (hd:d < fn.ntmps) (hxy:x≠y)
  (keep keepY:Nat->Bool) (pin:List Nat) (args:List SV) (hp:Hp) (post:SV->Prop) (nx:Nat) (q:Prop) (hn:args.length<=fn.ntmps) (hnd:(hp.map (·.1)).Nodup)
  (hA : nA ⟨P, ti, cY pin, fn.ntmps, keep, 0, none, zc, frz⟩ opsA.toList (λfr hp1 => cV fr x = some (.ptr x 0) /\ cV fr y = some (.ptr y 0) /\
   ∀pre,X ⟨P,ti,⟨x::y::pin,KPq q x y tx ty nx,pre,none⟩,fn.ntmps,keep,0,none,zc,frz⟩ B (zL fr d (.fn g [] [.ptr x 0, .ptr y 0])) hp1 (mX ti fn.results.toList post)) opsA.toList (cX 0 args) (roH hp))
  (hY : q -> ∀ (vx : List Value) (vy : Value), vx.length = nx -> nA ⟨P, ti, cY (x :: y :: pin), gn.ntmps, keepY, 200, none, false, []⟩ o1.toList (λfr hp1 => nA ⟨P, ti, cY (x :: y :: pin), gn.ntmps, keepY, 200, none, false, []⟩ o2.toList
   (λ_ hp2=>eH ti [(x, .ptr x 0),(y, .ptr y 0)] hp2 fn.results.toList (λl=>dC hp2 l λl=>(bX l).ids=[]/\post (bX l))) o2.toList fr hp1) o1.toList [(0, .ptr x 0),(1, .ptr y 0)] [(x, .cells tx (vx.map λv=> .d (.lit v))),(y, .cells ty [.d (.lit vy)])]):
  Tri P f args hp post:=by
 intro w ρ vs hslt hargs hro
 refine cW (r:=none) (n:=0) |>.1 (callsIn_of_wp_marks hf hb trivial ?_)
 have hm:Mem ⟨w,ρ.S,λ_=>False,cY pin,ρ,none,[],0⟩ ρ (roH hp) w:=by
  have hat: ∀id o,aN (roH hp) id=some o->ρ.at id o=none:=by
   intro id o ho
   rcases dT hp id o hnd ho with⟨t,cs,rfl,_⟩|⟨g,z,rows,rfl,_⟩|⟨X,rfl,_⟩
   ·rfl
   ·rfl
   ·rfl
  refine⟨rfl,rfl, .refl _,Nat.le_refl _,λ_ _ _=>rfl,λ_ _ h=>h,λ_ _ h _ _=>h,hslt,λ_ _ _=>rfl, ?_, ?_, ?_,λid _=>ρ.moved_refl id, ?_,λb hb=>by cases hb⟩
  ·intro id o ho
   rcases dT hp id o hnd ho with⟨t,cs,rfl,h|h⟩|⟨g,z,rows,rfl,h⟩|⟨X,rfl,h|h⟩
   ·exact hro id _ h
   ·exact hro id _ h
   ·exact hro id _ h
   ·exact hro id _ h
   ·exact hro id _ h
  ·intro id o id' o' g h1 _ h3 _;rw [hat id o h1]at h3;cases h3
  ·intro id o g h1 h3;rw [hat id o h1]at h3;cases h3
  ·intro id x g _ _ _ id' o' h3 h4;rw [hat id' o' h3]at h4;cases h4
 have hfs:bW ρ w (cX 0 args) (vs++Array.replicate (fn.ntmps - vs.size) undef):=by
  intro t s ht
  obtain⟨_,h2⟩:=cU args 0 t s ht
  simp only [Nat.sub_zero]at h2
  have hlt:=(List.getElem?_eq_some_iff.1 h2).1
  have hlt':t < vs.size:=by rw [hargs.1];exact hlt
  refine⟨vs[t], ?_,hargs.2 t s _ h2 (Array.getElem?_eq_getElem hlt')⟩
  rw [Array.getElem?_append_left hlt',Array.getElem?_eq_getElem hlt']
 refine wpIn_seq (wpIn_region ?_)
 have key : ∀ fr1 hp1 a1 w1, (cV fr1 x = some (.ptr x 0) /\ cV fr1 y = some (.ptr y 0) /\
   ∀pre,X ⟨P,ti,⟨x::y::pin,KPq q x y tx ty nx,pre,none⟩,fn.ntmps,keep,0,none,zc,frz⟩ B (zL fr1 d (.fn g [] [.ptr x 0, .ptr y 0])) hp1 (mX ti fn.results.toList post))->
   Sat ⟨w,ρ.S,λ_=>False,cY pin,ρ,none,[],0⟩ fn.ntmps ⟨fr1,hp1⟩ a1 w1->
   (Code.seq (.region j #[mk,df] false) B).wpIn (FW none) 0 P (bodyPostM (FW none) 0 P fn (dH post w ρ)) a1 w1:=by
  rintro fr1 hp1 a1 w1 ⟨kx,ky,kB⟩ hs
  refine aE2 m1 m2 m3 d1 d2 d3 hd hs ⟨rfl,rfl⟩ kx ky (x::y::pin) (KPq q x y tx ty nx) none ?_
  intro ρ1 gx gy a2 hm1 bx by_ hs2
  generalize hdfr:({ target:= .fn (.func g) #[.pointer (some ⟨gx,0,none⟩), .pointer (some ⟨gy,0,none⟩)],args:= #[] }:Deferred)=dfr at hs2
  refine wpIn_mono (gO (C:=⟨P,ti,⟨x::y::pin,KPq q x y tx ty nx,[dfr],none⟩,fn.ntmps,keep,0,none,zc,frz⟩) hti B _ _ _ (kB _) (bA w1 ρ1 hp1 ⟨x::y::pin,KPq q x y tx ty nx,[dfr],none⟩ none []) a2 w1 rfl rfl hs2) ?_
  rintro e a' w' ⟨e0,fr',hp',E',hE,hrel,hk,hnt,hdf,ρ',hm',hf'⟩
  obtain⟨own,q1,q2,q3,q4,q5⟩:=gB hE rfl
  have hpre:E'.pin.pre=[dfr]:=by rw [hE.pin];rfl
  have fin:eH ti fr' hp' fn.results.toList (λl=>dC hp' l λl=>(bX l).ids=[]/\post (bX l))->LeavesInM (FW none) 0 P fn a'.tmps (dH post w ρ) a'.defers .returning w':=by
   intro hk
   rw [hdf,q2,hpre]
   refine eG (by simp) [dfr] own E' w' hm' ⟨_,q1,q5⟩ q4 q3 ?_
   rintro E'' w'' ⟨p1,p2,p3,p4,p5,p6⟩ hm'' hkp
   have hmE:=hm1.leave (pin:=⟨x::y::pin,KPq q x y tx ty nx,[dfr],none⟩) (rd:=none) hm'' ⟨p1.trans hE.w,p2.trans hE.S,p3.trans hE.B,p4.trans hE.pin,p5.trans hE.ρ,λb hb=>by cases hb⟩ (λid hid=>List.mem_cons_of_mem _ (List.mem_cons_of_mem _ hid))
   have hf'':bW ρ' w'' fr' a'.tmps:=hf'.mono hkp (λ_ _ x=>x) λi _=>ρ'.moved_refl i
   rw [<-hdfr]
   exact oP (by simp) hg hcall (aGp hg hgb h1 h2 h3 h4 h5 h6 hI ha hc hgr (by simp;omega) (λv=>uS hti hmE hf'' hk))
  have finp: ∀ch,Chn none ch->KPq q x y tx ty nx fr' hp'->LeavesInM (FW none) 0 P fn a'.tmps (dH post w ρ) a'.defers (.panicking ch) w':=by
   rintro ch ⟨t,v,rfl,_⟩ ⟨hqq,kx',ky',⟨cx,hx',lx⟩,cy,hy'⟩
   rw [hdf,q2,hpre]
   refine eG (by simp) [dfr] own E' w' hm' ⟨_,q1,q5⟩ q4 q3 ?_
   rintro E'' w'' ⟨p1,p2,p3,p4,p5,p6⟩ hm'' hkp
   have hmE:=hm1.leave (pin:=⟨x::y::pin,KPq q x y tx ty nx,[dfr],none⟩) (rd:=none) hm'' ⟨p1.trans hE.w,p2.trans hE.S,p3.trans hE.B,p4.trans hE.pin,p5.trans hE.ρ,λb hb=>by cases hb⟩ (λid hid=>List.mem_cons_of_mem _ (List.mem_cons_of_mem _ hid))
   have hf'':bW ρ' w'' fr' a'.tmps:=hf'.mono hkp (λ_ _ x=>x) λi _=>ρ'.moved_refl i
   have hmv:=hm''.mv
   rw [p4.trans hE.pin,p5.trans hE.ρ]at hmv
   have bx':ρ'.blk x=some gx:=(hmv x (List.mem_cons_self ..)).1.trans bx
   have by':ρ'.blk y=some gy:=(hmv y (List.mem_cons_of_mem _ (List.mem_cons_self ..))).1.trans by_
   have hmY := hmE.sub (hp' := [(x, .cells tx cx), (y, .cells ty [cy])]) (by
    intro id o h
    simp only [aN]at h
    split at h
    ·rename_i e;subst e;injection h with h;subst h;exact hx'
    ·split at h
     ·rename_i e;subst e;injection h with h;subst h;exact hy'
     ·cases h)
   obtain⟨vx,lvx,hmY⟩:=hmY.relit (i:=x) (t:=tx) (cs:=cx) (by simp [aN])
   rw [show dL [(x,HObj.cells tx cx),(y, .cells ty [cy])] x (.cells tx (vx.map λv=> .d (.lit v)))=[(x, .cells tx (vx.map λv=> .d (.lit v))),(y, .cells ty [cy])]by simp [dL]]at hmY
   obtain⟨vyl,lvy,hmY⟩:=hmY.relit (i:=y) (t:=ty) (cs:=[cy]) (by simp [aN,hxy])
   obtain⟨vy,rfl⟩: ∃vy,vyl=[vy]:=by
    match vyl,lvy with
    | [v],_=>exact⟨v,rfl⟩
   rw [show dL [(x,HObj.cells tx (vx.map λv=> .d (.lit v))),(y, .cells ty [cy])] y (.cells ty ([vy].map λv=> .d (.lit v)))=[(x, .cells tx (vx.map λv=> .d (.lit v))),(y, .cells ty [.d (.lit vy)])]by simp [dL,hxy]]at hmY
   have hfx:bW ρ' w'' [(x, .ptr x 0),(y, .ptr y 0)] a'.tmps:=by
    intro t s ht
    simp only [cV]at ht
    split at ht
    ·rename_i e;subst e;injection ht with ht;subst ht;exact hf'' _ _ kx'
    ·split at ht
     ·rename_i e;subst e;injection ht with ht;subst ht;exact hf'' _ _ ky'
     ·cases ht
   rw [<-hdfr]
   refine oP (by simp) hg hcall (aJd hg hgb h1 h2 h3 h4 h5 h6 hI ha hc hgr (by simp;omega) ?_)
   intro A hAt hAd
   have sY:Sat (bA w'' ρ' [(x, .cells tx (vx.map λv=> .d (.lit v))),(y, .cells ty [.d (.lit vy)])] (cY (x::y::pin)) none []) gn.ntmps ⟨[(0, .ptr x 0),(1, .ptr y 0)],[(x, .cells tx (vx.map λv=> .d (.lit v))),(y, .cells ty [.d (.lit vy)])]⟩ A w'':=by
    refine⟨by rw [hAt];simp;omega,by rw [hAd];rfl,ρ',hmY.enter (cY (x::y::pin)) none, ?_⟩
    intro t s ht
    simp only [cV]at ht
    split at ht
    ·rename_i e
     subst e
     injection ht with ht
     subst ht
     refine⟨.pointer (some ⟨gx,0,none⟩), ?_, .ptr x 0 gx bx'⟩
     rw [hAt,Array.getElem?_setIfInBounds_ne (by omega),Array.getElem?_setIfInBounds_ne (by omega),Array.getElem?_append_left (by simp)]
     rfl
    ·split at ht
     ·rename_i e
      subst e
      injection ht with ht
      subst ht
      refine⟨.pointer (some ⟨gy,0,none⟩), ?_, .ptr y 0 gy by'⟩
      rw [hAt,Array.getElem?_setIfInBounds_ne (by omega),Array.getElem?_setIfInBounds_ne (by omega),Array.getElem?_append_left (by simp)]
      rfl
     ·cases ht
   refine wpIn_seq (wpIn_region ?_)
   have last: ∀fr2 hp2 a2 w2,eH ti [(x, .ptr x 0),(y, .ptr y 0)] hp2 fn.results.toList (λl=>dC hp2 l λl=>(bX l).ids=[]/\post (bX l))->
     Sat (bA w'' ρ' [(x, .cells tx (vx.map λv=> .d (.lit v))),(y, .cells ty [.d (.lit vy)])] (cY (x::y::pin)) none []) gn.ntmps ⟨fr2,hp2⟩ a2 w2->a2.defers=[]/\LeavesInM (FW none) 0 P fn a'.tmps (dH post w ρ) [] .returning w2:=by
    rintro fr2 hp2 a2 w2 hk2 ⟨_,s2,ρ2,hm2,_⟩
    refine⟨by rw [s2];rfl, ?_⟩
    have hmF:=hmY.leave (pin:=cY (x::y::pin)) (rd:=none) hm2 ⟨rfl,rfl,rfl,rfl,rfl,λb hb=>by cases hb⟩ (λid hid=> ?_)
    ·refine uS hti hmF (hfx.mono hm2.kp hm2.sold λid hid=>hm2.mv id ?_) hk2
     have hid:id=x\/id=y:=by simpa [fC,SV.ids]using hid
     show id∈x::y::pin
     rcases hid with e|e
     ·rw [e];exact List.mem_cons_self ..
     ·rw [e];exact List.mem_cons_of_mem _ (List.mem_cons_self ..)
    ·exact List.mem_cons_of_mem _ (List.mem_cons_of_mem _ hid)
   have f2: ∀fr2 hp2 a2 w2,nA ⟨P,ti,cY (x::y::pin),gn.ntmps,keepY,200,none,false,[]⟩ o2.toList
     (λ_ hp2=>eH ti [(x, .ptr x 0),(y, .ptr y 0)] hp2 fn.results.toList (λl=>dC hp2 l λl=>(bX l).ids=[]/\post (bX l))) o2.toList fr2 hp2->
     Sat (bA w'' ρ' [(x, .cells tx (vx.map λv=> .d (.lit v))),(y, .cells ty [.d (.lit vy)])] (cY (x::y::pin)) none []) gn.ntmps ⟨fr2,hp2⟩ a2 w2->
     wpOpsIn (FW none) 0 P o2 (λe aY wY=>(e= .normal\/e= .ret)/\aY.defers=[]/\ ∀v':Value,LeavesInM (FW none) 0 P fn a'.tmps (dH post w ρ) [] (settle (.panicking [{ v:= .iface t v,recovered:=true }])) wY) (List.range o2.size) a2 w2:=by
    intro fr2 hp2 a2 w2 hk2 hs2
    have:=fA (C:=⟨P,ti,cY (x::y::pin),gn.ntmps,keepY,200,none,false,[]⟩) hti (all:=o2.toList) (E:=bA w'' ρ' [(x, .cells tx (vx.map λv=> .d (.lit v))),(y, .cells ty [.d (.lit vy)])] (cY (x::y::pin)) none [])
     (Q:= λe aY wY=>(e= .normal\/e= .ret)/\aY.defers=[]/\ ∀v':Value,LeavesInM (FW none) 0 P fn a'.tmps (dH post w ρ) [] (settle (.panicking [{ v:= .iface t v,recovered:=true }])) wY) rfl
     (λfr3 hp3 a3 w3 hk3 hs3 => by
      obtain⟨z1,z2⟩:=last fr3 hp3 a3 w3 hk3 hs3
      exact⟨.inl rfl,z1,λ_=>z2⟩) (λ_ _ _ _ _ _ hk=>hk.elim) o2.toList 0 _ _ _ _ rfl hk2 hs2
    exact mW this
   have f1:=fA (C:=⟨P,ti,cY (x::y::pin),gn.ntmps,keepY,200,none,false,[]⟩) hti (all:=o1.toList) (E:=bA w'' ρ' [(x, .cells tx (vx.map λv=> .d (.lit v))),(y, .cells ty [.d (.lit vy)])] (cY (x::y::pin)) none [])
    (Q := Exit.then ((Code.region r2 o2 false).wpIn (FW none) 0 P (λe aY wY => (e = .normal \/ e = .ret) /\ aY.defers = [] /\ ∀ v' : Value, LeavesInM (FW none) 0 P fn a'.tmps (dH post w ρ) [] (settle (.panicking [{ v := .iface t v, recovered := true }])) wY))
     (λe aY wY=>(e= .normal\/e= .ret)/\aY.defers=[]/\ ∀v':Value,LeavesInM (FW none) 0 P fn a'.tmps (dH post w ρ) [] (settle (.panicking [{ v:= .iface t v,recovered:=true }])) wY)) rfl
    (λfr2 hp2 a2 w2 hk2 hs2=>wpIn_region (f2 fr2 hp2 a2 w2 hk2 hs2)) (λ_ _ _ _ _ _ hk=>hk.elim) o1.toList 0 _ _ _ _ rfl (hY hqq vx vy (lvx.trans lx)) sY
   exact mW f1
  cases e0<;>cases e<;>simp only [Ex.rel]at hrel<;>simp only [KX,mX]at hk
  ·exact fin hk
  ·exact hk.elim
  ·exact hk.elim
  ·exact fin hk
  ·exact finp _ hrel hk
 have s0:Sat ⟨w,ρ.S,λ_=>False,cY pin,ρ,none,[],0⟩ fn.ntmps ⟨cX 0 args,roH hp⟩ { tmps:=vs++Array.replicate (fn.ntmps - vs.size) undef,defers:=[] } w:=by
  refine⟨?_,rfl,ρ,hm,hfs⟩
  simp only [Array.size_append,Array.size_replicate]
  have:=hargs.1
  omega
 have:=fA (C:=⟨P,ti,cY pin,fn.ntmps,keep,0,none,zc,frz⟩) hti (all:=opsA.toList) (E:=⟨w,ρ.S,λ_=>False,cY pin,ρ,none,[],0⟩) (Q:=Exit.then ((Code.seq (.region j #[mk,df] false) B).wpIn (FW none) 0 P (bodyPostM (FW none) 0 P fn (dH post w ρ))) (bodyPostM (FW none) 0 P fn (dH post w ρ))) rfl (λfr hp a w hk hs=>key fr hp a w hk hs) (λ_ _ _ _ _ _ hk=>hk.elim) opsA.toList 0 _ _ _ _ rfl hA s0
 exact mW this
end
end Go.Proofs.YtdjfkmkdkclahaaGreatDoor
namespace Go.Proofs.YtdjfkmkdkclahaaGreatDoor
open Go.Proofs Go.RowKit
set_option maxRecDepth 10000
attribute [local irreducible] aJ aG Tri aF YVC cA aU
theorem yK {α:Type}{rd:Rd α}{wr:α->List UInt8×Int}{zero:α}{bad:Int}{b c:List UInt8}{x:α}(h:rd b=some (x,c)):gU rd wr zero bad b=if c=[]/\wr x=(b,0)then (x,0)else (zero,bad):=by
 unfold gU
 rw [h]
 cases c with
 |nil=>simp
 |cons _ _=>simp
theorem fY {α:Type}{rd:Rd α}{wr:α->List UInt8×Int}{zero:α}{bad:Int}{b:List UInt8}(h:rd b=none):gU rd wr zero bad b=(zero,bad):=by
 unfold gU;rw [h]
theorem iO (a b:List UInt8):Tri Tryz.prog 57 [.d (.sl 1 (a.map bG)), .d (.sl 1 (b.map bG))] [] (λr=>r= .d (.bool (decide (a=b)))):=by
 have ha:=jP a
 have hb:=jP b
 refine aI hty Tryz.func57 rfl (kp [0,1,4]) [] _ _ _ (by simp [Tryz.f57]) (by simp) ?_
 ((conv=>whnf);repeat' ((first|(intro hq;(try simp only [lnS]at hq);(try rewrite [List.length_map]))|refine sJ ?_|refine .intro _ (.intro rfl ?_)|refine exL (k:= ?_)|refine dwR ?_|((first|refine aC ?_ ?_|refine aD ?_ ?_)<;>intro hb<;>(first|exact ddX hb|try simp only [lnS]at hb))|(refine aB ?_ ?_<;>intro hb<;>try exact dsX hb))<;>(conv=>whnf)))
 rw [ha,hb]
 rfl
theorem aBt {α:Type}{l:List α}{n:Nat}(h:l.length=n+1): ∃c m,l=c::m/\m.length=n:=by
 cases l with
 |nil=>cases h
 |cons c m=>exact⟨c,m,rfl,by simpa using h⟩
end Go.Proofs.YtdjfkmkdkclahaaGreatDoor
namespace Go.Proofs.YtdjfkmkdkclahaaGreatDoor
open Go.Proofs Go.RowKit
set_option maxRecDepth 10000
attribute [local irreducible] aJ aG Tri aF YVC cA aU
def qy0:Qy:=⟨[],[]⟩
theorem vV (wr:Qy->List UInt8×Int) (bs:List UInt8) (hb:bs.length<=1000000) (hwr: ∀x c,rQy bs=some (x,c)->Tri Tryz.prog 46 [.d (.agg (qyR x))] [] (λr=>r= .tup [.d (.sl 1 ((wr x).1.map bG)), .d (.int .i64 (wr x).2)])):
  Tri Tryz.prog 136 [.d (.sl 1 (bs.map bG)), .fn 137 [] [], .fn 46 [] []] [] (λr=> ∃x,x=(gU rQy wr qy0 280 bs).1/\r= .tup [.d (.agg (qyR x)), .d (.int .i64 (gU rQy wr qy0 280 bs).2)]):=by
 have hlb:=mL bs
 have hsl:List.drop 0 (List.take (((bs.map bG).length:Nat):Int).toNat (bs.map bG))=bs.map bG:=by rw [List.drop_zero,Int.toNat_natCast,List.take_of_length_le (Nat.le_refl _)]
 refine Tri.says ?_
 refine aJ4 false [] hty Tryz.func136 rfl Tryz.func181 rfl rfl rfl rfl rfl rfl rfl (by kernel_rfl) (by decide) (by decide) (by decide) (by decide) rfl (by kernel_rfl) (ms:= #[]) (d:=11) (x:=6) (y:=7) (tx:=56) (ty:=27) rfl rfl rfl rfl rfl rfl (by decide) (by decide) (kp [0,1,2,6,7,8,9,10,44]) (kp [0,1,2,4]) [] _ _ _ 2 (gU rQy wr qy0 280 bs=(qy0,280)) (by simp [Tryz.f136]) (by decide) ?_ ?_
 ·((conv=>whnf);repeat ((first|(intro hq;try simp only [lnS]at hq)|refine sI ?_|refine .intro _ (.intro rfl ?_));(conv=>whnf)))
  rw [hsl]
  refine RdT.call aJi rfl (λ_=>rfl) bs hb rfl (λx c e1=> ?_) (λe1 b=>⟨fY e1,rfl,rfl,⟨_,rfl,rfl⟩,_,rfl⟩)
  have hw:=hwr x c e1
  have hd:=yK (wr:=wr) (zero:=qy0) (bad:=280) e1
  generalize gU rQy wr qy0 280 bs=res at *
  generalize wr x=ae at *
  obtain⟨a,e⟩:=ae
  have heq:=iO a bs
  obtain⟨tl,pl⟩:=x
  ((conv=>whnf);repeat ((first|(refine aA [] hw trivial (λr hs=> ?_);subst hs)|(intro hq;try simp only [lnS]at hq)|refine sI ?_|refine .intro _ (.intro rfl ?_));(conv=>whnf)))
  refine aD (λh2=> ?_) (λh2=> ?_)
  ·have hr:res=(qy0,280):=by rw [hd,if_neg];rintro⟨_,h⟩;injection h with h3 h4;exact h2 h4
   ((conv=>whnf);repeat ((first|(refine lB hty rfl (by with_unfolding_all exact rfl) rfl rfl ?_)|(intro hq;try simp only [lnS]at hq)|refine sI ?_|refine .intro _ (.intro rfl ?_));(conv=>whnf)))
   exact⟨⟨_,rfl,rfl⟩,_,rfl⟩
  have h2:e=0:=by simpa using h2
  subst h2
  ((conv=>whnf);repeat ((first|(intro hq;try simp only [lnS]at hq)|refine sI ?_|refine .intro _ (.intro rfl ?_));(conv=>whnf)))
  refine aC (λh3=> ?_) (λh3=> ?_)
  ·have hr:res=(qy0,280):=by rw [hd,if_neg];rintro⟨h,_⟩;subst h;simp at h3
   ((conv=>whnf);repeat ((first|(refine lB hty rfl (by with_unfolding_all exact rfl) rfl rfl ?_)|(intro hq;try simp only [lnS]at hq)|refine sI ?_|refine .intro _ (.intro rfl ?_));(conv=>whnf)))
   exact⟨⟨_,rfl,rfl⟩,_,rfl⟩
  have h3:c=[]:=by
   rw [mL]at h3
   exact List.length_eq_zero_iff.1 (by omega)
  subst h3
  ((conv=>whnf);repeat ((first|(refine aA [] heq trivial (λr hs=> ?_);subst hs)|(intro hq;try simp only [lnS]at hq)|refine sI ?_|refine .intro _ (.intro rfl ?_));(conv=>whnf)))
  by_cases h4:a=bs
  ·subst h4
   rw [decide_eq_true rfl]
   rw [if_pos ⟨rfl,rfl⟩]at hd
   subst hd
   ((conv=>whnf);repeat ((first|(intro hq;try simp only [lnS]at hq)|refine sI ?_|refine .intro _ (.intro rfl ?_));(conv=>whnf)))
   exact⟨_, .refl _,_,rfl,rfl⟩
  ·have hr:res=(qy0,280):=by rw [hd,if_neg];rintro⟨_,h⟩;injection h with h5 h6;exact h4 h5
   rw [decide_eq_false h4]
   ((conv=>whnf);repeat ((first|(refine lB hty rfl (by with_unfolding_all exact rfl) rfl rfl ?_)|(intro hq;try simp only [lnS]at hq)|refine sI ?_|refine .intro _ (.intro rfl ?_));(conv=>whnf)))
   exact⟨⟨_,rfl,rfl⟩,_,rfl⟩
 ·intro hr vx vy hcx
  rw [hr]
  obtain⟨s0,vx0,rfl,h0x⟩:=aBt hcx
  obtain⟨s1,vx1,rfl,h1x⟩:=aBt h0x
  obtain rfl:=List.length_eq_zero_iff.1 h1x
  ((conv=>whnf);repeat ((first|(intro hq;try simp only [lnS]at hq)|refine sI ?_|refine .intro _ (.intro rfl ?_));(conv=>whnf)))
  exact⟨_,cJ.pair (cJ.wkd (by repeat' (first|exact trivial|exact rfl|refine And.intro ?_ ?_))),_,rfl,rfl⟩
theorem sG (wr:Qy->List UInt8×Int) (bs:List UInt8) (hb:bs.length<=1000000) (hwr: ∀x c,rQy bs=some (x,c)->Tri Tryz.prog 46 [.d (.agg (qyR x))] [] (λr=>r= .tup [.d (.sl 1 ((wr x).1.map bG)), .d (.int .i64 (wr x).2)])):
  Tri Tryz.prog 87 [.d (.sl 1 (bs.map bG))] [] (λr=> ∃x,x=(gU rQy wr qy0 280 bs).1/\r= .tup [.d (.agg (qyR x)), .d (.int .i64 (gU rQy wr qy0 280 bs).2)]):=by
 have hd:=vV wr bs hb hwr
 generalize gU rQy wr qy0 280 bs=res at *
 refine aH false [] hty Tryz.func87 rfl (kp [0,2,3]) [] _ _ _ (by simp [Tryz.f87]) (by decide) ?_
 ((conv=>whnf);repeat ((first|(intro hq;try simp only [lnS]at hq)|refine sI ?_|refine .intro _ (.intro rfl ?_));(conv=>whnf)))
 refine aA [] hd trivial (λr hs=> ?_)
 obtain⟨x,hx0,rfl⟩:=hs
 obtain⟨tl,pl⟩:=x
 ((conv=>whnf);repeat ((first|(intro hq;try simp only [lnS]at hq)|refine sI ?_|refine .intro _ (.intro rfl ?_));(conv=>whnf)))
 rw [<-hx0]
 rfl
end Go.Proofs.YtdjfkmkdkclahaaGreatDoor
namespace Go.Proofs.YtdjfkmkdkclahaaGreatDoor
open Go.Proofs
theorem aJ.mid {C:Cfg}{c:Code}{fr:Fr}{hp:Hp}{K:Ex->Fr->Hp->Prop}(FR:Fr) (HP:Hp) (h:aJ C c fr hp (λe fr' hp'=>e= .normal/\Sub fr' hp' FR HP)) (hk:K .normal FR HP):aJ C c fr hp K:=
 λE a w hpin hrd hsat=>wpIn_mono (h E a w hpin hrd hsat) λ_ _ _ ⟨x,fr',hp',E',h0,h1,h2,h3⟩=>by
  cases x with
  |pan=>exact⟨.pan,fr',hp',E',h0,h1,h2,h3⟩
  |normal=>obtain⟨_,hs⟩:=h2;exact⟨.normal,FR,HP,E',h0,h1,hk,h3.sub hs⟩
  |_=>obtain⟨e,_⟩:=h2;cases e
end Go.Proofs.YtdjfkmkdkclahaaGreatDoor
