/-
  A deferred closure that recovers: in a call that comes back it does nothing; after a panic it runs its body. A function whose deferred closure recovers: what its body is held to. A function whose deferred closure recovers: its end, after a return and after a panic. The contract of a function whose deferred closure recovers. Objects: bytes.Equal; what decoding answers; decoding a commit. Circles in steps, plainly: shortest ones, and the search of the program. Circles in steps, plainly: the search of the reference. A statement whose ends are many: what they have in common is told once, and the rest follows from there.
  Conditions: none.
-/
import Derived.Test.YtbobcfjlbcgchaaGreatDoorVOb
import Derived.RecoverIn
import Derived.Test.YtbobcfjlbcgchaaGreatDoorVOy
import Derived.Test.YtbobcfjlbcgchaaGreatDoorVSna
set_option linter.unnecessarySimpa false
set_option linter.unusedSectionVars false
set_option linter.unusedSimpArgs false
set_option linter.unusedVariables false
set_option maxHeartbeats 8000000
namespace Go.Proofs.YtbobcfjlbcgchaaGreatDoor
open Go.RowKit
section
variable {P:Program}
theorem oB (w:World) {t:TypeId}{ms:Array (String×TypeId)}(b:Bool) (v:Value) (hv:(v= .nilIface/\b=false)\/ ∃tx x,v= .iface tx x/\b=true) (ht:P.underlying t=some (.interface ms)):(binOp .neq t v .nilIface).run P w= .ok (.bool b) w:=by
 have h: ∀d:Nat,(Op.equalIn (d+1) t v .nilIface).run P w= .ok (!b) w:= λd=>by
  rcases hv with⟨rfl,rfl⟩|⟨tx,x,rfl,rfl⟩<;>simp [Op.equalIn,run_underlying ht]
 simp only [binOp]
 simp [Op.equal,Op.maxDepth,h 9999]
theorem aPh {g:FuncId}{gn:Func}{r0:Nat}{rc nq:Oper}{a c:Nat}{tI tJ:TypeId}{ms:Array (String×TypeId)}{Y:Code}(hg:P.funcs[g]? =some gn) (hb:gn.body=some (.seq (.region r0 #[rc,nq] false) (.cond (.tmp c) Y .skip)))
  (h1:rc.op= .call { callee:= .builtin .recover,args:= #[],argTypes:= #[] }) (h2:rc.dst=some a) (h3:rc.guard=none) (h4:nq.op= .binOp .neq tI (.tmp a) (.const .nilIface) tJ) (h5:nq.dst=some c) (h6:nq.guard=none)
  (hI:P.underlying tI=some (.interface ms)) (ha:a < gn.ntmps) (hc:c < gn.ntmps) (hres:gn.results= #[]) {args:Array Value} (hsz:args.size<=gn.ntmps) {n:Nat} {w:World} {R:Ending->FrameMode->World->Prop} (hR: ∀v,R (.returned v) .returning w):
  CallsDIn (FW none) n P g args .returning w R:=by
 refine callsDIn_of_wpSIn hg hb trivial (λc₀ cs hm=> ?_)
 refine wpSIn_seq (wpSIn_region ?_)
 show wpOpsSIn (FW none) n P #[rc,nq] _ [0,1] _ _ _
 have hrec:recoverD (c₀::cs)=none:=by simp [recoverD,hm]
 have w1: ∀y,Region.wanted rc y=true:= λy=>by simp [Region.wanted,h3]
 have w2: ∀y,Region.wanted nq y=true:= λy=>by simp [Region.wanted,h6]
 have e1: ∀ev:Operand->Value,(execOp ev rc).run P w= .ok .recover w:= λev=>by simp [execOp,h1,resolve,invoke,builtin]
 have k1:(#[rc,nq]:Array Oper)[0]? =some rc:=rfl
 have k2:(#[rc,nq]:Array Oper)[1]? =some nq:=rfl
 simp only [wpOpsSIn,k1,k2,w1,w2,if_true,e1,hrec]
 refine⟨λ_ _=>trivial,λ_ _=>trivial, ?_⟩
 generalize hA:({ tmps:=args++Array.replicate (gn.ntmps - args.size) undef,defers:=[] }:Act)=A
 have hAs:A.tmps.size=gn.ntmps:=by rw [<-hA];simp;omega
 have hAd:A.defers=[]:=by rw [<-hA]
 have ev1:(A.put rc.dst .nilIface).eval (.tmp a)= .nilIface:=by
  rw [h2]
  simp [Act.put,Act.eval,hAs,ha]
 have e2:(execOp (A.put rc.dst .nilIface).eval nq).run P w= .ok (.value (.bool false)) w:=by
  have ev2:(A.put rc.dst .nilIface).eval (.const .nilIface)= .nilIface:=rfl
  simp [execOp,h4,ev1,ev2,eqGuard,oB w false .nilIface (.inl ⟨rfl,rfl⟩) hI]
 rw [e2]
 have ev3:((A.put rc.dst .nilIface).put nq.dst (.bool false)).eval (.tmp c)= .bool false:=by
  rw [h5]
  simp [Act.put,Act.eval,h2,hAs,hc]
 refine wpSIn_cond ev3 ?_
 refine wpSIn_of_wpIn rfl (wpIn_skip ?_)
 refine⟨by rw [put_defers,put_defers];exact hAd, .returning, ?_, .tuple #[], ?_,hR _⟩
 ·rw [<-hm]
 ·simp [results,hres]
theorem aSr {g:FuncId}{gn:Func}{r0:Nat}{rc nq:Oper}{a c:Nat}{tI tJ:TypeId}{ms:Array (String×TypeId)}{Y:Code}(hg:P.funcs[g]? =some gn) (hb:gn.body=some (.seq (.region r0 #[rc,nq] false) (.cond (.tmp c) Y .skip)))
  (h1:rc.op= .call { callee:= .builtin .recover,args:= #[],argTypes:= #[] }) (h2:rc.dst=some a) (h3:rc.guard=none) (h4:nq.op= .binOp .neq tI (.tmp a) (.const .nilIface) tJ) (h5:nq.dst=some c) (h6:nq.guard=none)
  (hI:P.underlying tI=some (.interface ms)) (ha:a < gn.ntmps) (hc:c < gn.ntmps) (hres:gn.results= #[]) {args:Array Value} (hsz:args.size<=gn.ntmps) {n:Nat} {w:World} {R:Ending->FrameMode->World->Prop} {t:TypeId} {x:Value}
  (hY : ∀ A : Act, A.tmps = ((args ++ Array.replicate (gn.ntmps - args.size) undef).setIfInBounds a (.iface t x)).setIfInBounds c (.bool true) -> A.defers = [] ->
   Y.wpIn (FW none) n P (λe a' w'=>(e= .normal\/e= .ret)/\a'.defers=[]/\ ∀v,R (.returned v) (.panicking [{ v:= .iface t x,recovered:=true }]) w') A w):
  CallsDIn (FW none) n P g args (.panicking [{ v:= .iface t x,recovered:=false }]) w R:=by
 refine callsDIn_of_wpSIn hg hb trivial (λc₀ cs hm=> ?_)
 refine wpSIn_seq (wpSIn_region ?_)
 show wpOpsSIn (FW none) n P #[rc,nq] _ [0,1] _ _ _
 have hrec:recoverD (c₀::cs)=some (.iface t x,{ c₀ with mode:= .panicking [{ v:= .iface t x,recovered:=true }] }::cs):=by simp [recoverD,hm]
 have w1: ∀y,Region.wanted rc y=true:= λy=>by simp [Region.wanted,h3]
 have w2: ∀y,Region.wanted nq y=true:= λy=>by simp [Region.wanted,h6]
 have e1: ∀ev:Operand->Value,(execOp ev rc).run P w= .ok .recover w:= λev=>by simp [execOp,h1,resolve,invoke,builtin]
 have k1:(#[rc,nq]:Array Oper)[0]? =some rc:=rfl
 have k2:(#[rc,nq]:Array Oper)[1]? =some nq:=rfl
 simp only [wpOpsSIn,k1,k2,w1,w2,if_true,e1,hrec]
 refine⟨λ_ _=>trivial,λ_ _=>trivial, ?_⟩
 generalize hA:({ tmps:=args++Array.replicate (gn.ntmps - args.size) undef,defers:=[] }:Act)=A
 have hAs:A.tmps.size=gn.ntmps:=by rw [<-hA];simp;omega
 have hAd:A.defers=[]:=by rw [<-hA]
 have ev1:(A.put rc.dst (.iface t x)).eval (.tmp a)= .iface t x:=by
  rw [h2]
  simp [Act.put,Act.eval,hAs,ha]
 have e2:(execOp (A.put rc.dst (.iface t x)).eval nq).run P w= .ok (.value (.bool true)) w:=by
  have ev2:(A.put rc.dst (.iface t x)).eval (.const .nilIface)= .nilIface:=rfl
  simp [execOp,h4,ev1,ev2,eqGuard,oB w true (.iface t x) (.inr ⟨_,_,rfl,rfl⟩) hI]
 rw [e2]
 have ev3:((A.put rc.dst (.iface t x)).put nq.dst (.bool true)).eval (.tmp c)= .bool true:=by
  rw [h5]
  simp [Act.put,Act.eval,h2,hAs,hc]
 refine wpSIn_cond ev3 ?_
 refine wpSIn_of_wpIn rfl (wpIn_mono (hY _ ?_ (by rw [put_defers,put_defers];exact hAd)) ?_)
 ·rw [h2,h5,<-hA];rfl
 ·rintro e a' w' ⟨he,hd,hR⟩
  rcases he with rfl|rfl<;>exact⟨hd,_,rfl, .tuple #[],by simp [results,hres],hR _⟩
end
end Go.Proofs.YtbobcfjlbcgchaaGreatDoor
namespace Go.Proofs.YtbobcfjlbcgchaaGreatDoor
open Go.RowKit
section
variable {P:Program}
theorem Mem.relit {E:Entry}{ρ:Env}{hp:Hp}{w:World}(h:Mem E ρ hp w) {i:Nat}{t:TypeId}{cs:List SV}(hi:aN hp i=some (.cells t cs)):
  ∃vs:List Value,vs.length=cs.length/\Mem E ρ (dU hp i (.cells t (vs.map λv=> .d (.lit v)))) w:=by
 obtain⟨g0,g1,⟨cur,c1,c2,c3,c4⟩,g3⟩:=h.sat i _ hi
 refine⟨cur.toList,by simpa using c2, ?_⟩
 refine⟨h.os,h.tape,h.output,h.size,h.old,h.sold,h.snew,h.slt,h.kp, ?_, ?_, ?_,h.mv, ?_,h.md⟩
 ·intro id o ho
  rw [bD _ hi]at ho
  split at ho
  ·rename_i e;subst e
   injection ho with ho;subst ho
   exact ⟨g0, g1, ⟨cur, c1, by simp, c3, λj s' v hs' hv => by
    rw [List.getElem?_map,Option.map_eq_some_iff]at hs'
    obtain⟨u,hu,rfl⟩:=hs'
    rw [Array.getElem?_toList,hv]at hu
    injection hu with hu
    subst hu
    exact .d _ _ (.lit _)⟩,g3⟩
  ·exact h.sat id o ho
 ·intro id o id' o' g h1 h2 h3 h4
  rw [bD _ hi]at h1 h2
  have key: ∀k x,(if k=i then some (HObj.cells t (cur.toList.map λv=>SV.d (.lit v)))else aN hp k)=some x->ρ.at k x=some g-> ∃x',aN hp k=some x'/\ρ.at k x'=some g:=by
   intro k x hx hg
   split at hx
   ·rename_i e;subst e
    injection hx with hx;subst hx
    exact⟨_,hi,hg⟩
   ·exact⟨x,hx,hg⟩
  obtain⟨x,a1,a2⟩:=key id o h1 h3
  obtain⟨x',b1,b2⟩:=key id' o' h2 h4
  exact h.inj id x id' x' g a1 b1 a2 b2
 ·intro id o g h1 h3
  rw [bD _ hi]at h1
  split at h1
  ·rename_i e;subst e
   injection h1 with h1;subst h1
   exact h.hb id _ g hi h3
  ·exact h.hb id o g h1 h3
 ·intro id oR g h1 hrd h2 id' o' h3 h4
  rw [bD _ hi]at h1 h3
  split at h1
  ·injection h1 with h1;subst h1;exact hrd.elim
  ·split at h3
   ·rename_i e;subst e
    injection h3 with h3;subst h3
    exact h.ro id oR g h1 hrd h2 id' _ hi h4
   ·exact h.ro id oR g h1 hrd h2 id' o' h3 h4
def aY1 (x y:Nat) (tx ty:TypeId) (nx:Nat):Fr->Hp->Prop:= λfr hp=>
 gM fr x=some (.ptr x 0)/\gM fr y=some (.ptr y 0)/\(∃cx,aN hp x=some (.cells tx cx)/\cx.length=nx)/\ ∃cy,aN hp y=some (.cells ty [cy])
def KPq (q:Prop) (x y:Nat) (tx ty:TypeId) (nx:Nat):Fr->Hp->Prop:= λfr hp=>q/\aY1 x y tx ty nx fr hp
theorem aMi {mk df:Oper}{B:Code}{g d x y j:Nat}
  (m1:mk.op= .makeFunc (.func g) #[] #[.tmp x, .tmp y]) (m2:mk.dst=some d) (m3:mk.guard=none) (d1:df.op= .defer { callee:= .value (.tmp d),args:= #[],argTypes:= #[] }) (d2:df.dst=none) (d3:df.guard=none)
  {E:Entry} {fr:Fr} {hp:Hp} {nt:Nat} {a:Act} {w:World} {Q:Exit->Act->World->Prop} (hd:d < nt) (hs:Sat E nt ⟨fr,hp⟩ a w) (hE:E.k=0/\E.pin.pre=[]) (hx:gM fr x=some (.ptr x 0)) (hy:gM fr y=some (.ptr y 0)) (ids:List Nat) (kp:Fr->Hp->Prop)
  (hB : ∀ ρ gx gy a', Mem E ρ hp w -> ρ.blk x = some gx -> ρ.blk y = some gy ->
   Sat (cH w ρ hp ⟨ids,kp,[{ target:= .fn (.func g) #[.pointer (some ⟨gx,0,none⟩), .pointer (some ⟨gy,0,none⟩)],args:= #[] }]⟩ none E.D) nt ⟨aIp fr d (.fn g [] [.ptr x 0, .ptr y 0]),hp⟩ a' w->B.wpIn (FW none) 0 P Q a' w):
  (Code.seq (.region j #[mk,df] false) B).wpIn (FW none) 0 P Q a w:=by
 obtain⟨h1,h2,ρ,hm,hf⟩:=hs
 have ex: ∃gx,a.eval (.tmp x)= .pointer (some ⟨gx,0,none⟩)/\ρ.blk x=some gx:=by
  obtain⟨v,q1,q2⟩:=hf x _ hx
  cases q2 with
  |ptr id off gx h=>exact⟨gx,by simp [Act.eval,Array.getD_eq_getD_getElem?,q1],h⟩
 have ey: ∃gy,a.eval (.tmp y)= .pointer (some ⟨gy,0,none⟩)/\ρ.blk y=some gy:=by
  obtain⟨v,q1,q2⟩:=hf y _ hy
  cases q2 with
  |ptr id off gx h=>exact⟨gx,by simp [Act.eval,Array.getD_eq_getD_getElem?,q1],h⟩
 obtain⟨gx,ex,bx⟩:=ex
 obtain⟨gy,ey,by_⟩:=ey
 refine wpIn_seq (wpIn_region ?_)
 show wpOpsIn (FW none) 0 P #[mk,df] _ [0,1] a w
 have w1: ∀y,Region.wanted mk y=true:= λy=>by simp [Region.wanted,m3]
 have w2: ∀y,Region.wanted df y=true:= λy=>by simp [Region.wanted,d3]
 have k1:(#[mk,df]:Array Oper)[0]? =some mk:=rfl
 have k2:(#[mk,df]:Array Oper)[1]? =some df:=rfl
 simp only [wpOpsIn,k1,k2,w1,w2,if_true]
 have e1:(execOp a.eval mk).run P w= .ok (.value (.func (.func g) #[] #[.pointer (some ⟨gx,0,none⟩), .pointer (some ⟨gy,0,none⟩)])) w:=by
  simp [execOp,m1,Instr.makeFunc,ex,ey]
 refine⟨λ_ _=>trivial, ?_⟩
 show Oper.uponIn (FW none) 0 P mk a _ _ ((execOp a.eval mk).run P w)
 rw [e1,Oper.uponIn_value]
 refine⟨λ_ _=>trivial, ?_⟩
 generalize hA:a.put mk.dst (.func (.func g) #[] #[.pointer (some ⟨gx,0,none⟩), .pointer (some ⟨gy,0,none⟩)])=A
 have hv:A.eval (.tmp d)= .func (.func g) #[] #[.pointer (some ⟨gx,0,none⟩), .pointer (some ⟨gy,0,none⟩)]:=by
  rw [<-hA,m2]
  have hd':d < a.tmps.size:=by rw [h1];exact hd
  simp [Act.put,Act.eval,hd']
 have e2:(execOp A.eval df).run P w= .ok (.defer { target:= .fn (.func g) #[.pointer (some ⟨gx,0,none⟩), .pointer (some ⟨gy,0,none⟩)],args:= #[] }) w:=by
  simp [execOp,d1,resolve,hv,Deferred.ofValue]
 show Oper.uponIn (FW none) 0 P df A _ _ ((execOp A.eval df).run P w)
 rw [e2,Oper.uponIn_defer,d2]
 refine hB ρ gx gy _ hm bx by_ ⟨?_, ?_,ρ,hm.enter _ none, ?_⟩
 ·show A.tmps.size=nt
  rw [<-hA,cE];exact h1
 ·show _::A.defers=_
  rw [<-hA,put_defers,h2,hE.1,hE.2];simp [cH]
 ·intro t s ht
  rw [iM]at ht
  show ∃v,A.tmps[t]? =some v/\Rep w ρ s v
  rw [<-hA,m2]
  by_cases e:t=d
  ·subst e
   simp at ht
   subst ht
   have hd':t < a.tmps.size:=by rw [h1];exact hd
   refine⟨.func (.func g) #[] #[.pointer (some ⟨gx,0,none⟩), .pointer (some ⟨gy,0,none⟩)],by simp [Act.put,hd'], ?_⟩
   refine .fn g [] [.ptr x 0, .ptr y 0] #[] #[.pointer (some ⟨gx,0,none⟩), .pointer (some ⟨gy,0,none⟩)] rfl rfl (by intro j s v h;simp at h) ?_
   intro j s v q1 q2
   match j with
   | 0=>simp at q1 q2;subst q1;subst q2;exact .ptr x 0 gx bx
   | 1=>simp at q1 q2;subst q1;subst q2;exact .ptr y 0 gy by_
   |j+2=>simp at q1
  ·simp [e]at ht
   obtain⟨v,q1,q2⟩:=hf t s ht
   refine⟨v, ?_,q2⟩
   simp only [Act.put]
   rw [Array.getElem?_setIfInBounds_ne (Ne.symm e)]
   exact q1
end
end Go.Proofs.YtbobcfjlbcgchaaGreatDoor
namespace Go.Proofs.YtbobcfjlbcgchaaGreatDoor
open Go.RowKit
section
variable {P:Program}
def nA (post:SV->Prop) (w:World) (ρ:Env) (e:Ending) (w':World):Prop:=
 ∃v S' s,e= .returned v/\post s/\Grew w w'/\(∀b i,ρ.S b i->S' b i)/\(∀b i,S' b i->ρ.S b i\/w.heap.size<=b)/\(∀b i,S' b i->b < w'.heap.size)/\Rep w' (ρ.withS S') s v
theorem aLe {ti:TypeId->Option TI}(hti:dX P ti) {fn:Func}{post:SV->Prop}{w w':World}{ρ ρ':Env}{pinX:Pin}{D:List Nat}{k:Nat}{rd:Option Nat}{fr':Fr}{hp':Hp}{tmps:Array Value}(hm:Mem ⟨w,ρ.S,λ_=>False,pinX,ρ,rd,D,k⟩ ρ' hp' w') (hf:dD ρ' w' fr' tmps)
  (hk:lX ti fr' hp' fn.results.toList (λl=>lD hp' l λl=>(cU l).ids=[]/\post (cU l))):LeavesInM (FW none) 0 P fn tmps (nA post w ρ) [] .returning w':=by
 obtain⟨us,l,r1,r2,r3,r4⟩:=aMb hti hm (a:={ tmps:=tmps,defers:=[] }) hf _ _ hk
 obtain⟨l',⟨k1,k2⟩,k3,k4⟩:=qB hm l us _ r2 r3 r4
 refine⟨_,oK (a:={ tmps:=tmps,defers:=[] }) r1,_,Sfz ρ' hp',cU l',rfl,k2,⟨hm.os,hm.tape,hm.output,hm.size,λb hb=>hm.old b hb (λh=>h)⟩,λb i hs=> .inl (hm.sold b i hs), ?_, ?_, ?_⟩
 ·rintro b i (hs|⟨id,e,z,cap,rows,ho,hb,_⟩)
  ·rcases Nat.lt_or_ge b w.heap.size with hlt|hge
   ·exact .inl (hm.snew b i hs hlt (λh=>h))
   ·exact .inr hge
  ·rcases hm.hb id _ b ho hb with hge|hB
   ·exact .inr hge
   ·exact hB.elim
 ·rintro b i (hs|⟨id,e,z,cap,rows,ho,hb,_⟩)
  ·exact hm.slt b i hs
  ·exact hm.blk_lt ho hb
 ·refine(vV (w:=w') (ρ:=ρ'.withS (Sfz ρ' hp')) (l:=l') (by rw [k3];exact r2) k4).mono (λ_ _ _=>rfl) (λ_ _ h=>h) λid hid=> ?_
  rw [k1]at hid
  cases hid
theorem aHb {fn gn:Func}{g:FuncId}{cv:Array Value}{tmps:Array Value}{R:Ending->World->Prop}{u:FrameMode}{w:World}(hu:u≠ .run) (hg:P.funcs[g]? =some gn) (hcall:dA P g=true)
  (h : CallsDIn (FW none) 0 P g cv u w fun
     | .returned _,u',w'=>LeavesInM (FW none) 0 P fn tmps R [] (settle u') w'
     | .panicked chain,u',w'=>LeavesInM (FW none) 0 P fn tmps R [] (raised u' chain) w'
     | .outgrown,_,w'=>R .outgrown w'):LeavesInM (FW none) 0 P fn tmps R [{ target:= .fn (.func g) cv,args:= #[] }] u w:=by
 refine⟨hu, .inr ⟨λh=>(by cases h), .func g,cv,g,cv,rfl, ?_,λ_ _=>trivial,h⟩⟩
 unfold dA at hcall
 rw [hg]at hcall
 simp only [Bool.and_eq_true,Bool.not_eq_true']at hcall
 obtain⟨c1,c2⟩:=hcall
 have c3:gn.body.isNone=false:=by cases hb:gn.body<;>simp_all
 simp only [invoke,callFunc,Sem.run_bind,Sem.run_pure,Result.andThen_ok,run_program,hg,c2,c3,Bool.false_eq_true,if_false]
 simp
end
end Go.Proofs.YtbobcfjlbcgchaaGreatDoor
namespace Go.Proofs.YtbobcfjlbcgchaaGreatDoor
open Go.RowKit
section
variable {P:Program}
theorem aEx {F:Fence}{n:Nat}{ops:Array Oper}{Q:Exit->Act->World->Prop}{a:Act}{w:World}(h:wpOpsIn F n P ops.toList.toArray Q (List.range' 0 ops.toList.length) a w):wpOpsIn F n P ops Q (List.range ops.size) a w:=by
 simpa [List.range_eq_range']using h
theorem aLd (zc:Bool) (frz:List Nat) {ti:TypeId->Option TI}(hti:dX P ti) {f:FuncId}{fn:Func}{i j:Nat}{opsA:Array Oper}{mk df:Oper}{B:Code}
  (hf:P.funcs[f]? =some fn) (hb:fn.body=some (.seq (.region i opsA false) (.seq (.region j #[mk,df] false) B)))
  {g:FuncId} {gn:Func} {r0 r1 r2:Nat} {rc nq:Oper} {a c:Nat} {tI tJ:TypeId} {ms:Array (String×TypeId)} {o1 o2:Array Oper}
  (hg:P.funcs[g]? =some gn) (hgb:gn.body=some (.seq (.region r0 #[rc,nq] false) (.cond (.tmp c) (.seq (.region r1 o1 false) (.region r2 o2 false)) .skip)))
  (h1:rc.op= .call { callee:= .builtin .recover,args:= #[],argTypes:= #[] }) (h2:rc.dst=some a) (h3:rc.guard=none) (h4:nq.op= .binOp .neq tI (.tmp a) (.const .nilIface) tJ) (h5:nq.dst=some c) (h6:nq.guard=none)
  (hI:P.underlying tI=some (.interface ms)) (ha:a < gn.ntmps) (hc:c < gn.ntmps) (hac:2<=a) (hcc:2<=c) (hgr:gn.results= #[]) (hcall:dA P g=true)
  {d x y:Nat} {tx ty:TypeId}
  (m1:mk.op= .makeFunc (.func g) #[] #[.tmp x, .tmp y]) (m2:mk.dst=some d) (m3:mk.guard=none) (d1:df.op= .defer { callee:= .value (.tmp d),args:= #[],argTypes:= #[] }) (d2:df.dst=none) (d3:df.guard=none) (hd:d < fn.ntmps) (hxy:x≠y)
  (keep keepY:Nat->Bool) (pin:List Nat) (args:List SV) (hp:Hp) (post:SV->Prop) (nx:Nat) (q:Prop) (hn:args.length<=fn.ntmps) (hnd:(hp.map (·.1)).Nodup)
  (hA : aB7 ⟨P, ti, tW pin, fn.ntmps, keep, 0, none, zc, frz⟩ opsA.toList (λfr hp1 => gM fr x = some (.ptr x 0) /\ gM fr y = some (.ptr y 0) /\
   ∀pre,X ⟨P,ti,⟨x::y::pin,KPq q x y tx ty nx,pre⟩,fn.ntmps,keep,0,none,zc,frz⟩ B (aIp fr d (.fn g [] [.ptr x 0, .ptr y 0])) hp1 (aIv ti fn.results.toList post)) opsA.toList (cT 0 args) (roH hp))
  (hY : q -> ∀ (vx : List Value) (vy : Value), vx.length = nx -> aB7 ⟨P, ti, tW (x :: y :: pin), gn.ntmps, keepY, 200, none, false, []⟩ o1.toList (λfr hp1 => aB7 ⟨P, ti, tW (x :: y :: pin), gn.ntmps, keepY, 200, none, false, []⟩ o2.toList
   (λ_ hp2=>lX ti [(x, .ptr x 0),(y, .ptr y 0)] hp2 fn.results.toList (λl=>lD hp2 l λl=>(cU l).ids=[]/\post (cU l))) o2.toList fr hp1) o1.toList [(0, .ptr x 0),(1, .ptr y 0)] [(x, .cells tx (vx.map λv=> .d (.lit v))),(y, .cells ty [.d (.lit vy)])]):
  Tri P f args hp post:=by
 intro w ρ vs hslt hargs hro
 refine kF (r:=none) (n:=0) |>.1 (callsIn_of_wp_marks hf hb trivial ?_)
 have hm:Mem ⟨w,ρ.S,λ_=>False,tW pin,ρ,none,[],0⟩ ρ (roH hp) w:=by
  have hat: ∀id o,aN (roH hp) id=some o->ρ.at id o=none:=by
   intro id o ho
   rcases uQ hp id o hnd ho with⟨t,cs,rfl,_⟩|⟨g,z,rows,rfl,_⟩|⟨X,rfl,_⟩
   ·rfl
   ·rfl
   ·rfl
  refine⟨rfl,rfl, .refl _,Nat.le_refl _,λ_ _ _=>rfl,λ_ _ h=>h,λ_ _ h _ _=>h,hslt,λ_ _ _=>rfl, ?_, ?_, ?_,λid _=>ρ.moved_refl id, ?_,λb hb=>by cases hb⟩
  ·intro id o ho
   rcases uQ hp id o hnd ho with⟨t,cs,rfl,h|h⟩|⟨g,z,rows,rfl,h⟩|⟨X,rfl,h|h⟩
   ·exact hro id _ h
   ·exact hro id _ h
   ·exact hro id _ h
   ·exact hro id _ h
   ·exact hro id _ h
  ·intro id o id' o' g h1 _ h3 _;rw [hat id o h1]at h3;cases h3
  ·intro id o g h1 h3;rw [hat id o h1]at h3;cases h3
  ·intro id x g _ _ _ id' o' h3 h4;rw [hat id' o' h3]at h4;cases h4
 have hfs:dD ρ w (cT 0 args) (vs++Array.replicate (fn.ntmps - vs.size) undef):=by
  intro t s ht
  obtain⟨_,h2⟩:=nL args 0 t s ht
  simp only [Nat.sub_zero]at h2
  have hlt:=(List.getElem?_eq_some_iff.1 h2).1
  have hlt':t < vs.size:=by rw [hargs.1];exact hlt
  refine⟨vs[t], ?_,hargs.2 t s _ h2 (Array.getElem?_eq_getElem hlt')⟩
  rw [Array.getElem?_append_left hlt',Array.getElem?_eq_getElem hlt']
 refine wpIn_seq (wpIn_region ?_)
 have key : ∀ fr1 hp1 a1 w1, (gM fr1 x = some (.ptr x 0) /\ gM fr1 y = some (.ptr y 0) /\
   ∀pre,X ⟨P,ti,⟨x::y::pin,KPq q x y tx ty nx,pre⟩,fn.ntmps,keep,0,none,zc,frz⟩ B (aIp fr1 d (.fn g [] [.ptr x 0, .ptr y 0])) hp1 (aIv ti fn.results.toList post))->
   Sat ⟨w,ρ.S,λ_=>False,tW pin,ρ,none,[],0⟩ fn.ntmps ⟨fr1,hp1⟩ a1 w1->
   (Code.seq (.region j #[mk,df] false) B).wpIn (FW none) 0 P (bodyPostM (FW none) 0 P fn (nA post w ρ)) a1 w1:=by
  rintro fr1 hp1 a1 w1 ⟨kx,ky,kB⟩ hs
  refine aMi m1 m2 m3 d1 d2 d3 hd hs ⟨rfl,rfl⟩ kx ky (x::y::pin) (KPq q x y tx ty nx) ?_
  intro ρ1 gx gy a2 hm1 bx by_ hs2
  generalize hdfr:({ target:= .fn (.func g) #[.pointer (some ⟨gx,0,none⟩), .pointer (some ⟨gy,0,none⟩)],args:= #[] }:Deferred)=dfr at hs2
  refine wpIn_mono (kZ (C:=⟨P,ti,⟨x::y::pin,KPq q x y tx ty nx,[dfr]⟩,fn.ntmps,keep,0,none,zc,frz⟩) hti B _ _ _ (kB _) (cH w1 ρ1 hp1 ⟨x::y::pin,KPq q x y tx ty nx,[dfr]⟩ none []) a2 w1 rfl rfl hs2) ?_
  rintro e a' w' ⟨e0,fr',hp',E',hE,hrel,hk,hnt,hdf,ρ',hm',hf'⟩
  obtain⟨own,q1,q2,q3,q4,q5⟩:=aAo hE rfl
  have hpre:E'.pin.pre=[dfr]:=by rw [hE.pin];rfl
  have fin:lX ti fr' hp' fn.results.toList (λl=>lD hp' l λl=>(cU l).ids=[]/\post (cU l))->LeavesInM (FW none) 0 P fn a'.tmps (nA post w ρ) a'.defers .returning w':=by
   intro hk
   rw [hdf,q2,hpre]
   refine sF (by simp) [dfr] own E' w' hm' ⟨_,q1,q5⟩ q4 q3 ?_
   rintro E'' w'' ⟨p1,p2,p3,p4,p5,p6⟩ hm'' hkp
   have hmE:=hm1.leave (pin:=⟨x::y::pin,KPq q x y tx ty nx,[dfr]⟩) (rd:=none) hm'' ⟨p1.trans hE.w,p2.trans hE.S,p3.trans hE.B,p4.trans hE.pin,p5.trans hE.ρ,λb hb=>by cases hb⟩ (λid hid=>List.mem_cons_of_mem _ (List.mem_cons_of_mem _ hid))
   have hf'':dD ρ' w'' fr' a'.tmps:=hf'.mono hkp (λ_ _ x=>x) λi _=>ρ'.moved_refl i
   rw [<-hdfr]
   exact aHb (by simp) hg hcall (aPh hg hgb h1 h2 h3 h4 h5 h6 hI ha hc hgr (by simp;omega) (λv=>aLe hti hmE hf'' hk))
  have finp: ∀ch,Chn ch->KPq q x y tx ty nx fr' hp'->LeavesInM (FW none) 0 P fn a'.tmps (nA post w ρ) a'.defers (.panicking ch) w':=by
   rintro ch ⟨t,v,rfl⟩ ⟨hqq,kx',ky',⟨cx,hx',lx⟩,cy,hy'⟩
   rw [hdf,q2,hpre]
   refine sF (by simp) [dfr] own E' w' hm' ⟨_,q1,q5⟩ q4 q3 ?_
   rintro E'' w'' ⟨p1,p2,p3,p4,p5,p6⟩ hm'' hkp
   have hmE:=hm1.leave (pin:=⟨x::y::pin,KPq q x y tx ty nx,[dfr]⟩) (rd:=none) hm'' ⟨p1.trans hE.w,p2.trans hE.S,p3.trans hE.B,p4.trans hE.pin,p5.trans hE.ρ,λb hb=>by cases hb⟩ (λid hid=>List.mem_cons_of_mem _ (List.mem_cons_of_mem _ hid))
   have hf'':dD ρ' w'' fr' a'.tmps:=hf'.mono hkp (λ_ _ x=>x) λi _=>ρ'.moved_refl i
   have hmv:=hm''.mv
   rw [p4.trans hE.pin,p5.trans hE.ρ]at hmv
   have bx':ρ'.blk x=some gx:=(hmv x (List.mem_cons_self ..)).1.trans bx
   have by':ρ'.blk y=some gy:=(hmv y (List.mem_cons_of_mem _ (List.mem_cons_self ..))).1.trans by_
   have hmY := hmE.sub (hp' := [(x, .cells tx cx), (y, .cells ty [cy])]) (by
    intro id o h
    simp only [aN]at h
    split at h
    ·rename_i e;subst e;injection h with h;subst h;exact hx'
    ·split at h
     ·rename_i e;subst e;injection h with h;subst h;exact hy'
     ·cases h)
   obtain⟨vx,lvx,hmY⟩:=hmY.relit (i:=x) (t:=tx) (cs:=cx) (by simp [aN])
   rw [show dU [(x,HObj.cells tx cx),(y, .cells ty [cy])] x (.cells tx (vx.map λv=> .d (.lit v)))=[(x, .cells tx (vx.map λv=> .d (.lit v))),(y, .cells ty [cy])]by simp [dU]]at hmY
   obtain⟨vyl,lvy,hmY⟩:=hmY.relit (i:=y) (t:=ty) (cs:=[cy]) (by simp [aN,hxy])
   obtain⟨vy,rfl⟩: ∃vy,vyl=[vy]:=by
    match vyl,lvy with
    | [v],_=>exact⟨v,rfl⟩
   rw [show dU [(x,HObj.cells tx (vx.map λv=> .d (.lit v))),(y, .cells ty [cy])] y (.cells ty ([vy].map λv=> .d (.lit v)))=[(x, .cells tx (vx.map λv=> .d (.lit v))),(y, .cells ty [.d (.lit vy)])]by simp [dU,hxy]]at hmY
   have hfx:dD ρ' w'' [(x, .ptr x 0),(y, .ptr y 0)] a'.tmps:=by
    intro t s ht
    simp only [gM]at ht
    split at ht
    ·rename_i e;subst e;injection ht with ht;subst ht;exact hf'' _ _ kx'
    ·split at ht
     ·rename_i e;subst e;injection ht with ht;subst ht;exact hf'' _ _ ky'
     ·cases ht
   rw [<-hdfr]
   refine aHb (by simp) hg hcall (aSr hg hgb h1 h2 h3 h4 h5 h6 hI ha hc hgr (by simp;omega) ?_)
   intro A hAt hAd
   have sY:Sat (cH w'' ρ' [(x, .cells tx (vx.map λv=> .d (.lit v))),(y, .cells ty [.d (.lit vy)])] (tW (x::y::pin)) none []) gn.ntmps ⟨[(0, .ptr x 0),(1, .ptr y 0)],[(x, .cells tx (vx.map λv=> .d (.lit v))),(y, .cells ty [.d (.lit vy)])]⟩ A w'':=by
    refine⟨by rw [hAt];simp;omega,by rw [hAd];rfl,ρ',hmY.enter (tW (x::y::pin)) none, ?_⟩
    intro t s ht
    simp only [gM]at ht
    split at ht
    ·rename_i e
     subst e
     injection ht with ht
     subst ht
     refine⟨.pointer (some ⟨gx,0,none⟩), ?_, .ptr x 0 gx bx'⟩
     rw [hAt,Array.getElem?_setIfInBounds_ne (by omega),Array.getElem?_setIfInBounds_ne (by omega),Array.getElem?_append_left (by simp)]
     rfl
    ·split at ht
     ·rename_i e
      subst e
      injection ht with ht
      subst ht
      refine⟨.pointer (some ⟨gy,0,none⟩), ?_, .ptr y 0 gy by'⟩
      rw [hAt,Array.getElem?_setIfInBounds_ne (by omega),Array.getElem?_setIfInBounds_ne (by omega),Array.getElem?_append_left (by simp)]
      rfl
     ·cases ht
   refine wpIn_seq (wpIn_region ?_)
   have last: ∀fr2 hp2 a2 w2,lX ti [(x, .ptr x 0),(y, .ptr y 0)] hp2 fn.results.toList (λl=>lD hp2 l λl=>(cU l).ids=[]/\post (cU l))->
     Sat (cH w'' ρ' [(x, .cells tx (vx.map λv=> .d (.lit v))),(y, .cells ty [.d (.lit vy)])] (tW (x::y::pin)) none []) gn.ntmps ⟨fr2,hp2⟩ a2 w2->a2.defers=[]/\LeavesInM (FW none) 0 P fn a'.tmps (nA post w ρ) [] .returning w2:=by
    rintro fr2 hp2 a2 w2 hk2 ⟨_,s2,ρ2,hm2,_⟩
    refine⟨by rw [s2];rfl, ?_⟩
    have hmF:=hmY.leave (pin:=tW (x::y::pin)) (rd:=none) hm2 ⟨rfl,rfl,rfl,rfl,rfl,λb hb=>by cases hb⟩ (λid hid=> ?_)
    ·refine aLe hti hmF (hfx.mono hm2.kp hm2.sold λid hid=>hm2.mv id ?_) hk2
     have hid:id=x\/id=y:=by simpa [eQ,SV.ids]using hid
     show id∈x::y::pin
     rcases hid with e|e
     ·rw [e];exact List.mem_cons_self ..
     ·rw [e];exact List.mem_cons_of_mem _ (List.mem_cons_self ..)
    ·exact List.mem_cons_of_mem _ (List.mem_cons_of_mem _ hid)
   have f2: ∀fr2 hp2 a2 w2,aB7 ⟨P,ti,tW (x::y::pin),gn.ntmps,keepY,200,none,false,[]⟩ o2.toList
     (λ_ hp2=>lX ti [(x, .ptr x 0),(y, .ptr y 0)] hp2 fn.results.toList (λl=>lD hp2 l λl=>(cU l).ids=[]/\post (cU l))) o2.toList fr2 hp2->
     Sat (cH w'' ρ' [(x, .cells tx (vx.map λv=> .d (.lit v))),(y, .cells ty [.d (.lit vy)])] (tW (x::y::pin)) none []) gn.ntmps ⟨fr2,hp2⟩ a2 w2->
     wpOpsIn (FW none) 0 P o2 (λe aY wY=>(e= .normal\/e= .ret)/\aY.defers=[]/\ ∀v':Value,LeavesInM (FW none) 0 P fn a'.tmps (nA post w ρ) [] (settle (.panicking [{ v:= .iface t v,recovered:=true }])) wY) (List.range o2.size) a2 w2:=by
    intro fr2 hp2 a2 w2 hk2 hs2
    have:=qO (C:=⟨P,ti,tW (x::y::pin),gn.ntmps,keepY,200,none,false,[]⟩) hti (all:=o2.toList) (E:=cH w'' ρ' [(x, .cells tx (vx.map λv=> .d (.lit v))),(y, .cells ty [.d (.lit vy)])] (tW (x::y::pin)) none [])
     (Q:= λe aY wY=>(e= .normal\/e= .ret)/\aY.defers=[]/\ ∀v':Value,LeavesInM (FW none) 0 P fn a'.tmps (nA post w ρ) [] (settle (.panicking [{ v:= .iface t v,recovered:=true }])) wY) rfl
     (λfr3 hp3 a3 w3 hk3 hs3 => by
      obtain⟨z1,z2⟩:=last fr3 hp3 a3 w3 hk3 hs3
      exact⟨.inl rfl,z1,λ_=>z2⟩) (λ_ _ _ _ _ _ hk=>hk.elim) o2.toList 0 _ _ _ _ rfl hk2 hs2
    exact aEx this
   have f1:=qO (C:=⟨P,ti,tW (x::y::pin),gn.ntmps,keepY,200,none,false,[]⟩) hti (all:=o1.toList) (E:=cH w'' ρ' [(x, .cells tx (vx.map λv=> .d (.lit v))),(y, .cells ty [.d (.lit vy)])] (tW (x::y::pin)) none [])
    (Q := Exit.then ((Code.region r2 o2 false).wpIn (FW none) 0 P (λe aY wY => (e = .normal \/ e = .ret) /\ aY.defers = [] /\ ∀ v' : Value, LeavesInM (FW none) 0 P fn a'.tmps (nA post w ρ) [] (settle (.panicking [{ v := .iface t v, recovered := true }])) wY))
     (λe aY wY=>(e= .normal\/e= .ret)/\aY.defers=[]/\ ∀v':Value,LeavesInM (FW none) 0 P fn a'.tmps (nA post w ρ) [] (settle (.panicking [{ v:= .iface t v,recovered:=true }])) wY)) rfl
    (λfr2 hp2 a2 w2 hk2 hs2=>wpIn_region (f2 fr2 hp2 a2 w2 hk2 hs2)) (λ_ _ _ _ _ _ hk=>hk.elim) o1.toList 0 _ _ _ _ rfl (hY hqq vx vy (lvx.trans lx)) sY
   exact aEx f1
  cases e0<;>cases e<;>simp only [Ex.rel]at hrel<;>simp only [KX,aIv]at hk
  ·exact fin hk
  ·exact hk.elim
  ·exact hk.elim
  ·exact fin hk
  ·exact finp _ hrel hk
 have s0:Sat ⟨w,ρ.S,λ_=>False,tW pin,ρ,none,[],0⟩ fn.ntmps ⟨cT 0 args,roH hp⟩ { tmps:=vs++Array.replicate (fn.ntmps - vs.size) undef,defers:=[] } w:=by
  refine⟨?_,rfl,ρ,hm,hfs⟩
  simp only [Array.size_append,Array.size_replicate]
  have:=hargs.1
  omega
 have:=qO (C:=⟨P,ti,tW pin,fn.ntmps,keep,0,none,zc,frz⟩) hti (all:=opsA.toList) (E:=⟨w,ρ.S,λ_=>False,tW pin,ρ,none,[],0⟩) (Q:=Exit.then ((Code.seq (.region j #[mk,df] false) B).wpIn (FW none) 0 P (bodyPostM (FW none) 0 P fn (nA post w ρ))) (bodyPostM (FW none) 0 P fn (nA post w ρ))) rfl (λfr hp a w hk hs=>key fr hp a w hk hs) (λ_ _ _ _ _ _ hk=>hk.elim) opsA.toList 0 _ _ _ _ rfl hA s0
 exact aEx this
end
end Go.Proofs.YtbobcfjlbcgchaaGreatDoor
namespace Go.Proofs.YtbobcfjlbcgchaaGreatDoor
open Go.Proofs Go.RowKit
set_option maxRecDepth 10000
attribute [local irreducible] aJ aF Tri aG YVC bS aQ
theorem xO {α:Type}{rd:Rd α}{wr:α->List UInt8×Int}{zero:α}{bad:Int}{b c:List UInt8}{x:α}(h:rd b=some (x,c)):tY rd wr zero bad b=if c=[]/\wr x=(b,0)then (x,0)else (zero,bad):=by
 unfold tY
 rw [h]
 cases c with
 |nil=>simp
 |cons _ _=>simp
theorem aDr {α:Type}{rd:Rd α}{wr:α->List UInt8×Int}{zero:α}{bad:Int}{b:List UInt8}(h:rd b=none):tY rd wr zero bad b=(zero,bad):=by
 unfold tY;rw [h]
theorem mY (a b:List UInt8):Tri Tryz.prog 53 [.d (.sl 1 (a.map bE)), .d (.sl 1 (b.map bE))] [] (λr=>r= .d (.bool (decide (a=b)))):=by
 have ha:=rX a
 have hb:=rX b
 refine aP hty Tryz.func53 rfl (kp [0,1,4]) [] _ _ _ (by simp [Tryz.f53]) (by simp) ?_
 ((conv=>whnf);repeat' ((first|(intro hq;(try simp only [lnS]at hq);(try rewrite [List.length_map]))|refine sJ ?_|refine .intro _ (.intro rfl ?_)|refine exL (k:= ?_)|refine dwR ?_|((first|refine aA ?_ ?_|refine aC ?_ ?_)<;>intro hb<;>(first|exact ddX hb|try simp only [lnS]at hb))|(refine aB ?_ ?_<;>intro hb<;>try exact dsX hb))<;>(conv=>whnf)))
 rw [ha,hb]
 rfl
theorem aBo {α:Type}{l:List α}{n:Nat}(h:l.length=n+1): ∃c m,l=c::m/\m.length=n:=by
 cases l with
 |nil=>cases h
 |cons c m=>exact⟨c,m,rfl,by simpa using h⟩
def aRn:Dig:=⟨List.replicate 32 0,rfl⟩
end Go.Proofs.YtbobcfjlbcgchaaGreatDoor
namespace Go.Proofs.YtbobcfjlbcgchaaGreatDoor
structure CW {V:Type} (E:V->V->Bool->Prop) (L:Nat) (w:Nat->V) (t:Nat->Bool):Prop where
 edge: ∀i,i < L->E (w i) (w (i+1)) (t i)
 closed:w L=w 0
 strict: ∃i,i < L/\t i=true
def nR {V:Type}(E:V->V->Bool->Prop):Prop:= ∃L w t,CW E L w t
theorem CW.cut {V:Type}{E:V->V->Bool->Prop}{L:Nat}{w:Nat->V}{t:Nat->Bool}(h:CW E L w t) {i j:Nat}(hij:i < j) (hj:j < L) (he:w i=w j):
  ∃L' w' t',L' < L/\CW E L' w' t':=by
 obtain⟨k,hk,hs⟩:=h.strict
 by_cases hin:i<=k/\k < j
 ·refine⟨j - i,λn=>w (i+n),λn=>t (i+n),by omega,⟨λn hn=> ?_, ?_,k - i,by omega, ?_⟩⟩
  ·exact h.edge (i+n) (by omega)
  ·show w (i+(j - i))=w (i+0)
   rw [show i+(j - i)=j by omega,Nat.add_zero,he]
  ·show t (i+(k - i))=true
   rw [show i+(k - i)=k by omega,hs]
 ·refine⟨L - (j - i),λn=>if n<=i then w n else w (n+(j - i)),λn=>if n < i then t n else t (n+(j - i)),by omega,⟨λn hn=> ?_, ?_, ?_⟩⟩
  ·show E (if n<=i then w n else w (n+(j - i))) (if n+1<=i then w (n+1)else w (n+1+(j - i))) (if n < i then t n else t (n+(j - i)))
   by_cases h1:n < i
   ·rw [if_pos (by omega),if_pos (by omega),if_pos h1]
    exact h.edge n (by omega)
   ·rw [if_neg (by omega:¬ n+1<=i),if_neg h1]
    have h2:=h.edge (n+(j - i)) (by omega)
    rw [show n+(j - i)+1=n+1+(j - i)by omega]at h2
    by_cases h3:n=i
    ·subst h3
     rw [if_pos (Nat.le_refl _),he]
     rw [show n+(j - n)=j by omega]at h2 |-
     exact h2
    ·rw [if_neg (by omega)]
     exact h2
  ·show (if L - (j - i)<=i then w (L - (j - i))else w (L - (j - i)+(j - i)))=(if 0<=i then w 0 else w (0+(j - i)))
   rw [if_neg (by omega),if_pos (by omega),show L - (j - i)+(j - i)=L by omega]
   exact h.closed
  ·by_cases h1:k < i
   ·exact⟨k,by omega,by show (if k < i then t k else t (k+(j - i)))=true;rw [if_pos h1,hs]⟩
   ·refine⟨k - (j - i),by omega, ?_⟩
    show (if k - (j - i) < i then t (k - (j - i))else t (k - (j - i)+(j - i)))=true
    rw [if_neg (by omega),show k - (j - i)+(j - i)=k by omega,hs]
theorem nR.least {V:Type}{E:V->V->Bool->Prop}(h:nR E): ∃L w t,CW E L w t/\(∀L' w' t',L' < L->¬ CW E L' w' t')/\ ∀i j,i < j->j < L->w i≠w j:=by
 obtain⟨L,w,t,h⟩:=h
 induction L using Nat.strongRecOn generalizing w t with
 |ind L ih=>
  by_cases hc: ∃L' w' t',L' < L/\CW E L' w' t'
  ·obtain⟨L',w',t',hl,h'⟩:=hc
   exact ih L' hl w' t' h'
  ·exact⟨L,w,t,h,λL' w' t' hl h'=>hc ⟨L',w',t',hl,h'⟩,λi j hij hj he=>hc (h.cut hij hj he)⟩
theorem uL {V:Type}: ∀(l m:List V),l.Nodup->(∀x∈l,x∈m)->l.length<=m.length
 | [],m,_,_=>by simp
 |a::r,m,hn,hs=>by
  rw [List.nodup_cons]at hn
  obtain⟨m1,m2,rfl⟩:=List.append_of_mem (hs a (List.mem_cons_self ..))
  have:=uL r (m1++m2) hn.2 λx hx=>by
   have h1:=hs x (List.mem_cons_of_mem _ hx)
   rw [List.mem_append,List.mem_cons]at h1
   rw [List.mem_append]
   rcases h1 with h1|h1|h1
   ·exact .inl h1
   ·subst h1;exact absurd hx hn.1
   ·exact .inr h1
  simp only [List.length_append,List.length_cons]at this |-
  omega
theorem aVd {V:Type}{w:Nat->V}{L:Nat}{m:List V}(hi: ∀i j,i < j->j < L->w i≠w j) (hm: ∀i,i < L->w i∈m):L<=m.length:=by
 have h := uL ((List.range L).map w) m (by
  rw [List.Nodup,List.pairwise_map]
  refine List.pairwise_iff_getElem.2 λi j h1 h2 h3=> ?_
  simp only [List.getElem_range]
  exact hi i j h3 (by simpa using h2)) (by
  intro x hx
  obtain⟨i,hi',rfl⟩:=List.mem_map.1 hx
  exact hm i (List.mem_range.1 hi'))
 simpa using h
inductive Wlk {V:Type} (E:V->V->Bool->Prop) (a:V):Nat->V->Bool->Prop
 |nil:Wlk E a 0 a false
 |snoc {n b c s t}:Wlk E a n b s->E b c t->Wlk E a (n+1) c (s || t)
theorem CW.wlk {V:Type}{E:V->V->Bool->Prop}{L:Nat}{w:Nat->V}{t:Nat->Bool}(h:CW E L w t): ∀n,n<=L->Wlk E (w 0) n (w n) ((List.range n).any t)
 | 0,_=> .nil
 |n+1,hn=>by
  have h1:=(h.wlk n (by omega)).snoc (h.edge n (by omega))
  rw [List.range_succ,List.any_append]
  simpa using h1
theorem Wlk.cw {V:Type}{E:V->V->Bool->Prop}{a:V}: ∀{n:Nat}{b:V}{s:Bool},Wlk E a n b s-> ∃(w:Nat->V) (t:Nat->Bool),w 0=a/\w n=b/\(∀i,i < n->E (w i) (w (i+1)) (t i))/\((List.range n).any t=s)
 |_,_,_, .nil=>⟨λ_=>a,λ_=>false,rfl,rfl,by omega,rfl⟩
 |n+1,c,_, .snoc (b:=b) (s:=s) (t:=t) h he=>by
  obtain⟨w,u,h0,hn,hE,hs⟩:=h.cw
  refine⟨λi=>if i<=n then w i else c,λi=>if i < n then u i else t, ?_, ?_,λi hi=> ?_, ?_⟩
  ·show (if 0<=n then w 0 else c)=a
   rw [if_pos (by omega),h0]
  ·show (if n+1<=n then _ else c)=c
   rw [if_neg (by omega)]
  ·show E (if i<=n then w i else c) (if i+1<=n then w (i+1)else c) (if i < n then u i else t)
   by_cases h1:i < n
   ·rw [if_pos (by omega),if_pos (by omega),if_pos h1];exact hE i h1
   ·have h2:i=n:=by omega
    subst h2
    rw [if_pos (Nat.le_refl _),if_neg (by omega),if_neg h1,hn];exact he
  ·rw [List.range_succ,List.any_append]
   simp only [List.any_cons,List.any_nil,Bool.or_false,Nat.lt_irrefl,if_false]
   rw [<-hs]
   congr 1
   have: ∀i∈List.range n,(if i < n then u i else t)=u i:= λi hi=>if_pos (List.mem_range.1 hi)
   rw [Bool.eq_iff_iff,List.any_eq_true,List.any_eq_true]
   constructor
   ·rintro⟨i,hi,h⟩;exact⟨i,hi,by rw [<-this i hi];exact h⟩
   ·rintro⟨i,hi,h⟩;exact⟨i,hi,by rw [this i hi];exact h⟩
theorem aBr {V:Type}{E:V->V->Bool->Prop}:nR E↔ ∃a n,Wlk E a n a true:=by
 constructor
 ·rintro⟨L,w,t,h⟩
  refine⟨w 0,L, ?_⟩
  have h1:=h.wlk L (Nat.le_refl _)
  rw [h.closed]at h1
  obtain⟨i,hi,hs⟩:=h.strict
  rwa [List.any_eq_true.2 ⟨i,List.mem_range.2 hi,hs⟩]at h1
 ·rintro⟨a,n,h⟩
  obtain⟨w,t,h0,hn,hE,hs⟩:=h.cw
  obtain⟨i,hi,ht⟩:=List.any_eq_true.1 hs
  exact⟨n,w,t,hE,by rw [hn,h0],i,List.mem_range.1 hi,ht⟩
theorem Wlk.mono {V:Type}{E F:V->V->Bool->Prop}(h: ∀a b t,E a b t-> ∃t',F a b t'/\(t=true->t'=true)) {a:V}: ∀{n:Nat}{b:V}{s:Bool},Wlk E a n b s-> ∃s',Wlk F a n b s'/\(s=true->s'=true)
 |_,_,_, .nil=>⟨false, .nil,id⟩
 |_,_,_, .snoc (s:=s) (t:=t) hw he=>by
  obtain⟨s',h1,h2⟩:=hw.mono h
  obtain⟨t',h3,h4⟩:=h _ _ _ he
  refine⟨_, .snoc h1 h3, ?_⟩
  cases s<;>cases t<;>simp_all
theorem nR.mono {V:Type}{E F:V->V->Bool->Prop}(h: ∀a b t,E a b t-> ∃t',F a b t'/\(t=true->t'=true)) (hc:nR E):nR F:=by
 obtain⟨a,n,hw⟩:=aBr.1 hc
 obtain⟨s',h1,h2⟩:=hw.mono h
 rw [h2 rfl]at h1
 exact aBr.2 ⟨a,n,h1⟩
theorem nR.dom {V:Type}{E:V->V->Bool->Prop}(hc:nR E):nR (λa b t=>E a b t/\ ∃c u,E b c u):=by
 obtain⟨L,w,t,h⟩:=hc
 obtain⟨k,hk,hs⟩:=h.strict
 refine⟨L,w,t,λi hi=>⟨h.edge i hi, ?_⟩,h.closed,k,hk,hs⟩
 by_cases h1:i+1 < L
 ·exact⟨_,_,h.edge (i+1) h1⟩
 ·rw [show i+1=L by omega,h.closed]
  exact⟨_,_,h.edge 0 (by omega)⟩
theorem nR.map {V W:Type}{E:V->V->Bool->Prop}{F:W->W->Bool->Prop}(f:V->W) (h: ∀a b t,E a b t->F (f a) (f b) t) (hc:nR E):nR F:=by
 obtain⟨L,w,t,h0⟩:=hc
 exact⟨L,λi=>f (w i),t,λi hi=>h _ _ _ (h0.edge i hi),congrArg f h0.closed,h0.strict⟩
structure Way where
 role:Nat
 strict:Bool
 before:Nat
 many:Nat
abbrev Adj:=List (List (Nat×Bool))
def lK (G:Adj) (i:Nat):List (Nat×Bool):=(G[i]?).getD []
def EG (G:Adj) (i j:Nat) (t:Bool):Prop:=(j,t)∈lK G i
def aSl (p:Bool×Bool) (s:Bool):Bool:=if s then p.2 else p.1
def oA (S:List (Bool×Bool)) (v:Nat) (s:Bool):Bool:=aSl ((S[v]?).getD (false,false)) s
def aCz (p:Bool×Bool) (s:Bool):Bool×Bool:=if s then (p.1,true)else (true,p.2)
structure Bfs (G:Adj) (n start at' k:Nat) (W:List Way) (S:List (Bool×Bool)):Prop where
 len:S.length=n
 first:W[0]? =some ⟨start,false,0,0⟩
 sound: ∀w∈W,Wlk (EG G) start w.many w.role w.strict/\w.role < n
 before: ∀(i:Nat) w,W[i]? =some w->0 < i->w.before < i
 mono: ∀(i j:Nat) x y,i<=j->W[i]? =some x->W[j]? =some y->x.many<=y.many
 bound: ∀x,W[at']? =some x-> ∀w∈W,w.many<=x.many+1
 seen: ∀v s,oA S v s=true↔ ∃w∈W,w.role=v/\w.strict=s
 once:(W.map λw=>(w.role,w.strict)).Nodup
 done: ∀(i:Nat) w (m j:Nat) t,W[i]? =some w->(lK G w.role)[m]? =some (j,t)->(i < at'\/i=at'/\m < k)->¬ (j=start/\(w.strict || t)=true)/\ ∃w'∈W,w'.role=j/\w'.strict=(w.strict || t)/\w'.many<=w.many+1
theorem aNj {α:Type}{l:List α}{i:Nat}{a:α}(h:l.length<=i):(l[i]?).getD a=a:=by rw [List.getElem?_eq_none h];rfl
theorem aGh {S:List (Bool×Bool)}{j:Nat}(hj:j < S.length) (s:Bool) (v:Nat) (s':Bool):
  oA (S.set j (aCz ((S[j]?).getD (false,false)) s)) v s'=true↔oA S v s'=true\/(v=j/\s'=s):=by
 unfold oA
 rw [List.getElem?_set]
 by_cases h:j=v
 ·subst h
  rw [if_pos rfl,if_pos hj]
  simp only [Option.getD_some]
  generalize (S[j]?).getD (false,false)=p
  obtain⟨a,b⟩:=p
  cases s<;>cases s'<;>cases a<;>cases b<;>simp [aSl,aCz]
 ·rw [if_neg h]
  constructor
  ·exact .inl
  ·rintro(h1|⟨rfl,_⟩)
   ·exact h1
   ·exact absurd rfl h
theorem aPe (n v:Nat) (s:Bool):oA (List.replicate n (false,false)) v s=false:=by
 unfold oA
 rw [List.getElem?_replicate]
 split<;>cases s<;>rfl
theorem Bfs.init {G:Adj}{n start:Nat}(h:start < n):Bfs G n start 0 0 [⟨start,false,0,0⟩] ((List.replicate n (false,false)).set start (true,false)) where
 len:=by simp
 first:=rfl
 sound:=by
  intro w hw
  simp only [List.mem_singleton]at hw
  subst hw
  exact⟨.nil,h⟩
 before:=by
  intro i w hi h0
  rw [List.getElem?_eq_none (by simp;omega)]at hi
  cases hi
 mono:=by
  intro i j x y hij hx hy
  have hi:i=0:=by have:=(List.getElem?_eq_some_iff.1 hx).1;simp at this;exact this
  have hj:j=0:=by have:=(List.getElem?_eq_some_iff.1 hy).1;simp at this;exact this
  subst hi hj
  rw [hx]at hy
  cases hy
  exact Nat.le_refl _
 bound:=by
  intro x hx w hw
  simp only [List.mem_singleton]at hw
  subst hw
  exact Nat.zero_le _
 seen:=by
  intro v s
  have h1:=aGh (S:=List.replicate n (false,false)) (j:=start) (by simpa using h) false v s
  rw [aPe,List.getElem?_replicate,if_pos h]at h1
  simp only [List.mem_singleton]
  refine(show _↔_ from h1).trans ?_
  constructor
  ·rintro(h2|⟨rfl,rfl⟩)
   ·cases h2
   ·exact⟨_,rfl,rfl,rfl⟩
  ·rintro⟨w,rfl,rfl,rfl⟩
   exact .inr ⟨rfl,rfl⟩
 once:=by simp
 done:=by
  intro i w m j t _ _ h
  omega
theorem Bfs.found {G:Adj}{n start at' k:Nat}{W:List Way}{S:List (Bool×Bool)}(h:Bfs G n start at' k W S) {w:Way}(hw:w∈W) {t:Bool}(he:EG G w.role start t) (hs:(w.strict || t)=true):nR (EG G):=by
 have h1:=(h.sound w hw).1.snoc he
 rw [hs]at h1
 exact aBr.2 ⟨_,_,h1⟩
theorem Bfs.skip {G:Adj}{n start at' k:Nat}{W:List Way}{S:List (Bool×Bool)}(h:Bfs G n start at' k W S) {w:Way}(hw:W[at']? =some w) {j:Nat}{t:Bool}
  (hk:(lK G w.role)[k]? =some (j,t)) (hc:¬ (j=start/\(w.strict || t)=true)) (hs:oA S j (w.strict || t)=true):Bfs G n start at' (k+1) W S:=
 { h with
  done:= λi w' m j' t' h1 h2 h3=>by
   by_cases he:i=at'/\m=k
   ·obtain⟨rfl,rfl⟩:=he
    rw [hw]at h1;cases h1
    rw [hk]at h2;cases h2
    refine⟨hc, ?_⟩
    obtain⟨x,hx,e1,e2⟩:=(h.seen _ _).1 hs
    exact⟨x,hx,e1,e2,h.bound w hw x hx⟩
   ·exact h.done i w' m j' t' h1 h2 (by omega) }
theorem Bfs.push {G:Adj}{n start at' k:Nat}{W:List Way}{S:List (Bool×Bool)}(h:Bfs G n start at' k W S) {w:Way}(hw:W[at']? =some w) {j:Nat}{t:Bool}(hj:j < n)
  (hk:(lK G w.role)[k]? =some (j,t)) (hc:¬ (j=start/\(w.strict || t)=true)) (hs:oA S j (w.strict || t)=false):
  Bfs G n start at' (k+1) (W++[⟨j,w.strict || t,at',w.many+1⟩]) (S.set j (aCz ((S[j]?).getD (false,false)) (w.strict || t))):=by
 have hlt:at' < W.length:=(List.getElem?_eq_some_iff.1 hw).1
 have hwm:w∈W:=List.mem_of_getElem? hw
 have hg: ∀(i:Nat) x,(W++[⟨j,w.strict || t,at',w.many+1⟩])[i]? =some x->W[i]? =some x\/(i=W.length/\x=⟨j,w.strict || t,at',w.many+1⟩):=by
  intro i x hx
  rw [List.getElem?_append]at hx
  split at hx
  ·exact .inl hx
  ·rename_i hi
   have h2:=(List.getElem?_eq_some_iff.1 hx).1
   simp only [List.length_singleton]at h2
   have h3:i=W.length:=by omega
   subst h3
   simp only [Nat.sub_self,List.getElem?_cons_zero,Option.some.injEq]at hx
   exact .inr ⟨rfl,hx.symm⟩
 have hE:EG G w.role j t:=List.mem_of_getElem? hk
 refine { len:=by rw [List.length_set];exact h.len,first:= ?_,sound:= ?_,before:= ?_,mono:= ?_,bound:= ?_,seen:= ?_,once:= ?_,done:= ?_ }
 ·rw [List.getElem?_append_left (by omega)];exact h.first
 ·intro x hx
  rcases List.mem_append.1 hx with hx|hx
  ·exact h.sound x hx
  ·simp only [List.mem_singleton]at hx
   subst hx
   exact⟨(h.sound w hwm).1.snoc hE,hj⟩
 ·intro i x hx h0
  rcases hg i x hx with hx|⟨rfl,rfl⟩
  ·exact h.before i x hx h0
  ·exact hlt
 ·intro a b x y hab hx hy
  rcases hg b y hy with hy|⟨rfl,rfl⟩
  ·rcases hg a x hx with hx|⟨rfl,rfl⟩
   ·exact h.mono a b x y hab hx hy
   ·have:=(List.getElem?_eq_some_iff.1 hy).1;omega
  ·rcases hg a x hx with hx|⟨ha,rfl⟩
   ·exact h.bound w hw x (List.mem_of_getElem? hx)
   ·exact Nat.le_refl _
 ·intro x hx y hy
  rw [List.getElem?_append_left hlt,hw]at hx
  cases hx
  rcases List.mem_append.1 hy with hy|hy
  ·exact h.bound w hw y hy
  ·simp only [List.mem_singleton]at hy
   subst hy
   exact Nat.le_refl _
 ·intro v s
  rw [aGh (by rw [h.len];exact hj),h.seen]
  constructor
  ·rintro(⟨x,hx,e⟩|⟨rfl,rfl⟩)
   ·exact⟨x,List.mem_append_left _ hx,e⟩
   ·exact⟨_,List.mem_append_right _ (List.mem_singleton.2 rfl),rfl,rfl⟩
  ·rintro⟨x,hx,e1,e2⟩
   rcases List.mem_append.1 hx with hx|hx
   ·exact .inl ⟨x,hx,e1,e2⟩
   ·simp only [List.mem_singleton]at hx
    subst hx
    exact .inr ⟨e1.symm,e2.symm⟩
 ·rw [List.map_append,List.nodup_append]
  refine⟨h.once,by simp, ?_⟩
  intro a ha b hb hab
  subst hab
  simp only [List.map_cons,List.map_nil,List.mem_singleton]at hb
  subst hb
  obtain⟨x,hx,he⟩:=List.mem_map.1 ha
  injection he with e1 e2
  have:=(h.seen j (w.strict || t)).2 ⟨x,hx,e1,e2⟩
  rw [hs]at this;cases this
 ·intro i x m j' t' h1 h2 h3
  have hi:i<=at':=by omega
  rcases hg i x h1 with h1'|⟨rfl,_⟩
  ·clear h1
   have h1:=h1'
   by_cases he:i=at'/\m=k
   ·obtain⟨rfl,rfl⟩:=he
    rw [hw]at h1;cases h1
    rw [hk]at h2;cases h2
    exact⟨hc,_,List.mem_append_right _ (List.mem_singleton.2 rfl),rfl,rfl,Nat.le_refl _⟩
   ·obtain⟨e1,y,hy,e2⟩:=h.done i x m j' t' h1 h2 (by omega)
    exact⟨e1,y,List.mem_append_left _ hy,e2⟩
  ·omega
theorem Bfs.next {G:Adj}{n start at' k:Nat}{W:List Way}{S:List (Bool×Bool)}(h:Bfs G n start at' k W S) {w:Way}(hw:W[at']? =some w) (hk:(lK G w.role).length<=k):Bfs G n start (at'+1) 0 W S:=
 { h with
  bound:= λx hx y hy=>Nat.le_trans (h.bound w hw y hy) (Nat.succ_le_succ (h.mono _ _ _ _ (Nat.le_succ _) hw hx))
  done:= λi x m j t h1 h2 h3=>by
   refine h.done i x m j t h1 h2 ?_
   by_cases hi:i=at'
   ·subst hi
    rw [hw]at h1;cases h1
    have:=(List.getElem?_eq_some_iff.1 h2).1
    exact .inr ⟨rfl,by omega⟩
   ·omega }
theorem Bfs.none {G:Adj}{n start at':Nat}{W:List Way}{S:List (Bool×Bool)}(h:Bfs G n start at' 0 W S) {most:Nat}(hat: ∀w,W[at']? =some w->most<=w.many+1):
  ∀L w t,CW (EG G) L w t->w 0=start->¬ L < most:=by
 have hp: ∀(i:Nat) (w:Way),W[i]? =some w->w.many+1 < most->i < at':=by
  intro i w hi hm
  by_cases h1:i < at'
  ·exact h1
  ·have h2:at' < W.length:=by have:=(List.getElem?_eq_some_iff.1 hi).1;omega
   have h3:=List.getElem?_eq_getElem h2
   have h4:=hat _ h3
   have h5:=h.mono at' i _ _ (by omega) h3 hi
   omega
 have key: ∀k v s,Wlk (EG G) start k v s->k < most-> ∃(i:Nat) (w:Way),W[i]? =some w/\w.role=v/\w.strict=s/\w.many<=k:=by
  intro k
  induction k with
  |zero=>
   intro v s hw _
   cases hw
   exact⟨0,_,h.first,rfl,rfl,Nat.le_refl _⟩
  |succ k ih=>
   intro v s hw hk
   cases hw with
   |snoc hw he=>
    rename_i b s t
    obtain⟨i,x,hi,e1,e2,e3⟩:=ih b s hw (by omega)
    obtain⟨m,hm,hmt⟩:=List.getElem_of_mem he
    subst e1
    obtain⟨_,y,hy,f1,f2,f3⟩:=h.done i x m v t hi (by rw [List.getElem?_eq_getElem hm,hmt]) (.inl (hp i x hi (by omega)))
    obtain⟨q,hq,rfl⟩:=List.getElem_of_mem hy
    exact⟨q,_,List.getElem?_eq_getElem hq,f1,by rw [f2,e2],by omega⟩
 intro L w t hc h0 hL
 obtain⟨q,hq,hs⟩:=hc.strict
 have h1:=hc.wlk L (Nat.le_refl _)
 have hb:=List.any_eq_true.2 ⟨q,List.mem_range.2 hq,hs⟩
 rw [hc.closed,h0]at h1
 generalize (List.range L).any t=sb at h1 hb
 generalize hst0:start=fin at h1
 cases h1 with
 |nil=>cases hb
 |snoc hw he=>
  subst hst0
  rename_i m b s t'
  obtain⟨i,x,hi,e1,e2,e3⟩:=key m b s hw (by omega)
  obtain⟨p,hpp,hmt⟩:=List.getElem_of_mem he
  subst e1
  exact(h.done i x p start t' hi (by rw [List.getElem?_eq_getElem hpp,hmt]) (.inl (hp i x hi (by omega)))).1 ⟨rfl,by rw [e2];exact hb⟩
theorem Bfs.few {G:Adj}{n start at' k:Nat}{W:List Way}{S:List (Bool×Bool)}(h:Bfs G n start at' k W S):W.length<=2 * n:=by
 have := uL (W.map λw => (w.role, w.strict)) ((List.range n).map (λi => (i, false)) ++ (List.range n).map (λi => (i, true))) h.once (by
  intro x hx
  obtain⟨w,hw,rfl⟩:=List.mem_map.1 hx
  have:=(h.sound w hw).2
  rw [List.mem_append]
  cases hs:w.strict
  ·exact .inl (List.mem_map.2 ⟨_,List.mem_range.2 this,rfl⟩)
  ·exact .inr (List.mem_map.2 ⟨_,List.mem_range.2 this,rfl⟩))
 simp at this
 omega
theorem Bfs.many {G:Adj}{n start at' k:Nat}{W:List Way}{S:List (Bool×Bool)}(h:Bfs G n start at' k W S) {w:Way}(hw:w∈W) {x:Way}(hx:W[at']? =some x):w.many<=x.many+1:=h.bound x hx w hw
theorem aOb {G:Adj}{i j:Nat}{t:Bool}(h:EG G i j t):i < G.length:=by
 unfold EG lK at h
 by_cases hi:i < G.length
 ·exact hi
 ·rw [aNj (by omega)]at h;cases h
theorem aO6 {G:Adj}(h:nR (EG G)): ∃L w t,CW (EG G) L w t/\w 0 < G.length/\L < G.length+1:=by
 obtain⟨L,w,t,hc,_,hi⟩:=h.least
 have h1:=aVd (m:=List.range G.length) hi λi hi=>List.mem_range.2 (aOb (hc.edge i hi))
 obtain⟨q,hq,_⟩:=hc.strict
 exact⟨L,w,t,hc,aOb (hc.edge 0 (by omega)),by simpa using Nat.lt_succ_of_le h1⟩
end Go.Proofs.YtbobcfjlbcgchaaGreatDoor
namespace Go.Proofs.YtbobcfjlbcgchaaGreatDoor
abbrev Str:=List UInt8
abbrev Stp:=Str×Str×Bool
abbrev Pth:=List Str×Bool
def ET (T:List Stp) (a b:Str) (t:Bool):Prop:=(a,b,t)∈T
def aD5 (p:Pth):Str:=(p.1[p.1.length - 1]?).getD []
def aGj (x y:Pth):Bool:=decide (y.2=x.2) && decide ((y.1[x.1.length - 1]?).getD []=aD5 x)
def aJl (f:Nat->Bool):Nat->Option Nat
 | 0=>none
 |n+1=>if f n then some n else aJl f n
def aVa (lt:Str->Str->Bool):List Str->List Str->Bool
 |a::r,b::s=>if a≠b then lt a b else aVa lt r s
 |_,_=>false
def aUa (lt:Str->Str->Bool) (out:List Pth) (x:Pth):List Pth:=
 match aJl (λn=>match out[n]? with|some y=>aGj x y|none=>false) out.length with
 |none=>out++[x]
 |some i=>if aVa lt x.1 ((out[i]?).getD ([],false)).1 then out.set i x else out
def aYd (lt:Str->Str->Bool) (p:Pth) (out:List Pth) (k:Stp):List Pth:=
 if k.1≠aD5 p\/k.2.1∈p.1 then out else aUa lt out (p.1++[k.2.1],p.2 || k.2.2)
def aTr (T:List Stp) (p:Pth):Bool:=T.any λk=>decide (k.1=aD5 p) && (decide (k.2.1=(p.1[0]?).getD []) && (p.2 || k.2.2))
structure PathOk (E:Str->Str->Bool->Prop) (s:Str) (n:Nat) (p:Pth):Prop where
 ex: ∃(w:Nat->Str) (t:Nat->Bool),p.1=(List.range (n+1)).map w/\w 0=s/\(∀i,i < n->E (w i) (w (i+1)) (t i))/\p.2=(List.range n).any t
theorem PathOk.len {E:Str->Str->Bool->Prop}{s:Str}{n:Nat}{p:Pth}(h:PathOk E s n p):p.1.length=n+1:=by
 obtain⟨w,t,h1,_⟩:=h.ex
 rw [h1];simp
theorem zZ {f:Nat->Bool}: ∀{n i:Nat},aJl f n=some i->i < n/\f i=true
 | 0,i,h=>by cases h
 |n+1,i,h=>by
  rw [aJl]at h
  split at h
  ·cases h;exact⟨by omega,by assumption⟩
  ·have:=zZ h;exact⟨by omega,this.2⟩
theorem aA0 {f:Nat->Bool}: ∀{n:Nat},aJl f n=none-> ∀i,i < n->f i=false
 | 0,_,i,h=>by omega
 |n+1,h,i,hi=>by
  rw [aJl]at h
  split at h
  ·cases h
  ·rename_i h1
   by_cases e:i=n
   ·subst e;simpa using h1
   ·exact aA0 h i (by omega)
theorem aPq {lt:Str->Str->Bool}{out:List Pth}{x y:Pth}(h:y∈aUa lt out x):y∈out\/y=x:=by
 unfold aUa at h
 split at h
 ·simpa using h
 ·split at h
  ·exact(List.mem_or_eq_of_mem_set h)
  ·exact .inl h
def key (n:Nat) (p:Pth):Str×Bool:=((p.1[n]?).getD [],p.2)
theorem yF {w:Nat->Str}{n:Nat}{b:Bool}:aD5 ((List.range (n+1)).map w,b)=w n:=by
 unfold aD5
 simp
theorem PathOk.ext {T:List Stp}{s:Str}{n:Nat}{p:Pth}(h:PathOk (ET T) s n p) {k:Stp}(hk:k∈T) (h1:k.1=aD5 p):PathOk (ET T) s (n+1) (p.1++[k.2.1],p.2 || k.2.2):=by
 obtain⟨w,t,e1,e2,e3,e4⟩:=h.ex
 have hl:aD5 p=w n:=by
  have:p=((List.range (n+1)).map w,p.2):=by rw [<-e1]
  rw [this];exact yF
 refine⟨λi=>if i<=n then w i else k.2.1,λi=>if i < n then t i else k.2.2, ?_, ?_,λi hi=> ?_, ?_⟩
 ·show p.1++[k.2.1]=_
  rw [List.range_succ,List.map_append,e1]
  simp only [List.map_cons,List.map_nil]
  rw [if_neg (by omega)]
  congr 1
  refine List.map_congr_left λi hi=> ?_
  rw [if_pos (by have:=List.mem_range.1 hi;omega)]
 ·show (if 0<=n then w 0 else k.2.1)=s
  rw [if_pos (by omega),e2]
 ·show ET T (if i<=n then w i else k.2.1) (if i+1<=n then w (i+1)else k.2.1) (if i < n then t i else k.2.2)
  by_cases hi':i < n
  ·rw [if_pos (by omega),if_pos (by omega),if_pos hi'];exact e3 i hi'
  ·have:i=n:=by omega
   subst this
   rw [if_pos (Nat.le_refl _),if_neg (by omega),if_neg hi',<-hl,<-h1]
   exact hk
 ·show (p.2 || k.2.2)=_
  rw [List.range_succ,List.any_append,e4]
  simp only [List.any_cons,List.any_nil,Bool.or_false,Nat.lt_irrefl,if_false]
  congr 1
  have: ∀i∈List.range n,(if i < n then t i else k.2.2)=t i:= λi hi=>if_pos (List.mem_range.1 hi)
  rw [Bool.eq_iff_iff,List.any_eq_true,List.any_eq_true]
  constructor
  ·rintro⟨i,hi,h⟩;exact⟨i,hi,by rw [this i hi];exact h⟩
  ·rintro⟨i,hi,h⟩;exact⟨i,hi,by rw [<-this i hi];exact h⟩
end Go.Proofs.YtbobcfjlbcgchaaGreatDoor
namespace Go.Proofs.YtbobcfjlbcgchaaGreatDoor
open Go.Proofs
theorem aJ.mid {C:Cfg}{c:Code}{fr:Fr}{hp:Hp}{K:Ex->Fr->Hp->Prop}(FR:Fr) (HP:Hp) (h:aJ C c fr hp (λe fr' hp'=>e= .normal/\Sub fr' hp' FR HP)) (hk:K .normal FR HP):aJ C c fr hp K:=
 λE a w hpin hrd hsat=>wpIn_mono (h E a w hpin hrd hsat) λ_ _ _ ⟨x,fr',hp',E',h0,h1,h2,h3⟩=>by
  cases x with
  |pan=>exact⟨.pan,fr',hp',E',h0,h1,h2,h3⟩
  |normal=>obtain⟨_,hs⟩:=h2;exact⟨.normal,FR,HP,E',h0,h1,hk,h3.sub hs⟩
  |_=>obtain⟨e,_⟩:=h2;cases e
theorem aJ.soft {C:Cfg}{c:Code}{fr:Fr}{hp:Hp}{K:Ex->Fr->Hp->Prop}(i:Nat) {t:TypeId}{cs:List SV}{xs:List D}(ho:aN hp i=some (.cells t cs)) (hx:aTy cs=some xs)
  (h:aJ C c fr (dU hp i (.cells t (xs.map .d))) K):aJ C c fr hp K:=by
 intro E a w hpin hrd hsat
 obtain⟨h1,h2,ρ,h3,h4⟩:=hsat
 obtain⟨l1,l2⟩:=aFv hx
 have m := h3.recell ho (cs' := xs.map .d) (by simp [l1]) (λj s' v hs' hv => by
  rw [List.getElem?_map,Option.map_eq_some_iff]at hs'
  obtain⟨x,hx',rfl⟩:=hs'
  obtain⟨s,hs,hd⟩:=l2 j x hx'
  exact .d _ _ (aHy hd (hv s hs)))
 exact h E a w hpin hrd ⟨h1,h2,ρ,m,h4⟩
end Go.Proofs.YtbobcfjlbcgchaaGreatDoor
