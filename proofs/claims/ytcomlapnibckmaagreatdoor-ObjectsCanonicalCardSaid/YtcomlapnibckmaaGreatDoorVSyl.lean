/-
  The reference of objects: Axioms and Commit. A deferred closure that recovers: in a call that comes back it does nothing; after a panic it runs its body. A function whose deferred closure recovers: what its body is held to. A function whose deferred closure recovers: its end, after a return and after a panic.
  Conditions: none.
-/
import Derived.Test.YtcomlapnibckmaaGreatDoorVPi
import Derived.Test.YtcomlapnibckmaaGreatDoorVOy
import Derived.Test.YtcomlapnibckmaaGreatDoorVSw
import Derived.Test.YtcomlapnibckmaaGreatDoorVSyi
import Derived.RecoverIn
set_option linter.unnecessarySimpa false
set_option linter.unusedSectionVars false
set_option linter.unusedSimpArgs false
set_option linter.unusedVariables false
namespace Go.Proofs.YtcomlapnibckmaaGreatDoor
open Go.Proofs Go.RowKit
set_option maxRecDepth 10000
attribute [local irreducible] aN aH Tri aF YVC cM bB aEp
end Go.Proofs.YtcomlapnibckmaaGreatDoor
namespace Go.Proofs.YtcomlapnibckmaaGreatDoor
open Go.RowKit
section
variable {P:Program}
theorem kE (w:World) {t:TypeId}{ms:Array (String×TypeId)}(b:Bool) (v:Value) (hv:(v= .nilIface/\b=false)\/ ∃tx x,v= .iface tx x/\b=true) (ht:P.underlying t=some (.interface ms)):(binOp .neq t v .nilIface).run P w= .ok (.bool b) w:=by
 have h: ∀d:Nat,(Op.equalIn (d+1) t v .nilIface).run P w= .ok (!b) w:= λd=>by
  rcases hv with⟨rfl,rfl⟩|⟨tx,x,rfl,rfl⟩<;>simp [Op.equalIn,run_underlying ht]
 simp only [binOp]
 simp [Op.equal,Op.maxDepth,h 9999]
theorem aCy {g:FuncId}{gn:Func}{r0:Nat}{rc nq:Oper}{a c:Nat}{tI tJ:TypeId}{ms:Array (String×TypeId)}{Y:Code}(hg:P.funcs[g]? =some gn) (hb:gn.body=some (.seq (.region r0 #[rc,nq] false) (.cond (.tmp c) Y .skip)))
  (h1:rc.op= .call { callee:= .builtin .recover,args:= #[],argTypes:= #[] }) (h2:rc.dst=some a) (h3:rc.guard=none) (h4:nq.op= .binOp .neq tI (.tmp a) (.const .nilIface) tJ) (h5:nq.dst=some c) (h6:nq.guard=none)
  (hI:P.underlying tI=some (.interface ms)) (ha:a < gn.ntmps) (hc:c < gn.ntmps) (hres:gn.results= #[]) {args:Array Value} (hsz:args.size<=gn.ntmps) {n:Nat} {w:World} {R:Ending->FrameMode->World->Prop} (hR: ∀v,R (.returned v) .returning w):
  CallsDIn (FW none) n P g args .returning w R:=by
 refine callsDIn_of_wpSIn hg hb trivial (λc₀ cs hm=> ?_)
 refine wpSIn_seq (wpSIn_region ?_)
 show wpOpsSIn (FW none) n P #[rc,nq] _ [0,1] _ _ _
 have hrec:recoverD (c₀::cs)=none:=by simp [recoverD,hm]
 have w1: ∀y,Region.wanted rc y=true:= λy=>by simp [Region.wanted,h3]
 have w2: ∀y,Region.wanted nq y=true:= λy=>by simp [Region.wanted,h6]
 have e1: ∀ev:Operand->Value,(execOp ev rc).run P w= .ok .recover w:= λev=>by simp [execOp,h1,resolve,invoke,builtin]
 have k1:(#[rc,nq]:Array Oper)[0]? =some rc:=rfl
 have k2:(#[rc,nq]:Array Oper)[1]? =some nq:=rfl
 simp only [wpOpsSIn,k1,k2,w1,w2,if_true,e1,hrec]
 refine⟨λ_ _=>trivial,λ_ _=>trivial, ?_⟩
 generalize hA:({ tmps:=args++Array.replicate (gn.ntmps - args.size) undef,defers:=[] }:Act)=A
 have hAs:A.tmps.size=gn.ntmps:=by rw [<-hA];simp;omega
 have hAd:A.defers=[]:=by rw [<-hA]
 have ev1:(A.put rc.dst .nilIface).eval (.tmp a)= .nilIface:=by
  rw [h2]
  simp [Act.put,Act.eval,hAs,ha]
 have e2:(execOp (A.put rc.dst .nilIface).eval nq).run P w= .ok (.value (.bool false)) w:=by
  have ev2:(A.put rc.dst .nilIface).eval (.const .nilIface)= .nilIface:=rfl
  simp [execOp,h4,ev1,ev2,eqGuard,kE w false .nilIface (.inl ⟨rfl,rfl⟩) hI]
 rw [e2]
 have ev3:((A.put rc.dst .nilIface).put nq.dst (.bool false)).eval (.tmp c)= .bool false:=by
  rw [h5]
  simp [Act.put,Act.eval,h2,hAs,hc]
 refine wpSIn_cond ev3 ?_
 refine wpSIn_of_wpIn rfl (wpIn_skip ?_)
 refine⟨by rw [put_defers,put_defers];exact hAd, .returning, ?_, .tuple #[], ?_,hR _⟩
 ·rw [<-hm]
 ·simp [results,hres]
theorem aF8 {g:FuncId}{gn:Func}{r0:Nat}{rc nq:Oper}{a c:Nat}{tI tJ:TypeId}{ms:Array (String×TypeId)}{Y:Code}(hg:P.funcs[g]? =some gn) (hb:gn.body=some (.seq (.region r0 #[rc,nq] false) (.cond (.tmp c) Y .skip)))
  (h1:rc.op= .call { callee:= .builtin .recover,args:= #[],argTypes:= #[] }) (h2:rc.dst=some a) (h3:rc.guard=none) (h4:nq.op= .binOp .neq tI (.tmp a) (.const .nilIface) tJ) (h5:nq.dst=some c) (h6:nq.guard=none)
  (hI:P.underlying tI=some (.interface ms)) (ha:a < gn.ntmps) (hc:c < gn.ntmps) (hres:gn.results= #[]) {args:Array Value} (hsz:args.size<=gn.ntmps) {n:Nat} {w:World} {R:Ending->FrameMode->World->Prop} {t:TypeId} {x:Value}
  (hY : ∀ A : Act, A.tmps = ((args ++ Array.replicate (gn.ntmps - args.size) undef).setIfInBounds a (.iface t x)).setIfInBounds c (.bool true) -> A.defers = [] ->
   Y.wpIn (FW none) n P (λe a' w'=>(e= .normal\/e= .ret)/\a'.defers=[]/\ ∀v,R (.returned v) (.panicking [{ v:= .iface t x,recovered:=true }]) w') A w):
  CallsDIn (FW none) n P g args (.panicking [{ v:= .iface t x,recovered:=false }]) w R:=by
 refine callsDIn_of_wpSIn hg hb trivial (λc₀ cs hm=> ?_)
 refine wpSIn_seq (wpSIn_region ?_)
 show wpOpsSIn (FW none) n P #[rc,nq] _ [0,1] _ _ _
 have hrec:recoverD (c₀::cs)=some (.iface t x,{ c₀ with mode:= .panicking [{ v:= .iface t x,recovered:=true }] }::cs):=by simp [recoverD,hm]
 have w1: ∀y,Region.wanted rc y=true:= λy=>by simp [Region.wanted,h3]
 have w2: ∀y,Region.wanted nq y=true:= λy=>by simp [Region.wanted,h6]
 have e1: ∀ev:Operand->Value,(execOp ev rc).run P w= .ok .recover w:= λev=>by simp [execOp,h1,resolve,invoke,builtin]
 have k1:(#[rc,nq]:Array Oper)[0]? =some rc:=rfl
 have k2:(#[rc,nq]:Array Oper)[1]? =some nq:=rfl
 simp only [wpOpsSIn,k1,k2,w1,w2,if_true,e1,hrec]
 refine⟨λ_ _=>trivial,λ_ _=>trivial, ?_⟩
 generalize hA:({ tmps:=args++Array.replicate (gn.ntmps - args.size) undef,defers:=[] }:Act)=A
 have hAs:A.tmps.size=gn.ntmps:=by rw [<-hA];simp;omega
 have hAd:A.defers=[]:=by rw [<-hA]
 have ev1:(A.put rc.dst (.iface t x)).eval (.tmp a)= .iface t x:=by
  rw [h2]
  simp [Act.put,Act.eval,hAs,ha]
 have e2:(execOp (A.put rc.dst (.iface t x)).eval nq).run P w= .ok (.value (.bool true)) w:=by
  have ev2:(A.put rc.dst (.iface t x)).eval (.const .nilIface)= .nilIface:=rfl
  simp [execOp,h4,ev1,ev2,eqGuard,kE w true (.iface t x) (.inr ⟨_,_,rfl,rfl⟩) hI]
 rw [e2]
 have ev3:((A.put rc.dst (.iface t x)).put nq.dst (.bool true)).eval (.tmp c)= .bool true:=by
  rw [h5]
  simp [Act.put,Act.eval,h2,hAs,hc]
 refine wpSIn_cond ev3 ?_
 refine wpSIn_of_wpIn rfl (wpIn_mono (hY _ ?_ (by rw [put_defers,put_defers];exact hAd)) ?_)
 ·rw [h2,h5,<-hA];rfl
 ·rintro e a' w' ⟨he,hd,hR⟩
  rcases he with rfl|rfl<;>exact⟨hd,_,rfl, .tuple #[],by simp [results,hres],hR _⟩
end
end Go.Proofs.YtcomlapnibckmaaGreatDoor
namespace Go.Proofs.YtcomlapnibckmaaGreatDoor
open Go.RowKit
section
variable {P:Program}
theorem Mem.relit {E:Entry}{ρ:Env}{hp:Hp}{w:World}(h:Mem E ρ hp w) {i:Nat}{t:TypeId}{cs:List SV}(hi:aO hp i=some (.cells t cs)):
  ∃vs:List Value,vs.length=cs.length/\Mem E ρ (fI hp i (.cells t (vs.map λv=> .d (.lit v)))) w:=by
 obtain⟨g0,g1,⟨cur,c1,c2,c3,c4⟩,g3⟩:=h.sat i _ hi
 refine⟨cur.toList,by simpa using c2, ?_⟩
 refine⟨h.os,h.tape,h.output,h.size,h.old,h.sold,h.snew,h.slt,h.kp, ?_, ?_, ?_,h.mv, ?_,h.md⟩
 ·intro id o ho
  rw [aZ _ hi]at ho
  split at ho
  ·rename_i e;subst e
   injection ho with ho;subst ho
   exact ⟨g0, g1, ⟨cur, c1, by simp, c3, λj s' v hs' hv => by
    rw [List.getElem?_map,Option.map_eq_some_iff]at hs'
    obtain⟨u,hu,rfl⟩:=hs'
    rw [Array.getElem?_toList,hv]at hu
    injection hu with hu
    subst hu
    exact .d _ _ (.lit _)⟩,g3⟩
  ·exact h.sat id o ho
 ·intro id o id' o' g h1 h2 h3 h4
  rw [aZ _ hi]at h1 h2
  have key: ∀k x,(if k=i then some (HObj.cells t (cur.toList.map λv=>SV.d (.lit v)))else aO hp k)=some x->ρ.at k x=some g-> ∃x',aO hp k=some x'/\ρ.at k x'=some g:=by
   intro k x hx hg
   split at hx
   ·rename_i e;subst e
    injection hx with hx;subst hx
    exact⟨_,hi,hg⟩
   ·exact⟨x,hx,hg⟩
  obtain⟨x,a1,a2⟩:=key id o h1 h3
  obtain⟨x',b1,b2⟩:=key id' o' h2 h4
  exact h.inj id x id' x' g a1 b1 a2 b2
 ·intro id o g h1 h3
  rw [aZ _ hi]at h1
  split at h1
  ·rename_i e;subst e
   injection h1 with h1;subst h1
   exact h.hb id _ g hi h3
  ·exact h.hb id o g h1 h3
 ·intro id oR g h1 hrd h2 id' o' h3 h4
  rw [aZ _ hi]at h1 h3
  split at h1
  ·injection h1 with h1;subst h1;exact hrd.elim
  ·split at h3
   ·rename_i e;subst e
    injection h3 with h3;subst h3
    exact h.ro id oR g h1 hrd h2 id' _ hi h4
   ·exact h.ro id oR g h1 hrd h2 id' o' h3 h4
def aIx (x y:Nat) (tx ty:TypeId) (nx:Nat):Fr->Hp->Prop:= λfr hp=>
 eH fr x=some (.ptr x 0)/\eH fr y=some (.ptr y 0)/\(∃cx,aO hp x=some (.cells tx cx)/\cx.length=nx)/\ ∃cy,aO hp y=some (.cells ty [cy])
def KPq (q:Prop) (x y:Nat) (tx ty:TypeId) (nx:Nat):Fr->Hp->Prop:= λfr hp=>q/\aIx x y tx ty nx fr hp
theorem aB0 {mk df:Oper}{B:Code}{g d x y j:Nat}
  (m1:mk.op= .makeFunc (.func g) #[] #[.tmp x, .tmp y]) (m2:mk.dst=some d) (m3:mk.guard=none) (d1:df.op= .defer { callee:= .value (.tmp d),args:= #[],argTypes:= #[] }) (d2:df.dst=none) (d3:df.guard=none)
  {E:Entry} {fr:Fr} {hp:Hp} {nt:Nat} {a:Act} {w:World} {Q:Exit->Act->World->Prop} (hd:d < nt) (hs:Sat E nt ⟨fr,hp⟩ a w) (hE:E.k=0/\E.pin.pre=[]) (hx:eH fr x=some (.ptr x 0)) (hy:eH fr y=some (.ptr y 0)) (ids:List Nat) (kp:Fr->Hp->Prop)
  (hB : ∀ ρ gx gy a', Mem E ρ hp w -> ρ.blk x = some gx -> ρ.blk y = some gy ->
   Sat (bN w ρ hp ⟨ids,kp,[{ target:= .fn (.func g) #[.pointer (some ⟨gx,0,none⟩), .pointer (some ⟨gy,0,none⟩)],args:= #[] }]⟩ none E.D) nt ⟨yO fr d (.fn g [] [.ptr x 0, .ptr y 0]),hp⟩ a' w->B.wpIn (FW none) 0 P Q a' w):
  (Code.seq (.region j #[mk,df] false) B).wpIn (FW none) 0 P Q a w:=by
 obtain⟨h1,h2,ρ,hm,hf⟩:=hs
 have ex: ∃gx,a.eval (.tmp x)= .pointer (some ⟨gx,0,none⟩)/\ρ.blk x=some gx:=by
  obtain⟨v,q1,q2⟩:=hf x _ hx
  cases q2 with
  |ptr id off gx h=>exact⟨gx,by simp [Act.eval,Array.getD_eq_getD_getElem?,q1],h⟩
 have ey: ∃gy,a.eval (.tmp y)= .pointer (some ⟨gy,0,none⟩)/\ρ.blk y=some gy:=by
  obtain⟨v,q1,q2⟩:=hf y _ hy
  cases q2 with
  |ptr id off gx h=>exact⟨gx,by simp [Act.eval,Array.getD_eq_getD_getElem?,q1],h⟩
 obtain⟨gx,ex,bx⟩:=ex
 obtain⟨gy,ey,by_⟩:=ey
 refine wpIn_seq (wpIn_region ?_)
 show wpOpsIn (FW none) 0 P #[mk,df] _ [0,1] a w
 have w1: ∀y,Region.wanted mk y=true:= λy=>by simp [Region.wanted,m3]
 have w2: ∀y,Region.wanted df y=true:= λy=>by simp [Region.wanted,d3]
 have k1:(#[mk,df]:Array Oper)[0]? =some mk:=rfl
 have k2:(#[mk,df]:Array Oper)[1]? =some df:=rfl
 simp only [wpOpsIn,k1,k2,w1,w2,if_true]
 have e1:(execOp a.eval mk).run P w= .ok (.value (.func (.func g) #[] #[.pointer (some ⟨gx,0,none⟩), .pointer (some ⟨gy,0,none⟩)])) w:=by
  simp [execOp,m1,Instr.makeFunc,ex,ey]
 refine⟨λ_ _=>trivial, ?_⟩
 show Oper.uponIn (FW none) 0 P mk a _ _ ((execOp a.eval mk).run P w)
 rw [e1,Oper.uponIn_value]
 refine⟨λ_ _=>trivial, ?_⟩
 generalize hA:a.put mk.dst (.func (.func g) #[] #[.pointer (some ⟨gx,0,none⟩), .pointer (some ⟨gy,0,none⟩)])=A
 have hv:A.eval (.tmp d)= .func (.func g) #[] #[.pointer (some ⟨gx,0,none⟩), .pointer (some ⟨gy,0,none⟩)]:=by
  rw [<-hA,m2]
  have hd':d < a.tmps.size:=by rw [h1];exact hd
  simp [Act.put,Act.eval,hd']
 have e2:(execOp A.eval df).run P w= .ok (.defer { target:= .fn (.func g) #[.pointer (some ⟨gx,0,none⟩), .pointer (some ⟨gy,0,none⟩)],args:= #[] }) w:=by
  simp [execOp,d1,resolve,hv,Deferred.ofValue]
 show Oper.uponIn (FW none) 0 P df A _ _ ((execOp A.eval df).run P w)
 rw [e2,Oper.uponIn_defer,d2]
 refine hB ρ gx gy _ hm bx by_ ⟨?_, ?_,ρ,hm.enter _ none, ?_⟩
 ·show A.tmps.size=nt
  rw [<-hA,bX];exact h1
 ·show _::A.defers=_
  rw [<-hA,put_defers,h2,hE.1,hE.2];simp [bN]
 ·intro t s ht
  rw [fE]at ht
  show ∃v,A.tmps[t]? =some v/\Rep w ρ s v
  rw [<-hA,m2]
  by_cases e:t=d
  ·subst e
   simp at ht
   subst ht
   have hd':t < a.tmps.size:=by rw [h1];exact hd
   refine⟨.func (.func g) #[] #[.pointer (some ⟨gx,0,none⟩), .pointer (some ⟨gy,0,none⟩)],by simp [Act.put,hd'], ?_⟩
   refine .fn g [] [.ptr x 0, .ptr y 0] #[] #[.pointer (some ⟨gx,0,none⟩), .pointer (some ⟨gy,0,none⟩)] rfl rfl (by intro j s v h;simp at h) ?_
   intro j s v q1 q2
   match j with
   | 0=>simp at q1 q2;subst q1;subst q2;exact .ptr x 0 gx bx
   | 1=>simp at q1 q2;subst q1;subst q2;exact .ptr y 0 gy by_
   |j+2=>simp at q1
  ·simp [e]at ht
   obtain⟨v,q1,q2⟩:=hf t s ht
   refine⟨v, ?_,q2⟩
   simp only [Act.put]
   rw [Array.getElem?_setIfInBounds_ne (Ne.symm e)]
   exact q1
end
end Go.Proofs.YtcomlapnibckmaaGreatDoor
namespace Go.Proofs.YtcomlapnibckmaaGreatDoor
open Go.RowKit
section
variable {P:Program}
def iO (post:SV->Prop) (w:World) (ρ:Env) (e:Ending) (w':World):Prop:=
 ∃v S' s,e= .returned v/\post s/\Grew w w'/\(∀b i,ρ.S b i->S' b i)/\(∀b i,S' b i->ρ.S b i\/w.heap.size<=b)/\(∀b i,S' b i->b < w'.heap.size)/\Rep w' (ρ.withS S') s v
theorem aAk {ti:TypeId->Option TI}(hti:cW P ti) {fn:Func}{post:SV->Prop}{w w':World}{ρ ρ':Env}{pinX:Pin}{D:List Nat}{k:Nat}{rd:Option Nat}{fr':Fr}{hp':Hp}{tmps:Array Value}(hm:Mem ⟨w,ρ.S,λ_=>False,pinX,ρ,rd,D,k⟩ ρ' hp' w') (hf:cE ρ' w' fr' tmps)
  (hk:gV ti fr' hp' fn.results.toList (λl=>fW hp' l λl=>(cU l).ids=[]/\post (cU l))):LeavesInM (FW none) 0 P fn tmps (iO post w ρ) [] .returning w':=by
 obtain⟨us,l,r1,r2,r3,r4⟩:=wV hti hm (a:={ tmps:=tmps,defers:=[] }) hf _ _ hk
 obtain⟨l',⟨k1,k2⟩,k3,k4⟩:=hG hm l us _ r2 r3 r4
 refine⟨_,gG (a:={ tmps:=tmps,defers:=[] }) r1,_,Sfz ρ' hp',cU l',rfl,k2,⟨hm.os,hm.tape,hm.output,hm.size,λb hb=>hm.old b hb (λh=>h)⟩,λb i hs=> .inl (hm.sold b i hs), ?_, ?_, ?_⟩
 ·rintro b i (hs|⟨id,e,z,cap,rows,ho,hb,_⟩)
  ·rcases Nat.lt_or_ge b w.heap.size with hlt|hge
   ·exact .inl (hm.snew b i hs hlt (λh=>h))
   ·exact .inr hge
  ·rcases hm.hb id _ b ho hb with hge|hB
   ·exact .inr hge
   ·exact hB.elim
 ·rintro b i (hs|⟨id,e,z,cap,rows,ho,hb,_⟩)
  ·exact hm.slt b i hs
  ·exact hm.blk_lt ho hb
 ·refine(lK (w:=w') (ρ:=ρ'.withS (Sfz ρ' hp')) (l:=l') (by rw [k3];exact r2) k4).mono (λ_ _ _=>rfl) (λ_ _ h=>h) λid hid=> ?_
  rw [k1]at hid
  cases hid
theorem xJ {fn gn:Func}{g:FuncId}{cv:Array Value}{tmps:Array Value}{R:Ending->World->Prop}{u:FrameMode}{w:World}(hu:u≠ .run) (hg:P.funcs[g]? =some gn) (hcall:cO P g=true)
  (h : CallsDIn (FW none) 0 P g cv u w fun
     | .returned _,u',w'=>LeavesInM (FW none) 0 P fn tmps R [] (settle u') w'
     | .panicked chain,u',w'=>LeavesInM (FW none) 0 P fn tmps R [] (raised u' chain) w'
     | .outgrown,_,w'=>R .outgrown w'):LeavesInM (FW none) 0 P fn tmps R [{ target:= .fn (.func g) cv,args:= #[] }] u w:=by
 refine⟨hu, .inr ⟨λh=>(by cases h), .func g,cv,g,cv,rfl, ?_,λ_ _=>trivial,h⟩⟩
 unfold cO at hcall
 rw [hg]at hcall
 simp only [Bool.and_eq_true,Bool.not_eq_true']at hcall
 obtain⟨c1,c2⟩:=hcall
 have c3:gn.body.isNone=false:=by cases hb:gn.body<;>simp_all
 simp only [invoke,callFunc,Sem.run_bind,Sem.run_pure,Result.andThen_ok,run_program,hg,c2,c3,Bool.false_eq_true,if_false]
 simp
end
end Go.Proofs.YtcomlapnibckmaaGreatDoor
