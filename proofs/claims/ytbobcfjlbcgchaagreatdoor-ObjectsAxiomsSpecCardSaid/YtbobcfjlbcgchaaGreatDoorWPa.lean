/-
  Objects: bytes.Equal; what decoding answers; decoding a commit.
  Conditions: none.
-/
import Derived.Test.YtbobcfjlbcgchaaGreatDoorWOl
import Derived.RecoverIn
import Derived.Test.YtbobcfjlbcgchaaGreatDoorWOy
set_option linter.unnecessarySimpa false
set_option linter.unusedSectionVars false
set_option linter.unusedSimpArgs false
set_option linter.unusedVariables false
set_option maxHeartbeats 8000000
namespace Go.Proofs.YtbobcfjlbcgchaaGreatDoor
section
open Go.RowKit
section
variable {P:Program}
theorem sU (w:World) {t:TypeId}{ms:Array (String×TypeId)}(b:Bool) (v:Value) (hv:(v= .nilIface/\b=false)\/ ∃tx x,v= .iface tx x/\b=true) (ht:P.underlying t=some (.interface ms)):(binOp .neq t v .nilIface).run P w= .ok (.bool b) w:=by
 have h: ∀d:Nat,(Op.equalIn (d+1) t v .nilIface).run P w= .ok (!b) w:= λd=>by
  rcases hv with⟨rfl,rfl⟩|⟨tx,x,rfl,rfl⟩<;>simp [Op.equalIn,run_underlying ht]
 simp only [binOp]
 simp [Op.equal,Op.maxDepth,h 9999]
theorem aVx {g:FuncId}{gn:Func}{r0:Nat}{rc nq:Oper}{a c:Nat}{tI tJ:TypeId}{ms:Array (String×TypeId)}{Y:Code}(hg:P.funcs[g]? =some gn) (hb:gn.body=some (.seq (.region r0 #[rc,nq] false) (.cond (.tmp c) Y .skip)))
  (h1:rc.op= .call { callee:= .builtin .recover,args:= #[],argTypes:= #[] }) (h2:rc.dst=some a) (h3:rc.guard=none) (h4:nq.op= .binOp .neq tI (.tmp a) (.const .nilIface) tJ) (h5:nq.dst=some c) (h6:nq.guard=none)
  (hI:P.underlying tI=some (.interface ms)) (ha:a < gn.ntmps) (hc:c < gn.ntmps) (hres:gn.results= #[]) {args:Array Value} (hsz:args.size<=gn.ntmps) {n:Nat} {w:World} {R:Ending->FrameMode->World->Prop} (hR: ∀v,R (.returned v) .returning w):
  CallsDIn (FW none) n P g args .returning w R:=by
 refine callsDIn_of_wpSIn hg hb trivial (λo cs j=> ?_)
 refine wpSIn_seq (wpSIn_region ?_)
 show wpOpsSIn (FW none) n P #[rc,nq] _ [0,1] _ _ _
 have b:recoverD (o::cs)=none:=by simp [recoverD,j]
 have p: ∀y,Region.wanted rc y=true:= λy=>by simp [Region.wanted,h3]
 have k: ∀y,Region.wanted nq y=true:= λy=>by simp [Region.wanted,h6]
 have e1: ∀ev:Operand->Value,(execOp ev rc).run P w= .ok .recover w:= λev=>by simp [execOp,h1,resolve,invoke,builtin]
 have l:(#[rc,nq]:Array Oper)[0]? =some rc:=rfl
 have m:(#[rc,nq]:Array Oper)[1]? =some nq:=rfl
 simp only [wpOpsSIn,l,m,p,k,if_true,e1,b]
 refine⟨λ_ _=>trivial,λ_ _=>trivial, ?_⟩
 generalize hA:({ tmps:=args++Array.replicate (gn.ntmps - args.size) undef,defers:=[] }:Act)=A
 have d:A.tmps.size=gn.ntmps:=by rw [<-hA];simp;omega
 have e:A.defers=[]:=by rw [<-hA]
 have i:(A.put rc.dst .nilIface).eval (.tmp a)= .nilIface:=by
  rw [h2]
  simp [Act.put,Act.eval,d,ha]
 have e2:(execOp (A.put rc.dst .nilIface).eval nq).run P w= .ok (.value (.bool false)) w:=by
  have f:(A.put rc.dst .nilIface).eval (.const .nilIface)= .nilIface:=rfl
  simp [execOp,h4,i,f,eqGuard,sU w false .nilIface (.inl ⟨rfl,rfl⟩) hI]
 rw [e2]
 have h:((A.put rc.dst .nilIface).put nq.dst (.bool false)).eval (.tmp c)= .bool false:=by
  rw [h5]
  simp [Act.put,Act.eval,h2,d,hc]
 refine wpSIn_cond h ?_
 refine wpSIn_of_wpIn rfl (wpIn_skip ?_)
 refine⟨by rw [put_defers,put_defers];exact e, .returning, ?_, .tuple #[], ?_,hR _⟩
 ·rw [<-j]
 ·simp [results,hres]
theorem aZj {g:FuncId}{gn:Func}{r0:Nat}{rc nq:Oper}{a c:Nat}{tI tJ:TypeId}{ms:Array (String×TypeId)}{Y:Code}(hg:P.funcs[g]? =some gn) (hb:gn.body=some (.seq (.region r0 #[rc,nq] false) (.cond (.tmp c) Y .skip)))
  (h1:rc.op= .call { callee:= .builtin .recover,args:= #[],argTypes:= #[] }) (h2:rc.dst=some a) (h3:rc.guard=none) (h4:nq.op= .binOp .neq tI (.tmp a) (.const .nilIface) tJ) (h5:nq.dst=some c) (h6:nq.guard=none)
  (hI:P.underlying tI=some (.interface ms)) (ha:a < gn.ntmps) (hc:c < gn.ntmps) (hres:gn.results= #[]) {args:Array Value} (hsz:args.size<=gn.ntmps) {n:Nat} {w:World} {R:Ending->FrameMode->World->Prop} {t:TypeId} {x:Value}
  (hY : ∀ A : Act, A.tmps = ((args ++ Array.replicate (gn.ntmps - args.size) undef).setIfInBounds a (.iface t x)).setIfInBounds c (.bool true) -> A.defers = [] ->
   Y.wpIn (FW none) n P (λe a' w'=>(e= .normal\/e= .ret)/\a'.defers=[]/\ ∀v,R (.returned v) (.panicking [{ v:= .iface t x,recovered:=true }]) w') A w):
  CallsDIn (FW none) n P g args (.panicking [{ v:= .iface t x,recovered:=false }]) w R:=by
 refine callsDIn_of_wpSIn hg hb trivial (λk cs l=> ?_)
 refine wpSIn_seq (wpSIn_region ?_)
 show wpOpsSIn (FW none) n P #[rc,nq] _ [0,1] _ _ _
 have b:recoverD (k::cs)=some (.iface t x,{ k with mode:= .panicking [{ v:= .iface t x,recovered:=true }] }::cs):=by simp [recoverD,l]
 have r: ∀y,Region.wanted rc y=true:= λy=>by simp [Region.wanted,h3]
 have m: ∀y,Region.wanted nq y=true:= λy=>by simp [Region.wanted,h6]
 have e1: ∀ev:Operand->Value,(execOp ev rc).run P w= .ok .recover w:= λev=>by simp [execOp,h1,resolve,invoke,builtin]
 have o:(#[rc,nq]:Array Oper)[0]? =some rc:=rfl
 have q:(#[rc,nq]:Array Oper)[1]? =some nq:=rfl
 simp only [wpOpsSIn,o,q,r,m,if_true,e1,b]
 refine⟨λ_ _=>trivial,λ_ _=>trivial, ?_⟩
 generalize hA:({ tmps:=args++Array.replicate (gn.ntmps - args.size) undef,defers:=[] }:Act)=A
 have d:A.tmps.size=gn.ntmps:=by rw [<-hA];simp;omega
 have f:A.defers=[]:=by rw [<-hA]
 have j:(A.put rc.dst (.iface t x)).eval (.tmp a)= .iface t x:=by
  rw [h2]
  simp [Act.put,Act.eval,d,ha]
 have e2:(execOp (A.put rc.dst (.iface t x)).eval nq).run P w= .ok (.value (.bool true)) w:=by
  have h:(A.put rc.dst (.iface t x)).eval (.const .nilIface)= .nilIface:=rfl
  simp [execOp,h4,j,h,eqGuard,sU w true (.iface t x) (.inr ⟨_,_,rfl,rfl⟩) hI]
 rw [e2]
 have i:((A.put rc.dst (.iface t x)).put nq.dst (.bool true)).eval (.tmp c)= .bool true:=by
  rw [h5]
  simp [Act.put,Act.eval,h2,d,hc]
 refine wpSIn_cond i ?_
 refine wpSIn_of_wpIn rfl (wpIn_mono (hY _ ?_ (by rw [put_defers,put_defers];exact f)) ?_)
 ·rw [h2,h5,<-hA];rfl
 ·rintro e a' w' ⟨p,u,s⟩
  rcases p with rfl|rfl<;>exact⟨u,_,rfl, .tuple #[],by simp [results,hres],s _⟩
end
section
variable {P:Program}
theorem Mem.relit {E:Entry}{ρ:Env}{hp:Hp}{w:World}(h:Mem E ρ hp w) {i:Nat}{t:TypeId}{cs:List SV}(hi:aP hp i=some (.cells t cs)):
  ∃vs:List Value,vs.length=cs.length/\Mem E ρ (eY hp i (.cells t (vs.map λv=> .d (.lit v)))) w:=by
 obtain⟨F,C,⟨cur,H,G,J,c4⟩,B⟩:=h.sat i _ hi
 refine⟨cur.toList,by simpa using G, ?_⟩
 refine⟨h.os,h.tape,h.output,h.size,h.old,h.sold,h.snew,h.slt,h.kp, ?_, ?_, ?_,h.mv, ?_,h.md⟩
 ·intro id o l
  rw [bN _ hi]at l
  split at l
  ·rename_i e;subst e
   injection l with l;subst l
   exact ⟨F, C, ⟨cur, H, by simp, J, λj s' v m D => by
    rw [List.getElem?_map,Option.map_eq_some_iff]at m
    obtain⟨u,q,rfl⟩:=m
    rw [Array.getElem?_toList,D]at q
    injection q with q
    subst q
    exact .d _ _ (.lit _)⟩,B⟩
  ·exact h.sat id o l
 ·intro id o b o' g a n c r
  rw [bN _ hi]at a n
  have key: ∀k x,(if k=i then some (HObj.cells t (cur.toList.map λv=>SV.d (.lit v)))else aP hp k)=some x->ρ.at k x=some g-> ∃p,aP hp k=some p/\ρ.at k p=some g:=by
   intro k x hx y
   split at hx
   ·rename_i e;subst e
    injection hx with hx;subst hx
    exact⟨_,hi,y⟩
   ·exact⟨x,hx,y⟩
  obtain⟨x,I,z⟩:=key id o a c
  obtain⟨p,K,A⟩:=key b o' n r
  exact h.inj id x b p g I K z A
 ·intro id o g a c
  rw [bN _ hi]at a
  split at a
  ·rename_i e;subst e
   injection a with a;subst a
   exact h.hb id _ g hi c
  ·exact h.hb id o g a c
 ·intro id s g a f n b o' c r
  rw [bN _ hi]at a c
  split at a
  ·injection a with a;subst a;exact f.elim
  ·split at c
   ·rename_i e;subst e
    injection c with c;subst c
    exact h.ro id s g a f n b _ hi r
   ·exact h.ro id s g a f n b o' c r
def bF9 (x y:Nat) (tx ty:TypeId) (nx:Nat):Fr->Hp->Prop:= λfr hp=>
 jB fr x=some (.ptr x 0)/\jB fr y=some (.ptr y 0)/\(∃cx,aP hp x=some (.cells tx cx)/\cx.length=nx)/\ ∃cy,aP hp y=some (.cells ty [cy])
def KPq (q:Prop) (x y:Nat) (tx ty:TypeId) (nx:Nat):Fr->Hp->Prop:= λfr hp=>q/\bF9 x y tx ty nx fr hp
theorem aSf {mk df:Oper}{B:Code}{g d x y j:Nat}
  (m1:mk.op= .makeFunc (.func g) #[] #[.tmp x, .tmp y]) (m2:mk.dst=some d) (m3:mk.guard=none) (d1:df.op= .defer { callee:= .value (.tmp d),args:= #[],argTypes:= #[] }) (d2:df.dst=none) (d3:df.guard=none)
  {E:Entry} {fr:Fr} {hp:Hp} {nt:Nat} {a:Act} {w:World} {Q:Exit->Act->World->Prop} (hd:d < nt) (hs:Sat E nt ⟨fr,hp⟩ a w) (hE:E.k=0/\E.pin.pre=[]) (hx:jB fr x=some (.ptr x 0)) (hy:jB fr y=some (.ptr y 0)) (ids:List Nat) (kp:Fr->Hp->Prop)
  (hB : ∀ ρ b c a', Mem E ρ hp w -> ρ.blk x = some b -> ρ.blk y = some c ->
   Sat (cN w ρ hp ⟨ids,kp,[{ target:= .fn (.func g) #[.pointer (some ⟨b,0,none⟩), .pointer (some ⟨c,0,none⟩)],args:= #[] }]⟩ none E.D) nt ⟨aOd fr d (.fn g [] [.ptr x 0, .ptr y 0]),hp⟩ a' w->B.wpIn (FW none) 0 P Q a' w):
  (Code.seq (.region j #[mk,df] false) B).wpIn (FW none) 0 P Q a w:=by
 obtain⟨o,z,ρ,r,p⟩:=hs
 have ex: ∃b,a.eval (.tmp x)= .pointer (some ⟨b,0,none⟩)/\ρ.blk x=some b:=by
  obtain⟨v,f,i⟩:=p x _ hx
  cases i with
  |ptr id off b h=>exact⟨b,by simp [Act.eval,Array.getD_eq_getD_getElem?,f],h⟩
 have q: ∃c,a.eval (.tmp y)= .pointer (some ⟨c,0,none⟩)/\ρ.blk y=some c:=by
  obtain⟨v,f,i⟩:=p y _ hy
  cases i with
  |ptr id off b h=>exact⟨b,by simp [Act.eval,Array.getD_eq_getD_getElem?,f],h⟩
 obtain⟨b,ex,u⟩:=ex
 obtain⟨c,q,m⟩:=q
 refine wpIn_seq (wpIn_region ?_)
 show wpOpsIn (FW none) 0 P #[mk,df] _ [0,1] a w
 have I: ∀y,Region.wanted mk y=true:= λy=>by simp [Region.wanted,m3]
 have C: ∀y,Region.wanted df y=true:= λy=>by simp [Region.wanted,d3]
 have F:(#[mk,df]:Array Oper)[0]? =some mk:=rfl
 have H:(#[mk,df]:Array Oper)[1]? =some df:=rfl
 simp only [wpOpsIn,F,H,I,C,if_true]
 have e1:(execOp a.eval mk).run P w= .ok (.value (.func (.func g) #[] #[.pointer (some ⟨b,0,none⟩), .pointer (some ⟨c,0,none⟩)])) w:=by
  simp [execOp,m1,Instr.makeFunc,ex,q]
 refine⟨λ_ _=>trivial, ?_⟩
 show Oper.uponIn (FW none) 0 P mk a _ _ ((execOp a.eval mk).run P w)
 rw [e1,Oper.uponIn_value]
 refine⟨λ_ _=>trivial, ?_⟩
 generalize hA:a.put mk.dst (.func (.func g) #[] #[.pointer (some ⟨b,0,none⟩), .pointer (some ⟨c,0,none⟩)])=A
 have G:A.eval (.tmp d)= .func (.func g) #[] #[.pointer (some ⟨b,0,none⟩), .pointer (some ⟨c,0,none⟩)]:=by
  rw [<-hA,m2]
  have l:d < a.tmps.size:=by rw [o];exact hd
  simp [Act.put,Act.eval,l]
 have e2:(execOp A.eval df).run P w= .ok (.defer { target:= .fn (.func g) #[.pointer (some ⟨b,0,none⟩), .pointer (some ⟨c,0,none⟩)],args:= #[] }) w:=by
  simp [execOp,d1,resolve,G,Deferred.ofValue]
 show Oper.uponIn (FW none) 0 P df A _ _ ((execOp A.eval df).run P w)
 rw [e2,Oper.uponIn_defer,d2]
 refine hB ρ b c _ r u m ⟨?_, ?_,ρ,r.enter _ none, ?_⟩
 ·show A.tmps.size=nt
  rw [<-hA,cH];exact o
 ·show _::A.defers=_
  rw [<-hA,put_defers,z,hE.1,hE.2];simp [cN]
 ·intro t s n
  rw [kM]at n
  show ∃v,A.tmps[t]? =some v/\Rep w ρ s v
  rw [<-hA,m2]
  by_cases e:t=d
  ·subst e
   simp at n
   subst n
   have l:t < a.tmps.size:=by rw [o];exact hd
   refine⟨.func (.func g) #[] #[.pointer (some ⟨b,0,none⟩), .pointer (some ⟨c,0,none⟩)],by simp [Act.put,l], ?_⟩
   refine .fn g [] [.ptr x 0, .ptr y 0] #[] #[.pointer (some ⟨b,0,none⟩), .pointer (some ⟨c,0,none⟩)] rfl rfl (by intro j s v h;simp at h) ?_
   intro j s v f i
   match j with
   | 0=>simp at f i;subst f;subst i;exact .ptr x 0 b u
   | 1=>simp at f i;subst f;subst i;exact .ptr y 0 c m
   |j+2=>simp at f
  ·simp [e]at n
   obtain⟨v,f,i⟩:=p t s n
   refine⟨v, ?_,i⟩
   simp only [Act.put]
   rw [Array.getElem?_setIfInBounds_ne (Ne.symm e)]
   exact f
end
section
variable {P:Program}
def rD (post:SV->Prop) (w:World) (ρ:Env) (e:Ending) (w':World):Prop:=
 ∃v S' s,e= .returned v/\post s/\Grew w w'/\(∀b i,ρ.S b i->S' b i)/\(∀b i,S' b i->ρ.S b i\/w.heap.size<=b)/\(∀b i,S' b i->b < w'.heap.size)/\Rep w' (ρ.withS S') s v
theorem aR7 {ti:TypeId->Option TI}(hti:fH P ti) {fn:Func}{post:SV->Prop}{w w':World}{ρ ρ':Env}{pinX:Pin}{D:List Nat}{k:Nat}{rd:Option Nat}{fr':Fr}{hp':Hp}{tmps:Array Value}(hm:Mem ⟨w,ρ.S,λ_=>False,pinX,ρ,rd,D,k⟩ ρ' hp' w') (hf:dV ρ' w' fr' tmps)
  (hk:oN ti fr' hp' fn.results.toList (λl=>nN hp' l λl=>(eQ l).ids=[]/\post (eQ l))):LeavesInM (FW none) 0 P fn tmps (rD post w ρ) [] .returning w':=by
 obtain⟨v,l,x,m,p,q⟩:=aS7 hti hm (a:={ tmps:=tmps,defers:=[] }) hf _ _ hk
 obtain⟨n,⟨s,u⟩,r,t⟩:=uA hm l v _ m p q
 refine⟨_,tD (a:={ tmps:=tmps,defers:=[] }) x,_,Sfz ρ' hp',eQ n,rfl,u,⟨hm.os,hm.tape,hm.output,hm.size,λb hb=>hm.old b hb (λh=>h)⟩,λb i f=> .inl (hm.sold b i f), ?_, ?_, ?_⟩
 ·rintro b i (f|⟨id,e,z,cap,rows,g,hb,_⟩)
  ·rcases Nat.lt_or_ge b w.heap.size with j|c
   ·exact .inl (hm.snew b i f j (λh=>h))
   ·exact .inr c
  ·rcases hm.hb id _ b g hb with c|o
   ·exact .inr c
   ·exact o.elim
 ·rintro b i (f|⟨id,e,z,cap,rows,g,hb,_⟩)
  ·exact hm.slt b i f
  ·exact hm.blk_lt g hb
 ·refine(aA3 (w:=w') (ρ:=ρ'.withS (Sfz ρ' hp')) (l:=n) (by rw [r];exact m) t).mono (λ_ _ _=>rfl) (λ_ _ h=>h) λid d=> ?_
  rw [s]at d
  cases d
theorem aMr {fn gn:Func}{g:FuncId}{cv:Array Value}{tmps:Array Value}{R:Ending->World->Prop}{u:FrameMode}{w:World}(hu:u≠ .run) (hg:P.funcs[g]? =some gn) (hcall:dY P g=true)
  (h : CallsDIn (FW none) 0 P g cv u w fun
     | .returned _,u',w'=>LeavesInM (FW none) 0 P fn tmps R [] (settle u') w'
     | .panicked chain,u',w'=>LeavesInM (FW none) 0 P fn tmps R [] (raised u' chain) w'
     | .outgrown,_,w'=>R .outgrown w'):LeavesInM (FW none) 0 P fn tmps R [{ target:= .fn (.func g) cv,args:= #[] }] u w:=by
 refine⟨hu, .inr ⟨λh=>(by cases h), .func g,cv,g,cv,rfl, ?_,λ_ _=>trivial,h⟩⟩
 unfold dY at hcall
 rw [hg]at hcall
 simp only [Bool.and_eq_true,Bool.not_eq_true']at hcall
 obtain⟨c1,a⟩:=hcall
 have b:gn.body.isNone=false:=by cases hb:gn.body<;>simp_all
 simp only [invoke,callFunc,Sem.run_bind,Sem.run_pure,Result.andThen_ok,run_program,hg,a,b,Bool.false_eq_true,if_false]
 simp
end
section
variable {P:Program}
theorem aK1 {F:Fence}{n:Nat}{ops:Array Oper}{Q:Exit->Act->World->Prop}{a:Act}{w:World}(h:wpOpsIn F n P ops.toList.toArray Q (List.range' 0 ops.toList.length) a w):wpOpsIn F n P ops Q (List.range ops.size) a w:=by
 simpa [List.range_eq_range']using h
theorem aR6 (zc:Bool) (frz:List Nat) {ti:TypeId->Option TI}(hti:fH P ti) {f:FuncId}{fn:Func}{i j:Nat}{opsA:Array Oper}{mk df:Oper}{B:Code}
  (hf:P.funcs[f]? =some fn) (hb:fn.body=some (.seq (.region i opsA false) (.seq (.region j #[mk,df] false) B)))
  {g:FuncId} {gn:Func} {r0 r1 r2:Nat} {rc nq:Oper} {a c:Nat} {tI tJ:TypeId} {ms:Array (String×TypeId)} {o1 o2:Array Oper}
  (hg:P.funcs[g]? =some gn) (hgb:gn.body=some (.seq (.region r0 #[rc,nq] false) (.cond (.tmp c) (.seq (.region r1 o1 false) (.region r2 o2 false)) .skip)))
  (h1:rc.op= .call { callee:= .builtin .recover,args:= #[],argTypes:= #[] }) (h2:rc.dst=some a) (Y:rc.guard=none) (h4:nq.op= .binOp .neq tI (.tmp a) (.const .nilIface) tJ) (h5:nq.dst=some c) (h6:nq.guard=none)
  (hI:P.underlying tI=some (.interface ms)) (ha:a < gn.ntmps) (hc:c < gn.ntmps) (hac:2<=a) (hcc:2<=c) (hgr:gn.results= #[]) (hcall:dY P g=true)
  {d x y:Nat} {tx ty:TypeId}
  (m1:mk.op= .makeFunc (.func g) #[] #[.tmp x, .tmp y]) (m2:mk.dst=some d) (m3:mk.guard=none) (d1:df.op= .defer { callee:= .value (.tmp d),args:= #[],argTypes:= #[] }) (d2:df.dst=none) (d3:df.guard=none) (hd:d < fn.ntmps) (hxy:x≠y)
  (keep keepY:Nat->Bool) (pin:List Nat) (args:List SV) (hp:Hp) (post:SV->Prop) (nx:Nat) (q:Prop) (hn:args.length<=fn.ntmps) (hnd:(hp.map (·.1)).Nodup)
  (hA : aFo ⟨P, ti, yA pin, fn.ntmps, keep, 0, none, zc, frz⟩ opsA.toList (λfr F => jB fr x = some (.ptr x 0) /\ jB fr y = some (.ptr y 0) /\
   ∀pre,X ⟨P,ti,⟨x::y::pin,KPq q x y tx ty nx,pre⟩,fn.ntmps,keep,0,none,zc,frz⟩ B (aOd fr d (.fn g [] [.ptr x 0, .ptr y 0])) F (aOj ti fn.results.toList post)) opsA.toList (dG 0 args) (roH hp))
  (hY : q -> ∀ (K : List Value) (vy : Value), K.length = nx -> aFo ⟨P, ti, yA (x :: y :: pin), gn.ntmps, keepY, 200, none, false, []⟩ o1.toList (λfr F => aFo ⟨P, ti, yA (x :: y :: pin), gn.ntmps, keepY, 200, none, false, []⟩ o2.toList
   (λ_ k=>oN ti [(x, .ptr x 0),(y, .ptr y 0)] k fn.results.toList (λl=>nN k l λl=>(eQ l).ids=[]/\post (eQ l))) o2.toList fr F) o1.toList [(0, .ptr x 0),(1, .ptr y 0)] [(x, .cells tx (K.map λv=> .d (.lit v))),(y, .cells ty [.d (.lit vy)])]):
  Tri P f args hp post:=by
 intro w ρ vs b3 I T
 refine mO (r:=none) (n:=0) |>.1 (callsIn_of_wp_marks hf hb trivial ?_)
 have hm:Mem ⟨w,ρ.S,λ_=>False,yA pin,ρ,none,[],0⟩ ρ (roH hp) w:=by
  have b1: ∀id o,aP (roH hp) id=some o->ρ.at id o=none:=by
   intro id o ho
   rcases yZ hp id o hnd ho with⟨t,cs,rfl,_⟩|⟨g,z,rows,rfl,_⟩|⟨X,rfl,_⟩
   ·rfl
   ·rfl
   ·rfl
  refine⟨rfl,rfl, .refl _,Nat.le_refl _,λ_ _ _=>rfl,λ_ _ h=>h,λ_ _ h _ _=>h,b3,λ_ _ _=>rfl, ?_, ?_, ?_,λid _=>ρ.moved_refl id, ?_,λb hb=>by cases hb⟩
  ·intro id o ho
   rcases yZ hp id o hnd ho with⟨t,cs,rfl,h|h⟩|⟨g,z,rows,rfl,h⟩|⟨X,rfl,h|h⟩
   ·exact T id _ h
   ·exact T id _ h
   ·exact T id _ h
   ·exact T id _ h
   ·exact T id _ h
  ·intro id o b4 o' g h1 _ Y _;rw [b1 id o h1]at Y;cases Y
  ·intro id o g h1 Y;rw [b1 id o h1]at Y;cases Y
  ·intro id x g _ _ _ b4 o' Y h4;rw [b1 b4 o' Y]at h4;cases h4
 have c8:dV ρ w (dG 0 args) (vs++Array.replicate (fn.ntmps - vs.size) undef):=by
  intro t s m
  obtain⟨_,h2⟩:=rV args 0 t s m
  simp only [Nat.sub_zero]at h2
  have d8:=(List.getElem?_eq_some_iff.1 h2).1
  have W:t < vs.size:=by rw [I.1];exact d8
  refine⟨vs[t], ?_,I.2 t s _ h2 (Array.getElem?_eq_getElem W)⟩
  rw [Array.getElem?_append_left W,Array.getElem?_eq_getElem W]
 refine wpIn_seq (wpIn_region ?_)
 have key : ∀ V F a1 w1, (jB V x = some (.ptr x 0) /\ jB V y = some (.ptr y 0) /\
   ∀pre,X ⟨P,ti,⟨x::y::pin,KPq q x y tx ty nx,pre⟩,fn.ntmps,keep,0,none,zc,frz⟩ B (aOd V d (.fn g [] [.ptr x 0, .ptr y 0])) F (aOj ti fn.results.toList post))->
   Sat ⟨w,ρ.S,λ_=>False,yA pin,ρ,none,[],0⟩ fn.ntmps ⟨V,F⟩ a1 w1->
   (Code.seq (.region j #[mk,df] false) B).wpIn (FW none) 0 P (bodyPostM (FW none) 0 P fn (rD post w ρ)) a1 w1:=by
  rintro V F a1 w1 ⟨kx,ky,kB⟩ hs
  refine aSf m1 m2 m3 d1 d2 d3 hd hs ⟨rfl,rfl⟩ kx ky (x::y::pin) (KPq q x y tx ty nx) ?_
  intro ρ1 gx gy R b5 bx e6 O
  generalize hdfr:({ target:= .fn (.func g) #[.pointer (some ⟨gx,0,none⟩), .pointer (some ⟨gy,0,none⟩)],args:= #[] }:Deferred)=dfr at O
  refine wpIn_mono (nM (C:=⟨P,ti,⟨x::y::pin,KPq q x y tx ty nx,[dfr]⟩,fn.ntmps,keep,0,none,zc,frz⟩) hti B _ _ _ (kB _) (cN w1 ρ1 F ⟨x::y::pin,KPq q x y tx ty nx,[dfr]⟩ none []) R w1 rfl rfl O) ?_
  rintro e a' w' ⟨e0,Z,hp',E',J,a6,H,hnt,b8,N,c1,b7⟩
  obtain⟨b2,q1,q2,q3,q4,q5⟩:=aEn J rfl
  have a5:E'.pin.pre=[dfr]:=by rw [J.pin];rfl
  have c3:oN ti Z hp' fn.results.toList (λl=>nN hp' l λl=>(eQ l).ids=[]/\post (eQ l))->LeavesInM (FW none) 0 P fn a'.tmps (rD post w ρ) a'.defers .returning w':=by
   intro H
   rw [b8,q2,a5]
   refine wQ (by simp) [dfr] b2 E' w' c1 ⟨_,q1,q5⟩ q4 q3 ?_
   rintro E'' p ⟨p1,p2,p3,p4,p5,p6⟩ M a9
   have a7:=b5.leave (pin:=⟨x::y::pin,KPq q x y tx ty nx,[dfr]⟩) (rd:=none) M ⟨p1.trans J.w,p2.trans J.S,p3.trans J.B,p4.trans J.pin,p5.trans J.ρ,λb hb=>by cases hb⟩ (λid u=>List.mem_cons_of_mem _ (List.mem_cons_of_mem _ u))
   have L:dV N p Z a'.tmps:=b7.mono a9 (λ_ _ x=>x) λi _=>N.moved_refl i
   rw [<-hdfr]
   exact aMr (by simp) hg hcall (aVx hg hgb h1 h2 Y h4 h5 h6 hI ha hc hgr (by simp;omega) (λv=>aR7 hti a7 L H))
  have b9: ∀ch,Chn ch->KPq q x y tx ty nx Z hp'->LeavesInM (FW none) 0 P fn a'.tmps (rD post w ρ) a'.defers (.panicking ch) w':=by
   rintro ch ⟨t,v,rfl⟩ ⟨d6,d9,c5,⟨cx,e2,lx⟩,cy,d0⟩
   rw [b8,q2,a5]
   refine wQ (by simp) [dfr] b2 E' w' c1 ⟨_,q1,q5⟩ q4 q3 ?_
   rintro E'' p ⟨p1,p2,p3,p4,p5,p6⟩ M a9
   have a7:=b5.leave (pin:=⟨x::y::pin,KPq q x y tx ty nx,[dfr]⟩) (rd:=none) M ⟨p1.trans J.w,p2.trans J.S,p3.trans J.B,p4.trans J.pin,p5.trans J.ρ,λb hb=>by cases hb⟩ (λid u=>List.mem_cons_of_mem _ (List.mem_cons_of_mem _ u))
   have L:dV N p Z a'.tmps:=b7.mono a9 (λ_ _ x=>x) λi _=>N.moved_refl i
   have a8:=M.mv
   rw [p4.trans J.pin,p5.trans J.ρ]at a8
   have e3:N.blk x=some gx:=(a8 x (List.mem_cons_self ..)).1.trans bx
   have c4:N.blk y=some gy:=(a8 y (List.mem_cons_of_mem _ (List.mem_cons_self ..))).1.trans e6
   have G := a7.sub (hp' := [(x, .cells tx cx), (y, .cells ty [cy])]) (by
    intro id o h
    simp only [aP]at h
    split at h
    ·rename_i e;subst e;injection h with h;subst h;exact e2
    ·split at h
     ·rename_i e;subst e;injection h with h;subst h;exact d0
     ·cases h)
   obtain⟨K,e1,G⟩:=G.relit (i:=x) (t:=tx) (cs:=cx) (by simp [aP])
   rw [show eY [(x,HObj.cells tx cx),(y, .cells ty [cy])] x (.cells tx (K.map λv=> .d (.lit v)))=[(x, .cells tx (K.map λv=> .d (.lit v))),(y, .cells ty [cy])]by simp [eY]]at G
   obtain⟨c2,d7,G⟩:=G.relit (i:=y) (t:=ty) (cs:=[cy]) (by simp [aP,hxy])
   obtain⟨vy,rfl⟩: ∃vy,c2=[vy]:=by
    match c2,d7 with
    | [v],_=>exact⟨v,rfl⟩
   rw [show eY [(x,HObj.cells tx (K.map λv=> .d (.lit v))),(y, .cells ty [cy])] y (.cells ty ([vy].map λv=> .d (.lit v)))=[(x, .cells tx (K.map λv=> .d (.lit v))),(y, .cells ty [.d (.lit vy)])]by simp [eY,hxy]]at G
   have c7:dV N p [(x, .ptr x 0),(y, .ptr y 0)] a'.tmps:=by
    intro t s m
    simp only [jB]at m
    split at m
    ·rename_i e;subst e;injection m with m;subst m;exact L _ _ d9
    ·split at m
     ·rename_i e;subst e;injection m with m;subst m;exact L _ _ c5
     ·cases m
   rw [<-hdfr]
   refine aMr (by simp) hg hcall (aZj hg hgb h1 h2 Y h4 h5 h6 hI ha hc hgr (by simp;omega) ?_)
   intro A b0 d5
   have sY:Sat (cN p N [(x, .cells tx (K.map λv=> .d (.lit v))),(y, .cells ty [.d (.lit vy)])] (yA (x::y::pin)) none []) gn.ntmps ⟨[(0, .ptr x 0),(1, .ptr y 0)],[(x, .cells tx (K.map λv=> .d (.lit v))),(y, .cells ty [.d (.lit vy)])]⟩ A p:=by
    refine⟨by rw [b0];simp;omega,by rw [d5];rfl,N,G.enter (yA (x::y::pin)) none, ?_⟩
    intro t s m
    simp only [jB]at m
    split at m
    ·rename_i e
     subst e
     injection m with m
     subst m
     refine⟨.pointer (some ⟨gx,0,none⟩), ?_, .ptr x 0 gx e3⟩
     rw [b0,Array.getElem?_setIfInBounds_ne (by omega),Array.getElem?_setIfInBounds_ne (by omega),Array.getElem?_append_left (by simp)]
     rfl
    ·split at m
     ·rename_i e
      subst e
      injection m with m
      subst m
      refine⟨.pointer (some ⟨gy,0,none⟩), ?_, .ptr y 0 gy c4⟩
      rw [b0,Array.getElem?_setIfInBounds_ne (by omega),Array.getElem?_setIfInBounds_ne (by omega),Array.getElem?_append_left (by simp)]
      rfl
     ·cases m
   refine wpIn_seq (wpIn_region ?_)
   have b6: ∀D k R w2,oN ti [(x, .ptr x 0),(y, .ptr y 0)] k fn.results.toList (λl=>nN k l λl=>(eQ l).ids=[]/\post (eQ l))->
     Sat (cN p N [(x, .cells tx (K.map λv=> .d (.lit v))),(y, .cells ty [.d (.lit vy)])] (yA (x::y::pin)) none []) gn.ntmps ⟨D,k⟩ R w2->R.defers=[]/\LeavesInM (FW none) 0 P fn a'.tmps (rD post w ρ) [] .returning w2:=by
    rintro D k R w2 U ⟨_,s2,ρ2,a4,_⟩
    refine⟨by rw [s2];rfl, ?_⟩
    have d4:=G.leave (pin:=yA (x::y::pin)) (rd:=none) a4 ⟨rfl,rfl,rfl,rfl,rfl,λb hb=>by cases hb⟩ (λid u=> ?_)
    ·refine aR7 hti d4 (c7.mono a4.kp a4.sold λid u=>a4.mv id ?_) U
     have u:id=x\/id=y:=by simpa [gD,SV.ids]using u
     show id∈x::y::pin
     rcases u with e|e
     ·rw [e];exact List.mem_cons_self ..
     ·rw [e];exact List.mem_cons_of_mem _ (List.mem_cons_self ..)
    ·exact List.mem_cons_of_mem _ (List.mem_cons_of_mem _ u)
   have f2: ∀D k R w2,aFo ⟨P,ti,yA (x::y::pin),gn.ntmps,keepY,200,none,false,[]⟩ o2.toList
     (λ_ k=>oN ti [(x, .ptr x 0),(y, .ptr y 0)] k fn.results.toList (λl=>nN k l λl=>(eQ l).ids=[]/\post (eQ l))) o2.toList D k->
     Sat (cN p N [(x, .cells tx (K.map λv=> .d (.lit v))),(y, .cells ty [.d (.lit vy)])] (yA (x::y::pin)) none []) gn.ntmps ⟨D,k⟩ R w2->
     wpOpsIn (FW none) 0 P o2 (λe aY wY=>(e= .normal\/e= .ret)/\aY.defers=[]/\ ∀v':Value,LeavesInM (FW none) 0 P fn a'.tmps (rD post w ρ) [] (settle (.panicking [{ v:= .iface t v,recovered:=true }])) wY) (List.range o2.size) R w2:=by
    intro D k R w2 U O
    have:=uV (C:=⟨P,ti,yA (x::y::pin),gn.ntmps,keepY,200,none,false,[]⟩) hti (all:=o2.toList) (E:=cN p N [(x, .cells tx (K.map λv=> .d (.lit v))),(y, .cells ty [.d (.lit vy)])] (yA (x::y::pin)) none [])
     (Q:= λe aY wY=>(e= .normal\/e= .ret)/\aY.defers=[]/\ ∀v':Value,LeavesInM (FW none) 0 P fn a'.tmps (rD post w ρ) [] (settle (.panicking [{ v:= .iface t v,recovered:=true }])) wY) rfl
     (λc9 e5 a3 w3 c6 e4 => by
      obtain⟨z1,z2⟩:=b6 c9 e5 a3 w3 c6 e4
      exact⟨.inl rfl,z1,λ_=>z2⟩) (λ_ _ _ _ _ _ H=>H.elim) o2.toList 0 _ _ _ _ rfl U O
    exact aK1 this
   have f1:=uV (C:=⟨P,ti,yA (x::y::pin),gn.ntmps,keepY,200,none,false,[]⟩) hti (all:=o1.toList) (E:=cN p N [(x, .cells tx (K.map λv=> .d (.lit v))),(y, .cells ty [.d (.lit vy)])] (yA (x::y::pin)) none [])
    (Q := Exit.then ((Code.region r2 o2 false).wpIn (FW none) 0 P (λe aY wY => (e = .normal \/ e = .ret) /\ aY.defers = [] /\ ∀ v' : Value, LeavesInM (FW none) 0 P fn a'.tmps (rD post w ρ) [] (settle (.panicking [{ v := .iface t v, recovered := true }])) wY))
     (λe aY wY=>(e= .normal\/e= .ret)/\aY.defers=[]/\ ∀v':Value,LeavesInM (FW none) 0 P fn a'.tmps (rD post w ρ) [] (settle (.panicking [{ v:= .iface t v,recovered:=true }])) wY)) rfl
    (λD k R w2 U O=>wpIn_region (f2 D k R w2 U O)) (λ_ _ _ _ _ _ H=>H.elim) o1.toList 0 _ _ _ _ rfl (hY d6 K vy (e1.trans lx)) sY
   exact aK1 f1
  cases e0<;>cases e<;>simp only [Ex.rel]at a6<;>simp only [KX,aOj]at H
  ·exact c3 H
  ·exact H.elim
  ·exact H.elim
  ·exact c3 H
  ·exact b9 _ a6 H
 have s0:Sat ⟨w,ρ.S,λ_=>False,yA pin,ρ,none,[],0⟩ fn.ntmps ⟨dG 0 args,roH hp⟩ { tmps:=vs++Array.replicate (fn.ntmps - vs.size) undef,defers:=[] } w:=by
  refine⟨?_,rfl,ρ,hm,c8⟩
  simp only [Array.size_append,Array.size_replicate]
  have:=I.1
  omega
 have:=uV (C:=⟨P,ti,yA pin,fn.ntmps,keep,0,none,zc,frz⟩) hti (all:=opsA.toList) (E:=⟨w,ρ.S,λ_=>False,yA pin,ρ,none,[],0⟩) (Q:=Exit.then ((Code.seq (.region j #[mk,df] false) B).wpIn (FW none) 0 P (bodyPostM (FW none) 0 P fn (rD post w ρ))) (bodyPostM (FW none) 0 P fn (rD post w ρ))) rfl (λfr hp a w H hs=>key fr hp a w H hs) (λ_ _ _ _ _ _ H=>H.elim) opsA.toList 0 _ _ _ _ rfl hA s0
 exact aK1 this
end
end
section
attribute [local irreducible] aK aF Tri aH YVC cG aT
open Go.RowKit
set_option maxRecDepth 10000
theorem aBh {α:Type}{rd:Rd α}{wr:α->List UInt8×Int}{zero:α}{bad:Int}{b c:List UInt8}{x:α}(h:rd b=some (x,c)):iV rd wr zero bad b=if c=[]/\wr x=(b,0)then (x,0)else (zero,bad):=by
 unfold iV
 rw [h]
 cases c with
 |nil=>simp
 |cons _ _=>simp
theorem aIs {α:Type}{rd:Rd α}{wr:α->List UInt8×Int}{zero:α}{bad:Int}{b:List UInt8}(h:rd b=none):iV rd wr zero bad b=(zero,bad):=by
 unfold iV;rw [h]
theorem qU (a b:List UInt8):Tri Tryz.prog 53 [.d (.sl 1 (a.map aN)), .d (.sl 1 (b.map aN))] [] (λr=>r= .d (.bool (decide (a=b)))):=by
 have c:=lL a
 have hb:=lL b
 refine qG [] hty Tryz.func53 [0,1,4] ?_
 (repeat' first|(refine qW ?_;intros)|((conv=>whnf);first|refine dwR ?_|((first|refine aA ?_ ?_|refine aC ?_ ?_)<;>intro hb<;>(first|exact ddX hb|try simp only [lnS]at hb))|(refine aB ?_ ?_<;>intro hb<;>try exact dsX hb)))
 rw [c,hb]
 rfl
theorem aG8 {α:Type}{l:List α}{n:Nat}(h:l.length=n+1): ∃c m,l=c::m/\m.length=n:=by
 cases l with
 |nil=>cases h
 |cons c m=>exact⟨c,m,rfl,by simpa using h⟩
def aXi:Dig:=⟨List.replicate 32 0,rfl⟩
end
end Go.Proofs.YtbobcfjlbcgchaaGreatDoor
