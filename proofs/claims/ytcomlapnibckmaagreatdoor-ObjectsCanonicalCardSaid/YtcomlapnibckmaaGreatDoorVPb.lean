/-
  The contract of a function whose deferred closure recovers. Objects: bytes.Equal; what decoding answers; decoding a commit. Objects: decoding axioms, queries and alignments; the readers.
  Conditions: none.
-/
import Derived.Test.YtcomlapnibckmaaGreatDoorVSyl
import Derived.Test.YtcomlapnibckmaaGreatDoorVOy
import Derived.Test.YtcomlapnibckmaaGreatDoorVSyi
set_option linter.unnecessarySimpa false
set_option linter.unusedSectionVars false
set_option linter.unusedSimpArgs false
set_option linter.unusedVariables false
set_option maxHeartbeats 16000000
namespace Go.Proofs.YtcomlapnibckmaaGreatDoor
open Go.RowKit
section
variable {P:Program}
theorem vM {F:Fence}{n:Nat}{ops:Array Oper}{Q:Exit->Act->World->Prop}{a:Act}{w:World}(h:wpOpsIn F n P ops.toList.toArray Q (List.range' 0 ops.toList.length) a w):wpOpsIn F n P ops Q (List.range ops.size) a w:=by
 simpa [List.range_eq_range']using h
theorem rR (zc:Bool) (frz:List Nat) {ti:TypeId->Option TI}(hti:cW P ti) {f:FuncId}{fn:Func}{i j:Nat}{opsA:Array Oper}{mk df:Oper}{B:Code}
  (hf:P.funcs[f]? =some fn) (hb:fn.body=some (.seq (.region i opsA false) (.seq (.region j #[mk,df] false) B)))
  {g:FuncId} {gn:Func} {r0 r1 r2:Nat} {rc nq:Oper} {a c:Nat} {tI tJ:TypeId} {ms:Array (String×TypeId)} {o1 o2:Array Oper}
  (hg:P.funcs[g]? =some gn) (hgb:gn.body=some (.seq (.region r0 #[rc,nq] false) (.cond (.tmp c) (.seq (.region r1 o1 false) (.region r2 o2 false)) .skip)))
  (h1:rc.op= .call { callee:= .builtin .recover,args:= #[],argTypes:= #[] }) (h2:rc.dst=some a) (h3:rc.guard=none) (h4:nq.op= .binOp .neq tI (.tmp a) (.const .nilIface) tJ) (h5:nq.dst=some c) (h6:nq.guard=none)
  (hI:P.underlying tI=some (.interface ms)) (ha:a < gn.ntmps) (hc:c < gn.ntmps) (hac:2<=a) (hcc:2<=c) (hgr:gn.results= #[]) (hcall:cO P g=true)
  {d x y:Nat} {tx ty:TypeId}
  (m1:mk.op= .makeFunc (.func g) #[] #[.tmp x, .tmp y]) (m2:mk.dst=some d) (m3:mk.guard=none) (d1:df.op= .defer { callee:= .value (.tmp d),args:= #[],argTypes:= #[] }) (d2:df.dst=none) (d3:df.guard=none) (hd:d < fn.ntmps) (hxy:x≠y)
  (keep keepY:Nat->Bool) (pin:List Nat) (args:List SV) (hp:Hp) (post:SV->Prop) (nx:Nat) (q:Prop) (hn:args.length<=fn.ntmps) (hnd:(hp.map (·.1)).Nodup)
  (hA : sN ⟨P, ti, lQ pin, fn.ntmps, keep, 0, none, zc, frz⟩ opsA.toList (λfr hp1 => eH fr x = some (.ptr x 0) /\ eH fr y = some (.ptr y 0) /\
   ∀pre,X ⟨P,ti,⟨x::y::pin,KPq q x y tx ty nx,pre⟩,fn.ntmps,keep,0,none,zc,frz⟩ B (yO fr d (.fn g [] [.ptr x 0, .ptr y 0])) hp1 (tT ti fn.results.toList post)) opsA.toList (fM 0 args) (roH hp))
  (hY : q -> ∀ (vx : List Value) (vy : Value), vx.length = nx -> sN ⟨P, ti, lQ (x :: y :: pin), gn.ntmps, keepY, 200, none, false, []⟩ o1.toList (λfr hp1 => sN ⟨P, ti, lQ (x :: y :: pin), gn.ntmps, keepY, 200, none, false, []⟩ o2.toList
   (λ_ hp2=>gV ti [(x, .ptr x 0),(y, .ptr y 0)] hp2 fn.results.toList (λl=>fW hp2 l λl=>(cU l).ids=[]/\post (cU l))) o2.toList fr hp1) o1.toList [(0, .ptr x 0),(1, .ptr y 0)] [(x, .cells tx (vx.map λv=> .d (.lit v))),(y, .cells ty [.d (.lit vy)])]):
  Tri P f args hp post:=by
 intro w ρ vs hslt hargs hro
 refine eO (r:=none) (n:=0) |>.1 (callsIn_of_wp_marks hf hb trivial ?_)
 have hm:Mem ⟨w,ρ.S,λ_=>False,lQ pin,ρ,none,[],0⟩ ρ (roH hp) w:=by
  have hat: ∀id o,aO (roH hp) id=some o->ρ.at id o=none:=by
   intro id o ho
   rcases iW hp id o hnd ho with⟨t,cs,rfl,_⟩|⟨g,z,rows,rfl,_⟩|⟨X,rfl,_⟩
   ·rfl
   ·rfl
   ·rfl
  refine⟨rfl,rfl, .refl _,Nat.le_refl _,λ_ _ _=>rfl,λ_ _ h=>h,λ_ _ h _ _=>h,hslt,λ_ _ _=>rfl, ?_, ?_, ?_,λid _=>ρ.moved_refl id, ?_,λb hb=>by cases hb⟩
  ·intro id o ho
   rcases iW hp id o hnd ho with⟨t,cs,rfl,h|h⟩|⟨g,z,rows,rfl,h⟩|⟨X,rfl,h|h⟩
   ·exact hro id _ h
   ·exact hro id _ h
   ·exact hro id _ h
   ·exact hro id _ h
   ·exact hro id _ h
  ·intro id o id' o' g h1 _ h3 _;rw [hat id o h1]at h3;cases h3
  ·intro id o g h1 h3;rw [hat id o h1]at h3;cases h3
  ·intro id x g _ _ _ id' o' h3 h4;rw [hat id' o' h3]at h4;cases h4
 have hfs:cE ρ w (fM 0 args) (vs++Array.replicate (fn.ntmps - vs.size) undef):=by
  intro t s ht
  obtain⟨_,h2⟩:=gA args 0 t s ht
  simp only [Nat.sub_zero]at h2
  have hlt:=(List.getElem?_eq_some_iff.1 h2).1
  have hlt':t < vs.size:=by rw [hargs.1];exact hlt
  refine⟨vs[t], ?_,hargs.2 t s _ h2 (Array.getElem?_eq_getElem hlt')⟩
  rw [Array.getElem?_append_left hlt',Array.getElem?_eq_getElem hlt']
 refine wpIn_seq (wpIn_region ?_)
 have key : ∀ fr1 hp1 a1 w1, (eH fr1 x = some (.ptr x 0) /\ eH fr1 y = some (.ptr y 0) /\
   ∀pre,X ⟨P,ti,⟨x::y::pin,KPq q x y tx ty nx,pre⟩,fn.ntmps,keep,0,none,zc,frz⟩ B (yO fr1 d (.fn g [] [.ptr x 0, .ptr y 0])) hp1 (tT ti fn.results.toList post))->
   Sat ⟨w,ρ.S,λ_=>False,lQ pin,ρ,none,[],0⟩ fn.ntmps ⟨fr1,hp1⟩ a1 w1->
   (Code.seq (.region j #[mk,df] false) B).wpIn (FW none) 0 P (bodyPostM (FW none) 0 P fn (iO post w ρ)) a1 w1:=by
  rintro fr1 hp1 a1 w1 ⟨kx,ky,kB⟩ hs
  refine aB0 m1 m2 m3 d1 d2 d3 hd hs ⟨rfl,rfl⟩ kx ky (x::y::pin) (KPq q x y tx ty nx) ?_
  intro ρ1 gx gy a2 hm1 bx by_ hs2
  generalize hdfr:({ target:= .fn (.func g) #[.pointer (some ⟨gx,0,none⟩), .pointer (some ⟨gy,0,none⟩)],args:= #[] }:Deferred)=dfr at hs2
  refine wpIn_mono (gQ (C:=⟨P,ti,⟨x::y::pin,KPq q x y tx ty nx,[dfr]⟩,fn.ntmps,keep,0,none,zc,frz⟩) hti B _ _ _ (kB _) (bN w1 ρ1 hp1 ⟨x::y::pin,KPq q x y tx ty nx,[dfr]⟩ none []) a2 w1 rfl rfl hs2) ?_
  rintro e a' w' ⟨e0,fr',hp',E',hE,hrel,hk,hnt,hdf,ρ',hm',hf'⟩
  obtain⟨own,q1,q2,q3,q4,q5⟩:=nJ hE rfl
  have hpre:E'.pin.pre=[dfr]:=by rw [hE.pin];rfl
  have fin:gV ti fr' hp' fn.results.toList (λl=>fW hp' l λl=>(cU l).ids=[]/\post (cU l))->LeavesInM (FW none) 0 P fn a'.tmps (iO post w ρ) a'.defers .returning w':=by
   intro hk
   rw [hdf,q2,hpre]
   refine kK (by simp) [dfr] own E' w' hm' ⟨_,q1,q5⟩ q4 q3 ?_
   rintro E'' w'' ⟨p1,p2,p3,p4,p5,p6⟩ hm'' hkp
   have hmE:=hm1.leave (pin:=⟨x::y::pin,KPq q x y tx ty nx,[dfr]⟩) (rd:=none) hm'' ⟨p1.trans hE.w,p2.trans hE.S,p3.trans hE.B,p4.trans hE.pin,p5.trans hE.ρ,λb hb=>by cases hb⟩ (λid hid=>List.mem_cons_of_mem _ (List.mem_cons_of_mem _ hid))
   have hf'':cE ρ' w'' fr' a'.tmps:=hf'.mono hkp (λ_ _ x=>x) λi _=>ρ'.moved_refl i
   rw [<-hdfr]
   exact xJ (by simp) hg hcall (aCy hg hgb h1 h2 h3 h4 h5 h6 hI ha hc hgr (by simp;omega) (λv=>aAk hti hmE hf'' hk))
  have finp: ∀ch,Chn ch->KPq q x y tx ty nx fr' hp'->LeavesInM (FW none) 0 P fn a'.tmps (iO post w ρ) a'.defers (.panicking ch) w':=by
   rintro ch ⟨t,v,rfl⟩ ⟨hqq,kx',ky',⟨cx,hx',lx⟩,cy,hy'⟩
   rw [hdf,q2,hpre]
   refine kK (by simp) [dfr] own E' w' hm' ⟨_,q1,q5⟩ q4 q3 ?_
   rintro E'' w'' ⟨p1,p2,p3,p4,p5,p6⟩ hm'' hkp
   have hmE:=hm1.leave (pin:=⟨x::y::pin,KPq q x y tx ty nx,[dfr]⟩) (rd:=none) hm'' ⟨p1.trans hE.w,p2.trans hE.S,p3.trans hE.B,p4.trans hE.pin,p5.trans hE.ρ,λb hb=>by cases hb⟩ (λid hid=>List.mem_cons_of_mem _ (List.mem_cons_of_mem _ hid))
   have hf'':cE ρ' w'' fr' a'.tmps:=hf'.mono hkp (λ_ _ x=>x) λi _=>ρ'.moved_refl i
   have hmv:=hm''.mv
   rw [p4.trans hE.pin,p5.trans hE.ρ]at hmv
   have bx':ρ'.blk x=some gx:=(hmv x (List.mem_cons_self ..)).1.trans bx
   have by':ρ'.blk y=some gy:=(hmv y (List.mem_cons_of_mem _ (List.mem_cons_self ..))).1.trans by_
   have hmY := hmE.sub (hp' := [(x, .cells tx cx), (y, .cells ty [cy])]) (by
    intro id o h
    simp only [aO]at h
    split at h
    ·rename_i e;subst e;injection h with h;subst h;exact hx'
    ·split at h
     ·rename_i e;subst e;injection h with h;subst h;exact hy'
     ·cases h)
   obtain⟨vx,lvx,hmY⟩:=hmY.relit (i:=x) (t:=tx) (cs:=cx) (by simp [aO])
   rw [show fI [(x,HObj.cells tx cx),(y, .cells ty [cy])] x (.cells tx (vx.map λv=> .d (.lit v)))=[(x, .cells tx (vx.map λv=> .d (.lit v))),(y, .cells ty [cy])]by simp [fI]]at hmY
   obtain⟨vyl,lvy,hmY⟩:=hmY.relit (i:=y) (t:=ty) (cs:=[cy]) (by simp [aO,hxy])
   obtain⟨vy,rfl⟩: ∃vy,vyl=[vy]:=by
    match vyl,lvy with
    | [v],_=>exact⟨v,rfl⟩
   rw [show fI [(x,HObj.cells tx (vx.map λv=> .d (.lit v))),(y, .cells ty [cy])] y (.cells ty ([vy].map λv=> .d (.lit v)))=[(x, .cells tx (vx.map λv=> .d (.lit v))),(y, .cells ty [.d (.lit vy)])]by simp [fI,hxy]]at hmY
   have hfx:cE ρ' w'' [(x, .ptr x 0),(y, .ptr y 0)] a'.tmps:=by
    intro t s ht
    simp only [eH]at ht
    split at ht
    ·rename_i e;subst e;injection ht with ht;subst ht;exact hf'' _ _ kx'
    ·split at ht
     ·rename_i e;subst e;injection ht with ht;subst ht;exact hf'' _ _ ky'
     ·cases ht
   rw [<-hdfr]
   refine xJ (by simp) hg hcall (aF8 hg hgb h1 h2 h3 h4 h5 h6 hI ha hc hgr (by simp;omega) ?_)
   intro A hAt hAd
   have sY:Sat (bN w'' ρ' [(x, .cells tx (vx.map λv=> .d (.lit v))),(y, .cells ty [.d (.lit vy)])] (lQ (x::y::pin)) none []) gn.ntmps ⟨[(0, .ptr x 0),(1, .ptr y 0)],[(x, .cells tx (vx.map λv=> .d (.lit v))),(y, .cells ty [.d (.lit vy)])]⟩ A w'':=by
    refine⟨by rw [hAt];simp;omega,by rw [hAd];rfl,ρ',hmY.enter (lQ (x::y::pin)) none, ?_⟩
    intro t s ht
    simp only [eH]at ht
    split at ht
    ·rename_i e
     subst e
     injection ht with ht
     subst ht
     refine⟨.pointer (some ⟨gx,0,none⟩), ?_, .ptr x 0 gx bx'⟩
     rw [hAt,Array.getElem?_setIfInBounds_ne (by omega),Array.getElem?_setIfInBounds_ne (by omega),Array.getElem?_append_left (by simp)]
     rfl
    ·split at ht
     ·rename_i e
      subst e
      injection ht with ht
      subst ht
      refine⟨.pointer (some ⟨gy,0,none⟩), ?_, .ptr y 0 gy by'⟩
      rw [hAt,Array.getElem?_setIfInBounds_ne (by omega),Array.getElem?_setIfInBounds_ne (by omega),Array.getElem?_append_left (by simp)]
      rfl
     ·cases ht
   refine wpIn_seq (wpIn_region ?_)
   have last: ∀fr2 hp2 a2 w2,gV ti [(x, .ptr x 0),(y, .ptr y 0)] hp2 fn.results.toList (λl=>fW hp2 l λl=>(cU l).ids=[]/\post (cU l))->
     Sat (bN w'' ρ' [(x, .cells tx (vx.map λv=> .d (.lit v))),(y, .cells ty [.d (.lit vy)])] (lQ (x::y::pin)) none []) gn.ntmps ⟨fr2,hp2⟩ a2 w2->a2.defers=[]/\LeavesInM (FW none) 0 P fn a'.tmps (iO post w ρ) [] .returning w2:=by
    rintro fr2 hp2 a2 w2 hk2 ⟨_,s2,ρ2,hm2,_⟩
    refine⟨by rw [s2];rfl, ?_⟩
    have hmF:=hmY.leave (pin:=lQ (x::y::pin)) (rd:=none) hm2 ⟨rfl,rfl,rfl,rfl,rfl,λb hb=>by cases hb⟩ (λid hid=> ?_)
    ·refine aAk hti hmF (hfx.mono hm2.kp hm2.sold λid hid=>hm2.mv id ?_) hk2
     have hid:id=x\/id=y:=by simpa [eG,SV.ids]using hid
     show id∈x::y::pin
     rcases hid with e|e
     ·rw [e];exact List.mem_cons_self ..
     ·rw [e];exact List.mem_cons_of_mem _ (List.mem_cons_self ..)
    ·exact List.mem_cons_of_mem _ (List.mem_cons_of_mem _ hid)
   have f2: ∀fr2 hp2 a2 w2,sN ⟨P,ti,lQ (x::y::pin),gn.ntmps,keepY,200,none,false,[]⟩ o2.toList
     (λ_ hp2=>gV ti [(x, .ptr x 0),(y, .ptr y 0)] hp2 fn.results.toList (λl=>fW hp2 l λl=>(cU l).ids=[]/\post (cU l))) o2.toList fr2 hp2->
     Sat (bN w'' ρ' [(x, .cells tx (vx.map λv=> .d (.lit v))),(y, .cells ty [.d (.lit vy)])] (lQ (x::y::pin)) none []) gn.ntmps ⟨fr2,hp2⟩ a2 w2->
     wpOpsIn (FW none) 0 P o2 (λe aY wY=>(e= .normal\/e= .ret)/\aY.defers=[]/\ ∀v':Value,LeavesInM (FW none) 0 P fn a'.tmps (iO post w ρ) [] (settle (.panicking [{ v:= .iface t v,recovered:=true }])) wY) (List.range o2.size) a2 w2:=by
    intro fr2 hp2 a2 w2 hk2 hs2
    have:=lR (C:=⟨P,ti,lQ (x::y::pin),gn.ntmps,keepY,200,none,false,[]⟩) hti (all:=o2.toList) (E:=bN w'' ρ' [(x, .cells tx (vx.map λv=> .d (.lit v))),(y, .cells ty [.d (.lit vy)])] (lQ (x::y::pin)) none [])
     (Q:= λe aY wY=>(e= .normal\/e= .ret)/\aY.defers=[]/\ ∀v':Value,LeavesInM (FW none) 0 P fn a'.tmps (iO post w ρ) [] (settle (.panicking [{ v:= .iface t v,recovered:=true }])) wY) rfl
     (λfr3 hp3 a3 w3 hk3 hs3 => by
      obtain⟨z1,z2⟩:=last fr3 hp3 a3 w3 hk3 hs3
      exact⟨.inl rfl,z1,λ_=>z2⟩) (λ_ _ _ _ _ _ hk=>hk.elim) o2.toList 0 _ _ _ _ rfl hk2 hs2
    exact vM this
   have f1:=lR (C:=⟨P,ti,lQ (x::y::pin),gn.ntmps,keepY,200,none,false,[]⟩) hti (all:=o1.toList) (E:=bN w'' ρ' [(x, .cells tx (vx.map λv=> .d (.lit v))),(y, .cells ty [.d (.lit vy)])] (lQ (x::y::pin)) none [])
    (Q := Exit.then ((Code.region r2 o2 false).wpIn (FW none) 0 P (λe aY wY => (e = .normal \/ e = .ret) /\ aY.defers = [] /\ ∀ v' : Value, LeavesInM (FW none) 0 P fn a'.tmps (iO post w ρ) [] (settle (.panicking [{ v := .iface t v, recovered := true }])) wY))
     (λe aY wY=>(e= .normal\/e= .ret)/\aY.defers=[]/\ ∀v':Value,LeavesInM (FW none) 0 P fn a'.tmps (iO post w ρ) [] (settle (.panicking [{ v:= .iface t v,recovered:=true }])) wY)) rfl
    (λfr2 hp2 a2 w2 hk2 hs2=>wpIn_region (f2 fr2 hp2 a2 w2 hk2 hs2)) (λ_ _ _ _ _ _ hk=>hk.elim) o1.toList 0 _ _ _ _ rfl (hY hqq vx vy (lvx.trans lx)) sY
   exact vM f1
  cases e0<;>cases e<;>simp only [Ex.rel]at hrel<;>simp only [KX,tT]at hk
  ·exact fin hk
  ·exact hk.elim
  ·exact hk.elim
  ·exact fin hk
  ·exact finp _ hrel hk
 have s0:Sat ⟨w,ρ.S,λ_=>False,lQ pin,ρ,none,[],0⟩ fn.ntmps ⟨fM 0 args,roH hp⟩ { tmps:=vs++Array.replicate (fn.ntmps - vs.size) undef,defers:=[] } w:=by
  refine⟨?_,rfl,ρ,hm,hfs⟩
  simp only [Array.size_append,Array.size_replicate]
  have:=hargs.1
  omega
 have:=lR (C:=⟨P,ti,lQ pin,fn.ntmps,keep,0,none,zc,frz⟩) hti (all:=opsA.toList) (E:=⟨w,ρ.S,λ_=>False,lQ pin,ρ,none,[],0⟩) (Q:=Exit.then ((Code.seq (.region j #[mk,df] false) B).wpIn (FW none) 0 P (bodyPostM (FW none) 0 P fn (iO post w ρ))) (bodyPostM (FW none) 0 P fn (iO post w ρ))) rfl (λfr hp a w hk hs=>key fr hp a w hk hs) (λ_ _ _ _ _ _ hk=>hk.elim) opsA.toList 0 _ _ _ _ rfl hA s0
 exact vM this
end
end Go.Proofs.YtcomlapnibckmaaGreatDoor
namespace Go.Proofs.YtcomlapnibckmaaGreatDoor
open Go.Proofs Go.RowKit
set_option maxRecDepth 10000
attribute [local irreducible] aN aH Tri aF YVC cM bB
theorem iN {α:Type}{rd:Rd α}{wr:α->List UInt8×Int}{zero:α}{bad:Int}{b c:List UInt8}{x:α}(h:rd b=some (x,c)):eE rd wr zero bad b=if c=[]/\wr x=(b,0)then (x,0)else (zero,bad):=by
 unfold eE
 rw [h]
 cases c with
 |nil=>simp
 |cons _ _=>simp
theorem mD {α:Type}{rd:Rd α}{wr:α->List UInt8×Int}{zero:α}{bad:Int}{b:List UInt8}(h:rd b=none):eE rd wr zero bad b=(zero,bad):=by
 unfold eE;rw [h]
theorem dI (a b:List UInt8):Tri Tryz.prog 98 [.d (.sl 1 (a.map bC)), .d (.sl 1 (b.map bC))] [] (λr=>r= .d (.bool (decide (a=b)))):=by
 have ha:=kI a
 have hb:=kI b
 refine aK hty Tryz.func98 rfl (kp [0,1,4]) [] _ _ _ (by simp [Tryz.f98]) (by simp) ?_
 ((conv=>whnf);repeat' ((first|(intro hq;(try simp only [lnS]at hq);(try rewrite [List.length_map]))|refine sJ ?_|refine .intro _ (.intro rfl ?_)|refine exL (k:= ?_)|refine dwR ?_|((first|refine aB ?_ ?_|refine aC ?_ ?_)<;>intro hb<;>(first|exact ddX hb|try simp only [lnS]at hb))|(refine aA ?_ ?_<;>intro hb<;>try exact dsX hb))<;>(conv=>whnf)))
 rw [ha,hb]
 rfl
theorem aE {α:Type}{l:List α}{n:Nat}(h:l.length=n+1): ∃c m,l=c::m/\m.length=n:=by
 cases l with
 |nil=>cases h
 |cons c m=>exact⟨c,m,rfl,by simpa using h⟩
def aDq:Dig:=⟨List.replicate 32 0,rfl⟩
def cm0:Cm:=⟨0,[],aDq,[]⟩
theorem pT (wr:Cm->List UInt8×Int) (bs:List UInt8) (hb:bs.length<=1000000) (hwr: ∀x c,rCm bs=some (x,c)->Tri Tryz.prog 18 [.d (.agg (cmR x))] [] (λr=>r= .tup [.d (.sl 1 ((wr x).1.map bC)), .d (.int .i64 (wr x).2)])):
  Tri Tryz.prog 56 [.d (.sl 1 (bs.map bC)), .fn 57 [] [], .fn 18 [] []] [] (λr=>r= .tup [.d (.agg (cmR (eE rCm wr cm0 280 bs).1)), .d (.int .i64 (eE rCm wr cm0 280 bs).2)]):=by
 have hlb:=jZ bs
 have hsl:List.drop 0 (List.take (((bs.map bC).length:Nat):Int).toNat (bs.map bC))=bs.map bC:=by rw [List.drop_zero,Int.toNat_natCast,List.take_of_length_le (Nat.le_refl _)]
 refine Tri.says ?_
 refine rR false [] hty Tryz.func56 rfl Tryz.func105 rfl rfl rfl rfl rfl rfl rfl (by kernel_rfl) (by decide) (by decide) (by decide) (by decide) rfl (by kernel_rfl) (ms:= #[]) (d:=11) (x:=6) (y:=7) (tx:=41) (ty:=30) rfl rfl rfl rfl rfl rfl (by decide) (by decide) (kp [0,1,2,6,7,8,9,10,44]) (kp [0,1,2,4]) [] _ _ _ 35 (eE rCm wr cm0 280 bs=(cm0,280)) (by simp [Tryz.f56]) (by decide) ?_ ?_
 ·((conv=>whnf);repeat ((first|(intro hq;try simp only [lnS]at hq)|refine sI ?_|refine .intro _ (.intro rfl ?_));(conv=>whnf)))
  rw [hsl]
  refine RdT.call aDv rfl (λ_=>rfl) bs hb rfl (λx c e1=> ?_) (λe1 b=>⟨mD e1,rfl,rfl,⟨_,rfl,rfl⟩,_,rfl⟩)
  have hw:=hwr x c e1
  have hd:=iN (wr:=wr) (zero:=cm0) (bad:=280) e1
  generalize eE rCm wr cm0 280 bs=res at *
  generalize wr x=ae at *
  obtain⟨a,e⟩:=ae
  have heq:=dI a bs
  obtain⟨no,ps,dg,m⟩:=x
  obtain⟨xl,hx⟩:=dg
  obtain⟨y0,y1,y2,y3,y4,y5,y6,y7,y8,y9,y10,y11,y12,y13,y14,y15,y16,y17,y18,y19,y20,y21,y22,y23,y24,y25,y26,y27,y28,y29,y30,y31,rfl⟩:=fK hx
  ((conv=>whnf);repeat ((first|(refine aD [] hw trivial (λr hs=> ?_);subst hs)|(intro hq;try simp only [lnS]at hq)|refine sI ?_|refine .intro _ (.intro rfl ?_));(conv=>whnf)))
  refine aC (λh2=> ?_) (λh2=> ?_)
  ·have hr:res=(cm0,280):=by rw [hd,if_neg];rintro⟨_,h⟩;injection h with h3 h4;exact h2 h4
   ((conv=>whnf);repeat ((first|(refine cB hty rfl (by with_unfolding_all exact rfl) rfl rfl ?_)|(intro hq;try simp only [lnS]at hq)|refine sI ?_|refine .intro _ (.intro rfl ?_));(conv=>whnf)))
   exact⟨⟨_,rfl,rfl⟩,_,rfl⟩
  have h2:e=0:=by simpa using h2
  subst h2
  ((conv=>whnf);repeat ((first|(intro hq;try simp only [lnS]at hq)|refine sI ?_|refine .intro _ (.intro rfl ?_));(conv=>whnf)))
  refine aB (λh3=> ?_) (λh3=> ?_)
  ·have hr:res=(cm0,280):=by rw [hd,if_neg];rintro⟨h,_⟩;subst h;simp at h3
   ((conv=>whnf);repeat ((first|(refine cB hty rfl (by with_unfolding_all exact rfl) rfl rfl ?_)|(intro hq;try simp only [lnS]at hq)|refine sI ?_|refine .intro _ (.intro rfl ?_));(conv=>whnf)))
   exact⟨⟨_,rfl,rfl⟩,_,rfl⟩
  have h3:c=[]:=by
   rw [jZ]at h3
   exact List.length_eq_zero_iff.1 (by omega)
  subst h3
  ((conv=>whnf);repeat ((first|(refine aD [] heq trivial (λr hs=> ?_);subst hs)|(intro hq;try simp only [lnS]at hq)|refine sI ?_|refine .intro _ (.intro rfl ?_));(conv=>whnf)))
  by_cases h4:a=bs
  ·subst h4
   rw [decide_eq_true rfl]
   rw [if_pos ⟨rfl,rfl⟩]at hd
   subst hd
   ((conv=>whnf);repeat ((first|(intro hq;try simp only [lnS]at hq)|refine sI ?_|refine .intro _ (.intro rfl ?_));(conv=>whnf)))
   exact⟨_, .refl _,rfl⟩
  ·have hr:res=(cm0,280):=by rw [hd,if_neg];rintro⟨_,h⟩;injection h with h5 h6;exact h4 h5
   rw [decide_eq_false h4]
   ((conv=>whnf);repeat ((first|(refine cB hty rfl (by with_unfolding_all exact rfl) rfl rfl ?_)|(intro hq;try simp only [lnS]at hq)|refine sI ?_|refine .intro _ (.intro rfl ?_));(conv=>whnf)))
   exact⟨⟨_,rfl,rfl⟩,_,rfl⟩
 ·intro hr vx vy hcx
  rw [hr]
  obtain⟨s0,vx0,rfl,h0x⟩:=aE hcx
  obtain⟨s1,vx1,rfl,h1x⟩:=aE h0x
  obtain⟨s2,vx2,rfl,h2x⟩:=aE h1x
  obtain⟨s3,vx3,rfl,h3x⟩:=aE h2x
  obtain⟨s4,vx4,rfl,h4x⟩:=aE h3x
  obtain⟨s5,vx5,rfl,h5x⟩:=aE h4x
  obtain⟨s6,vx6,rfl,h6x⟩:=aE h5x
  obtain⟨s7,vx7,rfl,h7x⟩:=aE h6x
  obtain⟨s8,vx8,rfl,h8x⟩:=aE h7x
  obtain⟨s9,vx9,rfl,h9x⟩:=aE h8x
  obtain⟨s10,vx10,rfl,h10x⟩:=aE h9x
  obtain⟨s11,vx11,rfl,h11x⟩:=aE h10x
  obtain⟨s12,vx12,rfl,h12x⟩:=aE h11x
  obtain⟨s13,vx13,rfl,h13x⟩:=aE h12x
  obtain⟨s14,vx14,rfl,h14x⟩:=aE h13x
  obtain⟨s15,vx15,rfl,h15x⟩:=aE h14x
  obtain⟨s16,vx16,rfl,h16x⟩:=aE h15x
  obtain⟨s17,vx17,rfl,h17x⟩:=aE h16x
  obtain⟨s18,vx18,rfl,h18x⟩:=aE h17x
  obtain⟨s19,vx19,rfl,h19x⟩:=aE h18x
  obtain⟨s20,vx20,rfl,h20x⟩:=aE h19x
  obtain⟨s21,vx21,rfl,h21x⟩:=aE h20x
  obtain⟨s22,vx22,rfl,h22x⟩:=aE h21x
  obtain⟨s23,vx23,rfl,h23x⟩:=aE h22x
  obtain⟨s24,vx24,rfl,h24x⟩:=aE h23x
  obtain⟨s25,vx25,rfl,h25x⟩:=aE h24x
  obtain⟨s26,vx26,rfl,h26x⟩:=aE h25x
  obtain⟨s27,vx27,rfl,h27x⟩:=aE h26x
  obtain⟨s28,vx28,rfl,h28x⟩:=aE h27x
  obtain⟨s29,vx29,rfl,h29x⟩:=aE h28x
  obtain⟨s30,vx30,rfl,h30x⟩:=aE h29x
  obtain⟨s31,vx31,rfl,h31x⟩:=aE h30x
  obtain⟨s32,vx32,rfl,h32x⟩:=aE h31x
  obtain⟨s33,vx33,rfl,h33x⟩:=aE h32x
  obtain⟨s34,vx34,rfl,h34x⟩:=aE h33x
  obtain rfl:=List.length_eq_zero_iff.1 h34x
  ((conv=>whnf);repeat ((first|(intro hq;try simp only [lnS]at hq)|refine sI ?_|refine .intro _ (.intro rfl ?_));(conv=>whnf)))
  exact⟨_,dJ.pair (dJ.wkd (by repeat' (first|exact trivial|exact rfl|refine And.intro ?_ ?_))),rfl⟩
end Go.Proofs.YtcomlapnibckmaaGreatDoor
namespace Go.Proofs.YtcomlapnibckmaaGreatDoor
open Go.Proofs Go.RowKit
set_option maxRecDepth 10000
attribute [local irreducible] aN aH Tri aF YVC cM bB
def qy0:Qy:=⟨[],[]⟩
def al0:Al:=⟨[],aDq,[],aDq,0,[],[]⟩
theorem sU (wr:Qy->List UInt8×Int) (bs:List UInt8) (hb:bs.length<=1000000) (hwr: ∀x c,rQy bs=some (x,c)->Tri Tryz.prog 13 [.d (.agg (qyR x))] NG (λr=>r= .tup [.d (.sl 1 ((wr x).1.map bC)), .d (.int .i64 (wr x).2)])):
  Tri Tryz.prog 47 [.d (.sl 1 (bs.map bC)), .fn 48 [] [], .fn 13 [] []] NG (λr=> ∃x,x=(eE rQy wr qy0 280 bs).1/\r= .tup [.d (.agg (qyR x)), .d (.int .i64 (eE rQy wr qy0 280 bs).2)]):=by
 have hlb:=jZ bs
 have hsl:List.drop 0 (List.take (((bs.map bC).length:Nat):Int).toNat (bs.map bC))=bs.map bC:=by rw [List.drop_zero,Int.toNat_natCast,List.take_of_length_le (Nat.le_refl _)]
 refine Tri.says ?_
 refine rR false [] hty Tryz.func47 rfl Tryz.func97 rfl rfl rfl rfl rfl rfl rfl (by kernel_rfl) (by decide) (by decide) (by decide) (by decide) rfl (by kernel_rfl) (ms:= #[]) (d:=11) (x:=6) (y:=7) (tx:=25) (ty:=30) rfl rfl rfl rfl rfl rfl (by decide) (by decide) (kp [0,1,2,6,7,8,9,10,44]) (kp [0,1,2,4]) [] _ _ _ 2 (eE rQy wr qy0 280 bs=(qy0,280)) (by simp [Tryz.f47]) (by decide) ?_ ?_
 ·((conv=>whnf);repeat ((first|(intro hq;try simp only [lnS]at hq)|refine sI ?_|refine .intro _ (.intro rfl ?_));(conv=>whnf)))
  rw [hsl]
  refine RdT.call aFb rfl (λ_=>rfl) bs hb rfl (λx c e1=> ?_) (λe1 b=>⟨mD e1,rfl,rfl,⟨_,rfl,rfl⟩,_,rfl⟩)
  have hw:=hwr x c e1
  have hd:=iN (wr:=wr) (zero:=qy0) (bad:=280) e1
  generalize eE rQy wr qy0 280 bs=res at *
  generalize wr x=ae at *
  obtain⟨a,e⟩:=ae
  have heq:=dI a bs
  obtain⟨tl,pl⟩:=x
  ((conv=>whnf);repeat ((first|(refine aD NG hw ⟨rfl,rfl,trivial⟩ (λr hs=> ?_);subst hs)|(intro hq;try simp only [lnS]at hq)|refine sI ?_|refine .intro _ (.intro rfl ?_));(conv=>whnf)))
  refine aC (λh2=> ?_) (λh2=> ?_)
  ·have hr:res=(qy0,280):=by rw [hd,if_neg];rintro⟨_,h⟩;injection h with h3 h4;exact h2 h4
   ((conv=>whnf);repeat ((first|(refine cB hty rfl (by with_unfolding_all exact rfl) rfl rfl ?_)|(intro hq;try simp only [lnS]at hq)|refine sI ?_|refine .intro _ (.intro rfl ?_));(conv=>whnf)))
   exact⟨⟨_,rfl,rfl⟩,_,rfl⟩
  have h2:e=0:=by simpa using h2
  subst h2
  ((conv=>whnf);repeat ((first|(intro hq;try simp only [lnS]at hq)|refine sI ?_|refine .intro _ (.intro rfl ?_));(conv=>whnf)))
  refine aB (λh3=> ?_) (λh3=> ?_)
  ·have hr:res=(qy0,280):=by rw [hd,if_neg];rintro⟨h,_⟩;subst h;simp at h3
   ((conv=>whnf);repeat ((first|(refine cB hty rfl (by with_unfolding_all exact rfl) rfl rfl ?_)|(intro hq;try simp only [lnS]at hq)|refine sI ?_|refine .intro _ (.intro rfl ?_));(conv=>whnf)))
   exact⟨⟨_,rfl,rfl⟩,_,rfl⟩
  have h3:c=[]:=by
   rw [jZ]at h3
   exact List.length_eq_zero_iff.1 (by omega)
  subst h3
  ((conv=>whnf);repeat ((first|(refine aD [] heq trivial (λr hs=> ?_);subst hs)|(intro hq;try simp only [lnS]at hq)|refine sI ?_|refine .intro _ (.intro rfl ?_));(conv=>whnf)))
  by_cases h4:a=bs
  ·subst h4
   rw [decide_eq_true rfl]
   rw [if_pos ⟨rfl,rfl⟩]at hd
   subst hd
   ((conv=>whnf);repeat ((first|(intro hq;try simp only [lnS]at hq)|refine sI ?_|refine .intro _ (.intro rfl ?_));(conv=>whnf)))
   exact⟨_, .refl _,_,rfl,rfl⟩
  ·have hr:res=(qy0,280):=by rw [hd,if_neg];rintro⟨_,h⟩;injection h with h5 h6;exact h4 h5
   rw [decide_eq_false h4]
   ((conv=>whnf);repeat ((first|(refine cB hty rfl (by with_unfolding_all exact rfl) rfl rfl ?_)|(intro hq;try simp only [lnS]at hq)|refine sI ?_|refine .intro _ (.intro rfl ?_));(conv=>whnf)))
   exact⟨⟨_,rfl,rfl⟩,_,rfl⟩
 ·intro hr vx vy hcx
  rw [hr]
  obtain⟨s0,vx0,rfl,h0x⟩:=aE hcx
  obtain⟨s1,vx1,rfl,h1x⟩:=aE h0x
  obtain rfl:=List.length_eq_zero_iff.1 h1x
  ((conv=>whnf);repeat ((first|(intro hq;try simp only [lnS]at hq)|refine sI ?_|refine .intro _ (.intro rfl ?_));(conv=>whnf)))
  exact⟨_,dJ.pair (dJ.wkd (by repeat' (first|exact trivial|exact rfl|refine And.intro ?_ ?_))),_,rfl,rfl⟩
theorem kG (wr:Qy->List UInt8×Int) (bs:List UInt8) (hb:bs.length<=1000000) (hwr: ∀x c,rQy bs=some (x,c)->Tri Tryz.prog 13 [.d (.agg (qyR x))] NG (λr=>r= .tup [.d (.sl 1 ((wr x).1.map bC)), .d (.int .i64 (wr x).2)])):
  Tri Tryz.prog 15 [.d (.sl 1 (bs.map bC))] NG (λr=> ∃x,x=(eE rQy wr qy0 280 bs).1/\r= .tup [.d (.agg (qyR x)), .d (.int .i64 (eE rQy wr qy0 280 bs).2)]):=by
 have hd:=sU wr bs hb hwr
 generalize eE rQy wr qy0 280 bs=res at *
 refine aG false [] hty Tryz.func15 rfl (kp [0,2,3]) [] _ _ _ (by simp [Tryz.f15]) (by decide) ?_
 ((conv=>whnf);repeat ((first|(intro hq;try simp only [lnS]at hq)|refine sI ?_|refine .intro _ (.intro rfl ?_));(conv=>whnf)))
 refine aD NG hd ⟨rfl,rfl,trivial⟩ (λr hs=> ?_)
 obtain⟨x,hx0,rfl⟩:=hs
 obtain⟨tl,pl⟩:=x
 ((conv=>whnf);repeat ((first|(intro hq;try simp only [lnS]at hq)|refine sI ?_|refine .intro _ (.intro rfl ?_));(conv=>whnf)))
 rw [<-hx0]
 rfl
theorem mP (wr:Al->List UInt8×Int) (bs:List UInt8) (hb:bs.length<=1000000) (hwr: ∀x c,(rAl 9) bs=some (x,c)->Tri Tryz.prog 24 [.d (.agg (alR x))] NG (λr=>r= .tup [.d (.sl 1 ((wr x).1.map bC)), .d (.int .i64 (wr x).2)])):
  Tri Tryz.prog 64 [.d (.sl 1 (bs.map bC)), .fn 65 [] [], .fn 24 [] []] NG (λr=> ∃x,x=(eE (rAl 9) wr al0 280 bs).1/\r= .tup [.d (.agg (alR x)), .d (.int .i64 (eE (rAl 9) wr al0 280 bs).2)]):=by
 have hlb:=jZ bs
 have hsl:List.drop 0 (List.take (((bs.map bC).length:Nat):Int).toNat (bs.map bC))=bs.map bC:=by rw [List.drop_zero,Int.toNat_natCast,List.take_of_length_le (Nat.le_refl _)]
 refine Tri.says ?_
 refine rR false [] hty Tryz.func64 rfl Tryz.func112 rfl rfl rfl rfl rfl rfl rfl (by kernel_rfl) (by decide) (by decide) (by decide) (by decide) rfl (by kernel_rfl) (ms:= #[]) (d:=11) (x:=6) (y:=7) (tx:=52) (ty:=30) rfl rfl rfl rfl rfl rfl (by decide) (by decide) (kp [0,1,2,6,7,8,9,10,44]) (kp [0,1,2,4]) [] _ _ _ 69 (eE (rAl 9) wr al0 280 bs=(al0,280)) (by simp [Tryz.f64]) (by decide) ?_ ?_
 ·((conv=>whnf);repeat ((first|(intro hq;try simp only [lnS]at hq)|refine sI ?_|refine .intro _ (.intro rfl ?_));(conv=>whnf)))
  rw [hsl]
  refine RdT.call wJ rfl (λ_=>rfl) bs hb rfl (λx c e1=> ?_) (λe1 b=>⟨mD e1,rfl,rfl,⟨_,rfl,rfl⟩,_,rfl⟩)
  have hw:=hwr x c e1
  have hd:=iN (wr:=wr) (zero:=al0) (bad:=280) e1
  generalize eE (rAl 9) wr al0 280 bs=res at *
  generalize wr x=ae at *
  obtain⟨a,e⟩:=ae
  have heq:=dI a bs
  obtain⟨nm,d1,ax,d2,ix,ps,pt⟩:=x
  obtain⟨yl,hy⟩:=d1
  obtain⟨y0,y1,y2,y3,y4,y5,y6,y7,y8,y9,y10,y11,y12,y13,y14,y15,y16,y17,y18,y19,y20,y21,y22,y23,y24,y25,y26,y27,y28,y29,y30,y31,rfl⟩:=fK hy
  obtain⟨zl,hz⟩:=d2
  obtain⟨z0,z1,z2,z3,z4,z5,z6,z7,z8,z9,z10,z11,z12,z13,z14,z15,z16,z17,z18,z19,z20,z21,z22,z23,z24,z25,z26,z27,z28,z29,z30,z31,rfl⟩:=fK hz
  ((conv=>whnf);repeat ((first|(refine aD NG hw ⟨rfl,rfl,trivial⟩ (λr hs=> ?_);subst hs)|(intro hq;try simp only [lnS]at hq)|refine sI ?_|refine .intro _ (.intro rfl ?_));(conv=>whnf)))
  refine aC (λh2=> ?_) (λh2=> ?_)
  ·have hr:res=(al0,280):=by rw [hd,if_neg];rintro⟨_,h⟩;injection h with h3 h4;exact h2 h4
   ((conv=>whnf);repeat ((first|(refine cB hty rfl (by with_unfolding_all exact rfl) rfl rfl ?_)|(intro hq;try simp only [lnS]at hq)|refine sI ?_|refine .intro _ (.intro rfl ?_));(conv=>whnf)))
   exact⟨⟨_,rfl,rfl⟩,_,rfl⟩
  have h2:e=0:=by simpa using h2
  subst h2
  ((conv=>whnf);repeat ((first|(intro hq;try simp only [lnS]at hq)|refine sI ?_|refine .intro _ (.intro rfl ?_));(conv=>whnf)))
  refine aB (λh3=> ?_) (λh3=> ?_)
  ·have hr:res=(al0,280):=by rw [hd,if_neg];rintro⟨h,_⟩;subst h;simp at h3
   ((conv=>whnf);repeat ((first|(refine cB hty rfl (by with_unfolding_all exact rfl) rfl rfl ?_)|(intro hq;try simp only [lnS]at hq)|refine sI ?_|refine .intro _ (.intro rfl ?_));(conv=>whnf)))
   exact⟨⟨_,rfl,rfl⟩,_,rfl⟩
  have h3:c=[]:=by
   rw [jZ]at h3
   exact List.length_eq_zero_iff.1 (by omega)
  subst h3
  ((conv=>whnf);repeat ((first|(refine aD [] heq trivial (λr hs=> ?_);subst hs)|(intro hq;try simp only [lnS]at hq)|refine sI ?_|refine .intro _ (.intro rfl ?_));(conv=>whnf)))
  by_cases h4:a=bs
  ·subst h4
   rw [decide_eq_true rfl]
   rw [if_pos ⟨rfl,rfl⟩]at hd
   subst hd
   ((conv=>whnf);repeat ((first|(intro hq;try simp only [lnS]at hq)|refine sI ?_|refine .intro _ (.intro rfl ?_));(conv=>whnf)))
   exact⟨_, .refl _,_,rfl,rfl⟩
  ·have hr:res=(al0,280):=by rw [hd,if_neg];rintro⟨_,h⟩;injection h with h5 h6;exact h4 h5
   rw [decide_eq_false h4]
   ((conv=>whnf);repeat ((first|(refine cB hty rfl (by with_unfolding_all exact rfl) rfl rfl ?_)|(intro hq;try simp only [lnS]at hq)|refine sI ?_|refine .intro _ (.intro rfl ?_));(conv=>whnf)))
   exact⟨⟨_,rfl,rfl⟩,_,rfl⟩
 ·intro hr vx vy hcx
  rw [hr]
  obtain⟨s0,vx0,rfl,h0x⟩:=aE hcx
  obtain⟨s1,vx1,rfl,h1x⟩:=aE h0x
  obtain⟨s2,vx2,rfl,h2x⟩:=aE h1x
  obtain⟨s3,vx3,rfl,h3x⟩:=aE h2x
  obtain⟨s4,vx4,rfl,h4x⟩:=aE h3x
  obtain⟨s5,vx5,rfl,h5x⟩:=aE h4x
  obtain⟨s6,vx6,rfl,h6x⟩:=aE h5x
  obtain⟨s7,vx7,rfl,h7x⟩:=aE h6x
  obtain⟨s8,vx8,rfl,h8x⟩:=aE h7x
  obtain⟨s9,vx9,rfl,h9x⟩:=aE h8x
  obtain⟨s10,vx10,rfl,h10x⟩:=aE h9x
  obtain⟨s11,vx11,rfl,h11x⟩:=aE h10x
  obtain⟨s12,vx12,rfl,h12x⟩:=aE h11x
  obtain⟨s13,vx13,rfl,h13x⟩:=aE h12x
  obtain⟨s14,vx14,rfl,h14x⟩:=aE h13x
  obtain⟨s15,vx15,rfl,h15x⟩:=aE h14x
  obtain⟨s16,vx16,rfl,h16x⟩:=aE h15x
  obtain⟨s17,vx17,rfl,h17x⟩:=aE h16x
  obtain⟨s18,vx18,rfl,h18x⟩:=aE h17x
  obtain⟨s19,vx19,rfl,h19x⟩:=aE h18x
  obtain⟨s20,vx20,rfl,h20x⟩:=aE h19x
  obtain⟨s21,vx21,rfl,h21x⟩:=aE h20x
  obtain⟨s22,vx22,rfl,h22x⟩:=aE h21x
  obtain⟨s23,vx23,rfl,h23x⟩:=aE h22x
  obtain⟨s24,vx24,rfl,h24x⟩:=aE h23x
  obtain⟨s25,vx25,rfl,h25x⟩:=aE h24x
  obtain⟨s26,vx26,rfl,h26x⟩:=aE h25x
  obtain⟨s27,vx27,rfl,h27x⟩:=aE h26x
  obtain⟨s28,vx28,rfl,h28x⟩:=aE h27x
  obtain⟨s29,vx29,rfl,h29x⟩:=aE h28x
  obtain⟨s30,vx30,rfl,h30x⟩:=aE h29x
  obtain⟨s31,vx31,rfl,h31x⟩:=aE h30x
  obtain⟨s32,vx32,rfl,h32x⟩:=aE h31x
  obtain⟨s33,vx33,rfl,h33x⟩:=aE h32x
  obtain⟨s34,vx34,rfl,h34x⟩:=aE h33x
  obtain⟨s35,vx35,rfl,h35x⟩:=aE h34x
  obtain⟨s36,vx36,rfl,h36x⟩:=aE h35x
  obtain⟨s37,vx37,rfl,h37x⟩:=aE h36x
  obtain⟨s38,vx38,rfl,h38x⟩:=aE h37x
  obtain⟨s39,vx39,rfl,h39x⟩:=aE h38x
  obtain⟨s40,vx40,rfl,h40x⟩:=aE h39x
  obtain⟨s41,vx41,rfl,h41x⟩:=aE h40x
  obtain⟨s42,vx42,rfl,h42x⟩:=aE h41x
  obtain⟨s43,vx43,rfl,h43x⟩:=aE h42x
  obtain⟨s44,vx44,rfl,h44x⟩:=aE h43x
  obtain⟨s45,vx45,rfl,h45x⟩:=aE h44x
  obtain⟨s46,vx46,rfl,h46x⟩:=aE h45x
  obtain⟨s47,vx47,rfl,h47x⟩:=aE h46x
  obtain⟨s48,vx48,rfl,h48x⟩:=aE h47x
  obtain⟨s49,vx49,rfl,h49x⟩:=aE h48x
  obtain⟨s50,vx50,rfl,h50x⟩:=aE h49x
  obtain⟨s51,vx51,rfl,h51x⟩:=aE h50x
  obtain⟨s52,vx52,rfl,h52x⟩:=aE h51x
  obtain⟨s53,vx53,rfl,h53x⟩:=aE h52x
  obtain⟨s54,vx54,rfl,h54x⟩:=aE h53x
  obtain⟨s55,vx55,rfl,h55x⟩:=aE h54x
  obtain⟨s56,vx56,rfl,h56x⟩:=aE h55x
  obtain⟨s57,vx57,rfl,h57x⟩:=aE h56x
  obtain⟨s58,vx58,rfl,h58x⟩:=aE h57x
  obtain⟨s59,vx59,rfl,h59x⟩:=aE h58x
  obtain⟨s60,vx60,rfl,h60x⟩:=aE h59x
  obtain⟨s61,vx61,rfl,h61x⟩:=aE h60x
  obtain⟨s62,vx62,rfl,h62x⟩:=aE h61x
  obtain⟨s63,vx63,rfl,h63x⟩:=aE h62x
  obtain⟨s64,vx64,rfl,h64x⟩:=aE h63x
  obtain⟨s65,vx65,rfl,h65x⟩:=aE h64x
  obtain⟨s66,vx66,rfl,h66x⟩:=aE h65x
  obtain⟨s67,vx67,rfl,h67x⟩:=aE h66x
  obtain⟨s68,vx68,rfl,h68x⟩:=aE h67x
  obtain rfl:=List.length_eq_zero_iff.1 h68x
  ((conv=>whnf);repeat ((first|(intro hq;try simp only [lnS]at hq)|refine sI ?_|refine .intro _ (.intro rfl ?_));(conv=>whnf)))
  exact⟨_,dJ.pair (dJ.wkd (by repeat' (first|exact trivial|exact rfl|refine And.intro ?_ ?_))),_,rfl,rfl⟩
theorem lM (wr:Al->List UInt8×Int) (bs:List UInt8) (hb:bs.length<=1000000) (hwr: ∀x c,(rAl 9) bs=some (x,c)->Tri Tryz.prog 24 [.d (.agg (alR x))] NG (λr=>r= .tup [.d (.sl 1 ((wr x).1.map bC)), .d (.int .i64 (wr x).2)])):
  Tri Tryz.prog 26 [.d (.sl 1 (bs.map bC))] NG (λr=> ∃x,x=(eE (rAl 9) wr al0 280 bs).1/\r= .tup [.d (.agg (alR x)), .d (.int .i64 (eE (rAl 9) wr al0 280 bs).2)]):=by
 have hd:=mP wr bs hb hwr
 generalize eE (rAl 9) wr al0 280 bs=res at *
 refine aG false [] hty Tryz.func26 rfl (kp [0,2,3]) [] _ _ _ (by simp [Tryz.f26]) (by decide) ?_
 ((conv=>whnf);repeat ((first|(intro hq;try simp only [lnS]at hq)|refine sI ?_|refine .intro _ (.intro rfl ?_));(conv=>whnf)))
 refine aD NG hd ⟨rfl,rfl,trivial⟩ (λr hs=> ?_)
 obtain⟨x,hx0,rfl⟩:=hs
 obtain⟨nm,d1,ax,d2,ix,ps,pt⟩:=x
 obtain⟨yl,hy⟩:=d1
 obtain⟨y0,y1,y2,y3,y4,y5,y6,y7,y8,y9,y10,y11,y12,y13,y14,y15,y16,y17,y18,y19,y20,y21,y22,y23,y24,y25,y26,y27,y28,y29,y30,y31,rfl⟩:=fK hy
 obtain⟨zl,hz⟩:=d2
 obtain⟨z0,z1,z2,z3,z4,z5,z6,z7,z8,z9,z10,z11,z12,z13,z14,z15,z16,z17,z18,z19,z20,z21,z22,z23,z24,z25,z26,z27,z28,z29,z30,z31,rfl⟩:=fK hz
 ((conv=>whnf);repeat ((first|(intro hq;try simp only [lnS]at hq)|refine sI ?_|refine .intro _ (.intro rfl ?_));(conv=>whnf)))
 rw [<-hx0]
 rfl
theorem pU (wr:List Ax->List UInt8×Int) (bs:List UInt8) (hb:bs.length<=1000000) (hwr: ∀x c,(rAs 9) bs=some (x,c)->Tri Tryz.prog 29 [.d (.sl 16 (x.map axR))] NG (λr=>r= .tup [.d (.sl 1 ((wr x).1.map bC)), .d (.int .i64 (wr x).2)])):
  Tri Tryz.prog 70 [.d (.sl 1 (bs.map bC)), .fn 71 [] [], .fn 29 [] []] NG (λr=> ∃x,x=(eE (rAs 9) wr ([]:List Ax) 280 bs).1/\r= .tup [.d (.sl 16 (x.map axR)), .d (.int .i64 (eE (rAs 9) wr ([]:List Ax) 280 bs).2)]):=by
 have hlb:=jZ bs
 have hsl:List.drop 0 (List.take (((bs.map bC).length:Nat):Int).toNat (bs.map bC))=bs.map bC:=by rw [List.drop_zero,Int.toNat_natCast,List.take_of_length_le (Nat.le_refl _)]
 refine Tri.says ?_
 refine rR false [] hty Tryz.func70 rfl Tryz.func116 rfl rfl rfl rfl rfl rfl rfl (by kernel_rfl) (by decide) (by decide) (by decide) (by decide) rfl (by kernel_rfl) (ms:= #[]) (d:=11) (x:=6) (y:=7) (tx:=47) (ty:=30) rfl rfl rfl rfl rfl rfl (by decide) (by decide) (kp [0,1,2,6,7,8,9,10,44]) (kp [0,1,2,4]) [] _ _ _ 1 (eE (rAs 9) wr ([]:List Ax) 280 bs=(([]:List Ax),280)) (by simp [Tryz.f70]) (by decide) ?_ ?_
 ·((conv=>whnf);repeat ((first|(intro hq;try simp only [lnS]at hq)|refine sI ?_|refine .intro _ (.intro rfl ?_));(conv=>whnf)))
  rw [hsl]
  refine RdT.call xY rfl (λ_=>rfl) bs hb rfl (λx c e1=> ?_) (λe1 b=>⟨mD e1,rfl,rfl,⟨_,rfl,rfl⟩,_,rfl⟩)
  have hw:=hwr x c e1
  have hd:=iN (wr:=wr) (zero:=([]:List Ax)) (bad:=280) e1
  generalize eE (rAs 9) wr ([]:List Ax) 280 bs=res at *
  generalize wr x=ae at *
  obtain⟨a,e⟩:=ae
  have heq:=dI a bs
  ((conv=>whnf);repeat ((first|(refine aD NG hw ⟨rfl,rfl,trivial⟩ (λr hs=> ?_);subst hs)|(intro hq;try simp only [lnS]at hq)|refine sI ?_|refine .intro _ (.intro rfl ?_));(conv=>whnf)))
  refine aC (λh2=> ?_) (λh2=> ?_)
  ·have hr:res=(([]:List Ax),280):=by rw [hd,if_neg];rintro⟨_,h⟩;injection h with h3 h4;exact h2 h4
   ((conv=>whnf);repeat ((first|(refine cB hty rfl (by with_unfolding_all exact rfl) rfl rfl ?_)|(intro hq;try simp only [lnS]at hq)|refine sI ?_|refine .intro _ (.intro rfl ?_));(conv=>whnf)))
   exact⟨⟨_,rfl,rfl⟩,_,rfl⟩
  have h2:e=0:=by simpa using h2
  subst h2
  ((conv=>whnf);repeat ((first|(intro hq;try simp only [lnS]at hq)|refine sI ?_|refine .intro _ (.intro rfl ?_));(conv=>whnf)))
  refine aB (λh3=> ?_) (λh3=> ?_)
  ·have hr:res=(([]:List Ax),280):=by rw [hd,if_neg];rintro⟨h,_⟩;subst h;simp at h3
   ((conv=>whnf);repeat ((first|(refine cB hty rfl (by with_unfolding_all exact rfl) rfl rfl ?_)|(intro hq;try simp only [lnS]at hq)|refine sI ?_|refine .intro _ (.intro rfl ?_));(conv=>whnf)))
   exact⟨⟨_,rfl,rfl⟩,_,rfl⟩
  have h3:c=[]:=by
   rw [jZ]at h3
   exact List.length_eq_zero_iff.1 (by omega)
  subst h3
  ((conv=>whnf);repeat ((first|(refine aD [] heq trivial (λr hs=> ?_);subst hs)|(intro hq;try simp only [lnS]at hq)|refine sI ?_|refine .intro _ (.intro rfl ?_));(conv=>whnf)))
  by_cases h4:a=bs
  ·subst h4
   rw [decide_eq_true rfl]
   rw [if_pos ⟨rfl,rfl⟩]at hd
   subst hd
   ((conv=>whnf);repeat ((first|(intro hq;try simp only [lnS]at hq)|refine sI ?_|refine .intro _ (.intro rfl ?_));(conv=>whnf)))
   exact⟨_, .refl _,_,rfl,rfl⟩
  ·have hr:res=(([]:List Ax),280):=by rw [hd,if_neg];rintro⟨_,h⟩;injection h with h5 h6;exact h4 h5
   rw [decide_eq_false h4]
   ((conv=>whnf);repeat ((first|(refine cB hty rfl (by with_unfolding_all exact rfl) rfl rfl ?_)|(intro hq;try simp only [lnS]at hq)|refine sI ?_|refine .intro _ (.intro rfl ?_));(conv=>whnf)))
   exact⟨⟨_,rfl,rfl⟩,_,rfl⟩
 ·intro hr vx vy hcx
  rw [hr]
  obtain⟨s0,vx0,rfl,h0x⟩:=aE hcx
  obtain rfl:=List.length_eq_zero_iff.1 h0x
  ((conv=>whnf);repeat ((first|(intro hq;try simp only [lnS]at hq)|refine sI ?_|refine .intro _ (.intro rfl ?_));(conv=>whnf)))
  exact⟨_,dJ.pair (dJ.wkd (by repeat' (first|exact trivial|exact rfl|refine And.intro ?_ ?_))),_,rfl,rfl⟩
theorem eX (wr:List Ax->List UInt8×Int) (bs:List UInt8) (hb:bs.length<=1000000) (hwr: ∀x c,(rAs 9) bs=some (x,c)->Tri Tryz.prog 29 [.d (.sl 16 (x.map axR))] NG (λr=>r= .tup [.d (.sl 1 ((wr x).1.map bC)), .d (.int .i64 (wr x).2)])):
  Tri Tryz.prog 30 [.d (.sl 1 (bs.map bC))] NG (λr=> ∃x,x=(eE (rAs 9) wr ([]:List Ax) 280 bs).1/\r= .tup [.d (.sl 16 (x.map axR)), .d (.int .i64 (eE (rAs 9) wr ([]:List Ax) 280 bs).2)]):=by
 have hd:=pU wr bs hb hwr
 generalize eE (rAs 9) wr ([]:List Ax) 280 bs=res at *
 refine aG false [] hty Tryz.func30 rfl (kp [0,2,3]) [] _ _ _ (by simp [Tryz.f30]) (by decide) ?_
 ((conv=>whnf);repeat ((first|(intro hq;try simp only [lnS]at hq)|refine sI ?_|refine .intro _ (.intro rfl ?_));(conv=>whnf)))
 refine aD NG hd ⟨rfl,rfl,trivial⟩ (λr hs=> ?_)
 obtain⟨x,hx0,rfl⟩:=hs
 ((conv=>whnf);repeat ((first|(intro hq;try simp only [lnS]at hq)|refine sI ?_|refine .intro _ (.intro rfl ?_));(conv=>whnf)))
 rw [<-hx0]
 rfl
end Go.Proofs.YtcomlapnibckmaaGreatDoor
