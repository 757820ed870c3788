/-
  A range over a function: the statement, and a round of it.
  Conditions: none.
-/
import Derived.Test.YtbobcfjlbcgchaaGreatDoorWSs
import Derived.RangeFuncNested
set_option linter.unusedSectionVars false
set_option linter.unusedSimpArgs false
set_option linter.unusedVariables false
namespace Go.Proofs.YtbobcfjlbcgchaaGreatDoor
section
open Go.RowKit
section
variable {P:Program}
def WkL:List SV->List SV->Prop
 | [],[]=>True
 |a::l,b::m=>Wk a b/\WkL l m
 |_,_=>False
theorem bDa {w:World}{ρ:Env}: ∀{c bs:List SV}{vs:Array Value},WkL c bs->cS w ρ c vs->cS w ρ bs vs:=by
 have key: ∀(c bs:List SV),WkL c bs->c.length=bs.length/\ ∀(j:Nat) (b:SV),bs[j]? =some b-> ∃a,c[j]? =some a/\Wk a b:=by
  intro c
  induction c with
  |nil=>
   intro bs h
   cases bs with
   |nil=>exact⟨rfl,by simp⟩
   |cons=>exact h.elim
  |cons a l ih=>
   intro bs h
   cases bs with
   |nil=>exact h.elim
   |cons b m=>
    obtain⟨o,k⟩:=h
    obtain⟨s,i⟩:=ih m k
    refine⟨by simp [s],λj x hx=> ?_⟩
    cases j with
    |zero=>simp at hx;subst hx;exact⟨a,by simp,o⟩
    |succ j=>simp at hx;obtain⟨y,r,f⟩:=i j x hx;exact⟨y,by simpa using r,f⟩
 intro c bs vs h d
 obtain⟨n,q⟩:=key c bs h
 refine⟨d.1.trans n,λj b v hb p=> ?_⟩
 obtain⟨a,g,e⟩:=q j b hb
 exact bD9 e (d.2 j a v g p)
theorem Tri.weak {f:FuncId}{asv bs:List SV}{hp:Hp}{post:SV->Prop}(h:Tri P f bs hp post) (hw:WkL asv bs):Tri P f asv hp post:=
 λw ρ vs a b c=>h w ρ vs a (bDa hw b) c
end
section
variable {P:Program}
theorem Mem.setLoop {E:Entry}{ρ:Env}{hp:Hp}{w:World}(h:Mem E ρ hp w) {id:Nat}{L:LoopI}{s:LoopAt}(ho:aP hp id=some (.loop L s)):
  ∃g r,ρ.blk id=some g/\w.heap[g]? =some (.loop r)/\r.params=L.ps/\r.assign=L.assign/\r.body=L.body/\r.tmps.size=L.nt/\dV ρ w L.fr r.tmps/\(r.state,r.pending)=s.state/\
   ∀(z:LoopState) (A:Option Code) (B:LoopAt),(z,A)=B.state->Mem E ρ (eY hp id (.loop L B)) (w.putObj g (.loop { r with state:=z,pending:=A }))/\cF ρ.S w (w.putObj g (.loop { r with state:=z,pending:=A })):=by
 obtain⟨g,r,y,C,P,R,T,Q,O,V⟩:=h.sat id _ ho
 refine⟨g,r,y,C,P,R,T,Q,O,V,λz A B M=> ?_⟩
 generalize hr':({ r with state:=z,pending:=A }:Loop)=r'
 have a: ∀k,k≠g->(w.putObj g (.loop r')).heap[k]? =w.heap[k]? := λk t=>World.putObj_heap_other t
 have d:(w.putObj g (.loop r')).heap[g]? =some (.loop r'):=World.putObj_heap_same (bD C)
 have m: ∀k i,(w.putObj g (.loop r')).cell? ⟨k,i,none⟩=w.cell? ⟨k,i,none⟩:=by
  intro k i
  by_cases e:k=g
  ·subst e;unfold World.cell?;simp only [d,C]
  ·exact World.cell?_of_block (w:=w) (a k e)
 have t:cF ρ.S w (w.putObj g (.loop r')):= λk i _=>m k i
 have l: ∀i o,aP (eY hp id (.loop L B)) i=some o-> ∃o',aP hp i=some o'/\ρ.at i o=ρ.at i o':=by
  intro i o hi
  rw [bN _ ho]at hi
  by_cases e:i=id
  ·subst e;simp at hi;subst hi;exact⟨_,ho,rfl⟩
  ·simp [e]at hi;exact⟨o,hi,rfl⟩
 refine⟨⟨h.os,h.tape,h.output,by simpa using h.size, ?_,h.sold,h.snew,by simpa using h.slt,h.kp.trans h.sold t, ?_, ?_, ?_,h.mv, ?_, ?_⟩,t⟩
 ·intro b hb N
  rw [a b ?_]
  ·exact h.old b hb N
  ·rintro rfl
   rcases h.hb id _ b ho y with hge|H
   ·omega
   ·exact N H
 ·intro i o hi
  rw [bN _ ho]at hi
  by_cases e:i=id
  ·subst e
   simp at hi
   subst hi
   refine⟨g,r',y,d,by rw [<-hr'];exact P,by rw [<-hr'];exact R,by rw [<-hr'];exact T,by rw [<-hr'];exact Q, ?_,by rw [<-hr'];exact M⟩
   rw [<-hr']
   have u:=O.mono (ρ':=ρ) t (λ_ _ x=>x) λi _=>ρ.moved_refl i
   rw [<-hr']at u
   exact u
  ·simp [e]at hi
   refine(h.sat i o hi).keep t (λ_ _ x=>x) (λj _=>ρ.moved_refl j) ⟨rfl,rfl⟩ ?_ (λ_ _ _ x=>x)
   rintro b (q|⟨q,f⟩)
   ·exact a b λF=>e (h.inj i o id _ b hi ho q (by rw [F];exact y))
   ·exact a b λF=>h.ro i _ b hi f q id _ ho (by rw [F];exact y)
 ·intro i o v o' b hi p c n
  obtain⟨D,J,e1⟩:=l i o hi
  obtain⟨G,K,e2⟩:=l v o' p
  exact h.inj i D v G b J K (e1 ▸ c) (e2 ▸ n)
 ·intro i o b hi c
  obtain⟨D,J,e1⟩:=l i o hi
  exact h.hb i D b J (e1 ▸ c)
 ·intro i U b hi f c v o' p n
  have I:aP hp i=some U:=by
   rw [bN _ ho]at hi
   by_cases e:i=id
   ·subst e;simp at hi;subst hi;exact f.elim
   ·simpa [e]using hi
  obtain⟨G,K,e2⟩:=l v o' p
  exact h.ro i _ b I f c v G K (e2 ▸ n)
 ·intro b hb
  rw [a b ?_]
  ·exact h.md b hb
  ·rintro rfl
   have:=h.md b hb
   rw [C]at this;cases this
theorem Mem.newLoop {E:Entry}{ρ:Env}{hp:Hp}{w:World}(h:Mem E ρ hp w) {id:Nat}{L:LoopI}{r:Loop}(hid:id∉gH hp) (hpin:id∉E.pin) (hfid:id∉gD L.fr) (h3:r.params=L.ps) (h4:r.assign=L.assign) (h5:r.body=L.body) (h6:r.tmps.size=L.nt)
  (h7:dV ρ w L.fr r.tmps) (h8:(r.state,r.pending)=LoopAt.ready.state):
  Mem E (ρ.upd id w.heap.size) ((id, .loop L .ready)::hp) (w.alloc (.loop r))/\cF ρ.S w (w.alloc (.loop r))/\ ∀i,i≠id->ρ.moved (ρ.upd id w.heap.size) i:=by
 have y:=Grew.alloc w (.loop r)
 have z:cF ρ.S w _:=y.keeps h.slt
 have s: ∀i,i≠id->ρ.moved (ρ.upd id w.heap.size) i:= λi hi=>ρ.moved_upd hi
 have p: ∀i o,i≠id->(ρ.upd id w.heap.size).at i o=ρ.at i o:=by
  intro i o hi
  cases o<;>simp [Env.at,Env.upd,hi]
 have a: ∀i o,aP ((id,HObj.loop L .ready)::hp) i=some o->(i=id/\o= .loop L .ready)\/(i≠id/\aP hp i=some o):=by
  intro i o n
  by_cases e:i=id
  ·subst e;simp [aP]at n;exact .inl ⟨rfl,n.symm⟩
  ·rw [cQ (λh=>e h.symm)]at n;exact .inr ⟨e,n⟩
 refine⟨⟨h.os,h.tape,h.output,by have:=h.size;simp;omega, ?_,h.sold,h.snew, ?_,h.kp.trans h.sold z, ?_, ?_, ?_, ?_, ?_,λb hb=>(y.block b (bD (h.md b hb))).trans (h.md b hb)⟩,z,s⟩
 ·exact λb hb C=>(y.block b (Nat.lt_of_lt_of_le hb h.size)).trans (h.old b hb C)
 ·intro b i F;have:=h.slt b i F;simp;omega
 ·intro i o n
  rcases a i o n with⟨rfl,rfl⟩|⟨e,f⟩
  ·refine⟨w.heap.size,r,by simp [Env.upd],World.alloc_heap_new w _,h3,h4,h5,h6,h7.mono z (λ_ _ x=>x) λj A=>s j λe=>hfid (e ▸ A),h8⟩
  ·refine(h.sat i o f).keep z (λ_ _ x=>x) ?_ ⟨rfl,rfl⟩ ?_ (λ_ _ _ x=>x)
   ·rintro j A
    exact s j λu=>hid (u ▸ bR f A)
   ·rintro g (v|⟨v,m⟩)
    ·exact y.block g (h.blk_lt f v)
    ·exact y.block g (h.ro_lt f m v)
 ·intro i o q o' g n f c d
  rcases a i o n with⟨rfl,rfl⟩|⟨e,l⟩
  ·rcases a q o' f with⟨rfl,rfl⟩|⟨u,k⟩
   ·rfl
   ·rw [p q o' u]at d
    have B:=h.blk_lt k d
    simp [Env.at,Env.upd]at c
    omega
  ·rw [p i o e]at c
   rcases a q o' f with⟨rfl,rfl⟩|⟨u,k⟩
   ·have B:=h.blk_lt l c
    simp [Env.at,Env.upd]at d
    omega
   ·rw [p q o' u]at d
    exact h.inj i o q o' g l k c d
 ·intro i o g n c
  rcases a i o n with⟨rfl,rfl⟩|⟨e,l⟩
  ·simp [Env.at,Env.upd]at c
   have:=h.size;omega
  ·rw [p i o e]at c
   exact h.hb i o g l c
 ·exact λi hi=>Env.moved_trans (h.mv i hi) (s i λe=>hpin (e ▸ hi))
 ·intro i oR g n m c q o' f d
  rcases a i _ n with⟨_,D⟩|⟨e,l⟩
  ·rw [D]at m;exact m.elim
  ·have t:ρ.blk i=some g:=by simpa [Env.upd,e]using c
   rcases a q o' f with⟨rfl,rfl⟩|⟨u,k⟩
   ·have:=h.ro_lt l m t
    simp [Env.at,Env.upd]at d
    omega
   ·rw [p q o' u]at d
    exact h.ro i _ g l m t q o' k d
def aYx (fr:Fr) (lid:Nat) (K:Ex->Fr->Hp->Prop) (_:SV) (hp:Hp):Prop:=
 match aP hp lid with
 |some (.loop _ .ready)=>aBg hp lid λhp'=>K .normal fr hp'
 |some (.loop _ (.done .ret))=>aBg hp lid λhp'=>K .ret fr hp'
 |some (.loop _ (.done (.exit i)))=>aBg hp lid λhp'=>K (.exit i) fr hp'
 |some (.loop _ (.done (.goto l)))=>aBg hp lid λhp'=>K (.goto l) fr hp'
 |_=>aH "range: the loop's record"
def aTj (rd:Option Nat) (hp:Hp):Prop:=
 match rd with
 |none=>True
 |some i=>(match aP hp i with|some (.loop _ _)=>True|_=>aH "range: in a round of an unknown loop")
theorem rO {C:Cfg}{g:Operand}{ps:Array Tmp}{assign body:Code}{fr:Fr}{hp:Hp}{K:Ex->Fr->Hp->Prop}(lid:Nat) (hfr:fE lid C.pin fr hp) (hin:aTj C.rd hp)
  (h : ev fr g λs => match aYl s with
   |some (Y,first,cap)=>dY C.P Y=true/\aF C.P C.pin.calm ((C.nt, .yld lid)::fr) ((lid, .loop ⟨C.nt,ps,assign,body,fr⟩ .ready)::hp) Y (first++[.yld lid]++cap) (aYx fr lid K)
   |none=>aH "range: no function"):aK C (.rangeFunc g ps assign body) fr hp K:=by
 intro E a w V F b8
 obtain⟨s,hs,hv⟩:=dB h
 split at hv
 ·rename_i Y first cap H
  obtain⟨n,hv⟩:=hv
  obtain⟨h1,h2,ρ,h3,h4⟩:=b8
  obtain⟨f1,f2,f3⟩:=hfr
  obtain⟨fv,cv,eg,a1,a2⟩:=aB4 H (aV h4 hs)
  -- from the world in which the record lies
  have b0: ∀(E1:Entry) (Q:Env) (W1:World) (l:Nat) (O:List Deferred) (r:Loop),Ext E E1->a.defers=(E.D.take E.k).map xP++E.pin.pre->O++a.defers=(E1.D.take E1.k).map xP++E1.pin.pre->Q.blk lid=some l->
    Mem E1 Q ((lid, .loop ⟨C.nt,ps,assign,body,fr⟩ .ready)::hp) W1->dV Q W1 fr a.tmps->cS W1 Q first fv->cS W1 Q cap cv->
    CallsIn (FW E.rd) 0 C.P Y (fv++ #[.func (.yield l) #[] #[]]++cv) W1 (rangePost (FW E.rd) 0 C.P l (mS C E K) { a with defers:=O++a.defers }):=by
   intro E1 Q W1 l O r hE _ b7 hl b3 e0 b1 b2
   refine mO.2 ?_
   have d3:dV Q W1 ((C.nt, .yld lid)::fr) (a.tmps.push (.func (.yield l) #[] #[])):=by
    intro t s ht
    simp only [jB]at ht
    by_cases e:C.nt=t
    ·subst e
     simp at ht
     subst ht
     exact⟨_,by rw [<-h1];simp, .yld lid l hl⟩
    ·simp [e]at ht
     obtain⟨v,p,U⟩:=e0 t s ht
     have:=(Array.getElem?_eq_some_iff.1 p).1
     refine⟨v, ?_,U⟩
     rw [Array.getElem?_push_lt this]
     rw [Array.getElem?_eq_getElem this]at p
     exact p
   have b4:cS W1 Q (first++[.yld lid]++cap) (fv++ #[.func (.yield l) #[] #[]]++cv):=by
    refine(b1.append ⟨rfl, ?_⟩).append b2
    intro j s v b5 c9
    cases j with
    |zero=>simp at b5 c9;subst b5;subst c9;exact .yld lid l hl
    |succ j=>simp at b5
   refine(hv { E1 with pin:=E1.pin.calm } Q W1 _ (by rw [hE.pin.trans V]) b3.calm d3 _ b4).mono ?_
   rintro e w' (⟨v,Z,s',hp',rfl,J,N,c4,_⟩|⟨_,_,_,_,_,q,_⟩)
   case inr=>exact q.elim
   replace N:=N.uncalm
   -- the loop's record, as it is now
   have a4:Z.blk lid=some l:=by
    obtain⟨u,p,U⟩:=c4 C.nt (.yld lid) (by simp [jB])
    obtain⟨l',q3,q4⟩:=U.yld_inv
    rw [q4,<-h1]at p
    simp at p
    rw [q3,<-p]
   have c7:dV Z w' fr a.tmps:=by
    intro t s ht
    by_cases e:C.nt=t
    ·subst e
     obtain⟨v,p,_⟩:=h4 C.nt s ht
     have:=(Array.getElem?_eq_some_iff.1 p).1
     omega
    ·obtain⟨v,p,U⟩:=c4 t s (by simp [jB,e];exact ht)
     refine⟨v, ?_,U⟩
     obtain⟨u,q3,_⟩:=h4 t s ht
     have:=(Array.getElem?_eq_some_iff.1 q3).1
     rw [Array.getElem?_push_lt this]at p
     rw [Array.getElem?_eq_getElem this]
     exact p
   have A: ∀(L:LoopI) (st:LoopAt),aP hp' lid=some (.loop L st)->st≠ .busy-> ∃W4,(Instr.endLoop l).run C.P w'= .ok st.state.2 W4/\Mem E1 Z (aN9 hp' lid) W4/\dV Z W4 fr a.tmps:=by
    intro L st d d9
    obtain⟨g',r',p,U,q3,q4,q5,q6,q7,q8⟩:=N.sat lid _ d
    rw [a4]at p;injection p with p;subst p
    have hb:r'.state≠ .busy:=by
     have:r'.state=st.state.1:=by rw [<-q8]
     rw [this]
     cases st<;>simp [LoopAt.state]
     exact d9 rfl
    have d0:r'.pending=st.state.2:=by rw [<-q8]
    have c6:E1.w.heap.size<=l\/E1.B l:=N.hb lid _ l d a4
    have b6: ∀id x,aP (aN9 hp' lid) id=some x->Z.at id x≠some l:=by
     intro id x hx b6
     rw [vG]at hx
     split at hx
     ·cases hx
     ·rename_i d5
      exact d5 (N.inj id x lid _ l hx d b6 a4)
    refine⟨w'.putObj l (.loop { r' with state:= .exhausted }),by rw [<-d0];exact run_endLoop (P:=C.P) U hb, ?_⟩
    have c:=N.del lid
    have M:cF Z.S w' (w'.putObj l (.loop { r' with state:= .exhausted })):=by
     intro k i _
     by_cases e:k=l
     ·subst e
      have h1:=World.putObj_heap_same (w:=w') (r:=k) (o:= .loop { r' with state:= .exhausted }) (bD U)
      unfold World.cell?
      simp only [h1,U]
     ·exact World.cell?_of_block (w:=w') (World.putObj_heap_other e)
    refine⟨?_,c7.mono M (λ_ _ x=>x) λi _=>Z.moved_refl i⟩
    have R: ∀k,k≠l->(w'.putObj l (.loop { r' with state:= .exhausted })).heap[k]? =w'.heap[k]? := λk J=>World.putObj_heap_other J
    refine⟨c.os,c.tape,c.output,by simpa using c.size, ?_,c.sold,c.snew,by simpa using c.slt,c.kp.trans c.sold M, ?_,c.inj,c.hb,c.mv,c.ro, ?_⟩
    ·intro b G hB
     rw [R b ?_]
     ·exact c.old b G hB
     ·rintro rfl
      rcases c6 with hge|d7
      ·omega
      ·exact hB d7
    ·intro id x hx
     refine(c.sat id x hx).keep M (λ_ _ x=>x) (λi _=>Z.moved_refl i) ⟨rfl,rfl⟩ ?_ (λ_ _ _ x=>x)
     rintro b (G|⟨G,F⟩)
     ·exact R b λe=>b6 id x hx (e ▸ G)
     ·refine R b λe=> ?_
      subst e
      rw [vG]at hx
      split at hx
      ·cases hx
      ·exact N.ro id x _ hx F G lid _ d a4
    ·intro b G
     rw [R b ?_]
     ·exact c.md b G
     ·rintro rfl
      have:=c.md b G
      rw [U]at this;cases this
   have y: ∀W4,Mem E1 Z (aN9 hp' lid) W4->dV Z W4 fr a.tmps->Sat E1 C.nt ⟨fr,aN9 hp' lid⟩ { a with defers:=O++a.defers } W4:= λW4 m f=>⟨h1,b7,Z,m,f⟩
   unfold aYx at J
   split at J
   ·rename_i L d
    rw [vO]at J
    obtain⟨W4,r1,r2,r3⟩:=A L _ d (by simp)
    exact⟨none,W4,r1, .normal,fr,_,E1,hE,trivial,J,y W4 r2 r3⟩
   ·rename_i L d
    rw [vO]at J
    obtain⟨W4,r1,r2,r3⟩:=A L _ d (by simp)
    exact⟨some .ret,W4,r1,wpIn_ret ⟨.ret,fr,_,E1,hE,trivial,J,y W4 r2 r3⟩⟩
   ·rename_i L i d
    rw [vO]at J
    obtain⟨W4,r1,r2,r3⟩:=A L _ d (by simp)
    exact⟨some (.exit i),W4,r1,wpIn_exit ⟨.exit i,fr,_,E1,hE,rfl,J,y W4 r2 r3⟩⟩
   ·rename_i L i d
    rw [vO]at J
    obtain⟨W4,r1,r2,r3⟩:=A L _ d (by simp)
    exact⟨some (.goto i),W4,r1,wpIn_goto ⟨.goto i,fr,_,E1,hE,rfl,J,y W4 r2 r3⟩⟩
   ·exact J.elim
  refine wpIn_rangeFunc ?_
  intro fn _
  have a8: ∀(l:Nat) (W:World),(resolve a.eval (rangeCall g l) 0).run C.P W= .ok { target:= .fn (.func Y) cv,args:=fv++ #[.func (.yield l) #[] #[]] } W:=by
   intro l W
   have e1:Array.map a.eval #[Operand.const (Value.func (Fn.yield l) #[] #[])]= #[Value.func (Fn.yield l) #[] #[]]:=by simp [Act.eval]
   simp only [resolve,eg,Deferred.ofValue,Sem.run_pure,e1]
  have a9: ∀(l:Nat) (W:World),(invoke (.fn (.func Y) cv) (fv++ #[.func (.yield l) #[] #[]])).run C.P W= .ok (.enter Y (fv++ #[.func (.yield l) #[] #[]]++cv)) W:=by
   intro l W
   unfold dY at n
   split at n
   ·rename_i fn c5
    simp only [Bool.and_eq_true,Bool.not_eq_true']at n
    obtain⟨c1,c2⟩:=n
    have c3:fn.body.isNone=false:=by cases hb:fn.body<;>simp_all
    simp only [invoke,callFunc,Sem.run_bind,Sem.run_pure,Result.andThen_ok,run_program,c5,c2,c3,Bool.false_eq_true,if_false]
   ·cases n
  have z: ∀{l:List SV} {vs:Array Value} {Q:Env} {W1:World},cS w ρ l vs->cF ρ.S w W1->(∀b i,ρ.S b i->Q.S b i)->(∀id∈SV.idsL l,ρ.moved Q id)->cS W1 Q l vs:=by
   intro l vs Q W1 hA J hS a3
   exact⟨hA.1,λj s v hs hv=>(hA.2 j s v hs hv).mono J hS λid a5=>a3 id (SV.mem_idsL hs a5)⟩
  have T:lid∉SV.idsL first/\lid∉SV.idsL cap:=by
   have a7: ∀id,id∈SV.idsL first\/id∈SV.idsL cap->id∈s.ids:=by
    intro id a5
    unfold aYl at H
    split at H
    ·simp at H
     obtain⟨_,rfl,rfl⟩:=H
     simp only [SV.ids,List.mem_append];exact a5
    ·simp at H
     obtain⟨_,rfl,rfl⟩:=H
     simp [SV.idsL]at a5
    ·cases H
   have a6:lid∉s.ids:=by
    intro hm
    cases g with
    |tmp t=>exact f2 (aAz hs hm)
    |const v=>
     simp only [evO,Option.some.injEq]at hs
     subst hs
     have d4:(ofV v).ids=[]:=by
      unfold ofV
      split<;>first|rfl|(split<;>rfl)
     rw [d4]at hm;cases hm
    |global=>simp [evO]at hs
    |func f=>
     simp only [evO,Option.some.injEq]at hs
     subst hs
     simp [SV.ids,SV.idsL]at hm
   exact⟨λh=>a6 (a7 lid (.inl h)),λh=>a6 (a7 lid (.inr h))⟩
  cases hr0:E.rd with
  |none=>
   -- an outermost loop
   have b9:=Grew.alloc w (.deferred (some []))
   obtain⟨I,m2⟩:=h3.grow_same b9
   have c8: ∀b∈E.D,b < w.heap.size:= λb hb=>bD (h3.md b hb)
   have b3:Mem { E with D:=w.heap.size::E.D,k:=E.k+1 } ρ hp (w.alloc (.deferred (some []))):=by
    refine⟨I.os,I.tape,I.output,I.size,I.old,I.sold,I.snew,I.slt,I.kp,I.sat,I.inj,I.hb,I.mv,I.ro, ?_⟩
    intro b hb
    rcases List.mem_cons.1 hb with rfl|hb
    ·exact World.alloc_heap_new w _
    ·exact I.md b hb
   have d2:(w.alloc (.deferred (some []))).heap.size=w.heap.size+1:=by simp
   obtain⟨n1,n2,n3⟩:=b3.newLoop (id:=lid) (L:=⟨C.nt,ps,assign,body,fr⟩) (r:={ state:= .ready,pending:=none,fn,tmps:=a.tmps,params:=ps,assign,body,defers:=w.heap.size }) f3 (by rw [V];exact f1) f2 rfl rfl rfl h1 (m2 fr _ h4) rfl
   have d8 : Ext E { E with D := w.heap.size :: E.D, k := E.k + 1 } := ⟨rfl, rfl, rfl, rfl, rfl, rfl, [w.heap.size], rfl, by simp; omega, by simp, λb hb => by
    simp at hb;subst hb
    exact⟨h3.size,λhm=>by have:=c8 _ hm;omega⟩⟩
   have kk:cF ρ.S w ((w.alloc (.deferred (some []))).alloc (.loop { state:= .ready,pending:=none,fn,tmps:=a.tmps,params:=ps,assign,body,defers:=w.heap.size })):=(b9.keeps h3.slt).trans (λ_ _ x=>x) n2
   refine⟨w.heap.size+1,[{ target:= .collected w.heap.size,args:= #[] }],(w.alloc (.deferred (some []))).alloc (.loop { state:= .ready,pending:=none,fn,tmps:=a.tmps,params:=ps,assign,body,defers:=w.heap.size }),{ target:= .fn (.func Y) cv,args:=fv++ #[.func (.yield (w.heap.size+1)) #[] #[]] },(w.alloc (.deferred (some []))).alloc (.loop { state:= .ready,pending:=none,fn,tmps:=a.tmps,params:=ps,assign,body,defers:=w.heap.size }),Y,fv++ #[.func (.yield (w.heap.size+1)) #[] #[]]++cv,(w.alloc (.deferred (some []))).alloc (.loop { state:= .ready,pending:=none,fn,tmps:=a.tmps,params:=ps,assign,body,defers:=w.heap.size }), ?_,a8 _ _,λ_ _=>trivial,a9 _ _,λh=>(by cases h), ?_⟩
   ·show (Instr.enterLoop fn a.tmps ps assign body none).run C.P w=_
    exact run_enterLoop_outer _ _ _ _ _
   ·have:=b0 { E with D:=w.heap.size::E.D,k:=E.k+1 } (ρ.upd lid (w.alloc (.deferred (some []))).heap.size) _ (w.heap.size+1) [{ target:= .collected w.heap.size,args:= #[] }] default d8 h2 (by rw [h2];simp [xP]) (by rw [d2];simp [Env.upd]) n1
     (h4.mono kk (λ_ _ x=>x) λi hi=>n3 i λe=>f2 (e ▸ hi))
     (z a1 kk (λ_ _ x=>x) λi hi=>n3 i λe=>T.1 (e ▸ hi)) (z a2 kk (λ_ _ x=>x) λi hi=>n3 i λe=>T.2 (e ▸ hi))
    rw [hr0]at this
    exact this
  |some l0=>
   -- a loop within a round
   obtain⟨r0,hr0'⟩: ∃r0,w.heap[l0]? =some (.loop r0):=by
    cases hc:C.rd with
    |none=>rw [hc]at F;simp only [bB4]at F;rw [hr0]at F;cases F
    |some i=>
     rw [hc]at F hin
     obtain⟨d6,d1,hi3⟩:=F
     simp only [aTj]at hin
     split at hin
     ·rename_i L0 s0 d
      obtain⟨g',r',p,U,_⟩:=h3.sat i _ d
      have a3:=(h3.mv i d6).1
      rw [d1,hr0]at a3
      rw [a3]at p
      injection p with p
      subst p
      exact⟨r',U⟩
     ·exact hin.elim
   obtain⟨n1,n2,n3⟩:=h3.newLoop (id:=lid) (L:=⟨C.nt,ps,assign,body,fr⟩) (r:={ state:= .ready,pending:=none,fn,tmps:=a.tmps,params:=ps,assign,body,defers:=r0.defers }) f3 (by rw [V];exact f1) f2 rfl rfl rfl h1 h4 rfl
   refine⟨w.heap.size,[],w.alloc (.loop { state:= .ready,pending:=none,fn,tmps:=a.tmps,params:=ps,assign,body,defers:=r0.defers }),{ target:= .fn (.func Y) cv,args:=fv++ #[.func (.yield w.heap.size) #[] #[]] },w.alloc (.loop { state:= .ready,pending:=none,fn,tmps:=a.tmps,params:=ps,assign,body,defers:=r0.defers }),Y,fv++ #[.func (.yield w.heap.size) #[] #[]]++cv,w.alloc (.loop { state:= .ready,pending:=none,fn,tmps:=a.tmps,params:=ps,assign,body,defers:=r0.defers }), ?_,a8 _ _,λ_ _=>trivial,a9 _ _,λh=>(by cases h), ?_⟩
   ·show (Instr.enterLoop fn a.tmps ps assign body (some l0)).run C.P w=_
    exact run_enterLoop_inner hr0' _ _ _ _ _
   ·have:=b0 E (ρ.upd lid w.heap.size) _ w.heap.size [] default (.refl E) h2 (by simpa using h2) (by simp [Env.upd]) n1
     (h4.mono n2 (λ_ _ x=>x) λi hi=>n3 i λe=>f2 (e ▸ hi))
     (z a1 n2 (λ_ _ x=>x) λi hi=>n3 i λe=>T.1 (e ▸ hi)) (z a2 n2 (λ_ _ x=>x) λi hi=>n3 i λe=>T.2 (e ▸ hi))
    rw [hr0]at this
    exact this
 ·exact hv.elim
def aWb:Fr->List Nat->List SV->Fr
 |fr,p::ps,s::l=>aWb (aOd fr p s) ps l
 |fr,_,_=>fr
theorem aWa {ρ:Env}{w:World}{nt:Nat}: ∀(ps:List Nat) (args:List SV) (vs:List Value) (fr:Fr) (a:Array Value),args.length=ps.length->vs.length=ps.length->(∀p∈ps,p < nt)->a.size=nt->dV ρ w fr a->
  (∀(j:Nat) (s:SV) (v:Value),args[j]? =some s->vs[j]? =some v->Rep w ρ s v)->
  ((ps.zip vs).foldl (λ(tmps:Array Value) (x:Nat×Value)=>tmps.setIfInBounds x.1 x.2) a).size=nt/\dV ρ w (aWb fr ps args) ((ps.zip vs).foldl (λ(tmps:Array Value) (x:Nat×Value)=>tmps.setIfInBounds x.1 x.2) a):=by
 intro ps
 induction ps with
 |nil=>intro args vs fr a c b _ d f _;exact⟨d,by cases args<;>exact f⟩
 |cons p ps ih=>
  intro args vs fr a c b h d f g
  match args,vs,c,b with
  |s::args,v::vs,c,b=>
   simp only [aWb,List.zip_cons_cons,List.foldl_cons]
   refine ih args vs _ _ (by simpa using c) (by simpa using b) (λq n=>h q (List.mem_cons_of_mem _ n)) (by simpa using d) ?_ (λj s v l m=>g (j+1) s v (by simpa using l) (by simpa using m))
   intro t x hx
   rw [kM]at hx
   have hp:=h p (List.mem_cons_self ..)
   by_cases e:t=p
   ·subst e
    simp at hx
    subst hx
    exact⟨v,by rw [Array.getElem?_setIfInBounds_self_of_lt (by omega)],g 0 s v rfl rfl⟩
   ·simp [e]at hx
    obtain⟨u,o,i⟩:=f t x hx
    exact⟨u,by rw [Array.getElem?_setIfInBounds_ne (λk=>e k.symm)];exact o,i⟩
def aS4 (lid:Nat) (K:SV->Hp->Prop) (e:Ex) (_:Fr) (hp:Hp):Prop:=
 match aP hp lid with
 |some (.loop L .busy)=>
  (match e with
  | .normal=>iY hp lid (.loop L .ready) λhp'=>K (.d (.bool true)) hp'
  | .ret=>iY hp lid (.loop L (.done .ret)) λhp'=>K (.d (.bool false)) hp'
  | .exit i=>iY hp lid (.loop L (.done (.exit i))) λhp'=>K (.d (.bool false)) hp'
  | .goto l=>iY hp lid (.loop L (.done (.goto l))) λhp'=>K (.d (.bool false)) hp'
  | .pan=>False)
 |_=>aH "a round: the loop's record"
theorem kX (frz:List Nat) {ti:TypeId->Option TI}(hti:fH P ti) {pin:Pin}{fr:Fr}{hp:Hp}{lid:Nat}{L:LoopI}{args:List SV}{K:SV->Hp->Prop}(keep:Nat->Bool) (off:Nat) (ho:aP hp lid=some (.loop L .ready))
  (hps:(args.length==L.ps.size && L.ps.toList.all λp=>decide (p < L.nt))=true)
  (hx : X ⟨P, ti, (pin ++ gD fr ++ [lid]).calm, L.nt, keep, off, some lid, false, frz⟩ L.assign (aWb L.fr L.ps.toList args) hp λe U F => match e with
   | .normal => (match aP F lid with
    |some (.loop L' .ready)=>iY F lid (.loop L' .busy) λq=>X ⟨P,ti,(pin++gD fr++[lid]).calm,L.nt,keep,off,some lid,false,frz⟩ L.body U q (aS4 lid K)
    |_=>aH "a round: the loop's record")
   |_=>aH "a round: its variables"):YVC P pin fr hp lid args K:=by
 intro E ρ w tm M hm hf l vs hl m
 simp only [Bool.and_eq_true,beq_iff_eq,List.all_eq_true,decide_eq_true_eq]at hps
 obtain⟨g,r,q1,q2,q3,q4,q5,q6,q7,q8,_⟩:=hm.setLoop ho
 rw [hl]at q1;injection q1 with q1;subst q1
 have N:vs.size=r.params.size:=by rw [q3,m.1,hps.1]
 refine⟨r.fn,_,r.assign,r.body,run_yield q2 N,roundIn_of_wpIn trivial ?_⟩
 have A:((r.params.zip vs).foldl (λ(tmps:Array Value) (x:Tmp×Value)=>match x with|(t,a)=>tmps.setIfInBounds t a) r.tmps)=((L.ps.toList.zip vs.toList).foldl (λ(tmps:Array Value) (x:Nat×Value)=>tmps.setIfInBounds x.1 x.2) r.tmps):=by
  rw [<-Array.foldl_toList,Array.toList_zip,q3]
 obtain⟨p1,p2⟩:=aWa (nt:=L.nt) L.ps.toList args vs.toList L.fr r.tmps (by simpa using hps.1) (by simpa using N.trans (by rw [q3])) hps.2 q6 q7 (λj s v hs hv=>m.2 j s v hs (by simpa using hv))
 rw [A]
 have a3:=hm.enter (pin++gD fr++[lid]).calm (some l)
 have W:bB4 (some lid) (cN w ρ hp (pin++gD fr++[lid]).calm (some l) E.D):=⟨by simp [cN],hl,rfl⟩
 have n: ∀id∈E.pin,id∈(pin++gD fr++[lid]).calm:= λid u=>by rw [M]at u;simp [u]
 rw [q4]
 show L.assign.wpIn (FW (some l)) 0 P _ _ _
 refine wpIn_mono (nM (C:=⟨P,ti,(pin++gD fr++[lid]).calm,L.nt,keep,off,some lid,false,frz⟩) hti L.assign _ _ _ hx (cN w ρ hp (pin++gD fr++[lid]).calm (some l) E.D) _ w rfl W ⟨p1,rfl,ρ,a3,p2⟩) ?_
 rintro e a1 w1 ⟨x,U,F,E1,o,Y,J,T,V,ρ1,O,a8⟩
 have z: ∀{E':Entry} {I:Env} {hp':Hp} {w':World},Ext (cN w ρ hp (pin++gD fr++[lid]).calm (some l) E.D) E'->Mem E' I hp' w'->I.blk lid=some l:=by
  intro E' I hp' w' hE a7
  have:=(a7.mv lid (by rw [hE.pin];simp [cN])).1
  rw [hE.ρ]at this
  exact this.trans hl
 cases x<;>cases e<;>simp only [Ex.rel]at Y<;>try exact J.elim
 simp only [KX]at J
 split at J
 ·rename_i L' R
  rw [eJ]at J
  obtain⟨g1,r1,s1,s2,s3,s4,s5,s6,s7,s8,s9⟩:=O.setLoop R
  rw [z o O]at s1;injection s1 with s1;subst s1
  injection s8 with s8 s8'
  have H:({ r1 with state:= .busy }:Loop)={ r1 with state:= .busy,pending:=none }:=by
   cases r1;simp only at s8';rw [s8']
  have Z:=run_beginRound (P:=P) s2 s8
  rw [H]at Z
  obtain⟨m1,m2⟩:=s9 .busy none .busy rfl
  refine⟨_,Z, ?_⟩
  rw [q5]
  show L.body.wpIn (FW (some l)) 0 P _ _ _
  have hX:=nM (C:=⟨P,ti,(pin++gD fr++[lid]).calm,L.nt,keep,off,some lid,false,frz⟩) hti L.body _ _ _ J E1 a1 _ o.pin (W.ext o) ⟨T,V,ρ1,m1,a8.mono m2 (λ_ _ x=>x) λi _=>ρ1.moved_refl i⟩
  rw [o.rd]at hX
  refine wpIn_mono hX ?_
  rintro e2 a2 w2 ⟨x2,a4,q,E2,a5,k,f,_,_,ρ2,Q,_⟩
  have c:=o.trans a5
  have f:aS4 lid K x2 a4 q:=by
   cases x2<;>first|exact f|exact f.elim
  unfold aS4 at f
  split at f
  ·rename_i L'' G
   obtain⟨g2,r2,t1,t2,t3,t4,t5,t6,t7,t8,t9⟩:=Q.setLoop G
   rw [z c Q]at t1;injection t1 with t1;subst t1
   have y: ∀(h:Option Code) (s':LoopAt) (b:Bool),((if h.isNone then LoopState.ready else .done),h)=s'.state->h.isNone=b->K (.d (.bool b)) (eY q lid (.loop L'' s'))->
     ∃v w',(Instr.endRound l h).run P w2= .ok v w'/\ ∃v_1 I s hp',Ending.returned v= .returned v_1/\K s hp'/\Mem E I hp' w'/\dV I w' fr tm/\Rep w' I s v_1:=by
    intro h s' b a6 hb hK
    obtain⟨n1,n2⟩:=t9 _ _ s' a6
    refine⟨_,_,run_endRound (P:=P) h t2,_,ρ2, .d (.bool b),_,rfl,hK, ?_, ?_, ?_⟩
    ·refine hm.leave (pin:=(pin++gD fr++[lid]).calm) (rd:=some l) n1 ⟨c.w,c.S,c.B,c.pin,c.ρ,λb hb=> ?_⟩ n
     obtain⟨D',d1,_⟩:=c.D
     rw [d1];exact List.mem_append_right _ hb
    ·have kp:=n1.kp
     have sold:=n1.sold
     have mv:=n1.mv
     rw [c.w,c.S]at kp
     rw [c.S]at sold
     rw [c.pin,c.ρ]at mv
     exact hf.mono kp sold λid u=>mv id (by simp [cN,u])
    ·rw [hb];exact .d _ _ (.bool b)
   cases x2<;>cases e2<;>simp only [Ex.rel]at k<;>simp only [eJ]at f
   ·exact y none .ready true rfl rfl f
   ·subst k;exact y (some (.exit _)) (.done (.exit _)) false rfl rfl f
   ·subst k;exact y (some (.goto _)) (.done (.goto _)) false rfl rfl f
   ·exact y (some .ret) (.done .ret) false rfl rfl f
  ·exact f.elim
 ·exact J.elim
end
end
end Go.Proofs.YtbobcfjlbcgchaaGreatDoor
