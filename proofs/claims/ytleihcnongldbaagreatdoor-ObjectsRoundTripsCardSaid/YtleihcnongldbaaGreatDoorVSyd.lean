/-
  Objects: the writer writes lists, concepts and axioms. The reference of objects: numbers, texts and lists in bytes. A statement whose ends are many: what they have in common is told once, and the rest follows from there. Regions that draw their order: reads of data and pure operations are taken first; the rest as a tree.
  Conditions: none.
-/
import Derived.Test.YtleihcnongldbaaGreatDoorVSyq
import Derived.Test.YtleihcnongldbaaGreatDoorVOs
import Derived.Test.YtleihcnongldbaaGreatDoorVSna
set_option linter.unusedSectionVars false
set_option linter.unusedSimpArgs false
set_option linter.unusedVariables false
set_option maxHeartbeats 16000000
namespace Go.Proofs.YtleihcnongldbaaGreatDoor
open Go.Proofs Go.RowKit
set_option maxRecDepth 10000
attribute [local irreducible] aO aH Tri aG YVC cL bB
theorem gD {α:Type}{w:α->List UInt8}{l:List α}{j:Nat}(h:j < l.length):((l.take (j+1)).map w).flatten=((l.take j).map w).flatten++w l[j]:=by
 rw [List.take_succ_eq_append_getElem h,List.map_append,List.flatten_append];simp
theorem nF {α:Type}{w:α->List UInt8}(l:List α) (j:Nat):(((l.take j).map w).flatten).length<=((l.map w).flatten).length:=by
 have e:l.map w=(l.take j).map w++(l.drop j).map w:=by rw [<-List.map_append,List.take_append_drop]
 rw [e,List.flatten_append,List.length_append];omega
theorem dA {α:Type}(w:α->List UInt8) (l:List α):(bO w l).length=4+((l.map w).flatten).length:=by unfold bO;rw [List.length_append,aT]
theorem gE {α:Type}{w:α->List UInt8}{k:Nat}(hk:1<=k) (hw: ∀x,k<=(w x).length) (l:List α):l.length<=((l.map w).flatten).length:=by
 have h:=zL hw l
 have h2:1 * l.length<=k * l.length:=Nat.mul_le_mul_right _ hk
 omega
theorem aDy (s:List UInt8):4<=(dO s).length:=by unfold dO;rw [List.length_append,aT];omega
theorem aE0 (d:Dig):32<=(mX d).length:=by obtain⟨l,h⟩:=d;show 32<=l.length;omega
theorem cQ (z:Int):(gN z).length=8:=by unfold gN;exact aT ..
theorem aR (z:Int):(vY z).length=1:=aT ..
theorem vW (l:List (List UInt8)):WrT 67 [.d (.sl 1 (l.map cE))] (bO dO l):=by
 intro p hp
 rw [dA]at hp
 have hn:=gE (by decide) aDy l
 have hu:uN (l.length:Int)=l.length:=pU (by omega)
 have hlr:(l.map cE).length=l.length:=List.length_map ..
 refine aI false [] hty Tryz.func67 rfl (kp [0,1,5,10,11,12,13]) 100 (by simp [Tryz.f67]) ?_
 ((conv=>whnf);repeat ((first|(intro hq;try simp only [lnS]at hq)|refine sI ?_|refine .intro _ (.intro rfl ?_));(conv=>whnf)))
 rw [hlr]
 refine WrT.call (gM l.length) rfl p (by rw [aT];omega) (by decide) rfl rfl ?_
 rw [hu]
 ((conv=>whnf);repeat ((first|(intro hq;try simp only [lnS]at hq)|refine sI ?_|refine .intro _ (.intro rfl ?_));(conv=>whnf)))
 rw [hlr]
 refine aL hty (λj:Nat=>([(0, .ptr 3 0),(10, .d (.sl 1 (l.map cE))),(11, .d (.int .i64 l.length)),(12, .d (.int .i64 j))],[(3,wrC 4 (p++beN 4 l.length++((l.take j).map dO).flatten)),(4,wrB (p++beN 4 l.length++((l.take j).map dO).flatten))])) (λj=>j<=l.length) (λj=>l.length - j) 0 (by omega) ⟨by repeat' (first|exact trivial|exact rfl|refine And.intro ?_ ?_),by rw [List.take_zero,List.map_nil,List.flatten_nil,List.append_nil];exact⟨rfl,rfl,trivial⟩⟩ ?_
 intro j hj
 ((conv=>whnf);repeat ((first|(intro hq;try simp only [lnS]at hq)|refine sI ?_|refine .intro _ (.intro rfl ?_));(conv=>whnf)))
 refine aB (λh1=> ?_) (λh1=> ?_)
 ·have hjl:j < l.length:=by omega
  have hrow:(l.map cE)[((j:Nat):Int).toNat]? =some (cE l[j]):=aZ hjl
  have hnx:=gD (w:=dO) hjl
  have hle:=nF (w:=dO) l (j+1)
  rw [hnx,List.length_append]at hle
  ((conv=>whnf);repeat ((first|(refine⟨_,hrow, ?_⟩)|(intro hq;try simp only [lnS]at hq)|refine sI ?_|refine .intro _ (.intro rfl ?_));(conv=>whnf)))
  refine WrT.call (eJ l[j]) rfl _ (by rw [List.length_append,List.length_append,aT];omega) (by decide) rfl rfl ?_
  ((conv=>whnf);repeat ((first|(intro hq;try simp only [lnS]at hq)|refine sI ?_|refine .intro _ (.intro rfl ?_));(conv=>whnf)))
  refine⟨j+1,by dsimp only;omega,by dsimp only;omega, ?_⟩
  dsimp only
  rw [hnx,<-List.append_assoc]
  exact⟨by repeat' (first|exact trivial|exact rfl|refine And.intro ?_ ?_),by repeat' (first|exact trivial|exact rfl|refine And.intro ?_ ?_)⟩
 ·have hjl:j=l.length:=by omega
  subst hjl
  rw [List.take_length]
  ((conv=>whnf);repeat ((first|(intro hq;try simp only [lnS]at hq)|refine sI ?_|refine .intro _ (.intro rfl ?_));(conv=>whnf)))
  unfold bO
  rw [<-List.append_assoc]
  exact⟨rfl,rfl⟩
theorem uL (l:List Dig):WrT 86 [.d (.sl 32 (l.map lS))] (bO mX l):=by
 intro p hp
 rw [dA]at hp
 have hn:=gE (by decide) aE0 l
 have hu:uN (l.length:Int)=l.length:=pU (by omega)
 have hlr:(l.map lS).length=l.length:=List.length_map ..
 refine aI false [] hty Tryz.func86 rfl (kp [0,1,5,10,11,12,13]) 100 (by simp [Tryz.f86]) ?_
 ((conv=>whnf);repeat ((first|(intro hq;try simp only [lnS]at hq)|refine sI ?_|refine .intro _ (.intro rfl ?_));(conv=>whnf)))
 rw [hlr]
 refine WrT.call (gM l.length) rfl p (by rw [aT];omega) (by decide) rfl rfl ?_
 rw [hu]
 ((conv=>whnf);repeat ((first|(intro hq;try simp only [lnS]at hq)|refine sI ?_|refine .intro _ (.intro rfl ?_));(conv=>whnf)))
 rw [hlr]
 refine aL hty (λj:Nat=>([(0, .ptr 3 0),(10, .d (.sl 32 (l.map lS))),(11, .d (.int .i64 l.length)),(12, .d (.int .i64 j))],[(3,wrC 4 (p++beN 4 l.length++((l.take j).map mX).flatten)),(4,wrB (p++beN 4 l.length++((l.take j).map mX).flatten))])) (λj=>j<=l.length) (λj=>l.length - j) 0 (by omega) ⟨by repeat' (first|exact trivial|exact rfl|refine And.intro ?_ ?_),by rw [List.take_zero,List.map_nil,List.flatten_nil,List.append_nil];exact⟨rfl,rfl,trivial⟩⟩ ?_
 intro j hj
 ((conv=>whnf);repeat ((first|(intro hq;try simp only [lnS]at hq)|refine sI ?_|refine .intro _ (.intro rfl ?_));(conv=>whnf)))
 refine aB (λh1=> ?_) (λh1=> ?_)
 ·have hjl:j < l.length:=by omega
  have hrow:(l.map lS)[((j:Nat):Int).toNat]? =some (lS l[j]):=aZ hjl
  have hnx:=gD (w:=mX) hjl
  have hle:=nF (w:=mX) l (j+1)
  rw [hnx,List.length_append]at hle
  have hwd:=nJ l[j]
  generalize l[j]=x at *
  obtain⟨xl,hx⟩:=x
  obtain⟨y0,y1,y2,y3,y4,y5,y6,y7,y8,y9,y10,y11,y12,y13,y14,y15,y16,y17,y18,y19,y20,y21,y22,y23,y24,y25,y26,y27,y28,y29,y30,y31,rfl⟩:=fM hx
  ((conv=>whnf);repeat ((first|(refine⟨_,hrow, ?_⟩)|(intro hq;try simp only [lnS]at hq)|refine sI ?_|refine .intro _ (.intro rfl ?_));(conv=>whnf)))
  refine WrT.call hwd rfl _ (by rw [List.length_append,List.length_append,aT];omega) (by decide) rfl rfl ?_
  ((conv=>whnf);repeat ((first|(intro hq;try simp only [lnS]at hq)|refine sI ?_|refine .intro _ (.intro rfl ?_));(conv=>whnf)))
  refine⟨j+1,by dsimp only;omega,by dsimp only;omega, ?_⟩
  dsimp only
  rw [hnx,<-List.append_assoc]
  exact⟨by repeat' (first|exact trivial|exact rfl|refine And.intro ?_ ?_),by repeat' (first|exact trivial|exact rfl|refine And.intro ?_ ?_)⟩
 ·have hjl:j=l.length:=by omega
  subst hjl
  rw [List.take_length]
  ((conv=>whnf);repeat ((first|(intro hq;try simp only [lnS]at hq)|refine sI ?_|refine .intro _ (.intro rfl ?_));(conv=>whnf)))
  unfold bO
  rw [<-List.append_assoc]
  exact⟨rfl,rfl⟩
theorem aK5 (c:Cn):1<=(wC c).length:=by rw [aGq,List.length_append,aR];omega
theorem uM: ∀c:Cn,WrT 93 [.d (.agg (cnR c))] (wC c):=by
 refine Cn.ind ?_
 intro c ih p hp
 rw [aGq]at hp |-
 rw [bG]
 generalize c.kind=kd at *
 generalize c.name=nm at *
 generalize c.lo=lo at *
 generalize c.hi=hi at *
 generalize c.parts=l at *
 simp only [List.length_append,aR,cQ,dA]at hp
 have hn:=gE (Nat.le_refl 1) aK5 l
 have hu:uN (l.length:Int)=l.length:=pU (by omega)
 have hlr:(l.map cnR).length=l.length:=List.length_map ..
 refine aI false [] hty Tryz.func93 rfl (kp [0,1,3,5,28,29,30,31]) 100 (by simp [Tryz.f93]) ?_
 ((conv=>whnf);repeat ((first|(intro hq;try simp only [lnS]at hq)|refine sI ?_|refine .intro _ (.intro rfl ?_));(conv=>whnf)))
 refine WrT.call (lW kd) rfl p (by simp only [aR];omega) (by decide) rfl rfl ?_
 ((conv=>whnf);repeat ((first|(intro hq;try simp only [lnS]at hq)|refine sI ?_|refine .intro _ (.intro rfl ?_));(conv=>whnf)))
 refine WrT.call (eJ nm) rfl _ (by simp only [List.length_append,aR];omega) (by decide) rfl rfl ?_
 ((conv=>whnf);repeat ((first|(intro hq;try simp only [lnS]at hq)|refine sI ?_|refine .intro _ (.intro rfl ?_));(conv=>whnf)))
 refine WrT.call (fP lo) rfl _ (by simp only [List.length_append,aR,aT];omega) (by decide) rfl rfl ?_
 ((conv=>whnf);repeat ((first|(intro hq;try simp only [lnS]at hq)|refine sI ?_|refine .intro _ (.intro rfl ?_));(conv=>whnf)))
 refine WrT.call (fP hi) rfl _ (by simp only [List.length_append,aR,aT];omega) (by decide) rfl rfl ?_
 ((conv=>whnf);repeat ((first|(intro hq;try simp only [lnS]at hq)|refine sI ?_|refine .intro _ (.intro rfl ?_));(conv=>whnf)))
 rw [hlr]
 refine WrT.call (gM l.length) rfl _ (by simp only [List.length_append,aR,aT];omega) (by decide) rfl rfl ?_
 rw [hu]
 have hqq:(p++vY kd++dO nm++gN lo++gN hi++beN 4 l.length).length=p.length+(1+((dO nm).length+(8+(8+4)))):=by
  simp only [List.length_append,aR,cQ,aT];omega
 have hfin:p++(vY kd++(dO nm++(gN lo++(gN hi++bO wC l))))=p++vY kd++dO nm++gN lo++gN hi++beN 4 l.length++(l.map wC).flatten:=by
  unfold bO;simp only [List.append_assoc]
 rw [hfin]
 clear hfin
 change eH _ _ (wrC 4 (p++vY kd++dO nm++gN lo++gN hi++beN 4 l.length)) λh=>eH h _ (wrB (p++vY kd++dO nm++gN lo++gN hi++beN 4 l.length)) _
 generalize p++vY kd++dO nm++gN lo++gN hi++beN 4 l.length=q at *
 ((conv=>whnf);repeat ((first|(intro hq;try simp only [lnS]at hq)|refine sI ?_|refine .intro _ (.intro rfl ?_));(conv=>whnf)))
 rw [hlr]
 refine aL hty (λj:Nat=>([(0, .ptr 3 0),(28, .d (.sl 5 (l.map cnR))),(29, .d (.int .i64 l.length)),(30, .d (.int .i64 j))],[(3,wrC 4 (q++((l.take j).map wC).flatten)),(4,wrB (q++((l.take j).map wC).flatten))])) (λj=>j<=l.length) (λj=>l.length - j) 0 (by omega) ⟨by repeat' (first|exact trivial|exact rfl|refine And.intro ?_ ?_),by rw [List.take_zero,List.map_nil,List.flatten_nil,List.append_nil];exact⟨rfl,rfl,trivial⟩⟩ ?_
 intro j hj
 ((conv=>whnf);repeat ((first|(intro hq;try simp only [lnS]at hq)|refine sI ?_|refine .intro _ (.intro rfl ?_));(conv=>whnf)))
 refine aB (λh1=> ?_) (λh1=> ?_)
 ·have hjl:j < l.length:=by omega
  have hrow:(l.map cnR)[((j:Nat):Int).toNat]? =some (cnR l[j]):=aZ hjl
  have hx:=ih l[j] (List.getElem_mem hjl)
  rw [bG]at hrow hx
  have hnx:=gD (w:=wC) hjl
  have hle:=nF (w:=wC) l (j+1)
  rw [hnx,List.length_append]at hle
  ((conv=>whnf);repeat ((first|(refine⟨_,hrow, ?_⟩)|(intro hq;try simp only [lnS]at hq)|refine sI ?_|refine .intro _ (.intro rfl ?_));(conv=>whnf)))
  refine WrT.call hx rfl _ (by rw [List.length_append,hqq];omega) (by decide) rfl rfl ?_
  ((conv=>whnf);repeat ((first|(intro hq;try simp only [lnS]at hq)|refine sI ?_|refine .intro _ (.intro rfl ?_));(conv=>whnf)))
  refine⟨j+1,by dsimp only;omega,by dsimp only;omega, ?_⟩
  dsimp only
  rw [hnx,<-List.append_assoc]
  exact⟨by repeat' (first|exact trivial|exact rfl|refine And.intro ?_ ?_),by repeat' (first|exact trivial|exact rfl|refine And.intro ?_ ?_)⟩
 ·have hjl:j=l.length:=by omega
  subst hjl
  rw [List.take_length]
  ((conv=>whnf);repeat ((first|(intro hq;try simp only [lnS]at hq)|refine sI ?_|refine .intro _ (.intro rfl ?_));(conv=>whnf)))
  exact rfl
end Go.Proofs.YtleihcnongldbaaGreatDoor
namespace Go.Proofs.YtleihcnongldbaaGreatDoor
open Go.Proofs Go.RowKit
set_option maxRecDepth 10000
attribute [local irreducible] aO aH Tri aG YVC cL bB aJu
end Go.Proofs.YtleihcnongldbaaGreatDoor
namespace Go.Proofs.YtleihcnongldbaaGreatDoor
open Go.Proofs
theorem aO.mid {C:Cfg}{c:Code}{fr:Fr}{hp:Hp}{K:Ex->Fr->Hp->Prop}(FR:Fr) (HP:Hp) (h:aO C c fr hp (λe fr' hp'=>e= .normal/\Sub fr' hp' FR HP)) (hk:K .normal FR HP):aO C c fr hp K:=
 λE a w hpin hrd hsat=>wpIn_mono (h E a w hpin hrd hsat) λ_ _ _ ⟨x,fr',hp',E',h0,h1,h2,h3⟩=>by
  cases x with
  |pan=>exact⟨.pan,fr',hp',E',h0,h1,h2,h3⟩
  |normal=>obtain⟨_,hs⟩:=h2;exact⟨.normal,FR,HP,E',h0,h1,hk,h3.sub hs⟩
  |_=>obtain⟨e,_⟩:=h2;cases e
end Go.Proofs.YtleihcnongldbaaGreatDoor
namespace Go.Proofs.YtleihcnongldbaaGreatDoor
open Go.Proofs
section
variable {P:Program}
def wpS (P:Program) (ops:Array Oper) (Q:Act->World->Prop):Nat->(World->Prop)->Array Bool->Act->World->Prop
 | 0,_,listed,a,w=>Region.ready .any ops listed=[]/\Q a w
 |fuel+1,Cl,listed,a,w=>
  (Region.ready .any ops listed=[]->Q a w)/\
  ∀i∈Region.ready .any ops listed,
   match ops[i]? with
   |none=>wpS P ops Q fuel Cl (listed.setIfInBounds i true) a w
   |some o=>
    if Region.wanted o (yielded ops a.tmps)then
     o.wp P a w (λa' w'=>Cl w'/\wpS P ops Q fuel Cl (listed.setIfInBounds i true) a' w') noX
    else wpS P ops Q fuel Cl (listed.setIfInBounds i true) (a.put o.dst undef) w
theorem aB7 {ops:Array Oper}{Q Q':Act->World->Prop}(hQ: ∀a w,Q a w->Q' a w): ∀(fuel:Nat) (Cl Cl':World->Prop) (listed:Array Bool) (a:Act) (w:World),(∀w,Cl' w->Cl w)->wpS P ops Q fuel Cl' listed a w->wpS P ops Q' fuel Cl listed a w:=by
 intro fuel
 induction fuel with
 |zero=>intro Cl Cl' listed a w _ h;exact⟨h.1,hQ _ _ h.2⟩
 |succ fuel ih=>
  intro Cl Cl' listed a w hc h
  refine⟨λh0=>hQ _ _ (h.1 h0),λi hi=> ?_⟩
  have:=h.2 i hi
  split
  ·rename_i ho;simp only [ho]at this;exact ih _ _ _ _ _ hc this
  ·rename_i o ho
   simp only [ho]at this
   split
   ·rename_i hw
    simp only [hw,if_true]at this
    exact rN (λa' w' hk=>⟨hc _ hk.1,ih _ _ _ _ _ hc hk.2⟩) this
   ·rename_i hw;simp only [hw]at this;exact ih _ _ _ _ _ hc this
theorem aCf {ops:Array Oper}{Q:Exit->Act->World->Prop}: ∀(fuel:Nat) (Cl:World->Prop) (listed:Array Bool) (a:Act) (w:World),wpS P ops (Q .normal) fuel Cl listed a w->wpAny P .any ops Q fuel listed a w:=by
 intro fuel
 induction fuel with
 |zero=>intro Cl listed a w h;exact h
 |succ fuel ih=>
  intro Cl listed a w h
  refine⟨h.1,λi hi=> ?_⟩
  have:=h.2 i hi
  unfold wpOp
  split
  ·rename_i ho;simp only [ho]at this;exact ih _ _ _ _ this
  ·rename_i o ho
   simp only [ho]at this
   split
   ·rename_i hw
    simp only [hw,if_true]at this
    left
    exact rN (λa' w' hk=>ih _ _ _ _ hk.2) this
   ·rename_i hw;simp only [hw]at this;exact ih _ _ _ _ this
def YS (P:Program) (ops:Array Oper) (Cl:World->Prop) (o:Oper) (v:Value) (a:Act):Prop:=
 (Region.wanted o (yielded ops a.tmps)=true/\ ∀w,Cl w->(execOp a.eval o).run P w= .ok (.value v) w)\/(Region.wanted o (yielded ops a.tmps)=false/\v=undef)
theorem YS.of_same {ops:Array Oper}{Cl:World->Prop}{o:Oper}{v:Value}{a a':Act}(hy:YS P ops Cl o v a) (he:execOp a'.eval o=execOp a.eval o)
  (hw:Region.wanted o (yielded ops a'.tmps)=Region.wanted o (yielded ops a.tmps)):YS P ops Cl o v a':=by
 unfold YS at *
 rw [he,hw]
 exact hy
theorem yK {ops:Array Oper}{Q:Act->World->Prop}{i:Nat}{oi:Oper}{v:Value}(hi:ops[i]? =some oi) (hsel:Region.noSelect ops=true):
  ∀(fuel:Nat) (Cl:World->Prop) (listed:Array Bool) (a:Act) (w:World),Cl w->
   (∀j oj,ops[j]? =some oj->j≠i->listed.getD j true=false->(∀e∈oj.after,Region.binds .any e=true->e.on≠i)->oi.apart ops oj=true)->
   i∈Region.ready .any ops listed->YS P ops Cl oi v a->
   wpS P ops Q fuel Cl (listed.setIfInBounds i true) (a.put oi.dst v) w->wpS P ops Q (fuel+1) Cl listed a w:=by
 have own: ∀(fuel:Nat) (Cl:World->Prop) (listed:Array Bool) (a:Act) (w:World),Cl w->YS P ops Cl oi v a->wpS P ops Q fuel Cl (listed.setIfInBounds i true) (a.put oi.dst v) w->
   (match ops[i]? with
   |none=>wpS P ops Q fuel Cl (listed.setIfInBounds i true) a w
   |some o=>if Region.wanted o (yielded ops a.tmps)then o.wp P a w (λa' w'=>Cl w'/\wpS P ops Q fuel Cl (listed.setIfInBounds i true) a' w') noX
    else wpS P ops Q fuel Cl (listed.setIfInBounds i true) (a.put o.dst undef) w):=by
  intro fuel Cl listed a w hc hy H
  simp only [hi]
  rcases hy with⟨hw,hrun⟩|⟨hw,rfl⟩
  ·simp only [hw,if_true]
   exact cB (hrun w hc) ⟨hc,H⟩
  ·simp only [hw,Bool.false_eq_true,if_false];exact H
 intro fuel
 induction fuel with
 |zero=>
  intro Cl listed a w hc _ hr hy H
  refine⟨λh=>(by rw [h]at hr;cases hr),λj hj=> ?_⟩
  by_cases hji:j=i
  ·subst hji;exact own 0 Cl listed a w hc hy H
  ·have:=ready_mono hj hji
   rw [H.1]at this
   cases this
 |succ fuel ih=>
  intro Cl listed a w hc hfree hr hy H
  refine⟨λh=>(by rw [h]at hr;cases hr),λj hj=> ?_⟩
  by_cases hji:j=i
  ·subst hji;exact own _ Cl listed a w hc hy H
  ·have h1:=H.2 j (ready_mono hj hji)
   obtain⟨hjun,oj,hoj,hall⟩:=mem_ready.1 hj
   have hnot: ∀e∈oj.after,Region.binds .any e=true->e.on≠i:= λe he hb heq=>by
    have h1:=hall e he hb
    have h0:=(mem_ready.1 hr).1
    rw [heq]at h1
    rcases Nat.lt_or_ge i listed.size with h'|h'
    ·simp [h']at h0 h1;rw [h0]at h1;cases h1
    ·simp [Array.getElem?_eq_none h']at h1
   obtain⟨p1,p2,p3⟩:=Oper.apart_spec (hfree j oj hoj hji hjun hnot)
   have si:= λcs b=>Region.noSelect_spec hsel i oi cs b hi
   have sj:= λcs b=>Region.noSelect_spec hsel j oj cs b hoj
   have keepY:YS P ops Cl oi v a-> ∀u,YS P ops Cl oi v (a.put oj.dst u):= λhy u=>hy.of_same (execOp_put oi si a oj.dst u p3) (wanted_put oi a oj.dst u p3)
   have hfree': ∀k ok,ops[k]? =some ok->k≠i->(listed.setIfInBounds j true).getD k true=false->
     (∀e∈ok.after,Region.binds .any e=true->e.on≠i)->oi.apart ops ok=true:= λk ok hk hki hun hno=>by
    refine hfree k ok hk hki ?_ hno
    by_cases hjk:j=k
    ·subst hjk;exact hjun
    ·rw [getD_set_ne true hjk]at hun;exact hun
   have hrj:=ready_mono hr (Ne.symm hji)
   simp only [hoj]at h1 |-
   rw [wanted_put oj a oi.dst v p1]at h1
   split
   ·rename_i hw
    simp only [hw,if_true]at h1
    have h2:oj.wp P a w (λa' w'=>(Cl w'/\wpS P ops Q fuel Cl ((listed.setIfInBounds i true).setIfInBounds j true) (a'.put oi.dst v) w')) noX:=by
     unfold Oper.wp at h1 |-
     rw [execOp_put oj sj a oi.dst v p1]at h1
     exact aB9 (K:= λa' w'=>Cl w'/\wpS P ops Q fuel Cl ((listed.setIfInBounds i true).setIfInBounds j true) a' w') p2 h1
    have h3:oj.wp P a w (λa' w'=>YS P ops Cl oi v a'/\(Cl w'/\wpS P ops Q fuel Cl ((listed.setIfInBounds i true).setIfInBounds j true) (a'.put oi.dst v) w')) noX:=by
     have hput: ∀u,YS P ops Cl oi v (a.put oj.dst u):= λu=>keepY hy u
     unfold Oper.wp at h2 |-
     generalize (execOp a.eval oj).run P w=r at h2
     cases r with
     |ok n w'=>
      cases n<;>simp only [Oper.upon]at h2 |-
      all_goals first
       |exact⟨hput _,h2⟩
       |exact h2.elim
       |exact Calls.mono h2 (λe w'' he=>by cases e<;>first|exact⟨hput _,he⟩|exact he)
       |exact Rows.mono h2 (λ_ _ he=>⟨hput _,he⟩)
       |exact⟨(keepY hy undef).of_same (by cases oj.dst<;>rfl) (by cases oj.dst<;>rfl),h2⟩
       |exact h2
     |halt x w'=>cases x<;>simp only [Oper.upon]at h2 |-<;>exact h2
    refine rN (λa' w' ⟨hyk,hk⟩=> ?_) h3
    refine⟨hk.1,ih Cl (listed.setIfInBounds j true) a' w' hk.1 hfree' hrj hyk ?_⟩
    rw [Array.setIfInBounds_comm _ _ hji];exact hk.2
   ·rename_i hw
    simp only [hw]at h1
    refine ih Cl (listed.setIfInBounds j true) (a.put oj.dst undef) w hc hfree' hrj (keepY hy undef) ?_
    rw [Array.setIfInBounds_comm _ _ hji,<-Act.put_comm a v _ p2]
    simpa using h1
def aDt (ops:Array Oper):OT->Array Bool->Bool->Bool
 | .done,listed,inn=> !inn && (Region.ready .any ops listed).isEmpty
 | .stop,_,inn=>inn
 | .first i t, listed, inn => !inn && (match ops[i]? with
   |some o=>decide (kd o.op<=1) && (Region.ready .any ops listed).contains i && Region.free .any ops listed i && aDt ops t (listed.setIfInBounds i true) false
   |none=>false)
 | .alt i t r,listed,inn=>(inn || (!(Region.ready .any ops listed).isEmpty && (Region.ready .any ops listed).all λj=>(i::r.heads).contains j)) && (ops[i]?).isSome && aDt ops t (listed.setIfInBounds i true) false && aDt ops r listed true
def jY (C:Cfg) (all:List Oper) (K:Fr->Hp->Prop):OT->Fr->Hp->Prop
 | .done,fr,hp=>oD C.keep fr λfr'=>K fr' hp
 | .stop,_,_=>True
 | .first i t,fr,hp=>aDk C all i fr [] λfr' _=>jY C all K t fr' hp
 | .alt i t r,fr,hp=>aIu C all i fr hp (λfr' hp'=>jY C all K t fr' hp')/\jY C all K r fr hp
def aP9 (C:Cfg) (all:List Oper) (R:Act->World->Prop) (fuel:Nat) (Cl:World->Prop) (listed:Array Bool) (a:Act) (w:World) (i:Nat):Prop:=
 match all.toArray[i]? with
 |none=>wpS C.P all.toArray R fuel Cl (listed.setIfInBounds i true) a w
 |some o=>
  if Region.wanted o (yielded all.toArray a.tmps)then
   o.wp C.P a w (λa' w'=>Cl w'/\wpS C.P all.toArray R fuel Cl (listed.setIfInBounds i true) a' w') noX
  else wpS C.P all.toArray R fuel Cl (listed.setIfInBounds i true) (a.put o.dst undef) w
theorem aAb {C:Cfg}(hti:cT C.P C.ti) {all:List Oper}{K:Fr->Hp->Prop}(hsel:Region.noSelect all.toArray=true):
  ∀(T:OT) (fuel:Nat) (listed:Array Bool) (fr:Fr) (hp:Hp) (ρ:Env) (a:Act) (w:World) (E:Entry),E.pin=C.pin->E.w=w->E.S=ρ.S->jY C all K T fr hp->Mem E ρ hp w->a.tmps.size=C.nt->a.defers=(E.D.take E.k).map qC++E.pin.pre->cK ρ w fr a.tmps->
  (aDt all.toArray T listed false=true->T.depth<=fuel->wpS C.P all.toArray (λa w=> ∃fr hp,K fr hp/\Sat E C.nt ⟨fr,hp⟩ a w) fuel (bS ρ.S w) listed a w)/\
  (∀inn,aDt all.toArray T listed inn=true->T.depth<=fuel+1-> ∀i∈T.heads,aP9 C all (λa w=> ∃fr hp,K fr hp/\Sat E C.nt ⟨fr,hp⟩ a w) fuel (bS ρ.S w) listed a w i):=by
 intro T
 induction T with
 |done=>
  intro fuel listed fr hp ρ a w E hpin hEw hES h hm h1 h2 h3
  refine⟨λhB _=> ?_,λ_ _ _ i hi=>by simp [OT.heads]at hi⟩
  simp only [aDt,Bool.not_false,Bool.true_and,List.isEmpty_iff]at hB
  simp only [jY,kJ]at h
  have hq: ∃fr hp,K fr hp/\Sat E C.nt ⟨fr,hp⟩ a w:=⟨_,hp,h,h1,h2,ρ,hm,λt s hts=>h3 t s (iG _ _ t s hts)⟩
  cases fuel with
  |zero=>exact⟨hB,hq⟩
  |succ n=>exact⟨λ_=>hq,λi hi=>by rw [hB]at hi;cases hi⟩
 |stop=>
  intro fuel listed fr hp ρ a w E hpin hEw hES h hm h1 h2 h3
  exact⟨λhB=>by simp [aDt]at hB,λ_ _ _ i hi=>by simp [OT.heads]at hi⟩
 |first i t ih=>
  intro fuel listed fr hp ρ a w E hpin hEw hES h hm h1 h2 h3
  refine⟨λhB hd=> ?_,λ_ _ _ i hi=>by simp [OT.heads]at hi⟩
  simp only [jY,aDk]at h
  split at h
  ·rename_i o ho
   have ho':all.toArray[i]? =some o:=by simpa using ho
   simp only [aDt,ho',Bool.not_false,Bool.true_and,Bool.and_eq_true,decide_eq_true_eq,List.contains_iff_mem]at hB
   obtain⟨⟨⟨hk,hr⟩,hf⟩,hB⟩:=hB
   simp only [OT.depth]at hd
   obtain⟨fuel,rfl⟩: ∃n,fuel=n+1:=⟨fuel - 1,by omega⟩
   have hm0:Mem E ρ [] w:=hm.sub (λid o ho=>by simp [aQ]at ho)
   obtain⟨fr0,h3,hh⟩:=dM h h3
   rcases hh with⟨hw,h⟩|⟨hw,h⟩
   ·rcases aO1 hti h with⟨_,hd',_⟩|⟨hk',_⟩|⟨hk',_⟩
    ·obtain⟨v,s,q1,q2,q3⟩:=hd' E ρ a w hm0 h3
     obtain⟨fr',p1,p2⟩:=eI q3 h1 h3 q2
     exact yK ho' hsel fuel _ listed a w (λ_ _ _=>rfl) (Region.free_spec ho' hf) hr (v:=v) (.inl ⟨hw,λw' hw'=>q1 w' ⟨hw',λid x g hx=>by simp [aQ]at hx⟩⟩)
      ((ih fuel _ fr' hp ρ _ w E hpin hEw hES p1 hm (by rw [bQ];exact h1) (by rw [put_defers];exact h2) p2).1 hB (by omega))
    ·omega
    ·omega
   ·obtain⟨fr',p1,p2⟩:=eI h h1 h3 (Rep.d _ undef (.lit undef))
    exact yK ho' hsel fuel _ listed a w (λ_ _ _=>rfl) (Region.free_spec ho' hf) hr (v:=undef) (.inr ⟨hw,rfl⟩) ((ih fuel _ fr' hp ρ _ w E hpin hEw hES p1 hm (by rw [bQ];exact h1) (by rw [put_defers];exact h2) p2).1 hB (by omega))
  ·exact h.elim
 |alt i t r iht ihr=>
  intro fuel listed fr hp ρ a w E hpin hEw hES h hm h1 h2 h3
  have key: ∀inn,aDt all.toArray (.alt i t r) listed inn=true-> ∀n,(OT.alt i t r).depth<=n+1-> ∀j∈(OT.alt i t r).heads,aP9 C all (λa w=> ∃fr hp,K fr hp/\Sat E C.nt ⟨fr,hp⟩ a w) n (bS ρ.S w) listed a w j:=by
   intro inn hB n hd j hj
   simp only [aDt,Bool.and_eq_true]at hB
   obtain⟨⟨⟨_,hsome⟩,hBt⟩,hBr⟩:=hB
   simp only [OT.depth]at hd
   simp only [jY]at h
   simp only [OT.heads,List.mem_cons]at hj
   rcases hj with rfl|hj
   ·have h:=h.1
    unfold aIu at h
    split at h
    ·rename_i o ho
     have ho':all.toArray[j]? =some o:=by simpa using ho
     unfold aP9
     simp only [ho']
     obtain⟨fr0,h3,hh⟩:=dM h h3
     rcases hh with⟨hw,h⟩|⟨hw,h⟩
     ·rw [if_pos hw]
      refine aPt hti h E ρ a w hpin hm h3 _ noX λv w' ρ' s hp' k1 k2 k3 k4=> ?_
      obtain⟨fr',p1,p2⟩:=eI k1 h1 k3 k4
      have hkp:bS ρ.S w w':=by have:=k2.kp;rwa [hEw,hES]at this
      have hso: ∀b i,ρ.S b i->ρ'.S b i:=by have:=k2.sold;rwa [hES]at this
      refine⟨hkp, ?_⟩
      have hm2:Mem { bU w' ρ' hp' E.pin E.rd E.D with k:=E.k } ρ' hp' w':=by
       have:=k2.enter E.pin E.rd
       exact⟨this.os,this.tape,this.output,this.size,this.old,this.sold,this.snew,this.slt,this.kp,this.sat,this.inj,this.hb,this.mv,this.ro,this.md⟩
      have:=(iht n _ fr' hp' ρ' _ w' { bU w' ρ' hp' E.pin E.rd E.D with k:=E.k } hpin rfl rfl p1 hm2 (by rw [bQ];exact h1) (by rw [put_defers];exact h2) p2).1 hBt (by omega)
      refine aB7 ?_ _ _ _ _ _ _ (λw2 hw2=>hkp.trans hso hw2) this
      rintro a3 w3 ⟨fr3,hp3,q1,q2,q3,ρ3,q4,q5⟩
      exact⟨fr3,hp3,q1,q2,q3,ρ3,k2.leave (pin:=E.pin) (rd:=E.rd) q4 ⟨rfl,rfl,rfl,rfl,rfl,λb hb=>hb⟩ (λid hid=>hid),q5⟩
     ·rw [if_neg (by rw [hw];decide)]
      obtain⟨fr',p1,p2⟩:=eI h h1 h3 (Rep.d _ undef (.lit undef))
      exact(iht n _ fr' hp ρ _ w E hpin hEw hES p1 hm (by rw [bQ];exact h1) (by rw [put_defers];exact h2) p2).1 hBt (by omega)
    ·exact h.elim
   ·exact(ihr n listed fr hp ρ a w E hpin hEw hES h.2 hm h1 h2 h3).2 true hBr (by omega) j hj
  refine⟨λhB hd=> ?_,λinn hB hd=>key inn hB fuel hd⟩
  have hd':=hd
  simp only [OT.depth]at hd'
  obtain⟨fuel,rfl⟩: ∃n,fuel=n+1:=⟨fuel - 1,by omega⟩
  have hc:=hB
  simp only [aDt,Bool.false_or,Bool.and_eq_true,Bool.not_eq_true',List.all_eq_true,List.contains_iff_mem]at hc
  obtain⟨⟨⟨⟨hne,hcov⟩,_⟩,_⟩,_⟩:=hc
  refine⟨λh0=> ?_,λj hj=> ?_⟩
  ·rw [h0]at hne;cases hne
  ·exact key false hB fuel hd j (hcov j hj)
theorem pI {C:Cfg}(hti:cT C.P C.ti) {id:Nat}{l:List Oper}{fr:Fr}{hp:Hp}{K:Ex->Fr->Hp->Prop}(T:OT) (hm:C.P.follows .mixedOrders=true)
  (hB:(decide (T.depth<=l.length) && Region.noSelect l.toArray && aDt l.toArray T (Array.replicate l.length false) false && iV l)=true) (h:jY C l (K .normal) T fr hp):aO C (.region id l.toArray true) fr hp K:=by
 intro E a w hpin hrd ⟨h1,h2,ρ,h3,h4⟩
 simp only [Bool.and_eq_true,decide_eq_true_eq]at hB
 obtain⟨⟨⟨b1,b2⟩,b3⟩,hnd⟩:=hB
 refine dR hm hnd iK.noOut ?_
 obtain⟨m1,m2⟩:=h3.grow_same (Grew.drew w)
 generalize hw1:w.drew=w1 at *
 have hm2:Mem { bU w1 ρ hp E.pin E.rd E.D with k:=E.k } ρ hp w1:=by
  have:=m1.enter E.pin E.rd
  exact⟨this.os,this.tape,this.output,this.size,this.old,this.sold,this.snew,this.slt,this.kp,this.sat,this.inj,this.hb,this.mv,this.ro,this.md⟩
 have:=(aAb (C:=C) hti b2 T l.length (Array.replicate l.length false) fr hp ρ a w1 { bU w1 ρ hp E.pin E.rd E.D with k:=E.k } hpin rfl rfl h hm2 h1 h2 (m2 fr _ h4)).1 b3 b1
 have h5:=aCf (Q:=iK C E K) _ _ _ _ _ (aB7 (Q':=iK C E K .normal) (λa w ⟨fr',hp',k1,q2,q3,ρ3,q4,q5⟩=>⟨.normal,fr',hp',E, .refl E,trivial,k1,q2,q3,ρ3,m1.leave (pin:=E.pin) (rd:=E.rd) q4 ⟨rfl,rfl,rfl,rfl,rfl,λb hb=>hb⟩ (λid hid=>hid),q5⟩) _ _ _ _ _ _ (λ_ h=>h) this)
 have e:l.toArray.size=l.length:=by simp
 rw [e]
 subst hw1
 exact h5
end
end Go.Proofs.YtleihcnongldbaaGreatDoor
