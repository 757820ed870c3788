/-
  Parts of rows that may be written: cut out, measured, cleared, and taken for the whole. Terms: slices.CompactFunc over trees.
  Conditions: none.
-/
import Derived.Test.YtfhoddcminbffaaGreatDoorVSne
import Derived.Test.YtfhoddcminbffaaGreatDoorVTcu
import Derived.Test.YtfhoddcminbffaaGreatDoorVSw
set_option linter.unnecessarySimpa false
set_option linter.unusedSectionVars false
set_option linter.unusedSimpArgs false
set_option linter.unusedVariables false
set_option maxHeartbeats 16000000
namespace Go.Proofs.YtfhoddcminbffaaGreatDoor
open Go.RowKit
section
variable {P:Program}
theorem aH7 {n cap:Nat}{lo hi:Option SV}{lv hv:Option Value}{w:World}{ρ:Env}{K:Nat->Nat->Prop}(hc:n<=cap) (r1: ∀s,lo=some s-> ∃v,lv=some v/\Rep w ρ s v) (r1':lo=none->lv=none) (r2: ∀s,hi=some s-> ∃v,hv=some v/\Rep w ρ s v) (r2':hi=none->hv=none)
  (h:cut n lo hi none K): ∃a b,(∀w',(Instr.sliceBounds true n cap lv hv none).run P w'= .ok (a,b,cap) w')/\a<=b/\b<=n/\K a b:=by
 unfold cut at h
 cases lo with
 |none=>
  have:=r1' rfl;subst this
  cases hi with
  |none=>
   have:=r2' rfl;subst this
   exact⟨0,n,λw'=>by simp [Instr.sliceBounds],by omega,by omega,h⟩
  |some s=>
   obtain⟨v,rfl,hr⟩:=r2 s rfl
   dsimp only at h
   split at h
   ·rename_i hl heq;cases heq
   ·rename_i hl heq;cases hl
   ·rename_i k hh hl heq
    injection heq with heq;subst heq
    obtain⟨h0,h1,hk⟩:=h
    have e1:=hr.int_inv
    subst e1
    exact⟨0,hh.toNat,λw'=>by simp [Instr.sliceBounds,run_sliceBound,h0,show hh<=cap by omega],by omega,by omega,hk⟩
   ·rename_i hl heq;cases hl
   ·exact h.elim
 |some s=>
  obtain⟨v,rfl,hr⟩:=r1 s rfl
  cases hi with
  |none=>
   have:=r2' rfl;subst this
   dsimp only at h
   split at h
   ·rename_i hl heq;cases hl
   ·rename_i k l hl heq
    injection hl with hl;subst hl
    obtain⟨h0,h1,hk⟩:=h
    have e1:=hr.int_inv
    subst e1
    exact⟨l.toNat,n,λw'=>by simp [Instr.sliceBounds,run_sliceBound,h0,show l<=n by omega],by omega,by omega,hk⟩
   ·rename_i hl heq;cases heq
   ·rename_i hl heq;cases heq
   ·exact h.elim
  |some s2=>
   obtain⟨v2,rfl,hr2⟩:=r2 s2 rfl
   dsimp only at h
   split at h
   ·rename_i hl heq;cases hl
   ·rename_i hl heq;cases heq
   ·rename_i hl heq;cases hl
   ·rename_i k l k2 hh hl heq
    injection hl with hl;subst hl
    injection heq with heq;subst heq
    obtain⟨h0,h1,h2,hk⟩:=h
    have e1:=hr.int_inv
    have e2:=hr2.int_inv
    subst e1;subst e2
    exact ⟨l.toNat, hh.toNat, λw' => by
     have h3:l<=(hh.toNat:Int):=by omega
     simp only [Instr.sliceBounds,Sem.run_bind,Sem.run_pure,Result.andThen_ok,run_sliceBound (P:=P) w' k2 hh cap _ (show (0:Int)<=hh by omega) (show hh<=(cap:Int)by omega)]
     simp only [run_sliceBound (P:=P) w' k l hh.toNat _ h0 h3,Result.andThen_ok],by omega,by omega,hk⟩
   ·exact h.elim
theorem kN {ti:TypeId->Option TI}(hti:dS P ti) {o:Oper}{t e:TypeId}{T:TI}{x:Operand}{lo hi:Option Operand}(ho:o.op= .slice t x lo hi none) (hT:slT ti t=some (e,T)) {fr:Fr}{hp:Hp}{K:SV->Prop}
  {id z n:Nat} (hx:evO fr x=some (.mw id z n)) (hz:T.size=z) {l h:Option SV} (hl:rQ fr lo=some l) (hh:rQ fr hi=some h) (hk:cut n l h none λa b=>K (.ms id z a (b - a) n)):dQ P o fr hp K:=by
 intro E ρ a w hm hf
 obtain⟨A,c,e1,hnc,hcm,hA,h1,h2⟩:=(aX hf hx).mw_inv
 obtain⟨q1,q1'⟩:=nA hf hl
 obtain⟨q2,q2'⟩:=nA hf hh
 obtain⟨a',b',hrun,hab,hbn,hk⟩:=aH7 (P:=P) hnc q1 q1' q2 q2' hk
 refine⟨_,_,λw' _=>aEc hti ho hT (a':=a') (b:=b') (m':=c) e1 (hrun w'), ?_,hk⟩
 refine .ms id z a' (b' - a') n (c - a') _ (by omega) (by omega) ?_ h1 ?_
 ·intro hne
  obtain⟨g,rfl⟩:=hA (by omega)
  split
  ·exact⟨_,rfl⟩
  ·exact⟨_,rfl⟩
 ·intro he
  have h2':=h2 he
  rw [<-h2',e1]
  refine⟨A,n,c,rfl,by omega,hnc,hA,_,rfl,λhc=> ?_⟩
  rw [if_neg (by omega),hz]
theorem aB1 {ti:TypeId->Option TI}(hti:dS P ti) {o:Oper}{t e:TypeId}{T:TI}{x:Operand}(ho:o.op= .call { callee:= .builtin .len,args:= #[x],argTypes:= #[t] }) (hT:slT ti t=some (e,T)) {fr:Fr}{hp:Hp}{K:SV->Prop}
  {id z lo n ver:Nat} (hx:evO fr x=some (.ms id z lo n ver)) (hk:K (.d (.int .i64 n))):dQ P o fr hp K:=by
 intro E ρ a w hm hf
 obtain⟨hu,dd,i,z',hT2⟩:=aEd hti hT
 obtain⟨A,c,e1,_⟩:=(aX hf hx).ms_inv
 refine⟨_,_,λw' _=> ?_, .d _ _ (.int _ _),hk⟩
 simp [aT ho,builtin,Builtin.len_,run_underlying hu,e1,goInt]
theorem Flat.take_ {w:World}{S:Nat->Nat->Prop}{z:Nat}{rows:List (List D)}{vs:List Value}(h:Flat w S z rows vs) (k:Nat):Flat w S z (rows.take k) (vs.take (k * z)):=by
 refine⟨?_,λrow hr=>h.hz row (List.mem_of_mem_take hr),λv hv=>h.one v (List.mem_of_mem_take hv), ?_⟩
 ·rw [List.length_take,List.length_take,h.len]
  rcases Nat.le_total k rows.length with hk|hk
  ·rw [Nat.min_eq_left hk,Nat.min_eq_left (Nat.mul_le_mul_right _ hk)]
  ·rw [Nat.min_eq_right hk,Nat.min_eq_right (Nat.mul_le_mul_right _ hk)]
 ·intro i row j x h1 h2
  rw [List.getElem?_take]at h1
  split at h1
  ·rename_i hik
   obtain⟨v,v1,v2⟩:=h.at_ i row j x h1 h2
   have hrow:=(tL h.hz h1 h2).2.1
   have:=gF hrow hik
   exact⟨v,by rw [List.getElem?_take,if_pos this];exact v1,v2⟩
  ·cases h1
theorem uO {ti:TypeId->Option TI}(hti:dS P ti) {o:Oper}{t e:TypeId}{T:TI}{x:Operand}(ho:o.op= .call { callee:= .builtin .clear,args:= #[x],argTypes:= #[t] }) (hT:slT ti t=some (e,T)) (hpos:0 < T.size) {pin:List Nat}{fr:Fr}{hp:Hp}{K:SV->Hp->Prop}
  {id z lo n ver e' cap:Nat} {rows:List (List D)} (hx:evO fr x=some (.ms id z lo n ver)) (hg:bB hp id=some (.mrow e' z cap rows)) (hz:T.size=z) (hver:ver=rows.length) (hlo:lo+n=rows.length)
  (hk:K (.tup []) (nT hp id (.mrow e' z cap (rows.take lo++List.replicate n T.zero)))):bN P o pin fr hp K:=by
 intro E ρ a w hpin hm hf next Q hn
 obtain⟨hu,dd,ii,z',hT2⟩:=aEd hti hT
 obtain⟨A,c,e1,k1,k2,k3,k4,k5⟩:=(aX hf hx).ms_inv
 obtain⟨n0,m0⟩:=hm.sat id _ hg
 rcases Nat.eq_zero_or_pos n with hn0|hn0
 · -- nothing to clear
  subst hn0
  have hrun:(execOp a.eval o).run P w= .ok (.value (.tuple #[])) w:=by
   rcases A with _|A<;>simp [aT ho,builtin,Builtin.clear_,run_underlying hu,e1]
  have hrows:rows.take lo++List.replicate 0 T.zero=rows:=by rw [List.replicate_zero,List.append_nil,List.take_of_length_le (by omega)]
  rw [hrows]at hk
  obtain⟨s1,s2,s3⟩:=hm.setMrow hg (w':=w) (cap':=cap) (rows':=rows) (v':=ρ.tv id) rfl rfl (.refl _) (Nat.le_refl _) (λ_ _ _=>rfl) m0 (λg hg=> .inl hg) (.inl ⟨rfl,rfl⟩)
  exact cN hrun (hn _ _ _ _ _ hk s1 (hf.mono s2 (λ_ _ x=>x) λi _=>s3 i) (.tup [] _ rfl (by simp)))
 ·have hver':ver=ρ.n id:=by rw [hver];exact n0.symm
  obtain⟨A0,len0,cap0,q1,q2,q3,q4,A',q5,q6⟩:=k5 hver'
  rcases m0 with⟨hr0,_,_⟩|⟨hc,g,cur,p1,p2,p3,p4,p5,p6,p7⟩
  ·rw [hr0]at hlo;simp at hlo;omega
  ·rw [p1]at q1
   injection q1 with q1 q1' q1''
   subst q1;subst q1';subst q1''
   have hA':A=some ⟨g,lo * z,none⟩:=by
    rw [e1]at q5
    injection q5 with q5 _ _
    rw [q5,q6 (by omega)]
    simp [dD]
   have hlen:rows.length * z<=cur.size:=by rw [p5];exact Nat.mul_le_mul_right _ p3
   have hzs:=qC hT2 w ρ.S n hpos
   obtain⟨vs,hvs⟩: ∃vs,vs=((Array.range (n * ii.size)).map (z'.cells[· % z'.cells.size]!)).toList:=⟨_,rfl⟩
   rw [<-hvs]at hzs
   have hvl:vs.length=n * z:=by rw [hzs.len,List.length_replicate,hz]
   have hbound:lo * z+vs.length<=cur.size:=by rw [hvl,<-Nat.add_mul,hlo];exact hlen
   have hrun:(execOp a.eval o).run P w= .ok (.value (.tuple #[])) (w.setRow g (cur.toList.take (lo * z)++vs++cur.toList.drop (lo * z+vs.length)).toArray):=by
    have hst:=run_storeCells_at (P:=P) g (lo * z) e' vs 0 cur w p2 (by omega) hzs.one
    obtain⟨n',rfl⟩: ∃n',n=n'+1:=⟨n - 1,by omega⟩
    have hzv:(zeroValue e).run P w= .ok z' w:=by simp [zeroValue,typeInfo,hT2.info,hT2.zero]
    have e2:(Builtin.zeroCells z'.cells (n'+1)).toList=vs:=by rw [hvs,Builtin.zeroCells,hT2.cells]
    simp only [aT ho,builtin,Builtin.clear_,e1,hA',Sem.run_bind,List.getElem?_toArray,List.map_toArray,List.map_cons,List.map_nil,List.getElem?_cons_zero,run_underlying hu,Result.andThen_ok,hzv,Sem.run_pure,e2]
    simp only [Nat.add_zero]at hst
    rw [hst]
    rfl
   have hkeep:bV ρ.S w (w.setRow g (cur.toList.take (lo * z)++vs++cur.toList.drop (lo * z+vs.length)).toArray):= λb i hb=>World.cell?_of_block (w:=w) (setRow_other w g b _ (λe=>p7 i (e ▸ hb)))
   have hrl:(rows.take lo++List.replicate n T.zero).length=rows.length:=by simp;omega
   have hmut:fG (w.setRow g (cur.toList.take (lo * z)++vs++cur.toList.drop (lo * z+vs.length)).toArray) ρ.S e' z cap (rows.take lo++List.replicate n T.zero) (ρ.tv id):=by
    refine .inr ⟨hc,g,_,by rw [p1,hrl],setRow_heap _ _ _ _ _ _ p2,by omega,p4, ?_, ?_,p7⟩
    ·simp only [List.size_toArray,List.length_append,List.length_take,List.length_drop,Array.length_toList]
     omega
    ·have h1:=(p6.take_ lo).mono hkeep λ_ _ x=>x
     have h2:Flat (w.setRow g (cur.toList.take (lo * z)++vs++cur.toList.drop (lo * z+vs.length)).toArray) ρ.S z (List.replicate n T.zero) vs:=(hz ▸ hzs).mono hkeep λ_ _ x=>x
     have h3:=h1.append h2
     have e3:((cur.toList.take (lo * z)++vs++cur.toList.drop (lo * z+vs.length)).toArray.toList.take ((rows.take lo++List.replicate n T.zero).length * z))=(cur.toList.take (rows.length * z)).take (lo * z)++vs:=by
      have hle:lo * z<=rows.length * z:=Nat.mul_le_mul_right _ (by omega)
      have e4:rows.length * z=(cur.toList.take (lo * z)++vs).length:=by
       have hlz:lo * z<=cur.toList.length:=by rw [Array.length_toList];omega
       rw [List.length_append,List.length_take,hvl,Nat.min_eq_left hlz,<-Nat.add_mul,hlo]
      rw [hrl,List.take_take,Nat.min_eq_left hle]
      show (cur.toList.take (lo * z)++vs++cur.toList.drop (lo * z+vs.length)).take (rows.length * z)=_
      rw [e4]
      exact List.take_left' rfl
     rw [e3]
     exact h3
   obtain⟨s1,s2,s3⟩:=hm.setMrow hg (w':=w.setRow g (cur.toList.take (lo * z)++vs++cur.toList.drop (lo * z+vs.length)).toArray) (cap':=cap) (v':=ρ.tv id) rfl rfl ⟨rfl,Nat.le_refl _⟩ (by simp [World.setRow])
    (λb _ hb=>setRow_other w g b _ (λe=>hb (by rw [p1,e];have:cap≠0:=(by omega);simp [eP,this]))) hmut (λg hg=> .inl hg) (.inl ⟨hrl,rfl⟩)
   exact cN hrun (hn _ _ _ _ _ hk s1 (hf.mono s2 (λ_ _ x=>x) λi _=>s3 i) (.tup [] _ rfl (by simp)))
theorem aJp {w:World}{ρ:Env}{id e z cap n:Nat}{rows:List (List D)}{v:Value}(ho:aGi w ρ id (.mrow e z cap rows)) (hn:n=rows.length) (hr:Rep w ρ (.mw id z n) v):Rep w ρ (.ms id z 0 n n) v:=by
 obtain⟨A,c,e1,k1,k2,k3,k4,k5⟩:=hr.mw_inv
 obtain⟨n0,m0⟩:=ho
 subst e1
 refine .ms id z 0 n n c A k1 k2 (λh=>(k3 h).elim λg hg=>⟨_,hg⟩) k4 λhv=> ?_
 have h5:=k5 hv
 rw [<-h5]
 refine⟨A,n,c,rfl,by omega,k1,k3,A,rfl,λhc=> ?_⟩
 rcases m0 with⟨hr0,hc0,A1,hA1⟩|⟨hc,g,cur,p1,p2,p3,p4,p5,p6,p7⟩
 ·rw [hA1]at h5
  injection h5 with _ _ h5
  omega
 ·rw [p1]at h5
  injection h5 with h5 _ _
  subst h5
  simp [dD]
structure PartP (pin:List Nat) (fr:Fr) (K:SV->Hp->Prop) (id':Nat) (s:SV) (hp:Hp):Prop where
 ex: ∃(id e z cap k n:Nat) (rows:List (List D)) (hp':Hp),(s= .ms id z 0 k n\/(s= .mw id z n/\k=n))/\bB hp id=some (.mrow e z cap rows)/\n=rows.length/\k<=n/\fB id' pin fr hp/\yX hp' hp/\bB hp' id=none/\
  ∀cap',K (.mw id' z k) ((id', .mrow e z cap' (rows.take k))::hp')
theorem aM.closeP {pin:List Nat}{fr:Fr}{hp:Hp}{f:FuncId}{asv:List SV}{K:SV->Hp->Prop}(id':Nat) (h:aM P pin fr hp f asv (PartP pin fr K id')):aM P pin fr hp f asv K:=by
 intro E ρ0 w0 tm hpin h30 h40 vs hargs
 refine(h E ρ0 w0 tm hpin h30 h40 vs hargs).mono ?_
 rintro e0 w ⟨v,ρ,s,hp1,rfl,⟨id,e,z,cap,k,n,rows,hp',hs,ho,hn,hkn,⟨f1,f2,f3⟩,hsub,hno,hk⟩,h3,h4,hr⟩
 have hr:Rep w ρ (.ms id z 0 k n) v:=by
  rcases hs with rfl|⟨rfl,rfl⟩
  ·exact hr
  ·exact aJp (h3.sat id _ ho) hn hr
 obtain⟨n0,m0⟩:=h3.sat id _ ho
 obtain⟨A,c,e1,k1,k2,k3,k4,k5⟩:=hr.ms_inv
 obtain⟨A0,len0,cap0,q1,q2,q3,q4,A',q5,q6⟩:=k5 (by omega)
 have hm':=h3.sub (hp':=hp') λi o hio=>iY _ _ hsub i o hio
 rw [e1]at q5
 injection q5 with q5 q5' q5''
 subst q5
 rcases m0 with⟨hr0,hc0,A1,hA1⟩|⟨hc,g,cur,p1,p2,p3,p4,p5,p6,p7⟩
 ·subst hr0
  have hk0:k=0:=by simp at hn;omega
  subst hk0
  rw [hA1]at q1
  injection q1 with q1 q1' q1''
  subst q1;subst q1';subst q1''
  simp at q5''
  subst q5''
  obtain⟨s1,s2,s3⟩:=hm'.newObj (id:=id') (b:=ρ.blk id') (n:=0) (v:= .slice A 0 0) (o:= .mrow e z 0 []) (uZ hsub f3) (by rw [hpin];exact f1) (Grew.refl w) (λh=>h)
   ⟨by simp [Env.upd3], .inl ⟨rfl,rfl,A,by simp [Env.upd3]⟩⟩
   (λg' hg'=>by simp [Env.at,Env.upd3,eP]at hg';cases A<;>simp at hg')
  refine⟨v,_,_,_,rfl,hk 0,s1,h4.mono s2 (λ_ _ x=>x) λi hi=>s3 i λe=>f2 (e ▸ hi), ?_⟩
  rw [e1]
  exact .mw id' z 0 0 _ (by omega) (by simp) (λh=>absurd rfl h) (by simp [Env.upd3]) (by simp [Env.upd3])
 ·rw [p1]at q1
  injection q1 with q1 q1' q1''
  subst q1;subst q1';subst q1''
  have hat:ρ.at id (.mrow e z cap rows)=some g:=by
   simp only [Env.at];rw [p1];have:cap≠0:=by omega
   simp [eP,this]
  have hfree:=h3.free_del ho hat hsub hno
  have hA:A=some ⟨g,0,none⟩:=by
   rw [q6 (by omega)]
   simp [dD]
  have hcc:c=cap:=by omega
  subst hcc
  have hkl:(rows.take k).length=k:=by rw [List.length_take];omega
  have hmut:fG w ρ.S e z c (rows.take k) (.slice (some ⟨g,0,none⟩) k c):=by
   refine .inr ⟨hc,g,cur,by rw [hkl],p2,by omega,p4,p5, ?_,p7⟩
   have:=p6.take_ k
   rw [List.take_take,Nat.min_eq_left (Nat.mul_le_mul_right _ (by omega))]at this
   rw [hkl]
   exact this
  obtain⟨s1,s2,s3⟩:=hm'.newObj (id:=id') (b:=ρ.blk id') (n:=k) (v:= .slice (some ⟨g,0,none⟩) k c) (o:= .mrow e z c (rows.take k)) (uZ hsub f3) (by rw [hpin];exact f1) (Grew.refl w) (λh=>h)
   ⟨by simp [Env.upd3,hkl],by simp only [Env.upd3,if_true];exact hmut⟩
   (λg' hg' => by
    have hc0:c≠0:=by omega
    simp only [Env.at,Env.upd3,if_true,eP,hc0,if_false,Option.some.injEq]at hg'
    subst hg';exact hfree)
  refine⟨v,_,_,_,rfl,hk c,s1,h4.mono s2 (λ_ _ x=>x) λi hi=>s3 i λe=>f2 (e ▸ hi), ?_⟩
  rw [e1,hA]
  exact .mw id' z k c _ (by omega) p4 (λ_=>⟨_,rfl⟩) (by simp [Env.upd3]) (by simp [Env.upd3])
end
end Go.Proofs.YtfhoddcminbffaaGreatDoor
namespace Go.Proofs.YtfhoddcminbffaaGreatDoor
open Go.Proofs
set_option maxRecDepth 10000
attribute [local irreducible] aV aM Tri aI YVC dQ bN
theorem yA {α:Type}(eq:α->α->Bool): ∀(p:α) (l:List α) (k:Nat) (h:k < l.length),pW eq p (l.take (k+1))=if eq l[k] ((p::l)[k]'(by simp;omega))then pW eq p (l.take k)else pW eq p (l.take k)++[l[k]]
 |p,[],k,h=>by simp at h
 |p,b::r,0,_=>by simp [pW]
 |p,b::r,k+1,h=>by
  have ih:=yA eq b r k (by simpa using h)
  simp only [List.take_succ_cons,pW,List.getElem_cons_succ]at ih |-
  rw [ih]
  split<;>split<;>simp
theorem nE {α:Type}(eq:α->α->Bool) (l:List α) (k:Nat) (h:k+1 < l.length):oV eq (l.take (k+2))=if eq l[k+1] l[k]then oV eq (l.take (k+1))else oV eq (l.take (k+1))++[l[k+1]]:=by
 cases l with
 |nil=>simp at h
 |cons a r=>
  have:=yA eq a r k (by simpa using h)
  simp only [List.take_succ_cons,oV,List.getElem_cons_succ]
  rw [this]
  split<;>simp
theorem nF {α:Type}(eq:α->α->Bool) (l:List α):(oV eq l).length<=l.length:=by
 have: ∀(p:α) (l:List α),(pW eq p l).length<=l.length:=by
  intro p l
  induction l generalizing p with
  |nil=>simp [pW]
  |cons b r ih=>
   rw [pW]
   split
   ·have:=ih b;simp;omega
   ·have:=ih b;simp;omega
 cases l with
 |nil=>simp [oV]
 |cons a r=>have:=this a r;simp [oV];omega
theorem kW {α:Type}(eq:α->α->Bool) (l:List α) (h:l.length < 2):oV eq l=l:=by
 match l,h with
 | [],_=>rfl
 | [a],_=>rfl
theorem kT {l:List D}(h:l.all zZ=true): ∀n∈l,zZ n=true:= λn hn=>List.all_eq_true.1 h n hn
theorem mC {α:Type}{q:List α}{m:Nat}(x:α) (h:m < q.length):(q.set m x).take (m+1)=q.take m++[x]:=by
 rw [List.take_succ_eq_append_getElem (by rw [List.length_set];exact h),List.take_set,List.set_eq_of_length_le (by rw [List.length_take];omega),List.getElem_set_self]
theorem dP {α:Type}{q l:List α}{m j:Nat}(h:q.drop m=l.drop m) (hq:q.length=l.length) (hj:m<=j) (hl:j < l.length):q[j]'(hq ▸ hl)=l[j]:=by
 have h1:(q.drop m)[j - m]? =(l.drop m)[j - m]? :=by rw [h]
 rw [List.getElem?_drop,List.getElem?_drop,show m+(j - m)=j by omega,List.getElem?_eq_getElem hl,List.getElem?_eq_getElem (hq ▸ hl)]at h1
 injection h1
theorem pD (g:FuncId) (hcall:cY Tryz.prog g=true) (l:List Cn) (hlen:l.length<=1000000) (hg: ∀a∈l,∀b∈l,Tri Tryz.prog g [.d (.agg (grR a)), .d (.agg (grR b))] [] (λr=>r= .d (.bool (uF a b))))
  (cap n:Nat) (hn:n=l.length) (hp0:Hp) {pin:List Nat} {fr:Fr} {K:SV->Hp->Prop} (hp1: ∀k,100<=k->k∉pin) (hf: ∀k,100<=k->k∉fN fr) (hh: ∀k,100<=k->k∉iL hp0) (hno:bB hp0 70=none) (hsub: ∀o,yX hp0 ((70,o)::hp0))
  (hk: ∀cap',K (.mw 170 7 (oV uF l).length) ((170, .mrow 152 7 cap' ((oV uF l).map grR))::hp0)):
  aM Tryz.prog pin fr ((70, .mrow 152 7 cap (l.map grR))::hp0) 164 [.mw 70 7 n, .fn g [] []] K:=by
 subst hn
 have fin: ∀(rows:List (List D)) (s:SV) (k:Nat),(s= .ms 70 7 0 k l.length\/(s= .mw 70 7 l.length/\k=l.length))->l.length=rows.length->k=(oV uF l).length->rows.take k=(oV uF l).map grR->PartP pin fr K 170 s ((70, .mrow 152 7 cap rows)::hp0):=by
  intro rows s k h1 h2 h3 h4
  refine⟨70,_,7,cap,k,l.length,rows,hp0,h1,rfl,h2,by rw [h3];exact nF _ _,⟨hp1 _ (by decide),hf _ (by decide),aIg (by decide) rfl hh _ (by decide)⟩,hsub _,hno,λcap'=> ?_⟩
  rw [h3]at h4 |-
  rw [h4]
  exact hk cap'
 refine aM.closeP 170 ?_
 refine bX false [] hty Tryz.func164 rfl (kp [0,1,4,5,6,7,10,15,28,35,49]) 200 (by simp [Tryz.f164]) ?_
 ((conv=>whnf);repeat' ((first|(intro hq;(try simp only [lnS]at hq);(try rewrite [List.length_map]))|refine sJ ?_|refine .intro _ (.intro rfl ?_)|refine exL (k:= ?_)|refine dwR ?_|((first|refine aD ?_ ?_|refine aF ?_ ?_)<;>intro hb<;>(first|exact ddX hb|try simp only [lnS]at hb))|(refine aC ?_ ?_<;>intro hb<;>try exact dsX hb))<;>(conv=>whnf)))
 ·have hd:oV uF l=l:=kW _ _ (by omega)
  exact fin _ _ l.length (.inr ⟨rfl,rfl⟩) (List.length_map ..).symm (by rw [hd]) (by rw [hd,List.take_of_length_le (by rw [List.length_map];exact Nat.le_refl _)])
 ·refine dE hty (λk:Nat=>([(0, .mw 70 7 l.length),(1, .fn g [] []),(5, .d (.int .i64 k))],(70, .mrow 152 7 cap (l.map grR))::hp0)) (λk=>(1<=k/\k<=l.length)/\oV uF (l.take k)=l.take k) (λk=>l.length - k) 1 ⟨by omega,kW _ _ (by rw [List.length_take];omega)⟩ (by repeat' (first|exact trivial|exact rfl|refine And.intro ?_ ?_)) rfl ?_
  rintro k ⟨⟨hk1,hkl⟩,hd⟩
  ((conv=>whnf);repeat ((first|(intro hq;try simp only [lnS]at hq)|refine sI ?_|refine .intro _ (.intro rfl ?_));(conv=>whnf)))
  refine aD (λh1=> ?_) (λh1=> ?_)
  ·have hkl':k < l.length:=by omega
   have hkp:k - 1 < l.length:=by omega
   have hrow1:(l.map grR)[(k:Int).toNat]? =some (grR l[k]):=aS hkl'
   have hrow2:(l.map grR)[((k:Int) - 1).toNat]? =some (grR l[k - 1]):=by
    rw [show ((k:Int) - 1).toNat=k - 1 by omega,List.getElem?_map,List.getElem?_eq_getElem hkp];rfl
   have hgg:=hg l[k] (List.getElem_mem hkl') l[k - 1] (List.getElem_mem hkp)
   rw [cJ]at hrow1 hrow2
   rw [cJ,cJ]at hgg
   have hdt:=nE uF l (k - 1) (by omega)
   simp only [show k - 1+1=k by omega,show k - 1+2=k+1 by omega]at hdt
   ((conv=>whnf);repeat ((first|(intro hq;try simp only [lnS]at hq)|refine sI ?_|refine .intro _ (.intro rfl ?_));(conv=>whnf)))
   refine dwR ?_
   ((conv=>whnf);repeat ((first|(refine And.intro (List.length_map ..).symm ?_)|(refine⟨_,hrow1, ?_⟩)|(refine⟨_,hrow2, ?_⟩)|(refine⟨hcall, .d (.bool _),_,[],rfl,trivial,hgg, ?_⟩)|(intro hq;try simp only [lnS]at hq)|refine sI ?_|refine .intro _ (.intro rfl ?_));(conv=>whnf)))
   cases hb:uF l[k] l[k - 1]
   ·((conv=>whnf);repeat' ((first|(intro hq;(try simp only [lnS]at hq);(try rewrite [List.length_map]))|refine sJ ?_|refine .intro _ (.intro rfl ?_)|refine exL (k:= ?_)|refine dwR ?_|((first|refine aD ?_ ?_|refine aF ?_ ?_)<;>intro hb<;>(first|exact ddX hb|try simp only [lnS]at hb))|(refine aC ?_ ?_<;>intro hb<;>try exact dsX hb))<;>(conv=>whnf)))
    rw [hb,if_neg (by decide),hd]at hdt
    exact⟨k+1,⟨⟨by omega,by omega⟩,by rw [hdt];exact(List.take_succ_eq_append_getElem hkl').symm⟩,by dsimp only;omega,by repeat' (first|exact trivial|exact rfl|refine And.intro ?_ ?_),rfl⟩
   ·rw [hb,if_pos rfl,hd]at hdt
    ((conv=>whnf);repeat ((first|(refine kN hty rfl rfl rfl rfl rfl rfl ?_)|(intro hq;try simp only [lnS]at hq)|refine sI ?_|refine .intro _ (.intro rfl ?_));(conv=>whnf)))
    rw [show ((k:Int)).toNat=k from rfl]
    refine dE hty (λy:Nat×Nat×List Cn=>([(0, .mw 70 7 l.length),(1, .fn g [] []),(5, .d (.int .i64 y.2.1)),(6, .ms 70 7 k (l.length - k) l.length),(7, .d (.int .i64 y.1))],(70, .mrow 152 7 cap (y.2.2.map grR))::hp0))
     (λy=>(1<=y.1/\y.1<=l.length - k)/\y.2.2.length=l.length/\(y.2.1+1<=k+y.1/\1<=y.2.1)/\y.2.2.take y.2.1=oV uF (l.take (k+y.1))/\y.2.2.drop (k+y.1 - 1)=l.drop (k+y.1 - 1)) (λy=>l.length - k - y.1) (1,k,l) ⟨by dsimp only;omega,rfl,by dsimp only;omega,hdt.symm,rfl⟩ (by repeat' (first|exact trivial|exact rfl|refine And.intro ?_ ?_)) rfl ?_
    rintro⟨k2,m,q⟩ ⟨⟨hk21,hk2l⟩,hql,⟨hm1,hm0⟩,ht,hdr⟩
    dsimp only at hk21 hk2l hql hm1 hm0 ht hdr
    ((conv=>whnf);repeat ((first|(refine aB1 hty rfl rfl rfl ?_)|(intro hq;try simp only [lnS]at hq)|refine sI ?_|refine .intro _ (.intro rfl ?_));(conv=>whnf)))
    refine aD (λh2=> ?_) (λh2=> ?_)
    ·have hA:k+k2 < l.length:=by dsimp only at h2;omega
     have hB:k+k2 - 1 < l.length:=by omega
     have hml:m < q.length:=by omega
     have eA:q[k+k2]'(hql ▸ hA)=l[k+k2]:=dP hdr hql (by omega) hA
     have eB:q[k+k2 - 1]'(hql ▸ hB)=l[k+k2 - 1]:=dP hdr hql (by omega) hB
     have hrowA:(q.map grR)[k+(k2:Int).toNat]? =some (grR l[k+k2]):=by
      rw [Int.toNat_natCast,List.getElem?_map,List.getElem?_eq_getElem (hql ▸ hA),eA];rfl
     have hrowB:(q.map grR)[k+((k2:Int) - 1).toNat]? =some (grR l[k+k2 - 1]):=by
      rw [show k+((k2:Int) - 1).toNat=k+k2 - 1 by omega,List.getElem?_map,List.getElem?_eq_getElem (hql ▸ hB),eB];rfl
     have hrowM:(q.map grR)[(m:Int).toNat]? =some (grR q[m]):=aS hml
     have hgg2:=hg l[k+k2] (List.getElem_mem hA) l[k+k2 - 1] (List.getElem_mem hB)
     have hgA:=cJ l[k+k2]
     rw [cJ]at hrowA hrowB hrowM
     rw [cJ,cJ]at hgg2
     have hdt2:=nE uF l (k+k2 - 1) (by omega)
     simp only [show k+k2 - 1+1=k+k2 by omega,show k+k2 - 1+2=k+(k2+1)by omega]at hdt2
     have hlq:l.length=(q.map grR).length:=by rw [List.length_map,hql]
     have hdr2:q.drop (k+k2)=l.drop (k+k2):=by
      have:=congrArg (List.drop 1) hdr
      rw [List.drop_drop,List.drop_drop,show k+k2 - 1+1=k+k2 by omega]at this
      exact this
     ((conv=>whnf);repeat ((first|(intro hq;try simp only [lnS]at hq)|refine sI ?_|refine .intro _ (.intro rfl ?_));(conv=>whnf)))
     refine dwR ?_
     ((conv=>whnf);repeat ((first|(refine And.intro hlq ?_)|(refine⟨_,hrowA, ?_⟩)|(refine⟨_,hrowB, ?_⟩)|(refine⟨hcall, .d (.bool _),_,[],rfl,trivial,hgg2, ?_⟩)|(intro hq;try simp only [lnS]at hq)|refine sI ?_|refine .intro _ (.intro rfl ?_));(conv=>whnf)))
     cases hb2:uF l[k+k2] l[k+k2 - 1]
     ·((conv=>whnf);repeat' ((first|(intro hq;(try simp only [lnS]at hq);(try rewrite [List.length_map]))|refine sJ ?_|refine .intro _ (.intro rfl ?_)|refine exL (k:= ?_)|(refine And.intro hlq ?_)|(refine⟨_,hrowA, ?_⟩)|(refine⟨_,hrowM, ?_⟩)|(refine And.intro (kT rfl) ?_)|refine dwR ?_|((first|refine aD ?_ ?_|refine aF ?_ ?_)<;>intro hb<;>(first|exact ddX hb|try simp only [lnS]at hb))|(refine aC ?_ ?_<;>intro hb<;>try exact dsX hb))<;>(conv=>whnf)))
      rw [hb2,if_neg (by decide),<-ht]at hdt2
      refine⟨(k2+1,m+1,q.set m l[k+k2]),⟨by dsimp only;omega,by dsimp only;rw [List.length_set];exact hql,by dsimp only;omega, ?_, ?_⟩,by dsimp only;omega,by repeat' (first|exact trivial|exact rfl|refine And.intro ?_ ?_), ?_⟩
      ·dsimp only
       rw [hdt2]
       exact mC _ hml
      ·dsimp only
       rw [show k+(k2+1) - 1=k+k2 by omega,List.drop_set_of_lt (by omega)]
       exact hdr2
      ·dsimp only
       rw [List.map_set,hgA]
       rfl
     ·((conv=>whnf);repeat' ((first|(intro hq;(try simp only [lnS]at hq);(try rewrite [List.length_map]))|refine sJ ?_|refine .intro _ (.intro rfl ?_)|refine exL (k:= ?_)|refine dwR ?_|((first|refine aD ?_ ?_|refine aF ?_ ?_)<;>intro hb<;>(first|exact ddX hb|try simp only [lnS]at hb))|(refine aC ?_ ?_<;>intro hb<;>try exact dsX hb))<;>(conv=>whnf)))
      rw [hb2,if_pos rfl]at hdt2
      exact⟨(k2+1,m,q),⟨by dsimp only;omega,hql,by dsimp only;omega,by dsimp only;rw [hdt2];exact ht,by dsimp only;rw [show k+(k2+1) - 1=k+k2 by omega];exact hdr2⟩,by dsimp only;omega,by repeat' (first|exact trivial|exact rfl|refine And.intro ?_ ?_),rfl⟩
    ·have hke:k+k2=l.length:=by dsimp only at h2;omega
     rw [hke,List.take_length]at ht
     have hlq:l.length=(q.map grR).length:=by rw [List.length_map,hql]
     have hmq:m+(l.length - m)=(q.map grR).length:=by rw [List.length_map,hql];omega
     have hml:=congrArg List.length ht
     rw [List.length_take,Nat.min_eq_left (by omega)]at hml
     ((conv=>whnf);repeat' ((first|(intro hq;(try simp only [lnS]at hq);(try rewrite [List.length_map]))|refine sJ ?_|refine .intro _ (.intro rfl ?_)|refine exL (k:= ?_)|(refine kN hty rfl rfl rfl rfl rfl rfl ?_)|(refine uO hty rfl rfl (by decide) rfl rfl rfl hlq hmq ?_)|refine dwR ?_|((first|refine aD ?_ ?_|refine aF ?_ ?_)<;>intro hb<;>(first|exact ddX hb|try simp only [lnS]at hb))|(refine aC ?_ ?_<;>intro hb<;>try exact dsX hb))<;>(conv=>whnf)))
     refine fin _ _ m (.inl rfl) ?_ hml ?_
     ·simp only [List.length_append,List.length_take,List.length_replicate,List.length_map]
      show l.length=min m q.length+(l.length - m)
      omega
     ·show ((q.map grR).take m++_).take m=_
      rw [List.take_append_of_le_length (by rw [List.length_take,List.length_map];omega),List.take_take,Nat.min_self,<-List.map_take,ht]
  ·have hkl':k=l.length:=by omega
   subst hkl'
   rw [List.take_length]at hd
   ((conv=>whnf);repeat' ((first|(intro hq;(try simp only [lnS]at hq);(try rewrite [List.length_map]))|refine sJ ?_|refine .intro _ (.intro rfl ?_)|refine exL (k:= ?_)|refine dwR ?_|((first|refine aD ?_ ?_|refine aF ?_ ?_)<;>intro hb<;>(first|exact ddX hb|try simp only [lnS]at hb))|(refine aC ?_ ?_<;>intro hb<;>try exact dsX hb))<;>(conv=>whnf)))
   exact fin _ _ l.length (.inr ⟨rfl,rfl⟩) (List.length_map ..).symm (by rw [hd]) (by rw [hd,List.take_of_length_le (by rw [List.length_map];exact Nat.le_refl _)])
end Go.Proofs.YtfhoddcminbffaaGreatDoor
