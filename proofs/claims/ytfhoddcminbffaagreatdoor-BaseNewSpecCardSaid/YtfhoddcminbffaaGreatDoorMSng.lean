/-
  Parts of rows that may be written: cut out, measured, cleared, and taken for the whole. Terms: slices.CompactFunc over trees. The library's sorts at rows that may be written.
  Conditions: none.
-/
import Derived.Test.YtfhoddcminbffaaGreatDoorMBp
import Derived.Test.YtfhoddcminbffaaGreatDoorMSna
import Derived.Shelf.SlSortCmp.NoneTotal
import Derived.Shelf.Sort.Plain
import Derived.Shelf.Slices.In.SortNone
import Derived.Sort.OwnSorted
set_option linter.unnecessarySimpa false
set_option linter.unusedSectionVars false
set_option linter.unusedSimpArgs false
set_option linter.unusedVariables false
set_option maxHeartbeats 16000000
namespace Go.Proofs.YtfhoddcminbffaaGreatDoor
open Go.RowKit
section
variable {P:Program}
theorem aP7 {n cap:Nat}{lo hi:Option SV}{lv hv:Option Value}{w:World}{ρ:Env}{K:Nat->Nat->Prop}(hc:n<=cap) (r1: ∀s,lo=some s-> ∃v,lv=some v/\Rep w ρ s v) (r1':lo=none->lv=none) (r2: ∀s,hi=some s-> ∃v,hv=some v/\Rep w ρ s v) (r2':hi=none->hv=none)
  (h:cut n lo hi none K): ∃a b,(∀w',(Instr.sliceBounds true n cap lv hv none).run P w'= .ok (a,b,cap) w')/\a<=b/\b<=n/\K a b:=by
 unfold cut at h
 cases lo with
 |none=>
  have:=r1' rfl;subst this
  cases hi with
  |none=>
   have:=r2' rfl;subst this
   exact⟨0,n,λw'=>by simp [Instr.sliceBounds],by omega,by omega,h⟩
  |some s=>
   obtain⟨v,rfl,hr⟩:=r2 s rfl
   dsimp only at h
   split at h
   ·rename_i hl heq;cases heq
   ·rename_i hl heq;cases hl
   ·rename_i k hh hl heq
    injection heq with heq;subst heq
    obtain⟨h0,h1,hk⟩:=h
    have e1:=hr.int_inv
    subst e1
    exact⟨0,hh.toNat,λw'=>by simp [Instr.sliceBounds,run_sliceBound,h0,show hh<=cap by omega],by omega,by omega,hk⟩
   ·rename_i hl heq;cases hl
   ·exact h.elim
 |some s=>
  obtain⟨v,rfl,hr⟩:=r1 s rfl
  cases hi with
  |none=>
   have:=r2' rfl;subst this
   dsimp only at h
   split at h
   ·rename_i hl heq;cases hl
   ·rename_i k l hl heq
    injection hl with hl;subst hl
    obtain⟨h0,h1,hk⟩:=h
    have e1:=hr.int_inv
    subst e1
    exact⟨l.toNat,n,λw'=>by simp [Instr.sliceBounds,run_sliceBound,h0,show l<=n by omega],by omega,by omega,hk⟩
   ·rename_i hl heq;cases heq
   ·rename_i hl heq;cases heq
   ·exact h.elim
  |some s2=>
   obtain⟨v2,rfl,hr2⟩:=r2 s2 rfl
   dsimp only at h
   split at h
   ·rename_i hl heq;cases hl
   ·rename_i hl heq;cases heq
   ·rename_i hl heq;cases hl
   ·rename_i k l k2 hh hl heq
    injection hl with hl;subst hl
    injection heq with heq;subst heq
    obtain⟨h0,h1,h2,hk⟩:=h
    have e1:=hr.int_inv
    have e2:=hr2.int_inv
    subst e1;subst e2
    exact ⟨l.toNat, hh.toNat, λw' => by
     have h3:l<=(hh.toNat:Int):=by omega
     simp only [Instr.sliceBounds,Sem.run_bind,Sem.run_pure,Result.andThen_ok,run_sliceBound (P:=P) w' k2 hh cap _ (show (0:Int)<=hh by omega) (show hh<=(cap:Int)by omega)]
     simp only [run_sliceBound (P:=P) w' k l hh.toNat _ h0 h3,Result.andThen_ok],by omega,by omega,hk⟩
   ·exact h.elim
theorem xY {ti:TypeId->Option TI}(hti:fD P ti) {o:Oper}{t e:TypeId}{T:TI}{x:Operand}{lo hi:Option Operand}(ho:o.op= .slice t x lo hi none) (hT:slT ti t=some (e,T)) {fr:Fr}{hp:Hp}{K:SV->Prop}
  {id z n:Nat} (hx:evO fr x=some (.mw id z n)) (hz:T.size=z) {l h:Option SV} (hl:wC fr lo=some l) (hh:wC fr hi=some h) (hk:cut n l h none λa b=>K (.ms id z a (b - a) n)):dI P o fr hp K:=by
 intro E ρ a w hm hf
 obtain⟨A,c,e1,hnc,hcm,hA,h1,h2⟩:=(aV hf hx).mw_inv
 obtain⟨q1,q1'⟩:=qD hf hl
 obtain⟨q2,q2'⟩:=qD hf hh
 obtain⟨a',b',hrun,hab,hbn,hk⟩:=aP7 (P:=P) hnc q1 q1' q2 q2' hk
 refine⟨_,_,λw' _=>aLl hti ho hT (a':=a') (b:=b') (m':=c) e1 (hrun w'), ?_,hk⟩
 refine .ms id z a' (b' - a') n (c - a') _ (by omega) (by omega) ?_ h1 ?_
 ·intro hne
  obtain⟨g,rfl⟩:=hA (by omega)
  split
  ·exact⟨_,rfl⟩
  ·exact⟨_,rfl⟩
 ·intro he
  have h2':=h2 he
  rw [<-h2',e1]
  refine⟨A,n,c,rfl,by omega,hnc,hA,_,rfl,λhc=> ?_⟩
  rw [if_neg (by omega),hz]
theorem aPu {ti:TypeId->Option TI}(hti:fD P ti) {o:Oper}{t e:TypeId}{T:TI}{x:Operand}(ho:o.op= .call { callee:= .builtin .len,args:= #[x],argTypes:= #[t] }) (hT:slT ti t=some (e,T)) {fr:Fr}{hp:Hp}{K:SV->Prop}
  {id z lo n ver:Nat} (hx:evO fr x=some (.ms id z lo n ver)) (hk:K (.d (.int .i64 n))):dI P o fr hp K:=by
 intro E ρ a w hm hf
 obtain⟨hu,dd,i,z',hT2⟩:=aLm hti hT
 obtain⟨A,c,e1,_⟩:=(aV hf hx).ms_inv
 refine⟨_,_,λw' _=> ?_, .d _ _ (.int _ _),hk⟩
 simp [aR ho,builtin,Builtin.len_,run_underlying hu,e1,goInt]
theorem Flat.take_ {w:World}{S:Nat->Nat->Prop}{z:Nat}{rows:List (List D)}{vs:List Value}(h:Flat w S z rows vs) (k:Nat):Flat w S z (rows.take k) (vs.take (k * z)):=by
 refine⟨?_,λrow hr=>h.hz row (List.mem_of_mem_take hr),λv hv=>h.one v (List.mem_of_mem_take hv), ?_⟩
 ·rw [List.length_take,List.length_take,h.len]
  rcases Nat.le_total k rows.length with hk|hk
  ·rw [Nat.min_eq_left hk,Nat.min_eq_left (Nat.mul_le_mul_right _ hk)]
  ·rw [Nat.min_eq_right hk,Nat.min_eq_right (Nat.mul_le_mul_right _ hk)]
 ·intro i row j x h1 h2
  rw [List.getElem?_take]at h1
  split at h1
  ·rename_i hik
   obtain⟨v,v1,v2⟩:=h.at_ i row j x h1 h2
   have hrow:=(yF h.hz h1 h2).2.1
   have:=iM hrow hik
   exact⟨v,by rw [List.getElem?_take,if_pos this];exact v1,v2⟩
  ·cases h1
theorem aKj {ti:TypeId->Option TI}(hti:fD P ti) {o:Oper}{t e:TypeId}{T:TI}{x:Operand}(ho:o.op= .call { callee:= .builtin .clear,args:= #[x],argTypes:= #[t] }) (hT:slT ti t=some (e,T)) (hpos:0 < T.size) {pin:List Nat}{fr:Fr}{hp:Hp}{K:SV->Hp->Prop}
  {id z lo n ver e' cap:Nat} {rows:List (List D)} (hx:evO fr x=some (.ms id z lo n ver)) (hg:aU hp id=some (.mrow e' z cap rows)) (hz:T.size=z) (hver:ver=rows.length) (hlo:lo+n=rows.length)
  (hk:K (.tup []) (hY hp id (.mrow e' z cap (rows.take lo++List.replicate n T.zero)))):bI P o pin fr hp K:=by
 intro E ρ a w hpin hm hf next Q hn
 obtain⟨hu,dd,ii,z',hT2⟩:=aLm hti hT
 obtain⟨A,c,e1,k1,k2,k3,k4,k5⟩:=(aV hf hx).ms_inv
 obtain⟨n0,m0⟩:=hm.sat id _ hg
 rcases Nat.eq_zero_or_pos n with hn0|hn0
 · -- nothing to clear
  subst hn0
  have hrun:(execOp a.eval o).run P w= .ok (.value (.tuple #[])) w:=by
   rcases A with _|A<;>simp [aR ho,builtin,Builtin.clear_,run_underlying hu,e1]
  have hrows:rows.take lo++List.replicate 0 T.zero=rows:=by rw [List.replicate_zero,List.append_nil,List.take_of_length_le (by omega)]
  rw [hrows]at hk
  obtain⟨s1,s2,s3⟩:=hm.setMrow hg (w':=w) (cap':=cap) (rows':=rows) (v':=ρ.tv id) rfl rfl (.refl _) (Nat.le_refl _) (λ_ _ _=>rfl) m0 (λg hg=> .inl hg) (.inl ⟨rfl,rfl⟩)
  exact cD hrun (hn _ _ _ _ _ hk s1 (hf.mono s2 (λ_ _ x=>x) λi _=>s3 i) (.tup [] _ rfl (by simp)))
 ·have hver':ver=ρ.n id:=by rw [hver];exact n0.symm
  obtain⟨A0,len0,cap0,q1,q2,q3,q4,A',q5,q6⟩:=k5 hver'
  rcases m0 with⟨hr0,_,_⟩|⟨hc,g,cur,p1,p2,p3,p4,p5,p6,p7⟩
  ·rw [hr0]at hlo;simp at hlo;omega
  ·rw [p1]at q1
   injection q1 with q1 q1' q1''
   subst q1;subst q1';subst q1''
   have hA':A=some ⟨g,lo * z,none⟩:=by
    rw [e1]at q5
    injection q5 with q5 _ _
    rw [q5,q6 (by omega)]
    simp [eD]
   have hlen:rows.length * z<=cur.size:=by rw [p5];exact Nat.mul_le_mul_right _ p3
   have hzs:=tX hT2 w ρ.S n hpos
   obtain⟨vs,hvs⟩: ∃vs,vs=((Array.range (n * ii.size)).map (z'.cells[· % z'.cells.size]!)).toList:=⟨_,rfl⟩
   rw [<-hvs]at hzs
   have hvl:vs.length=n * z:=by rw [hzs.len,List.length_replicate,hz]
   have hbound:lo * z+vs.length<=cur.size:=by rw [hvl,<-Nat.add_mul,hlo];exact hlen
   have hrun:(execOp a.eval o).run P w= .ok (.value (.tuple #[])) (w.setRow g (cur.toList.take (lo * z)++vs++cur.toList.drop (lo * z+vs.length)).toArray):=by
    have hst:=run_storeCells_at (P:=P) g (lo * z) e' vs 0 cur w p2 (by omega) hzs.one
    obtain⟨n',rfl⟩: ∃n',n=n'+1:=⟨n - 1,by omega⟩
    have hzv:(zeroValue e).run P w= .ok z' w:=by simp [zeroValue,typeInfo,hT2.info,hT2.zero]
    have e2:(Builtin.zeroCells z'.cells (n'+1)).toList=vs:=by rw [hvs,Builtin.zeroCells,hT2.cells]
    simp only [aR ho,builtin,Builtin.clear_,e1,hA',Sem.run_bind,List.getElem?_toArray,List.map_toArray,List.map_cons,List.map_nil,List.getElem?_cons_zero,run_underlying hu,Result.andThen_ok,hzv,Sem.run_pure,e2]
    simp only [Nat.add_zero]at hst
    rw [hst]
    rfl
   have hkeep:bY ρ.S w (w.setRow g (cur.toList.take (lo * z)++vs++cur.toList.drop (lo * z+vs.length)).toArray):= λb i hb=>World.cell?_of_block (w:=w) (setRow_other w g b _ (λe=>p7 i (e ▸ hb)))
   have hrl:(rows.take lo++List.replicate n T.zero).length=rows.length:=by simp;omega
   have hmut:fZ (w.setRow g (cur.toList.take (lo * z)++vs++cur.toList.drop (lo * z+vs.length)).toArray) ρ.S e' z cap (rows.take lo++List.replicate n T.zero) (ρ.tv id):=by
    refine .inr ⟨hc,g,_,by rw [p1,hrl],setRow_heap _ _ _ _ _ _ p2,by omega,p4, ?_, ?_,p7⟩
    ·simp only [List.size_toArray,List.length_append,List.length_take,List.length_drop,Array.length_toList]
     omega
    ·have h1:=(p6.take_ lo).mono hkeep λ_ _ x=>x
     have h2:Flat (w.setRow g (cur.toList.take (lo * z)++vs++cur.toList.drop (lo * z+vs.length)).toArray) ρ.S z (List.replicate n T.zero) vs:=(hz ▸ hzs).mono hkeep λ_ _ x=>x
     have h3:=h1.append h2
     have e3:((cur.toList.take (lo * z)++vs++cur.toList.drop (lo * z+vs.length)).toArray.toList.take ((rows.take lo++List.replicate n T.zero).length * z))=(cur.toList.take (rows.length * z)).take (lo * z)++vs:=by
      have hle:lo * z<=rows.length * z:=Nat.mul_le_mul_right _ (by omega)
      have e4:rows.length * z=(cur.toList.take (lo * z)++vs).length:=by
       have hlz:lo * z<=cur.toList.length:=by rw [Array.length_toList];omega
       rw [List.length_append,List.length_take,hvl,Nat.min_eq_left hlz,<-Nat.add_mul,hlo]
      rw [hrl,List.take_take,Nat.min_eq_left hle]
      show (cur.toList.take (lo * z)++vs++cur.toList.drop (lo * z+vs.length)).take (rows.length * z)=_
      rw [e4]
      exact List.take_left' rfl
     rw [e3]
     exact h3
   obtain⟨s1,s2,s3⟩:=hm.setMrow hg (w':=w.setRow g (cur.toList.take (lo * z)++vs++cur.toList.drop (lo * z+vs.length)).toArray) (cap':=cap) (v':=ρ.tv id) rfl rfl ⟨rfl,Nat.le_refl _⟩ (by simp [World.setRow])
    (λb _ hb=>setRow_other w g b _ (λe=>hb (by rw [p1,e];have:cap≠0:=(by omega);simp [fM,this]))) hmut (λg hg=> .inl hg) (.inl ⟨hrl,rfl⟩)
   exact cD hrun (hn _ _ _ _ _ hk s1 (hf.mono s2 (λ_ _ x=>x) λi _=>s3 i) (.tup [] _ rfl (by simp)))
theorem aS2 {w:World}{ρ:Env}{id e z cap n:Nat}{rows:List (List D)}{v:Value}(ho:aOg w ρ id (.mrow e z cap rows)) (hn:n=rows.length) (hr:Rep w ρ (.mw id z n) v):Rep w ρ (.ms id z 0 n n) v:=by
 obtain⟨A,c,e1,k1,k2,k3,k4,k5⟩:=hr.mw_inv
 obtain⟨n0,m0⟩:=ho
 subst e1
 refine .ms id z 0 n n c A k1 k2 (λh=>(k3 h).elim λg hg=>⟨_,hg⟩) k4 λhv=> ?_
 have h5:=k5 hv
 rw [<-h5]
 refine⟨A,n,c,rfl,by omega,k1,k3,A,rfl,λhc=> ?_⟩
 rcases m0 with⟨hr0,hc0,A1,hA1⟩|⟨hc,g,cur,p1,p2,p3,p4,p5,p6,p7⟩
 ·rw [hA1]at h5
  injection h5 with _ _ h5
  omega
 ·rw [p1]at h5
  injection h5 with h5 _ _
  subst h5
  simp [eD]
structure PartP (pin:List Nat) (fr:Fr) (K:SV->Hp->Prop) (id':Nat) (s:SV) (hp:Hp):Prop where
 ex: ∃(id e z cap k n:Nat) (rows:List (List D)) (hp':Hp),(s= .ms id z 0 k n\/(s= .mw id z n/\k=n))/\aU hp id=some (.mrow e z cap rows)/\n=rows.length/\k<=n/\fX id' pin fr hp/\kE hp' hp/\aU hp' id=none/\
  ∀cap',K (.mw id' z k) ((id', .mrow e z cap' (rows.take k))::hp')
theorem aJ.closeP {pin:List Nat}{fr:Fr}{hp:Hp}{f:FuncId}{asv:List SV}{K:SV->Hp->Prop}(id':Nat) (h:aJ P pin fr hp f asv (PartP pin fr K id')):aJ P pin fr hp f asv K:=by
 intro E ρ0 w0 tm hpin h30 h40 vs hargs
 refine(h E ρ0 w0 tm hpin h30 h40 vs hargs).mono ?_
 rintro e0 w ⟨v,ρ,s,hp1,rfl,⟨id,e,z,cap,k,n,rows,hp',hs,ho,hn,hkn,⟨f1,f2,f3⟩,hsub,hno,hk⟩,h3,h4,hr⟩
 have hr:Rep w ρ (.ms id z 0 k n) v:=by
  rcases hs with rfl|⟨rfl,rfl⟩
  ·exact hr
  ·exact aS2 (h3.sat id _ ho) hn hr
 obtain⟨n0,m0⟩:=h3.sat id _ ho
 obtain⟨A,c,e1,k1,k2,k3,k4,k5⟩:=hr.ms_inv
 obtain⟨A0,len0,cap0,q1,q2,q3,q4,A',q5,q6⟩:=k5 (by omega)
 have hm':=h3.sub (hp':=hp') λi o hio=>iO _ _ hsub i o hio
 rw [e1]at q5
 injection q5 with q5 q5' q5''
 subst q5
 rcases m0 with⟨hr0,hc0,A1,hA1⟩|⟨hc,g,cur,p1,p2,p3,p4,p5,p6,p7⟩
 ·subst hr0
  have hk0:k=0:=by simp at hn;omega
  subst hk0
  rw [hA1]at q1
  injection q1 with q1 q1' q1''
  subst q1;subst q1';subst q1''
  simp at q5''
  subst q5''
  obtain⟨s1,s2,s3⟩:=hm'.newObj (id:=id') (b:=ρ.blk id') (n:=0) (v:= .slice A 0 0) (o:= .mrow e z 0 []) (aAe hsub f3) (by rw [hpin];exact f1) (Grew.refl w) (λh=>h)
   ⟨by simp [Env.upd3], .inl ⟨rfl,rfl,A,by simp [Env.upd3]⟩⟩
   (λg' hg'=>by simp [Env.at,Env.upd3,fM]at hg';cases A<;>simp at hg')
  refine⟨v,_,_,_,rfl,hk 0,s1,h4.mono s2 (λ_ _ x=>x) λi hi=>s3 i λe=>f2 (e ▸ hi), ?_⟩
  rw [e1]
  exact .mw id' z 0 0 _ (by omega) (by simp) (λh=>absurd rfl h) (by simp [Env.upd3]) (by simp [Env.upd3])
 ·rw [p1]at q1
  injection q1 with q1 q1' q1''
  subst q1;subst q1';subst q1''
  have hat:ρ.at id (.mrow e z cap rows)=some g:=by
   simp only [Env.at];rw [p1];have:cap≠0:=by omega
   simp [fM,this]
  have hfree:=h3.free_del ho hat hsub hno
  have hA:A=some ⟨g,0,none⟩:=by
   rw [q6 (by omega)]
   simp [eD]
  have hcc:c=cap:=by omega
  subst hcc
  have hkl:(rows.take k).length=k:=by rw [List.length_take];omega
  have hmut:fZ w ρ.S e z c (rows.take k) (.slice (some ⟨g,0,none⟩) k c):=by
   refine .inr ⟨hc,g,cur,by rw [hkl],p2,by omega,p4,p5, ?_,p7⟩
   have:=p6.take_ k
   rw [List.take_take,Nat.min_eq_left (Nat.mul_le_mul_right _ (by omega))]at this
   rw [hkl]
   exact this
  obtain⟨s1,s2,s3⟩:=hm'.newObj (id:=id') (b:=ρ.blk id') (n:=k) (v:= .slice (some ⟨g,0,none⟩) k c) (o:= .mrow e z c (rows.take k)) (aAe hsub f3) (by rw [hpin];exact f1) (Grew.refl w) (λh=>h)
   ⟨by simp [Env.upd3,hkl],by simp only [Env.upd3,if_true];exact hmut⟩
   (λg' hg' => by
    have hc0:c≠0:=by omega
    simp only [Env.at,Env.upd3,if_true,fM,hc0,if_false,Option.some.injEq]at hg'
    subst hg';exact hfree)
  refine⟨v,_,_,_,rfl,hk c,s1,h4.mono s2 (λ_ _ x=>x) λi hi=>s3 i λe=>f2 (e ▸ hi), ?_⟩
  rw [e1,hA]
  exact .mw id' z k c _ (by omega) p4 (λ_=>⟨_,rfl⟩) (by simp [Env.upd3]) (by simp [Env.upd3])
end
end Go.Proofs.YtfhoddcminbffaaGreatDoor
namespace Go.Proofs.YtfhoddcminbffaaGreatDoor
open Go.Proofs
set_option maxRecDepth 10000
attribute [local irreducible] aM aJ Tri aH YVC dI bI
theorem aDl {α:Type}(eq:α->α->Bool): ∀(p:α) (l:List α) (k:Nat) (h:k < l.length),aEc eq p (l.take (k+1))=if eq l[k] ((p::l)[k]'(by simp;omega))then aEc eq p (l.take k)else aEc eq p (l.take k)++[l[k]]
 |p,[],k,h=>by simp at h
 |p,b::r,0,_=>by simp [aEc]
 |p,b::r,k+1,h=>by
  have ih:=aDl eq b r k (by simpa using h)
  simp only [List.take_succ_cons,aEc,List.getElem_cons_succ]at ih |-
  rw [ih]
  split<;>split<;>simp
theorem aDn {α:Type}(eq:α->α->Bool) (l:List α) (k:Nat) (h:k+1 < l.length):aDo eq (l.take (k+2))=if eq l[k+1] l[k]then aDo eq (l.take (k+1))else aDo eq (l.take (k+1))++[l[k+1]]:=by
 cases l with
 |nil=>simp at h
 |cons a r=>
  have:=aDl eq a r k (by simpa using h)
  simp only [List.take_succ_cons,aDo,List.getElem_cons_succ]
  rw [this]
  split<;>simp
theorem aI2 {α:Type}(eq:α->α->Bool) (l:List α):(aDo eq l).length<=l.length:=by
 have: ∀(p:α) (l:List α),(aEc eq p l).length<=l.length:=by
  intro p l
  induction l generalizing p with
  |nil=>simp [aEc]
  |cons b r ih=>
   rw [aEc]
   split
   ·have:=ih b;simp;omega
   ·have:=ih b;simp;omega
 cases l with
 |nil=>simp [aDo]
 |cons a r=>have:=this a r;simp [aDo];omega
theorem zQ {α:Type}(eq:α->α->Bool) (l:List α) (h:l.length < 2):aDo eq l=l:=by
 match l,h with
 | [],_=>rfl
 | [a],_=>rfl
theorem pT {l:List D}(h:l.all aFj=true): ∀n∈l,aFj n=true:= λn hn=>List.all_eq_true.1 h n hn
theorem aAb {α:Type}{q:List α}{m:Nat}(x:α) (h:m < q.length):(q.set m x).take (m+1)=q.take m++[x]:=by
 rw [List.take_succ_eq_append_getElem (by rw [List.length_set];exact h),List.take_set,List.set_eq_of_length_le (by rw [List.length_take];omega),List.getElem_set_self]
theorem kN {α:Type}{q l:List α}{m j:Nat}(h:q.drop m=l.drop m) (hq:q.length=l.length) (hj:m<=j) (hl:j < l.length):q[j]'(hq ▸ hl)=l[j]:=by
 have h1:(q.drop m)[j - m]? =(l.drop m)[j - m]? :=by rw [h]
 rw [List.getElem?_drop,List.getElem?_drop,show m+(j - m)=j by omega,List.getElem?_eq_getElem hl,List.getElem?_eq_getElem (hq ▸ hl)]at h1
 injection h1
theorem sZ (g:FuncId) (hcall:dV Tryz.prog g=true) (l:List Cn) (hlen:l.length<=1000000) (hg: ∀a∈l,∀b∈l,Tri Tryz.prog g [.d (.agg (grR a)), .d (.agg (grR b))] [] (λr=>r= .d (.bool (zM a b))))
  (cap n:Nat) (hn:n=l.length) (hp0:Hp) {pin:List Nat} {fr:Fr} {K:SV->Hp->Prop} (hp1: ∀k,100<=k->k∉pin) (hf: ∀k,100<=k->k∉fV fr) (hh: ∀k,100<=k->k∉gG hp0) (hno:aU hp0 70=none) (hsub: ∀o,kE hp0 ((70,o)::hp0))
  (hk: ∀cap',K (.mw 170 7 (aDo zM l).length) ((170, .mrow 152 7 cap' ((aDo zM l).map grR))::hp0)):
  aJ Tryz.prog pin fr ((70, .mrow 152 7 cap (l.map grR))::hp0) 164 [.mw 70 7 n, .fn g [] []] K:=by
 subst hn
 have fin: ∀(rows:List (List D)) (s:SV) (k:Nat),(s= .ms 70 7 0 k l.length\/(s= .mw 70 7 l.length/\k=l.length))->l.length=rows.length->k=(aDo zM l).length->rows.take k=(aDo zM l).map grR->PartP pin fr K 170 s ((70, .mrow 152 7 cap rows)::hp0):=by
  intro rows s k h1 h2 h3 h4
  refine⟨70,_,7,cap,k,l.length,rows,hp0,h1,rfl,h2,by rw [h3];exact aI2 _ _,⟨hp1 _ (by decide),hf _ (by decide),aQe (by decide) rfl hh _ (by decide)⟩,hsub _,hno,λcap'=> ?_⟩
  rw [h3]at h4 |-
  rw [h4]
  exact hk cap'
 refine aJ.closeP 170 ?_
 refine bE false [] hty Tryz.func164 rfl (kp [0,1,4,5,6,7,10,15,28,35,49]) 200 (by simp [Tryz.f164]) ?_
 ((conv=>whnf);repeat' ((first|(intro hq;(try simp only [lnS]at hq);(try rewrite [List.length_map]))|refine sJ ?_|refine .intro _ (.intro rfl ?_)|refine exL (k:= ?_)|refine dwR ?_|((first|refine aB ?_ ?_|refine aC ?_ ?_)<;>intro hb<;>(first|exact ddX hb|try simp only [lnS]at hb))|(refine aA ?_ ?_<;>intro hb<;>try exact dsX hb))<;>(conv=>whnf)))
 ·have hd:aDo zM l=l:=zQ _ _ (by omega)
  exact fin _ _ l.length (.inr ⟨rfl,rfl⟩) (List.length_map ..).symm (by rw [hd]) (by rw [hd,List.take_of_length_le (by rw [List.length_map];exact Nat.le_refl _)])
 ·refine dE hty (λk:Nat=>([(0, .mw 70 7 l.length),(1, .fn g [] []),(5, .d (.int .i64 k))],(70, .mrow 152 7 cap (l.map grR))::hp0)) (λk=>(1<=k/\k<=l.length)/\aDo zM (l.take k)=l.take k) (λk=>l.length - k) 1 ⟨by omega,zQ _ _ (by rw [List.length_take];omega)⟩ (by repeat' (first|exact trivial|exact rfl|refine And.intro ?_ ?_)) rfl ?_
  rintro k ⟨⟨hk1,hkl⟩,hd⟩
  ((conv=>whnf);repeat ((first|(intro hq;try simp only [lnS]at hq)|refine sI ?_|refine .intro _ (.intro rfl ?_));(conv=>whnf)))
  refine aB (λh1=> ?_) (λh1=> ?_)
  ·have hkl':k < l.length:=by omega
   have hkp:k - 1 < l.length:=by omega
   have hrow1:(l.map grR)[(k:Int).toNat]? =some (grR l[k]):=bC hkl'
   have hrow2:(l.map grR)[((k:Int) - 1).toNat]? =some (grR l[k - 1]):=by
    rw [show ((k:Int) - 1).toNat=k - 1 by omega,List.getElem?_map,List.getElem?_eq_getElem hkp];rfl
   have hgg:=hg l[k] (List.getElem_mem hkl') l[k - 1] (List.getElem_mem hkp)
   rw [cY]at hrow1 hrow2
   rw [cY,cY]at hgg
   have hdt:=aDn zM l (k - 1) (by omega)
   simp only [show k - 1+1=k by omega,show k - 1+2=k+1 by omega]at hdt
   ((conv=>whnf);repeat ((first|(intro hq;try simp only [lnS]at hq)|refine sI ?_|refine .intro _ (.intro rfl ?_));(conv=>whnf)))
   refine dwR ?_
   ((conv=>whnf);repeat ((first|(refine And.intro (List.length_map ..).symm ?_)|(refine⟨_,hrow1, ?_⟩)|(refine⟨_,hrow2, ?_⟩)|(refine⟨hcall, .d (.bool _),_,[],rfl,trivial,hgg, ?_⟩)|(intro hq;try simp only [lnS]at hq)|refine sI ?_|refine .intro _ (.intro rfl ?_));(conv=>whnf)))
   cases hb:zM l[k] l[k - 1]
   ·((conv=>whnf);repeat' ((first|(intro hq;(try simp only [lnS]at hq);(try rewrite [List.length_map]))|refine sJ ?_|refine .intro _ (.intro rfl ?_)|refine exL (k:= ?_)|refine dwR ?_|((first|refine aB ?_ ?_|refine aC ?_ ?_)<;>intro hb<;>(first|exact ddX hb|try simp only [lnS]at hb))|(refine aA ?_ ?_<;>intro hb<;>try exact dsX hb))<;>(conv=>whnf)))
    rw [hb,if_neg (by decide),hd]at hdt
    exact⟨k+1,⟨⟨by omega,by omega⟩,by rw [hdt];exact(List.take_succ_eq_append_getElem hkl').symm⟩,by dsimp only;omega,by repeat' (first|exact trivial|exact rfl|refine And.intro ?_ ?_),rfl⟩
   ·rw [hb,if_pos rfl,hd]at hdt
    ((conv=>whnf);repeat ((first|(refine xY hty rfl rfl rfl rfl rfl rfl ?_)|(intro hq;try simp only [lnS]at hq)|refine sI ?_|refine .intro _ (.intro rfl ?_));(conv=>whnf)))
    rw [show ((k:Int)).toNat=k from rfl]
    refine dE hty (λy:Nat×Nat×List Cn=>([(0, .mw 70 7 l.length),(1, .fn g [] []),(5, .d (.int .i64 y.2.1)),(6, .ms 70 7 k (l.length - k) l.length),(7, .d (.int .i64 y.1))],(70, .mrow 152 7 cap (y.2.2.map grR))::hp0))
     (λy=>(1<=y.1/\y.1<=l.length - k)/\y.2.2.length=l.length/\(y.2.1+1<=k+y.1/\1<=y.2.1)/\y.2.2.take y.2.1=aDo zM (l.take (k+y.1))/\y.2.2.drop (k+y.1 - 1)=l.drop (k+y.1 - 1)) (λy=>l.length - k - y.1) (1,k,l) ⟨by dsimp only;omega,rfl,by dsimp only;omega,hdt.symm,rfl⟩ (by repeat' (first|exact trivial|exact rfl|refine And.intro ?_ ?_)) rfl ?_
    rintro⟨k2,m,q⟩ ⟨⟨hk21,hk2l⟩,hql,⟨hm1,hm0⟩,ht,hdr⟩
    dsimp only at hk21 hk2l hql hm1 hm0 ht hdr
    ((conv=>whnf);repeat ((first|(refine aPu hty rfl rfl rfl ?_)|(intro hq;try simp only [lnS]at hq)|refine sI ?_|refine .intro _ (.intro rfl ?_));(conv=>whnf)))
    refine aB (λh2=> ?_) (λh2=> ?_)
    ·have hA:k+k2 < l.length:=by dsimp only at h2;omega
     have hB:k+k2 - 1 < l.length:=by omega
     have hml:m < q.length:=by omega
     have eA:q[k+k2]'(hql ▸ hA)=l[k+k2]:=kN hdr hql (by omega) hA
     have eB:q[k+k2 - 1]'(hql ▸ hB)=l[k+k2 - 1]:=kN hdr hql (by omega) hB
     have hrowA:(q.map grR)[k+(k2:Int).toNat]? =some (grR l[k+k2]):=by
      rw [Int.toNat_natCast,List.getElem?_map,List.getElem?_eq_getElem (hql ▸ hA),eA];rfl
     have hrowB:(q.map grR)[k+((k2:Int) - 1).toNat]? =some (grR l[k+k2 - 1]):=by
      rw [show k+((k2:Int) - 1).toNat=k+k2 - 1 by omega,List.getElem?_map,List.getElem?_eq_getElem (hql ▸ hB),eB];rfl
     have hrowM:(q.map grR)[(m:Int).toNat]? =some (grR q[m]):=bC hml
     have hgg2:=hg l[k+k2] (List.getElem_mem hA) l[k+k2 - 1] (List.getElem_mem hB)
     have hgA:=cY l[k+k2]
     rw [cY]at hrowA hrowB hrowM
     rw [cY,cY]at hgg2
     have hdt2:=aDn zM l (k+k2 - 1) (by omega)
     simp only [show k+k2 - 1+1=k+k2 by omega,show k+k2 - 1+2=k+(k2+1)by omega]at hdt2
     have hlq:l.length=(q.map grR).length:=by rw [List.length_map,hql]
     have hdr2:q.drop (k+k2)=l.drop (k+k2):=by
      have:=congrArg (List.drop 1) hdr
      rw [List.drop_drop,List.drop_drop,show k+k2 - 1+1=k+k2 by omega]at this
      exact this
     ((conv=>whnf);repeat ((first|(intro hq;try simp only [lnS]at hq)|refine sI ?_|refine .intro _ (.intro rfl ?_));(conv=>whnf)))
     refine dwR ?_
     ((conv=>whnf);repeat ((first|(refine And.intro hlq ?_)|(refine⟨_,hrowA, ?_⟩)|(refine⟨_,hrowB, ?_⟩)|(refine⟨hcall, .d (.bool _),_,[],rfl,trivial,hgg2, ?_⟩)|(intro hq;try simp only [lnS]at hq)|refine sI ?_|refine .intro _ (.intro rfl ?_));(conv=>whnf)))
     cases hb2:zM l[k+k2] l[k+k2 - 1]
     ·((conv=>whnf);repeat' ((first|(intro hq;(try simp only [lnS]at hq);(try rewrite [List.length_map]))|refine sJ ?_|refine .intro _ (.intro rfl ?_)|refine exL (k:= ?_)|(refine And.intro hlq ?_)|(refine⟨_,hrowA, ?_⟩)|(refine⟨_,hrowM, ?_⟩)|(refine And.intro (pT rfl) ?_)|refine dwR ?_|((first|refine aB ?_ ?_|refine aC ?_ ?_)<;>intro hb<;>(first|exact ddX hb|try simp only [lnS]at hb))|(refine aA ?_ ?_<;>intro hb<;>try exact dsX hb))<;>(conv=>whnf)))
      rw [hb2,if_neg (by decide),<-ht]at hdt2
      refine⟨(k2+1,m+1,q.set m l[k+k2]),⟨by dsimp only;omega,by dsimp only;rw [List.length_set];exact hql,by dsimp only;omega, ?_, ?_⟩,by dsimp only;omega,by repeat' (first|exact trivial|exact rfl|refine And.intro ?_ ?_), ?_⟩
      ·dsimp only
       rw [hdt2]
       exact aAb _ hml
      ·dsimp only
       rw [show k+(k2+1) - 1=k+k2 by omega,List.drop_set_of_lt (by omega)]
       exact hdr2
      ·dsimp only
       rw [List.map_set,hgA]
       rfl
     ·((conv=>whnf);repeat' ((first|(intro hq;(try simp only [lnS]at hq);(try rewrite [List.length_map]))|refine sJ ?_|refine .intro _ (.intro rfl ?_)|refine exL (k:= ?_)|refine dwR ?_|((first|refine aB ?_ ?_|refine aC ?_ ?_)<;>intro hb<;>(first|exact ddX hb|try simp only [lnS]at hb))|(refine aA ?_ ?_<;>intro hb<;>try exact dsX hb))<;>(conv=>whnf)))
      rw [hb2,if_pos rfl]at hdt2
      exact⟨(k2+1,m,q),⟨by dsimp only;omega,hql,by dsimp only;omega,by dsimp only;rw [hdt2];exact ht,by dsimp only;rw [show k+(k2+1) - 1=k+k2 by omega];exact hdr2⟩,by dsimp only;omega,by repeat' (first|exact trivial|exact rfl|refine And.intro ?_ ?_),rfl⟩
    ·have hke:k+k2=l.length:=by dsimp only at h2;omega
     rw [hke,List.take_length]at ht
     have hlq:l.length=(q.map grR).length:=by rw [List.length_map,hql]
     have hmq:m+(l.length - m)=(q.map grR).length:=by rw [List.length_map,hql];omega
     have hml:=congrArg List.length ht
     rw [List.length_take,Nat.min_eq_left (by omega)]at hml
     ((conv=>whnf);repeat' ((first|(intro hq;(try simp only [lnS]at hq);(try rewrite [List.length_map]))|refine sJ ?_|refine .intro _ (.intro rfl ?_)|refine exL (k:= ?_)|(refine xY hty rfl rfl rfl rfl rfl rfl ?_)|(refine aKj hty rfl rfl (by decide) rfl rfl rfl hlq hmq ?_)|refine dwR ?_|((first|refine aB ?_ ?_|refine aC ?_ ?_)<;>intro hb<;>(first|exact ddX hb|try simp only [lnS]at hb))|(refine aA ?_ ?_<;>intro hb<;>try exact dsX hb))<;>(conv=>whnf)))
     refine fin _ _ m (.inl rfl) ?_ hml ?_
     ·simp only [List.length_append,List.length_take,List.length_replicate,List.length_map]
      show l.length=min m q.length+(l.length - m)
      omega
     ·show ((q.map grR).take m++_).take m=_
      rw [List.take_append_of_le_length (by rw [List.length_take,List.length_map];omega),List.take_take,Nat.min_self,<-List.map_take,ht]
  ·have hkl':k=l.length:=by omega
   subst hkl'
   rw [List.take_length]at hd
   ((conv=>whnf);repeat' ((first|(intro hq;(try simp only [lnS]at hq);(try rewrite [List.length_map]))|refine sJ ?_|refine .intro _ (.intro rfl ?_)|refine exL (k:= ?_)|refine dwR ?_|((first|refine aB ?_ ?_|refine aC ?_ ?_)<;>intro hb<;>(first|exact ddX hb|try simp only [lnS]at hb))|(refine aA ?_ ?_<;>intro hb<;>try exact dsX hb))<;>(conv=>whnf)))
   exact fin _ _ l.length (.inr ⟨rfl,rfl⟩) (List.length_map ..).symm (by rw [hd]) (by rw [hd,List.take_of_length_le (by rw [List.length_map];exact Nat.le_refl _)])
end Go.Proofs.YtfhoddcminbffaaGreatDoor
namespace Go.Proofs.YtfhoddcminbffaaGreatDoor
open Go.RowKit Go.Shelf Go.Lib Go.Sort Go.Proofs
section
variable {P:Program}
theorem aSa {w w':World}(h:Grew w w'): ∃q os,w'=grow (w.drewN q) os:=by
 refine⟨w'.drawn - w.drawn,w'.heap.extract w.heap.size w'.heap.size, ?_⟩
 have h1:w'.heap=w.heap++w'.heap.extract w.heap.size w'.heap.size:=by
  apply Array.ext'
  apply List.ext_getElem?
  intro i
  rw [Array.toList_append]
  rcases Nat.lt_or_ge i w.heap.size with hi|hi
  ·rw [List.getElem?_append_left (by simpa using hi),Array.getElem?_toList,Array.getElem?_toList]
   exact h.block i hi
  ·rw [List.getElem?_append_right (by simpa using hi),Array.getElem?_toList,Array.getElem?_toList,Array.getElem?_extract]
   simp only [Array.length_toList]
   rcases Nat.lt_or_ge i w'.heap.size with h2|h2
   ·rw [if_pos (by omega)]
    congr 1;omega
   ·rw [if_neg (by omega),Array.getElem?_eq_none h2]
 obtain⟨a1,a2,a3,a4,a5⟩:=h
 cases w with
 |mk hp tp dr os ou=>
  cases w' with
  |mk hp' tp' dr' os' ou'=>
   dsimp only at *
   subst a1;subst a2
   obtain⟨b1,b2⟩:=a3
   dsimp only at b1 b2
   subst b1
   simp only [grow,World.drewN,World.mk.injEq,true_and,and_true]
   exact⟨h1,by omega⟩
theorem aD5 {w:World}{g n:Nat}{os:Array Obj}{cur:Array Value}{e:TypeId}{fr:Nat×Nat}(F:Array Value) (hb:w.heap[g]? =some (.cells cur e fr)):
  (grow (putRow _root_.id (Sort.ahead w n) g 0 F) os).heap[g]? =some (.cells (putCells _root_.id 0 F cur) e fr):=by
 have hg:g < w.heap.size:=(Array.getElem?_eq_some_iff.1 hb).1
 rw [Go.Sort.heap_grow_old _ _ (by simpa using hg)]
 simp [putRow,mapBlock,Sort.ahead,Array.getElem?_modify,hb,onCells]
theorem rX {w:World}{g n b:Nat}{os:Array Obj}(F:Array Value) (hb:b < w.heap.size) (hne:b≠g):(grow (putRow _root_.id (Sort.ahead w n) g 0 F) os).heap[b]? =w.heap[b]? :=by
 rw [Go.Sort.heap_grow_old _ _ (by simpa using hb)]
 simp [putRow,mapBlock,Sort.ahead,Array.getElem?_modify,Ne.symm hne]
def iH (cur:Array Value) (z i:Nat):List Value:=(cur.toList.drop (i * z)).take z
theorem jJ {cur:Array Value}{z i j:Nat}(hj:j < z):(iH cur z i)[j]? =cur[i * z+j]? :=by
 rw [iH,List.getElem?_take,if_pos hj,List.getElem?_drop,Array.getElem?_toList]
theorem aC4 {cur:Array Value}{z i cap:Nat}(hc:cur.size=cap * z) (hi:i < cap):(iH cur z i).length=z:=by
 rw [iH,List.length_take,List.length_drop,Array.length_toList,hc]
 have:(i+1)* z<=cap * z:=Nat.mul_le_mul_right _ hi
 rw [Nat.add_mul,Nat.one_mul]at this
 omega
theorem aNh {w W:World}{S:Nat->Nat->Prop}{z n cap:Nat} [Inhabited (Fin n)] {cur:Array Value}{α:Type}{l:List α}{f:α->List D}(hl:l.length=n) (hz:0 < z) (hnc:n<=cap) (hc:cur.size=cap * z) (hF:Flat w S z (l.map f) (cur.toList.take (n * z))) (hk:bY S w W)
  (dk:Array (Fin n)) (hs:dk.size=n):Flat W S z ((dk.toList.map λi=>l[i.1]'(hl ▸ i.2)).map f) ((putCells _root_.id 0 (Go.Sort.flatK (λi:Fin n=>iH cur z i.1) z dk) cur).toList.take (n * z)):=by
 have hle:n * z<=cap * z:=Nat.mul_le_mul_right _ hnc
 have hget: ∀i j,i < n->j < z->((putCells _root_.id 0 (Go.Sort.flatK (λi:Fin n=>iH cur z i.1) z dk) cur).toList.take (n * z))[i * z+j]? =(cur.toList.take (n * z))[(dk[i]!).1 * z+j]? :=by
  intro i j hi hj
  have h1:=iM hj hi
  have h2:=iM hj (dk[i]!).2
  rw [List.getElem?_take,if_pos h1,List.getElem?_take,if_pos h2,Array.getElem?_toList,Array.getElem?_toList]
  have h3:i * z+j < cur.size:=by omega
  have h4:i * z+j < dk.size * z:=by rw [hs];exact h1
  simp only [putCells,Array.getElem?_mapIdx,Array.getElem?_eq_getElem h3,Option.map_some,Nat.zero_le,true_and,Nat.zero_add,size_flatK,h4,if_true,Nat.sub_zero,_root_.id]
  rw [get_flatK _ _ _ _ h4]
  have e1:(i * z+j) / z=i:=by rw [Nat.mul_comm,Nat.mul_add_div hz,Nat.div_eq_of_lt hj,Nat.add_zero]
  have e2:(i * z+j) % z=j:=by rw [Nat.mul_comm,Nat.mul_add_mod,Nat.mod_eq_of_lt hj]
  rw [e1,e2]
  have h5:=jJ (cur:=cur) (i:=(dk[i]!).1) hj
  have h6:(dk[i]!).1 * z+j < cur.size:=by omega
  rw [Array.getElem?_eq_getElem h6]at h5
  rw [Array.getElem?_eq_getElem h6]
  congr 1
  exact List.getElem!_of_getElem? h5
 have hlen:((putCells _root_.id 0 (Go.Sort.flatK (λi:Fin n=>iH cur z i.1) z dk) cur).toList.take (n * z)).length=n * z:=by
  rw [List.length_take,Array.length_toList,putCells,Array.size_mapIdx];omega
 have hlen2:(cur.toList.take (n * z)).length=n * z:=by rw [List.length_take,Array.length_toList];omega
 refine⟨?_, ?_, ?_, ?_⟩
 ·rw [hlen];simp [hs]
 ·intro row hr
  rw [List.mem_map]at hr
  obtain⟨x,hx,rfl⟩:=hr
  rw [List.mem_map]at hx
  obtain⟨i,_,rfl⟩:=hx
  exact hF.hz _ (List.mem_map_of_mem (List.getElem_mem _))
 ·intro v hv
  obtain⟨k,hk1,rfl⟩:=List.getElem_of_mem hv
  have hk2:k < n * z:=by rw [hlen]at hk1;exact hk1
  have hkz:k / z < n:=Nat.div_lt_of_lt_mul (by rw [Nat.mul_comm];exact hk2)
  have hkm:k % z < z:=Nat.mod_lt _ hz
  have hke:k / z * z+k % z=k:=by rw [Nat.mul_comm];exact Nat.div_add_mod k z
  have h1:=hget (k / z) (k % z) hkz hkm
  rw [hke,List.getElem?_eq_getElem hk1]at h1
  exact hF.one _ (List.mem_of_getElem? h1.symm)
 ·intro i row j x h1 h2
  simp only [List.getElem?_map,Option.map_eq_some_iff]at h1
  obtain⟨_,⟨q,h1,rfl⟩,rfl⟩:=h1
  have hi:i < n:=by
   have:=(List.getElem?_eq_some_iff.1 h1).1
   simpa [hs]using this
  have hq:dk[i]! =q:=by
   rw [Array.getElem?_toList]at h1
   obtain⟨h3,h4⟩:=Array.getElem?_eq_some_iff.1 h1
   rw [getElem!_pos dk i h3,h4]
  have hrow:(l.map f)[q.1]? =some (f (l[q.1]'(hl ▸ q.2))):=by rw [List.getElem?_map,List.getElem?_eq_getElem (hl ▸ q.2)];rfl
  have hj:=(yF hF.hz hrow h2).2.1
  obtain⟨v,v1,v2⟩:=hF.at_ _ _ j x hrow h2
  refine⟨v, ?_,v2.mono hk λ_ _ x=>x⟩
  rw [hget i j hi hj,hq]
  exact v1
theorem aAk {r:Ren}(L:SlLaysF0.n6 P r) {z:Nat}(hz:0 < z) (aE: ∀w,(isAgg (r.t 24)).run P w= .ok true w) (zE: ∀w,(Go.sizeOf (r.t 24)).run P w= .ok z w) {g:FuncId}(eg: ∀args w,(callFunc g args).run P w= .ok (.enter g args) w)
  {α:Type} (l:List α) (f:α->List D) (cf:α->α->Int) (hO:SWO (ltOf cf)) (hc: ∀x∈l,∀y∈l,Tri P g [.d (.agg (f x)), .d (.agg (f y))] [] (λq=>q= .d (.int .i64 (cf x y))))
  {pin:List Nat} {fr:Fr} {hp:Hp} {K:SV->Hp->Prop} {id e cap n:Nat} (ho:aU hp id=some (.mrow e z cap (l.map f))) (hn:n=l.length) (hsz:l.length < 4611686018427387904)
  (hk: ∀l':List α,l'.Perm l->l'.Pairwise (λa b=>¬ cf b a < 0)->K (.tup []) (hY hp id (.mrow e z cap (l'.map f)))):aJ P pin fr hp (r.f 6) [.mw id z n, .fn g [] []] K:=by
 intro E ρ w tm hpin hm hf vs hargs
 obtain⟨ha1,ha2⟩:=hargs
 have hv0: ∃v0 v1,vs= #[v0,v1]:=by
  rcases vs with⟨l⟩
  match l,ha1 with
  | [a,b],_=>exact⟨a,b,rfl⟩
 obtain⟨v0,v1,rfl⟩:=hv0
 have hr0:=ha2 0 _ v0 rfl rfl
 have hr1:=ha2 1 _ v1 rfl rfl
 obtain⟨fv,cv,e1,f1,f2,_,_⟩:=hr1.fn_inv
 have hfv:fv= #[]:=Array.size_eq_zero_iff.1 (by simpa using f1)
 have hcv:cv= #[]:=Array.size_eq_zero_iff.1 (by simpa using f2)
 subst hfv;subst hcv;subst e1
 obtain⟨A,c,e2,q1,q2,q3,q4,q5⟩:=hr0.mw_inv
 obtain⟨n0,m0⟩:=hm.sat id _ ho
 rcases Nat.eq_zero_or_pos l.length with h0|h0
 · -- no element
  have hl:l=[]:=List.length_eq_zero_iff.1 h0
  subst hl
  have hn0:n=0:=by simpa using hn
  subst hn0
  subst e2
  have hnone:Calls P (r.f 6) #[.slice A 0 c, .func (.func g) #[] #[]] w λe w'=>e= .returned (.tuple #[])/\w'=w:=AnyF.slices_SortFunc_none L A c _ w
  refine hnone.mono ?_
  rintro e' w' ⟨rfl,rfl⟩
  obtain⟨s1,s2,s3⟩:=hm.setMrow ho (w':=w') (cap':=cap) (rows':=([]:List α).map f) (v':=ρ.tv id) rfl rfl (.refl _) (Nat.le_refl _) (λ_ _ _=>rfl) m0 (λg hg=> .inl hg) (.inl ⟨rfl,rfl⟩)
  exact⟨_,_,_,_,rfl,hk [] (.refl _) .nil,s1,hf.mono s2 (λ_ _ x=>x) λi _=>s3 i, .tup [] _ rfl (by simp)⟩
 ·rcases m0 with⟨hr0',_,_⟩|⟨hc0,g0,cur,p1,p2,p3,p4,p5,p6,p7⟩
  ·simp at hr0';subst hr0';simp at h0
  ·have hvt:v0=ρ.tv id:=q5 (by rw [n0,List.length_map];exact hn)
   rw [p1,List.length_map]at hvt
   subst hvt
   clear e2
   rw [List.length_map]at p3 p6
   obtain⟨m,hm0⟩: ∃m,m=l.length:=⟨_,rfl⟩
   have hm1:l.length=m:=hm0.symm
   rw [hm1]at p3 p6 h0 hsz |-
   haveI:Inhabited (Fin m):=⟨⟨0,h0⟩⟩
   let enc:Fin m->List Value:= λi=>iH cur z i.1
   let d:Array (Fin m):=Array.ofFn λi:Fin m=>i
   have hds:d.size=m:=by simp [d]
   have henc: ∀x,(enc x).length=z:= λx=>aC4 p5 (by have:=x.2;omega)
   have hle:m * z<=cap * z:=Nat.mul_le_mul_right _ p3
   have hcell: ∀k,k < m * z-> ∃v,cur[k]? =some v/\v.oneCell'=true:= λk hk=>by
    have hks:k < cur.size:=by omega
    refine⟨cur[k],Array.getElem?_eq_getElem hks,p6.one _ ?_⟩
    have:(cur.toList.take (m * z))[k]? =some cur[k]:=by
     rw [List.getElem?_take,if_pos hk,Array.getElem?_toList,Array.getElem?_eq_getElem hks]
    exact List.mem_of_getElem? this
   have h1: ∀x,∀v∈enc x,v.oneCell'=true:=by
    intro x v hv
    obtain⟨j,hj,rfl⟩:=List.getElem_of_mem hv
    have hj':j < z:=by rw [henc]at hj;exact hj
    obtain⟨v,v1,v2⟩:=hcell (x.1 * z+j) (iM hj' x.2)
    have h2:=jJ (cur:=cur) (i:=x.1) hj'
    rw [v1]at h2
    have h3:(enc x)[j]? =some v:=h2
    rw [List.getElem?_eq_getElem hj]at h3
    injection h3 with h3
    rw [h3];exact v2
   have hdget: ∀i,i < m->(d[i]!).1=i:=by
    intro i hi
    have hid:i < d.size:=by rw [hds];exact hi
    rw [getElem!_pos d i hid]
    simp [d]
   have hH:HoldsK enc z w g0 0 d:=by
    intro j hj
    rw [size_flatK,hds]at hj
    refine⟨?_,by simp [World.frozen?,p2]⟩
    rw [get_flatK _ _ _ _ (by rw [hds];exact hj)]
    have hjz:j / z < m:=Nat.div_lt_of_lt_mul (by rw [Nat.mul_comm];exact hj)
    have hjm:j % z < z:=Nat.mod_lt _ hz
    have hje:j / z * z+j % z=j:=by rw [Nat.mul_comm];exact Nat.div_add_mod j z
    obtain⟨v,v1,_⟩:=hcell j hj
    have h2:=jJ (cur:=cur) (i:=(d[j / z]!).1) hjm
    rw [hdget _ hjz,hje,v1]at h2
    have h3:(enc d[j / z]!)[j % z]? =some v:=by show (iH cur z (d[j / z]!).1)[j % z]? =_;rw [hdget _ hjz];exact h2
    rw [List.getElem!_of_getElem? h3]
    simp only [World.cell?,p2,Nat.zero_add,Option.isSome_none,Bool.false_eq_true,if_false,v1,_root_.id]
   have hgl:g0 < w.heap.size:=aW p2
   let cfI:Fin m->Fin m->Int:= λx y=>cf (l[x.1]'(hm1 ▸ x.2)) (l[y.1]'(hm1 ▸ y.2))
   have hOI:SWO (ltOf cfI):=⟨λx=>hO.irrefl _,λx y z=>hO.trans _ _ _,λx y z=>hO.ntrans _ _ _⟩
   have hkeep: ∀k os (dk:Array (Fin m)),bY ρ.S w (sortWorldK enc z w g0 0 k dk os):= λk os dk b i hb=>
    World.cell?_of_block (w:=w) (rX _ (hm.slt b i hb) λe=>p7 i (e ▸ hb))
   have hsz2: ∀k os (dk:Array (Fin m)),w.heap.size<=(sortWorldK enc z w g0 0 k dk os).heap.size:= λk os dk=>by
    simp [sortWorldK,putRowK]
   have hcmp:CmpLays P g #[] enc z cfI g0 0 d.size w:=by
    intro k os dk hdk x y
    have rep: ∀x:Fin m,RepD (sortWorldK enc z w g0 0 k dk os) ρ.S (.agg (f (l[x.1]'(hm1 ▸ x.2)))) (.agg (enc x).toArray):=by
     intro x
     have hrow:(l.map f)[x.1]? =some (f (l[x.1]'(hm1 ▸ x.2))):=by rw [List.getElem?_map,List.getElem?_eq_getElem (hm1 ▸ x.2)];rfl
     have hrl:=p6.hz _ (List.mem_of_getElem? hrow)
     refine .agg _ _ (by rw [List.size_toArray,henc,hrl]) λj q v hq hv=> ?_
     have hj:j < z:=by rw [<-hrl];exact(List.getElem?_eq_some_iff.1 hq).1
     obtain⟨v',v1,v2⟩:=p6.at_ _ _ j q hrow hq
     rw [List.getElem?_take,if_pos (iM hj x.2),Array.getElem?_toList]at v1
     rw [List.getElem?_toArray]at hv
     have h2:=jJ (cur:=cur) (i:=x.1) hj
     rw [v1]at h2
     have h3:some v=some v':=hv.symm.trans h2
     injection h3 with h3
     subst h3
     exact v2.mono (hkeep k os dk) λ_ _ x=>x
    have ht:=hc _ (List.getElem_mem (show x.1 < l.length by rw [hm1];exact x.2)) _ (List.getElem_mem (show y.1 < l.length by rw [hm1];exact y.2))
    unfold Tri at ht
    refine(ht (sortWorldK enc z w g0 0 k dk os) ρ #[.agg (enc x).toArray, .agg (enc y).toArray] (λb i hb=>Nat.lt_of_lt_of_le (hm.slt b i hb) (hsz2 k os dk)) ⟨rfl, ?_⟩ (by intro id o ho;cases ho)).mono ?_
    ·intro j s v hs hv
     match j,hs,hv with
     | 0,hs,hv=>simp at hs hv;subst hs;subst hv;exact .d _ _ (rep x)
     | 1,hs,hv=>simp at hs hv;subst hs;subst hv;exact .d _ _ (rep y)
     |j+2,hs,_=>simp at hs
    ·rintro e' w' ⟨v,S',s,rfl,rfl,hg,_,_,_,hr⟩
     have:=hr.int_inv
     subst this
     exact⟨rfl,aSa hg⟩
   have hgo:=AnyQ.slices_SortFunc L z aE zE enc henc h1 cfI hOI g #[] g0 0 cap d w eg hcmp hH hgl (by rw [hds];exact hsz)
   rw [hds]at hgo
   refine hgo.mono ?_
   rintro e' w' ⟨rfl,d',k,os,hP,hS,rfl⟩
   have hd's:d'.size=m:=by have:=hP.1;rw [hds]at this;exact this
   have hfl:=aNh hm1 hz p3 p5 p6 (hkeep k os d') d' hd's
   obtain⟨l',hl'⟩: ∃l':List α,l'=d'.toList.map λi=>l[i.1]'(hm1 ▸ i.2):=⟨_,rfl⟩
   rw [<-hl']at hfl
   have hd:d.toList.map (λi=>l[i.1]'(hm1 ▸ i.2))=l:=by
    apply List.ext_getElem
    ·simp [d,hm1]
    ·intro i h1 h2
     simp [d]
   have hperm:l'.Perm l:=by
    have h3:=hP.2.2
    have e1:d'.extract 0 m=d':=Array.extract_eq_self_of_le (by omega)
    have e2:d.extract 0 m=d:=Array.extract_eq_self_of_le (by omega)
    rw [e1,e2]at h3
    have:=h3.map (λi:Fin m=>l[i.1]'(hm1 ▸ i.2))
    rw [hd,<-hl']at this
    exact this
   have hpair:l'.Pairwise (λa b=>¬ cf b a < 0):=by
    rw [hl',List.pairwise_map,List.pairwise_iff_getElem]
    intro i j hi hj hij
    have hi':i < d'.size:=by simpa using hi
    have hj':j < d'.size:=by simpa using hj
    have:=hS i j (Nat.zero_le _) hij (by omega)
    rw [getElem!_pos d' i hi',getElem!_pos d' j hj']at this
    have h4:=of_decide_eq_false this
    simpa using h4
   have hlen:(l'.map f).length=(l.map f).length:=by rw [List.length_map,List.length_map,hperm.length_eq]
   have hlm:(l'.map f).length=m:=by rw [hlen,List.length_map,hm1]
   have hmut:fZ (sortWorldK enc z w g0 0 k d' os) ρ.S e z cap (l'.map f) (ρ.tv id):=by
    refine .inr ⟨hc0,g0,_, ?_,aD5 _ p2,by omega,p4, ?_,by rw [hlm];exact hfl,p7⟩
    ·rw [p1,hlen]
    ·rw [putCells,Array.size_mapIdx];exact p5
   have hmb: ∀{b:Nat},b=g0->fM (ρ.tv id)=some b:= λe=>by
    have:cap≠0:=by omega
    rw [p1,e];simp [fM,this]
   obtain⟨s1,s2,s3⟩:=hm.setMrow ho (w':=sortWorldK enc z w g0 0 k d' os) (cap':=cap) (v':=ρ.tv id) rfl rfl ⟨rfl,Nat.le_add_right w.drawn k⟩ (hsz2 k os d') (λb hb hne=>rX _ hb λe=>hne (hmb e)) hmut (λg hg=> .inl hg) (.inl ⟨hlen,rfl⟩)
   exact⟨_,_,_,_,rfl,hk l' hperm hpair,s1,hf.mono s2 (λ_ _ x=>x) λi _=>s3 i, .tup [] _ rfl (by simp)⟩
theorem rY {r:Ren}(L:Lays.n190 P r) (l:List (List UInt8)) {pin:List Nat}{fr:Fr}{hp:Hp}{K:SV->Hp->Prop}{id e cap n:Nat}(ho:aU hp id=some (.mrow e 1 cap (l.map λs=>[D.str s]))) (hn:n=l.length) (hsz:l.length < 4611686018427387904)
  (hk:K (.tup []) (hY hp id (.mrow e 1 cap ((l.mergeSort λx y=>decide (x<=y)).map λs=>[D.str s])))):aJ P pin fr hp (r.f 190) [.mw id 1 n] K:=by
 intro E ρ w tm hpin hm hf vs hargs
 obtain⟨ha1,ha2⟩:=hargs
 have hv0: ∃v0,vs= #[v0]:=by
  rcases vs with⟨l⟩
  match l,ha1 with
  | [a],_=>exact⟨a,rfl⟩
 obtain⟨v0,rfl⟩:=hv0
 have hr0:=ha2 0 _ v0 rfl rfl
 obtain⟨A,c,e2,q1,q2,q3,q4,q5⟩:=hr0.mw_inv
 obtain⟨n0,m0⟩:=hm.sat id _ ho
 rcases Nat.eq_zero_or_pos l.length with h0|h0
 ·have hl:l=[]:=List.length_eq_zero_iff.1 h0
  subst hl
  have hn0:n=0:=by simpa using hn
  subst hn0
  subst e2
  have hnone:=Any.slices_Sort_string_none L A c w
  refine hnone.mono ?_
  rintro e' w' ⟨rfl,rfl⟩
  obtain⟨s1,s2,s3⟩:=hm.setMrow ho (w':=w') (cap':=cap) (rows':=([]:List (List UInt8)).map λs=>[D.str s]) (v':=ρ.tv id) rfl rfl (.refl _) (Nat.le_refl _) (λ_ _ _=>rfl) m0 (λg hg=> .inl hg) (.inl ⟨rfl,rfl⟩)
  exact⟨_,_,_,_,rfl,by simpa using hk,s1,hf.mono s2 (λ_ _ x=>x) λi _=>s3 i, .tup [] _ rfl (by simp)⟩
 ·rcases m0 with⟨hr0',_,_⟩|⟨hc0,g0,cur,p1,p2,p3,p4,p5,p6,p7⟩
  ·simp at hr0';subst hr0';simp at h0
  ·have hvt:v0=ρ.tv id:=q5 (by rw [n0,List.length_map];exact hn)
   rw [p1,List.length_map]at hvt
   subst hvt
   rw [List.length_map,Nat.mul_one]at p6
   rw [List.length_map]at p3
   have hle:l.length<=cur.size:=by omega
   have htake:cur.toList.take l.length=l.map encStr:=by
    apply List.ext_getElem?
    intro j
    rcases Nat.lt_or_ge j l.length with hj|hj
    ·have hrow:(l.map λs=>[D.str s])[j]? =some [D.str l[j]]:=by rw [List.getElem?_map,List.getElem?_eq_getElem hj];rfl
     obtain⟨v,v1,v2⟩:=p6.at_ j _ 0 _ hrow rfl
     rw [Nat.mul_one,Nat.add_zero]at v1
     rw [v1,List.getElem?_map,List.getElem?_eq_getElem hj]
     cases v2
     rfl
    ·rw [List.getElem?_eq_none (by rw [List.length_take];omega),List.getElem?_eq_none (by rw [List.length_map];exact hj)]
   have hstr: ∀s∈l,s.length<=maxLen:=by
    intro s hs
    obtain⟨j,hj,rfl⟩:=List.getElem_of_mem hs
    have hrow:(l.map λs=>[D.str s])[j]? =some [D.str l[j]]:=by rw [List.getElem?_map,List.getElem?_eq_getElem hj];rfl
    obtain⟨v,v1,v2⟩:=p6.at_ j _ 0 _ hrow rfl
    cases v2
    assumption
   obtain⟨l',hl'⟩: ∃l',l'=l.mergeSort λx y=>decide (x<=y):=⟨_,rfl⟩
   rw [<-hl']at hk
   have hperm:l'.Perm l:=by rw [hl'];exact List.mergeSort_perm _ _
   have hll:l'.length=l.length:=hperm.length_eq
   refine(Any.slices_Sort_string L g0 0 cap l w (holds_of_block p2 htake) (aW p2) hsz).mono ?_
   rintro e' w' ⟨rfl,k,os,rfl⟩
   rw [<-hl']
   have hkeep:bY ρ.S w (grow (putRow encStr (Sort.ahead w k) g0 0 l'.toArray) os):= λb i hb=>
    World.cell?_of_block (w:=w) ((grownBy_sorted l'.toArray).block b (hm.slt b i hb) λe=>p7 i (by injection e with e;exact e ▸ hb))
   have hmut:fZ (grow (putRow encStr (Sort.ahead w k) g0 0 l'.toArray) os) ρ.S e 1 cap (l'.map λs=>[D.str s]) (ρ.tv id):=by
    refine .inr ⟨hc0,g0,_, ?_,heap_sorted _ p2,by rw [List.length_map];omega,p4,by rw [putCells,Array.size_mapIdx];exact p5, ?_,p7⟩
    ·rw [p1,List.length_map,List.length_map,hll]
    ·rw [List.length_map,Nat.mul_one,take_putCells cur l' (by omega)]
     refine⟨by simp, ?_, ?_, ?_⟩
     ·intro row hr
      rw [List.mem_map]at hr
      obtain⟨_,_,rfl⟩:=hr
      rfl
     ·intro v hv
      rw [List.mem_map]at hv
      obtain⟨_,_,rfl⟩:=hv
      rfl
     ·intro i row j x h1 h2
      rw [List.getElem?_map,Option.map_eq_some_iff]at h1
      obtain⟨s,h1,rfl⟩:=h1
      cases j with
      |succ j=>simp at h2
      |zero=>
       simp at h2
       subst h2
       refine⟨encStr s,by rw [Nat.mul_one,Nat.add_zero,List.getElem?_map,h1];rfl, ?_⟩
       exact .str s (hstr s (hperm.mem_iff.1 (List.mem_of_getElem? h1)))
   have hmb: ∀{b:Nat},b=g0->fM (ρ.tv id)=some b:= λe=>by
    have:cap≠0:=by omega
    rw [p1,e];simp [fM,this]
   obtain⟨s1,s2,s3⟩:=hm.setMrow ho (w':=grow (putRow encStr (Sort.ahead w k) g0 0 l'.toArray) os) (cap':=cap) (rows':=l'.map λs=>[D.str s]) (v':=ρ.tv id) rfl rfl ⟨rfl,Nat.le_add_right w.drawn k⟩ (grownBy_sorted (os:=os) l'.toArray).size
    (λb hb hne=>(grownBy_sorted l'.toArray).block b hb λe=>hne (hmb (Option.some.inj e))) hmut (λg hg=> .inl hg) (.inl ⟨by rw [List.length_map,List.length_map,hll],rfl⟩)
   exact⟨_,_,_,_,rfl,hk,s1,hf.mono s2 (λ_ _ x=>x) λi _=>s3 i, .tup [] _ rfl (by simp)⟩
end
end Go.Proofs.YtfhoddcminbffaaGreatDoor
