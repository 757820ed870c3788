/-
  Parts of rows that may be written: cut out, measured, cleared, and taken for the whole. Terms: slices.CompactFunc over trees. The library's sorts at rows that may be written.
  Conditions: none.
-/
import Derived.Test.YtleihcnongldbaaGreatDoorVSne
import Derived.Test.YtleihcnongldbaaGreatDoorVBp
import Derived.Test.YtleihcnongldbaaGreatDoorVSw
import Derived.Shelf.SlSortCmp.NoneTotal
import Derived.Shelf.Sort.Plain
import Derived.Shelf.Slices.In.SortNone
import Derived.Sort.OwnSorted
set_option linter.unnecessarySimpa false
set_option linter.unusedSectionVars false
set_option linter.unusedSimpArgs false
set_option linter.unusedVariables false
namespace Go.Proofs.YtleihcnongldbaaGreatDoor
open Go.RowKit
section
variable {P:Program}
theorem aHd {n cap:Nat}{lo hi:Option SV}{lv hv:Option Value}{w:World}{ρ:Env}{K:Nat->Nat->Prop}(hc:n<=cap) (r1: ∀s,lo=some s-> ∃v,lv=some v/\Rep w ρ s v) (r1':lo=none->lv=none) (r2: ∀s,hi=some s-> ∃v,hv=some v/\Rep w ρ s v) (r2':hi=none->hv=none)
  (h:cut n lo hi none K): ∃a b,(∀w',(Instr.sliceBounds true n cap lv hv none).run P w'= .ok (a,b,cap) w')/\a<=b/\b<=n/\K a b:=by
 unfold cut at h
 cases lo with
 |none=>
  have:=r1' rfl;subst this
  cases hi with
  |none=>
   have:=r2' rfl;subst this
   exact⟨0,n,λw'=>by simp [Instr.sliceBounds],by omega,by omega,h⟩
  |some s=>
   obtain⟨v,rfl,hr⟩:=r2 s rfl
   dsimp only at h
   split at h
   ·rename_i hl heq;cases heq
   ·rename_i hl heq;cases hl
   ·rename_i k hh hl heq
    injection heq with heq;subst heq
    obtain⟨h0,h1,hk⟩:=h
    have e1:=hr.int_inv
    subst e1
    exact⟨0,hh.toNat,λw'=>by simp [Instr.sliceBounds,run_sliceBound,h0,show hh<=cap by omega],by omega,by omega,hk⟩
   ·rename_i hl heq;cases hl
   ·exact h.elim
 |some s=>
  obtain⟨v,rfl,hr⟩:=r1 s rfl
  cases hi with
  |none=>
   have:=r2' rfl;subst this
   dsimp only at h
   split at h
   ·rename_i hl heq;cases hl
   ·rename_i k l hl heq
    injection hl with hl;subst hl
    obtain⟨h0,h1,hk⟩:=h
    have e1:=hr.int_inv
    subst e1
    exact⟨l.toNat,n,λw'=>by simp [Instr.sliceBounds,run_sliceBound,h0,show l<=n by omega],by omega,by omega,hk⟩
   ·rename_i hl heq;cases heq
   ·rename_i hl heq;cases heq
   ·exact h.elim
  |some s2=>
   obtain⟨v2,rfl,hr2⟩:=r2 s2 rfl
   dsimp only at h
   split at h
   ·rename_i hl heq;cases hl
   ·rename_i hl heq;cases heq
   ·rename_i hl heq;cases hl
   ·rename_i k l k2 hh hl heq
    injection hl with hl;subst hl
    injection heq with heq;subst heq
    obtain⟨h0,h1,h2,hk⟩:=h
    have e1:=hr.int_inv
    have e2:=hr2.int_inv
    subst e1;subst e2
    exact ⟨l.toNat, hh.toNat, λw' => by
     have h3:l<=(hh.toNat:Int):=by omega
     simp only [Instr.sliceBounds,Sem.run_bind,Sem.run_pure,Result.andThen_ok,run_sliceBound (P:=P) w' k2 hh cap _ (show (0:Int)<=hh by omega) (show hh<=(cap:Int)by omega)]
     simp only [run_sliceBound (P:=P) w' k l hh.toNat _ h0 h3,Result.andThen_ok],by omega,by omega,hk⟩
   ·exact h.elim
theorem uS {ti:TypeId->Option TI}(hti:cT P ti) {o:Oper}{t e:TypeId}{T:TI}{x:Operand}{lo hi:Option Operand}(ho:o.op= .slice t x lo hi none) (hT:slT ti t=some (e,T)) {fr:Fr}{hp:Hp}{K:SV->Prop}
  {id z n:Nat} (hx:evO fr x=some (.mw id z n)) (hz:T.size=z) {l h:Option SV} (hl:tD fr lo=some l) (hh:tD fr hi=some h) (hk:cut n l h none λa b=>K (.ms id z a (b - a) n)):cL P o fr hp K:=by
 intro E ρ a w hm hf
 obtain⟨A,c,e1,hnc,hcm,hA,h1,h2⟩:=(aU hf hx).mw_inv
 obtain⟨q1,q1'⟩:=oN hf hl
 obtain⟨q2,q2'⟩:=oN hf hh
 obtain⟨a',b',hrun,hab,hbn,hk⟩:=aHd (P:=P) hnc q1 q1' q2 q2' hk
 refine⟨_,_,λw' _=>aEn hti ho hT (a':=a') (b:=b') (m':=c) e1 (hrun w'), ?_,hk⟩
 refine .ms id z a' (b' - a') n (c - a') _ (by omega) (by omega) ?_ h1 ?_
 ·intro hne
  obtain⟨g,rfl⟩:=hA (by omega)
  split
  ·exact⟨_,rfl⟩
  ·exact⟨_,rfl⟩
 ·intro he
  have h2':=h2 he
  rw [<-h2',e1]
  refine⟨A,n,c,rfl,by omega,hnc,hA,_,rfl,λhc=> ?_⟩
  rw [if_neg (by omega),hz]
theorem aI5 {ti:TypeId->Option TI}(hti:cT P ti) {o:Oper}{t e:TypeId}{T:TI}{x:Operand}(ho:o.op= .call { callee:= .builtin .len,args:= #[x],argTypes:= #[t] }) (hT:slT ti t=some (e,T)) {fr:Fr}{hp:Hp}{K:SV->Prop}
  {id z lo n ver:Nat} (hx:evO fr x=some (.ms id z lo n ver)) (hk:K (.d (.int .i64 n))):cL P o fr hp K:=by
 intro E ρ a w hm hf
 obtain⟨hu,dd,i,z',hT2⟩:=aEo hti hT
 obtain⟨A,c,e1,_⟩:=(aU hf hx).ms_inv
 refine⟨_,_,λw' _=> ?_, .d _ _ (.int _ _),hk⟩
 simp [aS ho,builtin,Builtin.len_,run_underlying hu,e1,goInt]
theorem Flat.take_ {w:World}{S:Nat->Nat->Prop}{z:Nat}{rows:List (List D)}{vs:List Value}(h:Flat w S z rows vs) (k:Nat):Flat w S z (rows.take k) (vs.take (k * z)):=by
 refine⟨?_,λrow hr=>h.hz row (List.mem_of_mem_take hr),λv hv=>h.one v (List.mem_of_mem_take hv), ?_⟩
 ·rw [List.length_take,List.length_take,h.len]
  rcases Nat.le_total k rows.length with hk|hk
  ·rw [Nat.min_eq_left hk,Nat.min_eq_left (Nat.mul_le_mul_right _ hk)]
  ·rw [Nat.min_eq_right hk,Nat.min_eq_right (Nat.mul_le_mul_right _ hk)]
 ·intro i row j x h1 h2
  rw [List.getElem?_take]at h1
  split at h1
  ·rename_i hik
   obtain⟨v,v1,v2⟩:=h.at_ i row j x h1 h2
   have hrow:=(yS h.hz h1 h2).2.1
   have:=vE hrow hik
   exact⟨v,by rw [List.getElem?_take,if_pos this];exact v1,v2⟩
  ·cases h1
theorem aDo {ti:TypeId->Option TI}(hti:cT P ti) {o:Oper}{t e:TypeId}{T:TI}{x:Operand}(ho:o.op= .call { callee:= .builtin .clear,args:= #[x],argTypes:= #[t] }) (hT:slT ti t=some (e,T)) (hpos:0 < T.size) {pin:Pin}{fr:Fr}{hp:Hp}{K:SV->Hp->Prop}
  {id z lo n ver e' cap:Nat} {rows:List (List D)} (hx:evO fr x=some (.ms id z lo n ver)) (hg:aQ hp id=some (.mrow e' z cap rows)) (hz:T.size=z) (hver:ver=rows.length) (hlo:lo+n=rows.length)
  (hk:K (.tup []) (gI hp id (.mrow e' z cap (rows.take lo++List.replicate n T.zero)))):bB P o pin fr hp K:=by
 intro E ρ a w hpin hm hf next Q hn
 obtain⟨hu,dd,ii,z',hT2⟩:=aEo hti hT
 obtain⟨A,c,e1,k1,k2,k3,k4,k5⟩:=(aU hf hx).ms_inv
 obtain⟨n0,m0⟩:=hm.sat id _ hg
 rcases Nat.eq_zero_or_pos n with hn0|hn0
 · -- nothing to clear
  subst hn0
  have hrun:(execOp a.eval o).run P w= .ok (.value (.tuple #[])) w:=by
   rcases A with _|A<;>simp [aS ho,builtin,Builtin.clear_,run_underlying hu,e1]
  have hrows:rows.take lo++List.replicate 0 T.zero=rows:=by rw [List.replicate_zero,List.append_nil,List.take_of_length_le (by omega)]
  rw [hrows]at hk
  obtain⟨s1,s2,s3⟩:=hm.setMrow hg (w':=w) (cap':=cap) (rows':=rows) (v':=ρ.tv id) rfl rfl (.refl _) (Nat.le_refl _) (λ_ _ _=>rfl) m0 (λg hg=> .inl hg) (.inl ⟨rfl,rfl⟩)
  exact cB hrun (hn _ _ _ _ _ hk s1 (hf.mono s2 (λ_ _ x=>x) λi _=>s3 i) (.tup [] _ rfl (by simp)))
 ·have hver':ver=ρ.n id:=by rw [hver];exact n0.symm
  obtain⟨A0,len0,cap0,q1,q2,q3,q4,A',q5,q6⟩:=k5 hver'
  rcases m0 with⟨hr0,_,_⟩|⟨hc,g,cur,p1,p2,p3,p4,p5,p6,p7⟩
  ·rw [hr0]at hlo;simp at hlo;omega
  ·rw [p1]at q1
   injection q1 with q1 q1' q1''
   subst q1;subst q1';subst q1''
   have hA':A=some ⟨g,lo * z,none⟩:=by
    rw [e1]at q5
    injection q5 with q5 _ _
    rw [q5,q6 (by omega)]
    simp [cS]
   have hlen:rows.length * z<=cur.size:=by rw [p5];exact Nat.mul_le_mul_right _ p3
   have hzs:=rJ hT2 w ρ.S n hpos
   obtain⟨vs,hvs⟩: ∃vs,vs=((Array.range (n * ii.size)).map (z'.cells[· % z'.cells.size]!)).toList:=⟨_,rfl⟩
   rw [<-hvs]at hzs
   have hvl:vs.length=n * z:=by rw [hzs.len,List.length_replicate,hz]
   have hbound:lo * z+vs.length<=cur.size:=by rw [hvl,<-Nat.add_mul,hlo];exact hlen
   have hrun:(execOp a.eval o).run P w= .ok (.value (.tuple #[])) (w.setRow g (cur.toList.take (lo * z)++vs++cur.toList.drop (lo * z+vs.length)).toArray):=by
    have hst:=run_storeCells_at (P:=P) g (lo * z) e' vs 0 cur w p2 (by omega) hzs.one
    obtain⟨n',rfl⟩: ∃n',n=n'+1:=⟨n - 1,by omega⟩
    have hzv:(zeroValue e).run P w= .ok z' w:=by simp [zeroValue,typeInfo,hT2.info,hT2.zero]
    have e2:(Builtin.zeroCells z'.cells (n'+1)).toList=vs:=by rw [hvs,Builtin.zeroCells,hT2.cells]
    simp only [aS ho,builtin,Builtin.clear_,e1,hA',Sem.run_bind,List.getElem?_toArray,List.map_toArray,List.map_cons,List.map_nil,List.getElem?_cons_zero,run_underlying hu,Result.andThen_ok,hzv,Sem.run_pure,e2]
    simp only [Nat.add_zero]at hst
    rw [hst]
    rfl
   have hkeep:bS ρ.S w (w.setRow g (cur.toList.take (lo * z)++vs++cur.toList.drop (lo * z+vs.length)).toArray):= λb i hb=>World.cell?_of_block (w:=w) (setRow_other w g b _ (λe=>p7 i (e ▸ hb)))
   have hrl:(rows.take lo++List.replicate n T.zero).length=rows.length:=by simp;omega
   have hmut:fE (w.setRow g (cur.toList.take (lo * z)++vs++cur.toList.drop (lo * z+vs.length)).toArray) ρ.S e' z cap (rows.take lo++List.replicate n T.zero) (ρ.tv id):=by
    refine .inr ⟨hc,g,_,by rw [p1,hrl],setRow_heap _ _ _ _ _ _ p2,by omega,p4, ?_, ?_,p7⟩
    ·simp only [List.size_toArray,List.length_append,List.length_take,List.length_drop,Array.length_toList]
     omega
    ·have h1:=(p6.take_ lo).mono hkeep λ_ _ x=>x
     have h2:Flat (w.setRow g (cur.toList.take (lo * z)++vs++cur.toList.drop (lo * z+vs.length)).toArray) ρ.S z (List.replicate n T.zero) vs:=(hz ▸ hzs).mono hkeep λ_ _ x=>x
     have h3:=h1.append h2
     have e3:((cur.toList.take (lo * z)++vs++cur.toList.drop (lo * z+vs.length)).toArray.toList.take ((rows.take lo++List.replicate n T.zero).length * z))=(cur.toList.take (rows.length * z)).take (lo * z)++vs:=by
      have hle:lo * z<=rows.length * z:=Nat.mul_le_mul_right _ (by omega)
      have e4:rows.length * z=(cur.toList.take (lo * z)++vs).length:=by
       have hlz:lo * z<=cur.toList.length:=by rw [Array.length_toList];omega
       rw [List.length_append,List.length_take,hvl,Nat.min_eq_left hlz,<-Nat.add_mul,hlo]
      rw [hrl,List.take_take,Nat.min_eq_left hle]
      show (cur.toList.take (lo * z)++vs++cur.toList.drop (lo * z+vs.length)).take (rows.length * z)=_
      rw [e4]
      exact List.take_left' rfl
     rw [e3]
     exact h3
   obtain⟨s1,s2,s3⟩:=hm.setMrow hg (w':=w.setRow g (cur.toList.take (lo * z)++vs++cur.toList.drop (lo * z+vs.length)).toArray) (cap':=cap) (v':=ρ.tv id) rfl rfl ⟨rfl,Nat.le_refl _⟩ (by simp [World.setRow])
    (λb _ hb=>setRow_other w g b _ (λe=>hb (by rw [p1,e];have:cap≠0:=(by omega);simp [eO,this]))) hmut (λg hg=> .inl hg) (.inl ⟨hrl,rfl⟩)
   exact cB hrun (hn _ _ _ _ _ hk s1 (hf.mono s2 (λ_ _ x=>x) λi _=>s3 i) (.tup [] _ rfl (by simp)))
theorem aL6 {w:World}{ρ:Env}{id e z cap n:Nat}{rows:List (List D)}{v:Value}(ho:yH w ρ id (.mrow e z cap rows)) (hn:n=rows.length) (hr:Rep w ρ (.mw id z n) v):Rep w ρ (.ms id z 0 n n) v:=by
 obtain⟨A,c,e1,k1,k2,k3,k4,k5⟩:=hr.mw_inv
 obtain⟨n0,m0⟩:=ho
 subst e1
 refine .ms id z 0 n n c A k1 k2 (λh=>(k3 h).elim λg hg=>⟨_,hg⟩) k4 λhv=> ?_
 have h5:=k5 hv
 rw [<-h5]
 refine⟨A,n,c,rfl,by omega,k1,k3,A,rfl,λhc=> ?_⟩
 rcases m0 with⟨hr0,hc0,A1,hA1⟩|⟨hc,g,cur,p1,p2,p3,p4,p5,p6,p7⟩
 ·rw [hA1]at h5
  injection h5 with _ _ h5
  omega
 ·rw [p1]at h5
  injection h5 with h5 _ _
  subst h5
  simp [cS]
structure PartP (pin:Pin) (fr:Fr) (K:SV->Hp->Prop) (id':Nat) (s:SV) (hp:Hp):Prop where
 ex: ∃(id e z cap k n:Nat) (rows:List (List D)) (hp':Hp),(s= .ms id z 0 k n\/(s= .mw id z n/\k=n))/\aQ hp id=some (.mrow e z cap rows)/\n=rows.length/\k<=n/\iW id' pin fr hp/\aAc hp' hp/\aQ hp' id=none/\
  ∀cap',K (.mw id' z k) ((id', .mrow e z cap' (rows.take k))::hp')
theorem aH.closeP {pin:Pin}{fr:Fr}{hp:Hp}{f:FuncId}{asv:List SV}{K:SV->Hp->Prop}(id':Nat) (h:aH P pin fr hp f asv (PartP pin fr K id')):aH P pin fr hp f asv K:=by
 intro E ρ0 w0 tm hpin h30 h40 vs hargs
 refine(h E ρ0 w0 tm hpin h30 h40 vs hargs).mono ?_
 rintro e0 w (⟨v,ρ,s,hp1,rfl,⟨id,e,z,cap,k,n,rows,hp',hs,ho,hn,hkn,⟨f1,f2,f3⟩,hsub,hno,hk⟩,h3,h4,hr⟩|q)
 case inr=>exact .inr q
 refine .inl ?_
 have hr:Rep w ρ (.ms id z 0 k n) v:=by
  rcases hs with rfl|⟨rfl,rfl⟩
  ·exact hr
  ·exact aL6 (h3.sat id _ ho) hn hr
 obtain⟨n0,m0⟩:=h3.sat id _ ho
 obtain⟨A,c,e1,k1,k2,k3,k4,k5⟩:=hr.ms_inv
 obtain⟨A0,len0,cap0,q1,q2,q3,q4,A',q5,q6⟩:=k5 (by omega)
 have hm':=h3.sub (hp':=hp') λi o hio=>iN _ _ hsub i o hio
 rw [e1]at q5
 injection q5 with q5 q5' q5''
 subst q5
 rcases m0 with⟨hr0,hc0,A1,hA1⟩|⟨hc,g,cur,p1,p2,p3,p4,p5,p6,p7⟩
 ·subst hr0
  have hk0:k=0:=by simp at hn;omega
  subst hk0
  rw [hA1]at q1
  injection q1 with q1 q1' q1''
  subst q1;subst q1';subst q1''
  simp at q5''
  subst q5''
  obtain⟨s1,s2,s3⟩:=hm'.newObj (id:=id') (b:=ρ.blk id') (n:=0) (v:= .slice A 0 0) (o:= .mrow e z 0 []) (wM hsub f3) (by rw [hpin];exact f1) (Grew.refl w) (λh=>h)
   ⟨by simp [Env.upd3], .inl ⟨rfl,rfl,A,by simp [Env.upd3]⟩⟩
   (λg' hg'=>by simp [Env.at,Env.upd3,eO]at hg';cases A<;>simp at hg')
  refine⟨v,_,_,_,rfl,hk 0,s1,h4.mono s2 (λ_ _ x=>x) λi hi=>s3 i λe=>f2 (e ▸ hi), ?_⟩
  rw [e1]
  exact .mw id' z 0 0 _ (by omega) (by simp) (λh=>absurd rfl h) (by simp [Env.upd3]) (by simp [Env.upd3])
 ·rw [p1]at q1
  injection q1 with q1 q1' q1''
  subst q1;subst q1';subst q1''
  have hat:ρ.at id (.mrow e z cap rows)=some g:=by
   simp only [Env.at];rw [p1];have:cap≠0:=by omega
   simp [eO,this]
  have hfree:=h3.free_del ho hat hsub hno
  have hA:A=some ⟨g,0,none⟩:=by
   rw [q6 (by omega)]
   simp [cS]
  have hcc:c=cap:=by omega
  subst hcc
  have hkl:(rows.take k).length=k:=by rw [List.length_take];omega
  have hmut:fE w ρ.S e z c (rows.take k) (.slice (some ⟨g,0,none⟩) k c):=by
   refine .inr ⟨hc,g,cur,by rw [hkl],p2,by omega,p4,p5, ?_,p7⟩
   have:=p6.take_ k
   rw [List.take_take,Nat.min_eq_left (Nat.mul_le_mul_right _ (by omega))]at this
   rw [hkl]
   exact this
  obtain⟨s1,s2,s3⟩:=hm'.newObj (id:=id') (b:=ρ.blk id') (n:=k) (v:= .slice (some ⟨g,0,none⟩) k c) (o:= .mrow e z c (rows.take k)) (wM hsub f3) (by rw [hpin];exact f1) (Grew.refl w) (λh=>h)
   ⟨by simp [Env.upd3,hkl],by simp only [Env.upd3,if_true];exact hmut⟩
   (λg' hg' => by
    have hc0:c≠0:=by omega
    simp only [Env.at,Env.upd3,if_true,eO,hc0,if_false,Option.some.injEq]at hg'
    subst hg';exact hfree)
  refine⟨v,_,_,_,rfl,hk c,s1,h4.mono s2 (λ_ _ x=>x) λi hi=>s3 i λe=>f2 (e ▸ hi), ?_⟩
  rw [e1,hA]
  exact .mw id' z k c _ (by omega) p4 (λ_=>⟨_,rfl⟩) (by simp [Env.upd3]) (by simp [Env.upd3])
end
end Go.Proofs.YtleihcnongldbaaGreatDoor
namespace Go.Proofs.YtleihcnongldbaaGreatDoor
open Go.Proofs
set_option maxRecDepth 10000
attribute [local irreducible] aO aH Tri aG YVC cL bB
theorem zR {α:Type}(eq:α->α->Bool): ∀(p:α) (l:List α) (k:Nat) (h:k < l.length),aA7 eq p (l.take (k+1))=if eq l[k] ((p::l)[k]'(by simp;omega))then aA7 eq p (l.take k)else aA7 eq p (l.take k)++[l[k]]
 |p,[],k,h=>by simp at h
 |p,b::r,0,_=>by simp [aA7]
 |p,b::r,k+1,h=>by
  have ih:=zR eq b r k (by simpa using h)
  simp only [List.take_succ_cons,aA7,List.getElem_cons_succ]at ih |-
  rw [ih]
  split<;>split<;>simp
theorem zS {α:Type}(eq:α->α->Bool) (l:List α) (k:Nat) (h:k+1 < l.length):uE eq (l.take (k+2))=if eq l[k+1] l[k]then uE eq (l.take (k+1))else uE eq (l.take (k+1))++[l[k+1]]:=by
 cases l with
 |nil=>simp at h
 |cons a r=>
  have:=zR eq a r k (by simpa using h)
  simp only [List.take_succ_cons,uE,List.getElem_cons_succ]
  rw [this]
  split<;>simp
theorem aIe {α:Type}(eq:α->α->Bool) (l:List α):(uE eq l).length<=l.length:=by
 have: ∀(p:α) (l:List α),(aA7 eq p l).length<=l.length:=by
  intro p l
  induction l generalizing p with
  |nil=>simp [aA7]
  |cons b r ih=>
   rw [aA7]
   split
   ·have:=ih b;simp;omega
   ·have:=ih b;simp;omega
 cases l with
 |nil=>simp [uE]
 |cons a r=>have:=this a r;simp [uE];omega
theorem vR {α:Type}(eq:α->α->Bool) (l:List α) (h:l.length < 2):uE eq l=l:=by
 match l,h with
 | [],_=>rfl
 | [a],_=>rfl
theorem aI6 {l:List D}(h:l.all aAs=true): ∀n∈l,aAs n=true:= λn hn=>List.all_eq_true.1 h n hn
theorem wK {α:Type}{q:List α}{m:Nat}(x:α) (h:m < q.length):(q.set m x).take (m+1)=q.take m++[x]:=by
 rw [List.take_succ_eq_append_getElem (by rw [List.length_set];exact h),List.take_set,List.set_eq_of_length_le (by rw [List.length_take];omega),List.getElem_set_self]
theorem iI {α:Type}{q l:List α}{m j:Nat}(h:q.drop m=l.drop m) (hq:q.length=l.length) (hj:m<=j) (hl:j < l.length):q[j]'(hq ▸ hl)=l[j]:=by
 have h1:(q.drop m)[j - m]? =(l.drop m)[j - m]? :=by rw [h]
 rw [List.getElem?_drop,List.getElem?_drop,show m+(j - m)=j by omega,List.getElem?_eq_getElem hl,List.getElem?_eq_getElem (hq ▸ hl)]at h1
 injection h1
end Go.Proofs.YtleihcnongldbaaGreatDoor
namespace Go.Proofs.YtleihcnongldbaaGreatDoor
open Go.RowKit Go.Shelf Go.Lib Go.Sort Go.Proofs
section
variable {P:Program}
theorem yR {r:Ren}(L:Lays.n190 P r) (l:List (List UInt8)) {pin:Pin}{fr:Fr}{hp:Hp}{K:SV->Hp->Prop}{id e cap n:Nat}(ho:aQ hp id=some (.mrow e 1 cap (l.map λs=>[D.str s]))) (hn:n=l.length) (hsz:l.length < 4611686018427387904)
  (hk:K (.tup []) (gI hp id (.mrow e 1 cap ((l.mergeSort λx y=>decide (x<=y)).map λs=>[D.str s])))):aH P pin fr hp (r.f 190) [.mw id 1 n] K:=by
 intro E ρ w tm hpin hm hf vs hargs
 obtain⟨ha1,ha2⟩:=hargs
 have hv0: ∃v0,vs= #[v0]:=by
  rcases vs with⟨l⟩
  match l,ha1 with
  | [a],_=>exact⟨a,rfl⟩
 obtain⟨v0,rfl⟩:=hv0
 have hr0:=ha2 0 _ v0 rfl rfl
 obtain⟨A,c,e2,q1,q2,q3,q4,q5⟩:=hr0.mw_inv
 obtain⟨n0,m0⟩:=hm.sat id _ ho
 rcases Nat.eq_zero_or_pos l.length with h0|h0
 ·have hl:l=[]:=List.length_eq_zero_iff.1 h0
  subst hl
  have hn0:n=0:=by simpa using hn
  subst hn0
  subst e2
  have hnone:=Any.slices_Sort_string_none L A c w
  refine hnone.mono ?_
  rintro e' w' ⟨rfl,rfl⟩
  obtain⟨s1,s2,s3⟩:=hm.setMrow ho (w':=w') (cap':=cap) (rows':=([]:List (List UInt8)).map λs=>[D.str s]) (v':=ρ.tv id) rfl rfl (.refl _) (Nat.le_refl _) (λ_ _ _=>rfl) m0 (λg hg=> .inl hg) (.inl ⟨rfl,rfl⟩)
  exact .inl ⟨_,_,_,_,rfl,by simpa using hk,s1,hf.mono s2 (λ_ _ x=>x) λi _=>s3 i, .tup [] _ rfl (by simp)⟩
 ·rcases m0 with⟨hr0',_,_⟩|⟨hc0,g0,cur,p1,p2,p3,p4,p5,p6,p7⟩
  ·simp at hr0';subst hr0';simp at h0
  ·have hvt:v0=ρ.tv id:=q5 (by rw [n0,List.length_map];exact hn)
   rw [p1,List.length_map]at hvt
   subst hvt
   rw [List.length_map,Nat.mul_one]at p6
   rw [List.length_map]at p3
   have hle:l.length<=cur.size:=by omega
   have htake:cur.toList.take l.length=l.map encStr:=by
    apply List.ext_getElem?
    intro j
    rcases Nat.lt_or_ge j l.length with hj|hj
    ·have hrow:(l.map λs=>[D.str s])[j]? =some [D.str l[j]]:=by rw [List.getElem?_map,List.getElem?_eq_getElem hj];rfl
     obtain⟨v,v1,v2⟩:=p6.at_ j _ 0 _ hrow rfl
     rw [Nat.mul_one,Nat.add_zero]at v1
     rw [v1,List.getElem?_map,List.getElem?_eq_getElem hj]
     cases v2
     rfl
    ·rw [List.getElem?_eq_none (by rw [List.length_take];omega),List.getElem?_eq_none (by rw [List.length_map];exact hj)]
   have hstr: ∀s∈l,s.length<=maxLen:=by
    intro s hs
    obtain⟨j,hj,rfl⟩:=List.getElem_of_mem hs
    have hrow:(l.map λs=>[D.str s])[j]? =some [D.str l[j]]:=by rw [List.getElem?_map,List.getElem?_eq_getElem hj];rfl
    obtain⟨v,v1,v2⟩:=p6.at_ j _ 0 _ hrow rfl
    cases v2
    assumption
   obtain⟨l',hl'⟩: ∃l',l'=l.mergeSort λx y=>decide (x<=y):=⟨_,rfl⟩
   rw [<-hl']at hk
   have hperm:l'.Perm l:=by rw [hl'];exact List.mergeSort_perm _ _
   have hll:l'.length=l.length:=hperm.length_eq
   refine(Any.slices_Sort_string L g0 0 cap l w (holds_of_block p2 htake) (aW p2) hsz).mono ?_
   rintro e' w' ⟨rfl,k,os,rfl⟩
   rw [<-hl']
   have hkeep:bS ρ.S w (grow (putRow encStr (Sort.ahead w k) g0 0 l'.toArray) os):= λb i hb=>
    World.cell?_of_block (w:=w) ((grownBy_sorted l'.toArray).block b (hm.slt b i hb) λe=>p7 i (by injection e with e;exact e ▸ hb))
   have hmut:fE (grow (putRow encStr (Sort.ahead w k) g0 0 l'.toArray) os) ρ.S e 1 cap (l'.map λs=>[D.str s]) (ρ.tv id):=by
    refine .inr ⟨hc0,g0,_, ?_,heap_sorted _ p2,by rw [List.length_map];omega,p4,by rw [putCells,Array.size_mapIdx];exact p5, ?_,p7⟩
    ·rw [p1,List.length_map,List.length_map,hll]
    ·rw [List.length_map,Nat.mul_one,take_putCells cur l' (by omega)]
     refine⟨by simp, ?_, ?_, ?_⟩
     ·intro row hr
      rw [List.mem_map]at hr
      obtain⟨_,_,rfl⟩:=hr
      rfl
     ·intro v hv
      rw [List.mem_map]at hv
      obtain⟨_,_,rfl⟩:=hv
      rfl
     ·intro i row j x h1 h2
      rw [List.getElem?_map,Option.map_eq_some_iff]at h1
      obtain⟨s,h1,rfl⟩:=h1
      cases j with
      |succ j=>simp at h2
      |zero=>
       simp at h2
       subst h2
       refine⟨encStr s,by rw [Nat.mul_one,Nat.add_zero,List.getElem?_map,h1];rfl, ?_⟩
       exact .str s (hstr s (hperm.mem_iff.1 (List.mem_of_getElem? h1)))
   have hmb: ∀{b:Nat},b=g0->eO (ρ.tv id)=some b:= λe=>by
    have:cap≠0:=by omega
    rw [p1,e];simp [eO,this]
   obtain⟨s1,s2,s3⟩:=hm.setMrow ho (w':=grow (putRow encStr (Sort.ahead w k) g0 0 l'.toArray) os) (cap':=cap) (rows':=l'.map λs=>[D.str s]) (v':=ρ.tv id) rfl rfl ⟨rfl,Nat.le_add_right w.drawn k⟩ (grownBy_sorted (os:=os) l'.toArray).size
    (λb hb hne=>(grownBy_sorted l'.toArray).block b hb λe=>hne (hmb (Option.some.inj e))) hmut (λg hg=> .inl hg) (.inl ⟨by rw [List.length_map,List.length_map,hll],rfl⟩)
   exact .inl ⟨_,_,_,_,rfl,hk,s1,hf.mono s2 (λ_ _ x=>x) λi _=>s3 i, .tup [] _ rfl (by simp)⟩
end
end Go.Proofs.YtleihcnongldbaaGreatDoor
