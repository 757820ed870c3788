/-
  The library's sorts at rows that may be written.
  Conditions: none.
-/
import Derived.Test.YtbobcfjlbcgchaaGreatDoorWSne
import Derived.Test.YtbobcfjlbcgchaaGreatDoorWBp
import Derived.Test.YtbobcfjlbcgchaaGreatDoorWSna
import Derived.Shelf.SlSortCmp.NoneTotal
import Derived.Shelf.Sort.Plain
import Derived.Shelf.Slices.In.SortNone
import Derived.Sort.OwnSorted
set_option linter.unnecessarySimpa false
set_option linter.unusedSectionVars false
set_option linter.unusedSimpArgs false
set_option linter.unusedVariables false
set_option maxHeartbeats 16000000
namespace Go.Proofs.YtbobcfjlbcgchaaGreatDoor
section
open Go.RowKit
section
variable {P:Program}
theorem aVv {n cap:Nat}{lo hi:Option SV}{lv hv:Option Value}{w:World}{ρ:Env}{K:Nat->Nat->Prop}(hc:n<=cap) (r1: ∀s,lo=some s-> ∃v,lv=some v/\Rep w ρ s v) (r1':lo=none->lv=none) (r2: ∀s,hi=some s-> ∃v,hv=some v/\Rep w ρ s v) (r2':hi=none->hv=none)
  (h:cut n lo hi none K): ∃a b,(∀w',(Instr.sliceBounds true n cap lv hv none).run P w'= .ok (a,b,cap) w')/\a<=b/\b<=n/\K a b:=by
 unfold cut at h
 cases lo with
 |none=>
  have:=r1' rfl;subst this
  cases hi with
  |none=>
   have:=r2' rfl;subst this
   exact⟨0,n,λw'=>by simp [Instr.sliceBounds],by omega,by omega,h⟩
  |some s=>
   obtain⟨v,rfl,g⟩:=r2 s rfl
   dsimp only at h
   split at h
   ·rename_i hl c;cases c
   ·rename_i hl c;cases hl
   ·rename_i k d hl c
    injection c with c;subst c
    obtain⟨e,j,f⟩:=h
    have e1:=g.int_inv
    subst e1
    exact⟨0,d.toNat,λw'=>by simp [Instr.sliceBounds,run_sliceBound,e,show d<=cap by omega],by omega,by omega,f⟩
   ·rename_i hl c;cases hl
   ·exact h.elim
 |some s=>
  obtain⟨v,rfl,g⟩:=r1 s rfl
  cases hi with
  |none=>
   have:=r2' rfl;subst this
   dsimp only at h
   split at h
   ·rename_i hl c;cases hl
   ·rename_i k l hl c
    injection hl with hl;subst hl
    obtain⟨e,j,f⟩:=h
    have e1:=g.int_inv
    subst e1
    exact⟨l.toNat,n,λw'=>by simp [Instr.sliceBounds,run_sliceBound,e,show l<=n by omega],by omega,by omega,f⟩
   ·rename_i hl c;cases c
   ·rename_i hl c;cases c
   ·exact h.elim
  |some s2=>
   obtain⟨v2,rfl,i⟩:=r2 s2 rfl
   dsimp only at h
   split at h
   ·rename_i hl c;cases hl
   ·rename_i hl c;cases c
   ·rename_i hl c;cases hl
   ·rename_i k l m d hl c
    injection hl with hl;subst hl
    injection c with c;subst c
    obtain⟨e,j,h2,f⟩:=h
    have e1:=g.int_inv
    have e2:=i.int_inv
    subst e1;subst e2
    exact ⟨l.toNat, d.toNat, λw' => by
     have o:l<=(d.toNat:Int):=by omega
     simp only [Instr.sliceBounds,Sem.run_bind,Sem.run_pure,Result.andThen_ok,run_sliceBound (P:=P) w' m d cap _ (show (0:Int)<=d by omega) (show d<=(cap:Int)by omega)]
     simp only [run_sliceBound (P:=P) w' k l d.toNat _ e o,Result.andThen_ok],by omega,by omega,f⟩
   ·exact h.elim
theorem aCx {ti:TypeId->Option TI}(hti:fH P ti) {o:Oper}{t e:TypeId}{T:TI}{x:Operand}{lo hi:Option Operand}(ho:o.op= .slice t x lo hi none) (hT:slT ti t=some (e,T)) {fr:Fr}{hp:Hp}{K:SV->Prop}
  {id z n:Nat} (hx:evO fr x=some (.mw id z n)) (hz:T.size=z) {l h:Option SV} (hl:aBa fr lo=some l) (hh:aBa fr hi=some h) (p:cut n l h none λa b=>K (.ms id z a (b - a) n)):cG P o fr hp K:=by
 intro E ρ a w hm m
 obtain⟨A,c,e1,d,hcm,r,v,u⟩:=(aV m hx).mw_inv
 obtain⟨B,k⟩:=vK m hl
 obtain⟨s,i⟩:=vK m hh
 obtain⟨a',q,f,hab,hbn,p⟩:=aVv (P:=P) d B k s i p
 refine⟨_,_,λw' _=>aRm hti ho hT (a':=a') (b:=q) (m':=c) e1 (f w'), ?_,p⟩
 refine .ms id z a' (q - a') n (c - a') _ (by omega) (by omega) ?_ v ?_
 ·intro hne
  obtain⟨g,rfl⟩:=r (by omega)
  split
  ·exact⟨_,rfl⟩
  ·exact⟨_,rfl⟩
 ·intro y
  have j:=u y
  rw [<-j,e1]
  refine⟨A,n,c,rfl,by omega,d,r,_,rfl,λhc=> ?_⟩
  rw [if_neg (by omega),hz]
theorem aX5 {ti:TypeId->Option TI}(hti:fH P ti) {o:Oper}{t e:TypeId}{T:TI}{x:Operand}(ho:o.op= .call { callee:= .builtin .len,args:= #[x],argTypes:= #[t] }) (hT:slT ti t=some (e,T)) {fr:Fr}{hp:Hp}{K:SV->Prop}
  {id z lo n ver:Nat} (hx:evO fr x=some (.ms id z lo n ver)) (hk:K (.d (.int .i64 n))):cG P o fr hp K:=by
 intro E ρ a w hm f
 obtain⟨b,dd,i,z',hT2⟩:=aCy hti hT
 obtain⟨A,c,e1,_⟩:=(aV f hx).ms_inv
 refine⟨_,_,λw' _=> ?_, .d _ _ (.int _ _),hk⟩
 simp [aU ho,builtin,Builtin.len_,run_underlying b,e1,goInt]
theorem Flat.take_ {w:World}{S:Nat->Nat->Prop}{z:Nat}{rows:List (List D)}{vs:List Value}(h:Flat w S z rows vs) (k:Nat):Flat w S z (rows.take k) (vs.take (k * z)):=by
 refine⟨?_,λa g=>h.hz a (List.mem_of_mem_take g),λv m=>h.one v (List.mem_of_mem_take m), ?_⟩
 ·rw [List.length_take,List.length_take,h.len]
  rcases Nat.le_total k rows.length with d|d
  ·rw [Nat.min_eq_left d,Nat.min_eq_left (Nat.mul_le_mul_right _ d)]
  ·rw [Nat.min_eq_right d,Nat.min_eq_right (Nat.mul_le_mul_right _ d)]
 ·intro i a j x b f
  rw [List.getElem?_take]at b
  split at b
  ·rename_i e
   obtain⟨v,n,l⟩:=h.at_ i a j x b f
   have c:=(zX h.hz b f).2.1
   have:=jR c e
   exact⟨v,by rw [List.getElem?_take,if_pos this];exact n,l⟩
  ·cases b
theorem aQ2 {ti:TypeId->Option TI}(hti:fH P ti) {o:Oper}{t e:TypeId}{T:TI}{x:Operand}(ho:o.op= .call { callee:= .builtin .clear,args:= #[x],argTypes:= #[t] }) (hT:slT ti t=some (e,T)) (hpos:0 < T.size) {pin:Pin}{fr:Fr}{hp:Hp}{K:SV->Hp->Prop}
  {id z lo n ver e' cap:Nat} {rows:List (List D)} (hx:evO fr x=some (.ms id z lo n ver)) (p:aP hp id=some (.mrow e' z cap rows)) (hz:T.size=z) (hver:ver=rows.length) (hlo:lo+n=rows.length)
  (hk:K (.tup []) (eY hp id (.mrow e' z cap (rows.take lo++List.replicate n T.zero)))):aT P o pin fr hp K:=by
 intro E ρ a w hpin N L next Q Y
 obtain⟨V,dd,ii,C,h⟩:=aCy hti hT
 obtain⟨A,c,e1,k1,k2,k3,k4,k5⟩:=(aV L hx).ms_inv
 obtain⟨n0,W⟩:=N.sat id _ p
 rcases Nat.eq_zero_or_pos n with q|q
 ·-- nothing to clear
  subst q
  have d:(execOp a.eval o).run P w= .ok (.value (.tuple #[])) w:=by
   rcases A with _|A<;>simp [aU ho,builtin,Builtin.clear_,run_underlying V,e1]
  have m:rows.take lo++List.replicate 0 T.zero=rows:=by rw [List.replicate_zero,List.append_nil,List.take_of_length_le (by omega)]
  rw [m]at hk
  obtain⟨I,H,F⟩:=N.setMrow p (w':=w) (cap':=cap) (rows':=rows) (v':=ρ.tv id) rfl rfl (.refl _) (Nat.le_refl _) (λ_ _ _=>rfl) W (λg p=> .inl p) (.inl ⟨rfl,rfl⟩)
  exact bW d (Y _ _ _ _ _ hk I (L.mono H (λ_ _ x=>x) λi _=>F i) (.tup [] _ rfl (by simp)))
 ·have k:ver=ρ.n id:=by rw [hver];exact n0.symm
  obtain⟨A0,len0,cap0,y,q2,q3,q4,A',B,q6⟩:=k5 k
  rcases W with⟨U,_,_⟩|⟨hc,g,cur,G,p2,p3,p4,p5,p6,Z⟩
  ·rw [U]at hlo;simp at hlo;omega
  ·rw [G]at y
   injection y with y q1' q1''
   subst y;subst q1';subst q1''
   have M:A=some ⟨g,lo * z,none⟩:=by
    rw [e1]at B
    injection B with B _ _
    rw [B,q6 (by omega)]
    simp [dU]
   have r:rows.length * z<=cur.size:=by rw [p5];exact Nat.mul_le_mul_right _ p3
   have j:=tR h w ρ.S n hpos
   obtain⟨vs,hvs⟩: ∃vs,vs=((Array.range (n * ii.size)).map (C.cells[· % C.cells.size]!)).toList:=⟨_,rfl⟩
   rw [<-hvs]at j
   have u:vs.length=n * z:=by rw [j.len,List.length_replicate,hz]
   have hbound:lo * z+vs.length<=cur.size:=by rw [u,<-Nat.add_mul,hlo];exact r
   have d:(execOp a.eval o).run P w= .ok (.value (.tuple #[])) (w.setRow g (cur.toList.take (lo * z)++vs++cur.toList.drop (lo * z+vs.length)).toArray):=by
    have v:=run_storeCells_at (P:=P) g (lo * z) e' vs 0 cur w p2 (by omega) j.one
    obtain⟨n',rfl⟩: ∃n',n=n'+1:=⟨n - 1,by omega⟩
    have O:(zeroValue e).run P w= .ok C w:=by simp [zeroValue,typeInfo,h.info,h.zero]
    have e2:(Builtin.zeroCells C.cells (n'+1)).toList=vs:=by rw [hvs,Builtin.zeroCells,h.cells]
    simp only [aU ho,builtin,Builtin.clear_,e1,M,Sem.run_bind,List.getElem?_toArray,List.map_toArray,List.map_cons,List.map_nil,List.getElem?_cons_zero,run_underlying V,Result.andThen_ok,O,Sem.run_pure,e2]
    simp only [Nat.add_zero]at v
    rw [v]
    rfl
   have f:cF ρ.S w (w.setRow g (cur.toList.take (lo * z)++vs++cur.toList.drop (lo * z+vs.length)).toArray):= λb i hb=>World.cell?_of_block (w:=w) (setRow_other w g b _ (λe=>Z i (e ▸ hb)))
   have l:(rows.take lo++List.replicate n T.zero).length=rows.length:=by simp;omega
   have s:gX (w.setRow g (cur.toList.take (lo * z)++vs++cur.toList.drop (lo * z+vs.length)).toArray) ρ.S e' z cap (rows.take lo++List.replicate n T.zero) (ρ.tv id):=by
    refine .inr ⟨hc,g,_,by rw [G,l],setRow_heap _ _ _ _ _ _ p2,by omega,p4, ?_, ?_,Z⟩
    ·simp only [List.size_toArray,List.length_append,List.length_take,List.length_drop,Array.length_toList]
     omega
    ·have h1:=(p6.take_ lo).mono f λ_ _ x=>x
     have h2:Flat (w.setRow g (cur.toList.take (lo * z)++vs++cur.toList.drop (lo * z+vs.length)).toArray) ρ.S z (List.replicate n T.zero) vs:=(hz ▸ j).mono f λ_ _ x=>x
     have h3:=h1.append h2
     have e3:((cur.toList.take (lo * z)++vs++cur.toList.drop (lo * z+vs.length)).toArray.toList.take ((rows.take lo++List.replicate n T.zero).length * z))=(cur.toList.take (rows.length * z)).take (lo * z)++vs:=by
      have R:lo * z<=rows.length * z:=Nat.mul_le_mul_right _ (by omega)
      have e4:rows.length * z=(cur.toList.take (lo * z)++vs).length:=by
       have J:lo * z<=cur.toList.length:=by rw [Array.length_toList];omega
       rw [List.length_append,List.length_take,u,Nat.min_eq_left J,<-Nat.add_mul,hlo]
      rw [l,List.take_take,Nat.min_eq_left R]
      show (cur.toList.take (lo * z)++vs++cur.toList.drop (lo * z+vs.length)).take (rows.length * z)=_
      rw [e4]
      exact List.take_left' rfl
     rw [e3]
     exact h3
   obtain⟨I,H,F⟩:=N.setMrow p (w':=w.setRow g (cur.toList.take (lo * z)++vs++cur.toList.drop (lo * z+vs.length)).toArray) (cap':=cap) (v':=ρ.tv id) rfl rfl ⟨rfl,Nat.le_refl _⟩ (by simp [World.setRow])
    (λb _ hb=>setRow_other w g b _ (λe=>hb (by rw [G,e];have:cap≠0:=(by omega);simp [gB,this]))) s (λg p=> .inl p) (.inl ⟨l,rfl⟩)
   exact bW d (Y _ _ _ _ _ hk I (L.mono H (λ_ _ x=>x) λi _=>F i) (.tup [] _ rfl (by simp)))
theorem bA4 {w:World}{ρ:Env}{id e z cap n:Nat}{rows:List (List D)}{v:Value}(ho:aGj w ρ id (.mrow e z cap rows)) (hn:n=rows.length) (hr:Rep w ρ (.mw id z n) v):Rep w ρ (.ms id z 0 n n) v:=by
 obtain⟨A,c,e1,f,q,d,o,i⟩:=hr.mw_inv
 obtain⟨n0,p⟩:=ho
 subst e1
 refine .ms id z 0 n n c A f q (λh=>(d h).elim λg l=>⟨_,l⟩) o λm=> ?_
 have a:=i m
 rw [<-a]
 refine⟨A,n,c,rfl,by omega,f,d,A,rfl,λj=> ?_⟩
 rcases p with⟨hr0,hc0,A1,b⟩|⟨j,g,cur,k,p2,p3,p4,p5,p6,p7⟩
 ·rw [b]at a
  injection a with _ _ a
  omega
 ·rw [k]at a
  injection a with a _ _
  subst a
  simp [dU]
structure PartP (pin:Pin) (fr:Fr) (K:SV->Hp->Prop) (id':Nat) (s:SV) (hp:Hp):Prop where
 ex: ∃(id e z cap k n:Nat) (rows:List (List D)) (hp':Hp),(s= .ms id z 0 k n\/(s= .mw id z n/\k=n))/\aP hp id=some (.mrow e z cap rows)/\n=rows.length/\k<=n/\fE id' pin fr hp/\lU hp' hp/\aP hp' id=none/\
  ∀cap',K (.mw id' z k) ((id', .mrow e z cap' (rows.take k))::hp')
theorem aF.closeP {pin:Pin}{fr:Fr}{hp:Hp}{f:FuncId}{asv:List SV}{K:SV->Hp->Prop}(id':Nat) (h:aF P pin fr hp f asv (PartP pin fr K id')):aF P pin fr hp f asv K:=by
 intro E ρ0 w0 tm d U G vs m
 refine(h E ρ0 w0 tm d U G vs m).mono ?_
 rintro e0 w (⟨v,ρ,s,hp1,rfl,⟨id,e,z,cap,k,n,rows,hp',hs,M,hn,hkn,⟨W,Y,f3⟩,a,N,hk⟩,B,Z,D⟩|q)
 case inr=>exact .inr q
 refine .inl ?_
 have D:Rep w ρ (.ms id z 0 k n) v:=by
  rcases hs with rfl|⟨rfl,rfl⟩
  ·exact D
  ·exact bA4 (B.sat id _ M) hn D
 obtain⟨n0,m0⟩:=B.sat id _ M
 obtain⟨A,c,e1,k1,k2,k3,k4,k5⟩:=D.ms_inv
 obtain⟨A0,len0,cap0,l,q2,q3,q4,A',C,q6⟩:=k5 (by omega)
 have y:=B.sub (hp':=hp') λi o O=>jU _ _ a i o O
 rw [e1]at C
 injection C with C q5' q5''
 subst C
 rcases m0 with⟨T,t,A1,J⟩|⟨hc,g,cur,V,p2,p3,p4,p5,p6,p7⟩
 ·subst T
  have Q:k=0:=by simp at hn;omega
  subst Q
  rw [J]at l
  injection l with l q1' q1''
  subst l;subst q1';subst q1''
  simp at q5''
  subst q5''
  obtain⟨L,I,F⟩:=y.newObj (id:=id') (b:=ρ.blk id') (n:=0) (v:= .slice A 0 0) (o:= .mrow e z 0 []) (aEr a f3) (by rw [d];exact W) (Grew.refl w) (λh=>h)
   ⟨by simp [Env.upd3], .inl ⟨rfl,rfl,A,by simp [Env.upd3]⟩⟩
   (λg' j=>by simp [Env.at,Env.upd3,gB]at j;cases A<;>simp at j)
  refine⟨v,_,_,_,rfl,hk 0,L,Z.mono I (λ_ _ x=>x) λi hi=>F i λe=>Y (e ▸ hi), ?_⟩
  rw [e1]
  exact .mw id' z 0 0 _ (by omega) (by simp) (λh=>absurd rfl h) (by simp [Env.upd3]) (by simp [Env.upd3])
 ·rw [V]at l
  injection l with l q1' q1''
  subst l;subst q1';subst q1''
  have R:ρ.at id (.mrow e z cap rows)=some g:=by
   simp only [Env.at];rw [V];have:cap≠0:=by omega
   simp [gB,this]
  have r:=B.free_del M R a N
  have hA:A=some ⟨g,0,none⟩:=by
   rw [q6 (by omega)]
   simp [dU]
  have H:c=cap:=by omega
  subst H
  have p:(rows.take k).length=k:=by rw [List.length_take];omega
  have u:gX w ρ.S e z c (rows.take k) (.slice (some ⟨g,0,none⟩) k c):=by
   refine .inr ⟨hc,g,cur,by rw [p],p2,by omega,p4,p5, ?_,p7⟩
   have:=p6.take_ k
   rw [List.take_take,Nat.min_eq_left (Nat.mul_le_mul_right _ (by omega))]at this
   rw [p]
   exact this
  obtain⟨L,I,F⟩:=y.newObj (id:=id') (b:=ρ.blk id') (n:=k) (v:= .slice (some ⟨g,0,none⟩) k c) (o:= .mrow e z c (rows.take k)) (aEr a f3) (by rw [d];exact W) (Grew.refl w) (λh=>h)
   ⟨by simp [Env.upd3,p],by simp only [Env.upd3,if_true];exact u⟩
   (λg' j => by
    have t:c≠0:=by omega
    simp only [Env.at,Env.upd3,if_true,gB,t,if_false,Option.some.injEq]at j
    subst j;exact r)
  refine⟨v,_,_,_,rfl,hk c,L,Z.mono I (λ_ _ x=>x) λi hi=>F i λe=>Y (e ▸ hi), ?_⟩
  rw [e1,hA]
  exact .mw id' z k c _ (by omega) p4 (λ_=>⟨_,rfl⟩) (by simp [Env.upd3]) (by simp [Env.upd3])
end
end
section
attribute [local irreducible] aK aF Tri aH YVC cG aT
set_option maxRecDepth 10000
theorem aIn {α:Type}(eq:α->α->Bool): ∀(p:α) (l:List α) (k:Nat) (h:k < l.length),aJg eq p (l.take (k+1))=if eq l[k] ((p::l)[k]'(by simp;omega))then aJg eq p (l.take k)else aJg eq p (l.take k)++[l[k]]
 |p,[],k,h=>by simp at h
 |p,b::r,0,_=>by simp [aJg]
 |p,b::r,k+1,h=>by
  have a:=aIn eq b r k (by simpa using h)
  simp only [List.take_succ_cons,aJg,List.getElem_cons_succ]at a |-
  rw [a]
  split<;>split<;>simp
theorem aIp {α:Type}(eq:α->α->Bool) (l:List α) (k:Nat) (h:k+1 < l.length):aIq eq (l.take (k+2))=if eq l[k+1] l[k]then aIq eq (l.take (k+1))else aIq eq (l.take (k+1))++[l[k+1]]:=by
 cases l with
 |nil=>simp at h
 |cons a r=>
  have:=aIn eq a r k (by simpa using h)
  simp only [List.take_succ_cons,aIq,List.getElem_cons_succ]
  rw [this]
  split<;>simp
theorem aNb {α:Type}(eq:α->α->Bool) (l:List α):(aIq eq l).length<=l.length:=by
 have: ∀(p:α) (l:List α),(aJg eq p l).length<=l.length:=by
  intro p l
  induction l generalizing p with
  |nil=>simp [aJg]
  |cons b r ih=>
   rw [aJg]
   split
   ·have:=ih b;simp;omega
   ·have:=ih b;simp;omega
 cases l with
 |nil=>simp [aIq]
 |cons a r=>have:=this a r;simp [aIq];omega
theorem aE1 {α:Type}(eq:α->α->Bool) (l:List α) (h:l.length < 2):aIq eq l=l:=by
 match l,h with
 | [],_=>rfl
 | [a],_=>rfl
theorem aX6 {l:List D}(h:l.all aKk=true): ∀n∈l,aKk n=true:= λn a=>List.all_eq_true.1 h n a
theorem aEm {α:Type}{q:List α}{m:Nat}(x:α) (h:m < q.length):(q.set m x).take (m+1)=q.take m++[x]:=by
 rw [List.take_succ_eq_append_getElem (by rw [List.length_set];exact h),List.take_set,List.set_eq_of_length_le (by rw [List.length_take];omega),List.getElem_set_self]
theorem mJ {α:Type}{q l:List α}{m j:Nat}(h:q.drop m=l.drop m) (hq:q.length=l.length) (hj:m<=j) (hl:j < l.length):q[j]'(hq ▸ hl)=l[j]:=by
 have a:(q.drop m)[j - m]? =(l.drop m)[j - m]? :=by rw [h]
 rw [List.getElem?_drop,List.getElem?_drop,show m+(j - m)=j by omega,List.getElem?_eq_getElem hl,List.getElem?_eq_getElem (hq ▸ hl)]at a
 injection a
theorem yE (g:FuncId) (hcall:dY Tryz.prog g=true) (l:List Cn) (hlen:l.length<=1000000) (hg: ∀a∈l,∀b∈l,Tri Tryz.prog g [.d (.agg (grR a)), .d (.agg (grR b))] [] (λr=>r= .d (.bool (aDw a b))))
  (cap n:Nat) (hn:n=l.length) (hp0:Hp) {pin:Pin} {fr:Fr} {K:SV->Hp->Prop} (hp1: ∀k,100<=k->k∉pin) (hf: ∀k,100<=k->k∉gD fr) (hh: ∀k,100<=k->k∉gH hp0) (hno:aP hp0 70=none) (hsub: ∀o,lU hp0 ((70,o)::hp0))
  (hk: ∀cap',K (.mw 170 7 (aIq aDw l).length) ((170, .mrow 176 7 cap' ((aIq aDw l).map grR))::hp0)):
  aF Tryz.prog pin fr ((70, .mrow 176 7 cap (l.map grR))::hp0) 175 [.mw 70 7 n, .fn g [] []] K:=by
 subst hn
 have C: ∀(rows:List (List D)) (s:SV) (k:Nat),(s= .ms 70 7 0 k l.length\/(s= .mw 70 7 l.length/\k=l.length))->l.length=rows.length->k=(aIq aDw l).length->rows.take k=(aIq aDw l).map grR->PartP pin fr K 170 s ((70, .mrow 176 7 cap rows)::hp0):=by
  intro rows s k P M V W
  refine⟨70,_,7,cap,k,l.length,rows,hp0,P,rfl,M,by rw [V];exact aNb _ _,⟨hp1 _ (by decide),hf _ (by decide),aXy (by decide) rfl hh _ (by decide)⟩,hsub _,hno,λcap'=> ?_⟩
  rw [V]at W |-
  rw [W]
  exact hk cap'
 refine aF.closeP 170 ?_
 refine aG false [] hty Tryz.func175 rfl (kp [0,1,4,5,6,7,10,15,28,35,49]) 200 (by simp [Tryz.f175]) ?_
 ((conv=>whnf);repeat' ((first|(intro i;(try simp only [lnS]at i);(try rewrite [List.length_map]))|refine sJ ?_|refine qE_ ?_|refine exL (k:=?_)|refine dwR ?_|((first|refine aA ?_ ?_|refine aC ?_ ?_)<;>intro hb<;>(first|exact ddX hb|try simp only [lnS]at hb))|(refine aB ?_ ?_<;>intro hb<;>try exact dsX hb))<;>(conv=>whnf)))
 ·have A:aIq aDw l=l:=aE1 _ _ (by omega)
  exact C _ _ l.length (.inr ⟨rfl,rfl⟩) (List.length_map ..).symm (by rw [A]) (by rw [A,List.take_of_length_le (by rw [List.length_map];exact Nat.le_refl _)])
 ·refine lS hty (λk:Nat=>([(0, .mw 70 7 l.length),(1, .fn g [] []),(5, .d (.int .i64 k))],(70, .mrow 176 7 cap (l.map grR))::hp0)) (λk=>(1<=k/\k<=l.length)/\aIq aDw (l.take k)=l.take k) (λk=>l.length - k) 1 ⟨by omega,aE1 _ _ (by rw [List.length_take];omega)⟩ qB rfl ?_
  rintro k ⟨⟨hk1,hkl⟩,A⟩
  ((conv=>whnf);repeat ((first |(intro i;try simp only [lnS]at i)|refine sI ?_|refine qE_ ?_);conv=>whnf))
  refine aA (λP=> ?_) (λP=> ?_)
  ·have h:k < l.length:=by omega
   have G:k - 1 < l.length:=by omega
   have t:(l.map grR)[(k:Int).toNat]? =some (grR l[k]):=bA h
   have w:(l.map grR)[((k:Int) - 1).toNat]? =some (grR l[k - 1]):=by
    rw [show ((k:Int) - 1).toNat=k - 1 by omega,List.getElem?_map,List.getElem?_eq_getElem G];rfl
   have J:=hg l[k] (List.getElem_mem h) l[k - 1] (List.getElem_mem G)
   rw [dK]at t w
   rw [dK,dK]at J
   have p:=aIp aDw l (k - 1) (by omega)
   simp only [show k - 1+1=k by omega,show k - 1+2=k+1 by omega]at p
   ((conv=>whnf);repeat ((first |(intro i;try simp only [lnS]at i)|refine sI ?_|refine qE_ ?_);conv=>whnf))
   refine dwR ?_
   ((conv=>whnf);repeat ((first|(refine And.intro (List.length_map ..).symm ?_)|(refine⟨_,t, ?_⟩)|(refine⟨_,w, ?_⟩)|(refine⟨hcall, .d (.bool _),_,[],rfl,trivial,J, ?_⟩) |(intro i;try simp only [lnS]at i)|refine sI ?_|refine qE_ ?_);conv=>whnf))
   cases hb:aDw l[k] l[k - 1]
   ·((conv=>whnf);repeat' ((first|(intro i;(try simp only [lnS]at i);(try rewrite [List.length_map]))|refine sJ ?_|refine qE_ ?_|refine exL (k:=?_)|refine dwR ?_|((first|refine aA ?_ ?_|refine aC ?_ ?_)<;>intro hb<;>(first|exact ddX hb|try simp only [lnS]at hb))|(refine aB ?_ ?_<;>intro hb<;>try exact dsX hb))<;>(conv=>whnf)))
    rw [hb,if_neg (by decide),A]at p
    exact⟨k+1,⟨⟨by omega,by omega⟩,by rw [p];exact(List.take_succ_eq_append_getElem h).symm⟩,qO,qB,rfl⟩
   ·rw [hb,if_pos rfl,A]at p
    ((conv=>whnf);repeat ((first|(refine aCx hty rfl rfl rfl rfl rfl rfl ?_) |(intro i;try simp only [lnS]at i)|refine sI ?_|refine qE_ ?_);conv=>whnf))
    rw [show ((k:Int)).toNat=k from rfl]
    refine lS hty (λy:Nat×Nat×List Cn=>([(0, .mw 70 7 l.length),(1, .fn g [] []),(5, .d (.int .i64 y.2.1)),(6, .ms 70 7 k (l.length - k) l.length),(7, .d (.int .i64 y.1))],(70, .mrow 176 7 cap (y.2.2.map grR))::hp0))
     (λy=>(1<=y.1/\y.1<=l.length - k)/\y.2.2.length=l.length/\(y.2.1+1<=k+y.1/\1<=y.2.1)/\y.2.2.take y.2.1=aIq aDw (l.take (k+y.1))/\y.2.2.drop (k+y.1 - 1)=l.drop (k+y.1 - 1)) (λy=>l.length - k - y.1) (1,k,l) ⟨qO,rfl,qO,p.symm,rfl⟩ qB rfl ?_
    rintro⟨c,m,q⟩ ⟨⟨H,I⟩,e,⟨R,U⟩,F,x⟩
    dsimp only at H I e R U F x
    ((conv=>whnf);repeat ((first|(refine aX5 hty rfl rfl rfl ?_) |(intro i;try simp only [lnS]at i)|refine sI ?_|refine qE_ ?_);conv=>whnf))
    refine aA (λM=> ?_) (λM=> ?_)
    ·have O:k+c < l.length:=by dsimp only at M;omega
     have N:k+c - 1 < l.length:=by omega
     have u:m < q.length:=by omega
     have Z:q[k+c]'(e ▸ O)=l[k+c]:=mJ x e (by omega) O
     have Y:q[k+c - 1]'(e ▸ N)=l[k+c - 1]:=mJ x e (by omega) N
     have v:(q.map grR)[k+(c:Int).toNat]? =some (grR l[k+c]):=by
      rw [Int.toNat_natCast,List.getElem?_map,List.getElem?_eq_getElem (e ▸ O),Z];rfl
     have E:(q.map grR)[k+((c:Int) - 1).toNat]? =some (grR l[k+c - 1]):=by
      rw [show k+((c:Int) - 1).toNat=k+c - 1 by omega,List.getElem?_map,List.getElem?_eq_getElem (e ▸ N),Y];rfl
     have j:(q.map grR)[(m:Int).toNat]? =some (grR q[m]):=bA u
     have L:=hg l[k+c] (List.getElem_mem O) l[k+c - 1] (List.getElem_mem N)
     have S:=dK l[k+c]
     rw [dK]at v E j
     rw [dK,dK]at L
     have f:=aIp aDw l (k+c - 1) (by omega)
     simp only [show k+c - 1+1=k+c by omega,show k+c - 1+2=k+(c+1)by omega]at f
     have B:l.length=(q.map grR).length:=by rw [List.length_map,e]
     have z:q.drop (k+c)=l.drop (k+c):=by
      have:=congrArg (List.drop 1) x
      rw [List.drop_drop,List.drop_drop,show k+c - 1+1=k+c by omega]at this
      exact this
     refine qX ?_;intros
     refine dwR ?_
     refine qZ ?_;intros
     cases hb2:aDw l[k+c] l[k+c - 1]
     ·(repeat' first|(refine qW ?_;intros)|((conv=>whnf);first|(refine And.intro B ?_)|(refine⟨_,v, ?_⟩)|(refine⟨_,j, ?_⟩)|(refine And.intro (aX6 rfl) ?_)|refine dwR ?_|((first|refine aA ?_ ?_|refine aC ?_ ?_)<;>intro hb<;>(first|exact ddX hb|try simp only [lnS]at hb))|(refine aB ?_ ?_<;>intro hb<;>try exact dsX hb)))
      rw [hb2,if_neg (by decide),<-F]at f
      refine⟨(c+1,m+1,q.set m l[k+c]),⟨qO,by dsimp only;rw [List.length_set];exact e,qO, ?_, ?_⟩,qO,qB, ?_⟩
      ·dsimp only
       rw [f]
       exact aEm _ u
      ·dsimp only
       rw [show k+(c+1) - 1=k+c by omega,List.drop_set_of_lt (by omega)]
       exact z
      ·dsimp only
       rw [List.map_set,S]
       rfl
     ·(repeat' first|(refine qW ?_;intros)|((conv=>whnf);first|refine dwR ?_|((first|refine aA ?_ ?_|refine aC ?_ ?_)<;>intro hb<;>(first|exact ddX hb|try simp only [lnS]at hb))|(refine aB ?_ ?_<;>intro hb<;>try exact dsX hb)))
      rw [hb2,if_pos rfl]at f
      exact⟨(c+1,m,q),⟨qO,e,qO,by dsimp only;rw [f];exact F,by dsimp only;rw [show k+(c+1) - 1=k+c by omega];exact z⟩,qO,qB,rfl⟩
    ·have T:k+c=l.length:=by dsimp only at M;omega
     rw [T,List.take_length]at F
     have B:l.length=(q.map grR).length:=by rw [List.length_map,e]
     have Q:m+(l.length - m)=(q.map grR).length:=by rw [List.length_map,e];omega
     have u:=congrArg List.length F
     rw [List.length_take,Nat.min_eq_left (by omega)]at u
     (repeat' first|(refine qW ?_;intros)|((conv=>whnf);first|(refine aCx hty rfl rfl rfl rfl rfl rfl ?_)|(refine aQ2 hty rfl rfl (by decide) rfl rfl rfl B Q ?_)|refine dwR ?_|((first|refine aA ?_ ?_|refine aC ?_ ?_)<;>intro hb<;>(first|exact ddX hb|try simp only [lnS]at hb))|(refine aB ?_ ?_<;>intro hb<;>try exact dsX hb)))
     refine C _ _ m (.inl rfl) ?_ u ?_
     ·simp only [List.length_append,List.length_take,List.length_replicate,List.length_map]
      show l.length=min m q.length+(l.length - m)
      omega
     ·show ((q.map grR).take m++_).take m=_
      rw [List.take_append_of_le_length (by rw [List.length_take,List.length_map];omega),List.take_take,Nat.min_self,<-List.map_take,F]
  ·have h:k=l.length:=by omega
   subst h
   rw [List.take_length]at A
   (repeat' first|(refine qW ?_;intros)|((conv=>whnf);first|refine dwR ?_|((first|refine aA ?_ ?_|refine aC ?_ ?_)<;>intro hb<;>(first|exact ddX hb|try simp only [lnS]at hb))|(refine aB ?_ ?_<;>intro hb<;>try exact dsX hb)))
   exact C _ _ l.length (.inr ⟨rfl,rfl⟩) (List.length_map ..).symm (by rw [A]) (by rw [A,List.take_of_length_le (by rw [List.length_map];exact Nat.le_refl _)])
end
section
open Go.RowKit Go.Shelf Go.Lib Go.Sort Go.Proofs
section
variable {P:Program}
theorem bAd {w w':World}(h:Grew w w'): ∃q os,w'=grow (w.drewN q) os:=by
 refine⟨w'.drawn - w.drawn,w'.heap.extract w.heap.size w'.heap.size, ?_⟩
 have c:w'.heap=w.heap++w'.heap.extract w.heap.size w'.heap.size:=by
  apply Array.ext'
  apply List.ext_getElem?
  intro i
  rw [Array.toList_append]
  rcases Nat.lt_or_ge i w.heap.size with hi|hi
  ·rw [List.getElem?_append_left (by simpa using hi),Array.getElem?_toList,Array.getElem?_toList]
   exact h.block i hi
  ·rw [List.getElem?_append_right (by simpa using hi),Array.getElem?_toList,Array.getElem?_toList,Array.getElem?_extract]
   simp only [Array.length_toList]
   rcases Nat.lt_or_ge i w'.heap.size with b|b
   ·rw [if_pos (by omega)]
    congr 1;omega
   ·rw [if_neg (by omega),Array.getElem?_eq_none b]
 obtain⟨e,d,g,a4,a5⟩:=h
 cases w with
 |mk hp tp dr os ou=>
  cases w' with
  |mk hp' tp' dr' os' ou'=>
   dsimp only at *
   subst e;subst d
   obtain⟨a,f⟩:=g
   dsimp only at a f
   subst a
   simp only [grow,World.drewN,World.mk.injEq,true_and,and_true]
   exact⟨c,by omega⟩
theorem aI7 {w:World}{g n:Nat}{os:Array Obj}{cur:Array Value}{e:TypeId}{fr:Nat×Nat}(F:Array Value) (hb:w.heap[g]? =some (.cells cur e fr)):
  (grow (putRow _root_.id (Sort.ahead w n) g 0 F) os).heap[g]? =some (.cells (putCells _root_.id 0 F cur) e fr):=by
 have a:g < w.heap.size:=(Array.getElem?_eq_some_iff.1 hb).1
 rw [Go.Sort.heap_grow_old _ _ (by simpa using a)]
 simp [putRow,mapBlock,Sort.ahead,Array.getElem?_modify,hb,onCells]
theorem xG {w:World}{g n b:Nat}{os:Array Obj}(F:Array Value) (hb:b < w.heap.size) (hne:b≠g):(grow (putRow _root_.id (Sort.ahead w n) g 0 F) os).heap[b]? =w.heap[b]? :=by
 rw [Go.Sort.heap_grow_old _ _ (by simpa using hb)]
 simp [putRow,mapBlock,Sort.ahead,Array.getElem?_modify,Ne.symm hne]
def jI (cur:Array Value) (z i:Nat):List Value:=(cur.toList.drop (i * z)).take z
theorem lB {cur:Array Value}{z i j:Nat}(hj:j < z):(jI cur z i)[j]? =cur[i * z+j]? :=by
 rw [jI,List.getElem?_take,if_pos hj,List.getElem?_drop,Array.getElem?_toList]
theorem aH1 {cur:Array Value}{z i cap:Nat}(hc:cur.size=cap * z) (hi:i < cap):(jI cur z i).length=z:=by
 rw [jI,List.length_take,List.length_drop,Array.length_toList,hc]
 have:(i+1)* z<=cap * z:=Nat.mul_le_mul_right _ hi
 rw [Nat.add_mul,Nat.one_mul]at this
 omega
theorem aTs {w W:World}{S:Nat->Nat->Prop}{z n cap:Nat} [Inhabited (Fin n)] {cur:Array Value}{α:Type}{l:List α}{f:α->List D}(hl:l.length=n) (hz:0 < z) (hnc:n<=cap) (hc:cur.size=cap * z) (hF:Flat w S z (l.map f) (cur.toList.take (n * z))) (hk:cF S w W)
  (dk:Array (Fin n)) (hs:dk.size=n):Flat W S z ((dk.toList.map λi=>l[i.1]'(hl ▸ i.2)).map f) ((putCells _root_.id 0 (Go.Sort.flatK (λi:Fin n=>jI cur z i.1) z dk) cur).toList.take (n * z)):=by
 have hle:n * z<=cap * z:=Nat.mul_le_mul_right _ hnc
 have d: ∀i j,i < n->j < z->((putCells _root_.id 0 (Go.Sort.flatK (λi:Fin n=>jI cur z i.1) z dk) cur).toList.take (n * z))[i * z+j]? =(cur.toList.take (n * z))[(dk[i]!).1 * z+j]? :=by
  intro i j hi g
  have a:=jR g hi
  have h:=jR g (dk[i]!).2
  rw [List.getElem?_take,if_pos a,List.getElem?_take,if_pos h,Array.getElem?_toList,Array.getElem?_toList]
  have r:i * z+j < cur.size:=by omega
  have m:i * z+j < dk.size * z:=by rw [hs];exact a
  simp only [putCells,Array.getElem?_mapIdx,Array.getElem?_eq_getElem r,Option.map_some,Nat.zero_le,true_and,Nat.zero_add,size_flatK,m,if_true,Nat.sub_zero,_root_.id]
  rw [get_flatK _ _ _ _ m]
  have e1:(i * z+j) / z=i:=by rw [Nat.mul_comm,Nat.mul_add_div hz,Nat.div_eq_of_lt g,Nat.add_zero]
  have e2:(i * z+j) % z=j:=by rw [Nat.mul_comm,Nat.mul_add_mod,Nat.mod_eq_of_lt g]
  rw [e1,e2]
  have B:=lB (cur:=cur) (i:=(dk[i]!).1) g
  have y:(dk[i]!).1 * z+j < cur.size:=by omega
  rw [Array.getElem?_eq_getElem y]at B
  rw [Array.getElem?_eq_getElem y]
  congr 1
  exact List.getElem!_of_getElem? B
 have c:((putCells _root_.id 0 (Go.Sort.flatK (λi:Fin n=>jI cur z i.1) z dk) cur).toList.take (n * z)).length=n * z:=by
  rw [List.length_take,Array.length_toList,putCells,Array.size_mapIdx];omega
 have hlen2:(cur.toList.take (n * z)).length=n * z:=by rw [List.length_take,Array.length_toList];omega
 refine⟨?_, ?_, ?_, ?_⟩
 ·rw [c];simp [hs]
 ·intro p A
  rw [List.mem_map]at A
  obtain⟨x,hx,rfl⟩:=A
  rw [List.mem_map]at hx
  obtain⟨i,_,rfl⟩:=hx
  exact hF.hz _ (List.mem_map_of_mem (List.getElem_mem _))
 ·intro v C
  obtain⟨k,e,rfl⟩:=List.getElem_of_mem C
  have s:k < n * z:=by rw [c]at e;exact e
  have u:k / z < n:=Nat.div_lt_of_lt_mul (by rw [Nat.mul_comm];exact s)
  have o:k % z < z:=Nat.mod_lt _ hz
  have t:k / z * z+k % z=k:=by rw [Nat.mul_comm];exact Nat.div_add_mod k z
  have a:=d (k / z) (k % z) u o
  rw [t,List.getElem?_eq_getElem e]at a
  exact hF.one _ (List.mem_of_getElem? a.symm)
 ·intro i p j x a h
  simp only [List.getElem?_map,Option.map_eq_some_iff]at a
  obtain⟨_,⟨q,a,rfl⟩,rfl⟩:=a
  have hi:i < n:=by
   have:=(List.getElem?_eq_some_iff.1 a).1
   simpa [hs]using this
  have E:dk[i]! =q:=by
   rw [Array.getElem?_toList]at a
   obtain⟨r,m⟩:=Array.getElem?_eq_some_iff.1 a
   rw [getElem!_pos dk i r,m]
  have b:(l.map f)[q.1]? =some (f (l[q.1]'(hl ▸ q.2))):=by rw [List.getElem?_map,List.getElem?_eq_getElem (hl ▸ q.2)];rfl
  have g:=(zX hF.hz b h).2.1
  obtain⟨v,G,F⟩:=hF.at_ _ _ j x b h
  refine⟨v, ?_,F.mono hk λ_ _ x=>x⟩
  rw [d i j hi g,E]
  exact G
theorem aEw {r:Ren}(L:SlLaysF0.n6 P r) {z:Nat}(hz:0 < z) (aE: ∀w,(isAgg (r.t 24)).run P w= .ok true w) (zE: ∀w,(Go.sizeOf (r.t 24)).run P w= .ok z w) {g:FuncId}(eg: ∀args w,(callFunc g args).run P w= .ok (.enter g args) w)
  {α:Type} (l:List α) (f:α->List D) (cf:α->α->Int) (hO:SWO (ltOf cf)) (hc: ∀x∈l,∀y∈l,Tri P g [.d (.agg (f x)), .d (.agg (f y))] [] (λq=>q= .d (.int .i64 (cf x y))))
  {pin:Pin} {fr:Fr} {hp:Hp} {K:SV->Hp->Prop} {id e cap n:Nat} (ho:aP hp id=some (.mrow e z cap (l.map f))) (hn:n=l.length) (hsz:l.length < 4611686018427387904)
  (hk: ∀l':List α,l'.Perm l->l'.Pairwise (λa b=>¬ cf b a < 0)->K (.tup []) (eY hp id (.mrow e z cap (l'.map f)))):aF P pin fr hp (r.f 6) [.mw id z n, .fn g [] []] K:=by
 intro E ρ w tm hpin hm hf vs a2
 obtain⟨b4,a9⟩:=a2
 have b5: ∃v0 Q,vs= #[v0,Q]:=by
  rcases vs with⟨l⟩
  match l,b4 with
  | [a,b],_=>exact⟨a,b,rfl⟩
 obtain⟨v0,Q,rfl⟩:=b5
 have d0:=a9 0 _ v0 rfl rfl
 have c1:=a9 1 _ Q rfl rfl
 obtain⟨fv,cv,e1,f1,f2,_,_⟩:=c1.fn_inv
 have d1:fv= #[]:=Array.size_eq_zero_iff.1 (by simpa using f1)
 have c2:cv= #[]:=Array.size_eq_zero_iff.1 (by simpa using f2)
 subst d1;subst c2;subst e1
 obtain⟨A,c,e2,q1,q2,q3,q4,q5⟩:=d0.mw_inv
 obtain⟨n0,m0⟩:=hm.sat id _ ho
 rcases Nat.eq_zero_or_pos l.length with h0|h0
 ·-- no element
  have hl:l=[]:=List.length_eq_zero_iff.1 h0
  subst hl
  have b7:n=0:=by simpa using hn
  subst b7
  subst e2
  have a3:Calls P (r.f 6) #[.slice A 0 c, .func (.func g) #[] #[]] w λe w'=>e= .returned (.tuple #[])/\w'=w:=AnyF.slices_SortFunc_none L A c _ w
  refine a3.mono ?_
  rintro e' w' ⟨rfl,rfl⟩
  obtain⟨s1,s2,s3⟩:=hm.setMrow ho (w':=w') (cap':=cap) (rows':=([]:List α).map f) (v':=ρ.tv id) rfl rfl (.refl _) (Nat.le_refl _) (λ_ _ _=>rfl) m0 (λg hg=> .inl hg) (.inl ⟨rfl,rfl⟩)
  exact .inl ⟨_,_,_,_,rfl,hk [] (.refl _) .nil,s1,hf.mono s2 (λ_ _ x=>x) λi _=>s3 i, .tup [] _ rfl (by simp)⟩
 ·rcases m0 with⟨Z,_,_⟩|⟨b6,G,cur,p1,p2,p3,p4,p5,p6,p7⟩
  ·simp at Z;subst Z;simp at h0
  ·have a5:v0=ρ.tv id:=q5 (by rw [n0,List.length_map];exact hn)
   rw [p1,List.length_map]at a5
   subst a5
   clear e2
   rw [List.length_map]at p3 p6
   obtain⟨m,hm0⟩: ∃m,m=l.length:=⟨_,rfl⟩
   have h:l.length=m:=hm0.symm
   rw [h]at p3 p6 h0 hsz |-
   haveI:Inhabited (Fin m):=⟨⟨0,h0⟩⟩
   let enc:Fin m->List Value:= λi=>jI cur z i.1
   let d:Array (Fin m):=Array.ofFn λi:Fin m=>i
   have p:d.size=m:=by simp [d]
   have J: ∀x,(enc x).length=z:= λx=>aH1 p5 (by have:=x.2;omega)
   have hle:m * z<=cap * z:=Nat.mul_le_mul_right _ p3
   have H: ∀k,k < m * z-> ∃v,cur[k]? =some v/\v.oneCell'=true:= λk hk=>by
    have a4:k < cur.size:=by omega
    refine⟨cur[k],Array.getElem?_eq_getElem a4,p6.one _ ?_⟩
    have:(cur.toList.take (m * z))[k]? =some cur[k]:=by
     rw [List.getElem?_take,if_pos hk,Array.getElem?_toList,Array.getElem?_eq_getElem a4]
    exact List.mem_of_getElem? this
   have h1: ∀x,∀v∈enc x,v.oneCell'=true:=by
    intro x v F
    obtain⟨j,u,rfl⟩:=List.getElem_of_mem F
    have V:j < z:=by rw [J]at u;exact u
    obtain⟨v,Q,v2⟩:=H (x.1 * z+j) (jR V x.2)
    have T:=lB (cur:=cur) (i:=x.1) V
    rw [Q]at T
    have B:(enc x)[j]? =some v:=T
    rw [List.getElem?_eq_getElem u]at B
    injection B with B
    rw [B];exact v2
   have I: ∀i,i < m->(d[i]!).1=i:=by
    intro i hi
    have c7:i < d.size:=by rw [p];exact hi
    rw [getElem!_pos d i c7]
    simp [d]
   have hH:HoldsK enc z w G 0 d:=by
    intro j u
    rw [size_flatK,p]at u
    refine⟨?_,by simp [World.frozen?,p2]⟩
    rw [get_flatK _ _ _ _ (by rw [p];exact u)]
    have b0:j / z < m:=Nat.div_lt_of_lt_mul (by rw [Nat.mul_comm];exact u)
    have b9:j % z < z:=Nat.mod_lt _ hz
    have b8:j / z * z+j % z=j:=by rw [Nat.mul_comm];exact Nat.div_add_mod j z
    obtain⟨v,Q,_⟩:=H j u
    have T:=lB (cur:=cur) (i:=(d[j / z]!).1) b9
    rw [I _ b0,b8,Q]at T
    have B:(enc d[j / z]!)[j % z]? =some v:=by show (jI cur z (d[j / z]!).1)[j % z]? =_;rw [I _ b0];exact T
    rw [List.getElem!_of_getElem? B]
    simp only [World.cell?,p2,Nat.zero_add,Option.isSome_none,Bool.false_eq_true,if_false,Q,_root_.id]
   have c8:G < w.heap.size:=bD p2
   let cfI:Fin m->Fin m->Int:= λx y=>cf (l[x.1]'(h ▸ x.2)) (l[y.1]'(h ▸ y.2))
   have d2:SWO (ltOf cfI):=⟨λx=>hO.irrefl _,λx y z=>hO.trans _ _ _,λx y z=>hO.ntrans _ _ _⟩
   have N: ∀k os (R:Array (Fin m)),cF ρ.S w (sortWorldK enc z w G 0 k R os):= λk os R b i hb=>
    World.cell?_of_block (w:=w) (xG _ (hm.slt b i hb) λe=>p7 i (e ▸ hb))
   have W: ∀k os (R:Array (Fin m)),w.heap.size<=(sortWorldK enc z w G 0 k R os).heap.size:= λk os R=>by
    simp [sortWorldK,putRowK]
   have a6:CmpLays P g #[] enc z cfI G 0 d.size w:=by
    intro k os R hdk x y
    have rep: ∀x:Fin m,RepD (sortWorldK enc z w G 0 k R os) ρ.S (.agg (f (l[x.1]'(h ▸ x.2)))) (.agg (enc x).toArray):=by
     intro x
     have Y:(l.map f)[x.1]? =some (f (l[x.1]'(h ▸ x.2))):=by rw [List.getElem?_map,List.getElem?_eq_getElem (h ▸ x.2)];rfl
     have a8:=p6.hz _ (List.mem_of_getElem? Y)
     refine .agg _ _ (by rw [List.size_toArray,J,a8]) λj q v hq F=> ?_
     have u:j < z:=by rw [<-a8];exact(List.getElem?_eq_some_iff.1 hq).1
     obtain⟨v',Q,v2⟩:=p6.at_ _ _ j q Y hq
     rw [List.getElem?_take,if_pos (jR u x.2),Array.getElem?_toList]at Q
     rw [List.getElem?_toArray]at F
     have T:=lB (cur:=cur) (i:=x.1) u
     rw [Q]at T
     have B:some v=some v':=F.symm.trans T
     injection B with B
     subst B
     exact v2.mono (N k os R) λ_ _ x=>x
    have ht:=hc _ (List.getElem_mem (show x.1 < l.length by rw [h];exact x.2)) _ (List.getElem_mem (show y.1 < l.length by rw [h];exact y.2))
    unfold Tri at ht
    refine(ht (sortWorldK enc z w G 0 k R os) ρ #[.agg (enc x).toArray, .agg (enc y).toArray] (λb i hb=>Nat.lt_of_lt_of_le (hm.slt b i hb) (W k os R)) ⟨rfl, ?_⟩ (by intro id o ho;cases ho)).mono ?_
    ·intro j s v U F
     match j,U,F with
     | 0,U,F=>simp at U F;subst U;subst F;exact .d _ _ (rep x)
     | 1,U,F=>simp at U F;subst U;subst F;exact .d _ _ (rep y)
     |j+2,U,_=>simp at U
    ·rintro e' w' ⟨v,S',s,rfl,rfl,hg,_,_,_,hr⟩
     have:=hr.int_inv
     subst this
     exact⟨rfl,bAd hg⟩
   have a7:=AnyQ.slices_SortFunc L z aE zE enc J h1 cfI d2 g #[] G 0 cap d w eg a6 hH c8 (by rw [p];exact hsz)
   rw [p]at a7
   refine a7.mono ?_
   rintro e' w' ⟨rfl,C,k,os,hP,hS,rfl⟩
   have b2:C.size=m:=by have:=hP.1;rw [p]at this;exact this
   have b1:=aTs h hz p3 p5 p6 (N k os C) C b2
   obtain⟨l',hl'⟩: ∃l':List α,l'=C.toList.map λi=>l[i.1]'(h ▸ i.2):=⟨_,rfl⟩
   rw [<-hl']at b1
   have hd:d.toList.map (λi=>l[i.1]'(h ▸ i.2))=l:=by
    apply List.ext_getElem
    ·simp [d,h]
    ·intro i h1 T
     simp [d]
   have O:l'.Perm l:=by
    have B:=hP.2.2
    have e1:C.extract 0 m=C:=Array.extract_eq_self_of_le (by omega)
    have e2:d.extract 0 m=d:=Array.extract_eq_self_of_le (by omega)
    rw [e1,e2]at B
    have:=B.map (λi:Fin m=>l[i.1]'(h ▸ i.2))
    rw [hd,<-hl']at this
    exact this
   have a1:l'.Pairwise (λa b=>¬ cf b a < 0):=by
    rw [hl',List.pairwise_map,List.pairwise_iff_getElem]
    intro i j hi u c3
    have c9:i < C.size:=by simpa using hi
    have V:j < C.size:=by simpa using u
    have:=hS i j (Nat.zero_le _) c3 (by omega)
    rw [getElem!_pos C i c9,getElem!_pos C j V]at this
    have h4:=of_decide_eq_false this
    simpa using h4
   have M:(l'.map f).length=(l.map f).length:=by rw [List.length_map,List.length_map,O.length_eq]
   have c4:(l'.map f).length=m:=by rw [M,List.length_map,h]
   have b3:gX (sortWorldK enc z w G 0 k C os) ρ.S e z cap (l'.map f) (ρ.tv id):=by
    refine .inr ⟨b6,G,_, ?_,aI7 _ p2,by omega,p4, ?_,by rw [c4];exact b1,p7⟩
    ·rw [p1,M]
    ·rw [putCells,Array.size_mapIdx];exact p5
   have c5: ∀{b:Nat},b=G->gB (ρ.tv id)=some b:= λe=>by
    have:cap≠0:=by omega
    rw [p1,e];simp [gB,this]
   obtain⟨s1,s2,s3⟩:=hm.setMrow ho (w':=sortWorldK enc z w G 0 k C os) (cap':=cap) (v':=ρ.tv id) rfl rfl ⟨rfl,Nat.le_add_right w.drawn k⟩ (W k os C) (λb hb c6=>xG _ hb λe=>c6 (c5 e)) b3 (λg hg=> .inl hg) (.inl ⟨M,rfl⟩)
   exact .inl ⟨_,_,_,_,rfl,hk l' O a1,s1,hf.mono s2 (λ_ _ x=>x) λi _=>s3 i, .tup [] _ rfl (by simp)⟩
theorem xH {r:Ren}(L:Lays.n190 P r) (l:List (List UInt8)) {pin:Pin}{fr:Fr}{hp:Hp}{K:SV->Hp->Prop}{id e cap n:Nat}(ho:aP hp id=some (.mrow e 1 cap (l.map λs=>[D.str s]))) (hn:n=l.length) (hsz:l.length < 4611686018427387904)
  (hk:K (.tup []) (eY hp id (.mrow e 1 cap ((l.mergeSort λx y=>decide (x<=y)).map λs=>[D.str s])))):aF P pin fr hp (r.f 190) [.mw id 1 n] K:=by
 intro E ρ w tm hpin I hf vs o
 obtain⟨O,V⟩:=o
 have Q: ∃H,vs= #[H]:=by
  rcases vs with⟨l⟩
  match l,O with
  | [a],_=>exact⟨a,rfl⟩
 obtain⟨H,rfl⟩:=Q
 have a3:=V 0 _ H rfl rfl
 obtain⟨A,c,e2,q1,q2,q3,q4,q5⟩:=a3.mw_inv
 obtain⟨n0,m0⟩:=I.sat id _ ho
 rcases Nat.eq_zero_or_pos l.length with h0|h0
 ·have hl:l=[]:=List.length_eq_zero_iff.1 h0
  subst hl
  have U:n=0:=by simpa using hn
  subst U
  subst e2
  have p:=Any.slices_Sort_string_none L A c w
  refine p.mono ?_
  rintro e' w' ⟨rfl,rfl⟩
  obtain⟨Z,W,J⟩:=I.setMrow ho (w':=w') (cap':=cap) (rows':=([]:List (List UInt8)).map λs=>[D.str s]) (v':=ρ.tv id) rfl rfl (.refl _) (Nat.le_refl _) (λ_ _ _=>rfl) m0 (λg hg=> .inl hg) (.inl ⟨rfl,rfl⟩)
  exact .inl ⟨_,_,_,_,rfl,by simpa using hk,Z,hf.mono W (λ_ _ x=>x) λi _=>J i, .tup [] _ rfl (by simp)⟩
 ·rcases m0 with⟨m,_,_⟩|⟨R,t,cur,N,p2,p3,p4,p5,Y,p7⟩
  ·simp at m;subst m;simp at h0
  ·have B:H=ρ.tv id:=q5 (by rw [n0,List.length_map];exact hn)
   rw [N,List.length_map]at B
   subst B
   rw [List.length_map,Nat.mul_one]at Y
   rw [List.length_map]at p3
   have hle:l.length<=cur.size:=by omega
   have q:cur.toList.take l.length=l.map encStr:=by
    apply List.ext_getElem?
    intro j
    rcases Nat.lt_or_ge j l.length with u|u
    ·have d:(l.map λs=>[D.str s])[j]? =some [D.str l[j]]:=by rw [List.getElem?_map,List.getElem?_eq_getElem u];rfl
     obtain⟨v,v1,T⟩:=Y.at_ j _ 0 _ d rfl
     rw [Nat.mul_one,Nat.add_zero]at v1
     rw [v1,List.getElem?_map,List.getElem?_eq_getElem u]
     cases T
     rfl
    ·rw [List.getElem?_eq_none (by rw [List.length_take];omega),List.getElem?_eq_none (by rw [List.length_map];exact u)]
   have z: ∀s∈l,s.length<=maxLen:=by
    intro s hs
    obtain⟨j,u,rfl⟩:=List.getElem_of_mem hs
    have d:(l.map λs=>[D.str s])[j]? =some [D.str l[j]]:=by rw [List.getElem?_map,List.getElem?_eq_getElem u];rfl
    obtain⟨v,v1,T⟩:=Y.at_ j _ 0 _ d rfl
    cases T
    assumption
   obtain⟨l',hl'⟩: ∃l',l'=l.mergeSort λx y=>decide (x<=y):=⟨_,rfl⟩
   rw [<-hl']at hk
   have h:l'.Perm l:=by rw [hl'];exact List.mergeSort_perm _ _
   have C:l'.length=l.length:=h.length_eq
   refine(Any.slices_Sort_string L t 0 cap l w (holds_of_block p2 q) (bD p2) hsz).mono ?_
   rintro e' w' ⟨rfl,k,os,rfl⟩
   rw [<-hl']
   have hkeep:cF ρ.S w (grow (putRow encStr (Sort.ahead w k) t 0 l'.toArray) os):= λb i hb=>
    World.cell?_of_block (w:=w) ((grownBy_sorted l'.toArray).block b (I.slt b i hb) λe=>p7 i (by injection e with e;exact e ▸ hb))
   have G:gX (grow (putRow encStr (Sort.ahead w k) t 0 l'.toArray) os) ρ.S e 1 cap (l'.map λs=>[D.str s]) (ρ.tv id):=by
    refine .inr ⟨R,t,_, ?_,heap_sorted _ p2,by rw [List.length_map];omega,p4,by rw [putCells,Array.size_mapIdx];exact p5, ?_,p7⟩
    ·rw [N,List.length_map,List.length_map,C]
    ·rw [List.length_map,Nat.mul_one,take_putCells cur l' (by omega)]
     refine⟨by simp, ?_, ?_, ?_⟩
     ·intro M hr
      rw [List.mem_map]at hr
      obtain⟨_,_,rfl⟩:=hr
      rfl
     ·intro v hv
      rw [List.mem_map]at hv
      obtain⟨_,_,rfl⟩:=hv
      rfl
     ·intro i M j x F h2
      rw [List.getElem?_map,Option.map_eq_some_iff]at F
      obtain⟨s,F,rfl⟩:=F
      cases j with
      |succ j=>simp at h2
      |zero=>
       simp at h2
       subst h2
       refine⟨encStr s,by rw [Nat.mul_one,Nat.add_zero,List.getElem?_map,F];rfl, ?_⟩
       exact .str s (z s (h.mem_iff.1 (List.mem_of_getElem? F)))
   have a1: ∀{b:Nat},b=t->gB (ρ.tv id)=some b:= λe=>by
    have:cap≠0:=by omega
    rw [N,e];simp [gB,this]
   obtain⟨Z,W,J⟩:=I.setMrow ho (w':=grow (putRow encStr (Sort.ahead w k) t 0 l'.toArray) os) (cap':=cap) (rows':=l'.map λs=>[D.str s]) (v':=ρ.tv id) rfl rfl ⟨rfl,Nat.le_add_right w.drawn k⟩ (grownBy_sorted (os:=os) l'.toArray).size
    (λb hb a2=>(grownBy_sorted l'.toArray).block b hb λe=>a2 (a1 (Option.some.inj e))) G (λg hg=> .inl hg) (.inl ⟨by rw [List.length_map,List.length_map,C],rfl⟩)
   exact .inl ⟨_,_,_,_,rfl,hk,Z,hf.mono W (λ_ _ x=>x) λi _=>J i, .tup [] _ rfl (by simp)⟩
end
end
end Go.Proofs.YtbobcfjlbcgchaaGreatDoor
