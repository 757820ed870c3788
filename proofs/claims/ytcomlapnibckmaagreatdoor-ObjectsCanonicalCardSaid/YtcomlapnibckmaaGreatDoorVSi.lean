/-
  Symbolic operations, one by one: slices, stores, new variables, append.
  Conditions: none.
-/
import Derived.Test.YtcomlapnibckmaaGreatDoorVSh
set_option linter.unusedSectionVars false
set_option linter.unusedSimpArgs false
set_option linter.unusedVariables false
namespace Go.Proofs.YtcomlapnibckmaaGreatDoor
open Go.RowKit
section
variable {P:Program}
def pA (fr:Fr):Option Operand->Option (Option SV)
 |none=>some none
 |some x=>match evO fr x with|some s=>some (some s)|none=>none
def cut (n:Nat) (lo hi mx:Option SV) (K:Nat->Nat->Prop):Prop:=
 match mx with
 |none=>
  (match lo, hi with
  |none,none=>K 0 n
  |some (.d (.int _ l)),none=>0<=l/\l.toNat<=n/\K l.toNat n
  |none,some (.d (.int _ h))=>0<=h/\h.toNat<=n/\K 0 h.toNat
  |some (.d (.int _ l)),some (.d (.int _ h))=>0<=l/\l<=h/\h.toNat<=n/\K l.toNat h.toNat
  |_,_=>aF "slice: bounds")
 |some (.d (.int _ m))=>
  (match lo, hi with
  |none,some (.d (.int _ h))=>0<=h/\h<=m/\m.toNat<=n/\K 0 h.toNat
  |some (.d (.int _ l)),some (.d (.int _ h))=>0<=l/\l<=h/\h<=m/\m.toNat<=n/\K l.toNat h.toNat
  |_,_=>aF "slice: bounds")
 |_=>aF "slice: bounds"
theorem View.part_ {w:World}{S:Nat->Nat->Prop}{z:Nat}{rows:List (List D)}{b o i off:Nat}{row:List D}(h:View w S z rows b o) (hi:rows[i]? =some row) (n:Nat):View w S 1 (((row.drop off).take n).map λc=>[c]) b (o+(i * z+off)):=by
 refine⟨λr hr=> ?_,λk r j x h1 h2=> ?_⟩
 ·obtain⟨c,_,rfl⟩:=List.mem_map.1 hr;rfl
 ·rw [List.getElem?_map,Option.map_eq_some_iff]at h1
  obtain⟨c,h1,rfl⟩:=h1
  have hj:j=0/\x=c:=by
   cases j with
   |zero=>simp at h2;exact⟨rfl,h2.symm⟩
   |succ j=>simp at h2
  obtain⟨rfl,rfl⟩:=hj
  rw [List.getElem?_take]at h1
  split at h1
  ·rw [List.getElem?_drop]at h1
   have:=h.cell i row (off+k) x hi h1
   have e:o+(i * z+off)+(k * 1+0)=o+(i * z+(off+k)):=by omega
   rw [e];exact this
  ·cases h1
def aAd (ti:TypeId->Option TI) (t:TypeId) (s:SV) (lo hi mx:Option SV) (K:SV->Prop):Prop:=
 match ti t with
 |some { td:= .string, .. }=>(match s with| .d (.str l)=>mx.isNone=true/\cut l.length lo hi mx λa b=>K (.d (.str ((l.take b).drop a)))|_=>aF "slice: no string")
 |some { td:= .slice e, .. }=>
  (match ti e with
  |some T=>
   (match s with
   | .d .nil=>cut 0 lo hi mx λ_ _=>K (.d (.sl T.size []))
   |s=>match mU s with
    |some (z,rows)=>T.size=z/\cut rows.length lo hi mx λa b=>K (.d (.sl z ((rows.take b).drop a)))
    |none=>aF "slice: no slice")
  |none=>aF "slice: an element's type")
 |some { td:= .array n e, .. }=>
  (match ti e with
  | some T => (match s, lo, hi, mx with
   | .ptr id off,none,none,none=>n<=9223372036854775807/\K (.msl id T.size off n)
   | .ea z rows i off,none,none,none=> ∃row,rows[i]? =some row/\T.size=1/\off+n<=z/\n<=9223372036854775807/\K (.d (.sl 1 (((row.drop off).take n).map λc=>[c])))
   |_,_,_,_=>aF "slice: an array")
  |none=>aF "slice: an element's type")
 |_=>aF "slice: a type"
theorem vJ {n cap:Nat}(isSl:Bool) {lo hi mx:Option SV}{lv hv mv:Option Value}{w:World}{ρ:Env}{K:Nat->Nat->Prop}(hc:n<=cap)
  (hl: ∀s,lo=some s-> ∃v,lv=some v/\Rep w ρ s v) (hl0:lo=none->lv=none) (hh: ∀s,hi=some s-> ∃v,hv=some v/\Rep w ρ s v) (hh0:hi=none->hv=none)
  (hm: ∀s,mx=some s-> ∃v,mv=some v/\Rep w ρ s v) (hm0:mx=none->mv=none) (h:cut n lo hi mx K):
  ∃a b m,(∀w',(Instr.sliceBounds isSl n cap lv hv mv).run P w'= .ok (a,b,m) w')/\a<=b/\b<=n/\b<=m/\m<=cap/\K a b:=by
 unfold cut at h
 split at h
 ·have e3:=hm0 rfl
  subst e3
  split at h
  ·have e1:=hl0 rfl;have e2:=hh0 rfl
   subst e1;subst e2
   exact⟨0,n,cap,λw'=>by simp [Instr.sliceBounds],by omega,by omega,hc,by omega,h⟩
  ·rename_i k l
   obtain⟨v,e1,r1⟩:=hl _ rfl
   have e2:=hh0 rfl
   subst e1;subst e2
   obtain⟨h0,h1,hk⟩:=h
   have h1':l<=(n:Int):=by omega
   exact⟨l.toNat,n,cap,λw'=>by simp [Instr.sliceBounds,r1.int_inv,run_sliceBound,h0,h1'],by omega,by omega,hc,by omega,hk⟩
  ·rename_i k hh'
   obtain⟨v,e1,r1⟩:=hh _ rfl
   have e2:=hl0 rfl
   subst e1;subst e2
   obtain⟨h0,h1,hk⟩:=h
   have h1':hh'<=(cap:Int):=by omega
   exact⟨0,hh'.toNat,cap,λw'=>by simp [Instr.sliceBounds,r1.int_inv,run_sliceBound,h0,h1'],by omega,by omega,by omega,by omega,hk⟩
  ·rename_i k l k' hh'
   obtain⟨v,e1,r1⟩:=hh _ rfl
   obtain⟨v',e2,r2⟩:=hl _ rfl
   subst e1;subst e2
   obtain⟨h0,h1,h2,hk⟩:=h
   have h1':hh'<=(cap:Int):=by omega
   have h0':0<=hh':=by omega
   have h3:l<=(hh'.toNat:Int):=by omega
   refine⟨l.toNat,hh'.toNat,cap,λw'=> ?_,by omega,by omega,by omega,by omega,hk⟩
   simp only [Instr.sliceBounds,r1.int_inv,r2.int_inv,Sem.run_bind,Sem.run_pure,Result.andThen_ok,run_sliceBound (P:=P) w' k' hh' cap _ h0' h1']
   simp only [run_sliceBound (P:=P) w' k l hh'.toNat _ h0 h3,Result.andThen_ok]
  ·exact h.elim
 ·rename_i km m
  obtain⟨vm,e3,r3⟩:=hm _ rfl
  subst e3
  split at h
  ·rename_i k hh'
   obtain⟨v,e1,r1⟩:=hh _ rfl
   have e2:=hl0 rfl
   subst e1;subst e2
   obtain⟨h0,h1,h2,hk⟩:=h
   have hm0:0<=m:=by omega
   have hm1:m<=(cap:Int):=by omega
   have h3:hh'<=(m.toNat:Int):=by omega
   refine⟨0,hh'.toNat,m.toNat,λw'=> ?_,by omega,by omega,by omega,by omega,hk⟩
   simp only [Instr.sliceBounds,r1.int_inv,r3.int_inv,Sem.run_bind,Sem.run_pure,Result.andThen_ok,run_sliceBound (P:=P) w' km m cap _ hm0 hm1]
   simp only [run_sliceBound (P:=P) w' k hh' m.toNat _ h0 h3,Result.andThen_ok]
  ·rename_i k l k' hh'
   obtain⟨v,e1,r1⟩:=hh _ rfl
   obtain⟨v',e2,r2⟩:=hl _ rfl
   subst e1;subst e2
   obtain⟨h0,h1,h2,h3,hk⟩:=h
   have hm0:0<=m:=by omega
   have hm1:m<=(cap:Int):=by omega
   have h0':0<=hh':=by omega
   have h4:hh'<=(m.toNat:Int):=by omega
   have h5:l<=(hh'.toNat:Int):=by omega
   refine⟨l.toNat,hh'.toNat,m.toNat,λw'=> ?_,by omega,by omega,by omega,by omega,hk⟩
   simp only [Instr.sliceBounds,r1.int_inv,r2.int_inv,r3.int_inv,Sem.run_bind,Sem.run_pure,Result.andThen_ok,run_sliceBound (P:=P) w' km m cap _ hm0 hm1]
   simp only [run_sliceBound (P:=P) w' k' hh' m.toNat _ h0' h4,Result.andThen_ok]
   simp only [run_sliceBound (P:=P) w' k l hh'.toNat _ h0 h5,Result.andThen_ok]
  ·exact h.elim
 ·exact h.elim
theorem View.cut_ {w:World}{S:Nat->Nat->Prop}{z:Nat}{rows:List (List D)}{b off:Nat}(h:View w S z rows b off) (l m:Nat):View w S z ((rows.take m).drop l) b (off+l * z):=by
 refine⟨λrow hr=>h.hz row (List.mem_of_mem_take (List.mem_of_mem_drop hr)),λi row j x h1 h2=> ?_⟩
 rw [List.getElem?_drop,List.getElem?_take]at h1
 split at h1
 ·obtain⟨v,a1,a2,a3,a4⟩:=h.cell (l+i) row j x h1 h2
  have e:off+((l+i)* z+j)=off+l * z+(i * z+j):=by rw [Nat.add_mul];omega
  rw [e]at a1 a2
  exact⟨v,a1,a2,a3,a4⟩
 ·cases h1
theorem lY {ρ:Env}{w:World}{fr:Fr}{a:Act}(hf:cE ρ w fr a.tmps) {x:Option Operand}{s:Option SV}(h:pA fr x=some s):
  (∀r,s=some r-> ∃v,x.map a.eval=some v/\Rep w ρ r v)/\(s=none->x.map a.eval=none):=by
 cases x with
 |none=>simp [pA]at h;subst h;simp
 |some x=>
  simp only [pA]at h
  split at h
  ·rename_i r hr
   simp at h
   subst h
   exact⟨λr' e=>⟨a.eval x,rfl,by injection e with e;subst e;exact aU hf hr⟩,λe=>by cases e⟩
  ·cases h
theorem aD6 {ti:TypeId->Option TI}(hti:cW P ti) {o:Oper}{t:TypeId}{x:Operand}{lo hi mx:Option Operand}(ho:o.op= .slice t x lo hi mx) {fr:Fr}{hp:Hp}{K:SV->Prop}
  (h : ev fr x λs => match pA fr lo with
   | some l => (match pA fr hi with
    |some h=>(match pA fr mx with|some m=>aAd ti t s l h m K|none=>aF "slice: max")
    |none=>aF "slice: high")
   |none=>aF "slice: low"):cQ P o fr hp K:=by
 intro E ρ a w hm hf
 obtain⟨s,hs,hv0⟩:=bV h
 have hr:=aU hf hs
 split at hv0
 ·rename_i l hl
  split at hv0
  ·rename_i hh hhh
   split at hv0
   ·rename_i m hm'
    obtain⟨l1,l2⟩:=lY hf hl
    obtain⟨h1,h2⟩:=lY hf hhh
    obtain⟨m1,m2⟩:=lY hf hm'
    have hv:=hv0
    clear hv0
    unfold aAd at hv
    split at hv
    ·rename_i hT
     obtain⟨d,i,z,hT⟩:=aM (hti _ _ hT)
     have hd:=dR hT.td
     subst hd
     split at hv
     ·rename_i l'
      obtain⟨hmx,hv⟩:=hv
      obtain⟨e,hle⟩:=hr.str_inv
      have hmn:m=none:=by simpa using hmx
      obtain⟨a',b,m',hrun,hab,hbn,hbm,hmc,hk⟩:=vJ (P:=P) false (Nat.le_refl _) l1 l2 h1 h2 m1 m2 hv
      have hmv:mx.map a.eval=none:=m2 hmn
      rw [hmv]at hrun
      have hmxn:mx.isSome=false:=by cases mx<;>simp_all
      refine⟨.string ((⟨l'.toArray⟩:ByteArray).extract a' b),_,λw' _=> ?_, ?_,hk⟩
      ·have hsz:(⟨l'.toArray⟩:ByteArray).size=l'.length:=rfl
       simp [execOp,ho,Instr.sliceAt,run_underlying hT.und,Instr.slice,e,hmv,hsz,hrun]
      ·have e2:(⟨l'.toArray⟩:ByteArray).extract a' b=⟨((l'.take b).drop a').toArray⟩:=by
        apply ByteArray.ext
        simp [ByteArray.data_extract,List.extract_toArray,List.drop_take]
       rw [e2]
       exact .d _ _ (.str _ (by simp only [maxLen,List.length_drop,List.length_take];omega))
     ·exact hv.elim
    ·rename_i e _ _ _ hT
     obtain⟨d,i,z,hT⟩:=aM (hti _ _ hT)
     have hd:=bL hT.td
     subst hd
     split at hv
     ·rename_i T hT2
      obtain⟨d2,i2,z2,hT2⟩:=aM (hti _ _ hT2)
      have hgo: ∀(A:Option Addr) (len cap a' b m':Nat),a.eval x= .slice A len cap->(∀w',(Instr.sliceBounds true len cap (lo.map a.eval) (hi.map a.eval) (mx.map a.eval)).run P w'= .ok (a',b,m') w')->
        ∀w',Kept ρ hp w w'->(execOp a.eval o).run P w'= .ok (.value (.slice (if m'=a' then A else A.map (·.add (a' * T.size))) (b - a') (m' - a'))) w':=by
       intro A len cap a' b m' e1 e2 w' _
       simp [execOp,ho,Instr.sliceAt,run_underlying hT.und,Instr.slice,e1,e2,hT2.run_size]
      split at hv
      ·have e1:=hr.nil_inv
       obtain⟨a',b,m',hrun,hab,hbn,hbm,hmc,hk⟩:=vJ (P:=P) true (Nat.le_refl _) l1 l2 h1 h2 m1 m2 hv
       refine⟨_,_,hgo _ _ _ _ _ _ e1 hrun, .d _ _ ?_,hk⟩
       exact RepD.mk_sl (b:=0) (off:=0) (by simp) (by simp only [maxLen];omega) (λhne=>absurd rfl hne) ⟨by simp,by simp⟩ (by simp;omega)
      ·split at hv
       ·rename_i z' rows hrows
        obtain⟨hz,hv⟩:=hv
        obtain⟨A,cap,bb,off,e1,hnc,hcm,hA,hview⟩:=(fX hrows hr).of_sl
        obtain⟨a',b,m',hrun,hab,hbn,hbm,hmc,hk⟩:=vJ (P:=P) true hnc l1 l2 h1 h2 m1 m2 hv
        refine⟨_,_,hgo _ _ _ _ _ _ e1 hrun, .d _ _ ?_,hk⟩
        refine RepD.mk_sl (b:=bb) (off:=off+a' * z') (by simp only [List.length_drop,List.length_take];omega) (by simp only [maxLen]at hcm |-;omega) ?_ (hview.cut_ a' b) (by simp only [List.length_drop,List.length_take];omega)
        intro hne
        have hlt:a' < b:=by
         rcases Nat.lt_or_ge a' b with h|h
         ·exact h
         ·exact absurd (List.drop_eq_nil_of_le (by rw [List.length_take];omega)) hne
        have hne':rows≠[]:=by rintro rfl;simp at hne
        rw [hA hne',if_neg (by omega),hz]
        simp [bS]
       ·exact hv.elim
     ·exact hv.elim
    ·rename_i n e _ _ _ hT
     obtain⟨d,i,z,hT⟩:=aM (hti _ _ hT)
     have hd:=fH hT.td
     subst hd
     split at hv
     ·rename_i T hT2
      obtain⟨d2,i2,z2,hT2⟩:=aM (hti _ _ hT2)
      split at hv
      ·rename_i id off
       obtain⟨g,hg,e1⟩:=hr.ptr_inv
       have q1:=l2 rfl
       have q2:=h2 rfl
       have q3:=m2 rfl
       refine⟨.slice (some ⟨g,off,none⟩) n n,_,λw' _=> ?_, .msl id T.size off n g n hg (Nat.le_refl _) (by simpa only [maxLen]using hv.1),hv.2⟩
       simp [execOp,ho,Instr.sliceAt,run_underlying hT.und,e1,q1,q2,q3,Instr.sureAddr,Instr.sliceBounds,hT2.run_size,Addr.add]
      ·rename_i z' rows i' off
       obtain⟨bb,o',hview,e1⟩:=hr.ea_inv
       obtain⟨row,g1,g2,g3,g4,g5⟩:=hv
       have q1:=l2 rfl
       have q2:=h2 rfl
       have q3:=m2 rfl
       have hrow:=hview.hz row (List.mem_of_getElem? g1)
       have hlen:(((row.drop off).take n).map λc=>[c]).length=n:=by rw [List.length_map,List.length_take,List.length_drop];omega
       refine⟨.slice (some ⟨bb,o'+(i' * z'+off),none⟩) n n,_,λw' _=> ?_, .d _ _ (RepD.mk_sl (b:=bb) (off:=o'+(i' * z'+off)) (by rw [hlen];exact Nat.le_refl _) (by simpa only [maxLen]using g4) (λ_=>rfl) (hview.part_ g1 n) hlen.symm),g5⟩
       simp [execOp,ho,Instr.sliceAt,run_underlying hT.und,e1,q1,q2,q3,Instr.sureAddr,Instr.sliceBounds,hT2.run_size,Addr.add]
      ·exact hv.elim
     ·exact hv.elim
    ·exact hv.elim
   ·exact hv0.elim
  ·exact hv0.elim
 ·exact hv0.elim
def gN (id:Nat) (pin:Pin) (fr:Fr) (hp:Hp):Prop:=id∉pin/\id∉eG fr/\id∉mH hp
def aAc (ti:TypeId->Option TI) (t:TypeId) (s x:SV) (hp:Hp) (K:Hp->Prop):Prop:=
 match ti t with
 |some T=>
  (match s with
  | .ptr id off=>
   (match aO hp id with
   |some (.cells t' cs)=>
    if T.td.isAgg then
     (match mE x with
     |some ns=>ns.length=T.size/\off+T.size<=cs.length/\(∀n∈ns,pQ n=true)/\dK hp id (.cells t' (gS cs off ns)) K
     |none=>aF "store: no struct")
    else T.size=1/\pQ x=true/\off < cs.length/\dK hp id (.cells t' (cs.set off x)) K
   |_=>aF "store: no such object")
  |_=>aF "store: no address of an object")
 |none=>aF "store: a type"
theorem yN (cs:List SV) (off:Nat) (x:SV) (h:off < cs.length):gS cs off [x]=cs.set off x:=by
 unfold gS
 rw [List.set_eq_take_append_cons_drop,if_pos h]
 simp
theorem mT {t:TypeId}{T:TI}{d:TypeDesc}{i:TypeInfo}{z:Value}(hT:TIok P t T d i z) (w:World) (g off:Nat) (v:Value) (hv:v.cells.size=T.size) (cur:Array Value) (t':TypeId) (hg:w.heap[g]? =some (.cells cur t' (0,0)))
  (hfit:off+v.cells.toList.length<=cur.size) (h1: ∀u∈v.cells.toList,u.oneCell'=true):
  (storeVar t ⟨g,off,none⟩ v).run P w= .ok () (w.setRow g (cur.toList.take off++v.cells.toList++cur.toList.drop (off+v.cells.toList.length)).toArray):=by
 have:=run_storeCells_at P g off t' v.cells.toList 0 cur w hg (by simpa using hfit) h1
 simp only [Nat.add_zero]at this
 simp only [storeVar,Sem.run_bind,hT.run_size,Result.andThen_ok,hv,ne_eq,not_true_eq_false,if_false]
 exact this
theorem aD5 {ti:TypeId->Option TI}(hti:cW P ti) {o:Oper}{t:TypeId}{x y:Operand}(ho:o.op= .store t x y) {pin:Pin}{fr:Fr}{hp:Hp}{K:SV->Hp->Prop}
  (h:ev fr x λs=>ev fr y λr=>aAc ti t s r hp λhp'=>K (.d (.lit undef)) hp'):tB P o pin fr hp K:=by
 intro E ρ a w _ hm hf next Q hn
 obtain⟨s,hs,hv0⟩:=bV h
 obtain⟨r,hr,hv⟩:=bV hv0
 clear hv0
 have h1:=aU hf hs
 have h2:=aU hf hr
 unfold aAc at hv
 split at hv
 ·rename_i T hT
  obtain⟨d,i,z,hT⟩:=aM (hti _ _ hT)
  split at hv
  ·rename_i id off
   obtain⟨g,hg,e1⟩:=h1.ptr_inv
   split at hv
   ·rename_i t' cs hoo
    have fin: ∀(ns:List SV) (v:Value),a.eval y=v->v.cells.toList.length=ns.length->v.cells.size=T.size->off+ns.length<=cs.length->(∀u∈v.cells.toList,u.oneCell'=true)->
      (∀(j:Nat) (s:SV) (u:Value),ns[j]? =some s->v.cells.toList[j]? =some u->Rep w ρ s u)->K (.d (.lit undef)) (fI hp id (.cells t' (gS cs off ns)))->o.wp P a w next Q:=by
     intro ns v ev1 q1 q2 q3 q4 q5 hk
     obtain⟨cur,c1,c2,c3,c4⟩:=hm.store hoo hg ns v.cells.toList q1 q3 q4 q5
     refine rK ?_ (hn undef _ ρ _ _ hk c3 (c4 fr _ hf) (.d _ _ (.lit _)))
     simp [execOp,ho,Instr.storeAt,e1,ev1,Instr.sureAddr,mT hT w g off v q2 cur t' c1 c2 q4]
    split at hv
    ·split at hv
     ·rename_i ns hns
      obtain⟨k1,k2,k3,hk⟩:=hv
      rw [cN]at hk
      obtain⟨vs,ev1,hl,hh⟩:=lE hns h2
      refine fin ns (.agg vs) ev1 (by simpa [Value.cells]using hl) (by simp [Value.cells];omega) (by omega) ?_ ?_ hk
      ·intro u hu
       obtain⟨j,hj,rfl⟩:=List.getElem_of_mem hu
       simp only [Value.cells]at hj |-
       have hjl:j < ns.length:=by rw [<-hl];simpa using hj
       exact nL (hh j ns[j] _ (List.getElem?_eq_getElem hjl) (by simp [Array.getElem?_eq_getElem (show j < vs.size by simpa using hj)])) (k3 _ (List.getElem_mem hjl))
      ·intro j s u hs' hu
       exact hh j s u hs' (by simpa [Value.cells]using hu)
     ·exact hv.elim
    ·obtain⟨k1,k2,k3,hk⟩:=hv
     rw [cN]at hk
     have ho1:=nL h2 k2
     have hcells:(a.eval y).cells= #[a.eval y]:=by
      generalize a.eval y=u at *
      cases u<;>simp_all [Value.oneCell',Value.cells]
     refine fin [r] (a.eval y) rfl (by simp [hcells]) (by simp [hcells,k1]) (by simp only [List.length_singleton];omega) ?_ ?_ (by rw [yN cs off r k3];exact hk)
     ·intro u hu
      simp [hcells]at hu
      subst hu
      exact ho1
     ·intro j s u hs' hu
      simp only [hcells]at hu
      cases j with
      |zero=>simp at hs' hu;subst hs';subst hu;exact h2
      |succ j=>simp at hs'
   ·exact hv.elim
  ·exact hv.elim
 ·exact hv.elim
theorem Env.upd_kb (ρ:Env) {id g i:Nat}{x:HObj}(h:i≠id):(ρ.upd id g).kb i x=ρ.kb i x:=by
 cases x<;>simp [Env.kb,Env.upd,h]
theorem qO {o:Oper}{a:Act}{w:World}{E:Entry}{ρ:Env}{hp:Hp}{fr:Fr}{pin:Pin}{next:Act->World->Prop}{Q:Exit->Act->World->Prop}{K:SV->Hp->Prop}(hp':E.pin=pin) (hm:Mem E ρ hp w) (hf:cE ρ w fr a.tmps)
  (hn: ∀v w' ρ' s hp',K s hp'->Mem E ρ' hp' w'->cE ρ' w' fr a.tmps->Rep w' ρ' s v->KInfo ρ hp w ρ' hp' w'->next (a.put o.dst v) w')
  (id:Nat) (t:TypeId) (cs:List SV) (vs:Array Value) (hfr:gN id pin fr hp) (hids:id∉SV.idsL cs) (hl:vs.size=cs.length) (h1: ∀v∈vs,v.oneCell'=true)
  (hr: ∀(j:Nat) (s:SV) (v:Value),cs[j]? =some s->vs[j]? =some v->Rep w ρ s v) (hk:K (.ptr id 0) ((id, .cells t cs)::hp))
  (hrun:(execOp a.eval o).run P w= .ok (.value (.pointer (some ⟨w.heap.size,0,none⟩))) (w.alloc (.cells vs t))):o.wp P a w next Q:=by
 obtain⟨f1,f2,f3⟩:=hfr
 obtain⟨m1,m2,_⟩:=hm.alloc id vs t cs f3 (by rw [hp'];exact f1) hl h1 hr hids
 refine bW hrun (hn _ _ _ _ _ hk m1 (m2 fr _ f2 hf) (.ptr id 0 _ (by simp [Env.upd])) (KInfo.mk_ (hm.kept_grew (Grew.alloc w _)) (λ_ _ x=>x) λi x g hx hg=> ?_))
 have hne:i≠id:= λe=>f3 (e ▸ bE hx (.inl rfl))
 exact⟨by rw [cC (Ne.symm hne)];exact hx,by rw [ρ.upd_kb hne];exact hg⟩
theorem xD {ti:TypeId->Option TI}(hti:cW P ti) {o:Oper}{t:TypeId}{id:Nat}(ho:o.op= .alloc t) {pin:Pin}{fr:Fr}{hp:Hp}{K:SV->Hp->Prop}
  (h : match ti t with
   |some T=>gN id pin fr hp/\K (.ptr id 0) ((id, .cells t (T.zero.map .d))::hp)
   |none=>aF "alloc: a type"):pM P o pin fr hp K:=by
 intro E ρ a w hp' hm hf next Q hn
 split at h
 ·rename_i T hT
  obtain⟨d,i,z,hT⟩:=aM (hti _ _ hT)
  obtain⟨hfr,hk⟩:=h
  have hidd: ∀l:List D,SV.idsL (l.map SV.d)=[]:=by
   intro l;induction l with
   |nil=>rfl
   |cons x r ih=>simp [SV.idsL,SV.ids,ih]
  refine qO hp' hm hf hn id t _ z.cells hfr (by rw [hidd];simp) (by simp [hT.zs]) hT.one ?_ hk ?_
  ·intro j s v hs hv
   rw [hT.zs]at hs
   simp only [List.map_map,List.getElem?_map,Option.map_eq_some_iff]at hs
   obtain⟨u,hu,rfl⟩:=hs
   have:u=v:=by
    have hu':z.cells[j]? =some u:=by simpa using hu
    rw [hu']at hv;injection hv
   subst this
   exact .d _ _ (lL w ρ.S u)
  ·simp [execOp,ho,Instr.alloc,zeroValue,typeInfo,hT.info,hT.zero,newVar,newRow]
 ·exact h.elim
def fB (s:SV):Option (List SV):=
 match mE s with
 |some cs=>if cs.all pQ then some cs else none
 |none=>if pQ s then some [s]else none
theorem hU {w:World}{ρ:Env}{s:SV}{v:Value}{cs:List SV}(h:fB s=some cs) (hr:Rep w ρ s v):
  v.cells.size=cs.length/\(∀u∈v.cells,u.oneCell'=true)/\ ∀(j:Nat) (s:SV) (u:Value),cs[j]? =some s->v.cells[j]? =some u->Rep w ρ s u:=by
 unfold fB at h
 split at h
 ·rename_i cs' hcs
  split at h
  ·rename_i hall
   simp at h
   subst h
   obtain⟨vs,e,hl,hh⟩:=lE hcs hr
   subst e
   refine⟨hl,λu hu=> ?_,hh⟩
   obtain⟨j,hj,rfl⟩:=Array.mem_iff_getElem.1 hu
   simp only [Value.cells]at hj |-
   have hjl:j < cs'.length:=by omega
   rw [List.all_eq_true]at hall
   exact nL (hh j cs'[j] _ (List.getElem?_eq_getElem hjl) (Array.getElem?_eq_getElem hj)) (hall _ (List.getElem_mem hjl))
  ·cases h
 ·split at h
  ·rename_i hl
   simp at h
   subst h
   have ho1:=nL hr hl
   have hcells:v.cells= #[v]:=by cases v<;>simp_all [Value.oneCell',Value.cells]
   rw [hcells]
   refine⟨rfl,λu hu=>by simp at hu;subst hu;exact ho1,λj s' u hs hu=> ?_⟩
   cases j with
   |zero=>simp at hs hu;subst hs;subst hu;exact hr
   |succ j=>simp at hs
  ·cases h
theorem aE5 {o:Oper}{t:TypeId}{x:Operand}{id:Nat}(ho:o.op= .box t x) {pin:Pin}{fr:Fr}{hp:Hp}{K:SV->Hp->Prop}
  (h : ev fr x λs => match fB s with
   |some cs=>gN id pin fr hp/\id∉SV.idsL cs/\K (.ptr id 0) ((id, .cells t cs)::hp)
   |none=>aF "box: cells"):pM P o pin fr hp K:=by
 intro E ρ a w hp' hm hf next Q hn
 obtain⟨s,hs,hv⟩:=bV h
 have h1:=aU hf hs
 split at hv
 ·rename_i cs hcs
  obtain⟨k1,k2,k3⟩:=hU hcs h1
  exact qO hp' hm hf hn id t cs _ hv.1 hv.2.1 k1 k2 k3 hv.2.2 (by simp [execOp,ho,Instr.box,newVar,newRow])
 ·exact hv.elim
end
end Go.Proofs.YtcomlapnibckmaaGreatDoor
