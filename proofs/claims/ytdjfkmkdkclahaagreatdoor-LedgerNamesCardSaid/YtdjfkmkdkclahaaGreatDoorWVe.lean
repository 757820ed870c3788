/-
  A row of the caller's own, lent to a callee: what comes back does not lie in it, as its content tells. Ledgers, the law's examples. Contracts of functions that hand back bytes of a row of their own, onto which the caller may append. The reference of objects: numbers, texts and lists in bytes. The reference of objects: lists, concepts and axioms in bytes. The reference of objects: axioms in bytes, and what encoding them answers. The reference of objects: Axioms and Commit. Readers that do not stop: a flag says that something was wrong; plain. The reference of objects: its reader reads numbers, texts and digests. The reference of objects: its reader reads digests. The reference of objects: its reader reads lists of texts and of digests. The reference's readers of concepts, axioms, queries and alignments, which do not stop; plain. The reference of objects: lists of digests and alignments in bytes.
  Conditions: none.
-/
import Derived.Test.YtdjfkmkdkclahaaGreatDoorWOh
import Derived.Test.YtdjfkmkdkclahaaGreatDoorWSyv
import Derived.Test.YtdjfkmkdkclahaaGreatDoorWSzd
import Derived.Test.YtdjfkmkdkclahaaGreatDoorWSyp
import Derived.Test.YtdjfkmkdkclahaaGreatDoorWBp
import Derived.Test.YtdjfkmkdkclahaaGreatDoorWOy
import Derived.Test.YtdjfkmkdkclahaaGreatDoorWSw
import Derived.Test.YtdjfkmkdkclahaaGreatDoorWTcy
import Derived.Test.YtdjfkmkdkclahaaGreatDoorWOb
import Derived.Test.YtdjfkmkdkclahaaGreatDoorWA7
import Derived.Test.YtdjfkmkdkclahaaGreatDoorWQqg
set_option linter.unnecessarySimpa false
set_option linter.unusedSectionVars false
set_option linter.unusedSimpArgs false
set_option linter.unusedVariables false
set_option maxHeartbeats 16000000
namespace Go.Proofs.YtdjfkmkdkclahaaGreatDoor
section
open Go.RowKit
def aPx:D->Bool
 | .int _ _=>true
 | .str _=>true
 |_=>false
inductive Dodge (xs:List D):D->Prop
 |int (k:IntKind) (n:Int):Dodge xs (.int k n)
 |bool (b:Bool):Dodge xs (.bool b)
 |str (l:List UInt8):Dodge xs (.str l)
 |nil:Dodge xs .nil
 |sl0 (z:Nat):Dodge xs (.sl z [])
 |sl (z:Nat) (rows:List (List D)) (h: ∀off,¬ ∀(i:Nat) (row:List D) (j:Nat) (x:D),rows[i]? =some row->row[j]? =some x->xs[off+(i * z+j)]? =some x) (h2: ∀row∈rows,∀x∈row,Dodge xs x):Dodge xs (.sl z rows)
 |agg (cs:List D) (h: ∀x∈cs,Dodge xs x):Dodge xs (.agg cs)
theorem RepD.dodge {w:World}{S S2:Nat->Nat->Prop}{g:Nat}{xs:List D}(hS: ∀b i,S b i->b≠g->S2 b i)
  (hg: ∀k u,w.cell? ⟨g,k,none⟩=some u-> ∃y,xs[k]? =some y/\ ∀S x,Dodge xs x->RepD w S x u->x=y) {x:D} {v:Value} (h:RepD w S x v) (hd:Dodge xs x):RepD w S2 x v:=by
 induction h with
 |int k n=>exact .int k n
 |bool b=>exact .bool b
 |str l h=>exact .str l h
 |nil=>exact .nil
 |sl z rows A cap b off f hz hn hc hA hcell hrep ih=>
  have hin: ∀(i:Nat) (row:List D) (j:Nat) (x:D),rows[i]? =some row->row[j]? =some x->Dodge xs x:=by
   intro i row j x h1 h2
   cases hd with
   |sl0 z=>simp at h1
   |sl z rows h h3=>exact h3 row (List.mem_of_getElem? h1) x (List.mem_of_getElem? h2)
  have hb:rows≠[]->b≠g:=by
   intro hne e
   subst e
   cases hd with
   |sl0 z=>exact hne rfl
   |sl z rows h h3=>
    refine h off λi row j x h1 h2=> ?_
    obtain⟨c1,c2,c3⟩:=hcell i row j x h1 h2
    obtain⟨y,hy,hxy⟩:=hg _ _ c1
    rw [hxy S x (hin i row j x h1 h2) (hrep i row j x h1 h2)]
    exact hy
  refine .sl z rows A cap b off f hz hn hc hA (λi row j x h1 h2=> ?_) λi row j x h1 h2=>ih i row j x h1 h2 (hin i row j x h1 h2)
  obtain⟨c1,c2,c3⟩:=hcell i row j x h1 h2
  exact⟨c1,hS _ _ c2 (hb λe=>by rw [e]at h1;simp at h1),c3⟩
 |agg cs vs hl h ih=>
  refine .agg cs vs hl λj x v h1 h2=>ih j x v h1 h2 ?_
  cases hd with
  |agg cs h=>exact h x (List.mem_of_getElem? h1)
 |lit v=>cases hd
section
variable {P:Program}
theorem aGq {pin:Pin}{fr:Fr}{hp:Hp}{f:FuncId}{args asD:List SV}{K:SV->Hp->Prop}{post:SV->Prop}(id:Nat) {e:TypeId}(xs:List D) (hz:xs≠[]) (ho:aM hp id=some (.mrow e xs.length 1 [xs])) (hsc: ∀y∈xs,aPx y=true)
  (hc:Tri P f asD [] post) (hlen:asD.length=args.length) (hargs: ∀(j:Nat) (s':SV),asD[j]? =some s'-> ∃s,args[j]? =some s/\(s'=s\/(s= .agg [.mw id xs.length 1]/\s'= .d (.agg [.sl xs.length [xs]]))))
  (hk: ∀s,post s-> ∃ds:List D,s= .tup (ds.map SV.d)/\(∀x∈ds,Dodge xs x)/\K s hp):aF P pin fr hp f args K:=by
 intro E ρ w tm hpin hm hf vs hv
 obtain⟨q1,hmut⟩:=hm.sat id _ ho
 rcases hmut with⟨h,_⟩|⟨_,g,cur,hv0,hgc,_,hml,hcs,hfl,hns⟩
 ·cases h
 have hcs:cur.size=xs.length:=by rw [hcs];omega
 have htk:cur.toList.take (([xs]:List (List D)).length * xs.length)=cur.toList:=List.take_of_length_le (by simp [hcs])
 rw [htk]at hfl
 have hgl:g < w.heap.size:=(Array.getElem?_eq_some_iff.1 hgc).1
 have hcell: ∀k,w.cell? ⟨g,k,none⟩=cur[k]? := λk=>cell_of_row w g k cur e (0,0) hgc
 obtain⟨S',hS'⟩: ∃S':Nat->Nat->Prop,S'= λb i=>ρ.S b i\/b=g:=⟨_,rfl⟩
 have hsub: ∀b i,ρ.S b i->S' b i:= λb i h=>by rw [hS'];exact .inl h
 have hsl:RepD w S' (.sl xs.length [xs]) (.slice (some ⟨g,0,none⟩) 1 1):=by
  refine RepD.mk_sl (b:=g) (off:=0) (by simp) (by simp [maxLen]) (λ_=>rfl) ⟨λrow hr=>by rw [List.mem_singleton.1 hr],λi row j x h1 h2=> ?_⟩ rfl
  obtain⟨u,u1,u2⟩:=hfl.at_ i row j x h1 h2
  refine⟨u, ?_,by rw [hS'];exact .inr rfl,hfl.one u (List.mem_of_getElem? u1),u2.mono (λ_ _ _=>rfl) hsub⟩
  rw [Nat.zero_add,hcell]
  simpa using u1
 have hargs':bU w (ρ.withS S') asD vs:=by
  refine⟨by rw [hv.1,hlen],λj s' v hs' hx=> ?_⟩
  obtain⟨s,hs,rfl|⟨rfl,rfl⟩⟩:=hargs j s' hs'
  ·exact(hv.2 j _ v hs hx).mono (λ_ _ _=>rfl) hsub λi _=>ρ.moved_withS S' i
  ·have hr:=hv.2 j _ v hs hx
   cases hr with
   |agg cs us hl h=>
    refine .d _ _ (.agg _ _ hl λi x u hx hu=> ?_)
    cases i with
    |succ i=>simp at hx
    |zero=>
     simp at hx
     subst hx
     obtain⟨A,c,_,_,_,_,_,e2⟩:=(h 0 _ u rfl hu).mw_inv
     have e3:=e2 (by rw [q1];rfl)
     rw [hv0]at e3
     rw [e3]
     exact hsl
 refine(hc w (ρ.withS S') vs (λb i h=> ?_) hargs' λid o h=>by simp [aM]at h).mono ?_
 ·have h:S' b i:=h
  rw [hS']at h
  rcases h with h|rfl
  ·exact hm.slt b i h
  ·exact hgl
 rintro x w' ⟨v,S2,s,rfl,h2,h3,h4,h5,h6,h7⟩
 obtain⟨ds,rfl,hd,hK⟩:=hk s h2
 obtain⟨m1,m2⟩:=hm.grow h3 (λb i=>ρ.S b i\/(S2 b i/\w.heap.size<=b)) (λb i h=> .inl h) (λb i h=>h.imp (λh=>h) λh=>h.2) (λb i h=>h.elim (λh=>Nat.lt_of_lt_of_le (hm.slt b i h) h3.size) λh=>h6 b i h.1)
 refine .inl ⟨v,_,_,hp,rfl,hK,m1,m2 fr tm hf, ?_⟩
 have hcell': ∀k,w'.cell? ⟨g,k,none⟩=cur[k]? := λk=>cell_of_row w' g k cur e (0,0) (by rw [h3.block g hgl];exact hgc)
 have hkey: ∀k u,w'.cell? ⟨g,k,none⟩=some u-> ∃y,xs[k]? =some y/\ ∀S x,Dodge xs x->RepD w' S x u->x=y:=by
  intro k u hu
  rw [hcell']at hu
  have hk:k < xs.length:=by rw [<-hcs];exact(Array.getElem?_eq_some_iff.1 hu).1
  refine⟨xs[k],List.getElem?_eq_getElem hk,λS x hdx hr=> ?_⟩
  obtain⟨u',u1,u2⟩:=hfl.at_ 0 xs k xs[k] rfl (List.getElem?_eq_getElem hk)
  have e:u'=u:=by
   rw [Nat.zero_mul,Nat.zero_add,Array.getElem?_toList,hu]at u1
   injection u1 with u1
   exact u1.symm
  subst e
  have hs:=hsc xs[k] (List.getElem_mem hk)
  generalize xs[k]=y at u2 hs
  cases y with
  |int a n=>cases u2;cases hr with
   |int=>rfl
   |lit=>cases hdx
  |str l=>cases u2;cases hr with
   |str=>rfl
   |lit=>cases hdx
  |_=>cases hs
 have hS2: ∀b i,S2 b i->b≠g->(ρ.S b i\/(S2 b i/\w.heap.size<=b)):=by
  intro b i h hne
  rcases h5 b i h with h8|h8
  ·have h8:S' b i:=h8
   rw [hS']at h8
   exact .inl (h8.resolve_right hne)
  ·exact .inr ⟨h,h8⟩
 cases h7 with
 |tup cs us hl h=>
  refine .tup _ _ hl λj s u hs hu=> ?_
  have hr:=h j s u hs hu
  rw [List.getElem?_map]at hs
  obtain⟨x,hx,rfl⟩:=Option.map_eq_some_iff.1 hs
  cases hr with
  |d _ _ hr=>exact .d _ _ (hr.dodge hS2 hkey (hd x (List.mem_of_getElem? hx)))
end
end
section
open Go.Proofs Go.RowKit
set_option maxRecDepth 10000
attribute [local irreducible] aH aF Tri aD YVC bO aP
def pX (v:bG):List At:=[⟨1,[65],v,[],0,0⟩]
def aHf:Lg:=⟨[97,110,110],1,[]⟩
def aDw:Lg:=⟨[97,110,110],1,[⟨1,pX [63,118,49]⟩]⟩
theorem aMy:mN aHf (pX [63,120])=(aDw,1,0):=by kernel_rfl
theorem aMx:mN aDw (pX [63,111,116,104,101,114])=(aDw,1,0):=by kernel_rfl
theorem aMw:vY rEn aHb aHd 380 []=(aHd,380):=by kernel_rfl
theorem aMv:aIy aHf []=(0,false):=by kernel_rfl
theorem aEt:aDs [] 1=(lg0,1)/\aDs [97,110,110] 0=(lg0,1)/\aDs [97,110,110] 1=(aHf,0):=⟨by kernel_rfl,by kernel_rfl,by kernel_rfl⟩
theorem aEs:aEv aDw aDw=true/\aCc aHf aDw=true/\aLq aHf=1024:=⟨by kernel_rfl,by kernel_rfl,by kernel_rfl⟩
def aEw (v:bG):List D:=[.int .i64 1, .str [65], .str v, .str [], .int .i64 0, .int .i64 0]
theorem aLz: ∀x∈[D.agg (lgR aDw), .int .i64 1, .int .i64 0],Dodge (aEw [63,120]) x:=by
 have h6:Dodge (aEw [63,120]) (.sl 6 [aEw [63,118,49]]):=by
  refine .sl 6 _ (λoff h=> ?_) λrow hr x hx=> ?_
  ·cases off with
   |zero=>
    have:=h 0 _ 2 (.str [63,118,49]) rfl rfl
    simp [aEw]at this
   |succ n=>
    have:=h 0 _ 5 (.int .i64 0) rfl rfl
    simp only [aEw]at this
    have:=(List.getElem?_eq_some_iff.1 this).1
    simp at this
    omega
  ·rw [List.mem_singleton.1 hr]at hx
   simp only [aEw,List.mem_cons,List.not_mem_nil,or_false]at hx
   rcases hx with rfl|rfl|rfl|rfl|rfl|rfl<;>constructor
 have h2:Dodge (aEw [63,120]) (.sl 2 [[.int .i64 1, .sl 6 [aEw [63,118,49]]]]):=by
  refine .sl 2 _ (λoff h=> ?_) λrow hr x hx=> ?_
  ·have h1:=h 0 _ 1 (.sl 6 [aEw [63,118,49]]) rfl rfl
   have h3:=List.mem_of_getElem? h1
   simp [aEw]at h3
  ·rw [List.mem_singleton.1 hr]at hx
   simp only [List.mem_cons,List.not_mem_nil,or_false]at hx
   rcases hx with rfl|rfl
   ·constructor
   ·exact h6
 intro x hx
 simp only [List.mem_cons,List.not_mem_nil,or_false]at hx
 rcases hx with rfl|rfl|rfl
 ·refine .agg _ λx hx=> ?_
  simp only [lgR,aDw,List.mem_cons,List.not_mem_nil,or_false]at hx
  rcases hx with rfl|rfl|rfl
  ·constructor
  ·constructor
  ·exact h2
 ·constructor
 ·constructor
theorem mK:Tri Tryz.prog 10 [] [] (λr=>r= .d (.bool true)):=by
 have n1:=qU [] 1
 have n2:=qU [97,110,110] 0
 have n3:=qU [97,110,110] 1
 rw [aEt.1]at n1
 rw [aEt.2.1]at n2
 rw [aEt.2.2]at n3
 have a1:=lI aHf (pX [63,120])
 rw [aMy]at a1
 have a2:=lI aDw (pX [63,111,116,104,101,114])
 rw [aMx]at a2
 have d1:=(aFu [] (by decide)).mono (post':= λr=>r= .tup [.d (.str []), .d (.int .i64 0), .d (.agg [.int .i64 0, .sl 6 []]), .d (.int .i64 380)]) (λr h=>by rw [aMw]at h;obtain⟨y,rfl,hr⟩:=h;exact hr)
 have f1:=aDh aHf []
 rw [aMv]at f1
 have s1:=tS aDw aDw
 rw [aEs.1]at s1
 have b1:=yH aHf aDw
 rw [aEs.2.1]at b1
 have l1:=aDg aHf
 rw [aEs.2.2]at l1
 rw [show lgR lg0=[.str [], .int .i64 0, .sl 2 []]from rfl]at n1 n2
 rw [show lgR aHf=[.str [97,110,110], .int .i64 1, .sl 2 []]from rfl]at n3 a1 f1 b1 l1
 have d1:=Tri.args (xs:=[.d .nil]) d1 ⟨cE.wkd rfl,trivial⟩
 have f1:=Tri.args (xs:=[.d (.agg [.str [97,110,110], .int .i64 1, .sl 2 []]), .d (.agg [.nil])]) f1 ⟨.refl _,cE.wkd qB,trivial⟩
 refine mR false [1,3,5,8,11,16] hty Tryz.func10 rfl (kp [0,2,4,5,6,7,8,9,10,11,12,13,17,19,20]) [] _ _ _ (by simp [Tryz.f10]) (by decide) ?_
 refine aZ (cV hty ?_)
 ((conv=>whnf);repeat ((first |(intro hq;try simp only [lnS]at hq)|refine sI ?_|refine qE_ ?_);conv=>whnf))
 refine aZ (cV hty ?_)
 ((conv=>whnf);repeat ((first|refine qT n1 ?_ |(intro hq;try simp only [lnS]at hq)|refine sI ?_|refine qE_ ?_);conv=>whnf))
 refine aZ (cV hty ?_)
 ((conv=>whnf);repeat ((first|refine qT n2 ?_ |(intro hq;try simp only [lnS]at hq)|refine sI ?_|refine qE_ ?_);conv=>whnf))
 refine aZ (cV hty ?_)
 ((conv=>whnf);repeat ((first|refine qT n3 ?_ |(intro hq;try simp only [lnS]at hq)|refine sI ?_|refine qE_ ?_);conv=>whnf))
 refine aZ (zY hty ?_)
 ((conv=>whnf);repeat ((first |(intro hq;try simp only [lnS]at hq)|refine sI ?_|refine qE_ ?_);conv=>whnf))
 refine aJa hty (e:=60) (id:=34) rfl (by with_unfolding_all exact rfl) rfl (by with_unfolding_all exact rfl) rfl (by decide) (by decide) (by decide) rfl (cO (by with_unfolding_all exact rfl)) ?_
 ((conv=>whnf);repeat ((first |(intro hq;try simp only [lnS]at hq)|refine sI ?_|refine qE_ ?_);conv=>whnf))
 refine aZ (cV hty ?_)
 ((conv=>whnf);repeat ((first |(intro hq;try simp only [lnS]at hq)|refine sI ?_|refine qE_ ?_);conv=>whnf))
 refine aGq 34 (e:=60) (aEw [63,120]) (by decide) rfl (by decide) a1 rfl (λj s' h=> ?_) (λr hs=> ?_)
 ·match j,h with
  | 0,h=>exact⟨_,rfl, .inl (Option.some.inj h).symm⟩
  | 1,h=>exact⟨_,rfl, .inr ⟨rfl,(Option.some.inj h).symm⟩⟩
 subst hs
 refine⟨_,rfl,aLz, ?_⟩
 ((conv=>whnf);repeat ((first |(intro hq;try simp only [lnS]at hq)|refine sI ?_|refine qE_ ?_);conv=>whnf))
 refine aZ (cV hty ?_)
 ((conv=>whnf);repeat ((first |(intro hq;try simp only [lnS]at hq)|refine sI ?_|refine qE_ ?_);conv=>whnf))
 refine aH.frozC (id:=34) (i:=7) (hp1:=[(7, .cells 35 [.mw 34 6 1])]) rfl rfl qB rfl rfl ?_
 refine cV hty ?_
 ((conv=>whnf);repeat' ((first|(intro hq;(try simp only [lnS]at hq);(try rewrite [List.length_map]))|refine sJ ?_|refine qE_ ?_|refine exL (k:=?_)| refine qT a2 ?_|refine qT d1 ?_|refine qT f1 ?_|refine qT l1 ?_|refine qT s1 ?_|refine qT b1 ?_|refine dwR ?_|((first|refine aB ?_ ?_|refine aC ?_ ?_)<;>intro hb<;>(first|exact ddX hb|try simp only [lnS]at hb))|(refine aA ?_ ?_<;>intro hb<;>try exact dsX hb))<;>(conv=>whnf)))
 rfl
end
section
open Go.RowKit
section
variable {P:Program}
def zH (l:List UInt8):List Value:=l.map λc=> .int .u8 c.toNat
def aJl (P:Program) (f:FuncId) (args:List SV) (e:TypeId) (bs:List UInt8):Prop:=
 ∀(w:World) (ρ:Env) (vs:Array Value),(∀b i,ρ.S b i->b < w.heap.size)->bU w ρ args vs->
  Calls P f vs w λx w'=> ∃v,x= .returned v/\Grew w w'/\w'.ownsRow 0 e 1 v bs.length (zH bs)/\ ∀g,v.ownBlock=some g->w.heap.size<=g
theorem aDj {w:World}{S:Nat->Nat->Prop}(l:List UInt8):Flat w S 1 (l.map bB) (zH l):=by
 refine⟨by simp [zH],λrow h=> ?_,λv h=> ?_,λi row j x h1 h2=> ?_⟩
 ·obtain⟨c,_,rfl⟩:=List.mem_map.1 h;rfl
 ·obtain⟨c,_,rfl⟩:=List.mem_map.1 h;rfl
 ·rw [List.getElem?_map,Option.map_eq_some_iff]at h1
  obtain⟨c,hc,rfl⟩:=h1
  have hj:j=0/\x= .int .u8 c.toNat:=by
   cases j with
   |zero=>simp [bB]at h2;exact⟨rfl,h2.symm⟩
   |succ j=>simp [bB]at h2
  obtain⟨rfl,rfl⟩:=hj
  exact⟨.int .u8 c.toNat,by simp [zH,hc], .int _ _⟩
theorem aJl.tri {f:FuncId}{args:List SV}{e:TypeId}{bs:List UInt8}(h:aJl P f args e bs):Tri P f args [] (λr=>r= .d (.sl 1 (bs.map bB))):=by
 intro w ρ vs hslt hargs _
 refine(h w ρ vs hslt hargs).mono ?_
 rintro x w' ⟨v,rfl,h1,h2,h3⟩
 have hl:(bs.map bB).length=bs.length:=List.length_map ..
 have hm:Mem ⟨w,ρ.S,λ_=>False,⟨[],λ_ _=>False,[],none⟩,ρ,none,[],0⟩ ρ [] w:=
  ⟨rfl,rfl, .refl _,Nat.le_refl _,λ_ _ _=>rfl,λ_ _ h=>h,λ_ _ h _ _=>h,hslt,λ_ _ _=>rfl,λ_ _ h=>by simp [aM]at h,λ_ _ _ _ _ h=>by simp [aM]at h,λ_ _ _ h=>by simp [aM]at h,λid _=>ρ.moved_refl id,λ_ _ _ h=>by simp [aM]at h,λb hb=>by cases hb⟩
 obtain⟨m1,m2,m3⟩:=hm.newOwn (id:=0) (e:=e) (z:=1) (rows:=bs.map bB) (vs:=zH bs) h1 (by rw [hl];exact h2) h3 (aDj bs) (by simp [jP]) (λh=>by cases h)
 refine⟨v,_,_,rfl,rfl,h1,m1.sold,λb i hs=> ?_,m1.slt,(Rep.d _ _ m3.osl_inv.1:Rep w' _ (.d (.sl 1 (bs.map bB))) v).noids rfl rfl⟩
 rcases Nat.lt_or_ge b w.heap.size with hlt|hge
 ·exact .inl (m1.snew b i hs hlt (λh=>h))
 ·exact .inr hge
end
end
section
open Go.Proofs Go.RowKit
set_option maxRecDepth 10000
attribute [local irreducible] aH aF Tri aD YVC bO aP aJl
end
section
open Go.Proofs Go.RowKit
set_option maxRecDepth 10000
attribute [local irreducible] aH aF Tri aD YVC bO aP aJl
end
section
open Go.Proofs Go.RowKit
set_option maxRecDepth 10000
attribute [local irreducible] aH aF Tri aD YVC bO aP aJl
end
section
open Go.Proofs Go.RowKit
set_option maxRecDepth 10000
attribute [local irreducible] aH aF Tri aD YVC bO aP aJl
end
section
open Go.Proofs
abbrev RS:=List UInt8×Bool
abbrev Tr (α:Type):=RS->α×RS
section
variable {α β:Type}
def aPn (t:Tr α) (f:α->β):Tr β:= λs=>(f (t s).1,(t s).2)
def aKu (t:Tr α) (f:α->Tr β):Tr β:= λs=>f (t s).1 (t s).2
structure Sim (t:Tr α) (r:Rd α):Prop where
 bad: ∀b,(t (b,true)).2.2=true
 ok: ∀b x c,r b=some (x,c)->t (b,false)=(x,(c,false))
 no: ∀b,r b=none->(t (b,false)).2.2=true
theorem Sim.map {t:Tr α}{r:Rd α}(h:Sim t r) (f:α->β):Sim (aPn t f) (lW r f):=by
 refine⟨λb=>h.bad b,λb x c e=> ?_,λb e=> ?_⟩
 ·obtain⟨y,h1,rfl⟩:=aBb e
  unfold aPn;rw [h.ok b y c h1]
 ·refine h.no b ?_
  unfold lW at e
  exact Option.map_eq_none_iff.1 e
theorem Sim.bind {t:Tr α}{r:Rd α}{f:α->Tr β}{g:α->Rd β}(h:Sim t r) (k: ∀x,Sim (f x) (g x)):Sim (aKu t f) (dW r g):=by
 have kb: ∀x (s:RS),s.2=true->(f x s).2.2=true:=by
  rintro x ⟨b,d⟩ hs
  have hs:d=true:=hs
  subst hs
  exact(k x).bad b
 refine⟨λb=>kb _ _ (h.bad b),λb x c e=> ?_,λb e=> ?_⟩
 ·obtain⟨y,d,h1,h2⟩:=aF4 e
  unfold aKu;rw [h.ok b y d h1]
  exact(k y).ok d x c h2
 ·cases h1:r b with
  |none=>exact kb _ _ (h.no b h1)
  |some p=>
   obtain⟨y,d⟩:=p
   rw [cK h1]at e
   unfold aKu;rw [h.ok b y d h1]
   exact(k y).no d e
end
end
section
open Go.Proofs Go.RowKit
set_option maxRecDepth 10000
attribute [local irreducible] aH aF Tri aD YVC bO aP
abbrev rfO (s:RS):HObj:= .cells 124 [.d (.sl 1 (s.1.map bB)), .d (.bool s.2)]
abbrev aQ1:Pin:=⟨[3],λ_ _=>False,[],none⟩
def RfT {α:Type}(f:FuncId) (ex:List SV) (t:Tr α) (e:α->SV):Prop:= ∀s:RS,s.1.length<=1000000->
 aF Tryz.prog aQ1 [] [(3,rfO s)] f (.ptr 3 0::ex) (λr h=>r=e (t s).1/\aM h 3=some (rfO (t s).2))
theorem RfT.call {α:Type}{f:FuncId}{ex:List SV}{t:Tr α}{e:α->SV}(h:RfT f ex t e) (hx:SV.idsL ex=[]) (he: ∀x,(e x).ids=[]) {pin:Pin}{fr:Fr}{hp:Hp}{i:Nat}{K:SV->Hp->Prop}(s:RS) (hb:s.1.length<=1000000) (hg:aM hp i=some (rfO s))
  (hok:gB hp i (rfO (t s).2) (K (e (t s).1))):aF Tryz.prog pin fr hp f (.ptr i 0::ex) K:=by
 have hs: ∀b,(rfO b).sim:= λb s hs=>by
  simp at hs
  rcases hs with rfl|rfl<;>exact rfl
 refine iD (λ_=>i) [3] [(3,rfO s)] (h s hb) (aH0 hg rfl (hs s)) (λk hk=>hk) (by rw [List.map_cons,oX hx];rfl) ?_ ?_ ?_ (.inr λ_ h=>h)
 ·intro s hs
  rcases List.mem_cons.1 hs with rfl|hs
  ·trivial
  ·exact oU hx s hs
 ·rintro r h1 ⟨rfl,e3⟩
  refine⟨aB9 (he _), ?_,_,aFq hg e3 (hs _) (λh=>h) rfl rfl, ?_⟩
  ·intro j hj
   rw [he]at hj
   cases hj
  ·rw [aBa (he _)]
   rw [cM]at hok
   exact hok
 ·exact λh1 h2=>h2.elim
end
section
open Go.Proofs Go.RowKit
set_option maxRecDepth 10000
attribute [local irreducible] aH aF Tri aD YVC bO aP
end
section
open Go.Proofs Go.RowKit
set_option maxRecDepth 10000
attribute [local irreducible] aH aF Tri aD YVC bO aP
end
section
open Go.Proofs
section
variable {α β:Type}
end
end
section
open Go.Proofs Go.RowKit
set_option maxRecDepth 10000
attribute [local irreducible] aH aF Tri aD YVC bO aP aJl
theorem f48 {q r s:List UInt8}(h:q.length+r.length+s.length<=100000000000000):((q.map bB++r.map bB).length+(s.map bB).length)* 1<=140737488355328:=by rw [List.length_append,jV,jV,jV];omega
end
end Go.Proofs.YtdjfkmkdkclahaaGreatDoor
