/-
  A row of the caller's own, lent to a callee: what comes back does not lie in it, as its content tells. Ledgers, the law's examples. Contracts of functions that hand back bytes of a row of their own, onto which the caller may append. The reference of objects: numbers, texts and lists in bytes. The reference of objects: lists, concepts and axioms in bytes. The reference of objects: axioms in bytes, and what encoding them answers. The reference of objects: Axioms and Commit. Readers that do not stop: a flag says that something was wrong; plain. The reference of objects: its reader reads numbers, texts and digests. The reference of objects: its reader reads digests. The reference of objects: its reader reads lists of texts and of digests. The reference's readers of concepts, axioms, queries and alignments, which do not stop; plain. The reference of objects: lists of digests and alignments in bytes.
  Conditions: none.
-/
import Derived.Test.YtdjfkmkdkclahaaGreatDoorVOh
import Derived.Test.YtdjfkmkdkclahaaGreatDoorVSyv
import Derived.Test.YtdjfkmkdkclahaaGreatDoorVSzd
import Derived.Test.YtdjfkmkdkclahaaGreatDoorVSyp
import Derived.Test.YtdjfkmkdkclahaaGreatDoorVBp
import Derived.Test.YtdjfkmkdkclahaaGreatDoorVOy
import Derived.Test.YtdjfkmkdkclahaaGreatDoorVSna
import Derived.Test.YtdjfkmkdkclahaaGreatDoorVSyn
import Derived.Test.YtdjfkmkdkclahaaGreatDoorVXs
import Derived.Test.YtdjfkmkdkclahaaGreatDoorVSyi
import Derived.Test.YtdjfkmkdkclahaaGreatDoorVA8
import Derived.Test.YtdjfkmkdkclahaaGreatDoorVQqg
set_option linter.unnecessarySimpa false
set_option linter.unusedSectionVars false
set_option linter.unusedSimpArgs false
set_option linter.unusedVariables false
set_option maxHeartbeats 16000000
namespace Go.Proofs.YtdjfkmkdkclahaaGreatDoor
open Go.RowKit
def aXj:D->Bool
 | .int _ _=>true
 | .str _=>true
 |_=>false
inductive Dodge (xs:List D):D->Prop
 |int (k:IntKind) (n:Int):Dodge xs (.int k n)
 |bool (b:Bool):Dodge xs (.bool b)
 |str (l:List UInt8):Dodge xs (.str l)
 |nil:Dodge xs .nil
 |sl0 (z:Nat):Dodge xs (.sl z [])
 |sl (z:Nat) (rows:List (List D)) (h: ∀off,¬ ∀(i:Nat) (row:List D) (j:Nat) (x:D),rows[i]? =some row->row[j]? =some x->xs[off+(i * z+j)]? =some x) (h2: ∀row∈rows,∀x∈row,Dodge xs x):Dodge xs (.sl z rows)
 |agg (cs:List D) (h: ∀x∈cs,Dodge xs x):Dodge xs (.agg cs)
theorem RepD.dodge {w:World}{S S2:Nat->Nat->Prop}{g:Nat}{xs:List D}(hS: ∀b i,S b i->b≠g->S2 b i)
  (hg: ∀k u,w.cell? ⟨g,k,none⟩=some u-> ∃y,xs[k]? =some y/\ ∀S x,Dodge xs x->RepD w S x u->x=y) {x:D} {v:Value} (h:RepD w S x v) (hd:Dodge xs x):RepD w S2 x v:=by
 induction h with
 |int k n=>exact .int k n
 |bool b=>exact .bool b
 |str l h=>exact .str l h
 |nil=>exact .nil
 |sl z rows A cap b off f hz hn hc hA hcell hrep ih=>
  have hin: ∀(i:Nat) (row:List D) (j:Nat) (x:D),rows[i]? =some row->row[j]? =some x->Dodge xs x:=by
   intro i row j x h1 h2
   cases hd with
   |sl0 z=>simp at h1
   |sl z rows h h3=>exact h3 row (List.mem_of_getElem? h1) x (List.mem_of_getElem? h2)
  have hb:rows≠[]->b≠g:=by
   intro hne e
   subst e
   cases hd with
   |sl0 z=>exact hne rfl
   |sl z rows h h3=>
    refine h off λi row j x h1 h2=> ?_
    obtain⟨c1,c2,c3⟩:=hcell i row j x h1 h2
    obtain⟨y,hy,hxy⟩:=hg _ _ c1
    rw [hxy S x (hin i row j x h1 h2) (hrep i row j x h1 h2)]
    exact hy
  refine .sl z rows A cap b off f hz hn hc hA (λi row j x h1 h2=> ?_) λi row j x h1 h2=>ih i row j x h1 h2 (hin i row j x h1 h2)
  obtain⟨c1,c2,c3⟩:=hcell i row j x h1 h2
  exact⟨c1,hS _ _ c2 (hb λe=>by rw [e]at h1;simp at h1),c3⟩
 |agg cs vs hl h ih=>
  refine .agg cs vs hl λj x v h1 h2=>ih j x v h1 h2 ?_
  cases hd with
  |agg cs h=>exact h x (List.mem_of_getElem? h1)
 |lit v=>cases hd
section
variable {P:Program}
theorem aMy {pin:Pin}{fr:Fr}{hp:Hp}{f:FuncId}{args asD:List SV}{K:SV->Hp->Prop}{post:SV->Prop}(id:Nat) {e:TypeId}(xs:List D) (hz:xs≠[]) (ho:aR hp id=some (.mrow e xs.length 1 [xs])) (hsc: ∀y∈xs,aXj y=true)
  (hc:Tri P f asD [] post) (hlen:asD.length=args.length) (hargs: ∀(j:Nat) (s':SV),asD[j]? =some s'-> ∃s,args[j]? =some s/\(s'=s\/(s= .agg [.mw id xs.length 1]/\s'= .d (.agg [.sl xs.length [xs]]))))
  (hk: ∀s,post s-> ∃ds:List D,s= .tup (ds.map SV.d)/\(∀x∈ds,Dodge xs x)/\K s hp):aH P pin fr hp f args K:=by
 intro E ρ w tm hpin hm hf vs hv
 obtain⟨q1,hmut⟩:=hm.sat id _ ho
 rcases hmut with⟨h,_⟩|⟨_,g,cur,hv0,hgc,_,hml,hcs,hfl,hns⟩
 ·cases h
 have hcs:cur.size=xs.length:=by rw [hcs];omega
 have htk:cur.toList.take (([xs]:List (List D)).length * xs.length)=cur.toList:=List.take_of_length_le (by simp [hcs])
 rw [htk]at hfl
 have hgl:g < w.heap.size:=(Array.getElem?_eq_some_iff.1 hgc).1
 have hcell: ∀k,w.cell? ⟨g,k,none⟩=cur[k]? := λk=>cell_of_row w g k cur e (0,0) hgc
 obtain⟨S',hS'⟩: ∃S':Nat->Nat->Prop,S'= λb i=>ρ.S b i\/b=g:=⟨_,rfl⟩
 have hsub: ∀b i,ρ.S b i->S' b i:= λb i h=>by rw [hS'];exact .inl h
 have hsl:RepD w S' (.sl xs.length [xs]) (.slice (some ⟨g,0,none⟩) 1 1):=by
  refine RepD.mk_sl (b:=g) (off:=0) (by simp) (by simp [maxLen]) (λ_=>rfl) ⟨λrow hr=>by rw [List.mem_singleton.1 hr],λi row j x h1 h2=> ?_⟩ rfl
  obtain⟨u,u1,u2⟩:=hfl.at_ i row j x h1 h2
  refine⟨u, ?_,by rw [hS'];exact .inr rfl,hfl.one u (List.mem_of_getElem? u1),u2.mono (λ_ _ _=>rfl) hsub⟩
  rw [Nat.zero_add,hcell]
  simpa using u1
 have hargs':cI w (ρ.withS S') asD vs:=by
  refine⟨by rw [hv.1,hlen],λj s' v hs' hx=> ?_⟩
  obtain⟨s,hs,rfl|⟨rfl,rfl⟩⟩:=hargs j s' hs'
  ·exact(hv.2 j _ v hs hx).mono (λ_ _ _=>rfl) hsub λi _=>ρ.moved_withS S' i
  ·have hr:=hv.2 j _ v hs hx
   cases hr with
   |agg cs us hl h=>
    refine .d _ _ (.agg _ _ hl λi x u hx hu=> ?_)
    cases i with
    |succ i=>simp at hx
    |zero=>
     simp at hx
     subst hx
     obtain⟨A,c,_,_,_,_,_,e2⟩:=(h 0 _ u rfl hu).mw_inv
     have e3:=e2 (by rw [q1];rfl)
     rw [hv0]at e3
     rw [e3]
     exact hsl
 refine(hc w (ρ.withS S') vs (λb i h=> ?_) hargs' λid o h=>by simp [aR]at h).mono ?_
 ·have h:S' b i:=h
  rw [hS']at h
  rcases h with h|rfl
  ·exact hm.slt b i h
  ·exact hgl
 rintro x w' ⟨v,S2,s,rfl,h2,h3,h4,h5,h6,h7⟩
 obtain⟨ds,rfl,hd,hK⟩:=hk s h2
 obtain⟨m1,m2⟩:=hm.grow h3 (λb i=>ρ.S b i\/(S2 b i/\w.heap.size<=b)) (λb i h=> .inl h) (λb i h=>h.imp (λh=>h) λh=>h.2) (λb i h=>h.elim (λh=>Nat.lt_of_lt_of_le (hm.slt b i h) h3.size) λh=>h6 b i h.1)
 refine .inl ⟨v,_,_,hp,rfl,hK,m1,m2 fr tm hf, ?_⟩
 have hcell': ∀k,w'.cell? ⟨g,k,none⟩=cur[k]? := λk=>cell_of_row w' g k cur e (0,0) (by rw [h3.block g hgl];exact hgc)
 have hkey: ∀k u,w'.cell? ⟨g,k,none⟩=some u-> ∃y,xs[k]? =some y/\ ∀S x,Dodge xs x->RepD w' S x u->x=y:=by
  intro k u hu
  rw [hcell']at hu
  have hk:k < xs.length:=by rw [<-hcs];exact(Array.getElem?_eq_some_iff.1 hu).1
  refine⟨xs[k],List.getElem?_eq_getElem hk,λS x hdx hr=> ?_⟩
  obtain⟨u',u1,u2⟩:=hfl.at_ 0 xs k xs[k] rfl (List.getElem?_eq_getElem hk)
  have e:u'=u:=by
   rw [Nat.zero_mul,Nat.zero_add,Array.getElem?_toList,hu]at u1
   injection u1 with u1
   exact u1.symm
  subst e
  have hs:=hsc xs[k] (List.getElem_mem hk)
  generalize xs[k]=y at u2 hs
  cases y with
  |int a n=>cases u2;cases hr with
   |int=>rfl
   |lit=>cases hdx
  |str l=>cases u2;cases hr with
   |str=>rfl
   |lit=>cases hdx
  |_=>cases hs
 have hS2: ∀b i,S2 b i->b≠g->(ρ.S b i\/(S2 b i/\w.heap.size<=b)):=by
  intro b i h hne
  rcases h5 b i h with h8|h8
  ·have h8:S' b i:=h8
   rw [hS']at h8
   exact .inl (h8.resolve_right hne)
  ·exact .inr ⟨h,h8⟩
 cases h7 with
 |tup cs us hl h=>
  refine .tup _ _ hl λj s u hs hu=> ?_
  have hr:=h j s u hs hu
  rw [List.getElem?_map]at hs
  obtain⟨x,hx,rfl⟩:=Option.map_eq_some_iff.1 hs
  cases hr with
  |d _ _ hr=>exact .d _ _ (hr.dodge hS2 hkey (hd x (List.mem_of_getElem? hx)))
end
end Go.Proofs.YtdjfkmkdkclahaaGreatDoor
namespace Go.Proofs.YtdjfkmkdkclahaaGreatDoor
open Go.Proofs Go.RowKit
set_option maxRecDepth 10000
attribute [local irreducible] aL aH Tri aI YVC bP aS
def pX (v:bZ):List At:=[⟨1,[65],v,[],0,0⟩]
def aNn:Lg:=⟨[97,110,110],1,[]⟩
def aK1:Lg:=⟨[97,110,110],1,[⟨1,pX [63,118,49]⟩]⟩
theorem aU1:aA1 aNn (pX [63,120])=(aK1,1,0):=by kernel_rfl
theorem aU0:aA1 aK1 (pX [63,111,116,104,101,114])=(aK1,1,0):=by kernel_rfl
theorem aTz:eF rEn jS pK 380 []=(pK,380):=by kernel_rfl
theorem aTy:aFb aNn []=(0,false):=by kernel_rfl
theorem aKz:aDj [] 1=(lg0,1)/\aDj [97,110,110] 0=(lg0,1)/\aDj [97,110,110] 1=(aNn,0):=⟨by kernel_rfl,by kernel_rfl,by kernel_rfl⟩
theorem aKy:aE8 aK1 aK1=true/\mU aNn aK1=true/\aLv aNn=1024:=⟨by kernel_rfl,by kernel_rfl,by kernel_rfl⟩
def aL0 (v:bZ):List D:=[.int .i64 1, .str [65], .str v, .str [], .int .i64 0, .int .i64 0]
theorem aSu: ∀x∈[D.agg (lgR aK1), .int .i64 1, .int .i64 0],Dodge (aL0 [63,120]) x:=by
 have h6:Dodge (aL0 [63,120]) (.sl 6 [aL0 [63,118,49]]):=by
  refine .sl 6 _ (λoff h=> ?_) λrow hr x hx=> ?_
  ·cases off with
   |zero=>
    have:=h 0 _ 2 (.str [63,118,49]) rfl rfl
    simp [aL0]at this
   |succ n=>
    have:=h 0 _ 5 (.int .i64 0) rfl rfl
    simp only [aL0]at this
    have:=(List.getElem?_eq_some_iff.1 this).1
    simp at this
    omega
  ·rw [List.mem_singleton.1 hr]at hx
   simp only [aL0,List.mem_cons,List.not_mem_nil,or_false]at hx
   rcases hx with rfl|rfl|rfl|rfl|rfl|rfl<;>constructor
 have h2:Dodge (aL0 [63,120]) (.sl 2 [[.int .i64 1, .sl 6 [aL0 [63,118,49]]]]):=by
  refine .sl 2 _ (λoff h=> ?_) λrow hr x hx=> ?_
  ·have h1:=h 0 _ 1 (.sl 6 [aL0 [63,118,49]]) rfl rfl
   have h3:=List.mem_of_getElem? h1
   simp [aL0]at h3
  ·rw [List.mem_singleton.1 hr]at hx
   simp only [List.mem_cons,List.not_mem_nil,or_false]at hx
   rcases hx with rfl|rfl
   ·constructor
   ·exact h6
 intro x hx
 simp only [List.mem_cons,List.not_mem_nil,or_false]at hx
 rcases hx with rfl|rfl|rfl
 ·refine .agg _ λx hx=> ?_
  simp only [lgR,aK1,List.mem_cons,List.not_mem_nil,or_false]at hx
  rcases hx with rfl|rfl|rfl
  ·constructor
  ·constructor
  ·exact h2
 ·constructor
 ·constructor
theorem iM:Tri Tryz.prog 10 [] [] (λr=>r= .d (.bool true)):=by
 have n1:=rQ [] 1
 have n2:=rQ [97,110,110] 0
 have n3:=rQ [97,110,110] 1
 rw [aKz.1]at n1
 rw [aKz.2.1]at n2
 rw [aKz.2.2]at n3
 have a1:=yV aNn (pX [63,120])
 rw [aU1]at a1
 have a2:=yV aK1 (pX [63,111,116,104,101,114])
 rw [aU0]at a2
 have d1:=(aEy [] (by decide)).mono (post':= λr=>r= .tup [.d (.str []), .d (.int .i64 0), .d (.agg [.int .i64 0, .sl 6 []]), .d (.int .i64 380)]) (λr h=>by rw [aTz]at h;obtain⟨y,rfl,hr⟩:=h;exact hr)
 have f1:=aBn aNn []
 rw [aTy]at f1
 have s1:=lM aK1 aK1
 rw [aKy.1]at s1
 have b1:=uP aNn aK1
 rw [aKy.2.1]at b1
 have l1:=aBm aNn
 rw [aKy.2.2]at l1
 rw [show lgR lg0=[.str [], .int .i64 0, .sl 2 []]from rfl]at n1 n2
 rw [show lgR aNn=[.str [97,110,110], .int .i64 1, .sl 2 []]from rfl]at n3 a1 f1 b1 l1
 have d1:=Tri.args (xs:=[.d .nil]) d1 ⟨bW.wkd rfl,trivial⟩
 have f1:=Tri.args (xs:=[.d (.agg [.str [97,110,110], .int .i64 1, .sl 2 []]), .d (.agg [.nil])]) f1 ⟨.refl _,bW.wkd (by repeat' (first|exact trivial|exact rfl|refine And.intro ?_ ?_)),trivial⟩
 refine uH false [1,3,5,8,11,16] hty Tryz.func10 rfl (kp [0,2,4,5,6,7,8,9,10,11,12,13,17,19,20]) [] _ _ _ (by simp [Tryz.f10]) (by decide) ?_
 refine bD (dB hty ?_)
 ((conv=>whnf);repeat ((first|(intro hq;try simp only [lnS]at hq)|refine sI ?_|refine .intro _ (.intro rfl ?_));(conv=>whnf)))
 refine bD (dB hty ?_)
 ((conv=>whnf);repeat ((first|(refine aA [] n1 trivial (λr hs=> ?_);subst hs)|(intro hq;try simp only [lnS]at hq)|refine sI ?_|refine .intro _ (.intro rfl ?_));(conv=>whnf)))
 refine bD (dB hty ?_)
 ((conv=>whnf);repeat ((first|(refine aA [] n2 trivial (λr hs=> ?_);subst hs)|(intro hq;try simp only [lnS]at hq)|refine sI ?_|refine .intro _ (.intro rfl ?_));(conv=>whnf)))
 refine bD (dB hty ?_)
 ((conv=>whnf);repeat ((first|(refine aA [] n3 trivial (λr hs=> ?_);subst hs)|(intro hq;try simp only [lnS]at hq)|refine sI ?_|refine .intro _ (.intro rfl ?_));(conv=>whnf)))
 refine bD (aG1 hty ?_)
 ((conv=>whnf);repeat ((first|(intro hq;try simp only [lnS]at hq)|refine sI ?_|refine .intro _ (.intro rfl ?_));(conv=>whnf)))
 refine aPu hty (e:=60) (id:=34) rfl (by with_unfolding_all exact rfl) rfl (by with_unfolding_all exact rfl) rfl (by decide) (by decide) (by decide) rfl (bQ (by with_unfolding_all exact rfl)) ?_
 ((conv=>whnf);repeat ((first|(intro hq;try simp only [lnS]at hq)|refine sI ?_|refine .intro _ (.intro rfl ?_));(conv=>whnf)))
 refine bD (dB hty ?_)
 ((conv=>whnf);repeat ((first|(intro hq;try simp only [lnS]at hq)|refine sI ?_|refine .intro _ (.intro rfl ?_));(conv=>whnf)))
 refine aMy 34 (e:=60) (aL0 [63,120]) (by decide) rfl (by decide) a1 rfl (λj s' h=> ?_) (λr hs=> ?_)
 ·match j,h with
  | 0,h=>exact⟨_,rfl, .inl (Option.some.inj h).symm⟩
  | 1,h=>exact⟨_,rfl, .inr ⟨rfl,(Option.some.inj h).symm⟩⟩
 subst hs
 refine⟨_,rfl,aSu, ?_⟩
 ((conv=>whnf);repeat ((first|(intro hq;try simp only [lnS]at hq)|refine sI ?_|refine .intro _ (.intro rfl ?_));(conv=>whnf)))
 refine bD (dB hty ?_)
 ((conv=>whnf);repeat ((first|(intro hq;try simp only [lnS]at hq)|refine sI ?_|refine .intro _ (.intro rfl ?_));(conv=>whnf)))
 refine aL.frozC (id:=34) (i:=7) (hp1:=[(7, .cells 35 [.mw 34 6 1])]) rfl rfl (by repeat' (first|exact trivial|exact rfl|refine And.intro ?_ ?_)) rfl rfl ?_
 refine dB hty ?_
 ((conv=>whnf);repeat' ((first|(intro hq;(try simp only [lnS]at hq);(try rewrite [List.length_map]))|refine sJ ?_|refine .intro _ (.intro rfl ?_)|refine exL (k:= ?_)|(refine aA [] a2 trivial (λr hs=> ?_);subst hs)|(refine aA [] d1 trivial (λr hs=> ?_);subst hs)|(refine aA [] f1 trivial (λr hs=> ?_);subst hs)|(refine aA [] l1 trivial (λr hs=> ?_);subst hs)|(refine aA [] s1 trivial (λr hs=> ?_);subst hs)|(refine aA [] b1 trivial (λr hs=> ?_);subst hs)|refine dwR ?_|((first|refine aC ?_ ?_|refine aD ?_ ?_)<;>intro hb<;>(first|exact ddX hb|try simp only [lnS]at hb))|(refine aB ?_ ?_<;>intro hb<;>try exact dsX hb))<;>(conv=>whnf)))
 rfl
end Go.Proofs.YtdjfkmkdkclahaaGreatDoor
namespace Go.Proofs.YtdjfkmkdkclahaaGreatDoor
open Go.RowKit
section
variable {P:Program}
def gH (l:List UInt8):List Value:=l.map λc=> .int .u8 c.toNat
def aA3 (P:Program) (f:FuncId) (args:List SV) (e:TypeId) (bs:List UInt8):Prop:=
 ∀(w:World) (ρ:Env) (vs:Array Value),(∀b i,ρ.S b i->b < w.heap.size)->cI w ρ args vs->
  Calls P f vs w λx w'=> ∃v,x= .returned v/\Grew w w'/\w'.ownsRow 0 e 1 v bs.length (gH bs)/\ ∀g,v.ownBlock=some g->w.heap.size<=g
theorem aBp {w:World}{S:Nat->Nat->Prop}(l:List UInt8):Flat w S 1 (l.map aP) (gH l):=by
 refine⟨by simp [gH],λrow h=> ?_,λv h=> ?_,λi row j x h1 h2=> ?_⟩
 ·obtain⟨c,_,rfl⟩:=List.mem_map.1 h;rfl
 ·obtain⟨c,_,rfl⟩:=List.mem_map.1 h;rfl
 ·rw [List.getElem?_map,Option.map_eq_some_iff]at h1
  obtain⟨c,hc,rfl⟩:=h1
  have hj:j=0/\x= .int .u8 c.toNat:=by
   cases j with
   |zero=>simp [aP]at h2;exact⟨rfl,h2.symm⟩
   |succ j=>simp [aP]at h2
  obtain⟨rfl,rfl⟩:=hj
  exact⟨.int .u8 c.toNat,by simp [gH,hc], .int _ _⟩
theorem iQ {pin:Pin}{fr:Fr}{hp:Hp}{f:FuncId}{args:List SV}{K:SV->Hp->Prop}{e:TypeId}{bs:List UInt8}(hc:aA3 P f args e bs) (j:Nat) (hfr:fC j pin fr hp) (hk:K (.osl j 1 (bs.map aP)) ((j, .own e 1 (bs.map aP).length)::hp)):aH P pin fr hp f args K:=by
 intro E ρ w tm hpin hm hf vs hv
 obtain⟨f1,f2,f3⟩:=hfr
 refine(hc w ρ vs hm.slt hv).mono ?_
 rintro x w' ⟨v,rfl,h1,h2,h3⟩
 have hl:bs.length=(bs.map aP).length:=(List.length_map ..).symm
 obtain⟨m1,m2,m3⟩:=hm.newOwn (id:=j) (e:=e) (z:=1) (rows:=bs.map aP) (vs:=gH bs) h1 (by rw [<-hl];exact h2) h3 (aBp bs) f3 (by rw [hpin];exact f1)
 exact .inl ⟨v,_,_,_,rfl,hk,m1,m2 fr tm f2 hf,m3⟩
theorem aIs {w:World}{S:Nat->Nat->Prop}{l:List UInt8}{v:Value}(h:RepD w S (.sl 1 (l.map aP)) v) {g cap n:Nat}{cur:Array Value}{t:TypeId}(hv:v= .slice (some ⟨g,0,none⟩) n cap) (hg:w.heap[g]? =some (.cells cur t (0,0))) (hs:n<=cur.size) (hn:n=l.length):cur.toList.take n=gH l:=by
 obtain⟨A,cap',b,off,e1,_,_,hA,hview⟩:=h.of_sl
 have hl:(l.map aP).length=l.length:=List.length_map ..
 refine List.ext_getElem? λi=> ?_
 rw [List.getElem?_take]
 split
 ·rename_i hi
  have hil:i < l.length:=by omega
  have hne:l.map aP≠[]:=by
   intro e
   have:=congrArg List.length e
   rw [hl]at this
   simp at this
   rw [this]at hil;simp at hil
  have hA':=hA hne
  subst hA'
  rw [hv]at e1
  injection e1 with e1 _ _
  injection e1 with e1
  injection e1 with e1 e2
  subst e1
  obtain⟨u,c1,_,_,c4⟩:=hview.cell i (aP l[i]) 0 (.int .u8 l[i].toNat) (by rw [List.getElem?_map,List.getElem?_eq_getElem hil];rfl) rfl
  cases c4
  have e3:off+(i * 1+0)=i:=by omega
  rw [e3]at c1
  rw [cell_of_row w g i cur t (0,0) hg]at c1
  rw [Array.getElem?_toList,c1]
  simp [gH,List.getElem?_eq_getElem hil]
 ·rename_i hi
  symm
  rw [List.getElem?_eq_none_iff]
  simp [gH];omega
theorem aSo {w:World}{S:Nat->Nat->Prop}{l:List UInt8}{vs:List Value}(h:Flat w S 1 (l.map aP) vs):vs=gH l:=by
 have hl:vs.length=l.length:=by rw [h.len,List.length_map,Nat.mul_one]
 refine List.ext_getElem? λi=> ?_
 by_cases hi:i < l.length
 ·obtain⟨v,h1,h2⟩:=h.at_ i (aP l[i]) 0 (.int .u8 l[i].toNat) (by rw [List.getElem?_map,List.getElem?_eq_getElem hi];rfl) rfl
  have e3:i * 1+0=i:=by omega
  rw [e3]at h1
  cases h2
  rw [h1]
  simp [gH,List.getElem?_eq_getElem hi]
 ·rw [List.getElem?_eq_none_iff.2 (by omega),List.getElem?_eq_none_iff.2 (by simp [gH];omega)]
theorem sM {f:FuncId}{args:List SV}{e:TypeId}{bs:List UInt8}
  (h:aH P ⟨[],λ_ _=>False,[],none⟩ [] [] f args λs h=>(∃id n,s= .osl id 1 (bs.map aP)/\aR h id=some (.own e 1 n)/\n=bs.length)\/ ∃id n cap,s= .mw id 1 n/\aR h id=some (.mrow e 1 cap (bs.map aP))/\n=bs.length/\bs≠[]):aA3 P f args e bs:=by
 intro w ρ vs hslt hargs
 have hm:Mem ⟨w,ρ.S,λ_=>False,⟨[],λ_ _=>False,[],none⟩,ρ,none,[],0⟩ ρ [] w:=
  ⟨rfl,rfl, .refl _,Nat.le_refl _,λ_ _ _=>rfl,λ_ _ h=>h,λ_ _ h _ _=>h,hslt,λ_ _ _=>rfl,λ_ _ h=>by simp [aR]at h,λ_ _ _ _ _ h=>by simp [aR]at h,λ_ _ _ h=>by simp [aR]at h,λid _=>ρ.moved_refl id,λ_ _ _ h=>by simp [aR]at h,λb hb=>by cases hb⟩
 refine(h _ ρ w #[] rfl hm (λt s h=>by simp [dH]at h) vs hargs).mono ?_
 have hl:(bs.map aP).length=bs.length:=List.length_map ..
 rintro x w' (⟨v,ρ',s,hp',rfl,hk,k2,k3,k4⟩|⟨ch,ρ',hp',_,_,hf,_⟩)
 ·have hgrew:Grew w w':=⟨k2.os,k2.tape,k2.output,k2.size,λb hb=>k2.old b hb (λh=>h)⟩
  rcases hk with⟨id,n,rfl,ho,hn⟩|⟨id,n,cap,rfl,ho,hn,hne⟩
  ·obtain⟨q1,xs,q2,q3,q4⟩:=k2.sat id _ ho
   obtain⟨r1,r2,r3⟩:=k4.osl_inv
   have ev:=r3 (by rw [hl,q1,hn])
   subst ev
   refine⟨_,rfl,hgrew, ?_,λg hg=> ?_⟩
   ·rw [q1,hn]at q2
    obtain⟨p1,p2|⟨g,cap,cur,p2,p3,p4,p5,p6,p7,p8⟩⟩:=q2
    ·refine⟨by simp [gH], .inl p2⟩
    ·refine⟨by simp [gH], .inr ⟨g,cap,cur,p2,p3,p4,p5,p6,p7, ?_⟩⟩
     have:=aIs r1 p2 p4 (by rw [p7];omega) rfl
     rw [Nat.mul_one];exact this
   ·rcases k2.hb id _ g ho hg with h1|h1
    ·exact h1
    ·exact h1.elim
  ·obtain⟨q1,q2⟩:=k2.sat id _ ho
   obtain⟨A,c,_,_,_,_,_,e2⟩:=k4.mw_inv
   have ev:=e2 (by rw [q1,hl,hn])
   rcases q2 with⟨p1,p2,A',p3⟩|⟨hc,g,cur,p3,p4,p5,p6,p7,p8,p9⟩
   ·exfalso
    have:(bs.map aP).length=0:=by rw [p1];rfl
    rw [hl]at this
    exact hne (List.length_eq_zero_iff.1 this)
   ·rw [ev,p3]
    refine⟨_,rfl,hgrew,⟨by simp [gH], .inr ⟨g,cap,cur,by rw [hl],Nat.zero_le _,p4,by rw [hl]at p5;exact p5,p6,p7, ?_⟩⟩,λg' hg'=> ?_⟩
    ·have:=aSo p8
     rw [hl]at this;exact this
    ·have hgg:g'=g:=by simp [Value.ownBlock]at hg';exact hg'.symm
     subst hgg
     have hb:dJ (ρ'.tv id)=some g':=by
      rw [p3]
      have hc0:cap≠0:=by omega
      simp [dJ,hc0]
     rcases k2.hb id _ g' ho hb with h1|h1
     ·exact h1
     ·exact h1.elim
 ·exact hf.elim
theorem aA3.tri {f:FuncId}{args:List SV}{e:TypeId}{bs:List UInt8}(h:aA3 P f args e bs):Tri P f args [] (λr=>r= .d (.sl 1 (bs.map aP))):=by
 intro w ρ vs hslt hargs _
 refine(h w ρ vs hslt hargs).mono ?_
 rintro x w' ⟨v,rfl,h1,h2,h3⟩
 have hl:(bs.map aP).length=bs.length:=List.length_map ..
 have hm:Mem ⟨w,ρ.S,λ_=>False,⟨[],λ_ _=>False,[],none⟩,ρ,none,[],0⟩ ρ [] w:=
  ⟨rfl,rfl, .refl _,Nat.le_refl _,λ_ _ _=>rfl,λ_ _ h=>h,λ_ _ h _ _=>h,hslt,λ_ _ _=>rfl,λ_ _ h=>by simp [aR]at h,λ_ _ _ _ _ h=>by simp [aR]at h,λ_ _ _ h=>by simp [aR]at h,λid _=>ρ.moved_refl id,λ_ _ _ h=>by simp [aR]at h,λb hb=>by cases hb⟩
 obtain⟨m1,m2,m3⟩:=hm.newOwn (id:=0) (e:=e) (z:=1) (rows:=bs.map aP) (vs:=gH bs) h1 (by rw [hl];exact h2) h3 (aBp bs) (by simp [lQ]) (λh=>by cases h)
 refine⟨v,_,_,rfl,rfl,h1,m1.sold,λb i hs=> ?_,m1.slt,(Rep.d _ _ m3.osl_inv.1:Rep w' _ (.d (.sl 1 (bs.map aP))) v).noids rfl rfl⟩
 rcases Nat.lt_or_ge b w.heap.size with hlt|hge
 ·exact .inl (m1.snew b i hs hlt (λh=>h))
 ·exact .inr hge
end
end Go.Proofs.YtdjfkmkdkclahaaGreatDoor
namespace Go.Proofs.YtdjfkmkdkclahaaGreatDoor
open Go.Proofs Go.RowKit
set_option maxRecDepth 10000
attribute [local irreducible] aL aH Tri aI YVC bP aS aA3
theorem aIi: ∀(j n:Nat),beN (j+1) n=UInt8.ofNat (n / 256 ^ j % 256)::beN j n
 | 0,n=>by simp [beN]
 |j+1,n=>by
  rw [beN,aIi j (n / 256),beN,List.cons_append,Nat.div_div_eq_div_mul,Nat.pow_succ,Nat.mul_comm 256]
theorem aW3 (x:Nat):((x:Nat):Int).tdiv 256=((x / 256:Nat):Int):=by
 rw [Int.tdiv_eq_ediv_of_nonneg (Int.natCast_nonneg x),Int.natCast_ediv];rfl
theorem aW2 (x:Nat):((x:Nat):Int).tmod 256=((x % 256:Nat):Int):=by
 rw [Int.tmod_eq_emod_of_nonneg (Int.natCast_nonneg x),Int.natCast_emod];rfl
def aJz (m j n:Nat):List UInt8:=List.replicate (m - j) 0++beN j n
theorem aPy (m j n:Nat) (h:j<=m):(aJz m j n).length=m:=by unfold aJz;rw [List.length_append,List.length_replicate,aU];omega
theorem aPx (m j n:Nat) (h:j < m):((aJz m j n).map aP).set (m - 1 - j) (aP (UInt8.ofNat (n / 256 ^ j % 256)))=(aJz m (j+1) n).map aP:=by
 have e:m - j=(m - 1 - j)+1:=by omega
 have e2:m - (j+1)=m - 1 - j:=by omega
 unfold aJz
 rw [e2,aIi,e,List.replicate_succ',List.append_assoc,List.map_append,List.map_append,List.set_append_right _ _ (by simp),List.length_map,List.length_replicate,Nat.sub_self,List.map_append]
 rfl
theorem aN0 (m n:Nat):(aJz m 0 n).map aP=List.replicate m [D.int .u8 0]:=by
 unfold aJz;rw [Nat.sub_zero,beN,List.append_nil,List.map_replicate];rfl
theorem aPz (m n:Nat):aJz m m n=beN m n:=by unfold aJz;rw [Nat.sub_self];rfl
theorem aPi {n:Nat}(h:n < 18446744073709551616) (j:Nat):n / 256 ^ j < 18446744073709551616:=Nat.lt_of_le_of_lt (Nat.div_le_self _ _) h
theorem aL9 (n m:Nat) (hn:n < 18446744073709551616) (h0:1<=m) (hm:m<=8):aA3 Tryz.prog 84 [.d (.int .u64 n), .d (.int .i64 m)] 5 (beN m n):=by
 refine sM ?_
 refine aM false [] hty Tryz.func84 rfl (kp [0,1,4,5,6,12]) 100 (by simp [Tryz.f84]) ?_
 ((conv=>whnf);repeat ((first|(intro hq;try simp only [lnS]at hq)|refine sI ?_|refine .intro _ (.intro rfl ?_));(conv=>whnf)))
 refine aJ hty (λj:Nat=>([(0, .d (.int .u64 ((n / 256 ^ j:Nat):Int))),(1, .d (.int .i64 m)),(5, .mw 108 1 m),(6, .d (.int .i64 ((m:Int) - 1 - (j:Int))))],[(108, .mrow 5 1 m ((aJz m j n).map aP))])) (λj=>j<=m) (λj=>m - j) 0 (by omega) ?_ ?_
 ·rw [Int.toNat_natCast]
  refine⟨?_, ?_⟩
  ·dsimp only
   rw [Nat.pow_zero,Nat.div_one,show ((m:Int) - 1 - ((0:Nat):Int))=(m:Int) - 1 by omega]
   exact by repeat' (first|exact trivial|exact rfl|refine And.intro ?_ ?_)
  ·dsimp only
   rw [aN0]
   exact⟨rfl,trivial⟩
 intro j hj
 have hlen:((aJz m j n).map aP).length=m:=by rw [List.length_map,aPy m j n hj]
 have hd:=aPi hn j
 have hrow:j < m-> ∃row,((aJz m j n).map aP)[m - 1 - j]? =some row:= λh=>⟨_,List.getElem?_eq_getElem (by rw [hlen];omega)⟩
 have hset:j < m->_:=aPx m j n
 have hnd:n / 256 ^ (j+1)=n / 256 ^ j / 256:=by rw [Nat.pow_succ,Nat.div_div_eq_div_mul]
 generalize hx:n / 256 ^ j=x at *
 ((conv=>whnf);repeat ((first|(intro hq;try simp only [lnS]at hq)|refine sI ?_|refine .intro _ (.intro rfl ?_));(conv=>whnf)))
 refine aC (λh1=> ?_) (λh1=> ?_)
 ·have hjm:j < m:=by omega
  obtain⟨row,hrow⟩:=hrow hjm
  replace hset:=hset hjm
  have hti:((m:Int) - 1 - (j:Int)).toNat=m - 1 - j:=by omega
  have t1:=aW2 x
  have t2:=aW3 x
  have hb:IntKind.u8.wrap (((x:Nat):Int).tmod 256)=(((UInt8.ofNat (x % 256)).toNat:Nat):Int):=by
   rw [t1,gM]
   show ((x % 256:Nat):Int) % 256=_
   omega
  have hu:IntKind.u64.wrap (((x:Nat):Int).tdiv 256)=((x / 256:Nat):Int):=by rw [t2];exact gJ _ (by omega)
  rw [<-hti]at hrow hset
  ((conv=>whnf);repeat ((first|(refine⟨row,hrow, ?_⟩)|(intro hq;try simp only [lnS]at hq)|refine sI ?_|refine .intro _ (.intro rfl ?_));(conv=>whnf)))
  rw [hb,hu,show ((m:Int) - 1 - (j:Int) - 1)=(m:Int) - 1 - ((j+1:Nat):Int)by omega]
  refine⟨j+1,by dsimp only;omega,by dsimp only;omega, ?_⟩
  dsimp only
  rw [hnd,<-hset]
  exact⟨by repeat' (first|exact trivial|exact rfl|refine And.intro ?_ ?_),by repeat' (first|exact trivial|exact rfl|refine And.intro ?_ ?_)⟩
 ·have hjm:j=m:=by omega
  subst hjm
  rw [aPz]
  ((conv=>whnf);repeat ((first|(intro hq;try simp only [lnS]at hq)|refine sI ?_|refine .intro _ (.intro rfl ?_));(conv=>whnf)))
  refine .inr ⟨108,j,j,rfl,rfl,(aU j n).symm, ?_⟩
  intro e
  have:=aU j n
  rw [e]at this
  simp at this
  omega
theorem aEf (z:Int):aA3 Tryz.prog 86 [.d (.int .i64 z)] 5 (gK z):=by
 have hB:=aL9 (uN z) 8 (aO0 z) (by decide) (by decide)
 have e:IntKind.u64.wrap z=((uN z:Nat):Int):=by
  have e:IntKind.u64.wrap z=(z % 18446744073709551616):=rfl
  rw [e];unfold uN;omega
 rw [<-e]at hB
 refine sM ?_
 refine aM false [] hty Tryz.func86 rfl (kp [0,2]) 100 (by simp [Tryz.f86]) ?_
 ((conv=>whnf);repeat ((first|(intro hq;try simp only [lnS]at hq)|refine sI ?_|refine .intro _ (.intro rfl ?_));(conv=>whnf)))
 refine iQ hB 200 (bQ (by with_unfolding_all exact rfl)) ?_
 ((conv=>whnf);repeat ((first|(intro hq;try simp only [lnS]at hq)|refine sI ?_|refine .intro _ (.intro rfl ?_));(conv=>whnf)))
 exact .inl ⟨200,_,rfl,rfl,bX _⟩
theorem aCn (s:List UInt8) (hs:s.length<=100000000000000):aA3 Tryz.prog 85 [.d (.str s)] 5 (bR s):=by
 have hB:=aL9 s.length 4 (by omega) (by decide) (by decide)
 have e:IntKind.u64.wrap (s.length:Int)=((s.length:Nat):Int):=gJ _ (by omega)
 rw [<-e]at hB
 have hb63:((beN 4 s.length).map aP).length+(s.map aP).length<=9223372036854775807:=by rw [bX,bX,aU];omega
 have hb48:(((beN 4 s.length).map aP).length+(s.map aP).length)* 1<=140737488355328:=by rw [bX,bX,aU];omega
 refine sM ?_
 refine aM false [] hty Tryz.func85 rfl (kp [0,2]) 100 (by simp [Tryz.f85]) ?_
 ((conv=>whnf);repeat ((first|(intro hq;try simp only [lnS]at hq)|refine sI ?_|refine .intro _ (.intro rfl ?_));(conv=>whnf)))
 refine iQ hB 200 (bQ (by with_unfolding_all exact rfl)) ?_
 ((conv=>whnf);repeat ((first|(refine And.intro hb63 ?_)|(refine And.intro hb48 ?_)|(intro hq;try simp only [lnS]at hq)|refine sI ?_|refine .intro _ (.intro rfl ?_));(conv=>whnf)))
 refine .inl ⟨200,_, ?_,rfl, ?_⟩
 ·unfold bR;rw [cU];rfl
 ·unfold bR;rw [List.length_append,bX,bX]
end Go.Proofs.YtdjfkmkdkclahaaGreatDoor
namespace Go.Proofs.YtdjfkmkdkclahaaGreatDoor
open Go.Proofs Go.RowKit
set_option maxRecDepth 10000
attribute [local irreducible] aL aH Tri aI YVC bP aS aA3
theorem aWz {a b:Nat}{p q:List UInt8}(hp:p.length=a) (hq:q.length=b) (h:a+b<=100000000000000):(p.map aP).length+(q.map aP).length<=9223372036854775807:=by rw [bX,bX];omega
theorem aX0 {a b:Nat}{p q:List UInt8}(hp:p.length=a) (hq:q.length=b) (h:a+b<=100000000000000):((p.map aP).length+(q.map aP).length)* 1<=140737488355328:=by rw [bX,bX];omega
theorem aCs (n:Nat) (h:n<=100000000000000):aA3 Tryz.prog 84 [.d (.int .u64 (IntKind.u64.wrap (n:Int))), .d (.int .i64 4)] 5 (beN 4 n):=by
 rw [gJ _ (by omega)]
 exact aL9 n 4 (by omega) (by decide) (by decide)
theorem aOl (s:List UInt8) (p:Nat) (h:p+(bR s).length<=100000000000000):s.length<=100000000000000:=by
 unfold bR at h;rw [List.length_append,aU]at h;omega
theorem aOk (l:List (List UInt8)) (hl:(bL bR l).length<=100000000000000):aA3 Tryz.prog 83 [.d (.sl 1 (l.map aV))] 5 (bL bR l):=by
 rw [hZ]at hl
 have hn:=rU (w:=bR) (Nat.le_refl 1) (λs=>Nat.le_trans (by decide) (aDq s)) l
 have hlr:(l.map aV).length=l.length:=List.length_map ..
 have hB:=aCs l.length (by omega)
 refine sM ?_
 refine aM false [] hty Tryz.func83 rfl (kp [0,2,3,4,12]) 100 (by simp [Tryz.f83]) ?_
 ((conv=>whnf);repeat ((first|(intro hq;try simp only [lnS]at hq)|refine sI ?_|refine .intro _ (.intro rfl ?_));(conv=>whnf)))
 rw [hlr]
 refine iQ hB 200 (bQ (by with_unfolding_all exact rfl)) ?_
 ((conv=>whnf);repeat ((first|(intro hq;try simp only [lnS]at hq)|refine sI ?_|refine .intro _ (.intro rfl ?_));(conv=>whnf)))
 refine aJ hty (λj:Nat=>([(0, .d (.sl 1 (l.map aV))),(3, .osl 200 1 ((beN 4 l.length++((l.take j).map bR).flatten).map aP)),(4, .d (.int .i64 j))],[(200, .own 5 1 ((beN 4 l.length++((l.take j).map bR).flatten).map aP).length)])) (λj=>j<=l.length) (λj=>l.length - j) 0 (by omega) ⟨by dsimp only;rw [List.take_zero,List.map_nil,List.flatten_nil,List.append_nil];exact by repeat' (first|exact trivial|exact rfl|refine And.intro ?_ ?_),by dsimp only;rw [List.take_zero,List.map_nil,List.flatten_nil,List.append_nil];exact⟨rfl,trivial⟩⟩ ?_
 intro j hj
 ((conv=>whnf);repeat ((first|(intro hq;try simp only [lnS]at hq)|refine sI ?_|refine .intro _ (.intro rfl ?_));(conv=>whnf)))
 rw [hlr]
 refine aC (λh1=> ?_) (λh1=> ?_)
 ·have hjl:j < l.length:=by omega
  have hrow:(l.map aV)[((j:Nat):Int).toNat]? =some (aV l[j]):=aO hjl
  have hnx:beN 4 l.length++((l.take (j+1)).map bR).flatten=beN 4 l.length++((l.take j).map bR).flatten++bR l[j]:=by rw [gE (w:=bR) hjl,List.append_assoc]
  have hle:=aD6 (w:=bR) l (j+1)
  rw [gE (w:=bR) hjl,List.length_append]at hle
  have hqq:(beN 4 l.length++((l.take j).map bR).flatten).length=4+(((l.take j).map bR).flatten).length:=by rw [List.length_append,aU]
  have hb63:=aWz hqq (q:=bR l[j]) rfl (by omega)
  have hb48:=aX0 hqq (q:=bR l[j]) rfl (by omega)
  have hx:=(aCn l[j] (aOl _ _ (Nat.le_trans hle (by omega)))).tri
  rw [show aV l[j]=[.str l[j]]from rfl]at hrow
  generalize beN 4 l.length++((l.take j).map bR).flatten=q at *
  ((conv=>whnf);repeat ((first|(refine⟨_,hrow, ?_⟩)|(refine And.intro hb63 ?_)|(refine And.intro hb48 ?_)|(refine aA [] hx trivial (λr hs=> ?_);subst hs)|(intro hq;try simp only [lnS]at hq)|refine sI ?_|refine .intro _ (.intro rfl ?_));(conv=>whnf)))
  refine⟨j+1,by dsimp only;omega,by dsimp only;omega, ?_⟩
  dsimp only
  rw [hnx,cU,List.length_append]
  exact⟨by repeat' (first|exact trivial|exact rfl|refine And.intro ?_ ?_),by repeat' (first|exact trivial|exact rfl|refine And.intro ?_ ?_)⟩
 ·have hjl:j=l.length:=by omega
  subst hjl
  rw [List.take_length]
  ((conv=>whnf);repeat ((first|(intro hq;try simp only [lnS]at hq)|refine sI ?_|refine .intro _ (.intro rfl ?_));(conv=>whnf)))
  exact .inl ⟨200,_,rfl,rfl,bX _⟩
end Go.Proofs.YtdjfkmkdkclahaaGreatDoor
namespace Go.Proofs.YtdjfkmkdkclahaaGreatDoor
open Go.Proofs Go.RowKit
set_option maxRecDepth 10000
attribute [local irreducible] aL aH Tri aI YVC bP aS aA3
end Go.Proofs.YtdjfkmkdkclahaaGreatDoor
namespace Go.Proofs.YtdjfkmkdkclahaaGreatDoor
open Go.Proofs Go.RowKit
set_option maxRecDepth 10000
attribute [local irreducible] aL aH Tri aI YVC bP aS aA3
end Go.Proofs.YtdjfkmkdkclahaaGreatDoor
namespace Go.Proofs.YtdjfkmkdkclahaaGreatDoor
open Go.Proofs
abbrev RS:=List UInt8×Bool
abbrev Tr (α:Type):=RS->α×RS
section
variable {α β:Type}
def aW4 (a:α):Tr α:= λs=>(a,s)
def aIy (t:Tr α) (f:α->β):Tr β:= λs=>(f (t s).1,(t s).2)
def mX (t:Tr α) (f:α->Tr β):Tr β:= λs=>f (t s).1 (t s).2
def gU (n:Nat):Tr (List UInt8):= λs=>if s.2=true\/s.1.length < n then ([],(s.1,true))else (s.1.take n,(s.1.drop n,false))
def gI (k:Nat):Tr Nat:=aIy (gU k) deN
def fI (least:Nat):Tr Nat:= λs=>if (gI 4 s).2.2=true\/(gI 4 s).2.1.length / least < (gI 4 s).1 then (0,((gI 4 s).2.1,true))else gI 4 s
def vX (t:Tr α):Nat->Tr (List α)
 | 0=>aW4 []
 |n+1=> λs=>if s.2=true then ([],s)else ((t s).1::(vX t n (t s).2).1,(vX t n (t s).2).2)
theorem sO (t:Tr α) (n:Nat) (s:RS):vX t (n+1) s=if s.2=true then ([],s)else ((t s).1::(vX t n (t s).2).1,(vX t n (t s).2).2):=rfl
def jN (least:Nat) (t:Tr α):Tr (List α):=mX (fI least) (vX t)
structure Sim (t:Tr α) (r:Rd α):Prop where
 bad: ∀b,(t (b,true)).2.2=true
 ok: ∀b x c,r b=some (x,c)->t (b,false)=(x,(c,false))
 no: ∀b,r b=none->(t (b,false)).2.2=true
theorem Sim.map {t:Tr α}{r:Rd α}(h:Sim t r) (f:α->β):Sim (aIy t f) (pJ r f):=by
 refine⟨λb=>h.bad b,λb x c e=> ?_,λb e=> ?_⟩
 ·obtain⟨y,h1,rfl⟩:=aHf e
  unfold aIy;rw [h.ok b y c h1]
 ·refine h.no b ?_
  unfold pJ at e
  exact Option.map_eq_none_iff.1 e
theorem Sim.bind {t:Tr α}{r:Rd α}{f:α->Tr β}{g:α->Rd β}(h:Sim t r) (k: ∀x,Sim (f x) (g x)):Sim (mX t f) (dG r g):=by
 have kb: ∀x (s:RS),s.2=true->(f x s).2.2=true:=by
  rintro x ⟨b,d⟩ hs
  have hs:d=true:=hs
  subst hs
  exact(k x).bad b
 refine⟨λb=>kb _ _ (h.bad b),λb x c e=> ?_,λb e=> ?_⟩
 ·obtain⟨y,d,h1,h2⟩:=aL8 e
  unfold mX;rw [h.ok b y d h1]
  exact(k y).ok d x c h2
 ·cases h1:r b with
  |none=>exact kb _ _ (h.no b h1)
  |some p=>
   obtain⟨y,d⟩:=p
   rw [aZ h1]at e
   unfold mX;rw [h.ok b y d h1]
   exact(k y).no d e
theorem aHc (n:Nat):Sim (gU n) (lW n):=by
 refine⟨λb=> ?_,λb x c e=> ?_,λb e=> ?_⟩
 ·unfold gU;rw [if_pos (.inl rfl)]
 ·unfold lW at e
  split at e
  ·injection e with e;injection e with e1 e2
   unfold gU;rw [if_neg (by simp;omega),e1,e2]
  ·cases e
 ·unfold lW at e
  split at e
  ·cases e
  ·unfold gU;rw [if_pos (.inr (by simp;omega))]
theorem aCi (k:Nat):Sim (gI k) (aA6 k):=(aHc k).map deN
theorem aOb (least:Nat):Sim (fI least) (aJ9 least):=by
 have h:=aCi 4
 refine⟨λb=> ?_,λb x c e=> ?_,λb e=> ?_⟩
 ·unfold fI;rw [if_pos (.inl (h.bad b))]
 ·unfold aJ9 at e
  obtain⟨p,h1,h2⟩:=Option.bind_eq_some_iff.1 e
  split at h2
  ·cases h2
  ·rename_i h3
   injection h2 with h2
   subst h2
   unfold fI
   have h3:¬ c.length / least < x:=by simpa using h3
   rw [h.ok b x c h1,if_neg (by simpa using h3)]
 ·unfold aJ9 at e
  cases h1:aA6 4 b with
  |none=>unfold fI;rw [if_pos (.inl (h.no b h1))]
  |some p=>
   obtain⟨x,c⟩:=p
   rw [h1]at e
   simp only [Option.bind_some]at e
   split at e
   ·rename_i h3
    unfold fI;rw [h.ok b x c h1,if_pos (.inr h3)]
   ·cases e
theorem aB6 (t:Tr α) (n:Nat) {s:RS}(h:s.2=true):vX t n s=([],s):=by
 cases n with
 |zero=>rfl
 |succ n=>rw [sO,if_pos h]
theorem aKv {t:Tr α}{r:Rd α}(h:Sim t r): ∀n,Sim (vX t n) (sS r n)
 | 0=>⟨λb=>rfl,λb x c e=>by injection e with e;injection e with e1 e2;subst e1 e2;rfl,λb e=>by cases e⟩
 |n+1=>by
  have ih:=aKv h n
  have k:=Sim.bind h (λx=>ih.map (x:: ·))
  refine⟨λb=>by rw [aB6 t (n+1) rfl],λb x c e=> ?_,λb e=> ?_⟩
  ·have:=k.ok b x c e
   rw [<-this]
   rfl
  ·have:=k.no b e
   exact this
theorem wU {t:Tr α}{r:Rd α}(h:Sim t r) (least:Nat):Sim (jN least t) (aBd least r):=(aOb least).bind λn=>aKv h n
theorem pQ (t:Tr α): ∀(n:Nat) (s:RS) (l:List α) (s1:RS),vX t n s=(l,s1)->l.length=n->s1.2=false->vX t (n+1) s=(l++[(t s1).1],(t s1).2)
 | 0,s,l,s1,h,_,hb=>by
  injection h with h1 h2
  subst h1 h2
  rw [sO,if_neg (by rw [hb];simp)];rfl
 |n+1,s,l,s1,h,hl,hb=>by
  rw [sO]at h
  split at h
  ·injection h with h1 h2;subst h1;simp at hl
  ·rename_i h0
   injection h with h1 h2
   cases l with
   |nil=>cases h1
   |cons x l=>
    injection h1 with h1 h3
    have:=pQ t n (t s).2 l s1 (by rw [<-h3,<-h2]) (by simpa using hl) hb
    rw [sO,if_neg h0,this,<-h1];rfl
theorem pP (t:Tr α): ∀(k n:Nat) (s:RS) (l:List α) (s1:RS),vX t k s=(l,s1)->s1.2=true->k<=n->vX t n s=(l,s1)
 | 0,n,s,l,s1,h,hb,_=>by
  injection h with h1 h2
  subst h1 h2
  exact aB6 t n hb
 |k+1,0,s,l,s1,h,hb,hk=>absurd hk (by omega)
 |k+1,n+1,s,l,s1,h,hb,hk=>by
  rw [sO]at h |-
  split at h
  ·rename_i h0;rw [if_pos h0];exact h
  ·rename_i h0
   injection h with h1 h2
   rw [if_neg h0]
   have:=pP t k n (t s).2 (vX t k (t s).2).1 s1 (by rw [<-h2]) hb (by omega)
   rw [this,<-h1]
def aDl (t:Tr α):Prop:= ∀s,(t s).2.1.length<=s.1.length
theorem qK (n:Nat):aDl (gU n):=by
 intro s
 unfold gU
 split
 ·exact Nat.le_refl _
 ·show (s.1.drop n).length<=_
  rw [List.length_drop];omega
theorem lP {t:Tr α}(h:aDl t) (f:α->β):aDl (aIy t f):=h
theorem fZ {t:Tr α}{f:α->Tr β}(h:aDl t) (k: ∀x,aDl (f x)):aDl (mX t f):= λs=>Nat.le_trans (k _ _) (h s)
theorem qL (least:Nat):aDl (fI least):=by
 intro s
 have h:aDl (gI 4):=lP (qK 4) deN
 unfold fI
 split
 ·exact h s
 ·exact h s
theorem aHw {t:Tr α}(h:aDl t): ∀n,aDl (vX t n)
 | 0=> λs=>Nat.le_refl _
 |n+1=> λs=>by
  rw [sO]
  split
  ·exact Nat.le_refl _
  ·exact Nat.le_trans (aHw h n _) (h s)
theorem aE4 (n:Nat) (s:RS):(gU n s).1.length<=n:=by
 unfold gU
 split
 ·simp
 ·show (s.1.take n).length<=n
  rw [List.length_take];omega
theorem aCa {least:Nat}(s:RS) (h:0 < least):(fI least s).1<=s.1.length:=by
 have hl:(gI 4 s).2.1.length<=s.1.length:=lP (qK 4) deN s
 unfold fI
 split
 ·simp
 ·rename_i h1
  have h2:¬ (gI 4 s).2.1.length / least < (gI 4 s).1:= λe=>h1 (.inr e)
  have h3:(gI 4 s).2.1.length / least<=(gI 4 s).2.1.length:=Nat.div_le_self _ _
  omega
end
theorem aXi {α:Type}{t:Tr α}{r:Rd α}(h:Sim t r) (wr:α->List UInt8×Int) (zero:α) (bad:Int) (b:List UInt8):
  eF r wr zero bad b=if (t (b,false)).2.2=true\/(t (b,false)).2.1≠[]\/wr (t (b,false)).1≠(b,0)then (zero,bad)else ((t (b,false)).1,0):=by
 cases h1:r b with
 |none=>
  rw [if_pos (.inl (h.no b h1))]
  unfold eF;rw [h1]
 |some p=>
  obtain⟨x,c⟩:=p
  rw [h.ok b x c h1]
  unfold eF;rw [h1]
  cases c with
  |nil=>
   by_cases hw:wr x=(b,0)
   ·simp [hw]
   ·simp [hw]
  |cons y c=>simp
end Go.Proofs.YtdjfkmkdkclahaaGreatDoor
namespace Go.Proofs.YtdjfkmkdkclahaaGreatDoor
open Go.Proofs Go.RowKit
set_option maxRecDepth 10000
attribute [local irreducible] aL aH Tri aI YVC bP aS
abbrev rfO (s:RS):HObj:= .cells 124 [.d (.sl 1 (s.1.map aP)), .d (.bool s.2)]
abbrev aXn:Pin:=⟨[3],λ_ _=>False,[],none⟩
def RfT {α:Type}(f:FuncId) (ex:List SV) (t:Tr α) (e:α->SV):Prop:= ∀s:RS,s.1.length<=1000000->
 aH Tryz.prog aXn [] [(3,rfO s)] f (.ptr 3 0::ex) (λr h=>r=e (t s).1/\aR h 3=some (rfO (t s).2))
theorem RfT.call {α:Type}{f:FuncId}{ex:List SV}{t:Tr α}{e:α->SV}(h:RfT f ex t e) (hx:SV.idsL ex=[]) (he: ∀x,(e x).ids=[]) {pin:Pin}{fr:Fr}{hp:Hp}{i:Nat}{K:SV->Hp->Prop}(s:RS) (hb:s.1.length<=1000000) (hg:aR hp i=some (rfO s))
  (hok:iG hp i (rfO (t s).2) (K (e (t s).1))):aH Tryz.prog pin fr hp f (.ptr i 0::ex) K:=by
 have hs: ∀b,(rfO b).sim:= λb s hs=>by
  simp at hs
  rcases hs with rfl|rfl<;>exact rfl
 refine jK (λ_=>i) [3] [(3,rfO s)] (h s hb) (aNa hg rfl (hs s)) (λk hk=>hk) (by rw [List.map_cons,xB hx];rfl) ?_ ?_ ?_ (.inr λ_ h=>h)
 ·intro s hs
  rcases List.mem_cons.1 hs with rfl|hs
  ·trivial
  ·exact wV hx s hs
 ·rintro r h1 ⟨rfl,e3⟩
  refine⟨aHd (he _), ?_,_,aLw hg e3 (hs _) (λh=>h) rfl rfl, ?_⟩
  ·intro j hj
   rw [he]at hj
   cases hj
  ·rw [aHe (he _)]
   rw [cX]at hok
   exact hok
 ·exact λh1 h2=>h2.elim
theorem aH9 {n:Nat}{s:RS}(h:s.2=true\/s.1.length < n):gU n s=([],(s.1,true)):=if_pos h
theorem aO8 {n:Nat}{b:List UInt8}(h:¬ b.length < n):gU n (b,false)=(b.take n,(b.drop n,false)):=if_neg (by simp;omega)
theorem aUt (n:Nat) (hn:n < 18446744073709551616):RfT 138 [.d (.int .u64 n)] (gU n) (λl=> .d (.sl 1 (l.map aP))):=by
 rintro⟨b,d⟩ hb
 have hbl:=bX b
 have hw:IntKind.u64.wrap ((b.length:Nat):Int)=((b.length:Nat):Int):=gJ _ (by dsimp only at hb;omega)
 dsimp only at hb
 refine aH.says ?_
 refine aM false [] hty Tryz.func138 rfl (kp [0,1,4,5,19]) 100 (by simp [Tryz.f138]) ?_
 cases d
 ·by_cases h:b.length < n
  ·rw [aH9 (.inr h)]
   ((conv=>whnf);repeat ((first|(intro hq;try simp only [lnS]at hq)|refine sI ?_|refine .intro _ (.intro rfl ?_));(conv=>whnf)))
   rw [hbl,hw]
   ((conv=>whnf);repeat' ((first|(intro hq;(try simp only [lnS]at hq);(try rewrite [List.length_map]))|refine sJ ?_|refine .intro _ (.intro rfl ?_)|refine exL (k:= ?_)|refine dwR ?_|((first|refine aC ?_ ?_|refine aD ?_ ?_)<;>intro hb<;>(first|exact ddX hb|try simp only [lnS]at hb))|(refine aB ?_ ?_<;>intro hb<;>try exact dsX hb))<;>(conv=>whnf)))
   exact⟨_,bW.nil,rfl,rfl⟩
  ·rw [aO8 h]
   have e1:List.drop 0 (List.take ((n:Nat):Int).toNat (b.map aP))=(b.take n).map aP:=by rw [Int.toNat_natCast,List.drop_zero,List.map_take]
   have e2:List.drop ((n:Nat):Int).toNat (List.take (b.map aP).length (b.map aP))=(b.drop n).map aP:=by rw [Int.toNat_natCast,List.take_length,List.map_drop]
   ((conv=>whnf);repeat ((first|(intro hq;try simp only [lnS]at hq)|refine sI ?_|refine .intro _ (.intro rfl ?_));(conv=>whnf)))
   rw [hbl,hw]
   ((conv=>whnf);repeat' ((first|(intro hq;(try simp only [lnS]at hq);(try rewrite [List.length_map]))|refine sJ ?_|refine .intro _ (.intro rfl ?_)|refine exL (k:= ?_)|refine dwR ?_|((first|refine aC ?_ ?_|refine aD ?_ ?_)<;>intro hb<;>(first|exact ddX hb|try simp only [lnS]at hb))|(refine aB ?_ ?_<;>intro hb<;>try exact dsX hb))<;>(conv=>whnf)))
   refine⟨_, .refl _, ?_, ?_⟩
   ·show SV.d (D.sl 1 (List.drop 0 (List.take ((n:Nat):Int).toNat (b.map aP))))=_
    rw [e1]
   ·show some (HObj.cells 124 [.d (.sl 1 (List.drop ((n:Nat):Int).toNat (List.take (b.map aP).length (b.map aP)))), .d (.bool false)])=_
    rw [e2]
 ·rw [aH9 (.inl rfl)]
  ((conv=>whnf);repeat' ((first|(intro hq;(try simp only [lnS]at hq);(try rewrite [List.length_map]))|refine sJ ?_|refine .intro _ (.intro rfl ?_)|refine exL (k:= ?_)|refine dwR ?_|((first|refine aC ?_ ?_|refine aD ?_ ?_)<;>intro hb<;>(first|exact ddX hb|try simp only [lnS]at hb))|(refine aB ?_ ?_<;>intro hb<;>try exact dsX hb))<;>(conv=>whnf)))
  exact⟨_,bW.nil,rfl,rfl⟩
theorem aUl {x c:Nat}(hx:x < 72057594037927936) (hc:c < 256):IntKind.u64.wrap (IntKind.u64.wrap (256 * (x:Int))+IntKind.u64.wrap (c:Int))=((256 * x+c:Nat):Int):=by
 rw [show (256 * (x:Int))=((256 * x:Nat):Int)by omega,gJ _ (by omega),gJ _ (by omega),<-Int.natCast_add,gJ _ (by omega)]
theorem aVs (m:Nat) (hm:m<=8):RfT 90 [.d (.int .i64 m)] (gI m) (λn=> .d (.int .u64 n)):=by
 intro s hb
 have hw:IntKind.u64.wrap ((m:Nat):Int)=((m:Nat):Int):=gJ _ (by omega)
 have hl8:=aE4 m s
 have hE:gI m s=(deN (gU m s).1,(gU m s).2):=rfl
 rw [hE]
 clear hE
 have hT:RfT 138 [.d (.int .u64 (IntKind.u64.wrap ((m:Nat):Int)))] (gU m) (λl=> .d (.sl 1 (l.map aP))):=by rw [hw];exact aUt m (by omega)
 refine aM false [] hty Tryz.func90 rfl (kp [0,1,4,5,6,7,15]) 100 (by simp [Tryz.f90]) ?_
 ((conv=>whnf);repeat ((first|(intro hq;try simp only [lnS]at hq)|refine sI ?_|refine .intro _ (.intro rfl ?_));(conv=>whnf)))
 refine RfT.call hT rfl (λ_=>rfl) s hb rfl ?_
 generalize (gU m s).1=l at *
 generalize (gU m s).2=s1 at *
 have hlr:=bX l
 ((conv=>whnf);repeat ((first|(intro hq;try simp only [lnS]at hq)|refine sI ?_|refine .intro _ (.intro rfl ?_));(conv=>whnf)))
 refine aJ hty (λj:Nat=>([(5, .d (.sl 1 (l.map aP))),(6, .d (.int .u64 ((deN (l.take j):Nat):Int))),(7, .d (.int .i64 j))],[(3,rfO s1)])) (λj=>j<=l.length) (λj=>l.length - j) 0 (by omega) ⟨by repeat' (first|exact trivial|exact rfl|refine And.intro ?_ ?_),by repeat' (first|exact trivial|exact rfl|refine And.intro ?_ ?_)⟩ ?_
 intro j hj
 ((conv=>whnf);repeat ((first|(intro hq;try simp only [lnS]at hq)|refine sI ?_|refine .intro _ (.intro rfl ?_));(conv=>whnf)))
 rw [hlr]
 refine aC (λh1=> ?_) (λh1=> ?_)
 ·have hjl:j < l.length:=by omega
  have hrow:(l.map aP)[((j:Nat):Int).toNat]? =some (aP l[j]):=aO hjl
  have hx:deN (l.take j) < 72057594037927936:=by
   have h2:=jR j (l.take j) (by rw [List.length_take];omega)
   have h3:256 ^ j<=256 ^ 7:=Nat.pow_le_pow_right (by decide) (by omega)
   have h4:(256:Nat) ^ 7=72057594037927936:=by decide
   omega
  have hc:(l[j]).toNat < 256:=l[j].toNat_lt
  have hn:deN (l.take (j+1))=256 * deN (l.take j)+(l[j]).toNat:=by rw [List.take_succ_eq_append_getElem hjl,lS]
  have hma:=aUl hx hc
  generalize l[j]=c at *
  generalize deN (l.take j)=x at *
  ((conv=>whnf);repeat' ((first|(intro hq;(try simp only [lnS]at hq);(try rewrite [List.length_map]))|refine sJ ?_|refine .intro _ (.intro rfl ?_)|refine exL (k:= ?_)|(refine⟨_,hrow, ?_⟩)|refine dwR ?_|((first|refine aC ?_ ?_|refine aD ?_ ?_)<;>intro hb<;>(first|exact ddX hb|try simp only [lnS]at hb))|(refine aB ?_ ?_<;>intro hb<;>try exact dsX hb))<;>(conv=>whnf)))
  rw [hma]
  refine⟨j+1,by dsimp only;omega,by dsimp only;omega, ?_⟩
  dsimp only
  rw [hn]
  exact⟨by repeat' (first|exact trivial|exact rfl|refine And.intro ?_ ?_),by repeat' (first|exact trivial|exact rfl|refine And.intro ?_ ?_)⟩
 ·have hjl:j=l.length:=by omega
  subst hjl
  rw [List.take_length]
  ((conv=>whnf);repeat ((first|(intro hq;try simp only [lnS]at hq)|refine sI ?_|refine .intro _ (.intro rfl ?_));(conv=>whnf)))
  exact rfl
theorem aUy {m:Nat}: ∀{l:List UInt8},l.length<=m->deN l < 256 ^ m:= λ{l} h=>Nat.lt_of_lt_of_le (jR l.length l rfl) (Nat.pow_le_pow_right (by decide) h)
theorem aC9 (m:Nat) (s:RS):(gI m s).1 < 256 ^ m:=aUy (aE4 m s)
def aIz:Tr Int:=aIy (gI 8) sgN
def jT:Tr (List UInt8):=mX (gI 4) gU
theorem aKw:Sim aIz aEi:=(aCi 8).map sgN
theorem aCh:Sim jT aFp:=(aCi 4).bind λn=>aHc n
theorem lO (k:Nat):aDl (gI k):=lP (qK k) deN
theorem wE:aDl aIz:=lP (lO 8) sgN
theorem gO:aDl jT:=fZ (lO 4) λn=>qK n
theorem aMf:RfT 92 [] aIz (λz=> .d (.int .i64 z)):=by
 intro s hb
 have hlt:=aC9 8 s
 have hE:aIz s=(sgN (gI 8 s).1,(gI 8 s).2):=rfl
 rw [hE,<-aIq _ hlt]
 refine aM false [] hty Tryz.func92 rfl (kp [0,2]) 100 (by simp [Tryz.f92]) ?_
 ((conv=>whnf);repeat ((first|(intro hq;try simp only [lnS]at hq)|refine sI ?_|refine .intro _ (.intro rfl ?_));(conv=>whnf)))
 refine RfT.call (aVs 8 (by decide)) rfl (λ_=>rfl) s hb rfl ?_
 ((conv=>whnf);repeat ((first|(intro hq;try simp only [lnS]at hq)|refine sI ?_|refine .intro _ (.intro rfl ?_));(conv=>whnf)))
 exact rfl
theorem aPg:RfT 91 [] jT (λs=> .d (.str s)):=by
 intro s hb
 have hlt:=aC9 4 s
 have hle:=lO 4 s
 have hE:jT s=gU (gI 4 s).1 (gI 4 s).2:=rfl
 rw [hE]
 refine aH.mono (K:= λr h=>r= .d (.str (unb ((gU (gI 4 s).1 (gI 4 s).2).1.map aP)))/\aR h 3=some (rfO (gU (gI 4 s).1 (gI 4 s).2).2)) (λr h ⟨h1,h2⟩=>⟨by rw [h1,dT],h2⟩) ?_
 refine aM false [] hty Tryz.func91 rfl (kp [0,2]) 100 (by simp [Tryz.f91]) ?_
 ((conv=>whnf);repeat ((first|(intro hq;try simp only [lnS]at hq)|refine sI ?_|refine .intro _ (.intro rfl ?_));(conv=>whnf)))
 refine RfT.call (aVs 4 (by decide)) rfl (λ_=>rfl) s hb rfl ?_
 generalize (gI 4 s).1=n at *
 generalize (gI 4 s).2=s1 at *
 ((conv=>whnf);repeat ((first|(intro hq;try simp only [lnS]at hq)|refine sI ?_|refine .intro _ (.intro rfl ?_));(conv=>whnf)))
 refine RfT.call (aUt n (by omega)) rfl (λ_=>rfl) s1 (by omega) rfl ?_
 ((conv=>whnf);repeat ((first|(intro hq;try simp only [lnS]at hq)|refine sI ?_|refine .intro _ (.intro rfl ?_));(conv=>whnf)))
 exact rfl
theorem aSt (least:Nat) (h0:0 < least) (h1:least<=1000):RfT 89 [.d (.int .i64 least)] (fI least) (λn=> .d (.int .i64 n)):=by
 intro s hb
 have hlt:=aC9 4 s
 have hle:=lO 4 s
 have hE:fI least s=if (gI 4 s).2.2=true\/(gI 4 s).2.1.length / least < (gI 4 s).1 then (0,((gI 4 s).2.1,true))else gI 4 s:=rfl
 rw [hE]
 refine aM false [] hty Tryz.func89 rfl (kp [0,1,4,5,23]) 100 (by simp [Tryz.f89]) ?_
 ((conv=>whnf);repeat ((first|(intro hq;try simp only [lnS]at hq)|refine sI ?_|refine .intro _ (.intro rfl ?_));(conv=>whnf)))
 refine RfT.call (aVs 4 (by decide)) rfl (λ_=>rfl) s hb rfl ?_
 generalize gI 4 s=q at *
 obtain⟨n,b,d⟩:=q
 dsimp only at hlt hle |-
 have hbl:=bX b
 have hw1:IntKind.i64.wrap ((n:Nat):Int)=((n:Nat):Int):=IntWalk.i64_in _ (by omega)
 have hdl:b.length / least<=b.length:=Nat.div_le_self _ _
 have hqq:(((b.length:Nat):Int).tdiv ((least:Nat):Int))=((b.length / least:Nat):Int):=by
  rw [Int.tdiv_eq_ediv_of_nonneg (Int.natCast_nonneg _),Int.natCast_ediv]
 have hqr: -9223372036854775808<=(((b.map aP).length:Nat):Int).tdiv ((least:Nat):Int)/\(((b.map aP).length:Nat):Int).tdiv ((least:Nat):Int)<=9223372036854775807:=by
  rw [hbl,hqq]
  clear hqq
  generalize b.length / least=k at *
  omega
 have hw2:IntKind.u64.wrap ((b.length / least:Nat):Int)=((b.length / least:Nat):Int):=gJ _ (Nat.lt_of_le_of_lt hdl (by omega))
 cases d
 ·by_cases h:b.length / least < n
  ·rw [if_pos (.inr h)]
   ((conv=>whnf);repeat ((first|(refine And.intro hqr ?_)|(intro hq;try simp only [lnS]at hq)|refine sI ?_|refine .intro _ (.intro rfl ?_));(conv=>whnf)))
   rw [hbl,hqq,hw2]
   ((conv=>whnf);repeat' ((first|(intro hq;(try simp only [lnS]at hq);(try rewrite [List.length_map]))|refine sJ ?_|refine .intro _ (.intro rfl ?_)|refine exL (k:= ?_)|refine dwR ?_|((first|refine aC ?_ ?_|refine aD ?_ ?_)<;>intro hb<;>(first|exact ddX hb|try simp only [lnS]at hb))|(refine aB ?_ ?_<;>intro hb<;>try exact dsX hb))<;>(conv=>whnf)))
   exact rfl
  ·rw [if_neg (by simpa using h)]
   ((conv=>whnf);repeat ((first|(refine And.intro hqr ?_)|(intro hq;try simp only [lnS]at hq)|refine sI ?_|refine .intro _ (.intro rfl ?_));(conv=>whnf)))
   rw [hbl,hqq,hw2]
   ((conv=>whnf);repeat' ((first|(intro hq;(try simp only [lnS]at hq);(try rewrite [List.length_map]))|refine sJ ?_|refine .intro _ (.intro rfl ?_)|refine exL (k:= ?_)|refine dwR ?_|((first|refine aC ?_ ?_|refine aD ?_ ?_)<;>intro hb<;>(first|exact ddX hb|try simp only [lnS]at hb))|(refine aB ?_ ?_<;>intro hb<;>try exact dsX hb))<;>(conv=>whnf)))
   rw [hw1]
   exact⟨rfl,rfl⟩
 ·rw [if_pos (.inl rfl)]
  ((conv=>whnf);repeat' ((first|(intro hq;(try simp only [lnS]at hq);(try rewrite [List.length_map]))|refine sJ ?_|refine .intro _ (.intro rfl ?_)|refine exL (k:= ?_)|refine dwR ?_|((first|refine aC ?_ ?_|refine aD ?_ ?_)<;>intro hb<;>(first|exact ddX hb|try simp only [lnS]at hb))|(refine aB ?_ ?_<;>intro hb<;>try exact dsX hb))<;>(conv=>whnf)))
  exact rfl
end Go.Proofs.YtdjfkmkdkclahaaGreatDoor
namespace Go.Proofs.YtdjfkmkdkclahaaGreatDoor
open Go.Proofs Go.RowKit
set_option maxRecDepth 10000
attribute [local irreducible] aL aH Tri aI YVC bP aS
end Go.Proofs.YtdjfkmkdkclahaaGreatDoor
namespace Go.Proofs.YtdjfkmkdkclahaaGreatDoor
open Go.Proofs Go.RowKit
set_option maxRecDepth 10000
attribute [local irreducible] aL aH Tri aI YVC bP aS
theorem aUv:RfT 88 [] (jN 4 jT) (λl=> .d (.sl 1 (l.map aV))):=by
 intro s hb
 have hT:jN 4 jT s=vX jT (fI 4 s).1 (fI 4 s).2:=rfl
 rw [hT]
 clear hT
 have l2:=qL 4 s
 have hle:=aCa (least:=4) s (by decide)
 refine aH.says ?_
 refine aM false [] hty Tryz.func88 rfl (kp [0,2,3,4,5,18]) 100 (by simp [Tryz.f88]) ?_
 ((conv=>whnf);repeat ((first|(intro hq;try simp only [lnS]at hq)|refine sI ?_|refine .intro _ (.intro rfl ?_));(conv=>whnf)))
 refine RfT.call (aSt 4 (by decide) (by decide)) rfl (λ_=>rfl) s hb rfl ?_
 generalize (fI 4 s).1=n at *
 generalize (fI 4 s).2=s2 at *
 have hs2:s2.1.length<=1000000:=Nat.le_trans l2 hb
 have hn:n<=1000000:=Nat.le_trans hle hb
 clear l2 hle
 ((conv=>whnf);repeat ((first|(intro hq;try simp only [lnS]at hq)|refine sI ?_|refine .intro _ (.intro rfl ?_));(conv=>whnf)))
 refine aJ hty (λy:List (List UInt8)×RS=>([(0, .ptr 3 0),(3, .osl 106 1 (y.1.map aV)),(4, .d (.int .i64 n)),(5, .d (.int .i64 y.1.length))],[(106, .own 9 1 (y.1.map aV).length),(3,rfO y.2)])) (λy=>vX jT y.1.length s2=y/\y.1.length<=n/\y.2.1.length<=1000000) (λy=>n - y.1.length) ([],s2) ⟨rfl,Nat.zero_le _,hs2⟩ ⟨by repeat' (first|exact trivial|exact rfl|refine And.intro ?_ ?_),by repeat' (first|exact trivial|exact rfl|refine And.intro ?_ ?_)⟩ ?_
 rintro⟨l,s⟩ ⟨h1,h2,h3⟩
 dsimp only at h1 h2 h3
 obtain⟨b,d⟩:=s
 have hml:(l.map aV).length=l.length:=List.length_map ..
 have hb63:(l.map aV).length+1<=9223372036854775807:=by rw [hml];omega
 have hb48:((l.map aV).length+1)* 16<=140737488355328:=by rw [hml];omega
 by_cases hc:l.length < n/\d=false
 ·obtain⟨hc,rfl⟩:=hc
  have hless:=gO (b,false)
  have hnx:=pQ jT l.length s2 l (b,false) h1 rfl rfl
  ((conv=>whnf);repeat ((first|(intro hq;try simp only [lnS]at hq)|refine sI ?_|refine .intro _ (.intro rfl ?_));(conv=>whnf)))
  refine aC (λh5=> ?_) (λh5=>absurd hc (by dsimp only at h5;omega))
  clear h5
  ((conv=>whnf);repeat ((first|(intro hq;try simp only [lnS]at hq)|refine sI ?_|refine .intro _ (.intro rfl ?_));(conv=>whnf)))
  refine RfT.call aPg rfl (λ_=>rfl) (b,false) h3 rfl ?_
  generalize (jT (b,false)).1=x at *
  generalize (jT (b,false)).2=s3 at *
  ((conv=>whnf);repeat ((first|(refine And.intro hb63 ?_)|(refine And.intro hb48 ?_)|(intro hq;try simp only [lnS]at hq)|refine sI ?_|refine .intro _ (.intro rfl ?_));(conv=>whnf)))
  refine⟨(l++[_],s3),⟨by dsimp only;rw [List.length_append];exact hnx,by dsimp only;rw [List.length_append,List.length_singleton];omega,Nat.le_trans hless h3⟩,by dsimp only;rw [List.length_append,List.length_singleton];omega, ?_⟩
  dsimp only
  rw [List.map_append,List.length_append,List.length_append]
  exact⟨by repeat' (first|exact trivial|exact rfl|refine And.intro ?_ ?_),by repeat' (first|exact trivial|exact rfl|refine And.intro ?_ ?_)⟩
 have hfull:vX jT n s2=(l,(b,d)):=by
  by_cases e:l.length=n
  ·rw [<-e];exact h1
  ·have hd:d=true:=by
    cases d with
    |true=>rfl
    |false=>exact absurd ⟨by omega,rfl⟩ hc
   exact pP jT l.length n s2 l (b,d) h1 hd h2
 rw [hfull]
 have hstop:l.length < n->d=true:= λh=>by
  cases d with
  |true=>rfl
  |false=>exact absurd ⟨h,rfl⟩ hc
 ((conv=>whnf);repeat ((first|(intro hq;try simp only [lnS]at hq)|refine sI ?_|refine .intro _ (.intro rfl ?_));(conv=>whnf)))
 refine aC (λh5=> ?_) (λh5=> ?_)
 ·have hnd:(!d)=false:=by rw [hstop (by dsimp only at h5;omega)];rfl
  ((conv=>whnf);repeat ((first|(intro hq;try simp only [lnS]at hq)|refine sI ?_|refine .intro _ (.intro rfl ?_));(conv=>whnf)))
  rw [hnd]
  ((conv=>whnf);repeat ((first|(intro hq;try simp only [lnS]at hq)|refine sI ?_|refine .intro _ (.intro rfl ?_));(conv=>whnf)))
  exact⟨_,bW.osl,rfl,rfl⟩
 ·((conv=>whnf);repeat ((first|(intro hq;try simp only [lnS]at hq)|refine sI ?_|refine .intro _ (.intro rfl ?_));(conv=>whnf)))
  exact⟨_,bW.osl,rfl,rfl⟩
end Go.Proofs.YtdjfkmkdkclahaaGreatDoor
namespace Go.Proofs.YtdjfkmkdkclahaaGreatDoor
open Go.Proofs
def aW5:Tr Int:=aIy (gI 1) λn=>(n:Int)
theorem aRs:Sim aW5 aTd:=(aCi 1).map _
theorem aPa:aDl aW5:=lP (lO 1) _
theorem aBl {α:Type}{t:Tr α}(h:aDl t) (k:Nat):aDl (jN k t):=fZ (qL k) λn=>aHw h n
def tAt:Tr At:=mX aW5 λk=>mX jT λn=>mX jT λx=>mX jT λy=>mX aIz λlo=>aIy aIz λhi=>⟨k,n,x,y,lo,hi⟩
theorem aTx:Sim tAt rAt:=aRs.bind λk=>aCh.bind λn=>aCh.bind λx=>aCh.bind λy=>aKw.bind λlo=>aKw.map _
theorem aLu:aDl tAt:=fZ aPa λk=>fZ gO λn=>fZ gO λx=>fZ gO λy=>fZ wE λlo=>lP wE _
def tQy:Tr Qy:=mX (jN 4 jT) λt=>aIy (jN 4 (jN 29 tAt)) λp=>⟨t,p⟩
theorem aTw:Sim tQy aRy:=(wU aCh 4).bind λt=>(wU (wU aTx 29) 4).map _
section
variable {α β:Type}
end
end Go.Proofs.YtdjfkmkdkclahaaGreatDoor
namespace Go.Proofs.YtdjfkmkdkclahaaGreatDoor
open Go.Proofs Go.RowKit
set_option maxRecDepth 10000
attribute [local irreducible] aL aH Tri aI YVC bP aS aA3
theorem f63 {q r s:List UInt8}(h:q.length+r.length+s.length<=100000000000000):(q.map aP++r.map aP).length+(s.map aP).length<=9223372036854775807:=by rw [List.length_append,bX,bX,bX];omega
theorem f48 {q r s:List UInt8}(h:q.length+r.length+s.length<=100000000000000):((q.map aP++r.map aP).length+(s.map aP).length)* 1<=140737488355328:=by rw [List.length_append,bX,bX,bX];omega
end Go.Proofs.YtdjfkmkdkclahaaGreatDoor
