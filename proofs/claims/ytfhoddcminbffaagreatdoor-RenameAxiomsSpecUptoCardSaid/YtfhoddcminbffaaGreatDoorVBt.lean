/-
  Terms: Vocabulary. Terms: the vocabulary, plainly: whose names it holds. Terms: tidying keeps a concept valid and adds no names. Terms: what a valid concept and a valid axiom are; tidying keeps axioms valid.
  Conditions: none.
-/
import Derived.Test.YtfhoddcminbffaaGreatDoorVAo
import Derived.Test.YtfhoddcminbffaaGreatDoorVAp
import Derived.Test.YtfhoddcminbffaaGreatDoorVTca
set_option linter.unnecessarySimpa false
set_option linter.unusedSectionVars false
set_option linter.unusedSimpArgs false
set_option linter.unusedVariables false
namespace Go.Proofs.YtfhoddcminbffaaGreatDoor
open Go.Proofs
set_option maxRecDepth 10000
attribute [local irreducible] aV aM Tri aI YVC dQ bN
def gU:List Ax->Int
 | []=>0
 |x::r=>if bK x≠0 then bK x else gU r
theorem uG {c:Cn}(h:eF c=true):aQ c=1:=by
 unfold eF at h
 simp only [Bool.and_eq_true,decide_eq_true_eq]at h
 rw [bY,h.2.2.2.2];rfl
theorem aBu {k:Int}(h:1<=k/\k<=9):(cK k).most<=4:=by
 have:k=1\/k=2\/k=3\/k=4\/k=5\/k=6\/k=7\/k=8\/k=9:=by omega
 rcases this with h|h|h|h|h|h|h|h|h<;>rw [h]<;>decide
theorem kY {x:Ax}(h:bK x=0):aQ x.left<=64/\aQ x.right<=64/\x.roles.length<=4:=by
 obtain⟨hk,hl,hr⟩:=rX h
 have hm:=aBu hk
 unfold bK at h
 split at h
 ·simp at h
 ·rename_i hs
  have hs:bE x=true:=by simpa using hs
  unfold bE at hs
  rw [if_neg (by omega)]at hs
  generalize cK x.kind=u at *
  unfold bG at hs
  simp only [Bool.and_eq_true,Bool.or_eq_true,decide_eq_true_eq]at hs
  refine⟨?_, ?_, ?_⟩
  ·cases hu:u.left
   ·have:eF x.left=true:=by simp_all
    rw [uG this];omega
   ·exact(cX (hl hu)).1
  ·cases hu:u.right
   ·have:eF x.right=true:=by simp_all
    rw [uG this];omega
   ·exact(cX (hr hu)).1
  ·omega
theorem nY: ∀{l:List Ax}{j:Nat}(h:j < l.length),(∀x∈l.take j,bK x=0)->¬ bK l[j]=0->gU l=bK l[j]
 |x::r,0,_,_,he=>by
  have he:bK x≠0:=he
  rw [gU,if_pos he];rfl
 |x::r,j+1,h,hz,he=>by
  have h0:bK x=0:=hz x (by simp)
  rw [gU,if_neg (by simpa using h0)]
  exact nY (by simpa using h) (λy hy=>hz y (by simp [hy])) he
theorem rO: ∀{l:List Ax},(∀x∈l,bK x=0)->gU l=0
 | [],_=>rfl
 |x::r,h=>by
  rw [gU,if_neg (by simpa using h x (by simp))]
  exact rO λy hy=>h y (by simp [hy])
theorem nmH {t:Nat}{r:Hp}(h:t∉iL r) {B:Prop}(b:B):t∉iL r/\B:=⟨h,b⟩
theorem frH {id:Nat}{pin:List Nat}{fr:Fr}{hp:Hp}(h:fB id pin fr hp) {B:Prop}(b:B):fB id pin fr hp/\B:=⟨h,b⟩
theorem pY {l:List Ax}{j:Nat}(h:j < l.length):(l.map axR)[(j:Int).toNat]? =some (axR l[j]):=by
 rw [Int.toNat_natCast,List.getElem?_map,List.getElem?_eq_getElem h];rfl
end Go.Proofs.YtfhoddcminbffaaGreatDoor
namespace Go.Proofs.YtfhoddcminbffaaGreatDoor
open Go.Proofs
def mV (k:Int) (c:Cn) (s:List UInt8):Prop:= ∃n∈eO c,n.kind=k/\n.name=s
def axA (x:Ax) (s:List UInt8):Prop:=mV 3 x.left s\/mV 3 x.right s
def axB (x:Ax) (s:List UInt8):Prop:=mV 6 x.left s\/mV 6 x.right s\/s∈x.roles\/x.role=s
def axC (x:Ax) (s:List UInt8):Prop:=mV 7 x.left s\/mV 7 x.right s
def axD (x:Ax) (s:List UInt8):Prop:=mV 4 x.left s\/mV 4 x.right s\/x.a=s\/x.b=s
end Go.Proofs.YtfhoddcminbffaaGreatDoor
namespace Go.Proofs.YtfhoddcminbffaaGreatDoor
open Go.Proofs
def Okn (c:Cn):Prop:= ∀x∈eO c,bJ x=0
theorem iK {x:Cn}: ∀{l:List Cn},x∈bC l↔ ∃p∈l,x∈eO p
 | []=>by simp [bC]
 |c::r=>by rw [bC,List.mem_append,iK];simp
theorem jA (c:Cn):Okn c↔bJ c=0/\ ∀p∈c.parts,Okn p:=by
 unfold Okn
 rw [eN]
 constructor
 ·intro h
  exact⟨h c (by simp),λp hp x hx=>h x (List.mem_cons_of_mem _ (iK.2 ⟨p,hp,hx⟩))⟩
 ·rintro⟨h1,h2⟩ x hx
  rcases List.mem_cons.1 hx with rfl|hx
  ·exact h1
  ·obtain⟨p,hp,hx⟩:=iK.1 hx
   exact h2 p hp x hx
theorem jD (k:Int) (c:Cn) (s:List UInt8):mV k c s↔(c.kind=k/\c.name=s)\/ ∃p∈c.parts,mV k p s:=by
 unfold mV
 rw [eN]
 constructor
 ·rintro⟨n,hn,h⟩
  rcases List.mem_cons.1 hn with rfl|hn
  ·exact .inl h
  ·obtain⟨p,hp,hx⟩:=iK.1 hn
   exact .inr ⟨p,hp,n,hx,h⟩
 ·rintro(h|⟨p,hp,n,hn,h⟩)
  ·exact⟨c,by simp,h⟩
  ·exact⟨n,List.mem_cons_of_mem _ (iK.2 ⟨p,hp,hn⟩),h⟩
theorem kU {p:Cn}: ∀{l:List Cn},p∈l->cG p+1<=cQ l
 |c::r,h=>by
  rw [cQ]
  rcases List.mem_cons.1 h with rfl|h
  ·omega
  ·have:=kU h;omega
theorem xZ {n:Nat}: ∀{l:List Cn},(∀p∈l,cG p+1<=n)->cQ l<=n
 | [],_=>by simp [cQ]
 |c::r,h=>by
  rw [cQ]
  have h1:=h c (by simp)
  have h2:=xZ λp hp=>h p (List.mem_cons_of_mem _ hp)
  omega
theorem nL: ∀(l:List Cn),lU l=true↔ ∃p∈l,bU p=true
 | []=>by simp [lU]
 |c::r=>by
  rw [lU]
  have:=nL r
  split<;>simp_all
theorem gL (c:Cn):bU c=if c.kind=4 then true else if c.kind=5 then lU c.parts else false:=by cases c;rw [bU];rfl
def iC (t c:Cn):Prop:= ∀k s,k≠1->k≠5->mV k t s->mV k c s
structure Keep (c t:Cn):Prop where
 ok:Okn t
 dep:cG t<=cG c
 nam:iC t c
 bare:bU t=true->bU c=true
theorem aD5:bJ aGf=0:=by decide
theorem aA8 {s:List Cn}(h1:2<=s.length) (h2:s.length<=8):bJ (.mk 5 [] 0 0 s)=0:=by
 unfold bJ
 rw [if_neg (by simp [Cn.kind])]
 show fW ⟨0,2,8,false⟩ (.mk 5 [] 0 0 s)=0
 unfold fW zW
 simp [Cn.parts,Cn.name,Cn.lo,Cn.hi]
 omega
structure Part (c m:Cn):Prop where
 ok:Okn m
 dep:cG m+1<=cG c
 nam:iC m c
 bare:bU m=true->bU c=true
theorem Part.keep {c m:Cn}(h:Part c m):Keep c m:=⟨h.ok,by have:=h.dep;omega,h.nam,h.bare⟩
theorem aD8 {c:Cn}{s:List Cn}(h: ∀m∈s,Part c m) (h0:(hZ s).2=0) (hk:c.kind=5):Keep c (hZ s).1:=by
 unfold hZ at h0 |-
 split
 ·rename_i t ht
  exact(h t (List.mem_of_find?_eq_some ht)).keep
 ·rename_i hn
  rw [hn]at h0
  simp only at h0
  split
  ·refine⟨(jA _).2 ⟨aD5,λp hp=>by simp [aGf,Cn.parts]at hp⟩,by rw [kG];simp [aGf,Cn.parts,cQ],λk s h1 h2 hh=> ?_,λhb=> ?_⟩
   ·rw [jD]at hh
    rcases hh with⟨e,_⟩|⟨p,hp,_⟩
    ·exact absurd e.symm h1
    ·simp [aGf,Cn.parts]at hp
   ·rw [gL]at hb;simp [aGf,Cn.kind]at hb
  ·rename_i e0
   rw [if_neg e0]at h0
   split
   ·rename_i e1
    match s,e1 with
    | [x],_=>exact(h x (by simp)).keep
   ·rename_i e1
    rw [if_neg e1]at h0
    split
    ·rename_i e2;rw [if_pos e2]at h0;simp at h0
    ·rename_i e2
     refine⟨(jA _).2 ⟨aA8 (by omega) (by omega),λp hp=>(h p hp).ok⟩, ?_,λk n h1 h2 hh=> ?_,λhb=> ?_⟩
     ·show cG (.mk 5 [] 0 0 s)<=_
      rw [cG];exact xZ λp hp=>(h p hp).dep
     ·rw [jD]at hh
      rcases hh with⟨e,_⟩|⟨p,hp,hh⟩
      ·exact absurd e.symm h2
      ·exact(h p hp).nam k n h1 h2 hh
     ·rw [gL]at hb
      simp only [Cn.kind,Cn.parts]at hb
      have hb:lU s=true:=by simpa using hb
      obtain⟨p,hp,hb⟩:=(nL _).1 hb
      exact(h p hp).bare hb
theorem kF {n:Need}{c:Cn}(hn:n.nums=false):fW n c=0↔(n.least<=c.parts.length/\(c.parts.length:Int)<=n.most/\(n.name=0->c.name=[]))/\(c.lo=0/\c.hi=0)/\zW n c.name=0:=by
 unfold fW
 split
 ·rename_i h
  constructor
  ·intro h;exact absurd h (by decide)
  ·rintro⟨⟨h1,h2,h3⟩,_⟩
   rcases h with h|h|⟨h,h'⟩
   ·omega
   ·omega
   ·exact absurd (h3 h) h'
 ·rename_i h
  rw [if_neg (by rw [hn];decide)]
  have h1:n.least<=c.parts.length/\(c.parts.length:Int)<=n.most/\(n.name=0->c.name=[]):=by
   refine⟨by omega,by omega,λh0=> ?_⟩
   by_cases h2:c.name=[]
   ·exact h2
   ·exact absurd (.inr (.inr ⟨h0,h2⟩)) h
  split
  ·rename_i h2
   constructor
   ·intro h;exact absurd h (by decide)
   ·rintro⟨_,⟨h3,h4⟩,_⟩
    omega
  ·rename_i h2
   exact⟨λh=>⟨h1,by omega,h⟩,λh=>h.2.2⟩
theorem nZ {c:Cn}{k:Int}(hk:c.kind=k) (h:1<=k/\k<=7):bJ c=fW (eD k) c:=by
 unfold bJ
 rw [if_neg (by omega),hk]
theorem aA7 {c r:Cn}(hk:c.kind=6) (h:bJ c=0):bJ (.mk 6 c.name 0 0 [r])=0:=by
 rw [nZ hk (by decide),kF rfl]at h
 rw [nZ (k:=6) rfl (by decide),kF rfl]
 exact⟨⟨show (1:Int)<=((1:Nat):Int)by decide,show ((1:Nat):Int)<=1 by decide,λh0=>absurd h0 (by decide)⟩,⟨rfl,rfl⟩,h.2.2⟩
theorem wM: ∀c:Cn,Okn c->(aL c).2=0->Keep c (aL c).1:=by
 refine Cn.ind ?_
 intro c ih hok h0
 obtain⟨hf,hp⟩:=(jA c).1 hok
 have self:Keep c c:=⟨hok,Nat.le_refl _,λ_ _ _ _ h=>h,id⟩
 rw [fZ]at h0 |-
 split
 ·rename_i h6
  rw [if_pos h6]at h0
  cases hps:c.parts with
  |nil=>
   exfalso
   rw [nZ h6 (by decide),kF rfl,hps]at hf
   have h1:(1:Int)<=([]:List Cn).length:=hf.1.1
   simp at h1
  |cons p r=>
   rw [hps]at h0
   simp only [List.map_cons,pA]at h0 |-
   have hpm:p∈c.parts:=by rw [hps];simp
   have hd:cG p+1<=cG c:=by rw [kG c];exact kU hpm
   have hnm:iC p c:= λk s _ _ h=>(jD k c s).2 (.inr ⟨p,hpm,h⟩)
   split
   ·rename_i hb
    rw [if_pos hb]at h0
    have hk:=ih p hpm (hp p hpm) h0
    have h2:(aL p).1.kind=2:=by rcases hb with hb|hb;exact absurd h0 hb;exact hb
    exact⟨hk.ok,by have:=hk.dep;omega,λk s h1 h2 hh=>hnm k s h1 h2 (hk.nam k s h1 h2 hh),λhb=>by rw [gL,h2]at hb;simp at hb⟩
   ·rename_i hb
    have hk:=ih p hpm (hp p hpm) (by omega)
    refine⟨(jA _).2 ⟨?_,λq hq=> ?_⟩, ?_,λk s h1 h2 hh=> ?_,λhb=> ?_⟩
    ·exact aA7 h6 hf
    ·simp [Cn.parts]at hq;subst hq;exact hk.ok
    ·rw [cG,cQ,cQ]
     have:=hk.dep;omega
    ·rw [jD]at hh
     rcases hh with⟨e1,e2⟩|⟨q,hq,hh⟩
     ·exact(jD k c s).2 (.inl ⟨h6.trans e1,e2⟩)
     ·simp [Cn.parts]at hq;subst hq
      exact hnm k s h1 h2 (hk.nam k s h1 h2 hh)
    ·rw [gL]at hb;simp [Cn.kind]at hb
 ·rename_i h6
  rw [if_neg h6]at h0
  split
  ·rename_i h5
   rw [if_pos h5]at h0
   unfold hY at h0 |-
   split
   ·rename_i r hr
    rw [hr]at h0
    have:=List.find?_some hr
    simp at this h0
    exact absurd h0 this
   ·rename_i hn
    rw [hn]at h0
    simp only at h0
    have hz: ∀p∈c.parts,(aL p).2=0:= λp hp=>by
     have:=List.find?_eq_none.1 hn (aL p) (List.mem_map_of_mem hp)
     simpa using this
    refine aD8 (λm hm=> ?_) h0 h5
    rw [pO,List.mem_flatMap]at hm
    obtain⟨r,hr,hm⟩:=hm
    obtain⟨p,hpm,rfl⟩:=List.mem_map.1 hr
    have hk:=ih p hpm (hp p hpm) (hz p hpm)
    have hd:cG p+1<=cG c:=by rw [kG c];exact kU hpm
    have hnm:iC p c:= λk s _ _ h=>(jD k c s).2 (.inr ⟨p,hpm,h⟩)
    have hbr:bU p=true->bU c=true:= λh=>by
     rw [gL,if_neg (by omega),if_pos h5]
     exact(nL _).2 ⟨p,hpm,h⟩
    unfold dJ at hm
    split at hm
    ·simp at hm
    ·split at hm
     ·rename_i k5
      have hokm:=((jA _).1 hk.ok).2 m hm
      have hdm:cG m+1<=cG (aL p).1:=by rw [kG (aL p).1];exact kU hm
      refine⟨hokm,by have:=hk.dep;omega,λk s h1 h2 hh=>hnm k s h1 h2 (hk.nam k s h1 h2 ((jD _ _ _).2 (.inr ⟨m,hm,hh⟩))),λhb=>hbr (hk.bare ?_)⟩
      rw [gL,if_neg (by omega),if_pos k5]
      exact(nL _).2 ⟨m,hm,hb⟩
     ·simp at hm;subst hm
      exact⟨hk.ok,by have:=hk.dep;omega,λk s h1 h2 hh=>hnm k s h1 h2 (hk.nam k s h1 h2 hh),λhb=>hbr (hk.bare hb)⟩
  ·exact self
end Go.Proofs.YtfhoddcminbffaaGreatDoor
namespace Go.Proofs.YtfhoddcminbffaaGreatDoor
open Go.Proofs
theorem aD3: ∀(l:List Cn),cU l=0↔ ∀x∈l,bJ x=0:= λl=>
 ⟨λh=>lP h,λh=>by have:=jE l [] h;rw [List.append_nil]at this;rw [this];rfl⟩
mutual
theorem xW: ∀(c:Cn) (d n:Int),((dW c d n).1=true↔d+cG c<=8/\n+aQ c<=64)
 | .mk k s lo hi ps,d,n=>by
  have e:aQ (.mk k s lo hi ps)=fS ps+1:=bY _
  rw [dW,cG,e]
  split
  ·rename_i h
   simp only [Bool.false_eq_true,false_iff]
   omega
  ·rename_i h
   rw [xV ps d (n+1) (by omega) (by omega)]
   omega
theorem xV: ∀(l:List Cn) (d n:Int),d<=8->n<=64->((fF l d n).1=true↔d+cQ l<=8/\n+fS l<=64)
 | [],d,n,hd,hn=>by
  rw [fF,cQ,gB]
  simp only [true_iff]
  omega
 |c::r,d,n,hd,hn=>by
  have h1:=xW c (d+1) n
  have h2:=nX c (d+1) n
  rw [fF,cQ,bH]
  split
  ·rename_i hb
   rw [hb]at h1
   have h1:=h1.1 rfl
   rw [h2 hb,xV r d _ hd (by omega)]
   omega
  ·rename_i hb
   have h1:¬ (d+1+cG c<=8/\n+aQ c<=64):= λh=>hb (h1.2 h)
   simp only [Bool.false_eq_true,false_iff]
   omega
end
theorem fQ (c:Cn):bI c=0↔cG c<=8/\aQ c<=64/\Okn c:=by
 have h:=xW c 0 0
 unfold bI
 split
 ·rename_i hf
  rw [hf]at h
  constructor
  ·intro h;exact absurd h (by decide)
  ·rintro⟨h1,h2,_⟩
   exact absurd (h.2 ⟨by omega,by omega⟩) (by decide)
 ·rename_i hf
  have hf:(dW c 0 0).1=true:=by simpa using hf
  have h1:=h.1 hf
  rw [aD3]
  exact⟨λh=>⟨by omega,by omega,h⟩,λh=>h.2.2⟩
theorem yD {c:Cn}(h:bI c=0) (h0:(aL c).2=0):bI (aL c).1=0/\iC (aL c).1 c/\(bU (aL c).1=true->bU c=true):=by
 obtain⟨h1,h2,h3⟩:=(fQ c).1 h
 have hk:=wM c h3 h0
 have hs:=fE c
 exact⟨(fQ _).2 ⟨by have:=hk.dep;omega,by omega,hk.ok⟩,hk.nam,hk.bare⟩
theorem aBd {c:Cn}(h:eF c=true):c=c0:=by
 obtain⟨k,n,lo,hi,ps⟩:=c
 have h:(decide (k=0) && (decide (n=[]) && (decide (lo=0) && (decide (hi=0) && decide (ps=[])))))=true:=h
 simp only [Bool.and_eq_true,decide_eq_true_eq]at h
 obtain⟨rfl,rfl,rfl,rfl,rfl⟩:=h
 rfl
end Go.Proofs.YtfhoddcminbffaaGreatDoor
