/-
  Terms: Vocabulary. Terms: the vocabulary, plainly: whose names it holds. Terms: tidying keeps a concept valid and adds no names. Terms: what a valid concept and a valid axiom are; tidying keeps axioms valid. Terms: tidying keeps an axiom valid and adds no names; the names of valid axioms are names. Terms: has, within of the law; FewAxioms of the reference. Terms: within of the law. Terms: vocabularies are sorted without repetition, and are within one another as the law says. What encoding axioms, commits and alignments answers, and that both readers read it again; plain.
  Conditions: none.
-/
import Derived.Test.YtbobcfjlbcgchaaGreatDoorVOe
import Derived.Test.YtbobcfjlbcgchaaGreatDoorVAp
import Derived.Test.YtbobcfjlbcgchaaGreatDoorVAk
import Derived.Test.YtbobcfjlbcgchaaGreatDoorVOb
set_option linter.unnecessarySimpa false
set_option linter.unusedSectionVars false
set_option linter.unusedSimpArgs false
set_option linter.unusedVariables false
set_option maxHeartbeats 4000000
namespace Go.Proofs.YtbobcfjlbcgchaaGreatDoor
open Go.Proofs
set_option maxRecDepth 10000
attribute [local irreducible] aJ aF Tri aG YVC bS aQ
def dF:List Ax->Int
 | []=>0
 |x::r=>if bL x≠0 then bL x else dF r
theorem aA3 {c:Cn}(h:fF c=true):bB c=1:=by
 unfold fF at h
 simp only [Bool.and_eq_true,decide_eq_true_eq]at h
 rw [eJ,h.2.2.2.2];rfl
theorem aIg {k:Int}(h:1<=k/\k<=9):(dB k).most<=4:=by
 have:k=1\/k=2\/k=3\/k=4\/k=5\/k=6\/k=7\/k=8\/k=9:=by omega
 rcases this with h|h|h|h|h|h|h|h|h<;>rw [h]<;>decide
theorem sW {x:Ax}(h:bL x=0):bB x.left<=64/\bB x.right<=64/\x.roles.length<=4:=by
 obtain⟨hk,hl,hr⟩:=xW h
 have hm:=aIg hk
 unfold bL at h
 split at h
 ·simp at h
 ·rename_i hs
  have hs:bC x=true:=by simpa using hs
  unfold bC at hs
  rw [if_neg (by omega)]at hs
  generalize dB x.kind=u at *
  unfold bI at hs
  simp only [Bool.and_eq_true,Bool.or_eq_true,decide_eq_true_eq]at hs
  refine⟨?_, ?_, ?_⟩
  ·cases hu:u.left
   ·have:fF x.left=true:=by simp_all
    rw [aA3 this];omega
   ·exact(dQ (hl hu)).1
  ·cases hu:u.right
   ·have:fF x.right=true:=by simp_all
    rw [aA3 this];omega
   ·exact(dQ (hr hu)).1
  ·omega
structure PairN (v:Nm) (e:Int) (s:SV):Prop where
 ex: ∃a,s= .tup [.d a, .d (.int .i64 e)]/\(a= .agg (nmR v)\/WkD a (.agg (nmR v)))
theorem Tri.pairN {P:Program}{f:FuncId}{qs:List SV}{hp:Hp}{v:Nm}{e:Int}(h:Tri P f qs hp (PairN v e)):Tri P f qs hp (λr=>r= .tup [.d (.agg (nmR v)), .d (.int .i64 e)]):=by
 refine Tri.resT h ?_
 rintro s ⟨a,rfl,rfl|hw⟩
 ·exact .inl rfl
 ·exact .inr ⟨_,[.d (.agg (nmR v)), .d (.int .i64 e)],rfl,⟨hw,by exact rfl,trivial⟩,rfl⟩
theorem sR: ∀{l:List Ax}{j:Nat}(h:j < l.length),(∀x∈l.take j,bL x=0)->¬ bL l[j]=0->dF l=bL l[j]
 |x::r,0,_,_,he=>by
  have he:bL x≠0:=he
  rw [dF,if_pos he];rfl
 |x::r,j+1,h,hz,he=>by
  have h0:bL x=0:=hz x (by simp)
  rw [dF,if_neg (by simpa using h0)]
  exact sR (by simpa using h) (λy hy=>hz y (by simp [hy])) he
theorem xG: ∀{l:List Ax},(∀x∈l,bL x=0)->dF l=0
 | [],_=>rfl
 |x::r,h=>by
  rw [dF,if_neg (by simpa using h x (by simp))]
  exact xG λy hy=>h y (by simp [hy])
theorem jD {l:List Ax}{j:Nat}(h:j < l.length):(l.map axR)[(j:Int).toNat]? =some (axR l[j]):=by
 rw [Int.toNat_natCast,List.getElem?_map,List.getElem?_eq_getElem h];rfl
end Go.Proofs.YtbobcfjlbcgchaaGreatDoor
namespace Go.Proofs.YtbobcfjlbcgchaaGreatDoor
open Go.Proofs
def nZ (k:Int) (c:Cn) (s:List UInt8):Prop:= ∃n∈gG c,n.kind=k/\n.name=s
def axA (x:Ax) (s:List UInt8):Prop:=nZ 3 x.left s\/nZ 3 x.right s
def axB (x:Ax) (s:List UInt8):Prop:=nZ 6 x.left s\/nZ 6 x.right s\/s∈x.roles\/x.role=s
def axC (x:Ax) (s:List UInt8):Prop:=nZ 7 x.left s\/nZ 7 x.right s
def axD (x:Ax) (s:List UInt8):Prop:=nZ 4 x.left s\/nZ 4 x.right s\/x.a=s\/x.b=s
end Go.Proofs.YtbobcfjlbcgchaaGreatDoor
namespace Go.Proofs.YtbobcfjlbcgchaaGreatDoor
open Go.Proofs
def Okn (c:Cn):Prop:= ∀x∈gG c,bR x=0
theorem jT {x:Cn}: ∀{l:List Cn},x∈bM l↔ ∃p∈l,x∈gG p
 | []=>by simp [bM]
 |c::r=>by rw [bM,List.mem_append,jT];simp
theorem gL (c:Cn):Okn c↔bR c=0/\ ∀p∈c.parts,Okn p:=by
 unfold Okn
 rw [eP]
 constructor
 ·intro h
  exact⟨h c (by simp),λp hp x hx=>h x (List.mem_cons_of_mem _ (jT.2 ⟨p,hp,hx⟩))⟩
 ·rintro⟨h1,h2⟩ x hx
  rcases List.mem_cons.1 hx with rfl|hx
  ·exact h1
  ·obtain⟨p,hp,hx⟩:=jT.1 hx
   exact h2 p hp x hx
theorem dP (k:Int) (c:Cn) (s:List UInt8):nZ k c s↔(c.kind=k/\c.name=s)\/ ∃p∈c.parts,nZ k p s:=by
 unfold nZ
 rw [eP]
 constructor
 ·rintro⟨n,hn,h⟩
  rcases List.mem_cons.1 hn with rfl|hn
  ·exact .inl h
  ·obtain⟨p,hp,hx⟩:=jT.1 hn
   exact .inr ⟨p,hp,n,hx,h⟩
 ·rintro(h|⟨p,hp,n,hn,h⟩)
  ·exact⟨c,by simp,h⟩
  ·exact⟨n,List.mem_cons_of_mem _ (jT.2 ⟨p,hp,hn⟩),h⟩
theorem nO {p:Cn}: ∀{l:List Cn},p∈l->dV p+1<=gQ l
 |c::r,h=>by
  rw [gQ]
  rcases List.mem_cons.1 h with rfl|h
  ·omega
  ·have:=nO h;omega
theorem aDm {n:Nat}: ∀{l:List Cn},(∀p∈l,dV p+1<=n)->gQ l<=n
 | [],_=>by simp [gQ]
 |c::r,h=>by
  rw [gQ]
  have h1:=h c (by simp)
  have h2:=aDm λp hp=>h p (List.mem_cons_of_mem _ hp)
  omega
theorem kG: ∀(l:List Cn),sV l=true↔ ∃p∈l,cC p=true
 | []=>by simp [sV]
 |c::r=>by
  rw [sV]
  have:=kG r
  split<;>simp_all
theorem kH (c:Cn):cC c=if c.kind=4 then true else if c.kind=5 then sV c.parts else false:=by cases c;rw [cC];rfl
def jJ (t c:Cn):Prop:= ∀k s,k≠1->k≠5->nZ k t s->nZ k c s
structure Keep (c t:Cn):Prop where
 ok:Okn t
 dep:dV t<=dV c
 nam:jJ t c
 bare:cC t=true->cC c=true
theorem aK0:bR aKj=0:=by decide
theorem aFl {s:List Cn}(h1:2<=s.length) (h2:s.length<=8):bR (.mk 5 [] 0 0 s)=0:=by
 unfold bR
 rw [if_neg (by simp [Cn.kind])]
 show gO ⟨0,2,8,false⟩ (.mk 5 [] 0 0 s)=0
 unfold gO aBc
 simp [Cn.parts,Cn.name,Cn.lo,Cn.hi]
 omega
structure Part (c m:Cn):Prop where
 ok:Okn m
 dep:dV m+1<=dV c
 nam:jJ m c
 bare:cC m=true->cC c=true
theorem Part.keep {c m:Cn}(h:Part c m):Keep c m:=⟨h.ok,by have:=h.dep;omega,h.nam,h.bare⟩
theorem aK8 {c:Cn}{s:List Cn}(h: ∀m∈s,Part c m) (h0:(eG s).2=0) (hk:c.kind=5):Keep c (eG s).1:=by
 unfold eG at h0 |-
 split
 ·rename_i t ht
  exact(h t (List.mem_of_find?_eq_some ht)).keep
 ·rename_i hn
  rw [hn]at h0
  simp only at h0
  split
  ·refine⟨(gL _).2 ⟨aK0,λp hp=>by simp [aKj,Cn.parts]at hp⟩,by rw [kC];simp [aKj,Cn.parts,gQ],λk s h1 h2 hh=> ?_,λhb=> ?_⟩
   ·rw [dP]at hh
    rcases hh with⟨e,_⟩|⟨p,hp,_⟩
    ·exact absurd e.symm h1
    ·simp [aKj,Cn.parts]at hp
   ·rw [kH]at hb;simp [aKj,Cn.kind]at hb
  ·rename_i e0
   rw [if_neg e0]at h0
   split
   ·rename_i e1
    match s,e1 with
    | [x],_=>exact(h x (by simp)).keep
   ·rename_i e1
    rw [if_neg e1]at h0
    split
    ·rename_i e2;rw [if_pos e2]at h0;simp at h0
    ·rename_i e2
     refine⟨(gL _).2 ⟨aFl (by omega) (by omega),λp hp=>(h p hp).ok⟩, ?_,λk n h1 h2 hh=> ?_,λhb=> ?_⟩
     ·show dV (.mk 5 [] 0 0 s)<=_
      rw [dV];exact aDm λp hp=>(h p hp).dep
     ·rw [dP]at hh
      rcases hh with⟨e,_⟩|⟨p,hp,hh⟩
      ·exact absurd e.symm h2
      ·exact(h p hp).nam k n h1 h2 hh
     ·rw [kH]at hb
      simp only [Cn.kind,Cn.parts]at hb
      have hb:sV s=true:=by simpa using hb
      obtain⟨p,hp,hb⟩:=(kG _).1 hb
      exact(h p hp).bare hb
theorem gI {n:Need}{c:Cn}(hn:n.nums=false):gO n c=0↔(n.least<=c.parts.length/\(c.parts.length:Int)<=n.most/\(n.name=0->c.name=[]))/\(c.lo=0/\c.hi=0)/\aBc n c.name=0:=by
 unfold gO
 split
 ·rename_i h
  constructor
  ·intro h;exact absurd h (by decide)
  ·rintro⟨⟨h1,h2,h3⟩,_⟩
   rcases h with h|h|⟨h,h'⟩
   ·omega
   ·omega
   ·exact absurd (h3 h) h'
 ·rename_i h
  rw [if_neg (by rw [hn];decide)]
  have h1:n.least<=c.parts.length/\(c.parts.length:Int)<=n.most/\(n.name=0->c.name=[]):=by
   refine⟨by omega,by omega,λh0=> ?_⟩
   by_cases h2:c.name=[]
   ·exact h2
   ·exact absurd (.inr (.inr ⟨h0,h2⟩)) h
  split
  ·rename_i h2
   constructor
   ·intro h;exact absurd h (by decide)
   ·rintro⟨_,⟨h3,h4⟩,_⟩
    omega
  ·rename_i h2
   exact⟨λh=>⟨h1,by omega,h⟩,λh=>h.2.2⟩
theorem kA {c:Cn}{k:Int}(hk:c.kind=k) (h:1<=k/\k<=7):bR c=gO (gP k) c:=by
 unfold bR
 rw [if_neg (by omega),hk]
theorem aFk {c r:Cn}(hk:c.kind=6) (h:bR c=0):bR (.mk 6 c.name 0 0 [r])=0:=by
 rw [kA hk (by decide),gI rfl]at h
 rw [kA (k:=6) rfl (by decide),gI rfl]
 exact⟨⟨show (1:Int)<=((1:Nat):Int)by decide,show ((1:Nat):Int)<=1 by decide,λh0=>absurd h0 (by decide)⟩,⟨rfl,rfl⟩,h.2.2⟩
theorem lQ: ∀c:Cn,Okn c->(aL c).2=0->Keep c (aL c).1:=by
 refine Cn.ind ?_
 intro c ih hok h0
 obtain⟨hf,hp⟩:=(gL c).1 hok
 have self:Keep c c:=⟨hok,Nat.le_refl _,λ_ _ _ _ h=>h,id⟩
 rw [gT]at h0 |-
 split
 ·rename_i h6
  rw [if_pos h6]at h0
  cases hps:c.parts with
  |nil=>
   exfalso
   rw [kA h6 (by decide),gI rfl,hps]at hf
   have h1:(1:Int)<=([]:List Cn).length:=hf.1.1
   simp at h1
  |cons p r=>
   rw [hps]at h0
   simp only [List.map_cons,vN]at h0 |-
   have hpm:p∈c.parts:=by rw [hps];simp
   have hd:dV p+1<=dV c:=by rw [kC c];exact nO hpm
   have hnm:jJ p c:= λk s _ _ h=>(dP k c s).2 (.inr ⟨p,hpm,h⟩)
   split
   ·rename_i hb
    rw [if_pos hb]at h0
    have hk:=ih p hpm (hp p hpm) h0
    have h2:(aL p).1.kind=2:=by rcases hb with hb|hb;exact absurd h0 hb;exact hb
    exact⟨hk.ok,by have:=hk.dep;omega,λk s h1 h2 hh=>hnm k s h1 h2 (hk.nam k s h1 h2 hh),λhb=>by rw [kH,h2]at hb;simp at hb⟩
   ·rename_i hb
    have hk:=ih p hpm (hp p hpm) (by omega)
    refine⟨(gL _).2 ⟨?_,λq hq=> ?_⟩, ?_,λk s h1 h2 hh=> ?_,λhb=> ?_⟩
    ·exact aFk h6 hf
    ·simp [Cn.parts]at hq;subst hq;exact hk.ok
    ·rw [dV,gQ,gQ]
     have:=hk.dep;omega
    ·rw [dP]at hh
     rcases hh with⟨e1,e2⟩|⟨q,hq,hh⟩
     ·exact(dP k c s).2 (.inl ⟨h6.trans e1,e2⟩)
     ·simp [Cn.parts]at hq;subst hq
      exact hnm k s h1 h2 (hk.nam k s h1 h2 hh)
    ·rw [kH]at hb;simp [Cn.kind]at hb
 ·rename_i h6
  rw [if_neg h6]at h0
  split
  ·rename_i h5
   rw [if_pos h5]at h0
   unfold jV at h0 |-
   split
   ·rename_i r hr
    rw [hr]at h0
    have:=List.find?_some hr
    simp at this h0
    exact absurd h0 this
   ·rename_i hn
    rw [hn]at h0
    simp only at h0
    have hz: ∀p∈c.parts,(aL p).2=0:= λp hp=>by
     have:=List.find?_eq_none.1 hn (aL p) (List.mem_map_of_mem hp)
     simpa using this
    refine aK8 (λm hm=> ?_) h0 h5
    rw [dG,List.mem_flatMap]at hm
    obtain⟨r,hr,hm⟩:=hm
    obtain⟨p,hpm,rfl⟩:=List.mem_map.1 hr
    have hk:=ih p hpm (hp p hpm) (hz p hpm)
    have hd:dV p+1<=dV c:=by rw [kC c];exact nO hpm
    have hnm:jJ p c:= λk s _ _ h=>(dP k c s).2 (.inr ⟨p,hpm,h⟩)
    have hbr:cC p=true->cC c=true:= λh=>by
     rw [kH,if_neg (by omega),if_pos h5]
     exact(kG _).2 ⟨p,hpm,h⟩
    unfold bN at hm
    split at hm
    ·simp at hm
    ·split at hm
     ·rename_i k5
      have hokm:=((gL _).1 hk.ok).2 m hm
      have hdm:dV m+1<=dV (aL p).1:=by rw [kC (aL p).1];exact nO hm
      refine⟨hokm,by have:=hk.dep;omega,λk s h1 h2 hh=>hnm k s h1 h2 (hk.nam k s h1 h2 ((dP _ _ _).2 (.inr ⟨m,hm,hh⟩))),λhb=>hbr (hk.bare ?_)⟩
      rw [kH,if_neg (by omega),if_pos k5]
      exact(kG _).2 ⟨m,hm,hb⟩
     ·simp at hm;subst hm
      exact⟨hk.ok,by have:=hk.dep;omega,λk s h1 h2 hh=>hnm k s h1 h2 (hk.nam k s h1 h2 hh),λhb=>hbr (hk.bare hb)⟩
  ·exact self
end Go.Proofs.YtbobcfjlbcgchaaGreatDoor
namespace Go.Proofs.YtbobcfjlbcgchaaGreatDoor
open Go.Proofs
theorem aJy: ∀(l:List Cn),jZ l=0↔ ∀x∈l,bR x=0:= λl=>
 ⟨λh=>pO h,λh=>by have:=kT l [] h;rw [List.append_nil]at this;rw [this];rfl⟩
mutual
theorem aDe: ∀(c:Cn) (d n:Int),((gN c d n).1=true↔d+dV c<=8/\n+bB c<=64)
 | .mk k s lo hi ps,d,n=>by
  have e:bB (.mk k s lo hi ps)=lR ps+1:=eJ _
  rw [gN,dV,e]
  split
  ·rename_i h
   simp only [Bool.false_eq_true,false_iff]
   omega
  ·rename_i h
   rw [aDd ps d (n+1) (by omega) (by omega)]
   omega
theorem aDd: ∀(l:List Cn) (d n:Int),d<=8->n<=64->((jY l d n).1=true↔d+gQ l<=8/\n+lR l<=64)
 | [],d,n,hd,hn=>by
  rw [jY,gQ,qE]
  simp only [true_iff]
  omega
 |c::r,d,n,hd,hn=>by
  have h1:=aDe c (d+1) n
  have h2:=sP c (d+1) n
  rw [jY,gQ,bW]
  split
  ·rename_i hb
   rw [hb]at h1
   have h1:=h1.1 rfl
   rw [h2 hb,aDd r d _ hd (by omega)]
   omega
  ·rename_i hb
   have h1:¬ (d+1+dV c<=8/\n+bB c<=64):= λh=>hb (h1.2 h)
   simp only [Bool.false_eq_true,false_iff]
   omega
end
theorem gJ (c:Cn):bK c=0↔dV c<=8/\bB c<=64/\Okn c:=by
 have h:=aDe c 0 0
 unfold bK
 split
 ·rename_i hf
  rw [hf]at h
  constructor
  ·intro h;exact absurd h (by decide)
  ·rintro⟨h1,h2,_⟩
   exact absurd (h.2 ⟨by omega,by omega⟩) (by decide)
 ·rename_i hf
  have hf:(gN c 0 0).1=true:=by simpa using hf
  have h1:=h.1 hf
  rw [aJy]
  exact⟨λh=>⟨by omega,by omega,h⟩,λh=>h.2.2⟩
theorem aDu {c:Cn}(h:bK c=0) (h0:(aL c).2=0):bK (aL c).1=0/\jJ (aL c).1 c/\(cC (aL c).1=true->cC c=true):=by
 obtain⟨h1,h2,h3⟩:=(gJ c).1 h
 have hk:=lQ c h3 h0
 have hs:=jO c
 exact⟨(gJ _).2 ⟨by have:=hk.dep;omega,by omega,hk.ok⟩,hk.nam,hk.bare⟩
theorem aQo {c:Cn}(h:fF c=true):c=c0:=by
 obtain⟨k,n,lo,hi,ps⟩:=c
 have h:(decide (k=0) && (decide (n=[]) && (decide (lo=0) && (decide (hi=0) && decide (ps=[])))))=true:=h
 simp only [Bool.and_eq_true,decide_eq_true_eq]at h
 obtain⟨rfl,rfl,rfl,rfl,rfl⟩:=h
 rfl
end Go.Proofs.YtbobcfjlbcgchaaGreatDoor
namespace Go.Proofs.YtbobcfjlbcgchaaGreatDoor
open Go.Proofs
structure AxOk (u:Use) (x:Ax):Prop where
 kind:1<=x.kind/\x.kind<=9
 shaped:bI u x=true
 named:oF u x=true
 left:u.left=true->bK x.left=0
 right:u.right=true->bK x.right=0
 bare:aFu x=false
theorem kI (x:Ax):bL x=0↔AxOk (dB x.kind) x:=by
 unfold bL bC
 split
 ·rename_i h
  rw [if_pos rfl]
  constructor
  ·intro h;exact absurd h (by decide)
  ·intro h'
   have hk:=h'.kind
   omega
 ·rename_i h
  by_cases hs:bI (dB x.kind) x=false
  ·rw [if_pos hs]
   constructor
   ·intro h;exact absurd h (by decide)
   ·intro h';rw [h'.shaped]at hs;exact absurd hs (by decide)
  rw [if_neg hs]
  have hs:bI (dB x.kind) x=true:=by simpa using hs
  unfold xV
  split
  ·rename_i hn
   constructor
   ·intro h;exact absurd h (by decide)
   ·intro h';rw [h'.named]at hn;exact absurd hn (by decide)
  ·rename_i hn
   have hn:oF (dB x.kind) x=true:=by simpa using hn
   split
   ·rename_i h1
    exact⟨λh=>absurd h h1.2,λh'=>absurd (h'.left h1.1) h1.2⟩
   ·rename_i h1
    have h1:(dB x.kind).left=true->bK x.left=0:= λh2=>Classical.byContradiction λh3=>h1 ⟨h2,h3⟩
    split
    ·rename_i h2
     exact⟨λh=>absurd h h2.2,λh'=>absurd (h'.right h2.1) h2.2⟩
    ·rename_i h2
     have h2:(dB x.kind).right=true->bK x.right=0:= λh3=>Classical.byContradiction λh4=>h2 ⟨h3,h4⟩
     split
     ·rename_i hb
      constructor
      ·intro h;exact absurd h (by decide)
      ·intro h';rw [h'.bare]at hb;exact absurd hb (by decide)
     ·rename_i hb
      exact⟨λ_=>⟨by omega,hs,hn,h1,h2,by simpa using hb⟩,λ_=>rfl⟩
structure SideOk (b:Bool) (c t:Cn):Prop where
 ok:b=true->bK t=0
 nam:jJ t c
 bare:cC t=true->cC c=true
 same:b=false->t=c
theorem aLw {b:Bool}{c:Cn}(h:b=true->bK c=0) (h0:(bG b c).2=0):SideOk b c (bG b c).1:=by
 unfold bG at h0 |-
 cases b with
 |false=>exact⟨λh=>absurd h (by decide),λ_ _ _ _ h=>h,id,λ_=>rfl⟩
 |true=>
  rw [if_pos rfl]at h0 |-
  obtain⟨h1,h2,h3⟩:=aDu (h rfl) h0
  exact⟨λ_=>h1,h2,h3,λh=>absurd h (by decide)⟩
structure SubX (t x:Ax):Prop where
 a: ∀s,axA t s->axA x s
 b: ∀s,axB t s->axB x s
 c: ∀s,axC t s->axC x s
 d: ∀s,axD t s->axD x s
theorem aP9 {x:Ax}{l r:Cn}(hl:jJ l x.left) (hr:jJ r x.right):SubX { x with left:=l,right:=r } x:=by
 have h: ∀k s,k≠1->k≠5->nZ k l s\/nZ k r s->nZ k x.left s\/nZ k x.right s:= λk s h1 h2 h=>h.imp (hl k s h1 h2) (hr k s h1 h2)
 refine⟨λs hs=>h 3 s (by decide) (by decide) hs,λs hs=> ?_,λs hs=>h 7 s (by decide) (by decide) hs,λs hs=> ?_⟩
 ·have hs:nZ 6 l s\/nZ 6 r s\/s∈x.roles\/x.role=s:=hs
  rcases hs with hs|hs|hs
  ·exact .inl (hl 6 s (by decide) (by decide) hs)
  ·exact .inr (.inl (hr 6 s (by decide) (by decide) hs))
  ·exact .inr (.inr hs)
 ·have hs:nZ 4 l s\/nZ 4 r s\/x.a=s\/x.b=s:=hs
  rcases hs with hs|hs|hs
  ·exact .inl (hl 4 s (by decide) (by decide) hs)
  ·exact .inr (.inl (hr 4 s (by decide) (by decide) hs))
  ·exact .inr (.inr hs)
theorem aP8 {x:Ax}{l r:Cn}(hl:jJ l x.left) (hr:jJ r x.right):SubX { x with left:=r,right:=l } x:=by
 have h: ∀k s,k≠1->k≠5->nZ k r s\/nZ k l s->nZ k x.left s\/nZ k x.right s:= λk s h1 h2 h=>h.symm.imp (hl k s h1 h2) (hr k s h1 h2)
 refine⟨λs hs=>h 3 s (by decide) (by decide) hs,λs hs=> ?_,λs hs=>h 7 s (by decide) (by decide) hs,λs hs=> ?_⟩
 ·have hs:nZ 6 r s\/nZ 6 l s\/s∈x.roles\/x.role=s:=hs
  rcases hs with hs|hs|hs
  ·exact .inr (.inl (hr 6 s (by decide) (by decide) hs))
  ·exact .inl (hl 6 s (by decide) (by decide) hs)
  ·exact .inr (.inr hs)
 ·have hs:nZ 4 r s\/nZ 4 l s\/x.a=s\/x.b=s:=hs
  rcases hs with hs|hs|hs
  ·exact .inr (.inl (hr 4 s (by decide) (by decide) hs))
  ·exact .inl (hl 4 s (by decide) (by decide) hs)
  ·exact .inr (.inr hs)
theorem zH {u:Use}{x:Ax}{l r:Cn}(h:bI u x=true) (hl:u.left=true\/l=x.left) (hr:u.right=true\/r=x.right):bI u { x with left:=l,right:=r }=true:=by
 have h:((u.left || fF x.left) && ((u.right || fF x.right) && ((u.role || decide (x.role=[])) && ((u.a || decide (x.a=[])) && ((u.b || decide (x.b=[])) && (decide (u.least<=x.roles.length) && decide ((x.roles.length:Int)<=u.most)))))))=true:=h
 show ((u.left || fF l) && ((u.right || fF r) && ((u.role || decide (x.role=[])) && ((u.a || decide (x.a=[])) && ((u.b || decide (x.b=[])) && (decide (u.least<=x.roles.length) && decide ((x.roles.length:Int)<=u.most)))))))=true
 rw [Bool.and_eq_true,Bool.and_eq_true]at h
 rw [Bool.and_eq_true,Bool.and_eq_true]
 refine⟨?_, ?_,h.2.2⟩
 ·rcases hl with hl|rfl
  ·rw [hl];rfl
  ·exact h.1
 ·rcases hr with hr|rfl
  ·rw [hr];rfl
  ·exact h.2.1
theorem aOa {x:Ax}{l r:Cn}(h:aFu x=false) (hl:cC l=true->cC x.left=true) (hr:cC r=true->cC x.right=true):aFu { x with left:=l,right:=r }=false:=by
 have h:(if x.kind=2 then (cC x.left || cC x.right)else if x.kind=1\/x.kind=4\/x.kind=8 then cC x.right else false)=false:=h
 show (if x.kind=2 then (cC l || cC r)else if x.kind=1\/x.kind=4\/x.kind=8 then cC r else false)=false
 revert h hl hr
 cases cC l<;>cases cC r<;>cases cC x.left<;>cases cC x.right<;>split<;>(try split)<;>simp
theorem aKc {x:Ax}{l r:Cn}(hk:x.kind=2\/x.kind=3) (h:aFu x=false) (hl:cC l=true->cC x.left=true) (hr:cC r=true->cC x.right=true):aFu { x with left:=r,right:=l }=false:=by
 have h:(if x.kind=2 then (cC x.left || cC x.right)else if x.kind=1\/x.kind=4\/x.kind=8 then cC x.right else false)=false:=h
 show (if x.kind=2 then (cC r || cC l)else if x.kind=1\/x.kind=4\/x.kind=8 then cC l else false)=false
 rcases hk with hk|hk
 ·rw [if_pos hk]at h |-
  revert h hl hr
  cases cC l<;>cases cC r<;>cases cC x.left<;>cases cC x.right<;>simp
 ·rw [if_neg (by omega),if_neg (by omega)]
theorem aKd {x:Ax}(h0:(cJ x).2=0):bL x=0/\bL (cJ x).1=0/\SubX (cJ x).1 x:=by
 have hE:bL x=0:=by
  unfold cJ at h0
  split at h0
  ·exact h0
  ·rename_i h;exact Classical.byContradiction λh'=>h h'
 refine⟨hE, ?_⟩
 have ho:=(kI x).1 hE
 have hA:cJ x=oH (dB x.kind) x:=by unfold cJ;rw [if_neg (by omega)]
 rw [hA]at h0 |-
 have huse:x.kind=2\/x.kind=3->(dB x.kind).left=true/\(dB x.kind).right=true:=by
  rintro(h|h)<;>rw [h]<;>exact⟨rfl,rfl⟩
 rw [kI]
 generalize hl:bG (dB x.kind).left x.left=L
 generalize hr:bG (dB x.kind).right x.right=R
 unfold oH at h0 |-
 rw [hl,hr]at h0 |-
 split at h0
 ·rename_i h;exact absurd h0 h
 ·rename_i hl0
  split at h0
  ·rename_i h;exact absurd h0 h
  ·rename_i hr0
   have sl:SideOk (dB x.kind).left x.left L.1:=by rw [<-hl];exact aLw ho.left (by rw [hl];omega)
   have sr:SideOk (dB x.kind).right x.right R.1:=by rw [<-hr];exact aLw ho.right (by rw [hr];omega)
   rw [if_neg hl0,if_neg hr0]
   split
   ·rename_i hs
    obtain⟨u1,u2⟩:=huse hs.1
    refine⟨⟨ho.kind,zH ho.shaped (.inl u1) (.inl u2),ho.named,λ_=>sr.ok u2,λ_=>sl.ok u1,aKc hs.1 ho.bare sl.bare sr.bare⟩,aP8 sl.nam sr.nam⟩
   ·have e1:(dB x.kind).left=true\/L.1=x.left:=by cases hb:(dB x.kind).left with
     |true=>exact .inl rfl
     |false=>exact .inr (sl.same hb)
    have e2:(dB x.kind).right=true\/R.1=x.right:=by cases hb:(dB x.kind).right with
     |true=>exact .inl rfl
     |false=>exact .inr (sr.same hb)
    exact⟨⟨ho.kind,zH ho.shaped e1 e2,ho.named,sl.ok,sr.ok,aOa ho.bare sl.bare sr.bare⟩,aP9 sl.nam sr.nam⟩
end Go.Proofs.YtbobcfjlbcgchaaGreatDoor
namespace Go.Proofs.YtbobcfjlbcgchaaGreatDoor
open Go.Proofs
set_option maxRecDepth 10000
attribute [local irreducible] aJ aF Tri aG YVC bS aQ
theorem yL (l:List Ax) (n:Int) (hl: ∀x∈l,SzAx x):Tri Tryz.prog 19 [.d (.sl 16 (l.map axR)), .d (.int .i64 n)] [] (λr=>r= .d (.bool (decide ((l.length:Int)<=n) && l.all aDh))):=by
 refine aP hty Tryz.func19 rfl (kp [0,1,4,5,9,13,21]) [] _ _ _ (by simp [Tryz.f19]) (by simp) ?_
 ((conv=>whnf);repeat' ((first|(intro hq;(try simp only [lnS]at hq);(try rewrite [List.length_map]))|refine sJ ?_|refine .intro _ (.intro rfl ?_)|refine exL (k:= ?_)|refine dwR ?_|((first|refine aA ?_ ?_|refine aC ?_ ?_)<;>intro hb<;>(first|exact ddX hb|try simp only [lnS]at hb))|(refine aB ?_ ?_<;>intro hb<;>try exact dsX hb))<;>(conv=>whnf)))
 ·refine bQ (Eq.symm ?_)
  rw [decide_eq_false (by omega),Bool.false_and]
 ·have hle:(l.length:Int)<=n:=by omega
  rw [decide_eq_true hle,Bool.true_and]
  refine aK hty (λj:Nat=>([(0, .d (.sl 16 (l.map axR))),(1, .d (.int .i64 n)),(4, .d (.bool false)),(5, .d (.int .i64 j))],[])) (λj=>j<=l.length/\l.all aDh=(l.drop j).all aDh) (λj=>l.length - j) 0 ⟨by omega,rfl⟩ ⟨by repeat' (first|exact trivial|exact rfl|(rw [List.length_map];exact rfl)|refine And.intro ?_ ?_),trivial⟩ ?_
  rintro j ⟨hj,hn⟩
  ((conv=>whnf);repeat ((first|(intro hq;try simp only [lnS]at hq)|refine sI ?_|refine .intro _ (.intro rfl ?_));(conv=>whnf)))
  refine aA (λh1=> ?_) (λh1=> ?_)
  ·have hjl:j < l.length:=by simp only [List.length_map]at h1;omega
   have hrow:(l.map axR)[(j:Int).toNat]? =some (axR l[j]):=bV hjl
   have hc:=aBy l[j] (hl _ (List.getElem_mem hjl))
   rw [List.drop_eq_getElem_cons hjl,List.all_cons]at hn
   generalize l[j]=x at hrow hn hc
   ((conv=>whnf);repeat' ((first|(intro hq;(try simp only [lnS]at hq);(try rewrite [List.length_map]))|refine sJ ?_|refine .intro _ (.intro rfl ?_)|refine exL (k:= ?_)|(refine⟨_,hrow, ?_⟩)|(refine aD [] hc trivial (λr hs=> ?_);subst hs)|refine dwR ?_|((first|refine aA ?_ ?_|refine aC ?_ ?_)<;>intro hb<;>(first|exact ddX hb|try simp only [lnS]at hb))|(refine aB ?_ ?_<;>intro hb<;>try exact dsX hb))<;>(conv=>whnf)))
   ·refine bQ (Eq.symm ?_)
    rw [hn];simp_all
   ·refine⟨j+1,⟨by omega, ?_⟩,by dsimp only;omega,by repeat' (first|exact trivial|exact rfl|refine And.intro ?_ ?_),trivial⟩
    rw [hn];simp_all
  ·have hjl:j=l.length:=by simp only [List.length_map]at h1;omega
   subst hjl
   ((conv=>whnf);repeat' ((first|(intro hq;(try simp only [lnS]at hq);(try rewrite [List.length_map]))|refine sJ ?_|refine .intro _ (.intro rfl ?_)|refine exL (k:= ?_)|refine dwR ?_|((first|refine aA ?_ ?_|refine aC ?_ ?_)<;>intro hb<;>(first|exact ddX hb|try simp only [lnS]at hb))|(refine aB ?_ ?_<;>intro hb<;>try exact dsX hb))<;>(conv=>whnf)))
   refine bQ (Eq.symm ?_)
   rw [hn,List.drop_length];rfl
end Go.Proofs.YtbobcfjlbcgchaaGreatDoor
namespace Go.Proofs.YtbobcfjlbcgchaaGreatDoor
open Go.Proofs
set_option maxRecDepth 10000
attribute [local irreducible] aJ aF Tri aG YVC bS aQ
end Go.Proofs.YtbobcfjlbcgchaaGreatDoor
namespace Go.Proofs.YtbobcfjlbcgchaaGreatDoor
open Go.Proofs
theorem aCb {ks:List (List UInt8)}(h:ks.Nodup):(jG ks).Pairwise (λx y=>Op.bytesLess x y=true):=by
 have h1:(jG ks).Pairwise λx y=>decide (x<=y)=true:=List.pairwise_mergeSort (le:= λx y=>decide (x<=y)) (λa b c h1 h2=>by simp only [decide_eq_true_eq]at *;exact List.le_trans h1 h2) (λa b=>by simp only [Bool.or_eq_true,decide_eq_true_eq];exact List.le_total a b) ks
 have h2:(jG ks).Nodup:=(List.mergeSort_perm _ _).nodup_iff.2 h
 refine(h1.and h2).imp ?_
 rintro x y ⟨h1,h2⟩
 rw [Go.Proofs.bytesLess_eq,decide_eq_true_eq]
 have h1:x<=y:=by simpa using h1
 refine Classical.byContradiction λh3=>h2 (List.le_antisymm h1 (List.not_lt.1 h3))
theorem wN {ks:List (List UInt8)}{s:List UInt8}:s∈jG ks↔s∈ks:=List.mem_mergeSort
theorem fO: ∀(l:List Ax),dF l=0↔ ∀x∈l,bL x=0
 | []=>by simp [dF]
 |x::r=>by
  rw [dF]
  have:=fO r
  split<;>rename_i h
  ·simp [h]
  ·have h:bL x=0:=by simpa using h
   simp [h,this]
end Go.Proofs.YtbobcfjlbcgchaaGreatDoor
namespace Go.Proofs.YtbobcfjlbcgchaaGreatDoor
open Go.Proofs
def aKr (l:List Ax):Int:=if dF l≠0 then dF l else if 1024 < l.length then 2 else 0
def aEc (l:List Ax):List UInt8×Int:=if aKr l=0 then (wAs l,0)else ([],aKr l)
theorem aTw {l:List Ax}(h:aKr l=0):(∀x∈l,bL x=0)/\l.length<=1024:=by
 unfold aKr at h
 split at h
 ·exact absurd h (by assumption)
 ·rename_i h1
  split at h
  ·simp at h
  ·exact⟨(fO l).1 (Decidable.not_not.1 h1),by omega⟩
def aCo (no:Int) (l:List Int):Bool:=l.all (λp=>decide (1<=p) && decide (p < no)) && (match l with| [a,b]=> !decide (b=a)|_=>true)
def cmE (c:Cm):Int:=if c.no < 1\/1024 < c.no\/2 < c.parents.length then 1 else if aCo c.no c.parents=true then (if 65536 < c.message.length then 2 else 0)else 1
def aKh (c:Cm):List UInt8×Int:=if cmE c=0 then (wCm c,0)else ([],cmE c)
def alE (a:Al):Int:=if 24 < a.name.length then 1 else if dF a.axioms≠0 then dF a.axioms else if 128 < a.axioms.length\/256 < a.parts.length\/256 < a.path.length then 2 else 0
def aKi (a:Al):List UInt8×Int:=if alE a=0 then (wAl a,0)else ([],alE a)
section
variable {α β:Type}
end
end Go.Proofs.YtbobcfjlbcgchaaGreatDoor
