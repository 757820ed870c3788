/-
  What encoding axioms, commits and alignments answers, and that both readers read it again; plain.
  Conditions: none.
-/
import Derived.Test.YtbobcfjlbcgchaaGreatDoorWOe
import Derived.Test.YtbobcfjlbcgchaaGreatDoorWAp
import Derived.Test.YtbobcfjlbcgchaaGreatDoorWAr
set_option linter.unnecessarySimpa false
set_option linter.unusedSectionVars false
set_option linter.unusedSimpArgs false
set_option linter.unusedVariables false
set_option maxHeartbeats 4000000
namespace Go.Proofs.YtbobcfjlbcgchaaGreatDoor
section
attribute [local irreducible] aK aF Tri aH YVC cG aT
set_option maxRecDepth 10000
def cR:List Ax->Int
 | []=>0
 |x::r=>if aZ x≠0 then aZ x else cR r
theorem aDx {c:Cn}(h:dQ c=true):aM c=1:=by
 unfold dQ at h
 simp only [Bool.and_eq_true,decide_eq_true_eq]at h
 rw [cP,h.2.2.2.2];rfl
theorem aO1 {k:Int}(h:1<=k/\k<=9):(cC k).most<=4:=by
 have:k=1\/k=2\/k=3\/k=4\/k=5\/k=6\/k=7\/k=8\/k=9:=by omega
 rcases this with h|h|h|h|h|h|h|h|h<;>rw [h]<;>decide
theorem fP {x:Ax}(h:aZ x=0):aM x.left<=64/\aM x.right<=64/\x.roles.length<=4:=by
 obtain⟨c,hl,b⟩:=vV h
 have hm:=aO1 c
 unfold aZ at h
 split at h
 ·simp at h
 ·rename_i a
  have a:bI x=true:=by simpa using a
  unfold bI at a
  rw [if_neg (by omega)]at a
  generalize cC x.kind=u at *
  unfold bH at a
  simp only [Bool.and_eq_true,Bool.or_eq_true,decide_eq_true_eq]at a
  refine⟨?_, ?_, ?_⟩
  ·cases hu:u.left
   ·have:dQ x.left=true:=by simp_all
    rw [aDx this];omega
   ·exact(dJ (hl hu)).1
  ·cases hu:u.right
   ·have:dQ x.right=true:=by simp_all
    rw [aDx this];omega
   ·exact(dJ (b hu)).1
  ·omega
structure PairN (v:Nm) (e:Int) (s:SV):Prop where
 ex: ∃a,s= .tup [.d a, .d (.int .i64 e)]/\(a= .agg (nmR v)\/WkD a (.agg (nmR v)))
theorem Tri.pairN {P:Program}{f:FuncId}{qs:List SV}{hp:Hp}{v:Nm}{e:Int}(h:Tri P f qs hp (PairN v e)):Tri P f qs hp (λr=>r= .tup [.d (.agg (nmR v)), .d (.int .i64 e)]):=by
 refine Tri.resT h ?_
 rintro s ⟨a,rfl,rfl|b⟩
 ·exact .inl rfl
 ·exact .inr ⟨_,[.d (.agg (nmR v)), .d (.int .i64 e)],rfl,⟨b,by exact rfl,trivial⟩,rfl⟩
theorem mL: ∀{l:List Ax}{j:Nat}(h:j < l.length),(∀x∈l.take j,aZ x=0)->¬ aZ l[j]=0->cR l=aZ l[j]
 |x::r,0,_,_,a=>by
  have a:aZ x≠0:=a
  rw [cR,if_pos a];rfl
 |x::r,j+1,h,hz,a=>by
  have b:aZ x=0:=hz x (by simp)
  rw [cR,if_neg (by simpa using b)]
  exact mL (by simpa using h) (λy c=>hz y (by simp [c])) a
theorem qI: ∀{l:List Ax},(∀x∈l,aZ x=0)->cR l=0
 | [],_=>rfl
 |x::r,h=>by
  rw [cR,if_neg (by simpa using h x (by simp))]
  exact qI λy a=>h y (by simp [a])
theorem gW {l:List Ax}{j:Nat}(h:j < l.length):(l.map axR)[(j:Int).toNat]? =some (axR l[j]):=by
 rw [Int.toNat_natCast,List.getElem?_map,List.getElem?_eq_getElem h];rfl
end
section
def sS (k:Int) (c:Cn) (s:List UInt8):Prop:= ∃n∈fT c,n.kind=k/\n.name=s
def axA (x:Ax) (s:List UInt8):Prop:=sS 3 x.left s\/sS 3 x.right s
def axB (x:Ax) (s:List UInt8):Prop:=sS 6 x.left s\/sS 6 x.right s\/s∈x.roles\/x.role=s
def axC (x:Ax) (s:List UInt8):Prop:=sS 7 x.left s\/sS 7 x.right s
def axD (x:Ax) (s:List UInt8):Prop:=sS 4 x.left s\/sS 4 x.right s\/x.a=s\/x.b=s
def Okn (c:Cn):Prop:= ∀x∈fT c,bM x=0
theorem mG {x:Cn}: ∀{l:List Cn},x∈aX l↔ ∃p∈l,x∈fT p
 | []=>by simp [aX]
 |c::r=>by rw [aX,List.mem_append,mG];simp
theorem fS (c:Cn):Okn c↔bM c=0/\ ∀p∈c.parts,Okn p:=by
 unfold Okn
 rw [dO]
 constructor
 ·intro h
  exact⟨h c (by simp),λp hp x hx=>h x (List.mem_cons_of_mem _ (mG.2 ⟨p,hp,hx⟩))⟩
 ·rintro⟨a,b⟩ x hx
  rcases List.mem_cons.1 hx with rfl|hx
  ·exact a
  ·obtain⟨p,hp,hx⟩:=mG.1 hx
   exact b p hp x hx
theorem eO (k:Int) (c:Cn) (s:List UInt8):sS k c s↔(c.kind=k/\c.name=s)\/ ∃p∈c.parts,sS k p s:=by
 unfold sS
 rw [dO]
 constructor
 ·rintro⟨n,a,h⟩
  rcases List.mem_cons.1 a with rfl|a
  ·exact .inl h
  ·obtain⟨p,hp,hx⟩:=mG.1 a
   exact .inr ⟨p,hp,n,hx,h⟩
 ·rintro(h|⟨p,hp,n,a,h⟩)
  ·exact⟨c,by simp,h⟩
  ·exact⟨n,List.mem_cons_of_mem _ (mG.2 ⟨p,hp,a⟩),h⟩
theorem rX {p:Cn}: ∀{l:List Cn},p∈l->cV p+1<=dI l
 |c::r,h=>by
  rw [dI]
  rcases List.mem_cons.1 h with rfl|h
  ·omega
  ·have:=rX h;omega
theorem aIm {n:Nat}: ∀{l:List Cn},(∀p∈l,cV p+1<=n)->dI l<=n
 | [],_=>by simp [dI]
 |c::r,h=>by
  rw [dI]
  have h1:=h c (by simp)
  have h2:=aIm λp hp=>h p (List.mem_cons_of_mem _ hp)
  omega
theorem mP: ∀(l:List Cn),qY l=true↔ ∃p∈l,bX p=true
 | []=>by simp [qY]
 |c::r=>by
  rw [qY]
  have:=mP r
  split<;>simp_all
theorem kQ (c:Cn):bX c=if c.kind=4 then true else if c.kind=5 then qY c.parts else false:=by cases c;rw [bX];rfl
def lT (t c:Cn):Prop:= ∀k s,k≠1->k≠5->sS k t s->sS k c s
structure Keep (c t:Cn):Prop where
 ok:Okn t
 dep:cV t<=cV c
 nam:lT t c
 bare:bX t=true->bX c=true
theorem aPw:bM aQb=0:=by decide
theorem aKw {s:List Cn}(h1:2<=s.length) (h2:s.length<=8):bM (.mk 5 [] 0 0 s)=0:=by
 unfold bM
 rw [if_neg (by simp [Cn.kind])]
 show iE ⟨0,2,8,false⟩ (.mk 5 [] 0 0 s)=0
 unfold iE aFs
 simp [Cn.parts,Cn.name,Cn.lo,Cn.hi]
 omega
structure Part (c m:Cn):Prop where
 ok:Okn m
 dep:cV m+1<=cV c
 nam:lT m c
 bare:bX m=true->bX c=true
theorem Part.keep {c m:Cn}(h:Part c m):Keep c m:=⟨h.ok,by have:=h.dep;omega,h.nam,h.bare⟩
theorem aQ1 {c:Cn}{s:List Cn}(h: ∀m∈s,Part c m) (h0:(eV s).2=0) (hk:c.kind=5):Keep c (eV s).1:=by
 unfold eV at h0 |-
 split
 ·rename_i t i
  exact(h t (List.mem_of_find?_eq_some i)).keep
 ·rename_i g
  rw [g]at h0
  simp only at h0
  split
  ·refine⟨(fS _).2 ⟨aPw,λp hp=>by simp [aQb,Cn.parts]at hp⟩,by rw [kN];simp [aQb,Cn.parts,dI],λk s d b a=> ?_,λhb=> ?_⟩
   ·rw [eO]at a
    rcases a with⟨e,_⟩|⟨p,hp,_⟩
    ·exact absurd e.symm d
    ·simp [aQb,Cn.parts]at hp
   ·rw [kQ]at hb;simp [aQb,Cn.kind]at hb
  ·rename_i f
   rw [if_neg f]at h0
   split
   ·rename_i e1
    match s,e1 with
    | [x],_=>exact(h x (by simp)).keep
   ·rename_i e1
    rw [if_neg e1]at h0
    split
    ·rename_i e2;rw [if_pos e2]at h0;simp at h0
    ·rename_i e2
     refine⟨(fS _).2 ⟨aKw (by omega) (by omega),λp hp=>(h p hp).ok⟩, ?_,λk n d b a=> ?_,λhb=> ?_⟩
     ·show cV (.mk 5 [] 0 0 s)<=_
      rw [cV];exact aIm λp hp=>(h p hp).dep
     ·rw [eO]at a
      rcases a with⟨e,_⟩|⟨p,hp,a⟩
      ·exact absurd e.symm b
      ·exact(h p hp).nam k n d b a
     ·rw [kQ]at hb
      simp only [Cn.kind,Cn.parts]at hb
      have hb:qY s=true:=by simpa using hb
      obtain⟨p,hp,hb⟩:=(mP _).1 hb
      exact(h p hp).bare hb
theorem iU {n:Need}{c:Cn}(hn:n.nums=false):iE n c=0↔(n.least<=c.parts.length/\(c.parts.length:Int)<=n.most/\(n.name=0->c.name=[]))/\(c.lo=0/\c.hi=0)/\aFs n c.name=0:=by
 unfold iE
 split
 ·rename_i h
  constructor
  ·intro h;exact absurd h (by decide)
  ·rintro⟨⟨b,a,d⟩,_⟩
   rcases h with h|h|⟨h,f⟩
   ·omega
   ·omega
   ·exact absurd (d h) f
 ·rename_i h
  rw [if_neg (by rw [hn];decide)]
  have b:n.least<=c.parts.length/\(c.parts.length:Int)<=n.most/\(n.name=0->c.name=[]):=by
   refine⟨by omega,by omega,λe=> ?_⟩
   by_cases a:c.name=[]
   ·exact a
   ·exact absurd (.inr (.inr ⟨e,a⟩)) h
  split
  ·rename_i a
   constructor
   ·intro h;exact absurd h (by decide)
   ·rintro⟨_,⟨d,h4⟩,_⟩
    omega
  ·rename_i a
   exact⟨λh=>⟨b,by omega,h⟩,λh=>h.2.2⟩
theorem mM {c:Cn}{k:Int}(hk:c.kind=k) (h:1<=k/\k<=7):bM c=iE (gA k) c:=by
 unfold bM
 rw [if_neg (by omega),hk]
theorem aKv {c r:Cn}(hk:c.kind=6) (h:bM c=0):bM (.mk 6 c.name 0 0 [r])=0:=by
 rw [mM hk (by decide),iU rfl]at h
 rw [mM (k:=6) rfl (by decide),iU rfl]
 exact⟨⟨show (1:Int)<=((1:Nat):Int)by decide,show ((1:Nat):Int)<=1 by decide,λa=>absurd a (by decide)⟩,⟨rfl,rfl⟩,h.2.2⟩
theorem lY: ∀c:Cn,Okn c->(aI c).2=0->Keep c (aI c).1:=by
 refine Cn.ind ?_
 intro c x t d
 obtain⟨y,hp⟩:=(fS c).1 t
 have v:Keep c c:=⟨t,Nat.le_refl _,λ_ _ _ _ h=>h,id⟩
 rw [eX]at d |-
 split
 ·rename_i l
  rw [if_pos l]at d
  cases hps:c.parts with
  |nil=>
   exfalso
   rw [mM l (by decide),iU rfl,hps]at y
   have e:(1:Int)<=([]:List Cn).length:=y.1.1
   simp at e
  |cons p r=>
   rw [hps]at d
   simp only [List.map_cons,uG]at d |-
   have a:p∈c.parts:=by rw [hps];simp
   have C:cV p+1<=cV c:=by rw [kN c];exact rX a
   have i:lT p c:= λk s _ _ h=>(eO k c s).2 (.inr ⟨p,a,h⟩)
   split
   ·rename_i hb
    rw [if_pos hb]at d
    have b:=x p a (hp p a) d
    have g:(aI p).1.kind=2:=by rcases hb with hb|hb;exact absurd d hb;exact hb
    exact⟨b.ok,by have:=b.dep;omega,λk s e g j=>i k s e g (b.nam k s e g j),λhb=>by rw [kQ,g]at hb;simp at hb⟩
   ·rename_i hb
    have b:=x p a (hp p a) (by omega)
    refine⟨(fS _).2 ⟨?_,λq o=> ?_⟩, ?_,λk s e g j=> ?_,λhb=> ?_⟩
    ·exact aKv l y
    ·simp [Cn.parts]at o;subst o;exact b.ok
    ·rw [cV,dI,dI]
     have:=b.dep;omega
    ·rw [eO]at j
     rcases j with⟨e1,e2⟩|⟨q,o,j⟩
     ·exact(eO k c s).2 (.inl ⟨l.trans e1,e2⟩)
     ·simp [Cn.parts]at o;subst o
      exact i k s e g (b.nam k s e g j)
    ·rw [kQ]at hb;simp [Cn.kind]at hb
 ·rename_i l
  rw [if_neg l]at d
  split
  ·rename_i z
   rw [if_pos z]at d
   unfold kI at d |-
   split
   ·rename_i r w
    rw [w]at d
    have:=List.find?_some w
    simp at this d
    exact absurd d this
   ·rename_i A
    rw [A]at d
    simp only at d
    have hz: ∀p∈c.parts,(aI p).2=0:= λp hp=>by
     have:=List.find?_eq_none.1 A (aI p) (List.mem_map_of_mem hp)
     simpa using this
    refine aQ1 (λm f=> ?_) d z
    rw [dX,List.mem_flatMap]at f
    obtain⟨r,w,f⟩:=f
    obtain⟨p,a,rfl⟩:=List.mem_map.1 w
    have b:=x p a (hp p a) (hz p a)
    have C:cV p+1<=cV c:=by rw [kN c];exact rX a
    have i:lT p c:= λk s _ _ h=>(eO k c s).2 (.inr ⟨p,a,h⟩)
    have u:bX p=true->bX c=true:= λh=>by
     rw [kQ,if_neg (by omega),if_pos z]
     exact(mP _).2 ⟨p,a,h⟩
    unfold bS at f
    split at f
    ·simp at f
    ·split at f
     ·rename_i B
      have n:=((fS _).1 b.ok).2 m f
      have hdm:cV m+1<=cV (aI p).1:=by rw [kN (aI p).1];exact rX f
      refine⟨n,by have:=b.dep;omega,λk s e g j=>i k s e g (b.nam k s e g ((eO _ _ _).2 (.inr ⟨m,f,j⟩))),λhb=>u (b.bare ?_)⟩
      rw [kQ,if_neg (by omega),if_pos B]
      exact(mP _).2 ⟨m,f,hb⟩
     ·simp at f;subst f
      exact⟨b.ok,by have:=b.dep;omega,λk s e g j=>i k s e g (b.nam k s e g j),λhb=>u (b.bare hb)⟩
  ·exact v
theorem aPu: ∀(l:List Cn),eE l=0↔ ∀x∈l,bM x=0:= λl=>
 ⟨λh=>tK h,λh=>by have:=nI l [] h;rw [List.append_nil]at this;rw [this];rfl⟩
mutual
theorem aIc: ∀(c:Cn) (d n:Int),((fV c d n).1=true↔d+cV c<=8/\n+aM c<=64)
 | .mk k s lo hi ps,d,n=>by
  have e:aM (.mk k s lo hi ps)=iA ps+1:=cP _
  rw [fV,cV,e]
  split
  ·rename_i h
   simp only [Bool.false_eq_true,false_iff]
   omega
  ·rename_i h
   rw [aIb ps d (n+1) (by omega) (by omega)]
   omega
theorem aIb: ∀(l:List Cn) (d n:Int),d<=8->n<=64->((gV l d n).1=true↔d+dI l<=8/\n+iA l<=64)
 | [],d,n,hd,hn=>by
  rw [gV,dI,kZ]
  simp only [true_iff]
  omega
 |c::r,d,n,hd,hn=>by
  have a:=aIc c (d+1) n
  have b:=xA c (d+1) n
  rw [gV,dI,bP]
  split
  ·rename_i hb
   rw [hb]at a
   have a:=a.1 rfl
   rw [b hb,aIb r d _ hd (by omega)]
   omega
  ·rename_i hb
   have a:¬ (d+1+cV c<=8/\n+aM c<=64):= λh=>hb (a.2 h)
   simp only [Bool.false_eq_true,false_iff]
   omega
end
theorem eH (c:Cn):bC c=0↔cV c<=8/\aM c<=64/\Okn c:=by
 have h:=aIc c 0 0
 unfold bC
 split
 ·rename_i a
  rw [a]at h
  constructor
  ·intro h;exact absurd h (by decide)
  ·rintro⟨b,h2,_⟩
   exact absurd (h.2 ⟨by omega,by omega⟩) (by decide)
 ·rename_i a
  have a:(fV c 0 0).1=true:=by simpa using a
  have b:=h.1 a
  rw [aPu]
  exact⟨λh=>⟨by omega,by omega,h⟩,λh=>h.2.2⟩
theorem aIv {c:Cn}(h:bC c=0) (h0:(aI c).2=0):bC (aI c).1=0/\lT (aI c).1 c/\(bX (aI c).1=true->bX c=true):=by
 obtain⟨h1,h2,b⟩:=(eH c).1 h
 have a:=lY c b h0
 have hs:=hZ c
 exact⟨(eH _).2 ⟨by have:=a.dep;omega,by omega,a.ok⟩,a.nam,a.bare⟩
theorem aG4 {c:Cn}(h:dQ c=true):c=c0:=by
 obtain⟨k,n,lo,hi,ps⟩:=c
 have h:(decide (k=0) && (decide (n=[]) && (decide (lo=0) && (decide (hi=0) && decide (ps=[])))))=true:=h
 simp only [Bool.and_eq_true,decide_eq_true_eq]at h
 obtain⟨rfl,rfl,rfl,rfl,rfl⟩:=h
 rfl
structure AxOk (u:Use) (x:Ax):Prop where
 kind:1<=x.kind/\x.kind<=9
 shaped:bH u x=true
 named:pZ u x=true
 left:u.left=true->bC x.left=0
 right:u.right=true->bC x.right=0
 bare:aJ4 x=false
theorem fO (x:Ax):aZ x=0↔AxOk (cC x.kind) x:=by
 unfold aZ bI
 split
 ·rename_i h
  rw [if_pos rfl]
  constructor
  ·intro h;exact absurd h (by decide)
  ·intro a
   have hk:=a.kind
   omega
 ·rename_i h
  by_cases c:bH (cC x.kind) x=false
  ·rw [if_pos c]
   constructor
   ·intro h;exact absurd h (by decide)
   ·intro a;rw [a.shaped]at c;exact absurd c (by decide)
  rw [if_neg c]
  have c:bH (cC x.kind) x=true:=by simpa using c
  unfold vU
  split
  ·rename_i e
   constructor
   ·intro h;exact absurd h (by decide)
   ·intro a;rw [a.named]at e;exact absurd e (by decide)
  ·rename_i e
   have e:pZ (cC x.kind) x=true:=by simpa using e
   split
   ·rename_i d
    exact⟨λh=>absurd h d.2,λa=>absurd (a.left d.1) d.2⟩
   ·rename_i d
    have d:(cC x.kind).left=true->bC x.left=0:= λb=>Classical.byContradiction λf=>d ⟨b,f⟩
    split
    ·rename_i b
     exact⟨λh=>absurd h b.2,λa=>absurd (a.right b.1) b.2⟩
    ·rename_i b
     have b:(cC x.kind).right=true->bC x.right=0:= λf=>Classical.byContradiction λg=>b ⟨f,g⟩
     split
     ·rename_i hb
      constructor
      ·intro h;exact absurd h (by decide)
      ·intro a;rw [a.bare]at hb;exact absurd hb (by decide)
     ·rename_i hb
      exact⟨λ_=>⟨by omega,c,e,d,b,by simpa using hb⟩,λ_=>rfl⟩
structure SideOk (b:Bool) (c t:Cn):Prop where
 ok:b=true->bC t=0
 nam:lT t c
 bare:bX t=true->bX c=true
 same:b=false->t=c
theorem aRu {b:Bool}{c:Cn}(h:b=true->bC c=0) (h0:(bO b c).2=0):SideOk b c (bO b c).1:=by
 unfold bO at h0 |-
 cases b with
 |false=>exact⟨λh=>absurd h (by decide),λ_ _ _ _ h=>h,id,λ_=>rfl⟩
 |true=>
  rw [if_pos rfl]at h0 |-
  obtain⟨a,d,e⟩:=aIv (h rfl) h0
  exact⟨λ_=>a,d,e,λh=>absurd h (by decide)⟩
structure SubX (t x:Ax):Prop where
 a: ∀s,axA t s->axA x s
 b: ∀s,axB t s->axB x s
 c: ∀s,axC t s->axC x s
 d: ∀s,axD t s->axD x s
theorem aVi {x:Ax}{l r:Cn}(hl:lT l x.left) (hr:lT r x.right):SubX { x with left:=l,right:=r } x:=by
 have h: ∀k s,k≠1->k≠5->sS k l s\/sS k r s->sS k x.left s\/sS k x.right s:= λk s d e h=>h.imp (hl k s d e) (hr k s d e)
 refine⟨λs c=>h 3 s (by decide) (by decide) c,λs c=> ?_,λs c=>h 7 s (by decide) (by decide) c,λs c=> ?_⟩
 ·have c:sS 6 l s\/sS 6 r s\/s∈x.roles\/x.role=s:=c
  rcases c with c|c|c
  ·exact .inl (hl 6 s (by decide) (by decide) c)
  ·exact .inr (.inl (hr 6 s (by decide) (by decide) c))
  ·exact .inr (.inr c)
 ·have c:sS 4 l s\/sS 4 r s\/x.a=s\/x.b=s:=c
  rcases c with c|c|c
  ·exact .inl (hl 4 s (by decide) (by decide) c)
  ·exact .inr (.inl (hr 4 s (by decide) (by decide) c))
  ·exact .inr (.inr c)
theorem aVh {x:Ax}{l r:Cn}(hl:lT l x.left) (hr:lT r x.right):SubX { x with left:=r,right:=l } x:=by
 have h: ∀k s,k≠1->k≠5->sS k r s\/sS k l s->sS k x.left s\/sS k x.right s:= λk s d e h=>h.symm.imp (hl k s d e) (hr k s d e)
 refine⟨λs c=>h 3 s (by decide) (by decide) c,λs c=> ?_,λs c=>h 7 s (by decide) (by decide) c,λs c=> ?_⟩
 ·have c:sS 6 r s\/sS 6 l s\/s∈x.roles\/x.role=s:=c
  rcases c with c|c|c
  ·exact .inr (.inl (hr 6 s (by decide) (by decide) c))
  ·exact .inl (hl 6 s (by decide) (by decide) c)
  ·exact .inr (.inr c)
 ·have c:sS 4 r s\/sS 4 l s\/x.a=s\/x.b=s:=c
  rcases c with c|c|c
  ·exact .inr (.inl (hr 4 s (by decide) (by decide) c))
  ·exact .inl (hl 4 s (by decide) (by decide) c)
  ·exact .inr (.inr c)
theorem aD0 {u:Use}{x:Ax}{l r:Cn}(h:bH u x=true) (hl:u.left=true\/l=x.left) (c:u.right=true\/r=x.right):bH u { x with left:=l,right:=r }=true:=by
 have h:((u.left || dQ x.left) && ((u.right || dQ x.right) && ((u.role || decide (x.role=[])) && ((u.a || decide (x.a=[])) && ((u.b || decide (x.b=[])) && (decide (u.least<=x.roles.length) && decide ((x.roles.length:Int)<=u.most)))))))=true:=h
 show ((u.left || dQ l) && ((u.right || dQ r) && ((u.role || decide (x.role=[])) && ((u.a || decide (x.a=[])) && ((u.b || decide (x.b=[])) && (decide (u.least<=x.roles.length) && decide ((x.roles.length:Int)<=u.most)))))))=true
 rw [Bool.and_eq_true,Bool.and_eq_true]at h
 rw [Bool.and_eq_true,Bool.and_eq_true]
 refine⟨?_, ?_,h.2.2⟩
 ·rcases hl with hl|rfl
  ·rw [hl];rfl
  ·exact h.1
 ·rcases c with c|rfl
  ·rw [c];rfl
  ·exact h.2.1
theorem aUj {x:Ax}{l r:Cn}(h:aJ4 x=false) (hl:bX l=true->bX x.left=true) (hr:bX r=true->bX x.right=true):aJ4 { x with left:=l,right:=r }=false:=by
 have h:(if x.kind=2 then (bX x.left || bX x.right)else if x.kind=1\/x.kind=4\/x.kind=8 then bX x.right else false)=false:=h
 show (if x.kind=2 then (bX l || bX r)else if x.kind=1\/x.kind=4\/x.kind=8 then bX r else false)=false
 revert h hl hr
 cases bX l<;>cases bX r<;>cases bX x.left<;>cases bX x.right<;>split<;>(try split)<;>simp
theorem aQ4 {x:Ax}{l r:Cn}(a:x.kind=2\/x.kind=3) (h:aJ4 x=false) (hl:bX l=true->bX x.left=true) (hr:bX r=true->bX x.right=true):aJ4 { x with left:=r,right:=l }=false:=by
 have h:(if x.kind=2 then (bX x.left || bX x.right)else if x.kind=1\/x.kind=4\/x.kind=8 then bX x.right else false)=false:=h
 show (if x.kind=2 then (bX r || bX l)else if x.kind=1\/x.kind=4\/x.kind=8 then bX l else false)=false
 rcases a with a|a
 ·rw [if_pos a]at h |-
  revert h hl hr
  cases bX l<;>cases bX r<;>cases bX x.left<;>cases bX x.right<;>simp
 ·rw [if_neg (by omega),if_neg (by omega)]
theorem aQ5 {x:Ax}(h0:(cB x).2=0):aZ x=0/\aZ (cB x).1=0/\SubX (cB x).1 x:=by
 have k:aZ x=0:=by
  unfold cB at h0
  split at h0
  ·exact h0
  ·rename_i h;exact Classical.byContradiction λm=>h m
 refine⟨k, ?_⟩
 have a:=(fO x).1 k
 have l:cB x=sE (cC x.kind) x:=by unfold cB;rw [if_neg (by omega)]
 rw [l]at h0 |-
 have d:x.kind=2\/x.kind=3->(cC x.kind).left=true/\(cC x.kind).right=true:=by
  rintro(h|h)<;>rw [h]<;>exact⟨rfl,rfl⟩
 rw [fO]
 generalize hl:bO (cC x.kind).left x.left=L
 generalize hr:bO (cC x.kind).right x.right=R
 unfold sE at h0 |-
 rw [hl,hr]at h0 |-
 split at h0
 ·rename_i h;exact absurd h0 h
 ·rename_i e
  split at h0
  ·rename_i h;exact absurd h0 h
  ·rename_i f
   have c:SideOk (cC x.kind).left x.left L.1:=by rw [<-hl];exact aRu a.left (by rw [hl];omega)
   have b:SideOk (cC x.kind).right x.right R.1:=by rw [<-hr];exact aRu a.right (by rw [hr];omega)
   rw [if_neg e,if_neg f]
   split
   ·rename_i g
    obtain⟨i,j⟩:=d g.1
    refine⟨⟨a.kind,aD0 a.shaped (.inl i) (.inl j),a.named,λ_=>b.ok j,λ_=>c.ok i,aQ4 g.1 a.bare c.bare b.bare⟩,aVh c.nam b.nam⟩
   ·have e1:(cC x.kind).left=true\/L.1=x.left:=by cases hb:(cC x.kind).left with
     |true=>exact .inl rfl
     |false=>exact .inr (c.same hb)
    have e2:(cC x.kind).right=true\/R.1=x.right:=by cases hb:(cC x.kind).right with
     |true=>exact .inl rfl
     |false=>exact .inr (b.same hb)
    exact⟨⟨a.kind,aD0 a.shaped e1 e2,a.named,c.ok,b.ok,aUj a.bare c.bare b.bare⟩,aVi c.nam b.nam⟩
end
section
attribute [local irreducible] aK aF Tri aH YVC cG aT
set_option maxRecDepth 10000
theorem aCa (l:List Ax) (n:Int) (hl: ∀x∈l,SzAx x):Tri Tryz.prog 19 [.d (.sl 16 (l.map axR)), .d (.int .i64 n)] [] (λr=>r= .d (.bool (decide ((l.length:Int)<=n) && l.all aCb))):=by
 refine qG [] hty Tryz.func19 [0,1,4,5,9,13,21] ?_
 (repeat' first|(refine qW ?_;intros)|((conv=>whnf);first|refine dwR ?_|((first|refine aA ?_ ?_|refine aC ?_ ?_)<;>intro hb<;>(first|exact ddX hb|try simp only [lnS]at hb))|(refine aB ?_ ?_<;>intro hb<;>try exact dsX hb)))
 ·refine bG (Eq.symm ?_)
  rw [decide_eq_false (by omega),Bool.false_and]
 ·have f:(l.length:Int)<=n:=by omega
  rw [decide_eq_true f,Bool.true_and]
  refine aD hty (λj:Nat=>([(0, .d (.sl 16 (l.map axR))),(1, .d (.int .i64 n)),(4, .d (.bool false)),(5, .d (.int .i64 j))],[])) (λj=>j<=l.length/\l.all aCb=(l.drop j).all aCb) (λj=>l.length - j) 0 ⟨by omega,rfl⟩ ⟨by repeat' (first|exact trivial|exact rfl|(rw [List.length_map];exact rfl)|refine And.intro ?_ ?_),trivial⟩ ?_
  rintro j ⟨hj,c⟩
  refine qX ?_;intros
  refine aA (λe=> ?_) (λe=> ?_)
  ·have a:j < l.length:=by simp only [List.length_map]at e;omega
   have b:(l.map axR)[(j:Int).toNat]? =some (axR l[j]):=bA a
   have g:=aGh l[j] (hl _ (List.getElem_mem a))
   rw [List.drop_eq_getElem_cons a,List.all_cons]at c
   generalize l[j]=x at b c g
   (repeat' first|(refine qW ?_;intros)|((conv=>whnf);first|refine dwR ?_|((first|refine aA ?_ ?_|refine aC ?_ ?_)<;>intro hb<;>(first|exact ddX hb|try simp only [lnS]at hb))|(refine aB ?_ ?_<;>intro hb<;>try exact dsX hb)))
   ·refine bG (Eq.symm ?_)
    rw [c];simp_all
   ·refine⟨j+1,⟨by omega, ?_⟩,qO,qB,trivial⟩
    rw [c];simp_all
  ·have a:j=l.length:=by simp only [List.length_map]at e;omega
   subst a
   (repeat' first|(refine qW ?_;intros)|((conv=>whnf);first|refine dwR ?_|((first|refine aA ?_ ?_|refine aC ?_ ?_)<;>intro hb<;>(first|exact ddX hb|try simp only [lnS]at hb))|(refine aB ?_ ?_<;>intro hb<;>try exact dsX hb)))
   refine bG (Eq.symm ?_)
   rw [c,List.drop_length];rfl
end
section
theorem aGz {ks:List (List UInt8)}(h:ks.Nodup):(lN ks).Pairwise (λx y=>Op.bytesLess x y=true):=by
 have d:(lN ks).Pairwise λx y=>decide (x<=y)=true:=List.pairwise_mergeSort (le:= λx y=>decide (x<=y)) (λa b c d e=>by simp only [decide_eq_true_eq]at *;exact List.le_trans d e) (λa b=>by simp only [Bool.or_eq_true,decide_eq_true_eq];exact List.le_total a b) ks
 have e:(lN ks).Nodup:=(List.mergeSort_perm _ _).nodup_iff.2 h
 refine(d.and e).imp ?_
 rintro x y ⟨d,e⟩
 rw [Go.Proofs.bytesLess_eq,decide_eq_true_eq]
 have d:x<=y:=by simpa using d
 refine Classical.byContradiction λf=>e (List.le_antisymm d (List.not_lt.1 f))
theorem aAp {ks:List (List UInt8)}{s:List UInt8}:s∈lN ks↔s∈ks:=List.mem_mergeSort
theorem fM: ∀(l:List Ax),cR l=0↔ ∀x∈l,aZ x=0
 | []=>by simp [cR]
 |x::r=>by
  rw [cR]
  have:=fM r
  split<;>rename_i h
  ·simp [h]
  ·have h:aZ x=0:=by simpa using h
   simp [h,this]
def aJh (l:List Ax):Int:=if cR l≠0 then cR l else if 1024 < l.length then 2 else 0
def kT (l:List Ax):List UInt8×Int:=if aJh l=0 then (wAs l,0)else ([],aJh l)
theorem aBp {l:List Ax}(h:aJh l=0):(∀x∈l,aZ x=0)/\l.length<=1024:=by
 unfold aJh at h
 split at h
 ·exact absurd h (by assumption)
 ·rename_i a
  split at h
  ·simp at h
  ·exact⟨(fM l).1 (Decidable.not_not.1 a),by omega⟩
theorem aQk {α:Type}{E:α->Int}{w:α->List UInt8}{x:α}{d:List UInt8}(h:(if E x=0 then (w x,0)else ([],E x):List UInt8×Int)=(d,0)):E x=0/\w x=d:=by
 split at h
 ·rename_i e
  injection h with h _
  exact⟨e,h⟩
 ·rename_i e
  injection h with _ h
  exact absurd h e
theorem bBz {l:List Ax}{d:List UInt8}(h:kT l=(d,0)) (e:List UInt8):rAs 9 (d++e)=some (l,e):=by
 obtain⟨a,rfl⟩:=aQk h
 obtain⟨b,h3⟩:=aBp a
 exact aZo (λx hx=>aHo (b x hx)) (by omega) e
def aHk (no:Int) (l:List Int):Bool:=l.all (λp=>decide (1<=p) && decide (p < no)) && (match l with| [a,b]=> !decide (b=a)|_=>true)
def cmE (c:Cm):Int:=if c.no < 1\/1024 < c.no\/2 < c.parents.length then 1 else if aHk c.no c.parents=true then (if 65536 < c.message.length then 2 else 0)else 1
def aQ9 (c:Cm):List UInt8×Int:=if cmE c=0 then (wCm c,0)else ([],cmE c)
theorem aLk (z:Int):8<=(gJ z).length:=by unfold gJ;rw [aW];omega
def alE (a:Al):Int:=if 24 < a.name.length then 1 else if cR a.axioms≠0 then cR a.axioms else if 128 < a.axioms.length\/256 < a.parts.length\/256 < a.path.length then 2 else 0
def aQa (a:Al):List UInt8×Int:=if alE a=0 then (wAl a,0)else ([],alE a)
def rB':Rd Bool:= λb=>(aK8 b).bind λp=>if 1 < p.1 then none else some (decide (p.1=1),p.2)
def rC':Nat->Rd Cn
 | 0=> λ_=>none
 |k+1=>cX aK8 λkd=>cX aA5 λn=>cX aQe λlo=>cX aQe λhi=>uR (aDa 25 (rC' k)) (Cn.mk kd n lo hi)
theorem aEf (z:Int):(jE z).length=1:=aW ..
theorem tV (s:List UInt8):4<=(bZ s).length:=by unfold bZ;rw [List.length_append,aW];omega
theorem aGr {α:Type}(w:α->List UInt8) (l:List α):4<=(cU w l).length:=by unfold cU;rw [List.length_append,aW];omega
theorem aQq (c:Cn):25<=(wC c).length:=by
 rw [aJj]
 have h1:=aEf c.kind
 have h2:=tV c.name
 have h3:=aLk c.lo
 have h4:=aLk c.hi
 have h5:=aGr wC c.parts
 simp only [List.length_append]
 omega
theorem aKb: ∀(k:Nat) (c:Cn),OkC k c-> ∀d,rC' k (wC c++d)=some (c,d)
 | 0,_,h=>h.elim
 |k+1,c,h=>by
  obtain⟨⟨j,g⟩,b,⟨i,a⟩,⟨d1,l⟩,e,f⟩:=h
  intro d
  rw [aJj]
  simp only [List.append_assoc]
  show cX aK8 _ _=_
  rw [aQ (lC j g _),aQ (iK b _),aQ (yQ i a _),aQ (yQ d1 l _),cL (wR (by omega) aQq (λp hp=>aKb k p (f p hp)) e d)]
  cases c;rfl
theorem aZn (o:Bool) (c:List UInt8):rB' (wB o++c)=some (o,c):=by
 unfold rB' wB
 cases o
 ·rw [lC (by decide) (by decide) c];rfl
 ·rw [lC (by decide) (by decide) c];rfl
def rA':Rd Ax:=cX aK8 λk=>cX rB' λo=>cX (rC' 9) λl=>cX (rC' 9) λr=>cX (aDa 4 aA5) λrs=>cX aA5 λs1=>cX aA5 λs2=>uR aA5 λs3=>⟨k,o,l,r,rs,s1,s2,s3⟩
def aZq:Rd (List Ax):=aDa 68 rA'
theorem aZs {x:Ax}(h:OkA 9 x) (c:List UInt8):rA' (wA x++c)=some (x,c):=by
 obtain⟨⟨j,e⟩,b,d,⟨e1,e2⟩,f,g,i⟩:=h
 unfold wA rA'
 simp only [List.append_assoc]
 rw [aQ (lC j e _),aQ (aZn _ _),aQ (aKb _ _ b _),aQ (aKb _ _ d _),aQ (wR (by omega) tV (λs a=>iK (e2 s a)) e1 _),aQ (iK f _),aQ (iK g _),cL (iK i c)]
theorem bBl (x:Ax):68<=(wA x).length:=by
 unfold wA wB
 have h1:=aEf x.kind
 have h2:=aEf (if x.isopen=true then 1 else 0)
 have h3:=aQq x.left
 have h4:=aQq x.right
 have h5:=aGr bZ x.roles
 have h6:=tV x.role
 have h7:=tV x.a
 have h8:=tV x.b
 simp only [List.length_append]
 omega
theorem aW7 {l:List Ax}(h: ∀x∈l,OkA 9 x) (hl:l.length < 4294967296) (c:List UInt8):aZq (wAs l++c)=some (l,c):=
 wR (by omega) bBl (λx hx=>aZs (h x hx)) hl c
theorem aZp {l:List Ax}{d:List UInt8}(h:kT l=(d,0)) (e:List UInt8):aZq (d++e)=some (l,e):=by
 obtain⟨a,rfl⟩:=aQk h
 obtain⟨b,h3⟩:=aBp a
 exact aW7 (λx hx=>aHo (b x hx)) (by omega) e
section
variable {α β:Type}
end
end
end Go.Proofs.YtbobcfjlbcgchaaGreatDoor
