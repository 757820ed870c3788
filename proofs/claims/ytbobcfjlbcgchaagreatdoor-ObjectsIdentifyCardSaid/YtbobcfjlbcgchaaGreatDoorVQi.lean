/-
  Layer 6: the graph. slices.Reverse on numbers. Layer 6: the search for a circle.
  Conditions: none.
-/
import Derived.Test.YtbobcfjlbcgchaaGreatDoorVQf
import Derived.Test.YtbobcfjlbcgchaaGreatDoorVQk
import Derived.Test.YtbobcfjlbcgchaaGreatDoorVSyc
import Derived.Test.YtbobcfjlbcgchaaGreatDoorVAk
import Derived.Test.YtbobcfjlbcgchaaGreatDoorVQs
import Derived.Test.YtbobcfjlbcgchaaGreatDoorVSna
set_option linter.unnecessarySimpa false
set_option linter.unusedSectionVars false
set_option linter.unusedSimpArgs false
set_option linter.unusedVariables false
set_option maxHeartbeats 32000000
namespace Go.Proofs.YtbobcfjlbcgchaaGreatDoor
open Go.Proofs
set_option maxRecDepth 10000
attribute [local irreducible] aJ aF Tri aG YVC bS aQ
def aKl (p:Nat×Bool):List D:=[.int .i64 p.1, .bool p.2]
def aBw (l:List (Nat×Bool)):List D:=[.sl 2 (l.map aKl)]
def aEk (R:List Str):D:= .sl 1 (R.map eO)
def aW7 (M:List (Str×Inn)) (R:List Str) (a:Str) (l:List (Nat×Bool)):Prop:= ∀to t,(to,t)∈l↔ ∃b,R[to]? =some b/\ME M a b t
theorem aVi {M:List (Str×Inn)}(hn:(M.map (·.1)).Nodup) {G:Adj}(hl:G.length=(jG (M.map (·.1))).length) (h: ∀i a,(jG (M.map (·.1)))[i]? =some a->aW7 M (jG (M.map (·.1))) a (lK G i)):GOk M (jG (M.map (·.1))) G where
 len:=hl
 nd:=(List.mergeSort_perm _ _).nodup_iff.2 hn
 mem:= λa=>wN
 sound:= λi j t he=>by
  have hi:=aOb he
  obtain⟨b,h1,h2⟩:=(h i _ (List.getElem?_eq_getElem (by omega)) j t).1 he
  exact⟨(List.getElem?_eq_some_iff.1 h1).1,_,b,List.getElem?_eq_getElem (by omega),h1,h2⟩
 full:= λi j t a b h1 h2 h3=>(h i a h1 j t).2 ⟨b,h2,h3⟩
theorem aMy (M:List (Str×Inn)) (g:List Nat×Nat) (hp0:Hp) (F:FarH hp0) (k:Nat) (hk:k∈fG (mpH M g hp0)):k=33\/(80<=k/\k < 100)\/(1000<=k/\k < 1000+M.length):=by
 have := aAs M g hp0 F k (by
  unfold stH
  rw [bO]
  exact List.mem_append_right _ hk)
 by_cases h:k=23
 ·subst h
  unfold mpH at hk
  rw [bO,aHd]at hk
  simp only [List.mem_append,List.mem_cons]at hk
  rcases hk with(hk|hk)|hk|hk
  ·cases hk
  ·have hk:23∈aOl (kL 0 M):=hk
   have:=aFp 0 M 23 hk;omega
  ·have:=aNh 0 M 23 hk;omega
  ·have:=F.lo 23 hk;omega
 ·omega
theorem kR {M:List (Str×Inn)}{g:List Nat×Nat}{hp0:Hp}(F:FarH hp0):jK (mpH M g hp0) (mpH M g hp0):=by
 refine qG λp hp=> ?_
 have h1:=qF (aEo (M:=M) (g:=g) F) p (List.mem_cons_of_mem _ hp)
 have h2:=aMy M g hp0 F p.1 (mM hp)
 have h3:aN ((23,HObj.cells 160 [.xv 33 nK])::mpH M g hp0) p.1=some p.2:=h1
 rwa [aN,if_neg (by omega)]at h3
theorem aTh {M:List (Str×Inn)}{a:Str}(h:a∈M.map (·.1)): ∃i x,yH a M=some i/\M[i]? =some (a,x):=by
 cases hp:yH a M with
 |none=>exact absurd h (vX.1 hp)
 |some i=>
  obtain⟨x,hx⟩:=vW hp
  exact⟨i,x,rfl,hx⟩
theorem aNs (l:List (Str×Bool)):(aC0 l).map (·.1)=l.map (·.1):=by
 unfold aC0;rw [List.map_map];rfl
theorem nmC {k id:Nat}{o:HObj}{hp:Hp}(h1:k≠id) (h2:k∉o.ids) (h3:k∉fG hp):k∉fG ((id,o)::hp):=by
 rw [bO]
 simp only [List.cons_append,List.mem_cons,List.mem_append]
 rintro(h|h|h)
 ·exact h1 h
 ·exact h2 h
 ·exact h3 h
theorem aNi {k:Nat}{o:HObj}{hp:Hp}(h:jK hp hp) (hk: ∀p∈hp,p.1≠k):jK ((k,o)::hp) ((k,o)::hp):=
 ⟨eT,fA h hk⟩
theorem kyC {k id:Nat}{o:HObj}{hp:Hp}(h1:id≠k) (h: ∀p∈hp,p.1≠k): ∀p∈(id,o)::hp,p.1≠k:=by
 intro p hp
 rcases List.mem_cons.1 hp with rfl|hp
 ·exact h1
 ·exact h p hp
theorem kyN {k:Nat}{hp:Hp}(h:k∉fG hp): ∀p∈hp,p.1≠k:= λp hp e=>h (e ▸ mM hp)
theorem aHg {pin:Pin}{fr:Fr}{hp:Hp}{c d:Nat}(h1: ∀k,100<=k->k < 200->k∉pin) (h2: ∀k,100<=k->k < 200->k∉eQ fr) (h3: ∀k,100<=k->k < 200->k∉fG hp) (h4:d < 100\/200<=d) (h5:jK hp hp) (h6:c∉fG hp):FreeM pin fr hp c d:=
 ⟨h1,h2,h3,λk _ _=>by omega,λo=>fA h5 λp hp e=>h6 (e ▸ mM hp)⟩
theorem aH3 {β:Type}{k:Str}: ∀{l:List (Str×β)},k∈l.map (·.1)↔ ∃v,mK l k=some v
 | []=>by simp [mK]
 |(q,w)::r=>by
  rw [mK]
  by_cases h:k=q
  ·rw [if_pos h];simp [h]
  ·rw [if_neg h,<-aH3];simp [h]
theorem aBa (M:List (Str×Inn)) (g:List Nat×Nat) (hn:(M.map (·.1)).Nodup) (hl:M.length<=1000000) (hli: ∀p∈M,p.2.1.length<=1000000) (hp0:Hp) (F:FarH hp0) {pin:Pin}{fr:Fr}{K:SV->Hp->Prop}(hp1: ∀k,(50<=k/\k < 80)\/(100<=k/\k < 200)->k∉pin) (hf: ∀k,(50<=k/\k < 80)\/(100<=k/\k < 200)->k∉eQ fr)
  (hk: ∀R G,GOk M R G->R.length=M.length->K (.agg [.d (aEk R), .osl 65 1 (G.map aBw)]) hp0):
  aF Tryz.prog pin fr (mpH M g hp0) 108 [.xv 33 nK] K:=by
 have hI:=aMy M g hp0 F
 refine aF.weak ?_
 refine aI false [] hty Tryz.func108 rfl (kp [0,2,4,5,7,8,9,15,16,17,18,25,26,27,28,38]) 60 (by simp [Tryz.f108]) ?_
 have pinn: ∀k,(50<=k/\k < 80)\/(100<=k/\k < 200)->k∉pin.under fr (eQ fr):= λk h q=>(gH.1 q).elim (hp1 k h) (hf k h)
 have frM: ∀k,(50<=k/\k < 80)\/(100<=k/\k < 200)->k∉fG (mpH M g hp0):= λk h q=>by have:=hI k q;omega
 ((conv=>whnf);repeat ((first|(refine And.intro (show eN 62 _ _ _ from⟨pinn _ (by omega),by simp [aZ,aU,SV.ids,SV.idsL,cT,bX],frM _ (by omega)⟩) ?_)|(intro hq;try simp only [lnS]at hq)|refine sI ?_|refine .intro _ (.intro rfl ?_));(conv=>whnf)))
 refine aI false [] hty Tryz.func162 rfl (kp [0,1,2]) 50 (by simp [Tryz.f162]) ?_
 ((conv=>whnf);repeat ((first|(refine And.intro (show eN 51 _ _ _ from⟨by intro q;exact(gH.1 q).elim (pinn _ (by omega)) (by simp [aZ,aU,SV.ids,SV.idsL,cT,bX]),by simp [aZ,aU,SV.ids,SV.idsL,cT,bX],nmC (show 51≠62 by decide) (by simp [cV,SV.ids,SV.idsL]) (frM _ (by omega))⟩) ?_)|(refine And.intro (by simp [SV.ids,SV.idsL]) ?_)|(intro hq;try simp only [lnS]at hq)|refine sI ?_|refine .intro _ (.intro rfl ?_));(conv=>whnf)))
 have sk: ∀{hp:Hp} (k:Nat) (o:HObj),(50<=k/\k < 80)\/(100<=k/\k < 200)->jK (mpH M g hp0) hp->jK (mpH M g hp0) ((k,o)::hp):= λk o hk h=>fA h (kyN (frM k hk))
 have self62: ∀o:HObj,jK ((62,o)::mpH M g hp0) ((62,o)::mpH M g hp0):= λo=>aNi (kR F) (kyN (frM _ (by omega)))
 refine aPc (kL 0 M) g (by rw [aHm];exact hl) 33 _ (aO eT (show 62≠33 by decide)) (aHg (λk a b=>pinn k (by omega)) (λk a b=>by simp [cU,aZ,aU,SV.ids,SV.idsL,cT,bX];omega) (λk a b=>nmC (show k≠62 by omega) (by simp [cV,SV.ids,SV.idsL]) (frM k (by omega))) (.inl (by decide)) (self62 _) (nmC (show 51≠62 by decide) (by simp [cV,SV.ids,SV.idsL]) (frM _ (by omega)))) (by decide) ?_
 rw [aDk]
 have hRl:(jG (M.map (·.1))).length=M.length:=by
  have:=(List.mergeSort_perm (M.map (·.1)) λx y=>decide (x<=y)).length_eq
  rw [List.length_map]at this
  exact this
 have hRs:=aCb hn
 have hRm: ∀a,a∈jG (M.map (·.1))->a∈M.map (·.1):= λa h=>wN.1 h
 have hRn:(jG (M.map (·.1))).Nodup:=(List.mergeSort_perm _ _).nodup_iff.2 hn
 have hfin:= λG h1 h2=>hk _ G (aVi hn h1 h2) hRl
 generalize jG (M.map (·.1))=R at *
 ((conv=>whnf);repeat ((first|(intro hq;try simp only [lnS]at hq)|refine sI ?_|refine .intro _ (.intro rfl ?_));(conv=>whnf)))
 rw [List.length_map]
 refine aJ.ownC 62 65 158 210 1 1 rfl rfl ⟨pinn _ (by omega),by simp [aZ,aU,SV.ids,SV.idsL,cT,bX],nmC (show 65≠62 by decide) (by simp [cV,SV.ids,SV.idsL]) (frM _ (by omega))⟩ ?_
 refine aK hty (λy:Nat×Adj=>([(0, .xv 33 nK),(2, .ptr 62 0),(15, .d (aEk R)),(16, .d (.int .i64 R.length)),(17, .d (.int .i64 y.1))],(65, .own 210 1 (y.2.map aBw).length)::(62, .cells 158 [.d (aEk R), .osl 65 1 (y.2.map aBw)])::mpH M g hp0)) (λy=>(y.1<=R.length/\y.2.length=y.1)/\ ∀i a,i < y.1->R[i]? =some a->aW7 M R a (lK y.2 i)) (λy=>R.length - y.1) (0,[]) ⟨by exact⟨Nat.zero_le _,rfl⟩,λi a h=>by dsimp only at h;omega⟩ ⟨by repeat' (first|exact trivial|exact rfl|refine And.intro ?_ ?_),rfl,rfl,fA (fA (kR F) (kyN (frM _ (by omega)))) (kyN (frM _ (by omega)))⟩ ?_
 rintro⟨j,G⟩ ⟨⟨hj,hGl⟩,hG⟩
 dsimp only at hj hGl hG
 ((conv=>whnf);repeat ((first|(intro hq;try simp only [lnS]at hq)|refine sI ?_|refine .intro _ (.intro rfl ?_));(conv=>whnf)))
 refine aA (λh1=> ?_) (λh1=> ?_)
 ·have hjl:j < R.length:=by dsimp only at h1;omega
  have hrow:=kO hjl
  have hRj:R[j]? =some R[j]:=List.getElem?_eq_getElem hjl
  obtain⟨i,x,hpos,hi⟩:=aTh (hRm _ (List.getElem_mem hjl))
  generalize R[j]=a at *
  have hm:=mJ a 0 M
  rw [hpos]at hm
  have hgi:=wW 0 M i _ hp0 hi
  have hxl:=hli _ (List.mem_of_getElem? hi)
  dsimp only at hxl
  ((conv=>whnf);repeat ((first|(refine⟨_,hrow, ?_⟩)|(intro hq;try simp only [lnS]at hq)|refine sI ?_|refine .intro _ (.intro rfl ?_));(conv=>whnf)))
  refine dI (id:=33) (ents:=kL 0 M) (k:=a) (bs:=g.1) (clock:=g.2) rfl rfl (dO rfl) rfl rfl rfl rfl ?_
  rw [hm,show sL false (Option.map (λi=>SV.xv (1000+(0+i)) nK) (some i)) (ofV (Value.map none))=SV.xv (1000+(0+i)) nK from rfl]
  ((conv=>whnf);repeat ((first|(intro hq;try simp only [lnS]at hq)|refine sI ?_|refine .intro _ (.intro rfl ?_));(conv=>whnf)))
  have fr1: ∀k o,(50<=k/\k < 80)\/(100<=k/\k < 200)->k≠65->k≠62->k∉fG ((65, .own 210 1 o)::(62, .cells 158 [.d (aEk R), .osl 65 1 (G.map aBw)])::mpH M g hp0):= λk o h h1 h2=>nmC h1 (by simp [fN]) (nmC h2 (by simp [cV,SV.ids,SV.idsL,h1]) (frM k h))
  have self65: ∀o,jK ((65, .own 210 1 o)::(62, .cells 158 [.d (aEk R), .osl 65 1 (G.map aBw)])::mpH M g hp0) ((65, .own 210 1 o)::(62, .cells 158 [.d (aEk R), .osl 65 1 (G.map aBw)])::mpH M g hp0):= λo=>aNi (self62 _) (kyC (by decide) (kyN (frM _ (by omega))))
  refine aI false [] hty Tryz.func163 rfl (kp [0,1,2]) 52 (by simp [Tryz.f163]) ?_
  ((conv=>whnf);repeat ((first|(refine And.intro (show eN 53 _ _ _ from⟨by intro q;exact(gH.1 q).elim (pinn _ (by omega)) (by simp [aZ,aU,SV.ids,SV.idsL,cT,bX];omega),by simp [aZ,aU,SV.ids,SV.idsL,cT,bX];omega,fr1 53 _ (by omega) (by decide) (by decide)⟩) ?_)|(refine And.intro (by simp [SV.ids,SV.idsL];omega) ?_)|(intro hq;try simp only [lnS]at hq)|refine sI ?_|refine .intro _ (.intro rfl ?_));(conv=>whnf)))
  refine aPb (aC0 x.1) x.2 (by unfold aC0;rw [List.length_map];exact hxl) (1000+(0+i)) _ (aO (aO (aO hgi (show 33≠1000+(0+i)by omega)) (show 62≠1000+(0+i)by omega)) (show 65≠1000+(0+i)by omega)) (aHg (λk a b=>pinn k (by omega)) (λk a b=>by simp [cU,aZ,aU,SV.ids,SV.idsL,cT,bX];omega) (λk a b=>fr1 k _ (by omega) (by omega) (by omega)) (.inr (by omega)) (self65 _) (fr1 53 _ (by omega) (by decide) (by decide))) (by omega) ?_
  rw [aNs]
  have hSl:(jG (x.1.map (·.1))).length=x.1.length:=by
   have:=(List.mergeSort_perm (x.1.map (·.1)) λx y=>decide (x<=y)).length_eq
   rw [List.length_map]at this
   exact this
  have hSm: ∀s,s∈jG (x.1.map (·.1))↔ ∃v,mK x.1 s=some v:= λs=>wN.trans aH3
  have hME: ∀b t,ME M a b t↔mK x.1 b=some t:= λb t=>by
   constructor
   ·rintro⟨i',x',h1,h2⟩
    have:=aB9 hn hi h1
    subst this
    rw [hi]at h1
    simp at h1
    rw [h1];exact h2
   ·intro h;exact⟨i,x,hi,h⟩
  generalize jG (x.1.map (·.1))=S at *
  ((conv=>whnf);repeat ((first|(intro hq;try simp only [lnS]at hq)|refine sI ?_|refine .intro _ (.intro rfl ?_));(conv=>whnf)))
  rw [List.length_map]
  refine aJ.own 5 66 215 2 rfl ⟨pinn _ (by omega),by simp [aZ,aU,SV.ids,SV.idsL,cT,bX],fr1 66 _ (by omega) (by decide) (by decide)⟩ ?_
  refine aK hty (λy:Nat×List (Nat×Bool)=>([(0, .xv 33 nK),(2, .ptr 62 0),(4, .d (.str a)),(5, .osl 66 2 (y.2.map aKl)),(15, .d (aEk R)),(16, .d (.int .i64 R.length)),(17, .d (.int .i64 j)),(25, .d (aEk S)),(26, .d (.int .i64 S.length)),(27, .d (.int .i64 y.1))],(66, .own 215 2 (y.2.map aKl).length)::(65, .own 210 1 (G.map aBw).length)::(62, .cells 158 [.d (aEk R), .osl 65 1 (G.map aBw)])::mpH M g hp0)) (λy=>(y.1<=S.length/\y.2.length<=y.1)/\ ∀to t,(to,t)∈y.2↔ ∃b,b∈S.take y.1/\R[to]? =some b/\mK x.1 b=some t) (λy=>S.length - y.1) (0,[]) ⟨by exact⟨Nat.zero_le _,Nat.le_refl _⟩,λto t=>by simp⟩ ⟨by repeat' (first|exact trivial|exact rfl|refine And.intro ?_ ?_),rfl,rfl,rfl,sk 66 _ (by omega) (sk 65 _ (by omega) (sk 62 _ (by omega) (kR F)))⟩ ?_
  rintro⟨k,l⟩ ⟨⟨hk1,hk2⟩,hlm⟩
  dsimp only at hk1 hk2 hlm
  ((conv=>whnf);repeat ((first|(intro hq;try simp only [lnS]at hq)|refine sI ?_|refine .intro _ (.intro rfl ?_));(conv=>whnf)))
  refine aA (λh2=> ?_) (λh2=> ?_)
  ·have hkl:k < S.length:=by dsimp only at h2;omega
   have hrow2:=kO hkl
   have hst:S.take (k+1)=S.take k++[S[k]]:=List.take_succ_eq_append_getElem hkl
   obtain⟨v,hv⟩:=(hSm _).1 (List.getElem_mem hkl)
   generalize S[k]=s at *
   have bs:=aDz R s hRs (by omega)
   ((conv=>whnf);repeat ((first|(refine⟨_,hrow2, ?_⟩)|(intro hq;try simp only [lnS]at hq)|refine sI ?_|refine .intro _ (.intro rfl ?_));(conv=>whnf)))
   refine aD [] bs trivial (λr hs=> ?_)
   obtain⟨n,b,rfl,hb1,hb2⟩:=hs.ex
   cases b
   ·((conv=>whnf);repeat' ((first|(intro hq;(try simp only [lnS]at hq);(try rewrite [List.length_map]))|refine sJ ?_|refine .intro _ (.intro rfl ?_)|refine exL (k:= ?_)|refine dwR ?_|((first|refine aA ?_ ?_|refine aC ?_ ?_)<;>intro hb<;>(first|exact ddX hb|try simp only [lnS]at hb))|(refine aB ?_ ?_<;>intro hb<;>try exact dsX hb))<;>(conv=>whnf)))
    refine⟨(k+1,l),⟨by dsimp only;omega,λto t=> ?_⟩,by dsimp only;omega,⟨by repeat' (first|exact trivial|exact rfl|refine And.intro ?_ ?_),rfl,rfl,rfl,sk 66 _ (by omega) (sk 65 _ (by omega) (sk 62 _ (by omega) (kR F)))⟩⟩
    rw [hlm,hst]
    constructor
    ·rintro⟨b,q1,q2⟩;exact⟨b,List.mem_append_left _ q1,q2⟩
    ·rintro⟨b,q1,q2,q3⟩
     rcases List.mem_append.1 q1 with q1|q1
     ·exact⟨b,q1,q2,q3⟩
     ·simp at q1;subst q1
      exact absurd (List.mem_of_getElem? q2) (hb2 rfl)
   ·have hRn2:=hb1 rfl
    have hl2:=aD1 (mK x.1 s)
    rw [<-wM,hv]at hl2
    have hrl:(l.map aKl).length=l.length:=List.length_map ..
    have hb63:(l.map aKl).length+1<=9223372036854775807:=by rw [hrl];omega
    have hb48:((l.map aKl).length+1)* 16<=140737488355328:=by rw [hrl];omega
    ((conv=>whnf);repeat ((first|(intro hq;try simp only [lnS]at hq)|refine sI ?_|refine .intro _ (.intro rfl ?_));(conv=>whnf)))
    refine dI (id:=33) (ents:=kL 0 M) (k:=a) (bs:=g.1) (clock:=g.2) rfl rfl (dO rfl) rfl rfl rfl rfl ?_
    rw [hm,show sL false (Option.map (λi=>SV.xv (1000+(0+i)) nK) (some i)) (ofV (Value.map none))=SV.xv (1000+(0+i)) nK from rfl]
    ((conv=>whnf);repeat ((first|(intro hq;try simp only [lnS]at hq)|refine sI ?_|refine .intro _ (.intro rfl ?_));(conv=>whnf)))
    refine dI (id:=1000+(0+i)) (ents:=aC0 x.1) (k:=s) (bs:=x.2.1) (clock:=x.2.2) rfl rfl (dO rfl) rfl rfl (aO (aO (aO (aO hgi (show 33≠1000+(0+i)by omega)) (show 62≠1000+(0+i)by omega)) (show 65≠1000+(0+i)by omega)) (show 66≠1000+(0+i)by omega)) rfl ?_
    rw [show ofV (Value.bool false)=SV.d (.bool false)from rfl,hl2]
    ((conv=>whnf);repeat ((first|(refine And.intro (show eN 107 _ _ _ from⟨pinn _ (by omega),by simp [cU,yI,iE,aU1,aZ,aU,SV.ids,SV.idsL,cT,bX]<;>omega,nmC (show 107≠66 by decide) (by simp [fN]) (fr1 107 _ (by omega) (by decide) (by decide))⟩) ?_)|(refine And.intro hb63 ?_)|(refine And.intro hb48 ?_)|(intro hq;try simp only [lnS]at hq)|refine sI ?_|refine .intro _ (.intro rfl ?_));(conv=>whnf)))
    have hmp:(l++[(n,v)]).map aKl=l.map aKl++[[.int .i64 n, .bool v]]:=by rw [List.map_append];rfl
    refine⟨(k+1,l++[(n,v)]),⟨⟨by dsimp only;omega,by dsimp only;rw [List.length_append,List.length_singleton];omega⟩,λto t=> ?_⟩,by dsimp only;omega, ?_⟩
    ·rw [hst]
     dsimp only
     rw [List.mem_append,hlm]
     constructor
     ·rintro(⟨b,q1,q2⟩|q)
      ·exact⟨b,List.mem_append_left _ q1,q2⟩
      ·simp at q
       obtain⟨rfl,rfl⟩:=q
       exact⟨s,by simp,hRn2,hv⟩
     ·rintro⟨b,q1,q2,q3⟩
      rcases List.mem_append.1 q1 with q1|q1
      ·exact .inl ⟨b,q1,q2,q3⟩
      ·simp at q1;subst q1
       right
       rw [hv]at q3
       injection q3 with q3
       obtain⟨e1,e2⟩:=List.getElem?_eq_some_iff.1 q2
       obtain⟨e3,e4⟩:=List.getElem?_eq_some_iff.1 hRn2
       have:=(List.getElem_inj hRn).1 (e2.trans e4.symm)
       simp [this,q3]
    ·dsimp only
     rw [hmp,List.length_append]
     exact⟨by repeat' (first|exact trivial|exact rfl|refine And.intro ?_ ?_),rfl,rfl,rfl,sk _ _ (by right;exact⟨Nat.le_of_ble_eq_true rfl,Nat.le_of_ble_eq_true rfl⟩) (sk 66 _ (by omega) (sk 65 _ (by omega) (sk 62 _ (by omega) (kR F))))⟩
  ·((conv=>whnf);repeat ((first|(refine And.intro (show eN 113 _ _ _ from⟨pinn _ (by omega),by simp [cU,aZ,aU,SV.ids,SV.idsL,cT,bX],nmC (show 113≠66 by decide) (by simp [fN]) (fr1 113 _ (by omega) (by decide) (by decide))⟩) ?_)|(intro hq;try simp only [lnS]at hq)|refine sI ?_|refine .intro _ (.intro rfl ?_));(conv=>whnf)))
   have hkl:k=S.length:=by dsimp only at h2;omega
   subst hkl
   rw [List.take_length]at hlm
   have hmp:(G++[l]).map aBw=G.map aBw++[aBw l]:=by rw [List.map_append];rfl
   refine⟨(j+1,G++[l]),⟨⟨by dsimp only;omega,by dsimp only;rw [List.length_append,List.length_singleton];omega⟩,λi' a' hi' ha'=> ?_⟩,by dsimp only;omega, ?_⟩
   ·dsimp only at hi' |-
    by_cases hij:i' < j
    ·have e:lK (G++[l]) i'=lK G i':=by
      unfold lK
      rw [List.getElem?_append_left (by omega)]
     rw [e]
     exact hG i' a' hij ha'
    ·have:i'=j:=by omega
     subst this
     rw [hRj]at ha'
     injection ha' with ha'
     subst ha'
     have e:lK (G++[l]) i'=l:=by
      unfold lK
      rw [List.getElem?_append_right (by omega),hGl,Nat.sub_self];rfl
     rw [e]
     intro to t
     rw [hlm]
     constructor
     ·rintro⟨b,q1,q2,q3⟩;exact⟨b,q2,(hME b t).2 q3⟩
     ·rintro⟨b,q1,q2⟩
      have q3:=(hME b t).1 q2
      exact⟨b,(hSm b).2 ⟨t,q3⟩,q1,q3⟩
   ·dsimp only
    rw [hmp,List.length_append]
    exact⟨by repeat' (first|exact trivial|exact rfl|refine And.intro ?_ ?_),rfl,rfl,sk _ _ (by right;exact⟨Nat.le_of_ble_eq_true rfl,Nat.le_of_ble_eq_true rfl⟩) (sk 66 _ (by omega) (sk 65 _ (by omega) (sk 62 _ (by omega) (kR F))))⟩
 ·have hjl:j=R.length:=by dsimp only at h1;omega
  ((conv=>whnf);repeat ((first|(intro hq;try simp only [lnS]at hq)|refine sI ?_|refine .intro _ (.intro rfl ?_));(conv=>whnf)))
  refine⟨hp0, ?_,hfin G (by omega) (λi a ha=>hG i a (by have:=(List.getElem?_eq_some_iff.1 ha).1;omega) ha)⟩
  have h0:jK hp0 (mpH M g hp0):=qG λp hp=>qF (kR F) p (List.mem_cons_of_mem _ (List.mem_append_right _ hp))
  exact fA (fA h0 λp hp e=>by have:=F.lo _ (mM hp);omega) λp hp e=>by have:=F.lo _ (mM hp);omega
end Go.Proofs.YtbobcfjlbcgchaaGreatDoor
namespace Go.Proofs.YtbobcfjlbcgchaaGreatDoor
open Go.Proofs
set_option maxRecDepth 10000
attribute [local irreducible] aJ aF Tri aG YVC bS aQ
structure RevI (l:List Int) (i:Nat) (rows:List Int):Prop where
 len:rows.length=l.length
 at_: ∀(k:Nat) (h:k < l.length),rows[k]'(by omega)=if k < i\/l.length<=k+i then l[l.length - 1 - k]'(by omega)else l[k]
theorem RevI.zero (l:List Int):RevI l 0 l:=⟨rfl,λk h=>by rw [if_neg (by omega)]⟩
theorem RevI.step {l rows:List Int}{i:Nat}(h:RevI l i rows) (hi:2 * i+1 < l.length) (x y:Int) (hx:x=l[l.length - 1 - i]'(by omega)) (hy:y=l[i]'(by omega)):RevI l (i+1) ((rows.set i x).set (l.length - 1 - i) y):=by
 have hl:=h.len
 refine⟨by simp [h.len],λk hk=> ?_⟩
 rw [List.getElem_set,List.getElem_set]
 by_cases h1:l.length - 1 - i=k
 ·rw [if_pos h1,if_pos (by omega),hy];congr 1;omega
 ·rw [if_neg h1]
  by_cases h2:i=k
  ·rw [if_pos h2,if_pos (by omega),hx];congr 1;omega
  ·rw [if_neg h2,h.at_ k hk]
   by_cases h3:k < i\/l.length<=k+i
   ·rw [if_pos h3,if_pos (by omega)]
   ·rw [if_neg h3,if_neg (by omega)]
theorem RevI.done {l rows:List Int}{i:Nat}(h:RevI l i rows) (hi:l.length<=2 * i+1):rows=l.reverse:=by
 have hl:=h.len
 refine List.ext_getElem (by simp [h.len]) λk h1 h2=> ?_
 rw [List.getElem_reverse,h.at_ k (by omega)]
 by_cases h3:k < i\/l.length<=k+i
 ·rw [if_pos h3]
 ·rw [if_neg h3];congr 1;omega
theorem RevI.mid {l rows:List Int}{i k:Nat}(h:RevI l i rows) (h1:i<=k) (h2:k+i < l.length):rows[k]'(by have:=h.len;omega)=l[k]'(by omega):=by
 rw [h.at_ k (by omega),if_neg (by omega)]
theorem aB0 (l:List Int) (cap:Nat) (rest:Hp) {pin:Pin}{fr:Fr}{K:SV->Hp->Prop}(hl:l.length<=1000000)
  (fin:K (cU []) ((76, .mrow 3 1 cap (l.reverse.map aCt))::rest)):
  aF Tryz.prog pin fr ((76, .mrow 3 1 cap (l.map aCt))::rest) 167 [.mw 76 1 l.length] K:=by
 refine dR hty Tryz.func167 rfl (kp [0,2,3,9]) 500 (by simp [Tryz.f167]) ?_
 ((conv=>whnf);repeat ((first|(intro hq;try simp only [lnS]at hq)|refine sI ?_|refine .intro _ (.intro rfl ?_));(conv=>whnf)))
 refine cX hty (λy:Nat×List Int=>([(0, .mw 76 1 l.length),(2, .d (.int .i64 y.1)),(3, .d (.int .i64 (l.length - 1 - y.1)))],(76, .mrow 3 1 cap (y.2.map aCt))::rest)) (λy=>y.1<=l.length/\RevI l y.1 y.2) (λy=>l.length - y.1) (0,l) ⟨Nat.zero_le _, .zero l⟩ (by repeat' (first|exact trivial|exact rfl|exact eH (by dsimp only;omega)|refine And.intro ?_ ?_)) rfl ?_
 rintro⟨i,rows⟩ ⟨hi,hR⟩
 dsimp only at hi hR
 have hlen:=hR.len
 ((conv=>whnf);repeat ((first|(intro hq;try simp only [lnS]at hq)|refine sI ?_|refine .intro _ (.intro rfl ?_));(conv=>whnf)))
 refine aA (λh1=> ?_) (λh1=> ?_)
 ·dsimp only at h1
  (conv=>whnf)
  refine fV hty [0,1,2,3,4,5,6,7,8,9,10,11,12,13,14,15] (by kernel_rfl) (by kernel_rfl) ?_
  ((conv=>whnf);repeat' ((first|(intro hq;(try simp only [lnS]at hq);(try rewrite [List.length_map]))|refine sJ ?_|refine .intro _ (.intro rfl ?_)|refine exL (k:= ?_)|(refine⟨_,aM5 (by first|omega|(simp only [List.length_map];omega)), ?_⟩)|refine dwR ?_|((first|refine aA ?_ ?_|refine aC ?_ ?_)<;>intro hb<;>(first|exact ddX hb|try simp only [lnS]at hb))|(refine aB ?_ ?_<;>intro hb<;>try exact dsX hb))<;>(conv=>whnf)))
  refine⟨_,List.getElem?_eq_getElem (by simp only [List.length_set,List.length_map];omega), ?_⟩
  ((conv=>whnf);repeat' ((first|(intro hq;(try simp only [lnS]at hq);(try rewrite [List.length_map]))|refine sJ ?_|refine .intro _ (.intro rfl ?_)|refine exL (k:= ?_)|(refine⟨_,aM5 (by first|omega|(simp only [List.length_map];omega)), ?_⟩)|refine dwR ?_|((first|refine aA ?_ ?_|refine aC ?_ ?_)<;>intro hb<;>(first|exact ddX hb|try simp only [lnS]at hb))|(refine aB ?_ ?_<;>intro hb<;>try exact dsX hb))<;>(conv=>whnf)))
  have e1:((l.length:Int) - 1 - (i:Int)).toNat=l.length - 1 - i:=by omega
  refine⟨(i+1,(rows.set i (rows[l.length - 1 - i]'(by omega))).set (l.length - 1 - i) (rows[i]'(by omega))),⟨by dsimp only;omega,hR.step (by omega) _ _ (hR.mid (by omega) (by omega)) (hR.mid (by omega) (by omega))⟩,by dsimp only;omega,by repeat' (first|exact trivial|exact rfl|exact eH (by dsimp only;omega)|refine And.intro ?_ ?_), ?_⟩
  simp only [e1,Int.toNat_natCast,List.map_set]
  rfl
 ·dsimp only at h1
  rw [hR.done (by omega)]
  exact fin
end Go.Proofs.YtbobcfjlbcgchaaGreatDoor
namespace Go.Proofs.YtbobcfjlbcgchaaGreatDoor
open Go.Proofs
set_option maxRecDepth 10000
attribute [local irreducible] aJ aF Tri aG YVC bS aQ
def aAh (w:Way):List D:=[.int .i64 w.role, .bool w.strict, .int .i64 w.before, .int .i64 w.many]
def seR (p:Bool×Bool):List D:=[.bool p.1, .bool p.2]
def gZ (n:Nat):List D:=aCt n
abbrev aYn (R:List Str) (G:Adj):D:= .agg [aEk R, .sl 1 (G.map aBw)]
structure CirP (G:Adj) (n start most:Nat) (r:SV):Prop where
 ex:(r= .d .nil/\ ∀L w t,CW (EG G) L w t->w 0=start->¬ L < most)\/ ∃L:List Nat,L≠[]/\r= .d (.sl 1 (L.map gZ))/\(∀i∈L,i < n)/\L.length<=1000000000/\nR (EG G)
theorem aAg {W:List Way}{i:Nat}(h:i < W.length):(W.map aAh)[((i:Nat):Int).toNat]? =some (aAh W[i]):=by
 rw [Int.toNat_natCast,List.getElem?_map,List.getElem?_eq_getElem h];rfl
theorem aU3 {G:Adj}{i:Nat}(h:i < G.length):(G.map aBw)[((i:Nat):Int).toNat]? =some (aBw (lK G i)):=by
 rw [Int.toNat_natCast,List.getElem?_map,List.getElem?_eq_getElem h]
 unfold lK
 rw [List.getElem?_eq_getElem h];rfl
theorem aSi {l:List (Nat×Bool)}{i:Nat}(h:i < l.length):(l.map aKl)[((i:Nat):Int).toNat]? =some (aKl l[i]):=by
 rw [Int.toNat_natCast,List.getElem?_map,List.getElem?_eq_getElem h];rfl
theorem aUw {S:List (Bool×Bool)}{i:Nat}(h:i < S.length):(S.map seR)[((i:Nat):Int).toNat]? =some (seR S[i]):=by
 rw [Int.toNat_natCast,List.getElem?_map,List.getElem?_eq_getElem h];rfl
structure ManyOk (W:List Way):Prop where
 le: ∀(i:Nat) w,W[i]? =some w->w.many<=i
theorem aFr (R:List Str) (G:Adj) (start most:Nat) (hs:start < R.length) (hG:G.length=R.length) (hb: ∀i,∀p∈lK G i,p.1 < R.length) (hl:R.length<=400000) (hm:most<=1000000000):
  Tri Tryz.prog 110 [.d (aYn R G), .d (.int .i64 start), .d (.int .i64 most)] [] (CirP G R.length start most):=by
 refine aH false [3,10,12] hty Tryz.func110 rfl (kp [0,1,2,3,6,7,8,9,10,12,13,14,29,40,46,47,48,49,64,66,86,93]) [] _ _ _ (by simp [Tryz.f110]) (by simp) ?_
 ((conv=>whnf);repeat ((first|(intro hq;try simp only [lnS]at hq)|refine sI ?_|refine .intro _ (.intro rfl ?_));(conv=>whnf)))
 refine aM2 hty ?_
 ((conv=>whnf);repeat ((first|(intro hq;try simp only [lnS]at hq)|refine sI ?_|refine .intro _ (.intro rfl ?_));(conv=>whnf)))
 have hrl:((R.map eO).length:Int).toNat=R.length:=by rw [List.length_map];rfl
 rw [hrl]
 refine⟨(List.length_replicate ..).symm,[.bool false, .bool false],by rw [List.getElem?_replicate,if_pos (by omega)], ?_⟩
 ((conv=>whnf);repeat ((first|(intro hq;try simp only [lnS]at hq)|refine sI ?_|refine .intro _ (.intro rfl ?_));(conv=>whnf)))
 have hseed:(List.replicate R.length [D.bool false, .bool false]).set start [.bool true, .bool false]=((List.replicate R.length (false,false)).set start (true,false)).map seR:=by
  rw [List.map_set,List.map_replicate];rfl
 refine aK hty (λy:Nat×List Way×List (Bool×Bool)=>([(1, .d (.int .i64 start)),(2, .d (.int .i64 most)),(3, .ea 2 [[aEk R, .sl 1 (G.map aBw)]] 0 0),(6, .d .nil),(7, .osl 17 4 (y.2.1.map aAh)),(8, .mw 21 2 R.length),(9, .d (.int .i64 y.1))],[(21, .mrow 222 2 R.length (y.2.2.map seR)),(17, .own 219 4 (y.2.1.map aAh).length)]))
  (λy=>Bfs G R.length start y.1 0 y.2.1 y.2.2/\ManyOk y.2.1/\y.1<=y.2.1.length) (λy=>2 * R.length - y.1) (0,[⟨start,false,0,0⟩],(List.replicate R.length (false,false)).set start (true,false)) ⟨Bfs.init hs,⟨λi w h=> ?_⟩,Nat.zero_le _⟩ ⟨by repeat' (first|exact trivial|exact rfl|refine And.intro ?_ ?_),congrArg (λr=>some (HObj.mrow 222 2 R.length r)) hseed,rfl,trivial⟩ ?_
 ·have hi:=(List.getElem?_eq_some_iff.1 h).1
  have hi:i=0:=by simpa using hi
  subst hi
  simp at h
  subst h
  exact Nat.le_refl _
 rintro⟨at',W,S⟩ ⟨hB,hM,hat⟩
 dsimp only at hB hM hat
 have hSl:=hB.len
 have hfew:=hB.few
 have hwl:(W.map aAh).length=W.length:=List.length_map ..
 ((conv=>whnf);repeat ((first|(intro hq;try simp only [lnS]at hq)|refine sI ?_|refine .intro _ (.intro rfl ?_));(conv=>whnf)))
 refine aA (λh1=> ?_) (λh1=> ?_)
 ·have hwL:at' < W.length:=by
   have h1:(at':Int) < ((W.map aAh).length:Nat):=h1
   omega
  have hrow:=aAg hwL
  have hwat:W[at']? =some W[at']:=List.getElem?_eq_getElem hwL
  have hwm:=hM.le _ _ hwat
  have hsnd:=hB.sound _ (List.getElem_mem hwL)
  obtain⟨w,hw⟩: ∃w,w=W[at']:=⟨_,rfl⟩
  rw [<-hw]at hrow hwat hwm hsnd
  clear hw
  ((conv=>whnf);repeat ((first|(refine⟨_,hrow, ?_⟩)|(intro hq;try simp only [lnS]at hq)|refine sI ?_|refine .intro _ (.intro rfl ?_));(conv=>whnf)))
  refine aA (λh2=> ?_) (λh2=> ?_)
  ·((conv=>whnf);repeat' ((first|(intro hq;(try simp only [lnS]at hq);(try rewrite [List.length_map]))|refine sJ ?_|refine .intro _ (.intro rfl ?_)|refine exL (k:= ?_)|refine dwR ?_|((first|refine aA ?_ ?_|refine aC ?_ ?_)<;>intro hb<;>(first|exact ddX hb|try simp only [lnS]at hb))|(refine aB ?_ ?_<;>intro hb<;>try exact dsX hb))<;>(conv=>whnf)))
   exact⟨.inl ⟨rfl,hB.none λw' hw'=>by rw [hwat]at hw';injection hw' with hw';subst hw';omega⟩⟩
  have hro:=hsnd.2
  have hrow2:=aU3 (G:=G) (i:=w.role) (by omega)
  have hbA:=hb w.role
  obtain⟨A,hA⟩: ∃A,A=lK G w.role:=⟨_,rfl⟩
  rw [<-hA]at hrow2 hbA
  ((conv=>whnf);repeat ((first|(refine⟨_,hrow2, ?_⟩)|(intro hq;try simp only [lnS]at hq)|refine sI ?_|refine .intro _ (.intro rfl ?_));(conv=>whnf)))
  rw [show (A.map aKl).length=A.length from List.length_map ..]
  clear hrow2
  refine aK hty (λy:Nat×List Way×List (Bool×Bool)=>([(1, .d (.int .i64 start)),(2, .d (.int .i64 most)),(3, .ea 2 [[aEk R, .sl 1 (G.map aBw)]] 0 0),(6, .d .nil),(7, .osl 17 4 (y.2.1.map aAh)),(8, .mw 21 2 R.length),(9, .d (.int .i64 at')),(10, .ea 4 [aAh w] 0 0),(46, .d (.sl 2 (A.map aKl))),(47, .d (.int .i64 A.length)),(48, .d (.int .i64 y.1))],[(21, .mrow 222 2 R.length (y.2.2.map seR)),(17, .own 219 4 (y.2.1.map aAh).length)]))
   (λy=>Bfs G R.length start at' y.1 y.2.1 y.2.2/\ManyOk y.2.1/\y.2.1[at']? =some w/\y.1<=A.length) (λy=>A.length - y.1) (0,W,S) ⟨hB,hM,hwat,Nat.zero_le _⟩ ⟨by repeat' (first|exact trivial|exact rfl|refine And.intro ?_ ?_),by repeat' (first|exact trivial|exact rfl|refine And.intro ?_ ?_)⟩ ?_
  clear hB hM hwat hSl hfew hwl hat h1 hwL hrow hsnd
  rintro⟨k,W,S⟩ ⟨hB,hM,hwat,hkA⟩
  dsimp only at hB hM hwat hkA
  have hSl:=hB.len
  have hfew:=hB.few
  have hwl:(W.map aAh).length=W.length:=List.length_map ..
  have hatl:at' < W.length:=(List.getElem?_eq_some_iff.1 hwat).1
  ((conv=>whnf);repeat ((first|(intro hq;try simp only [lnS]at hq)|refine sI ?_|refine .intro _ (.intro rfl ?_));(conv=>whnf)))
  refine aA (λh3=> ?_) (λh3=> ?_)
  ·have hkl:k < A.length:=by dsimp only at h3;omega
   have hrowk:=aSi hkl
   have hkat:A[k]? =some A[k]:=List.getElem?_eq_getElem hkl
   have hjn:=hbA _ (List.getElem_mem hkl)
   have hjE:A[k]∈A:=List.getElem_mem hkl
   generalize A[k]=p at *
   obtain⟨j,t⟩:=p
   dsimp only at hjn
   have hk2:(lK G w.role)[k]? =some (j,t):=by rw [<-hA];exact hkat
   have hskip:=hB.skip hwat hk2
   have hpush:=hB.push hwat hjn hk2
   have hfound: ∀(e:j=start),(w.strict || t)=true->nR (EG G):= λe=>by
    subst e
    exact hB.found (List.mem_of_getElem? hwat) (by unfold EG;rw [<-hA];exact hjE)
   have hrowj:=aUw (S:=S) (i:=j) (by omega)
   have hSj:S[j]? =some S[j]:=List.getElem?_eq_getElem (by omega)
   obtain⟨ro,st,be,ma⟩:=w
   dsimp only at hskip hpush hfound hwm hro
   have hsa: ∀v,oA S j v=aSl S[j] v:= λv=>by unfold oA;rw [hSj];rfl
   rw [hSj]at hpush
   simp only [Option.getD_some]at hpush
   generalize S[j]=q at *
   obtain⟨b1,b2⟩:=q
   have hsl:R.length=(S.map seR).length:=by rw [List.length_map,hSl]
   have hb63:(W.map aAh).length+1<=9223372036854775807:=by rw [hwl];omega
   have hb48:((W.map aAh).length+1)* 32<=140737488355328:=by rw [hwl];omega
   have hM2 : ∀ v, ManyOk (W ++ [⟨j, v, at', ma + 1⟩]) := λv => ⟨λi x hx => by
    rw [List.getElem?_append]at hx
    split at hx
    ·exact hM.le i x hx
    ·rename_i hi
     have hx2:=(List.getElem?_eq_some_iff.1 hx).1
     simp only [List.length_singleton]at hx2
     rw [show i - W.length=0 by omega]at hx
     simp at hx
     subst hx
     dsimp only
     omega⟩
   have hW2: ∀x,(W++[x])[at']? =some ⟨ro,st,be,ma⟩:= λx=>by rw [List.getElem?_append_left hatl];exact hwat
   cases st<;>cases t
   ·((conv=>whnf);repeat ((first|(refine⟨_,hrowk, ?_⟩)|(intro hq;try simp only [lnS]at hq)|refine sI ?_|refine .intro _ (.intro rfl ?_));(conv=>whnf)))
    refine aA (λh4=> ?_) (λh4=> ?_)
    ·cases b1
     ·((conv=>whnf);repeat' ((first|(intro hq;(try simp only [lnS]at hq);(try rewrite [List.length_map]))|refine sJ ?_|refine .intro _ (.intro rfl ?_)|refine exL (k:= ?_)|(refine⟨_,hrowj, ?_⟩)|(refine And.intro hsl ?_)|(refine And.intro hb63 ?_)|(refine And.intro hb48 ?_)|refine dwR ?_|((first|refine aA ?_ ?_|refine aC ?_ ?_)<;>intro hb<;>(first|exact ddX hb|try simp only [lnS]at hb))|(refine aB ?_ ?_<;>intro hb<;>try exact dsX hb))<;>(conv=>whnf)))
      refine⟨(k+1,W++[⟨j,false,at',ma+1⟩],S.set j (aCz (false,b2) false)),⟨hpush (by simp) (by rw [hsa];rfl),hM2 false,hW2 _,by dsimp only;omega⟩,by dsimp only;omega, ?_⟩
      dsimp only
      rw [List.map_append,List.map_set,List.length_append]
      exact⟨by repeat' (first|exact trivial|exact rfl|refine And.intro ?_ ?_),by repeat' (first|exact trivial|exact rfl|refine And.intro ?_ ?_)⟩
     ·((conv=>whnf);repeat' ((first|(intro hq;(try simp only [lnS]at hq);(try rewrite [List.length_map]))|refine sJ ?_|refine .intro _ (.intro rfl ?_)|refine exL (k:= ?_)|(refine⟨_,hrowj, ?_⟩)|(refine And.intro hsl ?_)|refine dwR ?_|((first|refine aA ?_ ?_|refine aC ?_ ?_)<;>intro hb<;>(first|exact ddX hb|try simp only [lnS]at hb))|(refine aB ?_ ?_<;>intro hb<;>try exact dsX hb))<;>(conv=>whnf)))
      exact⟨(k+1,W,S),⟨hskip (by simp) (by rw [hsa];rfl),hM,hwat,by dsimp only;omega⟩,by dsimp only;omega,⟨by repeat' (first|exact trivial|exact rfl|refine And.intro ?_ ?_),by repeat' (first|exact trivial|exact rfl|refine And.intro ?_ ?_)⟩⟩
    ·cases b1
     ·((conv=>whnf);repeat' ((first|(intro hq;(try simp only [lnS]at hq);(try rewrite [List.length_map]))|refine sJ ?_|refine .intro _ (.intro rfl ?_)|refine exL (k:= ?_)|(refine⟨_,hrowj, ?_⟩)|(refine And.intro hsl ?_)|(refine And.intro hb63 ?_)|(refine And.intro hb48 ?_)|refine dwR ?_|((first|refine aA ?_ ?_|refine aC ?_ ?_)<;>intro hb<;>(first|exact ddX hb|try simp only [lnS]at hb))|(refine aB ?_ ?_<;>intro hb<;>try exact dsX hb))<;>(conv=>whnf)))
      refine⟨(k+1,W++[⟨j,false,at',ma+1⟩],S.set j (aCz (false,b2) false)),⟨hpush (by simp) (by rw [hsa];rfl),hM2 false,hW2 _,by dsimp only;omega⟩,by dsimp only;omega, ?_⟩
      dsimp only
      rw [List.map_append,List.map_set,List.length_append]
      exact⟨by repeat' (first|exact trivial|exact rfl|refine And.intro ?_ ?_),by repeat' (first|exact trivial|exact rfl|refine And.intro ?_ ?_)⟩
     ·((conv=>whnf);repeat' ((first|(intro hq;(try simp only [lnS]at hq);(try rewrite [List.length_map]))|refine sJ ?_|refine .intro _ (.intro rfl ?_)|refine exL (k:= ?_)|(refine⟨_,hrowj, ?_⟩)|(refine And.intro hsl ?_)|refine dwR ?_|((first|refine aA ?_ ?_|refine aC ?_ ?_)<;>intro hb<;>(first|exact ddX hb|try simp only [lnS]at hb))|(refine aB ?_ ?_<;>intro hb<;>try exact dsX hb))<;>(conv=>whnf)))
      exact⟨(k+1,W,S),⟨hskip (by simp) (by rw [hsa];rfl),hM,hwat,by dsimp only;omega⟩,by dsimp only;omega,⟨by repeat' (first|exact trivial|exact rfl|refine And.intro ?_ ?_),by repeat' (first|exact trivial|exact rfl|refine And.intro ?_ ?_)⟩⟩
   ·((conv=>whnf);repeat ((first|(refine⟨_,hrowk, ?_⟩)|(intro hq;try simp only [lnS]at hq)|refine sI ?_|refine .intro _ (.intro rfl ?_));(conv=>whnf)))
    refine aA (λh4=> ?_) (λh4=> ?_)
    ·have hjs:j=start:=by have h4:(j:Int)=start:=h4;omega
     have hcirc:=hfound hjs rfl
     ((conv=>whnf);repeat ((first|(intro hq;try simp only [lnS]at hq)|refine sI ?_|refine .intro _ (.intro rfl ?_));(conv=>whnf)))
     refine aJ.mown 6 76 3 1 rfl (bY (by with_unfolding_all exact rfl)) ?_
     refine aK hty (λy:Nat×List Nat×Nat=>([(1, .d (.int .i64 start)),(6, .mw 76 1 y.2.1.length),(7, .osl 17 4 (W.map aAh)),(9, .d (.int .i64 y.1))],[(76, .mrow 3 1 y.2.2 (y.2.1.map gZ)),(17, .own 219 4 (W.map aAh).length)])) (λy=>y.1+y.2.1.length<=at'/\ ∀i∈y.2.1,i < R.length) (λy=>y.1) (at',[],0) ⟨by dsimp only;simp,by simp⟩ ⟨by repeat' (first|exact trivial|exact rfl|refine And.intro ?_ ?_),by repeat' (first|exact trivial|exact rfl|refine And.intro ?_ ?_)⟩ ?_
     rintro⟨a,L,cap⟩ ⟨ha,hL⟩
     dsimp only at ha hL
     have hrl3:(L.map gZ).length=L.length:=List.length_map ..
     have hc63:(L.map gZ).length+1<=9223372036854775807:=by rw [hrl3];omega
     have hc48:((L.map gZ).length+1)* 8<=140737488355328:=by rw [hrl3];omega
     ((conv=>whnf);repeat ((first|(intro hq;try simp only [lnS]at hq)|refine sI ?_|refine .intro _ (.intro rfl ?_));(conv=>whnf)))
     refine aA (λh5=> ?_) (λh5=> ?_)
     ·have hal:a < W.length:=by omega
      have hrowa:=aAg hal
      have hbf:=hB.before a _ (List.getElem?_eq_getElem hal) (by dsimp only at h5;omega)
      have hsd:=(hB.sound _ (List.getElem_mem hal)).2
      generalize W[a]=x at *
      have hmp:(L++[x.role]).map gZ=L.map gZ++[gZ x.role]:=by rw [List.map_append];rfl
      ((conv=>whnf);repeat ((first|(refine⟨_,hrowa, ?_⟩)|(refine And.intro hrl3.symm ?_)|(refine And.intro hc63 ?_)|(refine And.intro hc48 ?_)|(intro hq;try simp only [lnS]at hq)|refine sI ?_|refine .intro _ (.intro rfl ?_));(conv=>whnf)))
      rename_i cap'
      refine⟨(x.before,L++[x.role],cap'),⟨by dsimp only;rw [List.length_append,List.length_singleton];omega,λi hi=> ?_⟩,by dsimp only;omega, ?_⟩
      ·rcases List.mem_append.1 hi with hi|hi
       ·exact hL i hi
       ·simp at hi;subst hi;exact hsd
      ·dsimp only
       rw [hmp,List.length_append,<-hrl3]
       exact⟨by repeat' (first|exact trivial|exact rfl|refine And.intro ?_ ?_),by repeat' (first|exact trivial|exact rfl|refine And.intro ?_ ?_)⟩
     ·have hmp:L.map gZ++[gZ start]=((L++[start]).map λi:Nat=>(i:Int)).map aCt:=by
       rw [List.map_map,List.map_append];rfl
      have hml:(L.map gZ).length+1=((L++[start]).map λi:Nat=>(i:Int)).length:=by simp
      ((conv=>whnf);repeat ((first|(refine And.intro hrl3.symm ?_)|(refine And.intro hc63 ?_)|(refine And.intro hc48 ?_)|(intro hq;try simp only [lnS]at hq)|refine sI ?_|refine .intro _ (.intro rfl ?_));(conv=>whnf)))
      rename_i cap'
      have hmr:(((L++[start]).map λi:Nat=>(i:Int)).reverse).map aCt=((L++[start]).reverse).map gZ:=by
       rw [<-List.map_reverse,List.map_map];rfl
      refine aF.sub (hp':=[(76, .mrow 3 1 cap' (((L++[start]).map λi:Nat=>(i:Int)).map aCt))]) ⟨congrArg (λr=>some (HObj.mrow 3 1 cap' r)) hmp,trivial⟩ ?_
      show aF _ _ _ _ _ [SV.mw 76 1 ((L.map gZ).length+1)] _
      rw [hml]
      refine aB0 _ cap' [] (by simp;omega) ?_
      rw [hmr]
      ((conv=>whnf);repeat' ((first|(intro hq;(try simp only [lnS]at hq);(try rewrite [List.length_map]))|refine sJ ?_|refine .intro _ (.intro rfl ?_)|refine exL (k:= ?_)|(refine And.intro (show (L.map gZ).length+1=(((L++[start]).reverse).map gZ).length from by simp) ?_)|refine dwR ?_|((first|refine aA ?_ ?_|refine aC ?_ ?_)<;>intro hb<;>(first|exact ddX hb|try simp only [lnS]at hb))|(refine aB ?_ ?_<;>intro hb<;>try exact dsX hb))<;>(conv=>whnf)))
      refine⟨.inr ⟨(L++[start]).reverse,by simp,rfl,λi hi=> ?_,by simp;omega,hcirc⟩⟩
      rw [List.mem_reverse]at hi
      rcases List.mem_append.1 hi with hi|hi
      ·exact hL i hi
      ·simp at hi;subst hi;exact hs
    ·replace h4:¬ (j:Int)=start:=h4
     cases b2
     ·((conv=>whnf);repeat' ((first|(intro hq;(try simp only [lnS]at hq);(try rewrite [List.length_map]))|refine sJ ?_|refine .intro _ (.intro rfl ?_)|refine exL (k:= ?_)|(refine⟨_,hrowj, ?_⟩)|(refine And.intro hsl ?_)|(refine And.intro hb63 ?_)|(refine And.intro hb48 ?_)|refine dwR ?_|((first|refine aA ?_ ?_|refine aC ?_ ?_)<;>intro hb<;>(first|exact ddX hb|try simp only [lnS]at hb))|(refine aB ?_ ?_<;>intro hb<;>try exact dsX hb))<;>(conv=>whnf)))
      refine⟨(k+1,W++[⟨j,true,at',ma+1⟩],S.set j (aCz (b1,false) true)),⟨hpush (λh=>h4 (by rw [h.1])) (by rw [hsa];rfl),hM2 true,hW2 _,by dsimp only;omega⟩,by dsimp only;omega, ?_⟩
      dsimp only
      rw [List.map_append,List.map_set,List.length_append]
      exact⟨by repeat' (first|exact trivial|exact rfl|refine And.intro ?_ ?_),by repeat' (first|exact trivial|exact rfl|refine And.intro ?_ ?_)⟩
     ·((conv=>whnf);repeat' ((first|(intro hq;(try simp only [lnS]at hq);(try rewrite [List.length_map]))|refine sJ ?_|refine .intro _ (.intro rfl ?_)|refine exL (k:= ?_)|(refine⟨_,hrowj, ?_⟩)|(refine And.intro hsl ?_)|refine dwR ?_|((first|refine aA ?_ ?_|refine aC ?_ ?_)<;>intro hb<;>(first|exact ddX hb|try simp only [lnS]at hb))|(refine aB ?_ ?_<;>intro hb<;>try exact dsX hb))<;>(conv=>whnf)))
      exact⟨(k+1,W,S),⟨hskip (λh=>h4 (by rw [h.1])) (by rw [hsa];rfl),hM,hwat,by dsimp only;omega⟩,by dsimp only;omega,⟨by repeat' (first|exact trivial|exact rfl|refine And.intro ?_ ?_),by repeat' (first|exact trivial|exact rfl|refine And.intro ?_ ?_)⟩⟩
   ·((conv=>whnf);repeat ((first|(refine⟨_,hrowk, ?_⟩)|(intro hq;try simp only [lnS]at hq)|refine sI ?_|refine .intro _ (.intro rfl ?_));(conv=>whnf)))
    refine aA (λh4=> ?_) (λh4=> ?_)
    ·have hjs:j=start:=by have h4:(j:Int)=start:=h4;omega
     have hcirc:=hfound hjs rfl
     ((conv=>whnf);repeat ((first|(intro hq;try simp only [lnS]at hq)|refine sI ?_|refine .intro _ (.intro rfl ?_));(conv=>whnf)))
     refine aJ.mown 6 76 3 1 rfl (bY (by with_unfolding_all exact rfl)) ?_
     refine aK hty (λy:Nat×List Nat×Nat=>([(1, .d (.int .i64 start)),(6, .mw 76 1 y.2.1.length),(7, .osl 17 4 (W.map aAh)),(9, .d (.int .i64 y.1))],[(76, .mrow 3 1 y.2.2 (y.2.1.map gZ)),(17, .own 219 4 (W.map aAh).length)])) (λy=>y.1+y.2.1.length<=at'/\ ∀i∈y.2.1,i < R.length) (λy=>y.1) (at',[],0) ⟨by dsimp only;simp,by simp⟩ ⟨by repeat' (first|exact trivial|exact rfl|refine And.intro ?_ ?_),by repeat' (first|exact trivial|exact rfl|refine And.intro ?_ ?_)⟩ ?_
     rintro⟨a,L,cap⟩ ⟨ha,hL⟩
     dsimp only at ha hL
     have hrl3:(L.map gZ).length=L.length:=List.length_map ..
     have hc63:(L.map gZ).length+1<=9223372036854775807:=by rw [hrl3];omega
     have hc48:((L.map gZ).length+1)* 8<=140737488355328:=by rw [hrl3];omega
     ((conv=>whnf);repeat ((first|(intro hq;try simp only [lnS]at hq)|refine sI ?_|refine .intro _ (.intro rfl ?_));(conv=>whnf)))
     refine aA (λh5=> ?_) (λh5=> ?_)
     ·have hal:a < W.length:=by omega
      have hrowa:=aAg hal
      have hbf:=hB.before a _ (List.getElem?_eq_getElem hal) (by dsimp only at h5;omega)
      have hsd:=(hB.sound _ (List.getElem_mem hal)).2
      generalize W[a]=x at *
      have hmp:(L++[x.role]).map gZ=L.map gZ++[gZ x.role]:=by rw [List.map_append];rfl
      ((conv=>whnf);repeat ((first|(refine⟨_,hrowa, ?_⟩)|(refine And.intro hrl3.symm ?_)|(refine And.intro hc63 ?_)|(refine And.intro hc48 ?_)|(intro hq;try simp only [lnS]at hq)|refine sI ?_|refine .intro _ (.intro rfl ?_));(conv=>whnf)))
      rename_i cap'
      refine⟨(x.before,L++[x.role],cap'),⟨by dsimp only;rw [List.length_append,List.length_singleton];omega,λi hi=> ?_⟩,by dsimp only;omega, ?_⟩
      ·rcases List.mem_append.1 hi with hi|hi
       ·exact hL i hi
       ·simp at hi;subst hi;exact hsd
      ·dsimp only
       rw [hmp,List.length_append,<-hrl3]
       exact⟨by repeat' (first|exact trivial|exact rfl|refine And.intro ?_ ?_),by repeat' (first|exact trivial|exact rfl|refine And.intro ?_ ?_)⟩
     ·have hmp:L.map gZ++[gZ start]=((L++[start]).map λi:Nat=>(i:Int)).map aCt:=by
       rw [List.map_map,List.map_append];rfl
      have hml:(L.map gZ).length+1=((L++[start]).map λi:Nat=>(i:Int)).length:=by simp
      ((conv=>whnf);repeat ((first|(refine And.intro hrl3.symm ?_)|(refine And.intro hc63 ?_)|(refine And.intro hc48 ?_)|(intro hq;try simp only [lnS]at hq)|refine sI ?_|refine .intro _ (.intro rfl ?_));(conv=>whnf)))
      rename_i cap'
      have hmr:(((L++[start]).map λi:Nat=>(i:Int)).reverse).map aCt=((L++[start]).reverse).map gZ:=by
       rw [<-List.map_reverse,List.map_map];rfl
      refine aF.sub (hp':=[(76, .mrow 3 1 cap' (((L++[start]).map λi:Nat=>(i:Int)).map aCt))]) ⟨congrArg (λr=>some (HObj.mrow 3 1 cap' r)) hmp,trivial⟩ ?_
      show aF _ _ _ _ _ [SV.mw 76 1 ((L.map gZ).length+1)] _
      rw [hml]
      refine aB0 _ cap' [] (by simp;omega) ?_
      rw [hmr]
      ((conv=>whnf);repeat' ((first|(intro hq;(try simp only [lnS]at hq);(try rewrite [List.length_map]))|refine sJ ?_|refine .intro _ (.intro rfl ?_)|refine exL (k:= ?_)|(refine And.intro (show (L.map gZ).length+1=(((L++[start]).reverse).map gZ).length from by simp) ?_)|refine dwR ?_|((first|refine aA ?_ ?_|refine aC ?_ ?_)<;>intro hb<;>(first|exact ddX hb|try simp only [lnS]at hb))|(refine aB ?_ ?_<;>intro hb<;>try exact dsX hb))<;>(conv=>whnf)))
      refine⟨.inr ⟨(L++[start]).reverse,by simp,rfl,λi hi=> ?_,by simp;omega,hcirc⟩⟩
      rw [List.mem_reverse]at hi
      rcases List.mem_append.1 hi with hi|hi
      ·exact hL i hi
      ·simp at hi;subst hi;exact hs
    ·replace h4:¬ (j:Int)=start:=h4
     cases b2
     ·((conv=>whnf);repeat' ((first|(intro hq;(try simp only [lnS]at hq);(try rewrite [List.length_map]))|refine sJ ?_|refine .intro _ (.intro rfl ?_)|refine exL (k:= ?_)|(refine⟨_,hrowj, ?_⟩)|(refine And.intro hsl ?_)|(refine And.intro hb63 ?_)|(refine And.intro hb48 ?_)|refine dwR ?_|((first|refine aA ?_ ?_|refine aC ?_ ?_)<;>intro hb<;>(first|exact ddX hb|try simp only [lnS]at hb))|(refine aB ?_ ?_<;>intro hb<;>try exact dsX hb))<;>(conv=>whnf)))
      refine⟨(k+1,W++[⟨j,true,at',ma+1⟩],S.set j (aCz (b1,false) true)),⟨hpush (λh=>h4 (by rw [h.1])) (by rw [hsa];rfl),hM2 true,hW2 _,by dsimp only;omega⟩,by dsimp only;omega, ?_⟩
      dsimp only
      rw [List.map_append,List.map_set,List.length_append]
      exact⟨by repeat' (first|exact trivial|exact rfl|refine And.intro ?_ ?_),by repeat' (first|exact trivial|exact rfl|refine And.intro ?_ ?_)⟩
     ·((conv=>whnf);repeat' ((first|(intro hq;(try simp only [lnS]at hq);(try rewrite [List.length_map]))|refine sJ ?_|refine .intro _ (.intro rfl ?_)|refine exL (k:= ?_)|(refine⟨_,hrowj, ?_⟩)|(refine And.intro hsl ?_)|refine dwR ?_|((first|refine aA ?_ ?_|refine aC ?_ ?_)<;>intro hb<;>(first|exact ddX hb|try simp only [lnS]at hb))|(refine aB ?_ ?_<;>intro hb<;>try exact dsX hb))<;>(conv=>whnf)))
      exact⟨(k+1,W,S),⟨hskip (λh=>h4 (by rw [h.1])) (by rw [hsa];rfl),hM,hwat,by dsimp only;omega⟩,by dsimp only;omega,⟨by repeat' (first|exact trivial|exact rfl|refine And.intro ?_ ?_),by repeat' (first|exact trivial|exact rfl|refine And.intro ?_ ?_)⟩⟩
   ·((conv=>whnf);repeat ((first|(refine⟨_,hrowk, ?_⟩)|(intro hq;try simp only [lnS]at hq)|refine sI ?_|refine .intro _ (.intro rfl ?_));(conv=>whnf)))
    refine aA (λh4=> ?_) (λh4=> ?_)
    ·have hjs:j=start:=by have h4:(j:Int)=start:=h4;omega
     have hcirc:=hfound hjs rfl
     ((conv=>whnf);repeat ((first|(intro hq;try simp only [lnS]at hq)|refine sI ?_|refine .intro _ (.intro rfl ?_));(conv=>whnf)))
     refine aJ.mown 6 76 3 1 rfl (bY (by with_unfolding_all exact rfl)) ?_
     refine aK hty (λy:Nat×List Nat×Nat=>([(1, .d (.int .i64 start)),(6, .mw 76 1 y.2.1.length),(7, .osl 17 4 (W.map aAh)),(9, .d (.int .i64 y.1))],[(76, .mrow 3 1 y.2.2 (y.2.1.map gZ)),(17, .own 219 4 (W.map aAh).length)])) (λy=>y.1+y.2.1.length<=at'/\ ∀i∈y.2.1,i < R.length) (λy=>y.1) (at',[],0) ⟨by dsimp only;simp,by simp⟩ ⟨by repeat' (first|exact trivial|exact rfl|refine And.intro ?_ ?_),by repeat' (first|exact trivial|exact rfl|refine And.intro ?_ ?_)⟩ ?_
     rintro⟨a,L,cap⟩ ⟨ha,hL⟩
     dsimp only at ha hL
     have hrl3:(L.map gZ).length=L.length:=List.length_map ..
     have hc63:(L.map gZ).length+1<=9223372036854775807:=by rw [hrl3];omega
     have hc48:((L.map gZ).length+1)* 8<=140737488355328:=by rw [hrl3];omega
     ((conv=>whnf);repeat ((first|(intro hq;try simp only [lnS]at hq)|refine sI ?_|refine .intro _ (.intro rfl ?_));(conv=>whnf)))
     refine aA (λh5=> ?_) (λh5=> ?_)
     ·have hal:a < W.length:=by omega
      have hrowa:=aAg hal
      have hbf:=hB.before a _ (List.getElem?_eq_getElem hal) (by dsimp only at h5;omega)
      have hsd:=(hB.sound _ (List.getElem_mem hal)).2
      generalize W[a]=x at *
      have hmp:(L++[x.role]).map gZ=L.map gZ++[gZ x.role]:=by rw [List.map_append];rfl
      ((conv=>whnf);repeat ((first|(refine⟨_,hrowa, ?_⟩)|(refine And.intro hrl3.symm ?_)|(refine And.intro hc63 ?_)|(refine And.intro hc48 ?_)|(intro hq;try simp only [lnS]at hq)|refine sI ?_|refine .intro _ (.intro rfl ?_));(conv=>whnf)))
      rename_i cap'
      refine⟨(x.before,L++[x.role],cap'),⟨by dsimp only;rw [List.length_append,List.length_singleton];omega,λi hi=> ?_⟩,by dsimp only;omega, ?_⟩
      ·rcases List.mem_append.1 hi with hi|hi
       ·exact hL i hi
       ·simp at hi;subst hi;exact hsd
      ·dsimp only
       rw [hmp,List.length_append,<-hrl3]
       exact⟨by repeat' (first|exact trivial|exact rfl|refine And.intro ?_ ?_),by repeat' (first|exact trivial|exact rfl|refine And.intro ?_ ?_)⟩
     ·have hmp:L.map gZ++[gZ start]=((L++[start]).map λi:Nat=>(i:Int)).map aCt:=by
       rw [List.map_map,List.map_append];rfl
      have hml:(L.map gZ).length+1=((L++[start]).map λi:Nat=>(i:Int)).length:=by simp
      ((conv=>whnf);repeat ((first|(refine And.intro hrl3.symm ?_)|(refine And.intro hc63 ?_)|(refine And.intro hc48 ?_)|(intro hq;try simp only [lnS]at hq)|refine sI ?_|refine .intro _ (.intro rfl ?_));(conv=>whnf)))
      rename_i cap'
      have hmr:(((L++[start]).map λi:Nat=>(i:Int)).reverse).map aCt=((L++[start]).reverse).map gZ:=by
       rw [<-List.map_reverse,List.map_map];rfl
      refine aF.sub (hp':=[(76, .mrow 3 1 cap' (((L++[start]).map λi:Nat=>(i:Int)).map aCt))]) ⟨congrArg (λr=>some (HObj.mrow 3 1 cap' r)) hmp,trivial⟩ ?_
      show aF _ _ _ _ _ [SV.mw 76 1 ((L.map gZ).length+1)] _
      rw [hml]
      refine aB0 _ cap' [] (by simp;omega) ?_
      rw [hmr]
      ((conv=>whnf);repeat' ((first|(intro hq;(try simp only [lnS]at hq);(try rewrite [List.length_map]))|refine sJ ?_|refine .intro _ (.intro rfl ?_)|refine exL (k:= ?_)|(refine And.intro (show (L.map gZ).length+1=(((L++[start]).reverse).map gZ).length from by simp) ?_)|refine dwR ?_|((first|refine aA ?_ ?_|refine aC ?_ ?_)<;>intro hb<;>(first|exact ddX hb|try simp only [lnS]at hb))|(refine aB ?_ ?_<;>intro hb<;>try exact dsX hb))<;>(conv=>whnf)))
      refine⟨.inr ⟨(L++[start]).reverse,by simp,rfl,λi hi=> ?_,by simp;omega,hcirc⟩⟩
      rw [List.mem_reverse]at hi
      rcases List.mem_append.1 hi with hi|hi
      ·exact hL i hi
      ·simp at hi;subst hi;exact hs
    ·replace h4:¬ (j:Int)=start:=h4
     cases b2
     ·((conv=>whnf);repeat' ((first|(intro hq;(try simp only [lnS]at hq);(try rewrite [List.length_map]))|refine sJ ?_|refine .intro _ (.intro rfl ?_)|refine exL (k:= ?_)|(refine⟨_,hrowj, ?_⟩)|(refine And.intro hsl ?_)|(refine And.intro hb63 ?_)|(refine And.intro hb48 ?_)|refine dwR ?_|((first|refine aA ?_ ?_|refine aC ?_ ?_)<;>intro hb<;>(first|exact ddX hb|try simp only [lnS]at hb))|(refine aB ?_ ?_<;>intro hb<;>try exact dsX hb))<;>(conv=>whnf)))
      refine⟨(k+1,W++[⟨j,true,at',ma+1⟩],S.set j (aCz (b1,false) true)),⟨hpush (λh=>h4 (by rw [h.1])) (by rw [hsa];rfl),hM2 true,hW2 _,by dsimp only;omega⟩,by dsimp only;omega, ?_⟩
      dsimp only
      rw [List.map_append,List.map_set,List.length_append]
      exact⟨by repeat' (first|exact trivial|exact rfl|refine And.intro ?_ ?_),by repeat' (first|exact trivial|exact rfl|refine And.intro ?_ ?_)⟩
     ·((conv=>whnf);repeat' ((first|(intro hq;(try simp only [lnS]at hq);(try rewrite [List.length_map]))|refine sJ ?_|refine .intro _ (.intro rfl ?_)|refine exL (k:= ?_)|(refine⟨_,hrowj, ?_⟩)|(refine And.intro hsl ?_)|refine dwR ?_|((first|refine aA ?_ ?_|refine aC ?_ ?_)<;>intro hb<;>(first|exact ddX hb|try simp only [lnS]at hb))|(refine aB ?_ ?_<;>intro hb<;>try exact dsX hb))<;>(conv=>whnf)))
      exact⟨(k+1,W,S),⟨hskip (λh=>h4 (by rw [h.1])) (by rw [hsa];rfl),hM,hwat,by dsimp only;omega⟩,by dsimp only;omega,⟨by repeat' (first|exact trivial|exact rfl|refine And.intro ?_ ?_),by repeat' (first|exact trivial|exact rfl|refine And.intro ?_ ?_)⟩⟩
  ·have hkA2:k=A.length:=by dsimp only at h3;omega
   ((conv=>whnf);repeat' ((first|(intro hq;(try simp only [lnS]at hq);(try rewrite [List.length_map]))|refine sJ ?_|refine .intro _ (.intro rfl ?_)|refine exL (k:= ?_)|refine dwR ?_|((first|refine aA ?_ ?_|refine aC ?_ ?_)<;>intro hb<;>(first|exact ddX hb|try simp only [lnS]at hb))|(refine aB ?_ ?_<;>intro hb<;>try exact dsX hb))<;>(conv=>whnf)))
   refine⟨(at'+1,W,S),⟨hB.next hwat (by rw [<-hA];omega),hM,by dsimp only;omega⟩,by dsimp only;omega,⟨by repeat' (first|exact trivial|exact rfl|refine And.intro ?_ ?_),by repeat' (first|exact trivial|exact rfl|refine And.intro ?_ ?_)⟩⟩
 ·((conv=>whnf);repeat' ((first|(intro hq;(try simp only [lnS]at hq);(try rewrite [List.length_map]))|refine sJ ?_|refine .intro _ (.intro rfl ?_)|refine exL (k:= ?_)|refine dwR ?_|((first|refine aA ?_ ?_|refine aC ?_ ?_)<;>intro hb<;>(first|exact ddX hb|try simp only [lnS]at hb))|(refine aB ?_ ?_<;>intro hb<;>try exact dsX hb))<;>(conv=>whnf)))
  refine⟨.inl ⟨rfl,hB.none λw' hw'=> ?_⟩⟩
  have h2:=(List.getElem?_eq_some_iff.1 hw').1
  have h1:¬ (at':Int) < ((W.map aAh).length:Nat):=h1
  omega
end Go.Proofs.YtbobcfjlbcgchaaGreatDoor
