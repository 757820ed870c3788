/-
  The canonical form of a part: what both ways of finding it answer; plain. Objects: a writer's contract, over its own two objects alone; how it is used. Objects: the writer writes octets, numbers, texts and digests. Objects: the writer writes lists, concepts and axioms. Objects: the writer writes axioms, commits, queries and alignments. Terms: the canonical form of a concept, as a plain function; it is not greater.
  Conditions: none.
-/
import Derived.Test.YtdjfkmkdkclahaaGreatDoorVXs
import Derived.Test.YtdjfkmkdkclahaaGreatDoorVSna
import Derived.Test.YtdjfkmkdkclahaaGreatDoorVSyn
import Derived.Test.YtdjfkmkdkclahaaGreatDoorVSyi
set_option linter.unusedSectionVars false
set_option linter.unusedSimpArgs false
set_option linter.unusedVariables false
set_option maxHeartbeats 16000000
namespace Go.Proofs.YtdjfkmkdkclahaaGreatDoor
open Go.Proofs
def aFt (w:List Nat) (n:Nat):Asg:=w.map λk=>if k < n then some (k+1)else none
theorem aQ2 {w:List Nat}(hn:w.Nodup) {i n:Nat}(hi:w[i]? =some n):(aFt w n)[i]? =some none/\(aFt w n).set i (some (n+1))=aFt w (n+1):=by
 refine⟨?_, ?_⟩
 ·unfold aFt
  rw [List.getElem?_map,hi]
  simp
 ·refine List.ext_getElem? λj=> ?_
  unfold aFt
  rw [List.getElem?_set]
  by_cases e:i=j
  ·subst e
   rw [if_pos rfl,List.length_map,if_pos (List.getElem?_eq_some_iff.1 hi).1,List.getElem?_map,hi]
   simp
  ·rw [if_neg e,List.getElem?_map,List.getElem?_map]
   cases hj:w[j]? with
   |none=>rfl
   |some k=>
    have hk:k≠n:=by
     intro ek
     subst ek
     obtain⟨h1,h2⟩:=List.getElem?_eq_some_iff.1 hi
     obtain⟨h3,h4⟩:=List.getElem?_eq_some_iff.1 hj
     have hp:=List.pairwise_iff_getElem.1 hn
     rcases Nat.lt_or_ge i j with hlt|hge
     ·exact hp i j h1 h3 hlt (h2.trans h4.symm)
     ·exact hp j i h3 h1 (by omega) (h4.trans h2.symm)
    simp only [Option.map_some]
    by_cases hlt:k < n
    ·rw [if_pos hlt,if_pos (by omega)]
    ·rw [if_neg hlt,if_neg (by omega)]
theorem aIf {N:Nat}{w:List Nat}(hw:w.Perm (List.range N)): ∀(d n:Nat),n+d=N->Compl N n (aFt w n) (aFt w N)
 | 0,n,h=>by
  obtain rfl:n=N:=by omega
  exact .done _
 |d+1,n,h=>by
  have hnd:w.Nodup:=hw.nodup_iff.2 List.nodup_range
  have hm:n∈w:=hw.mem_iff.2 (List.mem_range.2 (by omega))
  obtain⟨i,hi⟩:=List.getElem?_of_mem hm
  obtain⟨h1,h2⟩:=aQ2 hnd hi
  refine .step i (by omega) h1 ?_
  rw [h2]
  exact aIf hw d (n+1) (by omega)
theorem aB8 {x:Nat}: ∀{a:Asg}{i:Nat},a[i]? =some none->((a.set i (some x)).filterMap id).Perm (x::a.filterMap id)
 | [],i,h=>by simp at h
 |o::r,0,h=>by
  have h:o=none:=by simpa using h
  subst h
  exact .refl _
 |o::r,i+1,h=>by
  have ih:=aB8 (x:=x) (a:=r) (i:=i) (by simpa using h)
  cases o with
  |none=>exact ih
  |some k=>exact(ih.cons k).trans (List.Perm.swap ..)
theorem aMa: ∀{a:Asg},(a.filterMap id).length=a.length->a=(a.filterMap id).map some
 | [],_=>rfl
 |none::r,h=>by
  have:=List.length_filterMap_le id r
  have h:(r.filterMap id).length=r.length+1:=h
  omega
 |some k::r,h=>by
  have h:(r.filterMap id).length+1=r.length+1:=h
  have:=aMa (a:=r) (by omega)
  show some k::r=some k::(r.filterMap id).map some
  rw [<-this]
theorem aMv {N n:Nat}{a a':Asg}(h:Compl N n a a'):a.length=N->n<=N->(a.filterMap id).Perm ((List.range n).map (· +1))-> ∃w:List Nat,w.Perm (List.range N)/\a'=aFt w N:=by
 induction h with
 |done a=>
  intro hl _ hp
  have h1:(a.filterMap id).length=a.length:=by rw [hp.length_eq,List.length_map,List.length_range,hl]
  have h2:=aMa h1
  refine⟨(a.filterMap id).map (· - 1), ?_, ?_⟩
  ·have:=hp.map (· - 1)
   rw [List.map_map]at this
   refine this.trans ?_
   rw [show ((λx=>x - 1) ∘ λx=>x+1)=(id:Nat->Nat)from funext λx=>by simp,List.map_id]
  ·unfold aFt
   rw [List.map_map]
   conv=>lhs;rw [h2]
   refine List.map_congr_left λk hk=> ?_
   have hk:=hp.mem_iff.1 hk
   rw [List.mem_map]at hk
   obtain⟨j,hj,rfl⟩:=hk
   rw [List.mem_range]at hj
   simp [hj]
 |step i hn hi h ih=>
  intro hl _ hp
  refine ih (by rw [List.length_set];exact hl) (by omega) ?_
  refine(aB8 hi).trans ?_
  rw [List.range_succ,List.map_append]
  exact(hp.cons _).trans (List.perm_append_comm (l₁:=[_]) (l₂:=_)).symm.symm
theorem aFh {N:Nat}{a':Asg}:Compl N 0 (List.replicate N none) a'↔ ∃w:List Nat,w.Perm (List.range N)/\a'=aFt w N:=by
 constructor
 ·intro h
  refine aMv h (by simp) (Nat.zero_le _) ?_
  have:(List.replicate N (none:Option Nat)).filterMap id=[]:=by
   rw [List.filterMap_eq_nil_iff]
   intro o ho
   rw [(List.mem_replicate.1 ho).2];rfl
  rw [this]
  exact .nil
 ·rintro⟨w,hw,rfl⟩
  have:=aIf hw N 0 (by omega)
  have e:aFt w 0=List.replicate N none:=by
   unfold aFt
   have hl:w.length=N:=by rw [hw.length_eq,List.length_range]
   rw [<-hl]
   exact List.map_eq_replicate_iff.2 λx _=>by simp
  rw [e]at this
  exact this
theorem aK8 {w:List Nat}{N:Nat}(hw:w.Perm (List.range N)):fP (aFt w N) N=w.map λk=>nmV (k+1):=by
 unfold fP aFt
 rw [List.map_map]
 refine List.map_congr_left λk hk=> ?_
 have:=List.mem_range.1 (hw.mem_iff.1 hk)
 simp [this]
structure IsTid (l t:List At):Prop where
 s:Sle bM t
 n:t.Nodup
 m: ∀x,x∈t↔x∈l
theorem aDc {a b:At}:bM a b=0->a=b:=dL.1
theorem IsTid.uniq {l l' t t':List At}(h:IsTid l t) (h':IsTid l' t') (e: ∀x,x∈l↔x∈l'):t=t':=
 aCg bJ (λa b=>aDc) ((List.perm_ext_iff_of_nodup h.n h'.n).2 λx=>by rw [h.m x,h'.m x,e x]) h.s h'.s
def vO (a:At):List At->List At
 | []=>[a]
 |b::r=>if bM b a < 0 then b::vO a r else if bM b a=0 then b::r else a::b::r
theorem wI {a x:At}: ∀{l:List At},x∈vO a l↔x=a\/x∈l
 | []=>by simp [vO]
 |b::r=>by
  have ih:=wI (a:=a) (x:=x) (l:=r)
  rw [vO]
  split
  ·rw [List.mem_cons,ih,List.mem_cons]
   constructor
   ·rintro(h|h|h)
    ·exact .inr (.inl h)
    ·exact .inl h
    ·exact .inr (.inr h)
   ·rintro(h|h|h)
    ·exact .inr (.inl h)
    ·exact .inl h
    ·exact .inr (.inr h)
  ·split
   ·rename_i h
    have e:=aDc h
    subst e
    constructor
    ·exact .inr
    ·rintro(h|h)
     ·rw [h];exact List.mem_cons_self
     ·exact h
   ·rw [List.mem_cons]
theorem aD2 {a:At}: ∀{l:List At},l.Pairwise (λx y=>bM x y < 0)->(vO a l).Pairwise (λx y=>bM x y < 0)
 | [],_=>by simp [vO]
 |b::r,hs=>by
  obtain⟨h1,h2⟩:=List.pairwise_cons.1 hs
  rw [vO]
  split
  ·rename_i hb
   refine List.pairwise_cons.2 ⟨λx hx=> ?_,aD2 h2⟩
   rcases wI.1 hx with rfl|hx
   ·exact hb
   ·exact h1 x hx
  ·rename_i hb
   split
   ·exact hs
   ·rename_i h0
    have ha:=bJ.anti b a
    have hab:bM a b < 0:=by omega
    refine List.pairwise_cons.2 ⟨λx hx=> ?_,hs⟩
    rcases List.mem_cons.1 hx with rfl|hx
    ·exact hab
    ·exact(bJ.t3 a b x).1 hab (h1 x hx)
theorem aCc {l t:List At}(h:t.Pairwise λx y=>bM x y < 0) (m: ∀x,x∈t↔x∈l):IsTid l t:=
 ⟨h.imp λ{x y} h => by omega, h.imp λ{x y} h e => by
  rw [e,bJ.refl]at h
  omega,m⟩
def sF:List At->List At
 | []=>[]
 |a::r=>vO a (sF r)
theorem kC: ∀l,IsTid l (sF l):=by
 have h1: ∀l,(sF l).Pairwise λx y=>bM x y < 0:=by
  intro l
  induction l with
  |nil=>exact .nil
  |cons a r ih=>exact aD2 ih
 have h2: ∀l x,x∈sF l↔x∈l:=by
  intro l
  induction l with
  |nil=>intro x;exact Iff.rfl
  |cons a r ih=>
   intro x
   show x∈vO a (sF r)↔_
   rw [wI,ih x,List.mem_cons]
 exact λl=>aCc (h1 l) (h2 l)
theorem aIx {l l':List At}(h: ∀x,x∈l↔x∈l'):sF l=sF l':=(kC l).uniq (kC l') h
end Go.Proofs.YtdjfkmkdkclahaaGreatDoor
namespace Go.Proofs.YtdjfkmkdkclahaaGreatDoor
open Go.Proofs Go.RowKit
set_option maxRecDepth 10000
attribute [local irreducible] aL aH Tri aI YVC bP aS
theorem aWe {i j:Nat}{h1 hp:Hp}{x y o u o' u':HObj}(hij:i≠j) (hx:aR hp i=some x) (hy:aR hp j=some y) (ho:aR h1 3=some o) (hu:aR h1 4=some u) (hs:o.sim/\u.sim) (hr:¬ o.Rd/\¬ u.Rd) (hi:(∀k∈o.ids,k∈[3,4])/\ ∀k∈u.ids,k∈[3,4])
  (he:o.ren (λk=>if k=3 then i else j)=o') (he':u.ren (λk=>if k=3 then i else j)=u'):Left (λk=>if k=3 then i else j) [3,4] h1 hp (dW (dW hp i o') j u'):=by
 have hy':aR (dW hp i o') j=some y:=by rw [bC o' hx,if_neg (Ne.symm hij)];exact hy
 refine⟨λk hk=> ?_,λk z hz=> ?_⟩
 ·have hk:k=3\/k=4:=by simpa using hk
  rcases hk with rfl|rfl
  ·refine⟨o,ho,hs.1,hr.1,hi.1, ?_⟩
   show aR (dW (dW hp i o') j u') i=_
   rw [bC u' hy',if_neg hij,bC o' hx,if_pos rfl,he]
  ·refine⟨u,hu,hs.2,hr.2,hi.2, ?_⟩
   show aR (dW (dW hp i o') j u') j=_
   rw [bC u' hy',if_pos rfl,he']
 ·rw [bC u' hy']at hz
  split at hz
  ·rename_i e;exact .inl ⟨4,by simp,by rw [e];rfl⟩
  ·rw [bC o' hx]at hz
   split at hz
   ·rename_i e;exact .inl ⟨3,by simp,by rw [e];rfl⟩
   ·exact .inr hz
theorem aVa {i j:Nat}{hp:Hp}{x y o u:HObj}(hij:i≠j) (hx:aR hp i=some x) (hy:aR hp j=some y) (he:o.ren (λk=>if k=3 then i else j)=x) (he':u.ren (λk=>if k=3 then i else j)=y) (hs:o.sim/\u.sim):Among (λk=>if k=3 then i else j) [3,4] [(3,o),(4,u)] hp:=by
 have key: ∀k z,aR [(3,o),(4,u)] k=some z->k=3/\z=o\/k=4/\z=u:=by
  intro k z h
  simp only [aR]at h
  split at h
  ·rename_i e;injection h with h;exact .inl ⟨e.symm,h.symm⟩
  ·split at h
   ·rename_i e;injection h with h;exact .inr ⟨e.symm,h.symm⟩
   ·cases h
 refine⟨λk z h=> ?_,λk z k' z' h h' e=> ?_,λk hk=> ?_,λk z h=> ?_⟩
 ·rcases key k z h with⟨rfl,rfl⟩|⟨rfl,rfl⟩
  ·exact⟨by rw [he];exact hx,hs.1⟩
  ·exact⟨by rw [he'];exact hy,hs.2⟩
 ·rcases key k z h with⟨rfl,rfl⟩|⟨rfl,rfl⟩<;>rcases key k' z' h' with⟨rfl,rfl⟩|⟨rfl,rfl⟩
  ·rfl
  ·exact absurd e hij
  ·exact absurd e (Ne.symm hij)
  ·rfl
 ·have hk:k=3\/k=4:=by simpa using hk
  rcases hk with rfl|rfl
  ·exact⟨o,by simp [aR]⟩
  ·exact⟨u,by simp [aR]⟩
 ·rcases key k z h with⟨rfl,rfl⟩|⟨rfl,rfl⟩
  ·exact .inl (by simp)
  ·exact .inl (by simp)
abbrev wrC (j:Nat) (p:List UInt8):HObj:= .cells 115 [.osl j 1 (p.map aP)]
abbrev wrB (p:List UInt8):HObj:= .own 5 1 (p.map aP).length
abbrev aXk:Pin:=⟨[3,4],λ_ _=>False,[],none⟩
def WrT (f:FuncId) (ex:List SV) (out:List UInt8):Prop:= ∀p:List UInt8,p.length+out.length<=100000000000000->
 aH Tryz.prog aXk [] [(3,wrC 4 p),(4,wrB p)] f (.ptr 3 0::ex) (λs h=>s= .tup []/\aR h 3=some (wrC 4 (p++out))/\aR h 4=some (wrB (p++out)))
theorem WrT.call {f:FuncId}{ex:List SV}{out:List UInt8}(h:WrT f ex out) (hx:SV.idsL ex=[]) {pin:Pin}{fr:Fr}{hp:Hp}{i j:Nat}{K:SV->Hp->Prop}(p:List UInt8) (hb:p.length+out.length<=100000000000000) (hij:i≠j) (hg:aR hp i=some (wrC j p)) (hg':aR hp j=some (wrB p))
  (hok:iG hp i (wrC j (p++out)) λh=>iG h j (wrB (p++out)) (K (.tup []))):aH Tryz.prog pin fr hp f (.ptr i 0::ex) K:=by
 have hs: ∀(p:List UInt8),(wrC 4 p).sim:= λp s hs=>by simp at hs;subst hs;trivial
 have hi: ∀(p:List UInt8),∀k∈(wrC 4 p).ids,k∈[3,4]:= λp k hk=>by simp [HObj.ids,SV.idsL,SV.ids]at hk;simp [hk]
 refine jK (λk=>if k=3 then i else j) [3,4] [(3,wrC 4 p),(4,wrB p)] (h p hb) (aVa hij hg hg' rfl rfl ⟨hs p,trivial⟩) (λk hk=>hk) (by rw [List.map_cons,xB hx];rfl) ?_ ?_ ?_ (.inr λ_ h=>h)
 ·intro s hs
  rcases List.mem_cons.1 hs with rfl|hs
  ·trivial
  ·exact wV hx s hs
 ·rintro s h1 ⟨rfl,e2,e3⟩
  have hnone: ∀k∈SV.ids (SV.tup []),k∈[3,4]:=by
   intro k hk
   cases hk
  refine⟨rfl,hnone,_,aWe hij hg hg' e2 e3 ⟨hs _,trivial⟩ ⟨λh=>h,λh=>h⟩ ⟨hi _,λk hk=>by cases hk⟩ rfl rfl, ?_⟩
  rw [cX,cX]at hok
  exact hok
 ·exact λh1 h2=>h2.elim
end Go.Proofs.YtdjfkmkdkclahaaGreatDoor
namespace Go.Proofs.YtdjfkmkdkclahaaGreatDoor
open Go.Proofs Go.RowKit
set_option maxRecDepth 10000
attribute [local irreducible] aL aH Tri aI YVC bP aS
theorem gM (n:Nat):(((UInt8.ofNat (n % 256)).toNat:Nat):Int)=((n % 256:Nat):Int):=by simp
theorem aT5 (z:Int):IntKind.u8.wrap z=(((UInt8.ofNat (uN z % 256)).toNat:Nat):Int):=by
 rw [gM]
 have e3: ∀k:Int,IntKind.u8.wrap k=k % 256:= λk=>rfl
 rw [e3]
 unfold uN
 omega
theorem aDx {n:Nat}(h:n<=100000000000000):uN (n:Int)=n:=by unfold uN;omega
theorem cU (p q:List UInt8):(p++q).map aP=p.map aP++q.map aP:=List.map_append ..
theorem xS (p q:List UInt8):((p++q).map aP).length=(p.map aP).length+(q.map aP).length:=by rw [cU,List.length_append]
theorem bX (p:List UInt8):(p.map aP).length=p.length:=List.length_map ..
theorem aBz (j:Nat) (p q:List UInt8):wrC j (p++q)= .cells 115 [.osl j 1 (p.map aP++q.map aP)]:=by rw [<-cU]
theorem aC0 (p q:List UInt8):wrB (p++q)= .own 5 1 ((p.map aP).length+(q.map aP).length):=by rw [<-xS]
theorem aNs (z:Int):WrT 133 [.d (.int .i64 z)] (vS z):=by
 intro p hp
 have hl:(vS z).length=1:=aU ..
 have hml:=bX p
 have hb63:(p.map aP).length+1<=9223372036854775807:=by rw [hml];omega
 have hb48:((p.map aP).length+1)* 1<=140737488355328:=by rw [hml];omega
 refine aM false [] hty Tryz.func133 rfl (kp [0,1]) 100 (by simp [Tryz.f133]) ?_
 ((conv=>whnf);repeat ((first|(refine And.intro hb63 ?_)|(refine And.intro hb48 ?_)|(intro hq;try simp only [lnS]at hq)|refine sI ?_|refine .intro _ (.intro rfl ?_));(conv=>whnf)))
 rw [aT5]
 rw [aBz,aC0]
 exact⟨rfl,rfl⟩
theorem aN4 (n j:Nat) (h:j < 8):(beN 8 n).take (j+1)=(beN 8 n).take j++[UInt8.ofNat (n / 2 ^ (56 - 8 * j) % 256)]:=by
 have e:j=0\/j=1\/j=2\/j=3\/j=4\/j=5\/j=6\/j=7:=by omega
 rw [aXt]
 rcases e with rfl|rfl|rfl|rfl|rfl|rfl|rfl|rfl<;>rfl
theorem aN5 (n j:Nat) (h:j < 4):(beN 4 n).take (j+1)=(beN 4 n).take j++[UInt8.ofNat (n / 2 ^ (24 - 8 * j) % 256)]:=by
 have e:j=0\/j=1\/j=2\/j=3:=by omega
 rw [aXu]
 rcases e with rfl|rfl|rfl|rfl<;>rfl
theorem aPt (z:Int) (s:Nat) (hs:s<=64):IntKind.u8.wrap ((IntKind.u64.wrap z).fdiv (2 ^ (min (s:Int).toNat IntKind.u64.bits)))=(((UInt8.ofNat (uN z / 2 ^ s % 256)).toNat:Nat):Int):=by
 rw [aT4 z s hs,gM]
theorem vQ (z:Int):WrT 132 [.d (.int .i64 z)] (beN 4 (uN z)):=by
 intro p hp
 have hl:(beN 4 (uN z)).length=4:=aU ..
 refine aM false [] hty Tryz.func132 rfl (kp [0,1,4,6]) 100 (by simp [Tryz.f132]) ?_
 ((conv=>whnf);repeat ((first|(intro hq;try simp only [lnS]at hq)|refine sI ?_|refine .intro _ (.intro rfl ?_));(conv=>whnf)))
 refine aJ hty (λj:Nat=>([(0, .ptr 3 0),(1, .d (.int .i64 z)),(4, .d (.int .i64 (24 - 8 * (j:Int))))],[(3,wrC 4 (p++(beN 4 (uN z)).take j)),(4,wrB (p++(beN 4 (uN z)).take j))])) (λj=>j<=4) (λj=>4 - j) 0 (by omega) ⟨by repeat' (first|exact trivial|exact rfl|refine And.intro ?_ ?_),by rw [List.take_zero,List.append_nil];exact⟨rfl,rfl,trivial⟩⟩ ?_
 intro j hj
 have hml:=bX (p++(beN 4 (uN z)).take j)
 rw [List.length_append,List.length_take]at hml
 have hb63:((p++(beN 4 (uN z)).take j).map aP).length+1<=9223372036854775807:=by rw [hml];omega
 have hb48:(((p++(beN 4 (uN z)).take j).map aP).length+1)* 1<=140737488355328:=by rw [hml];omega
 ((conv=>whnf);repeat ((first|(intro hq;try simp only [lnS]at hq)|refine sI ?_|refine .intro _ (.intro rfl ?_));(conv=>whnf)))
 refine aC (λh1=> ?_) (λh1=> ?_)
 ·have hj4:j < 4:=by omega
  have hs:(24 - 8 * (j:Int))=((24 - 8 * j:Nat):Int):=by omega
  have hbt:=aPt z (24 - 8 * j) (by omega)
  have hnx:=aN5 (uN z) j hj4
  dsimp only
  rw [hs]
  ((conv=>whnf);repeat ((first|(intro hq;try simp only [lnS]at hq)|refine sI ?_|refine .intro _ (.intro rfl ?_));(conv=>whnf)))
  refine aHi hty [0,1,2,3,4,5,6,7,8,9,10,11,12,13,14] (by kernel_rfl) (by kernel_rfl) ?_
  ((conv=>whnf);repeat ((first|(refine And.intro hb63 ?_)|(refine And.intro hb48 ?_)|(intro hq;try simp only [lnS]at hq)|refine sI ?_|refine .intro _ (.intro rfl ?_));(conv=>whnf)))
  rw [hbt,show ((24 - 8 * j:Nat):Int) - 8=24 - 8 * ((j+1:Nat):Int)by omega]
  refine⟨j+1,by dsimp only;omega,by dsimp only;omega, ?_⟩
  dsimp only
  rw [hnx,<-List.append_assoc,aBz,aC0]
  exact⟨by repeat' (first|exact trivial|exact rfl|refine And.intro ?_ ?_),by repeat' (first|exact trivial|exact rfl|refine And.intro ?_ ?_)⟩
 ·have hj4:j=4:=by omega
  subst hj4
  rw [List.take_of_length_le (by rw [hl];exact Nat.le_refl _)]
  ((conv=>whnf);repeat ((first|(intro hq;try simp only [lnS]at hq)|refine sI ?_|refine .intro _ (.intro rfl ?_));(conv=>whnf)))
  exact rfl
theorem aDp (z:Int):WrT 135 [.d (.int .i64 z)] (beN 8 (uN z)):=by
 intro p hp
 have hl:(beN 8 (uN z)).length=8:=aU ..
 refine aM false [] hty Tryz.func135 rfl (kp [0,1,4,6]) 100 (by simp [Tryz.f135]) ?_
 ((conv=>whnf);repeat ((first|(intro hq;try simp only [lnS]at hq)|refine sI ?_|refine .intro _ (.intro rfl ?_));(conv=>whnf)))
 refine aJ hty (λj:Nat=>([(0, .ptr 3 0),(1, .d (.int .i64 z)),(4, .d (.int .i64 (56 - 8 * (j:Int))))],[(3,wrC 4 (p++(beN 8 (uN z)).take j)),(4,wrB (p++(beN 8 (uN z)).take j))])) (λj=>j<=8) (λj=>8 - j) 0 (by omega) ⟨by repeat' (first|exact trivial|exact rfl|refine And.intro ?_ ?_),by rw [List.take_zero,List.append_nil];exact⟨rfl,rfl,trivial⟩⟩ ?_
 intro j hj
 have hml:=bX (p++(beN 8 (uN z)).take j)
 rw [List.length_append,List.length_take]at hml
 have hb63:((p++(beN 8 (uN z)).take j).map aP).length+1<=9223372036854775807:=by rw [hml];omega
 have hb48:(((p++(beN 8 (uN z)).take j).map aP).length+1)* 1<=140737488355328:=by rw [hml];omega
 ((conv=>whnf);repeat ((first|(intro hq;try simp only [lnS]at hq)|refine sI ?_|refine .intro _ (.intro rfl ?_));(conv=>whnf)))
 refine aC (λh1=> ?_) (λh1=> ?_)
 ·have hj8:j < 8:=by omega
  have hs:(56 - 8 * (j:Int))=((56 - 8 * j:Nat):Int):=by omega
  have hbt:=aPt z (56 - 8 * j) (by omega)
  have hnx:=aN4 (uN z) j hj8
  dsimp only
  rw [hs]
  ((conv=>whnf);repeat ((first|(intro hq;try simp only [lnS]at hq)|refine sI ?_|refine .intro _ (.intro rfl ?_));(conv=>whnf)))
  refine aHi hty [0,1,2,3,4,5,6,7,8,9,10,11,12,13,14] (by kernel_rfl) (by kernel_rfl) ?_
  ((conv=>whnf);repeat ((first|(refine And.intro hb63 ?_)|(refine And.intro hb48 ?_)|(intro hq;try simp only [lnS]at hq)|refine sI ?_|refine .intro _ (.intro rfl ?_));(conv=>whnf)))
  rw [hbt,show ((56 - 8 * j:Nat):Int) - 8=56 - 8 * ((j+1:Nat):Int)by omega]
  refine⟨j+1,by dsimp only;omega,by dsimp only;omega, ?_⟩
  dsimp only
  rw [hnx,<-List.append_assoc,aBz,aC0]
  exact⟨by repeat' (first|exact trivial|exact rfl|refine And.intro ?_ ?_),by repeat' (first|exact trivial|exact rfl|refine And.intro ?_ ?_)⟩
 ·have hj8:j=8:=by omega
  subst hj8
  rw [List.take_of_length_le (by rw [hl];exact Nat.le_refl _)]
  ((conv=>whnf);repeat ((first|(intro hq;try simp only [lnS]at hq)|refine sI ?_|refine .intro _ (.intro rfl ?_));(conv=>whnf)))
  exact rfl
theorem aBy (s:List UInt8):WrT 134 [.d (.str s)] (bR s):=by
 intro p hp
 have hl:(bR s).length=4+s.length:=by unfold bR;rw [List.length_append,aU]
 have hlc:(beN 4 (uN (s.length:Int))).length=4:=aU ..
 have hu:uN (s.length:Int)=s.length:=aDx (by omega)
 refine aM false [] hty Tryz.func134 rfl (kp [0,1]) 100 (by simp [Tryz.f134]) ?_
 ((conv=>whnf);repeat ((first|(intro hq;try simp only [lnS]at hq)|refine sI ?_|refine .intro _ (.intro rfl ?_));(conv=>whnf)))
 refine WrT.call (vQ s.length) rfl p (by omega) (by decide) rfl rfl ?_
 rw [hu]
 have hml:=bX (p++beN 4 s.length)
 rw [List.length_append,aU]at hml
 have hb63:((p++beN 4 s.length).map aP).length+(s.map aP).length<=9223372036854775807:=by rw [hml,bX];omega
 have hb48:(((p++beN 4 s.length).map aP).length+(s.map aP).length)* 1<=140737488355328:=by rw [hml,bX];omega
 ((conv=>whnf);repeat ((first|(refine And.intro hb63 ?_)|(refine And.intro hb48 ?_)|(intro hq;try simp only [lnS]at hq)|refine sI ?_|refine .intro _ (.intro rfl ?_));(conv=>whnf)))
 unfold bR
 rw [<-List.append_assoc,aBz,aC0]
 exact⟨rfl,rfl⟩
end Go.Proofs.YtdjfkmkdkclahaaGreatDoor
namespace Go.Proofs.YtdjfkmkdkclahaaGreatDoor
open Go.Proofs Go.RowKit
set_option maxRecDepth 10000
attribute [local irreducible] aL aH Tri aI YVC bP aS
theorem gE {α:Type}{w:α->List UInt8}{l:List α}{j:Nat}(h:j < l.length):((l.take (j+1)).map w).flatten=((l.take j).map w).flatten++w l[j]:=by
 rw [List.take_succ_eq_append_getElem h,List.map_append,List.flatten_append];simp
theorem aD6 {α:Type}{w:α->List UInt8}(l:List α) (j:Nat):(((l.take j).map w).flatten).length<=((l.map w).flatten).length:=by
 have e:l.map w=(l.take j).map w++(l.drop j).map w:=by rw [<-List.map_append,List.take_append_drop]
 rw [e,List.flatten_append,List.length_append];omega
theorem hZ {α:Type}(w:α->List UInt8) (l:List α):(bL w l).length=4+((l.map w).flatten).length:=by unfold bL;rw [List.length_append,aU]
theorem rU {α:Type}{w:α->List UInt8}{k:Nat}(hk:1<=k) (hw: ∀x,k<=(w x).length) (l:List α):l.length<=((l.map w).flatten).length:=by
 have h:=zK hw l
 have h2:1 * l.length<=k * l.length:=Nat.mul_le_mul_right _ hk
 omega
theorem aDq (s:List UInt8):4<=(bR s).length:=by unfold bR;rw [List.length_append,aU];omega
theorem aDr (z:Int):(gK z).length=8:=by unfold gK;exact aU ..
theorem dS (z:Int):(vS z).length=1:=aU ..
theorem aNo (l:List (List UInt8)):WrT 131 [.d (.sl 1 (l.map aV))] (bL bR l):=by
 intro p hp
 rw [hZ]at hp
 have hn:=rU (by decide) aDq l
 have hu:uN (l.length:Int)=l.length:=aDx (by omega)
 have hlr:(l.map aV).length=l.length:=List.length_map ..
 refine aM false [] hty Tryz.func131 rfl (kp [0,1,5,10,11,12,13]) 100 (by simp [Tryz.f131]) ?_
 ((conv=>whnf);repeat ((first|(intro hq;try simp only [lnS]at hq)|refine sI ?_|refine .intro _ (.intro rfl ?_));(conv=>whnf)))
 rw [hlr]
 refine WrT.call (vQ l.length) rfl p (by rw [aU];omega) (by decide) rfl rfl ?_
 rw [hu]
 ((conv=>whnf);repeat ((first|(intro hq;try simp only [lnS]at hq)|refine sI ?_|refine .intro _ (.intro rfl ?_));(conv=>whnf)))
 rw [hlr]
 refine aJ hty (λj:Nat=>([(0, .ptr 3 0),(10, .d (.sl 1 (l.map aV))),(11, .d (.int .i64 l.length)),(12, .d (.int .i64 j))],[(3,wrC 4 (p++beN 4 l.length++((l.take j).map bR).flatten)),(4,wrB (p++beN 4 l.length++((l.take j).map bR).flatten))])) (λj=>j<=l.length) (λj=>l.length - j) 0 (by omega) ⟨by repeat' (first|exact trivial|exact rfl|refine And.intro ?_ ?_),by rw [List.take_zero,List.map_nil,List.flatten_nil,List.append_nil];exact⟨rfl,rfl,trivial⟩⟩ ?_
 intro j hj
 ((conv=>whnf);repeat ((first|(intro hq;try simp only [lnS]at hq)|refine sI ?_|refine .intro _ (.intro rfl ?_));(conv=>whnf)))
 refine aC (λh1=> ?_) (λh1=> ?_)
 ·have hjl:j < l.length:=by omega
  have hrow:(l.map aV)[((j:Nat):Int).toNat]? =some (aV l[j]):=aO hjl
  have hnx:=gE (w:=bR) hjl
  have hle:=aD6 (w:=bR) l (j+1)
  rw [hnx,List.length_append]at hle
  ((conv=>whnf);repeat ((first|(refine⟨_,hrow, ?_⟩)|(intro hq;try simp only [lnS]at hq)|refine sI ?_|refine .intro _ (.intro rfl ?_));(conv=>whnf)))
  refine WrT.call (aBy l[j]) rfl _ (by rw [List.length_append,List.length_append,aU];omega) (by decide) rfl rfl ?_
  ((conv=>whnf);repeat ((first|(intro hq;try simp only [lnS]at hq)|refine sI ?_|refine .intro _ (.intro rfl ?_));(conv=>whnf)))
  refine⟨j+1,by dsimp only;omega,by dsimp only;omega, ?_⟩
  dsimp only
  rw [hnx,<-List.append_assoc]
  exact⟨by repeat' (first|exact trivial|exact rfl|refine And.intro ?_ ?_),by repeat' (first|exact trivial|exact rfl|refine And.intro ?_ ?_)⟩
 ·have hjl:j=l.length:=by omega
  subst hjl
  rw [List.take_length]
  ((conv=>whnf);repeat ((first|(intro hq;try simp only [lnS]at hq)|refine sI ?_|refine .intro _ (.intro rfl ?_));(conv=>whnf)))
  unfold bL
  rw [<-List.append_assoc]
  exact⟨rfl,rfl⟩
end Go.Proofs.YtdjfkmkdkclahaaGreatDoor
namespace Go.Proofs.YtdjfkmkdkclahaaGreatDoor
open Go.Proofs Go.RowKit
set_option maxRecDepth 10000
attribute [local irreducible] aL aH Tri aI YVC bP aS
theorem sD {p a b:List UInt8}:p++(a++b)=p++a++b:=(List.append_assoc ..).symm
theorem aNv (a:At):1<=(wAt a).length:=by unfold wAt;rw [List.length_append,dS];omega
theorem aNt (p:List At):1<=(bL wAt p).length:=by rw [hZ];omega
theorem aNp (y:Qy):WrT 82 [.d (.agg (qyR y))] (wQy y):=by
 intro p hp
 unfold wQy at hp |-
 obtain⟨tl,l⟩:=y
 dsimp only at hp |-
 simp only [List.length_append,hZ (bL wAt)]at hp
 have hn:=rU (w:=bL wAt) (Nat.le_refl 1) aNt l
 have hu:uN (l.length:Int)=l.length:=aDx (by omega)
 have hlr:(l.map aK).length=l.length:=List.length_map ..
 refine aM false [] hty Tryz.func82 rfl (kp [0,1,3,5,7,18,19,20,21,30,31,32,33]) 100 (by simp [Tryz.f82]) ?_
 ((conv=>whnf);repeat ((first|(intro hq;try simp only [lnS]at hq)|refine sI ?_|refine .intro _ (.intro rfl ?_));(conv=>whnf)))
 refine WrT.call (aNo tl) rfl p (by omega) (by decide) rfl rfl ?_
 ((conv=>whnf);repeat ((first|(intro hq;try simp only [lnS]at hq)|refine sI ?_|refine .intro _ (.intro rfl ?_));(conv=>whnf)))
 rw [hlr]
 refine WrT.call (vQ l.length) rfl _ (by simp only [List.length_append,aU];omega) (by decide) rfl rfl ?_
 rw [hu]
 have hqq:(p++bL bR tl++beN 4 l.length).length=p.length+((bL bR tl).length+4):=by simp only [List.length_append,aU];omega
 have hfin:p++(bL bR tl++bL (bL wAt) l)=p++bL bR tl++beN 4 l.length++(l.map (bL wAt)).flatten:=by
  rw [show bL (bL wAt) l=beN 4 l.length++(l.map (bL wAt)).flatten from rfl];simp only [sD]
 rw [hfin]
 clear hfin
 change iG _ _ (wrC 4 (p++bL bR tl++beN 4 l.length)) λh=>iG h _ (wrB (p++bL bR tl++beN 4 l.length)) _
 generalize p++bL bR tl++beN 4 l.length=q at *
 ((conv=>whnf);repeat ((first|(intro hq;try simp only [lnS]at hq)|refine sI ?_|refine .intro _ (.intro rfl ?_));(conv=>whnf)))
 rw [hlr]
 refine aJ hty (λj:Nat=>([(0, .ptr 3 0),(18, .d (.sl 1 (l.map aK))),(19, .d (.int .i64 l.length)),(20, .d (.int .i64 j))],[(3,wrC 4 (q++((l.take j).map (bL wAt)).flatten)),(4,wrB (q++((l.take j).map (bL wAt)).flatten))])) (λj=>j<=l.length) (λj=>l.length - j) 0 (by omega) ⟨by repeat' (first|exact trivial|exact rfl|refine And.intro ?_ ?_),by rw [List.take_zero,List.map_nil,List.flatten_nil,List.append_nil];exact⟨rfl,rfl,trivial⟩⟩ ?_
 intro j hj
 ((conv=>whnf);repeat ((first|(intro hq;try simp only [lnS]at hq)|refine sI ?_|refine .intro _ (.intro rfl ?_));(conv=>whnf)))
 refine aC (λh1=> ?_) (λh1=> ?_)
 ·have hjl:j < l.length:=by omega
  have hrow:(l.map aK)[((j:Nat):Int).toNat]? =some (aK l[j]):=aO hjl
  have hnx:=gE (w:=bL wAt) hjl
  have hle:=aD6 (w:=bL wAt) l (j+1)
  rw [hnx,List.length_append,hZ]at hle
  generalize l[j]=m at *
  have hnm:=rU (w:=wAt) (Nat.le_refl 1) aNv m
  have hum:uN (m.length:Int)=m.length:=aDx (by omega)
  have hmr:(m.map atR).length=m.length:=List.length_map ..
  generalize ((l.take j).map (bL wAt)).flatten=u at *
  ((conv=>whnf);repeat ((first|(refine⟨_,hrow, ?_⟩)|(intro hq;try simp only [lnS]at hq)|refine sI ?_|refine .intro _ (.intro rfl ?_));(conv=>whnf)))
  rw [hmr]
  refine WrT.call (vQ m.length) rfl _ (by simp only [List.length_append,aU];omega) (by decide) rfl rfl ?_
  rw [hum]
  have hvv:(q++u++beN 4 m.length).length=q.length+(u.length+4):=by simp only [List.length_append,aU];omega
  have hfin:q++(u++bL wAt m)=q++u++beN 4 m.length++(m.map wAt).flatten:=by unfold bL;simp only [sD]
  rw [<-hnx]at hfin
  change iG _ _ (wrC 4 (q++u++beN 4 m.length)) λh=>iG h _ (wrB (q++u++beN 4 m.length)) _
  generalize q++u++beN 4 m.length=v at *
  ((conv=>whnf);repeat ((first|(intro hq;try simp only [lnS]at hq)|refine sI ?_|refine .intro _ (.intro rfl ?_));(conv=>whnf)))
  rw [hmr]
  refine aJ hty (λk:Nat=>([(0, .ptr 3 0),(18, .d (.sl 1 (l.map aK))),(19, .d (.int .i64 l.length)),(20, .d (.int .i64 j)),(30, .d (.sl 6 (m.map atR))),(31, .d (.int .i64 m.length)),(32, .d (.int .i64 k))],[(3,wrC 4 (v++((m.take k).map wAt).flatten)),(4,wrB (v++((m.take k).map wAt).flatten))])) (λk=>k<=m.length) (λk=>m.length - k) 0 (by omega) ⟨by repeat' (first|exact trivial|exact rfl|refine And.intro ?_ ?_),by rw [List.take_zero,List.map_nil,List.flatten_nil,List.append_nil];exact⟨rfl,rfl,trivial⟩⟩ ?_
  intro k hk
  ((conv=>whnf);repeat ((first|(intro hq;try simp only [lnS]at hq)|refine sI ?_|refine .intro _ (.intro rfl ?_));(conv=>whnf)))
  refine aC (λh2=> ?_) (λh2=> ?_)
  ·have hkl:k < m.length:=by omega
   have hrow2:(m.map atR)[((k:Nat):Int).toNat]? =some (atR m[k]):=aO hkl
   have hnx2:=gE (w:=wAt) hkl
   have hle2:=aD6 (w:=wAt) m (k+1)
   rw [hnx2,List.length_append]at hle2
   have hla:(wAt m[k]).length=1+((bR m[k].name).length+((bR m[k].x).length+((bR m[k].y).length+(8+8)))):=by
    unfold wAt;simp only [List.length_append,dS,aDr]
   generalize m[k]=x at *
   obtain⟨kd,s1,s2,s3,lo,hi⟩:=x
   dsimp only at hla
   ((conv=>whnf);repeat ((first|(refine⟨_,hrow2, ?_⟩)|(intro hq;try simp only [lnS]at hq)|refine sI ?_|refine .intro _ (.intro rfl ?_));(conv=>whnf)))
   refine WrT.call (aNs kd) rfl _ (by simp only [List.length_append,dS];omega) (by decide) rfl rfl ?_
   ((conv=>whnf);repeat ((first|(intro hq;try simp only [lnS]at hq)|refine sI ?_|refine .intro _ (.intro rfl ?_));(conv=>whnf)))
   refine WrT.call (aBy s1) rfl _ (by simp only [List.length_append,dS];omega) (by decide) rfl rfl ?_
   ((conv=>whnf);repeat ((first|(intro hq;try simp only [lnS]at hq)|refine sI ?_|refine .intro _ (.intro rfl ?_));(conv=>whnf)))
   refine WrT.call (aBy s2) rfl _ (by simp only [List.length_append,dS];omega) (by decide) rfl rfl ?_
   ((conv=>whnf);repeat ((first|(intro hq;try simp only [lnS]at hq)|refine sI ?_|refine .intro _ (.intro rfl ?_));(conv=>whnf)))
   refine WrT.call (aBy s3) rfl _ (by simp only [List.length_append,dS];omega) (by decide) rfl rfl ?_
   ((conv=>whnf);repeat ((first|(intro hq;try simp only [lnS]at hq)|refine sI ?_|refine .intro _ (.intro rfl ?_));(conv=>whnf)))
   refine WrT.call (aDp lo) rfl _ (by simp only [List.length_append,dS,aU];omega) (by decide) rfl rfl ?_
   ((conv=>whnf);repeat ((first|(intro hq;try simp only [lnS]at hq)|refine sI ?_|refine .intro _ (.intro rfl ?_));(conv=>whnf)))
   refine WrT.call (aDp hi) rfl _ (by simp only [List.length_append,dS,aU];omega) (by decide) rfl rfl ?_
   ((conv=>whnf);repeat ((first|(intro hq;try simp only [lnS]at hq)|refine sI ?_|refine .intro _ (.intro rfl ?_));(conv=>whnf)))
   refine⟨k+1,by dsimp only;omega,by dsimp only;omega, ?_⟩
   dsimp only
   rw [hnx2]
   unfold wAt gK
   simp only [sD]
   exact⟨by repeat' (first|exact trivial|exact rfl|refine And.intro ?_ ?_),by repeat' (first|exact trivial|exact rfl|refine And.intro ?_ ?_)⟩
  ·have hkl:k=m.length:=by omega
   subst hkl
   rw [List.take_length]
   ((conv=>whnf);repeat ((first|(intro hq;try simp only [lnS]at hq)|refine sI ?_|refine .intro _ (.intro rfl ?_));(conv=>whnf)))
   refine⟨j+1,by dsimp only;omega,by dsimp only;omega, ?_⟩
   dsimp only
   rw [hfin]
   exact⟨by repeat' (first|exact trivial|exact rfl|refine And.intro ?_ ?_),by repeat' (first|exact trivial|exact rfl|refine And.intro ?_ ?_)⟩
 ·have hjl:j=l.length:=by omega
  subst hjl
  rw [List.take_length]
  ((conv=>whnf);repeat ((first|(intro hq;try simp only [lnS]at hq)|refine sI ?_|refine .intro _ (.intro rfl ?_));(conv=>whnf)))
  exact rfl
end Go.Proofs.YtdjfkmkdkclahaaGreatDoor
namespace Go.Proofs.YtdjfkmkdkclahaaGreatDoor
open Go.Proofs
def c0:Cn:= .mk 0 [] 0 0 []
end Go.Proofs.YtdjfkmkdkclahaaGreatDoor
