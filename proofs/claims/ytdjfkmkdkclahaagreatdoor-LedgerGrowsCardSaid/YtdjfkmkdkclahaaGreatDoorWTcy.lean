/-
  A result that says less. Objects: a reader's contract, over its own object alone; how it is used. Objects: the reader reads digests. Objects: the reader reads lists. Objects: the reader reads commits. Objects: the reader reads concepts. Objects: the reader reads axioms, queries and alignments. Objects: the types that come in. Objects: queries and alignments that come in.
  Conditions: none.
-/
import Derived.Test.YtdjfkmkdkclahaaGreatDoorWSyn
import Derived.Test.YtdjfkmkdkclahaaGreatDoorWSq
import Derived.Test.YtdjfkmkdkclahaaGreatDoorWSna
import Derived.Test.YtdjfkmkdkclahaaGreatDoorWSyi
set_option linter.unnecessarySimpa false
set_option linter.unusedSectionVars false
set_option linter.unusedSimpArgs false
set_option linter.unusedVariables false
set_option maxHeartbeats 8000000
namespace Go.Proofs.YtdjfkmkdkclahaaGreatDoor
open Go.RowKit
def cJ (a b:SV):Prop:= ∀(w:World) (ρ:Env) (v:Value),Rep w ρ a v->Rep w ρ b v
theorem cJ.refl (a:SV):cJ a a:= λ_ _ _ h=>h
theorem cJ.osl {id z:Nat}{rows:List (List D)}:cJ (.osl id z rows) (.d (.sl z rows)):= λ_ _ _ h=> .d _ _ h.osl_inv.1
theorem cJ.wkd {a b:D}(h:WkD a b):cJ (.d a) (.d b):= λ_ _ _ hr=>by
 cases hr with
 |d _ _ hd=>exact .d _ _ (aBz hd b h)
theorem cJ.nil {z:Nat}:cJ (.d .nil) (.d (.sl z [])):=cJ.wkd rfl
theorem cJ.agg {l m:List SV}(hl:l.length=m.length) (h: ∀(j:Nat) (a b:SV),l[j]? =some a->m[j]? =some b->cJ a b):cJ (.agg l) (.agg m):= λw ρ v hr=>by
 obtain⟨vs,rfl,h1,h2⟩:=hr.agg_inv
 refine .agg _ _ (h1.trans hl) λj b u hb hu=> ?_
 have hj:j < l.length:=by rw [hl];exact(List.getElem?_eq_some_iff.1 hb).1
 exact h j _ b (List.getElem?_eq_getElem hj) hb w ρ u (h2 j _ u (List.getElem?_eq_getElem hj) hu)
theorem cJ.aggD {l:List D}:cJ (.agg (l.map .d)) (.d (.agg l)):= λw ρ v hr=>by
 obtain⟨vs,rfl,h1,h2⟩:=hr.agg_inv
 refine .d _ _ (.agg _ _ (by rw [h1,List.length_map]) λj x u hx hu=> ?_)
 have:=h2 j (.d x) u (by rw [List.getElem?_map,hx];rfl) hu
 cases this with
 |d _ _ h=>exact h
def aD0:List SV->List D->Prop
 | [],[]=>True
 |a::l,b::m=>cJ a (.d b)/\aD0 l m
 |_,_=>False
theorem aD0.at: ∀(l:List SV) (m:List D),aD0 l m->l.length=m.length/\ ∀(j:Nat) (a:SV) (b:D),l[j]? =some a->m[j]? =some b->cJ a (.d b)
 | [],[],_=>⟨rfl,by simp⟩
 |a::l,b::m,h=>by
  obtain⟨h1,h2⟩:=aD0.at l m h.2
  refine⟨by simp [h1],λj x y hx hy=> ?_⟩
  cases j with
  |zero=>simp at hx hy;subst hx hy;exact h.1
  |succ j=>exact h2 j x y (by simpa using hx) (by simpa using hy)
theorem cJ.cells {l:List SV}{m:List D}(h:aD0 l m):cJ (.agg l) (.d (.agg m)):= λw ρ v hr=>by
 obtain⟨h1,h2⟩:=aD0.at l m h
 refine cJ.aggD w ρ v (cJ.agg (by rw [List.length_map,h1]) (λj a b ha hb=> ?_) w ρ v hr)
 rw [List.getElem?_map]at hb
 obtain⟨y,hy,rfl⟩:=Option.map_eq_some_iff.1 hb
 exact h2 j a y ha hy
section
variable {P:Program}
theorem aG.says {pin:Pin}{fr:Fr}{hp:Hp}{f:FuncId}{args:List SV}{K:SV->Hp->Prop}(h:aG P pin fr hp f args λs hp'=> ∃s',cJ s s'/\K s' hp'):aG P pin fr hp f args K:=by
 intro E ρ w tm h1 h2 h3 vs h4
 refine(h E ρ w tm h1 h2 h3 vs h4).mono ?_
 rintro e w' (⟨v,ρ',s,hp',rfl,⟨s',hs,hk⟩,k2,k3,k4⟩|q)
 ·exact .inl ⟨v,ρ',s',hp',rfl,hk,k2,k3,hs _ _ _ k4⟩
 ·exact .inr q
theorem aG.args {pin:Pin}{fr:Fr}{hp:Hp}{f:FuncId}{args args':List SV}{K:SV->Hp->Prop}(h:aG P pin fr hp f args' K) (hl:args.length=args'.length) (hs: ∀(j:Nat) (a b:SV),args[j]? =some a->args'[j]? =some b->cJ a b):aG P pin fr hp f args K:=by
 intro E ρ w tm h1 h2 h3 vs h4
 refine h E ρ w tm h1 h2 h3 vs ⟨h4.1.trans hl,λj b v hb hv=> ?_⟩
 have hj:j < args.length:=by rw [hl];exact(List.getElem?_eq_some_iff.1 hb).1
 exact hs j _ b (List.getElem?_eq_getElem hj) hb w ρ v (h4.2 j _ v (List.getElem?_eq_getElem hj) hv)
theorem aDt {s:SV}(h:s.ids=[]):s.sim:=by cases s<;>first|trivial|exact h
theorem aE1 {σ:Nat->Nat}{s:SV}(h:s.ids=[]):s.ren σ=s:=by cases s<;>first|rfl|(simp [SV.ids]at h)
theorem vD {σ:Nat->Nat}: ∀{l:List SV},SV.idsL l=[]->l.map (SV.ren σ)=l
 | [],_=>rfl
 |s::r,h=>by
  rw [SV.idsL,List.append_eq_nil_iff]at h
  rw [List.map_cons,aE1 h.1,vD h.2]
theorem uZ: ∀{l:List SV},SV.idsL l=[]-> ∀s∈l,s.sim
 |s::r,h,x,hx=>by
  rw [SV.idsL,List.append_eq_nil_iff]at h
  rcases List.mem_cons.1 hx with rfl|hx
  ·exact aDt h.1
  ·exact uZ h.2 x hx
end
end Go.Proofs.YtdjfkmkdkclahaaGreatDoor
namespace Go.Proofs.YtdjfkmkdkclahaaGreatDoor
open Go.Proofs Go.RowKit
set_option maxRecDepth 10000
attribute [local irreducible] aJ aG Tri aF YVC cA aU
abbrev rdO (b:List UInt8):HObj:= .cells 194 [.d (.sl 1 (b.map bG))]
abbrev aOn (q:Prop):Pin:=⟨[3],λ_ h=>q/\ ∃b:List UInt8,aN h 3=some (rdO b),[],none⟩
def RdT {α:Type}(f:FuncId) (ex:List SV) (r:Rd α) (e:α->SV):Prop:= ∀bs:List UInt8,bs.length<=1000000->
 aG Tryz.prog (aOn (r bs=none)) [] [(3,rdO bs)] f (.ptr 3 0::ex) (λs h=> ∃x c,r bs=some (x,c)/\s=e x/\aN h 3=some (rdO c))
theorem RdC.t {α:Type}{f:FuncId}{r:Rd α}{e:α->SV}(h:RdC f r e):RdT f [] r e:= λbs _=>
 h bs [] (λx c hr=>⟨x,c,hr,rfl,rfl⟩) (λhr b=>⟨hr,b,rfl⟩) rfl
theorem mS (m:Nat) (hm:m<=8):RdT 216 [.d (.int .i64 m)] (vI m) (λn=> .d (.int .u64 n)):= λbs _=>
 eJ bs m hm [] (λhle=>⟨_,_,vG hle,rfl,rfl⟩) (λhlt=>⟨vH hlt,bs,rfl⟩) rfl
theorem aB3:RdT 240 [] yW (λz=> .d (.int .i64 z)):=aEd.t
theorem aJr:RdT 239 [] aLc (λz=> .d (.int .i64 z)):=aH5.t
theorem aAq:RdT 183 [] aAt (λs=> .d (.str s)):=aJ5.t
theorem RdT.call {α:Type}{f:FuncId}{ex:List SV}{r:Rd α}{e:α->SV}(h:RdT f ex r e) (hx:SV.idsL ex=[]) (he: ∀x,(e x).ids=[]) {pin:Pin}{fr:Fr}{hp:Hp}{i:Nat}{K:SV->Hp->Prop}(bs:List UInt8) (hb:bs.length<=1000000) (hg:aN hp i=some (rdO bs))
  (hok: ∀x c,r bs=some (x,c)->gC hp i (rdO c) (K (e x))) (hno:r bs=none-> ∀b,pin.kp fr (dL hp i (rdO b))) (hpv:pin.pv=none:=by rfl):aG Tryz.prog pin fr hp f (.ptr i 0::ex) K:=by
 have hs: ∀b,(rdO b).sim:= λb s hs=>by simp at hs;subst hs;exact rfl
 refine kY (λ_=>i) [3] [(3,rdO bs)] (h bs hb) (aIq hg rfl (hs bs)) (λk hk=>hk) (by rw [List.map_cons,vD hx];rfl) ?_ ?_ ?_ (.inl hpv)
 ·intro s hs
  rcases List.mem_cons.1 hs with rfl|hs
  ·trivial
  ·exact uZ hx s hs
 ·rintro s h1 ⟨x,c,e1,rfl,e3⟩
  refine⟨aDt (he x), ?_,_,aH9 hg e3 (hs c) (λh=>h) rfl rfl, ?_⟩
  ·intro j hj
   rw [he]at hj
   cases hj
  rw [aE1 (he x)]
  have:=hok x c e1
  rw [cQ]at this
  exact this
 ·rintro h1 ⟨hn,b,e3⟩
  exact⟨_,aH9 hg e3 (hs b) (λh=>h) rfl rfl,hno hn b⟩
end Go.Proofs.YtdjfkmkdkclahaaGreatDoor
namespace Go.Proofs.YtdjfkmkdkclahaaGreatDoor
open Go.Proofs Go.RowKit
set_option maxRecDepth 10000
attribute [local irreducible] aJ aG Tri aF YVC cA aU
end Go.Proofs.YtdjfkmkdkclahaaGreatDoor
namespace Go.Proofs.YtdjfkmkdkclahaaGreatDoor
open Go.Proofs Go.RowKit
set_option maxRecDepth 10000
attribute [local irreducible] aJ aG Tri aF YVC cA aU
theorem jL {α:Type}{r:Rd α}{k:Nat}(h:wG k r) {b c:List UInt8}{x:α}(e:r b=some (x,c)):c.length+k<=b.length:=by
 obtain⟨a,h1,h2⟩:=h b x c e
 rw [h1,List.length_append];omega
theorem pL {α:Type}{r:Rd α}{b c d:List UInt8}{l:List α}{x:α}(h:nX r l.length b=some (l,c)) (e:r c=some (x,d)):nX r (l++[x]).length b=some (l++[x],d):=by
 rw [List.length_append,List.length_singleton,lI,h]
 simp only [Option.bind_some,e,Option.map_some]
theorem pK {α:Type}{r:Rd α}{b c:List UInt8}{l:List α}{N:Nat}(h:nX r l.length b=some (l,c)) (e:r c=none) (hN:l.length < N):nX r N b=none:=by
 refine aE4 (n:=l.length+1) ?_ (by omega)
 rw [lI,h]
 simp only [Option.bind_some,e,Option.map_none]
theorem oM {bs c:List UInt8}{N:Nat}(h:vI 4 bs=some (N,c)):N < 4294967296:=by
 obtain⟨l,h1,rfl⟩:=aGs h
 have hl:l.length=4:=by
  unfold mY at h1
  split at h1
  ·injection h1 with h1;injection h1 with h1 _
   rw [<-h1,List.length_take];omega
  ·cases h1
 exact nV 4 l hl
theorem aJy {N k:Nat}(h:k < N) (hN:N < 4294967296):IntKind.u64.wrap (((N - k:Nat):Int) - 1)=((N - (k+1):Nat):Int):=by
 have e:((N - k:Nat):Int) - 1=((N - (k+1):Nat):Int):=by omega
 rw [e]
 exact wH _ (by omega)
theorem aEg:RdT 182 [.fn 183 [] []] (hX aAt) (λl=> .d (.sl 1 (l.map bQ))):=by
 intro bs hb
 refine aG.says ?_
 refine aL false [] hty Tryz.func182 rfl (kp [0,1,4,5,9]) 100 (by simp [Tryz.f182]) ?_
 ((conv=>whnf);repeat ((first|(intro hq;try simp only [lnS]at hq)|refine sI ?_|refine .intro _ (.intro rfl ?_));(conv=>whnf)))
 refine RdT.call (mS 4 (by decide)) rfl (λ_=>rfl) bs hb rfl (λN c0 e1=> ?_) (λe1 b=>⟨bD e1,b,rfl⟩)
 have hbind:hX aAt bs=nX aAt N c0:=aZ e1
 have hc0:=jL (fH 4) e1
 have hN:=oM e1
 clear e1
 ((conv=>whnf);repeat ((first|(intro hq;try simp only [lnS]at hq)|refine sI ?_|refine .intro _ (.intro rfl ?_));(conv=>whnf)))
 refine aJ.own 4 104 9 1 rfl (cO (by with_unfolding_all exact rfl)) ?_
 refine aP hty (λy:List (List UInt8)×List UInt8=>([(0, .ptr 3 0),(1, .fn 183 [] []),(4, .osl 104 1 (y.1.map bQ)),(5, .d (.int .u64 ((N - y.1.length:Nat):Int)))],[(104, .own 9 1 (y.1.map bQ).length),(3,rdO y.2)])) (λy=>nX aAt y.1.length c0=some y/\y.1.length<=N/\y.2.length+y.1.length<=c0.length) (λy=>N - y.1.length) ([],c0) ⟨rfl,Nat.zero_le _,Nat.le_refl _⟩ ⟨by repeat' (first|exact trivial|exact rfl|refine And.intro ?_ ?_),by repeat' (first|exact trivial|exact rfl|refine And.intro ?_ ?_)⟩ ?_
 rintro⟨l,c⟩ ⟨h1,h2,h3⟩
 dsimp only at h1 h2 h3
 have hml:(l.map bQ).length=l.length:=List.length_map ..
 have hb63:(l.map bQ).length+1<=9223372036854775807:=by rw [hml];omega
 have hb48:((l.map bQ).length+1)* 16<=140737488355328:=by rw [hml];omega
 ((conv=>whnf);repeat ((first|(intro hq;try simp only [lnS]at hq)|refine sI ?_|refine .intro _ (.intro rfl ?_));(conv=>whnf)))
 refine aC (λh4=> ?_) (λh4=> ?_)
 ·have hlt:l.length < N:=by dsimp only at h4;omega
  have hw:=aJy hlt hN
  refine RdT.call (e:= λx=>SV.d (.str x)) aAq rfl (λ_=>rfl) c (by omega) rfl (λx d e2=> ?_) (λe2 b=>⟨hbind.trans (pK h1 e2 hlt),b,rfl⟩)
  have hd:=jL fG e2
  ((conv=>whnf);repeat ((first|(refine And.intro hb63 ?_)|(refine And.intro hb48 ?_)|(intro hq;try simp only [lnS]at hq)|refine sI ?_|refine .intro _ (.intro rfl ?_));(conv=>whnf)))
  rw [hw]
  refine⟨(l++[_],d),⟨pL h1 e2,by rw [List.length_append];exact hlt,by dsimp only;rw [List.length_append,List.length_singleton];omega⟩,by dsimp only;rw [List.length_append,List.length_singleton];omega, ?_⟩
  dsimp only
  rw [List.map_append,List.length_append,List.length_append]
  exact⟨by repeat' (first|exact trivial|exact rfl|refine And.intro ?_ ?_),by repeat' (first|exact trivial|exact rfl|refine And.intro ?_ ?_)⟩
 ·have hlN:l.length=N:=by dsimp only at h4;omega
  subst hlN
  ((conv=>whnf);repeat ((first|(intro hq;try simp only [lnS]at hq)|refine sI ?_|refine .intro _ (.intro rfl ?_));(conv=>whnf)))
  exact⟨_,cJ.osl,l,c,hbind.trans h1,rfl,rfl⟩
end Go.Proofs.YtdjfkmkdkclahaaGreatDoor
namespace Go.Proofs.YtdjfkmkdkclahaaGreatDoor
open Go.Proofs Go.RowKit
set_option maxRecDepth 10000
attribute [local irreducible] aJ aG Tri aF YVC cA aU
theorem eY {α β:Type}{r:Rd α}{f:α->Rd β}{b c:List UInt8}{x:α}(h:r b=some (x,c)) (k:f x c=none):dW r f b=none:=(aZ h).trans k
theorem sK {α β:Type}{r:Rd α}{f:α->Rd β}{b c d:List UInt8}{x:α}{y:β}(h:r b=some (x,c)) (k:f x c=some (y,d)):dW r f b=some (y,d):=(aZ h).trans k
end Go.Proofs.YtdjfkmkdkclahaaGreatDoor
namespace Go.Proofs.YtdjfkmkdkclahaaGreatDoor
open Go.Proofs Go.RowKit
set_option maxRecDepth 10000
attribute [local irreducible] aJ aG Tri aF YVC cA aU
end Go.Proofs.YtdjfkmkdkclahaaGreatDoor
namespace Go.Proofs.YtdjfkmkdkclahaaGreatDoor
open Go.Proofs Go.RowKit
set_option maxRecDepth 10000
attribute [local irreducible] aJ aG Tri aF YVC cA aU
def atR (a:At):List D:=[.int .i64 a.kind, .str a.name, .str a.x, .str a.y, .int .i64 a.lo, .int .i64 a.hi]
def aQ (p:List At):List D:=[.sl 6 (p.map atR)]
theorem aM9:RdT 219 [] rAt (λa=> .d (.agg (atR a))):=by
 intro bs hb
 refine aL false [] hty Tryz.func219 rfl (kp [0,2]) 100 (by simp [Tryz.f219]) ?_
 ((conv=>whnf);repeat ((first|(intro hq;try simp only [lnS]at hq)|refine sI ?_|refine .intro _ (.intro rfl ?_));(conv=>whnf)))
 refine RdT.call aJr rfl (λ_=>rfl) bs hb rfl (λkd b1 e1=> ?_) (λe1 b=>⟨bD e1,b,rfl⟩)
 have q1:=jL aBq e1
 ((conv=>whnf);repeat ((first|(intro hq;try simp only [lnS]at hq)|refine sI ?_|refine .intro _ (.intro rfl ?_));(conv=>whnf)))
 refine RdT.call aAq rfl (λ_=>rfl) b1 (by omega) rfl (λs1 b2 e2=> ?_) (λe2 b=>⟨eY e1 (bD e2),b,rfl⟩)
 have q2:=jL fG e2
 ((conv=>whnf);repeat ((first|(intro hq;try simp only [lnS]at hq)|refine sI ?_|refine .intro _ (.intro rfl ?_));(conv=>whnf)))
 refine RdT.call aAq rfl (λ_=>rfl) b2 (by omega) rfl (λs2 b3 e3=> ?_) (λe3 b=>⟨eY e1 (eY e2 (bD e3)),b,rfl⟩)
 have q3:=jL fG e3
 ((conv=>whnf);repeat ((first|(intro hq;try simp only [lnS]at hq)|refine sI ?_|refine .intro _ (.intro rfl ?_));(conv=>whnf)))
 refine RdT.call aAq rfl (λ_=>rfl) b3 (by omega) rfl (λs3 b4 e4=> ?_) (λe4 b=>⟨eY e1 (eY e2 (eY e3 (bD e4))),b,rfl⟩)
 have q4:=jL fG e4
 ((conv=>whnf);repeat ((first|(intro hq;try simp only [lnS]at hq)|refine sI ?_|refine .intro _ (.intro rfl ?_));(conv=>whnf)))
 refine RdT.call aB3 rfl (λ_=>rfl) b4 (by omega) rfl (λlo b5 e5=> ?_) (λe5 b=>⟨eY e1 (eY e2 (eY e3 (eY e4 (bD e5)))),b,rfl⟩)
 have q5:=jL mG e5
 ((conv=>whnf);repeat ((first|(intro hq;try simp only [lnS]at hq)|refine sI ?_|refine .intro _ (.intro rfl ?_));(conv=>whnf)))
 refine RdT.call aB3 rfl (λ_=>rfl) b5 (by omega) rfl (λhi b6 e6=> ?_) (λe6 b=>⟨eY e1 (eY e2 (eY e3 (eY e4 (eY e5 (dE e6))))),b,rfl⟩)
 ((conv=>whnf);repeat ((first|(intro hq;try simp only [lnS]at hq)|refine sI ?_|refine .intro _ (.intro rfl ?_));(conv=>whnf)))
 exact⟨⟨kd,s1,s2,s3,lo,hi⟩,b6,sK e1 (sK e2 (sK e3 (sK e4 (sK e5 (bM e6))))),rfl,rfl⟩
theorem aH8:RdT 218 [.fn 219 [] []] (hX rAt) (λl=> .d (.sl 6 (l.map atR))):=by
 intro bs hb
 refine aG.says ?_
 refine aL false [] hty Tryz.func218 rfl (kp [0,1,4,5,9]) 100 (by simp [Tryz.f218]) ?_
 ((conv=>whnf);repeat ((first|(intro hq;try simp only [lnS]at hq)|refine sI ?_|refine .intro _ (.intro rfl ?_));(conv=>whnf)))
 refine RdT.call (mS 4 (by decide)) rfl (λ_=>rfl) bs hb rfl (λN c0 e1=> ?_) (λe1 b=>⟨bD e1,b,rfl⟩)
 have hbind:hX rAt bs=nX rAt N c0:=aZ e1
 have hc0:=jL (fH 4) e1
 have hN:=oM e1
 clear e1
 ((conv=>whnf);repeat ((first|(intro hq;try simp only [lnS]at hq)|refine sI ?_|refine .intro _ (.intro rfl ?_));(conv=>whnf)))
 refine aJ.own 4 104 60 6 rfl (cO (by with_unfolding_all exact rfl)) ?_
 refine aP hty (λy:List At×List UInt8=>([(0, .ptr 3 0),(1, .fn 219 [] []),(4, .osl 104 6 (y.1.map atR)),(5, .d (.int .u64 ((N - y.1.length:Nat):Int)))],[(104, .own 60 6 (y.1.map atR).length),(3,rdO y.2)])) (λy=>nX rAt y.1.length c0=some y/\y.1.length<=N/\y.2.length+y.1.length<=c0.length) (λy=>N - y.1.length) ([],c0) ⟨rfl,Nat.zero_le _,Nat.le_refl _⟩ ⟨by repeat' (first|exact trivial|exact rfl|refine And.intro ?_ ?_),by repeat' (first|exact trivial|exact rfl|refine And.intro ?_ ?_)⟩ ?_
 rintro⟨l,c⟩ ⟨h1,h2,h3⟩
 dsimp only at h1 h2 h3
 have hml:(l.map atR).length=l.length:=List.length_map ..
 have hb63:(l.map atR).length+1<=9223372036854775807:=by rw [hml];omega
 have hb48:((l.map atR).length+1)* 72<=140737488355328:=by rw [hml];omega
 ((conv=>whnf);repeat ((first|(intro hq;try simp only [lnS]at hq)|refine sI ?_|refine .intro _ (.intro rfl ?_));(conv=>whnf)))
 refine aC (λh4=> ?_) (λh4=> ?_)
 ·have hlt:l.length < N:=by dsimp only at h4;omega
  have hw:=aJy hlt hN
  refine RdT.call (e:= λx=>SV.d (.agg (atR x))) aM9 rfl (λ_=>rfl) c (by omega) rfl (λx d e2=> ?_) (λe2 b=>⟨hbind.trans (pK h1 e2 hlt),b,rfl⟩)
  have hd:=jL aEz e2
  ((conv=>whnf);repeat ((first|(refine And.intro hb63 ?_)|(refine And.intro hb48 ?_)|(intro hq;try simp only [lnS]at hq)|refine sI ?_|refine .intro _ (.intro rfl ?_));(conv=>whnf)))
  rw [hw]
  refine⟨(l++[_],d),⟨pL h1 e2,by rw [List.length_append];exact hlt,by dsimp only;rw [List.length_append,List.length_singleton];omega⟩,by dsimp only;rw [List.length_append,List.length_singleton];omega, ?_⟩
  dsimp only
  rw [List.map_append,List.length_append,List.length_append]
  exact⟨by repeat' (first|exact trivial|exact rfl|refine And.intro ?_ ?_),by repeat' (first|exact trivial|exact rfl|refine And.intro ?_ ?_)⟩
 ·have hlN:l.length=N:=by dsimp only at h4;omega
  subst hlN
  ((conv=>whnf);repeat ((first|(intro hq;try simp only [lnS]at hq)|refine sI ?_|refine .intro _ (.intro rfl ?_));(conv=>whnf)))
  exact⟨_,cJ.osl,l,c,hbind.trans h1,rfl,rfl⟩
theorem aLh:RdT 185 [] (hX rAt) (λp=> .d (.agg (aQ p))):=by
 intro bs hb
 refine aL false [] hty Tryz.func185 rfl (kp [0,2]) 100 (by simp [Tryz.f185]) ?_
 ((conv=>whnf);repeat ((first|(intro hq;try simp only [lnS]at hq)|refine sI ?_|refine .intro _ (.intro rfl ?_));(conv=>whnf)))
 refine RdT.call aH8 rfl (λ_=>rfl) bs hb rfl (λl b1 e1=> ?_) (λe1 b=>⟨e1,b,rfl⟩)
 ((conv=>whnf);repeat ((first|(intro hq;try simp only [lnS]at hq)|refine sI ?_|refine .intro _ (.intro rfl ?_));(conv=>whnf)))
 exact⟨l,b1,e1,rfl,rfl⟩
theorem aCq:RdT 184 [.fn 185 [] []] (hX (hX rAt)) (λl=> .d (.sl 1 (l.map aQ))):=by
 intro bs hb
 refine aG.says ?_
 refine aL false [] hty Tryz.func184 rfl (kp [0,1,4,5,9]) 100 (by simp [Tryz.f184]) ?_
 ((conv=>whnf);repeat ((first|(intro hq;try simp only [lnS]at hq)|refine sI ?_|refine .intro _ (.intro rfl ?_));(conv=>whnf)))
 refine RdT.call (mS 4 (by decide)) rfl (λ_=>rfl) bs hb rfl (λN c0 e1=> ?_) (λe1 b=>⟨bD e1,b,rfl⟩)
 have hbind:hX (hX rAt) bs=nX (hX rAt) N c0:=aZ e1
 have hc0:=jL (fH 4) e1
 have hN:=oM e1
 clear e1
 ((conv=>whnf);repeat ((first|(intro hq;try simp only [lnS]at hq)|refine sI ?_|refine .intro _ (.intro rfl ?_));(conv=>whnf)))
 refine aJ.own 4 104 35 1 rfl (cO (by with_unfolding_all exact rfl)) ?_
 refine aP hty (λy:List (List At)×List UInt8=>([(0, .ptr 3 0),(1, .fn 185 [] []),(4, .osl 104 1 (y.1.map aQ)),(5, .d (.int .u64 ((N - y.1.length:Nat):Int)))],[(104, .own 35 1 (y.1.map aQ).length),(3,rdO y.2)])) (λy=>nX (hX rAt) y.1.length c0=some y/\y.1.length<=N/\y.2.length+y.1.length<=c0.length) (λy=>N - y.1.length) ([],c0) ⟨rfl,Nat.zero_le _,Nat.le_refl _⟩ ⟨by repeat' (first|exact trivial|exact rfl|refine And.intro ?_ ?_),by repeat' (first|exact trivial|exact rfl|refine And.intro ?_ ?_)⟩ ?_
 rintro⟨l,c⟩ ⟨h1,h2,h3⟩
 dsimp only at h1 h2 h3
 have hml:(l.map aQ).length=l.length:=List.length_map ..
 have hb63:(l.map aQ).length+1<=9223372036854775807:=by rw [hml];omega
 have hb48:((l.map aQ).length+1)* 24<=140737488355328:=by rw [hml];omega
 ((conv=>whnf);repeat ((first|(intro hq;try simp only [lnS]at hq)|refine sI ?_|refine .intro _ (.intro rfl ?_));(conv=>whnf)))
 refine aC (λh4=> ?_) (λh4=> ?_)
 ·have hlt:l.length < N:=by dsimp only at h4;omega
  have hw:=aJy hlt hN
  refine RdT.call (e:= λx=>SV.d (.agg (aQ x))) aLh rfl (λ_=>rfl) c (by omega) rfl (λx d e2=> ?_) (λe2 b=>⟨hbind.trans (pK h1 e2 hlt),b,rfl⟩)
  have hd:=jL (yF aEz) e2
  ((conv=>whnf);repeat ((first|(refine And.intro hb63 ?_)|(refine And.intro hb48 ?_)|(intro hq;try simp only [lnS]at hq)|refine sI ?_|refine .intro _ (.intro rfl ?_));(conv=>whnf)))
  rw [hw]
  refine⟨(l++[_],d),⟨pL h1 e2,by rw [List.length_append];exact hlt,by dsimp only;rw [List.length_append,List.length_singleton];omega⟩,by dsimp only;rw [List.length_append,List.length_singleton];omega, ?_⟩
  dsimp only
  rw [List.map_append,List.length_append,List.length_append]
  exact⟨by repeat' (first|exact trivial|exact rfl|refine And.intro ?_ ?_),by repeat' (first|exact trivial|exact rfl|refine And.intro ?_ ?_)⟩
 ·have hlN:l.length=N:=by dsimp only at h4;omega
  subst hlN
  ((conv=>whnf);repeat ((first|(intro hq;try simp only [lnS]at hq)|refine sI ?_|refine .intro _ (.intro rfl ?_));(conv=>whnf)))
  exact⟨_,cJ.osl,l,c,hbind.trans h1,rfl,rfl⟩
def qyR (q:Qy):List D:=[.sl 1 (q.told.map bQ), .sl 1 (q.parts.map aQ)]
theorem aJi:RdT 137 [] rQy (λq=> .d (.agg (qyR q))):=by
 intro bs hb
 refine aL false [] hty Tryz.func137 rfl (kp [0,2]) 100 (by simp [Tryz.f137]) ?_
 ((conv=>whnf);repeat ((first|(intro hq;try simp only [lnS]at hq)|refine sI ?_|refine .intro _ (.intro rfl ?_));(conv=>whnf)))
 refine RdT.call aEg rfl (λ_=>rfl) bs hb rfl (λl b1 e1=> ?_) (λe1 b=>⟨bD e1,b,rfl⟩)
 have q1:=jL (yF fG) e1
 ((conv=>whnf);repeat ((first|(intro hq;try simp only [lnS]at hq)|refine sI ?_|refine .intro _ (.intro rfl ?_));(conv=>whnf)))
 refine RdT.call aCq rfl (λ_=>rfl) b1 (by omega) rfl (λp b2 e2=> ?_) (λe2 b=>⟨eY e1 (dE e2),b,rfl⟩)
 ((conv=>whnf);repeat ((first|(intro hq;try simp only [lnS]at hq)|refine sI ?_|refine .intro _ (.intro rfl ?_));(conv=>whnf)))
 exact⟨⟨l,p⟩,b2,sK e1 (bM e2),rfl,rfl⟩
end Go.Proofs.YtdjfkmkdkclahaaGreatDoor
namespace Go.Proofs.YtdjfkmkdkclahaaGreatDoor
open Go.Proofs Go.RowKit
set_option maxRecDepth 100000
theorem aI4:Tryz.prog.underlying 43=some (.slice 5):=by kernel_rfl
theorem aN6:Tryz.prog.underlying 5=some (.int .u8):=by kernel_rfl
theorem aNv:Tryz.prog.cellsOf 5=1:=by kernel_rfl
theorem aFo {n:Nat}{ds:List D}(h:TyD Tryz.prog n 43 ds): ∃b:List UInt8,mO Tryz.prog 43 ds= .d (.sl 1 (b.map bG)):=by
 obtain⟨m,rfl,rows,rfl,hn,hr⟩:=pE aI4 h
 obtain⟨b,rfl⟩:=vC (f:=bG) (λr hr=>by obtain⟨c,rfl⟩:=aL1 aN6 hr;exact⟨c,rfl⟩) rows hr
 exact⟨b,by simp only [mO,aI4,aNv]⟩
end Go.Proofs.YtdjfkmkdkclahaaGreatDoor
namespace Go.Proofs.YtdjfkmkdkclahaaGreatDoor
open Go.Proofs Go.RowKit
set_option maxRecDepth 100000
theorem aN4:zH Tryz.prog 35=some [33]:=by kernel_rfl
theorem aN7:zH Tryz.prog 60=some [3,9,9,9,3,3]:=by kernel_rfl
theorem aI2:Tryz.prog.underlying 51=some (.slice 35):=by kernel_rfl
theorem aL0:Tryz.prog.underlying 33=some (.slice 60):=by kernel_rfl
theorem aNt:Tryz.prog.cellsOf 35=1:=by kernel_rfl
theorem aNw:Tryz.prog.cellsOf 60=6:=by kernel_rfl
theorem aF9 {n:Nat}{ds:List D}(h:TyD Tryz.prog n 60 ds): ∃a:At,ds=atR a:=by
 obtain⟨m,rfl,a1,b1,rfl,h1,a2,b2,rfl,h2,a3,b3,rfl,h3,a4,b4,rfl,h4,a5,b5,rfl,h5,a6,b6,rfl,h6,rfl⟩:=mT aN7 h
 obtain⟨k,rfl,_⟩:=pF u3 h1
 obtain⟨s1,rfl,_⟩:=iS u9 h2
 obtain⟨s2,rfl,_⟩:=iS u9 h3
 obtain⟨s3,rfl,_⟩:=iS u9 h4
 obtain⟨lo,rfl,_⟩:=pF u3 h5
 obtain⟨hi,rfl,_⟩:=pF u3 h6
 exact⟨⟨k,s1,s2,s3,lo,hi⟩,rfl⟩
theorem yL {n:Nat}{ds:List D}(h:TyD Tryz.prog n 35 ds): ∃p:List At,ds=aQ p:=by
 obtain⟨m,rfl,a1,b1,rfl,h1,rfl⟩:=mT aN4 h
 obtain⟨m,rfl,rows,rfl,hn,hr⟩:=pE aL0 h1
 obtain⟨p,rfl⟩:=vC (f:=atR) (λr hr=>aF9 hr) rows hr
 exact⟨p,by rw [aNw];rfl⟩
theorem aO1 {n:Nat}{ds:List D}(h:TyD Tryz.prog n 3 ds): ∃z,mO Tryz.prog 3 ds= .d (.int .i64 z):=by
 obtain⟨z,rfl,_⟩:=pF u3 h
 exact⟨z,by simp only [mO,u3]⟩
end Go.Proofs.YtdjfkmkdkclahaaGreatDoor
