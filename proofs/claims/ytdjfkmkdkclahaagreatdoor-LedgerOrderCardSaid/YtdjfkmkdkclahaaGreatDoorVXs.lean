/-
  A result that says less. Objects: a reader's contract, over its own object alone; how it is used. Objects: the reader reads digests. Objects: the reader reads lists. Objects: the reader reads commits. Objects: the reader reads concepts. Objects: the reader reads axioms, queries and alignments. Objects: the types that come in. Objects: queries and alignments that come in. Terms: the order of concepts is total; sorted sets of concepts. Merging in place, plainly: what a symmetric merge does to a list, and when its two halves may be merged alone. Rename: renamings, plainly: what is valid, what a name becomes, what two renamings are together, what undoes one. The order of atoms and of lists of them; sorting grows with what is sorted; plain. The canonical names of a part: a search that cuts branches finds the least one; plain.
  Conditions: none.
-/
import Derived.Test.YtdjfkmkdkclahaaGreatDoorVSyn
import Derived.Test.YtdjfkmkdkclahaaGreatDoorVSq
import Derived.Test.YtdjfkmkdkclahaaGreatDoorVSna
import Derived.Test.YtdjfkmkdkclahaaGreatDoorVSyi
import Derived.WalkKit
set_option linter.unnecessarySimpa false
set_option linter.unusedSectionVars false
set_option linter.unusedSimpArgs false
set_option linter.unusedVariables false
set_option maxHeartbeats 8000000
namespace Go.Proofs.YtdjfkmkdkclahaaGreatDoor
open Go.RowKit
def bW (a b:SV):Prop:= ∀(w:World) (ρ:Env) (v:Value),Rep w ρ a v->Rep w ρ b v
theorem bW.refl (a:SV):bW a a:= λ_ _ _ h=>h
theorem bW.osl {id z:Nat}{rows:List (List D)}:bW (.osl id z rows) (.d (.sl z rows)):= λ_ _ _ h=> .d _ _ h.osl_inv.1
theorem bW.wkd {a b:D}(h:WkD a b):bW (.d a) (.d b):= λ_ _ _ hr=>by
 cases hr with
 |d _ _ hd=>exact .d _ _ (aIo hd b h)
theorem bW.nil {z:Nat}:bW (.d .nil) (.d (.sl z [])):=bW.wkd rfl
theorem bW.agg {l m:List SV}(hl:l.length=m.length) (h: ∀(j:Nat) (a b:SV),l[j]? =some a->m[j]? =some b->bW a b):bW (.agg l) (.agg m):= λw ρ v hr=>by
 obtain⟨vs,rfl,h1,h2⟩:=hr.agg_inv
 refine .agg _ _ (h1.trans hl) λj b u hb hu=> ?_
 have hj:j < l.length:=by rw [hl];exact(List.getElem?_eq_some_iff.1 hb).1
 exact h j _ b (List.getElem?_eq_getElem hj) hb w ρ u (h2 j _ u (List.getElem?_eq_getElem hj) hu)
theorem bW.aggD {l:List D}:bW (.agg (l.map .d)) (.d (.agg l)):= λw ρ v hr=>by
 obtain⟨vs,rfl,h1,h2⟩:=hr.agg_inv
 refine .d _ _ (.agg _ _ (by rw [h1,List.length_map]) λj x u hx hu=> ?_)
 have:=h2 j (.d x) u (by rw [List.getElem?_map,hx];rfl) hu
 cases this with
 |d _ _ h=>exact h
def aJv:List SV->List D->Prop
 | [],[]=>True
 |a::l,b::m=>bW a (.d b)/\aJv l m
 |_,_=>False
theorem aJv.at: ∀(l:List SV) (m:List D),aJv l m->l.length=m.length/\ ∀(j:Nat) (a:SV) (b:D),l[j]? =some a->m[j]? =some b->bW a (.d b)
 | [],[],_=>⟨rfl,by simp⟩
 |a::l,b::m,h=>by
  obtain⟨h1,h2⟩:=aJv.at l m h.2
  refine⟨by simp [h1],λj x y hx hy=> ?_⟩
  cases j with
  |zero=>simp at hx hy;subst hx hy;exact h.1
  |succ j=>exact h2 j x y (by simpa using hx) (by simpa using hy)
theorem bW.cells {l:List SV}{m:List D}(h:aJv l m):bW (.agg l) (.d (.agg m)):= λw ρ v hr=>by
 obtain⟨h1,h2⟩:=aJv.at l m h
 refine bW.aggD w ρ v (bW.agg (by rw [List.length_map,h1]) (λj a b ha hb=> ?_) w ρ v hr)
 rw [List.getElem?_map]at hb
 obtain⟨y,hy,rfl⟩:=Option.map_eq_some_iff.1 hb
 exact h2 j a y ha hy
section
variable {P:Program}
theorem aH.says {pin:Pin}{fr:Fr}{hp:Hp}{f:FuncId}{args:List SV}{K:SV->Hp->Prop}(h:aH P pin fr hp f args λs hp'=> ∃s',bW s s'/\K s' hp'):aH P pin fr hp f args K:=by
 intro E ρ w tm h1 h2 h3 vs h4
 refine(h E ρ w tm h1 h2 h3 vs h4).mono ?_
 rintro e w' (⟨v,ρ',s,hp',rfl,⟨s',hs,hk⟩,k2,k3,k4⟩|q)
 ·exact .inl ⟨v,ρ',s',hp',rfl,hk,k2,k3,hs _ _ _ k4⟩
 ·exact .inr q
theorem aH.args {pin:Pin}{fr:Fr}{hp:Hp}{f:FuncId}{args args':List SV}{K:SV->Hp->Prop}(h:aH P pin fr hp f args' K) (hl:args.length=args'.length) (hs: ∀(j:Nat) (a b:SV),args[j]? =some a->args'[j]? =some b->bW a b):aH P pin fr hp f args K:=by
 intro E ρ w tm h1 h2 h3 vs h4
 refine h E ρ w tm h1 h2 h3 vs ⟨h4.1.trans hl,λj b v hb hv=> ?_⟩
 have hj:j < args.length:=by rw [hl];exact(List.getElem?_eq_some_iff.1 hb).1
 exact hs j _ b (List.getElem?_eq_getElem hj) hb w ρ v (h4.2 j _ v (List.getElem?_eq_getElem hj) hv)
theorem aHd {s:SV}(h:s.ids=[]):s.sim:=by cases s<;>first|trivial|exact h
theorem aHe {σ:Nat->Nat}{s:SV}(h:s.ids=[]):s.ren σ=s:=by cases s<;>first|rfl|(simp [SV.ids]at h)
theorem xB {σ:Nat->Nat}: ∀{l:List SV},SV.idsL l=[]->l.map (SV.ren σ)=l
 | [],_=>rfl
 |s::r,h=>by
  rw [SV.idsL,List.append_eq_nil_iff]at h
  rw [List.map_cons,aHe h.1,xB h.2]
theorem wV: ∀{l:List SV},SV.idsL l=[]-> ∀s∈l,s.sim
 |s::r,h,x,hx=>by
  rw [SV.idsL,List.append_eq_nil_iff]at h
  rcases List.mem_cons.1 hx with rfl|hx
  ·exact aHd h.1
  ·exact wV h.2 x hx
end
end Go.Proofs.YtdjfkmkdkclahaaGreatDoor
namespace Go.Proofs.YtdjfkmkdkclahaaGreatDoor
open Go.Proofs Go.RowKit
set_option maxRecDepth 10000
attribute [local irreducible] aL aH Tri aI YVC bP aS
abbrev rdO (b:List UInt8):HObj:= .cells 194 [.d (.sl 1 (b.map aP))]
abbrev aXm (q:Prop):Pin:=⟨[3],λ_ h=>q/\ ∃b:List UInt8,aR h 3=some (rdO b),[],none⟩
def RdT {α:Type}(f:FuncId) (ex:List SV) (r:Rd α) (e:α->SV):Prop:= ∀bs:List UInt8,bs.length<=1000000->
 aH Tryz.prog (aXm (r bs=none)) [] [(3,rdO bs)] f (.ptr 3 0::ex) (λs h=> ∃x c,r bs=some (x,c)/\s=e x/\aR h 3=some (rdO c))
theorem RdC.t {α:Type}{f:FuncId}{r:Rd α}{e:α->SV}(h:RdC f r e):RdT f [] r e:= λbs _=>
 h bs [] (λx c hr=>⟨x,c,hr,rfl,rfl⟩) (λhr b=>⟨hr,b,rfl⟩) rfl
theorem sL (m:Nat) (hm:m<=8):RdT 216 [.d (.int .i64 m)] (aA6 m) (λn=> .d (.int .u64 n)):= λbs _=>
 fH bs m hm [] (λhle=>⟨_,_,aCq hle,rfl,rfl⟩) (λhlt=>⟨aCr hlt,bs,rfl⟩) rfl
theorem aHm:RdT 240 [] aEi (λz=> .d (.int .i64 z)):=aLo.t
theorem aSb:RdT 239 [] aTd (λz=> .d (.int .i64 z)):=aP4.t
theorem aH8:RdT 183 [] aFp (λs=> .d (.str s)):=aRh.t
theorem RdT.call {α:Type}{f:FuncId}{ex:List SV}{r:Rd α}{e:α->SV}(h:RdT f ex r e) (hx:SV.idsL ex=[]) (he: ∀x,(e x).ids=[]) {pin:Pin}{fr:Fr}{hp:Hp}{i:Nat}{K:SV->Hp->Prop}(bs:List UInt8) (hb:bs.length<=1000000) (hg:aR hp i=some (rdO bs))
  (hok: ∀x c,r bs=some (x,c)->iG hp i (rdO c) (K (e x))) (hno:r bs=none-> ∀b,pin.kp fr (dW hp i (rdO b))) (hpv:pin.pv=none:=by rfl):aH Tryz.prog pin fr hp f (.ptr i 0::ex) K:=by
 have hs: ∀b,(rdO b).sim:= λb s hs=>by simp at hs;subst hs;exact rfl
 refine jK (λ_=>i) [3] [(3,rdO bs)] (h bs hb) (aNa hg rfl (hs bs)) (λk hk=>hk) (by rw [List.map_cons,xB hx];rfl) ?_ ?_ ?_ (.inl hpv)
 ·intro s hs
  rcases List.mem_cons.1 hs with rfl|hs
  ·trivial
  ·exact wV hx s hs
 ·rintro s h1 ⟨x,c,e1,rfl,e3⟩
  refine⟨aHd (he x), ?_,_,aLw hg e3 (hs c) (λh=>h) rfl rfl, ?_⟩
  ·intro j hj
   rw [he]at hj
   cases hj
  rw [aHe (he x)]
  have:=hok x c e1
  rw [cX]at this
  exact this
 ·rintro h1 ⟨hn,b,e3⟩
  exact⟨_,aLw hg e3 (hs b) (λh=>h) rfl rfl,hno hn b⟩
end Go.Proofs.YtdjfkmkdkclahaaGreatDoor
namespace Go.Proofs.YtdjfkmkdkclahaaGreatDoor
open Go.Proofs Go.RowKit
set_option maxRecDepth 10000
attribute [local irreducible] aL aH Tri aI YVC bP aS
end Go.Proofs.YtdjfkmkdkclahaaGreatDoor
namespace Go.Proofs.YtdjfkmkdkclahaaGreatDoor
open Go.Proofs Go.RowKit
set_option maxRecDepth 10000
attribute [local irreducible] aL aH Tri aI YVC bP aS
theorem mO {α:Type}{r:Rd α}{k:Nat}(h:aDn k r) {b c:List UInt8}{x:α}(e:r b=some (x,c)):c.length+k<=b.length:=by
 obtain⟨a,h1,h2⟩:=h b x c e
 rw [h1,List.length_append];omega
theorem xE {α:Type}{r:Rd α}{b c d:List UInt8}{l:List α}{x:α}(h:sS r l.length b=some (l,c)) (e:r c=some (x,d)):sS r (l++[x]).length b=some (l++[x],d):=by
 rw [List.length_append,List.length_singleton,pW,h]
 simp only [Option.bind_some,e,Option.map_some]
theorem xD {α:Type}{r:Rd α}{b c:List UInt8}{l:List α}{N:Nat}(h:sS r l.length b=some (l,c)) (e:r c=none) (hN:l.length < N):sS r N b=none:=by
 refine aL5 (n:=l.length+1) ?_ (by omega)
 rw [pW,h]
 simp only [Option.bind_some,e,Option.map_none]
theorem wA {bs c:List UInt8}{N:Nat}(h:aA6 4 bs=some (N,c)):N < 4294967296:=by
 obtain⟨l,h1,rfl⟩:=aHf h
 have hl:l.length=4:=by
  unfold lW at h1
  split at h1
  ·injection h1 with h1;injection h1 with h1 _
   rw [<-h1,List.length_take];omega
  ·cases h1
 exact jR 4 l hl
theorem aSi {N k:Nat}(h:k < N) (hN:N < 4294967296):IntKind.u64.wrap (((N - k:Nat):Int) - 1)=((N - (k+1):Nat):Int):=by
 have e:((N - k:Nat):Int) - 1=((N - (k+1):Nat):Int):=by omega
 rw [e]
 exact gJ _ (by omega)
theorem aLs:RdT 182 [.fn 183 [] []] (kJ aFp) (λl=> .d (.sl 1 (l.map aV))):=by
 intro bs hb
 refine aH.says ?_
 refine aM false [] hty Tryz.func182 rfl (kp [0,1,4,5,9]) 100 (by simp [Tryz.f182]) ?_
 ((conv=>whnf);repeat ((first|(intro hq;try simp only [lnS]at hq)|refine sI ?_|refine .intro _ (.intro rfl ?_));(conv=>whnf)))
 refine RdT.call (sL 4 (by decide)) rfl (λ_=>rfl) bs hb rfl (λN c0 e1=> ?_) (λe1 b=>⟨bK e1,b,rfl⟩)
 have hbind:kJ aFp bs=sS aFp N c0:=aZ e1
 have hc0:=mO (gS 4) e1
 have hN:=wA e1
 clear e1
 ((conv=>whnf);repeat ((first|(intro hq;try simp only [lnS]at hq)|refine sI ?_|refine .intro _ (.intro rfl ?_));(conv=>whnf)))
 refine aL.own 4 104 9 1 rfl (bQ (by with_unfolding_all exact rfl)) ?_
 refine aJ hty (λy:List (List UInt8)×List UInt8=>([(0, .ptr 3 0),(1, .fn 183 [] []),(4, .osl 104 1 (y.1.map aV)),(5, .d (.int .u64 ((N - y.1.length:Nat):Int)))],[(104, .own 9 1 (y.1.map aV).length),(3,rdO y.2)])) (λy=>sS aFp y.1.length c0=some y/\y.1.length<=N/\y.2.length+y.1.length<=c0.length) (λy=>N - y.1.length) ([],c0) ⟨rfl,Nat.zero_le _,Nat.le_refl _⟩ ⟨by repeat' (first|exact trivial|exact rfl|refine And.intro ?_ ?_),by repeat' (first|exact trivial|exact rfl|refine And.intro ?_ ?_)⟩ ?_
 rintro⟨l,c⟩ ⟨h1,h2,h3⟩
 dsimp only at h1 h2 h3
 have hml:(l.map aV).length=l.length:=List.length_map ..
 have hb63:(l.map aV).length+1<=9223372036854775807:=by rw [hml];omega
 have hb48:((l.map aV).length+1)* 16<=140737488355328:=by rw [hml];omega
 ((conv=>whnf);repeat ((first|(intro hq;try simp only [lnS]at hq)|refine sI ?_|refine .intro _ (.intro rfl ?_));(conv=>whnf)))
 refine aC (λh4=> ?_) (λh4=> ?_)
 ·have hlt:l.length < N:=by dsimp only at h4;omega
  have hw:=aSi hlt hN
  refine RdT.call (e:= λx=>SV.d (.str x)) aH8 rfl (λ_=>rfl) c (by omega) rfl (λx d e2=> ?_) (λe2 b=>⟨hbind.trans (xD h1 e2 hlt),b,rfl⟩)
  have hd:=mO gR e2
  ((conv=>whnf);repeat ((first|(refine And.intro hb63 ?_)|(refine And.intro hb48 ?_)|(intro hq;try simp only [lnS]at hq)|refine sI ?_|refine .intro _ (.intro rfl ?_));(conv=>whnf)))
  rw [hw]
  refine⟨(l++[_],d),⟨xE h1 e2,by rw [List.length_append];exact hlt,by dsimp only;rw [List.length_append,List.length_singleton];omega⟩,by dsimp only;rw [List.length_append,List.length_singleton];omega, ?_⟩
  dsimp only
  rw [List.map_append,List.length_append,List.length_append]
  exact⟨by repeat' (first|exact trivial|exact rfl|refine And.intro ?_ ?_),by repeat' (first|exact trivial|exact rfl|refine And.intro ?_ ?_)⟩
 ·have hlN:l.length=N:=by dsimp only at h4;omega
  subst hlN
  ((conv=>whnf);repeat ((first|(intro hq;try simp only [lnS]at hq)|refine sI ?_|refine .intro _ (.intro rfl ?_));(conv=>whnf)))
  exact⟨_,bW.osl,l,c,hbind.trans h1,rfl,rfl⟩
end Go.Proofs.YtdjfkmkdkclahaaGreatDoor
namespace Go.Proofs.YtdjfkmkdkclahaaGreatDoor
open Go.Proofs Go.RowKit
set_option maxRecDepth 10000
attribute [local irreducible] aL aH Tri aI YVC bP aS
theorem fV {α β:Type}{r:Rd α}{f:α->Rd β}{b c:List UInt8}{x:α}(h:r b=some (x,c)) (k:f x c=none):dG r f b=none:=(aZ h).trans k
theorem aAf {α β:Type}{r:Rd α}{f:α->Rd β}{b c d:List UInt8}{x:α}{y:β}(h:r b=some (x,c)) (k:f x c=some (y,d)):dG r f b=some (y,d):=(aZ h).trans k
end Go.Proofs.YtdjfkmkdkclahaaGreatDoor
namespace Go.Proofs.YtdjfkmkdkclahaaGreatDoor
open Go.Proofs Go.RowKit
set_option maxRecDepth 10000
attribute [local irreducible] aL aH Tri aI YVC bP aS
end Go.Proofs.YtdjfkmkdkclahaaGreatDoor
namespace Go.Proofs.YtdjfkmkdkclahaaGreatDoor
open Go.Proofs Go.RowKit
set_option maxRecDepth 10000
attribute [local irreducible] aL aH Tri aI YVC bP aS
def atR (a:At):List D:=[.int .i64 a.kind, .str a.name, .str a.x, .str a.y, .int .i64 a.lo, .int .i64 a.hi]
def aK (p:List At):List D:=[.sl 6 (p.map atR)]
theorem aV4:RdT 219 [] rAt (λa=> .d (.agg (atR a))):=by
 intro bs hb
 refine aM false [] hty Tryz.func219 rfl (kp [0,2]) 100 (by simp [Tryz.f219]) ?_
 ((conv=>whnf);repeat ((first|(intro hq;try simp only [lnS]at hq)|refine sI ?_|refine .intro _ (.intro rfl ?_));(conv=>whnf)))
 refine RdT.call aSb rfl (λ_=>rfl) bs hb rfl (λkd b1 e1=> ?_) (λe1 b=>⟨bK e1,b,rfl⟩)
 have q1:=mO aI9 e1
 ((conv=>whnf);repeat ((first|(intro hq;try simp only [lnS]at hq)|refine sI ?_|refine .intro _ (.intro rfl ?_));(conv=>whnf)))
 refine RdT.call aH8 rfl (λ_=>rfl) b1 (by omega) rfl (λs1 b2 e2=> ?_) (λe2 b=>⟨fV e1 (bK e2),b,rfl⟩)
 have q2:=mO gR e2
 ((conv=>whnf);repeat ((first|(intro hq;try simp only [lnS]at hq)|refine sI ?_|refine .intro _ (.intro rfl ?_));(conv=>whnf)))
 refine RdT.call aH8 rfl (λ_=>rfl) b2 (by omega) rfl (λs2 b3 e3=> ?_) (λe3 b=>⟨fV e1 (fV e2 (bK e3)),b,rfl⟩)
 have q3:=mO gR e3
 ((conv=>whnf);repeat ((first|(intro hq;try simp only [lnS]at hq)|refine sI ?_|refine .intro _ (.intro rfl ?_));(conv=>whnf)))
 refine RdT.call aH8 rfl (λ_=>rfl) b3 (by omega) rfl (λs3 b4 e4=> ?_) (λe4 b=>⟨fV e1 (fV e2 (fV e3 (bK e4))),b,rfl⟩)
 have q4:=mO gR e4
 ((conv=>whnf);repeat ((first|(intro hq;try simp only [lnS]at hq)|refine sI ?_|refine .intro _ (.intro rfl ?_));(conv=>whnf)))
 refine RdT.call aHm rfl (λ_=>rfl) b4 (by omega) rfl (λlo b5 e5=> ?_) (λe5 b=>⟨fV e1 (fV e2 (fV e3 (fV e4 (bK e5)))),b,rfl⟩)
 have q5:=mO rZ e5
 ((conv=>whnf);repeat ((first|(intro hq;try simp only [lnS]at hq)|refine sI ?_|refine .intro _ (.intro rfl ?_));(conv=>whnf)))
 refine RdT.call aHm rfl (λ_=>rfl) b5 (by omega) rfl (λhi b6 e6=> ?_) (λe6 b=>⟨fV e1 (fV e2 (fV e3 (fV e4 (fV e5 (dY e6))))),b,rfl⟩)
 ((conv=>whnf);repeat ((first|(intro hq;try simp only [lnS]at hq)|refine sI ?_|refine .intro _ (.intro rfl ?_));(conv=>whnf)))
 exact⟨⟨kd,s1,s2,s3,lo,hi⟩,b6,aAf e1 (aAf e2 (aAf e3 (aAf e4 (aAf e5 (bS e6))))),rfl,rfl⟩
theorem aP8:RdT 218 [.fn 219 [] []] (kJ rAt) (λl=> .d (.sl 6 (l.map atR))):=by
 intro bs hb
 refine aH.says ?_
 refine aM false [] hty Tryz.func218 rfl (kp [0,1,4,5,9]) 100 (by simp [Tryz.f218]) ?_
 ((conv=>whnf);repeat ((first|(intro hq;try simp only [lnS]at hq)|refine sI ?_|refine .intro _ (.intro rfl ?_));(conv=>whnf)))
 refine RdT.call (sL 4 (by decide)) rfl (λ_=>rfl) bs hb rfl (λN c0 e1=> ?_) (λe1 b=>⟨bK e1,b,rfl⟩)
 have hbind:kJ rAt bs=sS rAt N c0:=aZ e1
 have hc0:=mO (gS 4) e1
 have hN:=wA e1
 clear e1
 ((conv=>whnf);repeat ((first|(intro hq;try simp only [lnS]at hq)|refine sI ?_|refine .intro _ (.intro rfl ?_));(conv=>whnf)))
 refine aL.own 4 104 60 6 rfl (bQ (by with_unfolding_all exact rfl)) ?_
 refine aJ hty (λy:List At×List UInt8=>([(0, .ptr 3 0),(1, .fn 219 [] []),(4, .osl 104 6 (y.1.map atR)),(5, .d (.int .u64 ((N - y.1.length:Nat):Int)))],[(104, .own 60 6 (y.1.map atR).length),(3,rdO y.2)])) (λy=>sS rAt y.1.length c0=some y/\y.1.length<=N/\y.2.length+y.1.length<=c0.length) (λy=>N - y.1.length) ([],c0) ⟨rfl,Nat.zero_le _,Nat.le_refl _⟩ ⟨by repeat' (first|exact trivial|exact rfl|refine And.intro ?_ ?_),by repeat' (first|exact trivial|exact rfl|refine And.intro ?_ ?_)⟩ ?_
 rintro⟨l,c⟩ ⟨h1,h2,h3⟩
 dsimp only at h1 h2 h3
 have hml:(l.map atR).length=l.length:=List.length_map ..
 have hb63:(l.map atR).length+1<=9223372036854775807:=by rw [hml];omega
 have hb48:((l.map atR).length+1)* 72<=140737488355328:=by rw [hml];omega
 ((conv=>whnf);repeat ((first|(intro hq;try simp only [lnS]at hq)|refine sI ?_|refine .intro _ (.intro rfl ?_));(conv=>whnf)))
 refine aC (λh4=> ?_) (λh4=> ?_)
 ·have hlt:l.length < N:=by dsimp only at h4;omega
  have hw:=aSi hlt hN
  refine RdT.call (e:= λx=>SV.d (.agg (atR x))) aV4 rfl (λ_=>rfl) c (by omega) rfl (λx d e2=> ?_) (λe2 b=>⟨hbind.trans (xD h1 e2 hlt),b,rfl⟩)
  have hd:=mO aMj e2
  ((conv=>whnf);repeat ((first|(refine And.intro hb63 ?_)|(refine And.intro hb48 ?_)|(intro hq;try simp only [lnS]at hq)|refine sI ?_|refine .intro _ (.intro rfl ?_));(conv=>whnf)))
  rw [hw]
  refine⟨(l++[_],d),⟨xE h1 e2,by rw [List.length_append];exact hlt,by dsimp only;rw [List.length_append,List.length_singleton];omega⟩,by dsimp only;rw [List.length_append,List.length_singleton];omega, ?_⟩
  dsimp only
  rw [List.map_append,List.length_append,List.length_append]
  exact⟨by repeat' (first|exact trivial|exact rfl|refine And.intro ?_ ?_),by repeat' (first|exact trivial|exact rfl|refine And.intro ?_ ?_)⟩
 ·have hlN:l.length=N:=by dsimp only at h4;omega
  subst hlN
  ((conv=>whnf);repeat ((first|(intro hq;try simp only [lnS]at hq)|refine sI ?_|refine .intro _ (.intro rfl ?_));(conv=>whnf)))
  exact⟨_,bW.osl,l,c,hbind.trans h1,rfl,rfl⟩
theorem aUa:RdT 185 [] (kJ rAt) (λp=> .d (.agg (aK p))):=by
 intro bs hb
 refine aM false [] hty Tryz.func185 rfl (kp [0,2]) 100 (by simp [Tryz.f185]) ?_
 ((conv=>whnf);repeat ((first|(intro hq;try simp only [lnS]at hq)|refine sI ?_|refine .intro _ (.intro rfl ?_));(conv=>whnf)))
 refine RdT.call aP8 rfl (λ_=>rfl) bs hb rfl (λl b1 e1=> ?_) (λe1 b=>⟨e1,b,rfl⟩)
 ((conv=>whnf);repeat ((first|(intro hq;try simp only [lnS]at hq)|refine sI ?_|refine .intro _ (.intro rfl ?_));(conv=>whnf)))
 exact⟨l,b1,e1,rfl,rfl⟩
theorem aJm:RdT 184 [.fn 185 [] []] (kJ (kJ rAt)) (λl=> .d (.sl 1 (l.map aK))):=by
 intro bs hb
 refine aH.says ?_
 refine aM false [] hty Tryz.func184 rfl (kp [0,1,4,5,9]) 100 (by simp [Tryz.f184]) ?_
 ((conv=>whnf);repeat ((first|(intro hq;try simp only [lnS]at hq)|refine sI ?_|refine .intro _ (.intro rfl ?_));(conv=>whnf)))
 refine RdT.call (sL 4 (by decide)) rfl (λ_=>rfl) bs hb rfl (λN c0 e1=> ?_) (λe1 b=>⟨bK e1,b,rfl⟩)
 have hbind:kJ (kJ rAt) bs=sS (kJ rAt) N c0:=aZ e1
 have hc0:=mO (gS 4) e1
 have hN:=wA e1
 clear e1
 ((conv=>whnf);repeat ((first|(intro hq;try simp only [lnS]at hq)|refine sI ?_|refine .intro _ (.intro rfl ?_));(conv=>whnf)))
 refine aL.own 4 104 35 1 rfl (bQ (by with_unfolding_all exact rfl)) ?_
 refine aJ hty (λy:List (List At)×List UInt8=>([(0, .ptr 3 0),(1, .fn 185 [] []),(4, .osl 104 1 (y.1.map aK)),(5, .d (.int .u64 ((N - y.1.length:Nat):Int)))],[(104, .own 35 1 (y.1.map aK).length),(3,rdO y.2)])) (λy=>sS (kJ rAt) y.1.length c0=some y/\y.1.length<=N/\y.2.length+y.1.length<=c0.length) (λy=>N - y.1.length) ([],c0) ⟨rfl,Nat.zero_le _,Nat.le_refl _⟩ ⟨by repeat' (first|exact trivial|exact rfl|refine And.intro ?_ ?_),by repeat' (first|exact trivial|exact rfl|refine And.intro ?_ ?_)⟩ ?_
 rintro⟨l,c⟩ ⟨h1,h2,h3⟩
 dsimp only at h1 h2 h3
 have hml:(l.map aK).length=l.length:=List.length_map ..
 have hb63:(l.map aK).length+1<=9223372036854775807:=by rw [hml];omega
 have hb48:((l.map aK).length+1)* 24<=140737488355328:=by rw [hml];omega
 ((conv=>whnf);repeat ((first|(intro hq;try simp only [lnS]at hq)|refine sI ?_|refine .intro _ (.intro rfl ?_));(conv=>whnf)))
 refine aC (λh4=> ?_) (λh4=> ?_)
 ·have hlt:l.length < N:=by dsimp only at h4;omega
  have hw:=aSi hlt hN
  refine RdT.call (e:= λx=>SV.d (.agg (aK x))) aUa rfl (λ_=>rfl) c (by omega) rfl (λx d e2=> ?_) (λe2 b=>⟨hbind.trans (xD h1 e2 hlt),b,rfl⟩)
  have hd:=mO (aFc aMj) e2
  ((conv=>whnf);repeat ((first|(refine And.intro hb63 ?_)|(refine And.intro hb48 ?_)|(intro hq;try simp only [lnS]at hq)|refine sI ?_|refine .intro _ (.intro rfl ?_));(conv=>whnf)))
  rw [hw]
  refine⟨(l++[_],d),⟨xE h1 e2,by rw [List.length_append];exact hlt,by dsimp only;rw [List.length_append,List.length_singleton];omega⟩,by dsimp only;rw [List.length_append,List.length_singleton];omega, ?_⟩
  dsimp only
  rw [List.map_append,List.length_append,List.length_append]
  exact⟨by repeat' (first|exact trivial|exact rfl|refine And.intro ?_ ?_),by repeat' (first|exact trivial|exact rfl|refine And.intro ?_ ?_)⟩
 ·have hlN:l.length=N:=by dsimp only at h4;omega
  subst hlN
  ((conv=>whnf);repeat ((first|(intro hq;try simp only [lnS]at hq)|refine sI ?_|refine .intro _ (.intro rfl ?_));(conv=>whnf)))
  exact⟨_,bW.osl,l,c,hbind.trans h1,rfl,rfl⟩
def qyR (q:Qy):List D:=[.sl 1 (q.told.map aV), .sl 1 (q.parts.map aK)]
theorem aS2:RdT 137 [] rQy (λq=> .d (.agg (qyR q))):=by
 intro bs hb
 refine aM false [] hty Tryz.func137 rfl (kp [0,2]) 100 (by simp [Tryz.f137]) ?_
 ((conv=>whnf);repeat ((first|(intro hq;try simp only [lnS]at hq)|refine sI ?_|refine .intro _ (.intro rfl ?_));(conv=>whnf)))
 refine RdT.call aLs rfl (λ_=>rfl) bs hb rfl (λl b1 e1=> ?_) (λe1 b=>⟨bK e1,b,rfl⟩)
 have q1:=mO (aFc gR) e1
 ((conv=>whnf);repeat ((first|(intro hq;try simp only [lnS]at hq)|refine sI ?_|refine .intro _ (.intro rfl ?_));(conv=>whnf)))
 refine RdT.call aJm rfl (λ_=>rfl) b1 (by omega) rfl (λp b2 e2=> ?_) (λe2 b=>⟨fV e1 (dY e2),b,rfl⟩)
 ((conv=>whnf);repeat ((first|(intro hq;try simp only [lnS]at hq)|refine sI ?_|refine .intro _ (.intro rfl ?_));(conv=>whnf)))
 exact⟨⟨l,p⟩,b2,aAf e1 (bS e2),rfl,rfl⟩
end Go.Proofs.YtdjfkmkdkclahaaGreatDoor
namespace Go.Proofs.YtdjfkmkdkclahaaGreatDoor
open Go.Proofs Go.RowKit
set_option maxRecDepth 100000
theorem aQb:Tryz.prog.underlying 43=some (.slice 5):=by kernel_rfl
theorem aRc:Tryz.prog.underlying 5=some (.int .u8):=by kernel_rfl
theorem aWt:Tryz.prog.cellsOf 5=1:=by kernel_rfl
theorem aN9 {n:Nat}{ds:List D}(h:TyD Tryz.prog n 43 ds): ∃b:List UInt8,iR Tryz.prog 43 ds= .d (.sl 1 (b.map aP)):=by
 obtain⟨m,rfl,rows,rfl,hn,hr⟩:=pM aQb h
 obtain⟨b,rfl⟩:=wX (f:=aP) (λr hr=>by obtain⟨c,rfl⟩:=aQc aRc hr;exact⟨c,rfl⟩) rows hr
 exact⟨b,by simp only [iR,aQb,aWt]⟩
end Go.Proofs.YtdjfkmkdkclahaaGreatDoor
namespace Go.Proofs.YtdjfkmkdkclahaaGreatDoor
open Go.Proofs Go.RowKit
set_option maxRecDepth 100000
theorem aTr:aDy Tryz.prog 35=some [33]:=by kernel_rfl
theorem aW0:aDy Tryz.prog 60=some [3,9,9,9,3,3]:=by kernel_rfl
theorem aQ9:Tryz.prog.underlying 51=some (.slice 35):=by kernel_rfl
theorem aTs:Tryz.prog.underlying 33=some (.slice 60):=by kernel_rfl
theorem aWr:Tryz.prog.cellsOf 35=1:=by kernel_rfl
theorem aWu:Tryz.prog.cellsOf 60=6:=by kernel_rfl
theorem aMt {n:Nat}{ds:List D}(h:TyD Tryz.prog n 60 ds): ∃a:At,ds=atR a:=by
 obtain⟨m,rfl,a1,b1,rfl,h1,a2,b2,rfl,h2,a3,b3,rfl,h3,a4,b4,rfl,h4,a5,b5,rfl,h5,a6,b6,rfl,h6,rfl⟩:=lD aW0 h
 obtain⟨k,rfl,_⟩:=kA u3 h1
 obtain⟨s1,rfl,_⟩:=iA u9 h2
 obtain⟨s2,rfl,_⟩:=iA u9 h3
 obtain⟨s3,rfl,_⟩:=iA u9 h4
 obtain⟨lo,rfl,_⟩:=kA u3 h5
 obtain⟨hi,rfl,_⟩:=kA u3 h6
 exact⟨⟨k,s1,s2,s3,lo,hi⟩,rfl⟩
theorem zV {n:Nat}{ds:List D}(h:TyD Tryz.prog n 35 ds): ∃p:List At,ds=aK p:=by
 obtain⟨m,rfl,a1,b1,rfl,h1,rfl⟩:=lD aTr h
 obtain⟨m,rfl,rows,rfl,hn,hr⟩:=pM aTs h1
 obtain⟨p,rfl⟩:=wX (f:=atR) (λr hr=>aMt hr) rows hr
 exact⟨p,by rw [aWu];rfl⟩
theorem aV9 {n:Nat}{ds:List D}(h:TyD Tryz.prog n 3 ds): ∃z,iR Tryz.prog 3 ds= .d (.int .i64 z):=by
 obtain⟨z,rfl,_⟩:=kA u3 h
 exact⟨z,by simp only [iR,u3]⟩
end Go.Proofs.YtdjfkmkdkclahaaGreatDoor
namespace Go.Proofs.YtdjfkmkdkclahaaGreatDoor
open Go.Proofs
def aGz {α:Type}(c:α->α->Int) (a b d:α):Prop:=
 (c a b < 0->c b d < 0->c a d < 0)/\(c a b=0->c a d=c b d)/\(c b d=0->c a b=c a d)
structure LCk {α:Type} (c:α->α->Int):Prop where
 rng: ∀a b,c a b= -1\/c a b=0\/c a b=1
 anti: ∀a b,c b a= - c a b
 t3: ∀a b d,aGz c a b d
def lex (x y:Int):Int:=if x≠0 then x else y
theorem LCk.lex {α:Type}{c1 c2:α->α->Int}(h1:LCk c1) (h2:LCk c2):LCk (λa b=>lex (c1 a b) (c2 a b)):=by
 refine⟨λa b=> ?_,λa b=> ?_,λa b d=> ?_⟩
 ·have:=h1.rng a b
  have:=h2.rng a b
  unfold Proofs.YtdjfkmkdkclahaaGreatDoor.lex
  split<;>omega
 ·have:=h1.anti a b
  have:=h2.anti a b
  unfold Proofs.YtdjfkmkdkclahaaGreatDoor.lex
  split<;>split<;>omega
 ·have a1:=h1.t3 a b d
  have a2:=h1.t3 b d a
  have a3:=h1.t3 d a b
  have b1:=h2.t3 a b d
  have r1:=h1.rng a b
  have r2:=h1.rng b d
  have r3:=h1.rng a d
  have n1:=h1.anti a b
  have n2:=h1.anti b d
  have n3:=h1.anti a d
  unfold aGz at *
  unfold Proofs.YtdjfkmkdkclahaaGreatDoor.lex
  dsimp only
  refine⟨?_, ?_, ?_⟩<;>(split<;>split<;>split<;>omega)
theorem LCk.of {α β:Type}{c:β->β->Int}(h:LCk c) (k:α->β):LCk (λa b=>c (k a) (k b)):=
 ⟨λa b=>h.rng _ _,λa b=>h.anti _ _,λa b d=>h.t3 _ _ _⟩
theorem LCk.int:LCk aA7:=by
 refine⟨λa b=> ?_,λa b=> ?_,λa b d=> ?_⟩
 ·unfold aA7;split<;>(try split)<;>simp
 ·unfold aA7;split<;>split<;>(try split)<;>omega
 ·unfold aGz aA7
  refine⟨?_, ?_, ?_⟩<;>(split<;>(try split)<;>split<;>(try split)<;>(try split)<;>(try split)<;>omega)
theorem gG {a b:Int}:aA7 a b=0↔a=b:=by
 unfold aA7;split<;>(try split)<;>omega
theorem LCk.str:LCk eG:=by
 refine⟨lT,aFj,λa b d=>⟨aBu a b d,λh=> ?_,λh=> ?_⟩⟩
 ·rw [(cM a b).1 h]
 ·rw [(cM b d).1 h]
theorem aCw (x:Int) (l:List Int):orF (x::l)=lex x (orF l):=rfl
theorem LCk.zero {α:Type}:LCk (λ_ _:α=>(0:Int)):=⟨λ_ _=>by simp,λ_ _=>by simp,λ_ _ _=>by simp [aGz]⟩
theorem aHv {x y:Int}:lex x y=0↔x=0/\y=0:=by unfold lex;split<;>omega
def aAu {α:Type}(eq:α->α->Bool):α->List α->List α
 |_,[]=>[]
 |p,b::r=>if eq b p then aAu eq b r else b::aAu eq b r
def mT {α:Type}(eq:α->α->Bool):List α->List α
 | []=>[]
 |a::r=>a::aAu eq a r
end Go.Proofs.YtdjfkmkdkclahaaGreatDoor
namespace Go.Proofs.YtdjfkmkdkclahaaGreatDoor
section
variable {α:Type}
structure OrdC (cf:α->α->Int):Prop where
 asym: ∀x y,cf x y < 0->¬ cf y x < 0
 tr: ∀x y z,¬ cf y x < 0->¬ cf z y < 0->¬ cf z x < 0
def Srt (cf:α->α->Int) (l:List α):Prop:=l.Pairwise λx y=>¬ cf y x < 0
theorem OrdC.refl {cf:α->α->Int}(h:OrdC cf) (x:α):¬ cf x x < 0:= λq=>h.asym x x q q
def Blk (cf:α->α->Int) (bs:Nat) (l:List α):Prop:= ∀k,Srt cf ((l.drop (k * bs)).take bs)
theorem Blk.first {cf:α->α->Int}{bs:Nat}{l:List α}(h:Blk cf bs l):Srt cf (l.take bs):=by
 have:=h 0
 rwa [Nat.zero_mul,List.drop_zero]at this
theorem Blk.rest {cf:α->α->Int}{bs:Nat}{l:List α}(h:Blk cf bs l):Blk cf bs (l.drop bs):=by
 intro k
 have:=h (k+1)
 rw [Nat.add_mul,Nat.one_mul,Nat.add_comm]at this
 rwa [List.drop_drop]
theorem Blk.nil {cf:α->α->Int}{bs:Nat}:Blk cf bs []:= λk=>by
 simp [Srt]
theorem Blk.all {cf:α->α->Int}{bs:Nat}{l:List α}(h:Blk cf bs l) (hl:l.length<=bs):Srt cf l:=by
 have:=h.first
 rwa [List.take_of_length_le hl]at this
end
end Go.Proofs.YtdjfkmkdkclahaaGreatDoor
namespace Go.Proofs.YtdjfkmkdkclahaaGreatDoor
open Go.Proofs
structure Rn where
 kind:Int
 old:List UInt8
 new:List UInt8
theorem Rn.ext' {a b:Rn}(h1:a.kind=b.kind) (h2:a.old=b.old) (h3:a.new=b.new):a=b:=by
 cases a;cases b;simp_all
def rnN (s:List UInt8):Bool:=cT s && !decide (s.head?=some 95)
def rnV (r:Rn):Bool:=decide (1<=r.kind) && (decide (r.kind<=4) && (rnN r.old && (rnN r.new && !decide (r.old=r.new))))
def aFs (a b:Rn):Int:=orF [aA7 a.kind b.kind,eG a.old b.old]
abbrev Ky:=Int×List UInt8
def aXb (r:Rn):Ky:=(r.kind,r.new)
def aFq (r:Rn):Ky:=(r.kind,r.old)
theorem aT1:LCk aFs:=by
 have h:=(LCk.int.of Rn.kind).lex ((LCk.str.of Rn.old).lex LCk.zero)
 exact h
theorem zX {a b:Rn}:aFs a b=0↔aFq a=aFq b:=by
 unfold aFs aFq
 simp only [aCw,aHv,gG,cM,Prod.mk.injEq]
 simp [orF]
theorem aPr (a:Rn):¬ aFs a a < 0:=by rw [zX.2 rfl];omega
theorem aT0 {a b d:Rn}(h1:aFs a b < 0) (h2:aFs b d < 0):aFs a d < 0:=(aT1.t3 a b d).1 h1 h2
theorem LCk.ord {α:Type}{c:α->α->Int}(h:LCk c):OrdC c where
 asym:= λx y a=>by have:=h.anti x y;omega
 tr:= λx y z a b=>by
  have h1:=h.t3 x y z
  have r1:=h.rng x y
  have r2:=h.rng y z
  have a1:=h.anti x y
  have a2:=h.anti y z
  have a3:=h.anti x z
  unfold aGz at h1
  have:=h1.1
  have:=h1.2.1
  have:=h1.2.2
  omega
structure Good (l:List Rn):Prop where
 val: ∀r∈l,rnV r=true
 str:l.Pairwise λa b=>aFs a b < 0
 nod:(l.map aXb).Nodup
theorem aEm {α:Type}{R:α->α->Prop}(irr: ∀x,¬ R x x) (tr: ∀x y z,R x y->R y z->R x z): ∀{l m:List α},l.Pairwise R->m.Pairwise R->(∀x,x∈l↔x∈m)->l=m
 | [],[],_,_,_=>rfl
 | [],y::m,_,_,h=>absurd ((h y).2 (by simp)) (by simp)
 |x::l,[],_,_,h=>absurd ((h x).1 (by simp)) (by simp)
 |x::l,y::m,h1,h2,h=>by
  have a1:=List.pairwise_cons.1 h1
  have a2:=List.pairwise_cons.1 h2
  have hxy:x=y:=by
   rcases List.mem_cons.1 ((h x).1 (by simp))with e|hx
   ·exact e
   ·rcases List.mem_cons.1 ((h y).2 (by simp))with e|hy
    ·exact e.symm
    ·exact absurd (tr _ _ _ (a2.1 x hx) (a1.1 y hy)) (irr y)
  subst hxy
  have key: ∀z,z∈l↔z∈m:= λz=>by
   constructor
   ·intro hz
    rcases List.mem_cons.1 ((h z).1 (List.mem_cons_of_mem _ hz))with e|hz'
    ·exact absurd (a1.1 z hz) (e ▸ irr z)
    ·exact hz'
   ·intro hz
    rcases List.mem_cons.1 ((h z).2 (List.mem_cons_of_mem _ hz))with e|hz'
    ·exact absurd (a2.1 z hz) (e ▸ irr z)
    ·exact hz'
  rw [aEm irr tr a1.2 a2.2 key]
theorem wZ {l m:List Rn}(h1:l.Pairwise λa b=>aFs a b < 0) (h2:m.Pairwise λa b=>aFs a b < 0) (h: ∀x,x∈l↔x∈m):l=m:=
 aEm (R:= λa b=>aFs a b < 0) (λa=>aPr a) (λa b d h1 h2=>aT0 h1 h2) h1 h2 h
theorem aRo {l:List Rn}(h:l.Pairwise λa b=>aFs a b < 0) {a b:Rn}(ha:a∈l) (hb:b∈l) (e:aFq a=aFq b):a=b:=by
 induction l with
 |nil=>simp at ha
 |cons x r ih=>
  have h1:=List.pairwise_cons.1 h
  rcases List.mem_cons.1 ha with e1|ha1<;>rcases List.mem_cons.1 hb with e2|hb1
  ·rw [e1,e2]
  ·have:=h1.1 b hb1;rw [<-e1,zX.2 e]at this;omega
  ·have:=h1.1 a ha1;rw [<-e2,zX.2 e.symm]at this;omega
  ·exact ih h1.2 ha1 hb1
def kO (l:List Rn) (k:Int) (s:List UInt8):List UInt8:=
 match l.find? (λr=>decide (r.kind=k) && decide (r.old=s))with
 |some r=>r.new
 |none=>s
theorem aEt {l:List Rn}(h:l.Pairwise λa b=>aFs a b < 0) {r:Rn}(hr:r∈l):kO l r.kind r.old=r.new:=by
 unfold kO
 split
 ·rename_i q hq
  have h1:=List.mem_of_find?_eq_some hq
  have h2:=List.find?_some hq
  simp only [Bool.and_eq_true,decide_eq_true_eq]at h2
  rw [aRo h h1 hr (by unfold aFq;rw [h2.1,h2.2])]
 ·rename_i hq
  have:=List.find?_eq_none.1 hq r hr
  simp at this
theorem aBj {l:List Rn}{k:Int}{s:List UInt8}(h: ∀r∈l,aFq r≠(k,s)):kO l k s=s:=by
 unfold kO
 split
 ·rename_i q hq
  have h1:=List.mem_of_find?_eq_some hq
  have h2:=List.find?_some hq
  simp only [Bool.and_eq_true,decide_eq_true_eq]at h2
  exact absurd (by unfold aFq;rw [h2.1,h2.2]) (h q h1)
 ·rfl
theorem xO {l:List Rn}(h:l.Pairwise λa b=>aFs a b < 0) (k:Int) (s:List UInt8):(∃r∈l,aFq r=(k,s)/\kO l k s=r.new)\/((∀r∈l,aFq r≠(k,s))/\kO l k s=s):=by
 by_cases he: ∃r∈l,aFq r=(k,s)
 ·obtain⟨r,hr,e⟩:=he
  have:=aEt h hr
  have e':r.kind=k/\r.old=s:=by simpa [aFq]using e
  rw [e'.1,e'.2]at this
  exact .inl ⟨r,hr,e,this⟩
 ·have he: ∀r∈l,aFq r≠(k,s):= λr hr e=>he ⟨r,hr,e⟩
  exact .inr ⟨he,aBj he⟩
structure Comp (l m x:List Rn):Prop where
 str:x.Pairwise λa b=>aFs a b < 0
 mem: ∀r,r∈x↔r.new=kO m r.kind (kO l r.kind r.old)/\r.new≠r.old
theorem Comp.uniq {l m x y:List Rn}(h1:Comp l m x) (h2:Comp l m y):x=y:=wZ h1.str h2.str λr=>by rw [h1.mem,h2.mem]
theorem Comp.name {l m x:List Rn}(h:Comp l m x) (k:Int) (s:List UInt8):kO x k s=kO m k (kO l k s):=by
 rcases xO h.str k s with⟨r,hr,e,e2⟩|⟨hn,e2⟩
 ·have e':r.kind=k/\r.old=s:=by simpa [aFq]using e
  have:=((h.mem r).1 hr).1
  rw [e2,this,e'.1,e'.2]
 ·rw [e2]
  by_cases hs:kO m k (kO l k s)=s
  ·exact hs.symm
  ·exact absurd rfl (hn ⟨k,s,kO m k (kO l k s)⟩ ((h.mem _).2 ⟨rfl,hs⟩))
def aUp (r:Rn):Rn:=⟨r.kind,r.new,r.old⟩
theorem aHz (r:Rn):aUp (aUp r)=r:=rfl
structure Inv (l x:List Rn):Prop where
 str:x.Pairwise λa b=>aFs a b < 0
 mem: ∀r,r∈x↔aUp r∈l
theorem Inv.uniq {l x y:List Rn}(h1:Inv l x) (h2:Inv l y):x=y:=wZ h1.str h2.str λr=>by rw [h1.mem,h2.mem]
theorem Inv.back {l x y:List Rn}(hl:Good l) (h1:Inv l x) (h2:Inv x y):y=l:=wZ h2.str hl.str λr=>by rw [h2.mem,h1.mem,aHz]
theorem Inv.name {l x:List Rn}(hl:Good l) (h:Inv l x) {k:Int}{s:List UInt8}(hn:(∃r∈l,aFq r=(k,s))\/ ∀r∈l,aXb r≠(k,s)):kO x k (kO l k s)=s:=by
 rcases xO hl.str k s with⟨r,hr,e,e2⟩|⟨h1,e2⟩
 ·have e':r.kind=k/\r.old=s:=by simpa [aFq]using e
  have:=aEt h.str ((h.mem (aUp r)).2 (by rw [aHz];exact hr))
  rw [e2,<-e'.1,<-e'.2]
  exact this
 ·rw [e2]
  refine aBj λr hr e=> ?_
  have hr':=(h.mem r).1 hr
  rcases hn with⟨q,hq,e3⟩|hn
  ·exact h1 q hq e3
  ·exact hn (aUp r) hr' e
end Go.Proofs.YtdjfkmkdkclahaaGreatDoor
namespace Go.Proofs.YtdjfkmkdkclahaaGreatDoor
open Go.Proofs
def bM (a b:At):Int:=orF [aA7 a.kind b.kind,eG a.name b.name,eG a.x b.x,eG a.y b.y,aA7 a.lo b.lo,aA7 a.hi b.hi]
theorem bJ:LCk bM:=(LCk.int.of At.kind).lex ((LCk.str.of At.name).lex ((LCk.str.of At.x).lex ((LCk.str.of At.y).lex ((LCk.int.of At.lo).lex ((LCk.int.of At.hi).lex LCk.zero)))))
theorem dL {a b:At}:bM a b=0↔a=b:=by
 unfold bM
 simp only [aCw,aHv,gG,cM]
 cases a;cases b
 simp [orF]
section
variable {α:Type} {c:α->α->Int}
def bN (c:α->α->Int):List α->List α->Int
 | [],[]=>0
 | [],_::_=> -1
 |_::_,[]=>1
 |a::r,b::s=>if c a b≠0 then c a b else bN c r s
theorem aFi (h:LCk c): ∀l m,bN c l m= -1\/bN c l m=0\/bN c l m=1
 | [],[]=>by simp [bN]
 | [],_::_=>by simp [bN]
 |_::_,[]=>by simp [bN]
 |a::r,b::s=>by
  rw [bN]
  split
  ·exact h.rng a b
  ·exact aFi h r s
theorem iP (h:LCk c): ∀l m,bN c m l= - bN c l m
 | [],[]=>by simp [bN]
 | [],_::_=>by simp [bN]
 |_::_,[]=>by simp [bN]
 |a::r,b::s=>by
  have h1:=h.anti a b
  have h2:=iP h r s
  rw [bN,bN]
  split<;>split<;>omega
theorem aIg (h:LCk c): ∀l m k,aGz (bN c) l m k
 | [],[],[]=>by simp [aGz,bN]
 | [],[],_::_=>by simp [aGz,bN]
 | [],_::_,[]=>by simp [aGz,bN]
 | [],_::_,_::_=>by simp [aGz,bN]
 |_::_,[],[]=>by simp [aGz,bN]
 |_::_,[],_::_=>by simp [aGz,bN]
 |_::_,_::_,[]=>by simp [aGz,bN]
 |a::r,b::s,d::t=>by
  have ih:=aIg h r s t
  have a1:=h.t3 a b d
  have a2:=h.t3 b d a
  have a3:=h.t3 d a b
  have r1:=h.rng a b
  have r2:=h.rng b d
  have r3:=h.rng a d
  have n1:=h.anti a b
  have n2:=h.anti b d
  have n3:=h.anti a d
  unfold aGz at *
  simp only [bN]
  refine⟨?_, ?_, ?_⟩<;>(split<;>split<;>split<;>omega)
theorem eV (h:LCk c):LCk (bN c):=⟨aFi h,iP h,aIg h⟩
theorem aBt (h: ∀a b,c a b=0↔a=b): ∀l m,bN c l m=0↔l=m
 | [],[]=>by simp [bN]
 | [],_::_=>by simp [bN]
 |_::_,[]=>by simp [bN]
 |a::r,b::s=>by
  have h1:=h a b
  have h2:=aBt h r s
  rw [bN,List.cons.injEq]
  split
  ·rename_i h3
   exact⟨λe=>absurd e h3,λe=>absurd (h1.2 e.1) h3⟩
  ·rename_i h3
   rw [h2]
   have h3:c a b=0:=by simpa using h3
   exact⟨λe=>⟨h1.1 h3,e⟩,λe=>e.2⟩
theorem LCk.le_tr (h:LCk c) {x y z:α}(h1:c x y<=0) (h2:c y z<=0):c x z<=0:=by
 have a:=h.t3 x y z
 have r1:=h.rng x y
 have r2:=h.rng y z
 have r3:=h.rng x z
 unfold aGz at a
 obtain⟨a1,a2,a3⟩:=a
 omega
theorem LCk.refl (h:LCk c) (x:α):c x x=0:=by
 have:=h.anti x x
 omega
def aJp (c:α->α->Int) (a:α):List α->List α
 | []=>[a]
 |b::r=>if c a b<=0 then a::b::r else b::aJp c a r
def aE7 (c:α->α->Int):List α->List α
 | []=>[]
 |a::r=>aJp c a (aE7 c r)
theorem zA (a:α): ∀l,(aJp c a l).Perm (a::l)
 | []=> .refl _
 |b::r=>by
  rw [aJp]
  split
  ·exact .refl _
  ·exact((zA a r).cons b).trans (List.Perm.swap ..)
theorem lG: ∀l,(aE7 c l).Perm l
 | []=> .refl _
 |a::r=>(zA a _).trans ((lG r).cons a)
def Sle (c:α->α->Int) (l:List α):Prop:=l.Pairwise λa b=>c a b<=0
theorem yZ (h:LCk c) (a:α): ∀{l:List α},Sle c l->Sle c (aJp c a l)
 | [],_=>by simp [aJp,Sle]
 |b::r,hs=>by
  obtain⟨h1,h2⟩:=List.pairwise_cons.1 hs
  rw [aJp]
  split
  ·rename_i hab
   refine List.pairwise_cons.2 ⟨λx hx=> ?_,hs⟩
   rcases List.mem_cons.1 hx with rfl|hx
   ·exact hab
   ·exact h.le_tr hab (h1 x hx)
  ·rename_i hab
   refine List.pairwise_cons.2 ⟨λx hx=> ?_,yZ h a h2⟩
   rcases List.mem_cons.1 ((zA a r).mem_iff.1 hx)with rfl|hx
   ·have:=h.anti b x
    omega
   ·exact h1 x hx
theorem eY (h:LCk c): ∀l,Sle c (aE7 c l)
 | []=> .nil
 |a::r=>yZ h a (eY h r)
theorem aCg (h:LCk c) (hz: ∀a b,c a b=0->a=b): ∀{l m:List α},l.Perm m->Sle c l->Sle c m->l=m
 | [],m,hp,_,_=>hp.nil_eq
 |a::r,[],hp,_,_=>absurd hp.length_eq (by simp)
 |a::r,b::s,hp,hl,hm=>by
  obtain⟨l1,l2⟩:=List.pairwise_cons.1 hl
  obtain⟨m1,m2⟩:=List.pairwise_cons.1 hm
  have hab:a=b:=by
   have ha:a∈b::s:=hp.mem_iff.1 List.mem_cons_self
   have hb:b∈a::r:=hp.mem_iff.2 List.mem_cons_self
   rcases List.mem_cons.1 ha with e|ha
   ·exact e
   ·rcases List.mem_cons.1 hb with e|hb
    ·exact e.symm
    ·have h1:=l1 b hb
     have h2:=m1 a ha
     have h3:=h.anti a b
     exact hz a b (by omega)
  subst hab
  rw [aCg h hz (List.perm_cons a |>.1 hp) l2 m2]
inductive Ptw (c:α->α->Int):List α->List α->Prop
 |nil:Ptw c [] []
 |cons {a b:α} {l m:List α} (h:c a b<=0) (t:Ptw c l m):Ptw c (a::l) (b::m)
theorem aF2 (h:LCk c) {a:α}{l:List α}(hs:Sle c (a::l)):aJp c a l=a::l:=by
 cases l with
 |nil=>rfl
 |cons b r=>rw [aJp,if_pos ((List.pairwise_cons.1 hs).1 b List.mem_cons_self)]
theorem wJ (h:LCk c): ∀{l m:List α},Ptw c l m->Sle c l->Sle c m-> ∀{a b:α},c a b<=0->Ptw c (aJp c a l) (aJp c b m)
 |_,_, .nil,_,_,a,b,hab=> .cons hab .nil
 |_,_, .cons (a:=s) (b:=t) (l:=S) (m:=T) hst ht,hl,hm,a,b,hab=>by
  obtain⟨_,l2⟩:=List.pairwise_cons.1 hl
  obtain⟨_,m2⟩:=List.pairwise_cons.1 hm
  rw [aJp,aJp]
  split
  ·rename_i h1
   split
   ·exact .cons hab (.cons hst ht)
   ·rename_i h2
    refine .cons (h.le_tr h1 hst) ?_
    rw [<-aF2 h hl]
    refine wJ h ht l2 m2 ?_
    have:=h.anti b t
    exact h.le_tr hst (by omega)
  ·rename_i h1
   split
   ·rename_i h2
    have:=h.anti a s
    refine .cons (h.le_tr (by omega:c s a<=0) hab) ?_
    rw [<-aF2 h hm]
    exact wJ h ht l2 m2 (h.le_tr hab h2)
   ·exact .cons hst (wJ h ht l2 m2 hab)
theorem aE6 (h:LCk c): ∀{l m:List α},Ptw c l m->Ptw c (aE7 c l) (aE7 c m)
 |_,_, .nil=> .nil
 |_,_, .cons h1 ht=>wJ h (aE6 h ht) (eY h _) (eY h _) h1
theorem aQh (h:LCk c): ∀{l m:List α},Ptw c l m->bN c l m<=0
 |_,_, .nil=>by simp [bN]
 |_,_, .cons (a:=a) (b:=b) h1 ht=>by
  have ih:=aQh h ht
  rw [bN]
  split<;>omega
theorem aGd {β:Type}{f g:β->α}: ∀(l:List β),(∀x∈l,c (f x) (g x)<=0)->Ptw c (l.map f) (l.map g)
 | [],_=> .nil
 |a::r,h=> .cons (h a List.mem_cons_self) (aGd r λx hx=>h x (List.mem_cons_of_mem _ hx))
end
end Go.Proofs.YtdjfkmkdkclahaaGreatDoor
namespace Go.Proofs.YtdjfkmkdkclahaaGreatDoor
open Go.Proofs
abbrev bZ:=List UInt8
def nmV (k:Nat):bZ:=[63,118,UInt8.ofNat (48+k)]
theorem aQm: ∀j k:Nat,j<=k->k<=9->eG (nmV j) (nmV k)<=0:=by
 have h: ∀j:Fin 10,∀k:Fin 10,j.1<=k.1->eG (nmV j.1) (nmV k.1)<=0:=by decide+kernel
 exact λj k h1 h2=>h ⟨j,by omega⟩ ⟨k,by omega⟩ h1
theorem aSe: ∀j k:Nat,j<=9->k<=9->nmV j=nmV k->j=k:=by
 have h: ∀j:Fin 10,∀k:Fin 10,nmV j.1=nmV k.1->j.1=k.1:=by decide+kernel
 exact λj k h1 h2=>h ⟨j,by omega⟩ ⟨k,by omega⟩
def gV:List bZ->List bZ->bZ->bZ
 |v::H,t::T,s=>if s=v then t else gV H T s
 |_,_,s=>s
def rpA (g:bZ->bZ) (a:At):At:=⟨a.kind,a.name,g a.x,g a.y,a.lo,a.hi⟩
theorem aWm {T T':List bZ}(h:Ptw eG T T'): ∀(H:List bZ) (s:bZ),eG (gV H T s) (gV H T' s)<=0:=by
 induction h with
 |nil=>
  intro H s
  cases H<;>exact Int.le_of_eq ((cM s s).2 rfl)
 |cons h1 ht ih=>
  intro H s
  cases H with
  |nil=>exact Int.le_of_eq ((cM s s).2 rfl)
  |cons v H=>
   rw [gV,gV]
   split
   ·exact h1
   ·exact ih H s
theorem aU3 {g g':bZ->bZ}(h: ∀s,eG (g s) (g' s)<=0) (a:At):bM (rpA g a) (rpA g' a)<=0:=by
 have h1:=h a.x
 have h2:=h a.y
 unfold bM rpA
 simp only [aCw]
 rw [gG.2 rfl,gG.2 rfl,gG.2 rfl,(cM a.name a.name).2 rfl]
 unfold lex
 simp only [ne_eq,not_true_eq_false,if_false]
 split
 ·exact h1
 ·split
  ·exact h2
  ·simp [orF]
abbrev Asg:=List (Option Nat)
def fP (a:Asg) (n:Nat):List bZ:=a.map λo=>nmV (o.getD (n+1))
def yOf (P:List At) (H:List bZ) (a:Asg) (n:Nat):List At:=aE7 bM (P.map (rpA (gV H (fP a n))))
theorem aXh {P:List At}{H:List bZ}{a a':Asg}{n n':Nat}(h:Ptw eG (fP a n) (fP a' n')):bN bM (yOf P H a n) (yOf P H a' n')<=0:=
 aQh bJ (aE6 bJ (aGd P λx _=>aU3 (aWm h H) x))
theorem aDv {n:Nat}(hn:n+2<=9): ∀(a:Asg) (i:Nat),a[i]? =some none->Ptw eG (fP a n) (fP (a.set i (some (n+1))) (n+1))
 | [],i,h=>by simp at h
 |o::r,i,h=>by
  have rest: ∀r:Asg,Ptw eG (fP r n) (fP r (n+1)):= λr=>aGd r λo _=>by
   cases o with
   |none=>exact aQm _ _ (by simp) (by simpa using hn)
   |some k=>exact Int.le_of_eq ((cM _ _).2 rfl)
  cases i with
  |zero=>
   have h:o=none:=by simpa using h
   subst h
   exact .cons (Int.le_of_eq ((cM _ _).2 rfl)) (rest r)
  |succ i=>
   refine .cons ?_ (aDv hn r i (by simpa using h))
   cases o with
   |none=>exact aQm _ _ (by simp) (by simpa using hn)
   |some k=>exact Int.le_of_eq ((cM _ _).2 rfl)
inductive Compl (N:Nat):Nat->Asg->Asg->Prop
 |done (a:Asg):Compl N N a a
 |step {n:Nat} {a a':Asg} (i:Nat) (hn:n < N) (hi:a[i]? =some none) (h:Compl N (n+1) (a.set i (some (n+1))) a'):Compl N n a a'
theorem aPq {N n:Nat}{a a':Asg}{P:List At}{H:List bZ}(hN:N<=8) (h:Compl N n a a'):bN bM (yOf P H a n) (yOf P H a' N)<=0:=by
 induction h with
 |done a=>exact Int.le_of_eq ((eV bJ).refl _)
 |step i hn hi h ih=>exact(eV bJ).le_tr (aXh (aDv (by omega) _ i hi)) ih
section
variable (P:List At) (H:List bZ)
def aSz (y:List At):Option (List At)->Bool
 |some b=>decide (0<=bN bM y b)
 |none=>false
def dfs:Nat->Nat->Asg->Option (List At)->Option (List At)
 | 0,n,a,best=>if aSz (yOf P H a n) best=true then best else some (yOf P H a n)
 |f+1,n,a,best=>if aSz (yOf P H a n) best=true then best else (List.range a.length).foldl (λbest i=>if a[i]? =some none then dfs f (n+1) (a.set i (some (n+1))) best else best) best
structure Fnd (L:List At->Prop) (best r:Option (List At)):Prop where
 or:r=best\/ ∃y,L y/\r=some y
 le: ∀y,L y-> ∃b,r=some b/\bN bM b y<=0
 keep: ∀b,best=some b-> ∃b',r=some b'/\bN bM b' b<=0
theorem Fnd.none {L:List At->Prop}{best:Option (List At)}(h: ∀y,¬ L y):Fnd L best best:=⟨.inl rfl,λy hy=>absurd hy (h y),λb hb=>⟨b,hb,Int.le_of_eq ((eV bJ).refl _)⟩⟩
theorem Fnd.seq {L L':List At->Prop}{b r r':Option (List At)}(h:Fnd L b r) (h':Fnd L' r r'):Fnd (λy=>L y\/L' y) b r':=by
 refine⟨?_,λy hy=> ?_,λx hx=> ?_⟩
 ·rcases h'.or with e|⟨y,hy,e⟩
  ·rcases h.or with e2|⟨y,hy,e2⟩
   ·exact .inl (e.trans e2)
   ·exact .inr ⟨y, .inl hy,e.trans e2⟩
  ·exact .inr ⟨y, .inr hy,e⟩
 ·rcases hy with hy|hy
  ·obtain⟨b1,e1,l1⟩:=h.le y hy
   obtain⟨b2,e2,l2⟩:=h'.keep b1 e1
   exact⟨b2,e2,(eV bJ).le_tr l2 l1⟩
  ·exact h'.le y hy
 ·obtain⟨b1,e1,l1⟩:=h.keep x hx
  obtain⟨b2,e2,l2⟩:=h'.keep b1 e1
  exact⟨b2,e2,(eV bJ).le_tr l2 l1⟩
theorem Fnd.iff {L L':List At->Prop}{b r:Option (List At)}(h:Fnd L b r) (e: ∀y,L y↔L' y):Fnd L' b r:=
 ⟨h.or.imp id λ⟨y,hy,e'⟩=>⟨y,(e y).1 hy,e'⟩,λy hy=>h.le y ((e y).2 hy),h.keep⟩
theorem Fnd.cut {L:List At->Prop}{best:Option (List At)}{y:List At}(hc:aSz y best=true) (hl: ∀z,L z->bN bM y z<=0):Fnd L best best:=by
 cases best with
 |none=>cases hc
 |some b=>
  have hb:0<=bN bM y b:=of_decide_eq_true hc
  have ha:=iP bJ y b
  exact⟨.inl rfl,λz hz=>⟨b,rfl,(eV bJ).le_tr (by omega) (hl z hz)⟩,λx hx=>⟨x,hx,Int.le_of_eq ((eV bJ).refl _)⟩⟩
def aEw (N n:Nat) (a:Asg) (y:List At):Prop:= ∃a',Compl N n a a'/\y=yOf P H a' N
theorem aI4 {N n:Nat}{a:Asg}{g:Nat->Option (List At)->Option (List At)}(hg: ∀i,a[i]? =some none-> ∀best,Fnd (aEw P H N (n+1) (a.set i (some (n+1)))) best (g i best)):
  ∀(l:List Nat) (best:Option (List At)),Fnd (λy=> ∃i∈l,a[i]? =some none/\aEw P H N (n+1) (a.set i (some (n+1))) y) best (l.foldl (λbest i=>if a[i]? =some none then g i best else best) best)
 | [],best=> .none λy ⟨i,hi,_⟩=>by cases hi
 |i::r,best=>by
  have ih:= λb=>aI4 hg r b
  rw [List.foldl_cons]
  by_cases h:a[i]? =some none
  ·rw [if_pos h]
   refine(Fnd.seq (hg i h best) (ih _)).iff λy=> ?_
   constructor
   ·rintro(h1|⟨j,hj,h1⟩)
    ·exact⟨i,List.mem_cons_self,h,h1⟩
    ·exact⟨j,List.mem_cons_of_mem _ hj,h1⟩
   ·rintro⟨j,hj,h1,h2⟩
    rcases List.mem_cons.1 hj with rfl|hj
    ·exact .inl h2
    ·exact .inr ⟨j,hj,h1,h2⟩
  ·rw [if_neg h]
   refine(ih best).iff λy=> ?_
   constructor
   ·rintro⟨j,hj,h1⟩
    exact⟨j,List.mem_cons_of_mem _ hj,h1⟩
   ·rintro⟨j,hj,h1,h2⟩
    rcases List.mem_cons.1 hj with rfl|hj
    ·exact absurd h1 h
    ·exact⟨j,hj,h1,h2⟩
theorem aMm {N:Nat}(hN:N<=8): ∀(f n:Nat) (a:Asg) (best:Option (List At)),f+n=N->Fnd (aEw P H N n a) best (dfs P H f n a best)
 | 0,n,a,best,hf=>by
  obtain rfl:n=N:=by omega
  have hl: ∀z,aEw P H n n a z↔z=yOf P H a n:=by
   intro z
   constructor
   ·rintro⟨a',h,rfl⟩
    cases h with
    |done=>rfl
    |step i hn _ _=>omega
   ·rintro rfl
    exact⟨a, .done a,rfl⟩
  rw [dfs]
  split
  ·rename_i hc
   exact Fnd.cut hc λz hz=>by
    rw [(hl z).1 hz];exact Int.le_of_eq ((eV bJ).refl _)
  ·rename_i hc
   refine⟨.inr ⟨_,(hl _).2 rfl,rfl⟩,λz hz=>⟨_,rfl, ?_⟩,λb hb=>⟨_,rfl, ?_⟩⟩
   ·rw [(hl z).1 hz];exact Int.le_of_eq ((eV bJ).refl _)
   ·subst hb
    have:¬ 0<=bN bM (yOf P H a n) b:= λh=>hc (decide_eq_true h)
    omega
 |f+1,n,a,best,hf=>by
  rw [dfs]
  split
  ·rename_i hc
   exact Fnd.cut hc λz ⟨a',h,e⟩=>by rw [e];exact aPq hN h
  ·refine(aI4 P H (N:=N) (n:=n) (a:=a) (g:= λi b=>dfs P H f (n+1) (a.set i (some (n+1))) b) (λi hi b=>aMm hN f (n+1) _ b (by omega)) (List.range a.length) best).iff λy=> ?_
   constructor
   ·rintro⟨i,_,hi,a',h,e⟩
    exact⟨a', .step i (by omega) hi h,e⟩
   ·rintro⟨a',h,e⟩
    cases h with
    |done=>omega
    |step i hn hi h=>
     exact⟨i,List.mem_range.2 (List.getElem?_eq_some_iff.1 hi).1,hi,a',h,e⟩
end
end Go.Proofs.YtdjfkmkdkclahaaGreatDoor
