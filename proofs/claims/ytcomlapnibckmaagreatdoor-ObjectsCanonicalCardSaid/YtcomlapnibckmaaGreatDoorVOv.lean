/-
  Objects: the types that come in. Readers that do not stop: a flag says that something was wrong; plain. Objects: a writer's contract, over its own two objects alone; how it is used. Objects: the writer writes octets, numbers, texts and digests.
  Conditions: none.
-/
import Derived.Test.YtcomlapnibckmaaGreatDoorVSyi
import Derived.Test.YtcomlapnibckmaaGreatDoorVOt
import Derived.Test.YtcomlapnibckmaaGreatDoorVOl
import Derived.Test.YtcomlapnibckmaaGreatDoorVOn
import Derived.Test.YtcomlapnibckmaaGreatDoorVSw
set_option linter.unnecessarySimpa false
set_option linter.unusedSectionVars false
set_option linter.unusedSimpArgs false
set_option linter.unusedVariables false
set_option maxHeartbeats 16000000
namespace Go.Proofs.YtcomlapnibckmaaGreatDoor
open Go.Proofs Go.RowKit
set_option maxRecDepth 100000
theorem aE4:Tryz.prog.underlying 26=some (.slice 5):=by kernel_rfl
theorem aI0:Tryz.prog.underlying 5=some (.int .u8):=by kernel_rfl
theorem aIo:Tryz.prog.cellsOf 5=1:=by kernel_rfl
def TX:List TypeId:=41::39::37::26::5::TT
theorem clX:Cl Tryz.prog (· ∈TX):=aIn (by kernel_rfl)
theorem aC3 {n:Nat}{ds:List D}(h:TyD Tryz.prog n 26 ds): ∃b:List UInt8,aC4 Tryz.prog 26 ds= .d (.sl 1 (b.map bC)):=by
 obtain⟨m,rfl,rows,rfl,hn,hr⟩:=aAj aE4 h
 obtain⟨b,rfl⟩:=aAu (f:=bC) (λr hr=>by obtain⟨c,rfl⟩:=aGk aI0 hr;exact⟨c,rfl⟩) rows hr
 exact⟨b,by simp only [aC4,aE4,aIo]⟩
end Go.Proofs.YtcomlapnibckmaaGreatDoor
namespace Go.Proofs.YtcomlapnibckmaaGreatDoor
open Go.Proofs
abbrev RS:=List UInt8×Bool
abbrev Tr (α:Type):=RS->α×RS
section
variable {α β:Type}
def aJ2 (t:Tr α) (f:α->β):Tr β:= λs=>(f (t s).1,(t s).2)
def aF4 (t:Tr α) (f:α->Tr β):Tr β:= λs=>f (t s).1 (t s).2
structure Sim (t:Tr α) (r:Rd α):Prop where
 bad: ∀b,(t (b,true)).2.2=true
 ok: ∀b x c,r b=some (x,c)->t (b,false)=(x,(c,false))
 no: ∀b,r b=none->(t (b,false)).2.2=true
theorem Sim.map {t:Tr α}{r:Rd α}(h:Sim t r) (f:α->β):Sim (aJ2 t f) (mG r f):=by
 refine⟨λb=>h.bad b,λb x c e=> ?_,λb e=> ?_⟩
 ·obtain⟨y,h1,rfl⟩:=wX e
  unfold aJ2;rw [h.ok b y c h1]
 ·refine h.no b ?_
  unfold mG at e
  exact Option.map_eq_none_iff.1 e
theorem Sim.bind {t:Tr α}{r:Rd α}{f:α->Tr β}{g:α->Rd β}(h:Sim t r) (k: ∀x,Sim (f x) (g x)):Sim (aF4 t f) (cA r g):=by
 have kb: ∀x (s:RS),s.2=true->(f x s).2.2=true:=by
  rintro x ⟨b,d⟩ hs
  have hs:d=true:=hs
  subst hs
  exact(k x).bad b
 refine⟨λb=>kb _ _ (h.bad b),λb x c e=> ?_,λb e=> ?_⟩
 ·obtain⟨y,d,h1,h2⟩:=aB2 e
  unfold aF4;rw [h.ok b y d h1]
  exact(k y).ok d x c h2
 ·cases h1:r b with
  |none=>exact kb _ _ (h.no b h1)
  |some p=>
   obtain⟨y,d⟩:=p
   rw [bQ h1]at e
   unfold aF4;rw [h.ok b y d h1]
   exact(k y).no d e
end
end Go.Proofs.YtcomlapnibckmaaGreatDoor
namespace Go.Proofs.YtcomlapnibckmaaGreatDoor
open Go.Proofs Go.RowKit
set_option maxRecDepth 10000
attribute [local irreducible] aN aH Tri aF YVC cM bB
theorem aIc {i j:Nat}{h1 hp:Hp}{x y o u o' u':HObj}(hij:i≠j) (hx:aO hp i=some x) (hy:aO hp j=some y) (ho:aO h1 3=some o) (hu:aO h1 4=some u) (hs:o.sim/\u.sim) (hr:¬ o.Rd/\¬ u.Rd) (hi:(∀k∈o.ids,k∈[3,4])/\ ∀k∈u.ids,k∈[3,4])
  (he:o.ren (λk=>if k=3 then i else j)=o') (he':u.ren (λk=>if k=3 then i else j)=u'):Left (λk=>if k=3 then i else j) [3,4] h1 hp (fI (fI hp i o') j u'):=by
 have hy':aO (fI hp i o') j=some y:=by rw [aZ o' hx,if_neg (Ne.symm hij)];exact hy
 refine⟨λk hk=> ?_,λk z hz=> ?_⟩
 ·have hk:k=3\/k=4:=by simpa using hk
  rcases hk with rfl|rfl
  ·refine⟨o,ho,hs.1,hr.1,hi.1, ?_⟩
   show aO (fI (fI hp i o') j u') i=_
   rw [aZ u' hy',if_neg hij,aZ o' hx,if_pos rfl,he]
  ·refine⟨u,hu,hs.2,hr.2,hi.2, ?_⟩
   show aO (fI (fI hp i o') j u') j=_
   rw [aZ u' hy',if_pos rfl,he']
 ·rw [aZ u' hy']at hz
  split at hz
  ·rename_i e;exact .inl ⟨4,by simp,by rw [e];rfl⟩
  ·rw [aZ o' hx]at hz
   split at hz
   ·rename_i e;exact .inl ⟨3,by simp,by rw [e];rfl⟩
   ·exact .inr hz
theorem aHf {i j:Nat}{hp:Hp}{x y o u:HObj}(hij:i≠j) (hx:aO hp i=some x) (hy:aO hp j=some y) (he:o.ren (λk=>if k=3 then i else j)=x) (he':u.ren (λk=>if k=3 then i else j)=y) (hs:o.sim/\u.sim):Among (λk=>if k=3 then i else j) [3,4] [(3,o),(4,u)] hp:=by
 have key: ∀k z,aO [(3,o),(4,u)] k=some z->k=3/\z=o\/k=4/\z=u:=by
  intro k z h
  simp only [aO]at h
  split at h
  ·rename_i e;injection h with h;exact .inl ⟨e.symm,h.symm⟩
  ·split at h
   ·rename_i e;injection h with h;exact .inr ⟨e.symm,h.symm⟩
   ·cases h
 refine⟨λk z h=> ?_,λk z k' z' h h' e=> ?_,λk hk=> ?_,λk z h=> ?_⟩
 ·rcases key k z h with⟨rfl,rfl⟩|⟨rfl,rfl⟩
  ·exact⟨by rw [he];exact hx,hs.1⟩
  ·exact⟨by rw [he'];exact hy,hs.2⟩
 ·rcases key k z h with⟨rfl,rfl⟩|⟨rfl,rfl⟩<;>rcases key k' z' h' with⟨rfl,rfl⟩|⟨rfl,rfl⟩
  ·rfl
  ·exact absurd e hij
  ·exact absurd e (Ne.symm hij)
  ·rfl
 ·have hk:k=3\/k=4:=by simpa using hk
  rcases hk with rfl|rfl
  ·exact⟨o,by simp [aO]⟩
  ·exact⟨u,by simp [aO]⟩
 ·rcases key k z h with⟨rfl,rfl⟩|⟨rfl,rfl⟩
  ·exact .inl (by simp)
  ·exact .inl (by simp)
abbrev wrC (j:Nat) (p:List UInt8):HObj:= .cells 88 [.osl j 1 (p.map bC)]
abbrev wrB (p:List UInt8):HObj:= .own 5 1 (p.map bC).length
abbrev aJd:Pin:=⟨[3,4],λ_ _=>False,[]⟩
def WrT (f:FuncId) (ex:List SV) (out:List UInt8):Prop:= ∀p:List UInt8,p.length+out.length<=100000000000000->
 aH Tryz.prog aJd [] [(3,wrC 4 p),(4,wrB p)] f (.ptr 3 0::ex) (λs h=>s= .tup []/\aO h 3=some (wrC 4 (p++out))/\aO h 4=some (wrB (p++out)))
theorem WrT.call {f:FuncId}{ex:List SV}{out:List UInt8}(h:WrT f ex out) (hx:SV.idsL ex=[]) {pin:Pin}{fr:Fr}{hp:Hp}{i j:Nat}{K:SV->Hp->Prop}(p:List UInt8) (hb:p.length+out.length<=100000000000000) (hij:i≠j) (hg:aO hp i=some (wrC j p)) (hg':aO hp j=some (wrB p))
  (hok:dK hp i (wrC j (p++out)) λh=>dK h j (wrB (p++out)) (K (.tup []))):aH Tryz.prog pin fr hp f (.ptr i 0::ex) K:=by
 have hs: ∀(p:List UInt8),(wrC 4 p).sim:= λp s hs=>by simp at hs;subst hs;trivial
 have hi: ∀(p:List UInt8),∀k∈(wrC 4 p).ids,k∈[3,4]:= λp k hk=>by simp [HObj.ids,SV.idsL,SV.ids]at hk;simp [hk]
 refine lF (λk=>if k=3 then i else j) [3,4] [(3,wrC 4 p),(4,wrB p)] (h p hb) (aHf hij hg hg' rfl rfl ⟨hs p,trivial⟩) (λk hk=>hk) (by rw [List.map_cons,sB hx];rfl) ?_ ?_ ?_
 ·intro s hs
  rcases List.mem_cons.1 hs with rfl|hs
  ·trivial
  ·exact rZ hx s hs
 ·rintro s h1 ⟨rfl,e2,e3⟩
  have hnone: ∀k∈SV.ids (SV.tup []),k∈[3,4]:=by
   intro k hk
   cases hk
  refine⟨rfl,hnone,_,aIc hij hg hg' e2 e3 ⟨hs _,trivial⟩ ⟨λh=>h,λh=>h⟩ ⟨hi _,λk hk=>by cases hk⟩ rfl rfl, ?_⟩
  rw [cN,cN]at hok
  exact hok
 ·exact λh1 h2=>h2.elim
end Go.Proofs.YtcomlapnibckmaaGreatDoor
namespace Go.Proofs.YtcomlapnibckmaaGreatDoor
open Go.Proofs Go.RowKit
set_option maxRecDepth 10000
attribute [local irreducible] aN aH Tri aF YVC cM bB
theorem mX (n:Nat):(((UInt8.ofNat (n % 256)).toNat:Nat):Int)=((n % 256:Nat):Int):=by simp
theorem aIp (z:Int):IntKind.u8.wrap z=(((UInt8.ofNat (uN z % 256)).toNat:Nat):Int):=by
 rw [mX]
 have e3: ∀k:Int,IntKind.u8.wrap k=k % 256:= λk=>rfl
 rw [e3]
 unfold uN
 omega
theorem mS {n:Nat}(h:n<=100000000000000):uN (n:Int)=n:=by unfold uN;omega
theorem aBc (p q:List UInt8):(p++q).map bC=p.map bC++q.map bC:=List.map_append ..
theorem aFn (p q:List UInt8):((p++q).map bC).length=(p.map bC).length+(q.map bC).length:=by rw [aBc,List.length_append]
theorem jZ (p:List UInt8):(p.map bC).length=p.length:=List.length_map ..
theorem nT (j:Nat) (p q:List UInt8):wrC j (p++q)= .cells 88 [.osl j 1 (p.map bC++q.map bC)]:=by rw [<-aBc]
theorem nU (p q:List UInt8):wrB (p++q)= .own 5 1 ((p.map bC).length+(q.map bC).length):=by rw [<-aFn]
theorem iQ (z:Int):WrT 89 [.d (.int .i64 z)] (uY z):=by
 intro p hp
 have hl:(uY z).length=1:=aT ..
 have hml:=jZ p
 have hb63:(p.map bC).length+1<=9223372036854775807:=by rw [hml];omega
 have hb48:((p.map bC).length+1)* 1<=140737488355328:=by rw [hml];omega
 refine aI false [] hty Tryz.func89 rfl (kp [0,1]) 100 (by simp [Tryz.f89]) ?_
 ((conv=>whnf);repeat ((first|(refine And.intro hb63 ?_)|(refine And.intro hb48 ?_)|(intro hq;try simp only [lnS]at hq)|refine sI ?_|refine .intro _ (.intro rfl ?_));(conv=>whnf)))
 rw [aIp]
 rw [nT,nU]
 exact⟨rfl,rfl⟩
theorem aFw (n j:Nat) (h:j < 8):(beN 8 n).take (j+1)=(beN 8 n).take j++[UInt8.ofNat (n / 2 ^ (56 - 8 * j) % 256)]:=by
 have e:j=0\/j=1\/j=2\/j=3\/j=4\/j=5\/j=6\/j=7:=by omega
 rw [aJh]
 rcases e with rfl|rfl|rfl|rfl|rfl|rfl|rfl|rfl<;>rfl
theorem aFx (n j:Nat) (h:j < 4):(beN 4 n).take (j+1)=(beN 4 n).take j++[UInt8.ofNat (n / 2 ^ (24 - 8 * j) % 256)]:=by
 have e:j=0\/j=1\/j=2\/j=3:=by omega
 rw [aJi]
 rcases e with rfl|rfl|rfl|rfl<;>rfl
theorem aH9 (z:Int) (s:Nat) (hs:s<=64):IntKind.u8.wrap ((IntKind.u64.wrap z).fdiv (2 ^ (min (s:Int).toNat IntKind.u64.bits)))=(((UInt8.ofNat (uN z / 2 ^ s % 256)).toNat:Nat):Int):=by
 rw [aFv z s hs,mX]
theorem fN (z:Int):WrT 88 [.d (.int .i64 z)] (beN 4 (uN z)):=by
 intro p hp
 have hl:(beN 4 (uN z)).length=4:=aT ..
 refine aI false [] hty Tryz.func88 rfl (kp [0,1,4,6]) 100 (by simp [Tryz.f88]) ?_
 ((conv=>whnf);repeat ((first|(intro hq;try simp only [lnS]at hq)|refine sI ?_|refine .intro _ (.intro rfl ?_));(conv=>whnf)))
 refine aQ hty (λj:Nat=>([(0, .ptr 3 0),(1, .d (.int .i64 z)),(4, .d (.int .i64 (24 - 8 * (j:Int))))],[(3,wrC 4 (p++(beN 4 (uN z)).take j)),(4,wrB (p++(beN 4 (uN z)).take j))])) (λj=>j<=4) (λj=>4 - j) 0 (by omega) ⟨by repeat' (first|exact trivial|exact rfl|refine And.intro ?_ ?_),by rw [List.take_zero,List.append_nil];exact⟨rfl,rfl,trivial⟩⟩ ?_
 intro j hj
 have hml:=jZ (p++(beN 4 (uN z)).take j)
 rw [List.length_append,List.length_take]at hml
 have hb63:((p++(beN 4 (uN z)).take j).map bC).length+1<=9223372036854775807:=by rw [hml];omega
 have hb48:(((p++(beN 4 (uN z)).take j).map bC).length+1)* 1<=140737488355328:=by rw [hml];omega
 ((conv=>whnf);repeat ((first|(intro hq;try simp only [lnS]at hq)|refine sI ?_|refine .intro _ (.intro rfl ?_));(conv=>whnf)))
 refine aB (λh1=> ?_) (λh1=> ?_)
 ·have hj4:j < 4:=by omega
  have hs:(24 - 8 * (j:Int))=((24 - 8 * j:Nat):Int):=by omega
  have hbt:=aH9 z (24 - 8 * j) (by omega)
  have hnx:=aFx (uN z) j hj4
  dsimp only
  rw [hs]
  ((conv=>whnf);repeat ((first|(intro hq;try simp only [lnS]at hq)|refine sI ?_|refine .intro _ (.intro rfl ?_));(conv=>whnf)))
  refine sM hty [0,1,2,3,4,5,6,7,8,9,10,11,12,13,14] (by kernel_rfl) (by kernel_rfl) ?_
  ((conv=>whnf);repeat ((first|(refine And.intro hb63 ?_)|(refine And.intro hb48 ?_)|(intro hq;try simp only [lnS]at hq)|refine sI ?_|refine .intro _ (.intro rfl ?_));(conv=>whnf)))
  rw [hbt,show ((24 - 8 * j:Nat):Int) - 8=24 - 8 * ((j+1:Nat):Int)by omega]
  refine⟨j+1,by dsimp only;omega,by dsimp only;omega, ?_⟩
  dsimp only
  rw [hnx,<-List.append_assoc,nT,nU]
  exact⟨by repeat' (first|exact trivial|exact rfl|refine And.intro ?_ ?_),by repeat' (first|exact trivial|exact rfl|refine And.intro ?_ ?_)⟩
 ·have hj4:j=4:=by omega
  subst hj4
  rw [List.take_of_length_le (by rw [hl];exact Nat.le_refl _)]
  ((conv=>whnf);repeat ((first|(intro hq;try simp only [lnS]at hq)|refine sI ?_|refine .intro _ (.intro rfl ?_));(conv=>whnf)))
  exact rfl
theorem eP (z:Int):WrT 91 [.d (.int .i64 z)] (beN 8 (uN z)):=by
 intro p hp
 have hl:(beN 8 (uN z)).length=8:=aT ..
 refine aI false [] hty Tryz.func91 rfl (kp [0,1,4,6]) 100 (by simp [Tryz.f91]) ?_
 ((conv=>whnf);repeat ((first|(intro hq;try simp only [lnS]at hq)|refine sI ?_|refine .intro _ (.intro rfl ?_));(conv=>whnf)))
 refine aQ hty (λj:Nat=>([(0, .ptr 3 0),(1, .d (.int .i64 z)),(4, .d (.int .i64 (56 - 8 * (j:Int))))],[(3,wrC 4 (p++(beN 8 (uN z)).take j)),(4,wrB (p++(beN 8 (uN z)).take j))])) (λj=>j<=8) (λj=>8 - j) 0 (by omega) ⟨by repeat' (first|exact trivial|exact rfl|refine And.intro ?_ ?_),by rw [List.take_zero,List.append_nil];exact⟨rfl,rfl,trivial⟩⟩ ?_
 intro j hj
 have hml:=jZ (p++(beN 8 (uN z)).take j)
 rw [List.length_append,List.length_take]at hml
 have hb63:((p++(beN 8 (uN z)).take j).map bC).length+1<=9223372036854775807:=by rw [hml];omega
 have hb48:(((p++(beN 8 (uN z)).take j).map bC).length+1)* 1<=140737488355328:=by rw [hml];omega
 ((conv=>whnf);repeat ((first|(intro hq;try simp only [lnS]at hq)|refine sI ?_|refine .intro _ (.intro rfl ?_));(conv=>whnf)))
 refine aB (λh1=> ?_) (λh1=> ?_)
 ·have hj8:j < 8:=by omega
  have hs:(56 - 8 * (j:Int))=((56 - 8 * j:Nat):Int):=by omega
  have hbt:=aH9 z (56 - 8 * j) (by omega)
  have hnx:=aFw (uN z) j hj8
  dsimp only
  rw [hs]
  ((conv=>whnf);repeat ((first|(intro hq;try simp only [lnS]at hq)|refine sI ?_|refine .intro _ (.intro rfl ?_));(conv=>whnf)))
  refine sM hty [0,1,2,3,4,5,6,7,8,9,10,11,12,13,14] (by kernel_rfl) (by kernel_rfl) ?_
  ((conv=>whnf);repeat ((first|(refine And.intro hb63 ?_)|(refine And.intro hb48 ?_)|(intro hq;try simp only [lnS]at hq)|refine sI ?_|refine .intro _ (.intro rfl ?_));(conv=>whnf)))
  rw [hbt,show ((56 - 8 * j:Nat):Int) - 8=56 - 8 * ((j+1:Nat):Int)by omega]
  refine⟨j+1,by dsimp only;omega,by dsimp only;omega, ?_⟩
  dsimp only
  rw [hnx,<-List.append_assoc,nT,nU]
  exact⟨by repeat' (first|exact trivial|exact rfl|refine And.intro ?_ ?_),by repeat' (first|exact trivial|exact rfl|refine And.intro ?_ ?_)⟩
 ·have hj8:j=8:=by omega
  subst hj8
  rw [List.take_of_length_le (by rw [hl];exact Nat.le_refl _)]
  ((conv=>whnf);repeat ((first|(intro hq;try simp only [lnS]at hq)|refine sI ?_|refine .intro _ (.intro rfl ?_));(conv=>whnf)))
  exact rfl
theorem dN (s:List UInt8):WrT 90 [.d (.str s)] (dO s):=by
 intro p hp
 have hl:(dO s).length=4+s.length:=by unfold dO;rw [List.length_append,aT]
 have hlc:(beN 4 (uN (s.length:Int))).length=4:=aT ..
 have hu:uN (s.length:Int)=s.length:=mS (by omega)
 refine aI false [] hty Tryz.func90 rfl (kp [0,1]) 100 (by simp [Tryz.f90]) ?_
 ((conv=>whnf);repeat ((first|(intro hq;try simp only [lnS]at hq)|refine sI ?_|refine .intro _ (.intro rfl ?_));(conv=>whnf)))
 refine WrT.call (fN s.length) rfl p (by omega) (by decide) rfl rfl ?_
 rw [hu]
 have hml:=jZ (p++beN 4 s.length)
 rw [List.length_append,aT]at hml
 have hb63:((p++beN 4 s.length).map bC).length+(s.map bC).length<=9223372036854775807:=by rw [hml,jZ];omega
 have hb48:(((p++beN 4 s.length).map bC).length+(s.map bC).length)* 1<=140737488355328:=by rw [hml,jZ];omega
 ((conv=>whnf);repeat ((first|(refine And.intro hb63 ?_)|(refine And.intro hb48 ?_)|(intro hq;try simp only [lnS]at hq)|refine sI ?_|refine .intro _ (.intro rfl ?_));(conv=>whnf)))
 unfold dO
 rw [<-List.append_assoc,nT,nU]
 exact⟨rfl,rfl⟩
theorem lG (d:Dig):WrT 104 [.d (.agg (nO d))] (mJ d):=by
 intro p hp
 obtain⟨l,hl⟩:=d
 have hlw:(mJ ⟨l,hl⟩).length=32:=hl
 obtain⟨y0,y1,y2,y3,y4,y5,y6,y7,y8,y9,y10,y11,y12,y13,y14,y15,y16,y17,y18,y19,y20,y21,y22,y23,y24,y25,y26,y27,y28,y29,y30,y31,rfl⟩:=fK hl
 have hml:=jZ p
 have hb63:(p.map bC).length+32<=9223372036854775807:=by rw [hml];omega
 have hb48:((p.map bC).length+32)* 1<=140737488355328:=by rw [hml];omega
 refine aI false [3] hty Tryz.func104 rfl (kp [0,1,3]) 100 (by simp [Tryz.f104]) ?_
 ((conv=>whnf);repeat ((first|(intro hq;try simp only [lnS]at hq)|refine sI ?_|refine .intro _ (.intro rfl ?_));(conv=>whnf)))
 refine sM hty [0,1,2,3,4,5,6,7,8,9] (by kernel_rfl) (by kernel_rfl) ?_
 ((conv=>whnf);repeat ((first|(refine And.intro hb63 ?_)|(refine And.intro hb48 ?_)|(intro hq;try simp only [lnS]at hq)|refine sI ?_|refine .intro _ (.intro rfl ?_));(conv=>whnf)))
 unfold mJ
 rw [nT,nU]
 exact⟨rfl,rfl⟩
end Go.Proofs.YtcomlapnibckmaaGreatDoor
