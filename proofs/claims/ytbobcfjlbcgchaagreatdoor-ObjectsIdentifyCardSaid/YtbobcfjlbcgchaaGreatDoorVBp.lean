/-
  The hash with a tag. Objects: a writer's contract, over its own two objects alone; how it is used. Objects: the writer writes octets, numbers, texts and digests. Objects: the writer writes lists, concepts and axioms. Objects: the writer writes axioms, commits, queries and alignments. Terms: the order of concepts is total; sorted sets of concepts. Terms: the canonical form of a concept, as a plain function; it is not greater.
  Conditions: none.
-/
import Derived.Test.YtbobcfjlbcgchaaGreatDoorVSyx
import Derived.Test.YtbobcfjlbcgchaaGreatDoorVOs
import Derived.Test.YtbobcfjlbcgchaaGreatDoorVSna
import Derived.Test.YtbobcfjlbcgchaaGreatDoorVAk
import Derived.Test.YtbobcfjlbcgchaaGreatDoorVYb
set_option linter.unusedSectionVars false
set_option linter.unusedSimpArgs false
set_option linter.unusedVariables false
set_option maxHeartbeats 16000000
namespace Go.Proofs.YtbobcfjlbcgchaaGreatDoor
open Go.Proofs Go.RowKit
set_option maxRecDepth 10000
attribute [local irreducible] aJ aF Tri aG YVC bS aQ aAd
theorem Tri.slY {P:Program}{f:FuncId}{z:Nat}{rows rows':List (List D)}{hp:Hp}{post:SV->Prop}(e:rows=rows') (h:Tri P f [.d (.sl z rows')] hp post):Tri P f [.d (.sl z rows)] hp post:=by
 rw [e];exact h
theorem zC {cs ns:List SV}(h:ns.length=cs.length):iE cs 0 ns=ns:=by
 unfold iE
 rw [List.take_zero,List.nil_append,Nat.zero_add,h,List.drop_length,List.append_nil]
theorem aQp (d:Dig):(aKq d).length=32:=by unfold aKq;rw [List.length_map,d.2]
theorem aNv (d:Dig) (a:Nat) (row:List D) (j:Nat) (x:D) (h1:(d.1.map bE)[a]? =some row) (h2:row[j]? =some x):((aKq d).map SV.d)[0+(a * 1+j)]? =some (.d x):=by
 rw [List.getElem?_map,Option.map_eq_some_iff]at h1
 obtain⟨c,h1,rfl⟩:=h1
 have hj:j=0:=by
  have:=(List.getElem?_eq_some_iff.1 h2).1
  simp [bE]at this
  exact this
 subst hj
 have hx:D.int .u8 c.toNat=x:=by simpa [bE]using h2
 subst hx
 rw [Nat.zero_add,Nat.mul_one,Nat.add_zero]
 unfold aKq
 rw [List.getElem?_map,List.getElem?_map,h1]
 rfl
theorem aP4 (tag:List UInt8) (ht:tag.length<=1000000000):Tri Tryz.prog 15 [.d (.str tag), .d (.sl 1 (([]:List UInt8).map bE))] KG (λr=>r= .d (.agg (aKq (aRb tag [])))):=by
 have h1:=uH tag (by omega)
 have h2:=uH ((aE9 tag).1++[]) (by rw [List.length_append,(aE9 tag).2];decide)
 refine aH false [5] hty Tryz.func15 rfl (kp [0,1,4,5]) [] _ _ _ (by simp [Tryz.f15]) (by decide) ?_
 ((conv=>whnf);repeat ((first|(refine aD KG h1 ⟨rfl,trivial⟩ (λr hs=> ?_);subst hs)|(refine aJ8 hty rfl rfl rfl rfl rfl ?_)|(intro hq;try simp only [lnS]at hq)|refine sI ?_|refine .intro _ (.intro rfl ?_));(conv=>whnf)))
 refine aD KG (Tri.slY ?_ h2) ⟨rfl,trivial⟩ (λr hs=> ?_)
 ·rfl
 subst hs
 ((conv=>whnf);repeat ((first|(intro hq;try simp only [lnS]at hq)|refine sI ?_|refine .intro _ (.intro rfl ?_));(conv=>whnf)))
 rfl
theorem aP3 (tag b:List UInt8) (ht:tag.length<=1000000000) (hb:b.length<=100000000000) (h0:0 < b.length):Tri Tryz.prog 15 [.d (.str tag), .d (.sl 1 (b.map bE))] KG (λr=>r= .d (.agg (aKq (aRb tag b)))):=by
 have h1:=uH tag (by omega)
 have h2:=uH ((aE9 tag).1++b) (by rw [List.length_append,(aE9 tag).2];omega)
 have hl:((aE9 tag).1.map bE).length=32:=by rw [List.length_map,(aE9 tag).2]
 have hbl:(b.map bE).length=b.length:=List.length_map ..
 have hdl:((aKq (aE9 tag)).map SV.d).length=32:=by rw [List.length_map,aQp]
 refine aH false [] hty Tryz.func15 rfl (kp [0,1,4,5]) [] _ _ _ (by simp [Tryz.f15]) (by decide) ?_
 ((conv=>whnf);repeat ((first|(refine aD KG h1 ⟨rfl,trivial⟩ (λr hs=> ?_);subst hs)|(intro hq;try simp only [lnS]at hq)|refine sI ?_|refine .intro _ (.intro rfl ?_));(conv=>whnf)))
 refine aJ7 hty rfl rfl (rows:=(aE9 tag).1.map bE) (new:=b.map bE) 71 rfl rfl rfl (by exact rfl) ⟨rfl,hl.symm⟩ (λrow hr=>by obtain⟨c,_,rfl⟩:=List.mem_map.1 hr;rfl) ?_ ?_ (by rw [hbl];exact h0) (by omega) ?_ (bY (by with_unfolding_all exact rfl)) ?_
 ·rw [zC (by rw [hdl];rfl)]
  show 0+((aE9 tag).1.map bE).length * 1<=((aKq (aE9 tag)).map SV.d).length
  omega
 ·rw [zC (by rw [hdl];rfl)]
  exact aNv (aE9 tag)
 ·show (((aE9 tag).1.map bE).length+(b.map bE).length)* 1<=_
  omega
 ((conv=>whnf);repeat ((first|(intro hq;try simp only [lnS]at hq)|refine sI ?_|refine .intro _ (.intro rfl ?_));(conv=>whnf)))
 refine aD KG (Tri.oslY ?_ h2) ⟨rfl,trivial⟩ (λr hs=> ?_)
 ·rw [List.map_append]
 subst hs
 ((conv=>whnf);repeat ((first|(intro hq;try simp only [lnS]at hq)|refine sI ?_|refine .intro _ (.intro rfl ?_));(conv=>whnf)))
 rfl
theorem vH (tag b:List UInt8) (ht:tag.length<=1000000000) (hb:b.length<=100000000000):Tri Tryz.prog 15 [.d (.str tag), .d (.sl 1 (b.map bE))] KG (λr=>r= .d (.agg (aKq (aRb tag b)))):=by
 cases b with
 |nil=>exact aP4 tag ht
 |cons x r=>exact aP3 tag (x::r) ht hb (Nat.succ_pos _)
end Go.Proofs.YtbobcfjlbcgchaaGreatDoor
namespace Go.Proofs.YtbobcfjlbcgchaaGreatDoor
open Go.Proofs Go.RowKit
set_option maxRecDepth 10000
attribute [local irreducible] aJ aF Tri aG YVC bS aQ
theorem aXf {i j:Nat}{h1 hp:Hp}{x y o u o' u':HObj}(hij:i≠j) (hx:aN hp i=some x) (hy:aN hp j=some y) (ho:aN h1 3=some o) (hu:aN h1 4=some u) (hs:o.sim/\u.sim) (hr:¬ o.Rd/\¬ u.Rd) (hi:(∀k∈o.ids,k∈[3,4])/\ ∀k∈u.ids,k∈[3,4])
  (he:o.ren (λk=>if k=3 then i else j)=o') (he':u.ren (λk=>if k=3 then i else j)=u'):Left (λk=>if k=3 then i else j) [3,4] h1 hp (dU (dU hp i o') j u'):=by
 have hy':aN (dU hp i o') j=some y:=by rw [bD o' hx,if_neg (Ne.symm hij)];exact hy
 refine⟨λk hk=> ?_,λk z hz=> ?_⟩
 ·have hk:k=3\/k=4:=by simpa using hk
  rcases hk with rfl|rfl
  ·refine⟨o,ho,hs.1,hr.1,hi.1, ?_⟩
   show aN (dU (dU hp i o') j u') i=_
   rw [bD u' hy',if_neg hij,bD o' hx,if_pos rfl,he]
  ·refine⟨u,hu,hs.2,hr.2,hi.2, ?_⟩
   show aN (dU (dU hp i o') j u') j=_
   rw [bD u' hy',if_pos rfl,he']
 ·rw [bD u' hy']at hz
  split at hz
  ·rename_i e;exact .inl ⟨4,by simp,by rw [e];rfl⟩
  ·rw [bD o' hx]at hz
   split at hz
   ·rename_i e;exact .inl ⟨3,by simp,by rw [e];rfl⟩
   ·exact .inr hz
theorem aW1 {i j:Nat}{hp:Hp}{x y o u:HObj}(hij:i≠j) (hx:aN hp i=some x) (hy:aN hp j=some y) (he:o.ren (λk=>if k=3 then i else j)=x) (he':u.ren (λk=>if k=3 then i else j)=y) (hs:o.sim/\u.sim):Among (λk=>if k=3 then i else j) [3,4] [(3,o),(4,u)] hp:=by
 have key: ∀k z,aN [(3,o),(4,u)] k=some z->k=3/\z=o\/k=4/\z=u:=by
  intro k z h
  simp only [aN]at h
  split at h
  ·rename_i e;injection h with h;exact .inl ⟨e.symm,h.symm⟩
  ·split at h
   ·rename_i e;injection h with h;exact .inr ⟨e.symm,h.symm⟩
   ·cases h
 refine⟨λk z h=> ?_,λk z k' z' h h' e=> ?_,λk hk=> ?_,λk z h=> ?_⟩
 ·rcases key k z h with⟨rfl,rfl⟩|⟨rfl,rfl⟩
  ·exact⟨by rw [he];exact hx,hs.1⟩
  ·exact⟨by rw [he'];exact hy,hs.2⟩
 ·rcases key k z h with⟨rfl,rfl⟩|⟨rfl,rfl⟩<;>rcases key k' z' h' with⟨rfl,rfl⟩|⟨rfl,rfl⟩
  ·rfl
  ·exact absurd e hij
  ·exact absurd e (Ne.symm hij)
  ·rfl
 ·have hk:k=3\/k=4:=by simpa using hk
  rcases hk with rfl|rfl
  ·exact⟨o,by simp [aN]⟩
  ·exact⟨u,by simp [aN]⟩
 ·rcases key k z h with⟨rfl,rfl⟩|⟨rfl,rfl⟩
  ·exact .inl (by simp)
  ·exact .inl (by simp)
abbrev wrC (j:Nat) (p:List UInt8):HObj:= .cells 67 [.osl j 1 (p.map bE)]
abbrev wrB (p:List UInt8):HObj:= .own 5 1 (p.map bE).length
abbrev aYj:Pin:=⟨[3,4],λ_ _=>False,[]⟩
def WrT (f:FuncId) (ex:List SV) (out:List UInt8):Prop:= ∀p:List UInt8,p.length+out.length<=100000000000000->
 aF Tryz.prog aYj [] [(3,wrC 4 p),(4,wrB p)] f (.ptr 3 0::ex) (λs h=>s= .tup []/\aN h 3=some (wrC 4 (p++out))/\aN h 4=some (wrB (p++out)))
theorem WrT.call {f:FuncId}{ex:List SV}{out:List UInt8}(h:WrT f ex out) (hx:SV.idsL ex=[]) {pin:Pin}{fr:Fr}{hp:Hp}{i j:Nat}{K:SV->Hp->Prop}(p:List UInt8) (hb:p.length+out.length<=100000000000000) (hij:i≠j) (hg:aN hp i=some (wrC j p)) (hg':aN hp j=some (wrB p))
  (hok:gK hp i (wrC j (p++out)) λh=>gK h j (wrB (p++out)) (K (.tup []))):aF Tryz.prog pin fr hp f (.ptr i 0::ex) K:=by
 have hs: ∀(p:List UInt8),(wrC 4 p).sim:= λp s hs=>by simp at hs;subst hs;trivial
 have hi: ∀(p:List UInt8),∀k∈(wrC 4 p).ids,k∈[3,4]:= λp k hk=>by simp [HObj.ids,SV.idsL,SV.ids]at hk;simp [hk]
 refine pT (λk=>if k=3 then i else j) [3,4] [(3,wrC 4 p),(4,wrB p)] (h p hb) (aW1 hij hg hg' rfl rfl ⟨hs p,trivial⟩) (λk hk=>hk) (by rw [List.map_cons,aB1 hx];rfl) ?_ ?_ ?_
 ·intro s hs
  rcases List.mem_cons.1 hs with rfl|hs
  ·trivial
  ·exact aAv hx s hs
 ·rintro s h1 ⟨rfl,e2,e3⟩
  have hnone: ∀k∈SV.ids (SV.tup []),k∈[3,4]:=by
   intro k hk
   cases hk
  refine⟨rfl,hnone,_,aXf hij hg hg' e2 e3 ⟨hs _,trivial⟩ ⟨λh=>h,λh=>h⟩ ⟨hi _,λk hk=>by cases hk⟩ rfl rfl, ?_⟩
  rw [dM,dM]at hok
  exact hok
 ·exact λh1 h2=>h2.elim
end Go.Proofs.YtbobcfjlbcgchaaGreatDoor
namespace Go.Proofs.YtbobcfjlbcgchaaGreatDoor
open Go.Proofs Go.RowKit
set_option maxRecDepth 10000
attribute [local irreducible] aJ aF Tri aG YVC bS aQ
theorem tK (n:Nat):(((UInt8.ofNat (n % 256)).toNat:Nat):Int)=((n % 256:Nat):Int):=by simp
theorem aXt (z:Int):IntKind.u8.wrap z=(((UInt8.ofNat (uN z % 256)).toNat:Nat):Int):=by
 rw [tK]
 have e3: ∀k:Int,IntKind.u8.wrap k=k % 256:= λk=>rfl
 rw [e3]
 unfold uN
 omega
theorem yX {n:Nat}(h:n<=100000000000000):uN (n:Int)=n:=by unfold uN;omega
theorem aN4 (p q:List UInt8):(p++q).map bE=p.map bE++q.map bE:=List.map_append ..
theorem aTe (p q:List UInt8):((p++q).map bE).length=(p.map bE).length+(q.map bE).length:=by rw [aN4,List.length_append]
theorem uC (p:List UInt8):(p.map bE).length=p.length:=List.length_map ..
theorem uV (j:Nat) (p q:List UInt8):wrC j (p++q)= .cells 67 [.osl j 1 (p.map bE++q.map bE)]:=by rw [<-aN4]
theorem uX (p q:List UInt8):wrB (p++q)= .own 5 1 ((p.map bE).length+(q.map bE).length):=by rw [<-aTe]
theorem pW (z:Int):WrT 45 [.d (.int .i64 z)] (aEd z):=by
 intro p hp
 have hl:(aEd z).length=1:=bH ..
 have hml:=uC p
 have hb63:(p.map bE).length+1<=9223372036854775807:=by rw [hml];omega
 have hb48:((p.map bE).length+1)* 1<=140737488355328:=by rw [hml];omega
 refine aI false [] hty Tryz.func45 rfl (kp [0,1]) 100 (by simp [Tryz.f45]) ?_
 ((conv=>whnf);repeat ((first|(refine And.intro hb63 ?_)|(refine And.intro hb48 ?_)|(intro hq;try simp only [lnS]at hq)|refine sI ?_|refine .intro _ (.intro rfl ?_));(conv=>whnf)))
 rw [aXt]
 rw [uV,uX]
 exact⟨rfl,rfl⟩
theorem aTu (n j:Nat) (h:j < 8):(beN 8 n).take (j+1)=(beN 8 n).take j++[UInt8.ofNat (n / 2 ^ (56 - 8 * j) % 256)]:=by
 have e:j=0\/j=1\/j=2\/j=3\/j=4\/j=5\/j=6\/j=7:=by omega
 rw [aYe]
 rcases e with rfl|rfl|rfl|rfl|rfl|rfl|rfl|rfl<;>rfl
theorem aTv (n j:Nat) (h:j < 4):(beN 4 n).take (j+1)=(beN 4 n).take j++[UInt8.ofNat (n / 2 ^ (24 - 8 * j) % 256)]:=by
 have e:j=0\/j=1\/j=2\/j=3:=by omega
 rw [aYp]
 rcases e with rfl|rfl|rfl|rfl<;>rfl
theorem aVu (z:Int) (s:Nat) (hs:s<=64):IntKind.u8.wrap ((IntKind.u64.wrap z).fdiv (2 ^ (min (s:Int).toNat IntKind.u64.bits)))=(((UInt8.ofNat (uN z / 2 ^ s % 256)).toNat:Nat):Int):=by
 rw [aO8 z s hs,tK]
theorem nC (z:Int):WrT 44 [.d (.int .i64 z)] (beN 4 (uN z)):=by
 intro p hp
 have hl:(beN 4 (uN z)).length=4:=bH ..
 refine aI false [] hty Tryz.func44 rfl (kp [0,1,4,6]) 100 (by simp [Tryz.f44]) ?_
 ((conv=>whnf);repeat ((first|(intro hq;try simp only [lnS]at hq)|refine sI ?_|refine .intro _ (.intro rfl ?_));(conv=>whnf)))
 refine aK hty (λj:Nat=>([(0, .ptr 3 0),(1, .d (.int .i64 z)),(4, .d (.int .i64 (24 - 8 * (j:Int))))],[(3,wrC 4 (p++(beN 4 (uN z)).take j)),(4,wrB (p++(beN 4 (uN z)).take j))])) (λj=>j<=4) (λj=>4 - j) 0 (by omega) ⟨by repeat' (first|exact trivial|exact rfl|refine And.intro ?_ ?_),by rw [List.take_zero,List.append_nil];exact⟨rfl,rfl,trivial⟩⟩ ?_
 intro j hj
 have hml:=uC (p++(beN 4 (uN z)).take j)
 rw [List.length_append,List.length_take]at hml
 have hb63:((p++(beN 4 (uN z)).take j).map bE).length+1<=9223372036854775807:=by rw [hml];omega
 have hb48:(((p++(beN 4 (uN z)).take j).map bE).length+1)* 1<=140737488355328:=by rw [hml];omega
 ((conv=>whnf);repeat ((first|(intro hq;try simp only [lnS]at hq)|refine sI ?_|refine .intro _ (.intro rfl ?_));(conv=>whnf)))
 refine aA (λh1=> ?_) (λh1=> ?_)
 ·have hj4:j < 4:=by omega
  have hs:(24 - 8 * (j:Int))=((24 - 8 * j:Nat):Int):=by omega
  have hbt:=aVu z (24 - 8 * j) (by omega)
  have hnx:=aTv (uN z) j hj4
  dsimp only
  rw [hs]
  ((conv=>whnf);repeat ((first|(intro hq;try simp only [lnS]at hq)|refine sI ?_|refine .intro _ (.intro rfl ?_));(conv=>whnf)))
  refine fV hty [0,1,2,3,4,5,6,7,8,9,10,11,12,13,14] (by kernel_rfl) (by kernel_rfl) ?_
  ((conv=>whnf);repeat ((first|(refine And.intro hb63 ?_)|(refine And.intro hb48 ?_)|(intro hq;try simp only [lnS]at hq)|refine sI ?_|refine .intro _ (.intro rfl ?_));(conv=>whnf)))
  rw [hbt,show ((24 - 8 * j:Nat):Int) - 8=24 - 8 * ((j+1:Nat):Int)by omega]
  refine⟨j+1,by dsimp only;omega,by dsimp only;omega, ?_⟩
  dsimp only
  rw [hnx,<-List.append_assoc,uV,uX]
  exact⟨by repeat' (first|exact trivial|exact rfl|refine And.intro ?_ ?_),by repeat' (first|exact trivial|exact rfl|refine And.intro ?_ ?_)⟩
 ·have hj4:j=4:=by omega
  subst hj4
  rw [List.take_of_length_le (by rw [hl];exact Nat.le_refl _)]
  ((conv=>whnf);repeat ((first|(intro hq;try simp only [lnS]at hq)|refine sI ?_|refine .intro _ (.intro rfl ?_));(conv=>whnf)))
  exact rfl
theorem lL (z:Int):WrT 83 [.d (.int .i64 z)] (beN 8 (uN z)):=by
 intro p hp
 have hl:(beN 8 (uN z)).length=8:=bH ..
 refine aI false [] hty Tryz.func83 rfl (kp [0,1,4,6]) 100 (by simp [Tryz.f83]) ?_
 ((conv=>whnf);repeat ((first|(intro hq;try simp only [lnS]at hq)|refine sI ?_|refine .intro _ (.intro rfl ?_));(conv=>whnf)))
 refine aK hty (λj:Nat=>([(0, .ptr 3 0),(1, .d (.int .i64 z)),(4, .d (.int .i64 (56 - 8 * (j:Int))))],[(3,wrC 4 (p++(beN 8 (uN z)).take j)),(4,wrB (p++(beN 8 (uN z)).take j))])) (λj=>j<=8) (λj=>8 - j) 0 (by omega) ⟨by repeat' (first|exact trivial|exact rfl|refine And.intro ?_ ?_),by rw [List.take_zero,List.append_nil];exact⟨rfl,rfl,trivial⟩⟩ ?_
 intro j hj
 have hml:=uC (p++(beN 8 (uN z)).take j)
 rw [List.length_append,List.length_take]at hml
 have hb63:((p++(beN 8 (uN z)).take j).map bE).length+1<=9223372036854775807:=by rw [hml];omega
 have hb48:(((p++(beN 8 (uN z)).take j).map bE).length+1)* 1<=140737488355328:=by rw [hml];omega
 ((conv=>whnf);repeat ((first|(intro hq;try simp only [lnS]at hq)|refine sI ?_|refine .intro _ (.intro rfl ?_));(conv=>whnf)))
 refine aA (λh1=> ?_) (λh1=> ?_)
 ·have hj8:j < 8:=by omega
  have hs:(56 - 8 * (j:Int))=((56 - 8 * j:Nat):Int):=by omega
  have hbt:=aVu z (56 - 8 * j) (by omega)
  have hnx:=aTu (uN z) j hj8
  dsimp only
  rw [hs]
  ((conv=>whnf);repeat ((first|(intro hq;try simp only [lnS]at hq)|refine sI ?_|refine .intro _ (.intro rfl ?_));(conv=>whnf)))
  refine fV hty [0,1,2,3,4,5,6,7,8,9,10,11,12,13,14] (by kernel_rfl) (by kernel_rfl) ?_
  ((conv=>whnf);repeat ((first|(refine And.intro hb63 ?_)|(refine And.intro hb48 ?_)|(intro hq;try simp only [lnS]at hq)|refine sI ?_|refine .intro _ (.intro rfl ?_));(conv=>whnf)))
  rw [hbt,show ((56 - 8 * j:Nat):Int) - 8=56 - 8 * ((j+1:Nat):Int)by omega]
  refine⟨j+1,by dsimp only;omega,by dsimp only;omega, ?_⟩
  dsimp only
  rw [hnx,<-List.append_assoc,uV,uX]
  exact⟨by repeat' (first|exact trivial|exact rfl|refine And.intro ?_ ?_),by repeat' (first|exact trivial|exact rfl|refine And.intro ?_ ?_)⟩
 ·have hj8:j=8:=by omega
  subst hj8
  rw [List.take_of_length_le (by rw [hl];exact Nat.le_refl _)]
  ((conv=>whnf);repeat ((first|(intro hq;try simp only [lnS]at hq)|refine sI ?_|refine .intro _ (.intro rfl ?_));(conv=>whnf)))
  exact rfl
theorem jE (s:List UInt8):WrT 48 [.d (.str s)] (lC s):=by
 intro p hp
 have hl:(lC s).length=4+s.length:=by unfold lC;rw [List.length_append,bH]
 have hlc:(beN 4 (uN (s.length:Int))).length=4:=bH ..
 have hu:uN (s.length:Int)=s.length:=yX (by omega)
 refine aI false [] hty Tryz.func48 rfl (kp [0,1]) 100 (by simp [Tryz.f48]) ?_
 ((conv=>whnf);repeat ((first|(intro hq;try simp only [lnS]at hq)|refine sI ?_|refine .intro _ (.intro rfl ?_));(conv=>whnf)))
 refine WrT.call (nC s.length) rfl p (by omega) (by decide) rfl rfl ?_
 rw [hu]
 have hml:=uC (p++beN 4 s.length)
 rw [List.length_append,bH]at hml
 have hb63:((p++beN 4 s.length).map bE).length+(s.map bE).length<=9223372036854775807:=by rw [hml,uC];omega
 have hb48:(((p++beN 4 s.length).map bE).length+(s.map bE).length)* 1<=140737488355328:=by rw [hml,uC];omega
 ((conv=>whnf);repeat ((first|(refine And.intro hb63 ?_)|(refine And.intro hb48 ?_)|(intro hq;try simp only [lnS]at hq)|refine sI ?_|refine .intro _ (.intro rfl ?_));(conv=>whnf)))
 unfold lC
 rw [<-List.append_assoc,uV,uX]
 exact⟨rfl,rfl⟩
theorem pX (d:Dig):WrT 84 [.d (.agg (tX d))] (rT d):=by
 intro p hp
 obtain⟨l,hl⟩:=d
 have hlw:(rT ⟨l,hl⟩).length=32:=hl
 obtain⟨y0,y1,y2,y3,y4,y5,y6,y7,y8,y9,y10,y11,y12,y13,y14,y15,y16,y17,y18,y19,y20,y21,y22,y23,y24,y25,y26,y27,y28,y29,y30,y31,rfl⟩:=aBg hl
 have hml:=uC p
 have hb63:(p.map bE).length+32<=9223372036854775807:=by rw [hml];omega
 have hb48:((p.map bE).length+32)* 1<=140737488355328:=by rw [hml];omega
 refine aI false [3] hty Tryz.func84 rfl (kp [0,1,3]) 100 (by simp [Tryz.f84]) ?_
 ((conv=>whnf);repeat ((first|(intro hq;try simp only [lnS]at hq)|refine sI ?_|refine .intro _ (.intro rfl ?_));(conv=>whnf)))
 refine fV hty [0,1,2,3,4,5,6,7,8,9] (by kernel_rfl) (by kernel_rfl) ?_
 ((conv=>whnf);repeat ((first|(refine And.intro hb63 ?_)|(refine And.intro hb48 ?_)|(intro hq;try simp only [lnS]at hq)|refine sI ?_|refine .intro _ (.intro rfl ?_));(conv=>whnf)))
 unfold rT
 rw [uV,uX]
 exact⟨rfl,rfl⟩
end Go.Proofs.YtbobcfjlbcgchaaGreatDoor
namespace Go.Proofs.YtbobcfjlbcgchaaGreatDoor
open Go.Proofs Go.RowKit
set_option maxRecDepth 10000
attribute [local irreducible] aJ aF Tri aG YVC bS aQ
theorem mO {α:Type}{w:α->List UInt8}{l:List α}{j:Nat}(h:j < l.length):((l.take (j+1)).map w).flatten=((l.take j).map w).flatten++w l[j]:=by
 rw [List.take_succ_eq_append_getElem h,List.map_append,List.flatten_append];simp
theorem xE {α:Type}{w:α->List UInt8}(l:List α) (j:Nat):(((l.take j).map w).flatten).length<=((l.map w).flatten).length:=by
 have e:l.map w=(l.take j).map w++(l.drop j).map w:=by rw [<-List.map_append,List.take_append_drop]
 rw [e,List.flatten_append,List.length_append];omega
theorem gX {α:Type}(w:α->List UInt8) (l:List α):(iA w l).length=4+((l.map w).flatten).length:=by unfold iA;rw [List.length_append,bH]
theorem mP {α:Type}{w:α->List UInt8}{k:Nat}(hk:1<=k) (hw: ∀x,k<=(w x).length) (l:List α):l.length<=((l.map w).flatten).length:=by
 have h:=aDc hw l
 have h2:1 * l.length<=k * l.length:=Nat.mul_le_mul_right _ hk
 omega
theorem aKx (s:List UInt8):4<=(lC s).length:=by unfold lC;rw [List.length_append,bH];omega
theorem aKy (d:Dig):32<=(rT d).length:=by obtain⟨l,h⟩:=d;show 32<=l.length;omega
theorem eI (z:Int):(lG z).length=8:=by unfold lG;exact bH ..
theorem bA (z:Int):(aEd z).length=1:=bH ..
theorem aFz (l:List (List UInt8)):WrT 47 [.d (.sl 1 (l.map eO))] (iA lC l):=by
 intro p hp
 rw [gX]at hp
 have hn:=mP (by decide) aKx l
 have hu:uN (l.length:Int)=l.length:=yX (by omega)
 have hlr:(l.map eO).length=l.length:=List.length_map ..
 refine aI false [] hty Tryz.func47 rfl (kp [0,1,5,10,11,12,13]) 100 (by simp [Tryz.f47]) ?_
 ((conv=>whnf);repeat ((first|(intro hq;try simp only [lnS]at hq)|refine sI ?_|refine .intro _ (.intro rfl ?_));(conv=>whnf)))
 rw [hlr]
 refine WrT.call (nC l.length) rfl p (by rw [bH];omega) (by decide) rfl rfl ?_
 rw [hu]
 ((conv=>whnf);repeat ((first|(intro hq;try simp only [lnS]at hq)|refine sI ?_|refine .intro _ (.intro rfl ?_));(conv=>whnf)))
 rw [hlr]
 refine aK hty (λj:Nat=>([(0, .ptr 3 0),(10, .d (.sl 1 (l.map eO))),(11, .d (.int .i64 l.length)),(12, .d (.int .i64 j))],[(3,wrC 4 (p++beN 4 l.length++((l.take j).map lC).flatten)),(4,wrB (p++beN 4 l.length++((l.take j).map lC).flatten))])) (λj=>j<=l.length) (λj=>l.length - j) 0 (by omega) ⟨by repeat' (first|exact trivial|exact rfl|refine And.intro ?_ ?_),by rw [List.take_zero,List.map_nil,List.flatten_nil,List.append_nil];exact⟨rfl,rfl,trivial⟩⟩ ?_
 intro j hj
 ((conv=>whnf);repeat ((first|(intro hq;try simp only [lnS]at hq)|refine sI ?_|refine .intro _ (.intro rfl ?_));(conv=>whnf)))
 refine aA (λh1=> ?_) (λh1=> ?_)
 ·have hjl:j < l.length:=by omega
  have hrow:(l.map eO)[((j:Nat):Int).toNat]? =some (eO l[j]):=bV hjl
  have hnx:=mO (w:=lC) hjl
  have hle:=xE (w:=lC) l (j+1)
  rw [hnx,List.length_append]at hle
  ((conv=>whnf);repeat ((first|(refine⟨_,hrow, ?_⟩)|(intro hq;try simp only [lnS]at hq)|refine sI ?_|refine .intro _ (.intro rfl ?_));(conv=>whnf)))
  refine WrT.call (jE l[j]) rfl _ (by rw [List.length_append,List.length_append,bH];omega) (by decide) rfl rfl ?_
  ((conv=>whnf);repeat ((first|(intro hq;try simp only [lnS]at hq)|refine sI ?_|refine .intro _ (.intro rfl ?_));(conv=>whnf)))
  refine⟨j+1,by dsimp only;omega,by dsimp only;omega, ?_⟩
  dsimp only
  rw [hnx,<-List.append_assoc]
  exact⟨by repeat' (first|exact trivial|exact rfl|refine And.intro ?_ ?_),by repeat' (first|exact trivial|exact rfl|refine And.intro ?_ ?_)⟩
 ·have hjl:j=l.length:=by omega
  subst hjl
  rw [List.take_length]
  ((conv=>whnf);repeat ((first|(intro hq;try simp only [lnS]at hq)|refine sI ?_|refine .intro _ (.intro rfl ?_));(conv=>whnf)))
  unfold iA
  rw [<-List.append_assoc]
  exact⟨rfl,rfl⟩
theorem yS (l:List Dig):WrT 85 [.d (.sl 32 (l.map tX))] (iA rT l):=by
 intro p hp
 rw [gX]at hp
 have hn:=mP (by decide) aKy l
 have hu:uN (l.length:Int)=l.length:=yX (by omega)
 have hlr:(l.map tX).length=l.length:=List.length_map ..
 refine aI false [] hty Tryz.func85 rfl (kp [0,1,5,10,11,12,13]) 100 (by simp [Tryz.f85]) ?_
 ((conv=>whnf);repeat ((first|(intro hq;try simp only [lnS]at hq)|refine sI ?_|refine .intro _ (.intro rfl ?_));(conv=>whnf)))
 rw [hlr]
 refine WrT.call (nC l.length) rfl p (by rw [bH];omega) (by decide) rfl rfl ?_
 rw [hu]
 ((conv=>whnf);repeat ((first|(intro hq;try simp only [lnS]at hq)|refine sI ?_|refine .intro _ (.intro rfl ?_));(conv=>whnf)))
 rw [hlr]
 refine aK hty (λj:Nat=>([(0, .ptr 3 0),(10, .d (.sl 32 (l.map tX))),(11, .d (.int .i64 l.length)),(12, .d (.int .i64 j))],[(3,wrC 4 (p++beN 4 l.length++((l.take j).map rT).flatten)),(4,wrB (p++beN 4 l.length++((l.take j).map rT).flatten))])) (λj=>j<=l.length) (λj=>l.length - j) 0 (by omega) ⟨by repeat' (first|exact trivial|exact rfl|refine And.intro ?_ ?_),by rw [List.take_zero,List.map_nil,List.flatten_nil,List.append_nil];exact⟨rfl,rfl,trivial⟩⟩ ?_
 intro j hj
 ((conv=>whnf);repeat ((first|(intro hq;try simp only [lnS]at hq)|refine sI ?_|refine .intro _ (.intro rfl ?_));(conv=>whnf)))
 refine aA (λh1=> ?_) (λh1=> ?_)
 ·have hjl:j < l.length:=by omega
  have hrow:(l.map tX)[((j:Nat):Int).toNat]? =some (tX l[j]):=bV hjl
  have hnx:=mO (w:=rT) hjl
  have hle:=xE (w:=rT) l (j+1)
  rw [hnx,List.length_append]at hle
  have hwd:=pX l[j]
  generalize l[j]=x at *
  obtain⟨xl,hx⟩:=x
  obtain⟨y0,y1,y2,y3,y4,y5,y6,y7,y8,y9,y10,y11,y12,y13,y14,y15,y16,y17,y18,y19,y20,y21,y22,y23,y24,y25,y26,y27,y28,y29,y30,y31,rfl⟩:=aBg hx
  ((conv=>whnf);repeat ((first|(refine⟨_,hrow, ?_⟩)|(intro hq;try simp only [lnS]at hq)|refine sI ?_|refine .intro _ (.intro rfl ?_));(conv=>whnf)))
  refine WrT.call hwd rfl _ (by rw [List.length_append,List.length_append,bH];omega) (by decide) rfl rfl ?_
  ((conv=>whnf);repeat ((first|(intro hq;try simp only [lnS]at hq)|refine sI ?_|refine .intro _ (.intro rfl ?_));(conv=>whnf)))
  refine⟨j+1,by dsimp only;omega,by dsimp only;omega, ?_⟩
  dsimp only
  rw [hnx,<-List.append_assoc]
  exact⟨by repeat' (first|exact trivial|exact rfl|refine And.intro ?_ ?_),by repeat' (first|exact trivial|exact rfl|refine And.intro ?_ ?_)⟩
 ·have hjl:j=l.length:=by omega
  subst hjl
  rw [List.take_length]
  ((conv=>whnf);repeat ((first|(intro hq;try simp only [lnS]at hq)|refine sI ?_|refine .intro _ (.intro rfl ?_));(conv=>whnf)))
  unfold iA
  rw [<-List.append_assoc]
  exact⟨rfl,rfl⟩
theorem aS5 (c:Cn):1<=(wC c).length:=by rw [aS6,List.length_append,bA];omega
theorem yT: ∀c:Cn,WrT 46 [.d (.agg (cnR c))] (wC c):=by
 refine Cn.ind ?_
 intro c ih p hp
 rw [aS6]at hp |-
 rw [aT]
 generalize c.kind=kd at *
 generalize c.name=nm at *
 generalize c.lo=lo at *
 generalize c.hi=hi at *
 generalize c.parts=l at *
 simp only [List.length_append,bA,eI,gX]at hp
 have hn:=mP (Nat.le_refl 1) aS5 l
 have hu:uN (l.length:Int)=l.length:=yX (by omega)
 have hlr:(l.map cnR).length=l.length:=List.length_map ..
 refine aI false [] hty Tryz.func46 rfl (kp [0,1,3,5,28,29,30,31]) 100 (by simp [Tryz.f46]) ?_
 ((conv=>whnf);repeat ((first|(intro hq;try simp only [lnS]at hq)|refine sI ?_|refine .intro _ (.intro rfl ?_));(conv=>whnf)))
 refine WrT.call (pW kd) rfl p (by simp only [bA];omega) (by decide) rfl rfl ?_
 ((conv=>whnf);repeat ((first|(intro hq;try simp only [lnS]at hq)|refine sI ?_|refine .intro _ (.intro rfl ?_));(conv=>whnf)))
 refine WrT.call (jE nm) rfl _ (by simp only [List.length_append,bA];omega) (by decide) rfl rfl ?_
 ((conv=>whnf);repeat ((first|(intro hq;try simp only [lnS]at hq)|refine sI ?_|refine .intro _ (.intro rfl ?_));(conv=>whnf)))
 refine WrT.call (lL lo) rfl _ (by simp only [List.length_append,bA,bH];omega) (by decide) rfl rfl ?_
 ((conv=>whnf);repeat ((first|(intro hq;try simp only [lnS]at hq)|refine sI ?_|refine .intro _ (.intro rfl ?_));(conv=>whnf)))
 refine WrT.call (lL hi) rfl _ (by simp only [List.length_append,bA,bH];omega) (by decide) rfl rfl ?_
 ((conv=>whnf);repeat ((first|(intro hq;try simp only [lnS]at hq)|refine sI ?_|refine .intro _ (.intro rfl ?_));(conv=>whnf)))
 rw [hlr]
 refine WrT.call (nC l.length) rfl _ (by simp only [List.length_append,bA,bH];omega) (by decide) rfl rfl ?_
 rw [hu]
 have hqq:(p++aEd kd++lC nm++lG lo++lG hi++beN 4 l.length).length=p.length+(1+((lC nm).length+(8+(8+4)))):=by
  simp only [List.length_append,bA,eI,bH];omega
 have hfin:p++(aEd kd++(lC nm++(lG lo++(lG hi++iA wC l))))=p++aEd kd++lC nm++lG lo++lG hi++beN 4 l.length++(l.map wC).flatten:=by
  unfold iA;simp only [List.append_assoc]
 rw [hfin]
 clear hfin
 change gK _ _ (wrC 4 (p++aEd kd++lC nm++lG lo++lG hi++beN 4 l.length)) λh=>gK h _ (wrB (p++aEd kd++lC nm++lG lo++lG hi++beN 4 l.length)) _
 generalize p++aEd kd++lC nm++lG lo++lG hi++beN 4 l.length=q at *
 ((conv=>whnf);repeat ((first|(intro hq;try simp only [lnS]at hq)|refine sI ?_|refine .intro _ (.intro rfl ?_));(conv=>whnf)))
 rw [hlr]
 refine aK hty (λj:Nat=>([(0, .ptr 3 0),(28, .d (.sl 5 (l.map cnR))),(29, .d (.int .i64 l.length)),(30, .d (.int .i64 j))],[(3,wrC 4 (q++((l.take j).map wC).flatten)),(4,wrB (q++((l.take j).map wC).flatten))])) (λj=>j<=l.length) (λj=>l.length - j) 0 (by omega) ⟨by repeat' (first|exact trivial|exact rfl|refine And.intro ?_ ?_),by rw [List.take_zero,List.map_nil,List.flatten_nil,List.append_nil];exact⟨rfl,rfl,trivial⟩⟩ ?_
 intro j hj
 ((conv=>whnf);repeat ((first|(intro hq;try simp only [lnS]at hq)|refine sI ?_|refine .intro _ (.intro rfl ?_));(conv=>whnf)))
 refine aA (λh1=> ?_) (λh1=> ?_)
 ·have hjl:j < l.length:=by omega
  have hrow:(l.map cnR)[((j:Nat):Int).toNat]? =some (cnR l[j]):=bV hjl
  have hx:=ih l[j] (List.getElem_mem hjl)
  rw [aT]at hrow hx
  have hnx:=mO (w:=wC) hjl
  have hle:=xE (w:=wC) l (j+1)
  rw [hnx,List.length_append]at hle
  ((conv=>whnf);repeat ((first|(refine⟨_,hrow, ?_⟩)|(intro hq;try simp only [lnS]at hq)|refine sI ?_|refine .intro _ (.intro rfl ?_));(conv=>whnf)))
  refine WrT.call hx rfl _ (by rw [List.length_append,hqq];omega) (by decide) rfl rfl ?_
  ((conv=>whnf);repeat ((first|(intro hq;try simp only [lnS]at hq)|refine sI ?_|refine .intro _ (.intro rfl ?_));(conv=>whnf)))
  refine⟨j+1,by dsimp only;omega,by dsimp only;omega, ?_⟩
  dsimp only
  rw [hnx,<-List.append_assoc]
  exact⟨by repeat' (first|exact trivial|exact rfl|refine And.intro ?_ ?_),by repeat' (first|exact trivial|exact rfl|refine And.intro ?_ ?_)⟩
 ·have hjl:j=l.length:=by omega
  subst hjl
  rw [List.take_length]
  ((conv=>whnf);repeat ((first|(intro hq;try simp only [lnS]at hq)|refine sI ?_|refine .intro _ (.intro rfl ?_));(conv=>whnf)))
  exact rfl
end Go.Proofs.YtbobcfjlbcgchaaGreatDoor
namespace Go.Proofs.YtbobcfjlbcgchaaGreatDoor
open Go.Proofs Go.RowKit
set_option maxRecDepth 10000
attribute [local irreducible] aJ aF Tri aG YVC bS aQ
theorem iB (o:Bool):(wB o).length=1:=by unfold wB;exact bA _
theorem aS7 (x:Ax):1<=(wA x).length:=by unfold wA;rw [List.length_append,bA];omega
theorem mZ {p a b:List UInt8}:p++(a++b)=p++a++b:=(List.append_assoc ..).symm
theorem aC4 (l:List Ax):WrT 21 [.d (.sl 16 (l.map axR))] (wAs l):=by
 intro p hp
 unfold wAs at hp |-
 rw [gX]at hp
 have hn:=mP (Nat.le_refl 1) aS7 l
 have hu:uN (l.length:Int)=l.length:=yX (by omega)
 have hlr:(l.map axR).length=l.length:=List.length_map ..
 refine aI false [] hty Tryz.func21 rfl (kp [0,1,5,6,11,12,13,14,18]) 100 (by simp [Tryz.f21]) ?_
 ((conv=>whnf);repeat ((first|(intro hq;try simp only [lnS]at hq)|refine sI ?_|refine .intro _ (.intro rfl ?_));(conv=>whnf)))
 rw [hlr]
 refine WrT.call (nC l.length) rfl p (by rw [bH];omega) (by decide) rfl rfl ?_
 rw [hu]
 have hqq:(p++beN 4 l.length).length=p.length+4:=by rw [List.length_append,bH]
 have hfin:p++iA wA l=p++beN 4 l.length++(l.map wA).flatten:=by unfold iA;rw [mZ]
 rw [hfin]
 clear hfin
 generalize p++beN 4 l.length=q at *
 ((conv=>whnf);repeat ((first|(intro hq;try simp only [lnS]at hq)|refine sI ?_|refine .intro _ (.intro rfl ?_));(conv=>whnf)))
 rw [hlr]
 refine aK hty (λj:Nat=>([(0, .ptr 3 0),(11, .d (.sl 16 (l.map axR))),(12, .d (.int .i64 l.length)),(13, .d (.int .i64 j))],[(3,wrC 4 (q++((l.take j).map wA).flatten)),(4,wrB (q++((l.take j).map wA).flatten))])) (λj=>j<=l.length) (λj=>l.length - j) 0 (by omega) ⟨by repeat' (first|exact trivial|exact rfl|refine And.intro ?_ ?_),by rw [List.take_zero,List.map_nil,List.flatten_nil,List.append_nil];exact⟨rfl,rfl,trivial⟩⟩ ?_
 intro j hj
 ((conv=>whnf);repeat ((first|(intro hq;try simp only [lnS]at hq)|refine sI ?_|refine .intro _ (.intro rfl ?_));(conv=>whnf)))
 refine aA (λh1=> ?_) (λh1=> ?_)
 ·have hjl:j < l.length:=by omega
  have hrow:(l.map axR)[((j:Nat):Int).toNat]? =some (axR l[j]):=bV hjl
  have hnx:=mO (w:=wA) hjl
  have hle:=xE (w:=wA) l (j+1)
  rw [hnx,List.length_append]at hle
  have hla:(wA l[j]).length=1+(1+((wC l[j].left).length+((wC l[j].right).length+((iA lC l[j].roles).length+((lC l[j].role).length+((lC l[j].a).length+(lC l[j].b).length)))))):=by
   unfold wA;simp only [List.length_append,bA,iB]
  have hle':=yT l[j].left
  have hri':=yT l[j].right
  rw [aT]at hle' hri'
  generalize l[j]=x at *
  obtain⟨kd,op,le,ri,rs,s1,s2,s3⟩:=x
  dsimp only at hla hle' hri'
  ((conv=>whnf);repeat ((first|(refine⟨_,hrow, ?_⟩)|(intro hq;try simp only [lnS]at hq)|refine sI ?_|refine .intro _ (.intro rfl ?_));(conv=>whnf)))
  cases op
  ·have hB:WrT 45 [.d (.int .i64 0)] (wB false):=pW 0
   ((conv=>whnf);repeat ((first|(intro hq;try simp only [lnS]at hq)|refine sI ?_|refine .intro _ (.intro rfl ?_));(conv=>whnf)))
   refine WrT.call (pW kd) rfl _ (by simp only [List.length_append,bA];omega) (by decide) rfl rfl ?_
   ((conv=>whnf);repeat ((first|(intro hq;try simp only [lnS]at hq)|refine sI ?_|refine .intro _ (.intro rfl ?_));(conv=>whnf)))
   refine WrT.call hB rfl _ (by simp only [List.length_append,bA,iB];omega) (by decide) rfl rfl ?_
   ((conv=>whnf);repeat ((first|(intro hq;try simp only [lnS]at hq)|refine sI ?_|refine .intro _ (.intro rfl ?_));(conv=>whnf)))
   refine WrT.call hle' rfl _ (by simp only [List.length_append,bA,iB];omega) (by decide) rfl rfl ?_
   ((conv=>whnf);repeat ((first|(intro hq;try simp only [lnS]at hq)|refine sI ?_|refine .intro _ (.intro rfl ?_));(conv=>whnf)))
   refine WrT.call hri' rfl _ (by simp only [List.length_append,bA,iB];omega) (by decide) rfl rfl ?_
   ((conv=>whnf);repeat ((first|(intro hq;try simp only [lnS]at hq)|refine sI ?_|refine .intro _ (.intro rfl ?_));(conv=>whnf)))
   refine WrT.call (aFz rs) rfl _ (by simp only [List.length_append,bA,iB];omega) (by decide) rfl rfl ?_
   ((conv=>whnf);repeat ((first|(intro hq;try simp only [lnS]at hq)|refine sI ?_|refine .intro _ (.intro rfl ?_));(conv=>whnf)))
   refine WrT.call (jE s1) rfl _ (by simp only [List.length_append,bA,iB];omega) (by decide) rfl rfl ?_
   ((conv=>whnf);repeat ((first|(intro hq;try simp only [lnS]at hq)|refine sI ?_|refine .intro _ (.intro rfl ?_));(conv=>whnf)))
   refine WrT.call (jE s2) rfl _ (by simp only [List.length_append,bA,iB];omega) (by decide) rfl rfl ?_
   ((conv=>whnf);repeat ((first|(intro hq;try simp only [lnS]at hq)|refine sI ?_|refine .intro _ (.intro rfl ?_));(conv=>whnf)))
   refine WrT.call (jE s3) rfl _ (by simp only [List.length_append,bA,iB];omega) (by decide) rfl rfl ?_
   ((conv=>whnf);repeat ((first|(intro hq;try simp only [lnS]at hq)|refine sI ?_|refine .intro _ (.intro rfl ?_));(conv=>whnf)))
   refine⟨j+1,by dsimp only;omega,by dsimp only;omega, ?_⟩
   dsimp only
   rw [hnx]
   unfold wA
   simp only [mZ]
   exact⟨by repeat' (first|exact trivial|exact rfl|refine And.intro ?_ ?_),by repeat' (first|exact trivial|exact rfl|refine And.intro ?_ ?_)⟩
  ·have hB:WrT 45 [.d (.int .i64 1)] (wB true):=pW 1
   ((conv=>whnf);repeat ((first|(intro hq;try simp only [lnS]at hq)|refine sI ?_|refine .intro _ (.intro rfl ?_));(conv=>whnf)))
   refine WrT.call (pW kd) rfl _ (by simp only [List.length_append,bA];omega) (by decide) rfl rfl ?_
   ((conv=>whnf);repeat ((first|(intro hq;try simp only [lnS]at hq)|refine sI ?_|refine .intro _ (.intro rfl ?_));(conv=>whnf)))
   refine WrT.call hB rfl _ (by simp only [List.length_append,bA,iB];omega) (by decide) rfl rfl ?_
   ((conv=>whnf);repeat ((first|(intro hq;try simp only [lnS]at hq)|refine sI ?_|refine .intro _ (.intro rfl ?_));(conv=>whnf)))
   refine WrT.call hle' rfl _ (by simp only [List.length_append,bA,iB];omega) (by decide) rfl rfl ?_
   ((conv=>whnf);repeat ((first|(intro hq;try simp only [lnS]at hq)|refine sI ?_|refine .intro _ (.intro rfl ?_));(conv=>whnf)))
   refine WrT.call hri' rfl _ (by simp only [List.length_append,bA,iB];omega) (by decide) rfl rfl ?_
   ((conv=>whnf);repeat ((first|(intro hq;try simp only [lnS]at hq)|refine sI ?_|refine .intro _ (.intro rfl ?_));(conv=>whnf)))
   refine WrT.call (aFz rs) rfl _ (by simp only [List.length_append,bA,iB];omega) (by decide) rfl rfl ?_
   ((conv=>whnf);repeat ((first|(intro hq;try simp only [lnS]at hq)|refine sI ?_|refine .intro _ (.intro rfl ?_));(conv=>whnf)))
   refine WrT.call (jE s1) rfl _ (by simp only [List.length_append,bA,iB];omega) (by decide) rfl rfl ?_
   ((conv=>whnf);repeat ((first|(intro hq;try simp only [lnS]at hq)|refine sI ?_|refine .intro _ (.intro rfl ?_));(conv=>whnf)))
   refine WrT.call (jE s2) rfl _ (by simp only [List.length_append,bA,iB];omega) (by decide) rfl rfl ?_
   ((conv=>whnf);repeat ((first|(intro hq;try simp only [lnS]at hq)|refine sI ?_|refine .intro _ (.intro rfl ?_));(conv=>whnf)))
   refine WrT.call (jE s3) rfl _ (by simp only [List.length_append,bA,iB];omega) (by decide) rfl rfl ?_
   ((conv=>whnf);repeat ((first|(intro hq;try simp only [lnS]at hq)|refine sI ?_|refine .intro _ (.intro rfl ?_));(conv=>whnf)))
   refine⟨j+1,by dsimp only;omega,by dsimp only;omega, ?_⟩
   dsimp only
   rw [hnx]
   unfold wA
   simp only [mZ]
   exact⟨by repeat' (first|exact trivial|exact rfl|refine And.intro ?_ ?_),by repeat' (first|exact trivial|exact rfl|refine And.intro ?_ ?_)⟩
 ·have hjl:j=l.length:=by omega
  subst hjl
  rw [List.take_length]
  ((conv=>whnf);repeat ((first|(intro hq;try simp only [lnS]at hq)|refine sI ?_|refine .intro _ (.intro rfl ?_));(conv=>whnf)))
  exact rfl
theorem aKu (c:Cm):WrT 40 [.d (.agg (cmR c))] (wCm c):=by
 intro p hp
 unfold wCm at hp |-
 obtain⟨no,l,dg,m⟩:=c
 obtain⟨xl,hx⟩:=dg
 dsimp only at hp |-
 have hwd:=pX ⟨xl,hx⟩
 have hld:(rT ⟨xl,hx⟩).length=32:=hx
 generalize hD:rT ⟨xl,hx⟩=D at *
 obtain⟨y0,y1,y2,y3,y4,y5,y6,y7,y8,y9,y10,y11,y12,y13,y14,y15,y16,y17,y18,y19,y20,y21,y22,y23,y24,y25,y26,y27,y28,y29,y30,y31,rfl⟩:=aBg hx
 clear hD
 simp only [List.length_append,eI,gX,hld]at hp
 have hn:=mP (w:=lG) (Nat.le_refl 1) (λz=>by rw [eI];omega) l
 have hu:uN (l.length:Int)=l.length:=yX (by omega)
 have hlr:(l.map aUd).length=l.length:=List.length_map ..
 refine aI false [] hty Tryz.func40 rfl (kp [0,1,3,5,16,17,18,19]) 100 (by simp [Tryz.f40]) ?_
 ((conv=>whnf);repeat ((first|(intro hq;try simp only [lnS]at hq)|refine sI ?_|refine .intro _ (.intro rfl ?_));(conv=>whnf)))
 refine WrT.call (lL no) rfl p (by rw [bH];omega) (by decide) rfl rfl ?_
 ((conv=>whnf);repeat ((first|(intro hq;try simp only [lnS]at hq)|refine sI ?_|refine .intro _ (.intro rfl ?_));(conv=>whnf)))
 rw [hlr]
 refine WrT.call (nC l.length) rfl _ (by simp only [List.length_append,bH];omega) (by decide) rfl rfl ?_
 rw [hu]
 have hqq:(p++lG no++beN 4 l.length).length=p.length+(8+4):=by simp only [List.length_append,eI,bH]
 have hfin:p++(lG no++(iA lG l++(D++lC m)))=p++lG no++beN 4 l.length++(l.map lG).flatten++D++lC m:=by unfold iA;simp only [mZ]
 rw [hfin]
 clear hfin
 change gK _ _ (wrC 4 (p++lG no++beN 4 l.length)) λh=>gK h _ (wrB (p++lG no++beN 4 l.length)) _
 generalize p++lG no++beN 4 l.length=q at *
 ((conv=>whnf);repeat ((first|(intro hq;try simp only [lnS]at hq)|refine sI ?_|refine .intro _ (.intro rfl ?_));(conv=>whnf)))
 rw [hlr]
 refine aK hty (λj:Nat=>([(0, .ptr 3 0),(3, .ptr 103 0),(16, .d (.sl 1 (l.map aUd))),(17, .d (.int .i64 l.length)),(18, .d (.int .i64 j))],[(3,wrC 4 (q++((l.take j).map lG).flatten)),(4,wrB (q++((l.take j).map lG).flatten)),(103, .cells 58 ((cmR ⟨no,l,⟨[y0,y1,y2,y3,y4,y5,y6,y7,y8,y9,y10,y11,y12,y13,y14,y15,y16,y17,y18,y19,y20,y21,y22,y23,y24,y25,y26,y27,y28,y29,y30,y31],rfl⟩,m⟩).map .d))])) (λj=>j<=l.length) (λj=>l.length - j) 0 (by omega) ⟨by repeat' (first|exact trivial|exact rfl|refine And.intro ?_ ?_),by rw [List.take_zero,List.map_nil,List.flatten_nil,List.append_nil];exact⟨rfl,rfl,rfl,trivial⟩⟩ ?_
 intro j hj
 ((conv=>whnf);repeat ((first|(intro hq;try simp only [lnS]at hq)|refine sI ?_|refine .intro _ (.intro rfl ?_));(conv=>whnf)))
 refine aA (λh1=> ?_) (λh1=> ?_)
 ·have hjl:j < l.length:=by omega
  have hrow:(l.map aUd)[((j:Nat):Int).toNat]? =some (aUd l[j]):=bV hjl
  have hnx:=mO (w:=lG) hjl
  have hle:=xE (w:=lG) l (j+1)
  rw [hnx,List.length_append,eI]at hle
  ((conv=>whnf);repeat ((first|(refine⟨_,hrow, ?_⟩)|(intro hq;try simp only [lnS]at hq)|refine sI ?_|refine .intro _ (.intro rfl ?_));(conv=>whnf)))
  refine WrT.call (lL l[j]) rfl _ (by rw [List.length_append,bH];omega) (by decide) rfl rfl ?_
  ((conv=>whnf);repeat ((first|(intro hq;try simp only [lnS]at hq)|refine sI ?_|refine .intro _ (.intro rfl ?_));(conv=>whnf)))
  refine⟨j+1,by dsimp only;omega,by dsimp only;omega, ?_⟩
  dsimp only
  rw [hnx,<-List.append_assoc]
  exact⟨by repeat' (first|exact trivial|exact rfl|refine And.intro ?_ ?_),by repeat' (first|exact trivial|exact rfl|refine And.intro ?_ ?_)⟩
 ·have hjl:j=l.length:=by omega
  subst hjl
  rw [List.take_length]
  ((conv=>whnf);repeat ((first|(intro hq;try simp only [lnS]at hq)|refine sI ?_|refine .intro _ (.intro rfl ?_));(conv=>whnf)))
  refine WrT.call hwd rfl _ (by rw [List.length_append];omega) (by decide) rfl rfl ?_
  ((conv=>whnf);repeat ((first|(intro hq;try simp only [lnS]at hq)|refine sI ?_|refine .intro _ (.intro rfl ?_));(conv=>whnf)))
  refine WrT.call (jE m) rfl _ (by simp only [List.length_append];omega) (by decide) rfl rfl ?_
  ((conv=>whnf);repeat ((first|(intro hq;try simp only [lnS]at hq)|refine sI ?_|refine .intro _ (.intro rfl ?_));(conv=>whnf)))
  exact rfl
theorem aC6 (a:Al):WrT 41 [.d (.agg (alR a))] (wAl a):=by
 intro p hp
 unfold wAl at hp |-
 obtain⟨nm,d1,ax,d2,ix,ps,pt⟩:=a
 obtain⟨yl,hy⟩:=d1
 obtain⟨zl,hz⟩:=d2
 dsimp only at hp |-
 have hw1:=pX ⟨yl,hy⟩
 have hl1:(rT ⟨yl,hy⟩).length=32:=hy
 generalize hD:rT ⟨yl,hy⟩=D at *
 obtain⟨y0,y1,y2,y3,y4,y5,y6,y7,y8,y9,y10,y11,y12,y13,y14,y15,y16,y17,y18,y19,y20,y21,y22,y23,y24,y25,y26,y27,y28,y29,y30,y31,rfl⟩:=aBg hy
 clear hD
 have hw2:=pX ⟨zl,hz⟩
 have hl2:(rT ⟨zl,hz⟩).length=32:=hz
 generalize hE:rT ⟨zl,hz⟩=E at *
 obtain⟨z0,z1,z2,z3,z4,z5,z6,z7,z8,z9,z10,z11,z12,z13,z14,z15,z16,z17,z18,z19,z20,z21,z22,z23,z24,z25,z26,z27,z28,z29,z30,z31,rfl⟩:=aBg hz
 clear hE
 simp only [List.length_append,eI,hl1,hl2]at hp
 refine aI false [] hty Tryz.func41 rfl (kp [0,1,3]) 100 (by simp [Tryz.f41]) ?_
 ((conv=>whnf);repeat ((first|(intro hq;try simp only [lnS]at hq)|refine sI ?_|refine .intro _ (.intro rfl ?_));(conv=>whnf)))
 refine WrT.call (jE nm) rfl p (by omega) (by decide) rfl rfl ?_
 ((conv=>whnf);repeat ((first|(intro hq;try simp only [lnS]at hq)|refine sI ?_|refine .intro _ (.intro rfl ?_));(conv=>whnf)))
 refine WrT.call hw1 rfl _ (by simp only [List.length_append];omega) (by decide) rfl rfl ?_
 ((conv=>whnf);repeat ((first|(intro hq;try simp only [lnS]at hq)|refine sI ?_|refine .intro _ (.intro rfl ?_));(conv=>whnf)))
 refine WrT.call (aC4 ax) rfl _ (by simp only [List.length_append];omega) (by decide) rfl rfl ?_
 ((conv=>whnf);repeat ((first|(intro hq;try simp only [lnS]at hq)|refine sI ?_|refine .intro _ (.intro rfl ?_));(conv=>whnf)))
 refine WrT.call hw2 rfl _ (by simp only [List.length_append];omega) (by decide) rfl rfl ?_
 ((conv=>whnf);repeat ((first|(intro hq;try simp only [lnS]at hq)|refine sI ?_|refine .intro _ (.intro rfl ?_));(conv=>whnf)))
 refine WrT.call (lL ix) rfl _ (by simp only [List.length_append,bH];omega) (by decide) rfl rfl ?_
 ((conv=>whnf);repeat ((first|(intro hq;try simp only [lnS]at hq)|refine sI ?_|refine .intro _ (.intro rfl ?_));(conv=>whnf)))
 refine WrT.call (yS ps) rfl _ (by simp only [List.length_append,bH];omega) (by decide) rfl rfl ?_
 ((conv=>whnf);repeat ((first|(intro hq;try simp only [lnS]at hq)|refine sI ?_|refine .intro _ (.intro rfl ?_));(conv=>whnf)))
 refine WrT.call (yS pt) rfl _ (by simp only [List.length_append,bH];omega) (by decide) rfl rfl ?_
 unfold lG
 simp only [mZ]
 ((conv=>whnf);repeat ((first|(intro hq;try simp only [lnS]at hq)|refine sI ?_|refine .intro _ (.intro rfl ?_));(conv=>whnf)))
 exact rfl
end Go.Proofs.YtbobcfjlbcgchaaGreatDoor
namespace Go.Proofs.YtbobcfjlbcgchaaGreatDoor
open Go.Proofs
def yC {α:Type}(c:α->α->Int) (a b d:α):Prop:=
 (c a b < 0->c b d < 0->c a d < 0)/\(c a b=0->c a d=c b d)/\(c b d=0->c a b=c a d)
structure LCk {α:Type} (c:α->α->Int):Prop where
 rng: ∀a b,c a b= -1\/c a b=0\/c a b=1
 anti: ∀a b,c b a= - c a b
 t3: ∀a b d,yC c a b d
def lex (x y:Int):Int:=if x≠0 then x else y
theorem LCk.lex {α:Type}{c1 c2:α->α->Int}(h1:LCk c1) (h2:LCk c2):LCk (λa b=>lex (c1 a b) (c2 a b)):=by
 refine⟨λa b=> ?_,λa b=> ?_,λa b d=> ?_⟩
 ·have:=h1.rng a b
  have:=h2.rng a b
  unfold Proofs.YtbobcfjlbcgchaaGreatDoor.lex
  split<;>omega
 ·have:=h1.anti a b
  have:=h2.anti a b
  unfold Proofs.YtbobcfjlbcgchaaGreatDoor.lex
  split<;>split<;>omega
 ·have a1:=h1.t3 a b d
  have a2:=h1.t3 b d a
  have a3:=h1.t3 d a b
  have b1:=h2.t3 a b d
  have r1:=h1.rng a b
  have r2:=h1.rng b d
  have r3:=h1.rng a d
  have n1:=h1.anti a b
  have n2:=h1.anti b d
  have n3:=h1.anti a d
  unfold yC at *
  unfold Proofs.YtbobcfjlbcgchaaGreatDoor.lex
  dsimp only
  refine⟨?_, ?_, ?_⟩<;>(split<;>split<;>split<;>omega)
theorem LCk.of {α β:Type}{c:β->β->Int}(h:LCk c) (k:α->β):LCk (λa b=>c (k a) (k b)):=
 ⟨λa b=>h.rng _ _,λa b=>h.anti _ _,λa b d=>h.t3 _ _ _⟩
theorem LCk.int:LCk xR:=by
 refine⟨λa b=> ?_,λa b=> ?_,λa b d=> ?_⟩
 ·unfold xR;split<;>(try split)<;>simp
 ·unfold xR;split<;>split<;>(try split)<;>omega
 ·unfold yC xR
  refine⟨?_, ?_, ?_⟩<;>(split<;>(try split)<;>split<;>(try split)<;>(try split)<;>(try split)<;>omega)
theorem rO {a b:Int}:xR a b=0↔a=b:=by
 unfold xR;split<;>(try split)<;>omega
theorem LCk.str:LCk iP:=by
 refine⟨sS,aDy,λa b d=>⟨aAb a b d,λh=> ?_,λh=> ?_⟩⟩
 ·rw [(dZ a b).1 h]
 ·rw [(dZ b d).1 h]
theorem iX (x:Int) (l:List Int):orF (x::l)=lex x (orF l):=rfl
theorem LCk.zero {α:Type}:LCk (λ_ _:α=>(0:Int)):=⟨λ_ _=>by simp,λ_ _=>by simp,λ_ _ _=>by simp [yC]⟩
theorem fE:LCk sN:=by
 have h:=(LCk.int.of (λc:Cn=>(bB c:Int))).lex ((LCk.int.of Cn.kind).lex ((LCk.str.of Cn.name).lex ((LCk.int.of Cn.lo).lex ((LCk.int.of Cn.hi).lex LCk.zero))))
 exact h
theorem eE {x y:Int}:lex x y=0↔x=0/\y=0:=by unfold lex;split<;>omega
theorem aJw {a b:Cn}(h:sN a b=0):a.kind=b.kind/\a.name=b.name/\a.lo=b.lo/\a.hi=b.hi:=by
 unfold sN at h
 simp only [iX,eE,rO,dZ]at h
 exact⟨h.2.1,h.2.2.1,h.2.2.2.1,h.2.2.2.2.1⟩
theorem kW (a b:Cn):iT a b=lex (sN a b) (iS a.parts b.parts):=by rw [aO3];rfl
mutual
theorem rP: ∀(a b:Cn),iT a b= -1\/iT a b=0\/iT a b=1
 | .mk k n lo hi ps,b=>by
  have h1:=fE.rng (.mk k n lo hi ps) b
  have h2:=aHu ps b.parts
  rw [kW,show (Cn.mk k n lo hi ps).parts=ps from rfl]
  unfold lex;split<;>omega
theorem aHu: ∀(l m:List Cn),iS l m= -1\/iS l m=0\/iS l m=1
 | [],[]=>by simp [iS]
 | [],_::_=>by simp [iS]
 |_::_,[]=>by simp [iS]
 |a::l,b::m=>by
  have h1:=rP a b
  have h2:=aHu l m
  rw [iS];split<;>omega
end
mutual
theorem dJ: ∀(a b:Cn),iT b a= - iT a b
 | .mk k n lo hi ps,b=>by
  have h1:=fE.anti (.mk k n lo hi ps) b
  have h2:=aDx ps b.parts
  rw [kW,kW,h1]
  show lex _ (iS b.parts ps)= - lex _ (iS ps b.parts)
  rw [h2]
  unfold lex;split<;>split<;>omega
theorem aDx: ∀(l m:List Cn),iS m l= - iS l m
 | [],[]=>by simp [iS]
 | [],_::_=>by simp [iS]
 |_::_,[]=>by simp [iS]
 |a::l,b::m=>by
  have h1:=dJ a b
  have h2:=aDx l m
  rw [iS,iS,h1,h2];split<;>split<;>omega
end
mutual
theorem mV: ∀(a b d:Cn),yC iT a b d
 | .mk k n lo hi ps,b,d=>by
  have a1:=fE.t3 (.mk k n lo hi ps) b d
  have a2:=fE.t3 b d (.mk k n lo hi ps)
  have a3:=fE.t3 d (.mk k n lo hi ps) b
  have n1:=fE.anti (.mk k n lo hi ps) b
  have n2:=fE.anti b d
  have n3:=fE.anti (.mk k n lo hi ps) d
  have r1:=fE.rng (.mk k n lo hi ps) b
  have r2:=fE.rng b d
  have r3:=fE.rng (.mk k n lo hi ps) d
  have b1:=aO1 ps b.parts d.parts
  unfold yC at *
  rw [kW,kW,kW]
  rw [show (Cn.mk k n lo hi ps).parts=ps from rfl]
  generalize sN (.mk k n lo hi ps) b=x1 at *
  generalize sN (.mk k n lo hi ps) d=x2 at *
  generalize sN b d=x3 at *
  generalize sN b (.mk k n lo hi ps)=x4 at *
  generalize sN d (.mk k n lo hi ps)=x5 at *
  generalize sN d b=x6 at *
  generalize iS ps b.parts=y1 at *
  generalize iS ps d.parts=y2 at *
  generalize iS b.parts d.parts=y3 at *
  unfold lex
  refine⟨?_, ?_, ?_⟩<;>(split<;>split<;>split<;>omega)
theorem aO1: ∀(l m n:List Cn),yC iS l m n
 | [],m,n=>by
  cases m<;>cases n<;>simp [yC,iS]
 |a::l,[],n=>by
  cases n<;>simp [yC,iS]
 |a::l,b::m,[]=>by
  simp only [yC,iS]
  refine⟨by omega,λh=> ?_,λh=>by omega⟩
  first|rfl|trivial|(simp_all)
 |a::l,b::m,d::n=>by
  have a1:=mV a b d
  have b1:=aO1 l m n
  have r1:=rP a b
  have r2:=rP b d
  have r3:=rP a d
  have n2:=dJ b d
  unfold yC at *
  rw [iS,iS,iS]
  generalize iT a b=x1 at *
  generalize iT a d=x2 at *
  generalize iT b d=x3 at *
  generalize iS l m=y1 at *
  generalize iS l n=y2 at *
  generalize iS m n=y3 at *
  refine⟨?_, ?_, ?_⟩<;>(split<;>split<;>split<;>omega)
end
theorem aO2:LCk iT:=⟨rP,dJ,mV⟩
mutual
theorem aHw: ∀(a b:Cn),iT a b=0->a=b
 | .mk k n lo hi ps, .mk k' n' lo' hi' ps',h=>by
  rw [kW,eE]at h
  obtain⟨h1,h2⟩:=h
  obtain⟨e1,e2,e3,e4⟩:=aJw h1
  have e5:=aHv ps ps' h2
  simp only [Cn.kind,Cn.name,Cn.lo,Cn.hi]at e1 e2 e3 e4
  rw [e1,e2,e3,e4,e5]
theorem aHv: ∀(l m:List Cn),iS l m=0->l=m
 | [],[],_=>rfl
 | [],_::_,h=>by simp [iS]at h
 |_::_,[],h=>by simp [iS]at h
 |a::l,b::m,h=>by
  rw [iS]at h
  have h:lex (iT a b) (iS l m)=0:=h
  rw [eE]at h
  rw [aHw a b h.1,aHv l m h.2]
end
theorem mW (a:Cn):iT a a=0:=by have:=dJ a a;omega
theorem mU {a b:Cn}:iT a b=0↔a=b:=⟨aHw a b,λh=>h ▸ mW a⟩
def aNc (c:Cn):List Cn->List Cn
 | []=>[c]
 |d::r=>if iT c d < 0 then c::d::r else if iT c d=0 then d::r else d::aNc c r
def lH:List Cn->List Cn
 | []=>[]
 |c::r=>aNc c (lH r)
abbrev aKs (l:List Cn):Prop:=l.Pairwise (λa b=>iT a b < 0)
theorem aBe {c x:Cn}: ∀{l:List Cn},x∈aNc c l↔x=c\/x∈l
 | []=>by simp [aNc]
 |d::r=>by
  rw [aNc]
  split
  ·simp
  ·split
   ·rename_i h
    have:=mU.1 h
    subst this
    simp
   ·simp only [List.mem_cons,aBe (l:=r)]
    constructor
    ·rintro(h|h|h)<;>simp [h]
    ·rintro(h|h|h)<;>simp [h]
theorem dG {x:Cn}: ∀{l:List Cn},x∈lH l↔x∈l
 | []=>by simp [lH]
 |c::r=>by rw [lH,aBe,dG,List.mem_cons]
theorem aGa {c:Cn}: ∀{l:List Cn},aKs l->aKs (aNc c l)
 | [],_=>by simp [aNc,aKs]
 |d::r,h=>by
  rw [aNc]
  have h1:=List.pairwise_cons.1 h
  split
  ·rename_i hlt
   refine List.pairwise_cons.2 ⟨λx hx=> ?_,h⟩
   rcases List.mem_cons.1 hx with rfl|hx
   ·exact hlt
   ·exact(mV c d x).1 hlt (h1.1 x hx)
  ·split
   ·exact h
   ·rename_i h2 h3
    refine List.pairwise_cons.2 ⟨λx hx=> ?_,aGa h1.2⟩
    rcases aBe.1 hx with rfl|hx
    ·have:=dJ x d;omega
    ·exact h1.1 x hx
theorem qH: ∀(l:List Cn),aKs (lH l)
 | []=> .nil
 |c::r=>aGa (qH r)
theorem aLp {l:List Cn}(h:aKs l):l.Nodup:=h.imp λ{a b} h e=>by rw [e,mW]at h;omega
theorem sC: ∀{l m:List Cn},aKs l->aKs m->(∀x,x∈l↔x∈m)->l=m
 | [],[],_,_,_=>rfl
 | [],b::m,_,_,h=>by have:=(h b).2 (by simp);simp at this
 |a::l,[],_,_,h=>by have:=(h a).1 (by simp);simp at this
 |a::l,b::m,h1,h2,h=>by
  have p1:=List.pairwise_cons.1 h1
  have p2:=List.pairwise_cons.1 h2
  have hab:a=b:=by
   rcases List.mem_cons.1 ((h a).1 (by simp))with e|e
   ·exact e
   ·rcases List.mem_cons.1 ((h b).2 (by simp))with e'|e'
    ·exact e'.symm
    ·have q1:=p1.1 b e'
     have q2:=p2.1 a e
     have:=dJ a b
     omega
  subst hab
  rw [sC p1.2 p2.2 λx=> ?_]
  have hx:=h x
  simp only [List.mem_cons]at hx
  have d1: ∀x∈l,x≠a:= λx hx e=>by have:=p1.1 x hx;rw [e,mW]at this;omega
  have d2: ∀x∈m,x≠a:= λx hx e=>by have:=p2.1 x hx;rw [e,mW]at this;omega
  constructor
  ·intro hl
   rcases hx.1 (.inr hl)with e|e
   ·exact absurd e (d1 x hl)
   ·exact e
  ·intro hm
   rcases hx.2 (.inr hm)with e|e
   ·exact absurd e (d2 x hm)
   ·exact e
theorem aM1 {l m:List Cn}(h1:aKs m) (h: ∀x,x∈m↔x∈l):m=lH l:=sC h1 (qH l) λx=>by rw [dG,h]
theorem aIq {l m:List Cn}(h: ∀x,x∈l↔x∈m):lH l=lH m:=sC (qH l) (qH m) λx=>by rw [dG,dG,h]
theorem aM0 {l:List Cn}(h:aKs l):lH l=l:=(aM1 h λ_=>Iff.rfl).symm
def aEb {α:Type}(eq:α->α->Bool):α->List α->List α
 |_,[]=>[]
 |p,b::r=>if eq b p then aEb eq b r else b::aEb eq b r
def aDq {α:Type}(eq:α->α->Bool):List α->List α
 | []=>[]
 |a::r=>a::aEb eq a r
def aA2 (a b:Cn):Bool:=decide (iT a b=0)
theorem aDo: ∀(p:Cn) (l:List Cn),(p::l).Pairwise (λa b=>¬ iT b a < 0)->aKs (p::aEb aA2 p l)/\ ∀x,x∈p::aEb aA2 p l↔x∈p::l
 |p,[],_=>⟨by simp [aEb,aKs],λx=>by simp [aEb]⟩
 |p,b::r,h=>by
  have h1:=List.pairwise_cons.1 h
  obtain⟨i1,i2⟩:=aDo b r h1.2
  rw [aEb]
  by_cases he:iT b p=0
  ·have hb:b=p:=mU.1 he
   subst hb
   rw [if_pos (by simp [aA2,he])]
   exact⟨i1,λx=>by rw [i2];simp⟩
  ·rw [if_neg (by simp [aA2,he])]
   have hlt:iT p b < 0:=by
    have:=h1.1 b (by simp)
    have:=dJ p b
    omega
   refine⟨List.pairwise_cons.2 ⟨λx hx=> ?_,i1⟩,λx=> ?_⟩
   ·rcases List.mem_cons.1 hx with rfl|hx
    ·exact hlt
    ·exact(mV p b x).1 hlt ((List.pairwise_cons.1 i1).1 x hx)
   ·rw [List.mem_cons,i2,List.mem_cons (a:=x) (b:=p)]
theorem aFq {l l':List Cn}(hp:l'.Perm l) (hs:l'.Pairwise (λa b=>¬ iT b a < 0)):aDq aA2 l'=lH l:=by
 cases l' with
 |nil=>
  have:=hp.symm.eq_nil
  subst this
  rfl
 |cons a r=>
  obtain⟨h1,h2⟩:=aDo a r hs
  exact aM1 h1 λx=>(h2 x).trans hp.mem_iff
end Go.Proofs.YtbobcfjlbcgchaaGreatDoor
namespace Go.Proofs.YtbobcfjlbcgchaaGreatDoor
open Go.Proofs
def c0:Cn:= .mk 0 [] 0 0 []
def aKj:Cn:= .mk 1 [] 0 0 []
def bN (c:Cn):List Cn:=if c.kind=1 then []else if c.kind=5 then c.parts else [c]
def eG (s:List Cn):Cn×Int:=match s.find? (λt=>decide (t.kind=2))with
 |some t=>(t,0)
 |none=>if s.length=0 then (aKj,0)else if s.length=1 then (s.headD c0,0)else if 8 < s.length then (c0,2)else (.mk 5 [] 0 0 s,0)
def aXo (l:List Cn):Cn×Int:=eG (lH l)
def jV (l:List (Cn×Int)):Cn×Int:=match l.find? (λr=>decide (r.2≠0))with
 |some r=>(c0,r.2)
 |none=>aXo (l.flatMap λr=>bN r.1)
def vN (n:List UInt8) (l:List (Cn×Int)):Cn×Int:=match l with
 | []=>(c0,0)
 |r::_=>if r.2≠0\/r.1.kind=2 then r else (.mk 6 n 0 0 [r.1],0)
mutual
def aL:Cn->Cn×Int
 | .mk k n lo hi ps=>if k=6 then vN n (yD ps)else if k=5 then jV (yD ps)else (.mk k n lo hi ps,0)
def yD:List Cn->List (Cn×Int)
 | []=>[]
 |c::r=>aL c::yD r
end
theorem pZ: ∀l,yD l=l.map aL
 | []=>rfl
 |c::r=>by rw [yD,pZ r];rfl
theorem gT (c:Cn):aL c=if c.kind=6 then vN c.name (c.parts.map aL)else if c.kind=5 then jV (c.parts.map aL)else (c,0):=by
 cases c;rw [aL,pZ];rfl
def lR (l:List Cn):Nat:=(bM l).length
theorem qE:lR []=0:=rfl
theorem bW (c:Cn) (l:List Cn):lR (c::l)=bB c+lR l:=by simp [lR,bM,bB]
theorem vK (l m:List Cn):lR (l++m)=lR l+lR m:=by simp [lR,dN]
theorem eJ (c:Cn):bB c=lR c.parts+1:=aGd c
theorem aG7 {c:Cn}{l:List Cn}(h:c∈l):bB c<=lR l:=zS h
theorem aG8 (c:Cn): ∀l,lR (aNc c l)<=bB c+lR l
 | []=>by rw [aNc,bW,qE];omega
 |d::r=>by
  have:=aG8 c r
  rw [aNc]
  split
  ·rw [bW,bW];omega
  ·split
   ·rw [bW];omega
   ·rw [bW,bW];omega
theorem aG6: ∀l,lR (lH l)<=lR l
 | []=>by simp [lH]
 |c::r=>by
  have:=aG6 r
  have:=aG8 c (lH r)
  rw [lH,bW];omega
theorem aEp:bB c0=1:=rfl
theorem aPd:bB aKj=1:=rfl
theorem aIj (c:Cn):lR (bN c)<=bB c:=by
 unfold bN
 split
 ·rw [qE];omega
 ·split
  ·have:=eJ c;omega
  ·rw [bW,qE];omega
theorem aK6 (s:List Cn):bB (eG s).1<=lR s+1:=by
 unfold eG
 split
 ·rename_i t h
  have:=aG7 (List.mem_of_find?_eq_some h)
  show bB t<=_
  omega
 ·split
  ·show bB aKj<=_;rw [aPd];omega
  ·split
   ·rename_i h0 h1
    match s,h1 with
    | [x],_=>show bB x<=_;rw [bW];omega
   ·split
    ·show bB c0<=_;rw [aEp];omega
    ·show bB (.mk 5 [] 0 0 s)<=_
     rw [eJ];exact Nat.le_refl _
theorem vJ: ∀(l:List (Cn×Int)),lR (l.flatMap λr=>bN r.1)<=lR (l.map (·.1))
 | []=>by simp
 |r::l=>by
  have:=vJ l
  have:=aIj r.1
  rw [List.flatMap_cons,List.map_cons,vK,bW];omega
theorem aJg (l:List (Cn×Int)):bB (jV l).1<=lR (l.map (·.1))+1:=by
 unfold jV
 split
 ·show bB c0<=_;rw [aEp];omega
 ·have h1:=aK6 (lH (l.flatMap λr=>bN r.1))
  have h2:=aG6 (l.flatMap λr=>bN r.1)
  have h3:=vJ l
  show bB (eG (lH (l.flatMap λr=>bN r.1))).1<=_
  omega
theorem aIn (n:List UInt8) (l:List (Cn×Int)):bB (vN n l).1<=lR (l.map (·.1))+1:=by
 unfold vN
 split
 ·show bB c0<=_;rw [aEp];omega
 ·rename_i r l
  rw [List.map_cons,bW]
  split
  ·omega
  ·show bB (.mk 6 n 0 0 [r.1])<=_
   rw [eJ]
   show lR [r.1]+1<=_
   rw [bW,qE];omega
mutual
theorem jO: ∀c,bB (aL c).1<=bB c
 | .mk k n lo hi ps=>by
  have:=rY ps
  have h1:bB (.mk k n lo hi ps)=lR ps+1:=eJ _
  rw [aL]
  split
  ·have:=aIn n (yD ps);omega
  ·split
   ·have:=aJg (yD ps);omega
   ·exact Nat.le_refl _
theorem rY: ∀l,lR ((yD l).map (·.1))<=lR l
 | []=>by simp [yD]
 |c::r=>by
  have:=jO c
  have:=rY r
  rw [yD,List.map_cons,bW,bW];omega
end
end Go.Proofs.YtbobcfjlbcgchaaGreatDoor
