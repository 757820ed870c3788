/-
  slices.BinarySearch over strings. The keys of a map, collected and sorted: maps.Keys, slices.AppendSeq, slices.Collect, slices.Sorted. Layer 6: the graph. slices.Reverse on numbers.
  Conditions: none.
-/
import Derived.Test.YtfhoddcminbffaaGreatDoorMQm
import Derived.Test.YtfhoddcminbffaaGreatDoorMQb
import Derived.Test.YtfhoddcminbffaaGreatDoorMQp
import Derived.Test.YtfhoddcminbffaaGreatDoorMBp
import Derived.Test.YtfhoddcminbffaaGreatDoorMPh
import Derived.Test.YtfhoddcminbffaaGreatDoorMAk
import Derived.Test.YtfhoddcminbffaaGreatDoorMSna
set_option linter.unnecessarySimpa false
set_option linter.unusedSectionVars false
set_option linter.unusedSimpArgs false
set_option linter.unusedVariables false
set_option maxHeartbeats 16000000
namespace Go.Proofs.YtfhoddcminbffaaGreatDoor
open Go.Proofs
set_option maxRecDepth 10000
attribute [local irreducible] aM aJ Tri aH YVC dI bI
theorem vM (a:List UInt8):Tri Tryz.prog 183 [.d (.str a)] [] (λr=>r= .d (.bool false)):=by
 refine aK hty Tryz.func183 rfl (kp [0,2]) [] _ _ _ (by simp [Tryz.f183]) (by simp) ?_
 ((conv=>whnf);repeat' ((first|(intro hq;(try simp only [lnS]at hq);(try rewrite [List.length_map]))|refine sJ ?_|refine .intro _ (.intro rfl ?_)|refine exL (k:= ?_)|refine dwR ?_|((first|refine aB ?_ ?_|refine aC ?_ ?_)<;>intro hb<;>(first|exact ddX hb|try simp only [lnS]at hb))|(refine aA ?_ ?_<;>intro hb<;>try exact dsX hb))<;>(conv=>whnf)))
 all_goals first|rfl|(exact aX (by simp))
theorem aJr (a b:List UInt8):Tri Tryz.prog 182 [.d (.str a), .d (.str b)] [] (λr=>r= .d (.bool (Op.bytesLess a b))):=by
 refine aK hty Tryz.func182 rfl (kp [0,1,4]) [] _ _ _ (by simp [Tryz.f182]) (by simp) ?_
 ((conv=>whnf);repeat' ((first|(intro hq;(try simp only [lnS]at hq);(try rewrite [List.length_map]))|refine sJ ?_|refine .intro _ (.intro rfl ?_)|refine exL (k:= ?_)|(refine aD [] (vL _) trivial (λr hs=> ?_);subst hs)|refine dwR ?_|((first|refine aB ?_ ?_|refine aC ?_ ?_)<;>intro hb<;>(first|exact ddX hb|try simp only [lnS]at hb))|(refine aA ?_ ?_<;>intro hb<;>try exact dsX hb))<;>(conv=>whnf)))
 all_goals rfl
theorem aU3 (a:List UInt8):Op.bytesLess a a=false:=by
 rw [bytesLess_eq,(dZ a a).2 rfl];rfl
theorem aU2 {a b c:List UInt8}(h1:Op.bytesLess a b=true) (h2:Op.bytesLess b c=true):Op.bytesLess a c=true:=by
 rw [bytesLess_eq,decide_eq_true_eq]at *
 exact(LCk.str.t3 a b c).1 h1 h2
structure BsP (R:List (List UInt8)) (s:List UInt8) (r:SV):Prop where
 ex: ∃(n:Nat) (b:Bool),r= .tup [.d (.int .i64 n), .d (.bool b)]/\(b=true->R[n]? =some s)/\(b=false->s∉R)
theorem aDz (R:List (List UInt8)) (s:List UInt8) (hR:R.Pairwise λx y=>Op.bytesLess x y=true) (hl:R.length<=1000000):Tri Tryz.prog 149 [.d (.sl 1 (R.map bN)), .d (.str s)] [] (BsP R s):=by
 have hp:=List.pairwise_iff_getElem.1 hR
 refine aF false [] hty Tryz.func149 rfl (kp [0,1,4,5,6,7,8,9,15,27]) [] _ _ _ (by simp [Tryz.f149]) (by simp) ?_
 ((conv=>whnf);repeat ((first|(intro hq;try simp only [lnS]at hq)|refine sI ?_|refine .intro _ (.intro rfl ?_));(conv=>whnf)))
 rw [List.length_map]
 refine aG hty (λy:Nat×Nat=>([(0, .d (.sl 1 (R.map bN))),(1, .d (.str s)),(6, .d (.int .i64 R.length)),(7, .d (.int .i64 y.1)),(8, .d (.int .i64 y.2))],[])) (λy=>(y.1<=y.2/\y.2<=R.length)/\(∀(k:Nat) (h:k < R.length),k < y.1->Op.bytesLess R[k] s=true)/\(∀(k:Nat) (h:k < R.length),y.2<=k->Op.bytesLess R[k] s=false)) (λy=>y.2 - y.1) (0,R.length) ⟨by dsimp only;omega,λk h h'=>by dsimp only at h';omega,λk h h'=>by dsimp only at h';omega⟩ ⟨by repeat' (first|exact trivial|exact rfl|refine And.intro ?_ ?_),by repeat' (first|exact trivial|exact rfl|refine And.intro ?_ ?_)⟩ ?_
 rintro⟨i,j⟩ ⟨⟨q1,q2⟩,q3,q4⟩
 dsimp only at q1 q2 q3 q4 |-
 have hh2:=aD6 (i:=i) (j:=j) (by omega)
 ((conv=>whnf);repeat ((first|(intro hq;try simp only [lnS]at hq)|refine sI ?_|refine .intro _ (.intro rfl ?_));(conv=>whnf)))
 refine aB (λh1=> ?_) (λh1=> ?_)
 ·obtain⟨h,hh⟩: ∃h,h=(i+j) / 2:=⟨_,rfl⟩
  have hhl:h < R.length:=by omega
  have hrow:=dO hhl
  have c:=aJr R[h] s
  have up:Op.bytesLess R[h] s=true-> ∀(k:Nat) (hk:k < R.length),k < h+1->Op.bytesLess R[k] s=true:= λe k hk hlt=>by
   by_cases hkh:k=h
   ·subst hkh;exact e
   ·exact aU2 (hp k h hk hhl (by omega)) e
  have dn:Op.bytesLess R[h] s=false-> ∀(k:Nat) (hk:k < R.length),h<=k->Op.bytesLess R[k] s=false:= λe k hk hle=>by
   by_cases hkh:k=h
   ·subst hkh;exact e
   ·rw [Bool.eq_false_iff]
    intro e2
    rw [aU2 (hp h k hhl hk (by omega)) e2]at e
    cases e
  generalize Op.bytesLess R[h] s=b at *
  ((conv=>whnf);repeat ((first|(intro hq;try simp only [lnS]at hq)|refine sI ?_|refine .intro _ (.intro rfl ?_));(conv=>whnf)))
  rw [hh2,<-hh]
  ((conv=>whnf);repeat ((first|(refine⟨_,hrow, ?_⟩)|(refine aD [] c trivial (λr hs=> ?_);subst hs)|(intro hq;try simp only [lnS]at hq)|refine sI ?_|refine .intro _ (.intro rfl ?_));(conv=>whnf)))
  cases b
  ·((conv=>whnf);repeat' ((first|(intro hq;(try simp only [lnS]at hq);(try rewrite [List.length_map]))|refine sJ ?_|refine .intro _ (.intro rfl ?_)|refine exL (k:= ?_)|refine dwR ?_|((first|refine aB ?_ ?_|refine aC ?_ ?_)<;>intro hb<;>(first|exact ddX hb|try simp only [lnS]at hb))|(refine aA ?_ ?_<;>intro hb<;>try exact dsX hb))<;>(conv=>whnf)))
   exact⟨(i,h),⟨by dsimp only;omega,q3,dn rfl⟩,by dsimp only;omega,⟨by repeat' (first|exact trivial|exact rfl|refine And.intro ?_ ?_),by repeat' (first|exact trivial|exact rfl|refine And.intro ?_ ?_)⟩⟩
  ·((conv=>whnf);repeat' ((first|(intro hq;(try simp only [lnS]at hq);(try rewrite [List.length_map]))|refine sJ ?_|refine .intro _ (.intro rfl ?_)|refine exL (k:= ?_)|refine dwR ?_|((first|refine aB ?_ ?_|refine aC ?_ ?_)<;>intro hb<;>(first|exact ddX hb|try simp only [lnS]at hb))|(refine aA ?_ ?_<;>intro hb<;>try exact dsX hb))<;>(conv=>whnf)))
   exact⟨(h+1,j),⟨by dsimp only;omega,up rfl,q4⟩,by dsimp only;omega,⟨by repeat' (first|exact trivial|exact rfl|refine And.intro ?_ ?_),by repeat' (first|exact trivial|exact rfl|refine And.intro ?_ ?_)⟩⟩
 ·have hij:i=j:=by omega
  subst hij
  have miss:(∀h:i < R.length,R[i]≠s)->s∉R:= λhne hm=>by
   obtain⟨k,hk,rfl⟩:=List.getElem_of_mem hm
   rcases Nat.lt_trichotomy k i with h|h|h
   ·have:=q3 k hk h;rw [aU3]at this;cases this
   ·subst h;exact hne hk rfl
   ·have h2:=q4 i (by omega) (Nat.le_refl _)
    rw [hp i k (by omega) hk h]at h2;cases h2
  by_cases hil:i < R.length
  ·have hrow:=dO hil
   have hat:R[i]? =some R[i]:=List.getElem?_eq_getElem hil
   have c1:=vM R[i]
   have c2:=vM s
   have miss2:R[i]≠s->s∉R:= λh=>miss λ_=>h
   clear miss
   generalize R[i]=x at *
   ((conv=>whnf);repeat' ((first|(intro hq;(try simp only [lnS]at hq);(try rewrite [List.length_map]))|refine sJ ?_|refine .intro _ (.intro rfl ?_)|refine exL (k:= ?_)|(refine⟨_,hrow, ?_⟩)|(refine aD [] c1 trivial (λr hs=> ?_);subst hs)|(refine aD [] c2 trivial (λr hs=> ?_);subst hs)|refine dwR ?_|((first|refine aB ?_ ?_|refine aC ?_ ?_)<;>intro hb<;>(first|exact ddX hb|try simp only [lnS]at hb))|(refine aA ?_ ?_<;>intro hb<;>try exact dsX hb))<;>(conv=>whnf)))
   all_goals first
    |(exact⟨i,true,rfl,λ_=>(by rw [hat];simp_all),λh=>(by cases h)⟩)
    |(exact⟨i,false,rfl,λh=>(by cases h),λ_=>miss2 (by assumption)⟩)
  ·((conv=>whnf);repeat' ((first|(intro hq;(try simp only [lnS]at hq);(try rewrite [List.length_map]))|refine sJ ?_|refine .intro _ (.intro rfl ?_)|refine exL (k:= ?_)|refine dwR ?_|((first|refine aB ?_ ?_|refine aC ?_ ?_)<;>intro hb<;>(first|exact ddX hb|try simp only [lnS]at hb))|(refine aA ?_ ?_<;>intro hb<;>try exact dsX hb))<;>(conv=>whnf)))
   all_goals exact⟨i,false,rfl,(λh=>by cases h),λ_=>miss (λh=>absurd h hil)⟩
end Go.Proofs.YtfhoddcminbffaaGreatDoor
namespace Go.Proofs.YtfhoddcminbffaaGreatDoor
open Go.Proofs
set_option maxRecDepth 10000
attribute [local irreducible] aM aJ Tri aH YVC dI bI
def wX (ents:List (Byt×SV)) (i:Nat):Byt:=(ents.map (·.1)).getD i []
theorem aN5 {ents:List (Byt×SV)}{i:Nat}{p:Byt×SV}(h:ents[i]? =some p):i < ents.length/\wX ents i=p.1:=by
 refine⟨(List.getElem?_eq_some_iff.1 h).1, ?_⟩
 rw [wX,List.getD,List.getElem?_map,h];rfl
structure FreeM (pin:List Nat) (fr:Fr) (hp:Hp) (c d:Nat):Prop where
 p: ∀k,100<=k->k < 200->k∉pin
 f: ∀k,100<=k->k < 200->k∉fV fr
 h: ∀k,100<=k->k < 200->k∉gG hp
 d1: ∀k,100<=k->k < 200->k≠d
 s: ∀o,kE hp ((c,o)::hp)
theorem FreeM.key {pin:List Nat}{fr:Fr}{hp:Hp}{c d:Nat}(F:FreeM pin fr hp c d) {k:Nat}(h1:100<=k) (h2:k < 200) {x:Hp}(hs:kE hp x) {o:HObj}:kE hp ((k,o)::x):=
 fO hs λ_ hp e=>F.h k h1 h2 (e ▸ mO hp)
theorem aQj (ents:List (Byt×SV)) (g:List Nat×Nat) (hlen:ents.length<=1000000) (d:Nat) (hp0:Hp) (hg:aU hp0 d=some (.ext (xM aC2 ents g.1 g.2))) {pin:List Nat}{fr:Fr}{K:SV->Hp->Prop}(F:FreeM pin fr hp0 51 d) (hcd:51≠d)
  (hk: ∀(ks':List Byt) (cap:Nat),ks'.Perm (ents.map (·.1))->K (.mw 145 1 ks'.length) ((145, .mrow 9 1 cap (ks'.map bN))::(51, .cells 123 [.xv d nQ])::hp0)):
  aJ Tryz.prog pin fr ((51, .cells 123 [.xv d nQ])::hp0) 193 [.d .nil, .fn 180 [] [.ptr 51 0]] K:=by
 have d1:=F.d1 141 (by omega) (by omega)
 have d2:=F.d1 145 (by omega) (by omega)
 have d3:=F.d1 147 (by omega) (by omega)
 have d4:=F.d1 149 (by omega) (by omega)
 have d5:=F.d1 170 (by omega) (by omega)
 have hp1:=F.p
 have hf:=F.f
 have hh:=F.h
 refine aJ.weak ?_
 refine bE false [] hty Tryz.func193 rfl (kp [0,1,2,4,5,6,7]) 139 (by simp [Tryz.f193]) ?_
 ((conv=>whnf);repeat ((first|(refine And.intro (by refine⟨?_, ?_, ?_⟩<;>simp [bG,aT,fU,bS,dX,SV.ids,SV.idsL,cT,gR,gF,gS,gT,bV,hY,hp1,hf,hh,d1,d2,d3,d4,d5]) ?_)|(refine And.intro (by simp [SV.ids,SV.idsL]) ?_)|(intro hq;try simp only [lnS]at hq)|refine sI ?_|refine .intro _ (.intro rfl ?_));(conv=>whnf)))
 refine aM.mownC 141 145 32 9 1 0 rfl rfl (by refine⟨?_, ?_, ?_⟩<;>simp [bG,aT,fU,bS,dX,SV.ids,SV.idsL,cT,gR,gF,gS,gT,bV,hY,hp1,hf,hh,d1,d2,d3,d4,d5]) ?_
 refine nO 149 (by refine⟨?_, ?_, ?_⟩<;>simp [bG,aT,fU,bS,dX,SV.ids,SV.idsL,cT,gR,gF,gS,gT,bV,hY,hp1,hf,hh,d1,d2,d3,d4,d5]) trivial ?_
 ((conv=>whnf);repeat ((first|(intro hq;try simp only [lnS]at hq)|refine sI ?_|refine .intro _ (.intro rfl ?_));(conv=>whnf)))
 refine bE false [] hty Tryz.func180 rfl (kp [0,1,3,5,7,13]) 150 (by simp [Tryz.f180]) ?_
 ((conv=>whnf);repeat ((first|(refine aCb (id:=d) (ents:=ents) (bs:=g.1) (clock:=g.2) rfl rfl rfl (aO (aO (aO (aO hg hcd) d1) d2) d4) 147 (by refine⟨?_, ?_, ?_⟩<;>simp [bG,aT,fU,bS,dX,SV.ids,SV.idsL,cT,gR,gF,gS,gT,bV,hY,hp1,hf,hh,d1,d2,d3,d4,d5]) ?_)|(intro hq;try simp only [lnS]at hq)|refine sI ?_|refine .intro _ (.intro rfl ?_));(conv=>whnf)))
 refine dE hty (λy:List Nat×Nat=>([(0, .yld 149),(5, .xv 147 aFm)],(147, .ext (aBa d g.1 g.2 y.1))::(149,_)::(145, .mrow 9 1 y.2 ((y.1.map (wX ents)).map bN))::(141, .cells 32 [.mw 145 1 y.1.length])::(51, .cells 123 [.xv d nQ])::hp0)) (λy=>y.1.Nodup/\ ∀i∈y.1,i < ents.length) (λy=>ents.length - y.1.length) ([],0) ⟨.nil,by simp⟩ (by repeat' (first|exact trivial|exact rfl|refine And.intro ?_ ?_)) rfl ?_
 rintro⟨vis,cap⟩ ⟨hvn,hvl⟩
 dsimp only at hvn hvl
 have hvle:=aA5 hvn hvl
 ((conv=>whnf);repeat ((first|(intro hq;try simp only [lnS]at hq)|refine sI ?_|refine .intro _ (.intro rfl ?_));(conv=>whnf)))
 refine aH1 (id:=d) (it:=147) (ents:=ents) (bs:=g.1) (clock:=g.2) (vis:=vis) (kD:=aC2) rfl rfl rfl (aO (aO (aO (aO (aO hg hcd) d1) d2) d4) d3) (λha=> ?_) (λi p hp hni=> ?_)
 ·have hperm:=aGv (l:=ents.map (·.1)) hvn (by simpa using hvl) (λi hi=>ha i (by simpa using hi)) (wX ents) (λi h=>by rw [wX,List.getD,List.getElem?_eq_getElem h];rfl)
  have hend:=hk (vis.map (wX ents)) cap hperm
  rw [List.length_map]at hend
  ((conv=>whnf);repeat ((first|(intro hq;try simp only [lnS]at hq)|refine sI ?_|refine .intro _ (.intro rfl ?_));(conv=>whnf)))
  refine aBh (hh _ (by decide) (by decide)) ?_
  ((conv=>whnf);repeat ((first|(intro hq;try simp only [lnS]at hq)|refine sI ?_|refine .intro _ (.intro rfl ?_));(conv=>whnf)))
  refine⟨_, ?_,hend⟩
  refine⟨rfl,rfl,F.key (by decide) (by decide) (F.key (by decide) (by decide) (F.key (by decide) (by decide) (F.s _)))⟩
 ·obtain⟨hil,hki⟩:=aN5 hp
  have hvl2:vis.length+1<=ents.length:=by
   have h1:(vis++[i]).Nodup:=by
    rw [List.nodup_append]
    exact⟨hvn,by simp,λa ha b hb=>by simp at hb;subst hb;exact λe=>hni (e ▸ ha)⟩
   have:=aA5 h1 (λj hj=>by rcases List.mem_append.1 hj with h|h;exact hvl j h;simp at h;subst h;exact hil)
   simpa using this
  have hrl:((vis.map (wX ents)).map bN).length=vis.length:=by rw [List.length_map,List.length_map]
  have hb63:((vis.map (wX ents)).map bN).length+1<=9223372036854775807:=by rw [hrl];omega
  have hb48:(((vis.map (wX ents)).map bN).length+1)* 16<=140737488355328:=by rw [hrl];omega
  ((conv=>whnf);repeat ((first|(refine aDh (id:=d) (it:=147) (i:=i) (ents:=ents) (bs:=g.1) (clock:=g.2) (vis:=vis) (kD:=aC2) rfl rfl rfl (aO (aO (aO (aO (aO hg hcd) d1) d2) d4) d3) hp ?_)|(intro hq;try simp only [lnS]at hq)|refine sI ?_|refine .intro _ (.intro rfl ?_));(conv=>whnf)))
  refine YVC.weak ?_
  refine jH [] hty (kp [0,1,2,4,5,6,7]) 160 rfl rfl ?_
  ((conv=>whnf);repeat ((first|(refine And.intro (by refine⟨?_, ?_, ?_⟩<;>simp [bG,aT,fU,bS,dX,SV.ids,SV.idsL,cT,gR,gF,gS,gT,bV,hY,hp1,hf,hh,d1,d2,d3,d4,d5]) ?_)|(refine And.intro hrl.symm ?_)|(refine And.intro hb63 ?_)|(refine And.intro hb48 ?_)|(intro hq;try simp only [lnS]at hq)|refine sI ?_|refine .intro _ (.intro rfl ?_));(conv=>whnf)))
  rename_i cap'
  refine wB ⟨rfl,rfl,rfl,rfl,rfl,F.key (Nat.le_of_ble_eq_true rfl) (Nat.le_of_ble_eq_true rfl) (F.key (by decide) (by decide) (F.key (by decide) (by decide) (F.key (by decide) (by decide) (F.key (by decide) (by decide) (F.s _)))))⟩ ?_
  ((conv=>whnf);repeat ((first|(intro hq;try simp only [lnS]at hq)|refine sI ?_|refine .intro _ (.intro rfl ?_));(conv=>whnf)))
  have hrows:((vis++[i]).map (wX ents)).map bN=(vis.map (wX ents)).map bN++[[.str p.1]]:=by
   rw [List.map_append,List.map_append,<-hki];rfl
  have hmw:SV.mw 145 1 (vis++[i]).length=SV.mw 145 1 (((vis.map (wX ents)).map bN).length+1):=by rw [hrl,List.length_append];rfl
  refine⟨(vis++[i],cap'),⟨?_, ?_⟩, ?_,by repeat' (first|exact trivial|exact rfl|refine And.intro ?_ ?_), ?_⟩
  ·dsimp only
   rw [List.nodup_append]
   exact⟨hvn,by simp,λa ha b hb=>by simp at hb;subst hb;exact λe=>hni (e ▸ ha)⟩
  ·intro j hj
   rcases List.mem_append.1 hj with h|h
   ·exact hvl j h
   ·simp at h;subst h;exact hil
  ·dsimp only;rw [List.length_append];simp;omega
  ·dsimp only
   rw [hrows,hmw]
   rfl
theorem aOz (ents:List (Byt×SV)) (g:List Nat×Nat) (hlen:ents.length<=1000000) (d:Nat) (hp0:Hp) (hg:aU hp0 d=some (.ext (xM aC2 ents g.1 g.2))) {pin:List Nat}{fr:Fr}{K:SV->Hp->Prop}(F:FreeM pin fr hp0 51 d) (hcd:51≠d)
  (hk:K (.d (.sl 1 ((jR (ents.map (·.1))).map bN))) hp0):
  aJ Tryz.prog pin fr ((51, .cells 123 [.xv d nQ])::hp0) 146 [.fn 180 [] [.ptr 51 0]] K:=by
 have d1:=F.d1 141 (by omega) (by omega)
 have hp1:=F.p
 have hf:=F.f
 have hh:=F.h
 refine aJ.frozR ?_
 refine bE false [] hty Tryz.func146 rfl (kp [0,2,3]) 110 (by simp [Tryz.f146]) ?_
 ((conv=>whnf);repeat ((first|(intro hq;try simp only [lnS]at hq)|refine sI ?_|refine .intro _ (.intro rfl ?_));(conv=>whnf)))
 refine bE false [] hty Tryz.func178 rfl (kp [0,2]) 120 (by simp [Tryz.f178]) ?_
 ((conv=>whnf);repeat ((first|(intro hq;try simp only [lnS]at hq)|refine sI ?_|refine .intro _ (.intro rfl ?_));(conv=>whnf)))
 refine aQj ents g hlen d hp0 hg ⟨λk hk h2=>by simp [bG,aT,SV.ids,SV.idsL,bV,hp1 k hk h2,hf k hk h2];omega,λk hk h2=>by simp [bG,aT,SV.ids,SV.idsL,dX,bV];omega,hh,F.d1,F.s⟩ hcd (λks' cap hperm=> ?_)
 have hpl:=hperm.length_eq
 rw [List.length_map]at hpl
 ((conv=>whnf);repeat ((first|(intro hq;try simp only [lnS]at hq)|refine sI ?_|refine .intro _ (.intro rfl ?_));(conv=>whnf)))
 refine rY Tryz.sortStr ks' rfl rfl (by omega) ?_
 have hso:(ks'.mergeSort λx y=>decide (x<=y))=jR (ents.map (·.1)):=mergeSort_of_perm hperm
 rw [hso]
 have hsl:(jR (ents.map (·.1))).length=ents.length:=by
  have:=(List.mergeSort_perm (ents.map (·.1)) λx y=>decide (x<=y)).length_eq
  rw [List.length_map]at this
  exact this
 ((conv=>whnf);repeat ((first|(intro hq;try simp only [lnS]at hq)|refine sI ?_|refine .intro _ (.intro rfl ?_));(conv=>whnf)))
 refine⟨145,_,1,cap,ks'.length,_,hp0,rfl,rfl,by rw [List.length_map,hsl];exact hpl,F.key (by decide) (by decide) (F.s _),vS (hh _ (by decide) (by decide)),hk⟩
theorem aQi (ents:List (Byt×SV)) (g:List Nat×Nat) (hlen:ents.length<=1000000) (d:Nat) (hp0:Hp) (hg:aU hp0 d=some (.ext (xM aC2 ents g.1 g.2))) {pin:List Nat}{fr:Fr}{K:SV->Hp->Prop}(F:FreeM pin fr hp0 53 d) (hcd:53≠d)
  (hk: ∀(ks':List Byt) (cap:Nat),ks'.Perm (ents.map (·.1))->K (.mw 145 1 ks'.length) ((145, .mrow 9 1 cap (ks'.map bN))::(53, .cells 164 [.xv d nQ])::hp0)):
  aJ Tryz.prog pin fr ((53, .cells 164 [.xv d nQ])::hp0) 193 [.d .nil, .fn 181 [] [.ptr 53 0]] K:=by
 have d1:=F.d1 141 (by omega) (by omega)
 have d2:=F.d1 145 (by omega) (by omega)
 have d3:=F.d1 147 (by omega) (by omega)
 have d4:=F.d1 149 (by omega) (by omega)
 have d5:=F.d1 170 (by omega) (by omega)
 have hp1:=F.p
 have hf:=F.f
 have hh:=F.h
 refine aJ.weak ?_
 refine bE false [] hty Tryz.func193 rfl (kp [0,1,2,4,5,6,7]) 139 (by simp [Tryz.f193]) ?_
 ((conv=>whnf);repeat ((first|(refine And.intro (by refine⟨?_, ?_, ?_⟩<;>simp [bG,aT,fU,bS,dX,SV.ids,SV.idsL,cT,gR,gF,gS,gT,bV,hY,hp1,hf,hh,d1,d2,d3,d4,d5]) ?_)|(refine And.intro (by simp [SV.ids,SV.idsL]) ?_)|(intro hq;try simp only [lnS]at hq)|refine sI ?_|refine .intro _ (.intro rfl ?_));(conv=>whnf)))
 refine aM.mownC 141 145 32 9 1 0 rfl rfl (by refine⟨?_, ?_, ?_⟩<;>simp [bG,aT,fU,bS,dX,SV.ids,SV.idsL,cT,gR,gF,gS,gT,bV,hY,hp1,hf,hh,d1,d2,d3,d4,d5]) ?_
 refine nO 149 (by refine⟨?_, ?_, ?_⟩<;>simp [bG,aT,fU,bS,dX,SV.ids,SV.idsL,cT,gR,gF,gS,gT,bV,hY,hp1,hf,hh,d1,d2,d3,d4,d5]) trivial ?_
 ((conv=>whnf);repeat ((first|(intro hq;try simp only [lnS]at hq)|refine sI ?_|refine .intro _ (.intro rfl ?_));(conv=>whnf)))
 refine bE false [] hty Tryz.func181 rfl (kp [0,1,3,5,7,13]) 150 (by simp [Tryz.f181]) ?_
 ((conv=>whnf);repeat ((first|(refine aCb (id:=d) (ents:=ents) (bs:=g.1) (clock:=g.2) rfl rfl rfl (aO (aO (aO (aO hg hcd) d1) d2) d4) 147 (by refine⟨?_, ?_, ?_⟩<;>simp [bG,aT,fU,bS,dX,SV.ids,SV.idsL,cT,gR,gF,gS,gT,bV,hY,hp1,hf,hh,d1,d2,d3,d4,d5]) ?_)|(intro hq;try simp only [lnS]at hq)|refine sI ?_|refine .intro _ (.intro rfl ?_));(conv=>whnf)))
 refine dE hty (λy:List Nat×Nat=>([(0, .yld 149),(5, .xv 147 aFm)],(147, .ext (aBa d g.1 g.2 y.1))::(149,_)::(145, .mrow 9 1 y.2 ((y.1.map (wX ents)).map bN))::(141, .cells 32 [.mw 145 1 y.1.length])::(53, .cells 164 [.xv d nQ])::hp0)) (λy=>y.1.Nodup/\ ∀i∈y.1,i < ents.length) (λy=>ents.length - y.1.length) ([],0) ⟨.nil,by simp⟩ (by repeat' (first|exact trivial|exact rfl|refine And.intro ?_ ?_)) rfl ?_
 rintro⟨vis,cap⟩ ⟨hvn,hvl⟩
 dsimp only at hvn hvl
 have hvle:=aA5 hvn hvl
 ((conv=>whnf);repeat ((first|(intro hq;try simp only [lnS]at hq)|refine sI ?_|refine .intro _ (.intro rfl ?_));(conv=>whnf)))
 refine aH1 (id:=d) (it:=147) (ents:=ents) (bs:=g.1) (clock:=g.2) (vis:=vis) (kD:=aC2) rfl rfl rfl (aO (aO (aO (aO (aO hg hcd) d1) d2) d4) d3) (λha=> ?_) (λi p hp hni=> ?_)
 ·have hperm:=aGv (l:=ents.map (·.1)) hvn (by simpa using hvl) (λi hi=>ha i (by simpa using hi)) (wX ents) (λi h=>by rw [wX,List.getD,List.getElem?_eq_getElem h];rfl)
  have hend:=hk (vis.map (wX ents)) cap hperm
  rw [List.length_map]at hend
  ((conv=>whnf);repeat ((first|(intro hq;try simp only [lnS]at hq)|refine sI ?_|refine .intro _ (.intro rfl ?_));(conv=>whnf)))
  refine aBh (hh _ (by decide) (by decide)) ?_
  ((conv=>whnf);repeat ((first|(intro hq;try simp only [lnS]at hq)|refine sI ?_|refine .intro _ (.intro rfl ?_));(conv=>whnf)))
  refine⟨_, ?_,hend⟩
  refine⟨rfl,rfl,F.key (by decide) (by decide) (F.key (by decide) (by decide) (F.key (by decide) (by decide) (F.s _)))⟩
 ·obtain⟨hil,hki⟩:=aN5 hp
  have hvl2:vis.length+1<=ents.length:=by
   have h1:(vis++[i]).Nodup:=by
    rw [List.nodup_append]
    exact⟨hvn,by simp,λa ha b hb=>by simp at hb;subst hb;exact λe=>hni (e ▸ ha)⟩
   have:=aA5 h1 (λj hj=>by rcases List.mem_append.1 hj with h|h;exact hvl j h;simp at h;subst h;exact hil)
   simpa using this
  have hrl:((vis.map (wX ents)).map bN).length=vis.length:=by rw [List.length_map,List.length_map]
  have hb63:((vis.map (wX ents)).map bN).length+1<=9223372036854775807:=by rw [hrl];omega
  have hb48:(((vis.map (wX ents)).map bN).length+1)* 16<=140737488355328:=by rw [hrl];omega
  ((conv=>whnf);repeat ((first|(refine aDh (id:=d) (it:=147) (i:=i) (ents:=ents) (bs:=g.1) (clock:=g.2) (vis:=vis) (kD:=aC2) rfl rfl rfl (aO (aO (aO (aO (aO hg hcd) d1) d2) d4) d3) hp ?_)|(intro hq;try simp only [lnS]at hq)|refine sI ?_|refine .intro _ (.intro rfl ?_));(conv=>whnf)))
  refine YVC.weak ?_
  refine jH [] hty (kp [0,1,2,4,5,6,7]) 160 rfl rfl ?_
  ((conv=>whnf);repeat ((first|(refine And.intro (by refine⟨?_, ?_, ?_⟩<;>simp [bG,aT,fU,bS,dX,SV.ids,SV.idsL,cT,gR,gF,gS,gT,bV,hY,hp1,hf,hh,d1,d2,d3,d4,d5]) ?_)|(refine And.intro hrl.symm ?_)|(refine And.intro hb63 ?_)|(refine And.intro hb48 ?_)|(intro hq;try simp only [lnS]at hq)|refine sI ?_|refine .intro _ (.intro rfl ?_));(conv=>whnf)))
  rename_i cap'
  refine wB ⟨rfl,rfl,rfl,rfl,rfl,F.key (Nat.le_of_ble_eq_true rfl) (Nat.le_of_ble_eq_true rfl) (F.key (by decide) (by decide) (F.key (by decide) (by decide) (F.key (by decide) (by decide) (F.key (by decide) (by decide) (F.s _)))))⟩ ?_
  ((conv=>whnf);repeat ((first|(intro hq;try simp only [lnS]at hq)|refine sI ?_|refine .intro _ (.intro rfl ?_));(conv=>whnf)))
  have hrows:((vis++[i]).map (wX ents)).map bN=(vis.map (wX ents)).map bN++[[.str p.1]]:=by
   rw [List.map_append,List.map_append,<-hki];rfl
  have hmw:SV.mw 145 1 (vis++[i]).length=SV.mw 145 1 (((vis.map (wX ents)).map bN).length+1):=by rw [hrl,List.length_append];rfl
  refine⟨(vis++[i],cap'),⟨?_, ?_⟩, ?_,by repeat' (first|exact trivial|exact rfl|refine And.intro ?_ ?_), ?_⟩
  ·dsimp only
   rw [List.nodup_append]
   exact⟨hvn,by simp,λa ha b hb=>by simp at hb;subst hb;exact λe=>hni (e ▸ ha)⟩
  ·intro j hj
   rcases List.mem_append.1 hj with h|h
   ·exact hvl j h
   ·simp at h;subst h;exact hil
  ·dsimp only;rw [List.length_append];simp;omega
  ·dsimp only
   rw [hrows,hmw]
   rfl
theorem aOy (ents:List (Byt×SV)) (g:List Nat×Nat) (hlen:ents.length<=1000000) (d:Nat) (hp0:Hp) (hg:aU hp0 d=some (.ext (xM aC2 ents g.1 g.2))) {pin:List Nat}{fr:Fr}{K:SV->Hp->Prop}(F:FreeM pin fr hp0 53 d) (hcd:53≠d)
  (hk:K (.d (.sl 1 ((jR (ents.map (·.1))).map bN))) hp0):
  aJ Tryz.prog pin fr ((53, .cells 164 [.xv d nQ])::hp0) 146 [.fn 181 [] [.ptr 53 0]] K:=by
 have d1:=F.d1 141 (by omega) (by omega)
 have hp1:=F.p
 have hf:=F.f
 have hh:=F.h
 refine aJ.frozR ?_
 refine bE false [] hty Tryz.func146 rfl (kp [0,2,3]) 110 (by simp [Tryz.f146]) ?_
 ((conv=>whnf);repeat ((first|(intro hq;try simp only [lnS]at hq)|refine sI ?_|refine .intro _ (.intro rfl ?_));(conv=>whnf)))
 refine bE false [] hty Tryz.func178 rfl (kp [0,2]) 120 (by simp [Tryz.f178]) ?_
 ((conv=>whnf);repeat ((first|(intro hq;try simp only [lnS]at hq)|refine sI ?_|refine .intro _ (.intro rfl ?_));(conv=>whnf)))
 refine aQi ents g hlen d hp0 hg ⟨λk hk h2=>by simp [bG,aT,SV.ids,SV.idsL,bV,hp1 k hk h2,hf k hk h2];omega,λk hk h2=>by simp [bG,aT,SV.ids,SV.idsL,dX,bV];omega,hh,F.d1,F.s⟩ hcd (λks' cap hperm=> ?_)
 have hpl:=hperm.length_eq
 rw [List.length_map]at hpl
 ((conv=>whnf);repeat ((first|(intro hq;try simp only [lnS]at hq)|refine sI ?_|refine .intro _ (.intro rfl ?_));(conv=>whnf)))
 refine rY Tryz.sortStr ks' rfl rfl (by omega) ?_
 have hso:(ks'.mergeSort λx y=>decide (x<=y))=jR (ents.map (·.1)):=mergeSort_of_perm hperm
 rw [hso]
 have hsl:(jR (ents.map (·.1))).length=ents.length:=by
  have:=(List.mergeSort_perm (ents.map (·.1)) λx y=>decide (x<=y)).length_eq
  rw [List.length_map]at this
  exact this
 ((conv=>whnf);repeat ((first|(intro hq;try simp only [lnS]at hq)|refine sI ?_|refine .intro _ (.intro rfl ?_));(conv=>whnf)))
 refine⟨145,_,1,cap,ks'.length,_,hp0,rfl,rfl,by rw [List.length_map,hsl];exact hpl,F.key (by decide) (by decide) (F.s _),vS (hh _ (by decide) (by decide)),hk⟩
end Go.Proofs.YtfhoddcminbffaaGreatDoor
namespace Go.Proofs.YtfhoddcminbffaaGreatDoor
open Go.Proofs
set_option maxRecDepth 10000
attribute [local irreducible] aM aJ Tri aH YVC dI bI
def aKo (p:Nat×Bool):List D:=[.int .i64 p.1, .bool p.2]
def aBr (l:List (Nat×Bool)):List D:=[.sl 2 (l.map aKo)]
def aEl (R:List Str):D:= .sl 1 (R.map bN)
def aU9 (M:List (Str×Inn)) (R:List Str) (a:Str) (l:List (Nat×Bool)):Prop:= ∀to t,(to,t)∈l↔ ∃b,R[to]? =some b/\ME M a b t
theorem aTo {M:List (Str×Inn)}(hn:(M.map (·.1)).Nodup) {G:Adj}(hl:G.length=(jR (M.map (·.1))).length) (h: ∀i a,(jR (M.map (·.1)))[i]? =some a->aU9 M (jR (M.map (·.1))) a (lT G i)):GOk M (jR (M.map (·.1))) G where
 len:=hl
 nd:=(List.mergeSort_perm _ _).nodup_iff.2 hn
 mem:= λa=>vF
 sound:= λi j t he=>by
  have hi:=aO5 he
  obtain⟨b,h1,h2⟩:=(h i _ (List.getElem?_eq_getElem (by omega)) j t).1 he
  exact⟨(List.getElem?_eq_some_iff.1 h1).1,_,b,List.getElem?_eq_getElem (by omega),h1,h2⟩
 full:= λi j t a b h1 h2 h3=>(h i a h1 j t).2 ⟨b,h2,h3⟩
theorem aMs (M:List (Str×Inn)) (g:List Nat×Nat) (hp0:Hp) (F:FarH hp0) (k:Nat) (hk:k∈gG (mpH M g hp0)):k=33\/(80<=k/\k < 100)\/(1000<=k/\k < 1000+M.length):=by
 have := aAi M g hp0 F k (by
  unfold stH
  rw [bS]
  exact List.mem_append_right _ hk)
 by_cases h:k=23
 ·subst h
  unfold mpH at hk
  rw [bS,aHh]at hk
  simp only [List.mem_append,List.mem_cons]at hk
  rcases hk with(hk|hk)|hk|hk
  ·cases hk
  ·have hk:23∈aOe (kX 0 M):=hk
   have:=aG0 0 M 23 hk;omega
  ·have:=aNd 0 M 23 hk;omega
  ·have:=F.lo 23 hk;omega
 ·omega
theorem lF {M:List (Str×Inn)}{g:List Nat×Nat}{hp0:Hp}(F:FarH hp0):kE (mpH M g hp0) (mpH M g hp0):=by
 refine pC λp hp=> ?_
 have h1:=pB (aEo (M:=M) (g:=g) F) p (List.mem_cons_of_mem _ hp)
 have h2:=aMs M g hp0 F p.1 (mO hp)
 have h3:aU ((23,HObj.cells 123 [.xv 33 nQ])::mpH M g hp0) p.1=some p.2:=h1
 rwa [aU,if_neg (by omega)]at h3
theorem aS7 {M:List (Str×Inn)}{a:Str}(h:a∈M.map (·.1)): ∃i x,xI a M=some i/\M[i]? =some (a,x):=by
 cases hp:xI a M with
 |none=>exact absurd h (uU.1 hp)
 |some i=>
  obtain⟨x,hx⟩:=uT hp
  exact⟨i,x,rfl,hx⟩
theorem aNn (l:List (Str×Bool)):(aBu l).map (·.1)=l.map (·.1):=by
 unfold aBu;rw [List.map_map];rfl
theorem nmC {k id:Nat}{o:HObj}{hp:Hp}(h1:k≠id) (h2:k∉o.ids) (h3:k∉gG hp):k∉gG ((id,o)::hp):=by
 rw [bS]
 simp only [List.cons_append,List.mem_cons,List.mem_append]
 rintro(h|h|h)
 ·exact h1 h
 ·exact h2 h
 ·exact h3 h
theorem aNe {k:Nat}{o:HObj}{hp:Hp}(h:kE hp hp) (hk: ∀p∈hp,p.1≠k):kE ((k,o)::hp) ((k,o)::hp):=
 ⟨fE,fO h hk⟩
theorem kyC {k id:Nat}{o:HObj}{hp:Hp}(h1:id≠k) (h: ∀p∈hp,p.1≠k): ∀p∈(id,o)::hp,p.1≠k:=by
 intro p hp
 rcases List.mem_cons.1 hp with rfl|hp
 ·exact h1
 ·exact h p hp
theorem kyN {k:Nat}{hp:Hp}(h:k∉gG hp): ∀p∈hp,p.1≠k:= λp hp e=>h (e ▸ mO hp)
theorem aHl {pin:List Nat}{fr:Fr}{hp:Hp}{c d:Nat}(h1: ∀k,100<=k->k < 200->k∉pin) (h2: ∀k,100<=k->k < 200->k∉fV fr) (h3: ∀k,100<=k->k < 200->k∉gG hp) (h4:d < 100\/200<=d) (h5:kE hp hp) (h6:c∉gG hp):FreeM pin fr hp c d:=
 ⟨h1,h2,h3,λk _ _=>by omega,λo=>fO h5 λp hp e=>h6 (e ▸ mO hp)⟩
theorem aH4 {β:Type}{k:Str}: ∀{l:List (Str×β)},k∈l.map (·.1)↔ ∃v,mL l k=some v
 | []=>by simp [mL]
 |(q,w)::r=>by
  rw [mL]
  by_cases h:k=q
  ·rw [if_pos h];simp [h]
  ·rw [if_neg h,<-aH4];simp [h]
theorem aB3 (M:List (Str×Inn)) (g:List Nat×Nat) (hn:(M.map (·.1)).Nodup) (hl:M.length<=1000000) (hli: ∀p∈M,p.2.1.length<=1000000) (hp0:Hp) (F:FarH hp0) {pin:List Nat}{fr:Fr}{K:SV->Hp->Prop}(hp1: ∀k,(50<=k/\k < 80)\/(100<=k/\k < 200)->k∉pin) (hf: ∀k,(50<=k/\k < 80)\/(100<=k/\k < 200)->k∉fV fr)
  (hk: ∀R G,GOk M R G->R.length=M.length->K (.agg [.d (aEl R), .osl 65 1 (G.map aBr)]) hp0):
  aJ Tryz.prog pin fr (mpH M g hp0) 104 [.xv 33 nQ] K:=by
 have hI:=aMs M g hp0 F
 refine aJ.weak ?_
 refine bE false [] hty Tryz.func104 rfl (kp [0,2,4,5,7,8,9,15,16,17,18,25,26,27,28,38]) 60 (by simp [Tryz.f104]) ?_
 have pinn: ∀k,(50<=k/\k < 80)\/(100<=k/\k < 200)->k∉pin++fV fr:= λk h q=>(List.mem_append.1 q).elim (hp1 k h) (hf k h)
 have frM: ∀k,(50<=k/\k < 80)\/(100<=k/\k < 200)->k∉gG (mpH M g hp0):= λk h q=>by have:=hI k q;omega
 ((conv=>whnf);repeat ((first|(refine And.intro (show fX 62 _ _ _ from⟨pinn _ (by omega),by simp [bG,aT,SV.ids,SV.idsL,dX,bV],frM _ (by omega)⟩) ?_)|(intro hq;try simp only [lnS]at hq)|refine sI ?_|refine .intro _ (.intro rfl ?_));(conv=>whnf)))
 refine bE false [] hty Tryz.func147 rfl (kp [0,1,2]) 50 (by simp [Tryz.f147]) ?_
 ((conv=>whnf);repeat ((first|(refine And.intro (show fX 51 _ _ _ from⟨λq=>(List.mem_append.1 q).elim (pinn _ (by omega)) (by simp [bG,aT,SV.ids,SV.idsL,dX,bV]),by simp [bG,aT,SV.ids,SV.idsL,dX,bV],nmC (show 51≠62 by decide) (by simp [cT,SV.ids,SV.idsL]) (frM _ (by omega))⟩) ?_)|(refine And.intro (by simp [SV.ids,SV.idsL]) ?_)|(intro hq;try simp only [lnS]at hq)|refine sI ?_|refine .intro _ (.intro rfl ?_));(conv=>whnf)))
 have sk: ∀{hp:Hp} (k:Nat) (o:HObj),(50<=k/\k < 80)\/(100<=k/\k < 200)->kE (mpH M g hp0) hp->kE (mpH M g hp0) ((k,o)::hp):= λk o hk h=>fO h (kyN (frM k hk))
 have self62: ∀o:HObj,kE ((62,o)::mpH M g hp0) ((62,o)::mpH M g hp0):= λo=>aNe (lF F) (kyN (frM _ (by omega)))
 refine aOz (kX 0 M) g (by rw [aHy];exact hl) 33 _ (aO fE (show 62≠33 by decide)) (aHl (λk a b=>pinn k (by omega)) (λk a b=>by simp [dQ,bG,aT,SV.ids,SV.idsL,dX,bV];omega) (λk a b=>nmC (show k≠62 by omega) (by simp [cT,SV.ids,SV.idsL]) (frM k (by omega))) (.inl (by decide)) (self62 _) (nmC (show 51≠62 by decide) (by simp [cT,SV.ids,SV.idsL]) (frM _ (by omega)))) (by decide) ?_
 rw [aDi]
 have hRl:(jR (M.map (·.1))).length=M.length:=by
  have:=(List.mergeSort_perm (M.map (·.1)) λx y=>decide (x<=y)).length_eq
  rw [List.length_map]at this
  exact this
 have hRs:=aC3 hn
 have hRm: ∀a,a∈jR (M.map (·.1))->a∈M.map (·.1):= λa h=>vF.1 h
 have hRn:(jR (M.map (·.1))).Nodup:=(List.mergeSort_perm _ _).nodup_iff.2 hn
 have hfin:= λG h1 h2=>hk _ G (aTo hn h1 h2) hRl
 generalize jR (M.map (·.1))=R at *
 ((conv=>whnf);repeat ((first|(intro hq;try simp only [lnS]at hq)|refine sI ?_|refine .intro _ (.intro rfl ?_));(conv=>whnf)))
 rw [List.length_map]
 refine aM.ownC 62 65 121 165 1 1 rfl rfl ⟨pinn _ (by omega),by simp [bG,aT,SV.ids,SV.idsL,dX,bV],nmC (show 65≠62 by decide) (by simp [cT,SV.ids,SV.idsL]) (frM _ (by omega))⟩ ?_
 refine aG hty (λy:Nat×Adj=>([(0, .xv 33 nQ),(2, .ptr 62 0),(15, .d (aEl R)),(16, .d (.int .i64 R.length)),(17, .d (.int .i64 y.1))],(65, .own 165 1 (y.2.map aBr).length)::(62, .cells 121 [.d (aEl R), .osl 65 1 (y.2.map aBr)])::mpH M g hp0)) (λy=>(y.1<=R.length/\y.2.length=y.1)/\ ∀i a,i < y.1->R[i]? =some a->aU9 M R a (lT y.2 i)) (λy=>R.length - y.1) (0,[]) ⟨by exact⟨Nat.zero_le _,rfl⟩,λi a h=>by dsimp only at h;omega⟩ ⟨by repeat' (first|exact trivial|exact rfl|refine And.intro ?_ ?_),rfl,rfl,fO (fO (lF F) (kyN (frM _ (by omega)))) (kyN (frM _ (by omega)))⟩ ?_
 rintro⟨j,G⟩ ⟨⟨hj,hGl⟩,hG⟩
 dsimp only at hj hGl hG
 ((conv=>whnf);repeat ((first|(intro hq;try simp only [lnS]at hq)|refine sI ?_|refine .intro _ (.intro rfl ?_));(conv=>whnf)))
 refine aB (λh1=> ?_) (λh1=> ?_)
 ·have hjl:j < R.length:=by dsimp only at h1;omega
  have hrow:=dO hjl
  have hRj:R[j]? =some R[j]:=List.getElem?_eq_getElem hjl
  obtain⟨i,x,hpos,hi⟩:=aS7 (hRm _ (List.getElem_mem hjl))
  generalize R[j]=a at *
  have hm:=mK a 0 M
  rw [hpos]at hm
  have hgi:=vR 0 M i _ hp0 hi
  have hxl:=hli _ (List.mem_of_getElem? hi)
  dsimp only at hxl
  ((conv=>whnf);repeat ((first|(refine⟨_,hrow, ?_⟩)|(intro hq;try simp only [lnS]at hq)|refine sI ?_|refine .intro _ (.intro rfl ?_));(conv=>whnf)))
  refine dK (id:=33) (ents:=kX 0 M) (k:=a) (bs:=g.1) (clock:=g.2) rfl rfl (dS rfl) rfl rfl rfl rfl ?_
  rw [hm,show rA false (Option.map (λi=>SV.xv (1000+(0+i)) nQ) (some i)) (ofV (Value.map none))=SV.xv (1000+(0+i)) nQ from rfl]
  ((conv=>whnf);repeat ((first|(intro hq;try simp only [lnS]at hq)|refine sI ?_|refine .intro _ (.intro rfl ?_));(conv=>whnf)))
  have fr1: ∀k o,(50<=k/\k < 80)\/(100<=k/\k < 200)->k≠65->k≠62->k∉gG ((65, .own 165 1 o)::(62, .cells 121 [.d (aEl R), .osl 65 1 (G.map aBr)])::mpH M g hp0):= λk o h h1 h2=>nmC h1 (by simp [gF]) (nmC h2 (by simp [cT,SV.ids,SV.idsL,h1]) (frM k h))
  have self65: ∀o,kE ((65, .own 165 1 o)::(62, .cells 121 [.d (aEl R), .osl 65 1 (G.map aBr)])::mpH M g hp0) ((65, .own 165 1 o)::(62, .cells 121 [.d (aEl R), .osl 65 1 (G.map aBr)])::mpH M g hp0):= λo=>aNe (self62 _) (kyC (by decide) (kyN (frM _ (by omega))))
  refine bE false [] hty Tryz.func148 rfl (kp [0,1,2]) 52 (by simp [Tryz.f148]) ?_
  ((conv=>whnf);repeat ((first|(refine And.intro (show fX 53 _ _ _ from⟨λq=>(List.mem_append.1 q).elim (pinn _ (by omega)) (by simp [bG,aT,SV.ids,SV.idsL,dX,bV];omega),by simp [bG,aT,SV.ids,SV.idsL,dX,bV];omega,fr1 53 _ (by omega) (by decide) (by decide)⟩) ?_)|(refine And.intro (by simp [SV.ids,SV.idsL];omega) ?_)|(intro hq;try simp only [lnS]at hq)|refine sI ?_|refine .intro _ (.intro rfl ?_));(conv=>whnf)))
  refine aOy (aBu x.1) x.2 (by unfold aBu;rw [List.length_map];exact hxl) (1000+(0+i)) _ (aO (aO (aO hgi (show 33≠1000+(0+i)by omega)) (show 62≠1000+(0+i)by omega)) (show 65≠1000+(0+i)by omega)) (aHl (λk a b=>pinn k (by omega)) (λk a b=>by simp [dQ,bG,aT,SV.ids,SV.idsL,dX,bV];omega) (λk a b=>fr1 k _ (by omega) (by omega) (by omega)) (.inr (by omega)) (self65 _) (fr1 53 _ (by omega) (by decide) (by decide))) (by omega) ?_
  rw [aNn]
  have hSl:(jR (x.1.map (·.1))).length=x.1.length:=by
   have:=(List.mergeSort_perm (x.1.map (·.1)) λx y=>decide (x<=y)).length_eq
   rw [List.length_map]at this
   exact this
  have hSm: ∀s,s∈jR (x.1.map (·.1))↔ ∃v,mL x.1 s=some v:= λs=>vF.trans aH4
  have hME: ∀b t,ME M a b t↔mL x.1 b=some t:= λb t=>by
   constructor
   ·rintro⟨i',x',h1,h2⟩
    have:=aB2 hn hi h1
    subst this
    rw [hi]at h1
    simp at h1
    rw [h1];exact h2
   ·intro h;exact⟨i,x,hi,h⟩
  generalize jR (x.1.map (·.1))=S at *
  ((conv=>whnf);repeat ((first|(intro hq;try simp only [lnS]at hq)|refine sI ?_|refine .intro _ (.intro rfl ?_));(conv=>whnf)))
  rw [List.length_map]
  refine aM.own 5 66 169 2 rfl ⟨pinn _ (by omega),by simp [bG,aT,SV.ids,SV.idsL,dX,bV],fr1 66 _ (by omega) (by decide) (by decide)⟩ ?_
  refine aG hty (λy:Nat×List (Nat×Bool)=>([(0, .xv 33 nQ),(2, .ptr 62 0),(4, .d (.str a)),(5, .osl 66 2 (y.2.map aKo)),(15, .d (aEl R)),(16, .d (.int .i64 R.length)),(17, .d (.int .i64 j)),(25, .d (aEl S)),(26, .d (.int .i64 S.length)),(27, .d (.int .i64 y.1))],(66, .own 169 2 (y.2.map aKo).length)::(65, .own 165 1 (G.map aBr).length)::(62, .cells 121 [.d (aEl R), .osl 65 1 (G.map aBr)])::mpH M g hp0)) (λy=>(y.1<=S.length/\y.2.length<=y.1)/\ ∀to t,(to,t)∈y.2↔ ∃b,b∈S.take y.1/\R[to]? =some b/\mL x.1 b=some t) (λy=>S.length - y.1) (0,[]) ⟨by exact⟨Nat.zero_le _,Nat.le_refl _⟩,λto t=>by simp⟩ ⟨by repeat' (first|exact trivial|exact rfl|refine And.intro ?_ ?_),rfl,rfl,rfl,sk 66 _ (by omega) (sk 65 _ (by omega) (sk 62 _ (by omega) (lF F)))⟩ ?_
  rintro⟨k,l⟩ ⟨⟨hk1,hk2⟩,hlm⟩
  dsimp only at hk1 hk2 hlm
  ((conv=>whnf);repeat ((first|(intro hq;try simp only [lnS]at hq)|refine sI ?_|refine .intro _ (.intro rfl ?_));(conv=>whnf)))
  refine aB (λh2=> ?_) (λh2=> ?_)
  ·have hkl:k < S.length:=by dsimp only at h2;omega
   have hrow2:=dO hkl
   have hst:S.take (k+1)=S.take k++[S[k]]:=List.take_succ_eq_append_getElem hkl
   obtain⟨v,hv⟩:=(hSm _).1 (List.getElem_mem hkl)
   generalize S[k]=s at *
   have bs:=aDz R s hRs (by omega)
   ((conv=>whnf);repeat ((first|(refine⟨_,hrow2, ?_⟩)|(intro hq;try simp only [lnS]at hq)|refine sI ?_|refine .intro _ (.intro rfl ?_));(conv=>whnf)))
   refine aD [] bs trivial (λr hs=> ?_)
   obtain⟨n,b,rfl,hb1,hb2⟩:=hs.ex
   cases b
   ·((conv=>whnf);repeat' ((first|(intro hq;(try simp only [lnS]at hq);(try rewrite [List.length_map]))|refine sJ ?_|refine .intro _ (.intro rfl ?_)|refine exL (k:= ?_)|refine dwR ?_|((first|refine aB ?_ ?_|refine aC ?_ ?_)<;>intro hb<;>(first|exact ddX hb|try simp only [lnS]at hb))|(refine aA ?_ ?_<;>intro hb<;>try exact dsX hb))<;>(conv=>whnf)))
    refine⟨(k+1,l),⟨by dsimp only;omega,λto t=> ?_⟩,by dsimp only;omega,⟨by repeat' (first|exact trivial|exact rfl|refine And.intro ?_ ?_),rfl,rfl,rfl,sk 66 _ (by omega) (sk 65 _ (by omega) (sk 62 _ (by omega) (lF F)))⟩⟩
    rw [hlm,hst]
    constructor
    ·rintro⟨b,q1,q2⟩;exact⟨b,List.mem_append_left _ q1,q2⟩
    ·rintro⟨b,q1,q2,q3⟩
     rcases List.mem_append.1 q1 with q1|q1
     ·exact⟨b,q1,q2,q3⟩
     ·simp at q1;subst q1
      exact absurd (List.mem_of_getElem? q2) (hb2 rfl)
   ·have hRn2:=hb1 rfl
    have hl2:=aCx (mL x.1 s)
    rw [<-vE,hv]at hl2
    have hrl:(l.map aKo).length=l.length:=List.length_map ..
    have hb63:(l.map aKo).length+1<=9223372036854775807:=by rw [hrl];omega
    have hb48:((l.map aKo).length+1)* 16<=140737488355328:=by rw [hrl];omega
    ((conv=>whnf);repeat ((first|(intro hq;try simp only [lnS]at hq)|refine sI ?_|refine .intro _ (.intro rfl ?_));(conv=>whnf)))
    refine dK (id:=33) (ents:=kX 0 M) (k:=a) (bs:=g.1) (clock:=g.2) rfl rfl (dS rfl) rfl rfl rfl rfl ?_
    rw [hm,show rA false (Option.map (λi=>SV.xv (1000+(0+i)) nQ) (some i)) (ofV (Value.map none))=SV.xv (1000+(0+i)) nQ from rfl]
    ((conv=>whnf);repeat ((first|(intro hq;try simp only [lnS]at hq)|refine sI ?_|refine .intro _ (.intro rfl ?_));(conv=>whnf)))
    refine dK (id:=1000+(0+i)) (ents:=aBu x.1) (k:=s) (bs:=x.2.1) (clock:=x.2.2) rfl rfl (dS rfl) rfl rfl (aO (aO (aO (aO hgi (show 33≠1000+(0+i)by omega)) (show 62≠1000+(0+i)by omega)) (show 65≠1000+(0+i)by omega)) (show 66≠1000+(0+i)by omega)) rfl ?_
    rw [show ofV (Value.bool false)=SV.d (.bool false)from rfl,hl2]
    ((conv=>whnf);repeat ((first|(refine And.intro (show fX 107 _ _ _ from⟨pinn _ (by omega),by simp [dQ,xL,kF,aSn,bG,aT,SV.ids,SV.idsL,dX,bV]<;>omega,nmC (show 107≠66 by decide) (by simp [gF]) (fr1 107 _ (by omega) (by decide) (by decide))⟩) ?_)|(refine And.intro hb63 ?_)|(refine And.intro hb48 ?_)|(intro hq;try simp only [lnS]at hq)|refine sI ?_|refine .intro _ (.intro rfl ?_));(conv=>whnf)))
    have hmp:(l++[(n,v)]).map aKo=l.map aKo++[[.int .i64 n, .bool v]]:=by rw [List.map_append];rfl
    refine⟨(k+1,l++[(n,v)]),⟨⟨by dsimp only;omega,by dsimp only;rw [List.length_append,List.length_singleton];omega⟩,λto t=> ?_⟩,by dsimp only;omega, ?_⟩
    ·rw [hst]
     dsimp only
     rw [List.mem_append,hlm]
     constructor
     ·rintro(⟨b,q1,q2⟩|q)
      ·exact⟨b,List.mem_append_left _ q1,q2⟩
      ·simp at q
       obtain⟨rfl,rfl⟩:=q
       exact⟨s,by simp,hRn2,hv⟩
     ·rintro⟨b,q1,q2,q3⟩
      rcases List.mem_append.1 q1 with q1|q1
      ·exact .inl ⟨b,q1,q2,q3⟩
      ·simp at q1;subst q1
       right
       rw [hv]at q3
       injection q3 with q3
       obtain⟨e1,e2⟩:=List.getElem?_eq_some_iff.1 q2
       obtain⟨e3,e4⟩:=List.getElem?_eq_some_iff.1 hRn2
       have:=(List.getElem_inj hRn).1 (e2.trans e4.symm)
       simp [this,q3]
    ·dsimp only
     rw [hmp,List.length_append]
     exact⟨by repeat' (first|exact trivial|exact rfl|refine And.intro ?_ ?_),rfl,rfl,rfl,sk _ _ (by right;exact⟨Nat.le_of_ble_eq_true rfl,Nat.le_of_ble_eq_true rfl⟩) (sk 66 _ (by omega) (sk 65 _ (by omega) (sk 62 _ (by omega) (lF F))))⟩
  ·((conv=>whnf);repeat ((first|(refine And.intro (show fX 113 _ _ _ from⟨pinn _ (by omega),by simp [dQ,bG,aT,SV.ids,SV.idsL,dX,bV],nmC (show 113≠66 by decide) (by simp [gF]) (fr1 113 _ (by omega) (by decide) (by decide))⟩) ?_)|(intro hq;try simp only [lnS]at hq)|refine sI ?_|refine .intro _ (.intro rfl ?_));(conv=>whnf)))
   have hkl:k=S.length:=by dsimp only at h2;omega
   subst hkl
   rw [List.take_length]at hlm
   have hmp:(G++[l]).map aBr=G.map aBr++[aBr l]:=by rw [List.map_append];rfl
   refine⟨(j+1,G++[l]),⟨⟨by dsimp only;omega,by dsimp only;rw [List.length_append,List.length_singleton];omega⟩,λi' a' hi' ha'=> ?_⟩,by dsimp only;omega, ?_⟩
   ·dsimp only at hi' |-
    by_cases hij:i' < j
    ·have e:lT (G++[l]) i'=lT G i':=by
      unfold lT
      rw [List.getElem?_append_left (by omega)]
     rw [e]
     exact hG i' a' hij ha'
    ·have:i'=j:=by omega
     subst this
     rw [hRj]at ha'
     injection ha' with ha'
     subst ha'
     have e:lT (G++[l]) i'=l:=by
      unfold lT
      rw [List.getElem?_append_right (by omega),hGl,Nat.sub_self];rfl
     rw [e]
     intro to t
     rw [hlm]
     constructor
     ·rintro⟨b,q1,q2,q3⟩;exact⟨b,q2,(hME b t).2 q3⟩
     ·rintro⟨b,q1,q2⟩
      have q3:=(hME b t).1 q2
      exact⟨b,(hSm b).2 ⟨t,q3⟩,q1,q3⟩
   ·dsimp only
    rw [hmp,List.length_append]
    exact⟨by repeat' (first|exact trivial|exact rfl|refine And.intro ?_ ?_),rfl,rfl,sk _ _ (by right;exact⟨Nat.le_of_ble_eq_true rfl,Nat.le_of_ble_eq_true rfl⟩) (sk 66 _ (by omega) (sk 65 _ (by omega) (sk 62 _ (by omega) (lF F))))⟩
 ·have hjl:j=R.length:=by dsimp only at h1;omega
  ((conv=>whnf);repeat ((first|(intro hq;try simp only [lnS]at hq)|refine sI ?_|refine .intro _ (.intro rfl ?_));(conv=>whnf)))
  refine⟨hp0, ?_,hfin G (by omega) (λi a ha=>hG i a (by have:=(List.getElem?_eq_some_iff.1 ha).1;omega) ha)⟩
  have h0:kE hp0 (mpH M g hp0):=pC λp hp=>pB (lF F) p (List.mem_cons_of_mem _ (List.mem_append_right _ hp))
  exact fO (fO h0 λp hp e=>by have:=F.lo _ (mO hp);omega) λp hp e=>by have:=F.lo _ (mO hp);omega
end Go.Proofs.YtfhoddcminbffaaGreatDoor
namespace Go.Proofs.YtfhoddcminbffaaGreatDoor
open Go.Proofs
set_option maxRecDepth 10000
attribute [local irreducible] aM aJ Tri aH YVC dI bI
structure RevI (l:List Int) (i:Nat) (rows:List Int):Prop where
 len:rows.length=l.length
 at_: ∀(k:Nat) (h:k < l.length),rows[k]'(by omega)=if k < i\/l.length<=k+i then l[l.length - 1 - k]'(by omega)else l[k]
theorem RevI.zero (l:List Int):RevI l 0 l:=⟨rfl,λk h=>by rw [if_neg (by omega)]⟩
theorem RevI.step {l rows:List Int}{i:Nat}(h:RevI l i rows) (hi:2 * i+1 < l.length) (x y:Int) (hx:x=l[l.length - 1 - i]'(by omega)) (hy:y=l[i]'(by omega)):RevI l (i+1) ((rows.set i x).set (l.length - 1 - i) y):=by
 have hl:=h.len
 refine⟨by simp [h.len],λk hk=> ?_⟩
 rw [List.getElem_set,List.getElem_set]
 by_cases h1:l.length - 1 - i=k
 ·rw [if_pos h1,if_pos (by omega),hy];congr 1;omega
 ·rw [if_neg h1]
  by_cases h2:i=k
  ·rw [if_pos h2,if_pos (by omega),hx];congr 1;omega
  ·rw [if_neg h2,h.at_ k hk]
   by_cases h3:k < i\/l.length<=k+i
   ·rw [if_pos h3,if_pos (by omega)]
   ·rw [if_neg h3,if_neg (by omega)]
theorem RevI.done {l rows:List Int}{i:Nat}(h:RevI l i rows) (hi:l.length<=2 * i+1):rows=l.reverse:=by
 have hl:=h.len
 refine List.ext_getElem (by simp [h.len]) λk h1 h2=> ?_
 rw [List.getElem_reverse,h.at_ k (by omega)]
 by_cases h3:k < i\/l.length<=k+i
 ·rw [if_pos h3]
 ·rw [if_neg h3];congr 1;omega
theorem RevI.mid {l rows:List Int}{i k:Nat}(h:RevI l i rows) (h1:i<=k) (h2:k+i < l.length):rows[k]'(by have:=h.len;omega)=l[k]'(by omega):=by
 rw [h.at_ k (by omega),if_neg (by omega)]
theorem aAr (l:List Int) (cap:Nat) (rest:Hp) {pin:List Nat}{fr:Fr}{K:SV->Hp->Prop}(hl:l.length<=1000000)
  (fin:K (dQ []) ((76, .mrow 3 1 cap (l.reverse.map jZ))::rest)):
  aJ Tryz.prog pin fr ((76, .mrow 3 1 cap (l.map jZ))::rest) 152 [.mw 76 1 l.length] K:=by
 refine dW hty Tryz.func152 rfl (kp [0,2,3,9]) 500 (by simp [Tryz.f152]) ?_
 ((conv=>whnf);repeat ((first|(intro hq;try simp only [lnS]at hq)|refine sI ?_|refine .intro _ (.intro rfl ?_));(conv=>whnf)))
 refine dE hty (λy:Nat×List Int=>([(0, .mw 76 1 l.length),(2, .d (.int .i64 y.1)),(3, .d (.int .i64 (l.length - 1 - y.1)))],(76, .mrow 3 1 cap (y.2.map jZ))::rest)) (λy=>y.1<=l.length/\RevI l y.1 y.2) (λy=>l.length - y.1) (0,l) ⟨Nat.zero_le _, .zero l⟩ (by repeat' (first|exact trivial|exact rfl|exact fC (by dsimp only;omega)|refine And.intro ?_ ?_)) rfl ?_
 rintro⟨i,rows⟩ ⟨hi,hR⟩
 dsimp only at hi hR
 have hlen:=hR.len
 ((conv=>whnf);repeat ((first|(intro hq;try simp only [lnS]at hq)|refine sI ?_|refine .intro _ (.intro rfl ?_));(conv=>whnf)))
 refine aB (λh1=> ?_) (λh1=> ?_)
 ·dsimp only at h1
  (conv=>whnf)
  refine fR hty [0,1,2,3,4,5,6,7,8,9,10,11,12,13,14,15] (by kernel_rfl) (by kernel_rfl) ?_
  ((conv=>whnf);repeat' ((first|(intro hq;(try simp only [lnS]at hq);(try rewrite [List.length_map]))|refine sJ ?_|refine .intro _ (.intro rfl ?_)|refine exL (k:= ?_)|(refine⟨_,aLw (by first|omega|(simp only [List.length_map];omega)), ?_⟩)|refine dwR ?_|((first|refine aB ?_ ?_|refine aC ?_ ?_)<;>intro hb<;>(first|exact ddX hb|try simp only [lnS]at hb))|(refine aA ?_ ?_<;>intro hb<;>try exact dsX hb))<;>(conv=>whnf)))
  refine⟨_,List.getElem?_eq_getElem (by simp only [List.length_set,List.length_map];omega), ?_⟩
  ((conv=>whnf);repeat' ((first|(intro hq;(try simp only [lnS]at hq);(try rewrite [List.length_map]))|refine sJ ?_|refine .intro _ (.intro rfl ?_)|refine exL (k:= ?_)|(refine⟨_,aLw (by first|omega|(simp only [List.length_map];omega)), ?_⟩)|refine dwR ?_|((first|refine aB ?_ ?_|refine aC ?_ ?_)<;>intro hb<;>(first|exact ddX hb|try simp only [lnS]at hb))|(refine aA ?_ ?_<;>intro hb<;>try exact dsX hb))<;>(conv=>whnf)))
  have e1:((l.length:Int) - 1 - (i:Int)).toNat=l.length - 1 - i:=by omega
  refine⟨(i+1,(rows.set i (rows[l.length - 1 - i]'(by omega))).set (l.length - 1 - i) (rows[i]'(by omega))),⟨by dsimp only;omega,hR.step (by omega) _ _ (hR.mid (by omega) (by omega)) (hR.mid (by omega) (by omega))⟩,by dsimp only;omega,by repeat' (first|exact trivial|exact rfl|exact fC (by dsimp only;omega)|refine And.intro ?_ ?_), ?_⟩
  simp only [e1,Int.toNat_natCast,List.map_set]
  rfl
 ·dsimp only at h1
  rw [hR.done (by omega)]
  exact fin
end Go.Proofs.YtfhoddcminbffaaGreatDoor
