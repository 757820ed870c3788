/-
  Objects: the writer writes octets, numbers, texts and digests. The reference of objects: its reader reads numbers, texts and digests. The reference of objects: its reader reads digests. A nil cell takes up rows of its own, at a call; contracts whose result says less. Contracts of functions that hand back bytes of a row of their own, onto which the caller may append.
  Conditions: none.
-/
import Derived.Test.YtleihcnongldbaaGreatDoorVOu
import Derived.Test.YtleihcnongldbaaGreatDoorVOn
import Derived.Test.YtleihcnongldbaaGreatDoorVSyb
import Derived.Test.YtleihcnongldbaaGreatDoorVOs
import Derived.Test.YtleihcnongldbaaGreatDoorVSs
set_option linter.unnecessarySimpa false
set_option linter.unusedSectionVars false
set_option linter.unusedSimpArgs false
set_option linter.unusedVariables false
set_option maxHeartbeats 16000000
namespace Go.Proofs.YtleihcnongldbaaGreatDoor
open Go.Proofs Go.RowKit
set_option maxRecDepth 10000
attribute [local irreducible] aO aH Tri aG YVC cL bB
theorem qA (n:Nat):(((UInt8.ofNat (n % 256)).toNat:Nat):Int)=((n % 256:Nat):Int):=by simp
theorem aP5 (z:Int):IntKind.u8.wrap z=(((UInt8.ofNat (uN z % 256)).toNat:Nat):Int):=by
 rw [qA]
 have e3: ∀k:Int,IntKind.u8.wrap k=k % 256:= λk=>rfl
 rw [e3]
 unfold uN
 omega
theorem pU {n:Nat}(h:n<=100000000000000):uN (n:Int)=n:=by unfold uN;omega
theorem aFb (p q:List UInt8):(p++q).map aV=p.map aV++q.map aV:=List.map_append ..
theorem aL9 (p q:List UInt8):((p++q).map aV).length=(p.map aV).length+(q.map aV).length:=by rw [aFb,List.length_append]
theorem jW (p:List UInt8):(p.map aV).length=p.length:=List.length_map ..
theorem rK (j:Nat) (p q:List UInt8):wrC j (p++q)= .cells 73 [.osl j 1 (p.map aV++q.map aV)]:=by rw [<-aFb]
theorem rM (p q:List UInt8):wrB (p++q)= .own 5 1 ((p.map aV).length+(q.map aV).length):=by rw [<-aL9]
theorem lW (z:Int):WrT 69 [.d (.int .i64 z)] (vY z):=by
 intro p hp
 have hl:(vY z).length=1:=aT ..
 have hml:=jW p
 have hb63:(p.map aV).length+1<=9223372036854775807:=by rw [hml];omega
 have hb48:((p.map aV).length+1)* 1<=140737488355328:=by rw [hml];omega
 refine aI false [] hty Tryz.func69 rfl (kp [0,1]) 100 (by simp [Tryz.f69]) ?_
 ((conv=>whnf);repeat ((first|(refine And.intro hb63 ?_)|(refine And.intro hb48 ?_)|(intro hq;try simp only [lnS]at hq)|refine sI ?_|refine .intro _ (.intro rfl ?_));(conv=>whnf)))
 rw [aP5]
 rw [rK,rM]
 exact⟨rfl,rfl⟩
theorem aLk (n j:Nat) (h:j < 8):(beN 8 n).take (j+1)=(beN 8 n).take j++[UInt8.ofNat (n / 2 ^ (56 - 8 * j) % 256)]:=by
 have e:j=0\/j=1\/j=2\/j=3\/j=4\/j=5\/j=6\/j=7:=by omega
 rw [aQ7]
 rcases e with rfl|rfl|rfl|rfl|rfl|rfl|rfl|rfl<;>rfl
theorem aLl (n j:Nat) (h:j < 4):(beN 4 n).take (j+1)=(beN 4 n).take j++[UInt8.ofNat (n / 2 ^ (24 - 8 * j) % 256)]:=by
 have e:j=0\/j=1\/j=2\/j=3:=by omega
 rw [aQ8]
 rcases e with rfl|rfl|rfl|rfl<;>rfl
theorem aN9 (z:Int) (s:Nat) (hs:s<=64):IntKind.u8.wrap ((IntKind.u64.wrap z).fdiv (2 ^ (min (s:Int).toNat IntKind.u64.bits)))=(((UInt8.ofNat (uN z / 2 ^ s % 256)).toNat:Nat):Int):=by
 rw [aLj z s hs,qA]
theorem gM (z:Int):WrT 68 [.d (.int .i64 z)] (beN 4 (uN z)):=by
 intro p hp
 have hl:(beN 4 (uN z)).length=4:=aT ..
 refine aI false [] hty Tryz.func68 rfl (kp [0,1,4,6]) 100 (by simp [Tryz.f68]) ?_
 ((conv=>whnf);repeat ((first|(intro hq;try simp only [lnS]at hq)|refine sI ?_|refine .intro _ (.intro rfl ?_));(conv=>whnf)))
 refine aL hty (λj:Nat=>([(0, .ptr 3 0),(1, .d (.int .i64 z)),(4, .d (.int .i64 (24 - 8 * (j:Int))))],[(3,wrC 4 (p++(beN 4 (uN z)).take j)),(4,wrB (p++(beN 4 (uN z)).take j))])) (λj=>j<=4) (λj=>4 - j) 0 (by omega) ⟨by repeat' (first|exact trivial|exact rfl|refine And.intro ?_ ?_),by rw [List.take_zero,List.append_nil];exact⟨rfl,rfl,trivial⟩⟩ ?_
 intro j hj
 have hml:=jW (p++(beN 4 (uN z)).take j)
 rw [List.length_append,List.length_take]at hml
 have hb63:((p++(beN 4 (uN z)).take j).map aV).length+1<=9223372036854775807:=by rw [hml];omega
 have hb48:(((p++(beN 4 (uN z)).take j).map aV).length+1)* 1<=140737488355328:=by rw [hml];omega
 ((conv=>whnf);repeat ((first|(intro hq;try simp only [lnS]at hq)|refine sI ?_|refine .intro _ (.intro rfl ?_));(conv=>whnf)))
 refine aB (λh1=> ?_) (λh1=> ?_)
 ·have hj4:j < 4:=by omega
  have hs:(24 - 8 * (j:Int))=((24 - 8 * j:Nat):Int):=by omega
  have hbt:=aN9 z (24 - 8 * j) (by omega)
  have hnx:=aLl (uN z) j hj4
  dsimp only
  rw [hs]
  ((conv=>whnf);repeat ((first|(intro hq;try simp only [lnS]at hq)|refine sI ?_|refine .intro _ (.intro rfl ?_));(conv=>whnf)))
  refine xI hty [0,1,2,3,4,5,6,7,8,9,10,11,12,13,14] (by kernel_rfl) (by kernel_rfl) ?_
  ((conv=>whnf);repeat ((first|(refine And.intro hb63 ?_)|(refine And.intro hb48 ?_)|(intro hq;try simp only [lnS]at hq)|refine sI ?_|refine .intro _ (.intro rfl ?_));(conv=>whnf)))
  rw [hbt,show ((24 - 8 * j:Nat):Int) - 8=24 - 8 * ((j+1:Nat):Int)by omega]
  refine⟨j+1,by dsimp only;omega,by dsimp only;omega, ?_⟩
  dsimp only
  rw [hnx,<-List.append_assoc,rK,rM]
  exact⟨by repeat' (first|exact trivial|exact rfl|refine And.intro ?_ ?_),by repeat' (first|exact trivial|exact rfl|refine And.intro ?_ ?_)⟩
 ·have hj4:j=4:=by omega
  subst hj4
  rw [List.take_of_length_le (by rw [hl];exact Nat.le_refl _)]
  ((conv=>whnf);repeat ((first|(intro hq;try simp only [lnS]at hq)|refine sI ?_|refine .intro _ (.intro rfl ?_));(conv=>whnf)))
  exact rfl
theorem fP (z:Int):WrT 71 [.d (.int .i64 z)] (beN 8 (uN z)):=by
 intro p hp
 have hl:(beN 8 (uN z)).length=8:=aT ..
 refine aI false [] hty Tryz.func71 rfl (kp [0,1,4,6]) 100 (by simp [Tryz.f71]) ?_
 ((conv=>whnf);repeat ((first|(intro hq;try simp only [lnS]at hq)|refine sI ?_|refine .intro _ (.intro rfl ?_));(conv=>whnf)))
 refine aL hty (λj:Nat=>([(0, .ptr 3 0),(1, .d (.int .i64 z)),(4, .d (.int .i64 (56 - 8 * (j:Int))))],[(3,wrC 4 (p++(beN 8 (uN z)).take j)),(4,wrB (p++(beN 8 (uN z)).take j))])) (λj=>j<=8) (λj=>8 - j) 0 (by omega) ⟨by repeat' (first|exact trivial|exact rfl|refine And.intro ?_ ?_),by rw [List.take_zero,List.append_nil];exact⟨rfl,rfl,trivial⟩⟩ ?_
 intro j hj
 have hml:=jW (p++(beN 8 (uN z)).take j)
 rw [List.length_append,List.length_take]at hml
 have hb63:((p++(beN 8 (uN z)).take j).map aV).length+1<=9223372036854775807:=by rw [hml];omega
 have hb48:(((p++(beN 8 (uN z)).take j).map aV).length+1)* 1<=140737488355328:=by rw [hml];omega
 ((conv=>whnf);repeat ((first|(intro hq;try simp only [lnS]at hq)|refine sI ?_|refine .intro _ (.intro rfl ?_));(conv=>whnf)))
 refine aB (λh1=> ?_) (λh1=> ?_)
 ·have hj8:j < 8:=by omega
  have hs:(56 - 8 * (j:Int))=((56 - 8 * j:Nat):Int):=by omega
  have hbt:=aN9 z (56 - 8 * j) (by omega)
  have hnx:=aLk (uN z) j hj8
  dsimp only
  rw [hs]
  ((conv=>whnf);repeat ((first|(intro hq;try simp only [lnS]at hq)|refine sI ?_|refine .intro _ (.intro rfl ?_));(conv=>whnf)))
  refine xI hty [0,1,2,3,4,5,6,7,8,9,10,11,12,13,14] (by kernel_rfl) (by kernel_rfl) ?_
  ((conv=>whnf);repeat ((first|(refine And.intro hb63 ?_)|(refine And.intro hb48 ?_)|(intro hq;try simp only [lnS]at hq)|refine sI ?_|refine .intro _ (.intro rfl ?_));(conv=>whnf)))
  rw [hbt,show ((56 - 8 * j:Nat):Int) - 8=56 - 8 * ((j+1:Nat):Int)by omega]
  refine⟨j+1,by dsimp only;omega,by dsimp only;omega, ?_⟩
  dsimp only
  rw [hnx,<-List.append_assoc,rK,rM]
  exact⟨by repeat' (first|exact trivial|exact rfl|refine And.intro ?_ ?_),by repeat' (first|exact trivial|exact rfl|refine And.intro ?_ ?_)⟩
 ·have hj8:j=8:=by omega
  subst hj8
  rw [List.take_of_length_le (by rw [hl];exact Nat.le_refl _)]
  ((conv=>whnf);repeat ((first|(intro hq;try simp only [lnS]at hq)|refine sI ?_|refine .intro _ (.intro rfl ?_));(conv=>whnf)))
  exact rfl
theorem eJ (s:List UInt8):WrT 70 [.d (.str s)] (dO s):=by
 intro p hp
 have hl:(dO s).length=4+s.length:=by unfold dO;rw [List.length_append,aT]
 have hlc:(beN 4 (uN (s.length:Int))).length=4:=aT ..
 have hu:uN (s.length:Int)=s.length:=pU (by omega)
 refine aI false [] hty Tryz.func70 rfl (kp [0,1]) 100 (by simp [Tryz.f70]) ?_
 ((conv=>whnf);repeat ((first|(intro hq;try simp only [lnS]at hq)|refine sI ?_|refine .intro _ (.intro rfl ?_));(conv=>whnf)))
 refine WrT.call (gM s.length) rfl p (by omega) (by decide) rfl rfl ?_
 rw [hu]
 have hml:=jW (p++beN 4 s.length)
 rw [List.length_append,aT]at hml
 have hb63:((p++beN 4 s.length).map aV).length+(s.map aV).length<=9223372036854775807:=by rw [hml,jW];omega
 have hb48:(((p++beN 4 s.length).map aV).length+(s.map aV).length)* 1<=140737488355328:=by rw [hml,jW];omega
 ((conv=>whnf);repeat ((first|(refine And.intro hb63 ?_)|(refine And.intro hb48 ?_)|(intro hq;try simp only [lnS]at hq)|refine sI ?_|refine .intro _ (.intro rfl ?_));(conv=>whnf)))
 unfold dO
 rw [<-List.append_assoc,rK,rM]
 exact⟨rfl,rfl⟩
theorem nJ (d:Dig):WrT 85 [.d (.agg (lS d))] (mX d):=by
 intro p hp
 obtain⟨l,hl⟩:=d
 have hlw:(mX ⟨l,hl⟩).length=32:=hl
 obtain⟨y0,y1,y2,y3,y4,y5,y6,y7,y8,y9,y10,y11,y12,y13,y14,y15,y16,y17,y18,y19,y20,y21,y22,y23,y24,y25,y26,y27,y28,y29,y30,y31,rfl⟩:=fM hl
 have hml:=jW p
 have hb63:(p.map aV).length+32<=9223372036854775807:=by rw [hml];omega
 have hb48:((p.map aV).length+32)* 1<=140737488355328:=by rw [hml];omega
 refine aI false [3] hty Tryz.func85 rfl (kp [0,1,3]) 100 (by simp [Tryz.f85]) ?_
 ((conv=>whnf);repeat ((first|(intro hq;try simp only [lnS]at hq)|refine sI ?_|refine .intro _ (.intro rfl ?_));(conv=>whnf)))
 refine xI hty [0,1,2,3,4,5,6,7,8,9] (by kernel_rfl) (by kernel_rfl) ?_
 ((conv=>whnf);repeat ((first|(refine And.intro hb63 ?_)|(refine And.intro hb48 ?_)|(intro hq;try simp only [lnS]at hq)|refine sI ?_|refine .intro _ (.intro rfl ?_));(conv=>whnf)))
 unfold mX
 rw [rK,rM]
 exact⟨rfl,rfl⟩
end Go.Proofs.YtleihcnongldbaaGreatDoor
namespace Go.Proofs.YtleihcnongldbaaGreatDoor
open Go.Proofs Go.RowKit
set_option maxRecDepth 10000
attribute [local irreducible] aO aH Tri aG YVC cL bB
abbrev rfO (s:RS):HObj:= .cells 86 [.d (.sl 1 (s.1.map aV)), .d (.bool s.2)]
abbrev aQ2:Pin:=⟨[3],λ_ _=>False,[]⟩
def RfT {α:Type}(f:FuncId) (ex:List SV) (t:Tr α) (e:α->SV):Prop:= ∀s:RS,s.1.length<=1000000->
 aH Tryz.prog aQ2 [] [(3,rfO s)] f (.ptr 3 0::ex) (λr h=>r=e (t s).1/\aQ h 3=some (rfO (t s).2))
theorem RfT.call {α:Type}{f:FuncId}{ex:List SV}{t:Tr α}{e:α->SV}(h:RfT f ex t e) (hx:SV.idsL ex=[]) (he: ∀x,(e x).ids=[]) {pin:Pin}{fr:Fr}{hp:Hp}{i:Nat}{K:SV->Hp->Prop}(s:RS) (hb:s.1.length<=1000000) (hg:aQ hp i=some (rfO s))
  (hok:eH hp i (rfO (t s).2) (K (e (t s).1))):aH Tryz.prog pin fr hp f (.ptr i 0::ex) K:=by
 have hs: ∀b,(rfO b).sim:= λb s hs=>by
  simp at hs
  rcases hs with rfl|rfl<;>exact rfl
 refine nI (λ_=>i) [3] [(3,rfO s)] (h s hb) (aJo hg rfl (hs s)) (λk hk=>hk) (by rw [List.map_cons,wT hx];rfl) ?_ ?_ ?_
 ·intro s hs
  rcases List.mem_cons.1 hs with rfl|hs
  ·trivial
  ·exact wR hx s hs
 ·rintro r h1 ⟨rfl,e3⟩
  refine⟨aEq (he _), ?_,_,aLa hg e3 (hs _) (λh=>h) rfl rfl, ?_⟩
  ·intro j hj
   rw [he]at hj
   cases hj
  ·rw [aEv (he _)]
   rw [cU]at hok
   exact hok
 ·exact λh1 h2=>h2.elim
end Go.Proofs.YtleihcnongldbaaGreatDoor
namespace Go.Proofs.YtleihcnongldbaaGreatDoor
open Go.Proofs Go.RowKit
set_option maxRecDepth 10000
attribute [local irreducible] aO aH Tri aG YVC cL bB
end Go.Proofs.YtleihcnongldbaaGreatDoor
namespace Go.Proofs.YtleihcnongldbaaGreatDoor
open Go.RowKit
section
variable {P:Program}
theorem aH.ownH {pin:Pin}{fr:Fr}{hp:Hp}{f:FuncId}{args:List SV}{K:SV->Hp->Prop}(i id t e z:Nat) (hnil:aQ hp i=some (.cells t [.d .nil])) (hfr:iW id pin fr hp) (hna:id∉SV.idsL args)
  (h:aH P pin fr ((id, .own e z 0)::gI hp i (.cells t [.osl id z []])) f args K):aH P pin fr hp f args K:=by
 intro E ρ w tm hpin h3 h4 vs hargs
 obtain⟨f1,f2,f3⟩:=hfr
 obtain⟨m1,m2,m3⟩:=h3.newNil (id:=id) e z f3 (by rw [hpin];exact f1)
 have hne:i≠id:= λe=>f3 (by subst e;exact bK hnil (.inl rfl))
 have hi':aQ ((id,HObj.own e z 0)::hp) i=some (.cells t [.d .nil]):=by
  simp only [aQ];rw [if_neg (Ne.symm hne)];exact hnil
 have m4 := m1.recell hi' (cs' := [.osl id z []]) rfl (λj s' v hs' hv => by
  cases j with
  |zero=>
   simp at hs'
   subst hs'
   have:=(hv (.d .nil) rfl).nil_inv
   subst this
   exact m3
  |succ j=>simp at hs')
 have e2:gI ((id,HObj.own e z 0)::hp) i (.cells t [.osl id z []])=(id, .own e z 0)::gI hp i (.cells t [.osl id z []]):=by
  simp only [gI];rw [if_neg (Ne.symm hne)]
 rw [e2]at m4
 have hidsA: ∀(l:List SV) (k:Nat),id∉SV.idsL l->id∉fJ (gK k l):=by
  intro l
  induction l with
  |nil=>intro k h;simp [gK,fJ]
  |cons s r ih=>
   intro k hn
   rw [SV.idsL,List.mem_append,not_or]at hn
   simp only [gK,fJ,List.flatMap_cons,List.mem_append,not_or]
   exact⟨hn.1,ih (k+1) hn.2⟩
 have hget: ∀(l:List SV) (k j:Nat) (s:SV),l[j]? =some s->fK (gK k l) (k+j)=some s:=by
  intro l
  induction l with
  |nil=>intro k j s h;simp at h
  |cons x r ih=>
   intro k j s h
   cases j with
   |zero=>simp at h;subst h;simp [gK,fK]
   |succ j=>
    simp at h
    have:=ih (k+1) j s h
    simp only [gK,fK]
    rw [if_neg (by omega)]
    rw [show k+(j+1)=k+1+j by omega];exact this
 have hav:cK ρ w (gK 0 args) vs:=by
  intro u s hu
  obtain⟨_,q⟩:=iH args 0 u s hu
  simp only [Nat.sub_zero]at q
  have hlt:=(List.getElem?_eq_some_iff.1 q).1
  have hlt':u < vs.size:=by rw [hargs.1];exact hlt
  exact⟨vs[u],Array.getElem?_eq_getElem hlt',hargs.2 u s _ q (Array.getElem?_eq_getElem hlt')⟩
 have hav2:=m2 (gK 0 args) vs (hidsA args 0 hna) hav
 refine h E _ w tm hpin m4 (m2 fr tm f2 h4) vs ⟨hargs.1,λj s v hs hv=> ?_⟩
 have h0:=hget args 0 j s hs
 rw [Nat.zero_add]at h0
 obtain⟨u,q1,q2⟩:=hav2 j s h0
 rw [hv]at q1
 injection q1 with q1
 rw [q1];exact q2
theorem Tri.says {f:FuncId}{args:List SV}{hp:Hp}{post:SV->Prop}(h:Tri P f args hp λs=> ∃s',eG s s'/\post s'):Tri P f args hp post:=
 λw ρ vs a b c=>(h w ρ vs a b c).mono λ_ _ ⟨v,S',s,h1,⟨s',h2,h3⟩,h4,h5,h6,h7,h8⟩=>⟨v,S',s',h1,h3,h4,h5,h6,h7,h2 _ _ _ h8⟩
theorem eG.tup {l m:List SV}(hl:l.length=m.length) (h: ∀(j:Nat) (a b:SV),l[j]? =some a->m[j]? =some b->eG a b):eG (.tup l) (.tup m):= λw ρ v hr=>by
 obtain⟨vs,rfl,h1,h2⟩:=hr.tup_inv
 refine .tup _ _ (h1.trans hl) λj b u hb hu=> ?_
 have hj:j < l.length:=by rw [hl];exact(List.getElem?_eq_some_iff.1 hb).1
 exact h j _ b (List.getElem?_eq_getElem hj) hb w ρ u (h2 j _ u (List.getElem?_eq_getElem hj) hu)
theorem eG.pair {a b c:SV}(h:eG a b):eG (.tup [a,c]) (.tup [b,c]):=eG.tup rfl λj x y hx hy=>by
 match j with
 | 0=>simp at hx hy;subst hx hy;exact h
 | 1=>simp at hx hy;subst hx hy;exact .refl _
 |j+2=>simp at hx
end
end Go.Proofs.YtleihcnongldbaaGreatDoor
namespace Go.Proofs.YtleihcnongldbaaGreatDoor
open Go.RowKit
section
variable {P:Program}
def aA0 (l:List UInt8):List Value:=l.map λc=> .int .u8 c.toNat
def aJu (P:Program) (f:FuncId) (args:List SV) (e:TypeId) (bs:List UInt8):Prop:=
 ∀(w:World) (ρ:Env) (vs:Array Value),(∀b i,ρ.S b i->b < w.heap.size)->bY w ρ args vs->
  Calls P f vs w λx w'=> ∃v,x= .returned v/\Grew w w'/\w'.ownsRow 0 e 1 v bs.length (aA0 bs)/\ ∀g,v.ownBlock=some g->w.heap.size<=g
theorem aDi {w:World}{S:Nat->Nat->Prop}(l:List UInt8):Flat w S 1 (l.map aV) (aA0 l):=by
 refine⟨by simp [aA0],λrow h=> ?_,λv h=> ?_,λi row j x h1 h2=> ?_⟩
 ·obtain⟨c,_,rfl⟩:=List.mem_map.1 h;rfl
 ·obtain⟨c,_,rfl⟩:=List.mem_map.1 h;rfl
 ·rw [List.getElem?_map,Option.map_eq_some_iff]at h1
  obtain⟨c,hc,rfl⟩:=h1
  have hj:j=0/\x= .int .u8 c.toNat:=by
   cases j with
   |zero=>simp [aV]at h2;exact⟨rfl,h2.symm⟩
   |succ j=>simp [aV]at h2
  obtain⟨rfl,rfl⟩:=hj
  exact⟨.int .u8 c.toNat,by simp [aA0,hc], .int _ _⟩
theorem aJu.tri {f:FuncId}{args:List SV}{e:TypeId}{bs:List UInt8}(h:aJu P f args e bs):Tri P f args [] (λr=>r= .d (.sl 1 (bs.map aV))):=by
 intro w ρ vs hslt hargs _
 refine(h w ρ vs hslt hargs).mono ?_
 rintro x w' ⟨v,rfl,h1,h2,h3⟩
 have hl:(bs.map aV).length=bs.length:=List.length_map ..
 have hm:Mem ⟨w,ρ.S,λ_=>False,⟨[],λ_ _=>False,[]⟩,ρ,none,[],0⟩ ρ [] w:=
  ⟨rfl,rfl, .refl _,Nat.le_refl _,λ_ _ _=>rfl,λ_ _ h=>h,λ_ _ h _ _=>h,hslt,λ_ _ _=>rfl,λ_ _ h=>by simp [aQ]at h,λ_ _ _ _ _ h=>by simp [aQ]at h,λ_ _ _ h=>by simp [aQ]at h,λid _=>ρ.moved_refl id,λ_ _ _ h=>by simp [aQ]at h,λb hb=>by cases hb⟩
 obtain⟨m1,m2,m3⟩:=hm.newOwn (id:=0) (e:=e) (z:=1) (rows:=bs.map aV) (vs:=aA0 bs) h1 (by rw [hl];exact h2) h3 (aDi bs) (by simp [pD]) (λh=>by cases h)
 refine⟨v,_,_,rfl,rfl,h1,m1.sold,λb i hs=> ?_,m1.slt,(Rep.d _ _ m3.osl_inv.1:Rep w' _ (.d (.sl 1 (bs.map aV))) v).noids rfl rfl⟩
 rcases Nat.lt_or_ge b w.heap.size with hlt|hge
 ·exact .inl (m1.snew b i hs hlt (λh=>h))
 ·exact .inr hge
end
end Go.Proofs.YtleihcnongldbaaGreatDoor
