/-
  Objects: the types that come in. Readers that do not stop: a flag says that something was wrong; plain. Objects: a writer's contract, over its own two objects alone; how it is used. Objects: the writer writes octets, numbers, texts and digests.
  Conditions: none.
-/
import Derived.Test.YtcomlapnibckmaaGreatDoorMSyi
import Derived.Test.YtcomlapnibckmaaGreatDoorMOt
import Derived.Test.YtcomlapnibckmaaGreatDoorMOl
import Derived.Test.YtcomlapnibckmaaGreatDoorMOn
import Derived.Test.YtcomlapnibckmaaGreatDoorMSw
import Derived.Test.YtcomlapnibckmaaGreatDoorMAk
set_option linter.unnecessarySimpa false
set_option linter.unusedSectionVars false
set_option linter.unusedSimpArgs false
set_option linter.unusedVariables false
set_option maxHeartbeats 16000000
namespace Go.Proofs.YtcomlapnibckmaaGreatDoor
open Go.Proofs Go.RowKit
set_option maxRecDepth 100000
theorem aH3:Tryz.prog.underlying 37=some (.slice 3):=by kernel_rfl
theorem aCz:Tryz.prog.underlying 26=some (.slice 5):=by kernel_rfl
theorem aFm:Tryz.prog.underlying 5=some (.int .u8):=by kernel_rfl
theorem aIf:Tryz.prog.underlying 39=some (.array 32 5):=by kernel_rfl
theorem yS:yT Tryz.prog 41=some [3,37,39,9]:=by kernel_rfl
theorem aIl:Tryz.prog.cellsOf 3=1:=by kernel_rfl
theorem aHr:Tryz.prog.cellsOf 5=1:=by kernel_rfl
def TX:List TypeId:=41::39::37::26::5::TT
theorem clX:Cl Tryz.prog (· ∈TX):=aHq (by kernel_rfl)
theorem aAx {n:Nat}{ds:List D}(h:TyD Tryz.prog n 26 ds): ∃b:List UInt8,tC Tryz.prog 26 ds= .d (.sl 1 (b.map aO)):=by
 obtain⟨m,rfl,rows,rfl,hn,hr⟩:=rS aCz h
 obtain⟨b,rfl⟩:=tU (f:=aO) (λr hr=>by obtain⟨c,rfl⟩:=aD0 aFm hr;exact⟨c,rfl⟩) rows hr
 exact⟨b,by simp only [tC,aCz,aHr]⟩
theorem aCi {n:Nat}{ds:List D}(h:TyD Tryz.prog n 39 ds): ∃d:Dig,ds=pQ d:=by
 obtain⟨m,rfl,h1⟩:=yW aIf h
 obtain⟨f,rfl⟩:=yU (λa ha=>aD0 aFm ha) 32 ds h1
 exact⟨⟨(List.range 32).map f,by simp⟩,by unfold pQ;rw [List.map_map];rfl⟩
theorem aAp {n:Nat}{ds:List D}(h:TyD Tryz.prog n 37 ds): ∃w:List Int,ds=[.sl 1 (w.map eE)]:=by
 obtain⟨m,rfl,rows,rfl,hn,hr⟩:=rS aH3 h
 obtain⟨w,rfl⟩:=tU (f:=eE) (λr hr=>by obtain⟨z,rfl,_⟩:=yV u3 hr;exact⟨z,rfl⟩) rows hr
 exact⟨w,by rw [aIl]⟩
theorem xX {n:Nat}{ds:List D}(h:TyD Tryz.prog n 41 ds): ∃c:Cm,tC Tryz.prog 41 ds= .d (.agg (cmR c)):=by
 rw [aBb yS]
 obtain⟨m,rfl,a1,b1,rfl,h1,a2,b2,rfl,h2,a3,b3,rfl,h3,a4,b4,rfl,h4,rfl⟩:=wI yS h
 obtain⟨z,rfl,_⟩:=yV u3 h1
 obtain⟨w,rfl⟩:=aAp h2
 obtain⟨d,rfl⟩:=aCi h3
 obtain⟨s,rfl,_⟩:=wJ u9 h4
 exact⟨⟨z,w,d,s⟩,by unfold cmR;simp⟩
end Go.Proofs.YtcomlapnibckmaaGreatDoor
namespace Go.Proofs.YtcomlapnibckmaaGreatDoor
open Go.Proofs
abbrev RS:=List UInt8×Bool
abbrev Tr (α:Type):=RS->α×RS
section
variable {α β:Type}
def aH7 (a:α):Tr α:= λs=>(a,s)
def wM (t:Tr α) (f:α->β):Tr β:= λs=>(f (t s).1,(t s).2)
def fX (t:Tr α) (f:α->Tr β):Tr β:= λs=>f (t s).1 (t s).2
def cM (n:Nat):Tr (List UInt8):= λs=>if s.2=true\/s.1.length < n then ([],(s.1,true))else (s.1.take n,(s.1.drop n,false))
def iS (k:Nat):Tr Nat:=wM (cM k) deN
def jC (least:Nat):Tr Nat:= λs=>if (iS 4 s).2.2=true\/(iS 4 s).2.1.length / least < (iS 4 s).1 then (0,((iS 4 s).2.1,true))else iS 4 s
def tE (t:Tr α):Nat->Tr (List α)
 | 0=>aH7 []
 |n+1=> λs=>if s.2=true then ([],s)else ((t s).1::(tE t n (t s).2).1,(tE t n (t s).2).2)
theorem mT (t:Tr α) (n:Nat) (s:RS):tE t (n+1) s=if s.2=true then ([],s)else ((t s).1::(tE t n (t s).2).1,(tE t n (t s).2).2):=rfl
def uR (least:Nat) (t:Tr α):Tr (List α):=fX (jC least) (tE t)
structure Sim (t:Tr α) (r:Rd α):Prop where
 bad: ∀b,(t (b,true)).2.2=true
 ok: ∀b x c,r b=some (x,c)->t (b,false)=(x,(c,false))
 no: ∀b,r b=none->(t (b,false)).2.2=true
theorem Sim.map {t:Tr α}{r:Rd α}(h:Sim t r) (f:α->β):Sim (wM t f) (kL r f):=by
 refine⟨λb=>h.bad b,λb x c e=> ?_,λb e=> ?_⟩
 ·obtain⟨y,h1,rfl⟩:=uW e
  unfold wM;rw [h.ok b y c h1]
 ·refine h.no b ?_
  unfold kL at e
  exact Option.map_eq_none_iff.1 e
theorem Sim.bind {t:Tr α}{r:Rd α}{f:α->Tr β}{g:α->Rd β}(h:Sim t r) (k: ∀x,Sim (f x) (g x)):Sim (fX t f) (bV r g):=by
 have kb: ∀x (s:RS),s.2=true->(f x s).2.2=true:=by
  rintro x ⟨b,d⟩ hs
  have hs:d=true:=hs
  subst hs
  exact(k x).bad b
 refine⟨λb=>kb _ _ (h.bad b),λb x c e=> ?_,λb e=> ?_⟩
 ·obtain⟨y,d,h1,h2⟩:=zQ e
  unfold fX;rw [h.ok b y d h1]
  exact(k y).ok d x c h2
 ·cases h1:r b with
  |none=>exact kb _ _ (h.no b h1)
  |some p=>
   obtain⟨y,d⟩:=p
   rw [aU h1]at e
   unfold fX;rw [h.ok b y d h1]
   exact(k y).no d e
theorem qD (n:Nat):Sim (cM n) (eO n):=by
 refine⟨λb=> ?_,λb x c e=> ?_,λb e=> ?_⟩
 ·unfold cM;rw [if_pos (.inl rfl)]
 ·unfold eO at e
  split at e
  ·injection e with e;injection e with e1 e2
   unfold cM;rw [if_neg (by simp;omega),e1,e2]
  ·cases e
 ·unfold eO at e
  split at e
  ·cases e
  ·unfold cM;rw [if_pos (.inr (by simp;omega))]
theorem tQ (k:Nat):Sim (iS k) (sB k):=(qD k).map deN
theorem aBk (least:Nat):Sim (jC least) (wR least):=by
 have h:=tQ 4
 refine⟨λb=> ?_,λb x c e=> ?_,λb e=> ?_⟩
 ·unfold jC;rw [if_pos (.inl (h.bad b))]
 ·unfold wR at e
  obtain⟨p,h1,h2⟩:=Option.bind_eq_some_iff.1 e
  split at h2
  ·cases h2
  ·rename_i h3
   injection h2 with h2
   subst h2
   unfold jC
   have h3:¬ c.length / least < x:=by simpa using h3
   rw [h.ok b x c h1,if_neg (by simpa using h3)]
 ·unfold wR at e
  cases h1:sB 4 b with
  |none=>unfold jC;rw [if_pos (.inl (h.no b h1))]
  |some p=>
   obtain⟨x,c⟩:=p
   rw [h1]at e
   simp only [Option.bind_some]at e
   split at e
   ·rename_i h3
    unfold jC;rw [h.ok b x c h1,if_pos (.inr h3)]
   ·cases e
theorem oU (t:Tr α) (n:Nat) {s:RS}(h:s.2=true):tE t n s=([],s):=by
 cases n with
 |zero=>rfl
 |succ n=>rw [mT,if_pos h]
theorem zE {t:Tr α}{r:Rd α}(h:Sim t r): ∀n,Sim (tE t n) (jD r n)
 | 0=>⟨λb=>rfl,λb x c e=>by injection e with e;injection e with e1 e2;subst e1 e2;rfl,λb e=>by cases e⟩
 |n+1=>by
  have ih:=zE h n
  have k:=Sim.bind h (λx=>ih.map (x:: ·))
  refine⟨λb=>by rw [oU t (n+1) rfl],λb x c e=> ?_,λb e=> ?_⟩
  ·have:=k.ok b x c e
   rw [<-this]
   rfl
  ·have:=k.no b e
   exact this
theorem zG {t:Tr α}{r:Rd α}(h:Sim t r) (least:Nat):Sim (uR least t) (uX least r):=(aBk least).bind λn=>zE h n
theorem rW (t:Tr α): ∀(n:Nat) (s:RS) (l:List α) (s1:RS),tE t n s=(l,s1)->l.length=n->s1.2=false->tE t (n+1) s=(l++[(t s1).1],(t s1).2)
 | 0,s,l,s1,h,_,hb=>by
  injection h with h1 h2
  subst h1 h2
  rw [mT,if_neg (by rw [hb];simp)];rfl
 |n+1,s,l,s1,h,hl,hb=>by
  rw [mT]at h
  split at h
  ·injection h with h1 h2;subst h1;simp at hl
  ·rename_i h0
   injection h with h1 h2
   cases l with
   |nil=>cases h1
   |cons x l=>
    injection h1 with h1 h3
    have:=rW t n (t s).2 l s1 (by rw [<-h3,<-h2]) (by simpa using hl) hb
    rw [mT,if_neg h0,this,<-h1];rfl
theorem rV (t:Tr α): ∀(k n:Nat) (s:RS) (l:List α) (s1:RS),tE t k s=(l,s1)->s1.2=true->k<=n->tE t n s=(l,s1)
 | 0,n,s,l,s1,h,hb,_=>by
  injection h with h1 h2
  subst h1 h2
  exact oU t n hb
 |k+1,0,s,l,s1,h,hb,hk=>absurd hk (by omega)
 |k+1,n+1,s,l,s1,h,hb,hk=>by
  rw [mT]at h |-
  split at h
  ·rename_i h0;rw [if_pos h0];exact h
  ·rename_i h0
   injection h with h1 h2
   rw [if_neg h0]
   have:=rV t k n (t s).2 (tE t k (t s).2).1 s1 (by rw [<-h2]) hb (by omega)
   rw [this,<-h1]
def aDo (t:Tr α):Prop:= ∀s,(t s).2.1.length<=s.1.length
theorem kQ (n:Nat):aDo (cM n):=by
 intro s
 unfold cM
 split
 ·exact Nat.le_refl _
 ·show (s.1.drop n).length<=_
  rw [List.length_drop];omega
theorem mH {t:Tr α}(h:aDo t) (f:α->β):aDo (wM t f):=h
theorem aA6 (least:Nat):aDo (jC least):=by
 intro s
 have h:aDo (iS 4):=mH (kQ 4) deN
 unfold jC
 split
 ·exact h s
 ·exact h s
theorem mS (n:Nat) (s:RS):(cM n s).1.length<=n:=by
 unfold cM
 split
 ·simp
 ·show (s.1.take n).length<=n
  rw [List.length_take];omega
theorem aBg {least:Nat}(s:RS) (h:0 < least):(jC least s).1<=s.1.length:=by
 have hl:(iS 4 s).2.1.length<=s.1.length:=mH (kQ 4) deN s
 unfold jC
 split
 ·simp
 ·rename_i h1
  have h2:¬ (iS 4 s).2.1.length / least < (iS 4 s).1:= λe=>h1 (.inr e)
  have h3:(iS 4 s).2.1.length / least<=(iS 4 s).2.1.length:=Nat.div_le_self _ _
  omega
end
theorem aIg {α:Type}{t:Tr α}{r:Rd α}(h:Sim t r) (wr:α->List UInt8×Int) (zero:α) (bad:Int) (b:List UInt8):
  dW r wr zero bad b=if (t (b,false)).2.2=true\/(t (b,false)).2.1≠[]\/wr (t (b,false)).1≠(b,0)then (zero,bad)else ((t (b,false)).1,0):=by
 cases h1:r b with
 |none=>
  rw [if_pos (.inl (h.no b h1))]
  unfold dW;rw [h1]
 |some p=>
  obtain⟨x,c⟩:=p
  rw [h.ok b x c h1]
  unfold dW;rw [h1]
  cases c with
  |nil=>
   by_cases hw:wr x=(b,0)
   ·simp [hw]
   ·simp [hw]
  |cons y c=>simp
end Go.Proofs.YtcomlapnibckmaaGreatDoor
namespace Go.Proofs.YtcomlapnibckmaaGreatDoor
open Go.Proofs Go.RowKit
set_option maxRecDepth 10000
attribute [local irreducible] aL aG Tri aD YVC cP bB
theorem aHh {i j:Nat}{h1 hp:Hp}{x y o u o' u':HObj}(hij:i≠j) (hx:aJ hp i=some x) (hy:aJ hp j=some y) (ho:aJ h1 3=some o) (hu:aJ h1 4=some u) (hs:o.sim/\u.sim) (hr:¬ o.Rd/\¬ u.Rd) (hi:(∀k∈o.ids,k∈[3,4])/\ ∀k∈u.ids,k∈[3,4])
  (he:o.ren (λk=>if k=3 then i else j)=o') (he':u.ren (λk=>if k=3 then i else j)=u'):Left (λk=>if k=3 then i else j) [3,4] h1 hp (eD (eD hp i o') j u'):=by
 have hy':aJ (eD hp i o') j=some y:=by rw [aX o' hx,if_neg (Ne.symm hij)];exact hy
 refine⟨λk hk=> ?_,λk z hz=> ?_⟩
 ·have hk:k=3\/k=4:=by simpa using hk
  rcases hk with rfl|rfl
  ·refine⟨o,ho,hs.1,hr.1,hi.1, ?_⟩
   show aJ (eD (eD hp i o') j u') i=_
   rw [aX u' hy',if_neg hij,aX o' hx,if_pos rfl,he]
  ·refine⟨u,hu,hs.2,hr.2,hi.2, ?_⟩
   show aJ (eD (eD hp i o') j u') j=_
   rw [aX u' hy',if_pos rfl,he']
 ·rw [aX u' hy']at hz
  split at hz
  ·rename_i e;exact .inl ⟨4,by simp,by rw [e];rfl⟩
  ·rw [aX o' hx]at hz
   split at hz
   ·rename_i e;exact .inl ⟨3,by simp,by rw [e];rfl⟩
   ·exact .inr hz
theorem aGi {i j:Nat}{hp:Hp}{x y o u:HObj}(hij:i≠j) (hx:aJ hp i=some x) (hy:aJ hp j=some y) (he:o.ren (λk=>if k=3 then i else j)=x) (he':u.ren (λk=>if k=3 then i else j)=y) (hs:o.sim/\u.sim):Among (λk=>if k=3 then i else j) [3,4] [(3,o),(4,u)] hp:=by
 have key: ∀k z,aJ [(3,o),(4,u)] k=some z->k=3/\z=o\/k=4/\z=u:=by
  intro k z h
  simp only [aJ]at h
  split at h
  ·rename_i e;injection h with h;exact .inl ⟨e.symm,h.symm⟩
  ·split at h
   ·rename_i e;injection h with h;exact .inr ⟨e.symm,h.symm⟩
   ·cases h
 refine⟨λk z h=> ?_,λk z k' z' h h' e=> ?_,λk hk=> ?_,λk z h=> ?_⟩
 ·rcases key k z h with⟨rfl,rfl⟩|⟨rfl,rfl⟩
  ·exact⟨by rw [he];exact hx,hs.1⟩
  ·exact⟨by rw [he'];exact hy,hs.2⟩
 ·rcases key k z h with⟨rfl,rfl⟩|⟨rfl,rfl⟩<;>rcases key k' z' h' with⟨rfl,rfl⟩|⟨rfl,rfl⟩
  ·rfl
  ·exact absurd e hij
  ·exact absurd e (Ne.symm hij)
  ·rfl
 ·have hk:k=3\/k=4:=by simpa using hk
  rcases hk with rfl|rfl
  ·exact⟨o,by simp [aJ]⟩
  ·exact⟨u,by simp [aJ]⟩
 ·rcases key k z h with⟨rfl,rfl⟩|⟨rfl,rfl⟩
  ·exact .inl (by simp)
  ·exact .inl (by simp)
abbrev wrC (j:Nat) (p:List UInt8):HObj:= .cells 88 [.osl j 1 (p.map aO)]
abbrev wrB (p:List UInt8):HObj:= .own 5 1 (p.map aO).length
abbrev aIh:Pin:=⟨[3,4],λ_ _=>False,[]⟩
def WrT (f:FuncId) (ex:List SV) (out:List UInt8):Prop:= ∀p:List UInt8,p.length+out.length<=100000000000000->
 aG Tryz.prog aIh [] [(3,wrC 4 p),(4,wrB p)] f (.ptr 3 0::ex) (λs h=>s= .tup []/\aJ h 3=some (wrC 4 (p++out))/\aJ h 4=some (wrB (p++out)))
theorem WrT.call {f:FuncId}{ex:List SV}{out:List UInt8}(h:WrT f ex out) (hx:SV.idsL ex=[]) {pin:Pin}{fr:Fr}{hp:Hp}{i j:Nat}{K:SV->Hp->Prop}(p:List UInt8) (hb:p.length+out.length<=100000000000000) (hij:i≠j) (hg:aJ hp i=some (wrC j p)) (hg':aJ hp j=some (wrB p))
  (hok:dL hp i (wrC j (p++out)) λh=>dL h j (wrB (p++out)) (K (.tup []))):aG Tryz.prog pin fr hp f (.ptr i 0::ex) K:=by
 have hs: ∀(p:List UInt8),(wrC 4 p).sim:= λp s hs=>by simp at hs;subst hs;trivial
 have hi: ∀(p:List UInt8),∀k∈(wrC 4 p).ids,k∈[3,4]:= λp k hk=>by simp [HObj.ids,SV.idsL,SV.ids]at hk;simp [hk]
 refine jX (λk=>if k=3 then i else j) [3,4] [(3,wrC 4 p),(4,wrB p)] (h p hb) (aGi hij hg hg' rfl rfl ⟨hs p,trivial⟩) (λk hk=>hk) (by rw [List.map_cons,qG hx];rfl) ?_ ?_ ?_
 ·intro s hs
  rcases List.mem_cons.1 hs with rfl|hs
  ·trivial
  ·exact qE hx s hs
 ·rintro s h1 ⟨rfl,e2,e3⟩
  have hnone: ∀k∈SV.ids (SV.tup []),k∈[3,4]:=by
   intro k hk
   cases hk
  refine⟨rfl,hnone,_,aHh hij hg hg' e2 e3 ⟨hs _,trivial⟩ ⟨λh=>h,λh=>h⟩ ⟨hi _,λk hk=>by cases hk⟩ rfl rfl, ?_⟩
  rw [cF,cF]at hok
  exact hok
 ·exact λh1 h2=>h2.elim
end Go.Proofs.YtcomlapnibckmaaGreatDoor
namespace Go.Proofs.YtcomlapnibckmaaGreatDoor
open Go.Proofs Go.RowKit
set_option maxRecDepth 10000
attribute [local irreducible] aL aG Tri aD YVC cP bB
theorem gQ (n:Nat):(((UInt8.ofNat (n % 256)).toNat:Nat):Int)=((n % 256:Nat):Int):=by simp
theorem aHt (z:Int):IntKind.u8.wrap z=(((UInt8.ofNat (uN z % 256)).toNat:Nat):Int):=by
 rw [gQ]
 have e3: ∀k:Int,IntKind.u8.wrap k=k % 256:= λk=>rfl
 rw [e3]
 unfold uN
 omega
theorem oS {n:Nat}(h:n<=100000000000000):uN (n:Int)=n:=by unfold uN;omega
theorem iJ (p q:List UInt8):(p++q).map aO=p.map aO++q.map aO:=List.map_append ..
theorem aA7 (p q:List UInt8):((p++q).map aO).length=(p.map aO).length+(q.map aO).length:=by rw [iJ,List.length_append]
theorem cH (p:List UInt8):(p.map aO).length=p.length:=List.length_map ..
theorem mN (j:Nat) (p q:List UInt8):wrC j (p++q)= .cells 88 [.osl j 1 (p.map aO++q.map aO)]:=by rw [<-iJ]
theorem mO (p q:List UInt8):wrB (p++q)= .own 5 1 ((p.map aO).length+(q.map aO).length):=by rw [<-aA7]
theorem jZ (z:Int):WrT 89 [.d (.int .i64 z)] (tG z):=by
 intro p hp
 have hl:(tG z).length=1:=aQ ..
 have hml:=cH p
 have hb63:(p.map aO).length+1<=9223372036854775807:=by rw [hml];omega
 have hb48:((p.map aO).length+1)* 1<=140737488355328:=by rw [hml];omega
 refine aF false [] hty Tryz.func89 rfl (kp [0,1]) 100 (by simp [Tryz.f89]) ?_
 ((conv=>whnf);repeat ((first|(refine And.intro hb63 ?_)|(refine And.intro hb48 ?_)|(intro hq;try simp only [lnS]at hq)|refine sI ?_|refine .intro _ (.intro rfl ?_));(conv=>whnf)))
 rw [aHt]
 rw [mN,mO]
 exact⟨rfl,rfl⟩
theorem aEz (n j:Nat) (h:j < 8):(beN 8 n).take (j+1)=(beN 8 n).take j++[UInt8.ofNat (n / 2 ^ (56 - 8 * j) % 256)]:=by
 have e:j=0\/j=1\/j=2\/j=3\/j=4\/j=5\/j=6\/j=7:=by omega
 rw [aIm]
 rcases e with rfl|rfl|rfl|rfl|rfl|rfl|rfl|rfl<;>rfl
theorem aF0 (n j:Nat) (h:j < 4):(beN 4 n).take (j+1)=(beN 4 n).take j++[UInt8.ofNat (n / 2 ^ (24 - 8 * j) % 256)]:=by
 have e:j=0\/j=1\/j=2\/j=3:=by omega
 rw [aIn]
 rcases e with rfl|rfl|rfl|rfl<;>rfl
theorem aGd (z:Int) (s:Nat) (hs:s<=64):IntKind.u8.wrap ((IntKind.u64.wrap z).fdiv (2 ^ (min (s:Int).toNat IntKind.u64.bits)))=(((UInt8.ofNat (uN z / 2 ^ s % 256)).toNat:Nat):Int):=by
 rw [aEx z s hs,gQ]
theorem iQ (z:Int):WrT 88 [.d (.int .i64 z)] (beN 4 (uN z)):=by
 intro p hp
 have hl:(beN 4 (uN z)).length=4:=aQ ..
 refine aF false [] hty Tryz.func88 rfl (kp [0,1,4,6]) 100 (by simp [Tryz.f88]) ?_
 ((conv=>whnf);repeat ((first|(intro hq;try simp only [lnS]at hq)|refine sI ?_|refine .intro _ (.intro rfl ?_));(conv=>whnf)))
 refine aR hty (λj:Nat=>([(0, .ptr 3 0),(1, .d (.int .i64 z)),(4, .d (.int .i64 (24 - 8 * (j:Int))))],[(3,wrC 4 (p++(beN 4 (uN z)).take j)),(4,wrB (p++(beN 4 (uN z)).take j))])) (λj=>j<=4) (λj=>4 - j) 0 (by omega) ⟨by repeat' (first|exact trivial|exact rfl|refine And.intro ?_ ?_),by rw [List.take_zero,List.append_nil];exact⟨rfl,rfl,trivial⟩⟩ ?_
 intro j hj
 have hml:=cH (p++(beN 4 (uN z)).take j)
 rw [List.length_append,List.length_take]at hml
 have hb63:((p++(beN 4 (uN z)).take j).map aO).length+1<=9223372036854775807:=by rw [hml];omega
 have hb48:(((p++(beN 4 (uN z)).take j).map aO).length+1)* 1<=140737488355328:=by rw [hml];omega
 ((conv=>whnf);repeat ((first|(intro hq;try simp only [lnS]at hq)|refine sI ?_|refine .intro _ (.intro rfl ?_));(conv=>whnf)))
 refine aB (λh1=> ?_) (λh1=> ?_)
 ·have hj4:j < 4:=by omega
  have hs:(24 - 8 * (j:Int))=((24 - 8 * j:Nat):Int):=by omega
  have hbt:=aGd z (24 - 8 * j) (by omega)
  have hnx:=aF0 (uN z) j hj4
  dsimp only
  rw [hs]
  ((conv=>whnf);repeat ((first|(intro hq;try simp only [lnS]at hq)|refine sI ?_|refine .intro _ (.intro rfl ?_));(conv=>whnf)))
  refine qQ hty [0,1,2,3,4,5,6,7,8,9,10,11,12,13,14] (by kernel_rfl) (by kernel_rfl) ?_
  ((conv=>whnf);repeat ((first|(refine And.intro hb63 ?_)|(refine And.intro hb48 ?_)|(intro hq;try simp only [lnS]at hq)|refine sI ?_|refine .intro _ (.intro rfl ?_));(conv=>whnf)))
  rw [hbt,show ((24 - 8 * j:Nat):Int) - 8=24 - 8 * ((j+1:Nat):Int)by omega]
  refine⟨j+1,by dsimp only;omega,by dsimp only;omega, ?_⟩
  dsimp only
  rw [hnx,<-List.append_assoc,mN,mO]
  exact⟨by repeat' (first|exact trivial|exact rfl|refine And.intro ?_ ?_),by repeat' (first|exact trivial|exact rfl|refine And.intro ?_ ?_)⟩
 ·have hj4:j=4:=by omega
  subst hj4
  rw [List.take_of_length_le (by rw [hl];exact Nat.le_refl _)]
  ((conv=>whnf);repeat ((first|(intro hq;try simp only [lnS]at hq)|refine sI ?_|refine .intro _ (.intro rfl ?_));(conv=>whnf)))
  exact rfl
theorem gG (z:Int):WrT 91 [.d (.int .i64 z)] (beN 8 (uN z)):=by
 intro p hp
 have hl:(beN 8 (uN z)).length=8:=aQ ..
 refine aF false [] hty Tryz.func91 rfl (kp [0,1,4,6]) 100 (by simp [Tryz.f91]) ?_
 ((conv=>whnf);repeat ((first|(intro hq;try simp only [lnS]at hq)|refine sI ?_|refine .intro _ (.intro rfl ?_));(conv=>whnf)))
 refine aR hty (λj:Nat=>([(0, .ptr 3 0),(1, .d (.int .i64 z)),(4, .d (.int .i64 (56 - 8 * (j:Int))))],[(3,wrC 4 (p++(beN 8 (uN z)).take j)),(4,wrB (p++(beN 8 (uN z)).take j))])) (λj=>j<=8) (λj=>8 - j) 0 (by omega) ⟨by repeat' (first|exact trivial|exact rfl|refine And.intro ?_ ?_),by rw [List.take_zero,List.append_nil];exact⟨rfl,rfl,trivial⟩⟩ ?_
 intro j hj
 have hml:=cH (p++(beN 8 (uN z)).take j)
 rw [List.length_append,List.length_take]at hml
 have hb63:((p++(beN 8 (uN z)).take j).map aO).length+1<=9223372036854775807:=by rw [hml];omega
 have hb48:(((p++(beN 8 (uN z)).take j).map aO).length+1)* 1<=140737488355328:=by rw [hml];omega
 ((conv=>whnf);repeat ((first|(intro hq;try simp only [lnS]at hq)|refine sI ?_|refine .intro _ (.intro rfl ?_));(conv=>whnf)))
 refine aB (λh1=> ?_) (λh1=> ?_)
 ·have hj8:j < 8:=by omega
  have hs:(56 - 8 * (j:Int))=((56 - 8 * j:Nat):Int):=by omega
  have hbt:=aGd z (56 - 8 * j) (by omega)
  have hnx:=aEz (uN z) j hj8
  dsimp only
  rw [hs]
  ((conv=>whnf);repeat ((first|(intro hq;try simp only [lnS]at hq)|refine sI ?_|refine .intro _ (.intro rfl ?_));(conv=>whnf)))
  refine qQ hty [0,1,2,3,4,5,6,7,8,9,10,11,12,13,14] (by kernel_rfl) (by kernel_rfl) ?_
  ((conv=>whnf);repeat ((first|(refine And.intro hb63 ?_)|(refine And.intro hb48 ?_)|(intro hq;try simp only [lnS]at hq)|refine sI ?_|refine .intro _ (.intro rfl ?_));(conv=>whnf)))
  rw [hbt,show ((56 - 8 * j:Nat):Int) - 8=56 - 8 * ((j+1:Nat):Int)by omega]
  refine⟨j+1,by dsimp only;omega,by dsimp only;omega, ?_⟩
  dsimp only
  rw [hnx,<-List.append_assoc,mN,mO]
  exact⟨by repeat' (first|exact trivial|exact rfl|refine And.intro ?_ ?_),by repeat' (first|exact trivial|exact rfl|refine And.intro ?_ ?_)⟩
 ·have hj8:j=8:=by omega
  subst hj8
  rw [List.take_of_length_le (by rw [hl];exact Nat.le_refl _)]
  ((conv=>whnf);repeat ((first|(intro hq;try simp only [lnS]at hq)|refine sI ?_|refine .intro _ (.intro rfl ?_));(conv=>whnf)))
  exact rfl
theorem eK (s:List UInt8):WrT 90 [.d (.str s)] (dJ s):=by
 intro p hp
 have hl:(dJ s).length=4+s.length:=by unfold dJ;rw [List.length_append,aQ]
 have hlc:(beN 4 (uN (s.length:Int))).length=4:=aQ ..
 have hu:uN (s.length:Int)=s.length:=oS (by omega)
 refine aF false [] hty Tryz.func90 rfl (kp [0,1]) 100 (by simp [Tryz.f90]) ?_
 ((conv=>whnf);repeat ((first|(intro hq;try simp only [lnS]at hq)|refine sI ?_|refine .intro _ (.intro rfl ?_));(conv=>whnf)))
 refine WrT.call (iQ s.length) rfl p (by omega) (by decide) rfl rfl ?_
 rw [hu]
 have hml:=cH (p++beN 4 s.length)
 rw [List.length_append,aQ]at hml
 have hb63:((p++beN 4 s.length).map aO).length+(s.map aO).length<=9223372036854775807:=by rw [hml,cH];omega
 have hb48:(((p++beN 4 s.length).map aO).length+(s.map aO).length)* 1<=140737488355328:=by rw [hml,cH];omega
 ((conv=>whnf);repeat ((first|(refine And.intro hb63 ?_)|(refine And.intro hb48 ?_)|(intro hq;try simp only [lnS]at hq)|refine sI ?_|refine .intro _ (.intro rfl ?_));(conv=>whnf)))
 unfold dJ
 rw [<-List.append_assoc,mN,mO]
 exact⟨rfl,rfl⟩
theorem kA (d:Dig):WrT 104 [.d (.agg (pQ d))] (jY d):=by
 intro p hp
 obtain⟨l,hl⟩:=d
 have hlw:(jY ⟨l,hl⟩).length=32:=hl
 obtain⟨y0,y1,y2,y3,y4,y5,y6,y7,y8,y9,y10,y11,y12,y13,y14,y15,y16,y17,y18,y19,y20,y21,y22,y23,y24,y25,y26,y27,y28,y29,y30,y31,rfl⟩:=eQ hl
 have hml:=cH p
 have hb63:(p.map aO).length+32<=9223372036854775807:=by rw [hml];omega
 have hb48:((p.map aO).length+32)* 1<=140737488355328:=by rw [hml];omega
 refine aF false [3] hty Tryz.func104 rfl (kp [0,1,3]) 100 (by simp [Tryz.f104]) ?_
 ((conv=>whnf);repeat ((first|(intro hq;try simp only [lnS]at hq)|refine sI ?_|refine .intro _ (.intro rfl ?_));(conv=>whnf)))
 refine qQ hty [0,1,2,3,4,5,6,7,8,9] (by kernel_rfl) (by kernel_rfl) ?_
 ((conv=>whnf);repeat ((first|(refine And.intro hb63 ?_)|(refine And.intro hb48 ?_)|(intro hq;try simp only [lnS]at hq)|refine sI ?_|refine .intro _ (.intro rfl ?_));(conv=>whnf)))
 unfold jY
 rw [mN,mO]
 exact⟨rfl,rfl⟩
end Go.Proofs.YtcomlapnibckmaaGreatDoor
