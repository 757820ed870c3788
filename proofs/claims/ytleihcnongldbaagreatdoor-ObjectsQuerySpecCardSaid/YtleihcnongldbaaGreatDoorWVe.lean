/-
  The reference of objects: Axioms and Commit. Readers that do not stop: a flag says that something was wrong; plain. The reference of objects: its reader reads numbers, texts and digests. The reference of objects: its reader reads digests. The reference of objects: its reader reads lists of texts and of digests. What encoding a query answers, and that both readers read it again; plain. Objects: how long what is written is, and that changed bytes are refused; plain. The reference's readers of concepts, axioms, queries and alignments, which do not stop; plain. The reference of objects: lists of digests and alignments in bytes.
  Conditions: none.
-/
import Derived.Test.YtleihcnongldbaaGreatDoorWPi
import Derived.Test.YtleihcnongldbaaGreatDoorWOy
import Derived.Test.YtleihcnongldbaaGreatDoorWSna
import Derived.Test.YtleihcnongldbaaGreatDoorWOn
import Derived.Test.YtleihcnongldbaaGreatDoorWSyc
import Derived.Test.YtleihcnongldbaaGreatDoorWSyi
import Derived.Test.YtleihcnongldbaaGreatDoorWA8
set_option linter.unnecessarySimpa false
set_option linter.unusedSectionVars false
set_option linter.unusedSimpArgs false
set_option linter.unusedVariables false
set_option maxHeartbeats 32000000
namespace Go.Proofs.YtleihcnongldbaaGreatDoor
open Go.Proofs Go.RowKit
set_option maxRecDepth 10000
attribute [local irreducible] aN aJ Tri aI YVC cP bE vH
end Go.Proofs.YtleihcnongldbaaGreatDoor
namespace Go.Proofs.YtleihcnongldbaaGreatDoor
open Go.Proofs
abbrev RS:=List UInt8×Bool
abbrev Tr (α:Type):=RS->α×RS
section
variable {α β:Type}
def aUb (a:α):Tr α:= λs=>(a,s)
def mR (t:Tr α) (f:α->β):Tr β:= λs=>(f (t s).1,(t s).2)
def bP (t:Tr α) (f:α->Tr β):Tr β:= λs=>f (t s).1 (t s).2
def dS (n:Nat):Tr (List UInt8):= λs=>if s.2=true\/s.1.length < n then ([],(s.1,true))else (s.1.take n,(s.1.drop n,false))
def fS (k:Nat):Tr Nat:=mR (dS k) deN
def cK (least:Nat):Tr Nat:= λs=>if (fS 4 s).2.2=true\/(fS 4 s).2.1.length / least < (fS 4 s).1 then (0,((fS 4 s).2.1,true))else fS 4 s
def jI (t:Tr α):Nat->Tr (List α)
 | 0=>aUb []
 |n+1=> λs=>if s.2=true then ([],s)else ((t s).1::(jI t n (t s).2).1,(jI t n (t s).2).2)
theorem nF (t:Tr α) (n:Nat) (s:RS):jI t (n+1) s=if s.2=true then ([],s)else ((t s).1::(jI t n (t s).2).1,(jI t n (t s).2).2):=rfl
def cN (least:Nat) (t:Tr α):Tr (List α):=bP (cK least) (jI t)
structure Sim (t:Tr α) (r:Rd α):Prop where
 bad: ∀b,(t (b,true)).2.2=true
 ok: ∀b x c,r b=some (x,c)->t (b,false)=(x,(c,false))
 no: ∀b,r b=none->(t (b,false)).2.2=true
theorem Sim.map {t:Tr α}{r:Rd α}(h:Sim t r) (f:α->β):Sim (mR t f) (qH r f):=by
 refine⟨λb=>h.bad b,λb x c e=> ?_,λb e=> ?_⟩
 ·obtain⟨y,h1,rfl⟩:=oS e
  unfold mR;rw [h.ok b y c h1]
 ·refine h.no b ?_
  unfold qH at e
  exact Option.map_eq_none_iff.1 e
theorem Sim.bind {t:Tr α}{r:Rd α}{f:α->Tr β}{g:α->Rd β}(h:Sim t r) (k: ∀x,Sim (f x) (g x)):Sim (bP t f) (bZ r g):=by
 have kb: ∀x (s:RS),s.2=true->(f x s).2.2=true:=by
  rintro x ⟨b,d⟩ hs
  have hs:d=true:=hs
  subst hs
  exact(k x).bad b
 refine⟨λb=>kb _ _ (h.bad b),λb x c e=> ?_,λb e=> ?_⟩
 ·obtain⟨y,d,h1,h2⟩:=dJ e
  unfold bP;rw [h.ok b y d h1]
  exact(k y).ok d x c h2
 ·cases h1:r b with
  |none=>exact kb _ _ (h.no b h1)
  |some p=>
   obtain⟨y,d⟩:=p
   rw [aK h1]at e
   unfold bP;rw [h.ok b y d h1]
   exact(k y).no d e
theorem aB7 (n:Nat):Sim (dS n) (iT n):=by
 refine⟨λb=> ?_,λb x c e=> ?_,λb e=> ?_⟩
 ·unfold dS;rw [if_pos (.inl rfl)]
 ·unfold iT at e
  split at e
  ·injection e with e;injection e with e1 e2
   unfold dS;rw [if_neg (by simp;omega),e1,e2]
  ·cases e
 ·unfold iT at e
  split at e
  ·cases e
  ·unfold dS;rw [if_pos (.inr (by simp;omega))]
theorem aB8 (k:Nat):Sim (fS k) (aCu k):=(aB7 k).map deN
theorem aMj (least:Nat):Sim (cK least) (aHe least):=by
 have h:=aB8 4
 refine⟨λb=> ?_,λb x c e=> ?_,λb e=> ?_⟩
 ·unfold cK;rw [if_pos (.inl (h.bad b))]
 ·unfold aHe at e
  obtain⟨p,h1,h2⟩:=Option.bind_eq_some_iff.1 e
  split at h2
  ·cases h2
  ·rename_i h3
   injection h2 with h2
   subst h2
   unfold cK
   have h3:¬ c.length / least < x:=by simpa using h3
   rw [h.ok b x c h1,if_neg (by simpa using h3)]
 ·unfold aHe at e
  cases h1:aCu 4 b with
  |none=>unfold cK;rw [if_pos (.inl (h.no b h1))]
  |some p=>
   obtain⟨x,c⟩:=p
   rw [h1]at e
   simp only [Option.bind_some]at e
   split at e
   ·rename_i h3
    unfold cK;rw [h.ok b x c h1,if_pos (.inr h3)]
   ·cases e
theorem jZ (t:Tr α) (n:Nat) {s:RS}(h:s.2=true):jI t n s=([],s):=by
 cases n with
 |zero=>rfl
 |succ n=>rw [nF,if_pos h]
theorem aJj {t:Tr α}{r:Rd α}(h:Sim t r): ∀n,Sim (jI t n) (oZ r n)
 | 0=>⟨λb=>rfl,λb x c e=>by injection e with e;injection e with e1 e2;subst e1 e2;rfl,λb e=>by cases e⟩
 |n+1=>by
  have ih:=aJj h n
  have k:=Sim.bind h (λx=>ih.map (x:: ·))
  refine⟨λb=>by rw [jZ t (n+1) rfl],λb x c e=> ?_,λb e=> ?_⟩
  ·have:=k.ok b x c e
   rw [<-this]
   rfl
  ·have:=k.no b e
   exact this
theorem gH {t:Tr α}{r:Rd α}(h:Sim t r) (least:Nat):Sim (cN least t) (nN least r):=(aMj least).bind λn=>aJj h n
theorem iA (t:Tr α): ∀(n:Nat) (s:RS) (l:List α) (s1:RS),jI t n s=(l,s1)->l.length=n->s1.2=false->jI t (n+1) s=(l++[(t s1).1],(t s1).2)
 | 0,s,l,s1,h,_,hb=>by
  injection h with h1 h2
  subst h1 h2
  rw [nF,if_neg (by rw [hb];simp)];rfl
 |n+1,s,l,s1,h,hl,hb=>by
  rw [nF]at h
  split at h
  ·injection h with h1 h2;subst h1;simp at hl
  ·rename_i h0
   injection h with h1 h2
   cases l with
   |nil=>cases h1
   |cons x l=>
    injection h1 with h1 h3
    have:=iA t n (t s).2 l s1 (by rw [<-h3,<-h2]) (by simpa using hl) hb
    rw [nF,if_neg h0,this,<-h1];rfl
theorem hZ (t:Tr α): ∀(k n:Nat) (s:RS) (l:List α) (s1:RS),jI t k s=(l,s1)->s1.2=true->k<=n->jI t n s=(l,s1)
 | 0,n,s,l,s1,h,hb,_=>by
  injection h with h1 h2
  subst h1 h2
  exact jZ t n hb
 |k+1,0,s,l,s1,h,hb,hk=>absurd hk (by omega)
 |k+1,n+1,s,l,s1,h,hb,hk=>by
  rw [nF]at h |-
  split at h
  ·rename_i h0;rw [if_pos h0];exact h
  ·rename_i h0
   injection h with h1 h2
   rw [if_neg h0]
   have:=hZ t k n (t s).2 (jI t k (t s).2).1 s1 (by rw [<-h2]) hb (by omega)
   rw [this,<-h1]
def vI (t:Tr α):Prop:= ∀s,(t s).2.1.length<=s.1.length
theorem oD (n:Nat):vI (dS n):=by
 intro s
 unfold dS
 split
 ·exact Nat.le_refl _
 ·show (s.1.drop n).length<=_
  rw [List.length_drop];omega
theorem jC {t:Tr α}(h:vI t) (f:α->β):vI (mR t f):=h
theorem cI {t:Tr α}{f:α->Tr β}(h:vI t) (k: ∀x,vI (f x)):vI (bP t f):= λs=>Nat.le_trans (k _ _) (h s)
theorem eP (least:Nat):vI (cK least):=by
 intro s
 have h:vI (fS 4):=jC (oD 4) deN
 unfold cK
 split
 ·exact h s
 ·exact h s
theorem aBv {t:Tr α}(h:vI t): ∀n,vI (jI t n)
 | 0=> λs=>Nat.le_refl _
 |n+1=> λs=>by
  rw [nF]
  split
  ·exact Nat.le_refl _
  ·exact Nat.le_trans (aBv h n _) (h s)
theorem wU (n:Nat) (s:RS):(dS n s).1.length<=n:=by
 unfold dS
 split
 ·simp
 ·show (s.1.take n).length<=n
  rw [List.length_take];omega
theorem lU {least:Nat}(s:RS) (h:0 < least):(cK least s).1<=s.1.length:=by
 have hl:(fS 4 s).2.1.length<=s.1.length:=jC (oD 4) deN s
 unfold cK
 split
 ·simp
 ·rename_i h1
  have h2:¬ (fS 4 s).2.1.length / least < (fS 4 s).1:= λe=>h1 (.inr e)
  have h3:(fS 4 s).2.1.length / least<=(fS 4 s).2.1.length:=Nat.div_le_self _ _
  omega
end
theorem aVk {α:Type}{t:Tr α}{r:Rd α}(h:Sim t r) (wr:α->List UInt8×Int) (zero:α) (bad:Int) (b:List UInt8):
  eM r wr zero bad b=if (t (b,false)).2.2=true\/(t (b,false)).2.1≠[]\/wr (t (b,false)).1≠(b,0)then (zero,bad)else ((t (b,false)).1,0):=by
 cases h1:r b with
 |none=>
  rw [if_pos (.inl (h.no b h1))]
  unfold eM;rw [h1]
 |some p=>
  obtain⟨x,c⟩:=p
  rw [h.ok b x c h1]
  unfold eM;rw [h1]
  cases c with
  |nil=>
   by_cases hw:wr x=(b,0)
   ·simp [hw]
   ·simp [hw]
  |cons y c=>simp
end Go.Proofs.YtleihcnongldbaaGreatDoor
namespace Go.Proofs.YtleihcnongldbaaGreatDoor
open Go.Proofs Go.RowKit
set_option maxRecDepth 10000
attribute [local irreducible] aN aJ Tri aI YVC cP bE
abbrev rfO (s:RS):HObj:= .cells 86 [.d (.sl 1 (s.1.map aM)), .d (.bool s.2)]
abbrev aW3:Pin:=⟨[3],λ_ _=>False,[]⟩
def RfT {α:Type}(f:FuncId) (ex:List SV) (t:Tr α) (e:α->SV):Prop:= ∀s:RS,s.1.length<=1000000->
 aJ Tryz.prog aW3 [] [(3,rfO s)] f (.ptr 3 0::ex) (λr h=>r=e (t s).1/\aT h 3=some (rfO (t s).2))
theorem RfT.call {α:Type}{f:FuncId}{ex:List SV}{t:Tr α}{e:α->SV}(h:RfT f ex t e) (hx:SV.idsL ex=[]) (he: ∀x,(e x).ids=[]) {pin:Pin}{fr:Fr}{hp:Hp}{i:Nat}{K:SV->Hp->Prop}(s:RS) (hb:s.1.length<=1000000) (hg:aT hp i=some (rfO s))
  (hok:fQ hp i (rfO (t s).2) (K (e (t s).1))):aJ Tryz.prog pin fr hp f (.ptr i 0::ex) K:=by
 have hs: ∀b,(rfO b).sim:= λb s hs=>by
  simp at hs
  rcases hs with rfl|rfl<;>exact rfl
 refine rI (λ_=>i) [3] [(3,rfO s)] (h s hb) (aP4 hg rfl (hs s)) (λk hk=>hk) (by rw [List.map_cons,aBf hx];rfl) ?_ ?_ ?_
 ·intro s hs
  rcases List.mem_cons.1 hs with rfl|hs
  ·trivial
  ·exact aBa hx s hs
 ·rintro r h1 ⟨rfl,e3⟩
  refine⟨aJk (he _), ?_,_,aQu hg e3 (hs _) (λh=>h) rfl rfl, ?_⟩
  ·intro j hj
   rw [he]at hj
   cases hj
  ·rw [aJq (he _)]
   rw [dQ]at hok
   exact hok
 ·exact λh1 h2=>h2.elim
theorem aFm {n:Nat}{s:RS}(h:s.2=true\/s.1.length < n):dS n s=([],(s.1,true)):=if_pos h
theorem aMf {n:Nat}{b:List UInt8}(h:¬ b.length < n):dS n (b,false)=(b.take n,(b.drop n,false)):=if_neg (by simp;omega)
theorem aQx (n:Nat) (hn:n < 18446744073709551616):RfT 83 [.d (.int .u64 n)] (dS n) (λl=> .d (.sl 1 (l.map aM))):=by
 rintro⟨b,d⟩ hb
 have hbl:=bO b
 have hw:IntKind.u64.wrap ((b.length:Nat):Int)=((b.length:Nat):Int):=jW _ (by dsimp only at hb;omega)
 dsimp only at hb
 refine aJ.says ?_
 refine aG false [] hty Tryz.func83 rfl (kp [0,1,4,5,19]) 100 (by simp [Tryz.f83]) ?_
 cases d
 ·by_cases h:b.length < n
  ·rw [aFm (.inr h)]
   ((conv=>whnf);repeat ((first|(intro hq;try simp only [lnS]at hq)|refine sI ?_|refine .intro _ (.intro rfl ?_));(conv=>whnf)))
   rw [hbl,hw]
   ((conv=>whnf);repeat' ((first|(intro hq;(try simp only [lnS]at hq);(try rewrite [List.length_map]))|refine sJ ?_|refine .intro _ (.intro rfl ?_)|refine exL (k:= ?_)|refine dwR ?_|((first|refine aB ?_ ?_|refine aC ?_ ?_)<;>intro hb<;>(first|exact ddX hb|try simp only [lnS]at hb))|(refine aA ?_ ?_<;>intro hb<;>try exact dsX hb))<;>(conv=>whnf)))
   exact⟨_,dA.nil,rfl,rfl⟩
  ·rw [aMf h]
   have e1:List.drop 0 (List.take ((n:Nat):Int).toNat (b.map aM))=(b.take n).map aM:=by rw [Int.toNat_natCast,List.drop_zero,List.map_take]
   have e2:List.drop ((n:Nat):Int).toNat (List.take (b.map aM).length (b.map aM))=(b.drop n).map aM:=by rw [Int.toNat_natCast,List.take_length,List.map_drop]
   ((conv=>whnf);repeat ((first|(intro hq;try simp only [lnS]at hq)|refine sI ?_|refine .intro _ (.intro rfl ?_));(conv=>whnf)))
   rw [hbl,hw]
   ((conv=>whnf);repeat' ((first|(intro hq;(try simp only [lnS]at hq);(try rewrite [List.length_map]))|refine sJ ?_|refine .intro _ (.intro rfl ?_)|refine exL (k:= ?_)|refine dwR ?_|((first|refine aB ?_ ?_|refine aC ?_ ?_)<;>intro hb<;>(first|exact ddX hb|try simp only [lnS]at hb))|(refine aA ?_ ?_<;>intro hb<;>try exact dsX hb))<;>(conv=>whnf)))
   refine⟨_, .refl _, ?_, ?_⟩
   ·show SV.d (D.sl 1 (List.drop 0 (List.take ((n:Nat):Int).toNat (b.map aM))))=_
    rw [e1]
   ·show some (HObj.cells 86 [.d (.sl 1 (List.drop ((n:Nat):Int).toNat (List.take (b.map aM).length (b.map aM)))), .d (.bool false)])=_
    rw [e2]
 ·rw [aFm (.inl rfl)]
  ((conv=>whnf);repeat' ((first|(intro hq;(try simp only [lnS]at hq);(try rewrite [List.length_map]))|refine sJ ?_|refine .intro _ (.intro rfl ?_)|refine exL (k:= ?_)|refine dwR ?_|((first|refine aB ?_ ?_|refine aC ?_ ?_)<;>intro hb<;>(first|exact ddX hb|try simp only [lnS]at hb))|(refine aA ?_ ?_<;>intro hb<;>try exact dsX hb))<;>(conv=>whnf)))
  exact⟨_,dA.nil,rfl,rfl⟩
theorem aSq {x c:Nat}(hx:x < 72057594037927936) (hc:c < 256):IntKind.u64.wrap (IntKind.u64.wrap (256 * (x:Int))+IntKind.u64.wrap (c:Int))=((256 * x+c:Nat):Int):=by
 rw [show (256 * (x:Int))=((256 * x:Nat):Int)by omega,jW _ (by omega),jW _ (by omega),<-Int.natCast_add,jW _ (by omega)]
theorem aTy (m:Nat) (hm:m<=8):RfT 39 [.d (.int .i64 m)] (fS m) (λn=> .d (.int .u64 n)):=by
 intro s hb
 have hw:IntKind.u64.wrap ((m:Nat):Int)=((m:Nat):Int):=jW _ (by omega)
 have hl8:=wU m s
 have hE:fS m s=(deN (dS m s).1,(dS m s).2):=rfl
 rw [hE]
 clear hE
 have hT:RfT 83 [.d (.int .u64 (IntKind.u64.wrap ((m:Nat):Int)))] (dS m) (λl=> .d (.sl 1 (l.map aM))):=by rw [hw];exact aQx m (by omega)
 refine aG false [] hty Tryz.func39 rfl (kp [0,1,4,5,6,7,15]) 100 (by simp [Tryz.f39]) ?_
 ((conv=>whnf);repeat ((first|(intro hq;try simp only [lnS]at hq)|refine sI ?_|refine .intro _ (.intro rfl ?_));(conv=>whnf)))
 refine RfT.call hT rfl (λ_=>rfl) s hb rfl ?_
 generalize (dS m s).1=l at *
 generalize (dS m s).2=s1 at *
 have hlr:=bO l
 ((conv=>whnf);repeat ((first|(intro hq;try simp only [lnS]at hq)|refine sI ?_|refine .intro _ (.intro rfl ?_));(conv=>whnf)))
 refine aH hty (λj:Nat=>([(5, .d (.sl 1 (l.map aM))),(6, .d (.int .u64 ((deN (l.take j):Nat):Int))),(7, .d (.int .i64 j))],[(3,rfO s1)])) (λj=>j<=l.length) (λj=>l.length - j) 0 (by omega) ⟨by repeat' (first|exact trivial|exact rfl|refine And.intro ?_ ?_),by repeat' (first|exact trivial|exact rfl|refine And.intro ?_ ?_)⟩ ?_
 intro j hj
 ((conv=>whnf);repeat ((first|(intro hq;try simp only [lnS]at hq)|refine sI ?_|refine .intro _ (.intro rfl ?_));(conv=>whnf)))
 rw [hlr]
 refine aB (λh1=> ?_) (λh1=> ?_)
 ·have hjl:j < l.length:=by omega
  have hrow:(l.map aM)[((j:Nat):Int).toNat]? =some (aM l[j]):=aS hjl
  have hx:deN (l.take j) < 72057594037927936:=by
   have h2:=tD j (l.take j) (by rw [List.length_take];omega)
   have h3:256 ^ j<=256 ^ 7:=Nat.pow_le_pow_right (by decide) (by omega)
   have h4:(256:Nat) ^ 7=72057594037927936:=by decide
   omega
  have hc:(l[j]).toNat < 256:=l[j].toNat_lt
  have hn:deN (l.take (j+1))=256 * deN (l.take j)+(l[j]).toNat:=by rw [List.take_succ_eq_append_getElem hjl,wD]
  have hma:=aSq hx hc
  generalize l[j]=c at *
  generalize deN (l.take j)=x at *
  ((conv=>whnf);repeat' ((first|(intro hq;(try simp only [lnS]at hq);(try rewrite [List.length_map]))|refine sJ ?_|refine .intro _ (.intro rfl ?_)|refine exL (k:= ?_)|(refine⟨_,hrow, ?_⟩)|refine dwR ?_|((first|refine aB ?_ ?_|refine aC ?_ ?_)<;>intro hb<;>(first|exact ddX hb|try simp only [lnS]at hb))|(refine aA ?_ ?_<;>intro hb<;>try exact dsX hb))<;>(conv=>whnf)))
  rw [hma]
  refine⟨j+1,by dsimp only;omega,by dsimp only;omega, ?_⟩
  dsimp only
  rw [hn]
  exact⟨by repeat' (first|exact trivial|exact rfl|refine And.intro ?_ ?_),by repeat' (first|exact trivial|exact rfl|refine And.intro ?_ ?_)⟩
 ·have hjl:j=l.length:=by omega
  subst hjl
  rw [List.take_length]
  ((conv=>whnf);repeat ((first|(intro hq;try simp only [lnS]at hq)|refine sI ?_|refine .intro _ (.intro rfl ?_));(conv=>whnf)))
  exact rfl
theorem aT7 {m:Nat}: ∀{l:List UInt8},l.length<=m->deN l < 256 ^ m:= λ{l} h=>Nat.lt_of_lt_of_le (tD l.length l rfl) (Nat.pow_le_pow_right (by decide) h)
theorem aB2 (m:Nat) (s:RS):(fS m s).1 < 256 ^ m:=aT7 (wU m s)
def fP:Tr Int:=mR (fS 8) sgN
def dO:Tr (List UInt8):=bP (fS 4) dS
theorem wX:Sim fP aEp:=(aB8 8).map sgN
theorem jJ:Sim dO uL:=(aB8 4).bind λn=>aB7 n
theorem gF (k:Nat):vI (fS k):=jC (oD k) deN
theorem fM:vI fP:=jC (gF 8) sgN
theorem cF:vI dO:=cI (gF 4) λn=>oD n
theorem rF:RfT 41 [] fP (λz=> .d (.int .i64 z)):=by
 intro s hb
 have hlt:=aB2 8 s
 have hE:fP s=(sgN (fS 8 s).1,(fS 8 s).2):=rfl
 rw [hE,<-aRs _ hlt]
 refine aG false [] hty Tryz.func41 rfl (kp [0,2]) 100 (by simp [Tryz.f41]) ?_
 ((conv=>whnf);repeat ((first|(intro hq;try simp only [lnS]at hq)|refine sI ?_|refine .intro _ (.intro rfl ?_));(conv=>whnf)))
 refine RfT.call (aTy 8 (by decide)) rfl (λ_=>rfl) s hb rfl ?_
 ((conv=>whnf);repeat ((first|(intro hq;try simp only [lnS]at hq)|refine sI ?_|refine .intro _ (.intro rfl ?_));(conv=>whnf)))
 exact rfl
theorem tX:RfT 40 [] dO (λs=> .d (.str s)):=by
 intro s hb
 have hlt:=aB2 4 s
 have hle:=gF 4 s
 have hE:dO s=dS (fS 4 s).1 (fS 4 s).2:=rfl
 rw [hE]
 refine aJ.mono (K:= λr h=>r= .d (.str (unb ((dS (fS 4 s).1 (fS 4 s).2).1.map aM)))/\aT h 3=some (rfO (dS (fS 4 s).1 (fS 4 s).2).2)) (λr h ⟨h1,h2⟩=>⟨by rw [h1,fX],h2⟩) ?_
 refine aG false [] hty Tryz.func40 rfl (kp [0,2]) 100 (by simp [Tryz.f40]) ?_
 ((conv=>whnf);repeat ((first|(intro hq;try simp only [lnS]at hq)|refine sI ?_|refine .intro _ (.intro rfl ?_));(conv=>whnf)))
 refine RfT.call (aTy 4 (by decide)) rfl (λ_=>rfl) s hb rfl ?_
 generalize (fS 4 s).1=n at *
 generalize (fS 4 s).2=s1 at *
 ((conv=>whnf);repeat ((first|(intro hq;try simp only [lnS]at hq)|refine sI ?_|refine .intro _ (.intro rfl ?_));(conv=>whnf)))
 refine RfT.call (aQx n (by omega)) rfl (λ_=>rfl) s1 (by omega) rfl ?_
 ((conv=>whnf);repeat ((first|(intro hq;try simp only [lnS]at hq)|refine sI ?_|refine .intro _ (.intro rfl ?_));(conv=>whnf)))
 exact rfl
theorem aF4 (least:Nat) (h0:0 < least) (h1:least<=1000):RfT 38 [.d (.int .i64 least)] (cK least) (λn=> .d (.int .i64 n)):=by
 intro s hb
 have hlt:=aB2 4 s
 have hle:=gF 4 s
 have hE:cK least s=if (fS 4 s).2.2=true\/(fS 4 s).2.1.length / least < (fS 4 s).1 then (0,((fS 4 s).2.1,true))else fS 4 s:=rfl
 rw [hE]
 refine aG false [] hty Tryz.func38 rfl (kp [0,1,4,5,23]) 100 (by simp [Tryz.f38]) ?_
 ((conv=>whnf);repeat ((first|(intro hq;try simp only [lnS]at hq)|refine sI ?_|refine .intro _ (.intro rfl ?_));(conv=>whnf)))
 refine RfT.call (aTy 4 (by decide)) rfl (λ_=>rfl) s hb rfl ?_
 generalize fS 4 s=q at *
 obtain⟨n,b,d⟩:=q
 dsimp only at hlt hle |-
 have hbl:=bO b
 have hw1:IntKind.i64.wrap ((n:Nat):Int)=((n:Nat):Int):=IntWalk.i64_in _ (by omega)
 have hdl:b.length / least<=b.length:=Nat.div_le_self _ _
 have hqq:(((b.length:Nat):Int).tdiv ((least:Nat):Int))=((b.length / least:Nat):Int):=by
  rw [Int.tdiv_eq_ediv_of_nonneg (Int.natCast_nonneg _),Int.natCast_ediv]
 have hqr: -9223372036854775808<=(((b.map aM).length:Nat):Int).tdiv ((least:Nat):Int)/\(((b.map aM).length:Nat):Int).tdiv ((least:Nat):Int)<=9223372036854775807:=by
  rw [hbl,hqq]
  clear hqq
  generalize b.length / least=k at *
  omega
 have hw2:IntKind.u64.wrap ((b.length / least:Nat):Int)=((b.length / least:Nat):Int):=jW _ (Nat.lt_of_le_of_lt hdl (by omega))
 cases d
 ·by_cases h:b.length / least < n
  ·rw [if_pos (.inr h)]
   ((conv=>whnf);repeat ((first|(refine And.intro hqr ?_)|(intro hq;try simp only [lnS]at hq)|refine sI ?_|refine .intro _ (.intro rfl ?_));(conv=>whnf)))
   rw [hbl,hqq,hw2]
   ((conv=>whnf);repeat' ((first|(intro hq;(try simp only [lnS]at hq);(try rewrite [List.length_map]))|refine sJ ?_|refine .intro _ (.intro rfl ?_)|refine exL (k:= ?_)|refine dwR ?_|((first|refine aB ?_ ?_|refine aC ?_ ?_)<;>intro hb<;>(first|exact ddX hb|try simp only [lnS]at hb))|(refine aA ?_ ?_<;>intro hb<;>try exact dsX hb))<;>(conv=>whnf)))
   exact rfl
  ·rw [if_neg (by simpa using h)]
   ((conv=>whnf);repeat ((first|(refine And.intro hqr ?_)|(intro hq;try simp only [lnS]at hq)|refine sI ?_|refine .intro _ (.intro rfl ?_));(conv=>whnf)))
   rw [hbl,hqq,hw2]
   ((conv=>whnf);repeat' ((first|(intro hq;(try simp only [lnS]at hq);(try rewrite [List.length_map]))|refine sJ ?_|refine .intro _ (.intro rfl ?_)|refine exL (k:= ?_)|refine dwR ?_|((first|refine aB ?_ ?_|refine aC ?_ ?_)<;>intro hb<;>(first|exact ddX hb|try simp only [lnS]at hb))|(refine aA ?_ ?_<;>intro hb<;>try exact dsX hb))<;>(conv=>whnf)))
   rw [hw1]
   exact⟨rfl,rfl⟩
 ·rw [if_pos (.inl rfl)]
  ((conv=>whnf);repeat' ((first|(intro hq;(try simp only [lnS]at hq);(try rewrite [List.length_map]))|refine sJ ?_|refine .intro _ (.intro rfl ?_)|refine exL (k:= ?_)|refine dwR ?_|((first|refine aB ?_ ?_|refine aC ?_ ?_)<;>intro hb<;>(first|exact ddX hb|try simp only [lnS]at hb))|(refine aA ?_ ?_<;>intro hb<;>try exact dsX hb))<;>(conv=>whnf)))
  exact rfl
def oY:Tr Dig:= λs=>if h:(dS 32 s).1.length=32 then (⟨(dS 32 s).1,h⟩,(dS 32 s).2)else (⟨List.replicate 32 0,rfl⟩,(dS 32 s).2)
theorem vS:vI oY:= λs=>by
 have:=oD 32 s
 unfold oY
 split<;>exact this
theorem aB9:Sim oY vD:=by
 have h:=aB7 32
 refine⟨λb=> ?_,λb x c e=> ?_,λb e=> ?_⟩
 ·have:=h.bad b
  unfold oY
  split<;>exact this
 ·unfold vD at e
  split at e
  ·rename_i h1
   injection e with e;injection e with e1 e2
   have h2:=h.ok b (b.take 32) (b.drop 32) (if_pos h1)
   have h3:(dS 32 (b,false)).1.length=32:=by rw [h2];show (b.take 32).length=32;rw [List.length_take];omega
   unfold oY
   rw [dif_pos h3,<-e1,<-e2]
   simp only [h2]
  ·cases e
 ·have h1:iT 32 b=none:=by
   unfold vD at e
   split at e
   ·cases e
   ·rename_i h1;exact if_neg h1
  have:=h.no b h1
  unfold oY
  split<;>exact this
end Go.Proofs.YtleihcnongldbaaGreatDoor
namespace Go.Proofs.YtleihcnongldbaaGreatDoor
open Go.Proofs Go.RowKit
set_option maxRecDepth 10000
attribute [local irreducible] aN aJ Tri aI YVC cP bE
def u8D (c:UInt8):SV:= .d (.int .u8 c.toNat)
def xH (j:Nat) (l:List UInt8):List SV:=(l.take j).map u8D++List.replicate (32 - j) (.d (.int .u8 0))
theorem aJz (j:Nat) (l:List UInt8) (hl:l.length=32) (hj:j<=32):(xH j l).length=32:=by unfold xH;rw [List.length_append,List.length_map,List.length_take,List.length_replicate];omega
theorem aJy (j:Nat) (l:List UInt8) (hl:l.length=32) (hj:j < l.length):(xH j l).set j (u8D l[j])=xH (j+1) l:=by
 have e:32 - j=(32 - (j+1))+1:=by omega
 unfold xH
 rw [e,List.replicate_succ,List.set_append_right _ _ (by rw [List.length_map,List.length_take];omega),List.length_map,List.length_take,Nat.min_eq_left (by omega),Nat.sub_self,List.take_succ_eq_append_getElem hj,List.map_append,List.append_assoc]
 rfl
theorem aK0 (l:List UInt8) (hl:l.length=32):xH 32 l=l.map u8D:=by unfold xH;rw [List.take_of_length_le (by omega)];simp
theorem aF5:RfT 50 [] oY (λd=> .d (.agg (gP d))):=by
 intro s hb
 have hlt:=wU 32 s
 have hc:(dS 32 s).1=[]\/(dS 32 s).1.length=32:=by
  unfold dS
  split
  ·exact .inl rfl
  ·rename_i h
   right
   show (s.1.take 32).length=32
   rw [List.length_take]
   have:¬ s.1.length < 32:= λe=>h (.inr e)
   omega
 have hE:oY s=if h:(dS 32 s).1.length=32 then (⟨(dS 32 s).1,h⟩,(dS 32 s).2)else (⟨List.replicate 32 0,rfl⟩,(dS 32 s).2):=rfl
 rw [hE]
 clear hE
 refine aG false [] hty Tryz.func50 rfl (kp [0,2,3,4,5,12]) 100 (by simp [Tryz.f50]) ?_
 ((conv=>whnf);repeat ((first|(intro hq;try simp only [lnS]at hq)|refine sI ?_|refine .intro _ (.intro rfl ?_));(conv=>whnf)))
 refine RfT.call (aQx 32 (by decide)) rfl (λ_=>rfl) s hb rfl ?_
 generalize dS 32 s=q at *
 obtain⟨l,s1⟩:=q
 dsimp only at hc hlt |-
 rcases hc with rfl|hl
 ·rw [dif_neg (by decide)]
  ((conv=>whnf);repeat ((first|(intro hq;try simp only [lnS]at hq)|refine sI ?_|refine .intro _ (.intro rfl ?_));(conv=>whnf)))
  refine aH hty (λj:Nat=>([(2, .ptr 102 0),(3, .ptr 103 0),(4, .d (.sl 1 [])),(5, .d (.int .i64 j))],[(3,rfO s1),(102, .cells 38 ((List.replicate 32 (D.int .u8 0)).map .d)),(103, .cells 38 ((List.replicate 32 (D.int .u8 0)).map .d))])) (λj=>j=0) (λj=>0 - j) 0 rfl ⟨by repeat' (first|exact trivial|exact rfl|refine And.intro ?_ ?_),by repeat' (first|exact trivial|exact rfl|refine And.intro ?_ ?_)⟩ ?_
  rintro j rfl
  ((conv=>whnf);repeat' ((first|(intro hq;(try simp only [lnS]at hq);(try rewrite [List.length_map]))|refine sJ ?_|refine .intro _ (.intro rfl ?_)|refine exL (k:= ?_)|refine dwR ?_|((first|refine aB ?_ ?_|refine aC ?_ ?_)<;>intro hb<;>(first|exact ddX hb|try simp only [lnS]at hb))|(refine aA ?_ ?_<;>intro hb<;>try exact dsX hb))<;>(conv=>whnf)))
  exact rfl
 ·rw [dif_pos hl]
  have hlr:=bO l
  ((conv=>whnf);repeat ((first|(intro hq;try simp only [lnS]at hq)|refine sI ?_|refine .intro _ (.intro rfl ?_));(conv=>whnf)))
  refine aH hty (λj:Nat=>([(2, .ptr 102 0),(3, .ptr 103 0),(4, .d (.sl 1 (l.map aM))),(5, .d (.int .i64 j))],[(3,rfO s1),(102, .cells 38 ((List.replicate 32 (D.int .u8 0)).map .d)),(103, .cells 38 (xH j l))])) (λj=>j<=32) (λj=>32 - j) 0 (by omega) ⟨by repeat' (first|exact trivial|exact rfl|refine And.intro ?_ ?_),by repeat' (first|exact trivial|exact rfl|refine And.intro ?_ ?_)⟩ ?_
  intro j hj
  have hlen:=aJz j l hl hj
  ((conv=>whnf);repeat ((first|(intro hq;try simp only [lnS]at hq)|refine sI ?_|refine .intro _ (.intro rfl ?_));(conv=>whnf)))
  rw [hlr,hl]
  refine aB (λh1=> ?_) (λh1=> ?_)
  ·have hjl:j < l.length:=by omega
   have hrow:(l.map aM)[((j:Nat):Int).toNat]? =some (aM l[j]):=aS hjl
   have hoff:0+((j:Nat):Int).toNat * 1 < (xH j l).length:=by rw [hlen,Int.toNat_natCast];omega
   have hset:=aJy j l hl hjl
   generalize l[j]=c at *
   ((conv=>whnf);repeat ((first|(refine⟨_,hrow, ?_⟩)|(refine And.intro hoff ?_)|(intro hq;try simp only [lnS]at hq)|refine sI ?_|refine .intro _ (.intro rfl ?_));(conv=>whnf)))
   have hset2:(xH j l).set (0+((j:Nat):Int).toNat * 1) (u8D c)=xH (j+1) l:=by
    rw [show 0+((j:Nat):Int).toNat * 1=j by simp];exact hset
   refine⟨j+1,by dsimp only;omega,by dsimp only;omega, ?_⟩
   dsimp only
   rw [<-hset2]
   exact⟨by repeat' (first|exact trivial|exact rfl|refine And.intro ?_ ?_),by repeat' (first|exact trivial|exact rfl|refine And.intro ?_ ?_)⟩
  ·have hjl:j=32:=by omega
   subst hjl
   rw [aK0 l hl]
   obtain⟨y0,y1,y2,y3,y4,y5,y6,y7,y8,y9,y10,y11,y12,y13,y14,y15,y16,y17,y18,y19,y20,y21,y22,y23,y24,y25,y26,y27,y28,y29,y30,y31,rfl⟩:=jS hl
   ((conv=>whnf);repeat ((first|(intro hq;try simp only [lnS]at hq)|refine sI ?_|refine .intro _ (.intro rfl ?_));(conv=>whnf)))
   exact rfl
end Go.Proofs.YtleihcnongldbaaGreatDoor
namespace Go.Proofs.YtleihcnongldbaaGreatDoor
open Go.Proofs Go.RowKit
set_option maxRecDepth 10000
attribute [local irreducible] aN aJ Tri aI YVC cP bE
def mkD (y:Nat->UInt8):Dig:=⟨[y 0,y 1,y 2,y 3,y 4,y 5,y 6,y 7,y 8,y 9,y 10,y 11,y 12,y 13,y 14,y 15,y 16,y 17,y 18,y 19,y 20,y 21,y 22,y 23,y 24,y 25,y 26,y 27,y 28,y 29,y 30,y 31],rfl⟩
theorem fV (d:Dig): ∃y,d=mkD y:=by
 obtain⟨l,h⟩:=d
 obtain⟨y0,y1,y2,y3,y4,y5,y6,y7,y8,y9,y10,y11,y12,y13,y14,y15,y16,y17,y18,y19,y20,y21,y22,y23,y24,y25,y26,y27,y28,y29,y30,y31,rfl⟩:=jS h
 exact⟨λi=>[y0,y1,y2,y3,y4,y5,y6,y7,y8,y9,y10,y11,y12,y13,y14,y15,y16,y17,y18,y19,y20,y21,y22,y23,y24,y25,y26,y27,y28,y29,y30,y31].getD i 0,rfl⟩
theorem aKu:RfT 37 [] (cN 4 dO) (λl=> .d (.sl 1 (l.map bL))):=by
 intro s hb
 have hT:cN 4 dO s=jI dO (cK 4 s).1 (cK 4 s).2:=rfl
 rw [hT]
 clear hT
 have l2:=eP 4 s
 have hle:=lU (least:=4) s (by decide)
 refine aJ.says ?_
 refine aG false [] hty Tryz.func37 rfl (kp [0,2,3,4,5,18]) 100 (by simp [Tryz.f37]) ?_
 ((conv=>whnf);repeat ((first|(intro hq;try simp only [lnS]at hq)|refine sI ?_|refine .intro _ (.intro rfl ?_));(conv=>whnf)))
 refine RfT.call (aF4 4 (by decide) (by decide)) rfl (λ_=>rfl) s hb rfl ?_
 generalize (cK 4 s).1=n at *
 generalize (cK 4 s).2=s2 at *
 have hs2:s2.1.length<=1000000:=Nat.le_trans l2 hb
 have hn:n<=1000000:=Nat.le_trans hle hb
 clear l2 hle
 ((conv=>whnf);repeat ((first|(intro hq;try simp only [lnS]at hq)|refine sI ?_|refine .intro _ (.intro rfl ?_));(conv=>whnf)))
 refine aH hty (λy:List (List UInt8)×RS=>([(0, .ptr 3 0),(3, .osl 106 1 (y.1.map bL)),(4, .d (.int .i64 n)),(5, .d (.int .i64 y.1.length))],[(106, .own 9 1 (y.1.map bL).length),(3,rfO y.2)])) (λy=>jI dO y.1.length s2=y/\y.1.length<=n/\y.2.1.length<=1000000) (λy=>n - y.1.length) ([],s2) ⟨rfl,Nat.zero_le _,hs2⟩ ⟨by repeat' (first|exact trivial|exact rfl|refine And.intro ?_ ?_),by repeat' (first|exact trivial|exact rfl|refine And.intro ?_ ?_)⟩ ?_
 rintro⟨l,s⟩ ⟨h1,h2,h3⟩
 dsimp only at h1 h2 h3
 obtain⟨b,d⟩:=s
 have hml:(l.map bL).length=l.length:=List.length_map ..
 have hb63:(l.map bL).length+1<=9223372036854775807:=by rw [hml];omega
 have hb48:((l.map bL).length+1)* 16<=140737488355328:=by rw [hml];omega
 by_cases hc:l.length < n/\d=false
 ·obtain⟨hc,rfl⟩:=hc
  have hless:=cF (b,false)
  have hnx:=iA dO l.length s2 l (b,false) h1 rfl rfl
  ((conv=>whnf);repeat ((first|(intro hq;try simp only [lnS]at hq)|refine sI ?_|refine .intro _ (.intro rfl ?_));(conv=>whnf)))
  refine aB (λh5=> ?_) (λh5=>absurd hc (by dsimp only at h5;omega))
  clear h5
  ((conv=>whnf);repeat ((first|(intro hq;try simp only [lnS]at hq)|refine sI ?_|refine .intro _ (.intro rfl ?_));(conv=>whnf)))
  refine RfT.call tX rfl (λ_=>rfl) (b,false) h3 rfl ?_
  generalize (dO (b,false)).1=x at *
  generalize (dO (b,false)).2=s3 at *
  ((conv=>whnf);repeat ((first|(refine And.intro hb63 ?_)|(refine And.intro hb48 ?_)|(intro hq;try simp only [lnS]at hq)|refine sI ?_|refine .intro _ (.intro rfl ?_));(conv=>whnf)))
  refine⟨(l++[_],s3),⟨by dsimp only;rw [List.length_append];exact hnx,by dsimp only;rw [List.length_append,List.length_singleton];omega,Nat.le_trans hless h3⟩,by dsimp only;rw [List.length_append,List.length_singleton];omega, ?_⟩
  dsimp only
  rw [List.map_append,List.length_append,List.length_append]
  exact⟨by repeat' (first|exact trivial|exact rfl|refine And.intro ?_ ?_),by repeat' (first|exact trivial|exact rfl|refine And.intro ?_ ?_)⟩
 have hfull:jI dO n s2=(l,(b,d)):=by
  by_cases e:l.length=n
  ·rw [<-e];exact h1
  ·have hd:d=true:=by
    cases d with
    |true=>rfl
    |false=>exact absurd ⟨by omega,rfl⟩ hc
   exact hZ dO l.length n s2 l (b,d) h1 hd h2
 rw [hfull]
 have hstop:l.length < n->d=true:= λh=>by
  cases d with
  |true=>rfl
  |false=>exact absurd ⟨h,rfl⟩ hc
 ((conv=>whnf);repeat ((first|(intro hq;try simp only [lnS]at hq)|refine sI ?_|refine .intro _ (.intro rfl ?_));(conv=>whnf)))
 refine aB (λh5=> ?_) (λh5=> ?_)
 ·have hnd:(!d)=false:=by rw [hstop (by dsimp only at h5;omega)];rfl
  ((conv=>whnf);repeat ((first|(intro hq;try simp only [lnS]at hq)|refine sI ?_|refine .intro _ (.intro rfl ?_));(conv=>whnf)))
  rw [hnd]
  ((conv=>whnf);repeat ((first|(intro hq;try simp only [lnS]at hq)|refine sI ?_|refine .intro _ (.intro rfl ?_));(conv=>whnf)))
  exact⟨_,dA.osl,rfl,rfl⟩
 ·((conv=>whnf);repeat ((first|(intro hq;try simp only [lnS]at hq)|refine sI ?_|refine .intro _ (.intro rfl ?_));(conv=>whnf)))
  exact⟨_,dA.osl,rfl,rfl⟩
theorem aG7:RfT 52 [] (cN 32 oY) (λl=> .d (.sl 32 (l.map gP))):=by
 intro s hb
 have hT:cN 32 oY s=jI oY (cK 32 s).1 (cK 32 s).2:=rfl
 rw [hT]
 clear hT
 have l2:=eP 32 s
 have hle:=lU (least:=32) s (by decide)
 refine aJ.says ?_
 refine aG false [] hty Tryz.func52 rfl (kp [0,2,3,4,5,18]) 100 (by simp [Tryz.f52]) ?_
 ((conv=>whnf);repeat ((first|(intro hq;try simp only [lnS]at hq)|refine sI ?_|refine .intro _ (.intro rfl ?_));(conv=>whnf)))
 refine RfT.call (aF4 32 (by decide) (by decide)) rfl (λ_=>rfl) s hb rfl ?_
 generalize (cK 32 s).1=n at *
 generalize (cK 32 s).2=s2 at *
 have hs2:s2.1.length<=1000000:=Nat.le_trans l2 hb
 have hn:n<=1000000:=Nat.le_trans hle hb
 clear l2 hle
 ((conv=>whnf);repeat ((first|(intro hq;try simp only [lnS]at hq)|refine sI ?_|refine .intro _ (.intro rfl ?_));(conv=>whnf)))
 refine aH hty (λy:List Dig×RS=>([(0, .ptr 3 0),(3, .osl 106 32 (y.1.map gP)),(4, .d (.int .i64 n)),(5, .d (.int .i64 y.1.length))],[(106, .own 38 32 (y.1.map gP).length),(3,rfO y.2)])) (λy=>jI oY y.1.length s2=y/\y.1.length<=n/\y.2.1.length<=1000000) (λy=>n - y.1.length) ([],s2) ⟨rfl,Nat.zero_le _,hs2⟩ ⟨by repeat' (first|exact trivial|exact rfl|refine And.intro ?_ ?_),by repeat' (first|exact trivial|exact rfl|refine And.intro ?_ ?_)⟩ ?_
 rintro⟨l,s⟩ ⟨h1,h2,h3⟩
 dsimp only at h1 h2 h3
 obtain⟨b,d⟩:=s
 have hml:(l.map gP).length=l.length:=List.length_map ..
 have hb63:(l.map gP).length+1<=9223372036854775807:=by rw [hml];omega
 have hb48:((l.map gP).length+1)* 32<=140737488355328:=by rw [hml];omega
 by_cases hc:l.length < n/\d=false
 ·obtain⟨hc,rfl⟩:=hc
  have hless:=vS (b,false)
  have hnx:=iA oY l.length s2 l (b,false) h1 rfl rfl
  ((conv=>whnf);repeat ((first|(intro hq;try simp only [lnS]at hq)|refine sI ?_|refine .intro _ (.intro rfl ?_));(conv=>whnf)))
  refine aB (λh5=> ?_) (λh5=>absurd hc (by dsimp only at h5;omega))
  clear h5
  ((conv=>whnf);repeat ((first|(intro hq;try simp only [lnS]at hq)|refine sI ?_|refine .intro _ (.intro rfl ?_));(conv=>whnf)))
  refine RfT.call aF5 rfl (λ_=>rfl) (b,false) h3 rfl ?_
  generalize (oY (b,false)).1=x at *
  generalize (oY (b,false)).2=s3 at *
  obtain⟨y,rfl⟩:=fV x
  ((conv=>whnf);repeat ((first|(refine And.intro hb63 ?_)|(refine And.intro hb48 ?_)|(intro hq;try simp only [lnS]at hq)|refine sI ?_|refine .intro _ (.intro rfl ?_));(conv=>whnf)))
  refine⟨(l++[_],s3),⟨by dsimp only;rw [List.length_append];exact hnx,by dsimp only;rw [List.length_append,List.length_singleton];omega,Nat.le_trans hless h3⟩,by dsimp only;rw [List.length_append,List.length_singleton];omega, ?_⟩
  dsimp only
  rw [List.map_append,List.length_append,List.length_append]
  exact⟨by repeat' (first|exact trivial|exact rfl|refine And.intro ?_ ?_),by repeat' (first|exact trivial|exact rfl|refine And.intro ?_ ?_)⟩
 have hfull:jI oY n s2=(l,(b,d)):=by
  by_cases e:l.length=n
  ·rw [<-e];exact h1
  ·have hd:d=true:=by
    cases d with
    |true=>rfl
    |false=>exact absurd ⟨by omega,rfl⟩ hc
   exact hZ oY l.length n s2 l (b,d) h1 hd h2
 rw [hfull]
 have hstop:l.length < n->d=true:= λh=>by
  cases d with
  |true=>rfl
  |false=>exact absurd ⟨h,rfl⟩ hc
 ((conv=>whnf);repeat ((first|(intro hq;try simp only [lnS]at hq)|refine sI ?_|refine .intro _ (.intro rfl ?_));(conv=>whnf)))
 refine aB (λh5=> ?_) (λh5=> ?_)
 ·have hnd:(!d)=false:=by rw [hstop (by dsimp only at h5;omega)];rfl
  ((conv=>whnf);repeat ((first|(intro hq;try simp only [lnS]at hq)|refine sI ?_|refine .intro _ (.intro rfl ?_));(conv=>whnf)))
  rw [hnd]
  ((conv=>whnf);repeat ((first|(intro hq;try simp only [lnS]at hq)|refine sI ?_|refine .intro _ (.intro rfl ?_));(conv=>whnf)))
  exact⟨_,dA.osl,rfl,rfl⟩
 ·((conv=>whnf);repeat ((first|(intro hq;try simp only [lnS]at hq)|refine sI ?_|refine .intro _ (.intro rfl ?_));(conv=>whnf)))
  exact⟨_,dA.osl,rfl,rfl⟩
end Go.Proofs.YtleihcnongldbaaGreatDoor
namespace Go.Proofs.YtleihcnongldbaaGreatDoor
open Go.Proofs
def qK (s:List UInt8):Bool:=decide (2<=s.length) && (decide (s.length<=17) && (decide (s.head?=some 63) && ((s.drop 1).headD 0 |>sK) && (s.drop 2).all cZ))
def aCe (s:List UInt8):Bool:=dM s && !decide (s.head?=some 95)
def hU (s:List UInt8):Bool:=qK s || aCe s
def atE (a:At):Int:=
 if a.kind < 1\/3 < a.kind then 210
 else if (a.kind≠2/\a.y≠[])\/(a.kind≠3/\(a.lo≠0\/a.hi≠0))then 210
 else if a.lo < -1099511627776\/a.hi < a.lo\/1099511627776 < a.hi then 210
 else if aCe a.name=false then 20
 else if hU a.x=false then 20
 else if a.kind=2/\hU a.y=false then 20 else 0
def dF:List At->Int
 | []=>0
 |a::r=>if atE a≠0 then atE a else dF r
def bX (s:List UInt8):Bool:=decide (s.head?=some 63)
def dB (p:List At):List (List UInt8):=(p.flatMap λa=>[a.x,a.y]).filter bX
def wS (told:List (List UInt8)) (parts:List (List At)):Int:=
 if told.any (λt=> !qK t)then 20
 else if (List.range told.length).any (λi=>(told.take i).contains (told.getD i []) || parts.any (λp=> !(dB p).contains (told.getD i [])))then 210 else 0
def qE (q:Qy):Int:=
 if q.parts.length < 1\/4 < q.parts.length\/3 < q.told.length then 210
 else if q.parts.any (λp=>decide (p.length < 1) || decide (12 < p.length))then 210
 else if dF q.parts.flatten≠0 then dF q.parts.flatten
 else if wS q.told q.parts≠0 then wS q.told q.parts
 else if q.parts.any (λp=>decide (8 < (dB p).eraseDups.length))then 210 else 0
def vA (q:Qy):List UInt8×Int:=if qE q=0 then (wQy q,0)else ([],qE q)
theorem vL {s:List UInt8}(h:qK s=true):s.length<=17:=by
 unfold qK at h
 simp only [Bool.and_eq_true,decide_eq_true_eq]at h
 exact h.2.1
theorem vV {s:List UInt8}(h:aCe s=true):s.length<=24:=by
 unfold aCe at h
 rw [Bool.and_eq_true]at h
 exact xM h.1
theorem jY {s:List UInt8}(h:hU s=true):s.length<=24:=by
 unfold hU at h
 rcases Bool.or_eq_true_iff.1 h with h|h
 ·have:=vL h;omega
 ·exact vV h
theorem aTh {a:At}(h:atE a=0):aVc a:=by
 unfold atE at h
 split at h
 ·simp at h
 ·split at h
  ·simp at h
  ·split at h
   ·simp at h
   ·split at h
    ·simp at h
    ·split at h
     ·simp at h
     ·split at h
      ·simp at h
      ·rename_i h1 h2 h3 h4 h5 h6
       have q1:=vV (s:=a.name) (by simpa using h4)
       have q2:=jY (s:=a.x) (by simpa using h5)
       have q3:a.y.length<=24:=by
        by_cases hk:a.kind=2
        ·refine jY ?_
         cases ht:hU a.y with
         |true=>rfl
         |false=>exact absurd ⟨hk,ht⟩ h6
        ·have:a.y=[]:=Decidable.byContradiction λhy=>h2 (Or.inl ⟨hk,hy⟩)
         rw [this];simp
       exact⟨⟨by omega,by omega⟩,by omega,by omega,by omega,⟨by omega,by omega⟩,⟨by omega,by omega⟩⟩
theorem eY: ∀(l:List At),dF l=0↔ ∀a∈l,atE a=0
 | []=>by simp [dF]
 |a::r=>by
  rw [dF]
  by_cases h:atE a≠0
  ·rw [if_pos h]
   exact⟨λe=>absurd e h,λe=>absurd (e a (List.mem_cons_self ..)) h⟩
  ·rw [if_neg h,eY r]
   have h:=Decidable.not_not.1 h
   refine⟨λe b hb=> ?_,λe b hb=>e b (List.mem_cons_of_mem _ hb)⟩
   rcases List.mem_cons.1 hb with hb|hb
   ·rw [hb];exact h
   ·exact e b hb
theorem aSj {q:Qy}(h:qE q=0):aVw q:=by
 unfold qE at h
 split at h
 ·simp at h
 ·split at h
  ·simp at h
  ·split at h
   ·exact absurd h (by assumption)
   ·split at h
    ·exact absurd h (by assumption)
    ·rename_i h1 h2 h3 h4
     have h3:=(eY _).1 (Decidable.not_not.1 h3)
     have h4:=Decidable.not_not.1 h4
     have ht: ∀s∈q.told,qK s=true:=by
      unfold wS at h4
      split at h4
      ·simp at h4
      ·rename_i h5
       intro s hs
       cases hv:qK s with
       |true=>rfl
       |false=>exact absurd (List.any_eq_true.2 ⟨s,hs,by rw [hv];rfl⟩) h5
     have hp: ∀p∈q.parts,p.length<=12:=by
      intro p hp
      by_cases h5:p.length<=12
      ·exact h5
      ·refine absurd (List.any_eq_true.2 ⟨p,hp, ?_⟩) h2
       rw [Bool.or_eq_true,decide_eq_true_eq,decide_eq_true_eq]
       omega
     refine⟨⟨by omega,λs hs=> ?_⟩,by omega,λp hp'=>⟨?_,λa ha=> ?_⟩⟩
     ·have:=vL (ht s hs);omega
     ·have:=hp p hp';omega
     ·exact aTh (h3 a (List.mem_flatten.2 ⟨p,hp',ha⟩))
theorem aSc {q:Qy}{d:List UInt8}(h:vA q=(d,0)) (e:List UInt8):rQy (d++e)=some (q,e):=by
 obtain⟨h1,rfl⟩:=aCh h
 exact aQ4 (aSj h1) e
def aQ6:Rd Qy:=bZ (nN 4 uL) λt=>qH (nN 4 (nN 29 rAt)) λp=>⟨t,p⟩
theorem aPi (a:At):29<=(wAt a).length:=by
 unfold wAt
 have h1:=vJ a.kind
 have h2:=gS a.name
 have h3:=gS a.x
 have h4:=gS a.y
 have h5:=vK a.lo
 have h6:=vK a.hi
 simp only [List.length_append]
 omega
theorem aQ5 {q:Qy}{d:List UInt8}(h:vA q=(d,0)) (e:List UInt8):aQ6 (d++e)=some (q,e):=by
 obtain⟨h1,rfl⟩:=aCh h
 obtain⟨⟨a1,a2⟩,b,c⟩:=aSj h1
 unfold aQ6 wQy
 simp only [List.append_assoc]
 rw [aK (eZ (by omega) gS (λs hs=>dC (a2 s hs)) a1 _),bR (eZ (by omega) (wK wAt) (λp hp=>eZ (by omega) aPi (λa ha=>aJw ((c p hp).2 a ha)) (c p hp).1) b e)]
end Go.Proofs.YtleihcnongldbaaGreatDoor
namespace Go.Proofs.YtleihcnongldbaaGreatDoor
open Go.Proofs
theorem tM (s:List UInt8):(bC s).length=4+s.length:=by unfold bC;rw [List.length_append,aP]
theorem wL (z:Int):(dI z).length=8:=aP ..
theorem aIj (d:Dig):(fE d).length=32:=d.2
theorem rK {α:Type}{w:α->List UInt8}{k n:Nat}{l:List α}(h: ∀x∈l,(w x).length<=k) (hn:l.length<=n):(aX w l).length<=4+n * k:=by
 have h1:=eX h
 have h2:l.length * k<=n * k:=Nat.mul_le_mul_right _ hn
 unfold aX
 rw [List.length_append,aP]
 omega
theorem aE5 {a:At}(h:atE a=0):(wAt a).length<=101:=by
 have hn:a.name.length<=24/\a.x.length<=24/\a.y.length<=24:=by
  unfold atE at h
  split at h
  ·simp at h
  ·split at h
   ·simp at h
   ·split at h
    ·simp at h
    ·split at h
     ·simp at h
     ·split at h
      ·simp at h
      ·split at h
       ·simp at h
       ·rename_i h1 h2 h3 h4 h5 h6
        have q1:=vV (s:=a.name) (by simpa using h4)
        have q2:=jY (s:=a.x) (by simpa using h5)
        refine⟨q1,q2, ?_⟩
        by_cases hk:a.kind=2
        ·refine jY ?_
         cases ht:hU a.y with
         |true=>rfl
         |false=>exact absurd ⟨hk,ht⟩ h6
        ·have:a.y=[]:=Decidable.byContradiction λhy=>h2 (Or.inl ⟨hk,hy⟩)
         rw [this];simp
 unfold wAt eG
 simp only [List.length_append,wL,tM,aP]
 omega
theorem aSk {q:Qy}(h:qE q=0):(q.told.length<=3/\ ∀s∈q.told,s.length<=17)/\q.parts.length<=4/\ ∀p∈q.parts,(1<=p.length/\p.length<=12)/\ ∀a∈p,atE a=0:=by
 unfold qE at h
 split at h
 ·simp at h
 ·split at h
  ·simp at h
  ·split at h
   ·exact absurd h (by assumption)
   ·split at h
    ·exact absurd h (by assumption)
    ·rename_i h1 h2 h3 h4
     have h3:=(eY _).1 (Decidable.not_not.1 h3)
     have h4:=Decidable.not_not.1 h4
     have ht: ∀s∈q.told,qK s=true:=by
      unfold wS at h4
      split at h4
      ·simp at h4
      ·rename_i h5
       intro s hs
       cases hv:qK s with
       |true=>rfl
       |false=>exact absurd (List.any_eq_true.2 ⟨s,hs,by rw [hv];rfl⟩) h5
     refine⟨⟨by omega,λs hs=>vL (ht s hs)⟩,by omega,λp hp=>⟨?_,λa ha=>h3 a (List.mem_flatten.2 ⟨p,hp,ha⟩)⟩⟩
     refine Decidable.byContradiction λhc=> ?_
     refine absurd (List.any_eq_true.2 ⟨p,hp, ?_⟩) h2
     rw [Bool.or_eq_true,decide_eq_true_eq,decide_eq_true_eq]
     omega
end Go.Proofs.YtleihcnongldbaaGreatDoor
namespace Go.Proofs.YtleihcnongldbaaGreatDoor
open Go.Proofs
def vP:Tr Int:=mR (fS 1) λn=>(n:Int)
theorem qM:Sim vP aEn:=(aB8 1).map _
theorem sL:vI vP:=jC (gF 1) _
def zA:Tr Bool:= λs=>(decide ((vP s).1=1),((vP s).2.1,(vP s).2.2 || decide (1 < (vP s).1)))
theorem aMk:Sim zA rB':=by
 refine⟨λb=> ?_,λb x c e=> ?_,λb e=> ?_⟩
 ·show ((vP (b,true)).2.2 || decide (1 < (vP (b,true)).1))=true
  rw [qM.bad b];rfl
 ·unfold rB' at e
  obtain⟨p,h1,h2⟩:=Option.bind_eq_some_iff.1 e
  split at h2
  ·cases h2
  ·rename_i h3
   injection h2 with h2;injection h2 with h4 h5
   have:=qM.ok b p.1 p.2 h1
   unfold zA
   rw [this,<-h4,<-h5,show decide (1 < p.1)=false from decide_eq_false h3]
   rfl
 ·unfold rB' at e
  cases h1:aEn b with
  |none=>show ((vP (b,false)).2.2 || decide (1 < (vP (b,false)).1))=true;rw [qM.no b h1];rfl
  |some p=>
   obtain⟨x,c⟩:=p
   rw [h1]at e
   simp only [Option.bind_some]at e
   split at e
   ·rename_i h3
    show ((vP (b,false)).2.2 || decide (1 < (vP (b,false)).1))=true
    rw [qM.ok b x c h1,decide_eq_true h3,Bool.or_true]
   ·cases e
theorem aD7:vI zA:= λs=>sL s
def cW:Tr (Int×List UInt8×Int×Int×Nat):=bP vP λk=>bP dO λn=>bP fP λlo=>bP fP λhi=>mR (cK 25) λm=>(k,n,lo,hi,m)
def tC:Nat->Tr Cn
 | 0=> λs=>(Cn.mk (cW s).1.1 (cW s).1.2.1 (cW s).1.2.2.1 (cW s).1.2.2.2.1 [],((cW s).2.1,true))
 |m+1=> λs=>(Cn.mk (cW s).1.1 (cW s).1.2.1 (cW s).1.2.2.1 (cW s).1.2.2.2.1 (jI (tC m) (cW s).1.2.2.2.2 (cW s).2).1,(jI (tC m) (cW s).1.2.2.2.2 (cW s).2).2)
theorem aUc (m:Nat):tC (m+1)=bP vP λk=>bP dO λn=>bP fP λlo=>bP fP λhi=>mR (cN 25 (tC m)) (Cn.mk k n lo hi):=by
 funext s
 simp only [tC,cW,bP,mR,cN]
theorem aMl: ∀m,Sim (tC m) (rC' m)
 | 0=>⟨λb=>rfl,λb x c e=>(by cases e),λb e=>rfl⟩
 |m+1=>by
  rw [aUc]
  exact qM.bind λk=>jJ.bind λn=>wX.bind λlo=>wX.bind λhi=>(gH (aMl m) 25).map _
theorem sM:vI cW:=cI sL λk=>cI cF λn=>cI fM λlo=>cI fM λhi=>jC (eP 25) _
theorem sN: ∀m,vI (tC m)
 | 0=> λs=>sM s
 |m+1=> λs=>Nat.le_trans (aBv (sN m) _ _) (sM s)
def tA:Tr Ax:=bP vP λk=>bP zA λo=>bP (tC 9) λl=>bP (tC 9) λr=>bP (cN 4 dO) λrs=>bP dO λs1=>bP dO λs2=>mR dO λs3=>⟨k,o,l,r,rs,s1,s2,s3⟩
theorem aUf:Sim tA rA':=qM.bind λk=>aMk.bind λo=>(aMl 9).bind λl=>(aMl 9).bind λr=>(gH jJ 4).bind λrs=>jJ.bind λs1=>jJ.bind λs2=>jJ.map _
theorem gA {α:Type}{t:Tr α}(h:vI t) (k:Nat):vI (cN k t):=cI (eP k) λn=>aBv h n
theorem aKg:vI tA:=cI sL λk=>cI aD7 λo=>cI (sN 9) λl=>cI (sN 9) λr=>cI (gA cF 4) λrs=>cI cF λs1=>cI cF λs2=>jC cF _
def tAs:Tr (List Ax):=cN 68 tA
theorem aS9:Sim tAs aUi:=gH aUf 68
theorem aQt:vI tAs:=gA aKg 68
def tAl:Tr Al:=bP dO λn=>bP oY λb=>bP tAs λl=>bP oY λp=>bP fP λi=>bP (cN 32 oY) λx=>mR (cN 32 oY) λy=>⟨n,b,l,p,i,x,y⟩
theorem aSa:Sim tAl aMv:=jJ.bind λn=>aB9.bind λb=>aS9.bind λl=>aB9.bind λp=>wX.bind λi=>(gH aB9 32).bind λx=>(gH aB9 32).map _
def tAt:Tr At:=bP vP λk=>bP dO λn=>bP dO λx=>bP dO λy=>bP fP λlo=>mR fP λhi=>⟨k,n,x,y,lo,hi⟩
theorem aS8:Sim tAt rAt:=qM.bind λk=>jJ.bind λn=>jJ.bind λx=>jJ.bind λy=>wX.bind λlo=>wX.map _
theorem aKf:vI tAt:=cI sL λk=>cI cF λn=>cI cF λx=>cI cF λy=>cI fM λlo=>jC fM _
def tQy:Tr Qy:=bP (cN 4 dO) λt=>mR (cN 4 (cN 29 tAt)) λp=>⟨t,p⟩
theorem aS7:Sim tQy aQ6:=(gH jJ 4).bind λt=>(gH (gH aS8 29) 4).map _
def aLp {α:Type}(k:Nat) (t:Tr α):Prop:= ∀s,(t s).2.2=false->s.2=false/\(t s).2.1.length+k<=s.1.length
section
variable {α β:Type}
theorem wR (n:Nat):aLp n (dS n):=by
 intro s h
 unfold dS at h |-
 split at h
 ·cases h
 ·rename_i h1
  rw [if_neg h1]
  have h2:¬ s.2=true:= λe=>h1 (.inl e)
  have h3:¬ s.1.length < n:= λe=>h1 (.inr e)
  refine⟨by simpa using h2, ?_⟩
  show (s.1.drop n).length+n<=_
  rw [List.length_drop];omega
theorem oL {t:Tr α}{k:Nat}(h:aLp k t) (f:α->β):aLp k (mR t f):=h
theorem nC {t:Tr α}{f:α->Tr β}{k j:Nat}(h:aLp k t) (g: ∀x,aLp j (f x)):aLp (k+j) (bP t f):= λs e=>by
 obtain⟨h1,h2⟩:=g (t s).1 (t s).2 e
 obtain⟨h3,h4⟩:=h s h1
 exact⟨h3,by show (f (t s).1 (t s).2).2.1.length+_<=_;omega⟩
theorem aJ9 {t:Tr α}{k j:Nat}(h:aLp k t) (hj:j<=k):aLp j t:= λs e=>by
 obtain⟨h1,h2⟩:=h s e
 exact⟨h1,by omega⟩
theorem aJ8 (least:Nat):aLp 4 (cK least):=by
 intro s h
 unfold cK at h |-
 split at h
 ·cases h
 ·rename_i h1
  rw [if_neg h1]
  exact oL (wR 4) deN s h
theorem vN (k:Nat):aLp k (fS k):=oL (wR k) deN
theorem aJa:aLp 25 cW:=aJ9 (nC (oL (vN 1) _) λk=>nC (nC (vN 4) λn=>aJ9 (wR n) (Nat.zero_le _)) λn=>nC (oL (vN 8) _) λlo=>nC (oL (vN 8) _) λhi=>oL (aJ8 25) _) (by decide)
def aVg (t:Tr α) (μ:α->Nat):Prop:= ∀s,((t s).2.2=false->25 * μ (t s).1+(t s).2.1.length<=s.1.length)/\25 * μ (t s).1+(t s).2.1.length<=s.1.length+25
end
theorem aFp {t:Tr Cn}(h:aVg t bH) (hb: ∀s,s.2=true->(t s).2.2=true): ∀n,aVg (jI t n) λl=>(bD l).length
 | 0=> λs=>by
  show (_->25 * ([]:List Cn).length+s.1.length<=_)/\25 * ([]:List Cn).length+s.1.length<=_
  simp only [List.length_nil]
  exact⟨λ_=>by omega,by omega⟩
 |n+1=> λs=>by
  rw [nF]
  by_cases hs:s.2=true
  ·rw [if_pos hs]
   show (_->25 * ([]:List Cn).length+s.1.length<=_)/\25 * ([]:List Cn).length+s.1.length<=_
   simp only [List.length_nil]
   exact⟨λ_=>by omega,by omega⟩
  ·rw [if_neg hs]
   obtain⟨h1,h2⟩:=h s
   have e: ∀r,(bD ((t s).1::r)).length=bH (t s).1+(bD r).length:= λr=>by rw [bD,List.length_append];rfl
   dsimp only
   rw [e]
   cases hf:(t s).2.2
   ·obtain⟨i1,i2⟩:=aFp h hb n (t s).2
    have h1:=h1 hf
    dsimp only at i1 i2
    exact⟨λhh=>by have:=i1 hh;omega,by omega⟩
   ·rw [jZ t n hf]
    refine⟨λhh=>(by rw [hf]at hh;cases hh), ?_⟩
    show 25 * (bH (t s).1+([]:List Cn).length)+_<=_
    simp only [List.length_nil]
    omega
theorem aJh (k:Int) (n:List UInt8) (lo hi:Int) (ps:List Cn):bH (Cn.mk k n lo hi ps)=1+(bD ps).length:=by
 unfold bH
 rw [eD,List.length_cons]
 show (bD ps).length+1=_
 omega
theorem aVh (m:Nat) (s:RS) (h:s.2=true):(tC m s).2.2=true:=by
 obtain⟨b,d⟩:=s
 have h:d=true:=h
 subst h
 exact(aMl m).bad b
theorem aPd: ∀m,aVg (tC m) bH
 | 0=> λs=>by
  have h1:=sM s
  refine⟨λh=>(by cases h), ?_⟩
  show 25 * bH (Cn.mk _ _ _ _ [])+(cW s).2.1.length<=_
  rw [aJh]
  show 25 * (1+([]:List Cn).length)+_<=_
  simp only [List.length_nil]
  omega
 |m+1=> λs=>by
  obtain⟨i1,i2⟩:=aFp (aPd m) (aVh m) (cW s).1.2.2.2.2 (cW s).2
  have h1:=sM s
  have h2:=aJa s
  show (_->25 * bH (Cn.mk _ _ _ _ (jI (tC m) (cW s).1.2.2.2.2 (cW s).2).1)+(jI (tC m) (cW s).1.2.2.2.2 (cW s).2).2.1.length<=_)/\25 * bH (Cn.mk _ _ _ _ (jI (tC m) (cW s).1.2.2.2.2 (cW s).2).1)+(jI (tC m) (cW s).1.2.2.2.2 (cW s).2).2.1.length<=_
  rw [aJh]
  dsimp only at i1 i2
  cases hf:(cW s).2.2
  ·obtain⟨_,h2⟩:=h2 hf
   exact⟨λhh=>by have:=i1 hh;omega,by omega⟩
  ·have hw:=jZ (tC m) (cW s).1.2.2.2.2 hf
   rw [hw]at i1 i2 |-
   refine⟨λhh=> ?_, ?_⟩
   ·have e:(tC (m+1) s).2.2=(jI (tC m) (cW s).1.2.2.2.2 (cW s).2).2.2:=rfl
    rw [e,hw]at hh
    have hh:(cW s).2.2=false:=hh
    rw [hf]at hh;cases hh
   ·show 25 * (1+([]:List Cn).length)+(cW s).2.1.length<=_
    simp only [List.length_nil]
    omega
theorem aPc {m:Nat}{s:RS}(h:s.1.length<=1000000):bH (tC m s).1<=1000000:=by
 have:=(aPd m s).2
 omega
def SmC (x:Ax):Prop:=bH x.left<=1000000/\bH x.right<=1000000
theorem aRh {s:RS}(h:s.1.length<=1000000):SmC (tA s).1:=by
 have h1:=sL s
 have h2:=aD7 (vP s).2
 have h3:=sN 9 (zA (vP s).2).2
 exact⟨aPc (s:=(zA (vP s).2).2) (by omega),aPc (s:=(tC 9 (zA (vP s).2).2).2) (by omega)⟩
theorem aJp {α:Type}{t:Tr α}{P:α->Prop}{B:Nat}(hl:vI t) (h: ∀s:RS,s.1.length<=B->P (t s).1): ∀(n:Nat) (s:RS),s.1.length<=B-> ∀x∈(jI t n s).1,P x
 | 0,s,_,x,hx=>by cases hx
 |n+1,s,hs,x,hx=>by
  rw [nF]at hx
  split at hx
  ·cases hx
  ·rcases List.mem_cons.1 hx with rfl|hx
   ·exact h s hs
   ·exact aJp hl h n (t s).2 (Nat.le_trans (hl s) hs) x hx
theorem aOh {s:RS}(h:s.1.length<=1000000): ∀x∈(tAs s).1,SmC x:=aJp aKg (λs hs=>aRh hs) _ _ (Nat.le_trans (eP 68 s) h)
end Go.Proofs.YtleihcnongldbaaGreatDoor
namespace Go.Proofs.YtleihcnongldbaaGreatDoor
open Go.Proofs Go.RowKit
set_option maxRecDepth 10000
attribute [local irreducible] aN aJ Tri aI YVC cP bE vH
theorem d63 {q:List UInt8}(h:q.length<=100000000000000):(q.map aM).length+32<=9223372036854775807:=by rw [bO];omega
theorem d48 {q:List UInt8}(h:q.length<=100000000000000):((q.map aM).length+32)* 1<=140737488355328:=by rw [bO];omega
theorem e63 {q r:List UInt8}(h:q.length+r.length<=100000000000000):(q.map aM++r.map aM).length+32<=9223372036854775807:=by rw [List.length_append,bO,bO];omega
theorem e48 {q r:List UInt8}(h:q.length+r.length<=100000000000000):((q.map aM++r.map aM).length+32)* 1<=140737488355328:=by rw [List.length_append,bO,bO];omega
theorem f63 {q r s:List UInt8}(h:q.length+r.length+s.length<=100000000000000):(q.map aM++r.map aM).length+(s.map aM).length<=9223372036854775807:=by rw [List.length_append,bO,bO,bO];omega
theorem f48 {q r s:List UInt8}(h:q.length+r.length+s.length<=100000000000000):((q.map aM++r.map aM).length+(s.map aM).length)* 1<=140737488355328:=by rw [List.length_append,bO,bO,bO];omega
theorem zZ (l:List Dig) (hl:(aX fE l).length<=10000000000000):vH Tryz.prog 47 [.d (.sl 32 (l.map gP))] 5 (aX fE l):=by
 rw [cV]at hl
 have hn:=dW (by decide) aCm l
 have hlr:(l.map gP).length=l.length:=List.length_map ..
 have hB:=oT l.length (by omega)
 refine nA ?_
 refine aG false [] hty Tryz.func47 rfl (kp [0,2,3,4,12]) 100 (by simp [Tryz.f47]) ?_
 ((conv=>whnf);repeat ((first|(intro hq;try simp only [lnS]at hq)|refine sI ?_|refine .intro _ (.intro rfl ?_));(conv=>whnf)))
 rw [hlr]
 refine iO hB 200 (bW (by with_unfolding_all exact rfl)) ?_
 ((conv=>whnf);repeat ((first|(intro hq;try simp only [lnS]at hq)|refine sI ?_|refine .intro _ (.intro rfl ?_));(conv=>whnf)))
 refine aH hty (λj:Nat=>([(0, .d (.sl 32 (l.map gP))),(3, .osl 200 1 ((beN 4 l.length++((l.take j).map fE).flatten).map aM)),(4, .d (.int .i64 j))],[(200, .own 5 1 ((beN 4 l.length++((l.take j).map fE).flatten).map aM).length)])) (λj=>j<=l.length) (λj=>l.length - j) 0 (by omega) ⟨by dsimp only;rw [List.take_zero,List.map_nil,List.flatten_nil,List.append_nil];exact by repeat' (first|exact trivial|exact rfl|refine And.intro ?_ ?_),by dsimp only;rw [List.take_zero,List.map_nil,List.flatten_nil,List.append_nil];exact⟨rfl,trivial⟩⟩ ?_
 intro j hj
 ((conv=>whnf);repeat ((first|(intro hq;try simp only [lnS]at hq)|refine sI ?_|refine .intro _ (.intro rfl ?_));(conv=>whnf)))
 rw [hlr]
 refine aB (λh1=> ?_) (λh1=> ?_)
 ·have hjl:j < l.length:=by omega
  have hrow:(l.map gP)[((j:Nat):Int).toNat]? =some (gP l[j]):=aS hjl
  have hnx:beN 4 l.length++((l.take (j+1)).map fE).flatten=beN 4 l.length++((l.take j).map fE).flatten++fE l[j]:=by rw [cM (w:=fE) hjl,List.append_assoc]
  have hle:=iM (w:=fE) l (j+1)
  rw [cM (w:=fE) hjl,List.length_append]at hle
  have hqq:(beN 4 l.length++((l.take j).map fE).flatten).length=4+(((l.take j).map fE).flatten).length:=by rw [List.length_append,aP]
  have hb63:=d63 (q:=beN 4 l.length++((l.take j).map fE).flatten) (by omega)
  have hb48:=d48 (q:=beN 4 l.length++((l.take j).map fE).flatten) (by omega)
  generalize beN 4 l.length++((l.take j).map fE).flatten=q at *
  generalize l[j]=x at *
  obtain⟨y,rfl⟩:=fV x
  ((conv=>whnf);repeat ((first|(refine⟨_,hrow, ?_⟩)|(refine And.intro hb63 ?_)|(refine And.intro hb48 ?_)|(intro hq;try simp only [lnS]at hq)|refine sI ?_|refine .intro _ (.intro rfl ?_));(conv=>whnf)))
  refine⟨j+1,by dsimp only;omega,by dsimp only;omega, ?_⟩
  dsimp only
  rw [hnx,bM,List.length_append]
  exact⟨by repeat' (first|exact trivial|exact rfl|refine And.intro ?_ ?_),by repeat' (first|exact trivial|exact rfl|refine And.intro ?_ ?_)⟩
 ·have hjl:j=l.length:=by omega
  subst hjl
  rw [List.take_length]
  ((conv=>whnf);repeat ((first|(intro hq;try simp only [lnS]at hq)|refine sI ?_|refine .intro _ (.intro rfl ?_));(conv=>whnf)))
  exact .inl ⟨200,_,rfl,rfl,bO _⟩
theorem aBm (nm:List UInt8) (y:Nat->UInt8) (ax:List Ax) (z:Nat->UInt8) (ix:Int) (ps pt:List Dig) (hs: ∀x∈ax,SmC x) (h1:¬ 24 < nm.length) (h2:cO ax=0) (h3:¬ 128 < ax.length) (h4:¬ 256 < ps.length) (h5:¬ 256 < pt.length):
  Tri Tryz.prog 16 [.d (.agg (alR ⟨nm,mkD y,ax,mkD z,ix,ps,pt⟩))] [] (λr=>r= .tup [.d (.sl 1 ((wAl ⟨nm,mkD y,ax,mkD z,ix,ps,pt⟩).map aM)), .d (.int .i64 0)]):=by
 refine Tri.says ?_
 have hc:=rU ax 128 hs (by decide)
 rw [if_neg (by rw [h2];simp),if_neg h3]at hc
 have hall:=(fB ax).1 h2
 have b1:=wM hall
 have b2:ax.length * 7000<=128 * 7000:=Nat.mul_le_mul_right _ (by omega)
 have b3:=rK (w:=fE) (k:=32) (l:=ps) (n:=256) (λd _=>Nat.le_of_eq (aIj d)) (by omega)
 have b4:=rK (w:=fE) (k:=32) (l:=pt) (n:=256) (λd _=>Nat.le_of_eq (aIj d)) (by omega)
 have b5:=tM nm
 have b6:=wL ix
 have hT:=lW nm (by omega)
 have hA:=(aJs ax (by show (wAs ax).length<=_;omega)).tri
 have hN:=(nM ix).tri
 have hP:=(zZ ps (by omega)).tri
 have hQ:=(zZ pt (by omega)).tri
 have hfin:wAl ⟨nm,mkD y,ax,mkD z,ix,ps,pt⟩=bC nm++(mkD y).1++wAs ax++(mkD z).1++dI ix++aX fE ps++aX fE pt:=by
  unfold wAl fE;simp only [dY]
 rw [hfin]
 clear hfin
 have lps:(ps.map gP).length=ps.length:=List.length_map ..
 have lpt:(pt.map gP).length=pt.length:=List.length_map ..
 have g63:=d63 (q:=bC nm) (by omega)
 have g48:=d48 (q:=bC nm) (by omega)
 have hq1:(bC nm++(mkD y).1).length=36+nm.length:=by rw [List.length_append,b5];show _+32=_;omega
 have i63:=zM hq1 (q:=wAs ax) rfl (by omega)
 have i48:=zN hq1 (q:=wAs ax) rfl (by omega)
 have j63:=e63 (q:=bC nm++(mkD y).1) (r:=wAs ax) (by omega)
 have j48:=e48 (q:=bC nm++(mkD y).1) (r:=wAs ax) (by omega)
 have hq2:(bC nm++(mkD y).1++wAs ax++(mkD z).1).length=68+nm.length+(wAs ax).length:=by rw [List.length_append,List.length_append,hq1];show _+32=_;omega
 have k63:=zM hq2 (q:=dI ix) rfl (by omega)
 have k48:=zN hq2 (q:=dI ix) rfl (by omega)
 have l63:=f63 (q:=bC nm++(mkD y).1++wAs ax++(mkD z).1) (r:=dI ix) (s:=aX fE ps) (by omega)
 have l48:=f48 (q:=bC nm++(mkD y).1++wAs ax++(mkD z).1) (r:=dI ix) (s:=aX fE ps) (by omega)
 have hq3:(bC nm++(mkD y).1++wAs ax++(mkD z).1++dI ix++aX fE ps).length=76+nm.length+(wAs ax).length+(aX fE ps).length:=by rw [List.length_append,List.length_append,hq2];omega
 have m63:=zM hq3 (q:=aX fE pt) rfl (by omega)
 have m48:=zN hq3 (q:=aX fE pt) rfl (by omega)
 refine aE false [1] hty Tryz.func16 rfl (kp [0,1,2,3,4,5,9,14,27]) [] _ _ _ (by simp [Tryz.f16]) (by simp) ?_
 ((conv=>whnf);repeat ((first|(intro hq;try simp only [lnS]at hq)|refine sI ?_|refine .intro _ (.intro rfl ?_));(conv=>whnf)))
 refine aB (λh=>absurd h (by dsimp only;omega)) (λ_=> ?_)
 ((conv=>whnf);repeat ((first|(refine aD [] hc trivial (λr hs=> ?_);subst hs)|(intro hq;try simp only [lnS]at hq)|refine sI ?_|refine .intro _ (.intro rfl ?_));(conv=>whnf)))
 rw [lps]
 refine aB (λh=>absurd h (by omega)) (λ_=> ?_)
 ((conv=>whnf);repeat ((first|(intro hq;try simp only [lnS]at hq)|refine sI ?_|refine .intro _ (.intro rfl ?_));(conv=>whnf)))
 rw [lpt]
 refine aB (λh=>absurd h (by omega)) (λ_=> ?_)
 ((conv=>whnf);repeat ((first|(intro hq;try simp only [lnS]at hq)|refine sI ?_|refine .intro _ (.intro rfl ?_));(conv=>whnf)))
 refine aN.mid [(1, .ea 69 [alR ⟨nm,mkD y,ax,mkD z,ix,ps,pt⟩] 0 0),(5, .osl 200 1 ((bC nm).map aM++((mkD y).1).map aM))] [(200, .own 5 1 (((bC nm).map aM).length+32))] ?_ ?_
 ·(refine bI (id:=8) hty (.first 0 (.first 1 (.first 3 (.first 4 (.alt 2 (.alt 5 (.first 6 .done) .stop) .stop))))) (by kernel_rfl) (by kernel_rfl) ?_)
  ((conv=>whnf);repeat' ((first|(intro hq;(try simp only [lnS]at hq);(try rewrite [List.length_map]))|refine sJ ?_|refine .intro _ (.intro rfl ?_)|refine exL (k:= ?_)|(refine And.intro g63 ?_)|(refine And.intro g48 ?_)|(refine iO hT 200 (bW (by with_unfolding_all exact rfl)) ?_)|exact trivial|(refine And.intro ?_ ?_)|refine dwR ?_|((first|refine aB ?_ ?_|refine aC ?_ ?_)<;>intro hb<;>(first|exact ddX hb|try simp only [lnS]at hb))|(refine aA ?_ ?_<;>intro hb<;>try exact dsX hb))<;>(conv=>whnf)))
  all_goals exact⟨by repeat' (first|exact trivial|exact rfl|refine And.intro ?_ ?_),by repeat' (first|exact trivial|exact rfl|refine And.intro ?_ ?_)⟩
 rw [<-bM]
 have o1:((bC nm).map aM).length+32=((bC nm++(mkD y).1).map aM).length:=by rw [bO,bO,List.length_append];rfl
 rw [o1]
 clear g63 g48 o1
 generalize bC nm++(mkD y).1=q1 at *
 ((conv=>whnf);repeat ((first|(intro hq;try simp only [lnS]at hq)|refine sI ?_|refine .intro _ (.intro rfl ?_));(conv=>whnf)))
 refine aN.mid [(1, .ea 69 [alR ⟨nm,mkD y,ax,mkD z,ix,ps,pt⟩] 0 0),(5, .osl 200 1 (q1.map aM++(wAs ax).map aM++((mkD z).1).map aM))] [(200, .own 5 1 ((q1.map aM++(wAs ax).map aM).length+32))] ?_ ?_
 ·(refine bI (id:=9) hty (.first 0 (.first 1 (.first 2 (.first 5 (.first 6 (.alt 3 (.alt 4 (.alt 7 (.first 8 .done) .stop) .stop) .stop)))))) (by kernel_rfl) (by kernel_rfl) ?_)
  ((conv=>whnf);repeat' ((first|(intro hq;(try simp only [lnS]at hq);(try rewrite [List.length_map]))|refine sJ ?_|refine .intro _ (.intro rfl ?_)|refine exL (k:= ?_)|(refine And.intro i63 ?_)|(refine And.intro i48 ?_)|(refine And.intro j63 ?_)|(refine And.intro j48 ?_)|(refine aD [] hA trivial (λr hs=> ?_);subst hs)|exact trivial|(refine And.intro ?_ ?_)|refine dwR ?_|((first|refine aB ?_ ?_|refine aC ?_ ?_)<;>intro hb<;>(first|exact ddX hb|try simp only [lnS]at hb))|(refine aA ?_ ?_<;>intro hb<;>try exact dsX hb))<;>(conv=>whnf)))
  all_goals exact⟨by repeat' (first|exact trivial|exact rfl|refine And.intro ?_ ?_),by repeat' (first|exact trivial|exact rfl|refine And.intro ?_ ?_)⟩
 have o2:(q1.map aM++(wAs ax).map aM).length+32=((q1++wAs ax++(mkD z).1).map aM).length:=by rw [bM,bM];simp only [List.length_append];rfl
 rw [o2,<-bM,<-bM]
 clear i63 i48 j63 j48 o2
 generalize q1++wAs ax++(mkD z).1=q2 at *
 ((conv=>whnf);repeat ((first|(intro hq;try simp only [lnS]at hq)|refine sI ?_|refine .intro _ (.intro rfl ?_));(conv=>whnf)))
 refine aN.mid [(1, .ea 69 [alR ⟨nm,mkD y,ax,mkD z,ix,ps,pt⟩] 0 0),(5, .osl 200 1 (q2.map aM++(dI ix).map aM++(aX fE ps).map aM))] [(200, .own 5 1 ((q2.map aM++(dI ix).map aM).length+((aX fE ps).map aM).length))] ?_ ?_
 ·(refine bI (id:=10) hty (.first 0 (.first 1 (.first 2 (.first 3 (.first 6 (.first 7 (.first 8 (.alt 4 (.alt 5 (.alt 9 (.alt 10 (.first 11 .done) .stop) .stop) .stop) .stop)))))))) (by kernel_rfl) (by kernel_rfl) ?_)
  ((conv=>whnf);repeat' ((first|(intro hq;(try simp only [lnS]at hq);(try rewrite [List.length_map]))|refine sJ ?_|refine .intro _ (.intro rfl ?_)|refine exL (k:= ?_)|(refine And.intro k63 ?_)|(refine And.intro k48 ?_)|(refine And.intro l63 ?_)|(refine And.intro l48 ?_)|(refine aD [] hN trivial (λr hs=> ?_);subst hs)|(refine aD [] hP trivial (λr hs=> ?_);subst hs)|exact trivial|(refine And.intro ?_ ?_)|refine dwR ?_|((first|refine aB ?_ ?_|refine aC ?_ ?_)<;>intro hb<;>(first|exact ddX hb|try simp only [lnS]at hb))|(refine aA ?_ ?_<;>intro hb<;>try exact dsX hb))<;>(conv=>whnf)))
  all_goals exact⟨by repeat' (first|exact trivial|exact rfl|refine And.intro ?_ ?_),by repeat' (first|exact trivial|exact rfl|refine And.intro ?_ ?_)⟩
 rw [<-bM,<-bM,<-fN]
 clear k63 k48 l63 l48
 generalize q2++dI ix++aX fE ps=q3 at *
 ((conv=>whnf);repeat ((first|(refine And.intro m63 ?_)|(refine And.intro m48 ?_)|(refine aD [] hQ trivial (λr hs=> ?_);subst hs)|(intro hq;try simp only [lnS]at hq)|refine sI ?_|refine .intro _ (.intro rfl ?_));(conv=>whnf)))
 rw [bM]
 exact⟨_, .refl _,rfl⟩
theorem aWd {a:Al}(h:24 < a.name.length):lR a=([],1):=by
 have e:alE a=1:=by unfold alE;rw [if_pos h]
 unfold lR;rw [e];rfl
theorem aWc {a:Al}(h:¬ 24 < a.name.length) (h2:cO a.axioms≠0):lR a=([],cO a.axioms):=by
 have e:alE a=cO a.axioms:=by unfold alE;rw [if_neg h,if_pos h2]
 unfold lR;rw [e,if_neg h2]
theorem aWb {a:Al}(h:¬ 24 < a.name.length) (h2:cO a.axioms=0) (h3:128 < a.axioms.length\/256 < a.parts.length\/256 < a.path.length):lR a=([],2):=by
 have e:alE a=2:=by unfold alE;rw [if_neg h,if_neg (by rw [h2];simp),if_pos h3]
 unfold lR;rw [e];rfl
theorem aWa {a:Al}(h:¬ 24 < a.name.length) (h2:cO a.axioms=0) (h3:¬ (128 < a.axioms.length\/256 < a.parts.length\/256 < a.path.length)):lR a=(wAl a,0):=by
 have e:alE a=0:=by unfold alE;rw [if_neg h,if_neg (by rw [h2];simp),if_neg h3]
 unfold lR;rw [e];rfl
theorem nP (a:Al) (hs: ∀x∈a.axioms,SmC x):Tri Tryz.prog 16 [.d (.agg (alR a))] [] (λr=>r= .tup [.d (.sl 1 ((lR a).1.map aM)), .d (.int .i64 (lR a).2)]):=by
 have hc:=rU a.axioms 128 hs (by decide)
 by_cases h1:24 < a.name.length
 ·rw [aWd h1]
  refine Tri.says ?_
  obtain⟨nm,d1,ax,d2,ix,ps,pt⟩:=a
  obtain⟨y,rfl⟩:=fV d1
  obtain⟨z,rfl⟩:=fV d2
  dsimp only at h1
  refine aE false [1] hty Tryz.func16 rfl (kp [0,1,2,3,4,5,9,14,27]) [] _ _ _ (by simp [Tryz.f16]) (by simp) ?_
  ((conv=>whnf);repeat' ((first|(intro hq;(try simp only [lnS]at hq);(try rewrite [List.length_map]))|refine sJ ?_|refine .intro _ (.intro rfl ?_)|refine exL (k:= ?_)|refine dwR ?_|((first|refine aB ?_ ?_|refine aC ?_ ?_)<;>intro hb<;>(first|exact ddX hb|try simp only [lnS]at hb))|(refine aA ?_ ?_<;>intro hb<;>try exact dsX hb))<;>(conv=>whnf)))
  all_goals first|exact⟨_,pairN (.d .nil) _,rfl⟩|(exfalso;dsimp only at *;omega)
 by_cases h2:cO a.axioms≠0
 ·rw [aWc h1 h2]
  rw [if_pos h2]at hc
  refine Tri.says ?_
  obtain⟨nm,d1,ax,d2,ix,ps,pt⟩:=a
  obtain⟨y,rfl⟩:=fV d1
  obtain⟨z,rfl⟩:=fV d2
  dsimp only at h1 h2 hc |-
  generalize cO ax=e at *
  refine aE false [1] hty Tryz.func16 rfl (kp [0,1,2,3,4,5,9,14,27]) [] _ _ _ (by simp [Tryz.f16]) (by simp) ?_
  ((conv=>whnf);repeat' ((first|(intro hq;(try simp only [lnS]at hq);(try rewrite [List.length_map]))|refine sJ ?_|refine .intro _ (.intro rfl ?_)|refine exL (k:= ?_)|(refine aD [] hc trivial (λr hs=> ?_);subst hs)|refine dwR ?_|((first|refine aB ?_ ?_|refine aC ?_ ?_)<;>intro hb<;>(first|exact ddX hb|try simp only [lnS]at hb))|(refine aA ?_ ?_<;>intro hb<;>try exact dsX hb))<;>(conv=>whnf)))
  all_goals first|exact⟨_,pairN (.d .nil) _,rfl⟩|(exfalso;dsimp only at *;omega)|(exfalso;simp_all;done)
 have h2:cO a.axioms=0:=Decidable.not_not.1 h2
 by_cases h3:128 < a.axioms.length\/256 < a.parts.length\/256 < a.path.length
 ·rw [aWb h1 h2 h3]
  rw [if_neg (by rw [h2];simp)]at hc
  refine Tri.says ?_
  obtain⟨nm,d1,ax,d2,ix,ps,pt⟩:=a
  obtain⟨y,rfl⟩:=fV d1
  obtain⟨z,rfl⟩:=fV d2
  dsimp only at h1 h2 h3 hc |-
  have lps:(ps.map gP).length=ps.length:=List.length_map ..
  have lpt:(pt.map gP).length=pt.length:=List.length_map ..
  by_cases h4:128 < ax.length
  ·rw [if_pos h4]at hc
   refine aE false [1] hty Tryz.func16 rfl (kp [0,1,2,3,4,5,9,14,27]) [] _ _ _ (by simp [Tryz.f16]) (by simp) ?_
   ((conv=>whnf);repeat' ((first|(intro hq;(try simp only [lnS]at hq);(try rewrite [List.length_map]))|refine sJ ?_|refine .intro _ (.intro rfl ?_)|refine exL (k:= ?_)|(refine aD [] hc trivial (λr hs=> ?_);subst hs)|refine dwR ?_|((first|refine aB ?_ ?_|refine aC ?_ ?_)<;>intro hb<;>(first|exact ddX hb|try simp only [lnS]at hb))|(refine aA ?_ ?_<;>intro hb<;>try exact dsX hb))<;>(conv=>whnf)))
   all_goals first|exact⟨_,pairN (.d .nil) _,rfl⟩|(exfalso;dsimp only at *;omega)|(exfalso;simp_all;done)
  ·rw [if_neg h4]at hc
   have h5:256 < ps.length\/256 < pt.length:=by omega
   refine aE false [1] hty Tryz.func16 rfl (kp [0,1,2,3,4,5,9,14,27]) [] _ _ _ (by simp [Tryz.f16]) (by simp) ?_
   ((conv=>whnf);repeat ((first|(intro hq;try simp only [lnS]at hq)|refine sI ?_|refine .intro _ (.intro rfl ?_));(conv=>whnf)))
   refine aB (λh=>absurd h (by dsimp only;omega)) (λ_=> ?_)
   ((conv=>whnf);repeat ((first|(refine aD [] hc trivial (λr hs=> ?_);subst hs)|(intro hq;try simp only [lnS]at hq)|refine sI ?_|refine .intro _ (.intro rfl ?_));(conv=>whnf)))
   rw [lps]
   refine aB (λh=> ?_) (λ_=> ?_)
   ·((conv=>whnf);repeat ((first|(intro hq;try simp only [lnS]at hq)|refine sI ?_|refine .intro _ (.intro rfl ?_));(conv=>whnf)))
    exact⟨_,pairN (.d .nil) _,rfl⟩
   ·((conv=>whnf);repeat ((first|(intro hq;try simp only [lnS]at hq)|refine sI ?_|refine .intro _ (.intro rfl ?_));(conv=>whnf)))
    rw [lpt]
    refine aB (λh=> ?_) (λh=>absurd h (by omega))
    ((conv=>whnf);repeat ((first|(intro hq;try simp only [lnS]at hq)|refine sI ?_|refine .intro _ (.intro rfl ?_));(conv=>whnf)))
    exact⟨_,pairN (.d .nil) _,rfl⟩
 ·rw [aWa h1 h2 h3]
  obtain⟨nm,d1,ax,d2,ix,ps,pt⟩:=a
  obtain⟨y,rfl⟩:=fV d1
  obtain⟨z,rfl⟩:=fV d2
  dsimp only at h1 h2 h3 hs
  exact aBm nm y ax z ix ps pt hs h1 h2 (by omega) (by omega) (by omega)
end Go.Proofs.YtleihcnongldbaaGreatDoor
