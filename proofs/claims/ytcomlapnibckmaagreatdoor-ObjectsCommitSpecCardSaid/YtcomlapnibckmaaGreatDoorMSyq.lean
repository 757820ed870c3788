/-
  The reference of objects: its reader reads numbers, texts and digests. The reference of objects: its reader reads digests. A nil cell takes up rows of its own, at a call; contracts whose result says less. Contracts of functions that hand back bytes of a row of their own, onto which the caller may append.
  Conditions: none.
-/
import Derived.Test.YtcomlapnibckmaaGreatDoorMOv
import Derived.Test.YtcomlapnibckmaaGreatDoorMOt
import Derived.Test.YtcomlapnibckmaaGreatDoorMAk
import Derived.Test.YtcomlapnibckmaaGreatDoorMOn
import Derived.Test.YtcomlapnibckmaaGreatDoorMSs
set_option linter.unnecessarySimpa false
set_option linter.unusedSectionVars false
set_option linter.unusedSimpArgs false
set_option linter.unusedVariables false
set_option maxHeartbeats 16000000
namespace Go.Proofs.YtcomlapnibckmaaGreatDoor
open Go.Proofs Go.RowKit
set_option maxRecDepth 10000
attribute [local irreducible] aL aG Tri aD YVC cP bB
abbrev rfO (s:RS):HObj:= .cells 101 [.d (.sl 1 (s.1.map aO)), .d (.bool s.2)]
abbrev aIj:Pin:=⟨[3],λ_ _=>False,[]⟩
def RfT {α:Type}(f:FuncId) (ex:List SV) (t:Tr α) (e:α->SV):Prop:= ∀s:RS,s.1.length<=1000000->
 aG Tryz.prog aIj [] [(3,rfO s)] f (.ptr 3 0::ex) (λr h=>r=e (t s).1/\aJ h 3=some (rfO (t s).2))
theorem RfT.call {α:Type}{f:FuncId}{ex:List SV}{t:Tr α}{e:α->SV}(h:RfT f ex t e) (hx:SV.idsL ex=[]) (he: ∀x,(e x).ids=[]) {pin:Pin}{fr:Fr}{hp:Hp}{i:Nat}{K:SV->Hp->Prop}(s:RS) (hb:s.1.length<=1000000) (hg:aJ hp i=some (rfO s))
  (hok:dL hp i (rfO (t s).2) (K (e (t s).1))):aG Tryz.prog pin fr hp f (.ptr i 0::ex) K:=by
 have hs: ∀b,(rfO b).sim:= λb s hs=>by
  simp at hs
  rcases hs with rfl|rfl<;>exact rfl
 refine jX (λ_=>i) [3] [(3,rfO s)] (h s hb) (aDh hg rfl (hs s)) (λk hk=>hk) (by rw [List.map_cons,qG hx];rfl) ?_ ?_ ?_
 ·intro s hs
  rcases List.mem_cons.1 hs with rfl|hs
  ·trivial
  ·exact qE hx s hs
 ·rintro r h1 ⟨rfl,e3⟩
  refine⟨zF (he _), ?_,_,aEm hg e3 (hs _) (λh=>h) rfl rfl, ?_⟩
  ·intro j hj
   rw [he]at hj
   cases hj
  ·rw [zM (he _)]
   rw [cF]at hok
   exact hok
 ·exact λh1 h2=>h2.elim
theorem uQ {n:Nat}{s:RS}(h:s.2=true\/s.1.length < n):cM n s=([],(s.1,true)):=if_pos h
theorem aBf {n:Nat}{b:List UInt8}(h:¬ b.length < n):cM n (b,false)=(b.take n,(b.drop n,false)):=if_neg (by simp;omega)
theorem aEp (n:Nat) (hn:n < 18446744073709551616):RfT 103 [.d (.int .u64 n)] (cM n) (λl=> .d (.sl 1 (l.map aO))):=by
 rintro⟨b,d⟩ hb
 have hbl:=cH b
 have hw:IntKind.u64.wrap ((b.length:Nat):Int)=((b.length:Nat):Int):=eU _ (by dsimp only at hb;omega)
 dsimp only at hb
 refine aG.says ?_
 refine aF false [] hty Tryz.func103 rfl (kp [0,1,4,5,19]) 100 (by simp [Tryz.f103]) ?_
 cases d
 ·by_cases h:b.length < n
  ·rw [uQ (.inr h)]
   ((conv=>whnf);repeat ((first|(intro hq;try simp only [lnS]at hq)|refine sI ?_|refine .intro _ (.intro rfl ?_));(conv=>whnf)))
   rw [hbl,hw]
   ((conv=>whnf);repeat' ((first|(intro hq;(try simp only [lnS]at hq);(try rewrite [List.length_map]))|refine sJ ?_|refine .intro _ (.intro rfl ?_)|refine exL (k:= ?_)|refine dwR ?_|((first|refine aB ?_ ?_|refine aC ?_ ?_)<;>intro hb<;>(first|exact ddX hb|try simp only [lnS]at hb))|(refine aA ?_ ?_<;>intro hb<;>try exact dsX hb))<;>(conv=>whnf)))
   exact⟨_,cL.nil,rfl,rfl⟩
  ·rw [aBf h]
   have e1:List.drop 0 (List.take ((n:Nat):Int).toNat (b.map aO))=(b.take n).map aO:=by rw [Int.toNat_natCast,List.drop_zero,List.map_take]
   have e2:List.drop ((n:Nat):Int).toNat (List.take (b.map aO).length (b.map aO))=(b.drop n).map aO:=by rw [Int.toNat_natCast,List.take_length,List.map_drop]
   ((conv=>whnf);repeat ((first|(intro hq;try simp only [lnS]at hq)|refine sI ?_|refine .intro _ (.intro rfl ?_));(conv=>whnf)))
   rw [hbl,hw]
   ((conv=>whnf);repeat' ((first|(intro hq;(try simp only [lnS]at hq);(try rewrite [List.length_map]))|refine sJ ?_|refine .intro _ (.intro rfl ?_)|refine exL (k:= ?_)|refine dwR ?_|((first|refine aB ?_ ?_|refine aC ?_ ?_)<;>intro hb<;>(first|exact ddX hb|try simp only [lnS]at hb))|(refine aA ?_ ?_<;>intro hb<;>try exact dsX hb))<;>(conv=>whnf)))
   refine⟨_, .refl _, ?_, ?_⟩
   ·show SV.d (D.sl 1 (List.drop 0 (List.take ((n:Nat):Int).toNat (b.map aO))))=_
    rw [e1]
   ·show some (HObj.cells 101 [.d (.sl 1 (List.drop ((n:Nat):Int).toNat (List.take (b.map aO).length (b.map aO)))), .d (.bool false)])=_
    rw [e2]
 ·rw [uQ (.inl rfl)]
  ((conv=>whnf);repeat' ((first|(intro hq;(try simp only [lnS]at hq);(try rewrite [List.length_map]))|refine sJ ?_|refine .intro _ (.intro rfl ?_)|refine exL (k:= ?_)|refine dwR ?_|((first|refine aB ?_ ?_|refine aC ?_ ?_)<;>intro hb<;>(first|exact ddX hb|try simp only [lnS]at hb))|(refine aA ?_ ?_<;>intro hb<;>try exact dsX hb))<;>(conv=>whnf)))
  exact⟨_,cL.nil,rfl,rfl⟩
theorem aG1 {x c:Nat}(hx:x < 72057594037927936) (hc:c < 256):IntKind.u64.wrap (IntKind.u64.wrap (256 * (x:Int))+IntKind.u64.wrap (c:Int))=((256 * x+c:Nat):Int):=by
 rw [show (256 * (x:Int))=((256 * x:Nat):Int)by omega,eU _ (by omega),eU _ (by omega),<-Int.natCast_add,eU _ (by omega)]
theorem aHn (m:Nat) (hm:m<=8):RfT 51 [.d (.int .i64 m)] (iS m) (λn=> .d (.int .u64 n)):=by
 intro s hb
 have hw:IntKind.u64.wrap ((m:Nat):Int)=((m:Nat):Int):=eU _ (by omega)
 have hl8:=mS m s
 have hE:iS m s=(deN (cM m s).1,(cM m s).2):=rfl
 rw [hE]
 clear hE
 have hT:RfT 103 [.d (.int .u64 (IntKind.u64.wrap ((m:Nat):Int)))] (cM m) (λl=> .d (.sl 1 (l.map aO))):=by rw [hw];exact aEp m (by omega)
 refine aF false [] hty Tryz.func51 rfl (kp [0,1,4,5,6,7,15]) 100 (by simp [Tryz.f51]) ?_
 ((conv=>whnf);repeat ((first|(intro hq;try simp only [lnS]at hq)|refine sI ?_|refine .intro _ (.intro rfl ?_));(conv=>whnf)))
 refine RfT.call hT rfl (λ_=>rfl) s hb rfl ?_
 generalize (cM m s).1=l at *
 generalize (cM m s).2=s1 at *
 have hlr:=cH l
 ((conv=>whnf);repeat ((first|(intro hq;try simp only [lnS]at hq)|refine sI ?_|refine .intro _ (.intro rfl ?_));(conv=>whnf)))
 refine aR hty (λj:Nat=>([(5, .d (.sl 1 (l.map aO))),(6, .d (.int .u64 ((deN (l.take j):Nat):Int))),(7, .d (.int .i64 j))],[(3,rfO s1)])) (λj=>j<=l.length) (λj=>l.length - j) 0 (by omega) ⟨by repeat' (first|exact trivial|exact rfl|refine And.intro ?_ ?_),by repeat' (first|exact trivial|exact rfl|refine And.intro ?_ ?_)⟩ ?_
 intro j hj
 ((conv=>whnf);repeat ((first|(intro hq;try simp only [lnS]at hq)|refine sI ?_|refine .intro _ (.intro rfl ?_));(conv=>whnf)))
 rw [hlr]
 refine aB (λh1=> ?_) (λh1=> ?_)
 ·have hjl:j < l.length:=by omega
  have hrow:(l.map aO)[((j:Nat):Int).toNat]? =some (aO l[j]):=cC hjl
  have hx:deN (l.take j) < 72057594037927936:=by
   have h2:=lV j (l.take j) (by rw [List.length_take];omega)
   have h3:256 ^ j<=256 ^ 7:=Nat.pow_le_pow_right (by decide) (by omega)
   have h4:(256:Nat) ^ 7=72057594037927936:=by decide
   omega
  have hc:(l[j]).toNat < 256:=l[j].toNat_lt
  have hn:deN (l.take (j+1))=256 * deN (l.take j)+(l[j]).toNat:=by rw [List.take_succ_eq_append_getElem hjl,mL]
  have hma:=aG1 hx hc
  generalize l[j]=c at *
  generalize deN (l.take j)=x at *
  ((conv=>whnf);repeat' ((first|(intro hq;(try simp only [lnS]at hq);(try rewrite [List.length_map]))|refine sJ ?_|refine .intro _ (.intro rfl ?_)|refine exL (k:= ?_)|(refine⟨_,hrow, ?_⟩)|refine dwR ?_|((first|refine aB ?_ ?_|refine aC ?_ ?_)<;>intro hb<;>(first|exact ddX hb|try simp only [lnS]at hb))|(refine aA ?_ ?_<;>intro hb<;>try exact dsX hb))<;>(conv=>whnf)))
  rw [hma]
  refine⟨j+1,by dsimp only;omega,by dsimp only;omega, ?_⟩
  dsimp only
  rw [hn]
  exact⟨by repeat' (first|exact trivial|exact rfl|refine And.intro ?_ ?_),by repeat' (first|exact trivial|exact rfl|refine And.intro ?_ ?_)⟩
 ·have hjl:j=l.length:=by omega
  subst hjl
  rw [List.take_length]
  ((conv=>whnf);repeat ((first|(intro hq;try simp only [lnS]at hq)|refine sI ?_|refine .intro _ (.intro rfl ?_));(conv=>whnf)))
  exact rfl
theorem aGa {m:Nat}: ∀{l:List UInt8},l.length<=m->deN l < 256 ^ m:= λ{l} h=>Nat.lt_of_lt_of_le (lV l.length l rfl) (Nat.pow_le_pow_right (by decide) h)
theorem tP (m:Nat) (s:RS):(iS m s).1 < 256 ^ m:=aGa (mS m s)
def mU:Tr Int:=wM (iS 8) sgN
def tO:Tr (List UInt8):=fX (iS 4) cM
theorem zH:Sim mU rK:=(tQ 8).map sgN
theorem aE2:Sim tO oZ:=(tQ 4).bind λn=>qD n
theorem qU (k:Nat):aDo (iS k):=mH (kQ k) deN
theorem vE:aDo mU:=mH (qU 8) sgN
theorem aAi:RfT 53 [] mU (λz=> .d (.int .i64 z)):=by
 intro s hb
 have hlt:=tP 8 s
 have hE:mU s=(sgN (iS 8 s).1,(iS 8 s).2):=rfl
 rw [hE,<-aFh _ hlt]
 refine aF false [] hty Tryz.func53 rfl (kp [0,2]) 100 (by simp [Tryz.f53]) ?_
 ((conv=>whnf);repeat ((first|(intro hq;try simp only [lnS]at hq)|refine sI ?_|refine .intro _ (.intro rfl ?_));(conv=>whnf)))
 refine RfT.call (aHn 8 (by decide)) rfl (λ_=>rfl) s hb rfl ?_
 ((conv=>whnf);repeat ((first|(intro hq;try simp only [lnS]at hq)|refine sI ?_|refine .intro _ (.intro rfl ?_));(conv=>whnf)))
 exact rfl
theorem aG6:RfT 52 [] tO (λs=> .d (.str s)):=by
 intro s hb
 have hlt:=tP 4 s
 have hle:=qU 4 s
 have hE:tO s=cM (iS 4 s).1 (iS 4 s).2:=rfl
 rw [hE]
 refine aG.mono (K:= λr h=>r= .d (.str (unb ((cM (iS 4 s).1 (iS 4 s).2).1.map aO)))/\aJ h 3=some (rfO (cM (iS 4 s).1 (iS 4 s).2).2)) (λr h ⟨h1,h2⟩=>⟨by rw [h1,eM],h2⟩) ?_
 refine aF false [] hty Tryz.func52 rfl (kp [0,2]) 100 (by simp [Tryz.f52]) ?_
 ((conv=>whnf);repeat ((first|(intro hq;try simp only [lnS]at hq)|refine sI ?_|refine .intro _ (.intro rfl ?_));(conv=>whnf)))
 refine RfT.call (aHn 4 (by decide)) rfl (λ_=>rfl) s hb rfl ?_
 generalize (iS 4 s).1=n at *
 generalize (iS 4 s).2=s1 at *
 ((conv=>whnf);repeat ((first|(intro hq;try simp only [lnS]at hq)|refine sI ?_|refine .intro _ (.intro rfl ?_));(conv=>whnf)))
 refine RfT.call (aEp n (by omega)) rfl (λ_=>rfl) s1 (by omega) rfl ?_
 ((conv=>whnf);repeat ((first|(intro hq;try simp only [lnS]at hq)|refine sI ?_|refine .intro _ (.intro rfl ?_));(conv=>whnf)))
 exact rfl
theorem aHm (least:Nat) (h0:0 < least) (h1:least<=1000):RfT 50 [.d (.int .i64 least)] (jC least) (λn=> .d (.int .i64 n)):=by
 intro s hb
 have hlt:=tP 4 s
 have hle:=qU 4 s
 have hE:jC least s=if (iS 4 s).2.2=true\/(iS 4 s).2.1.length / least < (iS 4 s).1 then (0,((iS 4 s).2.1,true))else iS 4 s:=rfl
 rw [hE]
 refine aF false [] hty Tryz.func50 rfl (kp [0,1,4,5,23]) 100 (by simp [Tryz.f50]) ?_
 ((conv=>whnf);repeat ((first|(intro hq;try simp only [lnS]at hq)|refine sI ?_|refine .intro _ (.intro rfl ?_));(conv=>whnf)))
 refine RfT.call (aHn 4 (by decide)) rfl (λ_=>rfl) s hb rfl ?_
 generalize iS 4 s=q at *
 obtain⟨n,b,d⟩:=q
 dsimp only at hlt hle |-
 have hbl:=cH b
 have hw1:IntKind.i64.wrap ((n:Nat):Int)=((n:Nat):Int):=IntWalk.i64_in _ (by omega)
 have hdl:b.length / least<=b.length:=Nat.div_le_self _ _
 have hqq:(((b.length:Nat):Int).tdiv ((least:Nat):Int))=((b.length / least:Nat):Int):=by
  rw [Int.tdiv_eq_ediv_of_nonneg (Int.natCast_nonneg _),Int.natCast_ediv]
 have hqr: -9223372036854775808<=(((b.map aO).length:Nat):Int).tdiv ((least:Nat):Int)/\(((b.map aO).length:Nat):Int).tdiv ((least:Nat):Int)<=9223372036854775807:=by
  rw [hbl,hqq]
  clear hqq
  generalize b.length / least=k at *
  omega
 have hw2:IntKind.u64.wrap ((b.length / least:Nat):Int)=((b.length / least:Nat):Int):=eU _ (Nat.lt_of_le_of_lt hdl (by omega))
 cases d
 ·by_cases h:b.length / least < n
  ·rw [if_pos (.inr h)]
   ((conv=>whnf);repeat ((first|(refine And.intro hqr ?_)|(intro hq;try simp only [lnS]at hq)|refine sI ?_|refine .intro _ (.intro rfl ?_));(conv=>whnf)))
   rw [hbl,hqq,hw2]
   ((conv=>whnf);repeat' ((first|(intro hq;(try simp only [lnS]at hq);(try rewrite [List.length_map]))|refine sJ ?_|refine .intro _ (.intro rfl ?_)|refine exL (k:= ?_)|refine dwR ?_|((first|refine aB ?_ ?_|refine aC ?_ ?_)<;>intro hb<;>(first|exact ddX hb|try simp only [lnS]at hb))|(refine aA ?_ ?_<;>intro hb<;>try exact dsX hb))<;>(conv=>whnf)))
   exact rfl
  ·rw [if_neg (by simpa using h)]
   ((conv=>whnf);repeat ((first|(refine And.intro hqr ?_)|(intro hq;try simp only [lnS]at hq)|refine sI ?_|refine .intro _ (.intro rfl ?_));(conv=>whnf)))
   rw [hbl,hqq,hw2]
   ((conv=>whnf);repeat' ((first|(intro hq;(try simp only [lnS]at hq);(try rewrite [List.length_map]))|refine sJ ?_|refine .intro _ (.intro rfl ?_)|refine exL (k:= ?_)|refine dwR ?_|((first|refine aB ?_ ?_|refine aC ?_ ?_)<;>intro hb<;>(first|exact ddX hb|try simp only [lnS]at hb))|(refine aA ?_ ?_<;>intro hb<;>try exact dsX hb))<;>(conv=>whnf)))
   rw [hw1]
   exact⟨rfl,rfl⟩
 ·rw [if_pos (.inl rfl)]
  ((conv=>whnf);repeat' ((first|(intro hq;(try simp only [lnS]at hq);(try rewrite [List.length_map]))|refine sJ ?_|refine .intro _ (.intro rfl ?_)|refine exL (k:= ?_)|refine dwR ?_|((first|refine aB ?_ ?_|refine aC ?_ ?_)<;>intro hb<;>(first|exact ddX hb|try simp only [lnS]at hb))|(refine aA ?_ ?_<;>intro hb<;>try exact dsX hb))<;>(conv=>whnf)))
  exact rfl
def rJ:Tr Dig:= λs=>if h:(cM 32 s).1.length=32 then (⟨(cM 32 s).1,h⟩,(cM 32 s).2)else (⟨List.replicate 32 0,rfl⟩,(cM 32 s).2)
theorem aCb:aDo rJ:= λs=>by
 have:=kQ 32 s
 unfold rJ
 split<;>exact this
theorem aE3:Sim rJ tY:=by
 have h:=qD 32
 refine⟨λb=> ?_,λb x c e=> ?_,λb e=> ?_⟩
 ·have:=h.bad b
  unfold rJ
  split<;>exact this
 ·unfold tY at e
  split at e
  ·rename_i h1
   injection e with e;injection e with e1 e2
   have h2:=h.ok b (b.take 32) (b.drop 32) (if_pos h1)
   have h3:(cM 32 (b,false)).1.length=32:=by rw [h2];show (b.take 32).length=32;rw [List.length_take];omega
   unfold rJ
   rw [dif_pos h3,<-e1,<-e2]
   simp only [h2]
  ·cases e
 ·have h1:eO 32 b=none:=by
   unfold tY at e
   split at e
   ·cases e
   ·rename_i h1;exact if_neg h1
  have:=h.no b h1
  unfold rJ
  split<;>exact this
end Go.Proofs.YtcomlapnibckmaaGreatDoor
namespace Go.Proofs.YtcomlapnibckmaaGreatDoor
open Go.Proofs Go.RowKit
set_option maxRecDepth 10000
attribute [local irreducible] aL aG Tri aD YVC cP bB
def u8D (c:UInt8):SV:= .d (.int .u8 c.toNat)
def nB (j:Nat) (l:List UInt8):List SV:=(l.take j).map u8D++List.replicate (32 - j) (.d (.int .u8 0))
theorem zU (j:Nat) (l:List UInt8) (hl:l.length=32) (hj:j<=32):(nB j l).length=32:=by unfold nB;rw [List.length_append,List.length_map,List.length_take,List.length_replicate];omega
theorem zT (j:Nat) (l:List UInt8) (hl:l.length=32) (hj:j < l.length):(nB j l).set j (u8D l[j])=nB (j+1) l:=by
 have e:32 - j=(32 - (j+1))+1:=by omega
 unfold nB
 rw [e,List.replicate_succ,List.set_append_right _ _ (by rw [List.length_map,List.length_take];omega),List.length_map,List.length_take,Nat.min_eq_left (by omega),Nat.sub_self,List.take_succ_eq_append_getElem hj,List.map_append,List.append_assoc]
 rfl
theorem zV (l:List UInt8) (hl:l.length=32):nB 32 l=l.map u8D:=by unfold nB;rw [List.take_of_length_le (by omega)];simp
theorem aAj:RfT 58 [] rJ (λd=> .d (.agg (pQ d))):=by
 intro s hb
 have hlt:=mS 32 s
 have hc:(cM 32 s).1=[]\/(cM 32 s).1.length=32:=by
  unfold cM
  split
  ·exact .inl rfl
  ·rename_i h
   right
   show (s.1.take 32).length=32
   rw [List.length_take]
   have:¬ s.1.length < 32:= λe=>h (.inr e)
   omega
 have hE:rJ s=if h:(cM 32 s).1.length=32 then (⟨(cM 32 s).1,h⟩,(cM 32 s).2)else (⟨List.replicate 32 0,rfl⟩,(cM 32 s).2):=rfl
 rw [hE]
 clear hE
 refine aF false [] hty Tryz.func58 rfl (kp [0,2,3,4,5,12]) 100 (by simp [Tryz.f58]) ?_
 ((conv=>whnf);repeat ((first|(intro hq;try simp only [lnS]at hq)|refine sI ?_|refine .intro _ (.intro rfl ?_));(conv=>whnf)))
 refine RfT.call (aEp 32 (by decide)) rfl (λ_=>rfl) s hb rfl ?_
 generalize cM 32 s=q at *
 obtain⟨l,s1⟩:=q
 dsimp only at hc hlt |-
 rcases hc with rfl|hl
 ·rw [dif_neg (by decide)]
  ((conv=>whnf);repeat ((first|(intro hq;try simp only [lnS]at hq)|refine sI ?_|refine .intro _ (.intro rfl ?_));(conv=>whnf)))
  refine aR hty (λj:Nat=>([(2, .ptr 102 0),(3, .ptr 103 0),(4, .d (.sl 1 [])),(5, .d (.int .i64 j))],[(3,rfO s1),(102, .cells 39 ((List.replicate 32 (D.int .u8 0)).map .d)),(103, .cells 39 ((List.replicate 32 (D.int .u8 0)).map .d))])) (λj=>j=0) (λj=>0 - j) 0 rfl ⟨by repeat' (first|exact trivial|exact rfl|refine And.intro ?_ ?_),by repeat' (first|exact trivial|exact rfl|refine And.intro ?_ ?_)⟩ ?_
  rintro j rfl
  ((conv=>whnf);repeat' ((first|(intro hq;(try simp only [lnS]at hq);(try rewrite [List.length_map]))|refine sJ ?_|refine .intro _ (.intro rfl ?_)|refine exL (k:= ?_)|refine dwR ?_|((first|refine aB ?_ ?_|refine aC ?_ ?_)<;>intro hb<;>(first|exact ddX hb|try simp only [lnS]at hb))|(refine aA ?_ ?_<;>intro hb<;>try exact dsX hb))<;>(conv=>whnf)))
  exact rfl
 ·rw [dif_pos hl]
  have hlr:=cH l
  ((conv=>whnf);repeat ((first|(intro hq;try simp only [lnS]at hq)|refine sI ?_|refine .intro _ (.intro rfl ?_));(conv=>whnf)))
  refine aR hty (λj:Nat=>([(2, .ptr 102 0),(3, .ptr 103 0),(4, .d (.sl 1 (l.map aO))),(5, .d (.int .i64 j))],[(3,rfO s1),(102, .cells 39 ((List.replicate 32 (D.int .u8 0)).map .d)),(103, .cells 39 (nB j l))])) (λj=>j<=32) (λj=>32 - j) 0 (by omega) ⟨by repeat' (first|exact trivial|exact rfl|refine And.intro ?_ ?_),by repeat' (first|exact trivial|exact rfl|refine And.intro ?_ ?_)⟩ ?_
  intro j hj
  have hlen:=zU j l hl hj
  ((conv=>whnf);repeat ((first|(intro hq;try simp only [lnS]at hq)|refine sI ?_|refine .intro _ (.intro rfl ?_));(conv=>whnf)))
  rw [hlr,hl]
  refine aB (λh1=> ?_) (λh1=> ?_)
  ·have hjl:j < l.length:=by omega
   have hrow:(l.map aO)[((j:Nat):Int).toNat]? =some (aO l[j]):=cC hjl
   have hoff:0+((j:Nat):Int).toNat * 1 < (nB j l).length:=by rw [hlen,Int.toNat_natCast];omega
   have hset:=zT j l hl hjl
   generalize l[j]=c at *
   ((conv=>whnf);repeat ((first|(refine⟨_,hrow, ?_⟩)|(refine And.intro hoff ?_)|(intro hq;try simp only [lnS]at hq)|refine sI ?_|refine .intro _ (.intro rfl ?_));(conv=>whnf)))
   have hset2:(nB j l).set (0+((j:Nat):Int).toNat * 1) (u8D c)=nB (j+1) l:=by
    rw [show 0+((j:Nat):Int).toNat * 1=j by simp];exact hset
   refine⟨j+1,by dsimp only;omega,by dsimp only;omega, ?_⟩
   dsimp only
   rw [<-hset2]
   exact⟨by repeat' (first|exact trivial|exact rfl|refine And.intro ?_ ?_),by repeat' (first|exact trivial|exact rfl|refine And.intro ?_ ?_)⟩
  ·have hjl:j=32:=by omega
   subst hjl
   rw [zV l hl]
   obtain⟨y0,y1,y2,y3,y4,y5,y6,y7,y8,y9,y10,y11,y12,y13,y14,y15,y16,y17,y18,y19,y20,y21,y22,y23,y24,y25,y26,y27,y28,y29,y30,y31,rfl⟩:=eQ hl
   ((conv=>whnf);repeat ((first|(intro hq;try simp only [lnS]at hq)|refine sI ?_|refine .intro _ (.intro rfl ?_));(conv=>whnf)))
   exact rfl
end Go.Proofs.YtcomlapnibckmaaGreatDoor
namespace Go.Proofs.YtcomlapnibckmaaGreatDoor
open Go.RowKit
section
variable {P:Program}
theorem aG.ownH {pin:Pin}{fr:Fr}{hp:Hp}{f:FuncId}{args:List SV}{K:SV->Hp->Prop}(i id t e z:Nat) (hnil:aJ hp i=some (.cells t [.d .nil])) (hfr:gF id pin fr hp) (hna:id∉SV.idsL args)
  (h:aG P pin fr ((id, .own e z 0)::eD hp i (.cells t [.osl id z []])) f args K):aG P pin fr hp f args K:=by
 intro E ρ w tm hpin h3 h4 vs hargs
 obtain⟨f1,f2,f3⟩:=hfr
 obtain⟨m1,m2,m3⟩:=h3.newNil (id:=id) e z f3 (by rw [hpin];exact f1)
 have hne:i≠id:= λe=>f3 (by subst e;exact bJ hnil (.inl rfl))
 have hi':aJ ((id,HObj.own e z 0)::hp) i=some (.cells t [.d .nil]):=by
  simp only [aJ];rw [if_neg (Ne.symm hne)];exact hnil
 have m4 := m1.recell hi' (cs' := [.osl id z []]) rfl (λj s' v hs' hv => by
  cases j with
  |zero=>
   simp at hs'
   subst hs'
   have:=(hv (.d .nil) rfl).nil_inv
   subst this
   exact m3
  |succ j=>simp at hs')
 have e2:eD ((id,HObj.own e z 0)::hp) i (.cells t [.osl id z []])=(id, .own e z 0)::eD hp i (.cells t [.osl id z []]):=by
  simp only [eD];rw [if_neg (Ne.symm hne)]
 rw [e2]at m4
 have hidsA: ∀(l:List SV) (k:Nat),id∉SV.idsL l->id∉dN (fJ k l):=by
  intro l
  induction l with
  |nil=>intro k h;simp [fJ,dN]
  |cons s r ih=>
   intro k hn
   rw [SV.idsL,List.mem_append,not_or]at hn
   simp only [fJ,dN,List.flatMap_cons,List.mem_append,not_or]
   exact⟨hn.1,ih (k+1) hn.2⟩
 have hget: ∀(l:List SV) (k j:Nat) (s:SV),l[j]? =some s->dI (fJ k l) (k+j)=some s:=by
  intro l
  induction l with
  |nil=>intro k j s h;simp at h
  |cons x r ih=>
   intro k j s h
   cases j with
   |zero=>simp at h;subst h;simp [fJ,dI]
   |succ j=>
    simp at h
    have:=ih (k+1) j s h
    simp only [fJ,dI]
    rw [if_neg (by omega)]
    rw [show k+(j+1)=k+1+j by omega];exact this
 have hav:bX ρ w (fJ 0 args) vs:=by
  intro u s hu
  obtain⟨_,q⟩:=iZ args 0 u s hu
  simp only [Nat.sub_zero]at q
  have hlt:=(List.getElem?_eq_some_iff.1 q).1
  have hlt':u < vs.size:=by rw [hargs.1];exact hlt
  exact⟨vs[u],Array.getElem?_eq_getElem hlt',hargs.2 u s _ q (Array.getElem?_eq_getElem hlt')⟩
 have hav2:=m2 (fJ 0 args) vs (hidsA args 0 hna) hav
 refine h E _ w tm hpin m4 (m2 fr tm f2 h4) vs ⟨hargs.1,λj s v hs hv=> ?_⟩
 have h0:=hget args 0 j s hs
 rw [Nat.zero_add]at h0
 obtain⟨u,q1,q2⟩:=hav2 j s h0
 rw [hv]at q1
 injection q1 with q1
 rw [q1];exact q2
theorem Tri.says {f:FuncId}{args:List SV}{hp:Hp}{post:SV->Prop}(h:Tri P f args hp λs=> ∃s',cL s s'/\post s'):Tri P f args hp post:=
 λw ρ vs a b c=>(h w ρ vs a b c).mono λ_ _ ⟨v,S',s,h1,⟨s',h2,h3⟩,h4,h5,h6,h7,h8⟩=>⟨v,S',s',h1,h3,h4,h5,h6,h7,h2 _ _ _ h8⟩
theorem cL.tup {l m:List SV}(hl:l.length=m.length) (h: ∀(j:Nat) (a b:SV),l[j]? =some a->m[j]? =some b->cL a b):cL (.tup l) (.tup m):= λw ρ v hr=>by
 obtain⟨vs,rfl,h1,h2⟩:=hr.tup_inv
 refine .tup _ _ (h1.trans hl) λj b u hb hu=> ?_
 have hj:j < l.length:=by rw [hl];exact(List.getElem?_eq_some_iff.1 hb).1
 exact h j _ b (List.getElem?_eq_getElem hj) hb w ρ u (h2 j _ u (List.getElem?_eq_getElem hj) hu)
theorem cL.pair {a b c:SV}(h:cL a b):cL (.tup [a,c]) (.tup [b,c]):=cL.tup rfl λj x y hx hy=>by
 match j with
 | 0=>simp at hx hy;subst hx hy;exact h
 | 1=>simp at hx hy;subst hx hy;exact .refl _
 |j+2=>simp at hx
end
end Go.Proofs.YtcomlapnibckmaaGreatDoor
namespace Go.Proofs.YtcomlapnibckmaaGreatDoor
open Go.RowKit
section
variable {P:Program}
def dX (l:List UInt8):List Value:=l.map λc=> .int .u8 c.toNat
def vU (P:Program) (f:FuncId) (args:List SV) (e:TypeId) (bs:List UInt8):Prop:=
 ∀(w:World) (ρ:Env) (vs:Array Value),(∀b i,ρ.S b i->b < w.heap.size)->bO w ρ args vs->
  Calls P f vs w λx w'=> ∃v,x= .returned v/\Grew w w'/\w'.ownsRow 0 e 1 v bs.length (dX bs)/\ ∀g,v.ownBlock=some g->w.heap.size<=g
theorem pJ {w:World}{S:Nat->Nat->Prop}(l:List UInt8):Flat w S 1 (l.map aO) (dX l):=by
 refine⟨by simp [dX],λrow h=> ?_,λv h=> ?_,λi row j x h1 h2=> ?_⟩
 ·obtain⟨c,_,rfl⟩:=List.mem_map.1 h;rfl
 ·obtain⟨c,_,rfl⟩:=List.mem_map.1 h;rfl
 ·rw [List.getElem?_map,Option.map_eq_some_iff]at h1
  obtain⟨c,hc,rfl⟩:=h1
  have hj:j=0/\x= .int .u8 c.toNat:=by
   cases j with
   |zero=>simp [aO]at h2;exact⟨rfl,h2.symm⟩
   |succ j=>simp [aO]at h2
  obtain⟨rfl,rfl⟩:=hj
  exact⟨.int .u8 c.toNat,by simp [dX,hc], .int _ _⟩
theorem oA {pin:Pin}{fr:Fr}{hp:Hp}{f:FuncId}{args:List SV}{K:SV->Hp->Prop}{e:TypeId}{bs:List UInt8}(hc:vU P f args e bs) (j:Nat) (hfr:gF j pin fr hp) (hk:K (.osl j 1 (bs.map aO)) ((j, .own e 1 (bs.map aO).length)::hp)):aG P pin fr hp f args K:=by
 intro E ρ w tm hpin hm hf vs hv
 obtain⟨f1,f2,f3⟩:=hfr
 refine(hc w ρ vs hm.slt hv).mono ?_
 rintro x w' ⟨v,rfl,h1,h2,h3⟩
 have hl:bs.length=(bs.map aO).length:=(List.length_map ..).symm
 obtain⟨m1,m2,m3⟩:=hm.newOwn (id:=j) (e:=e) (z:=1) (rows:=bs.map aO) (vs:=dX bs) h1 (by rw [<-hl];exact h2) h3 (pJ bs) f3 (by rw [hpin];exact f1)
 exact .inl ⟨v,_,_,_,rfl,hk,m1,m2 fr tm f2 hf,m3⟩
theorem wG {w:World}{S:Nat->Nat->Prop}{l:List UInt8}{v:Value}(h:RepD w S (.sl 1 (l.map aO)) v) {g cap n:Nat}{cur:Array Value}{t:TypeId}(hv:v= .slice (some ⟨g,0,none⟩) n cap) (hg:w.heap[g]? =some (.cells cur t (0,0))) (hs:n<=cur.size) (hn:n=l.length):cur.toList.take n=dX l:=by
 obtain⟨A,cap',b,off,e1,_,_,hA,hview⟩:=h.of_sl
 have hl:(l.map aO).length=l.length:=List.length_map ..
 refine List.ext_getElem? λi=> ?_
 rw [List.getElem?_take]
 split
 ·rename_i hi
  have hil:i < l.length:=by omega
  have hne:l.map aO≠[]:=by
   intro e
   have:=congrArg List.length e
   rw [hl]at this
   simp at this
   rw [this]at hil;simp at hil
  have hA':=hA hne
  subst hA'
  rw [hv]at e1
  injection e1 with e1 _ _
  injection e1 with e1
  injection e1 with e1 e2
  subst e1
  obtain⟨u,c1,_,_,c4⟩:=hview.cell i (aO l[i]) 0 (.int .u8 l[i].toNat) (by rw [List.getElem?_map,List.getElem?_eq_getElem hil];rfl) rfl
  cases c4
  have e3:off+(i * 1+0)=i:=by omega
  rw [e3]at c1
  rw [cell_of_row w g i cur t (0,0) hg]at c1
  rw [Array.getElem?_toList,c1]
  simp [dX,List.getElem?_eq_getElem hil]
 ·rename_i hi
  symm
  rw [List.getElem?_eq_none_iff]
  simp [dX];omega
theorem aEq {w:World}{S:Nat->Nat->Prop}{l:List UInt8}{vs:List Value}(h:Flat w S 1 (l.map aO) vs):vs=dX l:=by
 have hl:vs.length=l.length:=by rw [h.len,List.length_map,Nat.mul_one]
 refine List.ext_getElem? λi=> ?_
 by_cases hi:i < l.length
 ·obtain⟨v,h1,h2⟩:=h.at_ i (aO l[i]) 0 (.int .u8 l[i].toNat) (by rw [List.getElem?_map,List.getElem?_eq_getElem hi];rfl) rfl
  have e3:i * 1+0=i:=by omega
  rw [e3]at h1
  cases h2
  rw [h1]
  simp [dX,List.getElem?_eq_getElem hi]
 ·rw [List.getElem?_eq_none_iff.2 (by omega),List.getElem?_eq_none_iff.2 (by simp [dX];omega)]
theorem tM {f:FuncId}{args:List SV}{e:TypeId}{bs:List UInt8}
  (h:aG P ⟨[],λ_ _=>False,[]⟩ [] [] f args λs h=>(∃id n,s= .osl id 1 (bs.map aO)/\aJ h id=some (.own e 1 n)/\n=bs.length)\/ ∃id n cap,s= .mw id 1 n/\aJ h id=some (.mrow e 1 cap (bs.map aO))/\n=bs.length/\bs≠[]):vU P f args e bs:=by
 intro w ρ vs hslt hargs
 have hm:Mem ⟨w,ρ.S,λ_=>False,⟨[],λ_ _=>False,[]⟩,ρ,none,[],0⟩ ρ [] w:=
  ⟨rfl,rfl, .refl _,Nat.le_refl _,λ_ _ _=>rfl,λ_ _ h=>h,λ_ _ h _ _=>h,hslt,λ_ _ _=>rfl,λ_ _ h=>by simp [aJ]at h,λ_ _ _ _ _ h=>by simp [aJ]at h,λ_ _ _ h=>by simp [aJ]at h,λid _=>ρ.moved_refl id,λ_ _ _ h=>by simp [aJ]at h,λb hb=>by cases hb⟩
 refine(h _ ρ w #[] rfl hm (λt s h=>by simp [dI]at h) vs hargs).mono ?_
 have hl:(bs.map aO).length=bs.length:=List.length_map ..
 rintro x w' (⟨v,ρ',s,hp',rfl,hk,k2,k3,k4⟩|⟨ch,ρ',hp',_,_,hf,_⟩)
 ·have hgrew:Grew w w':=⟨k2.os,k2.tape,k2.output,k2.size,λb hb=>k2.old b hb (λh=>h)⟩
  rcases hk with⟨id,n,rfl,ho,hn⟩|⟨id,n,cap,rfl,ho,hn,hne⟩
  ·obtain⟨q1,xs,q2,q3,q4⟩:=k2.sat id _ ho
   obtain⟨r1,r2,r3⟩:=k4.osl_inv
   have ev:=r3 (by rw [hl,q1,hn])
   subst ev
   refine⟨_,rfl,hgrew, ?_,λg hg=> ?_⟩
   ·rw [q1,hn]at q2
    obtain⟨p1,p2|⟨g,cap,cur,p2,p3,p4,p5,p6,p7,p8⟩⟩:=q2
    ·refine⟨by simp [dX], .inl p2⟩
    ·refine⟨by simp [dX], .inr ⟨g,cap,cur,p2,p3,p4,p5,p6,p7, ?_⟩⟩
     have:=wG r1 p2 p4 (by rw [p7];omega) rfl
     rw [Nat.mul_one];exact this
   ·rcases k2.hb id _ g ho hg with h1|h1
    ·exact h1
    ·exact h1.elim
  ·obtain⟨q1,q2⟩:=k2.sat id _ ho
   obtain⟨A,c,_,_,_,_,_,e2⟩:=k4.mw_inv
   have ev:=e2 (by rw [q1,hl,hn])
   rcases q2 with⟨p1,p2,A',p3⟩|⟨hc,g,cur,p3,p4,p5,p6,p7,p8,p9⟩
   ·exfalso
    have:(bs.map aO).length=0:=by rw [p1];rfl
    rw [hl]at this
    exact hne (List.length_eq_zero_iff.1 this)
   ·rw [ev,p3]
    refine⟨_,rfl,hgrew,⟨by simp [dX], .inr ⟨g,cap,cur,by rw [hl],Nat.zero_le _,p4,by rw [hl]at p5;exact p5,p6,p7, ?_⟩⟩,λg' hg'=> ?_⟩
    ·have:=aEq p8
     rw [hl]at this;exact this
    ·have hgg:g'=g:=by simp [Value.ownBlock]at hg';exact hg'.symm
     subst hgg
     have hb:dH (ρ'.tv id)=some g':=by
      rw [p3]
      have hc0:cap≠0:=by omega
      simp [dH,hc0]
     rcases k2.hb id _ g' ho hb with h1|h1
     ·exact h1
     ·exact h1.elim
 ·exact hf.elim
theorem vU.tri {f:FuncId}{args:List SV}{e:TypeId}{bs:List UInt8}(h:vU P f args e bs):Tri P f args [] (λr=>r= .d (.sl 1 (bs.map aO))):=by
 intro w ρ vs hslt hargs _
 refine(h w ρ vs hslt hargs).mono ?_
 rintro x w' ⟨v,rfl,h1,h2,h3⟩
 have hl:(bs.map aO).length=bs.length:=List.length_map ..
 have hm:Mem ⟨w,ρ.S,λ_=>False,⟨[],λ_ _=>False,[]⟩,ρ,none,[],0⟩ ρ [] w:=
  ⟨rfl,rfl, .refl _,Nat.le_refl _,λ_ _ _=>rfl,λ_ _ h=>h,λ_ _ h _ _=>h,hslt,λ_ _ _=>rfl,λ_ _ h=>by simp [aJ]at h,λ_ _ _ _ _ h=>by simp [aJ]at h,λ_ _ _ h=>by simp [aJ]at h,λid _=>ρ.moved_refl id,λ_ _ _ h=>by simp [aJ]at h,λb hb=>by cases hb⟩
 obtain⟨m1,m2,m3⟩:=hm.newOwn (id:=0) (e:=e) (z:=1) (rows:=bs.map aO) (vs:=dX bs) h1 (by rw [hl];exact h2) h3 (pJ bs) (by simp [oI]) (λh=>by cases h)
 refine⟨v,_,_,rfl,rfl,h1,m1.sold,λb i hs=> ?_,m1.slt,(Rep.d _ _ m3.osl_inv.1:Rep w' _ (.d (.sl 1 (bs.map aO))) v).noids rfl rfl⟩
 rcases Nat.lt_or_ge b w.heap.size with hlt|hge
 ·exact .inl (m1.snew b i hs hlt (λh=>h))
 ·exact .inr hge
end
end Go.Proofs.YtcomlapnibckmaaGreatDoor
