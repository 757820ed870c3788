/-
  Ledgers, the reference: equal parts; Before, Same, New, Left. Ledgers: the source of bytes: take and number. The contract of a function with several boxed results, whose deferred closure recovers, asks what was thrown and writes the results. Ledgers: the source reads a part; Decode. Sums of ints that may wrap: a walk that knows less of the type int takes them by rules of their own. A slice literal whose rows may be written.
  Conditions: none.
-/
import Derived.Test.YtdjfkmkdkclahaaGreatDoorVNq
import Derived.Test.YtdjfkmkdkclahaaGreatDoorVSna
import Derived.Test.YtdjfkmkdkclahaaGreatDoorVSyn
import Derived.Test.YtdjfkmkdkclahaaGreatDoorVXs
import Derived.Test.YtdjfkmkdkclahaaGreatDoorVSza
import Derived.Test.YtdjfkmkdkclahaaGreatDoorVSzf
import Derived.Test.YtdjfkmkdkclahaaGreatDoorVOh
import Derived.Test.YtdjfkmkdkclahaaGreatDoorVSyv
import Derived.Test.YtdjfkmkdkclahaaGreatDoorVQqg
import Derived.Test.YtdjfkmkdkclahaaGreatDoorVA1
set_option linter.unnecessarySimpa false
set_option linter.unusedSectionVars false
set_option linter.unusedSimpArgs false
set_option linter.unusedVariables false
set_option maxHeartbeats 16000000
namespace Go.Proofs.YtdjfkmkdkclahaaGreatDoor
open Go.Proofs Go.RowKit
set_option maxRecDepth 10000
attribute [local irreducible] aL aH Tri aI YVC bP aS
theorem dC (l m:List At):Tri Tryz.prog 27 [.d (.agg (aK l)), .d (.agg (aK m))] [] (λr=>r= .d (.bool (decide (l=m)))):=by
 have hl:(l.map atR).length=l.length:=List.length_map ..
 have hm:(m.map atR).length=m.length:=List.length_map ..
 rw [show aK l=[.sl 6 (l.map atR)]from rfl,show aK m=[.sl 6 (m.map atR)]from rfl]
 refine aG false [2,3] hty Tryz.func27 rfl (kp [0,1,2,3,4,5,12,17,30]) [] _ _ _ (by simp [Tryz.f27]) (by simp) ?_
 ((conv=>whnf);repeat ((first|(intro hq;try simp only [lnS]at hq)|refine sI ?_|refine .intro _ (.intro rfl ?_));(conv=>whnf)))
 refine aD (λh1=> ?_) (λh1=> ?_)
 ·((conv=>whnf);repeat ((first|(intro hq;try simp only [lnS]at hq)|refine sI ?_|refine .intro _ (.intro rfl ?_));(conv=>whnf)))
  refine aN ?_
  rw [decide_eq_false]
  intro e
  subst e
  exact h1 rfl
 ·have h1:l.length=m.length:=by
   have h2:(((l.map atR).length:Nat):Int)=((m.map atR).length:Nat):=by simpa using h1
   rw [hl,hm]at h2
   omega
  ((conv=>whnf);repeat ((first|(intro hq;try simp only [lnS]at hq)|refine sI ?_|refine .intro _ (.intro rfl ?_));(conv=>whnf)))
  refine aJ hty (λj:Nat=>([(2, .ea 1 [[.sl 6 (l.map atR)]] 0 0),(3, .ea 1 [[.sl 6 (m.map atR)]] 0 0),(5, .d (.int .i64 j))],[])) (λj=>j<=l.length/\l.take j=m.take j) (λj=>l.length - j) 0 ⟨Nat.zero_le _,rfl⟩ ⟨by repeat' (first|exact trivial|exact rfl|refine And.intro ?_ ?_),trivial⟩ ?_
  rintro j ⟨hj,ht⟩
  ((conv=>whnf);repeat ((first|(intro hq;try simp only [lnS]at hq)|refine sI ?_|refine .intro _ (.intro rfl ?_));(conv=>whnf)))
  rw [hl]
  refine aC (λh2=> ?_) (λh2=> ?_)
  ·have hjl:j < l.length:=by omega
   have hjm:j < m.length:=by omega
   have hrow:(l.map atR)[((j:Nat):Int).toNat]? =some (atR l[j]):=aO hjl
   have hrow2:(m.map atR)[((j:Nat):Int).toNat]? =some (atR m[j]):=aO hjm
   have hs1:l.take (j+1)=l.take j++[l[j]]:=List.take_succ_eq_append_getElem hjl
   have hs2:m.take (j+1)=m.take j++[m[j]]:=List.take_succ_eq_append_getElem hjm
   have hf:=aTj l[j] m[j]
   rw [dO]at hrow
   rw [dO]at hrow2
   ((conv=>whnf);repeat ((first|(intro hq;try simp only [lnS]at hq)|refine sI ?_|refine .intro _ (.intro rfl ?_));(conv=>whnf)))
   refine dwR ?_
   ((conv=>whnf);repeat ((first|(refine And.intro aTg ?_)|(refine⟨_,hrow, ?_⟩)|(refine⟨_,hrow2, ?_⟩)|(intro hq;try simp only [lnS]at hq)|refine sI ?_|refine .intro _ (.intro rfl ?_));(conv=>whnf)))
   rw [hf]
   unfold zO
   by_cases he:l[j]=m[j]
   ·rw [decide_eq_true he]
    ((conv=>whnf);repeat ((first|(intro hq;try simp only [lnS]at hq)|refine sI ?_|refine .intro _ (.intro rfl ?_));(conv=>whnf)))
    exact⟨j+1,⟨by omega,by rw [hs1,hs2,ht,he]⟩,by dsimp only;omega,by repeat' (first|exact trivial|exact rfl|refine And.intro ?_ ?_),trivial⟩
   ·rw [decide_eq_false he]
    ((conv=>whnf);repeat ((first|(intro hq;try simp only [lnS]at hq)|refine sI ?_|refine .intro _ (.intro rfl ?_));(conv=>whnf)))
    refine aN ?_
    rw [decide_eq_false]
    intro e
    subst e
    exact he rfl
  ·have hjl:j=l.length:=by omega
   subst hjl
   rw [List.take_length,h1,List.take_length]at ht
   ((conv=>whnf);repeat ((first|(intro hq;try simp only [lnS]at hq)|refine sI ?_|refine .intro _ (.intro rfl ?_));(conv=>whnf)))
   refine aN ?_
   rw [decide_eq_true ht]
theorem aEl (a b:Lg):Tri Tryz.prog 38 [.d (.agg (lgR a)), .d (.agg (lgR b))] [] (λr=>r= .d (.bool (mU a b))):=by
 have hi:= @eD a b
 have hla:(a.entries.map bA).length=a.entries.length:=List.length_map ..
 have hlb:(b.entries.map bA).length=b.entries.length:=List.length_map ..
 have hno:¬ (a.reader=b.reader/\a.version=b.version/\a.entries=b.entries.take a.entries.length)->mU a b=false:= λh=>by
  cases h2:mU a b
  ·rfl
  ·exact absurd (hi.1 h2) h
 rw [show lgR a=[.str a.reader, .int .i64 a.version, .sl 2 (a.entries.map bA)]from rfl,show lgR b=[.str b.reader, .int .i64 b.version, .sl 2 (b.entries.map bA)]from rfl]
 refine aG false [2,3] hty Tryz.func38 rfl (kp [0,1,2,3,4,5,26,31,62]) [] _ _ _ (by simp [Tryz.f38]) (by simp) ?_
 ((conv=>whnf);repeat' ((first|(intro hq;(try simp only [lnS]at hq);(try rewrite [List.length_map]))|refine sJ ?_|refine .intro _ (.intro rfl ?_)|refine exL (k:= ?_)|refine dwR ?_|((first|refine aC ?_ ?_|refine aD ?_ ?_)<;>intro hb<;>(first|exact ddX hb|try simp only [lnS]at hb))|(refine aB ?_ ?_<;>intro hb<;>try exact dsX hb))<;>(conv=>whnf)))
 ·exact aN (hno λh=>hb h.1).symm
 ·exact aN (hno λh=>hb h.2.1).symm
 ·exact aN (hno λh=>by have:=wR h.2.2;omega).symm
 ·have e1:a.reader=b.reader:=by assumption
  have e2:a.version=b.version:=by assumption
  have hlen:a.entries.length<=b.entries.length:=by omega
  refine aJ hty (λj:Nat=>([(2, .ea 3 [[.str a.reader, .int .i64 a.version, .sl 2 (a.entries.map bA)]] 0 0),(3, .ea 3 [[.str b.reader, .int .i64 b.version, .sl 2 (b.entries.map bA)]] 0 0),(5, .d (.int .i64 j))],[])) (λj=>j<=a.entries.length/\a.entries.take j=b.entries.take j) (λj=>a.entries.length - j) 0 ⟨Nat.zero_le _,rfl⟩ ⟨by repeat' (first|exact trivial|exact rfl|refine And.intro ?_ ?_),trivial⟩ ?_
  rintro j ⟨hj,ht⟩
  ((conv=>whnf);repeat ((first|(intro hq;try simp only [lnS]at hq)|refine sI ?_|refine .intro _ (.intro rfl ?_));(conv=>whnf)))
  rw [hla]
  refine aC (λh2=> ?_) (λh2=> ?_)
  ·have hjl:j < a.entries.length:=by omega
   have hjm:j < b.entries.length:=by omega
   have hrow:(a.entries.map bA)[((j:Nat):Int).toNat]? =some (bA a.entries[j]):=aO hjl
   have hrow2:(b.entries.map bA)[((j:Nat):Int).toNat]? =some (bA b.entries[j]):=aO hjm
   have hs1:a.entries.take (j+1)=a.entries.take j++[a.entries[j]]:=List.take_succ_eq_append_getElem hjl
   have hs2:b.entries.take (j+1)=b.entries.take j++[b.entries[j]]:=List.take_succ_eq_append_getElem hjm
   have hc:=dC a.entries[j].part b.entries[j].part
   have he:= @aQv a.entries[j] b.entries[j]
   have hne : a.entries[j] ≠ b.entries[j] -> mU a b = false := λhn => hno λh => hn (by
    have h3:=congrArg (λl=>l[j]?) h.2.2
    simp only [List.getElem?_take,if_pos hjl,List.getElem?_eq_getElem hjl,List.getElem?_eq_getElem hjm]at h3
    injection h3)
   rw [show bA a.entries[j]=[.int .i64 a.entries[j].no, .sl 6 (a.entries[j].part.map atR)]from rfl]at hrow
   rw [show bA b.entries[j]=[.int .i64 b.entries[j].no, .sl 6 (b.entries[j].part.map atR)]from rfl]at hrow2
   rw [show aK a.entries[j].part=[.sl 6 (a.entries[j].part.map atR)]from rfl,show aK b.entries[j].part=[.sl 6 (b.entries[j].part.map atR)]from rfl]at hc
   ((conv=>whnf);repeat ((first|(intro hq;try simp only [lnS]at hq)|refine sI ?_|refine .intro _ (.intro rfl ?_));(conv=>whnf)))
   refine dwR ?_
   ((conv=>whnf);repeat ((first|(refine⟨_,hrow, ?_⟩)|(refine⟨_,hrow2, ?_⟩)|(intro hq;try simp only [lnS]at hq)|refine sI ?_|refine .intro _ (.intro rfl ?_));(conv=>whnf)))
   by_cases h3:a.entries[j].no=b.entries[j].no
   ·rw [decide_eq_true h3]
    ((conv=>whnf);repeat ((first|(refine⟨_,hrow, ?_⟩)|(refine⟨_,hrow2, ?_⟩)|(refine⟨.d (.bool _),_,[],rfl,trivial,hc, ?_⟩)|(intro hq;try simp only [lnS]at hq)|refine sI ?_|refine .intro _ (.intro rfl ?_));(conv=>whnf)))
    by_cases h4:a.entries[j].part=b.entries[j].part
    ·rw [decide_eq_true h4]
     ((conv=>whnf);repeat ((first|(intro hq;try simp only [lnS]at hq)|refine sI ?_|refine .intro _ (.intro rfl ?_));(conv=>whnf)))
     exact⟨j+1,⟨by omega,by rw [hs1,hs2,ht,he.2 ⟨h3,h4⟩]⟩,by dsimp only;omega,by repeat' (first|exact trivial|exact rfl|refine And.intro ?_ ?_),trivial⟩
    ·rw [decide_eq_false h4]
     ((conv=>whnf);repeat ((first|(intro hq;try simp only [lnS]at hq)|refine sI ?_|refine .intro _ (.intro rfl ?_));(conv=>whnf)))
     exact aN (hne λh=>h4 (he.1 h).2).symm
   ·rw [decide_eq_false h3]
    ((conv=>whnf);repeat ((first|(intro hq;try simp only [lnS]at hq)|refine sI ?_|refine .intro _ (.intro rfl ?_));(conv=>whnf)))
    exact aN (hne λh=>h3 (he.1 h).1).symm
  ·have hjl:j=a.entries.length:=by omega
   subst hjl
   rw [List.take_length]at ht
   ((conv=>whnf);repeat ((first|(intro hq;try simp only [lnS]at hq)|refine sI ?_|refine .intro _ (.intro rfl ?_));(conv=>whnf)))
   exact aN (hi.2 ⟨e1,e2,ht⟩).symm
def aE8 (a b:Lg):Bool:=decide ((a.entries.length:Int)=b.entries.length) && mU a b
theorem wW {a b:Lg}:aE8 a b=true↔a=b:=by
 unfold aE8
 rw [Bool.and_eq_true,decide_eq_true_eq]
 constructor
 ·rintro⟨h1,h2⟩
  obtain⟨e1,e2,e3⟩:=eD.1 h2
  cases a;cases b
  dsimp only at *
  have h1:List.length _=List.length _:=Int.ofNat.inj h1
  rw [h1,List.take_length]at e3
  subst e1 e2 e3
  rfl
 ·rintro rfl
  exact⟨rfl,aFl a⟩
theorem lM (a b:Lg):Tri Tryz.prog 14 [.d (.agg (lgR a)), .d (.agg (lgR b))] [] (λr=>r= .d (.bool (aE8 a b))):=by
 have hc:=aEl a b
 have hla:(a.entries.map bA).length=a.entries.length:=List.length_map ..
 have hlb:(b.entries.map bA).length=b.entries.length:=List.length_map ..
 rw [show lgR a=[.str a.reader, .int .i64 a.version, .sl 2 (a.entries.map bA)]from rfl,show lgR b=[.str b.reader, .int .i64 b.version, .sl 2 (b.entries.map bA)]from rfl]at hc |-
 unfold aE8
 generalize mU a b=bb at *
 refine aG false [2,3] hty Tryz.func14 rfl (kp [0,1,2,3,4]) [] _ _ _ (by simp [Tryz.f14]) (by simp) ?_
 ((conv=>whnf);repeat' ((first|(intro hq;(try simp only [lnS]at hq);(try rewrite [List.length_map]))|refine sJ ?_|refine .intro _ (.intro rfl ?_)|refine exL (k:= ?_)|(refine aA [] hc trivial (λr hs=> ?_);subst hs)|refine dwR ?_|((first|refine aC ?_ ?_|refine aD ?_ ?_)<;>intro hb<;>(first|exact ddX hb|try simp only [lnS]at hb))|(refine aB ?_ ?_<;>intro hb<;>try exact dsX hb))<;>(conv=>whnf)))
 ·refine aN ?_
  rw [decide_eq_true (by omega),Bool.true_and]
 ·refine aN ?_
  rw [decide_eq_false (by omega),Bool.false_and]
end Go.Proofs.YtdjfkmkdkclahaaGreatDoor
namespace Go.Proofs.YtdjfkmkdkclahaaGreatDoor
open Go.Proofs Go.RowKit
set_option maxRecDepth 10000
theorem eX {P:Program}{ti:TypeId->Option TI}(hti:cQ P ti) {o:Oper}{t:TypeId}{x:Operand}(ho:o.op= .makeInterface t x) {Ts:TI}(hT:ti t=some Ts) {fs:List (TypeId×Nat)}(htd:Ts.td= .struct fs) {pin:Pin}{fr:Fr}{hp:Hp}{K:SV->Hp->Prop}{k:IntKind}{n:Int}
  (hx:evO fr x=some (.d (.agg [.int k n]))) (hk:K (.d (.lit (.iface t (.agg #[.int k n])))) hp):aS P o pin fr hp K:=by
 intro E ρ a w _ hm hf next Q hq
 obtain⟨d0,i0,z0,hT0⟩:=aQ (hti _ _ hT)
 have hni: ∀m,d0≠ .interface m:=by
  intro m e
  have:=hT0.td
  rw [htd,e]at this
  simp [aDg]at this
 have e1:a.eval x= .agg #[.int k n]:=by
  have hr:=aW hf hx
  generalize a.eval x=v at hr
  cases hr with
  |d _ _ hd=>
   cases hd with
   |agg cs vs hl h=>
    match vs,hl,h with
    |⟨[v]⟩,hl,h=>
     have:=h 0 (.int k n) v rfl rfl
     cases this
     rfl
    |⟨[]⟩,hl,_=>simp at hl
    |⟨_::_::_⟩,hl,_=>simp at hl
 have hrun:(execOp a.eval o).run P w= .ok (.value (.iface t (.agg #[.int k n]))) w:=by
  simp only [execOp,ho,e1,Instr.makeInterface,Sem.run_bind,run_underlying hT0.und,Result.andThen_ok]
  cases d0<;>first|rfl|exact absurd rfl (hni _)
 exact bY hrun (hq _ w ρ _ hp hk hm hf (.d _ _ (.lit _)))
attribute [local irreducible] aL aH Tri aI YVC bP aS
abbrev srO (b:List UInt8):HObj:= .cells 85 [.d (.sl 1 (b.map aP))]
def aX7:Value:= .agg #[.int .i64 380]
abbrev pvS:Option (TypeId->Value->Prop):=some λt v=>t=81/\v=aX7
abbrev aXl (q:Prop):Pin:=⟨[3],λ_ h=>q/\ ∃b:List UInt8,aR h 3=some (srO b),[],pvS⟩
def RdS {α:Type}(f:FuncId) (ex:List SV) (r:Rd α) (e:α->SV):Prop:= ∀bs:List UInt8,bs.length<=1000000->
 aH Tryz.prog (aXl (r bs=none)) [] [(3,srO bs)] f (.ptr 3 0::ex) (λs h=> ∃x c,r bs=some (x,c)/\s=e x/\aR h 3=some (srO c))
theorem RdS.call {α:Type}{f:FuncId}{ex:List SV}{r:Rd α}{e:α->SV}(h:RdS f ex r e) (hx:SV.idsL ex=[]) (he: ∀x,(e x).ids=[]) {pin:Pin}{fr:Fr}{hp:Hp}{i:Nat}{K:SV->Hp->Prop}(bs:List UInt8) (hb:bs.length<=1000000) (hg:aR hp i=some (srO bs))
  (hok: ∀x c,r bs=some (x,c)->iG hp i (srO c) (K (e x))) (hno:r bs=none-> ∀b,pin.kp fr (dW hp i (srO b))) (hpv:pin.pv=pvS:=by rfl):aH Tryz.prog pin fr hp f (.ptr i 0::ex) K:=by
 have hs: ∀b,(srO b).sim:= λb s hs=>by simp at hs;subst hs;exact rfl
 refine jK (λ_=>i) [3] [(3,srO bs)] (h bs hb) (aNa hg rfl (hs bs)) (λk hk=>hk) (by rw [List.map_cons,xB hx];rfl) ?_ ?_ ?_ (.inl hpv)
 ·intro s hs
  rcases List.mem_cons.1 hs with rfl|hs
  ·trivial
  ·exact wV hx s hs
 ·rintro s h1 ⟨x,c,e1,rfl,e3⟩
  refine⟨aHd (he x), ?_,_,aLw hg e3 (hs c) (λh=>h) rfl rfl, ?_⟩
  ·intro j hj
   rw [he]at hj
   cases hj
  rw [aHe (he x)]
  have:=hok x c e1
  rw [cX]at this
  exact this
 ·rintro h1 ⟨hq,b,e3⟩
  exact⟨_,aLw hg e3 (hs b) (λh=>h) rfl rfl,hno hq b⟩
theorem aFz (m:Nat):RdS 54 [.d (.int .i64 m)] (lW m) (λl=> .d (.sl 1 (l.map aP))):=by
 intro bs hb
 have hl:(bs.map aP).length=bs.length:=List.length_map ..
 refine aM false [] hty Tryz.func54 rfl (kp [0,1,4,5,12]) 100 (by simp [Tryz.f54]) ?_
 ((conv=>whnf);repeat' ((first|(intro hq;(try simp only [lnS]at hq);(try rewrite [List.length_map]))|refine sJ ?_|refine .intro _ (.intro rfl ?_)|refine exL (k:= ?_)|(refine eX hty rfl (by with_unfolding_all exact rfl) rfl rfl ?_)|refine dwR ?_|((first|refine aC ?_ ?_|refine aD ?_ ?_)<;>intro hb<;>(first|exact ddX hb|try simp only [lnS]at hb))|(refine aB ?_ ?_<;>intro hb<;>try exact dsX hb))<;>(conv=>whnf)))
 ·exact⟨⟨rfl,rfl⟩,vZ (by omega),bs,rfl⟩
 ·have e1:List.drop 0 (List.take ((m:Nat):Int).toNat (bs.map aP))=(bs.take m).map aP:=by rw [Int.toNat_natCast,List.drop_zero,List.map_take]
  have e2:List.drop ((m:Nat):Int).toNat (List.take (bs.map aP).length (bs.map aP))=(bs.drop m).map aP:=by rw [Int.toNat_natCast,List.take_length,List.map_drop]
  refine⟨bs.take m,bs.drop m,lL (by omega), ?_, ?_⟩
  ·show SV.d (D.sl 1 (List.drop 0 (List.take ((m:Nat):Int).toNat (bs.map aP))))=_
   rw [e1]
  ·show some (HObj.cells 85 [SV.d (D.sl 1 (List.drop ((m:Nat):Int).toNat (List.take (bs.map aP).length (bs.map aP))))])=_
   rw [e2]
theorem wT (m:Nat) (hm:m<=8):RdS 55 [.d (.int .i64 m)] (pJ (aA6 m) sgN) (λz=> .d (.int .i64 z)):=by
 intro bs hb
 refine aM false [] hty Tryz.func55 rfl (kp [0,1,4,5,7,10,11,12,13]) 100 (by simp [Tryz.f55]) ?_
 ((conv=>whnf);repeat ((first|(intro hq;try simp only [lnS]at hq)|refine sI ?_|refine .intro _ (.intro rfl ?_));(conv=>whnf)))
 refine RdS.call (aFz m) rfl (λ_=>rfl) bs hb rfl (λc r e1=> ?_) (λe1 b=>⟨dY (dY e1),b,rfl⟩)
 have hle:m<=bs.length:=by
  rcases Nat.lt_or_ge bs.length m with h|h
  ·rw [vZ h]at e1;cases e1
  ·exact h
 have hfin:pJ (aA6 m) sgN bs=some (sgN (deN c),r):=bS (bS e1)
 have hlen:c.length=m:=by
  rw [lL hle]at e1
  injection e1 with e1
  injection e1 with e1 _
  rw [<-e1,List.length_take];omega
 clear e1
 ((conv=>whnf);repeat ((first|(intro hq;try simp only [lnS]at hq)|refine sI ?_|refine .intro _ (.intro rfl ?_));(conv=>whnf)))
 refine sV hty (λj:Nat=>([(5, .d (.int .u64 ((deN (c.take j):Nat):Int))),(10, .d (.sl 1 (c.map aP))),(11, .d (.int .i64 c.length)),(12, .d (.int .i64 j))],[(3,srO r)])) (λj=>j<=c.length) (λj=>c.length - j) 0 (by omega) (by repeat' (first|exact trivial|exact rfl|(rw [List.length_map];exact rfl)|refine And.intro ?_ ?_)) rfl ?_
 intro j hj
 ((conv=>whnf);repeat ((first|(intro hq;try simp only [lnS]at hq)|refine sI ?_|refine .intro _ (.intro rfl ?_));(conv=>whnf)))
 refine aC (λh1=> ?_) (λh1=> ?_)
 ·have hjl:j < c.length:=by omega
  have hrow:(c.map aP)[(j:Int).toNat]? =some (aP c[j]):=aO hjl
  have hx:deN (c.take j) < 72057594037927936:=by
   have h2:=jR j (c.take j) (by rw [List.length_take];omega)
   have h3:256 ^ j<=256 ^ 7:=Nat.pow_le_pow_right (by decide) (by omega)
   have h4:(256:Nat) ^ 7=72057594037927936:=by decide
   omega
  have hc:(c[j]).toNat < 256:=c[j].toNat_lt
  have hn:deN (c.take (j+1))=256 * deN (c.take j)+(c[j]).toNat:=by rw [List.take_succ_eq_append_getElem hjl,lS]
  have ho:=aLf hx hc
  have hw:=gJ (c[j]).toNat (by omega)
  ((conv=>whnf);repeat' ((first|(intro hq;(try simp only [lnS]at hq);(try rewrite [List.length_map]))|refine sJ ?_|refine .intro _ (.intro rfl ?_)|refine exL (k:= ?_)|(refine⟨_,hrow, ?_⟩)|refine dwR ?_|((first|refine aC ?_ ?_|refine aD ?_ ?_)<;>intro hb<;>(first|exact ddX hb|try simp only [lnS]at hb))|(refine aB ?_ ?_<;>intro hb<;>try exact dsX hb))<;>(conv=>whnf)))
  have ho2:bits .or .u64 (IntKind.u64.wrap (((deN (c.take j):Nat):Int)* 2 ^ (min (8:Int).toNat IntKind.u64.bits))) (IntKind.u64.wrap ((c[j]).toNat:Int))=((deN (c.take (j+1)):Nat):Int):=by rw [hw,hn];exact ho
  refine⟨j+1,by dsimp only;omega,by dsimp only;omega, ?_⟩
  dsimp only
  rw [<-ho2]
  exact⟨by repeat' (first|exact trivial|exact rfl|refine And.intro ?_ ?_),rfl⟩
 ·have hjl:j=c.length:=by omega
  subst hjl
  rw [List.take_length]
  ((conv=>whnf);repeat' ((first|(intro hq;(try simp only [lnS]at hq);(try rewrite [List.length_map]))|refine sJ ?_|refine .intro _ (.intro rfl ?_)|refine exL (k:= ?_)|refine dwR ?_|((first|refine aC ?_ ?_|refine aD ?_ ?_)<;>intro hb<;>(first|exact ddX hb|try simp only [lnS]at hb))|(refine aB ?_ ?_<;>intro hb<;>try exact dsX hb))<;>(conv=>whnf)))
  refine⟨_,_,hfin, ?_,rfl⟩
  have h8:=jR m c hlen
  have h9:256 ^ m<=256 ^ 8:=Nat.pow_le_pow_right (by decide) hm
  have h10:(256:Nat) ^ 8=18446744073709551616:=by decide
  exact congrArg (λz=>SV.d (.int .i64 z)) (aIq _ (by omega))
end Go.Proofs.YtdjfkmkdkclahaaGreatDoor
namespace Go.Proofs.YtdjfkmkdkclahaaGreatDoor
open Go.RowKit
section
variable {P:Program}
theorem aT6 {ρ:Env}{bs:List Bx}{i:Nat}{b:Bx}(h:bs[i]? =some b):(bxV ρ bs)[i]? =some (aTe ((ρ.blk b.1).getD 0)):=by
 simp only [bxV,List.getElem?_toArray,List.getElem?_map,h,Option.map_some]
theorem sC {ρ:Env}{bs:List Bx}:(bxV ρ bs).size=bs.length:=by simp [bxV]
theorem aO3 (zc:Bool) (frz:List Nat) {ti:TypeId->Option TI}(hti:cQ P ti) (hmix:P.follows .mixedOrders=true) {f:FuncId}{fn:Func}{i j:Nat}{opsA:Array Oper}{mk df:Oper}{B:Code}
  (hf:P.funcs[f]? =some fn) (hb:fn.body=some (.seq (.region i opsA false) (.seq (.region j #[mk,df] false) B)))
  {g:FuncId} {gn:Func} {r0 r1 i2 i3 i5:Nat} {rc asv mv nq m2 ta:Oper} {a0 a b c b2 d2 e:Nat} {tI tJ tF:TypeId} {ms:Array (String×TypeId)} {oY o3:Array Oper} {o2 o5:List Oper} {Z:Code} (bs:List Bx) (T:OT)
  (hg:P.funcs[g]? =some gn) (hgb:gn.body=some (.seq (.region r0 #[rc,asv] false) (.seq (.region r1 #[mv,nq] false) (.cond (.tmp c) (.seq (.region i2 oY false) (.seq (.seq (.region i3 o3 false) (.cond (.tmp e) Z .skip)) (.region i5 o5.toArray true))) .skip))))
  (h1:rc.op= .call { callee:= .builtin .recover,args:= #[],argTypes:= #[] }) (h2:rc.dst=some a0) (h3:rc.guard=none) (g1:asv.op= .assign (.tmp a0)) (g2:asv.dst=some a) (g3:asv.guard=none) (f1:mv.op= .move (.tmp a)) (f2:mv.dst=some b) (f3:mv.guard=none)
  (h4:nq.op= .binOp .neq tI (.tmp b) (.const .nilIface) tJ) (h5:nq.dst=some c) (h6:nq.guard=none)
  (hoY:oY.toList=m2::ta::o2) (p1:m2.op= .move (.tmp a)) (p2:m2.dst=some b2) (p3:m2.guard=none) (q1:ta.op= .typeAssert (.tmp b2) tI tF true) (q2:ta.dst=some d2) (q3:ta.guard=none)
  (hI:P.underlying tI=some (.interface ms)) {dF:TypeDesc} (hF:P.underlying tF=some dF) (hF2: ∀m,dF≠ .interface m)
  (hlt:a0 < gn.ntmps/\a < gn.ntmps/\b < gn.ntmps/\c < gn.ntmps/\b2 < gn.ntmps/\d2 < gn.ntmps) (hge:bs.length<=a0/\bs.length<=a/\bs.length<=b/\bs.length<=c/\bs.length<=b2/\bs.length<=d2) (hne:a≠b/\a≠c) (hgr:gn.results= #[]) (hcall:dE P g=true)
  {d:Nat} (m1:mk.op= .makeFunc (.func g) #[] (bs.map λb=>Operand.tmp b.1).toArray) (m2':mk.dst=some d) (m3:mk.guard=none) (d1:df.op= .defer { callee:= .value (.tmp d),args:= #[],argTypes:= #[] }) (d2':df.dst=none) (d3:df.guard=none) (hd:d < fn.ntmps) (hbn:(bs.map (·.1)).Nodup)
  (keep keepY:Nat->Bool) (pin:List Nat) (args:List SV) (hp:Hp) (post:SV->Prop) (q:Prop) (v0:Value) (x0:D) (hx0: ∀(w:World) (S:Nat->Nat->Prop),RepD w S x0 v0) (hn:args.length<=fn.ntmps) (hnd:(hp.map (·.1)).Nodup)
  (hA : sU ⟨P, ti, dR pin, fn.ntmps, keep, 0, none, zc, frz⟩ opsA.toList (λfr hp1 => (∀ b ∈ bs, dH fr b.1 = some (.ptr b.1 0)) /\
   ∀pre,X ⟨P,ti,⟨bs.map (·.1)++pin,KPn q bs,pre,some λt v=>t=tF/\v=v0⟩,fn.ntmps,keep,0,none,zc,frz⟩ B (aG0 fr d (.fn g [] (bs.map λb=> .ptr b.1 0))) hp1 (sR ti fn.results.toList post)) opsA.toList (dQ 0 args) (roH hp))
  (hord:(decide (T.depth<=o5.length) && Region.noSelect o5.toArray && aHl o5.toArray T (Array.replicate o5.length false) false && gZ o5)=true)
  (hY : q -> ∀ vs : List (List Value), aHu bs vs -> sU ⟨P, ti, dR (bs.map (·.1) ++ pin), gn.ntmps, keepY, 200, none, false, []⟩ (m2 :: ta :: o2) (λfr hp1 => sU ⟨P, ti, dR (bs.map (·.1) ++ pin), gn.ntmps, keepY, 200, none, false, []⟩ o3.toList (λfr hp1 => dH fr e = some (.d (.bool false)) /\
   dU ⟨P,ti,dR (bs.map (·.1)++pin),gn.ntmps,keepY,200,none,false,[]⟩ o5 (λ_ hp2=>fF ti (aQy bs) hp2 fn.results.toList (λl=>dV hp2 l λl=>(cK l).ids=[]/\post (cK l))) T fr hp1) o3.toList fr hp1) o2 ((d2, .tup [.d x0, .d (.bool true)])::aTl 0 bs) (aD9 bs (vs.map aJx))):
  Tri P f args hp post:=by
 intro w ρ vs hslt hargs hro
 refine dM (r:=none) (n:=0) |>.1 (callsIn_of_wp_marks hf hb trivial ?_)
 have hm:Mem ⟨w,ρ.S,λ_=>False,dR pin,ρ,none,[],0⟩ ρ (roH hp) w:=by
  have hat: ∀id o,aR (roH hp) id=some o->ρ.at id o=none:=by
   intro id o ho
   rcases eU hp id o hnd ho with⟨t,cs,rfl,_⟩|⟨g,z,rows,rfl,_⟩|⟨X,rfl,_⟩
   ·rfl
   ·rfl
   ·rfl
  refine⟨rfl,rfl, .refl _,Nat.le_refl _,λ_ _ _=>rfl,λ_ _ h=>h,λ_ _ h _ _=>h,hslt,λ_ _ _=>rfl, ?_, ?_, ?_,λid _=>ρ.moved_refl id, ?_,λb hb=>by cases hb⟩
  ·intro id o ho
   rcases eU hp id o hnd ho with⟨t,cs,rfl,h|h⟩|⟨g,z,rows,rfl,h⟩|⟨X,rfl,h|h⟩
   ·exact hro id _ h
   ·exact hro id _ h
   ·exact hro id _ h
   ·exact hro id _ h
   ·exact hro id _ h
  ·intro id o id' o' g h1 _ h3 _;rw [hat id o h1]at h3;cases h3
  ·intro id o g h1 h3;rw [hat id o h1]at h3;cases h3
  ·intro id x g _ _ _ id' o' h3 h4;rw [hat id' o' h3]at h4;cases h4
 have hfs:cJ ρ w (dQ 0 args) (vs++Array.replicate (fn.ntmps - vs.size) undef):=by
  intro t s ht
  obtain⟨_,h2⟩:=dK args 0 t s ht
  simp only [Nat.sub_zero]at h2
  have hlt:=(List.getElem?_eq_some_iff.1 h2).1
  have hlt':t < vs.size:=by rw [hargs.1];exact hlt
  refine⟨vs[t], ?_,hargs.2 t s _ h2 (Array.getElem?_eq_getElem hlt')⟩
  rw [Array.getElem?_append_left hlt',Array.getElem?_eq_getElem hlt']
 obtain⟨l1,l2,l3,l4,l5,l6⟩:=hlt
 obtain⟨k1,k2,k3,k4,k5,k6⟩:=hge
 refine wpIn_seq (wpIn_region ?_)
 have key : ∀ fr1 hp1 a1 w1, ((∀ b ∈ bs, dH fr1 b.1 = some (.ptr b.1 0)) /\
   ∀pre,X ⟨P,ti,⟨bs.map (·.1)++pin,KPn q bs,pre,some λt v=>t=tF/\v=v0⟩,fn.ntmps,keep,0,none,zc,frz⟩ B (aG0 fr1 d (.fn g [] (bs.map λb=> .ptr b.1 0))) hp1 (sR ti fn.results.toList post))->
   Sat ⟨w,ρ.S,λ_=>False,dR pin,ρ,none,[],0⟩ fn.ntmps ⟨fr1,hp1⟩ a1 w1->
   (Code.seq (.region j #[mk,df] false) B).wpIn (FW none) 0 P (bodyPostM (FW none) 0 P fn (eE post w ρ)) a1 w1:=by
  rintro fr1 hp1 a1 w1 ⟨kx,kB⟩ hs
  refine aJ7 m1 m2' m3 d1 d2' d3 hd hs ⟨rfl,rfl⟩ kx (bs.map (·.1)++pin) (KPn q bs) (some λt v=>t=tF/\v=v0) ?_
  intro ρ1 a2 hm1 hblk hs2
  generalize hdfr:({ target:= .fn (.func g) (bxV ρ1 bs),args:= #[] }:Deferred)=dfr at hs2
  refine wpIn_mono (jM (C:=⟨P,ti,⟨bs.map (·.1)++pin,KPn q bs,[dfr],some λt v=>t=tF/\v=v0⟩,fn.ntmps,keep,0,none,zc,frz⟩) hti B _ _ _ (kB _) (bG w1 ρ1 hp1 ⟨bs.map (·.1)++pin,KPn q bs,[dfr],some λt v=>t=tF/\v=v0⟩ none []) a2 w1 rfl rfl hs2) ?_
  rintro e0' a' w' ⟨e0,fr',hp',E',hE,hrel,hk,hnt,hdf,ρ',hm',hf'⟩
  obtain⟨own,q1',q2',q3',q4',q5'⟩:=iV hE rfl
  have hpre:E'.pin.pre=[dfr]:=by rw [hE.pin];rfl
  have fin:fF ti fr' hp' fn.results.toList (λl=>dV hp' l λl=>(cK l).ids=[]/\post (cK l))->LeavesInM (FW none) 0 P fn a'.tmps (eE post w ρ) a'.defers .returning w':=by
   intro hk
   rw [hdf,q2',hpre]
   refine fE (by simp) [dfr] own E' w' hm' ⟨_,q1',q5'⟩ q4' q3' ?_
   rintro E'' w'' ⟨p1,p2,p3,p4,p5,p6⟩ hm'' hkp
   have hmE:=hm1.leave (pin:=⟨bs.map (·.1)++pin,KPn q bs,[dfr],some λt v=>t=tF/\v=v0⟩) (rd:=none) hm'' ⟨p1.trans hE.w,p2.trans hE.S,p3.trans hE.B,p4.trans hE.pin,p5.trans hE.ρ,λb hb=>by cases hb⟩ (λid hid=>List.mem_append_right _ hid)
   have hf'':cJ ρ' w'' fr' a'.tmps:=hf'.mono hkp (λ_ _ x=>x) λi _=>ρ'.moved_refl i
   rw [<-hdfr]
   exact wF (by simp) hg hcall (aL4 hg hgb h1 h2 h3 g1 g2 g3 f1 f2 f3 h4 h5 h6 hI l1 l2 l3 l4 hgr (by rw [sC];omega) (λv=>aC8 hti hmE hf'' hk))
  have finp: ∀ch,Chn (some λt v=>t=tF/\v=v0) ch->KPn q bs fr' hp'->LeavesInM (FW none) 0 P fn a'.tmps (eE post w ρ) a'.defers (.panicking ch) w':=by
   rintro ch ⟨t,v,rfl,rfl,rfl⟩ ⟨hqq,hkl⟩
   rw [hdf,q2',hpre]
   refine fE (by simp) [dfr] own E' w' hm' ⟨_,q1',q5'⟩ q4' q3' ?_
   rintro E'' w'' ⟨p1',p2',p3',p4',p5',p6'⟩ hm'' hkp
   have hmE:=hm1.leave (pin:=⟨bs.map (·.1)++pin,KPn q bs,[dfr],some λt' v'=>t'=t/\v'=v⟩) (rd:=none) hm'' ⟨p1'.trans hE.w,p2'.trans hE.S,p3'.trans hE.B,p4'.trans hE.pin,p5'.trans hE.ρ,λb hb=>by cases hb⟩ (λid hid=>List.mem_append_right _ hid)
   have hf'':cJ ρ' w'' fr' a'.tmps:=hf'.mono hkp (λ_ _ x=>x) λi _=>ρ'.moved_refl i
   have hmv:=hm''.mv
   rw [p4'.trans hE.pin,p5'.trans hE.ρ]at hmv
   have hblk': ∀b∈bs,ρ'.blk b.1=some ((ρ1.blk b.1).getD 0):= λb hb=>(hmv b.1 (List.mem_append_left _ (List.mem_map.2 ⟨b,hb,rfl⟩))).1.trans (hblk b hb)
   obtain⟨cs,hcl,hsub⟩:=hkl.cells
   have hmY:=hmE.sub (hp':=aD9 bs cs) hsub
   obtain⟨vs',lvs,hmY⟩:=aQe bs cs [] hcl (by simp) hbn hmY
   rw [List.nil_append]at hmY
   have hfx:cJ ρ' w'' (aQy bs) a'.tmps:=by
    intro t s ht
    obtain⟨b,hb,rfl,rfl⟩:=aF8 _ _ _ ht
    exact hf'' _ _ (hkl.fr b hb)
   rw [<-hdfr]
   refine wF (by simp) hg hcall (aOi hg hgb h1 h2 h3 g1 g2 g3 f1 f2 f3 h4 h5 h6 hI l1 l2 l3 l4 hgr (by rw [sC];omega) ?_)
   intro A hAt hAd
   have hAs:A.tmps.size=gn.ntmps:=by
    rw [hAt];simp only [Array.size_setIfInBounds,Array.size_append,Array.size_replicate,sC];omega
   have hbx: ∀(i:Nat) (b:Bx),bs[i]? =some b->A.tmps[i]? =some (aTe ((ρ1.blk b.1).getD 0)):=by
    intro i b hi
    have hil:=(List.getElem?_eq_some_iff.1 hi).1
    rw [hAt,Array.getElem?_setIfInBounds_ne (by omega),Array.getElem?_setIfInBounds_ne (by omega),Array.getElem?_setIfInBounds_ne (by omega),Array.getElem?_setIfInBounds_ne (by omega),Array.getElem?_append_left (by rw [sC];omega)]
    exact aT6 hi
   have hsz0:(bxV ρ1 bs++Array.replicate (gn.ntmps - (bxV ρ1 bs).size) undef).size=gn.ntmps:=by
    simp only [Array.size_append,Array.size_replicate,sC];omega
   have ev1:A.eval (.tmp a)= .iface t v:=by
    have:A.tmps[a]? =some (.iface t v):=by
     rw [hAt,Array.getElem?_setIfInBounds_ne (Ne.symm hne.2),Array.getElem?_setIfInBounds_ne (Ne.symm hne.1),Array.getElem?_setIfInBounds_self_of_lt (by rw [Array.size_setIfInBounds,hsz0];exact l2)]
    simp [Act.eval,Array.getD_eq_getD_getElem?,this]
   refine wpIn_seq (wpIn_region ?_)
   refine sQ ?_
   rw [hoY]
   have e1:(execOp A.eval m2).run P w''= .ok (.value (.iface t v)) w'':=by
    simp [execOp,p1,ev1]
   have w1: ∀y,Region.wanted m2 y=true:= λy=>by simp [Region.wanted,p3]
   have w2: ∀y,Region.wanted ta y=true:= λy=>by simp [Region.wanted,q3]
   have kk1:((m2::ta::o2).toArray)[0]? =some m2:=rfl
   have kk2:((m2::ta::o2).toArray)[1]? =some ta:=rfl
   show wpOpsIn (FW none) 0 P (m2::ta::o2).toArray _ (0::1::List.range' 2 o2.length) A w''
   simp only [wpOpsIn,kk1,kk2,w1,w2,if_true]
   refine⟨λ_ _=>trivial, ?_⟩
   show Oper.uponIn (FW none) 0 P m2 A _ _ ((execOp A.eval m2).run P w'')
   rw [e1,Oper.uponIn_value]
   have ev2:(A.put m2.dst (.iface t v)).eval (.tmp b2)= .iface t v:=by
    rw [p2]
    simp [Act.put,Act.eval,hAs,l5]
   have e2:(execOp (A.put m2.dst (.iface t v)).eval ta).run P w''= .ok (.value (.tuple #[v, .bool true])) w'':=by
    cases dF with
    |interface m=>exact absurd rfl (hF2 m)
    |_=>simp [execOp,q1,ev2,Instr.typeAssert,run_underlying hF]
   refine⟨λ_ _=>trivial, ?_⟩
   show Oper.uponIn (FW none) 0 P ta (A.put m2.dst (.iface t v)) _ _ ((execOp (A.put m2.dst (.iface t v)).eval ta).run P w'')
   rw [e2,Oper.uponIn_value]
   obtain⟨A2,hA2⟩: ∃A2,(A.put m2.dst (.iface t v)).put ta.dst (.tuple #[v, .bool true])=A2:=⟨_,rfl⟩
   rw [hA2]
   have sY:Sat (bG w'' ρ' (aD9 bs (vs'.map aJx)) (dR (bs.map (·.1)++pin)) none []) gn.ntmps ⟨(d2, .tup [.d x0, .d (.bool true)])::aTl 0 bs,aD9 bs (vs'.map aJx)⟩ A2 w'':=by
    refine⟨by rw [<-hA2,bH,bH];exact hAs,by rw [<-hA2,put_defers,put_defers,hAd];rfl,ρ',hmY.enter (dR (bs.map (·.1)++pin)) none, ?_⟩
    intro t' s ht
    rw [<-hA2,p2,q2]
    simp only [dH]at ht
    split at ht
    ·rename_i e'
     subst e'
     injection ht with ht
     subst ht
     refine⟨.tuple #[v, .bool true],by simp [Act.put,hAs,l6], .tup _ _ rfl ?_⟩
     intro j' s' v' hs' hv'
     match j',hs',hv' with
     | 0,hs',hv'=>simp at hs' hv';subst hs';subst hv';exact .d _ _ (hx0 _ _)
     | 1,hs',hv'=>simp at hs' hv';subst hs';subst hv';exact .d _ _ (.bool _)
     |j'+2,hs',_=>simp at hs'
    ·obtain⟨i,b',hi,rfl,rfl⟩:=aF7 _ _ _ _ ht
     have hil:=(List.getElem?_eq_some_iff.1 hi).1
     rw [Nat.zero_add]
     refine⟨aTe ((ρ1.blk b'.1).getD 0), ?_, .ptr _ 0 _ (hblk' b' (List.mem_of_getElem? hi))⟩
     simp only [Act.put]
     rw [Array.getElem?_setIfInBounds_ne (by omega),Array.getElem?_setIfInBounds_ne (by omega)]
     exact hbx i b' hi
   have last: ∀hp2 a2 w2,fF ti (aQy bs) hp2 fn.results.toList (λl=>dV hp2 l λl=>(cK l).ids=[]/\post (cK l))-> ∀fr2,
     Sat (bG w'' ρ' (aD9 bs (vs'.map aJx)) (dR (bs.map (·.1)++pin)) none []) gn.ntmps ⟨fr2,hp2⟩ a2 w2->a2.defers=[]/\LeavesInM (FW none) 0 P fn a'.tmps (eE post w ρ) [] .returning w2:=by
    rintro hp2 a2 w2 hk2 fr2 ⟨_,s2,ρ2,hm2,_⟩
    refine⟨by rw [s2];rfl, ?_⟩
    have hmF:=hmY.leave (pin:=dR (bs.map (·.1)++pin)) (rd:=none) hm2 ⟨rfl,rfl,rfl,rfl,rfl,λb hb=>by cases hb⟩ (λid hid=> ?_)
    ·refine aC8 hti hmF (hfx.mono hm2.kp hm2.sold λid hid=>hm2.mv id ?_) hk2
     show id∈bs.map (·.1)++pin
     obtain⟨p,hp',hi⟩:=List.mem_flatMap.1 hid
     obtain⟨b',hb',rfl⟩:=List.mem_map.1 hp'
     have:id=b'.1:=by simpa [SV.ids]using hi
     rw [this]
     exact List.mem_append_left _ (List.mem_map.2 ⟨b',hb',rfl⟩)
    ·exact List.mem_append_right _ hid
   have lastR: ∀fr2 hp2 a2 w2,dU ⟨P,ti,dR (bs.map (·.1)++pin),gn.ntmps,keepY,200,none,false,[]⟩ o5 (λ_ hp2=>fF ti (aQy bs) hp2 fn.results.toList (λl=>dV hp2 l λl=>(cK l).ids=[]/\post (cK l))) T fr2 hp2->
     Sat (bG w'' ρ' (aD9 bs (vs'.map aJx)) (dR (bs.map (·.1)++pin)) none []) gn.ntmps ⟨fr2,hp2⟩ a2 w2->
     (Code.region i5 o5.toArray true).wpIn (FW none) 0 P (λe aY wY=>(e= .normal\/e= .ret)/\aY.defers=[]/\ ∀v':Value,LeavesInM (FW none) 0 P fn a'.tmps (eE post w ρ) [] (settle (.panicking [{ v:= .iface t v,recovered:=true }])) wY) a2 w2:=by
    intro fr2 hp2 a2 w2 hk2 hs2
    refine aKk (C:=⟨P,ti,dR (bs.map (·.1)++pin),gn.ntmps,keepY,200,none,false,[]⟩) hti T hmix hord hk2 (E:=bG w'' ρ' (aD9 bs (vs'.map aJx)) (dR (bs.map (·.1)++pin)) none []) rfl hs2 ?_ ?_
    ·rintro⟨_,_,h,_⟩
     rcases h with h|h<;>cases h
    ·intro fr3 hp3 a3 w3 hk3 hs3
     obtain⟨z1,z2⟩:=last hp3 a3 w3 hk3 fr3 hs3
     exact⟨.inl rfl,z1,λ_=>z2⟩
   have f3' : ∀ fr2 hp2 a2 w2, sU ⟨P, ti, dR (bs.map (·.1) ++ pin), gn.ntmps, keepY, 200, none, false, []⟩ o3.toList (λfr hp1 => dH fr e = some (.d (.bool false)) /\
      dU ⟨P,ti,dR (bs.map (·.1)++pin),gn.ntmps,keepY,200,none,false,[]⟩ o5 (λ_ hp2=>fF ti (aQy bs) hp2 fn.results.toList (λl=>dV hp2 l λl=>(cK l).ids=[]/\post (cK l))) T fr hp1) o3.toList fr2 hp2->
     Sat (bG w'' ρ' (aD9 bs (vs'.map aJx)) (dR (bs.map (·.1)++pin)) none []) gn.ntmps ⟨fr2,hp2⟩ a2 w2->
     (Code.seq (.seq (.region i3 o3 false) (.cond (.tmp e) Z .skip)) (.region i5 o5.toArray true)).wpIn (FW none) 0 P (λe aY wY=>(e= .normal\/e= .ret)/\aY.defers=[]/\ ∀v':Value,LeavesInM (FW none) 0 P fn a'.tmps (eE post w ρ) [] (settle (.panicking [{ v:= .iface t v,recovered:=true }])) wY) a2 w2:=by
    intro fr2 hp2 a2 w2 hk2 hs2
    refine wpIn_seq (wpIn_seq (wpIn_region ?_))
    refine sQ (fY (C:=⟨P,ti,dR (bs.map (·.1)++pin),gn.ntmps,keepY,200,none,false,[]⟩) hti (all:=o3.toList) (E:=bG w'' ρ' (aD9 bs (vs'.map aJx)) (dR (bs.map (·.1)++pin)) none []) rfl ?_ (λ_ _ _ _ _ _ hk=>hk.elim) o3.toList 0 _ _ _ _ rfl hk2 hs2)
    rintro fr3 hp3 a3 w3 ⟨hk3,hk4⟩ hs3
    have hev:a3.eval (.tmp e)= .bool false:=by
     obtain⟨_,_,ρ3,_,hf3⟩:=hs3
     obtain⟨u,hu1,hu2⟩:=hf3 e _ hk3
     cases hu2 with
     |d _ _ h=>cases h with
      |bool _=>simp [Act.eval,Array.getD_eq_getD_getElem?,hu1]
    refine wpIn_cond hev ?_
    exact wpIn_skip (lastR _ _ _ _ hk4 hs3)
   exact fY (C:=⟨P,ti,dR (bs.map (·.1)++pin),gn.ntmps,keepY,200,none,false,[]⟩) hti (all:=m2::ta::o2) (E:=bG w'' ρ' (aD9 bs (vs'.map aJx)) (dR (bs.map (·.1)++pin)) none []) rfl (λfr2 hp2 a2 w2 hk2 hs2=>f3' fr2 hp2 a2 w2 hk2 hs2) (λ_ _ _ _ _ _ hk=>hk.elim) o2 2 _ _ _ _ rfl (hY hqq vs' lvs) sY
  cases e0<;>cases e0'<;>simp only [Ex.rel]at hrel<;>simp only [KX,sR]at hk
  ·exact fin hk
  ·exact hk.elim
  ·exact hk.elim
  ·exact fin hk
  ·exact finp _ hrel hk
 have s0:Sat ⟨w,ρ.S,λ_=>False,dR pin,ρ,none,[],0⟩ fn.ntmps ⟨dQ 0 args,roH hp⟩ { tmps:=vs++Array.replicate (fn.ntmps - vs.size) undef,defers:=[] } w:=by
  refine⟨?_,rfl,ρ,hm,hfs⟩
  simp only [Array.size_append,Array.size_replicate]
  have:=hargs.1
  omega
 have:=fY (C:=⟨P,ti,dR pin,fn.ntmps,keep,0,none,zc,frz⟩) hti (all:=opsA.toList) (E:=⟨w,ρ.S,λ_=>False,dR pin,ρ,none,[],0⟩) (Q:=Exit.then ((Code.seq (.region j #[mk,df] false) B).wpIn (FW none) 0 P (bodyPostM (FW none) 0 P fn (eE post w ρ))) (bodyPostM (FW none) 0 P fn (eE post w ρ))) rfl
  (λfr1 hp1 a1 w1 hk1 hs1=>key fr1 hp1 a1 w1 hk1 hs1) (λ_ _ _ _ _ _ hk=>hk.elim) opsA.toList 0 _ _ _ _ rfl hA s0
 exact sQ this
end
end Go.Proofs.YtdjfkmkdkclahaaGreatDoor
namespace Go.Proofs.YtdjfkmkdkclahaaGreatDoor
open Go.Proofs Go.RowKit
set_option maxRecDepth 10000
attribute [local irreducible] aL aH Tri aI YVC bP aS
theorem aRq:RdS 56 [] rPt (λp=> .d (.agg (aK p))):=by
 intro bs hbs
 have hl:(bs.map aP).length=bs.length:=List.length_map ..
 have c1:=aAb lA bs hbs (λx _ _=>xN x)
 have hr:rPt bs=match eF rQy lA qy0 280 bs with|(⟨[],[p]⟩,0)=>some (p,[])|_=>none:=rfl
 generalize eF rQy lA qy0 280 bs=res at *
 obtain⟨⟨told,parts⟩,e⟩:=res
 have c1:=c1.mono (post':= λr=>r= .tup [.d (.agg [.sl 1 (told.map aV), .sl 1 (parts.map aK)]), .d (.int .i64 e)]) (λr h=>by obtain⟨x,rfl,hr⟩:=h;exact hr)
 refine aM false [] hty Tryz.func56 rfl (kp [0,2,3,4,29]) 100 (by simp [Tryz.f56]) ?_
 ((conv=>whnf);repeat ((first|(intro hq;try simp only [lnS]at hq)|refine sI ?_|refine .intro _ (.intro rfl ?_));(conv=>whnf)))
 rw [hl]
 refine RdS.call (aFz bs.length) rfl (λ_=>rfl) bs hbs rfl (λc r e1=> ?_) (λe1 b=>by rw [lL (Nat.le_refl _)]at e1;cases e1)
 rw [lL (Nat.le_refl _),List.take_length,List.drop_length]at e1
 injection e1 with e1
 injection e1 with e1 e2
 subst e1 e2
 by_cases he:e=0
 ·subst he
  match told,parts,hr with
  | [],[p],hr=>
   ((conv=>whnf);repeat ((first|(refine aA [] c1 trivial (λr hs=> ?_);subst hs)|(intro hq;try simp only [lnS]at hq)|refine sI ?_|refine .intro _ (.intro rfl ?_));(conv=>whnf)))
   exact⟨p,[],hr,rfl,rfl⟩
  |t::ts,parts,hr=>
   have hr:rPt bs=none:=hr
   ((conv=>whnf);repeat ((first|(refine aA [] c1 trivial (λr hs=> ?_);subst hs)|(refine eX hty rfl (by with_unfolding_all exact rfl) rfl rfl ?_)|(intro hq;try simp only [lnS]at hq)|refine sI ?_|refine .intro _ (.intro rfl ?_));(conv=>whnf)))
   rw [decide_eq_true (p:=(0:Int) < ((List.map aV (t::ts)).length:Nat)) (by rw [List.length_map,List.length_cons];omega)]
   ((conv=>whnf);repeat ((first|(refine eX hty rfl (by with_unfolding_all exact rfl) rfl rfl ?_)|(intro hq;try simp only [lnS]at hq)|refine sI ?_|refine .intro _ (.intro rfl ?_));(conv=>whnf)))
   exact⟨⟨rfl,rfl⟩,hr,[],rfl⟩
  | [],[],hr=>
   have hr:rPt bs=none:=hr
   ((conv=>whnf);repeat ((first|(refine aA [] c1 trivial (λr hs=> ?_);subst hs)|(refine eX hty rfl (by with_unfolding_all exact rfl) rfl rfl ?_)|(intro hq;try simp only [lnS]at hq)|refine sI ?_|refine .intro _ (.intro rfl ?_));(conv=>whnf)))
   exact⟨⟨rfl,rfl⟩,hr,[],rfl⟩
  | [],p::p'::ps,hr=>
   have hr:rPt bs=none:=hr
   ((conv=>whnf);repeat ((first|(refine aA [] c1 trivial (λr hs=> ?_);subst hs)|(refine eX hty rfl (by with_unfolding_all exact rfl) rfl rfl ?_)|(intro hq;try simp only [lnS]at hq)|refine sI ?_|refine .intro _ (.intro rfl ?_));(conv=>whnf)))
   exact⟨⟨rfl,rfl⟩,hr,[],rfl⟩
 ·have hr:rPt bs=none:=by
   rw [hr]
   split
   ·rename_i h
    injection h with h1 h2
    exact absurd h2 he
   ·rfl
  ((conv=>whnf);repeat ((first|(refine aA [] c1 trivial (λr hs=> ?_);subst hs)|(intro hq;try simp only [lnS]at hq)|refine sI ?_|refine .intro _ (.intro rfl ?_));(conv=>whnf)))
  rw [decide_eq_false he]
  ((conv=>whnf);repeat ((first|(refine eX hty rfl (by with_unfolding_all exact rfl) rfl rfl ?_)|(intro hq;try simp only [lnS]at hq)|refine sI ?_|refine .intro _ (.intro rfl ?_));(conv=>whnf)))
  exact⟨⟨rfl,rfl⟩,hr,[],rfl⟩
theorem aP6 {bs b1:List UInt8}{z:Int}(h:pJ (aA6 4) sgN bs=some (z,b1)): ∃n:Nat,aA6 4 bs=some (n,b1)/\z=(n:Int)/\n < 4294967296:=by
 cases h1:aA6 4 bs with
 |none=>rw [dY h1]at h;cases h
 |some p=>
  obtain⟨n,c⟩:=p
  rw [bS h1]at h
  injection h with h
  injection h with h2 h3
  subst h3
  have:=wA h1
  refine⟨n,rfl, ?_,this⟩
  rw [<-h2]
  unfold sgN
  rw [if_pos (by omega)]
theorem aS0 {α β:Type}{r:Rd α}{f:α->β}{b:List UInt8}(h:pJ r f b=none):r b=none:=by
 cases h1:r b with
 |none=>rfl
 |some p=>obtain⟨x,c⟩:=p;rw [bS h1]at h;cases h
theorem aRz {b c:List UInt8}{p:List At}(h:rPt b=some (p,c)):c=[]:=by
 unfold rPt at h
 split at h
 ·injection h with h;injection h with _ h;exact h.symm
 ·cases h
abbrev bxs:List Bx:=[(2,9,1),(3,3,1),(4,42,2),(5,27,1)]
theorem bW.third {a b c c' d:SV}(h:bW c c'):bW (.tup [a,b,c,d]) (.tup [a,b,c',d]):=bW.tup rfl λj x y hx hy=>by
 match j,hx,hy with
 | 0,hx,hy=>simp at hx hy;subst hx;subst hy;exact .refl _
 | 1,hx,hy=>simp at hx hy;subst hx;subst hy;exact .refl _
 | 2,hx,hy=>simp at hx hy;subst hx;subst hy;exact h
 | 3,hx,hy=>simp at hx hy;subst hx;subst hy;exact .refl _
 |j+4,hx,_=>simp at hx
theorem aXq {vs:List (List Value)}(h:aHu bxs vs): ∃a b c d e,vs=[[a],[b],[c,d],[e]]:=by
 match vs,h with
 | [x,y,z,u],⟨h1,h2,h3,h4,_⟩=>
  obtain⟨a,rfl⟩:=List.length_eq_one_iff.1 h1
  obtain⟨b,rfl⟩:=List.length_eq_one_iff.1 h2
  obtain⟨c,d,rfl⟩: ∃c d,z=[c,d]:=by
   match z,h3 with
   | [c,d],_=>exact⟨c,d,rfl⟩
  obtain⟨e,rfl⟩:=List.length_eq_one_iff.1 h4
  exact⟨a,b,c,d,e,rfl⟩
theorem aEy (bs:List UInt8) (hbs:bs.length<=1000000):Tri Tryz.prog 25 [.d (.sl 1 (bs.map aP))] [] (λr=> ∃y,y=(eF rEn jS pK 380 bs).1/\r= .tup [.d (.str y.1), .d (.int .i64 y.2.1), .d (.agg (bA y.2.2)), .d (.int .i64 (eF rEn jS pK 380 bs).2)]):=by
 obtain⟨dF,iF,zF,hTF⟩:=aQ (hty 81 _ (by with_unfolding_all exact rfl))
 have hni: ∀m,dF≠ .interface m:=by
  intro m e
  have:=hTF.td
  rw [e]at this
  simp [aDg]at this
 refine Tri.says ?_
 refine aO3 false [] hty (by kernel_rfl) Tryz.func25 rfl bxs ((.first 0 (.first 1 (.alt 2 (.alt 3 (.alt 4 (.alt 5 (.alt 6 .done .stop) .stop) .stop) .stop) (.alt 3 (.alt 2 (.alt 4 (.alt 5 (.alt 6 .done .stop) .stop) .stop) (.alt 4 (.alt 2 (.alt 5 (.alt 6 .done .stop) .stop) (.alt 5 (.alt 2 (.alt 6 .done .stop) .stop) .stop)) .stop)) .stop))))) Tryz.func53 rfl rfl rfl rfl rfl rfl rfl rfl rfl rfl rfl rfl rfl rfl rfl rfl rfl rfl rfl rfl (ms:= #[]) (by kernel_rfl) hTF.und hni (by decide) (by decide) (by decide) rfl (by kernel_rfl) (d:=8) rfl rfl rfl rfl rfl rfl (by decide) (by decide) (kp [0,2,3,4,5,6,7,39]) (kp [0,1,2,3,4,5,6,9,16]) [] _ _ _ (eF rEn jS pK 380 bs=(pK,380)) aX7 (.agg [.int .i64 380]) (λw S=> ?_) (by simp [Tryz.f25]) (by decide) ?_ (by kernel_rfl) ?_
 ·refine .agg _ _ rfl λj x v h1 h2=> ?_
  match j,h1,h2 with
  | 0,h1,h2=>simp at h1 h2;subst h1;subst h2;exact .int _ _
  |j+1,h1,_=>simp at h1
 ·((conv=>whnf);repeat ((first|(intro hq;try simp only [lnS]at hq)|refine sI ?_|refine .intro _ (.intro rfl ?_));(conv=>whnf)))
  refine⟨λb hb=> ?_,λpre=> ?_⟩
  ·simp only [List.mem_cons,List.not_mem_nil,or_false]at hb
   rcases hb with rfl|rfl|rfl|rfl<;>rfl
  ((conv=>whnf);repeat ((first|(intro hq;try simp only [lnS]at hq)|refine sI ?_|refine .intro _ (.intro rfl ?_));(conv=>whnf)))
  refine RdS.call (wT 4 (by decide)) rfl (λ_=>rfl) bs hbs rfl (λz b1 e1=> ?_) (λe1 b=>⟨iO (bK (bK (aS0 e1))),⟨rfl,_,rfl,rfl⟩,⟨rfl,_,rfl,rfl⟩,⟨rfl,_,rfl,rfl⟩,⟨rfl,_,rfl,rfl⟩,trivial⟩)
  obtain⟨n,e0,rfl,hn⟩:=aP6 e1
  clear e1
  have q1:=mO (gS 4) e0
  ((conv=>whnf);repeat ((first|(intro hq;try simp only [lnS]at hq)|refine sI ?_|refine .intro _ (.intro rfl ?_));(conv=>whnf)))
  refine RdS.call (aFz n) rfl (λ_=>rfl) b1 (by omega) rfl (λs b2 e2=> ?_) (λe2 b=>⟨iO (bK (fV e0 e2)),⟨rfl,_,rfl,rfl⟩,⟨rfl,_,rfl,rfl⟩,⟨rfl,_,rfl,rfl⟩,⟨rfl,_,rfl,rfl⟩,trivial⟩)
  have hT:aFp bs=some (s,b2):=aAf e0 e2
  have q2:=mO (zR n) e2
  have hub:=dT s
  clear e0 e2
  ((conv=>whnf);repeat ((first|(intro hq;try simp only [lnS]at hq)|refine sI ?_|refine .intro _ (.intro rfl ?_));(conv=>whnf)))
  rw [hub]
  ((conv=>whnf);repeat ((first|(intro hq;try simp only [lnS]at hq)|refine sI ?_|refine .intro _ (.intro rfl ?_));(conv=>whnf)))
  refine RdS.call (wT 8 (by decide)) rfl (λ_=>rfl) b2 (by omega) rfl (λv b3 e3=> ?_) (λe3 b=>⟨iO (fV hT (bK e3)),⟨rfl,_,rfl,rfl⟩,⟨rfl,_,rfl,rfl⟩,⟨rfl,_,rfl,rfl⟩,⟨rfl,_,rfl,rfl⟩,trivial⟩)
  have q3:=mO rZ (show aEi b2=some (v,b3)from e3)
  ((conv=>whnf);repeat ((first|(intro hq;try simp only [lnS]at hq)|refine sI ?_|refine .intro _ (.intro rfl ?_));(conv=>whnf)))
  refine RdS.call (wT 8 (by decide)) rfl (λ_=>rfl) b3 (by omega) rfl (λno b4 e4=> ?_) (λe4 b=>⟨iO (fV hT (fV (show aEi b2=some (v,b3)from e3) (bK e4))),⟨rfl,_,rfl,rfl⟩,⟨rfl,_,rfl,rfl⟩,⟨rfl,_,rfl,rfl⟩,⟨rfl,_,rfl,rfl⟩,trivial⟩)
  have q4:=mO rZ (show aEi b3=some (no,b4)from e4)
  ((conv=>whnf);repeat ((first|(intro hq;try simp only [lnS]at hq)|refine sI ?_|refine .intro _ (.intro rfl ?_));(conv=>whnf)))
  refine RdS.call aRq rfl (λ_=>rfl) b4 (by omega) rfl (λp b5 e5=> ?_) (λe5 b=>⟨iO (fV hT (fV (show aEi b2=some (v,b3)from e3) (fV (show aEi b3=some (no,b4)from e4) (dY e5)))),⟨rfl,_,rfl,rfl⟩,⟨rfl,_,rfl,rfl⟩,⟨rfl,_,rfl,rfl⟩,⟨rfl,_,rfl,rfl⟩,trivial⟩)
  have hrd:rEn bs=some ((s,v,⟨no,p⟩),b5):=aAf hT (aAf (show aEi b2=some (v,b3)from e3) (aAf (show aEi b3=some (no,b4)from e4) (bS e5)))
  obtain rfl:=aRz e5
  have hd:=aFg (wr:=jS) (zero:=pK) (bad:=380) hrd
  have c1:=aEx s v ⟨no,p⟩
  clear e3 e4 e5 hT hrd hub
  generalize eF rEn jS pK 380 bs=res at *
  generalize jS (s,v,⟨no,p⟩)=ae at *
  obtain⟨a,e⟩:=ae
  have heq:=kX a bs
  rw [show bA ⟨no,p⟩=[.int .i64 no, .sl 6 (p.map atR)]from rfl]at c1
  ((conv=>whnf);repeat ((first|(refine aA [] c1 trivial (λr hs=> ?_);subst hs)|(intro hq;try simp only [lnS]at hq)|refine sI ?_|refine .intro _ (.intro rfl ?_));(conv=>whnf)))
  by_cases he:e=0
  ·subst he
   rw [decide_eq_true rfl]
   ((conv=>whnf);repeat ((first|(refine aA [] heq trivial (λr hs=> ?_);subst hs)|(intro hq;try simp only [lnS]at hq)|refine sI ?_|refine .intro _ (.intro rfl ?_));(conv=>whnf)))
   by_cases h7:a=bs
   ·subst h7
    rw [if_pos ⟨rfl,rfl⟩]at hd
    subst hd
    rw [decide_eq_true rfl]
    ((conv=>whnf);repeat ((first|(intro hq;try simp only [lnS]at hq)|refine sI ?_|refine .intro _ (.intro rfl ?_));(conv=>whnf)))
    (refine aX (id:=10) hty (.alt 0 (.alt 1 (.alt 2 (.alt 3 (.alt 4 (.alt 5 (.alt 6 .done .stop) .stop) .stop) .stop) (.alt 3 (.alt 2 (.alt 4 (.alt 5 (.alt 6 .done .stop) .stop) .stop) (.alt 4 (.alt 2 (.alt 5 (.alt 6 .done .stop) .stop) .stop) .stop)) .stop)) (.alt 2 (.alt 1 (.alt 3 (.alt 4 (.alt 5 (.alt 6 .done .stop) .stop) .stop) .stop) (.alt 3 (.alt 1 (.alt 4 (.alt 5 (.alt 6 .done .stop) .stop) .stop) .stop) .stop)) (.alt 3 (.alt 1 (.alt 2 (.alt 4 (.alt 5 (.alt 6 .done .stop) .stop) .stop) (.alt 4 (.alt 2 (.alt 5 (.alt 6 .done .stop) .stop) .stop) .stop)) (.alt 2 (.alt 1 (.alt 4 (.alt 5 (.alt 6 .done .stop) .stop) .stop) .stop) .stop)) .stop))) (.alt 1 (.alt 0 (.alt 2 (.alt 3 (.alt 4 (.alt 5 (.alt 6 .done .stop) .stop) .stop) .stop) (.alt 3 (.alt 2 (.alt 4 (.alt 5 (.alt 6 .done .stop) .stop) .stop) (.alt 4 (.alt 2 (.alt 5 (.alt 6 .done .stop) .stop) .stop) .stop)) .stop)) (.alt 2 (.alt 0 (.alt 3 (.alt 4 (.alt 5 (.alt 6 .done .stop) .stop) .stop) .stop) .stop) .stop)) (.alt 2 (.alt 0 (.alt 1 (.alt 3 (.alt 4 (.alt 5 (.alt 6 .done .stop) .stop) .stop) .stop) (.alt 3 (.alt 1 (.alt 4 (.alt 5 (.alt 6 .done .stop) .stop) .stop) .stop) .stop)) (.alt 1 (.alt 0 (.alt 3 (.alt 4 (.alt 5 (.alt 6 .done .stop) .stop) .stop) .stop) .stop) .stop)) .stop))) (by kernel_rfl) (by kernel_rfl) ?_)
    ((conv=>whnf);repeat' ((first|exact trivial|refine aA0 ?_ ?_|refine eqN rfl ?_|refine leN rfl ?_|refine ltN rfl ?_|refine sJ ?_|(refine Exists.intro _ (And.intro rfl ?_)))<;>(conv=>whnf)))
    all_goals exact⟨_, .refl _,_,rfl,rfl⟩
   ·have hr:res=(pK,380):=by rw [hd,if_neg];rintro⟨_,h⟩;injection h with h5 h6;exact h7 h5
    rw [decide_eq_false h7]
    ((conv=>whnf);repeat ((first|(refine eX hty rfl (by with_unfolding_all exact rfl) rfl rfl ?_)|(intro hq;try simp only [lnS]at hq)|refine sI ?_|refine .intro _ (.intro rfl ?_));(conv=>whnf)))
    exact⟨⟨rfl,rfl⟩,hr,⟨rfl,_,rfl,rfl⟩,⟨rfl,_,rfl,rfl⟩,⟨rfl,_,rfl,rfl⟩,⟨rfl,_,rfl,rfl⟩,trivial⟩
  ·have hr:res=(pK,380):=by rw [hd,if_neg];rintro⟨_,h⟩;injection h with h5 h6;exact he h6
   rw [show decide ((a,e).2=0)=false from decide_eq_false he]
   ((conv=>whnf);repeat ((first|(refine eX hty rfl (by with_unfolding_all exact rfl) rfl rfl ?_)|(intro hq;try simp only [lnS]at hq)|refine sI ?_|refine .intro _ (.intro rfl ?_));(conv=>whnf)))
   exact⟨⟨rfl,rfl⟩,hr,⟨rfl,_,rfl,rfl⟩,⟨rfl,_,rfl,rfl⟩,⟨rfl,_,rfl,rfl⟩,⟨rfl,_,rfl,rfl⟩,trivial⟩
 ·intro hr vs hvs
  rw [hr]
  obtain⟨v1,v2,v3,v4,v5,rfl⟩:=aXq hvs
  ((conv=>whnf);repeat ((first|(intro hq;try simp only [lnS]at hq)|refine sI ?_|refine .intro _ (.intro rfl ?_));(conv=>whnf)))
  ((conv=>whnf);repeat' ((first|exact trivial|refine aA0 ?_ ?_|refine eqN rfl ?_|refine leN rfl ?_|refine ltN rfl ?_|refine sJ ?_|(refine Exists.intro _ (And.intro rfl ?_)))<;>(conv=>whnf)))
  all_goals exact⟨_,bW.third (bW.wkd (by repeat' (first|exact trivial|exact rfl|refine And.intro ?_ ?_))),_,rfl,rfl⟩
end Go.Proofs.YtdjfkmkdkclahaaGreatDoor
namespace Go.Proofs.YtdjfkmkdkclahaaGreatDoor
open Go.RowKit
section
variable {P:Program}
def aRe (ti:TypeId->Option TI) (n:TypeId):TypeId->Option TI:= λt=>if t=n then none else ti t
theorem aO2 {ti:TypeId->Option TI}(h:cQ P ti) (n:TypeId):cQ P (aRe ti n):=by
 intro t T e
 unfold aRe at e
 split at e
 ·cases e
 ·exact h t T e
theorem aQ4 {o:Oper}{t t':TypeId}{x y:Operand}(ho:o.op= .binOp .add t x y t') {fr:Fr}{hp:Hp}{K:SV->Prop}{k:IntKind}{a b:Int}(hx:evO fr x=some (.d (.int k a))) (hy:evO fr y=some (.d (.int k b))) (hk:K (.d (.int k (k.wrap (a+b))))):bP P o fr hp K:=by
 intro E ρ c w hm hf
 have h1:=aW hf hx
 have h2:=aW hf hy
 exact⟨_,_,λw' _=>by simp [execOp,ho,h1.int_inv,h2.int_inv,pH,binOp,Op.intArith], .d _ _ (.int _ _),hk⟩
theorem aDa {ti:TypeId->Option TI}(hti:cQ P ti) {o:Oper}{op:BinOp}{t t':TypeId}{x y:Operand}(ho:o.op= .binOp op t x y t') {fr:Fr}{hp:Hp}{K:SV->Prop}{s r:SV}(hx:evO fr x=some s) (hy:evO fr y=some r) (h:aVg P ti op t s r K):bP P o fr hp K:=by
 refine aQk hti ho ?_
 unfold ev
 rw [hx]
 simp only
 rw [hy]
 exact h
end
end Go.Proofs.YtdjfkmkdkclahaaGreatDoor
namespace Go.Proofs.YtdjfkmkdkclahaaGreatDoor
open Go.RowKit
section
variable {P:Program}
theorem aPu {ti:TypeId->Option TI}(hti:cQ P ti) {o:Oper}{t e:TypeId}{len id:Nat}{parts:Array (Nat×Operand)}(ho:o.op= .buildSlice t len parts) {Ts T:TI}(hT:ti t=some Ts) (htd:Ts.td= .slice e) (hT2:ti e=some T)
  {pin:Pin} {fr:Fr} {hp:Hp} {K:SV->Hp->Prop} {l:List (Nat×SV)} {rows:List (List D)} (hev:evP fr parts.toList=some l) (hpos:0 < T.size) (h0:len≠0) (hsm:len * T.size<=16777216) (hrows:aJr T.size (List.replicate len T.zero) l=some rows)
  (hfr:fC id pin fr hp) (hk:K (.mw id T.size rows.length) ((id, .mrow e T.size rows.length rows)::hp)):aS P o pin fr hp K:=by
 intro E ρ a w hp' hm hf next Q hn
 obtain⟨p1,p2⟩:=aMg hf _ _ hev
 obtain⟨d,i,z,hT⟩:=aQ (hti _ _ hT)
 have hd:d= .slice e:=by
  have h:=hT.td
  rw [htd]at h
  exact bO h
 subst hd
 obtain⟨d2,i2,z2,hT2⟩:=aQ (hti _ _ hT2)
 obtain⟨rs,r1,r2,r3⟩:=aI7 (ρ:=ρ) T.size l _ _ _ rows (pL hT2 w ρ.S len hpos) p1 p2 hrows
 have hlen:rows.length=len:=by rw [r3];simp
 have hsz2:i2.size=T.size:=hT2.size
 have hrun:(execOp a.eval o).run P w= .ok (.value (.slice (some ⟨w.heap.size,0,none⟩) rows.length rows.length)) (w.alloc (.cells rs e)):=by
  have:=Go.run_buildSlice (P:=P) w t e len (parts.map λp=>(p.1,a.eval p.2)) rs i2 z2 hT.und hT2.info hT2.zero (by rw [hsz2];omega) (by rw [hsz2];exact λh=>h0 (by rcases Nat.mul_eq_zero.1 h with h|h;exact h;omega)) (by rw [hsz2];simpa [hsz2]using r1)
  simp only [execOp,ho,Sem.run_bind,this,Result.andThen_ok,Sem.run_pure,hlen]
 obtain⟨f1,f2,f3⟩:=hfr
 have hrl:=r2.len
 rw [Array.length_toList]at hrl
 have hml:rows.length<=maxLen:=by
  rw [hlen];simp only [maxLen]
  have:len * 1<=len * T.size:=Nat.mul_le_mul_left _ hpos
  omega
 have hgr:=Grew.alloc w (.cells rs e)
 have htk:rs.toList.take (rows.length * T.size)=rs.toList:=List.take_of_length_le (by rw [Array.length_toList,hrl];exact Nat.le_refl _)
 have hmut:eH (w.alloc (.cells rs e)) ρ.S e T.size rows.length rows (.slice (some ⟨w.heap.size,0,none⟩) rows.length rows.length):=by
  refine .inr ⟨by omega,w.heap.size,rs,rfl,heap_alloc_new w _,Nat.le_refl _,hml,hrl,by rw [htk];exact r2.mono (hgr.keeps hm.slt) (λ_ _ x=>x),λj hj=> ?_⟩
  have:=hm.slt _ j hj;omega
 obtain ⟨s1, s2, s3⟩ := hm.newMrow (id := id) f3 (by rw [hp']; exact f1) hgr hmut (by
  intro g hg
  simp only [dJ]at hg
  split at hg
  ·cases hg
  ·injection hg with hg;omega)
 have hrep:Rep (w.alloc (.cells rs e)) (ρ.retop id rows.length (.slice (some ⟨w.heap.size,0,none⟩) rows.length rows.length)) (.mw id T.size rows.length) (.slice (some ⟨w.heap.size,0,none⟩) rows.length rows.length):=
  .mw id T.size rows.length rows.length _ (Nat.le_refl _) hml (λ_=>⟨_,rfl⟩) (by simp [Env.retop]) (by simp [Env.retop])
 exact bY hrun (hn _ _ _ _ _ hk s1 (hf.mono s2 (λ_ _ x=>x) λj hj=>s3 j λe=>f2 (e ▸ hj)) hrep)
def aS7 (P:Program) (ti:TypeId->Option TI) (zc:Bool) (pin:Pin) (fr:Fr) (hp:Hp) (dst:Nat) (o:Oper) (K:SV->Hp->Prop):Prop:=
 match o.op with
 | .buildSlice _ _ _=>aS P o pin fr hp K
 |_=>aVl P ti zc pin fr hp dst o K
theorem aUb {ti:TypeId->Option TI}(hti:cQ P ti) {o:Oper}{pin:Pin}{fr:Fr}{hp:Hp}{dst:Nat}{zc:Bool}{K:SV->Hp->Prop}(h:aS7 P ti zc pin fr hp dst o K):aNi P o pin fr hp K:=by
 unfold aS7 at h
 split at h
 ·rename_i ho
  exact aA5.r (λc e=>by rw [ho]at e;cases e) h
 ·exact aUc hti h
def aQp (C:Cfg) (all:List Oper) (o:Oper) (fr:Fr) (hp:Hp) (k:Fr->Hp->Prop):Prop:=
 pF all fr o.guard
  (λfr=>aS7 C.P C.ti C.zc C.pin fr hp (C.off+o.dst.getD 0) o λs hp'=>put C o.dst s fr λfr'=>k fr' hp')
  (λfr=>put C o.dst (.d (.lit undef)) fr λfr'=>k fr' hp)
def aEq (C:Cfg) (all:List Oper) (K:Fr->Hp->Prop):List Oper->Fr->Hp->Prop
 | [],fr,hp=>qB C.keep fr λfr'=>aUu C.frz fr' hp K
 |o::r,fr,hp=>aQp C all o fr hp λfr' hp'=>aEq C all K r fr' hp'
theorem aJf {C:Cfg}(hti:cQ C.P C.ti) {all:List Oper}{K:Fr->Hp->Prop}{E:Entry}{Q:Exit->Act->World->Prop}(hpin:E.pin=C.pin) (hQ: ∀fr hp a w,K fr hp->Sat E C.nt ⟨fr,hp⟩ a w->Q .normal a w) (hQp: ∀ch fr hp a w,Chn C.pin.pv ch->C.pin.kp fr hp->Sat E C.nt ⟨fr,hp⟩ a w->Q (.panic ch) a w):
  ∀(l:List Oper) (k:Nat) (fr:Fr) (hp:Hp) (a:Act) (w:World),all.drop k=l->aEq C all K l fr hp->Sat E C.nt ⟨fr,hp⟩ a w->wpOpsIn (FW E.rd) 0 C.P all.toArray Q (List.range' k l.length) a w:=by
 intro l
 induction l with
 |nil=>
  intro k fr hp a w _ h hs
  simp only [aEq,kL]at h
  obtain⟨h1,h2,ρ,h3,h4⟩:=hs
  simp only [List.length_nil,List.range'_zero,wpOpsIn]
  obtain⟨fr',hp',ρ',q1,q2,q3⟩:=uC C.frz (a:=a) h h3 (λt s hts=>h4 t s (iN _ _ t s hts))
  exact hQ _ hp' a w q1 ⟨h1,h2,ρ',q2,q3⟩
 |cons o r ih=>
  intro k fr hp a w hk h hs
  simp only [aEq,aQp]at h
  obtain⟨h1,h2,ρ,h3,h4⟩:=hs
  have hko:all.toArray[k]? =some o:=by
   have:all[k]? =some o:=by
    have:=congrArg (λl=>l[0]?) hk
    simpa [List.getElem?_drop]using this
   simpa using this
  have hkr:all.drop (k+1)=r:=by
   rw [<-List.drop_drop,hk];rfl
  simp only [List.length_cons,List.range'_succ,wpOpsIn,hko]
  obtain⟨fr0,h4,hh⟩:=eN h h4
  rcases hh with⟨hw,h⟩|⟨hw,h⟩
  ·simp only [hw,if_true]
   refine aUb hti h E ρ a w hpin h3 h4 _ Q (λv w' ρ' s hp' hk' hm' hf' hr'=> ?_) (λch w' ρ' hp' q0 q1 q2 q3=>hQp ch fr0 hp' a w' q0 q1 ⟨h1,h2,ρ',q2,q3⟩)
   obtain⟨fr',q1,q2⟩:=fG hk' h1 hf' hr'
   exact ih (k+1) fr' hp' _ w' hkr q1 ⟨by rw [bH];exact h1,by rw [put_defers];exact h2,ρ',hm',q2⟩
  ·simp only [hw,Bool.false_eq_true,if_false]
   obtain⟨fr',q1,q2⟩:=fG h h1 h4 (Rep.d _ undef (.lit undef))
   exact⟨λ_ _=>trivial,ih (k+1) fr' hp _ w hkr q1 ⟨by rw [bH];exact h1,by rw [put_defers];exact h2,ρ,h3,q2⟩⟩
theorem aG1 {C:Cfg}(hti:cQ C.P C.ti) {id:Nat}{ops:Array Oper}{fr:Fr}{hp:Hp}{K:Ex->Fr->Hp->Prop}(h:aEq C ops.toList (K .normal) ops.toList fr hp):aL C (.region id ops false) fr hp K:=by
 intro E a w hpin _ hs
 refine wpIn_region ?_
 have:=aJf (C:=C) hti (all:=ops.toList) (Q:=kZ C E K) hpin (λfr hp a w hk hs=>⟨.normal,fr,hp,E, .refl E,trivial,hk,hs⟩) (λch fr hp a w hc hk hs=>⟨.pan,fr,hp,E, .refl E,hc,hk,hs⟩) ops.toList 0 fr hp a w rfl h hs
 simpa [List.range_eq_range']using this
end
end Go.Proofs.YtdjfkmkdkclahaaGreatDoor
