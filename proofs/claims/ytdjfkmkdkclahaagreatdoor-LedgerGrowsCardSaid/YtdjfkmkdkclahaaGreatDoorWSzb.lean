/-
  Ledgers, the reference: equal parts; Before, Same, New, Left. Ledgers: the source of bytes: take and number. The contract of a function with several boxed results, whose deferred closure recovers, asks what was thrown and writes the results.
  Conditions: none.
-/
import Derived.Test.YtdjfkmkdkclahaaGreatDoorWNq
import Derived.Test.YtdjfkmkdkclahaaGreatDoorWSna
import Derived.Test.YtdjfkmkdkclahaaGreatDoorWSyn
import Derived.Test.YtdjfkmkdkclahaaGreatDoorWTcy
import Derived.Test.YtdjfkmkdkclahaaGreatDoorWSza
set_option linter.unnecessarySimpa false
set_option linter.unusedSectionVars false
set_option linter.unusedSimpArgs false
set_option linter.unusedVariables false
set_option maxHeartbeats 8000000
namespace Go.Proofs.YtdjfkmkdkclahaaGreatDoor
open Go.Proofs Go.RowKit
set_option maxRecDepth 10000
attribute [local irreducible] aJ aG Tri aF YVC cA aU
theorem jN (l m:List At):Tri Tryz.prog 27 [.d (.agg (aQ l)), .d (.agg (aQ m))] [] (λr=>r= .d (.bool (decide (l=m)))):=by
 have hl:(l.map atR).length=l.length:=List.length_map ..
 have hm:(m.map atR).length=m.length:=List.length_map ..
 rw [show aQ l=[.sl 6 (l.map atR)]from rfl,show aQ m=[.sl 6 (m.map atR)]from rfl]
 refine aH false [2,3] hty Tryz.func27 rfl (kp [0,1,2,3,4,5,12,17,30]) [] _ _ _ (by simp [Tryz.f27]) (by simp) ?_
 ((conv=>whnf);repeat ((first|(intro hq;try simp only [lnS]at hq)|refine sI ?_|refine .intro _ (.intro rfl ?_));(conv=>whnf)))
 refine aD (λh1=> ?_) (λh1=> ?_)
 ·((conv=>whnf);repeat ((first|(intro hq;try simp only [lnS]at hq)|refine sI ?_|refine .intro _ (.intro rfl ?_));(conv=>whnf)))
  refine aM ?_
  rw [decide_eq_false]
  intro e
  subst e
  exact h1 rfl
 ·have h1:l.length=m.length:=by
   have h2:(((l.map atR).length:Nat):Int)=((m.map atR).length:Nat):=by simpa using h1
   rw [hl,hm]at h2
   omega
  ((conv=>whnf);repeat ((first|(intro hq;try simp only [lnS]at hq)|refine sI ?_|refine .intro _ (.intro rfl ?_));(conv=>whnf)))
  refine aP hty (λj:Nat=>([(2, .ea 1 [[.sl 6 (l.map atR)]] 0 0),(3, .ea 1 [[.sl 6 (m.map atR)]] 0 0),(5, .d (.int .i64 j))],[])) (λj=>j<=l.length/\l.take j=m.take j) (λj=>l.length - j) 0 ⟨Nat.zero_le _,rfl⟩ ⟨by repeat' (first|exact trivial|exact rfl|refine And.intro ?_ ?_),trivial⟩ ?_
  rintro j ⟨hj,ht⟩
  ((conv=>whnf);repeat ((first|(intro hq;try simp only [lnS]at hq)|refine sI ?_|refine .intro _ (.intro rfl ?_));(conv=>whnf)))
  rw [hl]
  refine aC (λh2=> ?_) (λh2=> ?_)
  ·have hjl:j < l.length:=by omega
   have hjm:j < m.length:=by omega
   have hrow:(l.map atR)[((j:Nat):Int).toNat]? =some (atR l[j]):=aT hjl
   have hrow2:(m.map atR)[((j:Nat):Int).toNat]? =some (atR m[j]):=aT hjm
   have hs1:l.take (j+1)=l.take j++[l[j]]:=List.take_succ_eq_append_getElem hjl
   have hs2:m.take (j+1)=m.take j++[m[j]]:=List.take_succ_eq_append_getElem hjm
   have hf:=aMx l[j] m[j]
   rw [mN]at hrow
   rw [mN]at hrow2
   ((conv=>whnf);repeat ((first|(intro hq;try simp only [lnS]at hq)|refine sI ?_|refine .intro _ (.intro rfl ?_));(conv=>whnf)))
   refine dwR ?_
   ((conv=>whnf);repeat ((first|(refine And.intro aMp ?_)|(refine⟨_,hrow, ?_⟩)|(refine⟨_,hrow2, ?_⟩)|(intro hq;try simp only [lnS]at hq)|refine sI ?_|refine .intro _ (.intro rfl ?_));(conv=>whnf)))
   rw [hf]
   unfold tA
   by_cases he:l[j]=m[j]
   ·rw [decide_eq_true he]
    ((conv=>whnf);repeat ((first|(intro hq;try simp only [lnS]at hq)|refine sI ?_|refine .intro _ (.intro rfl ?_));(conv=>whnf)))
    exact⟨j+1,⟨by omega,by rw [hs1,hs2,ht,he]⟩,by dsimp only;omega,by repeat' (first|exact trivial|exact rfl|refine And.intro ?_ ?_),trivial⟩
   ·rw [decide_eq_false he]
    ((conv=>whnf);repeat ((first|(intro hq;try simp only [lnS]at hq)|refine sI ?_|refine .intro _ (.intro rfl ?_));(conv=>whnf)))
    refine aM ?_
    rw [decide_eq_false]
    intro e
    subst e
    exact he rfl
  ·have hjl:j=l.length:=by omega
   subst hjl
   rw [List.take_length,h1,List.take_length]at ht
   ((conv=>whnf);repeat ((first|(intro hq;try simp only [lnS]at hq)|refine sI ?_|refine .intro _ (.intro rfl ?_));(conv=>whnf)))
   refine aM ?_
   rw [decide_eq_true ht]
theorem xF (a b:Lg):Tri Tryz.prog 38 [.d (.agg (lgR a)), .d (.agg (lgR b))] [] (λr=>r= .d (.bool (yS a b))):=by
 have hi:= @mM a b
 have hla:(a.entries.map bV).length=a.entries.length:=List.length_map ..
 have hlb:(b.entries.map bV).length=b.entries.length:=List.length_map ..
 have hno:¬ (a.reader=b.reader/\a.version=b.version/\a.entries=b.entries.take a.entries.length)->yS a b=false:= λh=>by
  cases h2:yS a b
  ·rfl
  ·exact absurd (hi.1 h2) h
 rw [show lgR a=[.str a.reader, .int .i64 a.version, .sl 2 (a.entries.map bV)]from rfl,show lgR b=[.str b.reader, .int .i64 b.version, .sl 2 (b.entries.map bV)]from rfl]
 refine aH false [2,3] hty Tryz.func38 rfl (kp [0,1,2,3,4,5,26,31,62]) [] _ _ _ (by simp [Tryz.f38]) (by simp) ?_
 ((conv=>whnf);repeat' ((first|(intro hq;(try simp only [lnS]at hq);(try rewrite [List.length_map]))|refine sJ ?_|refine .intro _ (.intro rfl ?_)|refine exL (k:= ?_)|refine dwR ?_|((first|refine aC ?_ ?_|refine aD ?_ ?_)<;>intro hb<;>(first|exact ddX hb|try simp only [lnS]at hb))|(refine aB ?_ ?_<;>intro hb<;>try exact dsX hb))<;>(conv=>whnf)))
 ·exact aM (hno λh=>hb h.1).symm
 ·exact aM (hno λh=>hb h.2.1).symm
 ·exact aM (hno λh=>by have:=zI h.2.2;omega).symm
 ·have e1:a.reader=b.reader:=by assumption
  have e2:a.version=b.version:=by assumption
  have hlen:a.entries.length<=b.entries.length:=by omega
  refine aP hty (λj:Nat=>([(2, .ea 3 [[.str a.reader, .int .i64 a.version, .sl 2 (a.entries.map bV)]] 0 0),(3, .ea 3 [[.str b.reader, .int .i64 b.version, .sl 2 (b.entries.map bV)]] 0 0),(5, .d (.int .i64 j))],[])) (λj=>j<=a.entries.length/\a.entries.take j=b.entries.take j) (λj=>a.entries.length - j) 0 ⟨Nat.zero_le _,rfl⟩ ⟨by repeat' (first|exact trivial|exact rfl|refine And.intro ?_ ?_),trivial⟩ ?_
  rintro j ⟨hj,ht⟩
  ((conv=>whnf);repeat ((first|(intro hq;try simp only [lnS]at hq)|refine sI ?_|refine .intro _ (.intro rfl ?_));(conv=>whnf)))
  rw [hla]
  refine aC (λh2=> ?_) (λh2=> ?_)
  ·have hjl:j < a.entries.length:=by omega
   have hjm:j < b.entries.length:=by omega
   have hrow:(a.entries.map bV)[((j:Nat):Int).toNat]? =some (bV a.entries[j]):=aT hjl
   have hrow2:(b.entries.map bV)[((j:Nat):Int).toNat]? =some (bV b.entries[j]):=aT hjm
   have hs1:a.entries.take (j+1)=a.entries.take j++[a.entries[j]]:=List.take_succ_eq_append_getElem hjl
   have hs2:b.entries.take (j+1)=b.entries.take j++[b.entries[j]]:=List.take_succ_eq_append_getElem hjm
   have hc:=jN a.entries[j].part b.entries[j].part
   have he:= @aIk a.entries[j] b.entries[j]
   have hne : a.entries[j] ≠ b.entries[j] -> yS a b = false := λhn => hno λh => hn (by
    have h3:=congrArg (λl=>l[j]?) h.2.2
    simp only [List.getElem?_take,if_pos hjl,List.getElem?_eq_getElem hjl,List.getElem?_eq_getElem hjm]at h3
    injection h3)
   rw [show bV a.entries[j]=[.int .i64 a.entries[j].no, .sl 6 (a.entries[j].part.map atR)]from rfl]at hrow
   rw [show bV b.entries[j]=[.int .i64 b.entries[j].no, .sl 6 (b.entries[j].part.map atR)]from rfl]at hrow2
   rw [show aQ a.entries[j].part=[.sl 6 (a.entries[j].part.map atR)]from rfl,show aQ b.entries[j].part=[.sl 6 (b.entries[j].part.map atR)]from rfl]at hc
   ((conv=>whnf);repeat ((first|(intro hq;try simp only [lnS]at hq)|refine sI ?_|refine .intro _ (.intro rfl ?_));(conv=>whnf)))
   refine dwR ?_
   ((conv=>whnf);repeat ((first|(refine⟨_,hrow, ?_⟩)|(refine⟨_,hrow2, ?_⟩)|(intro hq;try simp only [lnS]at hq)|refine sI ?_|refine .intro _ (.intro rfl ?_));(conv=>whnf)))
   by_cases h3:a.entries[j].no=b.entries[j].no
   ·rw [decide_eq_true h3]
    ((conv=>whnf);repeat ((first|(refine⟨_,hrow, ?_⟩)|(refine⟨_,hrow2, ?_⟩)|(refine⟨.d (.bool _),_,[],rfl,trivial,hc, ?_⟩)|(intro hq;try simp only [lnS]at hq)|refine sI ?_|refine .intro _ (.intro rfl ?_));(conv=>whnf)))
    by_cases h4:a.entries[j].part=b.entries[j].part
    ·rw [decide_eq_true h4]
     ((conv=>whnf);repeat ((first|(intro hq;try simp only [lnS]at hq)|refine sI ?_|refine .intro _ (.intro rfl ?_));(conv=>whnf)))
     exact⟨j+1,⟨by omega,by rw [hs1,hs2,ht,he.2 ⟨h3,h4⟩]⟩,by dsimp only;omega,by repeat' (first|exact trivial|exact rfl|refine And.intro ?_ ?_),trivial⟩
    ·rw [decide_eq_false h4]
     ((conv=>whnf);repeat ((first|(intro hq;try simp only [lnS]at hq)|refine sI ?_|refine .intro _ (.intro rfl ?_));(conv=>whnf)))
     exact aM (hne λh=>h4 (he.1 h).2).symm
   ·rw [decide_eq_false h3]
    ((conv=>whnf);repeat ((first|(intro hq;try simp only [lnS]at hq)|refine sI ?_|refine .intro _ (.intro rfl ?_));(conv=>whnf)))
    exact aM (hne λh=>h3 (he.1 h).1).symm
  ·have hjl:j=a.entries.length:=by omega
   subst hjl
   rw [List.take_length]at ht
   ((conv=>whnf);repeat ((first|(intro hq;try simp only [lnS]at hq)|refine sI ?_|refine .intro _ (.intro rfl ?_));(conv=>whnf)))
   exact aM (hi.2 ⟨e1,e2,ht⟩).symm
def aJc (a b:Lg):Bool:=decide ((a.entries.length:Int)=b.entries.length) && yS a b
theorem aCe (a b:Lg):Tri Tryz.prog 14 [.d (.agg (lgR a)), .d (.agg (lgR b))] [] (λr=>r= .d (.bool (aJc a b))):=by
 have hc:=xF a b
 have hla:(a.entries.map bV).length=a.entries.length:=List.length_map ..
 have hlb:(b.entries.map bV).length=b.entries.length:=List.length_map ..
 rw [show lgR a=[.str a.reader, .int .i64 a.version, .sl 2 (a.entries.map bV)]from rfl,show lgR b=[.str b.reader, .int .i64 b.version, .sl 2 (b.entries.map bV)]from rfl]at hc |-
 unfold aJc
 generalize yS a b=bb at *
 refine aH false [2,3] hty Tryz.func14 rfl (kp [0,1,2,3,4]) [] _ _ _ (by simp [Tryz.f14]) (by simp) ?_
 ((conv=>whnf);repeat' ((first|(intro hq;(try simp only [lnS]at hq);(try rewrite [List.length_map]))|refine sJ ?_|refine .intro _ (.intro rfl ?_)|refine exL (k:= ?_)|(refine aA [] hc trivial (λr hs=> ?_);subst hs)|refine dwR ?_|((first|refine aC ?_ ?_|refine aD ?_ ?_)<;>intro hb<;>(first|exact ddX hb|try simp only [lnS]at hb))|(refine aB ?_ ?_<;>intro hb<;>try exact dsX hb))<;>(conv=>whnf)))
 ·refine aM ?_
  rw [decide_eq_true (by omega),Bool.true_and]
 ·refine aM ?_
  rw [decide_eq_false (by omega),Bool.false_and]
end Go.Proofs.YtdjfkmkdkclahaaGreatDoor
namespace Go.Proofs.YtdjfkmkdkclahaaGreatDoor
open Go.Proofs Go.RowKit
set_option maxRecDepth 10000
theorem dU {P:Program}{ti:TypeId->Option TI}(hti:cI P ti) {o:Oper}{t:TypeId}{x:Operand}(ho:o.op= .makeInterface t x) {Ts:TI}(hT:ti t=some Ts) {fs:List (TypeId×Nat)}(htd:Ts.td= .struct fs) {pin:Pin}{fr:Fr}{hp:Hp}{K:SV->Hp->Prop}{k:IntKind}{n:Int}
  (hx:evO fr x=some (.d (.agg [.int k n]))) (hk:K (.d (.lit (.iface t (.agg #[.int k n])))) hp):aU P o pin fr hp K:=by
 intro E ρ a w _ hm hf next Q hq
 obtain⟨d0,i0,z0,hT0⟩:=aK (hti _ _ hT)
 have hni: ∀m,d0≠ .interface m:=by
  intro m e
  have:=hT0.td
  rw [htd,e]at this
  simp [wD]at this
 have e1:a.eval x= .agg #[.int k n]:=by
  have hr:=aS hf hx
  generalize a.eval x=v at hr
  cases hr with
  |d _ _ hd=>
   cases hd with
   |agg cs vs hl h=>
    match vs,hl,h with
    |⟨[v]⟩,hl,h=>
     have:=h 0 (.int k n) v rfl rfl
     cases this
     rfl
    |⟨[]⟩,hl,_=>simp at hl
    |⟨_::_::_⟩,hl,_=>simp at hl
 have hrun:(execOp a.eval o).run P w= .ok (.value (.iface t (.agg #[.int k n]))) w:=by
  simp only [execOp,ho,e1,Instr.makeInterface,Sem.run_bind,run_underlying hT0.und,Result.andThen_ok]
  cases d0<;>first|rfl|exact absurd rfl (hni _)
 exact bO hrun (hq _ w ρ _ hp hk hm hf (.d _ _ (.lit _)))
attribute [local irreducible] aJ aG Tri aF YVC cA aU
abbrev srO (b:List UInt8):HObj:= .cells 85 [.d (.sl 1 (b.map bG))]
def aO9:Value:= .agg #[.int .i64 380]
abbrev pvS:Option (TypeId->Value->Prop):=some λt v=>t=81/\v=aO9
abbrev aOm (q:Prop):Pin:=⟨[3],λ_ h=>q/\ ∃b:List UInt8,aN h 3=some (srO b),[],pvS⟩
def RdS {α:Type}(f:FuncId) (ex:List SV) (r:Rd α) (e:α->SV):Prop:= ∀bs:List UInt8,bs.length<=1000000->
 aG Tryz.prog (aOm (r bs=none)) [] [(3,srO bs)] f (.ptr 3 0::ex) (λs h=> ∃x c,r bs=some (x,c)/\s=e x/\aN h 3=some (srO c))
theorem RdS.call {α:Type}{f:FuncId}{ex:List SV}{r:Rd α}{e:α->SV}(h:RdS f ex r e) (hx:SV.idsL ex=[]) (he: ∀x,(e x).ids=[]) {pin:Pin}{fr:Fr}{hp:Hp}{i:Nat}{K:SV->Hp->Prop}(bs:List UInt8) (hb:bs.length<=1000000) (hg:aN hp i=some (srO bs))
  (hok: ∀x c,r bs=some (x,c)->gC hp i (srO c) (K (e x))) (hno:r bs=none-> ∀b,pin.kp fr (dL hp i (srO b))) (hpv:pin.pv=pvS:=by rfl):aG Tryz.prog pin fr hp f (.ptr i 0::ex) K:=by
 have hs: ∀b,(srO b).sim:= λb s hs=>by simp at hs;subst hs;exact rfl
 refine kY (λ_=>i) [3] [(3,srO bs)] (h bs hb) (aIq hg rfl (hs bs)) (λk hk=>hk) (by rw [List.map_cons,vD hx];rfl) ?_ ?_ ?_ (.inl hpv)
 ·intro s hs
  rcases List.mem_cons.1 hs with rfl|hs
  ·trivial
  ·exact uZ hx s hs
 ·rintro s h1 ⟨x,c,e1,rfl,e3⟩
  refine⟨aDt (he x), ?_,_,aH9 hg e3 (hs c) (λh=>h) rfl rfl, ?_⟩
  ·intro j hj
   rw [he]at hj
   cases hj
  rw [aE1 (he x)]
  have:=hok x c e1
  rw [cQ]at this
  exact this
 ·rintro h1 ⟨hq,b,e3⟩
  exact⟨_,aH9 hg e3 (hs b) (λh=>h) rfl rfl,hno hq b⟩
theorem zK (m:Nat):RdS 54 [.d (.int .i64 m)] (mY m) (λl=> .d (.sl 1 (l.map bG))):=by
 intro bs hb
 have hl:(bs.map bG).length=bs.length:=List.length_map ..
 refine aL false [] hty Tryz.func54 rfl (kp [0,1,4,5,12]) 100 (by simp [Tryz.f54]) ?_
 ((conv=>whnf);repeat' ((first|(intro hq;(try simp only [lnS]at hq);(try rewrite [List.length_map]))|refine sJ ?_|refine .intro _ (.intro rfl ?_)|refine exL (k:= ?_)|(refine dU hty rfl (by with_unfolding_all exact rfl) rfl rfl ?_)|refine dwR ?_|((first|refine aC ?_ ?_|refine aD ?_ ?_)<;>intro hb<;>(first|exact ddX hb|try simp only [lnS]at hb))|(refine aB ?_ ?_<;>intro hb<;>try exact dsX hb))<;>(conv=>whnf)))
 ·exact⟨⟨rfl,rfl⟩,oL (by omega),bs,rfl⟩
 ·have e1:List.drop 0 (List.take ((m:Nat):Int).toNat (bs.map bG))=(bs.take m).map bG:=by rw [Int.toNat_natCast,List.drop_zero,List.map_take]
  have e2:List.drop ((m:Nat):Int).toNat (List.take (bs.map bG).length (bs.map bG))=(bs.drop m).map bG:=by rw [Int.toNat_natCast,List.take_length,List.map_drop]
  refine⟨bs.take m,bs.drop m,iY (by omega), ?_, ?_⟩
  ·show SV.d (D.sl 1 (List.drop 0 (List.take ((m:Nat):Int).toNat (bs.map bG))))=_
   rw [e1]
  ·show some (HObj.cells 85 [SV.d (D.sl 1 (List.drop ((m:Nat):Int).toNat (List.take (bs.map bG).length (bs.map bG))))])=_
   rw [e2]
theorem pI (m:Nat) (hm:m<=8):RdS 55 [.d (.int .i64 m)] (mZ (vI m) sgN) (λz=> .d (.int .i64 z)):=by
 intro bs hb
 refine aL false [] hty Tryz.func55 rfl (kp [0,1,4,5,7,10,11,12,13]) 100 (by simp [Tryz.f55]) ?_
 ((conv=>whnf);repeat ((first|(intro hq;try simp only [lnS]at hq)|refine sI ?_|refine .intro _ (.intro rfl ?_));(conv=>whnf)))
 refine RdS.call (zK m) rfl (λ_=>rfl) bs hb rfl (λc r e1=> ?_) (λe1 b=>⟨dE (dE e1),b,rfl⟩)
 have hle:m<=bs.length:=by
  rcases Nat.lt_or_ge bs.length m with h|h
  ·rw [oL h]at e1;cases e1
  ·exact h
 have hfin:mZ (vI m) sgN bs=some (sgN (deN c),r):=bM (bM e1)
 have hlen:c.length=m:=by
  rw [iY hle]at e1
  injection e1 with e1
  injection e1 with e1 _
  rw [<-e1,List.length_take];omega
 clear e1
 ((conv=>whnf);repeat ((first|(intro hq;try simp only [lnS]at hq)|refine sI ?_|refine .intro _ (.intro rfl ?_));(conv=>whnf)))
 refine nB hty (λj:Nat=>([(5, .d (.int .u64 ((deN (c.take j):Nat):Int))),(10, .d (.sl 1 (c.map bG))),(11, .d (.int .i64 c.length)),(12, .d (.int .i64 j))],[(3,srO r)])) (λj=>j<=c.length) (λj=>c.length - j) 0 (by omega) (by repeat' (first|exact trivial|exact rfl|(rw [List.length_map];exact rfl)|refine And.intro ?_ ?_)) rfl ?_
 intro j hj
 ((conv=>whnf);repeat ((first|(intro hq;try simp only [lnS]at hq)|refine sI ?_|refine .intro _ (.intro rfl ?_));(conv=>whnf)))
 refine aC (λh1=> ?_) (λh1=> ?_)
 ·have hjl:j < c.length:=by omega
  have hrow:(c.map bG)[(j:Int).toNat]? =some (bG c[j]):=aT hjl
  have hx:deN (c.take j) < 72057594037927936:=by
   have h2:=nV j (c.take j) (by rw [List.length_take];omega)
   have h3:256 ^ j<=256 ^ 7:=Nat.pow_le_pow_right (by decide) (by omega)
   have h4:(256:Nat) ^ 7=72057594037927936:=by decide
   omega
  have hc:(c[j]).toNat < 256:=c[j].toNat_lt
  have hn:deN (c.take (j+1))=256 * deN (c.take j)+(c[j]).toNat:=by rw [List.take_succ_eq_append_getElem hjl,oW]
  have ho:=aE7 hx hc
  have hw:=wH (c[j]).toNat (by omega)
  ((conv=>whnf);repeat' ((first|(intro hq;(try simp only [lnS]at hq);(try rewrite [List.length_map]))|refine sJ ?_|refine .intro _ (.intro rfl ?_)|refine exL (k:= ?_)|(refine⟨_,hrow, ?_⟩)|refine dwR ?_|((first|refine aC ?_ ?_|refine aD ?_ ?_)<;>intro hb<;>(first|exact ddX hb|try simp only [lnS]at hb))|(refine aB ?_ ?_<;>intro hb<;>try exact dsX hb))<;>(conv=>whnf)))
  have ho2:bits .or .u64 (IntKind.u64.wrap (((deN (c.take j):Nat):Int)* 2 ^ (min (8:Int).toNat IntKind.u64.bits))) (IntKind.u64.wrap ((c[j]).toNat:Int))=((deN (c.take (j+1)):Nat):Int):=by rw [hw,hn];exact ho
  refine⟨j+1,by dsimp only;omega,by dsimp only;omega, ?_⟩
  dsimp only
  rw [<-ho2]
  exact⟨by repeat' (first|exact trivial|exact rfl|refine And.intro ?_ ?_),rfl⟩
 ·have hjl:j=c.length:=by omega
  subst hjl
  rw [List.take_length]
  ((conv=>whnf);repeat' ((first|(intro hq;(try simp only [lnS]at hq);(try rewrite [List.length_map]))|refine sJ ?_|refine .intro _ (.intro rfl ?_)|refine exL (k:= ?_)|refine dwR ?_|((first|refine aC ?_ ?_|refine aD ?_ ?_)<;>intro hb<;>(first|exact ddX hb|try simp only [lnS]at hb))|(refine aB ?_ ?_<;>intro hb<;>try exact dsX hb))<;>(conv=>whnf)))
  refine⟨_,_,hfin, ?_,rfl⟩
  have h8:=nV m c hlen
  have h9:256 ^ m<=256 ^ 8:=Nat.pow_le_pow_right (by decide) hm
  have h10:(256:Nat) ^ 8=18446744073709551616:=by decide
  exact congrArg (λz=>SV.d (.int .i64 z)) (aKy _ (by omega))
end Go.Proofs.YtdjfkmkdkclahaaGreatDoor
namespace Go.Proofs.YtdjfkmkdkclahaaGreatDoor
open Go.RowKit
section
variable {P:Program}
theorem aKg {ρ:Env}{bs:List Bx}{i:Nat}{b:Bx}(h:bs[i]? =some b):(bxV ρ bs)[i]? =some (aKp ((ρ.blk b.1).getD 0)):=by
 simp only [bxV,List.getElem?_toArray,List.getElem?_map,h,Option.map_some]
theorem mK {ρ:Env}{bs:List Bx}:(bxV ρ bs).size=bs.length:=by simp [bxV]
theorem aGb (zc:Bool) (frz:List Nat) {ti:TypeId->Option TI}(hti:cI P ti) (hmix:P.follows .mixedOrders=true) {f:FuncId}{fn:Func}{i j:Nat}{opsA:Array Oper}{mk df:Oper}{B:Code}
  (hf:P.funcs[f]? =some fn) (hb:fn.body=some (.seq (.region i opsA false) (.seq (.region j #[mk,df] false) B)))
  {g:FuncId} {gn:Func} {r0 r1 i2 i3 i5:Nat} {rc asv mv nq m2 ta:Oper} {a0 a b c b2 d2 e:Nat} {tI tJ tF:TypeId} {ms:Array (String×TypeId)} {oY o3:Array Oper} {o2 o5:List Oper} {Z:Code} (bs:List Bx) (T:OT)
  (hg:P.funcs[g]? =some gn) (hgb:gn.body=some (.seq (.region r0 #[rc,asv] false) (.seq (.region r1 #[mv,nq] false) (.cond (.tmp c) (.seq (.region i2 oY false) (.seq (.seq (.region i3 o3 false) (.cond (.tmp e) Z .skip)) (.region i5 o5.toArray true))) .skip))))
  (h1:rc.op= .call { callee:= .builtin .recover,args:= #[],argTypes:= #[] }) (h2:rc.dst=some a0) (h3:rc.guard=none) (g1:asv.op= .assign (.tmp a0)) (g2:asv.dst=some a) (g3:asv.guard=none) (f1:mv.op= .move (.tmp a)) (f2:mv.dst=some b) (f3:mv.guard=none)
  (h4:nq.op= .binOp .neq tI (.tmp b) (.const .nilIface) tJ) (h5:nq.dst=some c) (h6:nq.guard=none)
  (hoY:oY.toList=m2::ta::o2) (p1:m2.op= .move (.tmp a)) (p2:m2.dst=some b2) (p3:m2.guard=none) (q1:ta.op= .typeAssert (.tmp b2) tI tF true) (q2:ta.dst=some d2) (q3:ta.guard=none)
  (hI:P.underlying tI=some (.interface ms)) {dF:TypeDesc} (hF:P.underlying tF=some dF) (hF2: ∀m,dF≠ .interface m)
  (hlt:a0 < gn.ntmps/\a < gn.ntmps/\b < gn.ntmps/\c < gn.ntmps/\b2 < gn.ntmps/\d2 < gn.ntmps) (hge:bs.length<=a0/\bs.length<=a/\bs.length<=b/\bs.length<=c/\bs.length<=b2/\bs.length<=d2) (hne:a≠b/\a≠c) (hgr:gn.results= #[]) (hcall:cR P g=true)
  {d:Nat} (m1:mk.op= .makeFunc (.func g) #[] (bs.map λb=>Operand.tmp b.1).toArray) (m2':mk.dst=some d) (m3:mk.guard=none) (d1:df.op= .defer { callee:= .value (.tmp d),args:= #[],argTypes:= #[] }) (d2':df.dst=none) (d3:df.guard=none) (hd:d < fn.ntmps) (hbn:(bs.map (·.1)).Nodup)
  (keep keepY:Nat->Bool) (pin:List Nat) (args:List SV) (hp:Hp) (post:SV->Prop) (q:Prop) (v0:Value) (x0:D) (hx0: ∀(w:World) (S:Nat->Nat->Prop),RepD w S x0 v0) (hn:args.length<=fn.ntmps) (hnd:(hp.map (·.1)).Nodup)
  (hA : nA ⟨P, ti, cY pin, fn.ntmps, keep, 0, none, zc, frz⟩ opsA.toList (λfr hp1 => (∀ b ∈ bs, cV fr b.1 = some (.ptr b.1 0)) /\
   ∀pre,X ⟨P,ti,⟨bs.map (·.1)++pin,KPn q bs,pre,some λt v=>t=tF/\v=v0⟩,fn.ntmps,keep,0,none,zc,frz⟩ B (zL fr d (.fn g [] (bs.map λb=> .ptr b.1 0))) hp1 (mX ti fn.results.toList post)) opsA.toList (cX 0 args) (roH hp))
  (hord:(decide (T.depth<=o5.length) && Region.noSelect o5.toArray && aB2 o5.toArray T (Array.replicate o5.length false) false && fL o5)=true)
  (hY : q -> ∀ vs : List (List Value), aBc bs vs -> nA ⟨P, ti, cY (bs.map (·.1) ++ pin), gn.ntmps, keepY, 200, none, false, []⟩ (m2 :: ta :: o2) (λfr hp1 => nA ⟨P, ti, cY (bs.map (·.1) ++ pin), gn.ntmps, keepY, 200, none, false, []⟩ o3.toList (λfr hp1 => cV fr e = some (.d (.bool false)) /\
   dB ⟨P,ti,cY (bs.map (·.1)++pin),gn.ntmps,keepY,200,none,false,[]⟩ o5 (λ_ hp2=>eH ti (aIp bs) hp2 fn.results.toList (λl=>dC hp2 l λl=>(bX l).ids=[]/\post (bX l))) T fr hp1) o3.toList fr hp1) o2 ((d2, .tup [.d x0, .d (.bool true)])::aKt 0 bs) (vW bs (vs.map aD1))):
  Tri P f args hp post:=by
 intro w ρ vs hslt hargs hro
 refine cW (r:=none) (n:=0) |>.1 (callsIn_of_wp_marks hf hb trivial ?_)
 have hm:Mem ⟨w,ρ.S,λ_=>False,cY pin,ρ,none,[],0⟩ ρ (roH hp) w:=by
  have hat: ∀id o,aN (roH hp) id=some o->ρ.at id o=none:=by
   intro id o ho
   rcases dT hp id o hnd ho with⟨t,cs,rfl,_⟩|⟨g,z,rows,rfl,_⟩|⟨X,rfl,_⟩
   ·rfl
   ·rfl
   ·rfl
  refine⟨rfl,rfl, .refl _,Nat.le_refl _,λ_ _ _=>rfl,λ_ _ h=>h,λ_ _ h _ _=>h,hslt,λ_ _ _=>rfl, ?_, ?_, ?_,λid _=>ρ.moved_refl id, ?_,λb hb=>by cases hb⟩
  ·intro id o ho
   rcases dT hp id o hnd ho with⟨t,cs,rfl,h|h⟩|⟨g,z,rows,rfl,h⟩|⟨X,rfl,h|h⟩
   ·exact hro id _ h
   ·exact hro id _ h
   ·exact hro id _ h
   ·exact hro id _ h
   ·exact hro id _ h
  ·intro id o id' o' g h1 _ h3 _;rw [hat id o h1]at h3;cases h3
  ·intro id o g h1 h3;rw [hat id o h1]at h3;cases h3
  ·intro id x g _ _ _ id' o' h3 h4;rw [hat id' o' h3]at h4;cases h4
 have hfs:bW ρ w (cX 0 args) (vs++Array.replicate (fn.ntmps - vs.size) undef):=by
  intro t s ht
  obtain⟨_,h2⟩:=cU args 0 t s ht
  simp only [Nat.sub_zero]at h2
  have hlt:=(List.getElem?_eq_some_iff.1 h2).1
  have hlt':t < vs.size:=by rw [hargs.1];exact hlt
  refine⟨vs[t], ?_,hargs.2 t s _ h2 (Array.getElem?_eq_getElem hlt')⟩
  rw [Array.getElem?_append_left hlt',Array.getElem?_eq_getElem hlt']
 obtain⟨l1,l2,l3,l4,l5,l6⟩:=hlt
 obtain⟨k1,k2,k3,k4,k5,k6⟩:=hge
 refine wpIn_seq (wpIn_region ?_)
 have key : ∀ fr1 hp1 a1 w1, ((∀ b ∈ bs, cV fr1 b.1 = some (.ptr b.1 0)) /\
   ∀pre,X ⟨P,ti,⟨bs.map (·.1)++pin,KPn q bs,pre,some λt v=>t=tF/\v=v0⟩,fn.ntmps,keep,0,none,zc,frz⟩ B (zL fr1 d (.fn g [] (bs.map λb=> .ptr b.1 0))) hp1 (mX ti fn.results.toList post))->
   Sat ⟨w,ρ.S,λ_=>False,cY pin,ρ,none,[],0⟩ fn.ntmps ⟨fr1,hp1⟩ a1 w1->
   (Code.seq (.region j #[mk,df] false) B).wpIn (FW none) 0 P (bodyPostM (FW none) 0 P fn (dH post w ρ)) a1 w1:=by
  rintro fr1 hp1 a1 w1 ⟨kx,kB⟩ hs
  refine aCd m1 m2' m3 d1 d2' d3 hd hs ⟨rfl,rfl⟩ kx (bs.map (·.1)++pin) (KPn q bs) (some λt v=>t=tF/\v=v0) ?_
  intro ρ1 a2 hm1 hblk hs2
  generalize hdfr:({ target:= .fn (.func g) (bxV ρ1 bs),args:= #[] }:Deferred)=dfr at hs2
  refine wpIn_mono (gO (C:=⟨P,ti,⟨bs.map (·.1)++pin,KPn q bs,[dfr],some λt v=>t=tF/\v=v0⟩,fn.ntmps,keep,0,none,zc,frz⟩) hti B _ _ _ (kB _) (bA w1 ρ1 hp1 ⟨bs.map (·.1)++pin,KPn q bs,[dfr],some λt v=>t=tF/\v=v0⟩ none []) a2 w1 rfl rfl hs2) ?_
  rintro e0' a' w' ⟨e0,fr',hp',E',hE,hrel,hk,hnt,hdf,ρ',hm',hf'⟩
  obtain⟨own,q1',q2',q3',q4',q5'⟩:=gB hE rfl
  have hpre:E'.pin.pre=[dfr]:=by rw [hE.pin];rfl
  have fin:eH ti fr' hp' fn.results.toList (λl=>dC hp' l λl=>(bX l).ids=[]/\post (bX l))->LeavesInM (FW none) 0 P fn a'.tmps (dH post w ρ) a'.defers .returning w':=by
   intro hk
   rw [hdf,q2',hpre]
   refine eG (by simp) [dfr] own E' w' hm' ⟨_,q1',q5'⟩ q4' q3' ?_
   rintro E'' w'' ⟨p1,p2,p3,p4,p5,p6⟩ hm'' hkp
   have hmE:=hm1.leave (pin:=⟨bs.map (·.1)++pin,KPn q bs,[dfr],some λt v=>t=tF/\v=v0⟩) (rd:=none) hm'' ⟨p1.trans hE.w,p2.trans hE.S,p3.trans hE.B,p4.trans hE.pin,p5.trans hE.ρ,λb hb=>by cases hb⟩ (λid hid=>List.mem_append_right _ hid)
   have hf'':bW ρ' w'' fr' a'.tmps:=hf'.mono hkp (λ_ _ x=>x) λi _=>ρ'.moved_refl i
   rw [<-hdfr]
   exact oP (by simp) hg hcall (aE3 hg hgb h1 h2 h3 g1 g2 g3 f1 f2 f3 h4 h5 h6 hI l1 l2 l3 l4 hgr (by rw [mK];omega) (λv=>uS hti hmE hf'' hk))
  have finp: ∀ch,Chn (some λt v=>t=tF/\v=v0) ch->KPn q bs fr' hp'->LeavesInM (FW none) 0 P fn a'.tmps (dH post w ρ) a'.defers (.panicking ch) w':=by
   rintro ch ⟨t,v,rfl,rfl,rfl⟩ ⟨hqq,hkl⟩
   rw [hdf,q2',hpre]
   refine eG (by simp) [dfr] own E' w' hm' ⟨_,q1',q5'⟩ q4' q3' ?_
   rintro E'' w'' ⟨p1',p2',p3',p4',p5',p6'⟩ hm'' hkp
   have hmE:=hm1.leave (pin:=⟨bs.map (·.1)++pin,KPn q bs,[dfr],some λt' v'=>t'=t/\v'=v⟩) (rd:=none) hm'' ⟨p1'.trans hE.w,p2'.trans hE.S,p3'.trans hE.B,p4'.trans hE.pin,p5'.trans hE.ρ,λb hb=>by cases hb⟩ (λid hid=>List.mem_append_right _ hid)
   have hf'':bW ρ' w'' fr' a'.tmps:=hf'.mono hkp (λ_ _ x=>x) λi _=>ρ'.moved_refl i
   have hmv:=hm''.mv
   rw [p4'.trans hE.pin,p5'.trans hE.ρ]at hmv
   have hblk': ∀b∈bs,ρ'.blk b.1=some ((ρ1.blk b.1).getD 0):= λb hb=>(hmv b.1 (List.mem_append_left _ (List.mem_map.2 ⟨b,hb,rfl⟩))).1.trans (hblk b hb)
   obtain⟨cs,hcl,hsub⟩:=hkl.cells
   have hmY:=hmE.sub (hp':=vW bs cs) hsub
   obtain⟨vs',lvs,hmY⟩:=aI6 bs cs [] hcl (by simp) hbn hmY
   rw [List.nil_append]at hmY
   have hfx:bW ρ' w'' (aIp bs) a'.tmps:=by
    intro t s ht
    obtain⟨b,hb,rfl,rfl⟩:=xZ _ _ _ ht
    exact hf'' _ _ (hkl.fr b hb)
   rw [<-hdfr]
   refine oP (by simp) hg hcall (aGo hg hgb h1 h2 h3 g1 g2 g3 f1 f2 f3 h4 h5 h6 hI l1 l2 l3 l4 hgr (by rw [mK];omega) ?_)
   intro A hAt hAd
   have hAs:A.tmps.size=gn.ntmps:=by
    rw [hAt];simp only [Array.size_setIfInBounds,Array.size_append,Array.size_replicate,mK];omega
   have hbx: ∀(i:Nat) (b:Bx),bs[i]? =some b->A.tmps[i]? =some (aKp ((ρ1.blk b.1).getD 0)):=by
    intro i b hi
    have hil:=(List.getElem?_eq_some_iff.1 hi).1
    rw [hAt,Array.getElem?_setIfInBounds_ne (by omega),Array.getElem?_setIfInBounds_ne (by omega),Array.getElem?_setIfInBounds_ne (by omega),Array.getElem?_setIfInBounds_ne (by omega),Array.getElem?_append_left (by rw [mK];omega)]
    exact aKg hi
   have hsz0:(bxV ρ1 bs++Array.replicate (gn.ntmps - (bxV ρ1 bs).size) undef).size=gn.ntmps:=by
    simp only [Array.size_append,Array.size_replicate,mK];omega
   have ev1:A.eval (.tmp a)= .iface t v:=by
    have:A.tmps[a]? =some (.iface t v):=by
     rw [hAt,Array.getElem?_setIfInBounds_ne (Ne.symm hne.2),Array.getElem?_setIfInBounds_ne (Ne.symm hne.1),Array.getElem?_setIfInBounds_self_of_lt (by rw [Array.size_setIfInBounds,hsz0];exact l2)]
    simp [Act.eval,Array.getD_eq_getD_getElem?,this]
   refine wpIn_seq (wpIn_region ?_)
   refine mW ?_
   rw [hoY]
   have e1:(execOp A.eval m2).run P w''= .ok (.value (.iface t v)) w'':=by
    simp [execOp,p1,ev1]
   have w1: ∀y,Region.wanted m2 y=true:= λy=>by simp [Region.wanted,p3]
   have w2: ∀y,Region.wanted ta y=true:= λy=>by simp [Region.wanted,q3]
   have kk1:((m2::ta::o2).toArray)[0]? =some m2:=rfl
   have kk2:((m2::ta::o2).toArray)[1]? =some ta:=rfl
   show wpOpsIn (FW none) 0 P (m2::ta::o2).toArray _ (0::1::List.range' 2 o2.length) A w''
   simp only [wpOpsIn,kk1,kk2,w1,w2,if_true]
   refine⟨λ_ _=>trivial, ?_⟩
   show Oper.uponIn (FW none) 0 P m2 A _ _ ((execOp A.eval m2).run P w'')
   rw [e1,Oper.uponIn_value]
   have ev2:(A.put m2.dst (.iface t v)).eval (.tmp b2)= .iface t v:=by
    rw [p2]
    simp [Act.put,Act.eval,hAs,l5]
   have e2:(execOp (A.put m2.dst (.iface t v)).eval ta).run P w''= .ok (.value (.tuple #[v, .bool true])) w'':=by
    cases dF with
    |interface m=>exact absurd rfl (hF2 m)
    |_=>simp [execOp,q1,ev2,Instr.typeAssert,run_underlying hF]
   refine⟨λ_ _=>trivial, ?_⟩
   show Oper.uponIn (FW none) 0 P ta (A.put m2.dst (.iface t v)) _ _ ((execOp (A.put m2.dst (.iface t v)).eval ta).run P w'')
   rw [e2,Oper.uponIn_value]
   obtain⟨A2,hA2⟩: ∃A2,(A.put m2.dst (.iface t v)).put ta.dst (.tuple #[v, .bool true])=A2:=⟨_,rfl⟩
   rw [hA2]
   have sY:Sat (bA w'' ρ' (vW bs (vs'.map aD1)) (cY (bs.map (·.1)++pin)) none []) gn.ntmps ⟨(d2, .tup [.d x0, .d (.bool true)])::aKt 0 bs,vW bs (vs'.map aD1)⟩ A2 w'':=by
    refine⟨by rw [<-hA2,bC,bC];exact hAs,by rw [<-hA2,put_defers,put_defers,hAd];rfl,ρ',hmY.enter (cY (bs.map (·.1)++pin)) none, ?_⟩
    intro t' s ht
    rw [<-hA2,p2,q2]
    simp only [cV]at ht
    split at ht
    ·rename_i e'
     subst e'
     injection ht with ht
     subst ht
     refine⟨.tuple #[v, .bool true],by simp [Act.put,hAs,l6], .tup _ _ rfl ?_⟩
     intro j' s' v' hs' hv'
     match j',hs',hv' with
     | 0,hs',hv'=>simp at hs' hv';subst hs';subst hv';exact .d _ _ (hx0 _ _)
     | 1,hs',hv'=>simp at hs' hv';subst hs';subst hv';exact .d _ _ (.bool _)
     |j'+2,hs',_=>simp at hs'
    ·obtain⟨i,b',hi,rfl,rfl⟩:=xY _ _ _ _ ht
     have hil:=(List.getElem?_eq_some_iff.1 hi).1
     rw [Nat.zero_add]
     refine⟨aKp ((ρ1.blk b'.1).getD 0), ?_, .ptr _ 0 _ (hblk' b' (List.mem_of_getElem? hi))⟩
     simp only [Act.put]
     rw [Array.getElem?_setIfInBounds_ne (by omega),Array.getElem?_setIfInBounds_ne (by omega)]
     exact hbx i b' hi
   have last: ∀hp2 a2 w2,eH ti (aIp bs) hp2 fn.results.toList (λl=>dC hp2 l λl=>(bX l).ids=[]/\post (bX l))-> ∀fr2,
     Sat (bA w'' ρ' (vW bs (vs'.map aD1)) (cY (bs.map (·.1)++pin)) none []) gn.ntmps ⟨fr2,hp2⟩ a2 w2->a2.defers=[]/\LeavesInM (FW none) 0 P fn a'.tmps (dH post w ρ) [] .returning w2:=by
    rintro hp2 a2 w2 hk2 fr2 ⟨_,s2,ρ2,hm2,_⟩
    refine⟨by rw [s2];rfl, ?_⟩
    have hmF:=hmY.leave (pin:=cY (bs.map (·.1)++pin)) (rd:=none) hm2 ⟨rfl,rfl,rfl,rfl,rfl,λb hb=>by cases hb⟩ (λid hid=> ?_)
    ·refine uS hti hmF (hfx.mono hm2.kp hm2.sold λid hid=>hm2.mv id ?_) hk2
     show id∈bs.map (·.1)++pin
     obtain⟨p,hp',hi⟩:=List.mem_flatMap.1 hid
     obtain⟨b',hb',rfl⟩:=List.mem_map.1 hp'
     have:id=b'.1:=by simpa [SV.ids]using hi
     rw [this]
     exact List.mem_append_left _ (List.mem_map.2 ⟨b',hb',rfl⟩)
    ·exact List.mem_append_right _ hid
   have lastR: ∀fr2 hp2 a2 w2,dB ⟨P,ti,cY (bs.map (·.1)++pin),gn.ntmps,keepY,200,none,false,[]⟩ o5 (λ_ hp2=>eH ti (aIp bs) hp2 fn.results.toList (λl=>dC hp2 l λl=>(bX l).ids=[]/\post (bX l))) T fr2 hp2->
     Sat (bA w'' ρ' (vW bs (vs'.map aD1)) (cY (bs.map (·.1)++pin)) none []) gn.ntmps ⟨fr2,hp2⟩ a2 w2->
     (Code.region i5 o5.toArray true).wpIn (FW none) 0 P (λe aY wY=>(e= .normal\/e= .ret)/\aY.defers=[]/\ ∀v':Value,LeavesInM (FW none) 0 P fn a'.tmps (dH post w ρ) [] (settle (.panicking [{ v:= .iface t v,recovered:=true }])) wY) a2 w2:=by
    intro fr2 hp2 a2 w2 hk2 hs2
    refine aDj (C:=⟨P,ti,cY (bs.map (·.1)++pin),gn.ntmps,keepY,200,none,false,[]⟩) hti T hmix hord hk2 (E:=bA w'' ρ' (vW bs (vs'.map aD1)) (cY (bs.map (·.1)++pin)) none []) rfl hs2 ?_ ?_
    ·rintro⟨_,_,h,_⟩
     rcases h with h|h<;>cases h
    ·intro fr3 hp3 a3 w3 hk3 hs3
     obtain⟨z1,z2⟩:=last hp3 a3 w3 hk3 fr3 hs3
     exact⟨.inl rfl,z1,λ_=>z2⟩
   have f3' : ∀ fr2 hp2 a2 w2, nA ⟨P, ti, cY (bs.map (·.1) ++ pin), gn.ntmps, keepY, 200, none, false, []⟩ o3.toList (λfr hp1 => cV fr e = some (.d (.bool false)) /\
      dB ⟨P,ti,cY (bs.map (·.1)++pin),gn.ntmps,keepY,200,none,false,[]⟩ o5 (λ_ hp2=>eH ti (aIp bs) hp2 fn.results.toList (λl=>dC hp2 l λl=>(bX l).ids=[]/\post (bX l))) T fr hp1) o3.toList fr2 hp2->
     Sat (bA w'' ρ' (vW bs (vs'.map aD1)) (cY (bs.map (·.1)++pin)) none []) gn.ntmps ⟨fr2,hp2⟩ a2 w2->
     (Code.seq (.seq (.region i3 o3 false) (.cond (.tmp e) Z .skip)) (.region i5 o5.toArray true)).wpIn (FW none) 0 P (λe aY wY=>(e= .normal\/e= .ret)/\aY.defers=[]/\ ∀v':Value,LeavesInM (FW none) 0 P fn a'.tmps (dH post w ρ) [] (settle (.panicking [{ v:= .iface t v,recovered:=true }])) wY) a2 w2:=by
    intro fr2 hp2 a2 w2 hk2 hs2
    refine wpIn_seq (wpIn_seq (wpIn_region ?_))
    refine mW (fA (C:=⟨P,ti,cY (bs.map (·.1)++pin),gn.ntmps,keepY,200,none,false,[]⟩) hti (all:=o3.toList) (E:=bA w'' ρ' (vW bs (vs'.map aD1)) (cY (bs.map (·.1)++pin)) none []) rfl ?_ (λ_ _ _ _ _ _ hk=>hk.elim) o3.toList 0 _ _ _ _ rfl hk2 hs2)
    rintro fr3 hp3 a3 w3 ⟨hk3,hk4⟩ hs3
    have hev:a3.eval (.tmp e)= .bool false:=by
     obtain⟨_,_,ρ3,_,hf3⟩:=hs3
     obtain⟨u,hu1,hu2⟩:=hf3 e _ hk3
     cases hu2 with
     |d _ _ h=>cases h with
      |bool _=>simp [Act.eval,Array.getD_eq_getD_getElem?,hu1]
    refine wpIn_cond hev ?_
    exact wpIn_skip (lastR _ _ _ _ hk4 hs3)
   exact fA (C:=⟨P,ti,cY (bs.map (·.1)++pin),gn.ntmps,keepY,200,none,false,[]⟩) hti (all:=m2::ta::o2) (E:=bA w'' ρ' (vW bs (vs'.map aD1)) (cY (bs.map (·.1)++pin)) none []) rfl (λfr2 hp2 a2 w2 hk2 hs2=>f3' fr2 hp2 a2 w2 hk2 hs2) (λ_ _ _ _ _ _ hk=>hk.elim) o2 2 _ _ _ _ rfl (hY hqq vs' lvs) sY
  cases e0<;>cases e0'<;>simp only [Ex.rel]at hrel<;>simp only [KX,mX]at hk
  ·exact fin hk
  ·exact hk.elim
  ·exact hk.elim
  ·exact fin hk
  ·exact finp _ hrel hk
 have s0:Sat ⟨w,ρ.S,λ_=>False,cY pin,ρ,none,[],0⟩ fn.ntmps ⟨cX 0 args,roH hp⟩ { tmps:=vs++Array.replicate (fn.ntmps - vs.size) undef,defers:=[] } w:=by
  refine⟨?_,rfl,ρ,hm,hfs⟩
  simp only [Array.size_append,Array.size_replicate]
  have:=hargs.1
  omega
 have:=fA (C:=⟨P,ti,cY pin,fn.ntmps,keep,0,none,zc,frz⟩) hti (all:=opsA.toList) (E:=⟨w,ρ.S,λ_=>False,cY pin,ρ,none,[],0⟩) (Q:=Exit.then ((Code.seq (.region j #[mk,df] false) B).wpIn (FW none) 0 P (bodyPostM (FW none) 0 P fn (dH post w ρ))) (bodyPostM (FW none) 0 P fn (dH post w ρ))) rfl
  (λfr1 hp1 a1 w1 hk1 hs1=>key fr1 hp1 a1 w1 hk1 hs1) (λ_ _ _ _ _ _ hk=>hk.elim) opsA.toList 0 _ _ _ _ rfl hA s0
 exact mW this
end
end Go.Proofs.YtdjfkmkdkclahaaGreatDoor
