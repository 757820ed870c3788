/-
  Ledgers: the source reads a part; Decode. Sums of ints that may wrap: a walk that knows less of the type int takes them by rules of their own. A slice literal whose rows may be written. A row of the caller's own, lent to a callee: what comes back does not lie in it, as its content tells. Ledgers, the law's examples. Ledgers, the laws: decoding and encoding are inverse to each other; fewParts; ledgers only grow.
  Conditions: none.
-/
import Derived.Test.YtdjfkmkdkclahaaGreatDoorWSzb
import Derived.Test.YtdjfkmkdkclahaaGreatDoorWNo
import Derived.Test.YtdjfkmkdkclahaaGreatDoorWSyc
import Derived.Test.YtdjfkmkdkclahaaGreatDoorWNh
import Derived.Test.YtdjfkmkdkclahaaGreatDoorWQqg
import Derived.Test.YtdjfkmkdkclahaaGreatDoorWA1
import Derived.Test.YtdjfkmkdkclahaaGreatDoorWOh
import Derived.Test.YtdjfkmkdkclahaaGreatDoorWSyv
set_option linter.unnecessarySimpa false
set_option linter.unusedSectionVars false
set_option linter.unusedSimpArgs false
set_option linter.unusedVariables false
set_option maxHeartbeats 16000000
namespace Go.Proofs.YtdjfkmkdkclahaaGreatDoor
open Go.Proofs Go.RowKit
set_option maxRecDepth 10000
attribute [local irreducible] aJ aG Tri aF YVC cA aU
theorem aJa:RdS 56 [] rPt (λp=> .d (.agg (aQ p))):=by
 intro bs hbs
 have hl:(bs.map bG).length=bs.length:=List.length_map ..
 have c1:=sG zA bs hbs (λx _ _=>pP x)
 have hr:rPt bs=match gU rQy zA qy0 280 bs with|(⟨[],[p]⟩,0)=>some (p,[])|_=>none:=rfl
 generalize gU rQy zA qy0 280 bs=res at *
 obtain⟨⟨told,parts⟩,e⟩:=res
 have c1:=c1.mono (post':= λr=>r= .tup [.d (.agg [.sl 1 (told.map bQ), .sl 1 (parts.map aQ)]), .d (.int .i64 e)]) (λr h=>by obtain⟨x,rfl,hr⟩:=h;exact hr)
 refine aL false [] hty Tryz.func56 rfl (kp [0,2,3,4,29]) 100 (by simp [Tryz.f56]) ?_
 ((conv=>whnf);repeat ((first|(intro hq;try simp only [lnS]at hq)|refine sI ?_|refine .intro _ (.intro rfl ?_));(conv=>whnf)))
 rw [hl]
 refine RdS.call (zK bs.length) rfl (λ_=>rfl) bs hbs rfl (λc r e1=> ?_) (λe1 b=>by rw [iY (Nat.le_refl _)]at e1;cases e1)
 rw [iY (Nat.le_refl _),List.take_length,List.drop_length]at e1
 injection e1 with e1
 injection e1 with e1 e2
 subst e1 e2
 by_cases he:e=0
 ·subst he
  match told,parts,hr with
  | [],[p],hr=>
   ((conv=>whnf);repeat ((first|(refine aA [] c1 trivial (λr hs=> ?_);subst hs)|(intro hq;try simp only [lnS]at hq)|refine sI ?_|refine .intro _ (.intro rfl ?_));(conv=>whnf)))
   exact⟨p,[],hr,rfl,rfl⟩
  |t::ts,parts,hr=>
   have hr:rPt bs=none:=hr
   ((conv=>whnf);repeat ((first|(refine aA [] c1 trivial (λr hs=> ?_);subst hs)|(refine dU hty rfl (by with_unfolding_all exact rfl) rfl rfl ?_)|(intro hq;try simp only [lnS]at hq)|refine sI ?_|refine .intro _ (.intro rfl ?_));(conv=>whnf)))
   rw [decide_eq_true (p:=(0:Int) < ((List.map bQ (t::ts)).length:Nat)) (by rw [List.length_map,List.length_cons];omega)]
   ((conv=>whnf);repeat ((first|(refine dU hty rfl (by with_unfolding_all exact rfl) rfl rfl ?_)|(intro hq;try simp only [lnS]at hq)|refine sI ?_|refine .intro _ (.intro rfl ?_));(conv=>whnf)))
   exact⟨⟨rfl,rfl⟩,hr,[],rfl⟩
  | [],[],hr=>
   have hr:rPt bs=none:=hr
   ((conv=>whnf);repeat ((first|(refine aA [] c1 trivial (λr hs=> ?_);subst hs)|(refine dU hty rfl (by with_unfolding_all exact rfl) rfl rfl ?_)|(intro hq;try simp only [lnS]at hq)|refine sI ?_|refine .intro _ (.intro rfl ?_));(conv=>whnf)))
   exact⟨⟨rfl,rfl⟩,hr,[],rfl⟩
  | [],p::p'::ps,hr=>
   have hr:rPt bs=none:=hr
   ((conv=>whnf);repeat ((first|(refine aA [] c1 trivial (λr hs=> ?_);subst hs)|(refine dU hty rfl (by with_unfolding_all exact rfl) rfl rfl ?_)|(intro hq;try simp only [lnS]at hq)|refine sI ?_|refine .intro _ (.intro rfl ?_));(conv=>whnf)))
   exact⟨⟨rfl,rfl⟩,hr,[],rfl⟩
 ·have hr:rPt bs=none:=by
   rw [hr]
   split
   ·rename_i h
    injection h with h1 h2
    exact absurd h2 he
   ·rfl
  ((conv=>whnf);repeat ((first|(refine aA [] c1 trivial (λr hs=> ?_);subst hs)|(intro hq;try simp only [lnS]at hq)|refine sI ?_|refine .intro _ (.intro rfl ?_));(conv=>whnf)))
  rw [decide_eq_false he]
  ((conv=>whnf);repeat ((first|(refine dU hty rfl (by with_unfolding_all exact rfl) rfl rfl ?_)|(intro hq;try simp only [lnS]at hq)|refine sI ?_|refine .intro _ (.intro rfl ?_));(conv=>whnf)))
  exact⟨⟨rfl,rfl⟩,hr,[],rfl⟩
theorem aH7 {bs b1:List UInt8}{z:Int}(h:mZ (vI 4) sgN bs=some (z,b1)): ∃n:Nat,vI 4 bs=some (n,b1)/\z=(n:Int)/\n < 4294967296:=by
 cases h1:vI 4 bs with
 |none=>rw [dE h1]at h;cases h
 |some p=>
  obtain⟨n,c⟩:=p
  rw [bM h1]at h
  injection h with h
  injection h with h2 h3
  subst h3
  have:=oM h1
  refine⟨n,rfl, ?_,this⟩
  rw [<-h2]
  unfold sgN
  rw [if_pos (by omega)]
theorem aJg {α β:Type}{r:Rd α}{f:α->β}{b:List UInt8}(h:mZ r f b=none):r b=none:=by
 cases h1:r b with
 |none=>rfl
 |some p=>obtain⟨x,c⟩:=p;rw [bM h1]at h;cases h
theorem aJf {b c:List UInt8}{p:List At}(h:rPt b=some (p,c)):c=[]:=by
 unfold rPt at h
 split at h
 ·injection h with h;injection h with _ h;exact h.symm
 ·cases h
abbrev bxs:List Bx:=[(2,9,1),(3,3,1),(4,42,2),(5,27,1)]
theorem cJ.third {a b c c' d:SV}(h:cJ c c'):cJ (.tup [a,b,c,d]) (.tup [a,b,c',d]):=cJ.tup rfl λj x y hx hy=>by
 match j,hx,hy with
 | 0,hx,hy=>simp at hx hy;subst hx;subst hy;exact .refl _
 | 1,hx,hy=>simp at hx hy;subst hx;subst hy;exact .refl _
 | 2,hx,hy=>simp at hx hy;subst hx;subst hy;exact h
 | 3,hx,hy=>simp at hx hy;subst hx;subst hy;exact .refl _
 |j+4,hx,_=>simp at hx
theorem aOp {vs:List (List Value)}(h:aBc bxs vs): ∃a b c d e,vs=[[a],[b],[c,d],[e]]:=by
 match vs,h with
 | [x,y,z,u],⟨h1,h2,h3,h4,_⟩=>
  obtain⟨a,rfl⟩:=List.length_eq_one_iff.1 h1
  obtain⟨b,rfl⟩:=List.length_eq_one_iff.1 h2
  obtain⟨c,d,rfl⟩: ∃c d,z=[c,d]:=by
   match z,h3 with
   | [c,d],_=>exact⟨c,d,rfl⟩
  obtain⟨e,rfl⟩:=List.length_eq_one_iff.1 h4
  exact⟨a,b,c,d,e,rfl⟩
theorem xR (bs:List UInt8) (hbs:bs.length<=1000000):Tri Tryz.prog 25 [.d (.sl 1 (bs.map bG))] [] (λr=> ∃y,y=(gU rEn lA uC 380 bs).1/\r= .tup [.d (.str y.1), .d (.int .i64 y.2.1), .d (.agg (bV y.2.2)), .d (.int .i64 (gU rEn lA uC 380 bs).2)]):=by
 obtain⟨dF,iF,zF,hTF⟩:=aK (hty 81 _ (by with_unfolding_all exact rfl))
 have hni: ∀m,dF≠ .interface m:=by
  intro m e
  have:=hTF.td
  rw [e]at this
  simp [wD]at this
 refine Tri.says ?_
 refine aGb false [] hty (by kernel_rfl) Tryz.func25 rfl bxs ((.first 0 (.first 1 (.alt 2 (.alt 3 (.alt 4 (.alt 5 (.alt 6 .done .stop) .stop) .stop) .stop) (.alt 3 (.alt 2 (.alt 4 (.alt 5 (.alt 6 .done .stop) .stop) .stop) (.alt 4 (.alt 2 (.alt 5 (.alt 6 .done .stop) .stop) (.alt 5 (.alt 2 (.alt 6 .done .stop) .stop) .stop)) .stop)) .stop))))) Tryz.func53 rfl rfl rfl rfl rfl rfl rfl rfl rfl rfl rfl rfl rfl rfl rfl rfl rfl rfl rfl rfl (ms:= #[]) (by kernel_rfl) hTF.und hni (by decide) (by decide) (by decide) rfl (by kernel_rfl) (d:=8) rfl rfl rfl rfl rfl rfl (by decide) (by decide) (kp [0,2,3,4,5,6,7,39]) (kp [0,1,2,3,4,5,6,9,16]) [] _ _ _ (gU rEn lA uC 380 bs=(uC,380)) aO9 (.agg [.int .i64 380]) (λw S=> ?_) (by simp [Tryz.f25]) (by decide) ?_ (by kernel_rfl) ?_
 ·refine .agg _ _ rfl λj x v h1 h2=> ?_
  match j,h1,h2 with
  | 0,h1,h2=>simp at h1 h2;subst h1;subst h2;exact .int _ _
  |j+1,h1,_=>simp at h1
 ·((conv=>whnf);repeat ((first|(intro hq;try simp only [lnS]at hq)|refine sI ?_|refine .intro _ (.intro rfl ?_));(conv=>whnf)))
  refine⟨λb hb=> ?_,λpre=> ?_⟩
  ·simp only [List.mem_cons,List.not_mem_nil,or_false]at hb
   rcases hb with rfl|rfl|rfl|rfl<;>rfl
  ((conv=>whnf);repeat ((first|(intro hq;try simp only [lnS]at hq)|refine sI ?_|refine .intro _ (.intro rfl ?_));(conv=>whnf)))
  refine RdS.call (pI 4 (by decide)) rfl (λ_=>rfl) bs hbs rfl (λz b1 e1=> ?_) (λe1 b=>⟨fY (bD (bD (aJg e1))),⟨rfl,_,rfl,rfl⟩,⟨rfl,_,rfl,rfl⟩,⟨rfl,_,rfl,rfl⟩,⟨rfl,_,rfl,rfl⟩,trivial⟩)
  obtain⟨n,e0,rfl,hn⟩:=aH7 e1
  clear e1
  have q1:=jL (fH 4) e0
  ((conv=>whnf);repeat ((first|(intro hq;try simp only [lnS]at hq)|refine sI ?_|refine .intro _ (.intro rfl ?_));(conv=>whnf)))
  refine RdS.call (zK n) rfl (λ_=>rfl) b1 (by omega) rfl (λs b2 e2=> ?_) (λe2 b=>⟨fY (bD (eY e0 e2)),⟨rfl,_,rfl,rfl⟩,⟨rfl,_,rfl,rfl⟩,⟨rfl,_,rfl,rfl⟩,⟨rfl,_,rfl,rfl⟩,trivial⟩)
  have hT:aAt bs=some (s,b2):=sK e0 e2
  have q2:=jL (rS n) e2
  have hub:=jP s
  clear e0 e2
  ((conv=>whnf);repeat ((first|(intro hq;try simp only [lnS]at hq)|refine sI ?_|refine .intro _ (.intro rfl ?_));(conv=>whnf)))
  rw [hub]
  ((conv=>whnf);repeat ((first|(intro hq;try simp only [lnS]at hq)|refine sI ?_|refine .intro _ (.intro rfl ?_));(conv=>whnf)))
  refine RdS.call (pI 8 (by decide)) rfl (λ_=>rfl) b2 (by omega) rfl (λv b3 e3=> ?_) (λe3 b=>⟨fY (eY hT (bD e3)),⟨rfl,_,rfl,rfl⟩,⟨rfl,_,rfl,rfl⟩,⟨rfl,_,rfl,rfl⟩,⟨rfl,_,rfl,rfl⟩,trivial⟩)
  have q3:=jL mG (show yW b2=some (v,b3)from e3)
  ((conv=>whnf);repeat ((first|(intro hq;try simp only [lnS]at hq)|refine sI ?_|refine .intro _ (.intro rfl ?_));(conv=>whnf)))
  refine RdS.call (pI 8 (by decide)) rfl (λ_=>rfl) b3 (by omega) rfl (λno b4 e4=> ?_) (λe4 b=>⟨fY (eY hT (eY (show yW b2=some (v,b3)from e3) (bD e4))),⟨rfl,_,rfl,rfl⟩,⟨rfl,_,rfl,rfl⟩,⟨rfl,_,rfl,rfl⟩,⟨rfl,_,rfl,rfl⟩,trivial⟩)
  have q4:=jL mG (show yW b3=some (no,b4)from e4)
  ((conv=>whnf);repeat ((first|(intro hq;try simp only [lnS]at hq)|refine sI ?_|refine .intro _ (.intro rfl ?_));(conv=>whnf)))
  refine RdS.call aJa rfl (λ_=>rfl) b4 (by omega) rfl (λp b5 e5=> ?_) (λe5 b=>⟨fY (eY hT (eY (show yW b2=some (v,b3)from e3) (eY (show yW b3=some (no,b4)from e4) (dE e5)))),⟨rfl,_,rfl,rfl⟩,⟨rfl,_,rfl,rfl⟩,⟨rfl,_,rfl,rfl⟩,⟨rfl,_,rfl,rfl⟩,trivial⟩)
  have hrd:rEn bs=some ((s,v,⟨no,p⟩),b5):=sK hT (sK (show yW b2=some (v,b3)from e3) (sK (show yW b3=some (no,b4)from e4) (bM e5)))
  obtain rfl:=aJf e5
  have hd:=yK (wr:=lA) (zero:=uC) (bad:=380) hrd
  have c1:=qX s v ⟨no,p⟩
  clear e3 e4 e5 hT hrd hub
  generalize gU rEn lA uC 380 bs=res at *
  generalize lA (s,v,⟨no,p⟩)=ae at *
  obtain⟨a,e⟩:=ae
  have heq:=iO a bs
  rw [show bV ⟨no,p⟩=[.int .i64 no, .sl 6 (p.map atR)]from rfl]at c1
  ((conv=>whnf);repeat ((first|(refine aA [] c1 trivial (λr hs=> ?_);subst hs)|(intro hq;try simp only [lnS]at hq)|refine sI ?_|refine .intro _ (.intro rfl ?_));(conv=>whnf)))
  by_cases he:e=0
  ·subst he
   rw [decide_eq_true rfl]
   ((conv=>whnf);repeat ((first|(refine aA [] heq trivial (λr hs=> ?_);subst hs)|(intro hq;try simp only [lnS]at hq)|refine sI ?_|refine .intro _ (.intro rfl ?_));(conv=>whnf)))
   by_cases h7:a=bs
   ·subst h7
    rw [if_pos ⟨rfl,rfl⟩]at hd
    subst hd
    rw [decide_eq_true rfl]
    ((conv=>whnf);repeat ((first|(intro hq;try simp only [lnS]at hq)|refine sI ?_|refine .intro _ (.intro rfl ?_));(conv=>whnf)))
    (refine dJ (id:=10) hty (.alt 0 (.alt 1 (.alt 2 (.alt 3 (.alt 4 (.alt 5 (.alt 6 .done .stop) .stop) .stop) .stop) (.alt 3 (.alt 2 (.alt 4 (.alt 5 (.alt 6 .done .stop) .stop) .stop) (.alt 4 (.alt 2 (.alt 5 (.alt 6 .done .stop) .stop) .stop) .stop)) .stop)) (.alt 2 (.alt 1 (.alt 3 (.alt 4 (.alt 5 (.alt 6 .done .stop) .stop) .stop) .stop) (.alt 3 (.alt 1 (.alt 4 (.alt 5 (.alt 6 .done .stop) .stop) .stop) .stop) .stop)) (.alt 3 (.alt 1 (.alt 2 (.alt 4 (.alt 5 (.alt 6 .done .stop) .stop) .stop) (.alt 4 (.alt 2 (.alt 5 (.alt 6 .done .stop) .stop) .stop) .stop)) (.alt 2 (.alt 1 (.alt 4 (.alt 5 (.alt 6 .done .stop) .stop) .stop) .stop) .stop)) .stop))) (.alt 1 (.alt 0 (.alt 2 (.alt 3 (.alt 4 (.alt 5 (.alt 6 .done .stop) .stop) .stop) .stop) (.alt 3 (.alt 2 (.alt 4 (.alt 5 (.alt 6 .done .stop) .stop) .stop) (.alt 4 (.alt 2 (.alt 5 (.alt 6 .done .stop) .stop) .stop) .stop)) .stop)) (.alt 2 (.alt 0 (.alt 3 (.alt 4 (.alt 5 (.alt 6 .done .stop) .stop) .stop) .stop) .stop) .stop)) (.alt 2 (.alt 0 (.alt 1 (.alt 3 (.alt 4 (.alt 5 (.alt 6 .done .stop) .stop) .stop) .stop) (.alt 3 (.alt 1 (.alt 4 (.alt 5 (.alt 6 .done .stop) .stop) .stop) .stop) .stop)) (.alt 1 (.alt 0 (.alt 3 (.alt 4 (.alt 5 (.alt 6 .done .stop) .stop) .stop) .stop) .stop) .stop)) .stop))) (by kernel_rfl) (by kernel_rfl) ?_)
    ((conv=>whnf);repeat' ((first|exact trivial|refine yU ?_ ?_|refine eqN rfl ?_|refine leN rfl ?_|refine ltN rfl ?_|refine sJ ?_|(refine Exists.intro _ (And.intro rfl ?_)))<;>(conv=>whnf)))
    all_goals exact⟨_, .refl _,_,rfl,rfl⟩
   ·have hr:res=(uC,380):=by rw [hd,if_neg];rintro⟨_,h⟩;injection h with h5 h6;exact h7 h5
    rw [decide_eq_false h7]
    ((conv=>whnf);repeat ((first|(refine dU hty rfl (by with_unfolding_all exact rfl) rfl rfl ?_)|(intro hq;try simp only [lnS]at hq)|refine sI ?_|refine .intro _ (.intro rfl ?_));(conv=>whnf)))
    exact⟨⟨rfl,rfl⟩,hr,⟨rfl,_,rfl,rfl⟩,⟨rfl,_,rfl,rfl⟩,⟨rfl,_,rfl,rfl⟩,⟨rfl,_,rfl,rfl⟩,trivial⟩
  ·have hr:res=(uC,380):=by rw [hd,if_neg];rintro⟨_,h⟩;injection h with h5 h6;exact he h6
   rw [show decide ((a,e).2=0)=false from decide_eq_false he]
   ((conv=>whnf);repeat ((first|(refine dU hty rfl (by with_unfolding_all exact rfl) rfl rfl ?_)|(intro hq;try simp only [lnS]at hq)|refine sI ?_|refine .intro _ (.intro rfl ?_));(conv=>whnf)))
   exact⟨⟨rfl,rfl⟩,hr,⟨rfl,_,rfl,rfl⟩,⟨rfl,_,rfl,rfl⟩,⟨rfl,_,rfl,rfl⟩,⟨rfl,_,rfl,rfl⟩,trivial⟩
 ·intro hr vs hvs
  rw [hr]
  obtain⟨v1,v2,v3,v4,v5,rfl⟩:=aOp hvs
  ((conv=>whnf);repeat ((first|(intro hq;try simp only [lnS]at hq)|refine sI ?_|refine .intro _ (.intro rfl ?_));(conv=>whnf)))
  ((conv=>whnf);repeat' ((first|exact trivial|refine yU ?_ ?_|refine eqN rfl ?_|refine leN rfl ?_|refine ltN rfl ?_|refine sJ ?_|(refine Exists.intro _ (And.intro rfl ?_)))<;>(conv=>whnf)))
  all_goals exact⟨_,cJ.third (cJ.wkd (by repeat' (first|exact trivial|exact rfl|refine And.intro ?_ ?_))),_,rfl,rfl⟩
end Go.Proofs.YtdjfkmkdkclahaaGreatDoor
namespace Go.Proofs.YtdjfkmkdkclahaaGreatDoor
open Go.RowKit
section
variable {P:Program}
end
end Go.Proofs.YtdjfkmkdkclahaaGreatDoor
namespace Go.Proofs.YtdjfkmkdkclahaaGreatDoor
open Go.RowKit
section
variable {P:Program}
theorem aHr {ti:TypeId->Option TI}(hti:cI P ti) {o:Oper}{t e:TypeId}{len id:Nat}{parts:Array (Nat×Operand)}(ho:o.op= .buildSlice t len parts) {Ts T:TI}(hT:ti t=some Ts) (htd:Ts.td= .slice e) (hT2:ti e=some T)
  {pin:Pin} {fr:Fr} {hp:Hp} {K:SV->Hp->Prop} {l:List (Nat×SV)} {rows:List (List D)} (hev:evP fr parts.toList=some l) (hpos:0 < T.size) (h0:len≠0) (hsm:len * T.size<=16777216) (hrows:aCy T.size (List.replicate len T.zero) l=some rows)
  (hfr:eN id pin fr hp) (hk:K (.mw id T.size rows.length) ((id, .mrow e T.size rows.length rows)::hp)):aU P o pin fr hp K:=by
 intro E ρ a w hp' hm hf next Q hn
 obtain⟨p1,p2⟩:=aEx hf _ _ hev
 obtain⟨d,i,z,hT⟩:=aK (hti _ _ hT)
 have hd:d= .slice e:=by
  have h:=hT.td
  rw [htd]at h
  exact bI h
 subst hd
 obtain⟨d2,i2,z2,hT2⟩:=aK (hti _ _ hT2)
 obtain⟨rs,r1,r2,r3⟩:=aBo (ρ:=ρ) T.size l _ _ _ rows (kZ hT2 w ρ.S len hpos) p1 p2 hrows
 have hlen:rows.length=len:=by rw [r3];simp
 have hsz2:i2.size=T.size:=hT2.size
 have hrun:(execOp a.eval o).run P w= .ok (.value (.slice (some ⟨w.heap.size,0,none⟩) rows.length rows.length)) (w.alloc (.cells rs e)):=by
  have:=Go.run_buildSlice (P:=P) w t e len (parts.map λp=>(p.1,a.eval p.2)) rs i2 z2 hT.und hT2.info hT2.zero (by rw [hsz2];omega) (by rw [hsz2];exact λh=>h0 (by rcases Nat.mul_eq_zero.1 h with h|h;exact h;omega)) (by rw [hsz2];simpa [hsz2]using r1)
  simp only [execOp,ho,Sem.run_bind,this,Result.andThen_ok,Sem.run_pure,hlen]
 obtain⟨f1,f2,f3⟩:=hfr
 have hrl:=r2.len
 rw [Array.length_toList]at hrl
 have hml:rows.length<=maxLen:=by
  rw [hlen];simp only [maxLen]
  have:len * 1<=len * T.size:=Nat.mul_le_mul_left _ hpos
  omega
 have hgr:=Grew.alloc w (.cells rs e)
 have htk:rs.toList.take (rows.length * T.size)=rs.toList:=List.take_of_length_le (by rw [Array.length_toList,hrl];exact Nat.le_refl _)
 have hmut:dI (w.alloc (.cells rs e)) ρ.S e T.size rows.length rows (.slice (some ⟨w.heap.size,0,none⟩) rows.length rows.length):=by
  refine .inr ⟨by omega,w.heap.size,rs,rfl,heap_alloc_new w _,Nat.le_refl _,hml,hrl,by rw [htk];exact r2.mono (hgr.keeps hm.slt) (λ_ _ x=>x),λj hj=> ?_⟩
  have:=hm.slt _ j hj;omega
 obtain ⟨s1, s2, s3⟩ := hm.newMrow (id := id) f3 (by rw [hp']; exact f1) hgr hmut (by
  intro g hg
  simp only [cZ]at hg
  split at hg
  ·cases hg
  ·injection hg with hg;omega)
 have hrep:Rep (w.alloc (.cells rs e)) (ρ.retop id rows.length (.slice (some ⟨w.heap.size,0,none⟩) rows.length rows.length)) (.mw id T.size rows.length) (.slice (some ⟨w.heap.size,0,none⟩) rows.length rows.length):=
  .mw id T.size rows.length rows.length _ (Nat.le_refl _) hml (λ_=>⟨_,rfl⟩) (by simp [Env.retop]) (by simp [Env.retop])
 exact bO hrun (hn _ _ _ _ _ hk s1 (hf.mono s2 (λ_ _ x=>x) λj hj=>s3 j λe=>f2 (e ▸ hj)) hrep)
def aJn (P:Program) (ti:TypeId->Option TI) (zc:Bool) (pin:Pin) (fr:Fr) (hp:Hp) (dst:Nat) (o:Oper) (K:SV->Hp->Prop):Prop:=
 match o.op with
 | .buildSlice _ _ _=>aU P o pin fr hp K
 |_=>aMo P ti zc pin fr hp dst o K
theorem aLi {ti:TypeId->Option TI}(hti:cI P ti) {o:Oper}{pin:Pin}{fr:Fr}{hp:Hp}{dst:Nat}{zc:Bool}{K:SV->Hp->Prop}(h:aJn P ti zc pin fr hp dst o K):aFw P o pin fr hp K:=by
 unfold aJn at h
 split at h
 ·rename_i ho
  exact sB.r (λc e=>by rw [ho]at e;cases e) h
 ·exact aLj hti h
def aIf (C:Cfg) (all:List Oper) (o:Oper) (fr:Fr) (hp:Hp) (k:Fr->Hp->Prop):Prop:=
 kW all fr o.guard
  (λfr=>aJn C.P C.ti C.zc C.pin fr hp (C.off+o.dst.getD 0) o λs hp'=>put C o.dst s fr λfr'=>k fr' hp')
  (λfr=>put C o.dst (.d (.lit undef)) fr λfr'=>k fr' hp)
def xJ (C:Cfg) (all:List Oper) (K:Fr->Hp->Prop):List Oper->Fr->Hp->Prop
 | [],fr,hp=>lK C.keep fr λfr'=>aM2 C.frz fr' hp K
 |o::r,fr,hp=>aIf C all o fr hp λfr' hp'=>xJ C all K r fr' hp'
theorem aCj {C:Cfg}(hti:cI C.P C.ti) {all:List Oper}{K:Fr->Hp->Prop}{E:Entry}{Q:Exit->Act->World->Prop}(hpin:E.pin=C.pin) (hQ: ∀fr hp a w,K fr hp->Sat E C.nt ⟨fr,hp⟩ a w->Q .normal a w) (hQp: ∀ch fr hp a w,Chn C.pin.pv ch->C.pin.kp fr hp->Sat E C.nt ⟨fr,hp⟩ a w->Q (.panic ch) a w):
  ∀(l:List Oper) (k:Nat) (fr:Fr) (hp:Hp) (a:Act) (w:World),all.drop k=l->xJ C all K l fr hp->Sat E C.nt ⟨fr,hp⟩ a w->wpOpsIn (FW E.rd) 0 C.P all.toArray Q (List.range' k l.length) a w:=by
 intro l
 induction l with
 |nil=>
  intro k fr hp a w _ h hs
  simp only [xJ,hZ]at h
  obtain⟨h1,h2,ρ,h3,h4⟩:=hs
  simp only [List.length_nil,List.range'_zero,wpOpsIn]
  obtain⟨fr',hp',ρ',q1,q2,q3⟩:=nG C.frz (a:=a) h h3 (λt s hts=>h4 t s (fX _ _ t s hts))
  exact hQ _ hp' a w q1 ⟨h1,h2,ρ',q2,q3⟩
 |cons o r ih=>
  intro k fr hp a w hk h hs
  simp only [xJ,aIf]at h
  obtain⟨h1,h2,ρ,h3,h4⟩:=hs
  have hko:all.toArray[k]? =some o:=by
   have:all[k]? =some o:=by
    have:=congrArg (λl=>l[0]?) hk
    simpa [List.getElem?_drop]using this
   simpa using this
  have hkr:all.drop (k+1)=r:=by
   rw [<-List.drop_drop,hk];rfl
  simp only [List.length_cons,List.range'_succ,wpOpsIn,hko]
  obtain⟨fr0,h4,hh⟩:=dP h h4
  rcases hh with⟨hw,h⟩|⟨hw,h⟩
  ·simp only [hw,if_true]
   refine aLi hti h E ρ a w hpin h3 h4 _ Q (λv w' ρ' s hp' hk' hm' hf' hr'=> ?_) (λch w' ρ' hp' q0 q1 q2 q3=>hQp ch fr0 hp' a w' q0 q1 ⟨h1,h2,ρ',q2,q3⟩)
   obtain⟨fr',q1,q2⟩:=eI hk' h1 hf' hr'
   exact ih (k+1) fr' hp' _ w' hkr q1 ⟨by rw [bC];exact h1,by rw [put_defers];exact h2,ρ',hm',q2⟩
  ·simp only [hw,Bool.false_eq_true,if_false]
   obtain⟨fr',q1,q2⟩:=eI h h1 h4 (Rep.d _ undef (.lit undef))
   exact⟨λ_ _=>trivial,ih (k+1) fr' hp _ w hkr q1 ⟨by rw [bC];exact h1,by rw [put_defers];exact h2,ρ,h3,q2⟩⟩
theorem zM {C:Cfg}(hti:cI C.P C.ti) {id:Nat}{ops:Array Oper}{fr:Fr}{hp:Hp}{K:Ex->Fr->Hp->Prop}(h:xJ C ops.toList (K .normal) ops.toList fr hp):aJ C (.region id ops false) fr hp K:=by
 intro E a w hpin _ hs
 refine wpIn_region ?_
 have:=aCj (C:=C) hti (all:=ops.toList) (Q:=iQ C E K) hpin (λfr hp a w hk hs=>⟨.normal,fr,hp,E, .refl E,trivial,hk,hs⟩) (λch fr hp a w hc hk hs=>⟨.pan,fr,hp,E, .refl E,hc,hk,hs⟩) ops.toList 0 fr hp a w rfl h hs
 simpa [List.range_eq_range']using this
end
end Go.Proofs.YtdjfkmkdkclahaaGreatDoor
namespace Go.Proofs.YtdjfkmkdkclahaaGreatDoor
open Go.RowKit
def aOk:D->Bool
 | .int _ _=>true
 | .str _=>true
 |_=>false
inductive Dodge (xs:List D):D->Prop
 |int (k:IntKind) (n:Int):Dodge xs (.int k n)
 |bool (b:Bool):Dodge xs (.bool b)
 |str (l:List UInt8):Dodge xs (.str l)
 |nil:Dodge xs .nil
 |sl0 (z:Nat):Dodge xs (.sl z [])
 |sl (z:Nat) (rows:List (List D)) (h: ∀off,¬ ∀(i:Nat) (row:List D) (j:Nat) (x:D),rows[i]? =some row->row[j]? =some x->xs[off+(i * z+j)]? =some x) (h2: ∀row∈rows,∀x∈row,Dodge xs x):Dodge xs (.sl z rows)
 |agg (cs:List D) (h: ∀x∈cs,Dodge xs x):Dodge xs (.agg cs)
theorem RepD.dodge {w:World}{S S2:Nat->Nat->Prop}{g:Nat}{xs:List D}(hS: ∀b i,S b i->b≠g->S2 b i)
  (hg: ∀k u,w.cell? ⟨g,k,none⟩=some u-> ∃y,xs[k]? =some y/\ ∀S x,Dodge xs x->RepD w S x u->x=y) {x:D} {v:Value} (h:RepD w S x v) (hd:Dodge xs x):RepD w S2 x v:=by
 induction h with
 |int k n=>exact .int k n
 |bool b=>exact .bool b
 |str l h=>exact .str l h
 |nil=>exact .nil
 |sl z rows A cap b off f hz hn hc hA hcell hrep ih=>
  have hin: ∀(i:Nat) (row:List D) (j:Nat) (x:D),rows[i]? =some row->row[j]? =some x->Dodge xs x:=by
   intro i row j x h1 h2
   cases hd with
   |sl0 z=>simp at h1
   |sl z rows h h3=>exact h3 row (List.mem_of_getElem? h1) x (List.mem_of_getElem? h2)
  have hb:rows≠[]->b≠g:=by
   intro hne e
   subst e
   cases hd with
   |sl0 z=>exact hne rfl
   |sl z rows h h3=>
    refine h off λi row j x h1 h2=> ?_
    obtain⟨c1,c2,c3⟩:=hcell i row j x h1 h2
    obtain⟨y,hy,hxy⟩:=hg _ _ c1
    rw [hxy S x (hin i row j x h1 h2) (hrep i row j x h1 h2)]
    exact hy
  refine .sl z rows A cap b off f hz hn hc hA (λi row j x h1 h2=> ?_) λi row j x h1 h2=>ih i row j x h1 h2 (hin i row j x h1 h2)
  obtain⟨c1,c2,c3⟩:=hcell i row j x h1 h2
  exact⟨c1,hS _ _ c2 (hb λe=>by rw [e]at h1;simp at h1),c3⟩
 |agg cs vs hl h ih=>
  refine .agg cs vs hl λj x v h1 h2=>ih j x v h1 h2 ?_
  cases hd with
  |agg cs h=>exact h x (List.mem_of_getElem? h1)
 |lit v=>cases hd
section
variable {P:Program}
theorem aFe {pin:Pin}{fr:Fr}{hp:Hp}{f:FuncId}{args asD:List SV}{K:SV->Hp->Prop}{post:SV->Prop}(id:Nat) {e:TypeId}(xs:List D) (hz:xs≠[]) (ho:aN hp id=some (.mrow e xs.length 1 [xs])) (hsc: ∀y∈xs,aOk y=true)
  (hc:Tri P f asD [] post) (hlen:asD.length=args.length) (hargs: ∀(j:Nat) (s':SV),asD[j]? =some s'-> ∃s,args[j]? =some s/\(s'=s\/(s= .agg [.mw id xs.length 1]/\s'= .d (.agg [.sl xs.length [xs]]))))
  (hk: ∀s,post s-> ∃ds:List D,s= .tup (ds.map SV.d)/\(∀x∈ds,Dodge xs x)/\K s hp):aG P pin fr hp f args K:=by
 intro E ρ w tm hpin hm hf vs hv
 obtain⟨q1,hmut⟩:=hm.sat id _ ho
 rcases hmut with⟨h,_⟩|⟨_,g,cur,hv0,hgc,_,hml,hcs,hfl,hns⟩
 ·cases h
 have hcs:cur.size=xs.length:=by rw [hcs];omega
 have htk:cur.toList.take (([xs]:List (List D)).length * xs.length)=cur.toList:=List.take_of_length_le (by simp [hcs])
 rw [htk]at hfl
 have hgl:g < w.heap.size:=(Array.getElem?_eq_some_iff.1 hgc).1
 have hcell: ∀k,w.cell? ⟨g,k,none⟩=cur[k]? := λk=>cell_of_row w g k cur e (0,0) hgc
 obtain⟨S',hS'⟩: ∃S':Nat->Nat->Prop,S'= λb i=>ρ.S b i\/b=g:=⟨_,rfl⟩
 have hsub: ∀b i,ρ.S b i->S' b i:= λb i h=>by rw [hS'];exact .inl h
 have hsl:RepD w S' (.sl xs.length [xs]) (.slice (some ⟨g,0,none⟩) 1 1):=by
  refine RepD.mk_sl (b:=g) (off:=0) (by simp) (by simp [maxLen]) (λ_=>rfl) ⟨λrow hr=>by rw [List.mem_singleton.1 hr],λi row j x h1 h2=> ?_⟩ rfl
  obtain⟨u,u1,u2⟩:=hfl.at_ i row j x h1 h2
  refine⟨u, ?_,by rw [hS'];exact .inr rfl,hfl.one u (List.mem_of_getElem? u1),u2.mono (λ_ _ _=>rfl) hsub⟩
  rw [Nat.zero_add,hcell]
  simpa using u1
 have hargs':bZ w (ρ.withS S') asD vs:=by
  refine⟨by rw [hv.1,hlen],λj s' v hs' hx=> ?_⟩
  obtain⟨s,hs,rfl|⟨rfl,rfl⟩⟩:=hargs j s' hs'
  ·exact(hv.2 j _ v hs hx).mono (λ_ _ _=>rfl) hsub λi _=>ρ.moved_withS S' i
  ·have hr:=hv.2 j _ v hs hx
   cases hr with
   |agg cs us hl h=>
    refine .d _ _ (.agg _ _ hl λi x u hx hu=> ?_)
    cases i with
    |succ i=>simp at hx
    |zero=>
     simp at hx
     subst hx
     obtain⟨A,c,_,_,_,_,_,e2⟩:=(h 0 _ u rfl hu).mw_inv
     have e3:=e2 (by rw [q1];rfl)
     rw [hv0]at e3
     rw [e3]
     exact hsl
 refine(hc w (ρ.withS S') vs (λb i h=> ?_) hargs' λid o h=>by simp [aN]at h).mono ?_
 ·have h:S' b i:=h
  rw [hS']at h
  rcases h with h|rfl
  ·exact hm.slt b i h
  ·exact hgl
 rintro x w' ⟨v,S2,s,rfl,h2,h3,h4,h5,h6,h7⟩
 obtain⟨ds,rfl,hd,hK⟩:=hk s h2
 obtain⟨m1,m2⟩:=hm.grow h3 (λb i=>ρ.S b i\/(S2 b i/\w.heap.size<=b)) (λb i h=> .inl h) (λb i h=>h.imp (λh=>h) λh=>h.2) (λb i h=>h.elim (λh=>Nat.lt_of_lt_of_le (hm.slt b i h) h3.size) λh=>h6 b i h.1)
 refine .inl ⟨v,_,_,hp,rfl,hK,m1,m2 fr tm hf, ?_⟩
 have hcell': ∀k,w'.cell? ⟨g,k,none⟩=cur[k]? := λk=>cell_of_row w' g k cur e (0,0) (by rw [h3.block g hgl];exact hgc)
 have hkey: ∀k u,w'.cell? ⟨g,k,none⟩=some u-> ∃y,xs[k]? =some y/\ ∀S x,Dodge xs x->RepD w' S x u->x=y:=by
  intro k u hu
  rw [hcell']at hu
  have hk:k < xs.length:=by rw [<-hcs];exact(Array.getElem?_eq_some_iff.1 hu).1
  refine⟨xs[k],List.getElem?_eq_getElem hk,λS x hdx hr=> ?_⟩
  obtain⟨u',u1,u2⟩:=hfl.at_ 0 xs k xs[k] rfl (List.getElem?_eq_getElem hk)
  have e:u'=u:=by
   rw [Nat.zero_mul,Nat.zero_add,Array.getElem?_toList,hu]at u1
   injection u1 with u1
   exact u1.symm
  subst e
  have hs:=hsc xs[k] (List.getElem_mem hk)
  generalize xs[k]=y at u2 hs
  cases y with
  |int a n=>cases u2;cases hr with
   |int=>rfl
   |lit=>cases hdx
  |str l=>cases u2;cases hr with
   |str=>rfl
   |lit=>cases hdx
  |_=>cases hs
 have hS2: ∀b i,S2 b i->b≠g->(ρ.S b i\/(S2 b i/\w.heap.size<=b)):=by
  intro b i h hne
  rcases h5 b i h with h8|h8
  ·have h8:S' b i:=h8
   rw [hS']at h8
   exact .inl (h8.resolve_right hne)
  ·exact .inr ⟨h,h8⟩
 cases h7 with
 |tup cs us hl h=>
  refine .tup _ _ hl λj s u hs hu=> ?_
  have hr:=h j s u hs hu
  rw [List.getElem?_map]at hs
  obtain⟨x,hx,rfl⟩:=Option.map_eq_some_iff.1 hs
  cases hr with
  |d _ _ hr=>exact .d _ _ (hr.dodge hS2 hkey (hd x (List.mem_of_getElem? hx)))
end
end Go.Proofs.YtdjfkmkdkclahaaGreatDoor
namespace Go.Proofs.YtdjfkmkdkclahaaGreatDoor
open Go.Proofs Go.RowKit
set_option maxRecDepth 10000
attribute [local irreducible] aJ aG Tri aF YVC cA aU
def pX (v:bL):List At:=[⟨1,[65],v,[],0,0⟩]
def aFz:Lg:=⟨[97,110,110],1,[]⟩
def aD3:Lg:=⟨[97,110,110],1,[⟨1,pX [63,118,49]⟩]⟩
theorem aL7:aFp aFz (pX [63,120])=(aD3,1,0):=by kernel_rfl
theorem aL6:aFp aD3 (pX [63,111,116,104,101,114])=(aD3,1,0):=by kernel_rfl
theorem aL5:gU rEn lA uC 380 []=(uC,380):=by kernel_rfl
theorem aL4:sZ aFz []=(0,false):=by kernel_rfl
theorem aDv:aJv [] 1=(lg0,1)/\aJv [97,110,110] 0=(lg0,1)/\aJv [97,110,110] 1=(aFz,0):=⟨by kernel_rfl,by kernel_rfl,by kernel_rfl⟩
theorem aDu:aJc aD3 aD3=true/\yS aFz aD3=true/\aEh aFz=1024:=⟨by kernel_rfl,by kernel_rfl,by kernel_rfl⟩
def aDx (v:bL):List D:=[.int .i64 1, .str [65], .str v, .str [], .int .i64 0, .int .i64 0]
theorem aK4: ∀x∈[D.agg (lgR aD3), .int .i64 1, .int .i64 0],Dodge (aDx [63,120]) x:=by
 have h6:Dodge (aDx [63,120]) (.sl 6 [aDx [63,118,49]]):=by
  refine .sl 6 _ (λoff h=> ?_) λrow hr x hx=> ?_
  ·cases off with
   |zero=>
    have:=h 0 _ 2 (.str [63,118,49]) rfl rfl
    simp [aDx]at this
   |succ n=>
    have:=h 0 _ 5 (.int .i64 0) rfl rfl
    simp only [aDx]at this
    have:=(List.getElem?_eq_some_iff.1 this).1
    simp at this
    omega
  ·rw [List.mem_singleton.1 hr]at hx
   simp only [aDx,List.mem_cons,List.not_mem_nil,or_false]at hx
   rcases hx with rfl|rfl|rfl|rfl|rfl|rfl<;>constructor
 have h2:Dodge (aDx [63,120]) (.sl 2 [[.int .i64 1, .sl 6 [aDx [63,118,49]]]]):=by
  refine .sl 2 _ (λoff h=> ?_) λrow hr x hx=> ?_
  ·have h1:=h 0 _ 1 (.sl 6 [aDx [63,118,49]]) rfl rfl
   have h3:=List.mem_of_getElem? h1
   simp [aDx]at h3
  ·rw [List.mem_singleton.1 hr]at hx
   simp only [List.mem_cons,List.not_mem_nil,or_false]at hx
   rcases hx with rfl|rfl
   ·constructor
   ·exact h6
 intro x hx
 simp only [List.mem_cons,List.not_mem_nil,or_false]at hx
 rcases hx with rfl|rfl|rfl
 ·refine .agg _ λx hx=> ?_
  simp only [lgR,aD3,List.mem_cons,List.not_mem_nil,or_false]at hx
  rcases hx with rfl|rfl|rfl
  ·constructor
  ·constructor
  ·exact h2
 ·constructor
 ·constructor
theorem dN:Tri Tryz.prog 10 [] [] (λr=>r= .d (.bool true)):=by
 have n1:=lZ [] 1
 have n2:=lZ [97,110,110] 0
 have n3:=lZ [97,110,110] 1
 rw [aDv.1]at n1
 rw [aDv.2.1]at n2
 rw [aDv.2.2]at n3
 have a1:=qZ aFz (pX [63,120])
 rw [aL7]at a1
 have a2:=qZ aD3 (pX [63,111,116,104,101,114])
 rw [aL6]at a2
 have d1:=(xR [] (by decide)).mono (post':= λr=>r= .tup [.d (.str []), .d (.int .i64 0), .d (.agg [.int .i64 0, .sl 6 []]), .d (.int .i64 380)]) (λr h=>by rw [aL5]at h;obtain⟨y,rfl,hr⟩:=h;exact hr)
 have f1:=nF aFz []
 rw [aL4]at f1
 have s1:=aCe aD3 aD3
 rw [aDu.1]at s1
 have b1:=iH aFz aD3
 rw [aDu.2.1]at b1
 have l1:=uA aFz
 rw [aDu.2.2]at l1
 rw [show lgR lg0=[.str [], .int .i64 0, .sl 2 []]from rfl]at n1 n2
 rw [show lgR aFz=[.str [97,110,110], .int .i64 1, .sl 2 []]from rfl]at n3 a1 f1 b1 l1
 have d1:=Tri.args (xs:=[.d .nil]) d1 ⟨cJ.wkd rfl,trivial⟩
 have f1:=Tri.args (xs:=[.d (.agg [.str [97,110,110], .int .i64 1, .sl 2 []]), .d (.agg [.nil])]) f1 ⟨.refl _,cJ.wkd (by repeat' (first|exact trivial|exact rfl|refine And.intro ?_ ?_)),trivial⟩
 refine wR false [1,3,5,8,11,16] hty Tryz.func10 rfl (kp [0,2,4,5,6,7,8,9,10,11,12,13,17,19,20]) [] _ _ _ (by simp [Tryz.f10]) (by decide) ?_
 refine bJ (eK hty ?_)
 ((conv=>whnf);repeat ((first|(intro hq;try simp only [lnS]at hq)|refine sI ?_|refine .intro _ (.intro rfl ?_));(conv=>whnf)))
 refine bJ (eK hty ?_)
 ((conv=>whnf);repeat ((first|(refine aA [] n1 trivial (λr hs=> ?_);subst hs)|(intro hq;try simp only [lnS]at hq)|refine sI ?_|refine .intro _ (.intro rfl ?_));(conv=>whnf)))
 refine bJ (eK hty ?_)
 ((conv=>whnf);repeat ((first|(refine aA [] n2 trivial (λr hs=> ?_);subst hs)|(intro hq;try simp only [lnS]at hq)|refine sI ?_|refine .intro _ (.intro rfl ?_));(conv=>whnf)))
 refine bJ (eK hty ?_)
 ((conv=>whnf);repeat ((first|(refine aA [] n3 trivial (λr hs=> ?_);subst hs)|(intro hq;try simp only [lnS]at hq)|refine sI ?_|refine .intro _ (.intro rfl ?_));(conv=>whnf)))
 refine bJ (zM hty ?_)
 ((conv=>whnf);repeat ((first|(intro hq;try simp only [lnS]at hq)|refine sI ?_|refine .intro _ (.intro rfl ?_));(conv=>whnf)))
 refine aHr hty (e:=60) (id:=34) rfl (by with_unfolding_all exact rfl) rfl (by with_unfolding_all exact rfl) rfl (by decide) (by decide) (by decide) rfl (cO (by with_unfolding_all exact rfl)) ?_
 ((conv=>whnf);repeat ((first|(intro hq;try simp only [lnS]at hq)|refine sI ?_|refine .intro _ (.intro rfl ?_));(conv=>whnf)))
 refine bJ (eK hty ?_)
 ((conv=>whnf);repeat ((first|(intro hq;try simp only [lnS]at hq)|refine sI ?_|refine .intro _ (.intro rfl ?_));(conv=>whnf)))
 refine aFe 34 (e:=60) (aDx [63,120]) (by decide) rfl (by decide) a1 rfl (λj s' h=> ?_) (λr hs=> ?_)
 ·match j,h with
  | 0,h=>exact⟨_,rfl, .inl (Option.some.inj h).symm⟩
  | 1,h=>exact⟨_,rfl, .inr ⟨rfl,(Option.some.inj h).symm⟩⟩
 subst hs
 refine⟨_,rfl,aK4, ?_⟩
 ((conv=>whnf);repeat ((first|(intro hq;try simp only [lnS]at hq)|refine sI ?_|refine .intro _ (.intro rfl ?_));(conv=>whnf)))
 refine bJ (eK hty ?_)
 ((conv=>whnf);repeat ((first|(intro hq;try simp only [lnS]at hq)|refine sI ?_|refine .intro _ (.intro rfl ?_));(conv=>whnf)))
 refine aJ.frozC (id:=34) (i:=7) (hp1:=[(7, .cells 35 [.mw 34 6 1])]) rfl rfl (by repeat' (first|exact trivial|exact rfl|refine And.intro ?_ ?_)) rfl rfl ?_
 refine eK hty ?_
 ((conv=>whnf);repeat' ((first|(intro hq;(try simp only [lnS]at hq);(try rewrite [List.length_map]))|refine sJ ?_|refine .intro _ (.intro rfl ?_)|refine exL (k:= ?_)|(refine aA [] a2 trivial (λr hs=> ?_);subst hs)|(refine aA [] d1 trivial (λr hs=> ?_);subst hs)|(refine aA [] f1 trivial (λr hs=> ?_);subst hs)|(refine aA [] l1 trivial (λr hs=> ?_);subst hs)|(refine aA [] s1 trivial (λr hs=> ?_);subst hs)|(refine aA [] b1 trivial (λr hs=> ?_);subst hs)|refine dwR ?_|((first|refine aC ?_ ?_|refine aD ?_ ?_)<;>intro hb<;>(first|exact ddX hb|try simp only [lnS]at hb))|(refine aB ?_ ?_<;>intro hb<;>try exact dsX hb))<;>(conv=>whnf)))
 rfl
end Go.Proofs.YtdjfkmkdkclahaaGreatDoor
namespace Go.Proofs.YtdjfkmkdkclahaaGreatDoor
open Go.Proofs Go.RowKit
set_option maxRecDepth 10000
attribute [local irreducible] aJ aG Tri aF YVC cA aU
theorem aIy {s:bL}{n:Int}{x:Ent}(hs:s.length<=100):(lA (s,n,x)).1.length<=11000:=by
 unfold lA
 split
 ·rename_i h
  have hq:qE ⟨[],[x.part]⟩=0:=by
   unfold enE at h
   split at h
   ·simp at h
   ·exact h
  have hb:=aIw hq
  show (wEn (s,n,x)).length<=_
  unfold wEn
  simp only [List.length_append,aD9,zB]
  omega
 ·simp
theorem aHj {b:List UInt8}(h:(gU rEn lA uC 380 b).2≠0):gU rEn lA uC 380 b=(uC,380):=by
 unfold gU at h |-
 split
 ·rename_i x h1
  rw [h1]at h
  simp only at h
  split
  ·rename_i h2
   rw [if_pos h2]at h
   exact absurd rfl h
  ·rfl
 ·rfl
theorem aBf (bs:List UInt8) (hbs:bs.length<=1000000):Tri Tryz.prog 25 [.d (.sl 1 (bs.map bG))] [] (λr=>r= .tup [.d (.str (gU rEn lA uC 380 bs).1.1), .d (.int .i64 (gU rEn lA uC 380 bs).1.2.1), .d (.agg (bV (gU rEn lA uC 380 bs).1.2.2)), .d (.int .i64 (gU rEn lA uC 380 bs).2)]):=
 (xR bs hbs).mono (λr h=>by obtain⟨y,rfl,hr⟩:=h;exact hr)
theorem aA3 (s:bL) (n:Int) (x:Ent) (raw:List UInt8):Tri Tryz.prog 8 [.d (.str s), .d (.int .i64 n), .d (.agg (bV x)), .d (.sl 1 (raw.map bG))] [] (λr=>r= .d (.bool true)):=by
 have c1:=qX s n x
 have hb:=mL raw
 have hpl:(x.part.map atR).length=x.part.length:=List.length_map ..
 by_cases hf:¬ (x.part.length<=6/\s.length<=100/\raw.length<=1000)
 ·rw [show bV x=[.int .i64 x.no, .sl 6 (x.part.map atR)]from rfl]
  refine aH false [6,13,17] hty Tryz.func8 rfl (kp [0,1,2,3,6,8,9,10,11,12,13,14,15,16,17,18,19,20,22,37,46,80,89]) [] _ _ _ (by simp [Tryz.f8]) (by simp) ?_
  ((conv=>whnf);repeat' ((first|(intro hq;(try simp only [lnS]at hq);(try rewrite [List.length_map]))|refine sJ ?_|refine .intro _ (.intro rfl ?_)|refine exL (k:= ?_)|(refine aA [] dN trivial (λr hs=> ?_);subst hs)|refine dwR ?_|((first|refine aC ?_ ?_|refine aD ?_ ?_)<;>intro hb<;>(first|exact ddX hb|try simp only [lnS]at hb))|(refine aB ?_ ?_<;>intro hb<;>try exact dsX hb))<;>(conv=>whnf)))
  all_goals first|rfl|(exfalso;omega)
 have hf:x.part.length<=6/\s.length<=100/\raw.length<=1000:=Decidable.not_not.1 hf
 have hel:= @aIy s n x hf.2.1
 have d1:=aBf (lA (s,n,x)).1 (by omega)
 have d2:=aBf raw (by omega)
 have hok:(gU rEn lA uC 380 raw).2=0->lA (gU rEn lA uC 380 raw).1=(raw,0):= λh=>(aM5 (by decide) h).1
 have hno:= @aHj raw
 generalize gU rEn lA uC 380 raw=res at *
 obtain⟨⟨rs,rn,⟨rno,rp⟩⟩,re⟩:=res
 have c2:=qX rs rn ⟨rno,rp⟩
 have d1:(lA (s,n,x)).2=0->Tri Tryz.prog 25 [.d (.sl 1 ((lA (s,n,x)).1.map bG))] [] (λr=>r= .tup [.d (.str s), .d (.int .i64 n), .d (.agg (bV x)), .d (.int .i64 0)]):= λh=>by
  have hw:lA (s,n,x)=((lA (s,n,x)).1,0):=by rw [<-h]
  rw [yJ hw (aLd hw)]at d1
  exact d1
 have p1:=jN x.part x.part
 rw [decide_eq_true rfl]at p1
 rw [show aQ x.part=[.sl 6 (x.part.map atR)]from rfl]at p1
 rw [show bV x=[.int .i64 x.no, .sl 6 (x.part.map atR)]from rfl]at c1 d1 |-
 rw [show bV ⟨rno,rp⟩=[.int .i64 rno, .sl 6 (rp.map atR)]from rfl]at c2 d2
 dsimp only at d2 hok hno
 generalize lA (s,n,x)=we at *
 obtain⟨b,e⟩:=we
 dsimp only at c1 d1
 by_cases hre:re=0
 ·have hok:=hok hre
  rw [hok]at c2
  dsimp only at c2
  subst hre
  refine aH false [6,13,17] hty Tryz.func8 rfl (kp [0,1,2,3,6,8,9,10,11,12,13,14,15,16,17,18,19,20,22,37,46,80,89]) [] _ _ _ (by simp [Tryz.f8]) (by simp) ?_
  by_cases he:e=0
  ·subst he
   have d1:=d1 rfl
   ((conv=>whnf);repeat' ((first|(intro hq;(try simp only [lnS]at hq);(try rewrite [List.length_map]))|refine sJ ?_|refine .intro _ (.intro rfl ?_)|refine exL (k:= ?_)|(refine aA [] dN trivial (λr hs=> ?_);subst hs)|(refine aA [] c1 trivial (λr hs=> ?_);subst hs)|(refine aA [] c2 trivial (λr hs=> ?_);subst hs)|(refine aA [] d1 trivial (λr hs=> ?_);subst hs)|(refine aA [] d2 trivial (λr hs=> ?_);subst hs)|(refine aA [] p1 trivial (λr hs=> ?_);subst hs)|refine dwR ?_|((first|refine aC ?_ ?_|refine aD ?_ ?_)<;>intro hb<;>(first|exact ddX hb|try simp only [lnS]at hb))|(refine aB ?_ ?_<;>intro hb<;>try exact dsX hb))<;>(conv=>whnf)))
   all_goals first|rfl|exact aM (decide_eq_true rfl)
  ·((conv=>whnf);repeat' ((first|(intro hq;(try simp only [lnS]at hq);(try rewrite [List.length_map]))|refine sJ ?_|refine .intro _ (.intro rfl ?_)|refine exL (k:= ?_)|(refine aA [] dN trivial (λr hs=> ?_);subst hs)|(refine aA [] c1 trivial (λr hs=> ?_);subst hs)|(refine aA [] c2 trivial (λr hs=> ?_);subst hs)|(refine aA [] d2 trivial (λr hs=> ?_);subst hs)|refine dwR ?_|((first|refine aC ?_ ?_|refine aD ?_ ?_)<;>intro hb<;>(first|exact ddX hb|try simp only [lnS]at hb))|(refine aB ?_ ?_<;>intro hb<;>try exact dsX hb))<;>(conv=>whnf)))
   all_goals first|rfl|exact aM (decide_eq_true rfl)
 ·have hno:=hno hre
  injection hno with h1 h2
  injection h1 with h3 h4
  injection h4 with h5 h6
  injection h6 with h7 h8
  subst h3 h5 h7 h8 h2
  refine aH false [6,13,17] hty Tryz.func8 rfl (kp [0,1,2,3,6,8,9,10,11,12,13,14,15,16,17,18,19,20,22,37,46,80,89]) [] _ _ _ (by simp [Tryz.f8]) (by simp) ?_
  by_cases he:e=0
  ·subst he
   have d1:=d1 rfl
   ((conv=>whnf);repeat' ((first|(intro hq;(try simp only [lnS]at hq);(try rewrite [List.length_map]))|refine sJ ?_|refine .intro _ (.intro rfl ?_)|refine exL (k:= ?_)|(refine aA [] dN trivial (λr hs=> ?_);subst hs)|(refine aA [] c1 trivial (λr hs=> ?_);subst hs)|(refine aA [] d1 trivial (λr hs=> ?_);subst hs)|(refine aA [] d2 trivial (λr hs=> ?_);subst hs)|(refine aA [] p1 trivial (λr hs=> ?_);subst hs)|refine dwR ?_|((first|refine aC ?_ ?_|refine aD ?_ ?_)<;>intro hb<;>(first|exact ddX hb|try simp only [lnS]at hb))|(refine aB ?_ ?_<;>intro hb<;>try exact dsX hb))<;>(conv=>whnf)))
   all_goals first|rfl|exact aM (decide_eq_true rfl)
  ·((conv=>whnf);repeat' ((first|(intro hq;(try simp only [lnS]at hq);(try rewrite [List.length_map]))|refine sJ ?_|refine .intro _ (.intro rfl ?_)|refine exL (k:= ?_)|(refine aA [] dN trivial (λr hs=> ?_);subst hs)|(refine aA [] c1 trivial (λr hs=> ?_);subst hs)|(refine aA [] d2 trivial (λr hs=> ?_);subst hs)|refine dwR ?_|((first|refine aC ?_ ?_|refine aD ?_ ?_)<;>intro hb<;>(first|exact ddX hb|try simp only [lnS]at hb))|(refine aB ?_ ?_<;>intro hb<;>try exact dsX hb))<;>(conv=>whnf)))
   all_goals first|rfl|exact aM (decide_eq_true rfl)
end Go.Proofs.YtdjfkmkdkclahaaGreatDoor
