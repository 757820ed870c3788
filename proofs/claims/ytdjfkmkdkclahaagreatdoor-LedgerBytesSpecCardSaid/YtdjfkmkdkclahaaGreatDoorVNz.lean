/-
  Ledgers, the reference: Decode.
  Conditions: none.
-/
import Derived.Test.YtdjfkmkdkclahaaGreatDoorVZh
import Derived.Test.YtdjfkmkdkclahaaGreatDoorVVs
import Derived.Test.YtdjfkmkdkclahaaGreatDoorVSyn
set_option linter.unnecessarySimpa false
set_option linter.unusedSectionVars false
set_option linter.unusedSimpArgs false
set_option linter.unusedVariables false
set_option maxHeartbeats 16000000
namespace Go.Proofs.YtdjfkmkdkclahaaGreatDoor
open Go.Proofs Go.RowKit
set_option maxRecDepth 10000
attribute [local irreducible] aL aH Tri aI YVC bP aS aA3
def aNk:Rd EnT:= λbs=>
 if bs.length < 20+deN (bs.take 4)then none else
 match eF rQy lA qy0 280 (bs.drop (20+deN (bs.take 4)))with
 |(⟨[],[p]⟩,0)=>some (((bs.drop 4).take (deN (bs.take 4)),sgN (deN ((bs.drop (4+deN (bs.take 4))).take 8)),⟨sgN (deN ((bs.drop (12+deN (bs.take 4))).take 8)),p⟩),[])
 |_=>none
theorem aS1 {y:EnT}{d:List UInt8}(h:jS y=(d,0)):aNk d=some (y,[]):=by
 obtain⟨h1,rfl⟩:=aH0 h
 obtain⟨s,n,no,p⟩:=y
 unfold enE at h1
 dsimp only at h1
 split at h1
 ·simp at h1
 ·rename_i h2
  have hs:s.length < 4294967296:=by
   have hr:rdF s=true:=by
    cases hr:rdF s with
    |true=>rfl
    |false=>exact absurd (.inl hr) h2
   unfold rdF at hr
   rw [Bool.and_eq_true]at hr
   have:=qH hr.1
   omega
  have hn:1<=n/\n<=1024:=by
   have hr:hX n=true:=by
    cases hr:hX n with
    |true=>rfl
    |false=>exact absurd (.inr (.inl hr)) h2
   exact of_decide_eq_true hr
  have hno:1<=no/\no<=1024:=⟨by omega,by omega⟩
  have hq:lA ⟨[],[p]⟩=(wQy ⟨[],[p]⟩,0):=if_pos h1
  have hd:eF rQy lA qy0 280 (wQy ⟨[],[p]⟩)=(⟨[],[p]⟩,0):=zT hq (by have:=aL6 hq [];rwa [List.append_nil]at this)
  have l4:(beN 4 s.length).length=4:=aU ..
  have l8:(gK n).length=8:=aU ..
  have l8':(gK no).length=8:=aU ..
  have hk:deN (beN 4 s.length)=s.length:=by rw [zU];omega
  have i1:sgN (deN (gK n))=n:=by unfold gK;rw [zU,Nat.mod_eq_of_lt (aO0 n)];exact aKx (by omega) (by omega)
  have i2:sgN (deN (gK no))=no:=by unfold gK;rw [zU,Nat.mod_eq_of_lt (aO0 no)];exact aKx (by omega) (by omega)
  have e:wEn (s,n,⟨no,p⟩)=beN 4 s.length++(s++(gK n++(gK no++wQy ⟨[],[p]⟩))):=by rw [aDs];simp only [List.append_assoc]
  rw [e]
  generalize wQy ⟨[],[p]⟩=q at *
  generalize gK n=b1 at *
  generalize gK no=b2 at *
  generalize beN 4 s.length=b0 at *
  unfold aNk
  have t0:(b0++(s++(b1++(b2++q)))).take 4=b0:=List.take_left' l4
  rw [t0,hk]
  have t1:((b0++(s++(b1++(b2++q)))).drop 4).take s.length=s:=by rw [List.drop_left' l4,List.take_left' rfl]
  have t2:((b0++(s++(b1++(b2++q)))).drop (4+s.length)).take 8=b1:=by
   rw [<-List.drop_drop,List.drop_left' l4,List.drop_left' rfl,List.take_left' l8]
  have t3:((b0++(s++(b1++(b2++q)))).drop (12+s.length)).take 8=b2:=by
   rw [show 12+s.length=4+(s.length+8)by omega,<-List.drop_drop,List.drop_left' l4,<-List.drop_drop,List.drop_left' rfl,List.drop_left' l8,List.take_left' l8']
  have t4:(b0++(s++(b1++(b2++q)))).drop (20+s.length)=q:=by
   rw [show 20+s.length=4+(s.length+(8+8))by omega,<-List.drop_drop,List.drop_left' l4,<-List.drop_drop,List.drop_left' rfl,<-List.drop_drop,List.drop_left' l8,List.drop_left' l8']
  rw [if_neg (by simp only [List.length_append];omega),t1,t2,t3,t4,hd,i1,i2]
  rfl
theorem aSy (bs:List UInt8):eF aNk jS pK 380 bs=eF rEn jS pK 380 bs:=aMr (λ_ _ h=>aS1 h) (λ_ _ h=>aU5 h) bs
theorem xC (l:List UInt8) (hl:l.length<=8):Tri Tryz.prog 58 [.d (.sl 1 (l.map aP))] [] (λr=>r= .d (.int .i64 (sgN (deN l)))):=by
 have hb:(l.map aP).length=l.length:=bX l
 refine aF hty Tryz.func58 rfl (kp [0,2,3,4,8]) [] _ _ _ (by simp [Tryz.f58]) (by simp) ?_
 ((conv=>whnf);repeat ((first|(intro hq;try simp only [lnS]at hq)|refine sI ?_|refine .intro _ (.intro rfl ?_));(conv=>whnf)))
 refine aJ hty (λj:Nat=>([(0, .d (.sl 1 (l.map aP))),(3, .d (.int .i64 (sgN (deN (l.take j))))),(4, .d (.int .i64 j))],[])) (λj=>j<=l.length) (λj=>l.length - j) 0 (Nat.zero_le _) ⟨by repeat' (first|exact trivial|exact rfl|refine And.intro ?_ ?_),trivial⟩ ?_
 intro j hj
 ((conv=>whnf);repeat ((first|(intro hq;try simp only [lnS]at hq)|refine sI ?_|refine .intro _ (.intro rfl ?_));(conv=>whnf)))
 rw [hb]
 refine aC (λh1=> ?_) (λh1=> ?_)
 ·have hjl:j < l.length:=by omega
  have hrow:(l.map aP)[((j:Nat):Int).toNat]? =some (aP l[j]):=aO hjl
  have hts:l.take (j+1)=l.take j++[l[j]]:=List.take_succ_eq_append_getElem hjl
  have hx:=jR j (l.take j) (by rw [List.length_take];omega)
  have hx:deN (l.take j) < 72057594037927936:=Nat.lt_of_lt_of_le hx (Nat.le_trans (Nat.pow_le_pow_right (by decide) (show j<=7 by omega)) (by decide))
  have hds:deN (l.take (j+1))=256 * deN (l.take j)+l[j].toNat:=by rw [hts,lS]
  have hc:l[j].toNat < 256:=l[j].toNat_lt
  have hsg:sgN (deN (l.take j))=((deN (l.take j):Nat):Int):=by unfold sgN;rw [if_pos (by omega)]
  rw [show aP l[j]=[.int .u8 ((l[j].toNat:Nat):Int)]from rfl]at hrow
  rw [hsg]
  have hw:IntKind.i64.wrap (((deN (l.take j):Nat):Int)* 2 ^ min (Int.toNat 8) IntKind.i64.bits)=sgN (256 * deN (l.take j)):=by
   rw [<-aIq _ (by omega)]
   congr 1
   show ((deN (l.take j):Nat):Int)* 256=_
   omega
  have hs2:sgN (256 * deN (l.take j))+((l[j].toNat:Nat):Int)=sgN (deN (l.take (j+1))):=by
   rw [hds]
   unfold sgN
   split<;>split<;>omega
  have hr:=aRt (n:=deN (l.take (j+1))) (by omega)
  have hr1: -9223372036854775808<=sgN (256 * deN (l.take j))+((l[j].toNat:Nat):Int):=by rw [hs2];exact hr.1
  have hr2:sgN (256 * deN (l.take j))+((l[j].toNat:Nat):Int)<=9223372036854775807:=by rw [hs2];exact hr.2
  ((conv=>whnf);repeat ((first|(refine⟨_,hrow, ?_⟩)|(intro hq;try simp only [lnS]at hq)|refine sI ?_|refine .intro _ (.intro rfl ?_));(conv=>whnf)))
  rw [hw]
  ((conv=>whnf);repeat ((first|(refine And.intro hr1 ?_)|(refine And.intro hr2 ?_)|(intro hq;try simp only [lnS]at hq)|refine sI ?_|refine .intro _ (.intro rfl ?_));(conv=>whnf)))
  rw [hs2]
  exact⟨j+1,by dsimp only;omega,by dsimp only;omega,by repeat' (first|exact trivial|exact rfl|refine And.intro ?_ ?_),trivial⟩
 ·have hjl:j=l.length:=by omega
  subst hjl
  rw [List.take_length]
  ((conv=>whnf);repeat ((first|(intro hq;try simp only [lnS]at hq)|refine sI ?_|refine .intro _ (.intro rfl ?_));(conv=>whnf)))
  rfl
theorem aL7 (bs:List UInt8) (hbs:bs.length<=1000000):Tri Tryz.prog 26 [.d (.sl 1 (bs.map aP))] [] (λr=> ∃y,y=(eF rEn jS pK 380 bs).1/\r= .tup [.d (.str y.1), .d (.int .i64 y.2.1), .d (.agg (bA y.2.2)), .d (.int .i64 (eF rEn jS pK 380 bs).2)]):=by
 rw [<-aSy]
 have hb:=bX bs
 have hdef:aNk bs=if bs.length < 20+deN (bs.take 4)then none else
  match eF rQy lA qy0 280 (bs.drop (20+deN (bs.take 4)))with
  |(⟨[],[p]⟩,0)=>some (((bs.drop 4).take (deN (bs.take 4)),sgN (deN ((bs.drop (4+deN (bs.take 4))).take 8)),⟨sgN (deN ((bs.drop (12+deN (bs.take 4))).take 8)),p⟩),[])
  |_=>none:=rfl
 have hnone:aNk bs=none->eF aNk jS pK 380 bs=(pK,380):= λh=>by unfold eF;rw [h]
 have hsome: ∀y,aNk bs=some (y,[])->eF aNk jS pK 380 bs=if jS y=(bs,0)then (y,0)else (pK,380):= λy h=>by unfold eF;rw [h]
 generalize eF aNk jS pK 380 bs=res at *
 generalize aNk bs=rd at *
 have hlt:=jR (bs.take 4).length (bs.take 4) rfl
 have hlt:deN (bs.take 4) < 4294967296:=Nat.lt_of_lt_of_le hlt (Nat.le_trans (Nat.pow_le_pow_right (by decide) (show (bs.take 4).length<=4 by rw [List.length_take];omega)) (by decide))
 have r1:=xC (bs.take 4) (by rw [List.length_take];omega)
 rw [show sgN (deN (bs.take 4))=((deN (bs.take 4):Nat):Int)by unfold sgN;rw [if_pos (by omega)]]at r1
 generalize deN (bs.take 4)=k at *
 have z1:List.drop 0 (List.take (Int.toNat 4) (bs.map aP))=(bs.take 4).map aP:=by rw [List.drop_zero,List.map_take];rfl
 rw [<-z1]at r1
 refine Tri.says ?_
 refine aG false [10,12] hty Tryz.func26 rfl (kp [0,2,3,4,5,6,7,8,9,10,11,12,13,14,17,31,73,96]) [] _ _ _ (by simp [Tryz.f26]) (by simp) ?_
 by_cases h4:bs.length < 4
 ·have hr:=hnone (by rw [hdef,if_pos (by omega)])
  subst hr
  ((conv=>whnf);repeat ((first|(intro hq;try simp only [lnS]at hq)|refine sI ?_|refine .intro _ (.intro rfl ?_));(conv=>whnf)))
  rw [hb,decide_eq_true (by omega)]
  ((conv=>whnf);repeat ((first|(intro hq;try simp only [lnS]at hq)|refine sI ?_|refine .intro _ (.intro rfl ?_));(conv=>whnf)))
  exact⟨_,bW.third (bW.wkd (by repeat' (first|exact trivial|exact rfl|refine And.intro ?_ ?_))),_,rfl,rfl⟩
 by_cases h20:bs.length < 20+k
 ·have hr:=hnone (by rw [hdef,if_pos h20])
  subst hr
  ((conv=>whnf);repeat ((first|(intro hq;try simp only [lnS]at hq)|refine sI ?_|refine .intro _ (.intro rfl ?_));(conv=>whnf)))
  rw [hb,decide_eq_false (by omega)]
  ((conv=>whnf);repeat' ((first|(intro hq;(try simp only [lnS]at hq);(try rewrite [List.length_map]))|refine sJ ?_|refine .intro _ (.intro rfl ?_)|refine exL (k:= ?_)|(refine aA [] r1 trivial (λr hs=> ?_);subst hs)|refine dwR ?_|((first|refine aC ?_ ?_|refine aD ?_ ?_)<;>intro hb<;>(first|exact ddX hb|try simp only [lnS]at hb))|(refine aB ?_ ?_<;>intro hb<;>try exact dsX hb))<;>(conv=>whnf)))
  all_goals first|(exfalso;omega)|exact⟨_,bW.third (bW.wkd (by repeat' (first|exact trivial|exact rfl|refine And.intro ?_ ?_))),_,rfl,rfl⟩
 ·rw [if_neg h20]at hdef
  ((conv=>whnf);repeat ((first|(intro hq;try simp only [lnS]at hq)|refine sI ?_|refine .intro _ (.intro rfl ?_));(conv=>whnf)))
  rw [hb,decide_eq_false (by omega)]
  have dt: ∀a b:Nat,List.drop ((a:Int)+(k:Int)).toNat (List.take ((b:Int)+(k:Int)).toNat (bs.map aP))=((bs.drop (a+k)).take (b - a)).map aP:= λa b=>by
   rw [show ((a:Int)+(k:Int)).toNat=a+k by omega,show ((b:Int)+(k:Int)).toNat=b+k by omega,List.drop_take,List.map_take,List.map_drop,show b+k - (a+k)=b - a by omega]
  have z2:List.drop ((4:Int)+(k:Int)).toNat (List.take ((12:Int)+(k:Int)).toNat (bs.map aP))=((bs.drop (4+k)).take 8).map aP:=dt 4 12
  have z3:List.drop ((12:Int)+(k:Int)).toNat (List.take ((20:Int)+(k:Int)).toNat (bs.map aP))=((bs.drop (12+k)).take 8).map aP:=dt 12 20
  have z5:List.drop (Int.toNat 4) (List.take ((4:Int)+(k:Int)).toNat (bs.map aP))=((bs.drop 4).take k).map aP:=by
   rw [show ((4:Int)+(k:Int)).toNat=4+k by omega,show Int.toNat 4=4 from rfl,List.drop_take,List.map_take,List.map_drop,show 4+k - 4=k by omega]
  have r2:=xC ((bs.drop (4+k)).take 8) (by rw [List.length_take];omega)
  have r3:=xC ((bs.drop (12+k)).take 8) (by rw [List.length_take];omega)
  have e2:eF aRy lA qy0 280 (bs.drop (20+k))=eF rQy lA qy0 280 (bs.drop (20+k)):=aMr (λy d h=>by have:=aRx h [];rwa [List.append_nil]at this) (λy d h=>by have:=aL6 h [];rwa [List.append_nil]at this) _
  have q1:=xF (bs.drop (20+k)) (by rw [List.length_drop];omega)
  rw [e2]at q1
  clear e2
  rw [<-z2]at r2
  rw [<-z3]at r3
  generalize eF rQy lA qy0 280 (bs.drop (20+k))=dq at *
  obtain⟨⟨told,parts⟩,e⟩:=dq
  have q1:=q1.mono (post':= λr=>r= .tup [.d (.agg [.sl 1 (told.map aV), .sl 1 (parts.map aK)]), .d (.int .i64 e)]) (λr h=>by obtain⟨x,rfl,hr⟩:=h;exact hr)
  generalize sgN (deN ((bs.drop (4+k)).take 8))=n at *
  generalize sgN (deN ((bs.drop (12+k)).take 8))=no at *
  ((conv=>whnf);repeat ((first|(refine aA [] r1 trivial (λr hs=> ?_);subst hs)|(intro hq;try simp only [lnS]at hq)|refine sI ?_|refine .intro _ (.intro rfl ?_));(conv=>whnf)))
  rw [hb,decide_eq_false (by omega)]
  ((conv=>whnf);repeat ((first|(intro hq;try simp only [lnS]at hq)|refine sI ?_|refine .intro _ (.intro rfl ?_));(conv=>whnf)))
  rw [hb,decide_eq_false (by omega)]
  ((conv=>whnf);repeat ((first|(refine aA [] r2 trivial (λr hs=> ?_);subst hs)|(refine aA [] r3 trivial (λr hs=> ?_);subst hs)|(refine aA [] q1 trivial (λr hs=> ?_);subst hs)|(intro hq;try simp only [lnS]at hq)|refine sI ?_|refine .intro _ (.intro rfl ?_));(conv=>whnf)))
  have z6:List.drop ((20:Int)+(k:Int)).toNat (List.take (bs.map aP).length (bs.map aP))=(bs.drop (20+k)).map aP:=by
   rw [List.take_length,show ((20:Int)+(k:Int)).toNat=20+k by omega,List.map_drop]
  rw [<-z6]at q1
  have ht:(told.map aV).length=told.length:=List.length_map ..
  have hp:(parts.map aK).length=parts.length:=List.length_map ..
  have bad:rd=none->res=(pK,380):=hnone
  have fin0:res=(pK,380)-> ∃s',bW (.tup [.d (.str []), .d (.int .i64 0), .d (.agg [.int .i64 0, .nil]), .d (.int .i64 380)]) s'/\ ∃y,y=res.1/\s'= .tup [.d (.str y.1), .d (.int .i64 y.2.1), .d (.agg (bA y.2.2)), .d (.int .i64 res.2)]:=by
   rintro rfl
   exact⟨_,bW.third (bW.wkd (by repeat' (first|exact trivial|exact rfl|refine And.intro ?_ ?_))),_,rfl,rfl⟩
  by_cases he:e=0
  ·subst he
   match told,parts,hdef with
   | [],[p],hdef=>
    have hy:=hsome _ hdef
    have c1:=aEk ((bs.drop 4).take k) n ⟨no,p⟩ (by rw [List.length_take,List.length_drop];omega)
    generalize jS ((bs.drop 4).take k,n,⟨no,p⟩)=we at *
    obtain⟨c,f⟩:=we
    rw [show bA ⟨no,p⟩=[.int .i64 no, .sl 6 (p.map atR)]from rfl]at c1
    ((conv=>whnf);repeat ((first|(refine aA [] q1 trivial (λr hs=> ?_);subst hs)|(intro hq;try simp only [lnS]at hq)|refine sI ?_|refine .intro _ (.intro rfl ?_));(conv=>whnf)))
    rw [z5,dT]
    ((conv=>whnf);repeat ((first|(refine aA [] c1 trivial (λr hs=> ?_);subst hs)|(intro hq;try simp only [lnS]at hq)|refine sI ?_|refine .intro _ (.intro rfl ?_));(conv=>whnf)))
    by_cases hf:f=0
    ·subst hf
     ((conv=>whnf);repeat ((first|(intro hq;try simp only [lnS]at hq)|refine sI ?_|refine .intro _ (.intro rfl ?_));(conv=>whnf)))
     rw [dT,dT]
     by_cases hc:c=bs
     ·subst hc
      rw [if_pos rfl]at hy
      subst hy
      rw [decide_eq_true rfl]
      ((conv=>whnf);repeat ((first|(intro hq;try simp only [lnS]at hq)|refine sI ?_|refine .intro _ (.intro rfl ?_));(conv=>whnf)))
      (refine aX (id:=16) hty (.first 0 (.first 1 (.first 3 (.first 4 (.alt 2 (.alt 5 (.first 6 .done) .stop) .stop))))) (by kernel_rfl) (by kernel_rfl) ?_)
      ((conv=>whnf);repeat' ((first|exact trivial|refine aA0 ?_ ?_|refine eqN rfl ?_|refine leN rfl ?_|refine ltN rfl ?_|refine sJ ?_|(refine Exists.intro _ (And.intro rfl ?_)))<;>(conv=>whnf)))
      all_goals exact⟨_, .refl _,_,rfl,rfl⟩
     ·rw [if_neg (by rintro h;injection h with h1 h2;exact hc h1)]at hy
      rw [decide_eq_false hc]
      ((conv=>whnf);repeat ((first|(intro hq;try simp only [lnS]at hq)|refine sI ?_|refine .intro _ (.intro rfl ?_));(conv=>whnf)))
      exact fin0 hy
    ·rw [if_neg (by rintro h;injection h with h1 h2;exact hf h2)]at hy
     rw [decide_eq_false hf]
     ((conv=>whnf);repeat ((first|(intro hq;try simp only [lnS]at hq)|refine sI ?_|refine .intro _ (.intro rfl ?_));(conv=>whnf)))
     exact fin0 hy
   |t::ts,parts,hdef=>
    ((conv=>whnf);repeat ((first|(refine aA [] q1 trivial (λr hs=> ?_);subst hs)|(intro hq;try simp only [lnS]at hq)|refine sI ?_|refine .intro _ (.intro rfl ?_));(conv=>whnf)))
    all_goals first|exact fin0 (bad hdef)
   | [],[],hdef=>
    ((conv=>whnf);repeat ((first|(refine aA [] q1 trivial (λr hs=> ?_);subst hs)|(intro hq;try simp only [lnS]at hq)|refine sI ?_|refine .intro _ (.intro rfl ?_));(conv=>whnf)))
    exact fin0 (bad hdef)
   | [],p::p'::ps,hdef=>
    ((conv=>whnf);repeat ((first|(refine aA [] q1 trivial (λr hs=> ?_);subst hs)|(intro hq;try simp only [lnS]at hq)|refine sI ?_|refine .intro _ (.intro rfl ?_));(conv=>whnf)))
    all_goals first|exact fin0 (bad hdef)
  ·have hbad:rd=none:=by
    rw [hdef]
    split
    ·rename_i h
     injection h with h1 h2
     exact absurd h2 he
    ·rfl
   ((conv=>whnf);repeat ((first|(refine aA [] q1 trivial (λr hs=> ?_);subst hs)|(intro hq;try simp only [lnS]at hq)|refine sI ?_|refine .intro _ (.intro rfl ?_));(conv=>whnf)))
   rw [decide_eq_false he]
   ((conv=>whnf);repeat ((first|(intro hq;try simp only [lnS]at hq)|refine sI ?_|refine .intro _ (.intro rfl ?_));(conv=>whnf)))
   exact fin0 (bad hbad)
end Go.Proofs.YtdjfkmkdkclahaaGreatDoor
