/-
  Objects: decoding axioms, queries and alignments; the readers. Arguments that say less; rows made here handed to a callee for good. Objects: Alignment as the program writes it; ReadCommit; Query of the empty query. The reference of objects: ReadCommit. The reference of objects: its reader reads an axiom. The reference of objects: its reader reads axioms. The reference of objects: ReadAlignment. Objects: the law's examples. Arrays held against one another: are they not equal? ObjectsCommitSpec, walked. Terms: the reference's Weight and CompareAxiom.
  Conditions: none.
-/
import Derived.Test.YtleihcnongldbaaGreatDoorWPa
import Derived.Test.YtleihcnongldbaaGreatDoorWSyc
import Derived.Test.YtleihcnongldbaaGreatDoorWVe
import Derived.Test.YtleihcnongldbaaGreatDoorWA8
import Derived.Test.YtleihcnongldbaaGreatDoorWPi
import Derived.Test.YtleihcnongldbaaGreatDoorWG4
import Derived.Test.YtleihcnongldbaaGreatDoorWSyi
set_option linter.unnecessarySimpa false
set_option linter.unusedSectionVars false
set_option linter.unusedSimpArgs false
set_option linter.unusedVariables false
set_option maxHeartbeats 32000000
namespace Go.Proofs.YtleihcnongldbaaGreatDoor
open Go.Proofs Go.RowKit
set_option maxRecDepth 10000
attribute [local irreducible] aN aJ Tri aI YVC cP bE
def qy0:Qy:=⟨[],[]⟩
def al0:Al:=⟨[],aOy,[],aOy,0,[],[]⟩
theorem aC4 (wr:Qy->List UInt8×Int) (bs:List UInt8) (hb:bs.length<=1000000) (hwr: ∀x c,rQy bs=some (x,c)->Tri Tryz.prog 9 [.d (.agg (qyR x))] NG (λr=>r= .tup [.d (.sl 1 ((wr x).1.map aM)), .d (.int .i64 (wr x).2)])):
  Tri Tryz.prog 35 [.d (.sl 1 (bs.map aM)), .fn 36 [] [], .fn 9 [] []] NG (λr=> ∃x,x=(eM rQy wr qy0 280 bs).1/\r= .tup [.d (.agg (qyR x)), .d (.int .i64 (eM rQy wr qy0 280 bs).2)]):=by
 have hlb:=bO bs
 have hsl:List.drop 0 (List.take (((bs.map aM).length:Nat):Int).toNat (bs.map aM))=bs.map aM:=by rw [List.drop_zero,Int.toNat_natCast,List.take_of_length_le (Nat.le_refl _)]
 refine Tri.says ?_
 refine aEa false [] hty Tryz.func35 rfl Tryz.func77 rfl rfl rfl rfl rfl rfl rfl (by kernel_rfl) (by decide) (by decide) (by decide) (by decide) rfl (by kernel_rfl) (ms:= #[]) (d:=11) (x:=6) (y:=7) (tx:=25) (ty:=30) rfl rfl rfl rfl rfl rfl (by decide) (by decide) (kp [0,1,2,6,7,8,9,10,44]) (kp [0,1,2,4]) [] _ _ _ 2 (eM rQy wr qy0 280 bs=(qy0,280)) (by simp [Tryz.f35]) (by decide) ?_ ?_
 ·((conv=>whnf);repeat ((first|(intro hq;try simp only [lnS]at hq)|refine sI ?_|refine .intro _ (.intro rfl ?_));(conv=>whnf)))
  rw [hsl]
  refine RdT.call aQf rfl (λ_=>rfl) bs hb rfl (λx c e1=> ?_) (λe1 b=>⟨yM e1,rfl,rfl,⟨_,rfl,rfl⟩,_,rfl⟩)
  have hw:=hwr x c e1
  have hd:=tB (wr:=wr) (zero:=qy0) (bad:=280) e1
  generalize eM rQy wr qy0 280 bs=res at *
  generalize wr x=ae at *
  obtain⟨a,e⟩:=ae
  have heq:=iQ a bs
  obtain⟨tl,pl⟩:=x
  ((conv=>whnf);repeat ((first|(refine aD NG hw ⟨rfl,rfl,trivial⟩ (λr hs=> ?_);subst hs)|(intro hq;try simp only [lnS]at hq)|refine sI ?_|refine .intro _ (.intro rfl ?_));(conv=>whnf)))
  refine aC (λh2=> ?_) (λh2=> ?_)
  ·have hr:res=(qy0,280):=by rw [hd,if_neg];rintro⟨_,h⟩;injection h with h3 h4;exact h2 h4
   ((conv=>whnf);repeat ((first|(refine dU hty rfl (by with_unfolding_all exact rfl) rfl rfl ?_)|(intro hq;try simp only [lnS]at hq)|refine sI ?_|refine .intro _ (.intro rfl ?_));(conv=>whnf)))
   exact⟨⟨_,rfl,rfl⟩,_,rfl⟩
  have h2:e=0:=by simpa using h2
  subst h2
  ((conv=>whnf);repeat ((first|(intro hq;try simp only [lnS]at hq)|refine sI ?_|refine .intro _ (.intro rfl ?_));(conv=>whnf)))
  refine aB (λh3=> ?_) (λh3=> ?_)
  ·have hr:res=(qy0,280):=by rw [hd,if_neg];rintro⟨h,_⟩;subst h;simp at h3
   ((conv=>whnf);repeat ((first|(refine dU hty rfl (by with_unfolding_all exact rfl) rfl rfl ?_)|(intro hq;try simp only [lnS]at hq)|refine sI ?_|refine .intro _ (.intro rfl ?_));(conv=>whnf)))
   exact⟨⟨_,rfl,rfl⟩,_,rfl⟩
  have h3:c=[]:=by
   rw [bO]at h3
   exact List.length_eq_zero_iff.1 (by omega)
  subst h3
  ((conv=>whnf);repeat ((first|(refine aD [] heq trivial (λr hs=> ?_);subst hs)|(intro hq;try simp only [lnS]at hq)|refine sI ?_|refine .intro _ (.intro rfl ?_));(conv=>whnf)))
  by_cases h4:a=bs
  ·subst h4
   rw [decide_eq_true rfl]
   rw [if_pos ⟨rfl,rfl⟩]at hd
   subst hd
   ((conv=>whnf);repeat ((first|(intro hq;try simp only [lnS]at hq)|refine sI ?_|refine .intro _ (.intro rfl ?_));(conv=>whnf)))
   exact⟨_, .refl _,_,rfl,rfl⟩
  ·have hr:res=(qy0,280):=by rw [hd,if_neg];rintro⟨_,h⟩;injection h with h5 h6;exact h4 h5
   rw [decide_eq_false h4]
   ((conv=>whnf);repeat ((first|(refine dU hty rfl (by with_unfolding_all exact rfl) rfl rfl ?_)|(intro hq;try simp only [lnS]at hq)|refine sI ?_|refine .intro _ (.intro rfl ?_));(conv=>whnf)))
   exact⟨⟨_,rfl,rfl⟩,_,rfl⟩
 ·intro hr vx vy hcx
  rw [hr]
  obtain⟨s0,vx0,rfl,h0x⟩:=aL hcx
  obtain⟨s1,vx1,rfl,h1x⟩:=aL h0x
  obtain rfl:=List.length_eq_zero_iff.1 h1x
  ((conv=>whnf);repeat ((first|(intro hq;try simp only [lnS]at hq)|refine sI ?_|refine .intro _ (.intro rfl ?_));(conv=>whnf)))
  exact⟨_,dA.pair (dA.wkd (by repeat' (first|exact trivial|exact rfl|refine And.intro ?_ ?_))),_,rfl,rfl⟩
theorem qF (wr:Qy->List UInt8×Int) (bs:List UInt8) (hb:bs.length<=1000000) (hwr: ∀x c,rQy bs=some (x,c)->Tri Tryz.prog 9 [.d (.agg (qyR x))] NG (λr=>r= .tup [.d (.sl 1 ((wr x).1.map aM)), .d (.int .i64 (wr x).2)])):
  Tri Tryz.prog 11 [.d (.sl 1 (bs.map aM))] NG (λr=> ∃x,x=(eM rQy wr qy0 280 bs).1/\r= .tup [.d (.agg (qyR x)), .d (.int .i64 (eM rQy wr qy0 280 bs).2)]):=by
 have hd:=aC4 wr bs hb hwr
 generalize eM rQy wr qy0 280 bs=res at *
 refine aE false [] hty Tryz.func11 rfl (kp [0,2,3]) [] _ _ _ (by simp [Tryz.f11]) (by decide) ?_
 ((conv=>whnf);repeat ((first|(intro hq;try simp only [lnS]at hq)|refine sI ?_|refine .intro _ (.intro rfl ?_));(conv=>whnf)))
 refine aD NG hd ⟨rfl,rfl,trivial⟩ (λr hs=> ?_)
 obtain⟨x,hx0,rfl⟩:=hs
 obtain⟨tl,pl⟩:=x
 ((conv=>whnf);repeat ((first|(intro hq;try simp only [lnS]at hq)|refine sI ?_|refine .intro _ (.intro rfl ?_));(conv=>whnf)))
 rw [<-hx0]
 rfl
theorem tZ (wr:Al->List UInt8×Int) (bs:List UInt8) (hb:bs.length<=1000000) (hwr: ∀x c,(rAl 9) bs=some (x,c)->Tri Tryz.prog 15 [.d (.agg (alR x))] NG (λr=>r= .tup [.d (.sl 1 ((wr x).1.map aM)), .d (.int .i64 (wr x).2)])):
  Tri Tryz.prog 48 [.d (.sl 1 (bs.map aM)), .fn 49 [] [], .fn 15 [] []] NG (λr=> ∃x,x=(eM (rAl 9) wr al0 280 bs).1/\r= .tup [.d (.agg (alR x)), .d (.int .i64 (eM (rAl 9) wr al0 280 bs).2)]):=by
 have hlb:=bO bs
 have hsl:List.drop 0 (List.take (((bs.map aM).length:Nat):Int).toNat (bs.map aM))=bs.map aM:=by rw [List.drop_zero,Int.toNat_natCast,List.take_of_length_le (Nat.le_refl _)]
 refine Tri.says ?_
 refine aEa false [] hty Tryz.func48 rfl Tryz.func88 rfl rfl rfl rfl rfl rfl rfl (by kernel_rfl) (by decide) (by decide) (by decide) (by decide) rfl (by kernel_rfl) (ms:= #[]) (d:=11) (x:=6) (y:=7) (tx:=44) (ty:=30) rfl rfl rfl rfl rfl rfl (by decide) (by decide) (kp [0,1,2,6,7,8,9,10,44]) (kp [0,1,2,4]) [] _ _ _ 69 (eM (rAl 9) wr al0 280 bs=(al0,280)) (by simp [Tryz.f48]) (by decide) ?_ ?_
 ·((conv=>whnf);repeat ((first|(intro hq;try simp only [lnS]at hq)|refine sI ?_|refine .intro _ (.intro rfl ?_));(conv=>whnf)))
  rw [hsl]
  refine RdT.call aFd rfl (λ_=>rfl) bs hb rfl (λx c e1=> ?_) (λe1 b=>⟨yM e1,rfl,rfl,⟨_,rfl,rfl⟩,_,rfl⟩)
  have hw:=hwr x c e1
  have hd:=tB (wr:=wr) (zero:=al0) (bad:=280) e1
  generalize eM (rAl 9) wr al0 280 bs=res at *
  generalize wr x=ae at *
  obtain⟨a,e⟩:=ae
  have heq:=iQ a bs
  obtain⟨nm,d1,ax,d2,ix,ps,pt⟩:=x
  obtain⟨yl,hy⟩:=d1
  obtain⟨y0,y1,y2,y3,y4,y5,y6,y7,y8,y9,y10,y11,y12,y13,y14,y15,y16,y17,y18,y19,y20,y21,y22,y23,y24,y25,y26,y27,y28,y29,y30,y31,rfl⟩:=jS hy
  obtain⟨zl,hz⟩:=d2
  obtain⟨z0,z1,z2,z3,z4,z5,z6,z7,z8,z9,z10,z11,z12,z13,z14,z15,z16,z17,z18,z19,z20,z21,z22,z23,z24,z25,z26,z27,z28,z29,z30,z31,rfl⟩:=jS hz
  ((conv=>whnf);repeat ((first|(refine aD NG hw ⟨rfl,rfl,trivial⟩ (λr hs=> ?_);subst hs)|(intro hq;try simp only [lnS]at hq)|refine sI ?_|refine .intro _ (.intro rfl ?_));(conv=>whnf)))
  refine aC (λh2=> ?_) (λh2=> ?_)
  ·have hr:res=(al0,280):=by rw [hd,if_neg];rintro⟨_,h⟩;injection h with h3 h4;exact h2 h4
   ((conv=>whnf);repeat ((first|(refine dU hty rfl (by with_unfolding_all exact rfl) rfl rfl ?_)|(intro hq;try simp only [lnS]at hq)|refine sI ?_|refine .intro _ (.intro rfl ?_));(conv=>whnf)))
   exact⟨⟨_,rfl,rfl⟩,_,rfl⟩
  have h2:e=0:=by simpa using h2
  subst h2
  ((conv=>whnf);repeat ((first|(intro hq;try simp only [lnS]at hq)|refine sI ?_|refine .intro _ (.intro rfl ?_));(conv=>whnf)))
  refine aB (λh3=> ?_) (λh3=> ?_)
  ·have hr:res=(al0,280):=by rw [hd,if_neg];rintro⟨h,_⟩;subst h;simp at h3
   ((conv=>whnf);repeat ((first|(refine dU hty rfl (by with_unfolding_all exact rfl) rfl rfl ?_)|(intro hq;try simp only [lnS]at hq)|refine sI ?_|refine .intro _ (.intro rfl ?_));(conv=>whnf)))
   exact⟨⟨_,rfl,rfl⟩,_,rfl⟩
  have h3:c=[]:=by
   rw [bO]at h3
   exact List.length_eq_zero_iff.1 (by omega)
  subst h3
  ((conv=>whnf);repeat ((first|(refine aD [] heq trivial (λr hs=> ?_);subst hs)|(intro hq;try simp only [lnS]at hq)|refine sI ?_|refine .intro _ (.intro rfl ?_));(conv=>whnf)))
  by_cases h4:a=bs
  ·subst h4
   rw [decide_eq_true rfl]
   rw [if_pos ⟨rfl,rfl⟩]at hd
   subst hd
   ((conv=>whnf);repeat ((first|(intro hq;try simp only [lnS]at hq)|refine sI ?_|refine .intro _ (.intro rfl ?_));(conv=>whnf)))
   exact⟨_, .refl _,_,rfl,rfl⟩
  ·have hr:res=(al0,280):=by rw [hd,if_neg];rintro⟨_,h⟩;injection h with h5 h6;exact h4 h5
   rw [decide_eq_false h4]
   ((conv=>whnf);repeat ((first|(refine dU hty rfl (by with_unfolding_all exact rfl) rfl rfl ?_)|(intro hq;try simp only [lnS]at hq)|refine sI ?_|refine .intro _ (.intro rfl ?_));(conv=>whnf)))
   exact⟨⟨_,rfl,rfl⟩,_,rfl⟩
 ·intro hr vx vy hcx
  rw [hr]
  obtain⟨s0,vx0,rfl,h0x⟩:=aL hcx
  obtain⟨s1,vx1,rfl,h1x⟩:=aL h0x
  obtain⟨s2,vx2,rfl,h2x⟩:=aL h1x
  obtain⟨s3,vx3,rfl,h3x⟩:=aL h2x
  obtain⟨s4,vx4,rfl,h4x⟩:=aL h3x
  obtain⟨s5,vx5,rfl,h5x⟩:=aL h4x
  obtain⟨s6,vx6,rfl,h6x⟩:=aL h5x
  obtain⟨s7,vx7,rfl,h7x⟩:=aL h6x
  obtain⟨s8,vx8,rfl,h8x⟩:=aL h7x
  obtain⟨s9,vx9,rfl,h9x⟩:=aL h8x
  obtain⟨s10,vx10,rfl,h10x⟩:=aL h9x
  obtain⟨s11,vx11,rfl,h11x⟩:=aL h10x
  obtain⟨s12,vx12,rfl,h12x⟩:=aL h11x
  obtain⟨s13,vx13,rfl,h13x⟩:=aL h12x
  obtain⟨s14,vx14,rfl,h14x⟩:=aL h13x
  obtain⟨s15,vx15,rfl,h15x⟩:=aL h14x
  obtain⟨s16,vx16,rfl,h16x⟩:=aL h15x
  obtain⟨s17,vx17,rfl,h17x⟩:=aL h16x
  obtain⟨s18,vx18,rfl,h18x⟩:=aL h17x
  obtain⟨s19,vx19,rfl,h19x⟩:=aL h18x
  obtain⟨s20,vx20,rfl,h20x⟩:=aL h19x
  obtain⟨s21,vx21,rfl,h21x⟩:=aL h20x
  obtain⟨s22,vx22,rfl,h22x⟩:=aL h21x
  obtain⟨s23,vx23,rfl,h23x⟩:=aL h22x
  obtain⟨s24,vx24,rfl,h24x⟩:=aL h23x
  obtain⟨s25,vx25,rfl,h25x⟩:=aL h24x
  obtain⟨s26,vx26,rfl,h26x⟩:=aL h25x
  obtain⟨s27,vx27,rfl,h27x⟩:=aL h26x
  obtain⟨s28,vx28,rfl,h28x⟩:=aL h27x
  obtain⟨s29,vx29,rfl,h29x⟩:=aL h28x
  obtain⟨s30,vx30,rfl,h30x⟩:=aL h29x
  obtain⟨s31,vx31,rfl,h31x⟩:=aL h30x
  obtain⟨s32,vx32,rfl,h32x⟩:=aL h31x
  obtain⟨s33,vx33,rfl,h33x⟩:=aL h32x
  obtain⟨s34,vx34,rfl,h34x⟩:=aL h33x
  obtain⟨s35,vx35,rfl,h35x⟩:=aL h34x
  obtain⟨s36,vx36,rfl,h36x⟩:=aL h35x
  obtain⟨s37,vx37,rfl,h37x⟩:=aL h36x
  obtain⟨s38,vx38,rfl,h38x⟩:=aL h37x
  obtain⟨s39,vx39,rfl,h39x⟩:=aL h38x
  obtain⟨s40,vx40,rfl,h40x⟩:=aL h39x
  obtain⟨s41,vx41,rfl,h41x⟩:=aL h40x
  obtain⟨s42,vx42,rfl,h42x⟩:=aL h41x
  obtain⟨s43,vx43,rfl,h43x⟩:=aL h42x
  obtain⟨s44,vx44,rfl,h44x⟩:=aL h43x
  obtain⟨s45,vx45,rfl,h45x⟩:=aL h44x
  obtain⟨s46,vx46,rfl,h46x⟩:=aL h45x
  obtain⟨s47,vx47,rfl,h47x⟩:=aL h46x
  obtain⟨s48,vx48,rfl,h48x⟩:=aL h47x
  obtain⟨s49,vx49,rfl,h49x⟩:=aL h48x
  obtain⟨s50,vx50,rfl,h50x⟩:=aL h49x
  obtain⟨s51,vx51,rfl,h51x⟩:=aL h50x
  obtain⟨s52,vx52,rfl,h52x⟩:=aL h51x
  obtain⟨s53,vx53,rfl,h53x⟩:=aL h52x
  obtain⟨s54,vx54,rfl,h54x⟩:=aL h53x
  obtain⟨s55,vx55,rfl,h55x⟩:=aL h54x
  obtain⟨s56,vx56,rfl,h56x⟩:=aL h55x
  obtain⟨s57,vx57,rfl,h57x⟩:=aL h56x
  obtain⟨s58,vx58,rfl,h58x⟩:=aL h57x
  obtain⟨s59,vx59,rfl,h59x⟩:=aL h58x
  obtain⟨s60,vx60,rfl,h60x⟩:=aL h59x
  obtain⟨s61,vx61,rfl,h61x⟩:=aL h60x
  obtain⟨s62,vx62,rfl,h62x⟩:=aL h61x
  obtain⟨s63,vx63,rfl,h63x⟩:=aL h62x
  obtain⟨s64,vx64,rfl,h64x⟩:=aL h63x
  obtain⟨s65,vx65,rfl,h65x⟩:=aL h64x
  obtain⟨s66,vx66,rfl,h66x⟩:=aL h65x
  obtain⟨s67,vx67,rfl,h67x⟩:=aL h66x
  obtain⟨s68,vx68,rfl,h68x⟩:=aL h67x
  obtain rfl:=List.length_eq_zero_iff.1 h68x
  ((conv=>whnf);repeat ((first|(intro hq;try simp only [lnS]at hq)|refine sI ?_|refine .intro _ (.intro rfl ?_));(conv=>whnf)))
  exact⟨_,dA.pair (dA.wkd (by repeat' (first|exact trivial|exact rfl|refine And.intro ?_ ?_))),_,rfl,rfl⟩
theorem rT (wr:Al->List UInt8×Int) (bs:List UInt8) (hb:bs.length<=1000000) (hwr: ∀x c,(rAl 9) bs=some (x,c)->Tri Tryz.prog 15 [.d (.agg (alR x))] NG (λr=>r= .tup [.d (.sl 1 ((wr x).1.map aM)), .d (.int .i64 (wr x).2)])):
  Tri Tryz.prog 17 [.d (.sl 1 (bs.map aM))] NG (λr=> ∃x,x=(eM (rAl 9) wr al0 280 bs).1/\r= .tup [.d (.agg (alR x)), .d (.int .i64 (eM (rAl 9) wr al0 280 bs).2)]):=by
 have hd:=tZ wr bs hb hwr
 generalize eM (rAl 9) wr al0 280 bs=res at *
 refine aE false [] hty Tryz.func17 rfl (kp [0,2,3]) [] _ _ _ (by simp [Tryz.f17]) (by decide) ?_
 ((conv=>whnf);repeat ((first|(intro hq;try simp only [lnS]at hq)|refine sI ?_|refine .intro _ (.intro rfl ?_));(conv=>whnf)))
 refine aD NG hd ⟨rfl,rfl,trivial⟩ (λr hs=> ?_)
 obtain⟨x,hx0,rfl⟩:=hs
 obtain⟨nm,d1,ax,d2,ix,ps,pt⟩:=x
 obtain⟨yl,hy⟩:=d1
 obtain⟨y0,y1,y2,y3,y4,y5,y6,y7,y8,y9,y10,y11,y12,y13,y14,y15,y16,y17,y18,y19,y20,y21,y22,y23,y24,y25,y26,y27,y28,y29,y30,y31,rfl⟩:=jS hy
 obtain⟨zl,hz⟩:=d2
 obtain⟨z0,z1,z2,z3,z4,z5,z6,z7,z8,z9,z10,z11,z12,z13,z14,z15,z16,z17,z18,z19,z20,z21,z22,z23,z24,z25,z26,z27,z28,z29,z30,z31,rfl⟩:=jS hz
 ((conv=>whnf);repeat ((first|(intro hq;try simp only [lnS]at hq)|refine sI ?_|refine .intro _ (.intro rfl ?_));(conv=>whnf)))
 rw [<-hx0]
 rfl
theorem zI (wr:List Ax->List UInt8×Int) (bs:List UInt8) (hb:bs.length<=1000000) (hwr: ∀x c,(rAs 9) bs=some (x,c)->Tri Tryz.prog 20 [.d (.sl 16 (x.map axR))] NG (λr=>r= .tup [.d (.sl 1 ((wr x).1.map aM)), .d (.int .i64 (wr x).2)])):
  Tri Tryz.prog 56 [.d (.sl 1 (bs.map aM)), .fn 57 [] [], .fn 20 [] []] NG (λr=> ∃x,x=(eM (rAs 9) wr ([]:List Ax) 280 bs).1/\r= .tup [.d (.sl 16 (x.map axR)), .d (.int .i64 (eM (rAs 9) wr ([]:List Ax) 280 bs).2)]):=by
 have hlb:=bO bs
 have hsl:List.drop 0 (List.take (((bs.map aM).length:Nat):Int).toNat (bs.map aM))=bs.map aM:=by rw [List.drop_zero,Int.toNat_natCast,List.take_of_length_le (Nat.le_refl _)]
 refine Tri.says ?_
 refine aEa false [] hty Tryz.func56 rfl Tryz.func94 rfl rfl rfl rfl rfl rfl rfl (by kernel_rfl) (by decide) (by decide) (by decide) (by decide) rfl (by kernel_rfl) (ms:= #[]) (d:=11) (x:=6) (y:=7) (tx:=39) (ty:=30) rfl rfl rfl rfl rfl rfl (by decide) (by decide) (kp [0,1,2,6,7,8,9,10,44]) (kp [0,1,2,4]) [] _ _ _ 1 (eM (rAs 9) wr ([]:List Ax) 280 bs=(([]:List Ax),280)) (by simp [Tryz.f56]) (by decide) ?_ ?_
 ·((conv=>whnf);repeat ((first|(intro hq;try simp only [lnS]at hq)|refine sI ?_|refine .intro _ (.intro rfl ?_));(conv=>whnf)))
  rw [hsl]
  refine RdT.call aGg rfl (λ_=>rfl) bs hb rfl (λx c e1=> ?_) (λe1 b=>⟨yM e1,rfl,rfl,⟨_,rfl,rfl⟩,_,rfl⟩)
  have hw:=hwr x c e1
  have hd:=tB (wr:=wr) (zero:=([]:List Ax)) (bad:=280) e1
  generalize eM (rAs 9) wr ([]:List Ax) 280 bs=res at *
  generalize wr x=ae at *
  obtain⟨a,e⟩:=ae
  have heq:=iQ a bs
  ((conv=>whnf);repeat ((first|(refine aD NG hw ⟨rfl,rfl,trivial⟩ (λr hs=> ?_);subst hs)|(intro hq;try simp only [lnS]at hq)|refine sI ?_|refine .intro _ (.intro rfl ?_));(conv=>whnf)))
  refine aC (λh2=> ?_) (λh2=> ?_)
  ·have hr:res=(([]:List Ax),280):=by rw [hd,if_neg];rintro⟨_,h⟩;injection h with h3 h4;exact h2 h4
   ((conv=>whnf);repeat ((first|(refine dU hty rfl (by with_unfolding_all exact rfl) rfl rfl ?_)|(intro hq;try simp only [lnS]at hq)|refine sI ?_|refine .intro _ (.intro rfl ?_));(conv=>whnf)))
   exact⟨⟨_,rfl,rfl⟩,_,rfl⟩
  have h2:e=0:=by simpa using h2
  subst h2
  ((conv=>whnf);repeat ((first|(intro hq;try simp only [lnS]at hq)|refine sI ?_|refine .intro _ (.intro rfl ?_));(conv=>whnf)))
  refine aB (λh3=> ?_) (λh3=> ?_)
  ·have hr:res=(([]:List Ax),280):=by rw [hd,if_neg];rintro⟨h,_⟩;subst h;simp at h3
   ((conv=>whnf);repeat ((first|(refine dU hty rfl (by with_unfolding_all exact rfl) rfl rfl ?_)|(intro hq;try simp only [lnS]at hq)|refine sI ?_|refine .intro _ (.intro rfl ?_));(conv=>whnf)))
   exact⟨⟨_,rfl,rfl⟩,_,rfl⟩
  have h3:c=[]:=by
   rw [bO]at h3
   exact List.length_eq_zero_iff.1 (by omega)
  subst h3
  ((conv=>whnf);repeat ((first|(refine aD [] heq trivial (λr hs=> ?_);subst hs)|(intro hq;try simp only [lnS]at hq)|refine sI ?_|refine .intro _ (.intro rfl ?_));(conv=>whnf)))
  by_cases h4:a=bs
  ·subst h4
   rw [decide_eq_true rfl]
   rw [if_pos ⟨rfl,rfl⟩]at hd
   subst hd
   ((conv=>whnf);repeat ((first|(intro hq;try simp only [lnS]at hq)|refine sI ?_|refine .intro _ (.intro rfl ?_));(conv=>whnf)))
   exact⟨_, .refl _,_,rfl,rfl⟩
  ·have hr:res=(([]:List Ax),280):=by rw [hd,if_neg];rintro⟨_,h⟩;injection h with h5 h6;exact h4 h5
   rw [decide_eq_false h4]
   ((conv=>whnf);repeat ((first|(refine dU hty rfl (by with_unfolding_all exact rfl) rfl rfl ?_)|(intro hq;try simp only [lnS]at hq)|refine sI ?_|refine .intro _ (.intro rfl ?_));(conv=>whnf)))
   exact⟨⟨_,rfl,rfl⟩,_,rfl⟩
 ·intro hr vx vy hcx
  rw [hr]
  obtain⟨s0,vx0,rfl,h0x⟩:=aL hcx
  obtain rfl:=List.length_eq_zero_iff.1 h0x
  ((conv=>whnf);repeat ((first|(intro hq;try simp only [lnS]at hq)|refine sI ?_|refine .intro _ (.intro rfl ?_));(conv=>whnf)))
  exact⟨_,dA.pair (dA.wkd (by repeat' (first|exact trivial|exact rfl|refine And.intro ?_ ?_))),_,rfl,rfl⟩
theorem nL (wr:List Ax->List UInt8×Int) (bs:List UInt8) (hb:bs.length<=1000000) (hwr: ∀x c,(rAs 9) bs=some (x,c)->Tri Tryz.prog 20 [.d (.sl 16 (x.map axR))] NG (λr=>r= .tup [.d (.sl 1 ((wr x).1.map aM)), .d (.int .i64 (wr x).2)])):
  Tri Tryz.prog 22 [.d (.sl 1 (bs.map aM))] NG (λr=> ∃x,x=(eM (rAs 9) wr ([]:List Ax) 280 bs).1/\r= .tup [.d (.sl 16 (x.map axR)), .d (.int .i64 (eM (rAs 9) wr ([]:List Ax) 280 bs).2)]):=by
 have hd:=zI wr bs hb hwr
 generalize eM (rAs 9) wr ([]:List Ax) 280 bs=res at *
 refine aE false [] hty Tryz.func22 rfl (kp [0,2,3]) [] _ _ _ (by simp [Tryz.f22]) (by decide) ?_
 ((conv=>whnf);repeat ((first|(intro hq;try simp only [lnS]at hq)|refine sI ?_|refine .intro _ (.intro rfl ?_));(conv=>whnf)))
 refine aD NG hd ⟨rfl,rfl,trivial⟩ (λr hs=> ?_)
 obtain⟨x,hx0,rfl⟩:=hs
 ((conv=>whnf);repeat ((first|(intro hq;try simp only [lnS]at hq)|refine sI ?_|refine .intro _ (.intro rfl ?_));(conv=>whnf)))
 rw [<-hx0]
 rfl
end Go.Proofs.YtleihcnongldbaaGreatDoor
namespace Go.Proofs.YtleihcnongldbaaGreatDoor
open Go.RowKit
section
variable {P:Program}
def aE0:List SV->List SV->Prop
 | [],[]=>True
 |a::l,b::m=>dA a b/\aE0 l m
 |_,_=>False
theorem aE0.at: ∀(l m:List SV),aE0 l m->l.length=m.length/\ ∀(j:Nat) (a b:SV),l[j]? =some a->m[j]? =some b->dA a b
 | [],[],_=>⟨rfl,by simp⟩
 |a::l,b::m,h=>by
  obtain⟨h1,h2⟩:=aE0.at l m h.2
  refine⟨by simp [h1],λj x y hx hy=> ?_⟩
  cases j with
  |zero=>simp at hx hy;subst hx hy;exact h.1
  |succ j=>exact h2 j x y (by simpa using hx) (by simpa using hy)
theorem aE0.ok {w:World}{ρ:Env}{l m:List SV}{vs:Array Value}(h:aE0 l m) (hv:cU w ρ l vs):cU w ρ m vs:=by
 obtain⟨h1,h2⟩:=aE0.at l m h
 refine⟨hv.1.trans h1,λj b v hb hx=> ?_⟩
 have hj:j < l.length:=by rw [h1];exact(List.getElem?_eq_some_iff.1 hb).1
 exact h2 j _ b (List.getElem?_eq_getElem hj) hb w ρ v (hv.2 j _ v (List.getElem?_eq_getElem hj) hx)
theorem Tri.args {f:FuncId}{xs bs:List SV}{hp:Hp}{post:SV->Prop}(h:Tri P f bs hp post) (hs:aE0 xs bs):Tri P f xs hp post:=
 λw ρ vs a b c=>h w ρ vs a (hs.ok b) c
theorem aJ.frozA {pin:Pin}{fr:Fr}{hp:Hp}{f:FuncId}{K:SV->Hp->Prop}{id e z cap n:Nat}{rows:List (List D)}(hp':Hp) (ho:aT hp id=some (.mrow e z cap rows)) (hn:n=rows.length) (hsub:aEd hp' hp) (hno:aT hp' id=none)
  (h:aJ P pin fr hp' f [.d (.sl z rows)] K):aJ P pin fr hp f [.mw id z n] K:=by
 intro E ρ w tm hpin h3 h4 vs hargs
 obtain⟨S',s1,s2,s3⟩:=h3.froze ho hsub hno
 obtain⟨q1,_⟩:=h3.sat id _ ho
 refine h E _ w tm hpin s2 (h4.mono (λ_ _ _=>rfl) s1 λi _=>ρ.moved_withS S' i) vs ⟨hargs.1,λj s v hs hv=> ?_⟩
 cases j with
 |succ j=>simp at hs
 |zero=>
  simp at hs
  subst hs
  have k4:=hargs.2 0 _ v rfl hv
  obtain⟨A,c,_,_,_,_,_,e2⟩:=k4.mw_inv
  have:=e2 (hn.trans q1.symm)
  subst this
  exact .d _ _ s3
end
end Go.Proofs.YtleihcnongldbaaGreatDoor
namespace Go.Proofs.YtleihcnongldbaaGreatDoor
open Go.Proofs Go.RowKit
set_option maxRecDepth 10000
attribute [local irreducible] aN aJ Tri aI YVC cP bE
theorem aRd {a:Al}(h:24 < a.name.length):lR a=([],1):=by
 have e:alE a=1:=by unfold alE;rw [if_pos h]
 unfold lR;rw [e,if_neg (by decide)]
theorem aV9 {a:Al}(h:¬ 24 < a.name.length) (h2:cO a.axioms≠0):lR a=([],cO a.axioms):=by
 have e:alE a=cO a.axioms:=by unfold alE;rw [if_neg h,if_pos h2]
 unfold lR;rw [e,if_neg h2]
theorem aTl {a:Al}(h:¬ 24 < a.name.length) (h2:cO a.axioms=0) (h3:128 < a.axioms.length\/256 < a.parts.length\/256 < a.path.length):lR a=([],2):=by
 have e:alE a=2:=by unfold alE;rw [if_neg h,if_neg (by simpa using h2),if_pos h3]
 unfold lR;rw [e,if_neg (by decide)]
theorem aV8 {a:Al}(h:¬ 24 < a.name.length) (h2:cO a.axioms=0) (h3:¬ (128 < a.axioms.length\/256 < a.parts.length\/256 < a.path.length)):lR a=(wAl a,0):=by
 have e:alE a=0:=by unfold alE;rw [if_neg h,if_neg (by simpa using h2),if_neg h3]
 unfold lR;rw [if_pos e]
theorem aIo {a:Al}(h:¬ 24 < a.name.length) (h2:cO a.axioms=0) (h3:¬ (128 < a.axioms.length\/256 < a.parts.length\/256 < a.path.length)):(wAl a).length<=1000000:=by
 have a1:=wM ((fB _).1 h2)
 have a2:a.axioms.length * 7000<=128 * 7000:=Nat.mul_le_mul_right _ (by omega)
 have a3:((a.parts.map fE).flatten).length<=a.parts.length * 32:=eX λd _=>by rw [show (fE d).length=32 from d.2];exact Nat.le_refl _
 have a4:((a.path.map fE).flatten).length<=a.path.length * 32:=eX λd _=>by rw [show (fE d).length=32 from d.2];exact Nat.le_refl _
 have a5:(fE a.base).length=32:=a.base.2
 have a6:(fE a.pub).length=32:=a.pub.2
 unfold wAl
 simp only [List.length_append,cG,cV,a5,a6]
 unfold bC
 simp only [List.length_append,aP]
 omega
theorem iI (a:Al):Tri Tryz.prog 15 [.d (.agg (alR a))] NG (λr=>r= .tup [.d (.sl 1 ((lR a).1.map aM)), .d (.int .i64 (lR a).2)]):=by
 refine Tri.says ?_
 have hw:=aCk a
 have h1:=aRd (a:=a)
 have h2:=aV9 (a:=a)
 have h3:=aTl (a:=a)
 have h4:=aV8 (a:=a)
 have h5:=aIo (a:=a)
 have hc:=mV a.axioms
 generalize wAl a=out at *
 generalize lR a=res at *
 obtain⟨nm,d1,ax,d2,ix,ps,pt⟩:=a
 obtain⟨yl,hy⟩:=d1
 obtain⟨y0,y1,y2,y3,y4,y5,y6,y7,y8,y9,y10,y11,y12,y13,y14,y15,y16,y17,y18,y19,y20,y21,y22,y23,y24,y25,y26,y27,y28,y29,y30,y31,rfl⟩:=jS hy
 obtain⟨zl,hz⟩:=d2
 obtain⟨z0,z1,z2,z3,z4,z5,z6,z7,z8,z9,z10,z11,z12,z13,z14,z15,z16,z17,z18,z19,z20,z21,z22,z23,z24,z25,z26,z27,z28,z29,z30,z31,rfl⟩:=jS hz
 dsimp only at h1 h2 h3 h4 h5 hc
 have hla:(ax.map axR).length=ax.length:=List.length_map ..
 have hlp:(ps.map gP).length=ps.length:=List.length_map ..
 have hlt:(pt.map gP).length=pt.length:=List.length_map ..
 refine aE false [] hty Tryz.func15 rfl (kp [0,1,2,3,4,8,13,32]) [] _ _ _ (by simp [Tryz.f15]) (by decide) ?_
 ((conv=>whnf);repeat ((first|(intro hq;try simp only [lnS]at hq)|refine sI ?_|refine .intro _ (.intro rfl ?_));(conv=>whnf)))
 refine aB (λq1=> ?_) (λq1=> ?_)
 ·rw [h1 (by dsimp only at q1;omega)]
  ((conv=>whnf);repeat ((first|(intro hq;try simp only [lnS]at hq)|refine sI ?_|refine .intro _ (.intro rfl ?_));(conv=>whnf)))
  exact⟨_,pairN (.d .nil) _,rfl⟩
 have q1:¬ 24 < nm.length:=by dsimp only at q1;omega
 ((conv=>whnf);repeat ((first|(refine aD NG hc ⟨rfl,rfl,trivial⟩ (λr hs=> ?_);subst hs)|(intro hq;try simp only [lnS]at hq)|refine sI ?_|refine .intro _ (.intro rfl ?_));(conv=>whnf)))
 refine aC (λq2=> ?_) (λq2=> ?_)
 ·rw [h2 q1 q2]
  ((conv=>whnf);repeat ((first|(intro hq;try simp only [lnS]at hq)|refine sI ?_|refine .intro _ (.intro rfl ?_));(conv=>whnf)))
  exact⟨_,pairN (.d .nil) _,rfl⟩
 have q2:cO ax=0:=by simpa using q2
 by_cases q3:128 < ax.length\/256 < ps.length\/256 < pt.length
 ·rw [h3 q1 q2 q3]
  clear h1 h2 h3 h4 h5 hw hc
  ((conv=>whnf);repeat' ((first|(intro hq;(try simp only [lnS]at hq);(try rewrite [List.length_map]))|refine sJ ?_|refine .intro _ (.intro rfl ?_)|refine exL (k:= ?_)|refine dwR ?_|((first|refine aB ?_ ?_|refine aC ?_ ?_)<;>intro hb<;>(first|exact ddX hb|try simp only [lnS]at hb))|(refine aA ?_ ?_<;>intro hb<;>try exact dsX hb))<;>(conv=>whnf)))
  all_goals exact⟨_,pairN (.d .nil) _,rfl⟩
 ·rw [h4 q1 q2 q3]
  have h5:=h5 q1 q2 q3
  clear h1 h2 h3 h4 hc
  ((conv=>whnf);repeat' ((first|(intro hq;(try simp only [lnS]at hq);(try rewrite [List.length_map]))|refine sJ ?_|refine .intro _ (.intro rfl ?_)|refine exL (k:= ?_)|refine dwR ?_|((first|refine aB ?_ ?_|refine aC ?_ ?_)<;>intro hb<;>(first|exact ddX hb|try simp only [lnS]at hb))|(refine aA ?_ ?_<;>intro hb<;>try exact dsX hb))<;>(conv=>whnf)))
  refine aJ.ownH 4 104 73 5 1 rfl (bW (by with_unfolding_all exact rfl)) (iJ (by with_unfolding_all exact rfl)) ?_
  refine WrT.call hw rfl [] (by rw [List.length_nil];omega) (by decide) rfl rfl ?_
  rw [List.nil_append]
  ((conv=>whnf);repeat ((first|(intro hq;try simp only [lnS]at hq)|refine sI ?_|refine .intro _ (.intro rfl ?_));(conv=>whnf)))
  exact⟨_, .refl _,rfl⟩
theorem aD1:Tri Tryz.prog 9 [.d (.agg (qyR ⟨[],[]⟩))] NG (λr=>r= .tup [.d (.sl 1 (([]:List UInt8).map aM)), .d (.int .i64 210)]):=by
 have h1:Tri Tryz.prog 62 [.d (.agg (qyR ⟨[],[]⟩))] [] (λr=>r= .d (.int .i64 210)):=by
  refine aF hty Tryz.func62 rfl (kp [0,1,2,4,20,22,23,24,25,37]) [] _ _ _ (by simp [Tryz.f62]) (by simp) ?_
  ((conv=>whnf);repeat' ((first|(intro hq;(try simp only [lnS]at hq);(try rewrite [List.length_map]))|refine sJ ?_|refine .intro _ (.intro rfl ?_)|refine exL (k:= ?_)|refine dwR ?_|((first|refine aB ?_ ?_|refine aC ?_ ?_)<;>intro hb<;>(first|exact ddX hb|try simp only [lnS]at hb))|(refine aA ?_ ?_<;>intro hb<;>try exact dsX hb))<;>(conv=>whnf)))
  rfl
 have h2:Tri Tryz.prog 28 [.d (.agg (qyR ⟨[],[]⟩)), .d .nil] [] (λr=>r= .d (.int .i64 210)):=by
  refine aF hty Tryz.func28 rfl (kp [0,1,2,4,6,8,10,14,17,18,19,20,24,25,26,27,33,40,43,44,45,46,52]) [] _ _ _ (by simp [Tryz.f28]) (by simp) ?_
  ((conv=>whnf);repeat' ((first|(intro hq;(try simp only [lnS]at hq);(try rewrite [List.length_map]))|refine sJ ?_|refine .intro _ (.intro rfl ?_)|refine exL (k:= ?_)|(refine aD [] h1 trivial (λr hs=> ?_);subst hs)|refine dwR ?_|((first|refine aB ?_ ?_|refine aC ?_ ?_)<;>intro hb<;>(first|exact ddX hb|try simp only [lnS]at hb))|(refine aA ?_ ?_<;>intro hb<;>try exact dsX hb))<;>(conv=>whnf)))
  rfl
 refine Tri.says ?_
 refine aE false [] hty Tryz.func9 rfl (kp [0,1,2,3,4,8]) [] _ _ _ (by simp [Tryz.f9]) (by decide) ?_
 ((conv=>whnf);repeat' ((first|(intro hq;(try simp only [lnS]at hq);(try rewrite [List.length_map]))|refine sJ ?_|refine .intro _ (.intro rfl ?_)|refine exL (k:= ?_)|(refine aD [] h2 trivial (λr hs=> ?_);subst hs)|refine dwR ?_|((first|refine aB ?_ ?_|refine aC ?_ ?_)<;>intro hb<;>(first|exact ddX hb|try simp only [lnS]at hb))|(refine aA ?_ ?_<;>intro hb<;>try exact dsX hb))<;>(conv=>whnf)))
 exact⟨_,pairN (.d .nil) _,rfl⟩
end Go.Proofs.YtleihcnongldbaaGreatDoor
namespace Go.Proofs.YtleihcnongldbaaGreatDoor
open Go.Proofs Go.RowKit
set_option maxRecDepth 10000
attribute [local irreducible] aN aJ Tri aI YVC cP bE vH
theorem cR {α β:Type}{t:Tr α}{f:α->Tr β}{s s1:RS}{x:α}(h:t s=(x,s1)):bP t f s=f x s1:=by unfold bP;rw [h]
theorem aVt (s:RS):Tri Tryz.prog 42 [.ptr 0 0] [(0,rfO s)] (λr=>r= .d (.bool (!s.2 && decide (s.1=[])))):=by
 obtain⟨b,d⟩:=s
 have hbl:=bO b
 refine aF hty Tryz.func42 rfl (kp [0,2]) [] _ _ _ (by simp [Tryz.f42]) (by simp) ?_
 cases d
 ·((conv=>whnf);repeat ((first|(intro hq;try simp only [lnS]at hq)|refine sI ?_|refine .intro _ (.intro rfl ?_));(conv=>whnf)))
  rw [hbl]
  by_cases h:b=[]
  ·subst h
   ((conv=>whnf);repeat' ((first|(intro hq;(try simp only [lnS]at hq);(try rewrite [List.length_map]))|refine sJ ?_|refine .intro _ (.intro rfl ?_)|refine exL (k:= ?_)|refine dwR ?_|((first|refine aB ?_ ?_|refine aC ?_ ?_)<;>intro hb<;>(first|exact ddX hb|try simp only [lnS]at hb))|(refine aA ?_ ?_<;>intro hb<;>try exact dsX hb))<;>(conv=>whnf)))
   all_goals rfl
  ·have hl:¬ b.length=0:= λe=>h (List.length_eq_zero_iff.1 e)
   rw [show decide (b=[])=false from decide_eq_false h]
   ((conv=>whnf);repeat' ((first|(intro hq;(try simp only [lnS]at hq);(try rewrite [List.length_map]))|refine sJ ?_|refine .intro _ (.intro rfl ?_)|refine exL (k:= ?_)|refine dwR ?_|((first|refine aB ?_ ?_|refine aC ?_ ?_)<;>intro hb<;>(first|exact ddX hb|try simp only [lnS]at hb))|(refine aA ?_ ?_<;>intro hb<;>try exact dsX hb))<;>(conv=>whnf)))
   all_goals (refine aQ ?_;simp;omega)
 ·((conv=>whnf);repeat' ((first|(intro hq;(try simp only [lnS]at hq);(try rewrite [List.length_map]))|refine sJ ?_|refine .intro _ (.intro rfl ?_)|refine exL (k:= ?_)|refine dwR ?_|((first|refine aB ?_ ?_|refine aC ?_ ?_)<;>intro hb<;>(first|exact ddX hb|try simp only [lnS]at hb))|(refine aA ?_ ?_<;>intro hb<;>try exact dsX hb))<;>(conv=>whnf)))
  all_goals rfl
end Go.Proofs.YtleihcnongldbaaGreatDoor
namespace Go.Proofs.YtleihcnongldbaaGreatDoor
open Go.Proofs Go.RowKit
set_option maxRecDepth 10000
attribute [local irreducible] aN aJ Tri aI YVC cP bE
theorem aT3:RfT 92 [] tA (λx=> .d (.agg (axR x))):=by
 intro s hb
 have hT:tA s=bP vP (λk=>bP zA λo=>bP (tC 9) λl=>bP (tC 9) λr=>bP (cN 4 dO) λrs=>bP dO λs1=>bP dO λs2=>mR dO λs3=>(⟨k,o,l,r,rs,s1,s2,s3⟩:Ax)) s:=rfl
 rw [hT]
 clear hT
 refine aG false [] hty Tryz.func92 rfl (kp [0,2,3,4]) 100 (by simp [Tryz.f92]) ?_
 ((conv=>whnf);repeat ((first|(intro hq;try simp only [lnS]at hq)|refine sI ?_|refine .intro _ (.intro rfl ?_));(conv=>whnf)))
 refine RfT.call aT2 rfl (λ_=>rfl) s hb rfl ?_
 have l1:=gF 1 s
 have ho:=aFv s
 rcases h1:fS 1 s with⟨kd,s1⟩
 rw [h1]at l1 ho
 rw [cR (show vP s=((kd:Int),s1)by unfold vP mR;rw [h1])]
 dsimp only at l1 ho |-
 ((conv=>whnf);repeat ((first|(intro hq;try simp only [lnS]at hq)|refine sI ?_|refine .intro _ (.intro rfl ?_));(conv=>whnf)))
 rw [aBs ho]
 ((conv=>whnf);repeat ((first|(intro hq;try simp only [lnS]at hq)|refine sI ?_|refine .intro _ (.intro rfl ?_));(conv=>whnf)))
 refine RfT.call aT2 rfl (λ_=>rfl) s1 (by omega) rfl ?_
 have l2:=gF 1 s1
 rcases h2:fS 1 s1 with⟨o,b,fl⟩
 rw [h2]at l2
 have hF:zA s1=(decide ((o:Int)=1),(b,fl || decide (1 < (o:Int)))):=by unfold zA vP mR;rw [h2]
 rw [cR hF]
 clear hF
 dsimp only at l2 |-
 cases fl
 ·rw [Bool.false_or]
  ((conv=>whnf);repeat ((first|(intro hq;try simp only [lnS]at hq)|refine sI ?_|refine .intro _ (.intro rfl ?_));(conv=>whnf)))
  refine RfT.call (vY 9 0 (by decide) (by decide)) rfl (λ_=>rfl) (b,decide (1 < (o:Int))) (by dsimp only;omega) rfl ?_
  have q:=sN 9 (b,decide (1 < (o:Int)))
  rcases h3:tC 9 (b,decide (1 < (o:Int)))with⟨le,s3⟩
  rw [h3]at q
  rw [cR h3]
  dsimp only at q |-
  rw [bA le]
  ((conv=>whnf);repeat ((first|(intro hq;try simp only [lnS]at hq)|refine sI ?_|refine .intro _ (.intro rfl ?_));(conv=>whnf)))
  refine RfT.call (vY 9 0 (by decide) (by decide)) rfl (λ_=>rfl) s3 (by omega) rfl ?_
  have q4:=sN 9 s3
  rcases h4:tC 9 s3 with⟨ri,s4⟩
  rw [h4]at q4
  rw [cR h4]
  dsimp only at q4 |-
  rw [bA ri]
  ((conv=>whnf);repeat ((first|(intro hq;try simp only [lnS]at hq)|refine sI ?_|refine .intro _ (.intro rfl ?_));(conv=>whnf)))
  refine RfT.call aKu rfl (λ_=>rfl) s4 (by omega) rfl ?_
  have q5:=gA cF 4 s4
  rcases h5:cN 4 dO s4 with⟨rs,s5⟩
  rw [h5]at q5
  rw [cR h5]
  dsimp only at q5 |-
  ((conv=>whnf);repeat ((first|(intro hq;try simp only [lnS]at hq)|refine sI ?_|refine .intro _ (.intro rfl ?_));(conv=>whnf)))
  refine RfT.call tX rfl (λ_=>rfl) s5 (by omega) rfl ?_
  have q6:=cF s5
  rcases h6:dO s5 with⟨a6,s6⟩
  rw [h6]at q6
  rw [cR h6]
  dsimp only at q6 |-
  ((conv=>whnf);repeat ((first|(intro hq;try simp only [lnS]at hq)|refine sI ?_|refine .intro _ (.intro rfl ?_));(conv=>whnf)))
  refine RfT.call tX rfl (λ_=>rfl) s6 (by omega) rfl ?_
  have q7:=cF s6
  rcases h7:dO s6 with⟨a7,s7⟩
  rw [h7]at q7
  rw [cR h7]
  dsimp only at q7 |-
  ((conv=>whnf);repeat ((first|(intro hq;try simp only [lnS]at hq)|refine sI ?_|refine .intro _ (.intro rfl ?_));(conv=>whnf)))
  refine RfT.call tX rfl (λ_=>rfl) s7 (by omega) rfl ?_
  have hM:mR dO (λs3=>(⟨(kd:Int),decide ((o:Int)=1),le,ri,rs,a6,a7,s3⟩:Ax)) s7=(⟨(kd:Int),decide ((o:Int)=1),le,ri,rs,a6,a7,(dO s7).1⟩,(dO s7).2):=rfl
  rw [hM]
  generalize (dO s7).1=a8 at *
  generalize (dO s7).2=s8 at *
  ((conv=>whnf);repeat ((first|(intro hq;try simp only [lnS]at hq)|refine sI ?_|refine .intro _ (.intro rfl ?_));(conv=>whnf)))
  exact rfl
 ·rw [Bool.true_or]
  ((conv=>whnf);repeat ((first|(intro hq;try simp only [lnS]at hq)|refine sI ?_|refine .intro _ (.intro rfl ?_));(conv=>whnf)))
  refine RfT.call (vY 9 0 (by decide) (by decide)) rfl (λ_=>rfl) (b,true) (by dsimp only;omega) rfl ?_
  have q:=sN 9 (b,true)
  rcases h3:tC 9 (b,true)with⟨le,s3⟩
  rw [h3]at q
  rw [cR h3]
  dsimp only at q |-
  rw [bA le]
  ((conv=>whnf);repeat ((first|(intro hq;try simp only [lnS]at hq)|refine sI ?_|refine .intro _ (.intro rfl ?_));(conv=>whnf)))
  refine RfT.call (vY 9 0 (by decide) (by decide)) rfl (λ_=>rfl) s3 (by omega) rfl ?_
  have q4:=sN 9 s3
  rcases h4:tC 9 s3 with⟨ri,s4⟩
  rw [h4]at q4
  rw [cR h4]
  dsimp only at q4 |-
  rw [bA ri]
  ((conv=>whnf);repeat ((first|(intro hq;try simp only [lnS]at hq)|refine sI ?_|refine .intro _ (.intro rfl ?_));(conv=>whnf)))
  refine RfT.call aKu rfl (λ_=>rfl) s4 (by omega) rfl ?_
  have q5:=gA cF 4 s4
  rcases h5:cN 4 dO s4 with⟨rs,s5⟩
  rw [h5]at q5
  rw [cR h5]
  dsimp only at q5 |-
  ((conv=>whnf);repeat ((first|(intro hq;try simp only [lnS]at hq)|refine sI ?_|refine .intro _ (.intro rfl ?_));(conv=>whnf)))
  refine RfT.call tX rfl (λ_=>rfl) s5 (by omega) rfl ?_
  have q6:=cF s5
  rcases h6:dO s5 with⟨a6,s6⟩
  rw [h6]at q6
  rw [cR h6]
  dsimp only at q6 |-
  ((conv=>whnf);repeat ((first|(intro hq;try simp only [lnS]at hq)|refine sI ?_|refine .intro _ (.intro rfl ?_));(conv=>whnf)))
  refine RfT.call tX rfl (λ_=>rfl) s6 (by omega) rfl ?_
  have q7:=cF s6
  rcases h7:dO s6 with⟨a7,s7⟩
  rw [h7]at q7
  rw [cR h7]
  dsimp only at q7 |-
  ((conv=>whnf);repeat ((first|(intro hq;try simp only [lnS]at hq)|refine sI ?_|refine .intro _ (.intro rfl ?_));(conv=>whnf)))
  refine RfT.call tX rfl (λ_=>rfl) s7 (by omega) rfl ?_
  have hM:mR dO (λs3=>(⟨(kd:Int),decide ((o:Int)=1),le,ri,rs,a6,a7,s3⟩:Ax)) s7=(⟨(kd:Int),decide ((o:Int)=1),le,ri,rs,a6,a7,(dO s7).1⟩,(dO s7).2):=rfl
  rw [hM]
  generalize (dO s7).1=a8 at *
  generalize (dO s7).2=s8 at *
  ((conv=>whnf);repeat ((first|(intro hq;try simp only [lnS]at hq)|refine sI ?_|refine .intro _ (.intro rfl ?_));(conv=>whnf)))
  exact rfl
end Go.Proofs.YtleihcnongldbaaGreatDoor
namespace Go.Proofs.YtleihcnongldbaaGreatDoor
open Go.Proofs Go.RowKit
set_option maxRecDepth 10000
attribute [local irreducible] aN aJ Tri aI YVC cP bE
theorem aR0:RfT 51 [] (cN 68 tA) (λl=> .d (.sl 16 (l.map axR))):=by
 intro s hb
 have hT:cN 68 tA s=jI tA (cK 68 s).1 (cK 68 s).2:=rfl
 rw [hT]
 clear hT
 have l2:=eP 68 s
 have hle:=lU (least:=68) s (by decide)
 refine aJ.says ?_
 refine aG false [] hty Tryz.func51 rfl (kp [0,2,3,4,5,18]) 100 (by simp [Tryz.f51]) ?_
 ((conv=>whnf);repeat ((first|(intro hq;try simp only [lnS]at hq)|refine sI ?_|refine .intro _ (.intro rfl ?_));(conv=>whnf)))
 refine RfT.call (aF4 68 (by decide) (by decide)) rfl (λ_=>rfl) s hb rfl ?_
 generalize (cK 68 s).1=n at *
 generalize (cK 68 s).2=s2 at *
 have hs2:s2.1.length<=1000000:=Nat.le_trans l2 hb
 have hn:n<=1000000:=Nat.le_trans hle hb
 clear l2 hle
 ((conv=>whnf);repeat ((first|(intro hq;try simp only [lnS]at hq)|refine sI ?_|refine .intro _ (.intro rfl ?_));(conv=>whnf)))
 refine aH hty (λy:List Ax×RS=>([(0, .ptr 3 0),(3, .osl 106 16 (y.1.map axR)),(4, .d (.int .i64 n)),(5, .d (.int .i64 y.1.length))],[(106, .own 116 16 (y.1.map axR).length),(3,rfO y.2)])) (λy=>jI tA y.1.length s2=y/\y.1.length<=n/\y.2.1.length<=1000000) (λy=>n - y.1.length) ([],s2) ⟨rfl,Nat.zero_le _,hs2⟩ ⟨by repeat' (first|exact trivial|exact rfl|refine And.intro ?_ ?_),by repeat' (first|exact trivial|exact rfl|refine And.intro ?_ ?_)⟩ ?_
 rintro⟨l,s⟩ ⟨h1,h2,h3⟩
 dsimp only at h1 h2 h3
 obtain⟨b,d⟩:=s
 have hml:(l.map axR).length=l.length:=List.length_map ..
 have hb63:(l.map axR).length+1<=9223372036854775807:=by rw [hml];omega
 have hb48:((l.map axR).length+1)* 200<=140737488355328:=by rw [hml];omega
 by_cases hc:l.length < n/\d=false
 ·obtain⟨hc,rfl⟩:=hc
  have hless:=aKg (b,false)
  have hnx:=iA tA l.length s2 l (b,false) h1 rfl rfl
  ((conv=>whnf);repeat ((first|(intro hq;try simp only [lnS]at hq)|refine sI ?_|refine .intro _ (.intro rfl ?_));(conv=>whnf)))
  refine aB (λh5=> ?_) (λh5=>absurd hc (by dsimp only at h5;omega))
  clear h5
  ((conv=>whnf);repeat ((first|(intro hq;try simp only [lnS]at hq)|refine sI ?_|refine .intro _ (.intro rfl ?_));(conv=>whnf)))
  refine RfT.call (e:= λx=>SV.d (.agg (axR x))) aT3 rfl (λ_=>rfl) (b,false) h3 rfl ?_
  generalize (tA (b,false)).1=x at *
  generalize (tA (b,false)).2=s3 at *
  rw [aGh]
  ((conv=>whnf);repeat ((first|(refine And.intro hb63 ?_)|(refine And.intro hb48 ?_)|(intro hq;try simp only [lnS]at hq)|refine sI ?_|refine .intro _ (.intro rfl ?_));(conv=>whnf)))
  refine⟨(l++[_],s3),⟨by dsimp only;rw [List.length_append];exact hnx,by dsimp only;rw [List.length_append,List.length_singleton];omega,Nat.le_trans hless h3⟩,by dsimp only;rw [List.length_append,List.length_singleton];omega, ?_⟩
  dsimp only
  rw [List.map_append,List.length_append,List.length_append]
  exact⟨by repeat' (first|exact trivial|exact rfl|refine And.intro ?_ ?_),by repeat' (first|exact trivial|exact rfl|refine And.intro ?_ ?_)⟩
 have hfull:jI tA n s2=(l,(b,d)):=by
  by_cases e:l.length=n
  ·rw [<-e];exact h1
  ·have hd:d=true:=by
    cases d with
    |true=>rfl
    |false=>exact absurd ⟨by omega,rfl⟩ hc
   exact hZ tA l.length n s2 l (b,d) h1 hd h2
 rw [hfull]
 have hstop:l.length < n->d=true:= λh=>by
  cases d with
  |true=>rfl
  |false=>exact absurd ⟨h,rfl⟩ hc
 ((conv=>whnf);repeat ((first|(intro hq;try simp only [lnS]at hq)|refine sI ?_|refine .intro _ (.intro rfl ?_));(conv=>whnf)))
 refine aB (λh5=> ?_) (λh5=> ?_)
 ·have hnd:(!d)=false:=by rw [hstop (by dsimp only at h5;omega)];rfl
  ((conv=>whnf);repeat ((first|(intro hq;try simp only [lnS]at hq)|refine sI ?_|refine .intro _ (.intro rfl ?_));(conv=>whnf)))
  rw [hnd]
  ((conv=>whnf);repeat ((first|(intro hq;try simp only [lnS]at hq)|refine sI ?_|refine .intro _ (.intro rfl ?_));(conv=>whnf)))
  exact⟨_,dA.osl,rfl,rfl⟩
 ·((conv=>whnf);repeat ((first|(intro hq;try simp only [lnS]at hq)|refine sI ?_|refine .intro _ (.intro rfl ?_));(conv=>whnf)))
  exact⟨_,dA.osl,rfl,rfl⟩
end Go.Proofs.YtleihcnongldbaaGreatDoor
namespace Go.Proofs.YtleihcnongldbaaGreatDoor
open Go.Proofs Go.RowKit
set_option maxRecDepth 10000
attribute [local irreducible] aN aJ Tri aI YVC cP bE vH
theorem qO (bs:List UInt8) (hb:bs.length<=1000000):
  Tri Tryz.prog 18 [.d (.sl 1 (bs.map aM))] [] (λr=> ∃x,x=(eM aMv lR al0 280 bs).1/\r= .tup [.d (.agg (alR x)), .d (.int .i64 (eM aMv lR al0 280 bs).2)]):=by
 have hdec:=aVk aSa lR al0 280 bs
 have hT:tAl (bs,false)=bP dO (λn=>bP oY λb=>bP tAs λl=>bP oY λp=>bP fP λi=>bP (cN 32 oY) λx=>mR (cN 32 oY) λy=>(⟨n,b,l,p,i,x,y⟩:Al)) (bs,false):=rfl
 rw [hT]at hdec
 clear hT
 generalize eM aMv lR al0 280 bs=res at *
 refine Tri.says ?_
 refine aF hty Tryz.func18 rfl (kp [0,2,3,4,5,6,7,46]) [] _ _ _ (by simp [Tryz.f18]) (by simp) ?_
 ((conv=>whnf);repeat ((first|(intro hq;try simp only [lnS]at hq)|refine sI ?_|refine .intro _ (.intro rfl ?_));(conv=>whnf)))
 refine RfT.call tX rfl (λ_=>rfl) (bs,false) hb rfl ?_
 have q1:=cF (bs,false)
 rcases h1:dO (bs,false)with⟨nm,s1⟩
 rw [h1]at q1
 rw [cR h1]at hdec
 clear h1
 dsimp only at q1 hdec |-
 ((conv=>whnf);repeat ((first|(intro hq;try simp only [lnS]at hq)|refine sI ?_|refine .intro _ (.intro rfl ?_));(conv=>whnf)))
 refine RfT.call aF5 rfl (λ_=>rfl) s1 (by omega) rfl ?_
 have q2:=vS s1
 rcases h2:oY s1 with⟨d1,s2⟩
 rw [h2]at q2
 rw [cR h2]at hdec
 clear h2
 obtain⟨y,rfl⟩:=fV d1
 dsimp only at q2 hdec |-
 ((conv=>whnf);repeat ((first|(intro hq;try simp only [lnS]at hq)|refine sI ?_|refine .intro _ (.intro rfl ?_));(conv=>whnf)))
 refine RfT.call aR0 rfl (λ_=>rfl) s2 (by omega) rfl ?_
 have q3:=aQt s2
 have hsm:=aOh (s:=s2) (by omega)
 rw [show cN 68 tA=tAs from rfl]
 rcases h3:tAs s2 with⟨ax,s3⟩
 rw [h3]at q3 hsm
 rw [cR h3]at hdec
 clear h3
 dsimp only at q3 hdec hsm |-
 ((conv=>whnf);repeat ((first|(intro hq;try simp only [lnS]at hq)|refine sI ?_|refine .intro _ (.intro rfl ?_));(conv=>whnf)))
 refine RfT.call aF5 rfl (λ_=>rfl) s3 (by omega) rfl ?_
 have q4:=vS s3
 rcases h4:oY s3 with⟨d2,s4⟩
 rw [h4]at q4
 rw [cR h4]at hdec
 clear h4
 obtain⟨z,rfl⟩:=fV d2
 dsimp only at q4 hdec |-
 ((conv=>whnf);repeat ((first|(intro hq;try simp only [lnS]at hq)|refine sI ?_|refine .intro _ (.intro rfl ?_));(conv=>whnf)))
 refine RfT.call rF rfl (λ_=>rfl) s4 (by omega) rfl ?_
 have q5:=fM s4
 rcases h5:fP s4 with⟨ix,s5⟩
 rw [h5]at q5
 rw [cR h5]at hdec
 clear h5
 dsimp only at q5 hdec |-
 ((conv=>whnf);repeat ((first|(intro hq;try simp only [lnS]at hq)|refine sI ?_|refine .intro _ (.intro rfl ?_));(conv=>whnf)))
 refine RfT.call aG7 rfl (λ_=>rfl) s5 (by omega) rfl ?_
 have q6:=gA vS 32 s5
 rcases h6:cN 32 oY s5 with⟨ps,s6⟩
 rw [h6]at q6
 rw [cR h6]at hdec
 clear h6
 dsimp only at q6 hdec |-
 ((conv=>whnf);repeat ((first|(intro hq;try simp only [lnS]at hq)|refine sI ?_|refine .intro _ (.intro rfl ?_));(conv=>whnf)))
 refine RfT.call aG7 rfl (λ_=>rfl) s6 (by omega) rfl ?_
 have hM:mR (cN 32 oY) (λy'=>(⟨nm,mkD y,ax,mkD z,ix,ps,y'⟩:Al)) s6=(⟨nm,mkD y,ax,mkD z,ix,ps,(cN 32 oY s6).1⟩,(cN 32 oY s6).2):=rfl
 rw [hM]at hdec
 clear hM
 generalize (cN 32 oY s6).1=pt at *
 generalize (cN 32 oY s6).2=s7 at *
 have hw:=nP ⟨nm,mkD y,ax,mkD z,ix,ps,pt⟩ hsm
 generalize lR ⟨nm,mkD y,ax,mkD z,ix,ps,pt⟩=ae at *
 obtain⟨a,e⟩:=ae
 have hE:=Tri.at (aVt s7) rfl rfl (λs hs=>by rw [hs];rfl)
 have ha:=fX a
 have hbu:=fX bs
 clear q1 q2 q3 q4 q5 q6 hsm
 dsimp only at hw hdec
 ((conv=>whnf);repeat ((first|(intro hq;try simp only [lnS]at hq)|refine sI ?_|refine .intro _ (.intro rfl ?_));(conv=>whnf)))
 refine aD [] hw trivial (λr hs=> ?_)
 subst hs
 ((conv=>whnf);repeat ((first|(intro hq;try simp only [lnS]at hq)|refine sI ?_|refine .intro _ (.intro rfl ?_));(conv=>whnf)))
 refine aD [(10,rfO s7)] (hE 10) ⟨rfl,trivial⟩ (λr hs=> ?_)
 subst hs
 cases hend:(!s7.2 && decide (s7.1=[]))
 ·have hr:res=(al0,280):=by
   rw [hdec,if_pos]
   rw [Bool.and_eq_false_iff]at hend
   rcases hend with h|h
   ·exact .inl (by simpa using h)
   ·exact .inr (.inl (of_decide_eq_false h))
  rw [hr]
  ((conv=>whnf);repeat ((first|(intro hq;try simp only [lnS]at hq)|refine sI ?_|refine .intro _ (.intro rfl ?_));(conv=>whnf)))
  exact⟨_,dA.pair (dA.wkd (by repeat' (first|exact trivial|exact rfl|refine And.intro ?_ ?_))),_,rfl,rfl⟩
 rw [Bool.and_eq_true]at hend
 have hbad:s7.2=false:=by simpa using hend.1
 have hnil:s7.1=[]:=of_decide_eq_true hend.2
 ((conv=>whnf);repeat ((first|(intro hq;try simp only [lnS]at hq)|refine sI ?_|refine .intro _ (.intro rfl ?_));(conv=>whnf)))
 refine aC (λh6=> ?_) (λh6=> ?_)
 ·have hr:res=(al0,280):=by
   rw [hdec,if_pos]
   refine .inr (.inr λh=>h6 ?_)
   injection h
  rw [hr]
  ((conv=>whnf);repeat ((first|(intro hq;try simp only [lnS]at hq)|refine sI ?_|refine .intro _ (.intro rfl ?_));(conv=>whnf)))
  exact⟨_,dA.pair (dA.wkd (by repeat' (first|exact trivial|exact rfl|refine And.intro ?_ ?_))),_,rfl,rfl⟩
 have h6:e=0:=by simpa using h6
 subst h6
 ((conv=>whnf);repeat ((first|(intro hq;try simp only [lnS]at hq)|refine sI ?_|refine .intro _ (.intro rfl ?_));(conv=>whnf)))
 rw [ha,hbu]
 by_cases h7:a=bs
 ·have hr:res=(⟨nm,mkD y,ax,mkD z,ix,ps,pt⟩,0):=by
   rw [hdec,if_neg]
   rintro(h|h|h)
   ·rw [hbad]at h;cases h
   ·exact h hnil
   ·exact h (by rw [h7])
  rw [hr]
  ((conv=>whnf);repeat' ((first|(intro hq;(try simp only [lnS]at hq);(try rewrite [List.length_map]))|refine sJ ?_|refine .intro _ (.intro rfl ?_)|refine exL (k:= ?_)|refine dwR ?_|((first|refine aB ?_ ?_|refine aC ?_ ?_)<;>intro hb<;>(first|exact ddX hb|try simp only [lnS]at hb))|(refine aA ?_ ?_<;>intro hb<;>try exact dsX hb))<;>(conv=>whnf)))
  all_goals first|exact absurd h7 (by assumption)|exact⟨_, .refl _,_,rfl,rfl⟩
 ·have hr:res=(al0,280):=by
   rw [hdec,if_pos]
   refine .inr (.inr λh=>h7 ?_)
   injection h
  rw [hr]
  ((conv=>whnf);repeat' ((first|(intro hq;(try simp only [lnS]at hq);(try rewrite [List.length_map]))|refine sJ ?_|refine .intro _ (.intro rfl ?_)|refine exL (k:= ?_)|refine dwR ?_|((first|refine aB ?_ ?_|refine aC ?_ ?_)<;>intro hb<;>(first|exact ddX hb|try simp only [lnS]at hb))|(refine aA ?_ ?_<;>intro hb<;>try exact dsX hb))<;>(conv=>whnf)))
  all_goals first|exact absurd (by assumption) h7|exact⟨_,dA.pair (dA.wkd (by repeat' (first|exact trivial|exact rfl|refine And.intro ?_ ?_))),_,rfl,rfl⟩
end Go.Proofs.YtleihcnongldbaaGreatDoor
namespace Go.Proofs.YtleihcnongldbaaGreatDoor
open Go.Proofs Go.RowKit
set_option maxRecDepth 10000
attribute [local irreducible] aN aJ Tri aI YVC cP bE
def cmX:Cm:=⟨258,[],aOy,[]⟩
def alX:Al:=⟨[120],aOy,[],aOy,0,[],[]⟩
theorem aFf:aGr []=([0,0,0,0],0):=by kernel_rfl
theorem aRt:aIa cmX=([0,0,0,0,0,0,1,2]++List.replicate 40 0,0):=by kernel_rfl
theorem aRu:lR alX=([0,0,0,1,120]++List.replicate 84 0,0):=by kernel_rfl
theorem aUh:rAs 9 [0,0,0,0]=some ([],[]):=by kernel_rfl
theorem aUg:rAs 9 [0,0,0,0,0]=some ([],[0]):=by kernel_rfl
theorem aSd:rQy [0,0,0,0,0,0,0,0]=some (⟨[],[]⟩,[]):=by kernel_rfl
theorem aR4:eM (rAs 9) aGr [] 280 [0,0,0,0]=([],0):=yL aFf aUh
theorem aR3:eM (rAs 9) aGr [] 280 [0,0,0,0,0]=([],280):=aNw aUg (List.cons_ne_nil _ _)
def aVi:Qy->List UInt8×Int:= λ_=>([],210)
theorem aR2:eM rQy aVi qy0 280 [0,0,0,0,0,0,0,0]=(qy0,280):=by
 rw [tB aSd,if_neg]
 rintro⟨_,h⟩
 injection h with _ h
 exact absurd h (by decide)
theorem aA5:Tri Tryz.prog 6 [] NG (λr=>r= .d (.bool true)):=by
 have c1:Tri Tryz.prog 20 [.d .nil] NG _:=Tri.args (oB []) ⟨dA.nil,trivial⟩
 rw [aFf]at c1
 have c2: ∀id,Tri Tryz.prog 22 [.osl id 1 (([0,0,0,0]:List UInt8).map aM)] NG (λr=>r= .tup [.d (.sl 16 []), .d (.int .i64 0)]):= λid=>
  (Tri.args (xs:=[.osl id 1 (([0,0,0,0]:List UInt8).map aM)]) (nL aGr [0,0,0,0] (by decide) λx _ _=>oB x) ⟨dA.osl,trivial⟩).mono (by rw [aR4];rintro r ⟨x,rfl,rfl⟩;rfl)
 have c3: ∀id,Tri Tryz.prog 22 [.osl id 1 (([0,0,0,0,0]:List UInt8).map aM)] NG (λr=>r= .tup [.d (.sl 16 []), .d (.int .i64 280)]):= λid=>
  (Tri.args (xs:=[.osl id 1 (([0,0,0,0,0]:List UInt8).map aM)]) (nL aGr [0,0,0,0,0] (by decide) λx _ _=>oB x) ⟨dA.osl,trivial⟩).mono (by rw [aR3];rintro r ⟨x,rfl,rfl⟩;rfl)
 have c4:Tri Tryz.prog 11 [.d (.sl 1 (([0,0,0,0,0,0,0,0]:List UInt8).map aM))] NG (λr=>r= .tup [.d (.agg (qyR qy0)), .d (.int .i64 280)]):=
  (qF aVi [0, 0, 0, 0, 0, 0, 0, 0] (by decide) (λx c e => by
   rw [aSd]at e
   injection e with e
   injection e with e _
   subst e
   exact aD1)).mono (by rw [aR2];rintro r ⟨x,rfl,rfl⟩;rfl)
 have c5:Tri Tryz.prog 21 [.d (.agg ([.int .i64 258, .nil]++gP aOy++[.str []]))] [] _:=Tri.args (aD2 cmX) ⟨dA.wkd (by repeat' (first|exact trivial|exact rfl|refine And.intro ?_ ?_)),trivial⟩
 rw [aRt]at c5
 have c6:Tri Tryz.prog 15 [.d (.agg ([.str [120]]++gP aOy++[.nil]++gP aOy++[.int .i64 0, .nil, .nil]))] NG _:=Tri.args (iI alX) ⟨dA.wkd (by repeat' (first|exact trivial|exact rfl|refine And.intro ?_ ?_)),trivial⟩
 rw [aRu]at c6
 refine aE false [] hty Tryz.func6 rfl (kp [0,1,2,3,4,6,8,9,10,11,12]) [] _ _ _ (by simp [Tryz.f6]) (by decide) ?_
 ((conv=>whnf);repeat ((first|(intro hq;try simp only [lnS]at hq)|refine sI ?_|refine .intro _ (.intro rfl ?_));(conv=>whnf)))
 refine aD NG c1 ⟨rfl,rfl,trivial⟩ (λr hs=> ?_)
 subst hs
 ((conv=>whnf);repeat ((first|(intro hq;try simp only [lnS]at hq)|refine sI ?_|refine .intro _ (.intro rfl ?_));(conv=>whnf)))
 refine aD NG (c2 _) ⟨rfl,rfl,trivial⟩ (λr hs=> ?_)
 subst hs
 ((conv=>whnf);repeat ((first|(intro hq;try simp only [lnS]at hq)|refine sI ?_|refine .intro _ (.intro rfl ?_));(conv=>whnf)))
 refine aD NG (c3 _) ⟨rfl,rfl,trivial⟩ (λr hs=> ?_)
 subst hs
 ((conv=>whnf);repeat ((first|(intro hq;try simp only [lnS]at hq)|refine sI ?_|refine .intro _ (.intro rfl ?_));(conv=>whnf)))
 refine aJ.frozA (rows:=([0,0,0,0,0,0,0,0]:List UInt8).map aM) NG rfl rfl ⟨rfl,rfl,trivial⟩ rfl ?_
 refine aD NG c4 ⟨rfl,rfl,trivial⟩ (λr hs=> ?_)
 subst hs
 ((conv=>whnf);repeat ((first|(intro hq;try simp only [lnS]at hq)|refine sI ?_|refine .intro _ (.intro rfl ?_));(conv=>whnf)))
 refine aD [] c5 trivial (λr hs=> ?_)
 subst hs
 ((conv=>whnf);repeat ((first|(intro hq;try simp only [lnS]at hq)|refine sI ?_|refine .intro _ (.intro rfl ?_));(conv=>whnf)))
 refine aD NG c6 ⟨rfl,rfl,trivial⟩ (λr hs=> ?_)
 subst hs
 ((conv=>whnf);repeat ((first|(intro hq;try simp only [lnS]at hq)|refine sI ?_|refine .intro _ (.intro rfl ?_));(conv=>whnf)))
 rfl
end Go.Proofs.YtleihcnongldbaaGreatDoor
namespace Go.Proofs.YtleihcnongldbaaGreatDoor
open Go.RowKit
section
variable {P:Program}
theorem aO8 {ti:TypeId->Option TI}(hti:dT P ti) {o:Oper}{t t' e:TypeId}{n:Nat}{x y:Operand}(ho:o.op= .binOp .neq t x y t') {Ts T:TI}(hT:ti t=some Ts) (htd:Ts.td= .array n e) (hE:ti e=some T) (ha:T.td.isAgg=false) (h1:T.size=1) (hg:aOf P t=true) {fr:Fr}{hp:Hp}{K:SV->Prop}{xs ys:List D}{b:Bool}
  (hx:evO fr x=some (.d (.agg xs))) (hy:evO fr y=some (.d (.agg ys))) (hn:xs.length=n) (hb:sW T.td xs ys=some b) (hk:K (.d (.bool (!b)))):cP P o fr hp K:=by
 intro E ρ a w hm hf
 obtain⟨us,e1,hl1,hh1⟩:=(bB hf hx).dagg_inv
 obtain⟨vs,e2,hl2,hh2⟩:=(bB hf hy).dagg_inv
 obtain⟨d0,i0,z0,hT0⟩:=aR (hti _ _ hT)
 obtain⟨d1,i1,z1,hE1⟩:=aR (hti _ _ hE)
 have hd:d0= .array n e:=by
  have:=hT0.td
  rw [htd]at this
  cases d0<;>simp [aCd]at this
  obtain⟨rfl,rfl⟩:=this
  rfl
 subst hd
 have hlen:=yI hb
 refine⟨.bool (!b),_,λw' _=> ?_, .d _ _ (.bool _),hk⟩
 have k2:P.eqGuardType P.depth t=false:=by simpa [aOf]using hg
 have hrun := wZ (P := P) hE1 ha (w := w) (S := ρ.S) 9998 w' xs ys b 0 us vs hb (λj x h => by
  have hj:=(List.getElem?_eq_some_iff.1 h).1
  exact⟨us[j]'(by omega),by rw [Nat.zero_add];exact Array.getElem?_eq_getElem (by omega),hh1 j x _ h (Array.getElem?_eq_getElem (by omega))⟩) (λj x h=>by
  have hj:=(List.getElem?_eq_some_iff.1 h).1
  exact⟨vs[j]'(by omega),by rw [Nat.zero_add];exact Array.getElem?_eq_getElem (by omega),hh2 j x _ h (Array.getElem?_eq_getElem (by omega))⟩)
 have heq:(Op.equalIn 10000 t (.agg us) (.agg vs)).run P w'= .ok b w':=nG hT0.und hE1 h1 (by rw [<-hn];exact hrun)
 simp only [execOp,ho,e1,e2,Sem.run_bind,run_eqGuard_agg w' _ t x y us vs k2,Result.andThen_ok,run_neq_struct,heq]
 rfl
end
end Go.Proofs.YtleihcnongldbaaGreatDoor
namespace Go.Proofs.YtleihcnongldbaaGreatDoor
open Go.Proofs Go.RowKit
set_option maxRecDepth 10000
attribute [local irreducible] aN aJ Tri aI YVC cP bE vH
theorem yJ (l:List UInt8):sW (.int .u8) (l.map λc=>D.int .u8 c.toNat) (l.map λc=>D.int .u8 c.toNat)=some true:=by
 induction l with
 |nil=>rfl
 |cons c l ih=>
  rw [List.map_cons,sW,ih]
  simp [aDj]
theorem aDi (bs:List UInt8):Tri Tryz.prog 7 [.d (.sl 1 (bs.map aM)), .d .nil] [] (λr=>r= .d (.bool (decide (bs.length<=6000)))):=by
 have hbl:=bO bs
 have hf:Tri Tryz.prog 27 [.d .nil, .d (.int .i64 12)] [] (λr=>r= .d (.bool true)):=
  (Tri.args (xs:=[.d .nil, .d (.int .i64 12)]) (qJ [] 12 (by simp)) ⟨dA.nil,⟨.refl _,trivial⟩⟩).mono (λr h=>by rw [h];rfl)
 refine aE false [] hty Tryz.func7 rfl (kp [0,1,4]) [] _ _ _ (by simp [Tryz.f7]) (by simp) ?_
 ((conv=>whnf);repeat ((first|(intro hq;try simp only [lnS]at hq)|refine sI ?_|refine .intro _ (.intro rfl ?_));(conv=>whnf)))
 rw [hbl]
 by_cases h:bs.length<=6000
 ·rw [decide_eq_true h]
  ((conv=>whnf);repeat' ((first|(intro hq;(try simp only [lnS]at hq);(try rewrite [List.length_map]))|refine sJ ?_|refine .intro _ (.intro rfl ?_)|refine exL (k:= ?_)|(refine aD [] hf trivial (λr hs=> ?_);subst hs)|refine dwR ?_|((first|refine aB ?_ ?_|refine aC ?_ ?_)<;>intro hb<;>(first|exact ddX hb|try simp only [lnS]at hb))|(refine aA ?_ ?_<;>intro hb<;>try exact dsX hb))<;>(conv=>whnf)))
  all_goals rfl
 ·rw [decide_eq_false h]
  ((conv=>whnf);repeat' ((first|(intro hq;(try simp only [lnS]at hq);(try rewrite [List.length_map]))|refine sJ ?_|refine .intro _ (.intro rfl ?_)|refine exL (k:= ?_)|(refine aD [] hf trivial (λr hs=> ?_);subst hs)|refine dwR ?_|((first|refine aB ?_ ?_|refine aC ?_ ?_)<;>intro hb<;>(first|exact ddX hb|try simp only [lnS]at hb))|(refine aA ?_ ?_<;>intro hb<;>try exact dsX hb))<;>(conv=>whnf)))
  all_goals rfl
end Go.Proofs.YtleihcnongldbaaGreatDoor
namespace Go.Proofs.YtleihcnongldbaaGreatDoor
open Go.Proofs
set_option maxRecDepth 10000
attribute [local irreducible] aN aJ Tri aI YVC cP bE
theorem uK (x:Ax) (h1:bH x.left<=1000000) (h2:bH x.right<=1000000) (h3:x.roles.length<=1000000):Tri Tryz.prog 140 [.d (.agg (axR x))] [] (λr=>r= .d (.int .i64 (gN x))):=by
 have s1:=kG x.left h1
 have s2:=kG x.right h2
 rw [bA]at s1 s2
 have hw:gN x=(x.roles.length:Int)+aKi x.left+aKi x.right+aQ0 x.role+aQ0 x.a+aQ0 x.b:=by
  unfold gN;simp only [aUe,aUd];omega
 rw [hw,aKi,aKi,aQ0,aQ0,aQ0]
 clear hw
 generalize bH x.left=m1 at *
 generalize bH x.right=m2 at *
 refine aE false [1] hty Tryz.func140 rfl (kp [0,1,2,3,10,19,27,32,37]) [] _ _ _ (by simp [Tryz.f140]) (by simp) ?_
 ((conv=>whnf);repeat' ((first|(intro hq;(try simp only [lnS]at hq);(try rewrite [List.length_map]))|refine sJ ?_|refine .intro _ (.intro rfl ?_)|refine exL (k:= ?_)|(refine aD [] s1 trivial (λr hs=> ?_);subst hs)|(refine aD [] s2 trivial (λr hs=> ?_);subst hs)|refine dwR ?_|((first|refine aB ?_ ?_|refine aC ?_ ?_)<;>intro hb<;>(first|exact ddX hb|try simp only [lnS]at hb))|(refine aA ?_ ?_<;>intro hb<;>try exact dsX hb))<;>(conv=>whnf)))
 all_goals (refine eI ?_;simp_all<;>omega)
theorem aO3 (x y:Ax):aI5 x y=orF [mY (gN x) (gN y),mY x.kind y.kind,yR x.left y.left,yR x.right y.right,dG x.roles y.roles,gK x.role y.role,gK x.a y.a,gK x.b y.b]:=by
 unfold aI5 uZ yW
 simp only [orF]
 repeat' split
 all_goals first|rfl|omega
theorem aQk (a s:Int) (r:List Int):orF (a::s::r)=orF ((if a≠0 then a else s)::r):=by
 by_cases h:a=0<;>simp [orF,h]
theorem aL6 {l m:List (List UInt8)}{j:Nat}(h1:j<=l.length) (h2:j<=m.length) (h:¬ (j < l.length/\j < m.length)):dG (l.drop j) (m.drop j)=mY l.length m.length:=by
 unfold mY
 by_cases hl:j < l.length
 ·have hm:m.drop j=[]:=List.drop_eq_nil_of_le (by omega)
  rw [List.drop_eq_getElem_cons hl,hm,dG,if_neg (by omega),if_pos (by omega)]
 ·have hm:l.drop j=[]:=List.drop_eq_nil_of_le (by omega)
  rw [hm]
  by_cases hm:j < m.length
  ·rw [List.drop_eq_getElem_cons hm,dG,if_pos (by omega)]
  ·rw [show m.drop j=[]from List.drop_eq_nil_of_le (by omega),dG,if_neg (by omega),if_neg (by omega)]
theorem sA (x y:Ax) (h1:bH x.left<=1000000) (h2:bH x.right<=1000000) (h3:x.roles.length<=1000000) (h4:bH y.left<=1000000) (h5:bH y.right<=1000000) (h6:y.roles.length<=1000000):
  Tri Tryz.prog 99 [.d (.agg (axR x)), .d (.agg (axR y))] [] (λr=>r= .d (.int .i64 (aI5 x y))):=by
 have w1:=uK x h1 h2 h3
 have w2:=uK y h4 h5 h6
 have o0:=dV (gN x) (gN y)
 have o1:=dV x.kind y.kind
 have o2:=rZ x.left y.left h1 h4
 have o3:=rZ x.right y.right h2 h5
 have o5:=dV x.roles.length y.roles.length
 have o6:=fH x.role y.role
 have o7:=fH x.a y.a
 have o8:=fH x.b y.b
 rw [bA,bA]at o2 o3
 rw [aO3]
 generalize mY (gN x) (gN y)=n0 at o0 |-
 generalize mY x.kind y.kind=n1 at o1 |-
 generalize yR x.left y.left=n2 at o2 |-
 generalize yR x.right y.right=n3 at o3 |-
 generalize gK x.role y.role=n6 at o6 |-
 generalize gK x.a y.a=n7 at o7 |-
 generalize gK x.b y.b=n8 at o8 |-
 refine aE false [2,3] hty Tryz.func99 rfl (kp [0,1,2,3,4,5,6,13,20,27,48,63,72,79,86]) [] _ _ _ (by simp [Tryz.f99]) (by simp) ?_
 ((conv=>whnf);repeat' ((first|(intro hq;(try simp only [lnS]at hq);(try rewrite [List.length_map]))|refine sJ ?_|refine .intro _ (.intro rfl ?_)|refine exL (k:= ?_)|(refine⟨.d (.int .i64 _),_,[],rfl,trivial,w1, ?_⟩)|(refine⟨.d (.int .i64 _),_,[],rfl,trivial,w2, ?_⟩)|(refine⟨.d (.int .i64 _),_,[],rfl,trivial,o0, ?_⟩)|(refine aD [] o1 trivial (λr hs=> ?_);subst hs)|(refine aD [] o2 trivial (λr hs=> ?_);subst hs)|(refine aD [] o3 trivial (λr hs=> ?_);subst hs)|refine dwR ?_|((first|refine aB ?_ ?_|refine aC ?_ ?_)<;>intro hb<;>(first|exact ddX hb|try simp only [lnS]at hb))|(refine aA ?_ ?_<;>intro hb<;>try exact dsX hb))<;>(conv=>whnf)))
 ·refine aH hty (λq:Nat×Int=>([(2, .ea 16 [axR x] 0 0),(3, .ea 16 [axR y] 0 0),(5, .d (.int .i64 q.2)),(6, .d (.int .i64 q.1))],[])) (λq=>q.1<=x.roles.length/\q.1<=y.roles.length/\(if q.2≠0 then q.2 else dG (x.roles.drop q.1) (y.roles.drop q.1))=(if n3≠0 then n3 else dG x.roles y.roles)) (λq=>x.roles.length - q.1) (0,n3) ⟨by dsimp only;omega,by dsimp only;omega,rfl⟩ ⟨by repeat' (first|exact trivial|exact rfl|exact⟨rfl,rfl⟩|refine And.intro ?_ ?_),trivial⟩ ?_
  rintro⟨j,n⟩ ⟨hj,hjd,hn⟩
  dsimp only at hj hjd hn
  have hgoal:orF [n0,n1,n2,n3,dG x.roles y.roles,n6,n7,n8]=orF [if n3≠0 then n3 else dG x.roles y.roles,n6,n7,n8]:=by
   have e0:n0=0:=by assumption
   have e1:n1=0:=by assumption
   have e2:n2=0:=by assumption
   rw [e0,e1,e2]
   exact aQk n3 _ _
  rw [hgoal]
  clear hgoal o0 o1 o2 o3 w1 w2
  by_cases hlt:n=0/\j < x.roles.length/\j < y.roles.length
  ·obtain⟨rfl,h1,h2⟩:=hlt
   have hrow:(x.roles.map bL)[(j:Int).toNat]? =some (bL x.roles[j]):=aS h1
   have hrow2:(y.roles.map bL)[(j:Int).toNat]? =some (bL y.roles[j]):=aS h2
   have hcall:=fH x.roles[j] y.roles[j]
   rw [if_neg (by simp),List.drop_eq_getElem_cons h1,List.drop_eq_getElem_cons h2,dG]at hn
   generalize x.roles[j]=u at hrow hn hcall
   generalize y.roles[j]=z at hrow2 hn hcall
   ((conv=>whnf);repeat' ((first|(intro hq;(try simp only [lnS]at hq);(try rewrite [List.length_map]))|refine sJ ?_|refine .intro _ (.intro rfl ?_)|refine exL (k:= ?_)|(refine⟨_,hrow, ?_⟩)|(refine⟨_,hrow2, ?_⟩)|(refine⟨.d (.int .i64 _),_,[],rfl,trivial,hcall, ?_⟩)|refine dwR ?_|((first|refine aB ?_ ?_|refine aC ?_ ?_)<;>intro hb<;>(first|exact ddX hb|try simp only [lnS]at hb))|(refine aA ?_ ?_<;>intro hb<;>try exact dsX hb))<;>(conv=>whnf)))
   exact⟨(j+1,gK u z),⟨by dsimp only;omega,by dsimp only;omega,hn⟩,by dsimp only;omega,by repeat' (first|exact trivial|exact rfl|refine And.intro ?_ ?_),trivial⟩
  ·by_cases hn0:n=0
   ·subst hn0
    have hlt2:¬ (j < x.roles.length/\j < y.roles.length):= λh=>hlt ⟨rfl,h⟩
    rw [if_neg (by simp),aL6 hj hjd hlt2]at hn
    rw [<-hn]
    generalize mY x.roles.length y.roles.length=n5 at o5
    ((conv=>whnf);repeat' ((first|(intro hq;(try simp only [lnS]at hq);(try rewrite [List.length_map]))|refine sJ ?_|refine .intro _ (.intro rfl ?_)|refine exL (k:= ?_)|(refine aD [] o5 trivial (λr hs=> ?_);subst hs)|(refine aD [] o6 trivial (λr hs=> ?_);subst hs)|(refine aD [] o7 trivial (λr hs=> ?_);subst hs)|(refine aD [] o8 trivial (λr hs=> ?_);subst hs)|refine dwR ?_|((first|refine aB ?_ ?_|refine aC ?_ ?_)<;>intro hb<;>(first|exact ddX hb|try simp only [lnS]at hb))|(refine aA ?_ ?_<;>intro hb<;>try exact dsX hb))<;>(conv=>whnf)))
    all_goals (refine eI ?_;simp [orF, *])
   ·rw [if_pos hn0]at hn
    rw [<-hn]
    ((conv=>whnf);repeat' ((first|(intro hq;(try simp only [lnS]at hq);(try rewrite [List.length_map]))|refine sJ ?_|refine .intro _ (.intro rfl ?_)|refine exL (k:= ?_)|refine dwR ?_|((first|refine aB ?_ ?_|refine aC ?_ ?_)<;>intro hb<;>(first|exact ddX hb|try simp only [lnS]at hb))|(refine aA ?_ ?_<;>intro hb<;>try exact dsX hb))<;>(conv=>whnf)))
    refine eI ?_
    clear hn
    simp [orF, *]
 all_goals
  refine aH hty (λ_:Unit=>([(2, .ea 16 [axR x] 0 0),(3, .ea 16 [axR y] 0 0),(5, .d (.int .i64 _)),(6, .d (.int .i64 0))],[])) (λ_=>True) (λ_=>0) () trivial ⟨by repeat' (first|exact trivial|exact rfl|exact⟨rfl,rfl⟩|refine And.intro ?_ ?_),trivial⟩ ?_
  rintro⟨⟩ _
  ((conv=>whnf);repeat' ((first|(intro hq;(try simp only [lnS]at hq);(try rewrite [List.length_map]))|refine sJ ?_|refine .intro _ (.intro rfl ?_)|refine exL (k:= ?_)|refine dwR ?_|((first|refine aB ?_ ?_|refine aC ?_ ?_)<;>intro hb<;>(first|exact ddX hb|try simp only [lnS]at hb))|(refine aA ?_ ?_<;>intro hb<;>try exact dsX hb))<;>(conv=>whnf)))
  refine eI (Eq.symm ?_)
  simp [orF, *]
end Go.Proofs.YtleihcnongldbaaGreatDoor
