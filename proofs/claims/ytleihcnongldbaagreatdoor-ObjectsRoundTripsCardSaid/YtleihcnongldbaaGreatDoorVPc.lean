/-
  Objects: decoding axioms, queries and alignments; the readers. Rows that the call may write are stable from here on: data. Arguments that say less; rows made here handed to a callee for good. Objects: Alignment as the program writes it; ReadCommit; Query of the empty query.
  Conditions: none.
-/
import Derived.Test.YtleihcnongldbaaGreatDoorVPa
import Derived.Test.YtleihcnongldbaaGreatDoorVSyd
import Derived.Test.YtleihcnongldbaaGreatDoorVSyq
set_option linter.unnecessarySimpa false
set_option linter.unusedSectionVars false
set_option linter.unusedSimpArgs false
set_option linter.unusedVariables false
set_option maxHeartbeats 32000000
namespace Go.Proofs.YtleihcnongldbaaGreatDoor
open Go.Proofs Go.RowKit
set_option maxRecDepth 10000
attribute [local irreducible] aO aH Tri aG YVC cL bB
def qy0:Qy:=⟨[],[]⟩
def al0:Al:=⟨[],aIc,[],aIc,0,[],[]⟩
theorem xU (wr:Qy->List UInt8×Int) (bs:List UInt8) (hb:bs.length<=1000000) (hwr: ∀x c,rQy bs=some (x,c)->Tri Tryz.prog 9 [.d (.agg (qyR x))] NG (λr=>r= .tup [.d (.sl 1 ((wr x).1.map aV)), .d (.int .i64 (wr x).2)])):
  Tri Tryz.prog 35 [.d (.sl 1 (bs.map aV)), .fn 36 [] [], .fn 9 [] []] NG (λr=> ∃x,x=(cZ rQy wr qy0 280 bs).1/\r= .tup [.d (.agg (qyR x)), .d (.int .i64 (cZ rQy wr qy0 280 bs).2)]):=by
 have hlb:=jW bs
 have hsl:List.drop 0 (List.take (((bs.map aV).length:Nat):Int).toNat (bs.map aV))=bs.map aV:=by rw [List.drop_zero,Int.toNat_natCast,List.take_of_length_le (Nat.le_refl _)]
 refine Tri.says ?_
 refine wI false [] hty Tryz.func35 rfl Tryz.func77 rfl rfl rfl rfl rfl rfl rfl (by kernel_rfl) (by decide) (by decide) (by decide) (by decide) rfl (by kernel_rfl) (ms:= #[]) (d:=11) (x:=6) (y:=7) (tx:=25) (ty:=30) rfl rfl rfl rfl rfl rfl (by decide) (by decide) (kp [0,1,2,6,7,8,9,10,44]) (kp [0,1,2,4]) [] _ _ _ 2 (cZ rQy wr qy0 280 bs=(qy0,280)) (by simp [Tryz.f35]) (by decide) ?_ ?_
 ·((conv=>whnf);repeat ((first|(intro hq;try simp only [lnS]at hq)|refine sI ?_|refine .intro _ (.intro rfl ?_));(conv=>whnf)))
  rw [hsl]
  refine RdT.call aKw rfl (λ_=>rfl) bs hb rfl (λx c e1=> ?_) (λe1 b=>⟨oW e1,rfl,rfl,⟨_,rfl,rfl⟩,_,rfl⟩)
  have hw:=hwr x c e1
  have hd:=lU (wr:=wr) (zero:=qy0) (bad:=280) e1
  generalize cZ rQy wr qy0 280 bs=res at *
  generalize wr x=ae at *
  obtain⟨a,e⟩:=ae
  have heq:=eF a bs
  obtain⟨tl,pl⟩:=x
  ((conv=>whnf);repeat ((first|(refine aD NG hw ⟨rfl,rfl,trivial⟩ (λr hs=> ?_);subst hs)|(intro hq;try simp only [lnS]at hq)|refine sI ?_|refine .intro _ (.intro rfl ?_));(conv=>whnf)))
  refine aC (λh2=> ?_) (λh2=> ?_)
  ·have hr:res=(qy0,280):=by rw [hd,if_neg];rintro⟨_,h⟩;injection h with h3 h4;exact h2 h4
   ((conv=>whnf);repeat ((first|(refine cF hty rfl (by with_unfolding_all exact rfl) rfl rfl ?_)|(intro hq;try simp only [lnS]at hq)|refine sI ?_|refine .intro _ (.intro rfl ?_));(conv=>whnf)))
   exact⟨⟨_,rfl,rfl⟩,_,rfl⟩
  have h2:e=0:=by simpa using h2
  subst h2
  ((conv=>whnf);repeat ((first|(intro hq;try simp only [lnS]at hq)|refine sI ?_|refine .intro _ (.intro rfl ?_));(conv=>whnf)))
  refine aB (λh3=> ?_) (λh3=> ?_)
  ·have hr:res=(qy0,280):=by rw [hd,if_neg];rintro⟨h,_⟩;subst h;simp at h3
   ((conv=>whnf);repeat ((first|(refine cF hty rfl (by with_unfolding_all exact rfl) rfl rfl ?_)|(intro hq;try simp only [lnS]at hq)|refine sI ?_|refine .intro _ (.intro rfl ?_));(conv=>whnf)))
   exact⟨⟨_,rfl,rfl⟩,_,rfl⟩
  have h3:c=[]:=by
   rw [jW]at h3
   exact List.length_eq_zero_iff.1 (by omega)
  subst h3
  ((conv=>whnf);repeat ((first|(refine aD [] heq trivial (λr hs=> ?_);subst hs)|(intro hq;try simp only [lnS]at hq)|refine sI ?_|refine .intro _ (.intro rfl ?_));(conv=>whnf)))
  by_cases h4:a=bs
  ·subst h4
   rw [decide_eq_true rfl]
   rw [if_pos ⟨rfl,rfl⟩]at hd
   subst hd
   ((conv=>whnf);repeat ((first|(intro hq;try simp only [lnS]at hq)|refine sI ?_|refine .intro _ (.intro rfl ?_));(conv=>whnf)))
   exact⟨_, .refl _,_,rfl,rfl⟩
  ·have hr:res=(qy0,280):=by rw [hd,if_neg];rintro⟨_,h⟩;injection h with h5 h6;exact h4 h5
   rw [decide_eq_false h4]
   ((conv=>whnf);repeat ((first|(refine cF hty rfl (by with_unfolding_all exact rfl) rfl rfl ?_)|(intro hq;try simp only [lnS]at hq)|refine sI ?_|refine .intro _ (.intro rfl ?_));(conv=>whnf)))
   exact⟨⟨_,rfl,rfl⟩,_,rfl⟩
 ·intro hr vx vy hcx
  rw [hr]
  obtain⟨s0,vx0,rfl,h0x⟩:=aE hcx
  obtain⟨s1,vx1,rfl,h1x⟩:=aE h0x
  obtain rfl:=List.length_eq_zero_iff.1 h1x
  ((conv=>whnf);repeat ((first|(intro hq;try simp only [lnS]at hq)|refine sI ?_|refine .intro _ (.intro rfl ?_));(conv=>whnf)))
  exact⟨_,eG.pair (eG.wkd (by repeat' (first|exact trivial|exact rfl|refine And.intro ?_ ?_))),_,rfl,rfl⟩
theorem gZ (wr:Qy->List UInt8×Int) (bs:List UInt8) (hb:bs.length<=1000000) (hwr: ∀x c,rQy bs=some (x,c)->Tri Tryz.prog 9 [.d (.agg (qyR x))] NG (λr=>r= .tup [.d (.sl 1 ((wr x).1.map aV)), .d (.int .i64 (wr x).2)])):
  Tri Tryz.prog 11 [.d (.sl 1 (bs.map aV))] NG (λr=> ∃x,x=(cZ rQy wr qy0 280 bs).1/\r= .tup [.d (.agg (qyR x)), .d (.int .i64 (cZ rQy wr qy0 280 bs).2)]):=by
 have hd:=xU wr bs hb hwr
 generalize cZ rQy wr qy0 280 bs=res at *
 refine aF false [] hty Tryz.func11 rfl (kp [0,2,3]) [] _ _ _ (by simp [Tryz.f11]) (by decide) ?_
 ((conv=>whnf);repeat ((first|(intro hq;try simp only [lnS]at hq)|refine sI ?_|refine .intro _ (.intro rfl ?_));(conv=>whnf)))
 refine aD NG hd ⟨rfl,rfl,trivial⟩ (λr hs=> ?_)
 obtain⟨x,hx0,rfl⟩:=hs
 obtain⟨tl,pl⟩:=x
 ((conv=>whnf);repeat ((first|(intro hq;try simp only [lnS]at hq)|refine sI ?_|refine .intro _ (.intro rfl ?_));(conv=>whnf)))
 rw [<-hx0]
 rfl
theorem pO (wr:Al->List UInt8×Int) (bs:List UInt8) (hb:bs.length<=1000000) (hwr: ∀x c,(rAl 9) bs=some (x,c)->Tri Tryz.prog 15 [.d (.agg (alR x))] NG (λr=>r= .tup [.d (.sl 1 ((wr x).1.map aV)), .d (.int .i64 (wr x).2)])):
  Tri Tryz.prog 48 [.d (.sl 1 (bs.map aV)), .fn 49 [] [], .fn 15 [] []] NG (λr=> ∃x,x=(cZ (rAl 9) wr al0 280 bs).1/\r= .tup [.d (.agg (alR x)), .d (.int .i64 (cZ (rAl 9) wr al0 280 bs).2)]):=by
 have hlb:=jW bs
 have hsl:List.drop 0 (List.take (((bs.map aV).length:Nat):Int).toNat (bs.map aV))=bs.map aV:=by rw [List.drop_zero,Int.toNat_natCast,List.take_of_length_le (Nat.le_refl _)]
 refine Tri.says ?_
 refine wI false [] hty Tryz.func48 rfl Tryz.func88 rfl rfl rfl rfl rfl rfl rfl (by kernel_rfl) (by decide) (by decide) (by decide) (by decide) rfl (by kernel_rfl) (ms:= #[]) (d:=11) (x:=6) (y:=7) (tx:=44) (ty:=30) rfl rfl rfl rfl rfl rfl (by decide) (by decide) (kp [0,1,2,6,7,8,9,10,44]) (kp [0,1,2,4]) [] _ _ _ 69 (cZ (rAl 9) wr al0 280 bs=(al0,280)) (by simp [Tryz.f48]) (by decide) ?_ ?_
 ·((conv=>whnf);repeat ((first|(intro hq;try simp only [lnS]at hq)|refine sI ?_|refine .intro _ (.intro rfl ?_));(conv=>whnf)))
  rw [hsl]
  refine RdT.call aB4 rfl (λ_=>rfl) bs hb rfl (λx c e1=> ?_) (λe1 b=>⟨oW e1,rfl,rfl,⟨_,rfl,rfl⟩,_,rfl⟩)
  have hw:=hwr x c e1
  have hd:=lU (wr:=wr) (zero:=al0) (bad:=280) e1
  generalize cZ (rAl 9) wr al0 280 bs=res at *
  generalize wr x=ae at *
  obtain⟨a,e⟩:=ae
  have heq:=eF a bs
  obtain⟨nm,d1,ax,d2,ix,ps,pt⟩:=x
  obtain⟨yl,hy⟩:=d1
  obtain⟨y0,y1,y2,y3,y4,y5,y6,y7,y8,y9,y10,y11,y12,y13,y14,y15,y16,y17,y18,y19,y20,y21,y22,y23,y24,y25,y26,y27,y28,y29,y30,y31,rfl⟩:=fM hy
  obtain⟨zl,hz⟩:=d2
  obtain⟨z0,z1,z2,z3,z4,z5,z6,z7,z8,z9,z10,z11,z12,z13,z14,z15,z16,z17,z18,z19,z20,z21,z22,z23,z24,z25,z26,z27,z28,z29,z30,z31,rfl⟩:=fM hz
  ((conv=>whnf);repeat ((first|(refine aD NG hw ⟨rfl,rfl,trivial⟩ (λr hs=> ?_);subst hs)|(intro hq;try simp only [lnS]at hq)|refine sI ?_|refine .intro _ (.intro rfl ?_));(conv=>whnf)))
  refine aC (λh2=> ?_) (λh2=> ?_)
  ·have hr:res=(al0,280):=by rw [hd,if_neg];rintro⟨_,h⟩;injection h with h3 h4;exact h2 h4
   ((conv=>whnf);repeat ((first|(refine cF hty rfl (by with_unfolding_all exact rfl) rfl rfl ?_)|(intro hq;try simp only [lnS]at hq)|refine sI ?_|refine .intro _ (.intro rfl ?_));(conv=>whnf)))
   exact⟨⟨_,rfl,rfl⟩,_,rfl⟩
  have h2:e=0:=by simpa using h2
  subst h2
  ((conv=>whnf);repeat ((first|(intro hq;try simp only [lnS]at hq)|refine sI ?_|refine .intro _ (.intro rfl ?_));(conv=>whnf)))
  refine aB (λh3=> ?_) (λh3=> ?_)
  ·have hr:res=(al0,280):=by rw [hd,if_neg];rintro⟨h,_⟩;subst h;simp at h3
   ((conv=>whnf);repeat ((first|(refine cF hty rfl (by with_unfolding_all exact rfl) rfl rfl ?_)|(intro hq;try simp only [lnS]at hq)|refine sI ?_|refine .intro _ (.intro rfl ?_));(conv=>whnf)))
   exact⟨⟨_,rfl,rfl⟩,_,rfl⟩
  have h3:c=[]:=by
   rw [jW]at h3
   exact List.length_eq_zero_iff.1 (by omega)
  subst h3
  ((conv=>whnf);repeat ((first|(refine aD [] heq trivial (λr hs=> ?_);subst hs)|(intro hq;try simp only [lnS]at hq)|refine sI ?_|refine .intro _ (.intro rfl ?_));(conv=>whnf)))
  by_cases h4:a=bs
  ·subst h4
   rw [decide_eq_true rfl]
   rw [if_pos ⟨rfl,rfl⟩]at hd
   subst hd
   ((conv=>whnf);repeat ((first|(intro hq;try simp only [lnS]at hq)|refine sI ?_|refine .intro _ (.intro rfl ?_));(conv=>whnf)))
   exact⟨_, .refl _,_,rfl,rfl⟩
  ·have hr:res=(al0,280):=by rw [hd,if_neg];rintro⟨_,h⟩;injection h with h5 h6;exact h4 h5
   rw [decide_eq_false h4]
   ((conv=>whnf);repeat ((first|(refine cF hty rfl (by with_unfolding_all exact rfl) rfl rfl ?_)|(intro hq;try simp only [lnS]at hq)|refine sI ?_|refine .intro _ (.intro rfl ?_));(conv=>whnf)))
   exact⟨⟨_,rfl,rfl⟩,_,rfl⟩
 ·intro hr vx vy hcx
  rw [hr]
  obtain⟨s0,vx0,rfl,h0x⟩:=aE hcx
  obtain⟨s1,vx1,rfl,h1x⟩:=aE h0x
  obtain⟨s2,vx2,rfl,h2x⟩:=aE h1x
  obtain⟨s3,vx3,rfl,h3x⟩:=aE h2x
  obtain⟨s4,vx4,rfl,h4x⟩:=aE h3x
  obtain⟨s5,vx5,rfl,h5x⟩:=aE h4x
  obtain⟨s6,vx6,rfl,h6x⟩:=aE h5x
  obtain⟨s7,vx7,rfl,h7x⟩:=aE h6x
  obtain⟨s8,vx8,rfl,h8x⟩:=aE h7x
  obtain⟨s9,vx9,rfl,h9x⟩:=aE h8x
  obtain⟨s10,vx10,rfl,h10x⟩:=aE h9x
  obtain⟨s11,vx11,rfl,h11x⟩:=aE h10x
  obtain⟨s12,vx12,rfl,h12x⟩:=aE h11x
  obtain⟨s13,vx13,rfl,h13x⟩:=aE h12x
  obtain⟨s14,vx14,rfl,h14x⟩:=aE h13x
  obtain⟨s15,vx15,rfl,h15x⟩:=aE h14x
  obtain⟨s16,vx16,rfl,h16x⟩:=aE h15x
  obtain⟨s17,vx17,rfl,h17x⟩:=aE h16x
  obtain⟨s18,vx18,rfl,h18x⟩:=aE h17x
  obtain⟨s19,vx19,rfl,h19x⟩:=aE h18x
  obtain⟨s20,vx20,rfl,h20x⟩:=aE h19x
  obtain⟨s21,vx21,rfl,h21x⟩:=aE h20x
  obtain⟨s22,vx22,rfl,h22x⟩:=aE h21x
  obtain⟨s23,vx23,rfl,h23x⟩:=aE h22x
  obtain⟨s24,vx24,rfl,h24x⟩:=aE h23x
  obtain⟨s25,vx25,rfl,h25x⟩:=aE h24x
  obtain⟨s26,vx26,rfl,h26x⟩:=aE h25x
  obtain⟨s27,vx27,rfl,h27x⟩:=aE h26x
  obtain⟨s28,vx28,rfl,h28x⟩:=aE h27x
  obtain⟨s29,vx29,rfl,h29x⟩:=aE h28x
  obtain⟨s30,vx30,rfl,h30x⟩:=aE h29x
  obtain⟨s31,vx31,rfl,h31x⟩:=aE h30x
  obtain⟨s32,vx32,rfl,h32x⟩:=aE h31x
  obtain⟨s33,vx33,rfl,h33x⟩:=aE h32x
  obtain⟨s34,vx34,rfl,h34x⟩:=aE h33x
  obtain⟨s35,vx35,rfl,h35x⟩:=aE h34x
  obtain⟨s36,vx36,rfl,h36x⟩:=aE h35x
  obtain⟨s37,vx37,rfl,h37x⟩:=aE h36x
  obtain⟨s38,vx38,rfl,h38x⟩:=aE h37x
  obtain⟨s39,vx39,rfl,h39x⟩:=aE h38x
  obtain⟨s40,vx40,rfl,h40x⟩:=aE h39x
  obtain⟨s41,vx41,rfl,h41x⟩:=aE h40x
  obtain⟨s42,vx42,rfl,h42x⟩:=aE h41x
  obtain⟨s43,vx43,rfl,h43x⟩:=aE h42x
  obtain⟨s44,vx44,rfl,h44x⟩:=aE h43x
  obtain⟨s45,vx45,rfl,h45x⟩:=aE h44x
  obtain⟨s46,vx46,rfl,h46x⟩:=aE h45x
  obtain⟨s47,vx47,rfl,h47x⟩:=aE h46x
  obtain⟨s48,vx48,rfl,h48x⟩:=aE h47x
  obtain⟨s49,vx49,rfl,h49x⟩:=aE h48x
  obtain⟨s50,vx50,rfl,h50x⟩:=aE h49x
  obtain⟨s51,vx51,rfl,h51x⟩:=aE h50x
  obtain⟨s52,vx52,rfl,h52x⟩:=aE h51x
  obtain⟨s53,vx53,rfl,h53x⟩:=aE h52x
  obtain⟨s54,vx54,rfl,h54x⟩:=aE h53x
  obtain⟨s55,vx55,rfl,h55x⟩:=aE h54x
  obtain⟨s56,vx56,rfl,h56x⟩:=aE h55x
  obtain⟨s57,vx57,rfl,h57x⟩:=aE h56x
  obtain⟨s58,vx58,rfl,h58x⟩:=aE h57x
  obtain⟨s59,vx59,rfl,h59x⟩:=aE h58x
  obtain⟨s60,vx60,rfl,h60x⟩:=aE h59x
  obtain⟨s61,vx61,rfl,h61x⟩:=aE h60x
  obtain⟨s62,vx62,rfl,h62x⟩:=aE h61x
  obtain⟨s63,vx63,rfl,h63x⟩:=aE h62x
  obtain⟨s64,vx64,rfl,h64x⟩:=aE h63x
  obtain⟨s65,vx65,rfl,h65x⟩:=aE h64x
  obtain⟨s66,vx66,rfl,h66x⟩:=aE h65x
  obtain⟨s67,vx67,rfl,h67x⟩:=aE h66x
  obtain⟨s68,vx68,rfl,h68x⟩:=aE h67x
  obtain rfl:=List.length_eq_zero_iff.1 h68x
  ((conv=>whnf);repeat ((first|(intro hq;try simp only [lnS]at hq)|refine sI ?_|refine .intro _ (.intro rfl ?_));(conv=>whnf)))
  exact⟨_,eG.pair (eG.wkd (by repeat' (first|exact trivial|exact rfl|refine And.intro ?_ ?_))),_,rfl,rfl⟩
theorem gP (wr:Al->List UInt8×Int) (bs:List UInt8) (hb:bs.length<=1000000) (hwr: ∀x c,(rAl 9) bs=some (x,c)->Tri Tryz.prog 15 [.d (.agg (alR x))] NG (λr=>r= .tup [.d (.sl 1 ((wr x).1.map aV)), .d (.int .i64 (wr x).2)])):
  Tri Tryz.prog 17 [.d (.sl 1 (bs.map aV))] NG (λr=> ∃x,x=(cZ (rAl 9) wr al0 280 bs).1/\r= .tup [.d (.agg (alR x)), .d (.int .i64 (cZ (rAl 9) wr al0 280 bs).2)]):=by
 have hd:=pO wr bs hb hwr
 generalize cZ (rAl 9) wr al0 280 bs=res at *
 refine aF false [] hty Tryz.func17 rfl (kp [0,2,3]) [] _ _ _ (by simp [Tryz.f17]) (by decide) ?_
 ((conv=>whnf);repeat ((first|(intro hq;try simp only [lnS]at hq)|refine sI ?_|refine .intro _ (.intro rfl ?_));(conv=>whnf)))
 refine aD NG hd ⟨rfl,rfl,trivial⟩ (λr hs=> ?_)
 obtain⟨x,hx0,rfl⟩:=hs
 obtain⟨nm,d1,ax,d2,ix,ps,pt⟩:=x
 obtain⟨yl,hy⟩:=d1
 obtain⟨y0,y1,y2,y3,y4,y5,y6,y7,y8,y9,y10,y11,y12,y13,y14,y15,y16,y17,y18,y19,y20,y21,y22,y23,y24,y25,y26,y27,y28,y29,y30,y31,rfl⟩:=fM hy
 obtain⟨zl,hz⟩:=d2
 obtain⟨z0,z1,z2,z3,z4,z5,z6,z7,z8,z9,z10,z11,z12,z13,z14,z15,z16,z17,z18,z19,z20,z21,z22,z23,z24,z25,z26,z27,z28,z29,z30,z31,rfl⟩:=fM hz
 ((conv=>whnf);repeat ((first|(intro hq;try simp only [lnS]at hq)|refine sI ?_|refine .intro _ (.intro rfl ?_));(conv=>whnf)))
 rw [<-hx0]
 rfl
theorem uG (wr:List Ax->List UInt8×Int) (bs:List UInt8) (hb:bs.length<=1000000) (hwr: ∀x c,(rAs 9) bs=some (x,c)->Tri Tryz.prog 20 [.d (.sl 16 (x.map axR))] NG (λr=>r= .tup [.d (.sl 1 ((wr x).1.map aV)), .d (.int .i64 (wr x).2)])):
  Tri Tryz.prog 56 [.d (.sl 1 (bs.map aV)), .fn 57 [] [], .fn 20 [] []] NG (λr=> ∃x,x=(cZ (rAs 9) wr ([]:List Ax) 280 bs).1/\r= .tup [.d (.sl 16 (x.map axR)), .d (.int .i64 (cZ (rAs 9) wr ([]:List Ax) 280 bs).2)]):=by
 have hlb:=jW bs
 have hsl:List.drop 0 (List.take (((bs.map aV).length:Nat):Int).toNat (bs.map aV))=bs.map aV:=by rw [List.drop_zero,Int.toNat_natCast,List.take_of_length_le (Nat.le_refl _)]
 refine Tri.says ?_
 refine wI false [] hty Tryz.func56 rfl Tryz.func94 rfl rfl rfl rfl rfl rfl rfl (by kernel_rfl) (by decide) (by decide) (by decide) (by decide) rfl (by kernel_rfl) (ms:= #[]) (d:=11) (x:=6) (y:=7) (tx:=39) (ty:=30) rfl rfl rfl rfl rfl rfl (by decide) (by decide) (kp [0,1,2,6,7,8,9,10,44]) (kp [0,1,2,4]) [] _ _ _ 1 (cZ (rAs 9) wr ([]:List Ax) 280 bs=(([]:List Ax),280)) (by simp [Tryz.f56]) (by decide) ?_ ?_
 ·((conv=>whnf);repeat ((first|(intro hq;try simp only [lnS]at hq)|refine sI ?_|refine .intro _ (.intro rfl ?_));(conv=>whnf)))
  rw [hsl]
  refine RdT.call aC4 rfl (λ_=>rfl) bs hb rfl (λx c e1=> ?_) (λe1 b=>⟨oW e1,rfl,rfl,⟨_,rfl,rfl⟩,_,rfl⟩)
  have hw:=hwr x c e1
  have hd:=lU (wr:=wr) (zero:=([]:List Ax)) (bad:=280) e1
  generalize cZ (rAs 9) wr ([]:List Ax) 280 bs=res at *
  generalize wr x=ae at *
  obtain⟨a,e⟩:=ae
  have heq:=eF a bs
  ((conv=>whnf);repeat ((first|(refine aD NG hw ⟨rfl,rfl,trivial⟩ (λr hs=> ?_);subst hs)|(intro hq;try simp only [lnS]at hq)|refine sI ?_|refine .intro _ (.intro rfl ?_));(conv=>whnf)))
  refine aC (λh2=> ?_) (λh2=> ?_)
  ·have hr:res=(([]:List Ax),280):=by rw [hd,if_neg];rintro⟨_,h⟩;injection h with h3 h4;exact h2 h4
   ((conv=>whnf);repeat ((first|(refine cF hty rfl (by with_unfolding_all exact rfl) rfl rfl ?_)|(intro hq;try simp only [lnS]at hq)|refine sI ?_|refine .intro _ (.intro rfl ?_));(conv=>whnf)))
   exact⟨⟨_,rfl,rfl⟩,_,rfl⟩
  have h2:e=0:=by simpa using h2
  subst h2
  ((conv=>whnf);repeat ((first|(intro hq;try simp only [lnS]at hq)|refine sI ?_|refine .intro _ (.intro rfl ?_));(conv=>whnf)))
  refine aB (λh3=> ?_) (λh3=> ?_)
  ·have hr:res=(([]:List Ax),280):=by rw [hd,if_neg];rintro⟨h,_⟩;subst h;simp at h3
   ((conv=>whnf);repeat ((first|(refine cF hty rfl (by with_unfolding_all exact rfl) rfl rfl ?_)|(intro hq;try simp only [lnS]at hq)|refine sI ?_|refine .intro _ (.intro rfl ?_));(conv=>whnf)))
   exact⟨⟨_,rfl,rfl⟩,_,rfl⟩
  have h3:c=[]:=by
   rw [jW]at h3
   exact List.length_eq_zero_iff.1 (by omega)
  subst h3
  ((conv=>whnf);repeat ((first|(refine aD [] heq trivial (λr hs=> ?_);subst hs)|(intro hq;try simp only [lnS]at hq)|refine sI ?_|refine .intro _ (.intro rfl ?_));(conv=>whnf)))
  by_cases h4:a=bs
  ·subst h4
   rw [decide_eq_true rfl]
   rw [if_pos ⟨rfl,rfl⟩]at hd
   subst hd
   ((conv=>whnf);repeat ((first|(intro hq;try simp only [lnS]at hq)|refine sI ?_|refine .intro _ (.intro rfl ?_));(conv=>whnf)))
   exact⟨_, .refl _,_,rfl,rfl⟩
  ·have hr:res=(([]:List Ax),280):=by rw [hd,if_neg];rintro⟨_,h⟩;injection h with h5 h6;exact h4 h5
   rw [decide_eq_false h4]
   ((conv=>whnf);repeat ((first|(refine cF hty rfl (by with_unfolding_all exact rfl) rfl rfl ?_)|(intro hq;try simp only [lnS]at hq)|refine sI ?_|refine .intro _ (.intro rfl ?_));(conv=>whnf)))
   exact⟨⟨_,rfl,rfl⟩,_,rfl⟩
 ·intro hr vx vy hcx
  rw [hr]
  obtain⟨s0,vx0,rfl,h0x⟩:=aE hcx
  obtain rfl:=List.length_eq_zero_iff.1 h0x
  ((conv=>whnf);repeat ((first|(intro hq;try simp only [lnS]at hq)|refine sI ?_|refine .intro _ (.intro rfl ?_));(conv=>whnf)))
  exact⟨_,eG.pair (eG.wkd (by repeat' (first|exact trivial|exact rfl|refine And.intro ?_ ?_))),_,rfl,rfl⟩
theorem dS (wr:List Ax->List UInt8×Int) (bs:List UInt8) (hb:bs.length<=1000000) (hwr: ∀x c,(rAs 9) bs=some (x,c)->Tri Tryz.prog 20 [.d (.sl 16 (x.map axR))] NG (λr=>r= .tup [.d (.sl 1 ((wr x).1.map aV)), .d (.int .i64 (wr x).2)])):
  Tri Tryz.prog 22 [.d (.sl 1 (bs.map aV))] NG (λr=> ∃x,x=(cZ (rAs 9) wr ([]:List Ax) 280 bs).1/\r= .tup [.d (.sl 16 (x.map axR)), .d (.int .i64 (cZ (rAs 9) wr ([]:List Ax) 280 bs).2)]):=by
 have hd:=uG wr bs hb hwr
 generalize cZ (rAs 9) wr ([]:List Ax) 280 bs=res at *
 refine aF false [] hty Tryz.func22 rfl (kp [0,2,3]) [] _ _ _ (by simp [Tryz.f22]) (by decide) ?_
 ((conv=>whnf);repeat ((first|(intro hq;try simp only [lnS]at hq)|refine sI ?_|refine .intro _ (.intro rfl ?_));(conv=>whnf)))
 refine aD NG hd ⟨rfl,rfl,trivial⟩ (λr hs=> ?_)
 obtain⟨x,hx0,rfl⟩:=hs
 ((conv=>whnf);repeat ((first|(intro hq;try simp only [lnS]at hq)|refine sI ?_|refine .intro _ (.intro rfl ?_));(conv=>whnf)))
 rw [<-hx0]
 rfl
end Go.Proofs.YtleihcnongldbaaGreatDoor
namespace Go.Proofs.YtleihcnongldbaaGreatDoor
open Go.Proofs
theorem Mem.froze {E:Entry}{ρ:Env}{hp hp':Hp}{w:World}(h:Mem E ρ hp w) {id e z cap:Nat}{rows:List (List D)}(ho:aQ hp id=some (.mrow e z cap rows)) (hsub:aAc hp' hp) (hno:aQ hp' id=none):
  ∃S':Nat->Nat->Prop,(∀b i,ρ.S b i->S' b i)/\Mem E (ρ.withS S') hp' w/\RepD w S' (.sl z rows) (ρ.tv id):=by
 have hat: ∀b,eO (ρ.tv id)=some b->ρ.at id (.mrow e z cap rows)=some b:= λb hb=>hb
 have hs0: ∀i o,aQ hp' i=some o->aQ hp i=some o:=iN _ _ hsub
 have hne: ∀i o,aQ hp' i=some o->i≠id:= λi o hi e=>by rw [e,hno]at hi;cases hi
 refine⟨λb i=>ρ.S b i\/(eO (ρ.tv id)=some b/\i < rows.length * z),λb i hs=> .inl hs, ?_, ?_⟩
 ·refine⟨h.os,h.tape,h.output,h.size,h.old,λb i hs=> .inl (h.sold b i hs), ?_, ?_,h.kp, ?_,λi o i' o' g hi hi'=>h.inj i o i' o' g (hs0 i o hi) (hs0 i' o' hi'),λi o g hi=>h.hb i o g (hs0 i o hi),λi hi=>Env.moved_trans (h.mv i hi) (ρ.moved_withS _ i), ?_,h.md⟩
  ·rintro b i (hs|⟨hb,_⟩) hlt hB
   ·exact h.snew b i hs hlt hB
   ·rcases h.hb id _ b ho (hat b hb)with h1|h1
    ·omega
    ·exact absurd h1 hB
  ·rintro b i (hs|⟨hb,_⟩)
   ·exact h.slt b i hs
   ·exact h.blk_lt ho (hat b hb)
  ·intro i o hi
   refine(h.sat i o (hs0 i o hi)).keep (λ_ _ _=>rfl) (λb i hs=> .inl hs) (λi _=>ρ.moved_withS _ i) ⟨rfl,rfl⟩ (λg _=>rfl) ?_
   rintro g hg j (hs|⟨hb,_⟩)
   ·exact hs
   ·exact absurd (h.inj i o id _ g (hs0 i o hi) ho hg (hat g hb)) (hne i o hi)
  ·intro i oR g hi hrd hg i' o' hi'
   exact h.ro i oR g (hs0 _ _ hi) hrd hg i' o' (hs0 _ _ hi')
 ·obtain⟨_,h2⟩:=h.sat id _ ho
  rcases h2 with⟨rfl,_,A,e1⟩|⟨hc,g,cur,e1,q1,q2,q3,q4,q6,q7⟩
  ·rw [e1]
   exact RepD.mk_sl (b:=0) (off:=0) (by simp) (by simp) (λhne=>absurd rfl hne) ⟨by simp,by simp⟩ (by simp)
  ·have hb:eO (ρ.tv id)=some g:=by
    rw [e1];have:cap≠0:=by omega
    simp [eO,this]
   have key:RepD w (λb i=>ρ.S b i\/(eO (ρ.tv id)=some b/\i < rows.length * z)) (.sl z rows) (.slice (some ⟨g,0,none⟩) rows.length cap):=by
    refine RepD.mk_sl (b:=g) (off:=0) q2 q3 (λ_=>rfl) ?_ rfl
    refine q6.view (λk v hv=> ?_) (λk hk=> ?_) (λx v hx=>hx.mono (λ_ _ _=>rfl) λb i hs=> .inl hs)
    ·rw [Nat.zero_add,cell_of_row w g k cur e (0,0) q1]
     rw [List.getElem?_take]at hv
     split at hv
     ·simpa using hv
     ·cases hv
    ·rw [Nat.zero_add]
     right
     refine⟨hb, ?_⟩
     rw [q6.len]at hk;exact hk
   rw [e1]at key |-
   exact key
theorem aH.froz {P:Program}{pin:Pin}{fr:Fr}{hp hp':Hp}{f:FuncId}{asv:List SV}{K:SV->Hp->Prop}(j id:Nat) {e z cap n:Nat}{rows:List (List D)}(ho:aQ hp id=some (.mrow e z cap rows)) (hn:n=rows.length) (hj:asv[j]? =some (.mw id z n))
  (hsub:aAc hp' hp) (hno:aQ hp' id=none) (h:aH P pin fr hp' f (asv.set j (.d (.sl z rows))) K):aH P pin fr hp f asv K:=by
 intro E ρ w tm hpin h3 h4 vs hargs
 obtain⟨S',s1,s2,s3⟩:=h3.froze ho hsub hno
 obtain⟨q1,_⟩:=h3.sat id _ ho
 refine h E _ w tm hpin s2 (h4.mono (λ_ _ _=>rfl) s1 λi _=>ρ.moved_withS S' i) vs ⟨by simpa using hargs.1, ?_⟩
 intro k s v hs hv
 by_cases e:j=k
 ·subst e
  have hjl:=(List.getElem?_eq_some_iff.1 hj).1
  rw [List.getElem?_set_self hjl]at hs
  injection hs with hs
  subst hs
  obtain⟨A,c,_,_,_,_,_,e2⟩:=(hargs.2 j _ v hj hv).mw_inv
  have:=e2 (hn.trans q1.symm)
  subst this
  exact .d _ _ s3
 ·rw [List.getElem?_set_ne e]at hs
  exact(hargs.2 k s v hs hv).mono (λ_ _ _=>rfl) s1 λi _=>ρ.moved_withS S' i
theorem aO.froz {C:Cfg}{c:Code}{fr:Fr}{hp hp':Hp}{K:Ex->Fr->Hp->Prop}(t id:Nat) {e z cap n:Nat}{rows:List (List D)}(ht:fK fr t=some (.mw id z n)) (ho:aQ hp id=some (.mrow e z cap rows)) (hn:n=rows.length)
  (hsub:aAc hp' hp) (hno:aQ hp' id=none) (h:aO C c ((t, .d (.sl z rows))::fr) hp' K):aO C c fr hp K:=by
 intro E a w hpin hrd hsat
 obtain⟨h1,h2,ρ,h3,h4⟩:=hsat
 obtain⟨S',s1,s2,s3⟩:=h3.froze ho hsub hno
 obtain⟨q1,_⟩:=h3.sat id _ ho
 refine h E a w hpin hrd ⟨h1,h2,_,s2, ?_⟩
 intro k s hs
 simp only [fK]at hs
 by_cases e:t=k
 ·rw [if_pos e]at hs
  injection hs with hs
  subst hs;subst e
  obtain⟨v,hv,hr⟩:=h4 t _ ht
  obtain⟨A,c,_,_,_,_,_,e2⟩:=hr.mw_inv
  have:=e2 (hn.trans q1.symm)
  subst this
  exact⟨_,hv, .d _ _ s3⟩
 ·rw [if_neg e]at hs
  obtain⟨v,hv,hr⟩:=h4 k _ hs
  exact⟨v,hv,hr.mono (λ_ _ _=>rfl) s1 λi _=>ρ.moved_withS S' i⟩
end Go.Proofs.YtleihcnongldbaaGreatDoor
namespace Go.Proofs.YtleihcnongldbaaGreatDoor
open Go.RowKit
section
variable {P:Program}
def aA5:List SV->List SV->Prop
 | [],[]=>True
 |a::l,b::m=>eG a b/\aA5 l m
 |_,_=>False
theorem aA5.at: ∀(l m:List SV),aA5 l m->l.length=m.length/\ ∀(j:Nat) (a b:SV),l[j]? =some a->m[j]? =some b->eG a b
 | [],[],_=>⟨rfl,by simp⟩
 |a::l,b::m,h=>by
  obtain⟨h1,h2⟩:=aA5.at l m h.2
  refine⟨by simp [h1],λj x y hx hy=> ?_⟩
  cases j with
  |zero=>simp at hx hy;subst hx hy;exact h.1
  |succ j=>exact h2 j x y (by simpa using hx) (by simpa using hy)
theorem aA5.ok {w:World}{ρ:Env}{l m:List SV}{vs:Array Value}(h:aA5 l m) (hv:bY w ρ l vs):bY w ρ m vs:=by
 obtain⟨h1,h2⟩:=aA5.at l m h
 refine⟨hv.1.trans h1,λj b v hb hx=> ?_⟩
 have hj:j < l.length:=by rw [h1];exact(List.getElem?_eq_some_iff.1 hb).1
 exact h2 j _ b (List.getElem?_eq_getElem hj) hb w ρ v (hv.2 j _ v (List.getElem?_eq_getElem hj) hx)
theorem Tri.args {f:FuncId}{xs bs:List SV}{hp:Hp}{post:SV->Prop}(h:Tri P f bs hp post) (hs:aA5 xs bs):Tri P f xs hp post:=
 λw ρ vs a b c=>h w ρ vs a (hs.ok b) c
theorem aH.frozA {pin:Pin}{fr:Fr}{hp:Hp}{f:FuncId}{K:SV->Hp->Prop}{id e z cap n:Nat}{rows:List (List D)}(hp':Hp) (ho:aQ hp id=some (.mrow e z cap rows)) (hn:n=rows.length) (hsub:aAc hp' hp) (hno:aQ hp' id=none)
  (h:aH P pin fr hp' f [.d (.sl z rows)] K):aH P pin fr hp f [.mw id z n] K:=by
 intro E ρ w tm hpin h3 h4 vs hargs
 obtain⟨S',s1,s2,s3⟩:=h3.froze ho hsub hno
 obtain⟨q1,_⟩:=h3.sat id _ ho
 refine h E _ w tm hpin s2 (h4.mono (λ_ _ _=>rfl) s1 λi _=>ρ.moved_withS S' i) vs ⟨hargs.1,λj s v hs hv=> ?_⟩
 cases j with
 |succ j=>simp at hs
 |zero=>
  simp at hs
  subst hs
  have k4:=hargs.2 0 _ v rfl hv
  obtain⟨A,c,_,_,_,_,_,e2⟩:=k4.mw_inv
  have:=e2 (hn.trans q1.symm)
  subst this
  exact .d _ _ s3
end
end Go.Proofs.YtleihcnongldbaaGreatDoor
namespace Go.Proofs.YtleihcnongldbaaGreatDoor
open Go.Proofs Go.RowKit
set_option maxRecDepth 10000
attribute [local irreducible] aO aH Tri aG YVC cL bB
theorem aLq {a:Al}(h:24 < a.name.length):fG a=([],1):=by
 have e:alE a=1:=by unfold alE;rw [if_pos h]
 unfold fG;rw [e,if_neg (by decide)]
theorem aPb {a:Al}(h:¬ 24 < a.name.length) (h2:dD a.axioms≠0):fG a=([],dD a.axioms):=by
 have e:alE a=dD a.axioms:=by unfold alE;rw [if_neg h,if_pos h2]
 unfold fG;rw [e,if_neg h2]
theorem aNl {a:Al}(h:¬ 24 < a.name.length) (h2:dD a.axioms=0) (h3:128 < a.axioms.length\/256 < a.parts.length\/256 < a.path.length):fG a=([],2):=by
 have e:alE a=2:=by unfold alE;rw [if_neg h,if_neg (by simpa using h2),if_pos h3]
 unfold fG;rw [e,if_neg (by decide)]
theorem aPa {a:Al}(h:¬ 24 < a.name.length) (h2:dD a.axioms=0) (h3:¬ (128 < a.axioms.length\/256 < a.parts.length\/256 < a.path.length)):fG a=(wAl a,0):=by
 have e:alE a=0:=by unfold alE;rw [if_neg h,if_neg (by simpa using h2),if_neg h3]
 unfold fG;rw [if_pos e]
theorem aE3 {a:Al}(h:¬ 24 < a.name.length) (h2:dD a.axioms=0) (h3:¬ (128 < a.axioms.length\/256 < a.parts.length\/256 < a.path.length)):(wAl a).length<=1000000:=by
 have a1:=nK ((dN _).1 h2)
 have a2:a.axioms.length * 7000<=128 * 7000:=Nat.mul_le_mul_right _ (by omega)
 have a3:((a.parts.map mX).flatten).length<=a.parts.length * 32:=eX λd _=>by rw [show (mX d).length=32 from d.2];exact Nat.le_refl _
 have a4:((a.path.map mX).flatten).length<=a.path.length * 32:=eX λd _=>by rw [show (mX d).length=32 from d.2];exact Nat.le_refl _
 have a5:(mX a.base).length=32:=a.base.2
 have a6:(mX a.pub).length=32:=a.pub.2
 unfold wAl
 simp only [List.length_append,cQ,dA,a5,a6]
 unfold dO
 simp only [List.length_append,aT]
 omega
theorem dX (a:Al):Tri Tryz.prog 15 [.d (.agg (alR a))] NG (λr=>r= .tup [.d (.sl 1 ((fG a).1.map aV)), .d (.int .i64 (fG a).2)]):=by
 refine Tri.says ?_
 have hw:=yM a
 have h1:=aLq (a:=a)
 have h2:=aPb (a:=a)
 have h3:=aNl (a:=a)
 have h4:=aPa (a:=a)
 have h5:=aE3 (a:=a)
 have hc:=jJ a.axioms
 generalize wAl a=out at *
 generalize fG a=res at *
 obtain⟨nm,d1,ax,d2,ix,ps,pt⟩:=a
 obtain⟨yl,hy⟩:=d1
 obtain⟨y0,y1,y2,y3,y4,y5,y6,y7,y8,y9,y10,y11,y12,y13,y14,y15,y16,y17,y18,y19,y20,y21,y22,y23,y24,y25,y26,y27,y28,y29,y30,y31,rfl⟩:=fM hy
 obtain⟨zl,hz⟩:=d2
 obtain⟨z0,z1,z2,z3,z4,z5,z6,z7,z8,z9,z10,z11,z12,z13,z14,z15,z16,z17,z18,z19,z20,z21,z22,z23,z24,z25,z26,z27,z28,z29,z30,z31,rfl⟩:=fM hz
 dsimp only at h1 h2 h3 h4 h5 hc
 have hla:(ax.map axR).length=ax.length:=List.length_map ..
 have hlp:(ps.map lS).length=ps.length:=List.length_map ..
 have hlt:(pt.map lS).length=pt.length:=List.length_map ..
 refine aF false [] hty Tryz.func15 rfl (kp [0,1,2,3,4,8,13,32]) [] _ _ _ (by simp [Tryz.f15]) (by decide) ?_
 ((conv=>whnf);repeat ((first|(intro hq;try simp only [lnS]at hq)|refine sI ?_|refine .intro _ (.intro rfl ?_));(conv=>whnf)))
 refine aB (λq1=> ?_) (λq1=> ?_)
 ·rw [h1 (by dsimp only at q1;omega)]
  ((conv=>whnf);repeat ((first|(intro hq;try simp only [lnS]at hq)|refine sI ?_|refine .intro _ (.intro rfl ?_));(conv=>whnf)))
  exact⟨_,pairN (.d .nil) _,rfl⟩
 have q1:¬ 24 < nm.length:=by dsimp only at q1;omega
 ((conv=>whnf);repeat ((first|(refine aD NG hc ⟨rfl,rfl,trivial⟩ (λr hs=> ?_);subst hs)|(intro hq;try simp only [lnS]at hq)|refine sI ?_|refine .intro _ (.intro rfl ?_));(conv=>whnf)))
 refine aC (λq2=> ?_) (λq2=> ?_)
 ·rw [h2 q1 q2]
  ((conv=>whnf);repeat ((first|(intro hq;try simp only [lnS]at hq)|refine sI ?_|refine .intro _ (.intro rfl ?_));(conv=>whnf)))
  exact⟨_,pairN (.d .nil) _,rfl⟩
 have q2:dD ax=0:=by simpa using q2
 by_cases q3:128 < ax.length\/256 < ps.length\/256 < pt.length
 ·rw [h3 q1 q2 q3]
  clear h1 h2 h3 h4 h5 hw hc
  ((conv=>whnf);repeat' ((first|(intro hq;(try simp only [lnS]at hq);(try rewrite [List.length_map]))|refine sJ ?_|refine .intro _ (.intro rfl ?_)|refine exL (k:= ?_)|refine dwR ?_|((first|refine aB ?_ ?_|refine aC ?_ ?_)<;>intro hb<;>(first|exact ddX hb|try simp only [lnS]at hb))|(refine aA ?_ ?_<;>intro hb<;>try exact dsX hb))<;>(conv=>whnf)))
  all_goals exact⟨_,pairN (.d .nil) _,rfl⟩
 ·rw [h4 q1 q2 q3]
  have h5:=h5 q1 q2 q3
  clear h1 h2 h3 h4 hc
  ((conv=>whnf);repeat' ((first|(intro hq;(try simp only [lnS]at hq);(try rewrite [List.length_map]))|refine sJ ?_|refine .intro _ (.intro rfl ?_)|refine exL (k:= ?_)|refine dwR ?_|((first|refine aB ?_ ?_|refine aC ?_ ?_)<;>intro hb<;>(first|exact ddX hb|try simp only [lnS]at hb))|(refine aA ?_ ?_<;>intro hb<;>try exact dsX hb))<;>(conv=>whnf)))
  refine aH.ownH 4 104 73 5 1 rfl (cI (by with_unfolding_all exact rfl)) (fZ (by with_unfolding_all exact rfl)) ?_
  refine WrT.call hw rfl [] (by rw [List.length_nil];omega) (by decide) rfl rfl ?_
  rw [List.nil_append]
  ((conv=>whnf);repeat ((first|(intro hq;try simp only [lnS]at hq)|refine sI ?_|refine .intro _ (.intro rfl ?_));(conv=>whnf)))
  exact⟨_, .refl _,rfl⟩
theorem kI (bs:List UInt8) (hb:bs.length<=1000000):
  Tri Tryz.prog 23 [.d (.sl 1 (bs.map aV))] [] (λr=> ∃x,x=(cZ rCm fI cm0 280 bs).1/\r= .tup [.d (.agg (cmR x)), .d (.int .i64 (cZ rCm fI cm0 280 bs).2)]):=by
 have hd:=uF fI bs hb (λx c _=>lM x)
 generalize cZ rCm fI cm0 280 bs=res at *
 refine aJ hty Tryz.func23 rfl (kp [0,2,3]) [] _ _ _ (by simp [Tryz.f23]) (by simp) ?_
 ((conv=>whnf);repeat ((first|(intro hq;try simp only [lnS]at hq)|refine sI ?_|refine .intro _ (.intro rfl ?_));(conv=>whnf)))
 refine aD [] hd trivial (λr hs=> ?_)
 subst hs
 obtain⟨x,e⟩:=res
 obtain⟨no,ps,dg,m⟩:=x
 obtain⟨xl,hx⟩:=dg
 obtain⟨y0,y1,y2,y3,y4,y5,y6,y7,y8,y9,y10,y11,y12,y13,y14,y15,y16,y17,y18,y19,y20,y21,y22,y23,y24,y25,y26,y27,y28,y29,y30,y31,rfl⟩:=fM hx
 ((conv=>whnf);repeat ((first|(intro hq;try simp only [lnS]at hq)|refine sI ?_|refine .intro _ (.intro rfl ?_));(conv=>whnf)))
 rfl
theorem zD:Tri Tryz.prog 9 [.d (.agg (qyR ⟨[],[]⟩))] NG (λr=>r= .tup [.d (.sl 1 (([]:List UInt8).map aV)), .d (.int .i64 210)]):=by
 have h1:Tri Tryz.prog 62 [.d (.agg (qyR ⟨[],[]⟩))] [] (λr=>r= .d (.int .i64 210)):=by
  refine aJ hty Tryz.func62 rfl (kp [0,1,2,4,20,22,23,24,25,37]) [] _ _ _ (by simp [Tryz.f62]) (by simp) ?_
  ((conv=>whnf);repeat' ((first|(intro hq;(try simp only [lnS]at hq);(try rewrite [List.length_map]))|refine sJ ?_|refine .intro _ (.intro rfl ?_)|refine exL (k:= ?_)|refine dwR ?_|((first|refine aB ?_ ?_|refine aC ?_ ?_)<;>intro hb<;>(first|exact ddX hb|try simp only [lnS]at hb))|(refine aA ?_ ?_<;>intro hb<;>try exact dsX hb))<;>(conv=>whnf)))
  rfl
 have h2:Tri Tryz.prog 28 [.d (.agg (qyR ⟨[],[]⟩)), .d .nil] [] (λr=>r= .d (.int .i64 210)):=by
  refine aJ hty Tryz.func28 rfl (kp [0,1,2,4,6,8,10,14,17,18,19,20,24,25,26,27,33,40,43,44,45,46,52]) [] _ _ _ (by simp [Tryz.f28]) (by simp) ?_
  ((conv=>whnf);repeat' ((first|(intro hq;(try simp only [lnS]at hq);(try rewrite [List.length_map]))|refine sJ ?_|refine .intro _ (.intro rfl ?_)|refine exL (k:= ?_)|(refine aD [] h1 trivial (λr hs=> ?_);subst hs)|refine dwR ?_|((first|refine aB ?_ ?_|refine aC ?_ ?_)<;>intro hb<;>(first|exact ddX hb|try simp only [lnS]at hb))|(refine aA ?_ ?_<;>intro hb<;>try exact dsX hb))<;>(conv=>whnf)))
  rfl
 refine Tri.says ?_
 refine aF false [] hty Tryz.func9 rfl (kp [0,1,2,3,4,8]) [] _ _ _ (by simp [Tryz.f9]) (by decide) ?_
 ((conv=>whnf);repeat' ((first|(intro hq;(try simp only [lnS]at hq);(try rewrite [List.length_map]))|refine sJ ?_|refine .intro _ (.intro rfl ?_)|refine exL (k:= ?_)|(refine aD [] h2 trivial (λr hs=> ?_);subst hs)|refine dwR ?_|((first|refine aB ?_ ?_|refine aC ?_ ?_)<;>intro hb<;>(first|exact ddX hb|try simp only [lnS]at hb))|(refine aA ?_ ?_<;>intro hb<;>try exact dsX hb))<;>(conv=>whnf)))
 exact⟨_,pairN (.d .nil) _,rfl⟩
end Go.Proofs.YtleihcnongldbaaGreatDoor
