/-
  Objects: what a reader accepts is written as it was (the law ObjectsCanonical).
  Conditions: none.
-/
import Derived.Test.YtcomlapnibckmaaGreatDoorVOh
import Derived.Test.YtcomlapnibckmaaGreatDoorVSyt
set_option linter.unnecessarySimpa false
set_option linter.unusedSectionVars false
set_option linter.unusedSimpArgs false
set_option linter.unusedVariables false
set_option maxHeartbeats 32000000
namespace Go.Proofs.YtcomlapnibckmaaGreatDoor
open Go.Proofs Go.RowKit
set_option maxRecDepth 10000
attribute [local irreducible] aN aH Tri aF YVC cM bB
theorem pY (bs:List UInt8):Tri Tryz.prog 7 [.d (.sl 1 (bs.map bC))] NG (λr=>r= .d (.bool true)):=by
 have c1:=aBq bs
 by_cases hf:¬ bs.length<=6000
 ·rw [decide_eq_false hf]at c1
  refine aG false [7,11,15] hty Tryz.func7 rfl (kp [0,2,3,4,5,6,7,8,9,10,11,12,13,14,15,16,17,18,20,23,30,44,51,65,72,91,98,112]) [] _ _ _ (by simp [Tryz.f7]) (by decide) ?_
  ((conv=>whnf);repeat' ((first|(intro hq;(try simp only [lnS]at hq);(try rewrite [List.length_map]))|refine sJ ?_|refine .intro _ (.intro rfl ?_)|refine exL (k:= ?_)|(refine aD NG qN ⟨rfl,rfl,trivial⟩ (λr hs=> ?_);subst hs)|(refine aD [] c1 trivial (λr hs=> ?_);subst hs)|refine dwR ?_|((first|refine aB ?_ ?_|refine aC ?_ ?_)<;>intro hb<;>(first|exact ddX hb|try simp only [lnS]at hb))|(refine aA ?_ ?_<;>intro hb<;>try exact dsX hb))<;>(conv=>whnf)))
  rfl
 have hf:bs.length<=6000:=by omega
 rw [decide_eq_true hf]at c1
 have hle:bs.length<=1000000:=by omega
 have ha:=kI bs
 have rA:=eX tF bs hle (λx _ _=>dX x)
 have rC:=nZ bs hle
 have rQ:=kG wN bs hle (λx _ _=>oE x)
 have rL:=lM uX bs hle (λx _ _=>fC x)
 have oA:=dX (eE (rAs 9) tF [] 280 bs).1
 have oC:=iH (eE rCm rJ cm0 280 bs).1
 have oQ:=oE (eE rQy wN qy0 280 bs).1
 have qQ:=oB (eE rQy wN qy0 280 bs).1
 have oL:=fC (eE (rAl 9) uX al0 280 bs).1
 have dA:= λh=>(xV (rd:=rAs 9) (wr:=tF) (zero:=[]) (bad:=280) (b:=bs) (by decide) h).1
 have dC:= λh=>(xV (rd:=rCm) (wr:=rJ) (zero:=cm0) (bad:=280) (b:=bs) (by decide) h).1
 have dQ:= λh=>(xV (rd:=rQy) (wr:=wN) (zero:=qy0) (bad:=280) (b:=bs) (by decide) h).1
 have dL:= λh=>(xV (rd:=rAl 9) (wr:=uX) (zero:=al0) (bad:=280) (b:=bs) (by decide) h).1
 generalize eE (rAs 9) tF [] 280 bs=outA at *
 generalize eE rCm rJ cm0 280 bs=outC at *
 generalize eE rQy wN qy0 280 bs=outQ at *
 generalize eE (rAl 9) uX al0 280 bs=outL at *
 obtain⟨xA,eA⟩:=outA
 obtain⟨xC,eC⟩:=outC
 obtain⟨xQ,eQ⟩:=outQ
 obtain⟨xL,eL⟩:=outL
 dsimp only at *
 have rA:=rA.mono (post':= λr=>r= .tup [.d (.sl 16 (xA.map axR)), .d (.int .i64 eA)]) (λr h=>by obtain⟨x,rfl,hr⟩:=h;exact hr)
 have rC:=rC.mono (post':= λr=>r= .tup [.d (.agg (cmR xC)), .d (.int .i64 eC)]) (λr h=>by obtain⟨x,rfl,hr⟩:=h;exact hr)
 have rQ:=rQ.mono (post':= λr=>r= .tup [.d (.agg (qyR xQ)), .d (.int .i64 eQ)]) (λr h=>by obtain⟨x,rfl,hr⟩:=h;exact hr)
 have rL:=rL.mono (post':= λr=>r= .tup [.d (.agg (alR xL)), .d (.int .i64 eL)]) (λr h=>by obtain⟨x,rfl,hr⟩:=h;exact hr)
 have qq:wN xQ=(bs,0)->qE xQ=0:=by
  intro h
  unfold wN at h
  split at h
  ·assumption
  ·injection h with _ h
 have wA:eA=0->Tri Tryz.prog 29 [.d (.sl 16 (xA.map axR))] NG (λr=>r= .tup [.d (.sl 1 (bs.map bC)), .d (.int .i64 0)]):= λh=>by rw [dA h]at oA;exact oA
 have wC:eC=0->Tri Tryz.prog 18 [.d (.agg (cmR xC))] [] (λr=>r= .tup [.d (.sl 1 (bs.map bC)), .d (.int .i64 0)]):= λh=>by rw [dC h]at oC;exact oC
 have wQ:eQ=0->Tri Tryz.prog 13 [.d (.agg (qyR xQ))] NG (λr=>r= .tup [.d (.sl 1 (bs.map bC)), .d (.int .i64 0)]):= λh=>by rw [dQ h]at oQ;exact oQ
 have kQ:eQ=0->Tri Tryz.prog 33 [.d (.agg (qyR xQ)), .d .nil] [] (λr=>r= .d (.int .i64 0)):= λh=>by rw [qq (dQ h)]at qQ;exact qQ
 have wL:eL=0->Tri Tryz.prog 24 [.d (.agg (alR xL))] NG (λr=>r= .tup [.d (.sl 1 (bs.map bC)), .d (.int .i64 0)]):= λh=>by rw [dL h]at oL;exact oL
 clear oA oC oQ oL qQ dA dC dQ dL qq
 obtain⟨no2,l2,dg2,m2⟩:=xC
 obtain⟨xl2,hx2⟩:=dg2
 obtain⟨z0,z1,z2,z3,z4,z5,z6,z7,z8,z9,z10,z11,z12,z13,z14,z15,z16,z17,z18,z19,z20,z21,z22,z23,z24,z25,z26,z27,z28,z29,z30,z31,rfl⟩:=fK hx2
 obtain⟨told,parts⟩:=xQ
 obtain⟨nm,d1,ax,d2,ix,ps,pt⟩:=xL
 obtain⟨yl,hy⟩:=d1
 obtain⟨y0,y1,y2,y3,y4,y5,y6,y7,y8,y9,y10,y11,y12,y13,y14,y15,y16,y17,y18,y19,y20,y21,y22,y23,y24,y25,y26,y27,y28,y29,y30,y31,rfl⟩:=fK hy
 obtain⟨vl,hv⟩:=d2
 obtain⟨v0,v1,v2,v3,v4,v5,v6,v7,v8,v9,v10,v11,v12,v13,v14,v15,v16,v17,v18,v19,v20,v21,v22,v23,v24,v25,v26,v27,v28,v29,v30,v31,rfl⟩:=fK hv
 refine tO false [7,11,15] hty Tryz.func7 rfl (kp [0,2,3,4,5,6,7,8,9,10,11,12,13,14,15,16,17,18,20,23,30,44,51,65,72,91,98,112]) [] _ _ _ (by simp [Tryz.f7]) (by decide) ?_
 refine kL [(0, .d (.sl 1 (bs.map bC)))] (roH NG) (tR hty ?_) ?_
 ·((conv=>whnf);repeat' ((first|(intro hq;(try simp only [lnS]at hq);(try rewrite [List.length_map]))|refine sJ ?_|refine .intro _ (.intro rfl ?_)|refine exL (k:= ?_)|refine dwR ?_|((first|refine aB ?_ ?_|refine aC ?_ ?_)<;>intro hb<;>(first|exact ddX hb|try simp only [lnS]at hb))|(refine aA ?_ ?_<;>intro hb<;>try exact dsX hb))<;>(conv=>whnf)))
  all_goals exact⟨by repeat' (first|exact trivial|exact rfl|refine And.intro ?_ ?_),rfl,rfl,trivial⟩
 refine kL [(0, .d (.sl 1 (bs.map bC)))] (roH NG) (tR hty ?_) ?_
 ·((conv=>whnf);repeat' ((first|(intro hq;(try simp only [lnS]at hq);(try rewrite [List.length_map]))|refine sJ ?_|refine .intro _ (.intro rfl ?_)|refine exL (k:= ?_)|(refine aD NG qN ⟨rfl,rfl,trivial⟩ (λr hs=> ?_);subst hs)|refine dwR ?_|((first|refine aB ?_ ?_|refine aC ?_ ?_)<;>intro hb<;>(first|exact ddX hb|try simp only [lnS]at hb))|(refine aA ?_ ?_<;>intro hb<;>try exact dsX hb))<;>(conv=>whnf)))
  all_goals exact⟨by repeat' (first|exact trivial|exact rfl|refine And.intro ?_ ?_),rfl,rfl,trivial⟩
 refine kL [(0, .d (.sl 1 (bs.map bC)))] (roH NG) (tR hty ?_) ?_
 ·((conv=>whnf);repeat' ((first|(intro hq;(try simp only [lnS]at hq);(try rewrite [List.length_map]))|refine sJ ?_|refine .intro _ (.intro rfl ?_)|refine exL (k:= ?_)|(refine aD [] c1 trivial (λr hs=> ?_);subst hs)|refine dwR ?_|((first|refine aB ?_ ?_|refine aC ?_ ?_)<;>intro hb<;>(first|exact ddX hb|try simp only [lnS]at hb))|(refine aA ?_ ?_<;>intro hb<;>try exact dsX hb))<;>(conv=>whnf)))
  all_goals exact⟨by repeat' (first|exact trivial|exact rfl|refine And.intro ?_ ?_),rfl,rfl,trivial⟩
 refine kL [(0, .d (.sl 1 (bs.map bC)))] (roH NG) (tR hty ?_) ?_
 ·((conv=>whnf);repeat' ((first|(intro hq;(try simp only [lnS]at hq);(try rewrite [List.length_map]))|refine sJ ?_|refine .intro _ (.intro rfl ?_)|refine exL (k:= ?_)|(refine aD NG rA ⟨rfl,rfl,trivial⟩ (λr hs=> ?_);subst hs)|(refine aD NG (wA (by assumption)) ⟨rfl,rfl,trivial⟩ (λr hs=> ?_);subst hs)|refine dwR ?_|((first|refine aB ?_ ?_|refine aC ?_ ?_)<;>intro hb<;>(first|exact ddX hb|try simp only [lnS]at hb))|(refine aA ?_ ?_<;>intro hb<;>try exact dsX hb))<;>(conv=>whnf)))
  all_goals exact⟨by repeat' (first|exact trivial|exact rfl|refine And.intro ?_ ?_),rfl,rfl,trivial⟩
 refine kL [(0, .d (.sl 1 (bs.map bC)))] (roH NG) (tR hty ?_) ?_
 ·((conv=>whnf);repeat' ((first|(intro hq;(try simp only [lnS]at hq);(try rewrite [List.length_map]))|refine sJ ?_|refine .intro _ (.intro rfl ?_)|refine exL (k:= ?_)|(refine aD [] rC trivial (λr hs=> ?_);subst hs)|(refine aD [] (wC (by assumption)) trivial (λr hs=> ?_);subst hs)|refine dwR ?_|((first|refine aB ?_ ?_|refine aC ?_ ?_)<;>intro hb<;>(first|exact ddX hb|try simp only [lnS]at hb))|(refine aA ?_ ?_<;>intro hb<;>try exact dsX hb))<;>(conv=>whnf)))
  all_goals exact⟨by repeat' (first|exact trivial|exact rfl|refine And.intro ?_ ?_),rfl,rfl,trivial⟩
 refine kL [(0, .d (.sl 1 (bs.map bC)))] (roH NG) (tR hty ?_) ?_
 ·((conv=>whnf);repeat' ((first|(intro hq;(try simp only [lnS]at hq);(try rewrite [List.length_map]))|refine sJ ?_|refine .intro _ (.intro rfl ?_)|refine exL (k:= ?_)|(refine aD NG rQ ⟨rfl,rfl,trivial⟩ (λr hs=> ?_);subst hs)|(refine aD NG (wQ (by assumption)) ⟨rfl,rfl,trivial⟩ (λr hs=> ?_);subst hs)|(refine aD [] (kQ (by assumption)) trivial (λr hs=> ?_);subst hs)|refine dwR ?_|((first|refine aB ?_ ?_|refine aC ?_ ?_)<;>intro hb<;>(first|exact ddX hb|try simp only [lnS]at hb))|(refine aA ?_ ?_<;>intro hb<;>try exact dsX hb))<;>(conv=>whnf)))
  all_goals exact⟨by repeat' (first|exact trivial|exact rfl|refine And.intro ?_ ?_),rfl,rfl,trivial⟩
 refine kL [(0, .d (.sl 1 (bs.map bC)))] (roH NG) (tR hty ?_) ?_
 ·((conv=>whnf);repeat' ((first|(intro hq;(try simp only [lnS]at hq);(try rewrite [List.length_map]))|refine sJ ?_|refine .intro _ (.intro rfl ?_)|refine exL (k:= ?_)|(refine aD NG rL ⟨rfl,rfl,trivial⟩ (λr hs=> ?_);subst hs)|(refine aD NG (wL (by assumption)) ⟨rfl,rfl,trivial⟩ (λr hs=> ?_);subst hs)|refine dwR ?_|((first|refine aB ?_ ?_|refine aC ?_ ?_)<;>intro hb<;>(first|exact ddX hb|try simp only [lnS]at hb))|(refine aA ?_ ?_<;>intro hb<;>try exact dsX hb))<;>(conv=>whnf)))
  all_goals exact⟨by repeat' (first|exact trivial|exact rfl|refine And.intro ?_ ?_),rfl,rfl,trivial⟩
 refine tR hty ?_
 ((conv=>whnf);repeat' ((first|(intro hq;(try simp only [lnS]at hq);(try rewrite [List.length_map]))|refine sJ ?_|refine .intro _ (.intro rfl ?_)|refine exL (k:= ?_)|refine dwR ?_|((first|refine aB ?_ ?_|refine aC ?_ ?_)<;>intro hb<;>(first|exact ddX hb|try simp only [lnS]at hb))|(refine aA ?_ ?_<;>intro hb<;>try exact dsX hb))<;>(conv=>whnf)))
 rfl
end Go.Proofs.YtcomlapnibckmaaGreatDoor
