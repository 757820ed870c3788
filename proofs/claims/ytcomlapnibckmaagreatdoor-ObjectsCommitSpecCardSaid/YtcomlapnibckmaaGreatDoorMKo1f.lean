/-
  Objects: the law's examples. Arrays held against one another: are they not equal? ObjectsCommitSpec, walked. ObjectsCommitSpec: what the program's text says of the function, fact by fact.
  Conditions: none.
-/
import Derived.Test.YtcomlapnibckmaaGreatDoorMPn
import Derived.Test.YtcomlapnibckmaaGreatDoorMA1
import Derived.Test.YtcomlapnibckmaaGreatDoorMOf
import Derived.Test.YtcomlapnibckmaaGreatDoorCards
import Derived.Test.YtcomlapnibckmaaGreatDoorTie
import Derived.ProofKit
import Derived.JoinedOf
import Derived.LaidMore
import Derived.OpenShut
import Derived.Stop.Joined
import Derived.SevenTiedAt
set_option linter.unnecessarySimpa false
set_option linter.unusedSectionVars false
set_option linter.unusedSimpArgs false
set_option linter.unusedVariables false
set_option maxHeartbeats 32000000
namespace Go.Proofs.YtcomlapnibckmaaGreatDoor
open Go.Proofs Go.RowKit
set_option maxRecDepth 10000
attribute [local irreducible] aL aG Tri aD YVC cP bB
def cmX:Cm:=⟨258,[],aEr,[]⟩
def alX:Al:=⟨[120],aEr,[],aEr,0,[],[]⟩
theorem uK:vX []=([0,0,0,0],0):=by kernel_rfl
theorem aFi:jQ cmX=([0,0,0,0,0,0,1,2]++List.replicate 40 0,0):=by kernel_rfl
theorem aFj:xZ alX=([0,0,0,1,120]++List.replicate 84 0,0):=by kernel_rfl
theorem aH9:rAs 9 [0,0,0,0]=some ([],[]):=by kernel_rfl
theorem aH8:rAs 9 [0,0,0,0,0]=some ([],[0]):=by kernel_rfl
theorem aFt:rQy [0,0,0,0,0,0,0,0]=some (⟨[],[]⟩,[]):=by kernel_rfl
theorem aEv:dW (rAs 9) vX [] 280 [0,0,0,0]=([],0):=sV uK aH9
theorem aEu:dW (rAs 9) vX [] 280 [0,0,0,0,0]=([],280):=aCh aH8 (List.cons_ne_nil _ _)
def aI4:Qy->List UInt8×Int:= λ_=>([],210)
theorem aEt:dW rQy aI4 qy0 280 [0,0,0,0,0,0,0,0]=(qy0,280):=by
 rw [kY aFt,if_neg]
 rintro⟨_,h⟩
 injection h with _ h
 exact absurd h (by decide)
theorem wZ:Tri Tryz.prog 10 [] NG (λr=>r= .d (.bool true)):=by
 have c1:Tri Tryz.prog 29 [.d .nil] NG _:=Tri.args (iI []) ⟨cL.nil,trivial⟩
 rw [uK]at c1
 have c2: ∀id,Tri Tryz.prog 30 [.osl id 1 (([0,0,0,0]:List UInt8).map aO)] NG (λr=>r= .tup [.d (.sl 16 []), .d (.int .i64 0)]):= λid=>
  (Tri.args (xs:=[.osl id 1 (([0,0,0,0]:List UInt8).map aO)]) (gM vX [0,0,0,0] (by decide) λx _ _=>iI x) ⟨cL.osl,trivial⟩).mono (by rw [aEv];rintro r ⟨x,rfl,rfl⟩;rfl)
 have c3: ∀id,Tri Tryz.prog 30 [.osl id 1 (([0,0,0,0,0]:List UInt8).map aO)] NG (λr=>r= .tup [.d (.sl 16 []), .d (.int .i64 280)]):= λid=>
  (Tri.args (xs:=[.osl id 1 (([0,0,0,0,0]:List UInt8).map aO)]) (gM vX [0,0,0,0,0] (by decide) λx _ _=>iI x) ⟨cL.osl,trivial⟩).mono (by rw [aEu];rintro r ⟨x,rfl,rfl⟩;rfl)
 have c4:Tri Tryz.prog 15 [.d (.sl 1 (([0,0,0,0,0,0,0,0]:List UInt8).map aO))] NG (λr=>r= .tup [.d (.agg (qyR qy0)), .d (.int .i64 280)]):=
  (oG aI4 [0, 0, 0, 0, 0, 0, 0, 0] (by decide) (λx c e => by
   rw [aFt]at e
   injection e with e
   injection e with e _
   subst e
   exact sG)).mono (by rw [aEt];rintro r ⟨x,rfl,rfl⟩;rfl)
 have c5:Tri Tryz.prog 18 [.d (.agg ([.int .i64 258, .nil]++pQ aEr++[.str []]))] [] _:=Tri.args (iH cmX) ⟨cL.wkd (by repeat' (first|exact trivial|exact rfl|refine And.intro ?_ ?_)),trivial⟩
 rw [aFi]at c5
 have c6:Tri Tryz.prog 24 [.d (.agg ([.str [120]]++pQ aEr++[.nil]++pQ aEr++[.int .i64 0, .nil, .nil]))] NG _:=Tri.args (nC alX) ⟨cL.wkd (by repeat' (first|exact trivial|exact rfl|refine And.intro ?_ ?_)),trivial⟩
 rw [aFj]at c6
 refine aH false [] hty Tryz.func10 rfl (kp [0,1,2,3,4,6,8,9,10,11,12]) [] _ _ _ (by simp [Tryz.f10]) (by decide) ?_
 ((conv=>whnf);repeat ((first|(intro hq;try simp only [lnS]at hq)|refine sI ?_|refine .intro _ (.intro rfl ?_));(conv=>whnf)))
 refine aE NG c1 ⟨rfl,rfl,trivial⟩ (λr hs=> ?_)
 subst hs
 ((conv=>whnf);repeat ((first|(intro hq;try simp only [lnS]at hq)|refine sI ?_|refine .intro _ (.intro rfl ?_));(conv=>whnf)))
 refine aE NG (c2 _) ⟨rfl,rfl,trivial⟩ (λr hs=> ?_)
 subst hs
 ((conv=>whnf);repeat ((first|(intro hq;try simp only [lnS]at hq)|refine sI ?_|refine .intro _ (.intro rfl ?_));(conv=>whnf)))
 refine aE NG (c3 _) ⟨rfl,rfl,trivial⟩ (λr hs=> ?_)
 subst hs
 ((conv=>whnf);repeat ((first|(intro hq;try simp only [lnS]at hq)|refine sI ?_|refine .intro _ (.intro rfl ?_));(conv=>whnf)))
 refine aG.frozA (rows:=([0,0,0,0,0,0,0,0]:List UInt8).map aO) NG rfl rfl ⟨rfl,rfl,trivial⟩ rfl ?_
 refine aE NG c4 ⟨rfl,rfl,trivial⟩ (λr hs=> ?_)
 subst hs
 ((conv=>whnf);repeat ((first|(intro hq;try simp only [lnS]at hq)|refine sI ?_|refine .intro _ (.intro rfl ?_));(conv=>whnf)))
 refine aE [] c5 trivial (λr hs=> ?_)
 subst hs
 ((conv=>whnf);repeat ((first|(intro hq;try simp only [lnS]at hq)|refine sI ?_|refine .intro _ (.intro rfl ?_));(conv=>whnf)))
 refine aE NG c6 ⟨rfl,rfl,trivial⟩ (λr hs=> ?_)
 subst hs
 ((conv=>whnf);repeat ((first|(intro hq;try simp only [lnS]at hq)|refine sI ?_|refine .intro _ (.intro rfl ?_));(conv=>whnf)))
 rfl
end Go.Proofs.YtcomlapnibckmaaGreatDoor
namespace Go.Proofs.YtcomlapnibckmaaGreatDoor
open Go.RowKit
section
variable {P:Program}
theorem aCo {ti:TypeId->Option TI}(hti:cT P ti) {o:Oper}{t t' e:TypeId}{n:Nat}{x y:Operand}(ho:o.op= .binOp .neq t x y t') {Ts T:TI}(hT:ti t=some Ts) (htd:Ts.td= .array n e) (hE:ti e=some T) (ha:T.td.isAgg=false) (h1:T.size=1) (hg:aGh P t=true) {fr:Fr}{hp:Hp}{K:SV->Prop}{xs ys:List D}{b:Bool}
  (hx:evO fr x=some (.d (.agg xs))) (hy:evO fr y=some (.d (.agg ys))) (hn:xs.length=n) (hb:lJ T.td xs ys=some b) (hk:K (.d (.bool (!b)))):cP P o fr hp K:=by
 intro E ρ a w hm hf
 obtain⟨us,e1,hl1,hh1⟩:=(aV hf hx).dagg_inv
 obtain⟨vs,e2,hl2,hh2⟩:=(aV hf hy).dagg_inv
 obtain⟨d0,i0,z0,hT0⟩:=aI (hti _ _ hT)
 obtain⟨d1,i1,z1,hE1⟩:=aI (hti _ _ hE)
 have hd:d0= .array n e:=by
  have:=hT0.td
  rw [htd]at this
  cases d0<;>simp [rU]at this
  obtain⟨rfl,rfl⟩:=this
  rfl
 subst hd
 have hlen:=sS hb
 refine⟨.bool (!b),_,λw' _=> ?_, .d _ _ (.bool _),hk⟩
 have k2:P.eqGuardType P.depth t=false:=by simpa [aGh]using hg
 have hrun := rX (P := P) hE1 ha (w := w) (S := ρ.S) 9998 w' xs ys b 0 us vs hb (λj x h => by
  have hj:=(List.getElem?_eq_some_iff.1 h).1
  exact⟨us[j]'(by omega),by rw [Nat.zero_add];exact Array.getElem?_eq_getElem (by omega),hh1 j x _ h (Array.getElem?_eq_getElem (by omega))⟩) (λj x h=>by
  have hj:=(List.getElem?_eq_some_iff.1 h).1
  exact⟨vs[j]'(by omega),by rw [Nat.zero_add];exact Array.getElem?_eq_getElem (by omega),hh2 j x _ h (Array.getElem?_eq_getElem (by omega))⟩)
 have heq:(Op.equalIn 10000 t (.agg us) (.agg vs)).run P w'= .ok b w':=mX hT0.und hE1 h1 (by rw [<-hn];exact hrun)
 simp only [execOp,ho,e1,e2,Sem.run_bind,run_eqGuard_agg w' _ t x y us vs k2,Result.andThen_ok,run_neq_struct,heq]
 rfl
end
end Go.Proofs.YtcomlapnibckmaaGreatDoor
namespace Go.Proofs.YtcomlapnibckmaaGreatDoor
open Go.Proofs Go.RowKit
set_option maxRecDepth 10000
attribute [local irreducible] aL aG Tri aD YVC cP bB vU
theorem aAk (l:List UInt8):lJ (.int .u8) (l.map λc=>D.int .u8 c.toNat) (l.map λc=>D.int .u8 c.toNat)=some true:=by
 induction l with
 |nil=>rfl
 |cons c l ih=>
  rw [List.map_cons,lJ,ih]
  simp [sR]
theorem mW (c:Cm):Tri Tryz.prog 22 [.d (.agg (cmR c)), .d (.agg (cmR c))] [] (λr=>r= .d (.bool true)):=by
 obtain⟨no,l,dg,m⟩:=c
 obtain⟨xl,hx⟩:=dg
 have he:=aAk xl
 obtain⟨y0,y1,y2,y3,y4,y5,y6,y7,y8,y9,y10,y11,y12,y13,y14,y15,y16,y17,y18,y19,y20,y21,y22,y23,y24,y25,y26,y27,y28,y29,y30,y31,rfl⟩:=eQ hx
 have hlr:(l.map eE).length=l.length:=List.length_map ..
 refine aH false [2,3] hty Tryz.func22 rfl (kp [0,1,2,3,4,5,33,38,51]) [] _ _ _ (by simp [Tryz.f22]) (by simp) ?_
 ((conv=>whnf);repeat' ((first|(intro hq;(try simp only [lnS]at hq);(try rewrite [List.length_map]))|refine sJ ?_|refine .intro _ (.intro rfl ?_)|refine exL (k:= ?_)|(refine aCo hty rfl (by with_unfolding_all exact rfl) rfl (by with_unfolding_all exact rfl) rfl rfl (by with_unfolding_all kernel_rfl) rfl rfl rfl he ?_)|refine dwR ?_|((first|refine aB ?_ ?_|refine aC ?_ ?_)<;>intro hb<;>(first|exact ddX hb|try simp only [lnS]at hb))|(refine aA ?_ ?_<;>intro hb<;>try exact dsX hb))<;>(conv=>whnf)))
 refine aR hty (λj:Nat=>([(2, .ea 35 [[.int .i64 no, .sl 1 (l.map eE), .int .u8 y0.toNat, .int .u8 y1.toNat, .int .u8 y2.toNat, .int .u8 y3.toNat, .int .u8 y4.toNat, .int .u8 y5.toNat, .int .u8 y6.toNat, .int .u8 y7.toNat, .int .u8 y8.toNat, .int .u8 y9.toNat, .int .u8 y10.toNat, .int .u8 y11.toNat, .int .u8 y12.toNat, .int .u8 y13.toNat, .int .u8 y14.toNat, .int .u8 y15.toNat, .int .u8 y16.toNat, .int .u8 y17.toNat, .int .u8 y18.toNat, .int .u8 y19.toNat, .int .u8 y20.toNat, .int .u8 y21.toNat, .int .u8 y22.toNat, .int .u8 y23.toNat, .int .u8 y24.toNat, .int .u8 y25.toNat, .int .u8 y26.toNat, .int .u8 y27.toNat, .int .u8 y28.toNat, .int .u8 y29.toNat, .int .u8 y30.toNat, .int .u8 y31.toNat, .str m]] 0 0),(3, .ea 35 [[.int .i64 no, .sl 1 (l.map eE), .int .u8 y0.toNat, .int .u8 y1.toNat, .int .u8 y2.toNat, .int .u8 y3.toNat, .int .u8 y4.toNat, .int .u8 y5.toNat, .int .u8 y6.toNat, .int .u8 y7.toNat, .int .u8 y8.toNat, .int .u8 y9.toNat, .int .u8 y10.toNat, .int .u8 y11.toNat, .int .u8 y12.toNat, .int .u8 y13.toNat, .int .u8 y14.toNat, .int .u8 y15.toNat, .int .u8 y16.toNat, .int .u8 y17.toNat, .int .u8 y18.toNat, .int .u8 y19.toNat, .int .u8 y20.toNat, .int .u8 y21.toNat, .int .u8 y22.toNat, .int .u8 y23.toNat, .int .u8 y24.toNat, .int .u8 y25.toNat, .int .u8 y26.toNat, .int .u8 y27.toNat, .int .u8 y28.toNat, .int .u8 y29.toNat, .int .u8 y30.toNat, .int .u8 y31.toNat, .str m]] 0 0),(5, .d (.int .i64 j))],[])) (λj=>j<=l.length) (λj=>l.length - j) 0 (by omega) ⟨by repeat' (first|exact trivial|exact rfl|refine And.intro ?_ ?_),by repeat' (first|exact trivial|exact rfl|refine And.intro ?_ ?_)⟩ ?_
 intro j hj
 ((conv=>whnf);repeat ((first|(intro hq;try simp only [lnS]at hq)|refine sI ?_|refine .intro _ (.intro rfl ?_));(conv=>whnf)))
 rw [hlr]
 refine aB (λh1=> ?_) (λh1=> ?_)
 ·have hjl:j < l.length:=by omega
  have hrow:(l.map eE)[((j:Nat):Int).toNat]? =some (eE l[j]):=cC hjl
  ((conv=>whnf);repeat' ((first|(intro hq;(try simp only [lnS]at hq);(try rewrite [List.length_map]))|refine sJ ?_|refine .intro _ (.intro rfl ?_)|refine exL (k:= ?_)|(refine⟨_,hrow, ?_⟩)|refine dwR ?_|((first|refine aB ?_ ?_|refine aC ?_ ?_)<;>intro hb<;>(first|exact ddX hb|try simp only [lnS]at hb))|(refine aA ?_ ?_<;>intro hb<;>try exact dsX hb))<;>(conv=>whnf)))
  all_goals exact⟨j+1,by omega,by dsimp only;omega,⟨by repeat' (first|exact trivial|exact rfl|refine And.intro ?_ ?_),by repeat' (first|exact trivial|exact rfl|refine And.intro ?_ ?_)⟩⟩
 ·((conv=>whnf);repeat ((first|(intro hq;try simp only [lnS]at hq)|refine sI ?_|refine .intro _ (.intro rfl ?_));(conv=>whnf)))
  rfl
theorem aAh (bs:List UInt8):Tri Tryz.prog 11 [.d (.sl 1 (bs.map aO)), .d .nil] [] (λr=>r= .d (.bool (decide (bs.length<=6000)))):=by
 have hbl:=cH bs
 have hf:Tri Tryz.prog 40 [.d .nil, .d (.int .i64 12)] [] (λr=>r= .d (.bool true)):=
  (Tri.args (xs:=[.d .nil, .d (.int .i64 12)]) (oJ [] 12 (by simp)) ⟨cL.nil,⟨.refl _,trivial⟩⟩).mono (λr h=>by rw [h];rfl)
 refine aH false [] hty Tryz.func11 rfl (kp [0,1,4]) [] _ _ _ (by simp [Tryz.f11]) (by simp) ?_
 ((conv=>whnf);repeat ((first|(intro hq;try simp only [lnS]at hq)|refine sI ?_|refine .intro _ (.intro rfl ?_));(conv=>whnf)))
 rw [hbl]
 by_cases h:bs.length<=6000
 ·rw [decide_eq_true h]
  ((conv=>whnf);repeat' ((first|(intro hq;(try simp only [lnS]at hq);(try rewrite [List.length_map]))|refine sJ ?_|refine .intro _ (.intro rfl ?_)|refine exL (k:= ?_)|(refine aE [] hf trivial (λr hs=> ?_);subst hs)|refine dwR ?_|((first|refine aB ?_ ?_|refine aC ?_ ?_)<;>intro hb<;>(first|exact ddX hb|try simp only [lnS]at hb))|(refine aA ?_ ?_<;>intro hb<;>try exact dsX hb))<;>(conv=>whnf)))
  all_goals rfl
 ·rw [decide_eq_false h]
  ((conv=>whnf);repeat' ((first|(intro hq;(try simp only [lnS]at hq);(try rewrite [List.length_map]))|refine sJ ?_|refine .intro _ (.intro rfl ?_)|refine exL (k:= ?_)|(refine aE [] hf trivial (λr hs=> ?_);subst hs)|refine dwR ?_|((first|refine aB ?_ ?_|refine aC ?_ ?_)<;>intro hb<;>(first|exact ddX hb|try simp only [lnS]at hb))|(refine aA ?_ ?_<;>intro hb<;>try exact dsX hb))<;>(conv=>whnf)))
  all_goals rfl
theorem nX (c:Cm) (bs:List UInt8):Tri Tryz.prog 4 [.d (.agg (cmR c)), .d (.sl 1 (bs.map aO))] NG (λr=>r= .d (.bool true)):=by
 have c1:=aAh bs
 have c2:=iH c
 have c3:=lO c
 have ha:=eM (jQ c).1
 have c4:= λh=>mZ bs h
 have c5:= λh=>lZ bs h
 have e2:dW aEb jQ cm0 280 bs=dW rCm jQ cm0 280 bs:=aEs (λy d h=>by have:=aEa h [];rwa [List.append_nil]at this) (λy d h=>by have:=aFu h [];rwa [List.append_nil]at this) bs
 rw [e2]at c5
 clear e2
 have c6:=mW (dW rCm jQ cm0 280 bs).1
 generalize jQ c=res at *
 generalize dW rCm jQ cm0 280 bs=out at *
 obtain⟨no,l,dg,m⟩:=c
 obtain⟨xl,hx⟩:=dg
 obtain⟨y0,y1,y2,y3,y4,y5,y6,y7,y8,y9,y10,y11,y12,y13,y14,y15,y16,y17,y18,y19,y20,y21,y22,y23,y24,y25,y26,y27,y28,y29,y30,y31,rfl⟩:=eQ hx
 have hlr:(l.map eE).length=l.length:=List.length_map ..
 obtain⟨x,e⟩:=out
 obtain⟨no2,l2,dg2,m2⟩:=x
 obtain⟨xl2,hx2⟩:=dg2
 obtain⟨z0,z1,z2,z3,z4,z5,z6,z7,z8,z9,z10,z11,z12,z13,z14,z15,z16,z17,z18,z19,z20,z21,z22,z23,z24,z25,z26,z27,z28,z29,z30,z31,rfl⟩:=eQ hx2
 refine aH false [2,9,11] hty Tryz.func4 rfl (kp [0,1,2,4,5,6,7,8,9,10,11,12,14,29]) [] _ _ _ (by simp [Tryz.f4]) (by decide) ?_
 ((conv=>whnf);repeat ((first|(intro hq;try simp only [lnS]at hq)|refine sI ?_|refine .intro _ (.intro rfl ?_));(conv=>whnf)))
 refine aE NG wZ ⟨rfl,rfl,trivial⟩ (λr hs=> ?_)
 subst hs
 ((conv=>whnf);repeat ((first|(intro hq;try simp only [lnS]at hq)|refine sI ?_|refine .intro _ (.intro rfl ?_));(conv=>whnf)))
 refine aE [] c1 trivial (λr hs=> ?_)
 subst hs
 by_cases hf:bs.length<=6000
 ·rw [decide_eq_true hf]
  have hle:bs.length<=1000000:=by omega
  have c4:=(c4 hle).mono (post':= λr=>r= .tup [.d (.agg (cmR ⟨no2,l2,⟨[z0,z1,z2,z3,z4,z5,z6,z7,z8,z9,z10,z11,z12,z13,z14,z15,z16,z17,z18,z19,z20,z21,z22,z23,z24,z25,z26,z27,z28,z29,z30,z31],hx2⟩,m2⟩)), .d (.int .i64 e)]) (λr h=>by obtain⟨x,rfl,hr⟩:=h;exact hr)
  have c5:=(c5 hle).mono (post':= λr=>r= .tup [.d (.agg (cmR ⟨no2,l2,⟨[z0,z1,z2,z3,z4,z5,z6,z7,z8,z9,z10,z11,z12,z13,z14,z15,z16,z17,z18,z19,z20,z21,z22,z23,z24,z25,z26,z27,z28,z29,z30,z31],hx2⟩,m2⟩)), .d (.int .i64 e)]) (λr h=>by obtain⟨x,rfl,hr⟩:=h;exact hr)
  by_cases hbig:20 < l.length\/70000 < m.length
  ·((conv=>whnf);repeat' ((first|(intro hq;(try simp only [lnS]at hq);(try rewrite [List.length_map]))|refine sJ ?_|refine .intro _ (.intro rfl ?_)|refine exL (k:= ?_)|refine dwR ?_|((first|refine aB ?_ ?_|refine aC ?_ ?_)<;>intro hb<;>(first|exact ddX hb|try simp only [lnS]at hb))|(refine aA ?_ ?_<;>intro hb<;>try exact dsX hb))<;>(conv=>whnf)))
   all_goals rfl
  ·((conv=>whnf);repeat' ((first|(intro hq;(try simp only [lnS]at hq);(try rewrite [List.length_map]))|refine sJ ?_|refine .intro _ (.intro rfl ?_)|refine exL (k:= ?_)|(refine aE [] c2 trivial (λr hs=> ?_);subst hs)|(refine aE [] c3 trivial (λr hs=> ?_);subst hs)|(refine aE [] c4 trivial (λr hs=> ?_);subst hs)|(refine aE [] c5 trivial (λr hs=> ?_);subst hs)|(refine aE [] c6 trivial (λr hs=> ?_);subst hs)|refine dwR ?_|((first|refine aB ?_ ?_|refine aC ?_ ?_)<;>intro hb<;>(first|exact ddX hb|try simp only [lnS]at hb))|(refine aA ?_ ?_<;>intro hb<;>try exact dsX hb))<;>(conv=>whnf)))
   all_goals first|rfl|(refine bH ?_;simp)
 ·rw [decide_eq_false hf]
  ((conv=>whnf);repeat' ((first|(intro hq;(try simp only [lnS]at hq);(try rewrite [List.length_map]))|refine sJ ?_|refine .intro _ (.intro rfl ?_)|refine exL (k:= ?_)|refine dwR ?_|((first|refine aB ?_ ?_|refine aC ?_ ?_)<;>intro hb<;>(first|exact ddX hb|try simp only [lnS]at hb))|(refine aA ?_ ?_<;>intro hb<;>try exact dsX hb))<;>(conv=>whnf)))
  all_goals rfl
end Go.Proofs.YtcomlapnibckmaaGreatDoor
namespace Go.Proofs.YtcomlapnibckmaaGreatDoor
open Go.ChangeShapes Go.WideShapes Go.ChangeAt Go.RowKit
theorem gS:ownKnob Tryz.prog.godebug=none:=by kernel_rfl
theorem bC:Tryz.f4.params= #[41,26]:=by kernel_rfl
theorem eP:Tryz.f4.resultTypes= #[4]:=by kernel_rfl
theorem jN:(Rows.objectsCommitSpecRow.wf (OpenSpec.ofChange Rows.objectsCommitSpecSpec))=true:=by kernel_rfl
theorem jM:(laidOutB Tryz.prog)=true:=by kernel_rfl
theorem jL:(mapsRowed Tryz.prog)=true:=by kernel_rfl
theorem jK:(Tryz.f4.params.all (Tryz.prog.readableRec ·))=true:=by kernel_rfl
theorem jJ:(namedTie Tryz.prog Rows.objectsCommitSpecRow.named Rows.objectsCommitSpecSpec.vars)=true:=by kernel_rfl
theorem jI:(Rows.objectsCommitSpecRow.stops==[])=true:=by kernel_rfl
theorem jH:(Tryz.prog.stops==[])=true:=by kernel_rfl
theorem jG:(Rows.objectsCommitSpecRow.knobs==[])=true:=by kernel_rfl
theorem jF:(Tryz.prog.stopKnobs==[])=true:=by kernel_rfl
theorem jE:(Rows.objectsCommitSpecRow.inPlace==Tryz.prog.inPlace 4)=true:=by kernel_rfl
theorem iF:(Rows.objectsCommitSpecRow.unfollowed==Tryz.prog.unfollowed 4)=true:=by kernel_rfl
theorem iE:(Rows.objectsCommitSpecRow.recurses==Tryz.prog.recurses 4)=true:=by kernel_rfl
theorem iD:(Rows.objectsCommitSpecRow.named==Tryz.prog.varsNamed 4)=true:=by kernel_rfl
theorem iC:(Rows.objectsCommitSpecRow.maps==(Tryz.f4.params.toList++Rows.objectsCommitSpecSpec.plain.varTypes Tryz.prog).any (Tryz.prog.mapsRec ·))=true:=by kernel_rfl
theorem iB:(Rows.objectsCommitSpecRow.ifaces==(Tryz.f4.params.toList++Rows.objectsCommitSpecSpec.plain.varTypes Tryz.prog).any (Tryz.prog.ifacesRec ·))=true:=by kernel_rfl
theorem iA:(Rows.objectsCommitSpecRow.mapsOut==Tryz.prog.mapsAmong Tryz.f4.resultTypes.toList)=true:=by kernel_rfl
theorem hZ:(Rows.objectsCommitSpecRow.loops==(Tryz.f4.params.toList++Rows.objectsCommitSpecSpec.plain.varTypes Tryz.prog).any (Tryz.prog.loopsFrom ·))=true:=by kernel_rfl
theorem hU:(Rows.objectsCommitSpecRow.wideKeys==(Tryz.f4.params.toList++Rows.objectsCommitSpecSpec.plain.varTypes Tryz.prog++Tryz.f4.resultTypes.toList).any (Tryz.prog.wideKeysFrom ·))=true:=by kernel_rfl
theorem hP:(Rows.objectsCommitSpecSpec.vars.all (Tryz.prog.varReadable ·))=true:=by kernel_rfl
theorem hO:(Tryz.f4.resultTypes.all (λt=>Tryz.prog.readableRec t && decide (t < Tryz.prog.types.size)))=true:=by kernel_rfl
theorem hM:(Rows.objectsCommitSpecRow.ifacesOut==Tryz.f4.resultTypes.toList.any (Tryz.prog.ifacesRec ·))=true:=by kernel_rfl
theorem hJ:(Rows.objectsCommitSpecRow.loopsOut==Tryz.f4.resultTypes.toList.any (Tryz.prog.loopsFrom ·))=true:=by kernel_rfl
theorem hH:(Rows.objectsCommitSpecRow.plainKeys==Tryz.prog.plainKeys)=true:=by kernel_rfl
theorem hG:(Rows.objectsCommitSpecRow.shortTexts.isNone)=true:=by kernel_rfl
theorem hF:(Tryz.prog.stopsHeard)=true:=by kernel_rfl
theorem gZ:(Tryz.prog.mayEnter)=true:=by kernel_rfl
theorem gY:(Rows.objectsCommitSpecRow.lifted==Tryz.prog.liftsFinal)=true:=by kernel_rfl
theorem gX:(Tryz.prog.make==some Rows.objectsCommitSpecRow.make)=true:=by kernel_rfl
theorem gW:(Rows.objectsCommitSpecRow.kinds==(if Rows.objectsCommitSpecRow.domain.isEmpty then []else Tryz.f4.params.toList.map λt=>match Tryz.prog.underlying t with|some (.int k)=>some k|_=>none))=true:=by kernel_rfl
theorem gV:(Rows.objectsCommitSpecRow.pinned==Rows.objectsCommitSpecRow.pinnedBy)=true:=by kernel_rfl
theorem gU:(Rows.objectsCommitSpecRow.veiled==(Tryz.f4.params.toList++Rows.objectsCommitSpecSpec.plain.varTypes Tryz.prog++Tryz.f4.resultTypes.toList).any (Tryz.prog.veiledRec ·))=true:=by kernel_rfl
theorem gT:(Rows.objectsCommitSpecRow.veiledFits Tryz.prog Tryz.f4.params.toList (Tryz.f4.params.toList++Rows.objectsCommitSpecSpec.plain.varTypes Tryz.prog++Tryz.f4.resultTypes.toList))=true:=by kernel_rfl
theorem iG {b0 b1 b2 b3 b4 b5 b6 b7 b8 b9 b10 b11 b12 b13 b14 b15 b16 b17 b18 b19 b20 b21 b22 b23 b24 b25 b26 b27 b28 b29 b30 b31:Bool}(h0:b0=true) (h1:b1=true) (h2:b2=true) (h3:b3=true) (h4:b4=true) (h5:b5=true) (h6:b6=true) (h7:b7=true) (h8:b8=true) (h9:b9=true) (h10:b10=true) (h11:b11=true) (h12:b12=true) (h13:b13=true) (h14:b14=true) (h15:b15=true) (h16:b16=true) (h17:b17=true) (h18:b18=true) (h19:b19=true) (h20:b20=true) (h21:b21=true) (h22:b22=true) (h23:b23=true) (h24:b24=true) (h25:b25=true) (h26:b26=true) (h27:b27=true) (h28:b28=true) (h29:b29=true) (h30:b30=true) (h31:b31=true):(b0 && b1 && b2 && b3 && b4 && b5 && b6 && b7 && b8 && b9 && b10 && b11 && b12 && b13 && b14 && b15 && b16 && b17 && b18 && b19 && b20 && b21 && b22 && b23 && b24 && b25 && b26 && b27 && b28 && b29 && b30 && b31)=true:=by
 subst h0 h1 h2 h3 h4 h5 h6 h7 h8 h9 h10 h11 h12 h13 h14 h15 h16 h17 h18 h19 h20 h21 h22 h23 h24 h25 h26 h27 h28 h29 h30 h31
 rfl
set_option maxRecDepth 100000 in
theorem fC:joinedFacts Tryz.prog 4 Tryz.f4 Rows.objectsCommitSpecSpec Rows.objectsCommitSpecRow=true:=by
 unfold joinedFacts
 exact iG jN jM jL jK jJ jI jH jG jF jE iF iE iD iC iB iA hZ hU hP hO hM hJ hH hG hF gZ gY gX gW gV gU gT
theorem cY:Tryz.prog.funcNamed "veilstone/veilstonelaw28.ObjectsCommitSpec" =some 4:=by kernel_rfl
theorem gC:Tryz.f4.isInstance Tryz.prog Rows.objectsCommitSpecRow.origin Rows.objectsCommitSpecRow.targs:=of_decide_eq_true (by kernel_rfl)
theorem fZ:Tryz.f4.isWrapper Tryz.prog Rows.objectsCommitSpecRow.wrapper Rows.objectsCommitSpecRow.mainSum:=by unfold Func.isWrapper;first|(rw [if_pos (by decide+kernel)];kernel_rfl)|(rw [if_neg (by decide+kernel)];exact⟨rfl,rfl⟩)
theorem gR:Rows.objectsCommitSpecRow.wfByText (OpenSpec.ofChange Rows.objectsCommitSpecSpec)=true:=by kernel_rfl
theorem gB:Tryz.prog.mainIs=some (true, "2668efe21ebd873a8eba6c47f906f8c957a91e54e0ef5dac25b42382f5ec5db2".toList):=by kernel_rfl
theorem fP:false=Tryz.prog.looks []:=by kernel_rfl
theorem gD:false=Rows.objectsCommitSpecRow.goesBy Tryz.prog:=by kernel_rfl
theorem fO:([(41:Nat),26].all λu=> !Tryz.prog.wantsStandIn u)=true:=by kernel_rfl
end Go.Proofs.YtcomlapnibckmaaGreatDoor
