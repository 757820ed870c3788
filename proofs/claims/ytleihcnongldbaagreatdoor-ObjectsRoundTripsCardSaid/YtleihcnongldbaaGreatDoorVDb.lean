/-
  More of maps: a map held against nil; memory by what lies at its numbers; a result that is data from there on. The reference of objects: ReadCommit. Objects: the law's examples. Arrays held against one another: are they not equal? ObjectsCommitSpec, walked. Terms: the reference's Weight and CompareAxiom.
  Conditions: none.
-/
import Derived.Test.YtleihcnongldbaaGreatDoorVSne
import Derived.Test.YtleihcnongldbaaGreatDoorVPc
import Derived.Test.YtleihcnongldbaaGreatDoorVSyq
import Derived.Test.YtleihcnongldbaaGreatDoorVPa
import Derived.Test.YtleihcnongldbaaGreatDoorVA1
import Derived.Test.YtleihcnongldbaaGreatDoorVPi
import Derived.Test.YtleihcnongldbaaGreatDoorVG4
import Derived.Test.YtleihcnongldbaaGreatDoorVSyi
set_option linter.unnecessarySimpa false
set_option linter.unusedSectionVars false
set_option linter.unusedSimpArgs false
set_option linter.unusedVariables false
set_option maxHeartbeats 16000000
namespace Go.Proofs.YtleihcnongldbaaGreatDoor
open Go.Proofs Go.RowKit
section
variable {P:Program}
end
end Go.Proofs.YtleihcnongldbaaGreatDoor
namespace Go.Proofs.YtleihcnongldbaaGreatDoor
open Go.Proofs Go.RowKit
set_option maxRecDepth 10000
attribute [local irreducible] aO aH Tri aG YVC cL bB aJu
end Go.Proofs.YtleihcnongldbaaGreatDoor
namespace Go.Proofs.YtleihcnongldbaaGreatDoor
open Go.Proofs Go.RowKit
set_option maxRecDepth 10000
attribute [local irreducible] aO aH Tri aG YVC cL bB
def cmX:Cm:=⟨258,[],aIc,[]⟩
def alX:Al:=⟨[120],aIc,[],aIc,0,[],[]⟩
theorem aB6:fF []=([0,0,0,0],0):=by kernel_rfl
theorem aM4:fI cmX=([0,0,0,0,0,0,1,2]++List.replicate 40 0,0):=by kernel_rfl
theorem aM5:fG alX=([0,0,0,1,120]++List.replicate 84 0,0):=by kernel_rfl
theorem aOh:rAs 9 [0,0,0,0]=some ([],[]):=by kernel_rfl
theorem aOg:rAs 9 [0,0,0,0,0]=some ([],[0]):=by kernel_rfl
theorem aMh:rQy [0,0,0,0,0,0,0,0]=some (⟨[],[]⟩,[]):=by kernel_rfl
theorem aLf:cZ (rAs 9) fF [] 280 [0,0,0,0]=([],0):=lT aB6 aOh
theorem aLe:cZ (rAs 9) fF [] 280 [0,0,0,0,0]=([],280):=aBx aOg (List.cons_ne_nil _ _)
def aPh:Qy->List UInt8×Int:= λ_=>([],210)
theorem aLd:cZ rQy aPh qy0 280 [0,0,0,0,0,0,0,0]=(qy0,280):=by
 rw [lU aMh,if_neg]
 rintro⟨_,h⟩
 injection h with _ h
 exact absurd h (by decide)
theorem vA:Tri Tryz.prog 6 [] NG (λr=>r= .d (.bool true)):=by
 have c1:Tri Tryz.prog 20 [.d .nil] NG _:=Tri.args (dL []) ⟨eG.nil,trivial⟩
 rw [aB6]at c1
 have c2: ∀id,Tri Tryz.prog 22 [.osl id 1 (([0,0,0,0]:List UInt8).map aV)] NG (λr=>r= .tup [.d (.sl 16 []), .d (.int .i64 0)]):= λid=>
  (Tri.args (xs:=[.osl id 1 (([0,0,0,0]:List UInt8).map aV)]) (dS fF [0,0,0,0] (by decide) λx _ _=>dL x) ⟨eG.osl,trivial⟩).mono (by rw [aLf];rintro r ⟨x,rfl,rfl⟩;rfl)
 have c3: ∀id,Tri Tryz.prog 22 [.osl id 1 (([0,0,0,0,0]:List UInt8).map aV)] NG (λr=>r= .tup [.d (.sl 16 []), .d (.int .i64 280)]):= λid=>
  (Tri.args (xs:=[.osl id 1 (([0,0,0,0,0]:List UInt8).map aV)]) (dS fF [0,0,0,0,0] (by decide) λx _ _=>dL x) ⟨eG.osl,trivial⟩).mono (by rw [aLe];rintro r ⟨x,rfl,rfl⟩;rfl)
 have c4:Tri Tryz.prog 11 [.d (.sl 1 (([0,0,0,0,0,0,0,0]:List UInt8).map aV))] NG (λr=>r= .tup [.d (.agg (qyR qy0)), .d (.int .i64 280)]):=
  (gZ aPh [0, 0, 0, 0, 0, 0, 0, 0] (by decide) (λx c e => by
   rw [aMh]at e
   injection e with e
   injection e with e _
   subst e
   exact zD)).mono (by rw [aLd];rintro r ⟨x,rfl,rfl⟩;rfl)
 have c5:Tri Tryz.prog 21 [.d (.agg ([.int .i64 258, .nil]++lS aIc++[.str []]))] [] _:=Tri.args (lM cmX) ⟨eG.wkd (by repeat' (first|exact trivial|exact rfl|refine And.intro ?_ ?_)),trivial⟩
 rw [aM4]at c5
 have c6:Tri Tryz.prog 15 [.d (.agg ([.str [120]]++lS aIc++[.nil]++lS aIc++[.int .i64 0, .nil, .nil]))] NG _:=Tri.args (dX alX) ⟨eG.wkd (by repeat' (first|exact trivial|exact rfl|refine And.intro ?_ ?_)),trivial⟩
 rw [aM5]at c6
 refine aF false [] hty Tryz.func6 rfl (kp [0,1,2,3,4,6,8,9,10,11,12]) [] _ _ _ (by simp [Tryz.f6]) (by decide) ?_
 ((conv=>whnf);repeat ((first|(intro hq;try simp only [lnS]at hq)|refine sI ?_|refine .intro _ (.intro rfl ?_));(conv=>whnf)))
 refine aD NG c1 ⟨rfl,rfl,trivial⟩ (λr hs=> ?_)
 subst hs
 ((conv=>whnf);repeat ((first|(intro hq;try simp only [lnS]at hq)|refine sI ?_|refine .intro _ (.intro rfl ?_));(conv=>whnf)))
 refine aD NG (c2 _) ⟨rfl,rfl,trivial⟩ (λr hs=> ?_)
 subst hs
 ((conv=>whnf);repeat ((first|(intro hq;try simp only [lnS]at hq)|refine sI ?_|refine .intro _ (.intro rfl ?_));(conv=>whnf)))
 refine aD NG (c3 _) ⟨rfl,rfl,trivial⟩ (λr hs=> ?_)
 subst hs
 ((conv=>whnf);repeat ((first|(intro hq;try simp only [lnS]at hq)|refine sI ?_|refine .intro _ (.intro rfl ?_));(conv=>whnf)))
 refine aH.frozA (rows:=([0,0,0,0,0,0,0,0]:List UInt8).map aV) NG rfl rfl ⟨rfl,rfl,trivial⟩ rfl ?_
 refine aD NG c4 ⟨rfl,rfl,trivial⟩ (λr hs=> ?_)
 subst hs
 ((conv=>whnf);repeat ((first|(intro hq;try simp only [lnS]at hq)|refine sI ?_|refine .intro _ (.intro rfl ?_));(conv=>whnf)))
 refine aD [] c5 trivial (λr hs=> ?_)
 subst hs
 ((conv=>whnf);repeat ((first|(intro hq;try simp only [lnS]at hq)|refine sI ?_|refine .intro _ (.intro rfl ?_));(conv=>whnf)))
 refine aD NG c6 ⟨rfl,rfl,trivial⟩ (λr hs=> ?_)
 subst hs
 ((conv=>whnf);repeat ((first|(intro hq;try simp only [lnS]at hq)|refine sI ?_|refine .intro _ (.intro rfl ?_));(conv=>whnf)))
 rfl
end Go.Proofs.YtleihcnongldbaaGreatDoor
namespace Go.Proofs.YtleihcnongldbaaGreatDoor
open Go.RowKit
section
variable {P:Program}
theorem aC3 {ti:TypeId->Option TI}(hti:cT P ti) {o:Oper}{t t' e:TypeId}{n:Nat}{x y:Operand}(ho:o.op= .binOp .neq t x y t') {Ts T:TI}(hT:ti t=some Ts) (htd:Ts.td= .array n e) (hE:ti e=some T) (ha:T.td.isAgg=false) (h1:T.size=1) (hg:aIv P t=true) {fr:Fr}{hp:Hp}{K:SV->Prop}{xs ys:List D}{b:Bool}
  (hx:evO fr x=some (.d (.agg xs))) (hy:evO fr y=some (.d (.agg ys))) (hn:xs.length=n) (hb:oS T.td xs ys=some b) (hk:K (.d (.bool (!b)))):cL P o fr hp K:=by
 intro E ρ a w hm hf
 obtain⟨us,e1,hl1,hh1⟩:=(aU hf hx).dagg_inv
 obtain⟨vs,e2,hl2,hh2⟩:=(aU hf hy).dagg_inv
 obtain⟨d0,i0,z0,hT0⟩:=aM (hti _ _ hT)
 obtain⟨d1,i1,z1,hE1⟩:=aM (hti _ _ hE)
 have hd:d0= .array n e:=by
  have:=hT0.td
  rw [htd]at this
  cases d0<;>simp [yG]at this
  obtain⟨rfl,rfl⟩:=this
  rfl
 subst hd
 have hlen:=tH hb
 refine⟨.bool (!b),_,λw' _=> ?_, .d _ _ (.bool _),hk⟩
 have k2:P.eqGuardType P.depth t=false:=by simpa [aIv]using hg
 have hrun := rX (P := P) hE1 ha (w := w) (S := ρ.S) 9998 w' xs ys b 0 us vs hb (λj x h => by
  have hj:=(List.getElem?_eq_some_iff.1 h).1
  exact⟨us[j]'(by omega),by rw [Nat.zero_add];exact Array.getElem?_eq_getElem (by omega),hh1 j x _ h (Array.getElem?_eq_getElem (by omega))⟩) (λj x h=>by
  have hj:=(List.getElem?_eq_some_iff.1 h).1
  exact⟨vs[j]'(by omega),by rw [Nat.zero_add];exact Array.getElem?_eq_getElem (by omega),hh2 j x _ h (Array.getElem?_eq_getElem (by omega))⟩)
 have heq:(Op.equalIn 10000 t (.agg us) (.agg vs)).run P w'= .ok b w':=kF hT0.und hE1 h1 (by rw [<-hn];exact hrun)
 simp only [execOp,ho,e1,e2,Sem.run_bind,run_eqGuard_agg w' _ t x y us vs k2,Result.andThen_ok,run_neq_struct,heq]
 rfl
end
end Go.Proofs.YtleihcnongldbaaGreatDoor
namespace Go.Proofs.YtleihcnongldbaaGreatDoor
open Go.Proofs Go.RowKit
set_option maxRecDepth 10000
attribute [local irreducible] aO aH Tri aG YVC cL bB aJu
theorem oP (l:List UInt8):oS (.int .u8) (l.map λc=>D.int .u8 c.toNat) (l.map λc=>D.int .u8 c.toNat)=some true:=by
 induction l with
 |nil=>rfl
 |cons c l ih=>
  rw [List.map_cons,oS,ih]
  simp [zO]
theorem rW (c:Cm):Tri Tryz.prog 25 [.d (.agg (cmR c)), .d (.agg (cmR c))] [] (λr=>r= .d (.bool true)):=by
 obtain⟨no,l,dg,m⟩:=c
 obtain⟨xl,hx⟩:=dg
 have he:=oP xl
 obtain⟨y0,y1,y2,y3,y4,y5,y6,y7,y8,y9,y10,y11,y12,y13,y14,y15,y16,y17,y18,y19,y20,y21,y22,y23,y24,y25,y26,y27,y28,y29,y30,y31,rfl⟩:=fM hx
 have hlr:(l.map xR).length=l.length:=List.length_map ..
 refine aF false [2,3] hty Tryz.func25 rfl (kp [0,1,2,3,4,5,33,38,51]) [] _ _ _ (by simp [Tryz.f25]) (by simp) ?_
 ((conv=>whnf);repeat' ((first|(intro hq;(try simp only [lnS]at hq);(try rewrite [List.length_map]))|refine sJ ?_|refine .intro _ (.intro rfl ?_)|refine exL (k:= ?_)|(refine aC3 hty rfl (by with_unfolding_all exact rfl) rfl (by with_unfolding_all exact rfl) rfl rfl (by with_unfolding_all kernel_rfl) rfl rfl rfl he ?_)|refine dwR ?_|((first|refine aB ?_ ?_|refine aC ?_ ?_)<;>intro hb<;>(first|exact ddX hb|try simp only [lnS]at hb))|(refine aA ?_ ?_<;>intro hb<;>try exact dsX hb))<;>(conv=>whnf)))
 refine aL hty (λj:Nat=>([(2, .ea 35 [[.int .i64 no, .sl 1 (l.map xR), .int .u8 y0.toNat, .int .u8 y1.toNat, .int .u8 y2.toNat, .int .u8 y3.toNat, .int .u8 y4.toNat, .int .u8 y5.toNat, .int .u8 y6.toNat, .int .u8 y7.toNat, .int .u8 y8.toNat, .int .u8 y9.toNat, .int .u8 y10.toNat, .int .u8 y11.toNat, .int .u8 y12.toNat, .int .u8 y13.toNat, .int .u8 y14.toNat, .int .u8 y15.toNat, .int .u8 y16.toNat, .int .u8 y17.toNat, .int .u8 y18.toNat, .int .u8 y19.toNat, .int .u8 y20.toNat, .int .u8 y21.toNat, .int .u8 y22.toNat, .int .u8 y23.toNat, .int .u8 y24.toNat, .int .u8 y25.toNat, .int .u8 y26.toNat, .int .u8 y27.toNat, .int .u8 y28.toNat, .int .u8 y29.toNat, .int .u8 y30.toNat, .int .u8 y31.toNat, .str m]] 0 0),(3, .ea 35 [[.int .i64 no, .sl 1 (l.map xR), .int .u8 y0.toNat, .int .u8 y1.toNat, .int .u8 y2.toNat, .int .u8 y3.toNat, .int .u8 y4.toNat, .int .u8 y5.toNat, .int .u8 y6.toNat, .int .u8 y7.toNat, .int .u8 y8.toNat, .int .u8 y9.toNat, .int .u8 y10.toNat, .int .u8 y11.toNat, .int .u8 y12.toNat, .int .u8 y13.toNat, .int .u8 y14.toNat, .int .u8 y15.toNat, .int .u8 y16.toNat, .int .u8 y17.toNat, .int .u8 y18.toNat, .int .u8 y19.toNat, .int .u8 y20.toNat, .int .u8 y21.toNat, .int .u8 y22.toNat, .int .u8 y23.toNat, .int .u8 y24.toNat, .int .u8 y25.toNat, .int .u8 y26.toNat, .int .u8 y27.toNat, .int .u8 y28.toNat, .int .u8 y29.toNat, .int .u8 y30.toNat, .int .u8 y31.toNat, .str m]] 0 0),(5, .d (.int .i64 j))],[])) (λj=>j<=l.length) (λj=>l.length - j) 0 (by omega) ⟨by repeat' (first|exact trivial|exact rfl|refine And.intro ?_ ?_),by repeat' (first|exact trivial|exact rfl|refine And.intro ?_ ?_)⟩ ?_
 intro j hj
 ((conv=>whnf);repeat ((first|(intro hq;try simp only [lnS]at hq)|refine sI ?_|refine .intro _ (.intro rfl ?_));(conv=>whnf)))
 rw [hlr]
 refine aB (λh1=> ?_) (λh1=> ?_)
 ·have hjl:j < l.length:=by omega
  have hrow:(l.map xR)[((j:Nat):Int).toNat]? =some (xR l[j]):=aZ hjl
  ((conv=>whnf);repeat' ((first|(intro hq;(try simp only [lnS]at hq);(try rewrite [List.length_map]))|refine sJ ?_|refine .intro _ (.intro rfl ?_)|refine exL (k:= ?_)|(refine⟨_,hrow, ?_⟩)|refine dwR ?_|((first|refine aB ?_ ?_|refine aC ?_ ?_)<;>intro hb<;>(first|exact ddX hb|try simp only [lnS]at hb))|(refine aA ?_ ?_<;>intro hb<;>try exact dsX hb))<;>(conv=>whnf)))
  all_goals exact⟨j+1,by omega,by dsimp only;omega,⟨by repeat' (first|exact trivial|exact rfl|refine And.intro ?_ ?_),by repeat' (first|exact trivial|exact rfl|refine And.intro ?_ ?_)⟩⟩
 ·((conv=>whnf);repeat ((first|(intro hq;try simp only [lnS]at hq)|refine sI ?_|refine .intro _ (.intro rfl ?_));(conv=>whnf)))
  rfl
end Go.Proofs.YtleihcnongldbaaGreatDoor
namespace Go.Proofs.YtleihcnongldbaaGreatDoor
open Go.Proofs
set_option maxRecDepth 10000
attribute [local irreducible] aO aH Tri aG YVC cL bB
theorem pY (x:Ax) (h1:bW x.left<=1000000) (h2:bW x.right<=1000000) (h3:x.roles.length<=1000000):Tri Tryz.prog 140 [.d (.agg (axR x))] [] (λr=>r= .d (.int .i64 (fH x))):=by
 have s1:=mA x.left h1
 have s2:=mA x.right h2
 rw [bG]at s1 s2
 have hw:fH x=(x.roles.length:Int)+aFg x.left+aFg x.right+aKl x.role+aKl x.a+aKl x.b:=by
  unfold fH;simp only [aOf,aOe];omega
 rw [hw,aFg,aFg,aKl,aKl,aKl]
 clear hw
 generalize bW x.left=m1 at *
 generalize bW x.right=m2 at *
 refine aF false [1] hty Tryz.func140 rfl (kp [0,1,2,3,10,19,27,32,37]) [] _ _ _ (by simp [Tryz.f140]) (by simp) ?_
 ((conv=>whnf);repeat' ((first|(intro hq;(try simp only [lnS]at hq);(try rewrite [List.length_map]))|refine sJ ?_|refine .intro _ (.intro rfl ?_)|refine exL (k:= ?_)|(refine aD [] s1 trivial (λr hs=> ?_);subst hs)|(refine aD [] s2 trivial (λr hs=> ?_);subst hs)|refine dwR ?_|((first|refine aB ?_ ?_|refine aC ?_ ?_)<;>intro hb<;>(first|exact ddX hb|try simp only [lnS]at hb))|(refine aA ?_ ?_<;>intro hb<;>try exact dsX hb))<;>(conv=>whnf)))
 all_goals (refine iF ?_;simp_all<;>omega)
theorem aIl (x y:Ax):aDn x y=orF [jX (fH x) (fH y),jX x.kind y.kind,tP x.left y.left,tP x.right y.right,cM x.roles y.roles,fB x.role y.role,fB x.a y.a,fB x.b y.b]:=by
 unfold aDn qL tU
 simp only [orF]
 repeat' split
 all_goals first|rfl|omega
theorem aL1 (a s:Int) (r:List Int):orF (a::s::r)=orF ((if a≠0 then a else s)::r):=by
 by_cases h:a=0<;>simp [orF,h]
theorem aFy {l m:List (List UInt8)}{j:Nat}(h1:j<=l.length) (h2:j<=m.length) (h:¬ (j < l.length/\j < m.length)):cM (l.drop j) (m.drop j)=jX l.length m.length:=by
 unfold jX
 by_cases hl:j < l.length
 ·have hm:m.drop j=[]:=List.drop_eq_nil_of_le (by omega)
  rw [List.drop_eq_getElem_cons hl,hm,cM,if_neg (by omega),if_pos (by omega)]
 ·have hm:l.drop j=[]:=List.drop_eq_nil_of_le (by omega)
  rw [hm]
  by_cases hm:j < m.length
  ·rw [List.drop_eq_getElem_cons hm,cM,if_pos (by omega)]
  ·rw [show m.drop j=[]from List.drop_eq_nil_of_le (by omega),cM,if_neg (by omega),if_neg (by omega)]
theorem nZ (x y:Ax) (h1:bW x.left<=1000000) (h2:bW x.right<=1000000) (h3:x.roles.length<=1000000) (h4:bW y.left<=1000000) (h5:bW y.right<=1000000) (h6:y.roles.length<=1000000):
  Tri Tryz.prog 99 [.d (.agg (axR x)), .d (.agg (axR y))] [] (λr=>r= .d (.int .i64 (aDn x y))):=by
 have w1:=pY x h1 h2 h3
 have w2:=pY y h4 h5 h6
 have o0:=cW (fH x) (fH y)
 have o1:=cW x.kind y.kind
 have o2:=nY x.left y.left h1 h4
 have o3:=nY x.right y.right h2 h5
 have o5:=cW x.roles.length y.roles.length
 have o6:=dU x.role y.role
 have o7:=dU x.a y.a
 have o8:=dU x.b y.b
 rw [bG,bG]at o2 o3
 rw [aIl]
 generalize jX (fH x) (fH y)=n0 at o0 |-
 generalize jX x.kind y.kind=n1 at o1 |-
 generalize tP x.left y.left=n2 at o2 |-
 generalize tP x.right y.right=n3 at o3 |-
 generalize fB x.role y.role=n6 at o6 |-
 generalize fB x.a y.a=n7 at o7 |-
 generalize fB x.b y.b=n8 at o8 |-
 refine aF false [2,3] hty Tryz.func99 rfl (kp [0,1,2,3,4,5,6,13,20,27,48,63,72,79,86]) [] _ _ _ (by simp [Tryz.f99]) (by simp) ?_
 ((conv=>whnf);repeat' ((first|(intro hq;(try simp only [lnS]at hq);(try rewrite [List.length_map]))|refine sJ ?_|refine .intro _ (.intro rfl ?_)|refine exL (k:= ?_)|(refine⟨.d (.int .i64 _),_,[],rfl,trivial,w1, ?_⟩)|(refine⟨.d (.int .i64 _),_,[],rfl,trivial,w2, ?_⟩)|(refine⟨.d (.int .i64 _),_,[],rfl,trivial,o0, ?_⟩)|(refine aD [] o1 trivial (λr hs=> ?_);subst hs)|(refine aD [] o2 trivial (λr hs=> ?_);subst hs)|(refine aD [] o3 trivial (λr hs=> ?_);subst hs)|refine dwR ?_|((first|refine aB ?_ ?_|refine aC ?_ ?_)<;>intro hb<;>(first|exact ddX hb|try simp only [lnS]at hb))|(refine aA ?_ ?_<;>intro hb<;>try exact dsX hb))<;>(conv=>whnf)))
 ·refine aL hty (λq:Nat×Int=>([(2, .ea 16 [axR x] 0 0),(3, .ea 16 [axR y] 0 0),(5, .d (.int .i64 q.2)),(6, .d (.int .i64 q.1))],[])) (λq=>q.1<=x.roles.length/\q.1<=y.roles.length/\(if q.2≠0 then q.2 else cM (x.roles.drop q.1) (y.roles.drop q.1))=(if n3≠0 then n3 else cM x.roles y.roles)) (λq=>x.roles.length - q.1) (0,n3) ⟨by dsimp only;omega,by dsimp only;omega,rfl⟩ ⟨by repeat' (first|exact trivial|exact rfl|exact⟨rfl,rfl⟩|refine And.intro ?_ ?_),trivial⟩ ?_
  rintro⟨j,n⟩ ⟨hj,hjd,hn⟩
  dsimp only at hj hjd hn
  have hgoal:orF [n0,n1,n2,n3,cM x.roles y.roles,n6,n7,n8]=orF [if n3≠0 then n3 else cM x.roles y.roles,n6,n7,n8]:=by
   have e0:n0=0:=by assumption
   have e1:n1=0:=by assumption
   have e2:n2=0:=by assumption
   rw [e0,e1,e2]
   exact aL1 n3 _ _
  rw [hgoal]
  clear hgoal o0 o1 o2 o3 w1 w2
  by_cases hlt:n=0/\j < x.roles.length/\j < y.roles.length
  ·obtain⟨rfl,h1,h2⟩:=hlt
   have hrow:(x.roles.map cE)[(j:Int).toNat]? =some (cE x.roles[j]):=aZ h1
   have hrow2:(y.roles.map cE)[(j:Int).toNat]? =some (cE y.roles[j]):=aZ h2
   have hcall:=dU x.roles[j] y.roles[j]
   rw [if_neg (by simp),List.drop_eq_getElem_cons h1,List.drop_eq_getElem_cons h2,cM]at hn
   generalize x.roles[j]=u at hrow hn hcall
   generalize y.roles[j]=z at hrow2 hn hcall
   ((conv=>whnf);repeat' ((first|(intro hq;(try simp only [lnS]at hq);(try rewrite [List.length_map]))|refine sJ ?_|refine .intro _ (.intro rfl ?_)|refine exL (k:= ?_)|(refine⟨_,hrow, ?_⟩)|(refine⟨_,hrow2, ?_⟩)|(refine⟨.d (.int .i64 _),_,[],rfl,trivial,hcall, ?_⟩)|refine dwR ?_|((first|refine aB ?_ ?_|refine aC ?_ ?_)<;>intro hb<;>(first|exact ddX hb|try simp only [lnS]at hb))|(refine aA ?_ ?_<;>intro hb<;>try exact dsX hb))<;>(conv=>whnf)))
   exact⟨(j+1,fB u z),⟨by dsimp only;omega,by dsimp only;omega,hn⟩,by dsimp only;omega,by repeat' (first|exact trivial|exact rfl|refine And.intro ?_ ?_),trivial⟩
  ·by_cases hn0:n=0
   ·subst hn0
    have hlt2:¬ (j < x.roles.length/\j < y.roles.length):= λh=>hlt ⟨rfl,h⟩
    rw [if_neg (by simp),aFy hj hjd hlt2]at hn
    rw [<-hn]
    generalize jX x.roles.length y.roles.length=n5 at o5
    ((conv=>whnf);repeat' ((first|(intro hq;(try simp only [lnS]at hq);(try rewrite [List.length_map]))|refine sJ ?_|refine .intro _ (.intro rfl ?_)|refine exL (k:= ?_)|(refine aD [] o5 trivial (λr hs=> ?_);subst hs)|(refine aD [] o6 trivial (λr hs=> ?_);subst hs)|(refine aD [] o7 trivial (λr hs=> ?_);subst hs)|(refine aD [] o8 trivial (λr hs=> ?_);subst hs)|refine dwR ?_|((first|refine aB ?_ ?_|refine aC ?_ ?_)<;>intro hb<;>(first|exact ddX hb|try simp only [lnS]at hb))|(refine aA ?_ ?_<;>intro hb<;>try exact dsX hb))<;>(conv=>whnf)))
    all_goals (refine iF ?_;simp [orF, *])
   ·rw [if_pos hn0]at hn
    rw [<-hn]
    ((conv=>whnf);repeat' ((first|(intro hq;(try simp only [lnS]at hq);(try rewrite [List.length_map]))|refine sJ ?_|refine .intro _ (.intro rfl ?_)|refine exL (k:= ?_)|refine dwR ?_|((first|refine aB ?_ ?_|refine aC ?_ ?_)<;>intro hb<;>(first|exact ddX hb|try simp only [lnS]at hb))|(refine aA ?_ ?_<;>intro hb<;>try exact dsX hb))<;>(conv=>whnf)))
    refine iF ?_
    clear hn
    simp [orF, *]
 all_goals
  refine aL hty (λ_:Unit=>([(2, .ea 16 [axR x] 0 0),(3, .ea 16 [axR y] 0 0),(5, .d (.int .i64 _)),(6, .d (.int .i64 0))],[])) (λ_=>True) (λ_=>0) () trivial ⟨by repeat' (first|exact trivial|exact rfl|exact⟨rfl,rfl⟩|refine And.intro ?_ ?_),trivial⟩ ?_
  rintro⟨⟩ _
  ((conv=>whnf);repeat' ((first|(intro hq;(try simp only [lnS]at hq);(try rewrite [List.length_map]))|refine sJ ?_|refine .intro _ (.intro rfl ?_)|refine exL (k:= ?_)|refine dwR ?_|((first|refine aB ?_ ?_|refine aC ?_ ?_)<;>intro hb<;>(first|exact ddX hb|try simp only [lnS]at hb))|(refine aA ?_ ?_<;>intro hb<;>try exact dsX hb))<;>(conv=>whnf)))
  refine iF (Eq.symm ?_)
  simp [orF, *]
end Go.Proofs.YtleihcnongldbaaGreatDoor
