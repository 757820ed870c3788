/-
  Objects: the writer writes octets, numbers, texts and digests.
  Conditions: none.
-/
import Derived.Test.YtbobcfjlbcgchaaGreatDoorWYd
import Derived.Test.YtbobcfjlbcgchaaGreatDoorWYa
import Derived.Test.YtbobcfjlbcgchaaGreatDoorWSna
import Derived.Test.YtbobcfjlbcgchaaGreatDoorWOl
import Derived.Test.YtbobcfjlbcgchaaGreatDoorWAr
set_option linter.unnecessarySimpa false
set_option linter.unusedSectionVars false
set_option linter.unusedSimpArgs false
set_option linter.unusedVariables false
set_option maxHeartbeats 32000000
namespace Go.Proofs.YtbobcfjlbcgchaaGreatDoor
section
attribute [local irreducible] aK aF Tri aH YVC cG aT
open Go.RowKit
set_option maxRecDepth 10000
theorem yC:Tri Tryz.prog 173 [] [] (λr=>r= .d (.agg (uI.map wD))):=by
 refine qG [] hty Tryz.func173 [0] ?_
 ((conv=>whnf);repeat ((first |(intro a;try simp only [lnS]at a)|refine sI ?_|refine qE_ ?_);conv=>whnf))
 rfl
theorem rZ {b:List UInt8}{i k:Nat}(h:4 * i+k < b.length) {z:Int}(hz:z=((4 * i+k:Nat):Int)):(b.map aN)[z.toNat]? =some (aN (b.getD (4 * i+k) 0)):=by
 subst hz
 rw [Int.toNat_natCast,List.getElem?_map,List.getElem?_eq_getElem h,List.getD_eq_getElem?_getD,List.getElem?_eq_getElem h]
 rfl
abbrev aW0 (k w e f g h:UInt32):Int:=IntKind.u32.wrap (IntKind.u32.wrap (IntKind.u32.wrap (IntKind.u32.wrap (wI h+bits .xor .u32 (bits .xor .u32 (wI (mB 6 e)) (wI (mB 11 e))) (wI (mB 25 e)))+bits .xor .u32 (bits .and .u32 (wI e) (wI f)) (bits .and .u32 (bits .xor .u32 (wI e) 4294967295) (wI g)))+wI k)+wI w)
theorem aVz (k w a b c d e f g h:UInt32):aW0 k w e f g h=wI (aVw k w ⟨a,b,c,d,e,f,g,h⟩):=by
 have i:(4294967295:Int)=wI 4294967295:=rfl
 unfold aW0
 rw [i,sC e,aJi,aJi,sC,sC,sC,oB,oB,oB,oB]
 rfl
def bFi (k w a b c d e f g h:UInt32):List SV:=[.d (.int .u32 (IntKind.u32.wrap (aW0 k w e f g h+aW1 a b c))),uW a,uW b,uW c, .d (.int .u32 (IntKind.u32.wrap (wI d+aW0 k w e f g h))),uW e,uW f,uW g]
theorem aZm (k w a b c d e f g h:UInt32):(s8R (rnd k w ⟨a,b,c,d,e,f,g,h⟩)).map SV.d=bFi k w a b c d e f g h:=by
 unfold bFi
 rw [aVz k w a b c d e f g h,aM6 a b c d e f g h,oB,oB]
 rfl
theorem aPr {id:Nat}{pin:Pin}{fr:Fr}{a0 a:Nat}{o0:HObj}{t:TypeId}{cs:List SV}{r:Hp}(h:fE id pin fr ((a0,o0)::(a, .cells t [])::r)) (hc:SV.idsL cs=[]):fE id pin fr ((a0,o0)::(a, .cells t cs)::r):=by
 refine⟨h.1,h.2.1, ?_⟩
 have e:gH ((a0,o0)::(a, .cells t cs)::r)=gH ((a0,o0)::(a, .cells t [])::r):=by
  show (a0::o0.ids)++((a::SV.idsL cs)++gH r)=(a0::o0.ids)++((a::SV.idsL [])++gH r)
  rw [hc];rfl
 rw [e]
 exact h.2.2
theorem aJ2 (s:S8) (b:List UInt8) (hb:b.length=64):Tri Tryz.prog 123 [.d (.agg (s8R s)), .d (.sl 1 (b.map aN))] [] (λr=>r= .d (.agg (s8R (aBo s b)))):=by
 have P:(b.map aN).length=b.length:=List.length_map ..
 obtain⟨v,w,u,A,p,q,o,t⟩:=s
 refine qG [] hty Tryz.func123 [0,1,2,4,5,6,7,8,9,10,11,12,13,14,15,16,17,18,19,22,61,116,208] ?_
 ((conv=>whnf);repeat ((first |(intro a;try simp only [lnS]at a)|refine sI ?_|refine qE_ ?_);conv=>whnf))
 refine aD hty (λi:Nat=>([(1, .d (.sl 1 (b.map aN))),(2, .ptr 2 0),(4, .ptr 4 0),(5, .ptr 5 0),(6, .d (.int .i64 i))],[(5, .cells 183 (cI (kU b i))),(4, .cells 127 ((List.replicate 8 (D.int .u32 0)).map .d)),(2, .cells 127 ((s8R ⟨v,w,u,A,p,q,o,t⟩).map .d))])) (λi=>i<=16) (λi=>16 - i) 0 (by omega) ⟨qB,qB⟩ ?_
 intro i hi
 ((conv=>whnf);repeat ((first |(intro a;try simp only [lnS]at a)|refine sI ?_|refine qE_ ?_);conv=>whnf))
 refine aA (λn=> ?_) (λn=> ?_)
 ·have e:i < 16:=by omega
  have g0:=rZ (b:=b) (i:=i) (k:=0) (by omega) (z:=((4:Int)* (i:Int))) (by omega)
  have g1:=rZ (b:=b) (i:=i) (k:=1) (by omega) (z:=((4:Int)* (i:Int)+1)) (by omega)
  have g2:=rZ (b:=b) (i:=i) (k:=2) (by omega) (z:=((4:Int)* (i:Int)+2)) (by omega)
  have g3:=rZ (b:=b) (i:=i) (k:=3) (by omega) (z:=((4:Int)* (i:Int)+3)) (by omega)
  have R:=tS b i
  have m:= λx=>rG (ws:=kU b i) (by omega) x
  have g:=jN (ws:=kU b i) (by omega)
  have B:=aCk b i
  have f:0+((i:Nat):Int).toNat * 1 < (cI (kU b i)).length:=by rw [g,Int.toNat_natCast];omega
  ((conv=>whnf);repeat ((first |(intro a;try simp only [lnS]at a)|refine sI ?_|refine qE_ ?_);conv=>whnf))
  refine fA hty 35 (by kernel_rfl) (by kernel_rfl) ?_
  ((conv=>whnf);repeat ((first|(refine⟨_,g0, ?_⟩)|(refine⟨_,g1, ?_⟩)|(refine⟨_,g2, ?_⟩)|(refine⟨_,g3, ?_⟩)|(refine And.intro f ?_) |(intro a;try simp only [lnS]at a)|refine sI ?_|refine qE_ ?_);conv=>whnf))
  have c:(cI (kU b i)).set (0+((i:Nat):Int).toNat * 1) (.d (.int .u32 (bDi (b.getD (4 * i+0) 0) (b.getD (4 * i+1) 0) (b.getD (4 * i+2) 0) (b.getD (4 * i+3) 0))))=cI (kU b (i+1)):=by
   have h:=m (be4 (b.getD (4 * i) 0) (b.getD (4 * i+1) 0) (b.getD (4 * i+2) 0) (b.getD (4 * i+3) 0))
   rw [<-B,R]at h
   rw [aSh,show 0+((i:Nat):Int).toNat * 1=i by simp]
   exact h
  refine⟨i+1,qO,qO, ?_⟩
  dsimp only
  rw [<-c]
  exact⟨qB,qB⟩
 have I:i=16:=by omega
 subst I
 clear n hi
 have hW:=tS b 16
 generalize hWd:kU b 16=W at *
 clear hb P
 ((conv=>whnf);repeat ((first |(intro a;try simp only [lnS]at a)|refine sI ?_|refine qE_ ?_);conv=>whnf))
 have Q:=oD
 refine aD hty (λi:Nat=>([(1, .d (.sl 1 (b.map aN))),(2, .ptr 2 0),(4, .ptr 4 0),(5, .ptr 5 0),(7, .d (.int .i64 ((i+16:Nat):Int)))],[(5, .cells 183 (cI (sD i W))),(4, .cells 127 ((List.replicate 8 (D.int .u32 0)).map .d)),(2, .cells 127 ((s8R ⟨v,w,u,A,p,q,o,t⟩).map .d))])) (λi=>i<=48) (λi=>48 - i) 0 (by omega) ⟨qB,qB⟩ ?_
 intro i hi
 have j:=oD i W
 have l:=wH i W
 rw [hW]at j
 generalize hGd:sD i W=G at *
 ((conv=>whnf);repeat ((first |(intro a;try simp only [lnS]at a)|refine sI ?_|refine qE_ ?_);conv=>whnf))
 refine aA (λn=> ?_) (λn=> ?_)
 ·have e:i < 48:=by omega
  have g:=jN (ws:=G) (by omega)
  have m:= λx=>rG (ws:=G) (by omega) x
  have U:(cI G)[0+(((i+16:Nat):Int) - 15).toNat * 1]? =some (uW (G.getD (G.length - 15) 0)):=by
   rw [show 0+(((i+16:Nat):Int) - 15).toNat * 1=G.length - 15 by omega]
   exact fX (by omega)
  have a2:(cI G)[0+(((i+16:Nat):Int) - 2).toNat * 1]? =some (uW (G.getD (G.length - 2) 0)):=by
   rw [show 0+(((i+16:Nat):Int) - 2).toNat * 1=G.length - 2 by omega]
   exact fX (by omega)
  have Y:(cI G)[0+(((i+16:Nat):Int) - 16).toNat * 1]? =some (uW (G.getD (G.length - 16) 0)):=by
   rw [show 0+(((i+16:Nat):Int) - 16).toNat * 1=G.length - 16 by omega]
   exact fX (by omega)
  have a7:(cI G)[0+(((i+16:Nat):Int) - 7).toNat * 1]? =some (uW (G.getD (G.length - 7) 0)):=by
   rw [show 0+(((i+16:Nat):Int) - 7).toNat * 1=G.length - 7 by omega]
   exact fX (by omega)
  have f:0+((i+16:Nat):Int).toNat * 1 < (cI G).length:=by rw [g,Int.toNat_natCast];omega
  have r1:=dT (G.getD (G.length - 15) 0) 7 (by decide) (by decide)
  have F:=dT (G.getD (G.length - 15) 0) 18 (by decide) (by decide)
  have r3:=dT (G.getD (G.length - 2) 0) 17 (by decide) (by decide)
  have r4:=dT (G.getD (G.length - 2) 0) 19 (by decide) (by decide)
  ((conv=>whnf);repeat' ((first|(intro a;(try simp only [lnS]at a);(try rewrite [List.length_map]))|refine sJ ?_|refine qE_ ?_|refine exL (k:=?_)| (refine fA (id:=11) hty 15 (by kernel_rfl) (by kernel_rfl) ?_)|(refine⟨_,U, ?_⟩)|(refine⟨_,a2, ?_⟩)|(refine⟨_,Y, ?_⟩)|(refine⟨_,a7, ?_⟩)|(refine And.intro f ?_)|(refine⟨.d (wD (mB 7 (G.getD (G.length - 15) 0))),_,[],rfl,trivial,r1, ?_⟩)|(refine⟨.d (wD (mB 18 (G.getD (G.length - 15) 0))),_,[],rfl,trivial,F, ?_⟩)|(refine⟨.d (wD (mB 17 (G.getD (G.length - 2) 0))),_,[],rfl,trivial,r3, ?_⟩)|(refine⟨.d (wD (mB 19 (G.getD (G.length - 2) 0))),_,[],rfl,trivial,r4, ?_⟩)|refine qT r1 ?_|refine qT F ?_|refine qT r3 ?_|refine qT r4 ?_|refine dwR ?_|((first|refine aA ?_ ?_|refine aC ?_ ?_)<;>intro hb<;>(first|exact ddX hb|try simp only [lnS]at hb))|(refine aB ?_ ?_<;>intro hb<;>try exact dsX hb))<;>(conv=>whnf)))
  have c:(cI G).set (0+((i+16:Nat):Int).toNat * 1) (.d (.int .u32 (bDh (G.getD (G.length - 16) 0) (G.getD (G.length - 15) 0) (G.getD (G.length - 7) 0) (G.getD (G.length - 2) 0))))=cI (sD (i+1) W):=by
   rw [l,aSg,<-m]
   rw [show 0+((i+16:Nat):Int).toNat * 1=G.length by rw [Int.toNat_natCast];omega]
   rfl
  refine⟨i+1,qO,qO, ?_⟩
  dsimp only
  rw [<-c]
  exact⟨qB,qB⟩
 have hG:G.length=64:=by omega
 have H:i=48:=by omega
 subst H
 clear l Q
 have y:=aCo G
 have g:=jN (ws:=G) (by omega)
 ((conv=>whnf);repeat ((first|(refine And.intro (aI8 (bQ (by with_unfolding_all exact rfl)) y) ?_)|(refine And.intro (aPr (bQ (by with_unfolding_all exact rfl)) y) ?_)|refine qT yC ?_ |(intro a;try simp only [lnS]at a)|refine sI ?_|refine qE_ ?_);conv=>whnf))
 clear hi n j
 refine aD hty (λi:Nat=>([(2, .ptr 2 0),(4, .ptr 4 0),(5, .ptr 5 0),(10, .ptr 10 0),(11, .ptr 11 0),(12, .d (.int .i64 i))],[(10, .cells 183 ((uI.map wD).map .d)),(11, .cells 127 ((s8R (aQd uI G i ⟨v,w,u,A,p,q,o,t⟩)).map .d)),(5, .cells 183 (cI G)),(4, .cells 127 ((List.replicate 8 (D.int .u32 0)).map .d)),(2, .cells 127 ((s8R ⟨v,w,u,A,p,q,o,t⟩).map .d))])) (λi=>i<=64) (λi=>64 - i) 0 (by omega) ⟨qB,qB⟩ ?_
 intro i hi
 have l:aQd uI G (i+1) ⟨v,w,u,A,p,q,o,t⟩=rnd (uI.getD i 0) (G.getD i 0) (aQd uI G i ⟨v,w,u,A,p,q,o,t⟩):=rfl
 generalize hSd:aQd uI G i ⟨v,w,u,A,p,q,o,t⟩=S at *
 obtain⟨C,tb,tc,td,E,tf,tg,th⟩:=S
 ((conv=>whnf);repeat ((first |(intro a;try simp only [lnS]at a)|refine sI ?_|refine qE_ ?_);conv=>whnf))
 refine aA (λn=> ?_) (λn=> ?_)
 ·have e:i < 64:=by omega
  have ai:(cI G)[0+(i:Int).toNat * 1]? =some (uW (G.getD i 0)):=by
   rw [show 0+(i:Int).toNat * 1=i by simp]
   exact fX (by omega)
  have ak:((uI.map wD).map SV.d)[0+(i:Int).toNat * 1]? =some (uW (uI.getD i 0)):=by
   rw [show 0+(i:Int).toNat * 1=i by simp,List.getElem?_map,List.getElem?_map,List.getElem?_eq_getElem (by rw [yO];exact e),List.getD_eq_getElem?_getD,List.getElem?_eq_getElem (by rw [yO];exact e)]
   rfl
  have Z:=dT E 6 (by decide) (by decide)
  have M:=dT E 11 (by decide) (by decide)
  have J:=dT E 25 (by decide) (by decide)
  have F:=dT C 2 (by decide) (by decide)
  have N:=dT C 13 (by decide) (by decide)
  have L:=dT C 22 (by decide) (by decide)
  ((conv=>whnf);repeat' ((first|(intro a;(try simp only [lnS]at a);(try rewrite [List.length_map]))|refine sJ ?_|refine qE_ ?_|refine exL (k:=?_)| (refine fA (id:=22) hty 14 (by kernel_rfl) (by kernel_rfl) ?_)|(refine⟨_,ak, ?_⟩)|(refine⟨_,ai, ?_⟩)|(refine⟨.d (wD (mB 2 C)),_,[],rfl,trivial,F, ?_⟩)|(refine⟨.d (wD (mB 13 C)),_,[],rfl,trivial,N, ?_⟩)|(refine⟨.d (wD (mB 22 C)),_,[],rfl,trivial,L, ?_⟩)|refine qT Z ?_|refine qT M ?_|refine qT J ?_|refine qT F ?_|refine qT N ?_|refine qT L ?_|(refine⟨.d (wD (mB 6 E)),_,[],rfl,trivial,Z, ?_⟩)|(refine⟨.d (wD (mB 11 E)),_,[],rfl,trivial,M, ?_⟩)|(refine⟨.d (wD (mB 25 E)),_,[],rfl,trivial,J, ?_⟩)|refine dwR ?_|((first|refine aA ?_ ?_|refine aC ?_ ?_)<;>intro hb<;>(first|exact ddX hb|try simp only [lnS]at hb))|(refine aB ?_ ?_<;>intro hb<;>try exact dsX hb))<;>(conv=>whnf)))
  refine⟨i+1,qO,qO, ?_⟩
  dsimp only
  rw [l,aZm]
  exact⟨qB,qB⟩
 have K:i=64:=by omega
 subst K
 clear n hi l
 generalize hS:(S8.mk C tb tc td E tf tg th)=S at *
 generalize hT:(S8.mk v w u A p q o t)=T at *
 ((conv=>whnf);repeat ((first |(intro a;try simp only [lnS]at a)|refine sI ?_|refine qE_ ?_);conv=>whnf))
 refine aD hty (λi:Nat=>([(2, .ptr 2 0),(4, .ptr 4 0),(11, .ptr 11 0),(19, .d (.int .i64 i))],[(2, .cells 127 (aJp T S i)),(11, .cells 127 ((s8R S).map .d)),(4, .cells 127 ((List.replicate 8 (D.int .u32 0)).map .d))])) (λi=>i<=8) (λi=>8 - i) 0 (by omega) ⟨qB,qB⟩ ?_
 intro i hi
 ((conv=>whnf);repeat ((first |(intro a;try simp only [lnS]at a)|refine sI ?_|refine qE_ ?_);conv=>whnf))
 refine aA (λn=> ?_) (λn=> ?_)
 ·have e:i < 8:=by omega
  have O:0+(i:Int).toNat * 1=i:=by simp
  have c1:(aJp T S i)[0+(i:Int).toNat * 1]? =some (uW (g8 T i)):=by rw [O];exact aRh T S e
  have c2:((s8R S).map SV.d)[0+(i:Int).toNat * 1]? =some (uW (g8 S i)):=by rw [O];exact aRy S e
  have f:0+(i:Int).toNat * 1 < (aJp T S i).length:=by rw [aLs T S e,O];exact e
  ((conv=>whnf);repeat' ((first|(intro a;(try simp only [lnS]at a);(try rewrite [List.length_map]))|refine sJ ?_|refine qE_ ?_|refine exL (k:=?_)| (refine fA (id:=27) hty 9 (by kernel_rfl) (by kernel_rfl) ?_)|(refine⟨_,c1, ?_⟩)|(refine⟨_,c2, ?_⟩)|(refine And.intro f ?_)|refine dwR ?_|((first|refine aA ?_ ?_|refine aC ?_ ?_)<;>intro hb<;>(first|exact ddX hb|try simp only [lnS]at hb))|(refine aB ?_ ?_<;>intro hb<;>try exact dsX hb))<;>(conv=>whnf)))
  have c:(aJp T S i).set (0+(i:Int).toNat * 1) (.d (.int .u32 (IntKind.u32.wrap (wI (g8 T i)+wI (g8 S i)))))=aJp T S (i+1):=by
   rw [O]
   exact aLr T S e
  refine⟨i+1,qO,qO, ?_⟩
  dsimp only
  rw [<-c]
  exact⟨qB,qB⟩
 have V:i=8:=by omega
 subst V
 rw [aLt]
 ((conv=>whnf);repeat ((first |(intro a;try simp only [lnS]at a)|refine sI ?_|refine qE_ ?_);conv=>whnf))
 show SV.d (D.agg (s8R (T.add S)))=_
 rw [show aBo T b=T.add (aQd uI (sD 48 (kU b 16)) 64 T)from rfl,hWd,hGd,hSd]
end
section
attribute [local irreducible] aK aF Tri aH YVC cG aT vZ
open Go.RowKit
set_option maxRecDepth 10000
theorem aCt (b:List UInt8) (hb:b.length<=1000000000000):Tri Tryz.prog 65 [.d (.sl 1 (b.map aN))] [] (λr=>r= .d (.agg (aN8 (aD1 b)))):=by
 have hp:=aKf b hb
 have e:=aMd b
 have hpl:=aFl b
 have hzl:=aAg b.length
 obtain⟨M,hM⟩: ∃M,M=(aFm b).length / 64:=⟨_,rfl⟩
 have o:bBs b=jD M aVr (aFm b):=by rw [hM];rfl
 rw [<-hM]at e
 have g:aN8 (aD1 b)=(aWg (bBs b)).map λc:UInt8=>D.int .u8 c.toNat:=rfl
 rw [g]
 generalize hP:aFm b=p at *
 have hml:(p.map aN).length=64 * M:=by rw [List.length_map];exact e
 refine qG [] hty Tryz.func65 [0,2,3,4,5,6,7,14,26] ?_
 refine qZ ?_;intros
 refine aD hty (λn:Nat=>([(2, .ptr 2 0),(3, .ptr 3 0),(4, .d (.sl 1 (p.map aN))),(5, .d (.int .i64 ((64 * n:Nat):Int)))],[(3, .cells 127 ((s8R (jD n aVr p)).map .d)),(2, .cells 32 ((List.replicate 32 (D.int .u8 0)).map .d))])) (λn=>n<=M) (λn=>M - n) 0 (by omega) ⟨qB,qB⟩ ?_
 intro n hn
 have h:=qV n aVr p
 generalize hS:jD n aVr p=S at *
 refine qX ?_;intros
 refine aA (λv=> ?_) (λv=> ?_)
 ·have l:n < M:=by omega
  have t:=aJ2 S ((p.drop (64 * n)).take 64) (by rw [List.length_take,List.length_drop];omega)
  have x:((p.drop (64 * n)).take 64).map aN=List.drop ((64 * n:Nat):Int).toNat (List.take (((64 * n:Nat):Int)+64).toNat (p.map aN)):=by
   rw [show (((64 * n:Nat):Int)+64).toNat=64 * n+64 by omega,Int.toNat_natCast,List.drop_take,List.map_take,List.map_drop,show 64 * n+64 - 64 * n=64 by omega]
  rw [x]at t
  have hb1:(0:Int)<=((64 * n:Nat):Int):=by omega
  have hb2:(((64 * n:Nat):Int)+64)<=((p.map aN).length:Int):=by omega
  (repeat' first|(refine qW ?_;intros)|((conv=>whnf);first|(refine fA (id:=6) hty 6 (by kernel_rfl) (by kernel_rfl) ?_)|(refine⟨[],_,trivial,t,λr o=> ?_⟩;subst o)|(refine And.intro (by omega) ?_)|(refine And.intro ⟨by omega,by omega⟩ ?_)|refine dwR ?_|((first|refine aA ?_ ?_|refine aC ?_ ?_)<;>intro hb<;>(first|exact ddX hb|try simp only [lnS]at hb))|(refine aB ?_ ?_<;>intro hb<;>try exact dsX hb)))
  refine⟨n+1,qO,qO, ?_⟩
  dsimp only
  rw [h,show ((64 * (n+1):Nat):Int)=((64 * n:Nat):Int)+64 by omega]
  exact⟨qB,qB⟩
 have l:n=M:=by omega
 subst l
 rw [o,hS]
 clear h o hS hp
 refine qX ?_;intros
 refine aD hty (λm:Nat=>([(2, .ptr 2 0),(3, .ptr 3 0),(6, .ptr 6 0),(7, .d (.int .i64 m))],[(6, .cells 32 (oC S m)),(3, .cells 127 ((s8R S).map .d)),(2, .cells 32 ((List.replicate 32 (D.int .u8 0)).map .d))])) (λm=>m<=32) (λm=>32 - m) 0 (by omega) ⟨qB,qB⟩ ?_
 intro m hmm
 refine qX ?_;intros
 refine aA (λw=> ?_) (λw=> ?_)
 ·have a:m < 32:=by omega
  have u:(m:Int).tdiv 4=((m / 4:Nat):Int):=by rw [Int.tdiv_eq_ediv_of_nonneg (by omega)];omega
  have s:(m:Int).tmod 4=((m % 4:Nat):Int):=by rw [Int.tmod_eq_emod_of_nonneg (by omega)];omega
  have c2:((s8R S).map SV.d)[0+((m:Int).tdiv 4).toNat * 1]? =some (uW (g8 S (m / 4))):=by
   rw [u,show 0+((m / 4:Nat):Int).toNat * 1=m / 4 by rw [Int.toNat_natCast];omega]
   exact aRy S (by omega)
  have h0:(0:Int)<=24 - 8 * (m:Int).tmod 4:=by rw [s];omega
  have hr1:0<=(m:Int).tdiv 4/\(m:Int).tdiv 4 < 8:=by rw [u];omega
  have hr2:0<=(m:Int).tmod 4/\(m:Int).tmod 4 < 4:=by rw [s];omega
  have q:=aYd S (m:=m) (by omega)
  have hoff:0+(m:Int).toNat * 1 < (oC S m).length:=by rw [q];omega
  have i:=aSt S (m / 4) (m % 4) (by omega) (by omega)
  rw [show 4 * (m / 4)+m % 4=m by omega]at i
  have k:=aYc S m _ a i
  have j:=aYr (g8 S (m / 4)) (24 - 8 * (m % 4)) (by omega)
  rw [show ((24 - 8 * (m % 4):Nat):Int)=24 - 8 * (m:Int).tmod 4 by rw [s];omega]at j
  refine qZ ?_;intros
  have f:(oC S m).set (0+(m:Int).toNat * 1) (.d (.int .u8 (IntKind.u8.wrap (aF1 (wI (g8 S (m / 4))) (24 - 8 * (m:Int).tmod 4)))))=oC S (m+1):=by
   rw [j,show 0+(m:Int).toNat * 1=m by simp]
   exact k
  refine⟨m+1,qO,qO, ?_⟩
  dsimp only
  rw [<-f]
  exact⟨qB,qB⟩
 have a:m=32:=by omega
 subst a
 rw [aYe]
 refine qX ?_;intros
 rfl
theorem Tri.oslY {P:Program}{f:FuncId}{id z:Nat}{rows rows':List (List D)}{hp:Hp}{post:SV->Prop}(e:rows=rows') (h:Tri P f [.d (.sl z rows')] hp post):Tri P f [.osl id z rows] hp post:=by
 subst e
 unfold Tri at h |-
 intro w ρ vs a b c
 refine h w ρ vs a ⟨b.1,λj s v g i=> ?_⟩ c
 match j,g with
 | 0,g=>
  injection g with g;subst g
  exact .d _ _ (b.2 0 _ v rfl i).osl_inv.1
theorem aEo (tag b:List UInt8) (ht:tag.length<=1000000000) (hb:b.length<=100000000000):Tri Tryz.prog 30 [.d (.str tag), .d (.sl 1 (b.map aN))] [] (λr=>r= .d (.agg (aN8 (aVf tag b)))):=by
 have h1:=aCt tag (by omega)
 have c:=aCt ((aD1 tag).1++b) (by rw [List.length_append,(aD1 tag).2];omega)
 refine qG [5] hty Tryz.func30 [0,1,4,5] ?_
 refine qZ ?_;intros
 refine aL [] (Tri.oslY ?_ c) trivial (λr a=> ?_)
 ·rfl
 subst a
 refine qX ?_;intros
 rfl
end
section
open Go.RowKit
variable {P:Program}
theorem zW (w:World) (t tx ty e:TypeId) (i:TypeInfo) (z:Value) (dx:TypeDesc) (ht:P.underlying t=some (.slice e)) (htx:P.underlying tx=some dx) (hdx:dx= .string\/ ∃l,dx= .slice l)
  (hi:P.info? e=some i) (hz:i.zero=some z) (hzs:z.cells.size=i.size)
  (A:Addr) (n:Nat) (xs:List Value) (hxl:xs.length=n * i.size) (hxc: ∀j v,xs[j]? =some v->w.cell? (A.add j)=some v)
  (x:Value) (m:Nat) (news:List Value) (hl:news.length=m * i.size) (hlen: ∀u:World,(Builtin.lenOf x).run P u= .ok m u)
  (hfc: ∀u:World,u.heap=w.heap->(Builtin.firstCells i.size m x).run P u= .ok news.toArray u)
  (h63:n+m<=maxLen) (hbytes:(n+m)* i.bytes<=140737488355328) (hm:0 < m):
  ∃v' w',(Builtin.append_ #[t,tx] ty #[.slice (some A) n n,x]).run P w= .ok v' w'/\w'.ownsRow 0 e i.size v' (n+m) (xs++news)/\v'.ownBlock=some w.heap.size/\Grew w w':=by
 have hsmall:n+m<=9223372036854775807:=by simp only [maxLen]at h63;omega
 have a:(xs++news).length=(n+m)* i.size:=by rw [List.length_append,hxl,hl,Nat.add_mul]
 have g:=grownCap_ge w (n+m) n e
 have h:grownCap w (n+m) n e<=maxLen:=grownCap_le_maxLen w (n+m) n e h63
 have k:(w.drew.alloc (.cells (xs.toArray++news.toArray++Builtin.zeroCells z.cells (grownCap w (n+m) n e - (n+m))) e)).ownsRow 0 e i.size
    (.slice (some ⟨w.heap.size,0,none⟩) (n+m) (grownCap w (n+m) n e)) (n+m) (xs++news):=by
  refine⟨a, .inr ⟨w.heap.size,_,_,rfl,Nat.zero_le _,heap_alloc_new w.drew _,g,h, ?_, ?_⟩⟩
  ·simp only [Array.size_append,List.size_toArray,size_zeroCells,hzs,hxl,hl,<-Nat.add_mul]
   congr 1
   omega
  ·simp only [Array.toList_append,List.append_assoc]
   rw [<-List.append_assoc,<-a]
   exact List.take_left
 have b:¬ (n+m<=n):=by omega
 have d:¬ (9223372036854775807 < ((n:Int)+(m:Int))):=by omega
 have c:¬ (281474976710656 < Builtin.nextslicecap (n+m) n * i.bytes):=by
  have:=growslice_fits (need:=n+m) (old:=n) (bytes:=i.bytes) (by omega) hbytes
  omega
 have p:=hfc w.drew rfl
 have f:=run_firstCells_some (P:=P) w.drew i.size n A n n xs hxl (λj u o=>hxc j u o)
 refine⟨.slice (some ⟨w.heap.size,0,none⟩) (n+m) (grownCap w (n+m) n e),_, ?_,k,rfl,(Grew.drew w).trans (Grew.alloc _ _)⟩
 rcases hdx with rfl|⟨l,rfl⟩<;>(simp [Builtin.append_,run_underlying ht,run_underlying htx,sizeOf,typeInfo,zeroValue,hi,hz,hlen,b,d,c,Question.forced,p,f,newRow,grownCap];congr 2;apply Array.ext';simp [List.append_assoc])
theorem zV (w:World) (t tx ty e:TypeId) (i:TypeInfo) (dx:TypeDesc) (ht:P.underlying t=some (.slice e)) (htx:P.underlying tx=some dx) (hdx:dx= .string\/ ∃a,dx= .slice a)
  (hi:P.info? e=some i) (A:Option Addr) (n cap:Nat) (hn:n<=cap)
  (x:Value) (hlen: ∀u:World,(Builtin.lenOf x).run P u= .ok 0 u)
  (hfc: ∀u:World,u.heap=w.heap->(Builtin.firstCells i.size 0 x).run P u= .ok #[] u):
  (Builtin.append_ #[t,tx] ty #[.slice A n cap,x]).run P w= .ok (.slice A n cap) w:=by
 have b:=hfc w rfl
 cases A<;>rcases hdx with rfl|⟨a,rfl⟩<;>simp [Builtin.append_,run_underlying ht,run_underlying htx,sizeOf,typeInfo,hi,hlen,hn,b,storeCells]
theorem aP4 {ti:TypeId->Option TI}(hti:fH P ti) {o:Oper}{t tx e:TypeId}{T:TI}{x y:Operand}(ho:o.op= .call { callee:= .builtin .append,args:= #[x,y],argTypes:= #[t,tx] }) (hT:slT ti t=some (e,T))
  {pin:Pin} {fr:Fr} {hp:Hp} {K:SV->Hp->Prop} {z:Nat} {rows:List (List D)} {r:SV} (hs:evO fr x=some (.d (.sl z rows))) (hy:evO fr y=some r) (hnew:wO ti tx T.size r=some []) (hk:K (.d (.sl z rows)) hp):aT P o pin fr hp K:=by
 intro E ρ a w hpin C l next Q H
 have e1:=aV l hs
 have e2:=aV l hy
 obtain⟨p,d2,q,z2,c⟩:=aCy hti hT
 obtain⟨G,vs,I,F,v,n,B⟩:=rM hti hnew e2
 have i:RepD w ρ.S (.sl z rows) (a.eval x):=by cases e1 with|d _ _ h=>exact h
 obtain⟨A,cap,b,off,s,j,hcm,hA,hview⟩:=i.of_sl
 have g:vs=[]:=List.eq_nil_of_length_eq_zero (by simpa using v.len)
 subst g
 have m:=zV (P:=P) w t tx o.type e q G p I F c.info A rows.length cap j (a.eval y) (by simpa using n) (λu k=>by have:=B u k;rw [c.size];simpa using this)
 rw [<-s]at m
 have f:(execOp a.eval o).run P w= .ok (.value (a.eval x)) w:=gO ho m
 exact bW f (H _ _ _ _ _ hk C l e1)
theorem aP3 {ti:TypeId->Option TI}(hti:fH P ti) {o:Oper}{t tx e:TypeId}{T:TI}{x y:Operand}(ho:o.op= .call { callee:= .builtin .append,args:= #[x,y],argTypes:= #[t,tx] }) (hT:slT ti t=some (e,T))
  {pin:Pin} {fr:Fr} {hp:Hp} {K:SV->Hp->Prop} {i z off n:Nat} {tc:TypeId} {cs:List SV} {rows new:List (List D)} {r:SV} (id:Nat) (hs:evO fr x=some (.msl i z off n)) (hy:evO fr y=some r) (hnew:wO ti tx T.size r=some new)
  (hoo:aP hp i=some (.cells tc cs)) (hver:T.size=z/\n=rows.length) (hrz: ∀f∈rows,f.length=z) (hfit:off+rows.length * z<=cs.length)
  (hcells: ∀(a:Nat) (f:List D) (j:Nat) (x:D),rows[a]? =some f->f[j]? =some x->cs[off+(a * z+j)]? =some (.d x))
  (h0:0 < new.length) (h63:rows.length+new.length<=9223372036854775807) (hby:(rows.length+new.length)* T.bytes<=140737488355328) (hfr:fE id pin fr hp)
  (hk:K (.osl id z (rows++new)) ((id, .own e z (rows.length+new.length))::hp)):aT P o pin fr hp K:=by
 intro E ρ a w m V M next Q hn
 obtain⟨rfl,rfl⟩:=hver
 have e1:=aV M hs
 have e2:=aV M hy
 obtain⟨hu,d2,i2,z2,c⟩:=aCy hti hT
 obtain⟨dx,vs,q1,q2,O,Z,q5⟩:=rM hti hnew e2
 obtain⟨g,p,e3,hmx⟩:=e1.msl_full
 obtain⟨W,B,⟨cur,c1,U,c3,c4⟩,c5⟩:=V.sat i _ hoo
 have J:W=g:=by rw [p]at B;injection B with h;exact h.symm
 subst J
 obtain⟨xs,hxs⟩: ∃xs,xs=(cur.toList.drop off).take (rows.length * T.size):=⟨_,rfl⟩
 have q:xs.length=rows.length * T.size:=by
  have u:cur.toList.length=cs.length:=by rw [Array.length_toList];exact U
  rw [hxs,List.length_take,List.length_drop,u]
  omega
 have k: ∀j,j < rows.length * T.size->xs[j]? =cur[off+j]? :=by
  intro j C
  rw [hxs,List.getElem?_take_of_lt C,List.getElem?_drop,Array.getElem?_toList]
 have A:Flat w ρ.S T.size rows xs:=by
  refine⟨q,hrz,λv l=> ?_, ?_⟩
  ·rw [hxs]at l
   exact c3 v (Array.mem_toList_iff.mp (List.mem_of_mem_drop (List.mem_of_mem_take l)))
  ·intro b f j d N Y
   have I:=zX hrz N Y
   have hc:=hcells b f j d N Y
   have C:b * T.size+j < rows.length * T.size:=I.2.2
   have s:off+(b * T.size+j) < cur.size:=by rw [U];omega
   refine⟨cur[off+(b * T.size+j)],by rw [k _ C];exact Array.getElem?_eq_getElem s, ?_⟩
   have L:=c4 _ _ _ hc (Array.getElem?_eq_getElem s)
   cases L with|d _ _ h=>exact h
 have H:=A.append O
 obtain⟨v',w',R,F,r3,r4⟩:=zW (P:=P) w t tx o.type e i2 z2 dx hu q1 q2 c.info c.zero c.cells ⟨W,off,none⟩ rows.length xs (by rw [c.size];exact q)
  (λj v l => by
   have C:j < xs.length:=(List.getElem?_eq_some_iff.mp l).1
   rw [k j (by omega)]at l
   rw [cW,World.cell?,c1]
   simpa using l)
  (a.eval y) new.length vs (by rw [c.size];exact O.len) Z (by rw [c.size];exact q5) (by simp only [maxLen];omega) (by rw [c.bytes];exact hby) h0
 rw [<-e3]at R
 rw [c.size]at F
 have G:rows.length+new.length=(rows++new).length:=by rw [List.length_append]
 rw [G]at F hk
 obtain⟨m1,m2,m3⟩:=V.newOwn (id:=id) r4 F (λg p=>by rw [r3]at p;injection p with p;omega) H hfr.2.2 (by rw [m];exact hfr.1)
 exact bW (gO ho R) (hn _ _ _ _ _ hk m1 (m2 fr _ hfr.2.1 M) m3)
end
section
attribute [local irreducible] aK aF Tri aH YVC cG aT vZ
open Go.RowKit
set_option maxRecDepth 10000
theorem Tri.slY {P:Program}{f:FuncId}{z:Nat}{rows rows':List (List D)}{hp:Hp}{post:SV->Prop}(e:rows=rows') (h:Tri P f [.d (.sl z rows')] hp post):Tri P f [.d (.sl z rows)] hp post:=by
 rw [e];exact h
theorem aCv {cs ns:List SV}(h:ns.length=cs.length):jV cs 0 ns=ns:=by
 unfold jV
 rw [List.take_zero,List.nil_append,Nat.zero_add,h,List.drop_length,List.append_nil]
theorem aXg (d:Dig):(aN8 d).length=32:=by unfold aN8;rw [List.length_map,d.2]
theorem aU2 (d:Dig) (a:Nat) (row:List D) (j:Nat) (x:D) (b:(d.1.map aN)[a]? =some row) (h2:row[j]? =some x):((aN8 d).map SV.d)[0+(a * 1+j)]? =some (.d x):=by
 rw [List.getElem?_map,Option.map_eq_some_iff]at b
 obtain⟨c,b,rfl⟩:=b
 have e:j=0:=by
  have:=(List.getElem?_eq_some_iff.1 h2).1
  simp [aN]at this
  exact this
 subst e
 have hx:D.int .u8 c.toNat=x:=by simpa [aN]using h2
 subst hx
 rw [Nat.zero_add,Nat.mul_one,Nat.add_zero]
 unfold aN8
 rw [List.getElem?_map,List.getElem?_map,b]
 rfl
theorem aVe (tag:List UInt8) (ht:tag.length<=1000000000):Tri Tryz.prog 15 [.d (.str tag), .d (.sl 1 (([]:List UInt8).map aN))] KG (λr=>r= .d (.agg (aN8 (aVf tag [])))):=by
 have c:=yM tag (by omega)
 have e:=yM ((aD1 tag).1++[]) (by rw [List.length_append,(aD1 tag).2];decide)
 refine qG [5] hty Tryz.func15 [0,1,4,5] ?_
 ((conv=>whnf);repeat ((first|(refine aL KG c ⟨rfl,trivial⟩ (λr b=> ?_);subst b)|(refine aP4 hty rfl rfl rfl rfl rfl ?_) |(intro a;try simp only [lnS]at a)|refine sI ?_|refine qE_ ?_);conv=>whnf))
 refine aL KG (Tri.slY ?_ e) ⟨rfl,trivial⟩ (λr b=> ?_)
 ·rfl
 subst b
 ((conv=>whnf);repeat ((first |(intro a;try simp only [lnS]at a)|refine sI ?_|refine qE_ ?_);conv=>whnf))
 rfl
theorem aVd (tag b:List UInt8) (ht:tag.length<=1000000000) (hb:b.length<=100000000000) (h0:0 < b.length):Tri Tryz.prog 15 [.d (.str tag), .d (.sl 1 (b.map aN))] KG (λr=>r= .d (.agg (aN8 (aVf tag b)))):=by
 have g:=yM tag (by omega)
 have j:=yM ((aD1 tag).1++b) (by rw [List.length_append,(aD1 tag).2];omega)
 have hl:((aD1 tag).1.map aN).length=32:=by rw [List.length_map,(aD1 tag).2]
 have f:(b.map aN).length=b.length:=List.length_map ..
 have a:((aN8 (aD1 tag)).map SV.d).length=32:=by rw [List.length_map,aXg]
 refine qG [] hty Tryz.func15 [0,1,4,5] ?_
 ((conv=>whnf);repeat ((first|(refine aL KG g ⟨rfl,trivial⟩ (λr e=> ?_);subst e) |(intro i;try simp only [lnS]at i)|refine sI ?_|refine qE_ ?_);conv=>whnf))
 refine aP3 hty rfl rfl (rows:=(aD1 tag).1.map aN) (new:=b.map aN) 71 rfl rfl rfl (by exact rfl) ⟨rfl,hl.symm⟩ (λrow h=>by obtain⟨c,_,rfl⟩:=List.mem_map.1 h;rfl) ?_ ?_ (by rw [f];exact h0) (by omega) ?_ (bQ (by with_unfolding_all exact rfl)) ?_
 ·rw [aCv (by rw [a];rfl)]
  show 0+((aD1 tag).1.map aN).length * 1<=((aN8 (aD1 tag)).map SV.d).length
  omega
 ·rw [aCv (by rw [a];rfl)]
  exact aU2 (aD1 tag)
 ·show (((aD1 tag).1.map aN).length+(b.map aN).length)* 1<=_
  omega
 refine qX ?_;intros
 refine aL KG (Tri.oslY ?_ j) ⟨rfl,trivial⟩ (λr e=> ?_)
 ·rw [List.map_append]
 subst e
 refine qX ?_;intros
 rfl
theorem aJo (tag b:List UInt8) (ht:tag.length<=1000000000) (hb:b.length<=100000000000):Tri Tryz.prog 15 [.d (.str tag), .d (.sl 1 (b.map aN))] KG (λr=>r= .d (.agg (aN8 (aVf tag b)))):=by
 cases b with
 |nil=>exact aVe tag ht
 |cons x r=>exact aVd tag (x::r) ht hb (Nat.succ_pos _)
end
section
attribute [local irreducible] aK aF Tri aH YVC cG aT
open Go.RowKit
set_option maxRecDepth 10000
theorem bEm {i j:Nat}{h1 hp:Hp}{x y o u o' u':HObj}(hij:i≠j) (hx:aP hp i=some x) (hy:aP hp j=some y) (ho:aP h1 3=some o) (hu:aP h1 4=some u) (hs:o.sim/\u.sim) (hr:¬ o.Rd/\¬ u.Rd) (hi:(∀k∈o.ids,k∈[3,4])/\ ∀k∈u.ids,k∈[3,4])
  (he:o.ren (λk=>if k=3 then i else j)=o') (he':u.ren (λk=>if k=3 then i else j)=u'):Left (λk=>if k=3 then i else j) [3,4] h1 hp (eY (eY hp i o') j u'):=by
 have a:aP (eY hp i o') j=some y:=by rw [bN o' hx,if_neg (Ne.symm hij)];exact hy
 refine⟨λk b=> ?_,λk z hz=> ?_⟩
 ·have b:k=3\/k=4:=by simpa using b
  rcases b with rfl|rfl
  ·refine⟨o,ho,hs.1,hr.1,hi.1, ?_⟩
   show aP (eY (eY hp i o') j u') i=_
   rw [bN u' a,if_neg hij,bN o' hx,if_pos rfl,he]
  ·refine⟨u,hu,hs.2,hr.2,hi.2, ?_⟩
   show aP (eY (eY hp i o') j u') j=_
   rw [bN u' a,if_pos rfl,he']
 ·rw [bN u' a]at hz
  split at hz
  ·rename_i e;exact .inl ⟨4,by simp,by rw [e];rfl⟩
  ·rw [bN o' hx]at hz
   split at hz
   ·rename_i e;exact .inl ⟨3,by simp,by rw [e];rfl⟩
   ·exact .inr hz
theorem bD7 {i j:Nat}{hp:Hp}{x y o u:HObj}(hij:i≠j) (hx:aP hp i=some x) (hy:aP hp j=some y) (he:o.ren (λk=>if k=3 then i else j)=x) (he':u.ren (λk=>if k=3 then i else j)=y) (hs:o.sim/\u.sim):Among (λk=>if k=3 then i else j) [3,4] [(3,o),(4,u)] hp:=by
 have key: ∀k z,aP [(3,o),(4,u)] k=some z->k=3/\z=o\/k=4/\z=u:=by
  intro k z h
  simp only [aP]at h
  split at h
  ·rename_i e;injection h with h;exact .inl ⟨e.symm,h.symm⟩
  ·split at h
   ·rename_i e;injection h with h;exact .inr ⟨e.symm,h.symm⟩
   ·cases h
 refine⟨λk z h=> ?_,λk z c b h d e=> ?_,λk a=> ?_,λk z h=> ?_⟩
 ·rcases key k z h with⟨rfl,rfl⟩|⟨rfl,rfl⟩
  ·exact⟨by rw [he];exact hx,hs.1⟩
  ·exact⟨by rw [he'];exact hy,hs.2⟩
 ·rcases key k z h with⟨rfl,rfl⟩|⟨rfl,rfl⟩<;>rcases key c b d with⟨rfl,rfl⟩|⟨rfl,rfl⟩
  ·rfl
  ·exact absurd e hij
  ·exact absurd e (Ne.symm hij)
  ·rfl
 ·have a:k=3\/k=4:=by simpa using a
  rcases a with rfl|rfl
  ·exact⟨o,by simp [aP]⟩
  ·exact⟨u,by simp [aP]⟩
 ·rcases key k z h with⟨rfl,rfl⟩|⟨rfl,rfl⟩
  ·exact .inl (by simp)
  ·exact .inl (by simp)
abbrev wrC (j:Nat) (p:List UInt8):HObj:= .cells 67 [.osl j 1 (p.map aN)]
abbrev wrB (p:List UInt8):HObj:= .own 5 1 (p.map aN).length
abbrev bFt:Pin:=⟨[3,4],λ_ _=>False,[]⟩
def WrT (f:FuncId) (ex:List SV) (out:List UInt8):Prop:= ∀p:List UInt8,p.length+out.length<=100000000000000->
 aF Tryz.prog bFt [] [(3,wrC 4 p),(4,wrB p)] f (.ptr 3 0::ex) (λs h=>s= .tup []/\aP h 3=some (wrC 4 (p++out))/\aP h 4=some (wrB (p++out)))
theorem WrT.call {f:FuncId}{ex:List SV}{out:List UInt8}(h:WrT f ex out) (hx:SV.idsL ex=[]) {pin:Pin}{fr:Fr}{hp:Hp}{i j:Nat}{K:SV->Hp->Prop}(p:List UInt8) (hb:p.length+out.length<=100000000000000) (hij:i≠j) (hg:aP hp i=some (wrC j p)) (hg':aP hp j=some (wrB p))
  (hok:iY hp i (wrC j (p++out)) λh=>iY h j (wrB (p++out)) (K (.tup []))):aF Tryz.prog pin fr hp f (.ptr i 0::ex) K:=by
 have a: ∀(p:List UInt8),(wrC 4 p).sim:= λp s a=>by simp at a;subst a;trivial
 have hi: ∀(p:List UInt8),∀k∈(wrC 4 p).ids,k∈[3,4]:= λp k b=>by simp [HObj.ids,SV.idsL,SV.ids]at b;simp [b]
 refine tQ (λk=>if k=3 then i else j) [3,4] [(3,wrC 4 p),(4,wrB p)] (h p hb) (bD7 hij hg hg' rfl rfl ⟨a p,trivial⟩) (λk b=>b) (by rw [List.map_cons,aF9 hx];rfl) ?_ ?_ ?_
 ·intro s a
  rcases List.mem_cons.1 a with rfl|a
  ·trivial
  ·exact aF0 hx s a
 ·rintro s d ⟨rfl,e2,e⟩
  have c: ∀k∈SV.ids (SV.tup []),k∈[3,4]:=by
   intro k b
   cases b
  refine⟨rfl,c,_,bEm hij hg hg' e2 e ⟨a _,trivial⟩ ⟨λh=>h,λh=>h⟩ ⟨hi _,λk b=>by cases b⟩ rfl rfl, ?_⟩
  rw [eJ,eJ]at hok
  exact hok
 ·exact λd g=>g.elim
theorem oX (n:Nat):(((UInt8.ofNat (n % 256)).toNat:Nat):Int)=((n % 256:Nat):Int):=by simp
theorem aXs (z:Int):IntKind.u8.wrap z=(((UInt8.ofNat (uN z % 256)).toNat:Nat):Int):=by
 rw [oX]
 have a: ∀k:Int,IntKind.u8.wrap k=k % 256:= λk=>rfl
 rw [a]
 unfold uN
 omega
theorem aCq {n:Nat}(h:n<=100000000000000):uN (n:Int)=n:=by unfold uN;omega
theorem dM (p q:List UInt8):(p++q).map aN=p.map aN++q.map aN:=List.map_append ..
theorem nH (p q:List UInt8):((p++q).map aN).length=(p.map aN).length+(q.map aN).length:=by rw [dM,List.length_append]
theorem dF (p:List UInt8):(p.map aN).length=p.length:=List.length_map ..
theorem zI (j:Nat) (p q:List UInt8):wrC j (p++q)= .cells 67 [.osl j 1 (p.map aN++q.map aN)]:=by rw [<-dM]
theorem zJ (p q:List UInt8):wrB (p++q)= .own 5 1 ((p.map aN).length+(q.map aN).length):=by rw [<-nH]
theorem tT (z:Int):WrT 45 [.d (.int .i64 z)] (jE z):=by
 intro p hp
 have hl:(jE z).length=1:=aW ..
 have a:=dF p
 have hb63:(p.map aN).length+1<=9223372036854775807:=by rw [a];omega
 have hb48:((p.map aN).length+1)* 1<=140737488355328:=by rw [a];omega
 refine aG false [] hty Tryz.func45 rfl (kp [0,1]) 100 (by simp [Tryz.f45]) ?_
 refine qZ ?_;intros
 rw [aXs]
 rw [zI,zJ]
 exact⟨rfl,rfl⟩
theorem bAp (n j:Nat) (h:j < 8):(beN 8 n).take (j+1)=(beN 8 n).take j++[UInt8.ofNat (n / 2 ^ (56 - 8 * j) % 256)]:=by
 have e:j=0\/j=1\/j=2\/j=3\/j=4\/j=5\/j=6\/j=7:=by omega
 rw [bFn]
 rcases e with rfl|rfl|rfl|rfl|rfl|rfl|rfl|rfl<;>rfl
theorem bAq (n j:Nat) (h:j < 4):(beN 4 n).take (j+1)=(beN 4 n).take j++[UInt8.ofNat (n / 2 ^ (24 - 8 * j) % 256)]:=by
 have e:j=0\/j=1\/j=2\/j=3:=by omega
 rw [bG0]
 rcases e with rfl|rfl|rfl|rfl<;>rfl
theorem bD0 (z:Int) (s:Nat) (hs:s<=64):IntKind.u8.wrap ((IntKind.u64.wrap z).fdiv (2 ^ (min (s:Int).toNat IntKind.u64.bits)))=(((UInt8.ofNat (uN z / 2 ^ s % 256)).toNat:Nat):Int):=by
 rw [aUg z s hs,oX]
theorem rF (z:Int):WrT 44 [.d (.int .i64 z)] (beN 4 (uN z)):=by
 intro p hp
 have hl:(beN 4 (uN z)).length=4:=aW ..
 refine aG false [] hty Tryz.func44 rfl (kp [0,1,4,6]) 100 (by simp [Tryz.f44]) ?_
 refine qX ?_;intros
 refine aD hty (λj:Nat=>([(0, .ptr 3 0),(1, .d (.int .i64 z)),(4, .d (.int .i64 (24 - 8 * (j:Int))))],[(3,wrC 4 (p++(beN 4 (uN z)).take j)),(4,wrB (p++(beN 4 (uN z)).take j))])) (λj=>j<=4) (λj=>4 - j) 0 (by omega) ⟨qB,by rw [List.take_zero,List.append_nil];exact⟨rfl,rfl,trivial⟩⟩ ?_
 intro j hj
 have b:=dF (p++(beN 4 (uN z)).take j)
 rw [List.length_append,List.length_take]at b
 have hb63:((p++(beN 4 (uN z)).take j).map aN).length+1<=9223372036854775807:=by rw [b];omega
 have hb48:(((p++(beN 4 (uN z)).take j).map aN).length+1)* 1<=140737488355328:=by rw [b];omega
 refine qX ?_;intros
 refine aA (λg=> ?_) (λg=> ?_)
 ·have a:j < 4:=by omega
  have f:(24 - 8 * (j:Int))=((24 - 8 * j:Nat):Int):=by omega
  have e:=bD0 z (24 - 8 * j) (by omega)
  have c:=bAq (uN z) j a
  dsimp only
  rw [f]
  refine qX ?_;intros
  refine yR hty [0,1,2,3,4,5,6,7,8,9,10,11,12,13,14] (by kernel_rfl) (by kernel_rfl) ?_
  refine qZ ?_;intros
  rw [e,show ((24 - 8 * j:Nat):Int) - 8=24 - 8 * ((j+1:Nat):Int)by omega]
  refine⟨j+1,qO,qO, ?_⟩
  dsimp only
  rw [c,<-List.append_assoc,zI,zJ]
  exact⟨qB,qB⟩
 ·have a:j=4:=by omega
  subst a
  rw [List.take_of_length_le (by rw [hl];exact Nat.le_refl _)]
  refine qX ?_;intros
  exact rfl
theorem oA (z:Int):WrT 83 [.d (.int .i64 z)] (beN 8 (uN z)):=by
 intro p hp
 have hl:(beN 8 (uN z)).length=8:=aW ..
 refine aG false [] hty Tryz.func83 rfl (kp [0,1,4,6]) 100 (by simp [Tryz.f83]) ?_
 refine qX ?_;intros
 refine aD hty (λj:Nat=>([(0, .ptr 3 0),(1, .d (.int .i64 z)),(4, .d (.int .i64 (56 - 8 * (j:Int))))],[(3,wrC 4 (p++(beN 8 (uN z)).take j)),(4,wrB (p++(beN 8 (uN z)).take j))])) (λj=>j<=8) (λj=>8 - j) 0 (by omega) ⟨qB,by rw [List.take_zero,List.append_nil];exact⟨rfl,rfl,trivial⟩⟩ ?_
 intro j hj
 have b:=dF (p++(beN 8 (uN z)).take j)
 rw [List.length_append,List.length_take]at b
 have hb63:((p++(beN 8 (uN z)).take j).map aN).length+1<=9223372036854775807:=by rw [b];omega
 have hb48:(((p++(beN 8 (uN z)).take j).map aN).length+1)* 1<=140737488355328:=by rw [b];omega
 refine qX ?_;intros
 refine aA (λg=> ?_) (λg=> ?_)
 ·have a:j < 8:=by omega
  have f:(56 - 8 * (j:Int))=((56 - 8 * j:Nat):Int):=by omega
  have e:=bD0 z (56 - 8 * j) (by omega)
  have c:=bAp (uN z) j a
  dsimp only
  rw [f]
  refine qX ?_;intros
  refine yR hty [0,1,2,3,4,5,6,7,8,9,10,11,12,13,14] (by kernel_rfl) (by kernel_rfl) ?_
  refine qZ ?_;intros
  rw [e,show ((56 - 8 * j:Nat):Int) - 8=56 - 8 * ((j+1:Nat):Int)by omega]
  refine⟨j+1,qO,qO, ?_⟩
  dsimp only
  rw [c,<-List.append_assoc,zI,zJ]
  exact⟨qB,qB⟩
 ·have a:j=8:=by omega
  subst a
  rw [List.take_of_length_le (by rw [hl];exact Nat.le_refl _)]
  refine qX ?_;intros
  exact rfl
theorem lK (s:List UInt8):WrT 48 [.d (.str s)] (bZ s):=by
 intro p hp
 have hl:(bZ s).length=4+s.length:=by unfold bZ;rw [List.length_append,aW]
 have hlc:(beN 4 (uN (s.length:Int))).length=4:=aW ..
 have b:uN (s.length:Int)=s.length:=aCq (by omega)
 refine aG false [] hty Tryz.func48 rfl (kp [0,1]) 100 (by simp [Tryz.f48]) ?_
 refine qX ?_;intros
 refine WrT.call (rF s.length) rfl p (by omega) (by decide) rfl rfl ?_
 rw [b]
 have a:=dF (p++beN 4 s.length)
 rw [List.length_append,aW]at a
 have hb63:((p++beN 4 s.length).map aN).length+(s.map aN).length<=9223372036854775807:=by rw [a,dF];omega
 have hb48:(((p++beN 4 s.length).map aN).length+(s.map aN).length)* 1<=140737488355328:=by rw [a,dF];omega
 refine qZ ?_;intros
 unfold bZ
 rw [<-List.append_assoc,zI,zJ]
 exact⟨rfl,rfl⟩
theorem tU (d:Dig):WrT 84 [.d (.agg (aBe d))] (wJ d):=by
 intro p hp
 obtain⟨l,hl⟩:=d
 have hlw:(wJ ⟨l,hl⟩).length=32:=hl
 obtain⟨y0,y1,y2,y3,y4,y5,y6,y7,y8,y9,y10,y11,y12,y13,y14,y15,y16,y17,y18,y19,y20,y21,y22,y23,y24,y25,y26,y27,y28,y29,y30,y31,rfl⟩:=aFv hl
 have a:=dF p
 have hb63:(p.map aN).length+32<=9223372036854775807:=by rw [a];omega
 have hb48:((p.map aN).length+32)* 1<=140737488355328:=by rw [a];omega
 refine aG false [3] hty Tryz.func84 rfl (kp [0,1,3]) 100 (by simp [Tryz.f84]) ?_
 refine qX ?_;intros
 refine yR hty [0,1,2,3,4,5,6,7,8,9] (by kernel_rfl) (by kernel_rfl) ?_
 refine qZ ?_;intros
 unfold wJ
 rw [zI,zJ]
 exact⟨rfl,rfl⟩
end
end Go.Proofs.YtbobcfjlbcgchaaGreatDoor
