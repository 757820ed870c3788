/-
  The hash of the reference: turning a word.
  Conditions: none.
-/
import Derived.Test.YtbobcfjlbcgchaaGreatDoorWYa
import Derived.Test.YtbobcfjlbcgchaaGreatDoorWOl
import Derived.Test.YtbobcfjlbcgchaaGreatDoorWSnc
import Derived.Test.YtbobcfjlbcgchaaGreatDoorWSs
set_option linter.unnecessarySimpa false
set_option linter.unusedSectionVars false
set_option linter.unusedSimpArgs false
set_option linter.unusedVariables false
set_option maxHeartbeats 32000000
namespace Go.Proofs.YtbobcfjlbcgchaaGreatDoor
section
attribute [local irreducible] aK aF Tri aH YVC cG aT
open Go.RowKit
set_option maxRecDepth 10000
def s8R (s:S8):List D:=[wD s.a,wD s.b,wD s.c,wD s.d,wD s.e,wD s.f,wD s.g,wD s.h]
def aTi (x:UInt32):List D:=[wD x]
def KG:Hp:=[(92, .glob 1 1 (uI.map aTi))]
def uW (x:UInt32):SV:= .d (wD x)
def cI (ws:List UInt32):List SV:=ws.map uW++List.replicate (64 - ws.length) (.d (.int .u32 0))
theorem jN {ws:List UInt32}(h:ws.length<=64):(cI ws).length=64:=by unfold cI;rw [List.length_append,List.length_map,List.length_replicate];omega
theorem fX {ws:List UInt32}{i:Nat}(h:i < ws.length):(cI ws)[i]? =some (uW (ws.getD i 0)):=by
 unfold cI
 rw [List.getElem?_append_left (by rw [List.length_map];exact h),List.getElem?_map,List.getElem?_eq_getElem h,List.getD_eq_getElem?_getD,List.getElem?_eq_getElem h]
 rfl
theorem rG {ws:List UInt32}(h:ws.length < 64) (x:UInt32):(cI ws).set ws.length (uW x)=cI (ws++[x]):=by
 unfold cI
 have e:64 - ws.length=(64 - (ws++[x]).length)+1:=by rw [List.length_append,List.length_singleton];omega
 rw [e,List.replicate_succ,List.set_append_right _ _ (by rw [List.length_map];omega),List.length_map,Nat.sub_self,List.map_append,List.append_assoc]
 rfl
theorem zF {b:List UInt8}{i k:Nat}(hb:b.length=64) (hi:i < 16) (hk:k < 4):(List.drop ((4:Int)* (i:Int)).toNat (List.take ((4:Int)* (i:Int)+4).toNat (b.map aN)))[k]? =some (aN (b.getD (4 * i+k) 0)):=by
 rw [show ((4:Int)* (i:Int)).toNat=4 * i by omega,show ((4:Int)* (i:Int)+4).toNat=4 * i+4 by omega,List.getElem?_drop,List.getElem?_take,if_pos (by omega),List.getElem?_map,List.getElem?_eq_getElem (by omega),List.getD_eq_getElem?_getD,List.getElem?_eq_getElem (by omega)]
 rfl
abbrev aF2 (z:Int) (n:Int):Int:=IntKind.u32.wrap (z * 2 ^ min n.toNat IntKind.u32.bits)
abbrev aF1 (z:Int) (n:Int):Int:=z.fdiv (2 ^ min n.toNat IntKind.u32.bits)
theorem bDf (x:UInt32) (n:Nat) (h:n < 32):aF2 (wI x) (n:Int)=wI (x <<< UInt32.ofNat n):=by
 have e:min ((n:Nat):Int).toNat IntKind.u32.bits=n:=by
  rw [Int.toNat_natCast]
  show min n 32=_
  omega
 unfold aF2
 rw [e,bBh _ _ h]
theorem bDe (x:UInt32) (n:Nat) (h:n < 32):aF1 (wI x) (n:Int)=wI (x >>>UInt32.ofNat n):=by
 have e:min ((n:Nat):Int).toNat IntKind.u32.bits=n:=by
  rw [Int.toNat_natCast]
  show min n 32=_
  omega
 unfold aF1
 rw [e,bBg _ _ h]
abbrev bDi (a b c d:UInt8):Int:=bits .or .u32 (bits .or .u32 (bits .or .u32 (aF2 (IntKind.u32.wrap (a.toNat:Int)) 24) (aF2 (IntKind.u32.wrap (b.toNat:Int)) 16)) (aF2 (IntKind.u32.wrap (c.toNat:Int)) 8)) (IntKind.u32.wrap (d.toNat:Int))
theorem aSh (a b c d:UInt8):bDi a b c d=wI (be4 a b c d):=by
 have f: ∀x,aF2 (wI x) 24=wI (x <<< 24):= λx=>bDf x 24 (by decide)
 have e: ∀x,aF2 (wI x) 16=wI (x <<< 16):= λx=>bDf x 16 (by decide)
 have g: ∀x,aF2 (wI x) 8=wI (x <<< 8):= λx=>bDf x 8 (by decide)
 unfold bDi
 rw [aCn,aCn,aCn,aCn,f,e,g,bBi,bBi,bBi]
 rfl
abbrev aZk (p q x:UInt32) (n:Int):Int:=bits .xor .u32 (bits .xor .u32 (wI p) (wI q)) (aF1 (wI x) n)
abbrev bDh (w16 x1 w7 x2:UInt32):Int:=IntKind.u32.wrap (IntKind.u32.wrap (IntKind.u32.wrap (wI w16+aZk (mB 7 x1) (mB 18 x1) x1 3)+wI w7)+aZk (mB 17 x2) (mB 19 x2) x2 10)
theorem aSg (w16 x1 w7 x2:UInt32):bDh w16 x1 w7 x2=wI (w16+sg0 x1+w7+sg1 x2):=by
 have b: ∀x,aF1 (wI x) 3=wI (x >>>3):= λx=>bDe x 3 (by decide)
 have a: ∀x,aF1 (wI x) 10=wI (x >>>10):= λx=>bDe x 10 (by decide)
 unfold bDh aZk
 rw [b,a,sC,sC,sC,sC,oB,oB,oB]
 rfl
theorem aI8 {id:Nat}{pin:Pin}{fr:Fr}{a:Nat}{t:TypeId}{cs:List SV}{r:Hp}(h:fE id pin fr ((a, .cells t [])::r)) (hc:SV.idsL cs=[]):fE id pin fr ((a, .cells t cs)::r):=by
 refine⟨h.1,h.2.1, ?_⟩
 have e:gH ((a, .cells t cs)::r)=gH ((a, .cells t [])::r):=by
  show (a::SV.idsL cs)++_=(a::SV.idsL [])++_
  rw [hc];rfl
 rw [e]
 exact h.2.2
theorem aCo (ws:List UInt32):SV.idsL (cI ws)=[]:=by
 have h: ∀l:List D,SV.idsL (l.map SV.d)=[]:= λl=>by
  induction l with
  |nil=>rfl
  |cons x r ih=>exact ih
 unfold cI
 have e:ws.map uW++List.replicate (64 - ws.length) (SV.d (.int .u32 0))=(ws.map wD++List.replicate (64 - ws.length) (D.int .u32 0)).map SV.d:=by
  rw [List.map_append,List.map_map,List.map_replicate];rfl
 rw [e,h]
abbrev aW3 (k w a b c d e f g h:UInt32):Int:=IntKind.u32.wrap (IntKind.u32.wrap (IntKind.u32.wrap (IntKind.u32.wrap (wI h+bits .xor .u32 (bits .xor .u32 (wI (mB 6 e)) (wI (mB 11 e))) (wI (mB 25 e)))+bits .xor .u32 (bits .and .u32 (wI e) (wI f)) (bits .and .u32 (bits .xor .u32 (if IntKind.u32.signed then -1 else IntKind.u32.max) (wI e)) (wI g)))+wI k)+wI w)
abbrev aW1 (a b c:UInt32):Int:=IntKind.u32.wrap (bits .xor .u32 (bits .xor .u32 (wI (mB 2 a)) (wI (mB 13 a))) (wI (mB 22 a))+bits .xor .u32 (bits .xor .u32 (bits .and .u32 (wI a) (wI b)) (bits .and .u32 (wI a) (wI c))) (bits .and .u32 (wI b) (wI c)))
theorem aW2 (k w a b c d e f g h:UInt32):aW3 k w a b c d e f g h=wI (aVw k w ⟨a,b,c,d,e,f,g,h⟩):=by
 unfold aW3
 rw [bDv,aJi,aJi,sC,sC,sC,oB,oB,oB,oB]
 rfl
theorem aM6 (a b c d e f g h:UInt32):aW1 a b c=wI (bBw ⟨a,b,c,d,e,f,g,h⟩):=by
 unfold aW1
 rw [aJi,aJi,aJi,sC,sC,sC,sC,oB]
 rfl
def bFh (k w a b c d e f g h:UInt32):List SV:=[.d (.int .u32 (IntKind.u32.wrap (aW3 k w a b c d e f g h+aW1 a b c))),uW a,uW b,uW c, .d (.int .u32 (IntKind.u32.wrap (wI d+aW3 k w a b c d e f g h))),uW e,uW f,uW g]
theorem aZl (k w a b c d e f g h:UInt32):(s8R (rnd k w ⟨a,b,c,d,e,f,g,h⟩)).map SV.d=bFh k w a b c d e f g h:=by
 unfold bFh
 rw [aW2,aM6 a b c d e f g h,oB,oB]
 rfl
def g8 (s:S8) (i:Nat):UInt32:=[s.a,s.b,s.c,s.d,s.e,s.f,s.g,s.h].getD i 0
def aJp (s t:S8) (i:Nat):List SV:=(((s8R (s.add t)).take i)++(s8R s).drop i).map SV.d
theorem lt8 {i:Nat}(h:i < 8):i=0\/i=1\/i=2\/i=3\/i=4\/i=5\/i=6\/i=7:=by omega
theorem aRh (s t:S8) {i:Nat}(h:i < 8):(aJp s t i)[i]? =some (uW (g8 s i)):=by
 rcases lt8 h with rfl|rfl|rfl|rfl|rfl|rfl|rfl|rfl<;>rfl
theorem aRy (s:S8) {i:Nat}(h:i < 8):((s8R s).map SV.d)[i]? =some (uW (g8 s i)):=by
 rcases lt8 h with rfl|rfl|rfl|rfl|rfl|rfl|rfl|rfl<;>rfl
theorem aLr (s t:S8) {i:Nat}(h:i < 8):(aJp s t i).set i (.d (.int .u32 (IntKind.u32.wrap (wI (g8 s i)+wI (g8 t i)))))=aJp s t (i+1):=by
 rw [oB]
 rcases lt8 h with rfl|rfl|rfl|rfl|rfl|rfl|rfl|rfl<;>rfl
theorem aLs (s t:S8) {i:Nat}(h:i < 8):(aJp s t i).length=8:=by
 rcases lt8 h with rfl|rfl|rfl|rfl|rfl|rfl|rfl|rfl<;>rfl
theorem aLt (s t:S8):aJp s t 8=(s8R (s.add t)).map SV.d:=rfl
theorem aWy (s:S8) (b:List UInt8) (hb:b.length=64):Tri Tryz.prog 75 [.d (.agg (s8R s)), .d (.sl 1 (b.map aN))] KG (λr=>r= .d (.agg (s8R (aBo s b)))):=by
 have N:(b.map aN).length=b.length:=List.length_map ..
 obtain⟨v,w,u,y,p,q,o,t⟩:=s
 refine qG [] hty Tryz.func75 [0,1,2,4,5,6,7,8,9,10,11,12,13,14,15,16,17,18,19,20,21,22,23,24,25,60,103,104,181,182] ?_
 ((conv=>whnf);repeat ((first |(intro c;try simp only [lnS]at c)|refine sI ?_|refine qE_ ?_);conv=>whnf))
 refine aD hty (λi:Nat=>([(1, .d (.sl 1 (b.map aN))),(2, .ptr 2 0),(4, .ptr 4 0),(5, .ptr 5 0),(24, .d (.int .i64 i))],[(5, .cells 183 (cI (kU b i))),(4, .cells 127 ((List.replicate 8 (D.int .u32 0)).map .d)),(2, .cells 127 ((s8R ⟨v,w,u,y,p,q,o,t⟩).map .d)),(92, .glob 1 1 (uI.map aTi))])) (λi=>i<=16) (λi=>16 - i) 0 (by omega) ⟨qB,qB⟩ ?_
 intro i hi
 ((conv=>whnf);repeat ((first |(intro c;try simp only [lnS]at c)|refine sI ?_|refine qE_ ?_);conv=>whnf))
 refine aA (λn=> ?_) (λn=> ?_)
 ·have a:i < 16:=by omega
  have g0:=zF (k:=0) hb a (by decide)
  have g1:=zF (k:=1) hb a (by decide)
  have g2:=zF (k:=2) hb a (by decide)
  have g3:=zF (k:=3) hb a (by decide)
  have P:=tS b i
  have m:= λx=>rG (ws:=kU b i) (by omega) x
  have g:=jN (ws:=kU b i) (by omega)
  have z:=aCk b i
  have f:0+((i:Nat):Int).toNat * 1 < (cI (kU b i)).length:=by rw [g,Int.toNat_natCast];omega
  ((conv=>whnf);repeat ((first |(intro c;try simp only [lnS]at c)|refine sI ?_|refine qE_ ?_);conv=>whnf))
  refine fA hty 24 (by kernel_rfl) (by kernel_rfl) ?_
  ((conv=>whnf);repeat ((first|(refine⟨_,g0, ?_⟩)|(refine⟨_,g1, ?_⟩)|(refine⟨_,g2, ?_⟩)|(refine⟨_,g3, ?_⟩)|(refine And.intro f ?_) |(intro c;try simp only [lnS]at c)|refine sI ?_|refine qE_ ?_);conv=>whnf))
  have e:(cI (kU b i)).set (0+((i:Nat):Int).toNat * 1) (.d (.int .u32 (bDi (b.getD (4 * i+0) 0) (b.getD (4 * i+1) 0) (b.getD (4 * i+2) 0) (b.getD (4 * i+3) 0))))=cI (kU b (i+1)):=by
   have h:=m (be4 (b.getD (4 * i) 0) (b.getD (4 * i+1) 0) (b.getD (4 * i+2) 0) (b.getD (4 * i+3) 0))
   rw [<-z,P]at h
   rw [aSh,show 0+((i:Nat):Int).toNat * 1=i by simp]
   exact h
  refine⟨i+1,qO,qO, ?_⟩
  dsimp only
  rw [<-e]
  exact⟨qB,qB⟩
 have E:i=16:=by omega
 subst E
 clear n hi
 have hW:=tS b 16
 generalize hWd:kU b 16=W at *
 clear hb N
 ((conv=>whnf);repeat ((first |(intro c;try simp only [lnS]at c)|refine sI ?_|refine qE_ ?_);conv=>whnf))
 have O:=oD
 refine aD hty (λi:Nat=>([(1, .d (.sl 1 (b.map aN))),(2, .ptr 2 0),(4, .ptr 4 0),(5, .ptr 5 0),(8, .d (.int .i64 ((i+16:Nat):Int)))],[(5, .cells 183 (cI (sD i W))),(4, .cells 127 ((List.replicate 8 (D.int .u32 0)).map .d)),(2, .cells 127 ((s8R ⟨v,w,u,y,p,q,o,t⟩).map .d)),(92, .glob 1 1 (uI.map aTi))])) (λi=>i<=48) (λi=>48 - i) 0 (by omega) ⟨qB,qB⟩ ?_
 intro i hi
 have j:=oD i W
 have l:=wH i W
 rw [hW]at j
 generalize hGd:sD i W=G at *
 ((conv=>whnf);repeat ((first |(intro c;try simp only [lnS]at c)|refine sI ?_|refine qE_ ?_);conv=>whnf))
 refine aA (λn=> ?_) (λn=> ?_)
 ·have a:i < 48:=by omega
  have g:=jN (ws:=G) (by omega)
  have m:= λx=>rG (ws:=G) (by omega) x
  have Q:(cI G)[0+(((i+16:Nat):Int) - 15).toNat * 1]? =some (uW (G.getD (G.length - 15) 0)):=by
   rw [show 0+(((i+16:Nat):Int) - 15).toNat * 1=G.length - 15 by omega]
   exact fX (by omega)
  have a2:(cI G)[0+(((i+16:Nat):Int) - 2).toNat * 1]? =some (uW (G.getD (G.length - 2) 0)):=by
   rw [show 0+(((i+16:Nat):Int) - 2).toNat * 1=G.length - 2 by omega]
   exact fX (by omega)
  have Y:(cI G)[0+(((i+16:Nat):Int) - 16).toNat * 1]? =some (uW (G.getD (G.length - 16) 0)):=by
   rw [show 0+(((i+16:Nat):Int) - 16).toNat * 1=G.length - 16 by omega]
   exact fX (by omega)
  have a7:(cI G)[0+(((i+16:Nat):Int) - 7).toNat * 1]? =some (uW (G.getD (G.length - 7) 0)):=by
   rw [show 0+(((i+16:Nat):Int) - 7).toNat * 1=G.length - 7 by omega]
   exact fX (by omega)
  have f:0+((i+16:Nat):Int).toNat * 1 < (cI G).length:=by rw [g,Int.toNat_natCast];omega
  have r1:=fZ (G.getD (G.length - 15) 0) 7 (by decide) (by decide)
  have M:=fZ (G.getD (G.length - 15) 0) 18 (by decide) (by decide)
  have r3:=fZ (G.getD (G.length - 2) 0) 17 (by decide) (by decide)
  have r4:=fZ (G.getD (G.length - 2) 0) 19 (by decide) (by decide)
  ((conv=>whnf);repeat' ((first|(intro c;(try simp only [lnS]at c);(try rewrite [List.length_map]))|refine sJ ?_|refine qE_ ?_|refine exL (k:=?_)| (refine fA (id:=14) hty 15 (by kernel_rfl) (by kernel_rfl) ?_)|(refine⟨_,Q, ?_⟩)|(refine⟨_,a2, ?_⟩)|(refine⟨_,Y, ?_⟩)|(refine⟨_,a7, ?_⟩)|(refine And.intro f ?_)|refine qT r1 ?_|refine qT M ?_|refine qT r3 ?_|refine qT r4 ?_|refine dwR ?_|((first|refine aA ?_ ?_|refine aC ?_ ?_)<;>intro hb<;>(first|exact ddX hb|try simp only [lnS]at hb))|(refine aB ?_ ?_<;>intro hb<;>try exact dsX hb))<;>(conv=>whnf)))
  have e:(cI G).set (0+((i+16:Nat):Int).toNat * 1) (.d (.int .u32 (bDh (G.getD (G.length - 16) 0) (G.getD (G.length - 15) 0) (G.getD (G.length - 7) 0) (G.getD (G.length - 2) 0))))=cI (sD (i+1) W):=by
   rw [l,aSg,<-m]
   rw [show 0+((i+16:Nat):Int).toNat * 1=G.length by rw [Int.toNat_natCast];omega]
   rfl
  refine⟨i+1,qO,qO, ?_⟩
  dsimp only
  rw [<-e]
  exact⟨qB,qB⟩
 have hG:G.length=64:=by omega
 have C:i=48:=by omega
 subst C
 clear l O
 have I:=aCo G
 have g:=jN (ws:=G) (by omega)
 ((conv=>whnf);repeat ((first|(refine And.intro (aI8 (bQ (by with_unfolding_all exact rfl)) I) ?_) |(intro c;try simp only [lnS]at c)|refine sI ?_|refine qE_ ?_);conv=>whnf))
 clear hi n j
 refine aD hty (λi:Nat=>([(2, .ptr 2 0),(4, .ptr 4 0),(5, .ptr 5 0),(13, .ptr 13 0),(103, .d (.int .i64 i))],[(13, .cells 127 ((s8R (aQd uI G i ⟨v,w,u,y,p,q,o,t⟩)).map .d)),(5, .cells 183 (cI G)),(4, .cells 127 ((List.replicate 8 (D.int .u32 0)).map .d)),(2, .cells 127 ((s8R ⟨v,w,u,y,p,q,o,t⟩).map .d)),(92, .glob 1 1 (uI.map aTi))])) (λi=>i<=64) (λi=>64 - i) 0 (by omega) ⟨qB,qB⟩ ?_
 intro i hi
 have l:aQd uI G (i+1) ⟨v,w,u,y,p,q,o,t⟩=rnd (uI.getD i 0) (G.getD i 0) (aQd uI G i ⟨v,w,u,y,p,q,o,t⟩):=rfl
 generalize hSd:aQd uI G i ⟨v,w,u,y,p,q,o,t⟩=S at *
 obtain⟨L,tb,tc,td,A,tf,tg,th⟩:=S
 ((conv=>whnf);repeat ((first |(intro c;try simp only [lnS]at c)|refine sI ?_|refine qE_ ?_);conv=>whnf))
 refine aA (λn=> ?_) (λn=> ?_)
 ·have a:i < 64:=by omega
  have ai:(cI G)[0+(i:Int).toNat * 1]? =some (uW (G.getD i 0)):=by
   rw [show 0+(i:Int).toNat * 1=i by simp]
   exact fX (by omega)
  have B:(uI.map aTi)[(i:Int).toNat]? =some (aTi (uI.getD i 0)):=by
   rw [Int.toNat_natCast,List.getElem?_map,List.getElem?_eq_getElem (by rw [yO];exact a),List.getD_eq_getElem?_getD,List.getElem?_eq_getElem (by rw [yO];exact a)]
   rfl
  have Z:=fZ A 6 (by decide) (by decide)
  have J:=fZ A 11 (by decide) (by decide)
  have F:=fZ A 25 (by decide) (by decide)
  have M:=fZ L 2 (by decide) (by decide)
  have V:=fZ L 13 (by decide) (by decide)
  have U:=fZ L 22 (by decide) (by decide)
  ((conv=>whnf);repeat' ((first|(intro c;(try simp only [lnS]at c);(try rewrite [List.length_map]))|refine sJ ?_|refine qE_ ?_|refine exL (k:=?_)| (refine fA (id:=22) hty 14 (by kernel_rfl) (by kernel_rfl) ?_)|(refine dE (id:=92) hty rfl rfl rfl rfl rfl rfl rfl (by omega) (by omega) ?_)|(refine⟨_,B, ?_⟩)|(refine⟨_,ai, ?_⟩)|refine qT Z ?_|refine qT J ?_|refine qT F ?_|refine qT M ?_|refine qT V ?_|refine qT U ?_|(refine⟨.d (wD (mB 6 A)),_,[],rfl,trivial,Z, ?_⟩)|(refine⟨.d (wD (mB 11 A)),_,[],rfl,trivial,J, ?_⟩)|(refine⟨.d (wD (mB 25 A)),_,[],rfl,trivial,F, ?_⟩)|refine dwR ?_|((first|refine aA ?_ ?_|refine aC ?_ ?_)<;>intro hb<;>(first|exact ddX hb|try simp only [lnS]at hb))|(refine aB ?_ ?_<;>intro hb<;>try exact dsX hb))<;>(conv=>whnf)))
  refine⟨i+1,qO,qO, ?_⟩
  dsimp only
  rw [l,aZl]
  exact⟨qB,qB⟩
 have H:i=64:=by omega
 subst H
 clear n hi l
 generalize hS:(S8.mk L tb tc td A tf tg th)=S at *
 generalize hT:(S8.mk v w u y p q o t)=T at *
 ((conv=>whnf);repeat ((first |(intro c;try simp only [lnS]at c)|refine sI ?_|refine qE_ ?_);conv=>whnf))
 refine aD hty (λi:Nat=>([(2, .ptr 2 0),(4, .ptr 4 0),(13, .ptr 13 0),(181, .d (.int .i64 i))],[(2, .cells 127 (aJp T S i)),(13, .cells 127 ((s8R S).map .d)),(4, .cells 127 ((List.replicate 8 (D.int .u32 0)).map .d)),(92, .glob 1 1 (uI.map aTi))])) (λi=>i<=8) (λi=>8 - i) 0 (by omega) ⟨qB,qB⟩ ?_
 intro i hi
 ((conv=>whnf);repeat ((first |(intro c;try simp only [lnS]at c)|refine sI ?_|refine qE_ ?_);conv=>whnf))
 refine aA (λn=> ?_) (λn=> ?_)
 ·have a:i < 8:=by omega
  have K:0+(i:Int).toNat * 1=i:=by simp
  have c1:(aJp T S i)[0+(i:Int).toNat * 1]? =some (uW (g8 T i)):=by rw [K];exact aRh T S a
  have c2:((s8R S).map SV.d)[0+(i:Int).toNat * 1]? =some (uW (g8 S i)):=by rw [K];exact aRy S a
  have f:0+(i:Int).toNat * 1 < (aJp T S i).length:=by rw [aLs T S a,K];exact a
  ((conv=>whnf);repeat' ((first|(intro c;(try simp only [lnS]at c);(try rewrite [List.length_map]))|refine sJ ?_|refine qE_ ?_|refine exL (k:=?_)| (refine fA (id:=27) hty 8 (by kernel_rfl) (by kernel_rfl) ?_)|(refine⟨_,c1, ?_⟩)|(refine⟨_,c2, ?_⟩)|(refine And.intro f ?_)|refine dwR ?_|((first|refine aA ?_ ?_|refine aC ?_ ?_)<;>intro hb<;>(first|exact ddX hb|try simp only [lnS]at hb))|(refine aB ?_ ?_<;>intro hb<;>try exact dsX hb))<;>(conv=>whnf)))
  have e:(aJp T S i).set (0+(i:Int).toNat * 1) (.d (.int .u32 (IntKind.u32.wrap (wI (g8 T i)+wI (g8 S i)))))=aJp T S (i+1):=by
   rw [K]
   exact aLr T S a
  refine⟨i+1,qO,qO, ?_⟩
  dsimp only
  rw [<-e]
  exact⟨qB,qB⟩
 have R:i=8:=by omega
 subst R
 rw [aLt]
 ((conv=>whnf);repeat ((first |(intro c;try simp only [lnS]at c)|refine sI ?_|refine qE_ ?_);conv=>whnf))
 show SV.d (D.agg (s8R (T.add S)))=_
 rw [show aBo T b=T.add (aQd uI (sD 48 (kU b 16)) 64 T)from rfl,hWd,hGd,hSd]
end
section
open Go.RowKit
section
variable {P:Program}
theorem aF.ownH {pin:Pin}{fr:Fr}{hp:Hp}{f:FuncId}{args:List SV}{K:SV->Hp->Prop}(i id t e z:Nat) (hnil:aP hp i=some (.cells t [.d .nil])) (hfr:fE id pin fr hp) (hna:id∉SV.idsL args)
  (h:aF P pin fr ((id, .own e z 0)::eY hp i (.cells t [.osl id z []])) f args K):aF P pin fr hp f args K:=by
 intro E ρ w G b N U vs a
 obtain⟨Q,T,I⟩:=hfr
 obtain⟨O,H,V⟩:=N.newNil (id:=id) e z I (by rw [b];exact Q)
 have n:i≠id:= λe=>I (by subst e;exact bR hnil (.inl rfl))
 have D:aP ((id,HObj.own e z 0)::hp) i=some (.cells t [.d .nil]):=by
  simp only [aP];rw [if_neg (Ne.symm n)];exact hnil
 have L := O.recell D (cs' := [.osl id z []]) rfl (λj s' v g B => by
  cases j with
  |zero=>
   simp at g
   subst g
   have:=(B (.d .nil) rfl).nil_inv
   subst this
   exact V
  |succ j=>simp at g)
 have e2:eY ((id,HObj.own e z 0)::hp) i (.cells t [.osl id z []])=(id, .own e z 0)::eY hp i (.cells t [.osl id z []]):=by
  simp only [eY];rw [if_neg (Ne.symm n)]
 rw [e2]at L
 have m: ∀(l:List SV) (k:Nat),id∉SV.idsL l->id∉gD (dG k l):=by
  intro l
  induction l with
  |nil=>intro k h;simp [dG,gD]
  |cons s r ih=>
   intro k F
   rw [SV.idsL,List.mem_append,not_or]at F
   simp only [dG,gD,List.flatMap_cons,List.mem_append,not_or]
   exact⟨F.1,ih (k+1) F.2⟩
 have p: ∀(l:List SV) (k j:Nat) (s:SV),l[j]? =some s->jB (dG k l) (k+j)=some s:=by
  intro l
  induction l with
  |nil=>intro k j s h;simp at h
  |cons x r ih=>
   intro k j s h
   cases j with
   |zero=>simp at h;subst h;simp [dG,jB]
   |succ j=>
    simp at h
    have:=ih (k+1) j s h
    simp only [dG,jB]
    rw [if_neg (by omega)]
    rw [show k+(j+1)=k+1+j by omega];exact this
 have A:dV ρ w (dG 0 args) vs:=by
  intro u s M
  obtain⟨_,q⟩:=rV args 0 u s M
  simp only [Nat.sub_zero]at q
  have C:=(List.getElem?_eq_some_iff.1 q).1
  have c:u < vs.size:=by rw [a.1];exact C
  exact⟨vs[u],Array.getElem?_eq_getElem c,a.2 u s _ q (Array.getElem?_eq_getElem c)⟩
 have o:=H (dG 0 args) vs (m args 0 hna) A
 refine h E _ w G b L (H fr G T U) vs ⟨a.1,λj s v S B=> ?_⟩
 have J:=p args 0 j s S
 rw [Nat.zero_add]at J
 obtain⟨u,y,R⟩:=o j s J
 rw [B]at y
 injection y with y
 rw [y];exact R
theorem Tri.says {f:FuncId}{args:List SV}{hp:Hp}{post:SV->Prop}(h:Tri P f args hp λs=> ∃s',fR s s'/\post s'):Tri P f args hp post:=
 λw ρ vs a b c=>(h w ρ vs a b c).mono λ_ _ ⟨v,S',s,h1,⟨s',h2,h3⟩,h4,h5,h6,h7,h8⟩=>⟨v,S',s',h1,h3,h4,h5,h6,h7,h2 _ _ _ h8⟩
theorem fR.tup {l m:List SV}(hl:l.length=m.length) (h: ∀(j:Nat) (a b:SV),l[j]? =some a->m[j]? =some b->fR a b):fR (.tup l) (.tup m):= λw ρ v e=>by
 obtain⟨vs,rfl,d,g⟩:=e.tup_inv
 refine .tup _ _ (d.trans hl) λj b u hb f=> ?_
 have c:j < l.length:=by rw [hl];exact(List.getElem?_eq_some_iff.1 hb).1
 exact h j _ b (List.getElem?_eq_getElem c) hb w ρ u (g j _ u (List.getElem?_eq_getElem c) f)
theorem fR.pair {a b c:SV}(h:fR a b):fR (.tup [a,c]) (.tup [b,c]):=fR.tup rfl λj x y hx d=>by
 match j with
 | 0=>simp at hx d;subst hx d;exact h
 | 1=>simp at hx d;subst hx d;exact .refl _
 |j+2=>simp at hx
end
section
variable {P:Program}
def kP (l:List UInt8):List Value:=l.map λc=> .int .u8 c.toNat
def vZ (P:Program) (f:FuncId) (args:List SV) (e:TypeId) (bs:List UInt8):Prop:=
 ∀(w:World) (ρ:Env) (vs:Array Value),(∀b i,ρ.S b i->b < w.heap.size)->cS w ρ args vs->
  Calls P f vs w λx w'=> ∃v,x= .returned v/\Grew w w'/\w'.ownsRow 0 e 1 v bs.length (kP bs)/\ ∀g,v.ownBlock=some g->w.heap.size<=g
theorem aDp {w:World}{S:Nat->Nat->Prop}(l:List UInt8):Flat w S 1 (l.map aN) (kP l):=by
 refine⟨by simp [kP],λa h=> ?_,λv h=> ?_,λi a j x d b=> ?_⟩
 ·obtain⟨c,_,rfl⟩:=List.mem_map.1 h;rfl
 ·obtain⟨c,_,rfl⟩:=List.mem_map.1 h;rfl
 ·rw [List.getElem?_map,Option.map_eq_some_iff]at d
  obtain⟨c,f,rfl⟩:=d
  have e:j=0/\x= .int .u8 c.toNat:=by
   cases j with
   |zero=>simp [aN]at b;exact⟨rfl,b.symm⟩
   |succ j=>simp [aN]at b
  obtain⟨rfl,rfl⟩:=e
  exact⟨.int .u8 c.toNat,by simp [kP,f], .int _ _⟩
theorem vT {pin:Pin}{fr:Fr}{hp:Hp}{f:FuncId}{args:List SV}{K:SV->Hp->Prop}{e:TypeId}{bs:List UInt8}(hc:vZ P f args e bs) (j:Nat) (hfr:fE j pin fr hp) (hk:K (.osl j 1 (bs.map aN)) ((j, .own e 1 (bs.map aN).length)::hp)):aF P pin fr hp f args K:=by
 intro E ρ w g a b o vs k
 obtain⟨d,m,p⟩:=hfr
 refine(hc w ρ vs b.slt k).mono ?_
 rintro x w' ⟨v,rfl,l,i,q⟩
 have hl:bs.length=(bs.map aN).length:=(List.length_map ..).symm
 obtain⟨c,h,n⟩:=b.newOwn (id:=j) (e:=e) (z:=1) (rows:=bs.map aN) (vs:=kP bs) l (by rw [<-hl];exact i) q (aDp bs) p (by rw [a];exact d)
 exact .inl ⟨v,_,_,_,rfl,hk,c,h fr g m o,n⟩
theorem aNy {w:World}{S:Nat->Nat->Prop}{l:List UInt8}{v:Value}(h:RepD w S (.sl 1 (l.map aN)) v) {g cap n:Nat}{cur:Array Value}{t:TypeId}(hv:v= .slice (some ⟨g,0,none⟩) n cap) (hg:w.heap[g]? =some (.cells cur t (0,0))) (hs:n<=cur.size) (hn:n=l.length):cur.toList.take n=kP l:=by
 obtain⟨A,cap',b,off,e1,_,_,k,c⟩:=h.of_sl
 have hl:(l.map aN).length=l.length:=List.length_map ..
 refine List.ext_getElem? λi=> ?_
 rw [List.getElem?_take]
 split
 ·rename_i hi
  have a:i < l.length:=by omega
  have f:l.map aN≠[]:=by
   intro e
   have:=congrArg List.length e
   rw [hl]at this
   simp at this
   rw [this]at a;simp at a
  have j:=k f
  subst j
  rw [hv]at e1
  injection e1 with e1 _ _
  injection e1 with e1
  injection e1 with e1 e2
  subst e1
  obtain⟨u,d,_,_,o⟩:=c.cell i (aN l[i]) 0 (.int .u8 l[i].toNat) (by rw [List.getElem?_map,List.getElem?_eq_getElem a];rfl) rfl
  cases o
  have m:off+(i * 1+0)=i:=by omega
  rw [m]at d
  rw [cell_of_row w g i cur t (0,0) hg]at d
  rw [Array.getElem?_toList,d]
  simp [kP,List.getElem?_eq_getElem a]
 ·rename_i hi
  symm
  rw [List.getElem?_eq_none_iff]
  simp [kP];omega
theorem bAe {w:World}{S:Nat->Nat->Prop}{l:List UInt8}{vs:List Value}(h:Flat w S 1 (l.map aN) vs):vs=kP l:=by
 have hl:vs.length=l.length:=by rw [h.len,List.length_map,Nat.mul_one]
 refine List.ext_getElem? λi=> ?_
 by_cases hi:i < l.length
 ·obtain⟨v,a,c⟩:=h.at_ i (aN l[i]) 0 (.int .u8 l[i].toNat) (by rw [List.getElem?_map,List.getElem?_eq_getElem hi];rfl) rfl
  have b:i * 1+0=i:=by omega
  rw [b]at a
  cases c
  rw [a]
  simp [kP,List.getElem?_eq_getElem hi]
 ·rw [List.getElem?_eq_none_iff.2 (by omega),List.getElem?_eq_none_iff.2 (by simp [kP];omega)]
theorem mX {f:FuncId}{args:List SV}{e:TypeId}{bs:List UInt8}
  (h:aF P ⟨[],λ_ _=>False,[]⟩ [] [] f args λs h=>(∃id n,s= .osl id 1 (bs.map aN)/\aP h id=some (.own e 1 n)/\n=bs.length)\/ ∃id n cap,s= .mw id 1 n/\aP h id=some (.mrow e 1 cap (bs.map aN))/\n=bs.length/\bs≠[]):vZ P f args e bs:=by
 intro w ρ vs l j
 have N:Mem ⟨w,ρ.S,λ_=>False,⟨[],λ_ _=>False,[]⟩,ρ,none,[],0⟩ ρ [] w:=
  ⟨rfl,rfl, .refl _,Nat.le_refl _,λ_ _ _=>rfl,λ_ _ h=>h,λ_ _ h _ _=>h,l,λ_ _ _=>rfl,λ_ _ h=>by simp [aP]at h,λ_ _ _ _ _ h=>by simp [aP]at h,λ_ _ _ h=>by simp [aP]at h,λid _=>ρ.moved_refl id,λ_ _ _ h=>by simp [aP]at h,λb hb=>by cases hb⟩
 refine(h _ ρ w #[] rfl N (λt s h=>by simp [jB]at h) vs j).mono ?_
 have hl:(bs.map aN).length=bs.length:=List.length_map ..
 rintro x w' (⟨v,K,s,hp',rfl,R,d,k3,I⟩|⟨ch,K,hp',_,_,Q,_⟩)
 ·have a:Grew w w':=⟨d.os,d.tape,d.output,d.size,λb hb=>d.old b hb (λh=>h)⟩
  rcases R with⟨id,n,rfl,o,z⟩|⟨id,n,cap,rfl,o,z,C⟩
  ·obtain⟨B,xs,y,q3,q4⟩:=d.sat id _ o
   obtain⟨M,r2,O⟩:=I.osl_inv
   have ev:=O (by rw [hl,B,z])
   subst ev
   refine⟨_,rfl,a, ?_,λg L=> ?_⟩
   ·rw [B,z]at y
    obtain⟨H,m|⟨g,cap,cur,m,k,u,q,G,r,J⟩⟩:=y
    ·refine⟨by simp [kP], .inl m⟩
    ·refine⟨by simp [kP], .inr ⟨g,cap,cur,m,k,u,q,G,r, ?_⟩⟩
     have:=aNy M m u (by rw [r];omega) rfl
     rw [Nat.mul_one];exact this
   ·rcases d.hb id _ g o L with i|i
    ·exact i
    ·exact i.elim
  ·obtain⟨B,y⟩:=d.sat id _ o
   obtain⟨A,c,_,_,_,_,_,e2⟩:=I.mw_inv
   have ev:=e2 (by rw [B,hl,z])
   rcases y with⟨H,m,A',k⟩|⟨hc,g,cur,k,u,q,G,r,J,p9⟩
   ·exfalso
    have:(bs.map aN).length=0:=by rw [H];rfl
    rw [hl]at this
    exact C (List.length_eq_zero_iff.1 this)
   ·rw [ev,k]
    refine⟨_,rfl,a,⟨by simp [kP], .inr ⟨g,cap,cur,by rw [hl],Nat.zero_le _,u,by rw [hl]at q;exact q,G,r, ?_⟩⟩,λF p=> ?_⟩
    ·have:=bAe J
     rw [hl]at this;exact this
    ·have E:F=g:=by simp [Value.ownBlock]at p;exact p.symm
     subst E
     have hb:gB (K.tv id)=some F:=by
      rw [k]
      have D:cap≠0:=by omega
      simp [gB,D]
     rcases d.hb id _ F o hb with i|i
     ·exact i
     ·exact i.elim
 ·exact Q.elim
theorem vZ.tri {f:FuncId}{args:List SV}{e:TypeId}{bs:List UInt8}(h:vZ P f args e bs):Tri P f args [] (λr=>r= .d (.sl 1 (bs.map aN))):=by
 intro w ρ vs a c _
 refine(h w ρ vs a c).mono ?_
 rintro x w' ⟨v,rfl,l,n,q⟩
 have hl:(bs.map aN).length=bs.length:=List.length_map ..
 have m:Mem ⟨w,ρ.S,λ_=>False,⟨[],λ_ _=>False,[]⟩,ρ,none,[],0⟩ ρ [] w:=
  ⟨rfl,rfl, .refl _,Nat.le_refl _,λ_ _ _=>rfl,λ_ _ h=>h,λ_ _ h _ _=>h,a,λ_ _ _=>rfl,λ_ _ h=>by simp [aP]at h,λ_ _ _ _ _ h=>by simp [aP]at h,λ_ _ _ h=>by simp [aP]at h,λid _=>ρ.moved_refl id,λ_ _ _ h=>by simp [aP]at h,λb hb=>by cases hb⟩
 obtain⟨g,m2,p⟩:=m.newOwn (id:=0) (e:=e) (z:=1) (rows:=bs.map aN) (vs:=kP bs) l (by rw [hl];exact n) q (aDp bs) (by simp [gH]) (λh=>by cases h)
 refine⟨v,_,_,rfl,rfl,l,g.sold,λb i o=> ?_,g.slt,(Rep.d _ _ p.osl_inv.1:Rep w' _ (.d (.sl 1 (bs.map aN))) v).noids rfl rfl⟩
 rcases Nat.lt_or_ge b w.heap.size with j|k
 ·exact .inl (g.snew b i o j (λh=>h))
 ·exact .inr k
end
variable {P:Program}
theorem aF4 (w:World) (t tn ty e:TypeId) (i:TypeInfo) (z:Value) (kq kn:IntKind) (ht:P.underlying t=some (.slice e)) (htn:P.underlying tn=some (.int kn))
  (hi:P.info? e=some i) (hz:i.zero=some z) (hzs:z.cells.size=i.size) (hsz:0 < i.size)
  (v:Value) (n:Nat) (xs:List Value) (hown:w.ownsRow 0 e i.size v n xs) (hn0:0 < n)
  (m:Nat) (h1: ∀u∈(Builtin.zeroCells z.cells m).toList,u.oneCell'=true)
  (h63:n+m<=maxLen) (hbytes:(n+m)* i.bytes<=140737488355328):
  ∃v' w',(Builtin.append_ #[t,tn] ty #[v, .int kq m]).run P w= .ok v' w'/\w'.ownsRow 0 e i.size v' (n+m) (xs++(Builtin.zeroCells z.cells m).toList)/\
   ((∃g cap cs,v= .slice (some ⟨g,0,none⟩) n cap/\v'= .slice (some ⟨g,0,none⟩) (n+m) cap/\w'=w.setRow g cs)\/(v'.ownBlock=some w.heap.size/\Grew w w'/\0 < m)):=by
 have hsmall:n+m<=9223372036854775807:=by simp only [maxLen]at h63;omega
 obtain⟨news,hnews⟩: ∃news,news=(Builtin.zeroCells z.cells m).toList:=⟨_,rfl⟩
 have hl:news.length=m * i.size:=by rw [hnews,Array.length_toList,size_zeroCells,hzs]
 have C:Builtin.zeroCells z.cells m=news.toArray:=by rw [hnews]
 rw [<-hnews]at h1 |-
 have a:(xs++news).length=(n+m)* i.size:=by rw [List.length_append,hown.1,hl,Nat.add_mul]
 have r: ∀(old:Nat),old < n+m->
   (w.drew.alloc (.cells (xs.toArray++news.toArray++Builtin.zeroCells z.cells (grownCap w (n+m) old e - (n+m))) e)).ownsRow 0 e i.size
    (.slice (some ⟨w.heap.size,0,none⟩) (n+m) (grownCap w (n+m) old e)) (n+m) (xs++news):=by
  intro old ho
  have G:=grownCap_ge w (n+m) old e
  have k:grownCap w (n+m) old e<=maxLen:=grownCap_le_maxLen w (n+m) old e h63
  refine⟨a, .inr ⟨w.heap.size,_,_,rfl,Nat.zero_le _,heap_alloc_new w.drew _,G,k, ?_, ?_⟩⟩
  ·simp only [Array.size_append,List.size_toArray,size_zeroCells,hzs,hown.1,hl,<-Nat.add_mul]
   congr 1
   omega
  ·simp only [Array.toList_append,List.append_assoc]
   rw [<-List.append_assoc,<-a]
   exact List.take_left
 have p: ∀o,Grew w (w.drew.alloc o):= λo=>(Grew.drew w).trans (Grew.alloc _ _)
 have I:IntKind.i64.wrap (m:Int)=m:=by rw [IntKind.wrap_i64];omega
 have d:¬ ((m:Int) < 0):=by omega
 have f:¬ (281474976710656 < (m:Int)* (i.bytes:Int)):=by
  rw [<-Int.natCast_mul]
  have:m * i.bytes<=(n+m)* i.bytes:=Nat.mul_le_mul_right _ (by omega)
  omega
 have c:¬ i.size=0:=by omega
 rcases hown.2 with⟨rfl,rfl⟩|⟨g,cap,cur,rfl,hbg,K,F,k,D,q⟩
 ·omega
 ·by_cases b:n+m<=cap
  ·have B:n * i.size+news.length<=cur.size:=by rw [hl,D,<-Nat.add_mul];exact Nat.mul_le_mul_right _ b
   have h:=run_storeCells_at P g (n * i.size) e news 0 cur w K (by simpa using B) h1
   simp only [Nat.add_zero]at h
   refine⟨.slice (some ⟨g,0,none⟩) (n+m) cap,w.setRow g (cur.toList.take (n * i.size)++news++cur.toList.drop (n * i.size+news.length)).toArray, ?_, ?_, .inl ⟨g,cap,_,rfl,rfl,rfl⟩⟩
   ·by_cases s:m=0
    ·subst s
     have A:news=[]:=List.eq_nil_of_length_eq_zero (by simpa using hl)
     subst A
     have J:IntKind.i64.wrap 0=0:=by decide
     simp [J,Builtin.append_,run_underlying ht,run_underlying htn,sizeOf,typeInfo,zeroValue,hi,hz,asInt,asIntOf,I,d,f,F,Addr.add_lit]at h |-
     rw [h];rfl
    ·have l:¬ (m * i.size=0):=Nat.mul_ne_zero s c
     simp [l,Builtin.append_,run_underlying ht,run_underlying htn,sizeOf,typeInfo,zeroValue,hi,hz,asInt,asIntOf,I,d,f,b,s,c,C,Addr.add_lit,h]
   ·refine⟨a, .inr ⟨g,cap,_,rfl,Nat.zero_le _,setRow_heap w g cur _ e _ K,b,k, ?_, ?_⟩⟩
    ·simp only [List.size_toArray,List.length_append,List.length_take,List.length_drop,Array.length_toList]
     omega
    ·rw [q,<-a,List.append_assoc,<-List.append_assoc]
     exact List.take_left
  ·have E:=r cap (by omega)
   have s:¬ m=0:=by omega
   have y:¬ (9223372036854775807 < ((n:Int)+(m:Int))):=by omega
   have x:¬ (281474976710656 < Builtin.nextslicecap (n+m) cap * i.bytes):=by
    have:=growslice_fits (need:=n+m) (old:=cap) (bytes:=i.bytes) (by omega) hbytes
    omega
   have H:=run_firstCells_some (P:=P) w.drew i.size n ⟨g,0,none⟩ n cap xs hown.1 (λj u L=>by rw [dU];exact kG hown rfl j u L)
   refine⟨.slice (some ⟨w.heap.size,0,none⟩) (n+m) (grownCap w (n+m) cap e),_, ?_,E, .inr ⟨rfl,p _,by omega⟩⟩
   have l:¬ (m * i.size=0):=Nat.mul_ne_zero s c
   simp [l,Builtin.append_,run_underlying ht,run_underlying htn,sizeOf,typeInfo,zeroValue,hi,hz,asInt,asIntOf,I,d,f,b,s,c,C,y,x,Question.forced,H,newRow,grownCap]
   try (congr 2;apply Array.ext';simp [List.append_assoc])
theorem aP1 {ti:TypeId->Option TI}(hti:fH P ti) {o:Oper}{t tn e:TypeId}{T N:TI}{x y:Operand}{k kn:IntKind}(ho:o.op= .call { callee:= .builtin .append,args:= #[x,y],argTypes:= #[t,tn] }) (hT:slT ti t=some (e,T)) (hN:ti tn=some N) (hNk:N.td= .int kn)
  {pin:Pin} {fr:Fr} {hp:Hp} {K:SV->Hp->Prop} {id z n cap m:Nat} {l:Int} {rows:List (List D)} (hs:evO fr x=some (.mw id z n)) (hy:evO fr y=some (.d (.int k l))) (hl:l=m)
  (hoo:aP hp id=some (.mrow e z cap rows)) (hver:T.size=z/\n=rows.length) (M:0 < rows.length) (hpos:0 < T.size) (h63:rows.length+m<=9223372036854775807) (hby:(rows.length+m)* T.bytes<=140737488355328)
  (hk: ∀cap':Nat,rows.length+m<=cap'->iY hp id (.mrow e z cap' (rows++List.replicate m T.zero)) λhp'=>K (.mw id z (rows.length+m)) hp'):aT P o pin fr hp K:=by
 intro E ρ a w hpin W hf next Q hn
 subst hl
 obtain⟨rfl,rfl⟩:=hver
 have e1:=(aV hf hs)
 have e2:=(aV hf hy).int_inv
 obtain⟨hu,d2,i2,U,f⟩:=aCy hti hT
 obtain⟨dn,i0,z0,V⟩:=aO (hti _ _ hN)
 have Z:=V.td
 rw [hNk]at Z
 have a4:=mY Z
 subst a4
 obtain⟨n0,m0⟩:=W.sat id _ hoo
 obtain⟨A,c,e3,_,_,_,_,e4⟩:=e1.mw_inv
 have a1:a.eval x=ρ.tv id:=e4 (by omega)
 have hc:cap≠0:=by
  intro hc
  subst hc
  rcases m0 with h|⟨h,_⟩
  ·rw [h.1]at M;simp at M
  ·omega
 obtain⟨new,hnew⟩: ∃new,new=List.replicate m T.zero:=⟨_,rfl⟩
 have a3:new.length=m:=by rw [hnew,List.length_replicate]
 have q3:Flat w ρ.S T.size new (Builtin.zeroCells U.cells m).toList:=by
  have h:=tR f w ρ.S m hpos
  have v:(Builtin.zeroCells U.cells m)=(Array.range (m * i2.size)).map (U.cells[· % U.cells.size]!):=by
   rw [Builtin.zeroCells,f.cells]
  rw [v,hnew]
  exact h
 rw [<-hnew]at hk
 rw [<-a3]at hk h63 hby q3 e2
 obtain⟨xs,o1,o2,o3,g,B⟩:=m0.owns (by omega)
 obtain⟨v',w',r1,p,I⟩:=aF4 (P:=P) w t tn o.type e i2 U k kn hu V.und f.info f.zero f.cells (by rw [f.size];exact hpos) (ρ.tv id) rows.length xs (by rw [f.size];exact o1) M new.length q3.one (by simp only [maxLen];omega) (by rw [f.bytes];exact hby)
 rw [<-a1]at r1
 rw [f.size]at p
 have Y: ∀(cap':Nat),w'.os=w.os->w'.tape=w.tape->aQ8 w' w->w.heap.size<=w'.heap.size->
   (∀b,b < w.heap.size->gB (ρ.tv id)≠some b->w'.heap[b]? =w.heap[b]?)->gX w' ρ.S e T.size cap' (rows++new) v'->(∀g,gB v'=some g->gB (ρ.tv id)=some g\/w.heap.size<=g)->
   (((rows++new).length=rows.length/\v'=ρ.tv id)\/rows.length < (rows++new).length)->o.wp P a w next Q:=by
  intro cap' r2 r3 r4 r5 r6 r7 r8 r9
  obtain⟨s1,s2,s3⟩:=W.setMrow hoo r2 r3 r4 r5 r6 r7 r8 r9
  obtain⟨A',C,r,p3,p4⟩:=r7.shape
  have s:=hk cap' (by rw [<-List.length_append];exact r)
  rw [eJ]at s
  have R:Rep w' (ρ.retop id (rows++new).length v') (.mw id T.size (rows.length+new.length)) v':=by
   rw [C,<-List.length_append]
   exact .mw id T.size _ cap' A' r p3 (λM=>p4 (by omega)) (by simp [Env.retop]) (by simp [Env.retop])
  have O:(execOp a.eval o).run P w= .ok (.value v') w':=gO ho (by rw [e2];exact r1)
  exact bW O (hn _ _ _ _ _ s s1 (hf.mono s2 (λ_ _ x=>x) λj _=>s3 j) R)
 have J:gB (ρ.tv id)=some g:=by rw [o3,B];rfl
 have G: ∀k,¬ ρ.S g k:=by
  rcases m0 with⟨_,M,_⟩|⟨_,L,cur,v,_,_,_,_,_,h7⟩
  ·exact absurd M hc
  ·rw [B]at v
   injection v with v
   injection v with v
   injection v with v
   subst v;exact h7
 rw [<-List.length_append]at p
 have u:0 < (rows++new).length:=by rw [List.length_append];omega
 rcases I with⟨L,cap',cs,C,r,rfl⟩|⟨C,r,p3⟩
 ·have a5:L=g:=by rw [C]at B;injection B with B;injection B with B;injection B with B
  subst a5
  have H: ∀b,b < w.heap.size->gB (ρ.tv id)≠some b->(w.setRow L cs).heap[b]? =w.heap[b]? := λb _ hb=>setRow_other w L b _ (λe=>hb (by rw [e];exact J))
  have a2:cF ρ.S w (w.setRow L cs):= λb k hs=>World.cell?_of_block (w:=w) (H b (W.slt b k hs) λhb=>by rw [J]at hb;injection hb with hb;subst hb;exact G k hs)
  obtain ⟨i, c1, c2, c3⟩ := wS (S := ρ.S) p ((o2.append q3).mono a2 (λ_ _ x => x)) ⟨L, by rw [r]; rfl⟩ u (λg q k s => by
   rw [r]at q;simp only [Value.ownBlock,Option.some.injEq]at q;subst q;exact G k s)
  refine Y i rfl rfl (.refl _) (by simp [World.setRow]) H c1 (λg q=> .inl (by rw [c3,r]at q;rw [J];exact q)) ?_
  by_cases a6:new.length=0
  ·left
   have F:new=[]:=List.eq_nil_of_length_eq_zero a6
   rw [F,List.append_nil,r,C,F]
   exact⟨rfl,rfl⟩
  ·right;rw [List.length_append];omega
 ·obtain ⟨i, c1, c2, c3⟩ := wS (S := ρ.S) p ((o2.append q3).mono (r.keeps W.slt) (λ_ _ x => x)) ⟨_, C⟩ u (λg q k s => by
   rw [C]at q;injection q with q;have:=W.slt g k s;omega)
  exact Y i r.os r.tape r.output r.size (λb hb _=>r.block b hb) c1 (λg q=> .inr (by rw [c3,C]at q;injection q with q;omega)) (.inr (by rw [List.length_append];omega))
end
section
attribute [local irreducible] aK aF Tri aH YVC cG aT vZ
open Go.RowKit
set_option maxRecDepth 10000
theorem aNj (n j:Nat) (h:j < 8):(beN 8 n).take (j+1)=(beN 8 n).take j++[UInt8.ofNat (n / 2 ^ (56 - 8 * j) % 256)]:=by
 have e:j=0\/j=1\/j=2\/j=3\/j=4\/j=5\/j=6\/j=7:=by omega
 rw [bFn]
 rcases e with rfl|rfl|rfl|rfl|rfl|rfl|rfl|rfl<;>rfl
theorem bCz (n:Nat) (s:Nat) (hn:n < 18446744073709551616) (hs:s<=64):IntKind.u8.wrap (((n:Nat):Int).fdiv (2 ^ (min (s:Int).toNat IntKind.u64.bits)))=(((UInt8.ofNat (n / 2 ^ s % 256)).toNat:Nat):Int):=by
 have h:=aUg (n:Int) s hs
 rw [gK n hn]at h
 rw [h]
 have e:uN (n:Int)=n:=by unfold uN;omega
 rw [e]
 simp
def aAh (b:List UInt8):List UInt8:=b++[128]++List.replicate (aFk b.length) 0
theorem aMc (b:List UInt8):(aAh b).length=b.length+1+aFk b.length:=by
 unfold aAh
 simp only [List.length_append,List.length_replicate,List.length_singleton]
theorem aSq (b:List UInt8):aFm b=aAh b++(beN 8 (8 * b.length)).take 8:=by
 rw [List.take_of_length_le (by rw [aW];omega)];rfl
theorem bEf (b:List UInt8) (hb:b.length<=1000000000000):vZ Tryz.prog 74 [.d (.sl 1 (b.map aN))] 5 (aFm b):=by
 refine mX ?_
 have a:(b.map aN).length=b.length:=List.length_map ..
 have e1:((b.map aN).length:Int).tmod 64=((b.length % 64:Nat):Int):=by
  rw [a,Int.tmod_eq_emod_of_nonneg (by omega)]
  omega
 have ht:0<=((b.map aN).length:Int).tmod 64/\((b.map aN).length:Int).tmod 64 < 64:=by rw [e1];omega
 have u: -9223372036854775808<=119 - ((b.map aN).length:Int).tmod 64/\119 - ((b.map aN).length:Int).tmod 64<=9223372036854775807:=by omega
 have hz:(119 - ((b.map aN).length:Int).tmod 64).tmod 64=((aFk b.length:Nat):Int):=by
  rw [e1,Int.tmod_eq_emod_of_nonneg (by omega)]
  unfold aFk
  omega
 have hzb:0<=(119 - ((b.map aN).length:Int).tmod 64).tmod 64/\(119 - ((b.map aN).length:Int).tmod 64).tmod 64 < 64:=by
  have:=aAg b.length
  rw [hz];omega
 have hzl:=aAg b.length
 refine aG false [] hty Tryz.func74 rfl (kp [0,2,3,4,5,32]) 100 (by simp [Tryz.f74]) ?_
 ((conv=>whnf);repeat ((first|(refine And.intro u ?_)|(refine And.intro (by first|omega|(simp only [List.length_replicate,List.length_append,List.length_set,List.length_cons,List.length_nil,Int.toNat_zero,Nat.mul_one,Nat.zero_add];done)|(simp only [List.length_replicate,List.length_append,List.length_set,List.length_cons,List.length_nil,Int.toNat_zero,Nat.mul_one,Nat.zero_add];omega)) ?_) |(intro o;try simp only [lnS]at o)|refine sI ?_|refine qE_ ?_);conv=>whnf))
 rw [hz]
 refine aP1 hty rfl rfl rfl rfl rfl rfl rfl rfl ⟨rfl, ?_⟩ ?_ (by decide) ?_ ?_ ?_
 ·simp only [List.length_append]
 ·simp only [List.length_replicate,List.length_append,List.length_set,List.length_cons,List.length_nil,Int.toNat_zero,Nat.mul_one,Nat.zero_add,a];omega
 ·simp only [List.length_replicate,List.length_append,List.length_set,List.length_cons,List.length_nil,Int.toNat_zero,Nat.mul_one,Nat.zero_add,a];omega
 ·simp only [List.length_replicate,List.length_append,List.length_set,List.length_cons,List.length_nil,Int.toNat_zero,Nat.mul_one,Nat.zero_add,a];omega
 intro c hc
 have x:IntKind.u64.wrap (IntKind.u64.wrap ((b.map aN).length:Int)* 8)=((8 * b.length:Nat):Int):=by
  rw [a,gK b.length (by omega),show ((b.length:Nat):Int)* 8=((8 * b.length:Nat):Int)by omega,gK _ (by omega)]
 refine qX ?_;intros
 rw [x]
 have q:=aMc b
 refine aD hty (λy:Nat×Nat=>([(2, .mw 117 1 (aAh b++(beN 8 (8 * b.length)).take y.1).length),(4, .d (.int .u64 ((8 * b.length:Nat):Int))),(5, .d (.int .i64 (56 - 8 * (y.1:Int))))],[(117, .mrow 5 1 y.2 ((aAh b++(beN 8 (8 * b.length)).take y.1).map aN))])) (λy=>y.1<=8) (λy=>8 - y.1) (0,c) (qO) ?_ ?_
 ·dsimp only
  simp only [List.take_zero,List.append_nil,q,List.length_replicate,List.length_append,List.length_set,List.length_cons,List.length_nil,Int.toNat_zero,Nat.zero_add,a]
  simp only [aAh,List.map_append,List.map_replicate,List.map_cons,List.map_nil,List.replicate_zero,List.nil_append]
  exact⟨qB,qB⟩
 rintro⟨j,r⟩ w
 dsimp only at w
 dsimp only
 have m:((beN 8 (8 * b.length)).take j).length=j:=by rw [List.length_take,aW];omega
 have i:((aAh b++(beN 8 (8 * b.length)).take j).map aN).length=(aAh b++(beN 8 (8 * b.length)).take j).length:=List.length_map ..
 have n:(aAh b++(beN 8 (8 * b.length)).take j).length=b.length+1+aFk b.length+j:=by rw [List.length_append,q,m]
 have g:j < 8->(aAh b++(beN 8 (8 * b.length)).take (j+1))=(aAh b++(beN 8 (8 * b.length)).take j)++[UInt8.ofNat ((8 * b.length) / 2 ^ (56 - 8 * j) % 256)]:= λh=>by
  rw [aNj _ _ h,List.append_assoc]
 have p:= λ(h:j < 8)=>bCz (8 * b.length) (56 - 8 * j) (by omega) (by omega)
 have l:j=8->aFm b=aAh b++(beN 8 (8 * b.length)).take j:= λh=>by rw [h];exact aSq b
 generalize hR:aAh b++(beN 8 (8 * b.length)).take j=R at *
 refine qX ?_;intros
 refine aA (λv=> ?_) (λv=> ?_)
 ·have f:j < 8:=by omega
  have s:(0:Int)<=56 - 8 * (j:Int):=by omega
  ((conv=>whnf);repeat ((first|(refine And.intro s ?_)|(refine And.intro (by first|omega|(simp only [List.length_replicate,List.length_append,List.length_set,List.length_cons,List.length_nil,i,Nat.mul_one];done)|(simp only [List.length_replicate,List.length_append,List.length_set,List.length_cons,List.length_nil,i,Nat.mul_one];omega)) ?_) |(intro o;try simp only [lnS]at o)|refine sI ?_|refine qE_ ?_);conv=>whnf))
  rename_i t
  have k:=p f
  rw [show ((56 - 8 * j:Nat):Int)=56 - 8 * (j:Int)by omega]at k
  rw [k,show (56 - 8 * (j:Int) - 8)=56 - 8 * ((j+1:Nat):Int)by omega]
  refine⟨(j+1,t),qO,qO, ?_⟩
  dsimp only
  rw [g f]
  simp only [List.length_replicate,List.length_append,List.length_set,List.length_cons,List.length_nil,i,List.map_append,List.map_cons,List.map_nil]
  exact⟨qB,qB⟩
 ·have f:j=8:=by omega
  rw [l f]
  refine qX ?_;intros
  exact .inr ⟨117,R.length,r,rfl,rfl,rfl,λe=>by rw [e,List.length_nil]at n;omega⟩
theorem aWe (b:List UInt8) (hb:b.length<=1000000000000):Tri Tryz.prog 74 [.d (.sl 1 (b.map aN))] [] (λr=>r= .d (.sl 1 ((aFm b).map aN))):=(bEf b hb).tri
def aN8 (d:Dig):List D:=d.1.map λc=> .int .u8 c.toNat
def oC (s:S8) (m:Nat):List SV:=(((aWg s).take m).map λc:UInt8=>SV.d (.int .u8 c.toNat))++List.replicate (32 - m) (.d (.int .u8 0))
theorem aMf (s:S8):(aWg s).length=32:=rfl
theorem aSt (s:S8) (i j:Nat) (hi:i < 8) (hj:j < 4):(aWg s)[4 * i+j]? =some ((g8 s i >>>UInt32.ofNat (24 - 8 * j)).toUInt8):=by
 have a:j=0\/j=1\/j=2\/j=3:=by omega
 have b: ∀x:UInt32,x >>>UInt32.ofNat 0=x:= λx=>by
  apply UInt32.toNat_inj.1
  rw [UInt32.toNat_shiftRight]
  simp
 rcases a with rfl|rfl|rfl|rfl
 ·rcases lt8 hi with rfl|rfl|rfl|rfl|rfl|rfl|rfl|rfl<;>rfl
 ·rcases lt8 hi with rfl|rfl|rfl|rfl|rfl|rfl|rfl|rfl<;>rfl
 ·rcases lt8 hi with rfl|rfl|rfl|rfl|rfl|rfl|rfl|rfl<;>rfl
 ·rw [show 24 - 8 * 3=0 from rfl,b]
  rcases lt8 hi with rfl|rfl|rfl|rfl|rfl|rfl|rfl|rfl<;>rfl
theorem aYd (s:S8) {m:Nat}(h:m<=32):(oC s m).length=32:=by
 unfold oC
 rw [List.length_append,List.length_map,List.length_take,List.length_replicate,aMf]
 omega
theorem aYc (s:S8) (m:Nat) (c:UInt8) (hm:m < 32) (hc:(aWg s)[m]? =some c):(oC s m).set m (.d (.int .u8 c.toNat))=oC s (m+1):=by
 have hl:(((aWg s).take m).map λc:UInt8=>SV.d (.int .u8 c.toNat)).length=m:=by
  rw [List.length_map,List.length_take,aMf];omega
 unfold oC
 rw [List.set_append_right _ _ (by omega),hl,Nat.sub_self,show 32 - m=(32 - (m+1))+1 by omega,List.replicate_succ,List.set_cons_zero,List.take_add_one,hc,List.map_append,List.append_assoc]
 rfl
theorem aYe (s:S8):oC s 32=((aWg s).map λc:UInt8=>D.int .u8 c.toNat).map SV.d:=rfl
theorem aYr (x:UInt32) (n:Nat) (h:n < 32):IntKind.u8.wrap (aF1 (wI x) (n:Int))=(((x >>>UInt32.ofNat n).toUInt8.toNat:Nat):Int):=by
 rw [bDe x n h,bBj]
theorem yM (b:List UInt8) (hb:b.length<=1000000000000):Tri Tryz.prog 36 [.d (.sl 1 (b.map aN))] KG (λr=>r= .d (.agg (aN8 (aD1 b)))):=by
 have hp:=aWe b hb
 have o:=aMd b
 have hpl:=aFl b
 have hzl:=aAg b.length
 obtain⟨M,hM⟩: ∃M,M=(aFm b).length / 64:=⟨_,rfl⟩
 have u:bBs b=jD M aVr (aFm b):=by rw [hM];rfl
 rw [<-hM]at o
 have h:aN8 (aD1 b)=(aWg (bBs b)).map λc:UInt8=>D.int .u8 c.toNat:=rfl
 rw [h]
 generalize hP:aFm b=p at *
 refine qG [] hty Tryz.func36 [0,2,3,4,5,6,7,13,20,21,22,25,26] ?_
 refine qZ ?_;intros
 refine aD hty (λn:Nat=>([(2, .ptr 2 0),(3, .ptr 3 0),(4, .d (.sl 1 ((p.drop (64 * n)).map aN)))],[(3, .cells 127 ((s8R (jD n aVr p)).map .d)),(2, .cells 32 ((List.replicate 32 (D.int .u8 0)).map .d)),(92, .glob 1 1 (uI.map aTi))])) (λn=>n<=M) (λn=>M - n) 0 (by omega) ⟨qB,qB⟩ ?_
 intro n hn
 have l:=qV n aVr p
 have k:((p.drop (64 * n)).map aN).length=64 * M - 64 * n:=by rw [List.length_map,List.length_drop];omega
 generalize hS:jD n aVr p=S at *
 refine qX ?_;intros
 refine aA (λy=> ?_) (λy=> ?_)
 ·have t:n < M:=by omega
  have x:=aWy S ((p.drop (64 * n)).take 64) (by rw [List.length_take,List.length_drop];omega)
  rw [List.map_take]at x
  have e:(64:Int)<=(((p.drop (64 * n)).map aN).length:Int):=by rw [k];omega
  (repeat' first|(refine qW ?_;intros)|((conv=>whnf);first|(refine fA (id:=5) hty 3 (by kernel_rfl) (by kernel_rfl) ?_)|(refine⟨KG,_,⟨rfl,trivial⟩,x,λr u=> ?_⟩;subst u)|(refine And.intro e ?_)|(refine And.intro ⟨by decide,e⟩ ?_)|refine dwR ?_|((first|refine aA ?_ ?_|refine aC ?_ ?_)<;>intro hb<;>(first|exact ddX hb|try simp only [lnS]at hb))|(refine aB ?_ ?_<;>intro hb<;>try exact dsX hb)))
  have w:List.drop 64 (List.take ((p.drop (64 * n)).map aN).length ((p.drop (64 * n)).map aN))=(p.drop (64 * (n+1))).map aN:=by
   rw [List.take_length,<-List.map_drop,List.drop_drop,show 64 * n+64=64 * (n+1)by omega]
  refine⟨n+1,qO,qO, ?_⟩
  dsimp only
  rw [l,<-w]
  exact⟨qB,qB⟩
 have t:n=M:=by omega
 subst t
 rw [u,hS]
 clear l k u hS hp
 refine qX ?_;intros
 refine aD hty (λi:Nat=>([(2, .ptr 2 0),(20, .d (.agg (s8R S))),(21, .d (.int .i64 i))],[(2, .cells 32 (oC S (4 * i))),(92, .glob 1 1 (uI.map aTi))])) (λi=>i<=8) (λi=>8 - i) 0 (by omega) ⟨qB,qB⟩ ?_
 intro i hi
 refine qX ?_;intros
 refine aA (λA=> ?_) (λA=> ?_)
 ·have a:i < 8:=by omega
  have hw:(s8R S)[(i:Int).toNat * 1]? =some (wD (g8 S i)):=by
   rw [Int.toNat_natCast,Nat.mul_one]
   rcases lt8 a with rfl|rfl|rfl|rfl|rfl|rfl|rfl|rfl<;>rfl
  (repeat' first|(refine qW ?_;intros)|((conv=>whnf);first|refine dwR ?_|((first|refine aA ?_ ?_|refine aC ?_ ?_)<;>intro hb<;>(first|exact ddX hb|try simp only [lnS]at hb))|(refine aB ?_ ?_<;>intro hb<;>try exact dsX hb)))
  refine aD hty (λj:Nat=>([(2, .ptr 2 0),(5, .d (.int .i64 i)),(6, .d (wD (g8 S i))),(20, .d (.agg (s8R S))),(21, .d (.int .i64 i)),(25, .d (.int .i64 j))],[(2, .cells 32 (oC S (4 * i+j))),(92, .glob 1 1 (uI.map aTi))])) (λj=>j<=4) (λj=>4 - j) 0 (by omega) ⟨qB,qB⟩ ?_
  intro j hj
  refine qX ?_;intros
  refine aA (λz=> ?_) (λz=> ?_)
  ·have f:j < 4:=by omega
   have h0:(0:Int)<=24 - 8 * (j:Int):=by omega
   have v:=aYd S (m:=4 * i+j) (by omega)
   have hoff:0+(4 * (i:Int)+(j:Int)).toNat * 1 < (oC S (4 * i+j)).length:=by rw [v];omega
   have s:=aYc S (4 * i+j) _ (by omega) (aSt S i j a f)
   have q:=aYr (g8 S i) (24 - 8 * j) (by omega)
   rw [show ((24 - 8 * j:Nat):Int)=24 - 8 * (j:Int)by omega]at q
   refine qZ ?_;intros
   have g:(oC S (4 * i+j)).set (0+(4 * (i:Int)+(j:Int)).toNat * 1) (.d (.int .u8 (IntKind.u8.wrap (aF1 (wI (g8 S i)) (24 - 8 * (j:Int))))))=oC S (4 * i+(j+1)):=by
    rw [q,show 0+(4 * (i:Int)+(j:Int)).toNat * 1=4 * i+j by omega]
    exact s
   refine⟨j+1,qO,qO, ?_⟩
   dsimp only
   rw [<-g]
   exact⟨qB,qB⟩
  have f:j=4:=by omega
  subst f
  refine qX ?_;intros
  refine⟨i+1,qO,qO, ?_⟩
  dsimp only
  rw [show 4 * (i+1)=4 * i+4 by omega]
  exact⟨qB,qB⟩
 have a:i=8:=by omega
 subst a
 rw [aYe]
 refine qX ?_;intros
 rfl
def aOz (b:List UInt8) (k:Nat):List UInt8:=b++[128]++List.replicate k 0
theorem aWf (b:List UInt8) (k:Nat):(aOz b k).length=b.length+1+k:=by
 unfold aOz
 simp only [List.length_append,List.length_replicate,List.length_singleton]
theorem aSr (b:List UInt8) (k:Nat):aOz b (k+1)=aOz b k++[0]:=by
 unfold aOz
 rw [List.replicate_succ',List.append_assoc,List.append_assoc,List.append_assoc]
theorem aWd (b:List UInt8) (hb:b.length<=1000000000000):vZ Tryz.prog 122 [.d (.sl 1 (b.map aN))] 5 (aFm b):=by
 refine mX ?_
 have s:(b.map aN).length=b.length:=List.length_map ..
 have hzl:=aAg b.length
 refine aG false [] hty Tryz.func122 rfl (kp [0,2,3,4,5,14,23]) 100 (by simp [Tryz.f122]) ?_
 ((conv=>whnf);repeat ((first|(refine And.intro (by rw [List.length_append];rfl) ?_)|(refine And.intro (by first|omega|(simp only [List.length_replicate,List.length_append,List.length_set,List.length_cons,List.length_nil,Int.toNat_zero,Nat.mul_one,Nat.zero_add];done)|(simp only [List.length_replicate,List.length_append,List.length_set,List.length_cons,List.length_nil,Int.toNat_zero,Nat.mul_one,Nat.zero_add];omega)) ?_) |(intro m;try simp only [lnS]at m)|refine sI ?_|refine qE_ ?_);conv=>whnf))
 refine aD hty (λk:Nat=>([(0, .d (.sl 1 (b.map aN))),(3, .osl 106 1 ((aOz b k).map aN))],[(106, .own 5 1 ((aOz b k).map aN).length)])) (λk=>k<=aFk b.length) (λk=>aFk b.length - k) 0 (Nat.zero_le _) ?_ ?_
 ·dsimp only
  simp only [aOz,List.length_append,List.length_map,List.length_replicate,List.length_set,List.map_append,List.map_replicate,List.map_cons,List.map_nil,List.replicate_zero,List.nil_append,List.append_nil]
  exact⟨qB,qB⟩
 intro k w
 dsimp only
 have i:=aSp w
 have c:((aOz b k).map aN).length=(aOz b k).length:=List.length_map ..
 have o:=aWf b k
 have p:=aSr b k
 have l:(((aOz b k).map aN).length:Int).tmod 64=(((b.length+1+k) % 64:Nat):Int):=by
  rw [c,o,Int.tmod_eq_emod_of_nonneg (by omega)];omega
 have a:k=aFk b.length->aOz b k=aAh b:= λh=>by rw [h];rfl
 generalize hR:aOz b k=R at *
 ((conv=>whnf);repeat ((first |(intro m;try simp only [lnS]at m)|refine sI ?_|refine qE_ ?_);conv=>whnf))
 refine aC (λg=> ?_) (λg=> ?_)
 ·have q:k < aFk b.length:=by
   rw [l]at g
   have:k≠aFk b.length:= λh=>g (by have:=i.2 h;omega)
   omega
  ((conv=>whnf);repeat ((first|(refine And.intro (by rw [List.length_append];rfl) ?_)|(refine And.intro (by first|omega|(simp only [List.length_replicate,List.length_append,List.length_set,List.length_cons,List.length_nil,c,Nat.mul_one];done)|(simp only [List.length_replicate,List.length_append,List.length_set,List.length_cons,List.length_nil,c,Nat.mul_one];omega)) ?_) |(intro m;try simp only [lnS]at m)|refine sI ?_|refine qE_ ?_);conv=>whnf))
  refine⟨k+1,qO,qO, ?_⟩
  dsimp only
  rw [p]
  simp only [List.length_append,List.map_append,List.map_cons,List.map_nil]
  exact⟨qB,qB⟩
 have q:k=aFk b.length:=by
  rw [l]at g
  exact i.1 (by omega)
 rw [a q]at *
 clear i a hR p l o c g m
 have v:IntKind.u64.wrap (IntKind.u64.wrap ((b.map aN).length:Int)* 8)=((8 * b.length:Nat):Int):=by
  rw [s,gK b.length (by omega),show ((b.length:Nat):Int)* 8=((8 * b.length:Nat):Int)by omega,gK _ (by omega)]
 refine qX ?_;intros
 rw [v]
 have u:=aMc b
 refine aD hty (λj:Nat=>([(3, .osl 106 1 ((aAh b++(beN 8 (8 * b.length)).take j).map aN)),(4, .d (.int .u64 ((8 * b.length:Nat):Int))),(5, .d (.int .i64 (7 - (j:Int))))],[(106, .own 5 1 ((aAh b++(beN 8 (8 * b.length)).take j).map aN).length)])) (λj=>j<=8) (λj=>8 - j) 0 (Nat.zero_le _) ?_ ?_
 ·dsimp only
  rw [List.take_zero,List.append_nil]
  exact⟨qB,qB⟩
 intro j hj
 dsimp only
 have r:((beN 8 (8 * b.length)).take j).length=j:=by rw [List.length_take,aW];omega
 have c:((aAh b++(beN 8 (8 * b.length)).take j).map aN).length=(aAh b++(beN 8 (8 * b.length)).take j).length:=List.length_map ..
 have hmb:(aAh b++(beN 8 (8 * b.length)).take j).length=b.length+1+aFk b.length+j:=by rw [List.length_append,u,r]
 have f:j < 8->(aAh b++(beN 8 (8 * b.length)).take (j+1))=(aAh b++(beN 8 (8 * b.length)).take j)++[UInt8.ofNat ((8 * b.length) / 2 ^ (56 - 8 * j) % 256)]:= λh=>by
  rw [aNj _ _ h,List.append_assoc]
 have t:= λ(h:j < 8)=>bCz (8 * b.length) (56 - 8 * j) (by omega) (by omega)
 have a:j=8->aFm b=aAh b++(beN 8 (8 * b.length)).take j:= λh=>by rw [h];exact aSq b
 generalize hR:aAh b++(beN 8 (8 * b.length)).take j=R at *
 refine qX ?_;intros
 refine aA (λg=> ?_) (λg=> ?_)
 ·have e:j < 8:=by omega
  have h0:(0:Int)<=8 * (7 - (j:Int)):=by omega
  refine qZ ?_;intros
  have n:=t e
  rw [show ((56 - 8 * j:Nat):Int)=8 * (7 - (j:Int))by omega]at n
  rw [n,show (7 - (j:Int) - 1)=7 - ((j+1:Nat):Int)by omega]
  refine⟨j+1,qO,qO, ?_⟩
  dsimp only
  rw [f e]
  simp only [List.length_append,List.map_append,List.map_cons,List.map_nil]
  exact⟨qB,qB⟩
 ·have e:j=8:=by omega
  rw [a e]
  refine qX ?_;intros
  exact .inl ⟨106,_,rfl,rfl,c⟩
theorem aKf (b:List UInt8) (hb:b.length<=1000000000000):Tri Tryz.prog 122 [.d (.sl 1 (b.map aN))] [] (λr=>r= .d (.sl 1 ((aFm b).map aN))):=(aWd b hb).tri
end
section
attribute [local irreducible] aK aF Tri aH YVC cG aT
open Go.RowKit
set_option maxRecDepth 10000
theorem dT (x:UInt32) (n:Nat) (h1:1<=n) (h2:n<=31):Tri Tryz.prog 172 [.d (wD x), .d (.int .i64 (n:Int))] [] (λr=>r= .d (wD (mB n x))):=by
 have h0:(0:Int)<=(n:Int):=by omega
 have h3:(0:Int)<=32 - (n:Int):=by omega
 have a:(32:Int) - (n:Int)=((32 - n:Nat):Int):=by omega
 refine qG [] hty Tryz.func172 [0,1,4] ?_
 (repeat' first|(refine qW ?_;intros)|((conv=>whnf);first|refine dwR ?_|((first|refine aA ?_ ?_|refine aC ?_ ?_)<;>intro hb<;>(first|exact ddX hb|try simp only [lnS]at hb))|(refine aB ?_ ?_<;>intro hb<;>try exact dsX hb)))
 refine congrArg (λz=>SV.d (.int .u32 z)) ?_
 show bits .or .u32 (aF1 (wI x) n) (aF2 (wI x) (32 - n))=_
 rw [a,bDe _ _ (by omega),bDf _ _ (by omega),bBi]
 rfl
end
end Go.Proofs.YtbobcfjlbcgchaaGreatDoor
