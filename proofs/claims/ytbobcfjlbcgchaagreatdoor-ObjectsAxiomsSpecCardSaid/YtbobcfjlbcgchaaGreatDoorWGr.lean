/-
  The walk through the reference's keyword.
  Conditions: none.
-/
import Derived.Test.YtbobcfjlbcgchaaGreatDoorWQr
import Derived.Test.YtbobcfjlbcgchaaGreatDoorWA8
import Derived.Test.YtbobcfjlbcgchaaGreatDoorWOf
import Derived.Test.YtbobcfjlbcgchaaGreatDoorWAr
import Derived.Test.YtbobcfjlbcgchaaGreatDoorWSna
set_option linter.unnecessarySimpa false
set_option linter.unusedSectionVars false
set_option linter.unusedSimpArgs false
set_option linter.unusedVariables false
set_option maxHeartbeats 32000000
namespace Go.Proofs.YtbobcfjlbcgchaaGreatDoor
section
attribute [local irreducible] aK aF Tri aH YVC cG aT
set_option maxRecDepth 10000
def aEe (w:Way):List D:=[.int .i64 w.role, .bool w.strict, .int .i64 w.before, .int .i64 w.many]
def seR (p:Bool×Bool):List D:=[.bool p.1, .bool p.2]
def jQ (n:Nat):List D:=aHr n
abbrev bFy (R:List Str) (G:Adj):D:= .agg [aJq R, .sl 1 (G.map aGf)]
structure CirP (G:Adj) (n start most:Nat) (r:SV):Prop where
 ex:(r= .d .nil/\ ∀L w t,CW (EG G) L w t->w 0=start->¬ L < most)\/ ∃L:List Nat,L≠[]/\r= .d (.sl 1 (L.map jQ))/\(∀i∈L,i < n)/\L.length<=1000000000/\mV (EG G)
theorem aEd {W:List Way}{i:Nat}(h:i < W.length):(W.map aEe)[((i:Nat):Int).toNat]? =some (aEe W[i]):=by
 rw [Int.toNat_natCast,List.getElem?_map,List.getElem?_eq_getElem h];rfl
theorem bAz {G:Adj}{i:Nat}(h:i < G.length):(G.map aGf)[((i:Nat):Int).toNat]? =some (aGf (nZ G i)):=by
 rw [Int.toNat_natCast,List.getElem?_map,List.getElem?_eq_getElem h]
 unfold nZ
 rw [List.getElem?_eq_getElem h];rfl
theorem aZd {l:List (Nat×Bool)}{i:Nat}(h:i < l.length):(l.map aQc)[((i:Nat):Int).toNat]? =some (aQc l[i]):=by
 rw [Int.toNat_natCast,List.getElem?_map,List.getElem?_eq_getElem h];rfl
theorem bBu {S:List (Bool×Bool)}{i:Nat}(h:i < S.length):(S.map seR)[((i:Nat):Int).toNat]? =some (seR S[i]):=by
 rw [Int.toNat_natCast,List.getElem?_map,List.getElem?_eq_getElem h];rfl
structure ManyOk (W:List Way):Prop where
 le: ∀(i:Nat) w,W[i]? =some w->w.many<=i
theorem aL3 (R:List Str) (G:Adj) (start most:Nat) (hs:start < R.length) (hG:G.length=R.length) (hb: ∀i,∀p∈nZ G i,p.1 < R.length) (hl:R.length<=400000) (hm:most<=1000000000):
  Tri Tryz.prog 110 [.d (bFy R G), .d (.int .i64 start), .d (.int .i64 most)] [] (CirP G R.length start most):=by
 refine qG [3,10,12] hty Tryz.func110 [0,1,2,3,6,7,8,9,10,12,13,14,29,40,46,47,48,49,64,66,86,93] ?_
 refine qX ?_;intros
 refine aRx hty ?_
 refine qX ?_;intros
 have b8:((R.map bJ).length:Int).toNat=R.length:=by rw [List.length_map];rfl
 rw [b8]
 refine⟨(List.length_replicate ..).symm,[.bool false, .bool false],by rw [List.getElem?_replicate,if_pos (by omega)], ?_⟩
 refine qX ?_;intros
 have a4:(List.replicate R.length [D.bool false, .bool false]).set start [.bool true, .bool false]=((List.replicate R.length (false,false)).set start (true,false)).map seR:=by
  rw [List.map_set,List.map_replicate];rfl
 refine aD hty (λy:Nat×List Way×List (Bool×Bool)=>([(1, .d (.int .i64 start)),(2, .d (.int .i64 most)),(3, .ea 2 [[aJq R, .sl 1 (G.map aGf)]] 0 0),(6, .d .nil),(7, .osl 17 4 (y.2.1.map aEe)),(8, .mw 21 2 R.length),(9, .d (.int .i64 y.1))],[(21, .mrow 222 2 R.length (y.2.2.map seR)),(17, .own 219 4 (y.2.1.map aEe).length)]))
  (λy=>Bfs G R.length start y.1 0 y.2.1 y.2.2/\ManyOk y.2.1/\y.1<=y.2.1.length) (λy=>2 * R.length - y.1) (0,[⟨start,false,0,0⟩],(List.replicate R.length (false,false)).set start (true,false)) ⟨Bfs.init hs,⟨λi w h=> ?_⟩,Nat.zero_le _⟩ ⟨qB,congrArg (λr=>some (HObj.mrow 222 2 R.length r)) a4,rfl,trivial⟩ ?_
 ·have hi:=(List.getElem?_eq_some_iff.1 h).1
  have hi:i=0:=by simpa using hi
  subst hi
  simp at h
  subst h
  exact Nat.le_refl _
 rintro⟨f,W,S⟩ ⟨E,H,b4⟩
 dsimp only at E H b4
 have a5:=E.len
 have a3:=E.few
 have Y:(W.map aEe).length=W.length:=List.length_map ..
 refine qX ?_;intros
 refine aA (λh1=> ?_) (λh1=> ?_)
 ·have a1:f < W.length:=by
   have h1:(f:Int) < ((W.map aEe).length:Nat):=h1
   omega
  have a2:=aEd a1
  have b:W[f]? =some W[f]:=List.getElem?_eq_getElem a1
  have a8:=H.le _ _ b
  have J:=E.sound _ (List.getElem_mem a1)
  obtain⟨w,hw⟩: ∃w,w=W[f]:=⟨_,rfl⟩
  rw [<-hw]at a2 b a8 J
  clear hw
  refine qZ ?_;intros
  refine aA (λh2=> ?_) (λh2=> ?_)
  ·(repeat' first|(refine qW ?_;intros)|((conv=>whnf);first|refine dwR ?_|((first|refine aA ?_ ?_|refine aC ?_ ?_)<;>intro hb<;>(first|exact ddX hb|try simp only [lnS]at hb))|(refine aB ?_ ?_<;>intro hb<;>try exact dsX hb)))
   exact⟨.inl ⟨rfl,E.none λw' I=>by rw [b]at I;injection I with I;subst I;omega⟩⟩
  have b7:=J.2
  have M:=bAz (G:=G) (i:=w.role) (by omega)
  have a6:=hb w.role
  obtain⟨A,hA⟩: ∃A,A=nZ G w.role:=⟨_,rfl⟩
  rw [<-hA]at M a6
  refine qZ ?_;intros
  rw [show (A.map aQc).length=A.length from List.length_map ..]
  clear M
  refine aD hty (λy:Nat×List Way×List (Bool×Bool)=>([(1, .d (.int .i64 start)),(2, .d (.int .i64 most)),(3, .ea 2 [[aJq R, .sl 1 (G.map aGf)]] 0 0),(6, .d .nil),(7, .osl 17 4 (y.2.1.map aEe)),(8, .mw 21 2 R.length),(9, .d (.int .i64 f)),(10, .ea 4 [aEe w] 0 0),(46, .d (.sl 2 (A.map aQc))),(47, .d (.int .i64 A.length)),(48, .d (.int .i64 y.1))],[(21, .mrow 222 2 R.length (y.2.2.map seR)),(17, .own 219 4 (y.2.1.map aEe).length)]))
   (λy=>Bfs G R.length start f y.1 y.2.1 y.2.2/\ManyOk y.2.1/\y.2.1[f]? =some w/\y.1<=A.length) (λy=>A.length - y.1) (0,W,S) ⟨E,H,b,Nat.zero_le _⟩ ⟨qB,qB⟩ ?_
  clear E H b a5 a3 Y b4 h1 a1 a2 J
  rintro⟨k,W,S⟩ ⟨E,H,b,c2⟩
  dsimp only at E H b c2
  have a5:=E.len
  have a3:=E.few
  have Y:(W.map aEe).length=W.length:=List.length_map ..
  have b6:f < W.length:=(List.getElem?_eq_some_iff.1 b).1
  refine qX ?_;intros
  refine aA (λh3=> ?_) (λh3=> ?_)
  ·have Z:k < A.length:=by dsimp only at h3;omega
   have hrowk:=aZd Z
   have b3:A[k]? =some A[k]:=List.getElem?_eq_getElem Z
   have a7:=a6 _ (List.getElem_mem Z)
   have c1:A[k]∈A:=List.getElem_mem Z
   generalize A[k]=p at *
   obtain⟨j,t⟩:=p
   dsimp only at a7
   have a9:(nZ G w.role)[k]? =some (j,t):=by rw [<-hA];exact b3
   have l:=E.skip b a9
   have g:=E.push b a7 a9
   have s: ∀(e:j=start),(w.strict || t)=true->mV (EG G):= λe=>by
    subst e
    exact E.found (List.mem_of_getElem? b) (by unfold EG;rw [<-hA];exact c1)
   have hrowj:=bBu (S:=S) (i:=j) (by omega)
   have b0:S[j]? =some S[j]:=List.getElem?_eq_getElem (by omega)
   obtain⟨ro,st,be,ma⟩:=w
   dsimp only at l g s a8 b7
   have F: ∀v,sT S j v=aZf S[j] v:= λv=>by unfold sT;rw [b0];rfl
   rw [b0]at g
   simp only [Option.getD_some]at g
   generalize S[j]=q at *
   obtain⟨b1,b2⟩:=q
   have hsl:R.length=(S.map seR).length:=by rw [List.length_map,a5]
   have hb63:(W.map aEe).length+1<=9223372036854775807:=by rw [Y];omega
   have hb48:((W.map aEe).length+1)* 32<=140737488355328:=by rw [Y];omega
   have O : ∀ v, ManyOk (W ++ [⟨j, v, f, ma + 1⟩]) := λv => ⟨λi x hx => by
    rw [List.getElem?_append]at hx
    split at hx
    ·exact H.le i x hx
    ·rename_i hi
     have b9:=(List.getElem?_eq_some_iff.1 hx).1
     simp only [List.length_singleton]at b9
     rw [show i - W.length=0 by omega]at hx
     simp at hx
     subst hx
     dsimp only
     omega⟩
   have P: ∀x,(W++[x])[f]? =some ⟨ro,st,be,ma⟩:= λx=>by rw [List.getElem?_append_left b6];exact b
   cases st<;>cases t
   ·refine qZ ?_;intros
    refine aA (λo=> ?_) (λo=> ?_)
    ·cases b1
     ·(repeat' first|(refine qW ?_;intros)|((conv=>whnf);first|refine dwR ?_|((first|refine aA ?_ ?_|refine aC ?_ ?_)<;>intro hb<;>(first|exact ddX hb|try simp only [lnS]at hb))|(refine aB ?_ ?_<;>intro hb<;>try exact dsX hb)))
      refine⟨(k+1,W++[⟨j,false,f,ma+1⟩],S.set j (aHx (false,b2) false)),⟨g (by simp) (by rw [F];rfl),O false,P _,qO⟩,qO, ?_⟩
      dsimp only
      rw [List.map_append,List.map_set,List.length_append]
      exact⟨qB,qB⟩
     ·(repeat' first|(refine qW ?_;intros)|((conv=>whnf);first|refine dwR ?_|((first|refine aA ?_ ?_|refine aC ?_ ?_)<;>intro hb<;>(first|exact ddX hb|try simp only [lnS]at hb))|(refine aB ?_ ?_<;>intro hb<;>try exact dsX hb)))
      exact⟨(k+1,W,S),⟨l (by simp) (by rw [F];rfl),H,b,qO⟩,qO,⟨qB,qB⟩⟩
    ·cases b1
     ·(repeat' first|(refine qW ?_;intros)|((conv=>whnf);first|refine dwR ?_|((first|refine aA ?_ ?_|refine aC ?_ ?_)<;>intro hb<;>(first|exact ddX hb|try simp only [lnS]at hb))|(refine aB ?_ ?_<;>intro hb<;>try exact dsX hb)))
      refine⟨(k+1,W++[⟨j,false,f,ma+1⟩],S.set j (aHx (false,b2) false)),⟨g (by simp) (by rw [F];rfl),O false,P _,qO⟩,qO, ?_⟩
      dsimp only
      rw [List.map_append,List.map_set,List.length_append]
      exact⟨qB,qB⟩
     ·(repeat' first|(refine qW ?_;intros)|((conv=>whnf);first|refine dwR ?_|((first|refine aA ?_ ?_|refine aC ?_ ?_)<;>intro hb<;>(first|exact ddX hb|try simp only [lnS]at hb))|(refine aB ?_ ?_<;>intro hb<;>try exact dsX hb)))
      exact⟨(k+1,W,S),⟨l (by simp) (by rw [F];rfl),H,b,qO⟩,qO,⟨qB,qB⟩⟩
   ·refine qZ ?_;intros
    refine aA (λo=> ?_) (λo=> ?_)
    ·have K:j=start:=by have o:(j:Int)=start:=o;omega
     have B:=s K rfl
     refine qX ?_;intros
     refine aK.mown 6 76 3 1 rfl (bQ (by with_unfolding_all exact rfl)) ?_
     refine aD hty (λy:Nat×List Nat×Nat=>([(1, .d (.int .i64 start)),(6, .mw 76 1 y.2.1.length),(7, .osl 17 4 (W.map aEe)),(9, .d (.int .i64 y.1))],[(76, .mrow 3 1 y.2.2 (y.2.1.map jQ)),(17, .own 219 4 (W.map aEe).length)])) (λy=>y.1+y.2.1.length<=f/\ ∀i∈y.2.1,i < R.length) (λy=>y.1) (f,[],0) ⟨by dsimp only;simp,by simp⟩ ⟨qB,qB⟩ ?_
     rintro⟨a,L,cap⟩ ⟨ha,V⟩
     dsimp only at ha V
     have c:(L.map jQ).length=L.length:=List.length_map ..
     have m:(L.map jQ).length+1<=9223372036854775807:=by rw [c];omega
     have n:((L.map jQ).length+1)* 8<=140737488355328:=by rw [c];omega
     refine qX ?_;intros
     refine aA (λh5=> ?_) (λh5=> ?_)
     ·have u:a < W.length:=by omega
      have C:=aEd u
      have b5:=E.before a _ (List.getElem?_eq_getElem u) (by dsimp only at h5;omega)
      have T:=(E.sound _ (List.getElem_mem u)).2
      generalize W[a]=x at *
      have z:(L++[x.role]).map jQ=L.map jQ++[jQ x.role]:=by rw [List.map_append];rfl
      ((conv=>whnf);repeat ((first|(refine⟨_,C, ?_⟩)|(refine And.intro c.symm ?_)|(refine And.intro m ?_)|(refine And.intro n ?_) |(intro U;try simp only [lnS]at U)|refine sI ?_|refine qE_ ?_);conv=>whnf))
      rename_i cap'
      refine⟨(x.before,L++[x.role],cap'),⟨by dsimp only;rw [List.length_append,List.length_singleton];omega,λi hi=> ?_⟩,qO, ?_⟩
      ·rcases List.mem_append.1 hi with hi|hi
       ·exact V i hi
       ·simp at hi;subst hi;exact T
      ·dsimp only
       rw [z,List.length_append,<-c]
       exact⟨qB,qB⟩
     ·have z:L.map jQ++[jQ start]=((L++[start]).map λi:Nat=>(i:Int)).map aHr:=by
       rw [List.map_map,List.map_append];rfl
      have Q:(L.map jQ).length+1=((L++[start]).map λi:Nat=>(i:Int)).length:=by simp
      ((conv=>whnf);repeat ((first|(refine And.intro c.symm ?_)|(refine And.intro m ?_)|(refine And.intro n ?_) |(intro U;try simp only [lnS]at U)|refine sI ?_|refine qE_ ?_);conv=>whnf))
      rename_i cap'
      have N:(((L++[start]).map λi:Nat=>(i:Int)).reverse).map aHr=((L++[start]).reverse).map jQ:=by
       rw [<-List.map_reverse,List.map_map];rfl
      refine aF.sub (hp':=[(76, .mrow 3 1 cap' (((L++[start]).map λi:Nat=>(i:Int)).map aHr))]) ⟨congrArg (λr=>some (HObj.mrow 3 1 cap' r)) z,trivial⟩ ?_
      show aF _ _ _ _ _ [SV.mw 76 1 ((L.map jQ).length+1)] _
      rw [Q]
      refine aF7 _ cap' [] (by simp;omega) ?_
      rw [N]
      (repeat' first|(refine qW ?_;intros)|((conv=>whnf);first|(refine And.intro (show (L.map jQ).length+1=(((L++[start]).reverse).map jQ).length from by simp) ?_)|refine dwR ?_|((first|refine aA ?_ ?_|refine aC ?_ ?_)<;>intro hb<;>(first|exact ddX hb|try simp only [lnS]at hb))|(refine aB ?_ ?_<;>intro hb<;>try exact dsX hb)))
      refine⟨.inr ⟨(L++[start]).reverse,by simp,rfl,λi hi=> ?_,by simp;omega,B⟩⟩
      rw [List.mem_reverse]at hi
      rcases List.mem_append.1 hi with hi|hi
      ·exact V i hi
      ·simp at hi;subst hi;exact hs
    ·replace o:¬ (j:Int)=start:=o
     cases b2
     ·(repeat' first|(refine qW ?_;intros)|((conv=>whnf);first|refine dwR ?_|((first|refine aA ?_ ?_|refine aC ?_ ?_)<;>intro hb<;>(first|exact ddX hb|try simp only [lnS]at hb))|(refine aB ?_ ?_<;>intro hb<;>try exact dsX hb)))
      refine⟨(k+1,W++[⟨j,true,f,ma+1⟩],S.set j (aHx (b1,false) true)),⟨g (λh=>o (by rw [h.1])) (by rw [F];rfl),O true,P _,qO⟩,qO, ?_⟩
      dsimp only
      rw [List.map_append,List.map_set,List.length_append]
      exact⟨qB,qB⟩
     ·(repeat' first|(refine qW ?_;intros)|((conv=>whnf);first|refine dwR ?_|((first|refine aA ?_ ?_|refine aC ?_ ?_)<;>intro hb<;>(first|exact ddX hb|try simp only [lnS]at hb))|(refine aB ?_ ?_<;>intro hb<;>try exact dsX hb)))
      exact⟨(k+1,W,S),⟨l (λh=>o (by rw [h.1])) (by rw [F];rfl),H,b,qO⟩,qO,⟨qB,qB⟩⟩
   ·refine qZ ?_;intros
    refine aA (λo=> ?_) (λo=> ?_)
    ·have K:j=start:=by have o:(j:Int)=start:=o;omega
     have B:=s K rfl
     refine qX ?_;intros
     refine aK.mown 6 76 3 1 rfl (bQ (by with_unfolding_all exact rfl)) ?_
     refine aD hty (λy:Nat×List Nat×Nat=>([(1, .d (.int .i64 start)),(6, .mw 76 1 y.2.1.length),(7, .osl 17 4 (W.map aEe)),(9, .d (.int .i64 y.1))],[(76, .mrow 3 1 y.2.2 (y.2.1.map jQ)),(17, .own 219 4 (W.map aEe).length)])) (λy=>y.1+y.2.1.length<=f/\ ∀i∈y.2.1,i < R.length) (λy=>y.1) (f,[],0) ⟨by dsimp only;simp,by simp⟩ ⟨qB,qB⟩ ?_
     rintro⟨a,L,cap⟩ ⟨ha,V⟩
     dsimp only at ha V
     have c:(L.map jQ).length=L.length:=List.length_map ..
     have m:(L.map jQ).length+1<=9223372036854775807:=by rw [c];omega
     have n:((L.map jQ).length+1)* 8<=140737488355328:=by rw [c];omega
     refine qX ?_;intros
     refine aA (λh5=> ?_) (λh5=> ?_)
     ·have u:a < W.length:=by omega
      have C:=aEd u
      have b5:=E.before a _ (List.getElem?_eq_getElem u) (by dsimp only at h5;omega)
      have T:=(E.sound _ (List.getElem_mem u)).2
      generalize W[a]=x at *
      have z:(L++[x.role]).map jQ=L.map jQ++[jQ x.role]:=by rw [List.map_append];rfl
      ((conv=>whnf);repeat ((first|(refine⟨_,C, ?_⟩)|(refine And.intro c.symm ?_)|(refine And.intro m ?_)|(refine And.intro n ?_) |(intro U;try simp only [lnS]at U)|refine sI ?_|refine qE_ ?_);conv=>whnf))
      rename_i cap'
      refine⟨(x.before,L++[x.role],cap'),⟨by dsimp only;rw [List.length_append,List.length_singleton];omega,λi hi=> ?_⟩,qO, ?_⟩
      ·rcases List.mem_append.1 hi with hi|hi
       ·exact V i hi
       ·simp at hi;subst hi;exact T
      ·dsimp only
       rw [z,List.length_append,<-c]
       exact⟨qB,qB⟩
     ·have z:L.map jQ++[jQ start]=((L++[start]).map λi:Nat=>(i:Int)).map aHr:=by
       rw [List.map_map,List.map_append];rfl
      have Q:(L.map jQ).length+1=((L++[start]).map λi:Nat=>(i:Int)).length:=by simp
      ((conv=>whnf);repeat ((first|(refine And.intro c.symm ?_)|(refine And.intro m ?_)|(refine And.intro n ?_) |(intro U;try simp only [lnS]at U)|refine sI ?_|refine qE_ ?_);conv=>whnf))
      rename_i cap'
      have N:(((L++[start]).map λi:Nat=>(i:Int)).reverse).map aHr=((L++[start]).reverse).map jQ:=by
       rw [<-List.map_reverse,List.map_map];rfl
      refine aF.sub (hp':=[(76, .mrow 3 1 cap' (((L++[start]).map λi:Nat=>(i:Int)).map aHr))]) ⟨congrArg (λr=>some (HObj.mrow 3 1 cap' r)) z,trivial⟩ ?_
      show aF _ _ _ _ _ [SV.mw 76 1 ((L.map jQ).length+1)] _
      rw [Q]
      refine aF7 _ cap' [] (by simp;omega) ?_
      rw [N]
      (repeat' first|(refine qW ?_;intros)|((conv=>whnf);first|(refine And.intro (show (L.map jQ).length+1=(((L++[start]).reverse).map jQ).length from by simp) ?_)|refine dwR ?_|((first|refine aA ?_ ?_|refine aC ?_ ?_)<;>intro hb<;>(first|exact ddX hb|try simp only [lnS]at hb))|(refine aB ?_ ?_<;>intro hb<;>try exact dsX hb)))
      refine⟨.inr ⟨(L++[start]).reverse,by simp,rfl,λi hi=> ?_,by simp;omega,B⟩⟩
      rw [List.mem_reverse]at hi
      rcases List.mem_append.1 hi with hi|hi
      ·exact V i hi
      ·simp at hi;subst hi;exact hs
    ·replace o:¬ (j:Int)=start:=o
     cases b2
     ·(repeat' first|(refine qW ?_;intros)|((conv=>whnf);first|refine dwR ?_|((first|refine aA ?_ ?_|refine aC ?_ ?_)<;>intro hb<;>(first|exact ddX hb|try simp only [lnS]at hb))|(refine aB ?_ ?_<;>intro hb<;>try exact dsX hb)))
      refine⟨(k+1,W++[⟨j,true,f,ma+1⟩],S.set j (aHx (b1,false) true)),⟨g (λh=>o (by rw [h.1])) (by rw [F];rfl),O true,P _,qO⟩,qO, ?_⟩
      dsimp only
      rw [List.map_append,List.map_set,List.length_append]
      exact⟨qB,qB⟩
     ·(repeat' first|(refine qW ?_;intros)|((conv=>whnf);first|refine dwR ?_|((first|refine aA ?_ ?_|refine aC ?_ ?_)<;>intro hb<;>(first|exact ddX hb|try simp only [lnS]at hb))|(refine aB ?_ ?_<;>intro hb<;>try exact dsX hb)))
      exact⟨(k+1,W,S),⟨l (λh=>o (by rw [h.1])) (by rw [F];rfl),H,b,qO⟩,qO,⟨qB,qB⟩⟩
   ·refine qZ ?_;intros
    refine aA (λo=> ?_) (λo=> ?_)
    ·have K:j=start:=by have o:(j:Int)=start:=o;omega
     have B:=s K rfl
     refine qX ?_;intros
     refine aK.mown 6 76 3 1 rfl (bQ (by with_unfolding_all exact rfl)) ?_
     refine aD hty (λy:Nat×List Nat×Nat=>([(1, .d (.int .i64 start)),(6, .mw 76 1 y.2.1.length),(7, .osl 17 4 (W.map aEe)),(9, .d (.int .i64 y.1))],[(76, .mrow 3 1 y.2.2 (y.2.1.map jQ)),(17, .own 219 4 (W.map aEe).length)])) (λy=>y.1+y.2.1.length<=f/\ ∀i∈y.2.1,i < R.length) (λy=>y.1) (f,[],0) ⟨by dsimp only;simp,by simp⟩ ⟨qB,qB⟩ ?_
     rintro⟨a,L,cap⟩ ⟨ha,V⟩
     dsimp only at ha V
     have c:(L.map jQ).length=L.length:=List.length_map ..
     have m:(L.map jQ).length+1<=9223372036854775807:=by rw [c];omega
     have n:((L.map jQ).length+1)* 8<=140737488355328:=by rw [c];omega
     refine qX ?_;intros
     refine aA (λh5=> ?_) (λh5=> ?_)
     ·have u:a < W.length:=by omega
      have C:=aEd u
      have b5:=E.before a _ (List.getElem?_eq_getElem u) (by dsimp only at h5;omega)
      have T:=(E.sound _ (List.getElem_mem u)).2
      generalize W[a]=x at *
      have z:(L++[x.role]).map jQ=L.map jQ++[jQ x.role]:=by rw [List.map_append];rfl
      ((conv=>whnf);repeat ((first|(refine⟨_,C, ?_⟩)|(refine And.intro c.symm ?_)|(refine And.intro m ?_)|(refine And.intro n ?_) |(intro U;try simp only [lnS]at U)|refine sI ?_|refine qE_ ?_);conv=>whnf))
      rename_i cap'
      refine⟨(x.before,L++[x.role],cap'),⟨by dsimp only;rw [List.length_append,List.length_singleton];omega,λi hi=> ?_⟩,qO, ?_⟩
      ·rcases List.mem_append.1 hi with hi|hi
       ·exact V i hi
       ·simp at hi;subst hi;exact T
      ·dsimp only
       rw [z,List.length_append,<-c]
       exact⟨qB,qB⟩
     ·have z:L.map jQ++[jQ start]=((L++[start]).map λi:Nat=>(i:Int)).map aHr:=by
       rw [List.map_map,List.map_append];rfl
      have Q:(L.map jQ).length+1=((L++[start]).map λi:Nat=>(i:Int)).length:=by simp
      ((conv=>whnf);repeat ((first|(refine And.intro c.symm ?_)|(refine And.intro m ?_)|(refine And.intro n ?_) |(intro U;try simp only [lnS]at U)|refine sI ?_|refine qE_ ?_);conv=>whnf))
      rename_i cap'
      have N:(((L++[start]).map λi:Nat=>(i:Int)).reverse).map aHr=((L++[start]).reverse).map jQ:=by
       rw [<-List.map_reverse,List.map_map];rfl
      refine aF.sub (hp':=[(76, .mrow 3 1 cap' (((L++[start]).map λi:Nat=>(i:Int)).map aHr))]) ⟨congrArg (λr=>some (HObj.mrow 3 1 cap' r)) z,trivial⟩ ?_
      show aF _ _ _ _ _ [SV.mw 76 1 ((L.map jQ).length+1)] _
      rw [Q]
      refine aF7 _ cap' [] (by simp;omega) ?_
      rw [N]
      (repeat' first|(refine qW ?_;intros)|((conv=>whnf);first|(refine And.intro (show (L.map jQ).length+1=(((L++[start]).reverse).map jQ).length from by simp) ?_)|refine dwR ?_|((first|refine aA ?_ ?_|refine aC ?_ ?_)<;>intro hb<;>(first|exact ddX hb|try simp only [lnS]at hb))|(refine aB ?_ ?_<;>intro hb<;>try exact dsX hb)))
      refine⟨.inr ⟨(L++[start]).reverse,by simp,rfl,λi hi=> ?_,by simp;omega,B⟩⟩
      rw [List.mem_reverse]at hi
      rcases List.mem_append.1 hi with hi|hi
      ·exact V i hi
      ·simp at hi;subst hi;exact hs
    ·replace o:¬ (j:Int)=start:=o
     cases b2
     ·(repeat' first|(refine qW ?_;intros)|((conv=>whnf);first|refine dwR ?_|((first|refine aA ?_ ?_|refine aC ?_ ?_)<;>intro hb<;>(first|exact ddX hb|try simp only [lnS]at hb))|(refine aB ?_ ?_<;>intro hb<;>try exact dsX hb)))
      refine⟨(k+1,W++[⟨j,true,f,ma+1⟩],S.set j (aHx (b1,false) true)),⟨g (λh=>o (by rw [h.1])) (by rw [F];rfl),O true,P _,qO⟩,qO, ?_⟩
      dsimp only
      rw [List.map_append,List.map_set,List.length_append]
      exact⟨qB,qB⟩
     ·(repeat' first|(refine qW ?_;intros)|((conv=>whnf);first|refine dwR ?_|((first|refine aA ?_ ?_|refine aC ?_ ?_)<;>intro hb<;>(first|exact ddX hb|try simp only [lnS]at hb))|(refine aB ?_ ?_<;>intro hb<;>try exact dsX hb)))
      exact⟨(k+1,W,S),⟨l (λh=>o (by rw [h.1])) (by rw [F];rfl),H,b,qO⟩,qO,⟨qB,qB⟩⟩
  ·have hkA2:k=A.length:=by dsimp only at h3;omega
   (repeat' first|(refine qW ?_;intros)|((conv=>whnf);first|refine dwR ?_|((first|refine aA ?_ ?_|refine aC ?_ ?_)<;>intro hb<;>(first|exact ddX hb|try simp only [lnS]at hb))|(refine aB ?_ ?_<;>intro hb<;>try exact dsX hb)))
   refine⟨(f+1,W,S),⟨E.next b (by rw [<-hA];omega),H,qO⟩,qO,⟨qB,qB⟩⟩
 ·(repeat' first|(refine qW ?_;intros)|((conv=>whnf);first|refine dwR ?_|((first|refine aA ?_ ?_|refine aC ?_ ?_)<;>intro hb<;>(first|exact ddX hb|try simp only [lnS]at hb))|(refine aB ?_ ?_<;>intro hb<;>try exact dsX hb)))
  refine⟨.inl ⟨rfl,E.none λw' I=> ?_⟩⟩
  have h2:=(List.getElem?_eq_some_iff.1 I).1
  have h1:¬ (f:Int) < ((W.map aEe).length:Nat):=h1
  omega
end
section
def aUv (g:Int->List UInt8->List UInt8) (k:Int) (n:List UInt8):List UInt8:=
 if k=3 then g 1 n else if k=6 then g 2 n else if k=7 then g 3 n else if k=4 then g 4 n else n
mutual
def cT (g:Int->List UInt8->List UInt8):Cn->Cn
 | .mk k n lo hi ps=> .mk k (aUv g k n) lo hi (bDg g ps)
def bDg (g:Int->List UInt8->List UInt8):List Cn->List Cn
 | []=>[]
 |c::r=>cT g c::bDg g r
end
theorem aM4 (g:Int->List UInt8->List UInt8): ∀l,bDg g l=l.map (cT g)
 | []=>rfl
 |c::r=>by rw [bDg,aM4 g r];rfl
theorem lP (g:Int->List UInt8->List UInt8) (c:Cn):cT g c= .mk c.kind (aUv g c.kind c.name) c.lo c.hi (c.parts.map (cT g)):=by
 cases c;rw [cT,aM4];rfl
theorem cZ (g:Int->List UInt8->List UInt8) (c:Cn):(cT g c).kind=c.kind:=by rw [lP];rfl
theorem dD (g:Int->List UInt8->List UInt8) (c:Cn):(cT g c).parts=c.parts.map (cT g):=by rw [lP];rfl
theorem aSe (g:Int->List UInt8->List UInt8) (c:Cn):(cT g c).name=aUv g c.kind c.name:=by rw [lP];rfl
def aBw (g:Int->List UInt8->List UInt8) (x:Ax):Ax:={ x with left:=cT g x.left,right:=cT g x.right,roles:=x.roles.map (g 2),role:=g 2 x.role,a:=g 4 x.a,b:=g 4 x.b }
theorem aU7 (s:List Cn):(eV s).2=0\/(eV s).2=2:=by
 unfold eV
 split
 ·exact .inl rfl
 ·split
  ·exact .inl rfl
  ·split
   ·exact .inl rfl
   ·split
    ·exact .inr rfl
    ·exact .inl rfl
theorem aRb: ∀c:Cn,(aI c).2=0\/(aI c).2=2:=by
 refine Cn.ind ?_
 intro c a
 rw [eX]
 split
 ·cases hps:c.parts with
  |nil=>exact .inl rfl
  |cons p r=>
   simp only [List.map_cons,uG]
   have:=a p (by rw [hps];simp)
   split
   ·exact this
   ·exact .inl rfl
 ·split
  ·unfold kI
   split
   ·rename_i r d
    have b:=List.mem_of_find?_eq_some d
    obtain⟨p,hp,rfl⟩:=List.mem_map.1 b
    exact a p hp
   ·exact aU7 _
  ·exact .inl rfl
def kW (l:List Cn):List Cn:=(l.map aI).flatMap λr=>bS r.1
theorem dP {x:Cn}{l:List Cn}:x∈kW l↔ ∃p∈l,x∈bS (aI p).1:=by
 unfold kW
 rw [List.mem_flatMap]
 constructor
 ·rintro⟨r,a,hx⟩
  obtain⟨p,hp,rfl⟩:=List.mem_map.1 a
  exact⟨p,hp,hx⟩
 ·rintro⟨p,hp,hx⟩
  exact⟨_,List.mem_map_of_mem hp,hx⟩
theorem aMo {l:List Cn}(h: ∃p∈l,(aI p).2≠0):kI (l.map aI)=(c0,2):=by
 unfold kI
 split
 ·rename_i r a
  have c:=List.mem_of_find?_eq_some a
  have b:=List.find?_some a
  obtain⟨p,hp,rfl⟩:=List.mem_map.1 c
  simp only [decide_eq_true_eq]at b
  rw [(aRb p).resolve_left b]
 ·rename_i d
  obtain⟨p,hp,h⟩:=h
  have:=List.find?_eq_none.1 d (aI p) (List.mem_map_of_mem hp)
  simp only [decide_eq_true_eq,ne_eq,Classical.not_not]at this
  exact absurd this h
theorem kH {l:List Cn}(h: ∀p∈l,(aI p).2=0):kI (l.map aI)=eV (nR (kW l)):=by
 unfold kI
 split
 ·rename_i r a
  have c:=List.mem_of_find?_eq_some a
  have b:=List.find?_some a
  obtain⟨p,hp,rfl⟩:=List.mem_map.1 c
  simp only [decide_eq_true_eq]at b
  exact absurd (h p hp) b
 ·rfl
theorem mH {l:List Cn}(h:(kI (l.map aI)).2=0): ∀p∈l,(aI p).2=0:= λp hp=>Classical.byContradiction λa=>by
 rw [aMo ⟨p,hp,a⟩]at h
 exact absurd h (by decide)
theorem vI: ∀c:Cn,(aI c).2=0-> ∀m∈bS (aI c).1,m.kind≠1/\m.kind≠5:=by
 refine Cn.ind ?_
 intro c h b
 have a: ∀x:Cn,x.kind≠5-> ∀m∈bS x,m.kind≠1/\m.kind≠5:= λx e m d=>by
  unfold bS at d
  split at d
  ·simp at d
  ·rename_i k
   have d:m∈[x]:=by simpa only [if_neg e]using d
   simp only [List.mem_singleton]at d
   subst d
   exact⟨k,e⟩
 rw [eX]at b |-
 split
 ·rename_i g
  rw [if_pos g]at b
  cases hps:c.parts with
  |nil=>exact a _ (by show (0:Int)≠5;decide)
  |cons p r=>
   rw [hps]at b
   simp only [List.map_cons,uG]at b |-
   split
   ·rename_i hb
    rw [if_pos hb]at b
    have j:(aI p).1.kind=2:=by rcases hb with hb|hb;exact absurd b hb;exact hb
    exact a _ (by rw [j];decide)
   ·exact a _ (by show (6:Int)≠5;decide)
 ·rename_i g
  rw [if_neg g]at b
  split
  ·rename_i e
   rw [if_pos e]at b
   have hz:=mH b
   rw [kH hz]at b |-
   have f: ∀m∈nR (kW c.parts),m.kind≠1/\m.kind≠5:= λm d=>by
    rw [dX,dP]at d
    obtain⟨p,hp,d⟩:=d
    exact h p hp (hz p hp) m d
   generalize nR (kW c.parts)=s at b f |-
   unfold eV at b |-
   split
   ·rename_i t n
    have:=List.find?_some n
    simp only [decide_eq_true_eq]at this
    exact a _ (by show t.kind≠5;rw [this];decide)
   ·rename_i l
    rw [l]at b
    simp only at b
    split
    ·exact a _ (by show (1:Int)≠5;decide)
    ·rename_i i
     rw [if_neg i]at b
     split
     ·rename_i e1
      match s,e1,f with
      | [x],_,f=>exact a x (f x (by simp)).2
     ·rename_i e1
      rw [if_neg e1]at b
      split
      ·rename_i e2;rw [if_pos e2]at b;exact absurd b (by decide)
      ·intro m d
       rw [show bS (.mk 5 [] 0 0 s)=s from rfl]at d
       exact f m d
  ·rename_i e;exact a c e
theorem aBm {c:Cn}(h:Okn c) (hk:c.kind=2):c= .mk 2 [] 0 0 []:=by
 have a:=((fS c).1 h).1
 rw [mM hk (by decide),iU rfl]at a
 obtain⟨⟨_,j,d⟩,⟨b,f⟩,_⟩:=a
 obtain⟨k,n,lo,hi,ps⟩:=c
 have m:k=2:=hk
 have q2:(ps.length:Int)<=0:=j
 have g:n=[]:=d rfl
 have e:lo=0:=b
 have l:hi=0:=f
 have i:ps=[]:=List.eq_nil_of_length_eq_zero (by omega)
 rw [m,g,e,l,i]
theorem aDe {c m:Cn}(h:Okn c) (hm:m∈bS c):Okn m:=by
 unfold bS at hm
 split at hm
 ·simp at hm
 ·split at hm
  ·exact((fS c).1 h).2 m hm
  ·simp only [List.mem_singleton]at hm;subst hm;exact h
theorem aIu {s:List Cn}(hs: ∀m∈s,Okn m) (h: ∃t∈s,t.kind=2):eV s=(.mk 2 [] 0 0 [],0):=by
 unfold eV
 split
 ·rename_i t a
  have b:=List.find?_some a
  simp only [decide_eq_true_eq]at b
  rw [aBm (hs t (List.mem_of_find?_eq_some a)) b]
 ·rename_i c
  obtain⟨t,a,d⟩:=h
  have:=List.find?_eq_none.1 c t a
  simp only [decide_eq_true_eq]at this
  exact absurd d this
end
section
attribute [local irreducible] aK aF Tri aH YVC cG aT
set_option maxRecDepth 10000
theorem fD (a b:Int):Tri Tryz.prog 113 [.d (.int .i64 a), .d (.int .i64 b)] [] (λr=>r= .d (.int .i64 (nP a b))):=by
 refine qG [] hty Tryz.func113 [0,1,4,7,10] ?_
 (repeat' first|(refine qW ?_;intros)|((conv=>whnf);first|refine dwR ?_|((first|refine aA ?_ ?_|refine aC ?_ ?_)<;>intro hb<;>(first|exact ddX hb|try simp only [lnS]at hb))|(refine aB ?_ ?_<;>intro hb<;>try exact dsX hb)))
 all_goals (refine cM (Eq.symm ?_);unfold nP;simp_all<;>omega)
theorem gQ (a b:List UInt8):Tri Tryz.prog 115 [.d (.str a), .d (.str b)] [] (λr=>r= .d (.int .i64 (hJ a b))):=by
 refine qG [] hty Tryz.func115 [0,1,4,7,10] ?_
 (repeat' first|(refine qW ?_;intros)|((conv=>whnf);first|refine dwR ?_|((first|refine aA ?_ ?_|refine aC ?_ ?_)<;>intro hb<;>(first|exact ddX hb|try simp only [lnS]at hb))|(refine aB ?_ ?_<;>intro hb<;>try exact dsX hb)))
 all_goals (
  refine cM (Eq.symm ?_)
  have hr:=rY a b
  have hz:=eT a b)
 ·rw [bytesLess_eq,decide_eq_true_eq]at hb
  omega
 ·rename_i c
  rw [bytesLess_eq,decide_eq_false_iff_not]at c
  have:hJ a b≠0:= λq=>by rw [hz.1 q]at hb;simp at hb
  omega
 ·rename_i c
  rw [bytesLess_eq,decide_eq_false_iff_not]at c
  rw [bytesLess_eq,decide_eq_false c]at hb
  exact hz.2 (by simpa using hb)
theorem mC: ∀(c:Cn) (_:aM c<=1000000),Tri Tryz.prog 153 [.d (.agg (cnR c))] [] (λr=>r= .d (.int .i64 (aM c))):=by
 refine Cn.ind ?_
 intro c h hs
 have g:=uH c
 rw [aJ]
 refine qG [1] hty Tryz.func153 [0,1,2,3,4,9] ?_
 refine qX ?_;intros
 refine aD hty (λj:Nat=>([(1, .ea 5 [[.int .i64 c.kind, .str c.name, .int .i64 c.lo, .int .i64 c.hi, .sl 5 (c.parts.map cnR)]] 0 0),(3, .d (.int .i64 ((aX (c.parts.take j)).length+1:Nat))),(4, .d (.int .i64 j))],[])) (λj=>j<=c.parts.length) (λj=>c.parts.length - j) 0 (by omega) ⟨by repeat' (first|exact trivial|exact rfl|exact⟨rfl,rfl⟩|refine And.intro ?_ ?_),trivial⟩ ?_
 intro j hj
 refine qX ?_;intros
 refine aA (λe=> ?_) (λe=> ?_)
 ·have a:j < c.parts.length:=by simp only [List.length_map]at e;omega
  have b:(c.parts.map cnR)[(j:Int).toNat]? =some (cnR c.parts[j]):=bA a
  have hp:=fK (List.getElem_mem (l:=c.parts) a)
  have hi:=h c.parts[j] (List.getElem_mem a) (by omega)
  have f:=pY a
  have hle:=eU c.parts (j+1)
  rw [aJ]at b hi
  (repeat' first|(refine qW ?_;intros)|((conv=>whnf);first|refine dwR ?_|((first|refine aA ?_ ?_|refine aC ?_ ?_)<;>intro hb<;>(first|exact ddX hb|try simp only [lnS]at hb))|(refine aB ?_ ?_<;>intro hb<;>try exact dsX hb)))
  refine⟨j+1,qO,qO,⟨?_,trivial⟩⟩
  dsimp only
  rw [f]
  repeat' (first|exact trivial|exact rfl|exact aLj (by omega)|exact⟨rfl,rfl⟩|refine And.intro ?_ ?_)
 ·have a:j=c.parts.length:=by simp only [List.length_map]at e;omega
  subst a
  rw [List.take_length,<-g]
  (repeat' first|(refine qW ?_;intros)|((conv=>whnf);first|refine dwR ?_|((first|refine aA ?_ ?_|refine aC ?_ ?_)<;>intro hb<;>(first|exact ddX hb|try simp only [lnS]at hb))|(refine aB ?_ ?_<;>intro hb<;>try exact dsX hb)))
  rfl
theorem aXp {l m:List Cn}{j:Nat}(h1:j<=l.length) (h2:j<=m.length) (h:¬ (j < l.length/\j < m.length)):iO (l.drop j) (m.drop j)=nP l.length m.length:=by
 unfold nP
 by_cases hl:j < l.length
 ·have a:m.drop j=[]:=List.drop_eq_nil_of_le (by omega)
  rw [List.drop_eq_getElem_cons hl,a,iO,if_neg (by omega),if_pos (by omega)]
 ·have a:l.drop j=[]:=List.drop_eq_nil_of_le (by omega)
  rw [a]
  by_cases a:j < m.length
  ·rw [List.drop_eq_getElem_cons a,iO,if_pos (by omega)]
  ·rw [show m.drop j=[]from List.drop_eq_nil_of_le (by omega),iO,if_neg (by omega),if_neg (by omega)]
theorem jJ: ∀(c d:Cn) (_:aM c<=1000000) (_:aM d<=1000000),Tri Tryz.prog 112 [.d (.agg (cnR c)), .d (.agg (cnR d))] [] (λr=>r= .d (.int .i64 (iG c d))):=by
 refine Cn.ind ?_
 intro c G d H t
 have B:=mC c H
 have w:=mC d t
 have u:=fD (aM c) (aM d)
 have v:=fD c.kind d.kind
 have A:=gQ c.name d.name
 have E:=fD c.lo d.lo
 have D:=fD c.hi d.hi
 have F:=fD c.parts.length d.parts.length
 rw [aL2,vE,aJ,aJ]
 rw [aJ]at B w
 generalize nP (aM c) (aM d)=n0 at u |-
 generalize nP c.kind d.kind=n1 at v |-
 generalize hJ c.name d.name=n2 at A |-
 generalize nP c.lo d.lo=n3 at E |-
 generalize nP c.hi d.hi=n4 at D |-
 refine qG [2,3] hty Tryz.func112 [0,1,2,3,4,5,6,13,20,27,34,55,70] ?_
 (repeat' first|(refine qW ?_;intros)|((conv=>whnf);first|refine dwR ?_|((first|refine aA ?_ ?_|refine aC ?_ ?_)<;>intro hb<;>(first|exact ddX hb|try simp only [lnS]at hb))|(refine aB ?_ ?_<;>intro hb<;>try exact dsX hb)))
 ·refine aD hty (λy:Nat×Int=>([(2, .ea 5 [[.int .i64 c.kind, .str c.name, .int .i64 c.lo, .int .i64 c.hi, .sl 5 (c.parts.map cnR)]] 0 0),(3, .ea 5 [[.int .i64 d.kind, .str d.name, .int .i64 d.lo, .int .i64 d.hi, .sl 5 (d.parts.map cnR)]] 0 0),(5, .d (.int .i64 y.2)),(6, .d (.int .i64 y.1))],[])) (λy=>y.1<=c.parts.length/\y.1<=d.parts.length/\(if y.2≠0 then y.2 else iO (c.parts.drop y.1) (d.parts.drop y.1))=(if n4≠0 then n4 else iO c.parts d.parts)) (λy=>c.parts.length - y.1) (0,n4) ⟨qO,qO,rfl⟩ ⟨by repeat' (first|exact trivial|exact rfl|exact⟨rfl,rfl⟩|refine And.intro ?_ ?_),trivial⟩ ?_
  rintro⟨j,n⟩ ⟨C,m,f⟩
  dsimp only at C m f
  have b:(if orF [n0,n1,n2,n3,n4]≠0 then orF [n0,n1,n2,n3,n4]else iO c.parts d.parts)=(if n4≠0 then n4 else iO c.parts d.parts):=by
   simp only [orF, *]
   split<;>simp_all
  rw [b]
  clear b u v A E D B w
  by_cases o:n=0/\j < c.parts.length/\j < d.parts.length
  ·obtain⟨rfl,q,s⟩:=o
   have g:(c.parts.map cnR)[(j:Int).toNat]? =some (cnR c.parts[j]):=bA q
   have e:(d.parts.map cnR)[(j:Int).toNat]? =some (cnR d.parts[j]):=bA s
   have hp:=fK (List.getElem_mem (l:=c.parts) q)
   have hp2:=fK (List.getElem_mem (l:=d.parts) s)
   have a:=G c.parts[j] (List.getElem_mem q) d.parts[j] (by omega) (by omega)
   rw [if_neg (by simp),List.drop_eq_getElem_cons q,List.drop_eq_getElem_cons s,iO]at f
   generalize c.parts[j]=x at g f a
   generalize d.parts[j]=z at e f a
   rw [aJ]at g e
   rw [aJ,aJ]at a
   (repeat' first|(refine qW ?_;intros)|((conv=>whnf);first|refine dwR ?_|((first|refine aA ?_ ?_|refine aC ?_ ?_)<;>intro hb<;>(first|exact ddX hb|try simp only [lnS]at hb))|(refine aB ?_ ?_<;>intro hb<;>try exact dsX hb)))
   exact⟨(j+1,iG x z),⟨qO,qO,f⟩,qO,qB,trivial⟩
  ·by_cases i:n=0
   ·subst i
    have p:¬ (j < c.parts.length/\j < d.parts.length):= λh=>o ⟨rfl,h⟩
    rw [if_neg (by simp),aXp C m p]at f
    rw [<-f]
    ((conv=>whnf);repeat' ((first|(intro I;(try simp only [lnS]at I);(try rewrite [List.length_map]))|refine sJ ?_|refine qE_ ?_|refine exL (k:=?_)| refine qT F ?_|refine dwR ?_|((first|refine aA ?_ ?_|refine aC ?_ ?_)<;>intro hb<;>(first|exact ddX hb|try simp only [lnS]at hb))|(refine aB ?_ ?_<;>intro hb<;>try exact dsX hb))<;>(conv=>whnf)))
    all_goals rfl
   ·rw [if_pos i]at f
    (repeat' first|(refine qW ?_;intros)|((conv=>whnf);first|refine dwR ?_|((first|refine aA ?_ ?_|refine aC ?_ ?_)<;>intro hb<;>(first|exact ddX hb|try simp only [lnS]at hb))|(refine aB ?_ ?_<;>intro hb<;>try exact dsX hb)))
    exact cM f
 all_goals
  refine aD hty (λ_:Unit=>([(2, .ea 5 [[.int .i64 c.kind, .str c.name, .int .i64 c.lo, .int .i64 c.hi, .sl 5 (c.parts.map cnR)]] 0 0),(3, .ea 5 [[.int .i64 d.kind, .str d.name, .int .i64 d.lo, .int .i64 d.hi, .sl 5 (d.parts.map cnR)]] 0 0),(5, .d (.int .i64 _)),(6, .d (.int .i64 0))],[])) (λ_=>True) (λ_=>0) () trivial ⟨by repeat' (first|exact trivial|exact rfl|exact⟨rfl,rfl⟩|refine And.intro ?_ ?_),trivial⟩ ?_
  rintro⟨⟩ _
  (repeat' first|(refine qW ?_;intros)|((conv=>whnf);first|refine dwR ?_|((first|refine aA ?_ ?_|refine aC ?_ ?_)<;>intro hb<;>(first|exact ddX hb|try simp only [lnS]at hb))|(refine aB ?_ ?_<;>intro hb<;>try exact dsX hb)))
  refine cM (Eq.symm ?_)
  simp [orF, *]
end
section
attribute [local irreducible] aK aF Tri aH
set_option maxRecDepth 10000
theorem aF6 (s:List UInt8):Tri Tryz.prog 200 [.d (.str s)] [] (λr=>r= .d (.bool (kwF s))):=by
 refine qG [] hty Tryz.func200 [0,2,3,4] ?_
 ((conv=>whnf);repeat' ((first|(intro a;try simp only [lnS]at a)|refine sJ ?_|refine qE_ ?_|refine exL (k:=?_)|refine dwR ?_|((first|refine aA ?_ ?_|refine aC ?_ ?_)<;>intro hb<;>(first|exact ddX hb|try simp only [lnS]at hb))|(refine aB ?_ ?_<;>intro hb<;>try exact dsX hb))<;>(conv=>whnf)))
 all_goals first|(rename_i hb;subst hb;rfl)|skip
 have:kwF s=false:=by simp [kwF,kws, *]
 rw [this];rfl
end
end Go.Proofs.YtbobcfjlbcgchaaGreatDoor
