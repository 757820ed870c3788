/-
  Layer 6: the search for a circle. Layer 6: Check; layer 7: Check. Layer 6, reference: Has, With, checked, All.
  Conditions: none.
-/
import Derived.Test.YtfhoddcminbffaaGreatDoorMQr
import Derived.Test.YtfhoddcminbffaaGreatDoorMDd
import Derived.Test.YtfhoddcminbffaaGreatDoorMPh
import Derived.Test.YtfhoddcminbffaaGreatDoorMQm
import Derived.Test.YtfhoddcminbffaaGreatDoorMQb
set_option linter.unnecessarySimpa false
set_option linter.unusedSectionVars false
set_option linter.unusedSimpArgs false
set_option linter.unusedVariables false
set_option maxHeartbeats 32000000
namespace Go.Proofs.YtfhoddcminbffaaGreatDoor
open Go.Proofs
set_option maxRecDepth 10000
attribute [local irreducible] aM aJ Tri aH YVC dI bI
def aA4 (w:Way):List D:=[.int .i64 w.role, .bool w.strict, .int .i64 w.before, .int .i64 w.many]
def seR (p:Bool×Bool):List D:=[.bool p.1, .bool p.2]
def iL (n:Nat):List D:=jZ n
abbrev aW4 (R:List Str) (G:Adj):D:= .agg [aEl R, .sl 1 (G.map aBr)]
structure CirP (G:Adj) (n start most:Nat) (r:SV):Prop where
 ex:(r= .d .nil/\ ∀L w t,CW (EG G) L w t->w 0=start->¬ L < most)\/ ∃L:List Nat,L≠[]/\r= .d (.sl 1 (L.map iL))/\(∀i∈L,i < n)/\L.length<=1000000000/\jO (EG G)
theorem aA3 {W:List Way}{i:Nat}(h:i < W.length):(W.map aA4)[((i:Nat):Int).toNat]? =some (aA4 W[i]):=by
 rw [Int.toNat_natCast,List.getElem?_map,List.getElem?_eq_getElem h];rfl
theorem aSo {G:Adj}{i:Nat}(h:i < G.length):(G.map aBr)[((i:Nat):Int).toNat]? =some (aBr (lT G i)):=by
 rw [Int.toNat_natCast,List.getElem?_map,List.getElem?_eq_getElem h]
 unfold lT
 rw [List.getElem?_eq_getElem h];rfl
theorem aRj {l:List (Nat×Bool)}{i:Nat}(h:i < l.length):(l.map aKo)[((i:Nat):Int).toNat]? =some (aKo l[i]):=by
 rw [Int.toNat_natCast,List.getElem?_map,List.getElem?_eq_getElem h];rfl
theorem aT8 {S:List (Bool×Bool)}{i:Nat}(h:i < S.length):(S.map seR)[((i:Nat):Int).toNat]? =some (seR S[i]):=by
 rw [Int.toNat_natCast,List.getElem?_map,List.getElem?_eq_getElem h];rfl
structure ManyOk (W:List Way):Prop where
 le: ∀(i:Nat) w,W[i]? =some w->w.many<=i
theorem aG5 (R:List Str) (G:Adj) (start most:Nat) (hs:start < R.length) (hG:G.length=R.length) (hb: ∀i,∀p∈lT G i,p.1 < R.length) (hl:R.length<=400000) (hm:most<=1000000000):
  Tri Tryz.prog 106 [.d (aW4 R G), .d (.int .i64 start), .d (.int .i64 most)] [] (CirP G R.length start most):=by
 refine aF false [3,10,12] hty Tryz.func106 rfl (kp [0,1,2,3,6,7,8,9,10,12,13,14,29,40,46,47,48,49,64,66,86,93]) [] _ _ _ (by simp [Tryz.f106]) (by simp) ?_
 ((conv=>whnf);repeat ((first|(intro hq;try simp only [lnS]at hq)|refine sI ?_|refine .intro _ (.intro rfl ?_));(conv=>whnf)))
 refine aLv hty ?_
 ((conv=>whnf);repeat ((first|(intro hq;try simp only [lnS]at hq)|refine sI ?_|refine .intro _ (.intro rfl ?_));(conv=>whnf)))
 have hrl:((R.map bN).length:Int).toNat=R.length:=by rw [List.length_map];rfl
 rw [hrl]
 refine⟨(List.length_replicate ..).symm,[.bool false, .bool false],by rw [List.getElem?_replicate,if_pos (by omega)], ?_⟩
 ((conv=>whnf);repeat ((first|(intro hq;try simp only [lnS]at hq)|refine sI ?_|refine .intro _ (.intro rfl ?_));(conv=>whnf)))
 have hseed:(List.replicate R.length [D.bool false, .bool false]).set start [.bool true, .bool false]=((List.replicate R.length (false,false)).set start (true,false)).map seR:=by
  rw [List.map_set,List.map_replicate];rfl
 refine aG hty (λy:Nat×List Way×List (Bool×Bool)=>([(1, .d (.int .i64 start)),(2, .d (.int .i64 most)),(3, .ea 2 [[aEl R, .sl 1 (G.map aBr)]] 0 0),(6, .d .nil),(7, .osl 17 4 (y.2.1.map aA4)),(8, .mw 21 2 R.length),(9, .d (.int .i64 y.1))],[(21, .mrow 176 2 R.length (y.2.2.map seR)),(17, .own 173 4 (y.2.1.map aA4).length)]))
  (λy=>Bfs G R.length start y.1 0 y.2.1 y.2.2/\ManyOk y.2.1/\y.1<=y.2.1.length) (λy=>2 * R.length - y.1) (0,[⟨start,false,0,0⟩],(List.replicate R.length (false,false)).set start (true,false)) ⟨Bfs.init hs,⟨λi w h=> ?_⟩,Nat.zero_le _⟩ ⟨by repeat' (first|exact trivial|exact rfl|refine And.intro ?_ ?_),congrArg (λr=>some (HObj.mrow 176 2 R.length r)) hseed,rfl,trivial⟩ ?_
 ·have hi:=(List.getElem?_eq_some_iff.1 h).1
  have hi:i=0:=by simpa using hi
  subst hi
  simp at h
  subst h
  exact Nat.le_refl _
 rintro⟨at',W,S⟩ ⟨hB,hM,hat⟩
 dsimp only at hB hM hat
 have hSl:=hB.len
 have hfew:=hB.few
 have hwl:(W.map aA4).length=W.length:=List.length_map ..
 ((conv=>whnf);repeat ((first|(intro hq;try simp only [lnS]at hq)|refine sI ?_|refine .intro _ (.intro rfl ?_));(conv=>whnf)))
 refine aB (λh1=> ?_) (λh1=> ?_)
 ·have hwL:at' < W.length:=by
   have h1:(at':Int) < ((W.map aA4).length:Nat):=h1
   omega
  have hrow:=aA3 hwL
  have hwat:W[at']? =some W[at']:=List.getElem?_eq_getElem hwL
  have hwm:=hM.le _ _ hwat
  have hsnd:=hB.sound _ (List.getElem_mem hwL)
  obtain⟨w,hw⟩: ∃w,w=W[at']:=⟨_,rfl⟩
  rw [<-hw]at hrow hwat hwm hsnd
  clear hw
  ((conv=>whnf);repeat ((first|(refine⟨_,hrow, ?_⟩)|(intro hq;try simp only [lnS]at hq)|refine sI ?_|refine .intro _ (.intro rfl ?_));(conv=>whnf)))
  refine aB (λh2=> ?_) (λh2=> ?_)
  ·((conv=>whnf);repeat' ((first|(intro hq;(try simp only [lnS]at hq);(try rewrite [List.length_map]))|refine sJ ?_|refine .intro _ (.intro rfl ?_)|refine exL (k:= ?_)|refine dwR ?_|((first|refine aB ?_ ?_|refine aC ?_ ?_)<;>intro hb<;>(first|exact ddX hb|try simp only [lnS]at hb))|(refine aA ?_ ?_<;>intro hb<;>try exact dsX hb))<;>(conv=>whnf)))
   exact⟨.inl ⟨rfl,hB.none λw' hw'=>by rw [hwat]at hw';injection hw' with hw';subst hw';omega⟩⟩
  have hro:=hsnd.2
  have hrow2:=aSo (G:=G) (i:=w.role) (by omega)
  have hbA:=hb w.role
  obtain⟨A,hA⟩: ∃A,A=lT G w.role:=⟨_,rfl⟩
  rw [<-hA]at hrow2 hbA
  ((conv=>whnf);repeat ((first|(refine⟨_,hrow2, ?_⟩)|(intro hq;try simp only [lnS]at hq)|refine sI ?_|refine .intro _ (.intro rfl ?_));(conv=>whnf)))
  rw [show (A.map aKo).length=A.length from List.length_map ..]
  clear hrow2
  refine aG hty (λy:Nat×List Way×List (Bool×Bool)=>([(1, .d (.int .i64 start)),(2, .d (.int .i64 most)),(3, .ea 2 [[aEl R, .sl 1 (G.map aBr)]] 0 0),(6, .d .nil),(7, .osl 17 4 (y.2.1.map aA4)),(8, .mw 21 2 R.length),(9, .d (.int .i64 at')),(10, .ea 4 [aA4 w] 0 0),(46, .d (.sl 2 (A.map aKo))),(47, .d (.int .i64 A.length)),(48, .d (.int .i64 y.1))],[(21, .mrow 176 2 R.length (y.2.2.map seR)),(17, .own 173 4 (y.2.1.map aA4).length)]))
   (λy=>Bfs G R.length start at' y.1 y.2.1 y.2.2/\ManyOk y.2.1/\y.2.1[at']? =some w/\y.1<=A.length) (λy=>A.length - y.1) (0,W,S) ⟨hB,hM,hwat,Nat.zero_le _⟩ ⟨by repeat' (first|exact trivial|exact rfl|refine And.intro ?_ ?_),by repeat' (first|exact trivial|exact rfl|refine And.intro ?_ ?_)⟩ ?_
  clear hB hM hwat hSl hfew hwl hat h1 hwL hrow hsnd
  rintro⟨k,W,S⟩ ⟨hB,hM,hwat,hkA⟩
  dsimp only at hB hM hwat hkA
  have hSl:=hB.len
  have hfew:=hB.few
  have hwl:(W.map aA4).length=W.length:=List.length_map ..
  have hatl:at' < W.length:=(List.getElem?_eq_some_iff.1 hwat).1
  ((conv=>whnf);repeat ((first|(intro hq;try simp only [lnS]at hq)|refine sI ?_|refine .intro _ (.intro rfl ?_));(conv=>whnf)))
  refine aB (λh3=> ?_) (λh3=> ?_)
  ·have hkl:k < A.length:=by dsimp only at h3;omega
   have hrowk:=aRj hkl
   have hkat:A[k]? =some A[k]:=List.getElem?_eq_getElem hkl
   have hjn:=hbA _ (List.getElem_mem hkl)
   have hjE:A[k]∈A:=List.getElem_mem hkl
   generalize A[k]=p at *
   obtain⟨j,t⟩:=p
   dsimp only at hjn
   have hk2:(lT G w.role)[k]? =some (j,t):=by rw [<-hA];exact hkat
   have hskip:=hB.skip hwat hk2
   have hpush:=hB.push hwat hjn hk2
   have hfound: ∀(e:j=start),(w.strict || t)=true->jO (EG G):= λe=>by
    subst e
    exact hB.found (List.mem_of_getElem? hwat) (by unfold EG;rw [<-hA];exact hjE)
   have hrowj:=aT8 (S:=S) (i:=j) (by omega)
   have hSj:S[j]? =some S[j]:=List.getElem?_eq_getElem (by omega)
   obtain⟨ro,st,be,ma⟩:=w
   dsimp only at hskip hpush hfound hwm hro
   have hsa: ∀v,oD S j v=aRn S[j] v:= λv=>by unfold oD;rw [hSj];rfl
   rw [hSj]at hpush
   simp only [Option.getD_some]at hpush
   generalize S[j]=q at *
   obtain⟨b1,b2⟩:=q
   have hsl:R.length=(S.map seR).length:=by rw [List.length_map,hSl]
   have hb63:(W.map aA4).length+1<=9223372036854775807:=by rw [hwl];omega
   have hb48:((W.map aA4).length+1)* 32<=140737488355328:=by rw [hwl];omega
   have hM2 : ∀ v, ManyOk (W ++ [⟨j, v, at', ma + 1⟩]) := λv => ⟨λi x hx => by
    rw [List.getElem?_append]at hx
    split at hx
    ·exact hM.le i x hx
    ·rename_i hi
     have hx2:=(List.getElem?_eq_some_iff.1 hx).1
     simp only [List.length_singleton]at hx2
     rw [show i - W.length=0 by omega]at hx
     simp at hx
     subst hx
     dsimp only
     omega⟩
   have hW2: ∀x,(W++[x])[at']? =some ⟨ro,st,be,ma⟩:= λx=>by rw [List.getElem?_append_left hatl];exact hwat
   cases st<;>cases t
   ·((conv=>whnf);repeat ((first|(refine⟨_,hrowk, ?_⟩)|(intro hq;try simp only [lnS]at hq)|refine sI ?_|refine .intro _ (.intro rfl ?_));(conv=>whnf)))
    refine aB (λh4=> ?_) (λh4=> ?_)
    ·cases b1
     ·((conv=>whnf);repeat' ((first|(intro hq;(try simp only [lnS]at hq);(try rewrite [List.length_map]))|refine sJ ?_|refine .intro _ (.intro rfl ?_)|refine exL (k:= ?_)|(refine⟨_,hrowj, ?_⟩)|(refine And.intro hsl ?_)|(refine And.intro hb63 ?_)|(refine And.intro hb48 ?_)|refine dwR ?_|((first|refine aB ?_ ?_|refine aC ?_ ?_)<;>intro hb<;>(first|exact ddX hb|try simp only [lnS]at hb))|(refine aA ?_ ?_<;>intro hb<;>try exact dsX hb))<;>(conv=>whnf)))
      refine⟨(k+1,W++[⟨j,false,at',ma+1⟩],S.set j (aCv (false,b2) false)),⟨hpush (by simp) (by rw [hsa];rfl),hM2 false,hW2 _,by dsimp only;omega⟩,by dsimp only;omega, ?_⟩
      dsimp only
      rw [List.map_append,List.map_set,List.length_append]
      exact⟨by repeat' (first|exact trivial|exact rfl|refine And.intro ?_ ?_),by repeat' (first|exact trivial|exact rfl|refine And.intro ?_ ?_)⟩
     ·((conv=>whnf);repeat' ((first|(intro hq;(try simp only [lnS]at hq);(try rewrite [List.length_map]))|refine sJ ?_|refine .intro _ (.intro rfl ?_)|refine exL (k:= ?_)|(refine⟨_,hrowj, ?_⟩)|(refine And.intro hsl ?_)|refine dwR ?_|((first|refine aB ?_ ?_|refine aC ?_ ?_)<;>intro hb<;>(first|exact ddX hb|try simp only [lnS]at hb))|(refine aA ?_ ?_<;>intro hb<;>try exact dsX hb))<;>(conv=>whnf)))
      exact⟨(k+1,W,S),⟨hskip (by simp) (by rw [hsa];rfl),hM,hwat,by dsimp only;omega⟩,by dsimp only;omega,⟨by repeat' (first|exact trivial|exact rfl|refine And.intro ?_ ?_),by repeat' (first|exact trivial|exact rfl|refine And.intro ?_ ?_)⟩⟩
    ·cases b1
     ·((conv=>whnf);repeat' ((first|(intro hq;(try simp only [lnS]at hq);(try rewrite [List.length_map]))|refine sJ ?_|refine .intro _ (.intro rfl ?_)|refine exL (k:= ?_)|(refine⟨_,hrowj, ?_⟩)|(refine And.intro hsl ?_)|(refine And.intro hb63 ?_)|(refine And.intro hb48 ?_)|refine dwR ?_|((first|refine aB ?_ ?_|refine aC ?_ ?_)<;>intro hb<;>(first|exact ddX hb|try simp only [lnS]at hb))|(refine aA ?_ ?_<;>intro hb<;>try exact dsX hb))<;>(conv=>whnf)))
      refine⟨(k+1,W++[⟨j,false,at',ma+1⟩],S.set j (aCv (false,b2) false)),⟨hpush (by simp) (by rw [hsa];rfl),hM2 false,hW2 _,by dsimp only;omega⟩,by dsimp only;omega, ?_⟩
      dsimp only
      rw [List.map_append,List.map_set,List.length_append]
      exact⟨by repeat' (first|exact trivial|exact rfl|refine And.intro ?_ ?_),by repeat' (first|exact trivial|exact rfl|refine And.intro ?_ ?_)⟩
     ·((conv=>whnf);repeat' ((first|(intro hq;(try simp only [lnS]at hq);(try rewrite [List.length_map]))|refine sJ ?_|refine .intro _ (.intro rfl ?_)|refine exL (k:= ?_)|(refine⟨_,hrowj, ?_⟩)|(refine And.intro hsl ?_)|refine dwR ?_|((first|refine aB ?_ ?_|refine aC ?_ ?_)<;>intro hb<;>(first|exact ddX hb|try simp only [lnS]at hb))|(refine aA ?_ ?_<;>intro hb<;>try exact dsX hb))<;>(conv=>whnf)))
      exact⟨(k+1,W,S),⟨hskip (by simp) (by rw [hsa];rfl),hM,hwat,by dsimp only;omega⟩,by dsimp only;omega,⟨by repeat' (first|exact trivial|exact rfl|refine And.intro ?_ ?_),by repeat' (first|exact trivial|exact rfl|refine And.intro ?_ ?_)⟩⟩
   ·((conv=>whnf);repeat ((first|(refine⟨_,hrowk, ?_⟩)|(intro hq;try simp only [lnS]at hq)|refine sI ?_|refine .intro _ (.intro rfl ?_));(conv=>whnf)))
    refine aB (λh4=> ?_) (λh4=> ?_)
    ·have hjs:j=start:=by have h4:(j:Int)=start:=h4;omega
     have hcirc:=hfound hjs rfl
     ((conv=>whnf);repeat ((first|(intro hq;try simp only [lnS]at hq)|refine sI ?_|refine .intro _ (.intro rfl ?_));(conv=>whnf)))
     refine aM.mown 6 76 3 1 rfl (bW (by with_unfolding_all exact rfl)) ?_
     refine aG hty (λy:Nat×List Nat×Nat=>([(1, .d (.int .i64 start)),(6, .mw 76 1 y.2.1.length),(7, .osl 17 4 (W.map aA4)),(9, .d (.int .i64 y.1))],[(76, .mrow 3 1 y.2.2 (y.2.1.map iL)),(17, .own 173 4 (W.map aA4).length)])) (λy=>y.1+y.2.1.length<=at'/\ ∀i∈y.2.1,i < R.length) (λy=>y.1) (at',[],0) ⟨by dsimp only;simp,by simp⟩ ⟨by repeat' (first|exact trivial|exact rfl|refine And.intro ?_ ?_),by repeat' (first|exact trivial|exact rfl|refine And.intro ?_ ?_)⟩ ?_
     rintro⟨a,L,cap⟩ ⟨ha,hL⟩
     dsimp only at ha hL
     have hrl3:(L.map iL).length=L.length:=List.length_map ..
     have hc63:(L.map iL).length+1<=9223372036854775807:=by rw [hrl3];omega
     have hc48:((L.map iL).length+1)* 8<=140737488355328:=by rw [hrl3];omega
     ((conv=>whnf);repeat ((first|(intro hq;try simp only [lnS]at hq)|refine sI ?_|refine .intro _ (.intro rfl ?_));(conv=>whnf)))
     refine aB (λh5=> ?_) (λh5=> ?_)
     ·have hal:a < W.length:=by omega
      have hrowa:=aA3 hal
      have hbf:=hB.before a _ (List.getElem?_eq_getElem hal) (by dsimp only at h5;omega)
      have hsd:=(hB.sound _ (List.getElem_mem hal)).2
      generalize W[a]=x at *
      have hmp:(L++[x.role]).map iL=L.map iL++[iL x.role]:=by rw [List.map_append];rfl
      ((conv=>whnf);repeat ((first|(refine⟨_,hrowa, ?_⟩)|(refine And.intro hrl3.symm ?_)|(refine And.intro hc63 ?_)|(refine And.intro hc48 ?_)|(intro hq;try simp only [lnS]at hq)|refine sI ?_|refine .intro _ (.intro rfl ?_));(conv=>whnf)))
      rename_i cap'
      refine⟨(x.before,L++[x.role],cap'),⟨by dsimp only;rw [List.length_append,List.length_singleton];omega,λi hi=> ?_⟩,by dsimp only;omega, ?_⟩
      ·rcases List.mem_append.1 hi with hi|hi
       ·exact hL i hi
       ·simp at hi;subst hi;exact hsd
      ·dsimp only
       rw [hmp,List.length_append,<-hrl3]
       exact⟨by repeat' (first|exact trivial|exact rfl|refine And.intro ?_ ?_),by repeat' (first|exact trivial|exact rfl|refine And.intro ?_ ?_)⟩
     ·have hmp:L.map iL++[iL start]=((L++[start]).map λi:Nat=>(i:Int)).map jZ:=by
       rw [List.map_map,List.map_append];rfl
      have hml:(L.map iL).length+1=((L++[start]).map λi:Nat=>(i:Int)).length:=by simp
      ((conv=>whnf);repeat ((first|(refine And.intro hrl3.symm ?_)|(refine And.intro hc63 ?_)|(refine And.intro hc48 ?_)|(intro hq;try simp only [lnS]at hq)|refine sI ?_|refine .intro _ (.intro rfl ?_));(conv=>whnf)))
      rename_i cap'
      have hmr:(((L++[start]).map λi:Nat=>(i:Int)).reverse).map jZ=((L++[start]).reverse).map iL:=by
       rw [<-List.map_reverse,List.map_map];rfl
      refine aJ.sub (hp':=[(76, .mrow 3 1 cap' (((L++[start]).map λi:Nat=>(i:Int)).map jZ))]) ⟨congrArg (λr=>some (HObj.mrow 3 1 cap' r)) hmp,trivial⟩ ?_
      show aJ _ _ _ _ _ [SV.mw 76 1 ((L.map iL).length+1)] _
      rw [hml]
      refine aAr _ cap' [] (by simp;omega) ?_
      rw [hmr]
      ((conv=>whnf);repeat' ((first|(intro hq;(try simp only [lnS]at hq);(try rewrite [List.length_map]))|refine sJ ?_|refine .intro _ (.intro rfl ?_)|refine exL (k:= ?_)|(refine And.intro (show (L.map iL).length+1=(((L++[start]).reverse).map iL).length from by simp) ?_)|refine dwR ?_|((first|refine aB ?_ ?_|refine aC ?_ ?_)<;>intro hb<;>(first|exact ddX hb|try simp only [lnS]at hb))|(refine aA ?_ ?_<;>intro hb<;>try exact dsX hb))<;>(conv=>whnf)))
      refine⟨.inr ⟨(L++[start]).reverse,by simp,rfl,λi hi=> ?_,by simp;omega,hcirc⟩⟩
      rw [List.mem_reverse]at hi
      rcases List.mem_append.1 hi with hi|hi
      ·exact hL i hi
      ·simp at hi;subst hi;exact hs
    ·replace h4:¬ (j:Int)=start:=h4
     cases b2
     ·((conv=>whnf);repeat' ((first|(intro hq;(try simp only [lnS]at hq);(try rewrite [List.length_map]))|refine sJ ?_|refine .intro _ (.intro rfl ?_)|refine exL (k:= ?_)|(refine⟨_,hrowj, ?_⟩)|(refine And.intro hsl ?_)|(refine And.intro hb63 ?_)|(refine And.intro hb48 ?_)|refine dwR ?_|((first|refine aB ?_ ?_|refine aC ?_ ?_)<;>intro hb<;>(first|exact ddX hb|try simp only [lnS]at hb))|(refine aA ?_ ?_<;>intro hb<;>try exact dsX hb))<;>(conv=>whnf)))
      refine⟨(k+1,W++[⟨j,true,at',ma+1⟩],S.set j (aCv (b1,false) true)),⟨hpush (λh=>h4 (by rw [h.1])) (by rw [hsa];rfl),hM2 true,hW2 _,by dsimp only;omega⟩,by dsimp only;omega, ?_⟩
      dsimp only
      rw [List.map_append,List.map_set,List.length_append]
      exact⟨by repeat' (first|exact trivial|exact rfl|refine And.intro ?_ ?_),by repeat' (first|exact trivial|exact rfl|refine And.intro ?_ ?_)⟩
     ·((conv=>whnf);repeat' ((first|(intro hq;(try simp only [lnS]at hq);(try rewrite [List.length_map]))|refine sJ ?_|refine .intro _ (.intro rfl ?_)|refine exL (k:= ?_)|(refine⟨_,hrowj, ?_⟩)|(refine And.intro hsl ?_)|refine dwR ?_|((first|refine aB ?_ ?_|refine aC ?_ ?_)<;>intro hb<;>(first|exact ddX hb|try simp only [lnS]at hb))|(refine aA ?_ ?_<;>intro hb<;>try exact dsX hb))<;>(conv=>whnf)))
      exact⟨(k+1,W,S),⟨hskip (λh=>h4 (by rw [h.1])) (by rw [hsa];rfl),hM,hwat,by dsimp only;omega⟩,by dsimp only;omega,⟨by repeat' (first|exact trivial|exact rfl|refine And.intro ?_ ?_),by repeat' (first|exact trivial|exact rfl|refine And.intro ?_ ?_)⟩⟩
   ·((conv=>whnf);repeat ((first|(refine⟨_,hrowk, ?_⟩)|(intro hq;try simp only [lnS]at hq)|refine sI ?_|refine .intro _ (.intro rfl ?_));(conv=>whnf)))
    refine aB (λh4=> ?_) (λh4=> ?_)
    ·have hjs:j=start:=by have h4:(j:Int)=start:=h4;omega
     have hcirc:=hfound hjs rfl
     ((conv=>whnf);repeat ((first|(intro hq;try simp only [lnS]at hq)|refine sI ?_|refine .intro _ (.intro rfl ?_));(conv=>whnf)))
     refine aM.mown 6 76 3 1 rfl (bW (by with_unfolding_all exact rfl)) ?_
     refine aG hty (λy:Nat×List Nat×Nat=>([(1, .d (.int .i64 start)),(6, .mw 76 1 y.2.1.length),(7, .osl 17 4 (W.map aA4)),(9, .d (.int .i64 y.1))],[(76, .mrow 3 1 y.2.2 (y.2.1.map iL)),(17, .own 173 4 (W.map aA4).length)])) (λy=>y.1+y.2.1.length<=at'/\ ∀i∈y.2.1,i < R.length) (λy=>y.1) (at',[],0) ⟨by dsimp only;simp,by simp⟩ ⟨by repeat' (first|exact trivial|exact rfl|refine And.intro ?_ ?_),by repeat' (first|exact trivial|exact rfl|refine And.intro ?_ ?_)⟩ ?_
     rintro⟨a,L,cap⟩ ⟨ha,hL⟩
     dsimp only at ha hL
     have hrl3:(L.map iL).length=L.length:=List.length_map ..
     have hc63:(L.map iL).length+1<=9223372036854775807:=by rw [hrl3];omega
     have hc48:((L.map iL).length+1)* 8<=140737488355328:=by rw [hrl3];omega
     ((conv=>whnf);repeat ((first|(intro hq;try simp only [lnS]at hq)|refine sI ?_|refine .intro _ (.intro rfl ?_));(conv=>whnf)))
     refine aB (λh5=> ?_) (λh5=> ?_)
     ·have hal:a < W.length:=by omega
      have hrowa:=aA3 hal
      have hbf:=hB.before a _ (List.getElem?_eq_getElem hal) (by dsimp only at h5;omega)
      have hsd:=(hB.sound _ (List.getElem_mem hal)).2
      generalize W[a]=x at *
      have hmp:(L++[x.role]).map iL=L.map iL++[iL x.role]:=by rw [List.map_append];rfl
      ((conv=>whnf);repeat ((first|(refine⟨_,hrowa, ?_⟩)|(refine And.intro hrl3.symm ?_)|(refine And.intro hc63 ?_)|(refine And.intro hc48 ?_)|(intro hq;try simp only [lnS]at hq)|refine sI ?_|refine .intro _ (.intro rfl ?_));(conv=>whnf)))
      rename_i cap'
      refine⟨(x.before,L++[x.role],cap'),⟨by dsimp only;rw [List.length_append,List.length_singleton];omega,λi hi=> ?_⟩,by dsimp only;omega, ?_⟩
      ·rcases List.mem_append.1 hi with hi|hi
       ·exact hL i hi
       ·simp at hi;subst hi;exact hsd
      ·dsimp only
       rw [hmp,List.length_append,<-hrl3]
       exact⟨by repeat' (first|exact trivial|exact rfl|refine And.intro ?_ ?_),by repeat' (first|exact trivial|exact rfl|refine And.intro ?_ ?_)⟩
     ·have hmp:L.map iL++[iL start]=((L++[start]).map λi:Nat=>(i:Int)).map jZ:=by
       rw [List.map_map,List.map_append];rfl
      have hml:(L.map iL).length+1=((L++[start]).map λi:Nat=>(i:Int)).length:=by simp
      ((conv=>whnf);repeat ((first|(refine And.intro hrl3.symm ?_)|(refine And.intro hc63 ?_)|(refine And.intro hc48 ?_)|(intro hq;try simp only [lnS]at hq)|refine sI ?_|refine .intro _ (.intro rfl ?_));(conv=>whnf)))
      rename_i cap'
      have hmr:(((L++[start]).map λi:Nat=>(i:Int)).reverse).map jZ=((L++[start]).reverse).map iL:=by
       rw [<-List.map_reverse,List.map_map];rfl
      refine aJ.sub (hp':=[(76, .mrow 3 1 cap' (((L++[start]).map λi:Nat=>(i:Int)).map jZ))]) ⟨congrArg (λr=>some (HObj.mrow 3 1 cap' r)) hmp,trivial⟩ ?_
      show aJ _ _ _ _ _ [SV.mw 76 1 ((L.map iL).length+1)] _
      rw [hml]
      refine aAr _ cap' [] (by simp;omega) ?_
      rw [hmr]
      ((conv=>whnf);repeat' ((first|(intro hq;(try simp only [lnS]at hq);(try rewrite [List.length_map]))|refine sJ ?_|refine .intro _ (.intro rfl ?_)|refine exL (k:= ?_)|(refine And.intro (show (L.map iL).length+1=(((L++[start]).reverse).map iL).length from by simp) ?_)|refine dwR ?_|((first|refine aB ?_ ?_|refine aC ?_ ?_)<;>intro hb<;>(first|exact ddX hb|try simp only [lnS]at hb))|(refine aA ?_ ?_<;>intro hb<;>try exact dsX hb))<;>(conv=>whnf)))
      refine⟨.inr ⟨(L++[start]).reverse,by simp,rfl,λi hi=> ?_,by simp;omega,hcirc⟩⟩
      rw [List.mem_reverse]at hi
      rcases List.mem_append.1 hi with hi|hi
      ·exact hL i hi
      ·simp at hi;subst hi;exact hs
    ·replace h4:¬ (j:Int)=start:=h4
     cases b2
     ·((conv=>whnf);repeat' ((first|(intro hq;(try simp only [lnS]at hq);(try rewrite [List.length_map]))|refine sJ ?_|refine .intro _ (.intro rfl ?_)|refine exL (k:= ?_)|(refine⟨_,hrowj, ?_⟩)|(refine And.intro hsl ?_)|(refine And.intro hb63 ?_)|(refine And.intro hb48 ?_)|refine dwR ?_|((first|refine aB ?_ ?_|refine aC ?_ ?_)<;>intro hb<;>(first|exact ddX hb|try simp only [lnS]at hb))|(refine aA ?_ ?_<;>intro hb<;>try exact dsX hb))<;>(conv=>whnf)))
      refine⟨(k+1,W++[⟨j,true,at',ma+1⟩],S.set j (aCv (b1,false) true)),⟨hpush (λh=>h4 (by rw [h.1])) (by rw [hsa];rfl),hM2 true,hW2 _,by dsimp only;omega⟩,by dsimp only;omega, ?_⟩
      dsimp only
      rw [List.map_append,List.map_set,List.length_append]
      exact⟨by repeat' (first|exact trivial|exact rfl|refine And.intro ?_ ?_),by repeat' (first|exact trivial|exact rfl|refine And.intro ?_ ?_)⟩
     ·((conv=>whnf);repeat' ((first|(intro hq;(try simp only [lnS]at hq);(try rewrite [List.length_map]))|refine sJ ?_|refine .intro _ (.intro rfl ?_)|refine exL (k:= ?_)|(refine⟨_,hrowj, ?_⟩)|(refine And.intro hsl ?_)|refine dwR ?_|((first|refine aB ?_ ?_|refine aC ?_ ?_)<;>intro hb<;>(first|exact ddX hb|try simp only [lnS]at hb))|(refine aA ?_ ?_<;>intro hb<;>try exact dsX hb))<;>(conv=>whnf)))
      exact⟨(k+1,W,S),⟨hskip (λh=>h4 (by rw [h.1])) (by rw [hsa];rfl),hM,hwat,by dsimp only;omega⟩,by dsimp only;omega,⟨by repeat' (first|exact trivial|exact rfl|refine And.intro ?_ ?_),by repeat' (first|exact trivial|exact rfl|refine And.intro ?_ ?_)⟩⟩
   ·((conv=>whnf);repeat ((first|(refine⟨_,hrowk, ?_⟩)|(intro hq;try simp only [lnS]at hq)|refine sI ?_|refine .intro _ (.intro rfl ?_));(conv=>whnf)))
    refine aB (λh4=> ?_) (λh4=> ?_)
    ·have hjs:j=start:=by have h4:(j:Int)=start:=h4;omega
     have hcirc:=hfound hjs rfl
     ((conv=>whnf);repeat ((first|(intro hq;try simp only [lnS]at hq)|refine sI ?_|refine .intro _ (.intro rfl ?_));(conv=>whnf)))
     refine aM.mown 6 76 3 1 rfl (bW (by with_unfolding_all exact rfl)) ?_
     refine aG hty (λy:Nat×List Nat×Nat=>([(1, .d (.int .i64 start)),(6, .mw 76 1 y.2.1.length),(7, .osl 17 4 (W.map aA4)),(9, .d (.int .i64 y.1))],[(76, .mrow 3 1 y.2.2 (y.2.1.map iL)),(17, .own 173 4 (W.map aA4).length)])) (λy=>y.1+y.2.1.length<=at'/\ ∀i∈y.2.1,i < R.length) (λy=>y.1) (at',[],0) ⟨by dsimp only;simp,by simp⟩ ⟨by repeat' (first|exact trivial|exact rfl|refine And.intro ?_ ?_),by repeat' (first|exact trivial|exact rfl|refine And.intro ?_ ?_)⟩ ?_
     rintro⟨a,L,cap⟩ ⟨ha,hL⟩
     dsimp only at ha hL
     have hrl3:(L.map iL).length=L.length:=List.length_map ..
     have hc63:(L.map iL).length+1<=9223372036854775807:=by rw [hrl3];omega
     have hc48:((L.map iL).length+1)* 8<=140737488355328:=by rw [hrl3];omega
     ((conv=>whnf);repeat ((first|(intro hq;try simp only [lnS]at hq)|refine sI ?_|refine .intro _ (.intro rfl ?_));(conv=>whnf)))
     refine aB (λh5=> ?_) (λh5=> ?_)
     ·have hal:a < W.length:=by omega
      have hrowa:=aA3 hal
      have hbf:=hB.before a _ (List.getElem?_eq_getElem hal) (by dsimp only at h5;omega)
      have hsd:=(hB.sound _ (List.getElem_mem hal)).2
      generalize W[a]=x at *
      have hmp:(L++[x.role]).map iL=L.map iL++[iL x.role]:=by rw [List.map_append];rfl
      ((conv=>whnf);repeat ((first|(refine⟨_,hrowa, ?_⟩)|(refine And.intro hrl3.symm ?_)|(refine And.intro hc63 ?_)|(refine And.intro hc48 ?_)|(intro hq;try simp only [lnS]at hq)|refine sI ?_|refine .intro _ (.intro rfl ?_));(conv=>whnf)))
      rename_i cap'
      refine⟨(x.before,L++[x.role],cap'),⟨by dsimp only;rw [List.length_append,List.length_singleton];omega,λi hi=> ?_⟩,by dsimp only;omega, ?_⟩
      ·rcases List.mem_append.1 hi with hi|hi
       ·exact hL i hi
       ·simp at hi;subst hi;exact hsd
      ·dsimp only
       rw [hmp,List.length_append,<-hrl3]
       exact⟨by repeat' (first|exact trivial|exact rfl|refine And.intro ?_ ?_),by repeat' (first|exact trivial|exact rfl|refine And.intro ?_ ?_)⟩
     ·have hmp:L.map iL++[iL start]=((L++[start]).map λi:Nat=>(i:Int)).map jZ:=by
       rw [List.map_map,List.map_append];rfl
      have hml:(L.map iL).length+1=((L++[start]).map λi:Nat=>(i:Int)).length:=by simp
      ((conv=>whnf);repeat ((first|(refine And.intro hrl3.symm ?_)|(refine And.intro hc63 ?_)|(refine And.intro hc48 ?_)|(intro hq;try simp only [lnS]at hq)|refine sI ?_|refine .intro _ (.intro rfl ?_));(conv=>whnf)))
      rename_i cap'
      have hmr:(((L++[start]).map λi:Nat=>(i:Int)).reverse).map jZ=((L++[start]).reverse).map iL:=by
       rw [<-List.map_reverse,List.map_map];rfl
      refine aJ.sub (hp':=[(76, .mrow 3 1 cap' (((L++[start]).map λi:Nat=>(i:Int)).map jZ))]) ⟨congrArg (λr=>some (HObj.mrow 3 1 cap' r)) hmp,trivial⟩ ?_
      show aJ _ _ _ _ _ [SV.mw 76 1 ((L.map iL).length+1)] _
      rw [hml]
      refine aAr _ cap' [] (by simp;omega) ?_
      rw [hmr]
      ((conv=>whnf);repeat' ((first|(intro hq;(try simp only [lnS]at hq);(try rewrite [List.length_map]))|refine sJ ?_|refine .intro _ (.intro rfl ?_)|refine exL (k:= ?_)|(refine And.intro (show (L.map iL).length+1=(((L++[start]).reverse).map iL).length from by simp) ?_)|refine dwR ?_|((first|refine aB ?_ ?_|refine aC ?_ ?_)<;>intro hb<;>(first|exact ddX hb|try simp only [lnS]at hb))|(refine aA ?_ ?_<;>intro hb<;>try exact dsX hb))<;>(conv=>whnf)))
      refine⟨.inr ⟨(L++[start]).reverse,by simp,rfl,λi hi=> ?_,by simp;omega,hcirc⟩⟩
      rw [List.mem_reverse]at hi
      rcases List.mem_append.1 hi with hi|hi
      ·exact hL i hi
      ·simp at hi;subst hi;exact hs
    ·replace h4:¬ (j:Int)=start:=h4
     cases b2
     ·((conv=>whnf);repeat' ((first|(intro hq;(try simp only [lnS]at hq);(try rewrite [List.length_map]))|refine sJ ?_|refine .intro _ (.intro rfl ?_)|refine exL (k:= ?_)|(refine⟨_,hrowj, ?_⟩)|(refine And.intro hsl ?_)|(refine And.intro hb63 ?_)|(refine And.intro hb48 ?_)|refine dwR ?_|((first|refine aB ?_ ?_|refine aC ?_ ?_)<;>intro hb<;>(first|exact ddX hb|try simp only [lnS]at hb))|(refine aA ?_ ?_<;>intro hb<;>try exact dsX hb))<;>(conv=>whnf)))
      refine⟨(k+1,W++[⟨j,true,at',ma+1⟩],S.set j (aCv (b1,false) true)),⟨hpush (λh=>h4 (by rw [h.1])) (by rw [hsa];rfl),hM2 true,hW2 _,by dsimp only;omega⟩,by dsimp only;omega, ?_⟩
      dsimp only
      rw [List.map_append,List.map_set,List.length_append]
      exact⟨by repeat' (first|exact trivial|exact rfl|refine And.intro ?_ ?_),by repeat' (first|exact trivial|exact rfl|refine And.intro ?_ ?_)⟩
     ·((conv=>whnf);repeat' ((first|(intro hq;(try simp only [lnS]at hq);(try rewrite [List.length_map]))|refine sJ ?_|refine .intro _ (.intro rfl ?_)|refine exL (k:= ?_)|(refine⟨_,hrowj, ?_⟩)|(refine And.intro hsl ?_)|refine dwR ?_|((first|refine aB ?_ ?_|refine aC ?_ ?_)<;>intro hb<;>(first|exact ddX hb|try simp only [lnS]at hb))|(refine aA ?_ ?_<;>intro hb<;>try exact dsX hb))<;>(conv=>whnf)))
      exact⟨(k+1,W,S),⟨hskip (λh=>h4 (by rw [h.1])) (by rw [hsa];rfl),hM,hwat,by dsimp only;omega⟩,by dsimp only;omega,⟨by repeat' (first|exact trivial|exact rfl|refine And.intro ?_ ?_),by repeat' (first|exact trivial|exact rfl|refine And.intro ?_ ?_)⟩⟩
  ·have hkA2:k=A.length:=by dsimp only at h3;omega
   ((conv=>whnf);repeat' ((first|(intro hq;(try simp only [lnS]at hq);(try rewrite [List.length_map]))|refine sJ ?_|refine .intro _ (.intro rfl ?_)|refine exL (k:= ?_)|refine dwR ?_|((first|refine aB ?_ ?_|refine aC ?_ ?_)<;>intro hb<;>(first|exact ddX hb|try simp only [lnS]at hb))|(refine aA ?_ ?_<;>intro hb<;>try exact dsX hb))<;>(conv=>whnf)))
   refine⟨(at'+1,W,S),⟨hB.next hwat (by rw [<-hA];omega),hM,by dsimp only;omega⟩,by dsimp only;omega,⟨by repeat' (first|exact trivial|exact rfl|refine And.intro ?_ ?_),by repeat' (first|exact trivial|exact rfl|refine And.intro ?_ ?_)⟩⟩
 ·((conv=>whnf);repeat' ((first|(intro hq;(try simp only [lnS]at hq);(try rewrite [List.length_map]))|refine sJ ?_|refine .intro _ (.intro rfl ?_)|refine exL (k:= ?_)|refine dwR ?_|((first|refine aB ?_ ?_|refine aC ?_ ?_)<;>intro hb<;>(first|exact ddX hb|try simp only [lnS]at hb))|(refine aA ?_ ?_<;>intro hb<;>try exact dsX hb))<;>(conv=>whnf)))
  refine⟨.inl ⟨rfl,hB.none λw' hw'=> ?_⟩⟩
  have h2:=(List.getElem?_eq_some_iff.1 hw').1
  have h1:¬ (at':Int) < ((W.map aA4).length:Nat):=h1
  omega
end Go.Proofs.YtfhoddcminbffaaGreatDoor
namespace Go.Proofs.YtfhoddcminbffaaGreatDoor
open Go.Proofs
set_option maxRecDepth 10000
attribute [local irreducible] aM aJ Tri aH YVC dI bI
structure RolP (e:Int) (r:SV):Prop where
 ex: ∃s,r= .tup [s, .d (.int .i64 e)]
theorem aRa:FarH NG:=⟨by unfold NG;simp [bS,fU,HObj.ids],⟨rfl,rfl,trivial⟩⟩
def aTi:Option (List Nat)->D
 |none=> .nil
 |some L=> .sl 1 (L.map iL)
def aGa (G:Adj) (n j most:Nat):Option (List Nat)->Prop
 |none=>most=n+1/\ ∀st,st < j-> ∀L w t,CW (EG G) L w t->w 0=st->¬ L < n+1
 |some L=>L≠[]/\(∀i∈L,i < n)/\L.length<=1000000000/\most=L.length/\jO (EG G)
theorem aGa.most {G:Adj}{n j m k:Nat}{o:Option (List Nat)}(h:aGa G n j m o) (hk:n=k):m<=1000000000\/m=n+1:=by
 cases o with
 |none=>exact .inr h.1
 |some L=>obtain⟨_,_,h3,h4,_⟩:=h;exact .inl (by omega)
theorem aJ3 (l:List Ax) (hn:l.length<=100000):Tri Tryz.prog 59 [.d (.sl 16 (l.map axR))] NG (RolP (eG l)):=by
 have hc:=aC5 l
 refine aF false [] hty Tryz.func59 rfl (kp [0,2,3,4,5,6,7,8,9,11,15,26,27,28,35,41,42,43,44,45]) [] _ _ _ (by simp [Tryz.f59]) (by decide) ?_
 ((conv=>whnf);repeat ((first|(refine aD NG hc ⟨rfl,rfl,trivial⟩ (λr hs=> ?_);subst hs)|(intro hq;try simp only [lnS]at hq)|refine sI ?_|refine .intro _ (.intro rfl ?_));(conv=>whnf)))
 refine aC (λh1=> ?_) (λh1=> ?_)
 ·have hv:eG l=iE l:=by unfold eG;rw [if_pos h1]
  rw [hv]
  ((conv=>whnf);repeat' ((first|(intro hq;(try simp only [lnS]at hq);(try rewrite [List.length_map]))|refine sJ ?_|refine .intro _ (.intro rfl ?_)|refine exL (k:= ?_)|refine dwR ?_|((first|refine aB ?_ ?_|refine aC ?_ ?_)<;>intro hb<;>(first|exact ddX hb|try simp only [lnS]at hb))|(refine aA ?_ ?_<;>intro hb<;>try exact dsX hb))<;>(conv=>whnf)))
  exact⟨_,rfl⟩
 ·have hv:=(rI l).1 h1
  ((conv=>whnf);repeat ((first|(intro hq;try simp only [lnS]at hq)|refine sI ?_|refine .intro _ (.intro rfl ?_));(conv=>whnf)))
  refine aIr l hv (by omega) NG aRa (λk hk=>by simp) (λk hk=>by simp [bG,aT,SV.ids,SV.idsL,dX,bV]) (λM g hM=> ?_)
  have hMl:=nL l λx hx=>(fK (hv x hx)).2.2
  have hMl1:=hM.le
  have hrv1:jO (ET (cQ l))->eG l=60:= λh=>by unfold eG;rw [if_neg (by simp [h1]),if_pos h]
  have hrv0:¬ jO (ET (cQ l))->eG l=0:= λh=>by unfold eG;rw [if_neg (by simp [h1]),if_neg h]
  ((conv=>whnf);repeat ((first|(intro hq;try simp only [lnS]at hq)|refine sI ?_|refine .intro _ (.intro rfl ?_));(conv=>whnf)))
  refine aB3 M g hM.nd (by omega) (λp hp=>by have:=hM.lei p hp;omega) NG aRa (λk hk=>by simp) (λk hk=>by simp [dQ,bG,aT,SV.ids,SV.idsL,dX,bV];omega) (λR G hG hRl=> ?_)
  have hcq:jO (ET (cQ l))↔jO (EG G):=hM.circ.trans hG.circ
  ((conv=>whnf);repeat ((first|(intro hq;try simp only [lnS]at hq)|refine sI ?_|refine .intro _ (.intro rfl ?_));(conv=>whnf)))
  rw [show (R.map bN).length=R.length from List.length_map ..]
  refine aM.soft 5 (xs:=[aEl R, .sl 1 (G.map aBr)]) rfl rfl ?_
  refine aG hty (λy:Nat×Nat×Option (List Nat)=>([(2, .d .nil),(5, .ptr 5 0),(6, .d (.int .i64 y.2.1)),(7, .d (aTi y.2.2)),(26, .d (.int .i64 R.length)),(27, .d (.int .i64 y.1))],(5, .cells 121 [.d (aEl R), .d (.sl 1 (G.map aBr))])::NG)) (λy=>y.1<=R.length/\aGa G R.length y.1 y.2.1 y.2.2) (λy=>R.length - y.1) (0,R.length+1,none) ⟨Nat.zero_le _,rfl,λst h=>by omega⟩ ⟨by repeat' (first|exact trivial|exact rfl|refine And.intro ?_ ?_),⟨rfl,rfl,rfl,trivial⟩⟩ ?_
  rintro⟨j,most,o⟩ ⟨hj,hO⟩
  dsimp only at hj hO
  have hmost:=hO.most hRl
  ((conv=>whnf);repeat ((first|(intro hq;try simp only [lnS]at hq)|refine sI ?_|refine .intro _ (.intro rfl ?_));(conv=>whnf)))
  refine aB (λh2=> ?_) (λh2=> ?_)
  ·have hjl:j < R.length:=by dsimp only at h2;omega
   have hcs:=aG5 R G j most hjl hG.len (λi p hp=>(hG.sound i p.1 p.2 hp).1) (by omega) (by omega)
   ((conv=>whnf);repeat ((first|(intro hq;try simp only [lnS]at hq)|refine sI ?_|refine .intro _ (.intro rfl ?_));(conv=>whnf)))
   refine aD [] hcs trivial (λr hs=> ?_)
   rcases hs.ex with⟨rfl,hno⟩|⟨L,hL0,rfl,hLn,hLl,hcirc⟩
   ·((conv=>whnf);repeat' ((first|(intro hq;(try simp only [lnS]at hq);(try rewrite [List.length_map]))|refine sJ ?_|refine .intro _ (.intro rfl ?_)|refine exL (k:= ?_)|refine dwR ?_|((first|refine aB ?_ ?_|refine aC ?_ ?_)<;>intro hb<;>(first|exact ddX hb|try simp only [lnS]at hb))|(refine aA ?_ ?_<;>intro hb<;>try exact dsX hb))<;>(conv=>whnf)))
    refine⟨(j+1,most,o),⟨by dsimp only;omega, ?_⟩,by dsimp only;omega,⟨by repeat' (first|exact trivial|exact rfl|exact rS _|refine And.intro ?_ ?_),⟨rfl,rfl,rfl,trivial⟩⟩⟩
    dsimp only
    cases o with
    |none=>
     obtain⟨e1,e2⟩:=hO
     refine⟨e1,λst hst=> ?_⟩
     by_cases hsj:st=j
     ·subst hsj;rw [<-e1];exact hno
     ·exact e2 st (by omega)
    |some L=>exact hO
   ·((conv=>whnf);repeat ((first|(intro hq;try simp only [lnS]at hq)|refine sI ?_|refine .intro _ (.intro rfl ?_));(conv=>whnf)))
    rename_i bb
    cases bb
    ·((conv=>whnf);repeat' ((first|(intro hq;(try simp only [lnS]at hq);(try rewrite [List.length_map]))|refine sJ ?_|refine .intro _ (.intro rfl ?_)|refine exL (k:= ?_)|refine dwR ?_|((first|refine aB ?_ ?_|refine aC ?_ ?_)<;>intro hb<;>(first|exact ddX hb|try simp only [lnS]at hb))|(refine aA ?_ ?_<;>intro hb<;>try exact dsX hb))<;>(conv=>whnf)))
     exact⟨(j+1,L.length,some L),⟨by dsimp only;omega,hL0,hLn,hLl,rfl,hcirc⟩,by dsimp only;omega,⟨by repeat' (first|exact trivial|exact rfl|refine And.intro ?_ ?_),⟨rfl,rfl,rfl,trivial⟩⟩⟩
    ·exact absurd (List.map_eq_nil_iff.1 (hq rfl)) hL0
  ·have hjl:j=R.length:=by dsimp only at h2;omega
   subst hjl
   cases o with
   |none=>
    obtain⟨e1,e2⟩:=hO
    have hnc:¬ jO (ET (cQ l)):= λhc=>by
     obtain⟨L,w,t,c1,c2,c3⟩:=aO1 (hcq.1 hc)
     rw [hG.len]at c2 c3
     exact e2 _ c2 L w t c1 rfl c3
    rw [hrv0 hnc]
    ((conv=>whnf);repeat' ((first|(intro hq;(try simp only [lnS]at hq);(try rewrite [List.length_map]))|refine sJ ?_|refine .intro _ (.intro rfl ?_)|refine exL (k:= ?_)|refine dwR ?_|((first|refine aB ?_ ?_|refine aC ?_ ?_)<;>intro hb<;>(first|exact ddX hb|try simp only [lnS]at hb))|(refine aA ?_ ?_<;>intro hb<;>try exact dsX hb))<;>(conv=>whnf)))
    exact⟨_,rfl⟩
   |some L=>
    obtain⟨hL0,hLn,hLl,_,hcirc⟩:=hO
    rw [hrv1 (hcq.2 hcirc)]
    ((conv=>whnf);repeat ((first|(intro hq;try simp only [lnS]at hq)|refine sI ?_|refine .intro _ (.intro rfl ?_));(conv=>whnf)))
    rename_i bb
    cases bb
    ·((conv=>whnf);repeat ((first|(intro hq;try simp only [lnS]at hq)|refine sI ?_|refine .intro _ (.intro rfl ?_));(conv=>whnf)))
     rw [show (L.map iL).length=L.length from List.length_map ..]
     refine aM.own 2 66 9 1 rfl (bW (by with_unfolding_all exact rfl)) ?_
     refine aG hty (λy:Nat×List Str=>([(2, .osl 66 1 (y.2.map bN)),(5, .ptr 5 0),(42, .d (.sl 1 (L.map iL))),(43, .d (.int .i64 L.length)),(44, .d (.int .i64 y.1))],(66, .own 9 1 (y.2.map bN).length)::(5, .cells 121 [.d (aEl R), .d (.sl 1 (G.map aBr))])::NG)) (λy=>y.1<=L.length/\y.2.length<=y.1) (λy=>L.length - y.1) (0,[]) ⟨Nat.zero_le _,Nat.le_refl _⟩ ⟨by repeat' (first|exact trivial|exact rfl|refine And.intro ?_ ?_),⟨rfl,rfl,rfl,rfl,trivial⟩⟩ ?_
     rintro⟨k,C⟩ ⟨hk,hC⟩
     dsimp only at hk hC
     ((conv=>whnf);repeat ((first|(intro hq;try simp only [lnS]at hq)|refine sI ?_|refine .intro _ (.intro rfl ?_));(conv=>whnf)))
     refine aB (λh3=> ?_) (λh3=> ?_)
     ·have hkl:k < L.length:=by dsimp only at h3;omega
      have hrow:(L.map iL)[((k:Nat):Int).toNat]? =some (iL L[k]):=by
       rw [Int.toNat_natCast,List.getElem?_map,List.getElem?_eq_getElem hkl];rfl
      have hLk:=hLn _ (List.getElem_mem hkl)
      have hrow2:=dO hLk
      have hcl:(C.map bN).length=C.length:=List.length_map ..
      have hb63:(C.map bN).length+1<=9223372036854775807:=by rw [hcl];omega
      have hb48:((C.map bN).length+1)* 16<=140737488355328:=by rw [hcl];omega
      have hmp:(C++[R[L[k]]]).map bN=C.map bN++[bN R[L[k]]]:=by rw [List.map_append];rfl
      generalize R[L[k]]=s at *
      generalize L[k]=i at *
      ((conv=>whnf);repeat ((first|(refine⟨_,hrow, ?_⟩)|(refine⟨_,hrow2, ?_⟩)|(refine And.intro hb63 ?_)|(refine And.intro hb48 ?_)|(intro hq;try simp only [lnS]at hq)|refine sI ?_|refine .intro _ (.intro rfl ?_));(conv=>whnf)))
      refine⟨(k+1,C++[s]),⟨by dsimp only;omega,by dsimp only;rw [List.length_append,List.length_singleton];omega⟩,by dsimp only;omega, ?_⟩
      dsimp only
      rw [hmp,List.length_append]
      exact⟨by repeat' (first|exact trivial|exact rfl|refine And.intro ?_ ?_),⟨rfl,rfl,rfl,rfl,trivial⟩⟩
     ·((conv=>whnf);repeat' ((first|(intro hq;(try simp only [lnS]at hq);(try rewrite [List.length_map]))|refine sJ ?_|refine .intro _ (.intro rfl ?_)|refine exL (k:= ?_)|refine dwR ?_|((first|refine aB ?_ ?_|refine aC ?_ ?_)<;>intro hb<;>(first|exact ddX hb|try simp only [lnS]at hb))|(refine aA ?_ ?_<;>intro hb<;>try exact dsX hb))<;>(conv=>whnf)))
      exact⟨_,rfl⟩
    ·exact absurd (List.map_eq_nil_iff.1 (hq rfl)) hL0
theorem jW {α:Type}{l:List α}{j:Nat}(h:j < l.length):l.drop j=l[j]::l.drop (j+1):=List.drop_eq_getElem_cons h
theorem eN (l:List Ax):Tri Tryz.prog 22 [.d (hZ l)] NG (λr=>r= .d (.int .i64 (aY l))):=by
 refine aF false [1,4,5,9] hty Tryz.func22 rfl (kp [0,1,2,4,5,6,7,9,11,12,13,14,23,29,35,50,54,56,57,58,59,68]) [] _ _ _ (by simp [Tryz.f22]) (by decide) ?_
 ((conv=>whnf);repeat ((first|(intro hq;try simp only [lnS]at hq)|refine sI ?_|refine .intro _ (.intro rfl ?_));(conv=>whnf)))
 refine aG hty (λj:Nat=>([(1, .ea 1 [[.sl 16 (l.map axR)]] 0 0),(2, .d (.int .i64 0)),(11, .d (.sl 16 (l.map axR))),(12, .d (.int .i64 l.length)),(13, .d (.int .i64 j))],NG)) (λj=>(j<=l.length/\ ∀x∈l.take j,aS x=(x,0))/\fJ l=fJ (l.drop j)) (λj=>l.length - j) 0 ⟨⟨by omega,by simp⟩,rfl⟩ ⟨by repeat' (first|exact trivial|exact rfl|(rw [List.length_map];exact rfl)|refine And.intro ?_ ?_),⟨rfl,rfl,trivial⟩⟩ ?_
 rintro j ⟨⟨hj,hz⟩,hf⟩
 ((conv=>whnf);repeat ((first|(intro hq;try simp only [lnS]at hq)|refine sI ?_|refine .intro _ (.intro rfl ?_));(conv=>whnf)))
 refine aB (λh1=> ?_) (λh1=> ?_)
 ·have hjl:j < l.length:=by omega
  have hrow:=bR hjl
  have ht:=jX l[j]
  have he:= λh:(aS l[j]).2=0=>zL l[j] (aS l[j]).1 (pG (cP h)) (lC h)
  rw [jW hjl,fJ]at hf
  have hz2:aS l[j]=(l[j],0)-> ∀x∈l.take (j+1),aS x=(x,0):= λh2 y hy=>by
   rw [List.take_succ_eq_append_getElem hjl]at hy
   rcases List.mem_append.1 hy with hy|hy
   ·exact hz y hy
   ·simp at hy;subst hy;exact h2
  have hz3:(aS l[j]).2=0->eqA l[j] (aS l[j]).1=true->aS l[j]=(l[j],0):= λh1 h2=>Prod.ext (jC.1 h2).symm h1
  have hcv:fJ l≠0->aY l=fJ l:= λh=>by unfold aY;rw [if_pos h]
  generalize aS l[j]=T at *
  obtain⟨X,e⟩:=T
  dsimp only at ht he hf hz3
  generalize eqA l[j] X=b at *
  generalize l[j]=x at *
  ((conv=>whnf);repeat ((first|(refine⟨_,hrow, ?_⟩)|(refine aD NG ht ⟨rfl,rfl,trivial⟩ (λr hs=> ?_);subst hs)|(intro hq;try simp only [lnS]at hq)|refine sI ?_|refine .intro _ (.intro rfl ?_));(conv=>whnf)))
  refine aC (λh2=> ?_) (λh2=> ?_)
  ·rw [if_pos h2]at hf
   rw [hcv (by rw [hf];exact h2),hf]
   ((conv=>whnf);repeat' ((first|(intro hq;(try simp only [lnS]at hq);(try rewrite [List.length_map]))|refine sJ ?_|refine .intro _ (.intro rfl ?_)|refine exL (k:= ?_)|refine dwR ?_|((first|refine aB ?_ ?_|refine aC ?_ ?_)<;>intro hb<;>(first|exact ddX hb|try simp only [lnS]at hb))|(refine aA ?_ ?_<;>intro hb<;>try exact dsX hb))<;>(conv=>whnf)))
   rfl
  ·rw [if_neg (by simp [h2])]at hf
   have he:=he h2
   ((conv=>whnf);repeat ((first|(refine aD [] he trivial (λr hs=> ?_);subst hs)|(intro hq;try simp only [lnS]at hq)|refine sI ?_|refine .intro _ (.intro rfl ?_));(conv=>whnf)))
   cases b
   ·rw [if_pos rfl]at hf
    rw [hcv (by rw [hf];decide),hf]
    ((conv=>whnf);repeat' ((first|(intro hq;(try simp only [lnS]at hq);(try rewrite [List.length_map]))|refine sJ ?_|refine .intro _ (.intro rfl ?_)|refine exL (k:= ?_)|refine dwR ?_|((first|refine aB ?_ ?_|refine aC ?_ ?_)<;>intro hb<;>(first|exact ddX hb|try simp only [lnS]at hb))|(refine aA ?_ ?_<;>intro hb<;>try exact dsX hb))<;>(conv=>whnf)))
    rfl
   ·rw [if_neg (by decide)]at hf
    ((conv=>whnf);repeat' ((first|(intro hq;(try simp only [lnS]at hq);(try rewrite [List.length_map]))|refine sJ ?_|refine .intro _ (.intro rfl ?_)|refine exL (k:= ?_)|refine dwR ?_|((first|refine aB ?_ ?_|refine aC ?_ ?_)<;>intro hb<;>(first|exact ddX hb|try simp only [lnS]at hb))|(refine aA ?_ ?_<;>intro hb<;>try exact dsX hb))<;>(conv=>whnf)))
    exact⟨j+1,⟨⟨by omega,hz2 (hz3 h2 rfl)⟩,hf⟩,by dsimp only;omega,⟨by repeat' (first|exact trivial|exact rfl|refine And.intro ?_ ?_),⟨rfl,rfl,trivial⟩⟩⟩
 have hjl:j=l.length:=by omega
 subst hjl
 rw [List.take_length]at hz
 have hf0:fJ l=0:=(gI l).2 hz
 have hsm: ∀x∈l,SmA x:= λx hx=>pG (cP (by rw [hz x hx]))
 clear hf hj h1
 ((conv=>whnf);repeat ((first|(intro hq;try simp only [lnS]at hq)|refine sI ?_|refine .intro _ (.intro rfl ?_));(conv=>whnf)))
 refine aG hty (λi:Nat=>([(1, .ea 1 [[.sl 16 (l.map axR)]] 0 0),(2, .d (.int .i64 0)),(7, .d (.int .i64 i))],NG)) (λi=>(1<=i/\(i<=l.length\/i=1))/\fA l=fA (l.drop (i - 1))) (λi=>l.length - i) 1 ⟨by omega,rfl⟩ ⟨by repeat' (first|exact trivial|exact rfl|refine And.intro ?_ ?_),⟨rfl,rfl,trivial⟩⟩ ?_
 rintro i ⟨⟨hi1,hi2⟩,hso⟩
 ((conv=>whnf);repeat ((first|(intro hq;try simp only [lnS]at hq)|refine sI ?_|refine .intro _ (.intro rfl ?_));(conv=>whnf)))
 refine aB (λh1=> ?_) (λh1=> ?_)
 ·have hil:i < l.length:=by have h1:(i:Int) < ((l.map axR).length:Nat):=h1;rw [List.length_map]at h1;omega
  have hip:i - 1 < l.length:=by omega
  have hrow:=bR hil
  have hrow2:(l.map axR)[((i:Int) - 1).toNat]? =some (axR l[i - 1]):=by
   rw [show ((i:Int) - 1).toNat=i - 1 by omega,List.getElem?_map,List.getElem?_eq_getElem hip];rfl
  have s1:=hsm _ (List.getElem_mem hil)
  have s2:=hsm _ (List.getElem_mem hip)
  have c:=eY l[i - 1] l[i] s2.1 s2.2.1 s2.2.2 s1.1 s1.2.1 s1.2.2
  rw [jW hip,show i - 1+1=i by omega,jW hil,fA,<-jW hil]at hso
  have hcv:fA l=false->aY l=70:= λh=>by unfold aY;rw [if_neg (by simp [hf0]),if_pos h]
  generalize aQ l[i - 1] l[i]=v at *
  generalize l[i - 1]=y at *
  generalize l[i]=x at *
  ((conv=>whnf);repeat ((first|(intro hq;try simp only [lnS]at hq)|refine sI ?_|refine .intro _ (.intro rfl ?_));(conv=>whnf)))
  refine dwR ?_
  ((conv=>whnf);repeat ((first|(refine⟨_,hrow, ?_⟩)|(refine⟨_,hrow2, ?_⟩)|(refine⟨by kernel_rfl, .d (.int .i64 _),_,[],rfl,trivial,c, ?_⟩)|(intro hq;try simp only [lnS]at hq)|refine sI ?_|refine .intro _ (.intro rfl ?_));(conv=>whnf)))
  refine aC (λh2=> ?_) (λh2=> ?_)
  ·rw [hcv (by rw [hso];simp [h2])]
   ((conv=>whnf);repeat' ((first|(intro hq;(try simp only [lnS]at hq);(try rewrite [List.length_map]))|refine sJ ?_|refine .intro _ (.intro rfl ?_)|refine exL (k:= ?_)|refine dwR ?_|((first|refine aB ?_ ?_|refine aC ?_ ?_)<;>intro hb<;>(first|exact ddX hb|try simp only [lnS]at hb))|(refine aA ?_ ?_<;>intro hb<;>try exact dsX hb))<;>(conv=>whnf)))
   rfl
  ·((conv=>whnf);repeat' ((first|(intro hq;(try simp only [lnS]at hq);(try rewrite [List.length_map]))|refine sJ ?_|refine .intro _ (.intro rfl ?_)|refine exL (k:= ?_)|refine dwR ?_|((first|refine aB ?_ ?_|refine aC ?_ ?_)<;>intro hb<;>(first|exact ddX hb|try simp only [lnS]at hb))|(refine aA ?_ ?_<;>intro hb<;>try exact dsX hb))<;>(conv=>whnf)))
   refine⟨i+1,⟨by omega, ?_⟩,by dsimp only;omega,⟨by repeat' (first|exact trivial|exact rfl|refine And.intro ?_ ?_),⟨rfl,rfl,trivial⟩⟩⟩
   rw [hso,show i+1 - 1=i by omega]
   simp [h2]
 have hst:fA l=true:=by
  have h1:¬ (i:Int) < ((l.map axR).length:Nat):=h1
  rw [List.length_map]at h1
  rw [hso]
  have hd:(l.drop (i - 1)).length<=1:=by rw [List.length_drop];omega
  match l.drop (i - 1),hd with
  | [],_=>rfl
  | [x],_=>rfl
  |x::y::r,h=>simp at h
 clear hso h1 hi1 hi2
 have hcv1:1024 < l.length->aY l=2:= λh=>by unfold aY;rw [if_neg (by simp [hf0]),if_neg (by simp [hst]),if_pos h]
 have hcv2:¬ 1024 < l.length->l.any dP=true->aY l=71:= λh h2=>by unfold aY;rw [if_neg (by simp [hf0]),if_neg (by simp [hst]),if_neg h,if_pos h2]
 have hcv3:¬ 1024 < l.length->l.any dP=false->aY l=eG l:= λh h2=>by unfold aY;rw [if_neg (by simp [hf0]),if_neg (by simp [hst]),if_neg h,if_neg (by simp [h2])]
 ((conv=>whnf);repeat ((first|(intro hq;try simp only [lnS]at hq)|refine sI ?_|refine .intro _ (.intro rfl ?_));(conv=>whnf)))
 refine aB (λh3=> ?_) (λh3=> ?_)
 ·have h3:(1024:Int) < ((l.map axR).length:Nat):=h3
  rw [List.length_map]at h3
  rw [hcv1 (by omega)]
  ((conv=>whnf);repeat' ((first|(intro hq;(try simp only [lnS]at hq);(try rewrite [List.length_map]))|refine sJ ?_|refine .intro _ (.intro rfl ?_)|refine exL (k:= ?_)|refine dwR ?_|((first|refine aB ?_ ?_|refine aC ?_ ?_)<;>intro hb<;>(first|exact ddX hb|try simp only [lnS]at hb))|(refine aA ?_ ?_<;>intro hb<;>try exact dsX hb))<;>(conv=>whnf)))
  rfl
 have hlen:¬ 1024 < l.length:=by
  have h3:¬ (1024:Int) < ((l.map axR).length:Nat):=h3
  rw [List.length_map]at h3
  omega
 have hro:=aJ3 l (by omega)
 ((conv=>whnf);repeat ((first|(intro hq;try simp only [lnS]at hq)|refine sI ?_|refine .intro _ (.intro rfl ?_));(conv=>whnf)))
 rw [List.length_map]
 refine aG hty (λj:Nat=>([(1, .ea 1 [[.sl 16 (l.map axR)]] 0 0),(2, .d (.int .i64 0)),(56, .d (.sl 16 (l.map axR))),(57, .d (.int .i64 l.length)),(58, .d (.int .i64 j))],NG)) (λj=>j<=l.length/\(l.take j).any dP=false) (λj=>l.length - j) 0 ⟨by omega,rfl⟩ ⟨by repeat' (first|exact trivial|exact rfl|refine And.intro ?_ ?_),⟨rfl,rfl,trivial⟩⟩ ?_
 rintro j ⟨hj,ha⟩
 ((conv=>whnf);repeat ((first|(intro hq;try simp only [lnS]at hq)|refine sI ?_|refine .intro _ (.intro rfl ?_));(conv=>whnf)))
 refine aB (λh4=> ?_) (λh4=> ?_)
 ·have hjl:j < l.length:=by omega
  have hrow:=bR hjl
  have c:=aFo l[j]
  have hbad:dP l[j]=true->l.any dP=true:= λh=>List.any_eq_true.2 ⟨_,List.getElem_mem hjl,h⟩
  have hok:dP l[j]=false->(l.take (j+1)).any dP=false:= λh=>by
   rw [List.take_succ_eq_append_getElem hjl,List.any_append,ha];simpa using h
  have hsv:dP l[j]=(uJ l[j] && !l[j].isopen):=rfl
  rw [hsv]at hbad hok
  clear hsv
  generalize uJ l[j]=b at *
  obtain⟨x,hx⟩: ∃x,x=l[j]:=⟨_,rfl⟩
  rw [<-hx]at hrow c hbad hok
  clear hx
  obtain⟨k,o,a1,a2,a3,a4,a5,a6⟩:=x
  dsimp only at hbad hok
  cases b<;>cases o
  all_goals ((conv=>whnf);repeat' ((first|(intro hq;(try simp only [lnS]at hq);(try rewrite [List.length_map]))|refine sJ ?_|refine .intro _ (.intro rfl ?_)|refine exL (k:= ?_)|(refine⟨_,hrow, ?_⟩)|(refine aD [] c trivial (λr hs=> ?_);subst hs)|refine dwR ?_|((first|refine aB ?_ ?_|refine aC ?_ ?_)<;>intro hb<;>(first|exact ddX hb|try simp only [lnS]at hb))|(refine aA ?_ ?_<;>intro hb<;>try exact dsX hb))<;>(conv=>whnf)))
  ·exact⟨j+1,⟨by omega,hok rfl⟩,by dsimp only;omega,⟨by repeat' (first|exact trivial|exact rfl|refine And.intro ?_ ?_),⟨rfl,rfl,trivial⟩⟩⟩
  ·exact⟨j+1,⟨by omega,hok rfl⟩,by dsimp only;omega,⟨by repeat' (first|exact trivial|exact rfl|refine And.intro ?_ ?_),⟨rfl,rfl,trivial⟩⟩⟩
  ·rw [hcv2 hlen (hbad rfl)];rfl
  ·exact⟨j+1,⟨by omega,hok rfl⟩,by dsimp only;omega,⟨by repeat' (first|exact trivial|exact rfl|refine And.intro ?_ ?_),⟨rfl,rfl,trivial⟩⟩⟩
 ·have hjl:j=l.length:=by omega
  subst hjl
  rw [List.take_length]at ha
  rw [hcv3 hlen ha]
  ((conv=>whnf);repeat ((first|(intro hq;try simp only [lnS]at hq)|refine sI ?_|refine .intro _ (.intro rfl ?_));(conv=>whnf)))
  refine aD NG hro ⟨rfl,rfl,trivial⟩ (λr hs=> ?_)
  obtain⟨s,rfl⟩:=hs.ex
  ((conv=>whnf);repeat' ((first|(intro hq;(try simp only [lnS]at hq);(try rewrite [List.length_map]))|refine sJ ?_|refine .intro _ (.intro rfl ?_)|refine exL (k:= ?_)|refine dwR ?_|((first|refine aB ?_ ?_|refine aC ?_ ?_)<;>intro hb<;>(first|exact ddX hb|try simp only [lnS]at hb))|(refine aA ?_ ?_<;>intro hb<;>try exact dsX hb))<;>(conv=>whnf)))
  rfl
end Go.Proofs.YtfhoddcminbffaaGreatDoor
namespace Go.Proofs.YtfhoddcminbffaaGreatDoor
open Go.Proofs
set_option maxRecDepth 10000
attribute [local irreducible] aM aJ Tri aH YVC dI bI
theorem aIo {l:List Str}{s:Str}{j:Nat}(h:j < l.length) (h1:s∉l.take j) (h2:¬ l[j]=s):s∉l.take (j+1):=by
 rw [List.take_succ_eq_append_getElem h]
 intro hm
 rcases List.mem_append.1 hm with hm|hm
 ·exact h1 hm
 ·simp only [List.mem_singleton]at hm;exact h2 hm.symm
theorem yK (l:List Str) (s:Str):Tri Tryz.prog 155 [.d (.sl 1 (l.map bN)), .d (.str s)] [] (λr=>r= .d (.bool (decide (s∈l)))):=by
 refine Tri.len 0 rfl λhlen=> ?_
 rw [List.length_map]at hlen
 refine aK hty Tryz.func155 rfl (kp [0,1,4,5,9,17]) [] _ _ _ (by simp [Tryz.f155]) (by simp) ?_
 ((conv=>whnf);repeat ((first|(intro hq;try simp only [lnS]at hq)|refine sI ?_|refine .intro _ (.intro rfl ?_));(conv=>whnf)))
 refine aG hty (λj:Nat=>([(0, .d (.sl 1 (l.map bN))),(1, .d (.str s)),(5, .d (.int .i64 j))],[])) (λj=>j<=l.length/\s∉l.take j) (λj=>l.length - j) 0 ⟨by omega,by simp⟩ ⟨by repeat' (first|exact trivial|exact rfl|refine And.intro ?_ ?_),by repeat' (first|exact trivial|exact rfl|refine And.intro ?_ ?_)⟩ ?_
 rintro j ⟨hj,hn⟩
 ((conv=>whnf);repeat ((first|(intro hq;try simp only [lnS]at hq)|refine sI ?_|refine .intro _ (.intro rfl ?_));(conv=>whnf)))
 refine aB (λh1=> ?_) (λh1=> ?_)
 ·have hjl:j < l.length:=by have h1:(j:Int) < ((l.map bN).length:Nat):=h1;rw [List.length_map]at h1;omega
  have hrow:=dO hjl
  have hmem:l[j]∈l:=List.getElem_mem hjl
  have htk:=aIo hjl hn
  generalize l[j]=x at *
  ((conv=>whnf);repeat ((first|(refine⟨_,hrow, ?_⟩)|(intro hq;try simp only [lnS]at hq)|refine sI ?_|refine .intro _ (.intro rfl ?_));(conv=>whnf)))
  refine aB (λh2=> ?_) (λh2=> ?_)
  ·rw [h2]at hmem
   rw [decide_eq_true hmem]
   ((conv=>whnf);repeat' ((first|(intro hq;(try simp only [lnS]at hq);(try rewrite [List.length_map]))|refine sJ ?_|refine .intro _ (.intro rfl ?_)|refine exL (k:= ?_)|refine dwR ?_|((first|refine aB ?_ ?_|refine aC ?_ ?_)<;>intro hb<;>(first|exact ddX hb|try simp only [lnS]at hb))|(refine aA ?_ ?_<;>intro hb<;>try exact dsX hb))<;>(conv=>whnf)))
   rfl
  ·((conv=>whnf);repeat' ((first|(intro hq;(try simp only [lnS]at hq);(try rewrite [List.length_map]))|refine sJ ?_|refine .intro _ (.intro rfl ?_)|refine exL (k:= ?_)|refine dwR ?_|((first|refine aB ?_ ?_|refine aC ?_ ?_)<;>intro hb<;>(first|exact ddX hb|try simp only [lnS]at hb))|(refine aA ?_ ?_<;>intro hb<;>try exact dsX hb))<;>(conv=>whnf)))
   exact⟨j+1,⟨by omega,htk h2⟩,by dsimp only;omega,⟨by repeat' (first|exact trivial|exact rfl|refine And.intro ?_ ?_),by repeat' (first|exact trivial|exact rfl|refine And.intro ?_ ?_)⟩⟩
 ·have hjl:j=l.length:=by have h1:¬ (j:Int) < ((l.map bN).length:Nat):=h1;rw [List.length_map]at h1;omega
  subst hjl
  rw [List.take_length]at hn
  rw [decide_eq_false hn]
  ((conv=>whnf);repeat' ((first|(intro hq;(try simp only [lnS]at hq);(try rewrite [List.length_map]))|refine sJ ?_|refine .intro _ (.intro rfl ?_)|refine exL (k:= ?_)|refine dwR ?_|((first|refine aB ?_ ?_|refine aC ?_ ?_)<;>intro hb<;>(first|exact ddX hb|try simp only [lnS]at hb))|(refine aA ?_ ?_<;>intro hb<;>try exact dsX hb))<;>(conv=>whnf)))
  rfl
structure With6 (l:List Str) (s:Str) (r:SV):Prop where
 ex: ∃m:List Str,r= .d (.sl 1 (m.map bN))/\(∀y,y∈m↔y∈l\/y=s)/\m.length<=l.length+1
theorem aBy {l:List Str}{s:Str}{j:Nat}(hj:j<=l.length): ∃m:List Str,(SV.d (.sl 1 ((l.map bN).take j++[bN s]++(l.map bN).drop j)):SV)= .d (.sl 1 (m.map bN))/\(∀y,y∈m↔y∈l\/y=s)/\m.length<=l.length+1:=by
 refine⟨l.take j++[s]++l.drop j, ?_,λy=> ?_, ?_⟩
 ·simp [List.map_append,List.map_take,List.map_drop]
 ·conv=>rhs;rw [<-List.take_append_drop j l]
  simp only [List.mem_append,List.mem_singleton]
  constructor
  ·rintro((h|h)|h)
   ·exact .inl (.inl h)
   ·exact .inr h
   ·exact .inl (.inr h)
  ·rintro((h|h)|h)
   ·exact .inl (.inl h)
   ·exact .inr h
   ·exact .inl (.inr h)
 ·simp only [List.length_append,List.length_take,List.length_drop,List.length_singleton];omega
theorem uO (l:List Str) (s:Str) (hl:l.length<=1000000):Tri Tryz.prog 154 [.d (.sl 1 (l.map bN)), .d (.str s)] [] (With6 l s):=by
 have hh:=yK l s
 have hta:(l.map bN).take l.length=l.map bN:=List.take_of_length_le (by simp)
 have hrl:(l.map bN).length=l.length:=List.length_map ..
 refine aK hty Tryz.func154 rfl (kp [0,1,4,5,6,9,22]) [] _ _ _ (by simp [Tryz.f154]) (by simp) ?_
 ((conv=>whnf);repeat ((first|(refine aD [] hh trivial (λr hs=> ?_);subst hs)|(intro hq;try simp only [lnS]at hq)|refine sI ?_|refine .intro _ (.intro rfl ?_));(conv=>whnf)))
 refine aB (λh1=> ?_) (λh1=> ?_)
 ·((conv=>whnf);repeat' ((first|(intro hq;(try simp only [lnS]at hq);(try rewrite [List.length_map]))|refine sJ ?_|refine .intro _ (.intro rfl ?_)|refine exL (k:= ?_)|refine dwR ?_|((first|refine aB ?_ ?_|refine aC ?_ ?_)<;>intro hb<;>(first|exact ddX hb|try simp only [lnS]at hb))|(refine aA ?_ ?_<;>intro hb<;>try exact dsX hb))<;>(conv=>whnf)))
  exact⟨l,rfl,λy=>⟨.inl,λh=>by rcases h with h|h;exact h;rw [h];exact h1⟩,by omega⟩
 ·((conv=>whnf);repeat ((first|(intro hq;try simp only [lnS]at hq)|refine sI ?_|refine .intro _ (.intro rfl ?_));(conv=>whnf)))
  refine aG hty (λj:Nat=>([(0, .d (.sl 1 (l.map bN))),(1, .d (.str s)),(5, .d (.int .i64 j))],[])) (λj=>j<=l.length) (λj=>l.length - j) 0 (by omega) ⟨by repeat' (first|exact trivial|exact rfl|refine And.intro ?_ ?_),by repeat' (first|exact trivial|exact rfl|refine And.intro ?_ ?_)⟩ ?_
  rintro j hj
  ((conv=>whnf);repeat ((first|(intro hq;try simp only [lnS]at hq)|refine sI ?_|refine .intro _ (.intro rfl ?_));(conv=>whnf)))
  refine aB (λh2=> ?_) (λh2=> ?_)
  ·have hjl:j < l.length:=by have h2:(j:Int) < ((l.map bN).length:Nat):=h2;rw [hrl]at h2;omega
   have hrow:=dO hjl
   generalize l[j]=x at *
   ((conv=>whnf);repeat ((first|(refine⟨_,hrow, ?_⟩)|(intro hq;try simp only [lnS]at hq)|refine sI ?_|refine .intro _ (.intro rfl ?_));(conv=>whnf)))
   cases hb:Op.bytesLess x s
   ·obtain⟨m,e,g1,g2⟩:=aBy (s:=s) hj
    ((conv=>whnf);repeat' ((first|(intro hq;(try simp only [lnS]at hq);(try rewrite [List.length_map]))|refine sJ ?_|refine .intro _ (.intro rfl ?_)|refine exL (k:= ?_)|(refine And.intro (by simp only [List.length_replicate,List.length_drop,List.length_take,List.length_map,List.length_append,List.length_cons,List.length_nil];omega) ?_)|refine dwR ?_|((first|refine aB ?_ ?_|refine aC ?_ ?_)<;>intro hb<;>(first|exact ddX hb|try simp only [lnS]at hb))|(refine aA ?_ ?_<;>intro hb<;>try exact dsX hb))<;>(conv=>whnf)))
    refine⟨m, ?_,g1,g2⟩
    rw [<-e]
    refine congrArg (λq=>SV.d (.sl 1 q)) ?_
    simp [hta,bN]
   ·((conv=>whnf);repeat' ((first|(intro hq;(try simp only [lnS]at hq);(try rewrite [List.length_map]))|refine sJ ?_|refine .intro _ (.intro rfl ?_)|refine exL (k:= ?_)|refine dwR ?_|((first|refine aB ?_ ?_|refine aC ?_ ?_)<;>intro hb<;>(first|exact ddX hb|try simp only [lnS]at hb))|(refine aA ?_ ?_<;>intro hb<;>try exact dsX hb))<;>(conv=>whnf)))
    exact⟨j+1,by omega,by dsimp only;omega,⟨by repeat' (first|exact trivial|exact rfl|refine And.intro ?_ ?_),by repeat' (first|exact trivial|exact rfl|refine And.intro ?_ ?_)⟩⟩
  ·obtain⟨m,e,g1,g2⟩:=aBy (s:=s) hj
   ((conv=>whnf);repeat' ((first|(intro hq;(try simp only [lnS]at hq);(try rewrite [List.length_map]))|refine sJ ?_|refine .intro _ (.intro rfl ?_)|refine exL (k:= ?_)|(refine And.intro (by simp only [List.length_replicate,List.length_drop,List.length_take,List.length_map,List.length_append,List.length_cons,List.length_nil];omega) ?_)|refine dwR ?_|((first|refine aB ?_ ?_|refine aC ?_ ?_)<;>intro hb<;>(first|exact ddX hb|try simp only [lnS]at hb))|(refine aA ?_ ?_<;>intro hb<;>try exact dsX hb))<;>(conv=>whnf)))
   refine⟨m, ?_,g1,g2⟩
   rw [<-e]
   refine congrArg (λq=>SV.d (.sl 1 q)) ?_
   simp [hta,bN]
structure AllW (l:List Ax) (r:SV):Prop where
 ex: ∃(d:D) (m:List Str),r= .d d/\WkD d (.sl 1 (m.map bN))/\(∀k∈cQ l,k.1∈m)/\m.length<=5 * l.length
structure All6 (l:List Ax) (r:SV):Prop where
 ex: ∃m:List Str,r= .d (.sl 1 (m.map bN))/\(∀k∈cQ l,k.1∈m)/\m.length<=5 * l.length
theorem aIq {x:Ax}(hx:bB x=0) {k:Stp}(hk:k∈dG x):k.1∈x.roles:=by
 unfold dG at hk
 split at hk
 ·rename_i h5
  split at hk
  ·simp at hk
  ·simp only [List.mem_singleton]at hk
   rw [hk]
   have hl:0 < x.roles.length:=by
    obtain⟨_,hs,_⟩:=(eX x).1 hx
    rw [h5]at hs
    unfold bA at hs
    simp only [Bool.and_eq_true,decide_eq_true_eq]at hs
    have:(bX 5).least=1:=rfl
    omega
   show aOc x 0∈x.roles
   rw [lZ hl]
   exact List.getElem_mem hl
 ·split at hk
  ·obtain⟨i,hi,hk⟩:=List.mem_flatMap.1 hk
   split at hk
   ·simp at hk
   ·simp only [List.mem_singleton]at hk
    rw [hk]
    show aOc x i∈x.roles
    rw [lZ (List.mem_range.1 hi)]
    exact List.getElem_mem _
  ·simp at hk
theorem aRs (l:List Ax) (hv: ∀x∈l,bB x=0) (hn:l.length<=10000):Tri Tryz.prog 112 [.d (.sl 16 (l.map axR))] [] (AllW l):=by
 have hrl:(l.map axR).length=l.length:=List.length_map ..
 refine aK hty Tryz.func112 rfl (kp [0,2,3,4,5,9,33,48]) [] _ _ _ (by simp [Tryz.f112]) (by simp) ?_
 ((conv=>whnf);repeat ((first|(intro hq;try simp only [lnS]at hq)|refine sI ?_|refine .intro _ (.intro rfl ?_));(conv=>whnf)))
 refine aG hty (λy:Nat×D=>([(0, .d (.sl 16 (l.map axR))),(3, .d y.2),(4, .d (.int .i64 y.1))],[])) (λy=>y.1<=l.length/\ ∃m:List Str,WkD y.2 (.sl 1 (m.map bN))/\(∀k∈cQ (l.take y.1),k.1∈m)/\m.length<=5 * y.1) (λy=>l.length - y.1) (0, .nil) ⟨by dsimp only;omega,[],rfl,by simp [cQ],by simp⟩ ⟨by repeat' (first|exact trivial|exact rfl|refine And.intro ?_ ?_),by repeat' (first|exact trivial|exact rfl|refine And.intro ?_ ?_)⟩ ?_
 rintro⟨j,d⟩ ⟨hj,m,hd,hm,hml⟩
 dsimp only at hj hd hm hml
 ((conv=>whnf);repeat ((first|(intro hq;try simp only [lnS]at hq)|refine sI ?_|refine .intro _ (.intro rfl ?_));(conv=>whnf)))
 refine aB (λh1=> ?_) (λh1=> ?_)
 ·have hjl:j < l.length:=by have h1:(j:Int) < ((l.map axR).length:Nat):=h1;rw [hrl]at h1;omega
  have hrow:=bR hjl
  have hx:=hv _ (List.getElem_mem hjl)
  have hst:=oH hjl
  have hr4:=(fK hx).2.2
  have hsf:= λk hk=>aIq (k:=k) hx hk
  generalize l[j]=x at *
  have hw0:=uO m x.role (by omega)
  have hw:Tri Tryz.prog 154 [.d d, .d (.str x.role)] [] (With6 m x.role):=Tri.weakD hw0 ⟨hd,rfl,trivial⟩
  ((conv=>whnf);repeat' ((first|(intro hq;(try simp only [lnS]at hq);(try rewrite [List.length_map]))|refine sJ ?_|refine .intro _ (.intro rfl ?_)|refine exL (k:= ?_)|(refine⟨_,hrow, ?_⟩)|(refine aD [] hw trivial (λr hs=> ?_);obtain⟨m2,rfl,hm2,hl2⟩:=hs.ex)|refine dwR ?_|((first|refine aB ?_ ?_|refine aC ?_ ?_)<;>intro hb<;>(first|exact ddX hb|try simp only [lnS]at hb))|(refine aA ?_ ?_<;>intro hb<;>try exact dsX hb))<;>(conv=>whnf)))
  any_goals
   (refine aG hty (λy : Nat × List Str => ([(0, .d (.sl 16 (l.map axR))), (3, .d (.sl 1 (y.2.map bN))), (4, .d (.int .i64 j)), (5, .d (.int .i64 y.1))], [])) (λy => y.1 <= x.roles.length /\ (∀ s ∈ m, s ∈ y.2) /\ (∀ s ∈ x.roles.take y.1, s ∈ y.2) /\ y.2.length <= 5 * j + 1 + y.1) (λy => x.roles.length - y.1) (0, m2) ⟨by dsimp only; omega, λs hs => (hm2 s).2 (.inl hs), by simp, by dsimp only; omega⟩ ⟨by repeat' (first | exact trivial | exact rfl | refine And.intro ?_ ?_), by repeat' (first | exact trivial | exact rfl | refine And.intro ?_ ?_)⟩ ?_
    clear hw hw0 hs hm2 hl2 hd
    rintro⟨k,M⟩ ⟨hk,g1,g2,g3⟩
    dsimp only at hk g1 g2 g3
    ((conv=>whnf);repeat ((first|(refine⟨_,hrow, ?_⟩)|(intro hq;try simp only [lnS]at hq)|refine sI ?_|refine .intro _ (.intro rfl ?_));(conv=>whnf)))
    refine aB (λh2=> ?_) (λh2=> ?_)
    · have hkl:k < x.roles.length:=by have h2:(k:Int) < ((x.roles.map bN).length:Nat):=h2;rw [List.length_map]at h2;omega
      have hrow2:=dO hkl
      have hw:=uO M x.roles[k] (by omega)
      have htk:=List.take_succ_eq_append_getElem hkl
      generalize x.roles[k]=s at *
      ((conv=>whnf);repeat ((first|(refine⟨_,hrow, ?_⟩)|(refine⟨_,hrow2, ?_⟩)|(refine aD [] hw trivial (λr hs=> ?_);obtain⟨M2,rfl,hm2,hl2⟩:=hs.ex)|(intro hq;try simp only [lnS]at hq)|refine sI ?_|refine .intro _ (.intro rfl ?_));(conv=>whnf)))
      refine⟨(k+1,M2),⟨by dsimp only;omega,λt ht=>(hm2 t).2 (.inl (g1 t ht)),λt ht=> ?_,by dsimp only;omega⟩,by dsimp only;omega,⟨by repeat' (first|exact trivial|exact rfl|refine And.intro ?_ ?_),by repeat' (first|exact trivial|exact rfl|refine And.intro ?_ ?_)⟩⟩
      dsimp only at ht
      rw [htk]at ht
      rcases List.mem_append.1 ht with ht|ht
      · exact(hm2 t).2 (.inl (g2 t ht))
      · simp only [List.mem_singleton]at ht
        exact(hm2 t).2 (.inr ht)
    · have hkl:k=x.roles.length:=by have h2:¬ (k:Int) < ((x.roles.map bN).length:Nat):=h2;rw [List.length_map]at h2;omega
      subst hkl
      rw [List.take_length]at g2
      ((conv=>whnf);repeat' ((first|(intro hq;(try simp only [lnS]at hq);(try rewrite [List.length_map]))|refine sJ ?_|refine .intro _ (.intro rfl ?_)|refine exL (k:= ?_)|refine dwR ?_|((first|refine aB ?_ ?_|refine aC ?_ ?_)<;>intro hb<;>(first|exact ddX hb|try simp only [lnS]at hb))|(refine aA ?_ ?_<;>intro hb<;>try exact dsX hb))<;>(conv=>whnf)))
      refine⟨(j+1, .sl 1 (M.map bN)),⟨by dsimp only;omega,M,lM _,λt ht=> ?_,by dsimp only;omega⟩,by dsimp only;omega,⟨by repeat' (first|exact trivial|exact rfl|refine And.intro ?_ ?_),by repeat' (first|exact trivial|exact rfl|refine And.intro ?_ ?_)⟩⟩
      dsimp only at ht
      rw [hst]at ht
      rcases List.mem_append.1 ht with ht|ht
      · exact g1 _ (hm t ht)
      · exact g2 _ (hsf t ht))
  refine⟨(j+1,d),⟨by dsimp only;omega,m,hd,λt ht=> ?_,by dsimp only;omega⟩,by dsimp only;omega,⟨by repeat' (first|exact trivial|exact rfl|exact rS _|refine And.intro ?_ ?_),by repeat' (first|exact trivial|exact rfl|refine And.intro ?_ ?_)⟩⟩
  dsimp only at ht
  rw [hst]at ht
  rcases List.mem_append.1 ht with ht|ht
  ·exact hm t ht
  ·unfold dG at ht
   rw [if_neg (by assumption),if_neg (by assumption)]at ht
   simp at ht
 ·have hjl:j=l.length:=by have h1:¬ (j:Int) < ((l.map axR).length:Nat):=h1;rw [hrl]at h1;omega
  subst hjl
  rw [List.take_length]at hm
  ((conv=>whnf);repeat' ((first|(intro hq;(try simp only [lnS]at hq);(try rewrite [List.length_map]))|refine sJ ?_|refine .intro _ (.intro rfl ?_)|refine exL (k:= ?_)|refine dwR ?_|((first|refine aB ?_ ?_|refine aC ?_ ?_)<;>intro hb<;>(first|exact ddX hb|try simp only [lnS]at hb))|(refine aA ?_ ?_<;>intro hb<;>try exact dsX hb))<;>(conv=>whnf)))
  exact⟨d,m,rfl,hd,hm,hml⟩
theorem aJb (l:List Ax) (hv: ∀x∈l,bB x=0) (hn:l.length<=10000):Tri Tryz.prog 112 [.d (.sl 16 (l.map axR))] [] (All6 l):=
 Tri.res (aRs l hv hn) λs hs=>by
  obtain⟨d,m,rfl,hd,h1,h2⟩:=hs.ex
  exact .inr ⟨d,_,rfl,hd,m,rfl,h1,h2⟩
end Go.Proofs.YtfhoddcminbffaaGreatDoor
