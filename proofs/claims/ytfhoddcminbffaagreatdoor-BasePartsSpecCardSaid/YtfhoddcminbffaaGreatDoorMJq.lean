/-
  Layer 7, reference: Open, Indices, Keep, Find.
  Conditions: none.
-/
import Derived.Test.YtfhoddcminbffaaGreatDoorMJh
import Derived.Test.YtfhoddcminbffaaGreatDoorMJla
set_option linter.unnecessarySimpa false
set_option linter.unusedSectionVars false
set_option linter.unusedSimpArgs false
set_option linter.unusedVariables false
set_option maxHeartbeats 16000000
namespace Go.Proofs.YtfhoddcminbffaaGreatDoor
open Go.Proofs
set_option maxRecDepth 10000
attribute [local irreducible] aM aJ Tri aH YVC dI bI
theorem aF4 (l:List Ax) (hn:l.length<=1000000):Tri Tryz.prog 29 [.d (hZ l)] [] (λr=>r= .d (hZ (opL l))):=by
 have hrl:(l.map axR).length=l.length:=List.length_map ..
 refine aF false [1] hty Tryz.func29 rfl (kp [0,1,2,3,4,10,18]) [] _ _ _ (by simp [Tryz.f29]) (by simp) ?_
 ((conv=>whnf);repeat ((first|(intro hq;try simp only [lnS]at hq)|refine sI ?_|refine .intro _ (.intro rfl ?_));(conv=>whnf)))
 refine aM.ownC 3 70 38 48 16 0 rfl rfl (bW (by with_unfolding_all exact rfl)) ?_
 refine aG hty (λj:Nat=>([(1, .ea 1 [[.sl 16 (l.map axR)]] 0 0),(2, .ptr 2 0),(3, .ptr 3 0),(4, .d (.int .i64 j))],[(70, .own 48 16 ((opL (l.take j)).map axR).length),(3, .cells 38 [.osl 70 16 ((opL (l.take j)).map axR)]),(2, .cells 38 [.d .nil])])) (λj=>j<=l.length) (λj=>l.length - j) 0 (by omega) ⟨by repeat' (first|exact trivial|exact rfl|refine And.intro ?_ ?_),by repeat' (first|exact trivial|exact rfl|refine And.intro ?_ ?_)⟩ ?_
 rintro j hj
 ((conv=>whnf);repeat ((first|(intro hq;try simp only [lnS]at hq)|refine sI ?_|refine .intro _ (.intro rfl ?_));(conv=>whnf)))
 refine aB (λh1=> ?_) (λh1=> ?_)
 ·have hjl:j < l.length:=by have h1:(j:Int) < ((l.map axR).length:Nat):=h1;rw [hrl]at h1;omega
  have hrow:=bR hjl
  have hop:=aGx hjl
  have hol:(opL (l.take j)).length<=j:=by
   have:=List.length_filter_le (λx:Ax=>x.isopen) (l.take j)
   rw [List.length_take]at this
   unfold opL;omega
  generalize opL (l.take j)=L at *
  generalize l[j]=x at *
  have hrL:(L.map axR).length=L.length:=List.length_map ..
  have hb63:(L.map axR).length+1<=9223372036854775807:=by rw [hrL];omega
  have hb48:((L.map axR).length+1)* 216<=140737488355328:=by rw [hrL];omega
  ((conv=>whnf);repeat ((first|(refine⟨_,hrow, ?_⟩)|(intro hq;try simp only [lnS]at hq)|refine sI ?_|refine .intro _ (.intro rfl ?_));(conv=>whnf)))
  obtain⟨k,o,a1,a2,a3,a4,a5,a6⟩:=x
  cases o
  ·rw [show (if (Ax.mk k false a1 a2 a3 a4 a5 a6).isopen=true then [Ax.mk k false a1 a2 a3 a4 a5 a6]else [])=[]from rfl,List.append_nil]at hop
   ((conv=>whnf);repeat ((first|(intro hq;try simp only [lnS]at hq)|refine sI ?_|refine .intro _ (.intro rfl ?_));(conv=>whnf)))
   refine⟨j+1,by omega,by dsimp only;omega, ?_⟩
   dsimp only
   rw [hop]
   exact⟨by repeat' (first|exact trivial|exact rfl|refine And.intro ?_ ?_),by repeat' (first|exact trivial|exact rfl|refine And.intro ?_ ?_)⟩
  ·rw [show (if (Ax.mk k true a1 a2 a3 a4 a5 a6).isopen=true then [Ax.mk k true a1 a2 a3 a4 a5 a6]else [])=[Ax.mk k true a1 a2 a3 a4 a5 a6]from rfl]at hop
   ((conv=>whnf);repeat ((first|(intro hq;try simp only [lnS]at hq)|refine sI ?_|refine .intro _ (.intro rfl ?_));(conv=>whnf)))
   refine fR hty [0,1,2,3,4,5,6,7,8,9,10] (by kernel_rfl) (by kernel_rfl) ?_
   ((conv=>whnf);repeat ((first|(refine⟨_,hrow, ?_⟩)|(refine And.intro hb63 ?_)|(refine And.intro hb48 ?_)|(intro hq;try simp only [lnS]at hq)|refine sI ?_|refine .intro _ (.intro rfl ?_));(conv=>whnf)))
   refine⟨j+1,by omega,by dsimp only;omega, ?_⟩
   dsimp only
   rw [hop,List.map_append,List.length_append]
   exact⟨by repeat' (first|exact trivial|exact rfl|refine And.intro ?_ ?_),by repeat' (first|exact trivial|exact rfl|refine And.intro ?_ ?_)⟩
 ·have hjl:j=l.length:=by have h1:¬ (j:Int) < ((l.map axR).length:Nat):=h1;rw [hrl]at h1;omega
  subst hjl
  rw [List.take_length]
  ((conv=>whnf);repeat' ((first|(intro hq;(try simp only [lnS]at hq);(try rewrite [List.length_map]))|refine sJ ?_|refine .intro _ (.intro rfl ?_)|refine exL (k:= ?_)|refine dwR ?_|((first|refine aB ?_ ?_|refine aC ?_ ?_)<;>intro hb<;>(first|exact ddX hb|try simp only [lnS]at hb))|(refine aA ?_ ?_<;>intro hb<;>try exact dsX hb))<;>(conv=>whnf)))
  rfl
theorem aD4 {n:Int}: ∀{w:List Int}{last i:Int},sN n last (w++[i])=(sN n last w && (!(decide (i<=(w.getLast?).getD last)) && !(decide (n<=i))))
 | [],last,i=>by
  show (!(decide (i<=last)) && (!(decide (n<=i)) && true))=(true && (!(decide (i<=last)) && !(decide (n<=i))))
  rw [Bool.and_true,Bool.true_and]
 |j::r,last,i=>by
  rw [List.cons_append,sN,sN,aD4 (w:=r)]
  have e:((j::r).getLast?).getD last=(r.getLast?).getD j:=by
   cases r with
   |nil=>rfl
   |cons a s=>rw [List.getLast?_cons_cons];rw [List.getLast?_eq_some_getLast (by simp)];rfl
  rw [e]
  cases !(decide (j<=last))<;>cases !(decide (n<=j))<;>simp
theorem zB {n:Int}: ∀{a b:List Int}{last:Int},sN n last a=false->sN n last (a++b)=false
 | [],b,last,h=>by simp [sN]at h
 |j::r,b,last,h=>by
  rw [List.cons_append,sN]
  rw [sN]at h
  cases h1: !(decide (j<=last))<;>cases h2: !(decide (n<=j))<;>rw [h1,h2]at h<;>simp at h |-
  exact zB h
theorem xF (w:List Int) (n:Nat) (hw:w.length<=1000000) (hn:n<=1000000):Tri Tryz.prog 64 [.d (.sl 1 (w.map jZ)), .d (.int .i64 n)] [] (λr=>r= .d (.bool (sN n (-1) w))):=by
 have hrw:(w.map jZ).length=w.length:=List.length_map ..
 refine aK hty Tryz.func64 rfl (kp [0,1,4,5,9,40]) [] _ _ _ (by simp [Tryz.f64]) (by simp) ?_
 ((conv=>whnf);repeat ((first|(intro hq;try simp only [lnS]at hq)|refine sI ?_|refine .intro _ (.intro rfl ?_));(conv=>whnf)))
 refine aG hty (λj:Nat=>([(0, .d (.sl 1 (w.map jZ))),(1, .d (.int .i64 n)),(5, .d (.int .i64 j))],[])) (λj=>j<=w.length/\sN n (-1) (w.take j)=true) (λj=>w.length - j) 0 ⟨by omega,by simp [sN]⟩ ⟨by repeat' (first|exact trivial|exact rfl|refine And.intro ?_ ?_),by repeat' (first|exact trivial|exact rfl|refine And.intro ?_ ?_)⟩ ?_
 rintro j ⟨hj,hz⟩
 ((conv=>whnf);repeat ((first|(intro hq;try simp only [lnS]at hq)|refine sI ?_|refine .intro _ (.intro rfl ?_));(conv=>whnf)))
 refine aB (λh1=> ?_) (λh1=> ?_)
 ·have hjl:j < w.length:=by have h1:(j:Int) < ((w.map jZ).length:Nat):=h1;rw [hrw]at h1;omega
  have hrow:=aB1 hjl
  have hnx:sN n (-1) (w.take (j+1))=(!(decide (w[j]<=((w.take j).getLast?).getD (-1))) && !(decide ((n:Int)<=w[j]))):=by
   rw [List.take_succ_eq_append_getElem hjl,aD4,hz,Bool.true_and]
  have hall:sN n (-1) (w.take (j+1))=false->sN n (-1) w=false:= λh=>by
   rw [<-List.take_append_drop (j+1) w]
   exact zB h
  have hb:=vP (by decide) hz
  clear hz
  rcases Nat.eq_zero_or_pos j with e|hp
  ·subst e
   have e0:((w.take 0).getLast?).getD (-1)= -1:=rfl
   rw [e0]at hnx
   clear hb e0
   generalize hw0:w[0]=i at *
   refine dwR ?_
   ((conv=>whnf);repeat' ((first|(intro hq;(try simp only [lnS]at hq);(try rewrite [List.length_map]))|refine sJ ?_|refine .intro _ (.intro rfl ?_)|refine exL (k:= ?_)|(refine⟨_,hrow, ?_⟩)|refine dwR ?_|((first|refine aB ?_ ?_|refine aC ?_ ?_)<;>intro hb<;>(first|exact ddX hb|try simp only [lnS]at hb))|(refine aA ?_ ?_<;>intro hb<;>try exact dsX hb))<;>(conv=>whnf)))
   all_goals first
    | (have hv := hnx.trans (b := _) (c := false) (by simp; omega)
       rw [hall hv]
       rfl)
    | (have hv := hnx.trans (b := _) (c := true) (by simp; omega)
       exact⟨0+1,⟨by omega,hv⟩,by dsimp only;omega,⟨by repeat' (first|exact trivial|exact rfl|refine And.intro ?_ ?_),by repeat' (first|exact trivial|exact rfl|refine And.intro ?_ ?_)⟩⟩)
  ·have hrow0:(w.map jZ)[(((j:Nat):Int) - 1).toNat]? =some (jZ w[j - 1]):=by
    have e:(((j:Nat):Int) - 1).toNat=j - 1:=by omega
    rw [e,List.getElem?_map,List.getElem?_eq_getElem (by omega)];rfl
   have e0:((w.take j).getLast?).getD (-1)=w[j - 1]:=by
    rw [List.getLast?_eq_getElem?,List.length_take,Nat.min_eq_left (by omega),List.getElem?_take,if_pos (by omega),List.getElem?_eq_getElem (by omega)];rfl
   have hb0:=hb w[j - 1] (by rw [List.mem_take_iff_getElem];exact⟨j - 1,by omega,rfl⟩)
   rw [e0]at hnx
   clear hb e0
   generalize w[j - 1]=q at *
   generalize w[j]=i at *
   refine dwR ?_
   ((conv=>whnf);repeat' ((first|(intro hq;(try simp only [lnS]at hq);(try rewrite [List.length_map]))|refine sJ ?_|refine .intro _ (.intro rfl ?_)|refine exL (k:= ?_)|(refine⟨_,hrow, ?_⟩)|(refine⟨_,hrow0, ?_⟩)|refine dwR ?_|((first|refine aB ?_ ?_|refine aC ?_ ?_)<;>intro hb<;>(first|exact ddX hb|try simp only [lnS]at hb))|(refine aA ?_ ?_<;>intro hb<;>try exact dsX hb))<;>(conv=>whnf)))
   all_goals first
    | (have hv := hnx.trans (b := _) (c := false) (by simp; omega)
       rw [hall hv]
       rfl)
    | (have hv := hnx.trans (b := _) (c := true) (by simp; omega)
       exact⟨j+1,⟨by omega,hv⟩,by dsimp only;omega,⟨by repeat' (first|exact trivial|exact rfl|refine And.intro ?_ ?_),by repeat' (first|exact trivial|exact rfl|refine And.intro ?_ ?_)⟩⟩)
 ·have hjl:j=w.length:=by have h1:¬ (j:Int) < ((w.map jZ).length:Nat):=h1;rw [hrw]at h1;omega
  subst hjl
  rw [List.take_length]at hz
  rw [hz]
  ((conv=>whnf);repeat' ((first|(intro hq;(try simp only [lnS]at hq);(try rewrite [List.length_map]))|refine sJ ?_|refine .intro _ (.intro rfl ?_)|refine exL (k:= ?_)|refine dwR ?_|((first|refine aB ?_ ?_|refine aC ?_ ?_)<;>intro hb<;>(first|exact ddX hb|try simp only [lnS]at hb))|(refine aA ?_ ?_<;>intro hb<;>try exact dsX hb))<;>(conv=>whnf)))
  rfl
theorem aF6 (l:List Ax) (w:List Int) (hs: ∀x∈l,SmA x) (hn:l.length<=10000) (hw:w.length<=1000000):Tri Tryz.prog 25 [.d (hZ l), .d (.sl 1 (w.map jZ))] [] (λr=>r= .tup [.d (hZ (pV l w).1), .d (.int .i64 (pV l w).2)]):=by
 refine Tri.pairB ?_
 have c1:=gX l hs hn
 have c2:=xF w l.length hw (by omega)
 have hv:pV l w=if aY l≠0 then ([],aY l)else if sN l.length (-1) w=false then ([],1)else (iV l w,0):=rfl
 rw [hv]
 clear hv
 have hrl:(l.map axR).length=l.length:=List.length_map ..
 have hrw:(w.map jZ).length=w.length:=List.length_map ..
 have hin:=vP (n:=l.length) (w:=w) (last:= -1) (by decide)
 generalize aY l=e at *
 generalize sN (l.length:Int) (-1) w=ib at *
 rw [<-hrl]at c2
 refine aF false [2] hty Tryz.func25 rfl (kp [0,1,2,4,5,6,7,8,12,20,26]) [] _ _ _ (by simp [Tryz.f25]) (by simp) ?_
 ((conv=>whnf);repeat ((first|(refine aD [] c1 trivial (λr hs=> ?_);subst hs)|(intro hq;try simp only [lnS]at hq)|refine sI ?_|refine .intro _ (.intro rfl ?_));(conv=>whnf)))
 refine aC (λh1=> ?_) (λh1=> ?_)
 ·rw [if_pos h1]
  ((conv=>whnf);repeat' ((first|(intro hq;(try simp only [lnS]at hq);(try rewrite [List.length_map]))|refine sJ ?_|refine .intro _ (.intro rfl ?_)|refine exL (k:= ?_)|refine dwR ?_|((first|refine aB ?_ ?_|refine aC ?_ ?_)<;>intro hb<;>(first|exact ddX hb|try simp only [lnS]at hb))|(refine aA ?_ ?_<;>intro hb<;>try exact dsX hb))<;>(conv=>whnf)))
  exact aFg _
 rw [if_neg (by simp [h1])]
 clear c1 h1
 ((conv=>whnf);repeat ((first|(refine aD [] c2 trivial (λr hs=> ?_);subst hs)|(intro hq;try simp only [lnS]at hq)|refine sI ?_|refine .intro _ (.intro rfl ?_));(conv=>whnf)))
 cases ib
 ·rw [if_pos rfl]
  ((conv=>whnf);repeat' ((first|(intro hq;(try simp only [lnS]at hq);(try rewrite [List.length_map]))|refine sJ ?_|refine .intro _ (.intro rfl ?_)|refine exL (k:= ?_)|refine dwR ?_|((first|refine aB ?_ ?_|refine aC ?_ ?_)<;>intro hb<;>(first|exact ddX hb|try simp only [lnS]at hb))|(refine aA ?_ ?_<;>intro hb<;>try exact dsX hb))<;>(conv=>whnf)))
  exact aFg _
 rw [if_neg (by decide)]
 have hin:=hin rfl
 clear c2
 ((conv=>whnf);repeat ((first|(intro hq;try simp only [lnS]at hq)|refine sI ?_|refine .intro _ (.intro rfl ?_));(conv=>whnf)))
 refine aM.ownC 7 70 38 48 16 0 rfl rfl (bW (by with_unfolding_all exact rfl)) ?_
 refine aG hty (λj:Nat=>([(1, .d (.sl 1 (w.map jZ))),(2, .ea 1 [[.sl 16 (l.map axR)]] 0 0),(4, .ptr 4 0),(7, .ptr 7 0),(8, .d (.int .i64 j))],[(70, .own 48 16 ((iV l (w.take j)).map axR).length),(7, .cells 38 [.osl 70 16 ((iV l (w.take j)).map axR)]),(4, .cells 38 [.d .nil])])) (λj=>j<=w.length) (λj=>w.length - j) 0 (Nat.zero_le _) ⟨by repeat' (first|exact trivial|exact rfl|refine And.intro ?_ ?_),by repeat' (first|exact trivial|exact rfl|refine And.intro ?_ ?_)⟩ ?_
 rintro j hj
 ((conv=>whnf);repeat ((first|(intro hq;try simp only [lnS]at hq)|refine sI ?_|refine .intro _ (.intro rfl ?_));(conv=>whnf)))
 refine aB (λh1=> ?_) (λh1=> ?_)
 ·have hjl:j < w.length:=by have h1:(j:Int) < ((w.map jZ).length:Nat):=h1;rw [hrw]at h1;omega
  have hrow:=aB1 hjl
  obtain⟨i1,i2⟩:=hin _ (List.getElem_mem hjl)
  have hpk:iV l (w.take (j+1))=iV l (w.take j)++[xJ l w[j]]:=by
   unfold iV
   rw [List.take_succ_eq_append_getElem hjl,List.map_append];rfl
  have hrow2:(l.map axR)[w[j].toNat]? =some (axR (xJ l w[j])):=by
   have hk:w[j].toNat < l.length:=by omega
   rw [List.getElem?_map,List.getElem?_eq_getElem hk]
   unfold xJ
   rw [List.getElem?_eq_getElem hk];rfl
  have hPl:((iV l (w.take j)).map axR).length=j:=by unfold iV;rw [List.length_map,List.length_map,List.length_take];omega
  have hb63:((iV l (w.take j)).map axR).length+1<=9223372036854775807:=by rw [hPl];omega
  have hb48:(((iV l (w.take j)).map axR).length+1)* 216<=140737488355328:=by rw [hPl];omega
  have hil:w[j].toNat < (l.map axR).length:=by rw [List.length_map];omega
  generalize xJ l w[j]=x at *
  generalize iV l (w.take j)=P at *
  generalize w[j]=i at *
  ((conv=>whnf);repeat ((first|(intro hq;try simp only [lnS]at hq)|refine sI ?_|refine .intro _ (.intro rfl ?_));(conv=>whnf)))
  refine fR hty [0,1,2,3,4,5,6,7,8,9,10,11,12,13] (by kernel_rfl) (by kernel_rfl) ?_
  ((conv=>whnf);repeat ((first|(refine⟨_,hrow, ?_⟩)|(refine And.intro i1 ?_)|(refine And.intro hil ?_)|(refine⟨_,hrow2, ?_⟩)|(refine And.intro hb63 ?_)|(refine And.intro hb48 ?_)|(intro hq;try simp only [lnS]at hq)|refine sI ?_|refine .intro _ (.intro rfl ?_));(conv=>whnf)))
  refine⟨j+1,by omega,by dsimp only;omega, ?_⟩
  dsimp only
  rw [hpk,List.map_append,List.length_append]
  exact⟨by repeat' (first|exact trivial|exact rfl|refine And.intro ?_ ?_),by repeat' (first|exact trivial|exact rfl|refine And.intro ?_ ?_)⟩
 ·have hjl:j=w.length:=by have h1:¬ (j:Int) < ((w.map jZ).length:Nat):=h1;rw [hrw]at h1;omega
  subst hjl
  rw [List.take_length]
  ((conv=>whnf);repeat' ((first|(intro hq;(try simp only [lnS]at hq);(try rewrite [List.length_map]))|refine sJ ?_|refine .intro _ (.intro rfl ?_)|refine exL (k:= ?_)|refine dwR ?_|((first|refine aB ?_ ?_|refine aC ?_ ?_)<;>intro hb<;>(first|exact ddX hb|try simp only [lnS]at hb))|(refine aA ?_ ?_<;>intro hb<;>try exact dsX hb))<;>(conv=>whnf)))
  exact xD _ _
theorem aF7 (l:List Ax) (a:Ax) (hl: ∀y∈l,SmA y) (ha:SmA a):Tri Tryz.prog 27 [.d (hZ l), .d (.agg (axR a))] [] (λr=>r= .tup [.d (.int .i64 (xP l a).1), .d (.bool (xP l a).2)]):=by
 have ht:=iT a ha.1 ha.2.1
 have hi:= λh=>mD (aS a).1 l (lC h) hl
 have hv:xP l a=if (aS a).2≠0 then (0,false)else match xO (aS a).1 l with|some i=>((i:Int),true)|none=>(0,false):=rfl
 rw [hv]
 clear hv
 have hI:oG (aS a).1 l=match xO (aS a).1 l with|some i=>(i:Int)|none=> -1:=rfl
 generalize xO (aS a).1 l=I at *
 generalize oG (aS a).1 l=J at *
 generalize (aS a).1=x at *
 generalize (aS a).2=e at *
 refine aF false [2,3,6] hty Tryz.func27 rfl (kp [0,1,2,3,4,5,6,7,8,15]) [] _ _ _ (by simp [Tryz.f27]) (by simp) ?_
 ((conv=>whnf);repeat ((first|(refine aD [] ht trivial (λr hs=> ?_);subst hs)|(intro hq;try simp only [lnS]at hq)|refine sI ?_|refine .intro _ (.intro rfl ?_));(conv=>whnf)))
 refine aC (λh1=> ?_) (λh1=> ?_)
 ·rw [if_pos h1]
  ((conv=>whnf);repeat' ((first|(intro hq;(try simp only [lnS]at hq);(try rewrite [List.length_map]))|refine sJ ?_|refine .intro _ (.intro rfl ?_)|refine exL (k:= ?_)|refine dwR ?_|((first|refine aB ?_ ?_|refine aC ?_ ?_)<;>intro hb<;>(first|exact ddX hb|try simp only [lnS]at hb))|(refine aA ?_ ?_<;>intro hb<;>try exact dsX hb))<;>(conv=>whnf)))
  rfl
 ·have h0:e=0:=by simpa using h1
  have hi:=hi h0
  rw [if_neg (by simp [h0])]
  ((conv=>whnf);repeat ((first|(refine aD [] hi trivial (λr hs=> ?_);subst hs)|(intro hq;try simp only [lnS]at hq)|refine sI ?_|refine .intro _ (.intro rfl ?_));(conv=>whnf)))
  cases I with
  |none=>
   dsimp only at hI
   subst hI
   ((conv=>whnf);repeat' ((first|(intro hq;(try simp only [lnS]at hq);(try rewrite [List.length_map]))|refine sJ ?_|refine .intro _ (.intro rfl ?_)|refine exL (k:= ?_)|(refine aB8 rfl rfl rfl ?_)|refine dwR ?_|((first|refine aB ?_ ?_|refine aC ?_ ?_)<;>intro hb<;>(first|exact ddX hb|try simp only [lnS]at hb))|(refine aA ?_ ?_<;>intro hb<;>try exact dsX hb))<;>(conv=>whnf)))
   rfl
  |some i=>
   dsimp only at hI
   subst hI
   have e1:max (i:Int) 0=i:=Int.max_eq_left (by omega)
   have e2:decide ((i:Int)>=0)=true:=decide_eq_true (by omega)
   ((conv=>whnf);repeat ((first|(refine aB8 rfl rfl rfl ?_)|(intro hq;try simp only [lnS]at hq)|refine sI ?_|refine .intro _ (.intro rfl ?_));(conv=>whnf)))
   show SV.tup [.d (.int .i64 (max (i:Int) 0)), .d (.bool (decide ((0:Int)<=i)))]=_
   rw [e1,show decide ((0:Int)<=i)=true from e2]
end Go.Proofs.YtfhoddcminbffaaGreatDoor
