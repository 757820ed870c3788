/-
  Queries: slices.Contains of strings; the variables of a part.
  Conditions: none.
-/
import Derived.Test.YtleihcnongldbaaGreatDoorWQqa
import Derived.Test.YtleihcnongldbaaGreatDoorWQqb
set_option linter.unnecessarySimpa false
set_option linter.unusedSectionVars false
set_option linter.unusedSimpArgs false
set_option linter.unusedVariables false
set_option maxHeartbeats 16000000
namespace Go.Proofs.YtleihcnongldbaaGreatDoor
open Go.Proofs Go.RowKit
set_option maxRecDepth 10000
attribute [local irreducible] aN aJ Tri aI YVC cP bE
def aOr:List (List UInt8)->List UInt8->Int->Int
 | [],_,_=> -1
 |a::r,s,i=>if s=a then i else aOr r s (i+1)
theorem aKn: ∀(l:List (List UInt8)) (s:List UInt8) (i:Int) (_:0<=i),decide (aOr l s i>=0)=decide (s∈l)
 | [],s,i,_=>by simp [aOr]
 |a::r,s,i,h=>by
  have ih:=aKn r s (i+1) (by omega)
  rw [aOr]
  by_cases e:s=a
  ·rw [if_pos e,decide_eq_true (by omega),decide_eq_true (by rw [e];exact List.mem_cons_self)]
  ·rw [if_neg e,ih,decide_eq_decide,List.mem_cons]
   exact⟨.inr,λh=>h.resolve_left e⟩
theorem aKm (l:List (List UInt8)) (s:List UInt8):Tri Tryz.prog 147 [.d (.sl 1 (l.map bL)), .d (.str s)] [] (λr=>r= .d (.int .i64 (aOr l s 0))):=by
 refine aF hty Tryz.func147 rfl (kp [0,1,4,5,7,8,9,16]) [] _ _ _ (by simp [Tryz.f147]) (by simp) ?_
 ((conv=>whnf);repeat' ((first|(intro hq;(try simp only [lnS]at hq);(try rewrite [List.length_map]))|refine sJ ?_|refine .intro _ (.intro rfl ?_)|refine exL (k:= ?_)|refine dwR ?_|((first|refine aB ?_ ?_|refine aC ?_ ?_)<;>intro hb<;>(first|exact ddX hb|try simp only [lnS]at hb))|(refine aA ?_ ?_<;>intro hb<;>try exact dsX hb))<;>(conv=>whnf)))
 refine aH hty (λj:Nat=>([(0, .d (.sl 1 (l.map bL))),(1, .d (.str s)),(7, .d (.int .i64 l.length)),(8, .d (.int .i64 j))],[])) (λj=>j<=l.length/\aOr l s 0=aOr (l.drop j) s j) (λj=>l.length - j) 0 ⟨by omega,rfl⟩ ⟨by repeat' (first|exact trivial|exact rfl|(rw [List.length_map];exact rfl)|refine And.intro ?_ ?_),trivial⟩ ?_
 rintro j ⟨hj,hn⟩
 ((conv=>whnf);repeat ((first|(intro hq;try simp only [lnS]at hq)|refine sI ?_|refine .intro _ (.intro rfl ?_));(conv=>whnf)))
 refine aB (λh1=> ?_) (λh1=> ?_)
 ·have hjl:j < l.length:=by omega
  have hrow:(l.map bL)[(j:Int).toNat]? =some (bL l[j]):=aS hjl
  rw [List.drop_eq_getElem_cons hjl,aOr]at hn
  generalize l[j]=x at hrow hn
  ((conv=>whnf);repeat' ((first|(intro hq;(try simp only [lnS]at hq);(try rewrite [List.length_map]))|refine sJ ?_|refine .intro _ (.intro rfl ?_)|refine exL (k:= ?_)|(refine⟨_,hrow, ?_⟩)|refine dwR ?_|((first|refine aB ?_ ?_|refine aC ?_ ?_)<;>intro hb<;>(first|exact ddX hb|try simp only [lnS]at hb))|(refine aA ?_ ?_<;>intro hb<;>try exact dsX hb))<;>(conv=>whnf)))
  ·rw [hn,if_pos hb];rfl
  ·rw [if_neg hb]at hn
   refine⟨j+1,⟨by omega,hn⟩,by dsimp only;omega,by repeat' (first|exact trivial|exact rfl|refine And.intro ?_ ?_),trivial⟩
 ·have hjl:j=l.length:=by omega
  subst hjl
  ((conv=>whnf);repeat' ((first|(intro hq;(try simp only [lnS]at hq);(try rewrite [List.length_map]))|refine sJ ?_|refine .intro _ (.intro rfl ?_)|refine exL (k:= ?_)|refine dwR ?_|((first|refine aB ?_ ?_|refine aC ?_ ?_)<;>intro hb<;>(first|exact ddX hb|try simp only [lnS]at hb))|(refine aA ?_ ?_<;>intro hb<;>try exact dsX hb))<;>(conv=>whnf)))
  rw [hn,List.drop_length];rfl
theorem mN (l:List (List UInt8)) (s:List UInt8):Tri Tryz.prog 106 [.d (.sl 1 (l.map bL)), .d (.str s)] [] (λr=>r= .d (.bool (decide (s∈l)))):=by
 have h:=aKm l s
 refine aF hty Tryz.func106 rfl (kp [0,1,4]) [] _ _ _ (by simp [Tryz.f106]) (by simp) ?_
 ((conv=>whnf);repeat' ((first|(intro hq;(try simp only [lnS]at hq);(try rewrite [List.length_map]))|refine sJ ?_|refine .intro _ (.intro rfl ?_)|refine exL (k:= ?_)|(refine aD [] h trivial (λr hs=> ?_);subst hs)|refine dwR ?_|((first|refine aB ?_ ?_|refine aC ?_ ?_)<;>intro hb<;>(first|exact ddX hb|try simp only [lnS]at hb))|(refine aA ?_ ?_<;>intro hb<;>try exact dsX hb))<;>(conv=>whnf)))
 exact aQ (aKn l s 0 (by omega))
def aAv (p:List At):List (List UInt8):=zH eqS (aJe (dB p))
theorem aCn (p:List At):(dB p).length<=2 * p.length:=by
 refine Nat.le_trans (List.length_filter_le ..) ?_
 induction p with
 |nil=>exact Nat.le_refl _
 |cons a r ih=>simp only [List.flatMap_cons,List.length_append,List.length_cons,List.length_nil];omega
theorem aGx {p:List At}{j:Nat}(h:j < p.length):dB (p.take (j+1))=dB (p.take j)++[p[j].x,p[j].y].filter bX:=by
 unfold dB
 rw [List.take_succ_eq_append_getElem h,List.flatMap_append,List.filter_append]
 simp
theorem pZ (p:List At) (hlen:p.length<=100000):Tri Tryz.prog 65 [.d (.agg (aU p))] [] (λr=>r= .d (.sl 1 ((aAv p).map bL))):=by
 have hvl:=aCn p
 show Tri Tryz.prog 65 [.d (.agg [.sl 6 (p.map atR)])] [] _
 refine aE false [1,4] hty Tryz.func65 rfl (kp [0,1,2,4,6,8,9,10,11,18,19,20,23]) [] _ _ _ (by simp [Tryz.f65]) (by simp) ?_
 ((conv=>whnf);repeat ((first|(intro hq;try simp only [lnS]at hq)|refine sI ?_|refine .intro _ (.intro rfl ?_));(conv=>whnf)))
 refine aN.mown 2 70 9 1 rfl (bW (by with_unfolding_all exact rfl)) ?_
 refine aH hty (λy:Nat×Nat=>([(2, .mw 70 1 (dB (p.take y.1)).length),(8, .d (.sl 6 (p.map atR))),(9, .d (.int .i64 p.length)),(10, .d (.int .i64 y.1))],[(70, .mrow 9 1 y.2 ((dB (p.take y.1)).map bL))])) (λy=>y.1<=p.length) (λy=>p.length - y.1) (0,0) (by dsimp only;omega) ⟨by repeat' (first|exact trivial|exact rfl|(rw [List.length_map];exact rfl)|refine And.intro ?_ ?_),⟨rfl,trivial⟩⟩ ?_
 rintro⟨j,cap⟩ hj
 dsimp only at hj
 ((conv=>whnf);repeat ((first|(intro hq;try simp only [lnS]at hq)|refine sI ?_|refine .intro _ (.intro rfl ?_));(conv=>whnf)))
 refine aB (λh1=> ?_) (λh1=> ?_)
 ·have hjl:j < p.length:=by omega
  have hrow:(p.map atR)[(j:Int).toNat]? =some (atR p[j]):=aS hjl
  have hacc:=aGx hjl
  have hal:=aCn (p.take j)
  rw [List.length_take]at hal
  generalize dB (p.take j)=acc at *
  generalize p[j]=a at *
  obtain⟨kd,nm,xx,yy,lo,hi⟩:=a
  rw [show atR ⟨kd,nm,xx,yy,lo,hi⟩=[.int .i64 kd, .str nm, .str xx, .str yy, .int .i64 lo, .int .i64 hi]from rfl]at hrow
  dsimp only at hacc
  ((conv=>whnf);repeat ((first|(refine⟨_,hrow, ?_⟩)|(intro hq;try simp only [lnS]at hq)|refine sI ?_|refine .intro _ (.intro rfl ?_));(conv=>whnf)))
  refine aH hty (λy:Nat×Nat=>([(2, .mw 70 1 (acc++([xx,yy].take y.1).filter bX).length),(8, .d (.sl 6 (p.map atR))),(9, .d (.int .i64 p.length)),(10, .d (.int .i64 j)),(18, .d (.agg [.str xx, .str yy])),(19, .d (.int .i64 y.1))],[(70, .mrow 9 1 y.2 ((acc++([xx,yy].take y.1).filter bX).map bL))])) (λy=>y.1<=2) (λy=>2 - y.1) (0,cap) (by dsimp only;omega) ⟨by repeat' (first|exact trivial|exact rfl|exact aU2 (by simp)|refine And.intro ?_ ?_),⟨by dsimp only;simp;rfl,trivial⟩⟩ ?_
  rintro⟨i,cap2⟩ hi
  dsimp only at hi
  have hrl:((acc++([xx,yy].take i).filter bX).map bL).length=(acc++([xx,yy].take i).filter bX).length:=List.length_map ..
  have hil:(([xx,yy].take i).filter bX).length<=2:=by
   refine Nat.le_trans (List.length_filter_le ..) ?_
   simp;omega
  have hb63:((acc++([xx,yy].take i).filter bX).map bL).length+1<=9223372036854775807:=by rw [hrl,List.length_append];omega
  have hb48:(((acc++([xx,yy].take i).filter bX).map bL).length+1)* 16<=140737488355328:=by rw [hrl,List.length_append];omega
  have hc:i=0\/i=1\/i=2:=by omega
  have hcx:=fL xx
  have hcy:=fL yy
  rcases hc with rfl|rfl|rfl
  ·have hT:bX xx=true->acc++([xx,yy].take 1).filter bX=(acc++([xx,yy].take 0).filter bX)++[xx]:= λh=>by
    cases hx:bX xx<;>simp_all [List.filter_cons]
   have hF:bX xx=false->acc++([xx,yy].take 1).filter bX=acc++([xx,yy].take 0).filter bX:= λh=>by
    cases hx:bX xx<;>simp_all [List.filter_cons]
   generalize acc++([xx,yy].take 0).filter bX=acc2 at *
   ((conv=>whnf);repeat' ((first|(intro hq;(try simp only [lnS]at hq);(try rewrite [List.length_map]))|refine sJ ?_|refine .intro _ (.intro rfl ?_)|refine exL (k:= ?_)|(refine And.intro hb63 ?_)|(refine And.intro hb48 ?_)|(refine And.intro hrl.symm ?_)|(refine aD [] hcx trivial (λr hs=> ?_);subst hs)|refine dwR ?_|((first|refine aB ?_ ?_|refine aC ?_ ?_)<;>intro hb<;>(first|exact ddX hb|try simp only [lnS]at hb))|(refine aA ?_ ?_<;>intro hb<;>try exact dsX hb))<;>(conv=>whnf)))
   ·rename_i cap3
    refine⟨(1,cap3),by dsimp only;omega,by dsimp only;omega,⟨?_, ?_⟩⟩
    ·dsimp only
     rw [hT (decide_eq_true hb)]
     repeat' (first|exact trivial|exact aU2 (by rw [List.length_append];rfl)|exact rfl|refine And.intro ?_ ?_)
    ·dsimp only
     rw [hT (decide_eq_true hb),List.map_append]
     exact⟨rfl,trivial⟩
   ·refine⟨(1,cap2),by dsimp only;omega,by dsimp only;omega,⟨?_, ?_⟩⟩
    ·dsimp only
     rw [hF (decide_eq_false hb)]
     exact by repeat' (first|exact trivial|exact rfl|refine And.intro ?_ ?_)
    ·dsimp only
     rw [hF (decide_eq_false hb)]
     exact⟨rfl,trivial⟩
  ·have hT:bX yy=true->acc++([xx,yy].take 2).filter bX=(acc++([xx,yy].take 1).filter bX)++[yy]:= λh=>by
    cases hx:bX xx<;>simp_all [List.filter_cons]
   have hF:bX yy=false->acc++([xx,yy].take 2).filter bX=acc++([xx,yy].take 1).filter bX:= λh=>by
    cases hx:bX xx<;>simp_all [List.filter_cons]
   generalize acc++([xx,yy].take 1).filter bX=acc2 at *
   ((conv=>whnf);repeat' ((first|(intro hq;(try simp only [lnS]at hq);(try rewrite [List.length_map]))|refine sJ ?_|refine .intro _ (.intro rfl ?_)|refine exL (k:= ?_)|(refine And.intro hb63 ?_)|(refine And.intro hb48 ?_)|(refine And.intro hrl.symm ?_)|(refine aD [] hcy trivial (λr hs=> ?_);subst hs)|refine dwR ?_|((first|refine aB ?_ ?_|refine aC ?_ ?_)<;>intro hb<;>(first|exact ddX hb|try simp only [lnS]at hb))|(refine aA ?_ ?_<;>intro hb<;>try exact dsX hb))<;>(conv=>whnf)))
   ·rename_i cap3
    refine⟨(2,cap3),by dsimp only;omega,by dsimp only;omega,⟨?_, ?_⟩⟩
    ·dsimp only
     rw [hT (decide_eq_true hb)]
     repeat' (first|exact trivial|exact aU2 (by rw [List.length_append];rfl)|exact rfl|refine And.intro ?_ ?_)
    ·dsimp only
     rw [hT (decide_eq_true hb),List.map_append]
     exact⟨rfl,trivial⟩
   ·refine⟨(2,cap2),by dsimp only;omega,by dsimp only;omega,⟨?_, ?_⟩⟩
    ·dsimp only
     rw [hF (decide_eq_false hb)]
     exact by repeat' (first|exact trivial|exact rfl|refine And.intro ?_ ?_)
    ·dsimp only
     rw [hF (decide_eq_false hb)]
     exact⟨rfl,trivial⟩
  ·rw [show ([xx,yy].take 2).filter bX=[xx,yy].filter bX from rfl,<-hacc]at *
   ((conv=>whnf);repeat' ((first|(intro hq;(try simp only [lnS]at hq);(try rewrite [List.length_map]))|refine sJ ?_|refine .intro _ (.intro rfl ?_)|refine exL (k:= ?_)|refine dwR ?_|((first|refine aB ?_ ?_|refine aC ?_ ?_)<;>intro hb<;>(first|exact ddX hb|try simp only [lnS]at hb))|(refine aA ?_ ?_<;>intro hb<;>try exact dsX hb))<;>(conv=>whnf)))
   exact⟨(j+1,cap2),by dsimp only;omega,by dsimp only;omega,⟨by repeat' (first|exact trivial|exact rfl|refine And.intro ?_ ?_),rfl,trivial⟩⟩
 ·have hjl:j=p.length:=by omega
  subst hjl
  rw [List.take_length]
  have hso:=(List.mergeSort_perm (dB p) (λx y=>decide (x<=y))).length_eq
  ((conv=>whnf);repeat ((first|(intro hq;try simp only [lnS]at hq)|refine sI ?_|refine .intro _ (.intro rfl ?_));(conv=>whnf)))
  refine aCq Tryz.sortStr (dB p) rfl rfl (by omega) ?_
  ((conv=>whnf);repeat ((first|(intro hq;try simp only [lnS]at hq)|refine sI ?_|refine .intro _ (.intro rfl ?_));(conv=>whnf)))
  refine yQ (aJe (dB p)) (by rw [show (aJe (dB p)).length=(dB p).length from hso];omega) cap _ hso.symm [] (by simp) (aTf (by with_unfolding_all exact rfl)) (by simp [tK]) rfl (λo=>trivial) (λcap'=> ?_)
  ((conv=>whnf);repeat ((first|(intro hq;try simp only [lnS]at hq)|refine sI ?_|refine .intro _ (.intro rfl ?_));(conv=>whnf)))
  refine⟨(List.length_map ..).symm, ?_⟩
  ((conv=>whnf);repeat ((first|(intro hq;try simp only [lnS]at hq)|refine sI ?_|refine .intro _ (.intro rfl ?_));(conv=>whnf)))
  rfl
end Go.Proofs.YtleihcnongldbaaGreatDoor
