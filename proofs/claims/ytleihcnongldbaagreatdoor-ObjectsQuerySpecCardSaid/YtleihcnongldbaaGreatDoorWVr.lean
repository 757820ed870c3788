/-
  The reference of objects: queries in bytes.
  Conditions: none.
-/
import Derived.Test.YtleihcnongldbaaGreatDoorWVq
import Derived.Test.YtleihcnongldbaaGreatDoorWVe
set_option linter.unnecessarySimpa false
set_option linter.unusedSectionVars false
set_option linter.unusedSimpArgs false
set_option linter.unusedVariables false
set_option maxHeartbeats 32000000
namespace Go.Proofs.YtleihcnongldbaaGreatDoor
open Go.Proofs Go.RowKit
set_option maxRecDepth 10000
attribute [local irreducible] aN aJ Tri aI YVC cP bE vH
theorem n63 {q:List UInt8}(h:q.length<=100000000):(q.map aM).length+1<=9223372036854775807:=by rw [bO];omega
theorem n48 {q:List UInt8}(h:q.length<=100000000):((q.map aM).length+1)* 1<=140737488355328:=by rw [bO];omega
theorem o63 {q s:List UInt8}{r:List D}(h:q.length+s.length<=100000000):(q.map aM++[r]).length+(s.map aM).length<=9223372036854775807:=by rw [List.length_append,bO,bO,List.length_singleton];omega
theorem o48 {q s:List UInt8}{r:List D}(h:q.length+s.length<=100000000):((q.map aM++[r]).length+(s.map aM).length)* 1<=140737488355328:=by rw [List.length_append,bO,bO,List.length_singleton];omega
theorem p63 {q s:List UInt8}(h:q.length+s.length<=100000000):(q.map aM).length+(s.map aM).length<=9223372036854775807:=by rw [bO,bO];omega
theorem p48 {q s:List UInt8}(h:q.length+s.length<=100000000):((q.map aM).length+(s.map aM).length)* 1<=140737488355328:=by rw [bO,bO];omega
theorem q63 {q r s:List UInt8}(h:q.length+r.length+s.length<=100000000):(q.map aM++r.map aM).length+(s.map aM).length<=9223372036854775807:=f63 (by omega)
theorem q48 {q r s:List UInt8}(h:q.length+r.length+s.length<=100000000):((q.map aM++r.map aM).length+(s.map aM).length)* 1<=140737488355328:=f48 (by omega)
theorem aKb (kd:Int):[[D.int .u8 (IntKind.u8.wrap kd)]]=(eG kd).map aM:=by rw [aLc];rfl
theorem aSh {q:Qy}(h:qE q=0):vA q=(wQy q,0):=if_pos h
theorem aSi {q:Qy}(h:¬ qE q=0):vA q=([],qE q):=if_neg h
theorem xD (q:Qy):Tri Tryz.prog 10 [.d (.agg (qyR q))] [] (λr=>r= .tup [.d (.sl 1 ((vA q).1.map aM)), .d (.int .i64 (vA q).2)]):=by
 have hc:=aE8 q
 refine Tri.says ?_
 by_cases hq:¬ qE q=0
 ·rw [aSi hq]
  generalize qE q=e at *
  obtain⟨told,parts⟩:=q
  rw [show qyR ⟨told,parts⟩=[.sl 1 (told.map bL), .sl 1 (parts.map aU)]from rfl]at *
  refine aE false [1] hty Tryz.func10 rfl (kp [0,1,2,3,4,5,6,7,8,12,27,45]) [] _ _ _ (by simp [Tryz.f10]) (by simp) ?_
  ((conv=>whnf);repeat ((first|(refine aD [] hc trivial (λr hs=> ?_);subst hs)|(intro hq;try simp only [lnS]at hq)|refine sI ?_|refine .intro _ (.intro rfl ?_));(conv=>whnf)))
  refine aC (λh1=> ?_) (λh1=>absurd (by simpa using h1) hq)
  ((conv=>whnf);repeat ((first|(intro hq;try simp only [lnS]at hq)|refine sI ?_|refine .intro _ (.intro rfl ?_));(conv=>whnf)))
  exact⟨_,pairN (.d .nil) _,rfl⟩
 have hq:qE q=0:=Decidable.not_not.1 hq
 rw [aSh hq]
 rw [hq]at hc
 obtain⟨⟨g1,g2⟩,g3,g4⟩:=aSk hq
 clear hq
 obtain⟨told,parts⟩:=q
 dsimp only at g1 g2 g3 g4
 rw [show qyR ⟨told,parts⟩=[.sl 1 (told.map bL), .sl 1 (parts.map aU)]from rfl]at *
 have hlp:(parts.map aU).length=parts.length:=List.length_map ..
 have b1:=rK (w:=bC) (k:=21) (l:=told) (λs hs=>by rw [tM];have:=g2 s hs;omega) g1
 have b2: ∀p∈parts,(aX wAt p).length<=1216:= λp hp=>rK (w:=wAt) (k:=101) (n:=12) (l:=p) (λa ha=>aE5 ((g4 p hp).2 a ha)) (g4 p hp).1.2
 have hT:=aFq told (by omega)
 have hB:=(oT parts.length (by omega)).tri
 have hfin:wQy ⟨told,parts⟩=aX bC told++beN 4 parts.length++(parts.map (aX wAt)).flatten:=by
  show aX bC told++(beN 4 parts.length++_)=_
  rw [List.append_assoc]
 rw [hfin]
 clear hfin
 have hb:(beN 4 parts.length).length=4:=aP ..
 have a63:=p63 (q:=aX bC told) (s:=beN 4 parts.length) (by omega)
 have a48:=p48 (q:=aX bC told) (s:=beN 4 parts.length) (by omega)
 refine aE false [1] hty Tryz.func10 rfl (kp [0,1,2,3,4,5,6,7,8,12,27,45]) [] _ _ _ (by simp [Tryz.f10]) (by simp) ?_
 ((conv=>whnf);repeat ((first|(refine aD [] hc trivial (λr hs=> ?_);subst hs)|(intro hq;try simp only [lnS]at hq)|refine sI ?_|refine .intro _ (.intro rfl ?_));(conv=>whnf)))
 refine aN.mid [(1, .ea 2 [[.sl 1 (told.map bL), .sl 1 (parts.map aU)]] 0 0),(5, .osl 200 1 ((aX bC told).map aM++(beN 4 parts.length).map aM))] [(200, .own 5 1 (((aX bC told).map aM).length+((beN 4 parts.length).map aM).length))] ?_ ?_
 ·(refine bI (id:=4) hty (.first 0 (.first 1 (.first 3 (.first 4 (.alt 2 (.alt 5 (.first 6 (.alt 7 (.alt 8 (.first 9 .done) .stop) .stop)) .stop) (.alt 5 (.first 6 (.alt 2 (.alt 7 (.alt 8 (.first 9 .done) .stop) .stop) .stop)) .stop)))))) (by kernel_rfl) (by kernel_rfl) ?_)
  ((conv=>whnf);repeat' ((first|(intro hq;(try simp only [lnS]at hq);(try rewrite [List.length_map]))|refine sJ ?_|refine .intro _ (.intro rfl ?_)|refine exL (k:= ?_)|(refine And.intro a63 ?_)|(refine And.intro a48 ?_)|(refine aD [] hB trivial (λr hs=> ?_);subst hs)|(refine iO hT 200 (bW (by with_unfolding_all exact rfl)) ?_)|exact trivial|(refine And.intro ?_ ?_)|refine dwR ?_|((first|refine aB ?_ ?_|refine aC ?_ ?_)<;>intro hb<;>(first|exact ddX hb|try simp only [lnS]at hb))|(refine aA ?_ ?_<;>intro hb<;>try exact dsX hb))<;>(conv=>whnf)))
  all_goals exact⟨by repeat' (first|exact trivial|exact rfl|refine And.intro ?_ ?_),by repeat' (first|exact trivial|exact rfl|refine And.intro ?_ ?_)⟩
 rw [<-bM,<-fN]
 have hh:(aX bC told++beN 4 parts.length).length<=71:=by rw [List.length_append];omega
 generalize aX bC told++beN 4 parts.length=hd at *
 clear a63 a48 hT hB b1 hb
 ((conv=>whnf);repeat ((first|(intro hq;try simp only [lnS]at hq)|refine sI ?_|refine .intro _ (.intro rfl ?_));(conv=>whnf)))
 refine aH hty (λj:Nat=>([(1, .ea 2 [[.sl 1 (told.map bL), .sl 1 (parts.map aU)]] 0 0),(5, .osl 200 1 ((hd++((parts.take j).map (aX wAt)).flatten).map aM)),(6, .d (.int .i64 j))],[(200, .own 5 1 ((hd++((parts.take j).map (aX wAt)).flatten).map aM).length)])) (λj=>j<=parts.length) (λj=>parts.length - j) 0 (by omega) ⟨by dsimp only;rw [List.take_zero,List.map_nil,List.flatten_nil,List.append_nil];exact by repeat' (first|exact trivial|exact rfl|refine And.intro ?_ ?_),by dsimp only;rw [List.take_zero,List.map_nil,List.flatten_nil,List.append_nil];exact⟨rfl,trivial⟩⟩ ?_
 intro j hj
 ((conv=>whnf);repeat ((first|(intro hq;try simp only [lnS]at hq)|refine sI ?_|refine .intro _ (.intro rfl ?_));(conv=>whnf)))
 rw [hlp]
 refine aB (λh1=> ?_) (λh1=> ?_)
 ·have hjl:j < parts.length:=by omega
  have hrow:(parts.map aU)[((j:Nat):Int).toNat]? =some (aU parts[j]):=aS hjl
  have hnx:hd++((parts.take (j+1)).map (aX wAt)).flatten=hd++((parts.take j).map (aX wAt)).flatten++aX wAt parts[j]:=by rw [cM (w:=aX wAt) hjl,List.append_assoc]
  have hcu:(hd++((parts.take j).map (aX wAt)).flatten).length<=6000:=by
   have h2:=eX (w:=aX wAt) (k:=1216) (l:=parts.take j) λp hp=>b2 p (List.mem_of_mem_take hp)
   rw [List.length_take]at h2
   have h3:min j parts.length * 1216<=4 * 1216:=Nat.mul_le_mul_right _ (by omega)
   rw [List.length_append];omega
  have hp:=g4 parts[j] (List.getElem_mem hjl)
  generalize hd++((parts.take j).map (aX wAt)).flatten=cur at *
  generalize parts[j]=p at *
  rw [show aU p=[.sl 6 (p.map atR)]from rfl]at hrow
  have hlx:(p.map atR).length=p.length:=List.length_map ..
  have hN:=(oT p.length (by omega)).tri
  have hb:(beN 4 p.length).length=4:=aP ..
  have a63:=p63 (q:=cur) (s:=beN 4 p.length) (by omega)
  have a48:=p48 (q:=cur) (s:=beN 4 p.length) (by omega)
  ((conv=>whnf);repeat ((first|(refine⟨_,hrow, ?_⟩)|(refine And.intro a63 ?_)|(refine And.intro a48 ?_)|(rw [hlx];refine aD [] hN trivial (λr hs=> ?_);subst hs)|(intro hq;try simp only [lnS]at hq)|refine sI ?_|refine .intro _ (.intro rfl ?_));(conv=>whnf)))
  rw [<-bM,<-fN]
  have hw:cur++aX wAt p=cur++beN 4 p.length++(p.map wAt).flatten:=by unfold aX;rw [List.append_assoc]
  rw [hw]at hnx
  have hc2:(cur++beN 4 p.length).length<=6004:=by rw [List.length_append];omega
  clear hw a63 a48 hN hb hcu
  generalize cur++beN 4 p.length=c2 at *
  ((conv=>whnf);repeat ((first|(intro hq;try simp only [lnS]at hq)|refine sI ?_|refine .intro _ (.intro rfl ?_));(conv=>whnf)))
  refine aH hty (λk:Nat=>([(1, .ea 2 [[.sl 1 (told.map bL), .sl 1 (parts.map aU)]] 0 0),(6, .d (.int .i64 j)),(7, .d (.sl 6 (p.map atR))),(5, .osl 200 1 ((c2++((p.take k).map wAt).flatten).map aM)),(8, .d (.int .i64 k))],[(200, .own 5 1 ((c2++((p.take k).map wAt).flatten).map aM).length)])) (λk=>k<=p.length) (λk=>p.length - k) 0 (by omega) ⟨by dsimp only;rw [List.take_zero,List.map_nil,List.flatten_nil,List.append_nil];exact by repeat' (first|exact trivial|exact rfl|refine And.intro ?_ ?_),by dsimp only;rw [List.take_zero,List.map_nil,List.flatten_nil,List.append_nil];exact⟨rfl,trivial⟩⟩ ?_
  intro k hk
  ((conv=>whnf);repeat ((first|(intro hq;try simp only [lnS]at hq)|refine sI ?_|refine .intro _ (.intro rfl ?_));(conv=>whnf)))
  rw [hlx]
  refine aB (λh2=> ?_) (λh2=> ?_)
  ·have hkl:k < p.length:=by omega
   have hrow2:(p.map atR)[((k:Nat):Int).toNat]? =some (atR p[k]):=aS hkl
   have hnx:c2++((p.take (k+1)).map wAt).flatten=c2++((p.take k).map wAt).flatten++wAt p[k]:=by rw [cM (w:=wAt) hkl,List.append_assoc]
   have hcu:(c2++((p.take k).map wAt).flatten).length<=8000:=by
    have h2:=eX (w:=wAt) (k:=101) (l:=p.take k) λa ha=>aE5 (hp.2 a (List.mem_of_mem_take ha))
    rw [List.length_take]at h2
    have h3:min k p.length * 101<=12 * 101:=Nat.mul_le_mul_right _ (by omega)
    rw [List.length_append];omega
   have hwa:=aE5 (hp.2 p[k] (List.getElem_mem hkl))
   generalize c2++((p.take k).map wAt).flatten=q at *
   generalize p[k]=a at *
   obtain⟨kd,nm,xx,yy,lo,hi⟩:=a
   rw [show atR ⟨kd,nm,xx,yy,lo,hi⟩=[.int .i64 kd, .str nm, .str xx, .str yy, .int .i64 lo, .int .i64 hi]from rfl]at hrow2
   have hwe:q++wAt ⟨kd,nm,xx,yy,lo,hi⟩=q++eG kd++bC nm++bC xx++bC yy++dI lo++dI hi:=by unfold wAt;simp only [dY]
   rw [hwe]at hnx
   have hwl:(wAt ⟨kd,nm,xx,yy,lo,hi⟩).length=1+((bC nm).length+((bC xx).length+((bC yy).length+(8+8)))):=by unfold wAt eG;simp only [List.length_append,wL,aP]
   rw [hwl]at hwa
   clear hwe hwl
   have l1:=tM nm
   have l2:=tM xx
   have l3:=tM yy
   have l4:=wL lo
   have l5:=wL hi
   have l6:(eG kd).length=1:=aP ..
   have t1:=(lW nm (by omega)).tri
   have t2:=(lW xx (by omega)).tri
   have t3:=(lW yy (by omega)).tri
   have t4:=(nM lo).tri
   have t5:=(nM hi).tri
   have c63:=n63 (q:=q) (by omega)
   have c48:=n48 (q:=q) (by omega)
   have d63':=o63 (q:=q) (s:=bC nm) (r:=[D.int .u8 (IntKind.u8.wrap kd)]) (by omega)
   have d48':=o48 (q:=q) (s:=bC nm) (r:=[D.int .u8 (IntKind.u8.wrap kd)]) (by omega)
   have hq1:(q++eG kd++bC nm).length<=9000:=by simp only [List.length_append];omega
   have e63':=p63 (q:=q++eG kd++bC nm) (s:=bC xx) (by omega)
   have e48':=p48 (q:=q++eG kd++bC nm) (s:=bC xx) (by omega)
   have f63':=q63 (q:=q++eG kd++bC nm) (r:=bC xx) (s:=bC yy) (by omega)
   have f48':=q48 (q:=q++eG kd++bC nm) (r:=bC xx) (s:=bC yy) (by omega)
   have hq2:(q++eG kd++bC nm++bC xx++bC yy).length<=9500:=by simp only [List.length_append];omega
   have g63:=p63 (q:=q++eG kd++bC nm++bC xx++bC yy) (s:=dI lo) (by omega)
   have g48:=p48 (q:=q++eG kd++bC nm++bC xx++bC yy) (s:=dI lo) (by omega)
   have h63:=q63 (q:=q++eG kd++bC nm++bC xx++bC yy) (r:=dI lo) (s:=dI hi) (by omega)
   have h48:=q48 (q:=q++eG kd++bC nm++bC xx++bC yy) (r:=dI lo) (s:=dI hi) (by omega)
   ((conv=>whnf);repeat ((first|(intro hq;try simp only [lnS]at hq)|refine sI ?_|refine .intro _ (.intro rfl ?_));(conv=>whnf)))
   refine aN.mid [(1, .ea 2 [[.sl 1 (told.map bL), .sl 1 (parts.map aU)]] 0 0),(6, .d (.int .i64 j)),(7, .d (.sl 6 (p.map atR))),(8, .d (.int .i64 k)),(5, .osl 200 1 (q.map aM++[[D.int .u8 (IntKind.u8.wrap kd)]]++(bC nm).map aM))] [(200, .own 5 1 ((q.map aM++[[D.int .u8 (IntKind.u8.wrap kd)]]).length+((bC nm).map aM).length))] ?_ ?_
   ·(refine bI (id:=13) hty (.first 0 (.first 1 (.first 2 (.first 3 (.first 4 (.first 5 (.first 6 (.first 9 (.first 10 (.first 11 (.first 12 (.first 13 (.alt 7 (.alt 8 (.alt 14 (.alt 15 (.first 16 .done) .stop) .stop) .stop) .stop))))))))))))) (by kernel_rfl) (by kernel_rfl) ?_)
    ((conv=>whnf);repeat' ((first|(intro hq;(try simp only [lnS]at hq);(try rewrite [List.length_map]))|refine sJ ?_|refine .intro _ (.intro rfl ?_)|refine exL (k:= ?_)|(refine⟨_,hrow2, ?_⟩)|(refine And.intro c63 ?_)|(refine And.intro c48 ?_)|(refine And.intro d63' ?_)|(refine And.intro d48' ?_)|(refine aD [] t1 trivial (λr hs=> ?_);subst hs)|exact trivial|(refine And.intro ?_ ?_)|refine dwR ?_|((first|refine aB ?_ ?_|refine aC ?_ ?_)<;>intro hb<;>(first|exact ddX hb|try simp only [lnS]at hb))|(refine aA ?_ ?_<;>intro hb<;>try exact dsX hb))<;>(conv=>whnf)))
    all_goals exact⟨by repeat' (first|exact trivial|exact rfl|refine And.intro ?_ ?_),by repeat' (first|exact trivial|exact rfl|refine And.intro ?_ ?_)⟩
   have o1:(q.map aM++[[D.int .u8 (IntKind.u8.wrap kd)]]).length+((bC nm).map aM).length=((q++eG kd++bC nm).map aM).length:=by rw [aKb,bM,bM,List.length_append,List.length_append,List.length_append]
   rw [o1,aKb,<-bM,<-bM]
   clear c63 c48 d63' d48' o1
   generalize q++eG kd++bC nm=q1 at *
   ((conv=>whnf);repeat ((first|(intro hq;try simp only [lnS]at hq)|refine sI ?_|refine .intro _ (.intro rfl ?_));(conv=>whnf)))
   refine aN.mid [(1, .ea 2 [[.sl 1 (told.map bL), .sl 1 (parts.map aU)]] 0 0),(6, .d (.int .i64 j)),(7, .d (.sl 6 (p.map atR))),(8, .d (.int .i64 k)),(5, .osl 200 1 (q1.map aM++(bC xx).map aM++(bC yy).map aM))] [(200, .own 5 1 ((q1.map aM++(bC xx).map aM).length+((bC yy).map aM).length))] ?_ ?_
   ·(refine bI (id:=14) hty (.first 0 (.first 1 (.first 2 (.first 3 (.first 4 (.first 5 (.first 8 (.first 9 (.first 10 (.first 11 (.first 12 (.alt 6 (.alt 7 (.alt 13 (.alt 14 (.first 15 .done) .stop) .stop) .stop) .stop)))))))))))) (by kernel_rfl) (by kernel_rfl) ?_)
    ((conv=>whnf);repeat' ((first|(intro hq;(try simp only [lnS]at hq);(try rewrite [List.length_map]))|refine sJ ?_|refine .intro _ (.intro rfl ?_)|refine exL (k:= ?_)|(refine⟨_,hrow2, ?_⟩)|(refine And.intro e63' ?_)|(refine And.intro e48' ?_)|(refine And.intro f63' ?_)|(refine And.intro f48' ?_)|(refine aD [] t2 trivial (λr hs=> ?_);subst hs)|(refine aD [] t3 trivial (λr hs=> ?_);subst hs)|exact trivial|(refine And.intro ?_ ?_)|refine dwR ?_|((first|refine aB ?_ ?_|refine aC ?_ ?_)<;>intro hb<;>(first|exact ddX hb|try simp only [lnS]at hb))|(refine aA ?_ ?_<;>intro hb<;>try exact dsX hb))<;>(conv=>whnf)))
    all_goals exact⟨by repeat' (first|exact trivial|exact rfl|refine And.intro ?_ ?_),by repeat' (first|exact trivial|exact rfl|refine And.intro ?_ ?_)⟩
   rw [<-bM,<-bM,<-fN]
   clear e63' e48' f63' f48'
   generalize q1++bC xx++bC yy=q2 at *
   ((conv=>whnf);repeat ((first|(intro hq;try simp only [lnS]at hq)|refine sI ?_|refine .intro _ (.intro rfl ?_));(conv=>whnf)))
   refine aN.mid [(1, .ea 2 [[.sl 1 (told.map bL), .sl 1 (parts.map aU)]] 0 0),(6, .d (.int .i64 j)),(7, .d (.sl 6 (p.map atR))),(8, .d (.int .i64 k)),(5, .osl 200 1 (q2.map aM++(dI lo).map aM++(dI hi).map aM))] [(200, .own 5 1 ((q2.map aM++(dI lo).map aM).length+((dI hi).map aM).length))] ?_ ?_
   ·(refine bI (id:=15) hty (.first 0 (.first 1 (.first 2 (.first 3 (.first 4 (.first 5 (.first 8 (.first 9 (.first 10 (.first 11 (.first 12 (.alt 6 (.alt 7 (.alt 13 (.alt 14 (.first 15 .done) .stop) .stop) .stop) .stop)))))))))))) (by kernel_rfl) (by kernel_rfl) ?_)
    ((conv=>whnf);repeat' ((first|(intro hq;(try simp only [lnS]at hq);(try rewrite [List.length_map]))|refine sJ ?_|refine .intro _ (.intro rfl ?_)|refine exL (k:= ?_)|(refine⟨_,hrow2, ?_⟩)|(refine And.intro g63 ?_)|(refine And.intro g48 ?_)|(refine And.intro h63 ?_)|(refine And.intro h48 ?_)|(refine aD [] t4 trivial (λr hs=> ?_);subst hs)|(refine aD [] t5 trivial (λr hs=> ?_);subst hs)|exact trivial|(refine And.intro ?_ ?_)|refine dwR ?_|((first|refine aB ?_ ?_|refine aC ?_ ?_)<;>intro hb<;>(first|exact ddX hb|try simp only [lnS]at hb))|(refine aA ?_ ?_<;>intro hb<;>try exact dsX hb))<;>(conv=>whnf)))
    all_goals exact⟨by repeat' (first|exact trivial|exact rfl|refine And.intro ?_ ?_),by repeat' (first|exact trivial|exact rfl|refine And.intro ?_ ?_)⟩
   rw [<-bM,<-bM,<-fN]
   ((conv=>whnf);repeat ((first|(intro hq;try simp only [lnS]at hq)|refine sI ?_|refine .intro _ (.intro rfl ?_));(conv=>whnf)))
   refine⟨k+1,by dsimp only;omega,by dsimp only;omega, ?_⟩
   dsimp only
   rw [hnx]
   exact⟨by repeat' (first|exact trivial|exact rfl|refine And.intro ?_ ?_),by repeat' (first|exact trivial|exact rfl|refine And.intro ?_ ?_)⟩
  ·have hkl:k=p.length:=by omega
   subst hkl
   rw [List.take_length]
   ((conv=>whnf);repeat ((first|(intro hq;try simp only [lnS]at hq)|refine sI ?_|refine .intro _ (.intro rfl ?_));(conv=>whnf)))
   refine⟨j+1,by dsimp only;omega,by dsimp only;omega, ?_⟩
   dsimp only
   rw [hnx]
   exact⟨by repeat' (first|exact trivial|exact rfl|refine And.intro ?_ ?_),by repeat' (first|exact trivial|exact rfl|refine And.intro ?_ ?_)⟩
 ·have hjl:j=parts.length:=by omega
  subst hjl
  rw [List.take_length]
  ((conv=>whnf);repeat ((first|(intro hq;try simp only [lnS]at hq)|refine sI ?_|refine .intro _ (.intro rfl ?_));(conv=>whnf)))
  exact⟨_, .refl _,rfl⟩
end Go.Proofs.YtleihcnongldbaaGreatDoor
