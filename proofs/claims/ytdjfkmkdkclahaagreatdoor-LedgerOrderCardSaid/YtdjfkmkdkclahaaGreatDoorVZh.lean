/-
  The reference of objects: queries in bytes. Ledgers, the reference: readers, versions, numbers in bytes, Encode. Ledgers, the reference: New, Left, place. Ledgers, the reference: the canonical form, Check, Add, Find.
  Conditions: none.
-/
import Derived.Test.YtdjfkmkdkclahaaGreatDoorVNq
import Derived.Test.YtdjfkmkdkclahaaGreatDoorVVe
set_option linter.unnecessarySimpa false
set_option linter.unusedSectionVars false
set_option linter.unusedSimpArgs false
set_option linter.unusedVariables false
set_option maxHeartbeats 32000000
namespace Go.Proofs.YtdjfkmkdkclahaaGreatDoor
open Go.Proofs Go.RowKit
set_option maxRecDepth 10000
attribute [local irreducible] aL aH Tri aI YVC bP aS aA3
theorem n63 {q:List UInt8}(h:q.length<=100000000):(q.map aP).length+1<=9223372036854775807:=by rw [bX];omega
theorem n48 {q:List UInt8}(h:q.length<=100000000):((q.map aP).length+1)* 1<=140737488355328:=by rw [bX];omega
theorem o63 {q s:List UInt8}{r:List D}(h:q.length+s.length<=100000000):(q.map aP++[r]).length+(s.map aP).length<=9223372036854775807:=by rw [List.length_append,bX,bX,List.length_singleton];omega
theorem o48 {q s:List UInt8}{r:List D}(h:q.length+s.length<=100000000):((q.map aP++[r]).length+(s.map aP).length)* 1<=140737488355328:=by rw [List.length_append,bX,bX,List.length_singleton];omega
theorem p63 {q s:List UInt8}(h:q.length+s.length<=100000000):(q.map aP).length+(s.map aP).length<=9223372036854775807:=by rw [bX,bX];omega
theorem p48 {q s:List UInt8}(h:q.length+s.length<=100000000):((q.map aP).length+(s.map aP).length)* 1<=140737488355328:=by rw [bX,bX];omega
theorem q63 {q r s:List UInt8}(h:q.length+r.length+s.length<=100000000):(q.map aP++r.map aP).length+(s.map aP).length<=9223372036854775807:=f63 (by omega)
theorem q48 {q r s:List UInt8}(h:q.length+r.length+s.length<=100000000):((q.map aP++r.map aP).length+(s.map aP).length)* 1<=140737488355328:=f48 (by omega)
theorem aLn (kd:Int):[[D.int .u8 (IntKind.u8.wrap kd)]]=(vS kd).map aP:=by rw [aT5];rfl
theorem aU6 {q:Qy}(h:qE q=0):lA q=(wQy q,0):=if_pos h
theorem aU7 {q:Qy}(h:¬ qE q=0):lA q=([],qE q):=if_neg h
theorem xG (q:Qy):Tri Tryz.prog 50 [.d (.agg (qyR q))] [] (λr=>r= .tup [.d (.sl 1 ((lA q).1.map aP)), .d (.int .i64 (lA q).2)]):=by
 have hc:=iT q
 refine Tri.says ?_
 by_cases hq:¬ qE q=0
 ·rw [aU7 hq]
  generalize qE q=e at *
  obtain⟨told,parts⟩:=q
  rw [show qyR ⟨told,parts⟩=[.sl 1 (told.map aV), .sl 1 (parts.map aK)]from rfl]at *
  refine aG false [1] hty Tryz.func50 rfl (kp [0,1,2,3,4,5,6,7,8,12,27,45]) [] _ _ _ (by simp [Tryz.f50]) (by simp) ?_
  ((conv=>whnf);repeat ((first|(refine aA [] hc trivial (λr hs=> ?_);subst hs)|(intro hq;try simp only [lnS]at hq)|refine sI ?_|refine .intro _ (.intro rfl ?_));(conv=>whnf)))
  refine aD (λh1=> ?_) (λh1=>absurd (by simpa using h1) hq)
  ((conv=>whnf);repeat ((first|(intro hq;try simp only [lnS]at hq)|refine sI ?_|refine .intro _ (.intro rfl ?_));(conv=>whnf)))
  exact⟨_,pairN (.d .nil) _,rfl⟩
 have hq:qE q=0:=Decidable.not_not.1 hq
 rw [aU6 hq]
 rw [hq]at hc
 obtain⟨⟨g1,g2⟩,g3,g4⟩:=aQf hq
 clear hq
 obtain⟨told,parts⟩:=q
 dsimp only at g1 g2 g3 g4
 rw [show qyR ⟨told,parts⟩=[.sl 1 (told.map aV), .sl 1 (parts.map aK)]from rfl]at *
 have hlp:(parts.map aK).length=parts.length:=List.length_map ..
 have b1:=jY (w:=bR) (k:=21) (l:=told) (λs hs=>by rw [mV];have:=g2 s hs;omega) g1
 have b2: ∀p∈parts,(bL wAt p).length<=1216:= λp hp=>jY (w:=wAt) (k:=101) (n:=12) (l:=p) (λa ha=>aC3 ((g4 p hp).2 a ha)) (g4 p hp).1.2
 have hT:=aOk told (by omega)
 have hB:=(aCs parts.length (by omega)).tri
 have hfin:wQy ⟨told,parts⟩=bL bR told++beN 4 parts.length++(parts.map (bL wAt)).flatten:=by
  show bL bR told++(beN 4 parts.length++_)=_
  rw [List.append_assoc]
 rw [hfin]
 clear hfin
 have hb:(beN 4 parts.length).length=4:=aU ..
 have a63:=p63 (q:=bL bR told) (s:=beN 4 parts.length) (by omega)
 have a48:=p48 (q:=bL bR told) (s:=beN 4 parts.length) (by omega)
 refine aG false [1] hty Tryz.func50 rfl (kp [0,1,2,3,4,5,6,7,8,12,27,45]) [] _ _ _ (by simp [Tryz.f50]) (by simp) ?_
 ((conv=>whnf);repeat ((first|(refine aA [] hc trivial (λr hs=> ?_);subst hs)|(intro hq;try simp only [lnS]at hq)|refine sI ?_|refine .intro _ (.intro rfl ?_));(conv=>whnf)))
 refine aL.mid [(1, .ea 2 [[.sl 1 (told.map aV), .sl 1 (parts.map aK)]] 0 0),(5, .osl 200 1 ((bL bR told).map aP++(beN 4 parts.length).map aP))] [(200, .own 5 1 (((bL bR told).map aP).length+((beN 4 parts.length).map aP).length))] ?_ ?_
 ·(refine aX (id:=4) hty (.first 0 (.first 1 (.first 3 (.first 4 (.alt 2 (.alt 5 (.first 6 (.alt 7 (.alt 8 (.first 9 .done) .stop) .stop)) .stop) (.alt 5 (.first 6 (.alt 2 (.alt 7 (.alt 8 (.first 9 .done) .stop) .stop) .stop)) .stop)))))) (by kernel_rfl) (by kernel_rfl) ?_)
  ((conv=>whnf);repeat' ((first|(intro hq;(try simp only [lnS]at hq);(try rewrite [List.length_map]))|refine sJ ?_|refine .intro _ (.intro rfl ?_)|refine exL (k:= ?_)|(refine And.intro a63 ?_)|(refine And.intro a48 ?_)|(refine aA [] hB trivial (λr hs=> ?_);subst hs)|(refine iQ hT 200 (bQ (by with_unfolding_all exact rfl)) ?_)|exact trivial|(refine And.intro ?_ ?_)|refine dwR ?_|((first|refine aC ?_ ?_|refine aD ?_ ?_)<;>intro hb<;>(first|exact ddX hb|try simp only [lnS]at hb))|(refine aB ?_ ?_<;>intro hb<;>try exact dsX hb))<;>(conv=>whnf)))
  all_goals exact⟨by repeat' (first|exact trivial|exact rfl|refine And.intro ?_ ?_),by repeat' (first|exact trivial|exact rfl|refine And.intro ?_ ?_)⟩
 rw [<-cU,<-xS]
 have hh:(bL bR told++beN 4 parts.length).length<=71:=by rw [List.length_append];omega
 generalize bL bR told++beN 4 parts.length=hd at *
 clear a63 a48 hT hB b1 hb
 ((conv=>whnf);repeat ((first|(intro hq;try simp only [lnS]at hq)|refine sI ?_|refine .intro _ (.intro rfl ?_));(conv=>whnf)))
 refine aJ hty (λj:Nat=>([(1, .ea 2 [[.sl 1 (told.map aV), .sl 1 (parts.map aK)]] 0 0),(5, .osl 200 1 ((hd++((parts.take j).map (bL wAt)).flatten).map aP)),(6, .d (.int .i64 j))],[(200, .own 5 1 ((hd++((parts.take j).map (bL wAt)).flatten).map aP).length)])) (λj=>j<=parts.length) (λj=>parts.length - j) 0 (by omega) ⟨by dsimp only;rw [List.take_zero,List.map_nil,List.flatten_nil,List.append_nil];exact by repeat' (first|exact trivial|exact rfl|refine And.intro ?_ ?_),by dsimp only;rw [List.take_zero,List.map_nil,List.flatten_nil,List.append_nil];exact⟨rfl,trivial⟩⟩ ?_
 intro j hj
 ((conv=>whnf);repeat ((first|(intro hq;try simp only [lnS]at hq)|refine sI ?_|refine .intro _ (.intro rfl ?_));(conv=>whnf)))
 rw [hlp]
 refine aC (λh1=> ?_) (λh1=> ?_)
 ·have hjl:j < parts.length:=by omega
  have hrow:(parts.map aK)[((j:Nat):Int).toNat]? =some (aK parts[j]):=aO hjl
  have hnx:hd++((parts.take (j+1)).map (bL wAt)).flatten=hd++((parts.take j).map (bL wAt)).flatten++bL wAt parts[j]:=by rw [gE (w:=bL wAt) hjl,List.append_assoc]
  have hcu:(hd++((parts.take j).map (bL wAt)).flatten).length<=6000:=by
   have h2:=jF (w:=bL wAt) (k:=1216) (l:=parts.take j) λp hp=>b2 p (List.mem_of_mem_take hp)
   rw [List.length_take]at h2
   have h3:min j parts.length * 1216<=4 * 1216:=Nat.mul_le_mul_right _ (by omega)
   rw [List.length_append];omega
  have hp:=g4 parts[j] (List.getElem_mem hjl)
  generalize hd++((parts.take j).map (bL wAt)).flatten=cur at *
  generalize parts[j]=p at *
  rw [show aK p=[.sl 6 (p.map atR)]from rfl]at hrow
  have hlx:(p.map atR).length=p.length:=List.length_map ..
  have hN:=(aCs p.length (by omega)).tri
  have hb:(beN 4 p.length).length=4:=aU ..
  have a63:=p63 (q:=cur) (s:=beN 4 p.length) (by omega)
  have a48:=p48 (q:=cur) (s:=beN 4 p.length) (by omega)
  ((conv=>whnf);repeat ((first|(refine⟨_,hrow, ?_⟩)|(refine And.intro a63 ?_)|(refine And.intro a48 ?_)|(rw [hlx];refine aA [] hN trivial (λr hs=> ?_);subst hs)|(intro hq;try simp only [lnS]at hq)|refine sI ?_|refine .intro _ (.intro rfl ?_));(conv=>whnf)))
  rw [<-cU,<-xS]
  have hw:cur++bL wAt p=cur++beN 4 p.length++(p.map wAt).flatten:=by unfold bL;rw [List.append_assoc]
  rw [hw]at hnx
  have hc2:(cur++beN 4 p.length).length<=6004:=by rw [List.length_append];omega
  clear hw a63 a48 hN hb hcu
  generalize cur++beN 4 p.length=c2 at *
  ((conv=>whnf);repeat ((first|(intro hq;try simp only [lnS]at hq)|refine sI ?_|refine .intro _ (.intro rfl ?_));(conv=>whnf)))
  refine aJ hty (λk:Nat=>([(1, .ea 2 [[.sl 1 (told.map aV), .sl 1 (parts.map aK)]] 0 0),(6, .d (.int .i64 j)),(7, .d (.sl 6 (p.map atR))),(5, .osl 200 1 ((c2++((p.take k).map wAt).flatten).map aP)),(8, .d (.int .i64 k))],[(200, .own 5 1 ((c2++((p.take k).map wAt).flatten).map aP).length)])) (λk=>k<=p.length) (λk=>p.length - k) 0 (by omega) ⟨by dsimp only;rw [List.take_zero,List.map_nil,List.flatten_nil,List.append_nil];exact by repeat' (first|exact trivial|exact rfl|refine And.intro ?_ ?_),by dsimp only;rw [List.take_zero,List.map_nil,List.flatten_nil,List.append_nil];exact⟨rfl,trivial⟩⟩ ?_
  intro k hk
  ((conv=>whnf);repeat ((first|(intro hq;try simp only [lnS]at hq)|refine sI ?_|refine .intro _ (.intro rfl ?_));(conv=>whnf)))
  rw [hlx]
  refine aC (λh2=> ?_) (λh2=> ?_)
  ·have hkl:k < p.length:=by omega
   have hrow2:(p.map atR)[((k:Nat):Int).toNat]? =some (atR p[k]):=aO hkl
   have hnx:c2++((p.take (k+1)).map wAt).flatten=c2++((p.take k).map wAt).flatten++wAt p[k]:=by rw [gE (w:=wAt) hkl,List.append_assoc]
   have hcu:(c2++((p.take k).map wAt).flatten).length<=8000:=by
    have h2:=jF (w:=wAt) (k:=101) (l:=p.take k) λa ha=>aC3 (hp.2 a (List.mem_of_mem_take ha))
    rw [List.length_take]at h2
    have h3:min k p.length * 101<=12 * 101:=Nat.mul_le_mul_right _ (by omega)
    rw [List.length_append];omega
   have hwa:=aC3 (hp.2 p[k] (List.getElem_mem hkl))
   generalize c2++((p.take k).map wAt).flatten=q at *
   generalize p[k]=a at *
   obtain⟨kd,nm,xx,yy,lo,hi⟩:=a
   rw [show atR ⟨kd,nm,xx,yy,lo,hi⟩=[.int .i64 kd, .str nm, .str xx, .str yy, .int .i64 lo, .int .i64 hi]from rfl]at hrow2
   have hwe:q++wAt ⟨kd,nm,xx,yy,lo,hi⟩=q++vS kd++bR nm++bR xx++bR yy++gK lo++gK hi:=by unfold wAt;simp only [sD]
   rw [hwe]at hnx
   have hwl:(wAt ⟨kd,nm,xx,yy,lo,hi⟩).length=1+((bR nm).length+((bR xx).length+((bR yy).length+(8+8)))):=by unfold wAt vS;simp only [List.length_append,wO,aU]
   rw [hwl]at hwa
   clear hwe hwl
   have l1:=mV nm
   have l2:=mV xx
   have l3:=mV yy
   have l4:=wO lo
   have l5:=wO hi
   have l6:(vS kd).length=1:=aU ..
   have t1:=(aCn nm (by omega)).tri
   have t2:=(aCn xx (by omega)).tri
   have t3:=(aCn yy (by omega)).tri
   have t4:=(aEf lo).tri
   have t5:=(aEf hi).tri
   have c63:=n63 (q:=q) (by omega)
   have c48:=n48 (q:=q) (by omega)
   have d63':=o63 (q:=q) (s:=bR nm) (r:=[D.int .u8 (IntKind.u8.wrap kd)]) (by omega)
   have d48':=o48 (q:=q) (s:=bR nm) (r:=[D.int .u8 (IntKind.u8.wrap kd)]) (by omega)
   have hq1:(q++vS kd++bR nm).length<=9000:=by simp only [List.length_append];omega
   have e63':=p63 (q:=q++vS kd++bR nm) (s:=bR xx) (by omega)
   have e48':=p48 (q:=q++vS kd++bR nm) (s:=bR xx) (by omega)
   have f63':=q63 (q:=q++vS kd++bR nm) (r:=bR xx) (s:=bR yy) (by omega)
   have f48':=q48 (q:=q++vS kd++bR nm) (r:=bR xx) (s:=bR yy) (by omega)
   have hq2:(q++vS kd++bR nm++bR xx++bR yy).length<=9500:=by simp only [List.length_append];omega
   have g63:=p63 (q:=q++vS kd++bR nm++bR xx++bR yy) (s:=gK lo) (by omega)
   have g48:=p48 (q:=q++vS kd++bR nm++bR xx++bR yy) (s:=gK lo) (by omega)
   have h63:=q63 (q:=q++vS kd++bR nm++bR xx++bR yy) (r:=gK lo) (s:=gK hi) (by omega)
   have h48:=q48 (q:=q++vS kd++bR nm++bR xx++bR yy) (r:=gK lo) (s:=gK hi) (by omega)
   ((conv=>whnf);repeat ((first|(intro hq;try simp only [lnS]at hq)|refine sI ?_|refine .intro _ (.intro rfl ?_));(conv=>whnf)))
   refine aL.mid [(1, .ea 2 [[.sl 1 (told.map aV), .sl 1 (parts.map aK)]] 0 0),(6, .d (.int .i64 j)),(7, .d (.sl 6 (p.map atR))),(8, .d (.int .i64 k)),(5, .osl 200 1 (q.map aP++[[D.int .u8 (IntKind.u8.wrap kd)]]++(bR nm).map aP))] [(200, .own 5 1 ((q.map aP++[[D.int .u8 (IntKind.u8.wrap kd)]]).length+((bR nm).map aP).length))] ?_ ?_
   ·(refine aX (id:=13) hty (.first 0 (.first 1 (.first 2 (.first 3 (.first 4 (.first 5 (.first 6 (.first 9 (.first 10 (.first 11 (.first 12 (.first 13 (.alt 7 (.alt 8 (.alt 14 (.alt 15 (.first 16 .done) .stop) .stop) .stop) .stop))))))))))))) (by kernel_rfl) (by kernel_rfl) ?_)
    ((conv=>whnf);repeat' ((first|(intro hq;(try simp only [lnS]at hq);(try rewrite [List.length_map]))|refine sJ ?_|refine .intro _ (.intro rfl ?_)|refine exL (k:= ?_)|(refine⟨_,hrow2, ?_⟩)|(refine And.intro c63 ?_)|(refine And.intro c48 ?_)|(refine And.intro d63' ?_)|(refine And.intro d48' ?_)|(refine aA [] t1 trivial (λr hs=> ?_);subst hs)|exact trivial|(refine And.intro ?_ ?_)|refine dwR ?_|((first|refine aC ?_ ?_|refine aD ?_ ?_)<;>intro hb<;>(first|exact ddX hb|try simp only [lnS]at hb))|(refine aB ?_ ?_<;>intro hb<;>try exact dsX hb))<;>(conv=>whnf)))
    all_goals exact⟨by repeat' (first|exact trivial|exact rfl|refine And.intro ?_ ?_),by repeat' (first|exact trivial|exact rfl|refine And.intro ?_ ?_)⟩
   have o1:(q.map aP++[[D.int .u8 (IntKind.u8.wrap kd)]]).length+((bR nm).map aP).length=((q++vS kd++bR nm).map aP).length:=by rw [aLn,cU,cU,List.length_append,List.length_append,List.length_append]
   rw [o1,aLn,<-cU,<-cU]
   clear c63 c48 d63' d48' o1
   generalize q++vS kd++bR nm=q1 at *
   ((conv=>whnf);repeat ((first|(intro hq;try simp only [lnS]at hq)|refine sI ?_|refine .intro _ (.intro rfl ?_));(conv=>whnf)))
   refine aL.mid [(1, .ea 2 [[.sl 1 (told.map aV), .sl 1 (parts.map aK)]] 0 0),(6, .d (.int .i64 j)),(7, .d (.sl 6 (p.map atR))),(8, .d (.int .i64 k)),(5, .osl 200 1 (q1.map aP++(bR xx).map aP++(bR yy).map aP))] [(200, .own 5 1 ((q1.map aP++(bR xx).map aP).length+((bR yy).map aP).length))] ?_ ?_
   ·(refine aX (id:=14) hty (.first 0 (.first 1 (.first 2 (.first 3 (.first 4 (.first 5 (.first 8 (.first 9 (.first 10 (.first 11 (.first 12 (.alt 6 (.alt 7 (.alt 13 (.alt 14 (.first 15 .done) .stop) .stop) .stop) .stop)))))))))))) (by kernel_rfl) (by kernel_rfl) ?_)
    ((conv=>whnf);repeat' ((first|(intro hq;(try simp only [lnS]at hq);(try rewrite [List.length_map]))|refine sJ ?_|refine .intro _ (.intro rfl ?_)|refine exL (k:= ?_)|(refine⟨_,hrow2, ?_⟩)|(refine And.intro e63' ?_)|(refine And.intro e48' ?_)|(refine And.intro f63' ?_)|(refine And.intro f48' ?_)|(refine aA [] t2 trivial (λr hs=> ?_);subst hs)|(refine aA [] t3 trivial (λr hs=> ?_);subst hs)|exact trivial|(refine And.intro ?_ ?_)|refine dwR ?_|((first|refine aC ?_ ?_|refine aD ?_ ?_)<;>intro hb<;>(first|exact ddX hb|try simp only [lnS]at hb))|(refine aB ?_ ?_<;>intro hb<;>try exact dsX hb))<;>(conv=>whnf)))
    all_goals exact⟨by repeat' (first|exact trivial|exact rfl|refine And.intro ?_ ?_),by repeat' (first|exact trivial|exact rfl|refine And.intro ?_ ?_)⟩
   rw [<-cU,<-cU,<-xS]
   clear e63' e48' f63' f48'
   generalize q1++bR xx++bR yy=q2 at *
   ((conv=>whnf);repeat ((first|(intro hq;try simp only [lnS]at hq)|refine sI ?_|refine .intro _ (.intro rfl ?_));(conv=>whnf)))
   refine aL.mid [(1, .ea 2 [[.sl 1 (told.map aV), .sl 1 (parts.map aK)]] 0 0),(6, .d (.int .i64 j)),(7, .d (.sl 6 (p.map atR))),(8, .d (.int .i64 k)),(5, .osl 200 1 (q2.map aP++(gK lo).map aP++(gK hi).map aP))] [(200, .own 5 1 ((q2.map aP++(gK lo).map aP).length+((gK hi).map aP).length))] ?_ ?_
   ·(refine aX (id:=15) hty (.first 0 (.first 1 (.first 2 (.first 3 (.first 4 (.first 5 (.first 8 (.first 9 (.first 10 (.first 11 (.first 12 (.alt 6 (.alt 7 (.alt 13 (.alt 14 (.first 15 .done) .stop) .stop) .stop) .stop)))))))))))) (by kernel_rfl) (by kernel_rfl) ?_)
    ((conv=>whnf);repeat' ((first|(intro hq;(try simp only [lnS]at hq);(try rewrite [List.length_map]))|refine sJ ?_|refine .intro _ (.intro rfl ?_)|refine exL (k:= ?_)|(refine⟨_,hrow2, ?_⟩)|(refine And.intro g63 ?_)|(refine And.intro g48 ?_)|(refine And.intro h63 ?_)|(refine And.intro h48 ?_)|(refine aA [] t4 trivial (λr hs=> ?_);subst hs)|(refine aA [] t5 trivial (λr hs=> ?_);subst hs)|exact trivial|(refine And.intro ?_ ?_)|refine dwR ?_|((first|refine aC ?_ ?_|refine aD ?_ ?_)<;>intro hb<;>(first|exact ddX hb|try simp only [lnS]at hb))|(refine aB ?_ ?_<;>intro hb<;>try exact dsX hb))<;>(conv=>whnf)))
    all_goals exact⟨by repeat' (first|exact trivial|exact rfl|refine And.intro ?_ ?_),by repeat' (first|exact trivial|exact rfl|refine And.intro ?_ ?_)⟩
   rw [<-cU,<-cU,<-xS]
   ((conv=>whnf);repeat ((first|(intro hq;try simp only [lnS]at hq)|refine sI ?_|refine .intro _ (.intro rfl ?_));(conv=>whnf)))
   refine⟨k+1,by dsimp only;omega,by dsimp only;omega, ?_⟩
   dsimp only
   rw [hnx]
   exact⟨by repeat' (first|exact trivial|exact rfl|refine And.intro ?_ ?_),by repeat' (first|exact trivial|exact rfl|refine And.intro ?_ ?_)⟩
  ·have hkl:k=p.length:=by omega
   subst hkl
   rw [List.take_length]
   ((conv=>whnf);repeat ((first|(intro hq;try simp only [lnS]at hq)|refine sI ?_|refine .intro _ (.intro rfl ?_));(conv=>whnf)))
   refine⟨j+1,by dsimp only;omega,by dsimp only;omega, ?_⟩
   dsimp only
   rw [hnx]
   exact⟨by repeat' (first|exact trivial|exact rfl|refine And.intro ?_ ?_),by repeat' (first|exact trivial|exact rfl|refine And.intro ?_ ?_)⟩
 ·have hjl:j=parts.length:=by omega
  subst hjl
  rw [List.take_length]
  ((conv=>whnf);repeat ((first|(intro hq;try simp only [lnS]at hq)|refine sI ?_|refine .intro _ (.intro rfl ?_));(conv=>whnf)))
  exact⟨_, .refl _,rfl⟩
end Go.Proofs.YtdjfkmkdkclahaaGreatDoor
namespace Go.Proofs.YtdjfkmkdkclahaaGreatDoor
open Go.Proofs Go.RowKit
set_option maxRecDepth 10000
attribute [local irreducible] aL aH Tri aI YVC bP aS aA3
theorem iY (n:Int):Tri Tryz.prog 37 [.d (.int .i64 n)] [] (λr=>r= .d (.bool (hX n))):=by
 refine aF hty Tryz.func37 rfl (kp [0,2]) [] _ _ _ (by simp [Tryz.f37]) (by simp) ?_
 ((conv=>whnf);repeat' ((first|(intro hq;(try simp only [lnS]at hq);(try rewrite [List.length_map]))|refine sJ ?_|refine .intro _ (.intro rfl ?_)|refine exL (k:= ?_)|refine dwR ?_|((first|refine aC ?_ ?_|refine aD ?_ ?_)<;>intro hb<;>(first|exact ddX hb|try simp only [lnS]at hb))|(refine aB ?_ ?_<;>intro hb<;>try exact dsX hb))<;>(conv=>whnf)))
 ·refine aN ?_
  unfold hX
  rw [decide_eq_decide]
  exact⟨λh=>⟨hb,h⟩,λh=>h.2⟩
 ·refine aN ?_
  unfold hX
  rw [decide_eq_false]
  exact λh=>hb h.1
theorem aGa (n:Int):Tri Tryz.prog 49 [.d (.int .i64 n)] [] (λr=>r= .d (.bool (hX n))):=by
 refine aF hty Tryz.func49 rfl (kp [0,2]) [] _ _ _ (by simp [Tryz.f49]) (by simp) ?_
 ((conv=>whnf);repeat' ((first|(intro hq;(try simp only [lnS]at hq);(try rewrite [List.length_map]))|refine sJ ?_|refine .intro _ (.intro rfl ?_)|refine exL (k:= ?_)|refine dwR ?_|((first|refine aC ?_ ?_|refine aD ?_ ?_)<;>intro hb<;>(first|exact ddX hb|try simp only [lnS]at hb))|(refine aB ?_ ?_<;>intro hb<;>try exact dsX hb))<;>(conv=>whnf)))
 ·refine aN ?_
  unfold hX
  rw [decide_eq_decide]
  exact⟨λh=>⟨hb,h⟩,λh=>h.2⟩
 ·refine aN ?_
  unfold hX
  rw [decide_eq_false]
  exact λh=>hb h.1
theorem iZ (p:List At):Tri Tryz.prog 43 [.d (.agg (aK p))] [] (λr=>r= .d (.agg (qyR ⟨[],[p]⟩))):=by
 refine Tri.says ?_
 refine aF hty Tryz.func43 rfl (kp [0,1,2]) [] _ _ _ (by simp [Tryz.f43]) (by simp) ?_
 ((conv=>whnf);repeat' ((first|(intro hq;(try simp only [lnS]at hq);(try rewrite [List.length_map]))|refine sJ ?_|refine .intro _ (.intro rfl ?_)|refine exL (k:= ?_)|refine dwR ?_|((first|refine aC ?_ ?_|refine aD ?_ ?_)<;>intro hb<;>(first|exact ddX hb|try simp only [lnS]at hb))|(refine aB ?_ ?_<;>intro hb<;>try exact dsX hb))<;>(conv=>whnf)))
 exact⟨_,bW.wkd (by repeat' (first|exact trivial|exact rfl|exact cN _|refine And.intro ?_ ?_)),rfl⟩
theorem fb8 (n k:Nat):IntKind.u8.wrap ((n:Int).fdiv ((k:Nat):Int))=(((UInt8.ofNat (n / k % 256)).toNat:Nat):Int):=by
 rw [gM]
 show ((n:Int).fdiv (k:Int)) % 256=_
 rw [Int.fdiv_eq_ediv_of_nonneg _ (Int.natCast_nonneg k),<-Int.natCast_ediv]
 omega
theorem aWw (n:Nat):beN 4 n=[UInt8.ofNat (n / 16777216 % 256),UInt8.ofNat (n / 65536 % 256),UInt8.ofNat (n / 256 % 256),UInt8.ofNat (n % 256)]:=by
 show [UInt8.ofNat (n / 256 / 256 / 256 % 256),UInt8.ofNat (n / 256 / 256 % 256),UInt8.ofNat (n / 256 % 256),UInt8.ofNat (n % 256)]=_
 rw [show n / 16777216=n / 256 / 256 / 256 by omega,show n / 65536=n / 256 / 256 by omega]
theorem aMb (n:Nat):[[D.int .u8 (IntKind.u8.wrap ((n:Int).fdiv (2 ^ min (Int.toNat 24) IntKind.i64.bits)))],[D.int .u8 (IntKind.u8.wrap ((n:Int).fdiv (2 ^ min (Int.toNat 16) IntKind.i64.bits)))],[D.int .u8 (IntKind.u8.wrap ((n:Int).fdiv (2 ^ min (Int.toNat 8) IntKind.i64.bits)))],[D.int .u8 (IntKind.u8.wrap (n:Int))]]=(beN 4 n).map aP:=by
 rw [aWw]
 have h1:=fb8 n 16777216
 have h2:=fb8 n 65536
 have h3:=fb8 n 256
 have h4:=fb8 n 1
 rw [Nat.div_one,show ((1:Nat):Int)=1 from rfl,Int.fdiv_one]at h4
 show [[D.int .u8 (IntKind.u8.wrap ((n:Int).fdiv ((16777216:Nat):Int)))],[D.int .u8 (IntKind.u8.wrap ((n:Int).fdiv ((65536:Nat):Int)))],[D.int .u8 (IntKind.u8.wrap ((n:Int).fdiv ((256:Nat):Int)))],[D.int .u8 (IntKind.u8.wrap (n:Int))]]=_
 rw [h1,h2,h3,h4]
 rfl
theorem aMc (n:Nat) (hn:n < 4294967296):aA3 Tryz.prog 51 [.d (.int .i64 n)] 5 (beN 4 n):=by
 refine sM ?_
 refine aM false [] hty Tryz.func51 rfl (kp [0,2]) 100 (by simp [Tryz.f51]) ?_
 ((conv=>whnf);repeat ((first|(intro hq;try simp only [lnS]at hq)|refine sI ?_|refine .intro _ (.intro rfl ?_));(conv=>whnf)))
 rw [<-aMb]
 exact .inl ⟨114,_,rfl,rfl,(aU 4 n).symm⟩
theorem aMi (n:Nat) (hn:n < 4294967296):aA3 Tryz.prog 52 [.d (.int .i64 n)] 5 (beN 8 n):=by
 have h1:=aMc 0 (by decide)
 have h2:=(aMc n hn).tri
 have e:(n:Int).fdiv (2 ^ min (Int.toNat 32) IntKind.i64.bits)=((0:Nat):Int):=by
  show (n:Int).fdiv ((4294967296:Nat):Int)=_
  rw [Int.fdiv_eq_ediv_of_nonneg _ (Int.natCast_nonneg _),<-Int.natCast_ediv]
  omega
 rw [<-e]at h1
 have hb:beN 8 n=beN 4 0++beN 4 n:=by
  rw [aWw n,aWw 0]
  show [UInt8.ofNat (n / 256 / 256 / 256 / 256 / 256 / 256 / 256 % 256),UInt8.ofNat (n / 256 / 256 / 256 / 256 / 256 / 256 % 256),UInt8.ofNat (n / 256 / 256 / 256 / 256 / 256 % 256),UInt8.ofNat (n / 256 / 256 / 256 / 256 % 256),UInt8.ofNat (n / 256 / 256 / 256 % 256),UInt8.ofNat (n / 256 / 256 % 256),UInt8.ofNat (n / 256 % 256),UInt8.ofNat (n % 256)]=_
  have z:n / 256 / 256 / 256 / 256=0:=by omega
  rw [z,show n / 16777216=n / 256 / 256 / 256 by omega,show n / 65536=n / 256 / 256 by omega]
  rfl
 rw [hb]
 refine sM ?_
 refine aM false [] hty Tryz.func52 rfl (kp [0,2]) 100 (by simp [Tryz.f52]) ?_
 ((conv=>whnf);repeat ((first|(intro hq;try simp only [lnS]at hq)|refine sI ?_|refine .intro _ (.intro rfl ?_));(conv=>whnf)))
 refine iQ h1 200 (bQ (by with_unfolding_all exact rfl)) ?_
 ((conv=>whnf);repeat ((first|(refine aA [] h2 trivial (λr hs=> ?_);subst hs)|(intro hq;try simp only [lnS]at hq)|refine sI ?_|refine .intro _ (.intro rfl ?_));(conv=>whnf)))
 exact .inl ⟨200,_,by rw [List.map_append];rfl,rfl,by rw [List.length_append,bX,bX]⟩
theorem kI (s:List UInt8) (hs:s.length<=9223372036854775807):Tri Tryz.prog 36 [.d (.str s)] [] (λr=>r= .d (.bool (rdF s))):=by
 have hc:=fU s
 have hrd:rdF s=(cT s && (!s.contains 58 && !decide (s.head?=some 95))):=rfl
 refine aF hty Tryz.func36 rfl (kp [0,2,3,7,13]) [] _ _ _ (by simp [Tryz.f36]) (by simp) ?_
 ((conv=>whnf);repeat ((first|(intro hq;try simp only [lnS]at hq)|refine sI ?_|refine .intro _ (.intro rfl ?_));(conv=>whnf)))
 refine aJ hty (λj:Nat=>([(0, .d (.str s)),(3, .d (.int .i64 j))],[])) (λj=>j<=s.length/\ ∀c∈s.take j,c≠58) (λj=>s.length - j) 0 ⟨Nat.zero_le _,λc hc=>by simp at hc⟩ ⟨by repeat' (first|exact trivial|exact rfl|refine And.intro ?_ ?_),trivial⟩ ?_
 rintro j ⟨hj,hn⟩
 ((conv=>whnf);repeat ((first|(intro hq;try simp only [lnS]at hq)|refine sI ?_|refine .intro _ (.intro rfl ?_));(conv=>whnf)))
 refine aC (λh1=> ?_) (λh1=> ?_)
 ·have hjl:j < s.length:=by omega
  have hts:s.take (j+1)=s.take j++[s[j]]:=List.take_succ_eq_append_getElem hjl
  ((conv=>whnf);repeat' ((first|(intro hq;(try simp only [lnS]at hq);(try rewrite [List.length_map]))|refine sJ ?_|refine .intro _ (.intro rfl ?_)|refine exL (k:= ?_)|refine dwR ?_|((first|refine aC ?_ ?_|refine aD ?_ ?_)<;>intro hb<;>(first|exact ddX hb|try simp only [lnS]at hb))|(refine aB ?_ ?_<;>intro hb<;>try exact dsX hb))<;>(conv=>whnf)))
  ·have h58:s[j]=58:=by
    refine UInt8.toNat.inj ?_
    have hb:((s[j].toNat:Nat):Int)=58:=hb
    show s[j].toNat=58
    omega
   refine aN ?_
   rw [hrd,List.contains_iff_mem.2 (show (58:UInt8)∈s from h58 ▸ List.getElem_mem hjl)]
   simp
  ·refine⟨j+1,⟨by omega,λc hc=> ?_⟩,by dsimp only;omega,by repeat' (first|exact trivial|exact rfl|refine And.intro ?_ ?_),trivial⟩
   rw [hts,List.mem_append,List.mem_singleton]at hc
   rcases hc with hc|rfl
   ·exact hn c hc
   ·intro e
    refine hb ?_
    show ((s[j].toNat:Nat):Int)=58
    rw [e];rfl
 ·have hjl:j=s.length:=by omega
  subst hjl
  rw [List.take_length]at hn
  have h58:s.contains 58=false:=by
   cases h:s.contains 58
   ·rfl
   ·exact absurd rfl (hn 58 (List.contains_iff_mem.1 h))
  rw [h58]at hrd
  have hne:0 < s.length->s≠[]:= λh e=>by rw [e]at h;simp at h
  cases s with
  |nil=>
   ((conv=>whnf);repeat' ((first|(intro hq;(try simp only [lnS]at hq);(try rewrite [List.length_map]))|refine sJ ?_|refine .intro _ (.intro rfl ?_)|refine exL (k:= ?_)|(refine aA [] hc trivial (λr hs=> ?_);subst hs)|refine dwR ?_|((first|refine aC ?_ ?_|refine aD ?_ ?_)<;>intro hb<;>(first|exact ddX hb|try simp only [lnS]at hb))|(refine aB ?_ ?_<;>intro hb<;>try exact dsX hb))<;>(conv=>whnf)))
   all_goals first|(exfalso;simp at *;done)|rfl
  |cons c r=>
   ((conv=>whnf);repeat' ((first|(intro hq;(try simp only [lnS]at hq);(try rewrite [List.length_map]))|refine sJ ?_|refine .intro _ (.intro rfl ?_)|refine exL (k:= ?_)|(refine aA [] hc trivial (λr hs=> ?_);subst hs)|refine dwR ?_|((first|refine aC ?_ ?_|refine aD ?_ ?_)<;>intro hb<;>(first|exact ddX hb|try simp only [lnS]at hb))|(refine aB ?_ ?_<;>intro hb<;>try exact dsX hb))<;>(conv=>whnf)))
   ·have hh:decide ((c::r).head?=some 95)=false:=by
     rw [decide_eq_false_iff_not]
     intro e
     injection e with e
     subst e
     exact hb rfl
    refine aN ?_
    rw [hrd,hh]
    cases cT (c::r)<;>rfl
   ·have hh:c=95:=by
     refine UInt8.toNat.inj ?_
     have hb:((c.toNat:Nat):Int)=95:=hb
     show c.toNat=95
     omega
    refine aN ?_
    rw [hrd,hh]
    simp
theorem aDs (s:bZ) (n no:Int) (p:List At):wEn (s,n,⟨no,p⟩)=beN 4 s.length++s++gK n++gK no++wQy ⟨[],[p]⟩:=by
 unfold wEn bR
 simp only [List.append_assoc]
theorem aEk (s:List UInt8) (n:Int) (x:Ent) (hs:s.length<=1000000000):Tri Tryz.prog 24 [.d (.str s), .d (.int .i64 n), .d (.agg (bA x))] [] (λr=>r= .tup [.d (.sl 1 ((jS (s,n,x)).1.map aP)), .d (.int .i64 (jS (s,n,x)).2)]):=by
 have h1:=kI s (by omega)
 have h2:=iY n
 have h3:=aGa x.no
 have h4:=iZ x.part
 have h5:=xG ⟨[],[x.part]⟩
 obtain⟨no,p⟩:=x
 have hw:jS (s,n,⟨no,p⟩)=if rdF s=false\/hX n=false\/hX no=false then ([],1)else if qE ⟨[],[p]⟩=0 then (beN 4 s.length++s++gK n++gK no++wQy ⟨[],[p]⟩,0)else ([],qE ⟨[],[p]⟩):=by
  have hv:(hX no=false)↔(no < 1\/1024 < no):=by
   unfold hX
   rw [decide_eq_false_iff_not]
   omega
  have he:enE (s,n,⟨no,p⟩)=if rdF s=false\/hX n=false\/hX no=false then 1 else qE ⟨[],[p]⟩:=by
   show (if rdF s=false\/hX n=false\/no < 1\/1024 < no then 1 else ptE p)=_
   by_cases h:rdF s=false\/hX n=false\/hX no=false
   ·rw [if_pos h,if_pos (h.imp id (Or.imp id hv.1))]
   ·rw [if_neg h,if_neg (λh2=>h (h2.imp id (Or.imp id hv.2)))];rfl
  unfold jS
  rw [he,aDs]
  by_cases h:rdF s=false\/hX n=false\/hX no=false
  ·rw [if_pos h,if_pos h,if_neg (by decide)]
  ·rw [if_neg h,if_neg h]
 rw [hw]
 dsimp only at h3 h4 h5
 rw [show bA ⟨no,p⟩=[.int .i64 no, .sl 6 (p.map atR)]from rfl]
 rw [show aK p=[.sl 6 (p.map atR)]from rfl]at h4
 refine Tri.says ?_
 refine aG false [5] hty Tryz.func24 rfl (kp [0,1,2,5,6,7,8,9,10,24,33]) [] _ _ _ (by simp [Tryz.f24]) (by simp) ?_
 generalize hb1:rdF s=b1 at *
 generalize hb2:hX n=b2 at *
 generalize hb3:hX no=b3 at *
 by_cases hb:b1=false\/b2=false\/b3=false
 ·rw [if_pos hb]
  cases b1<;>cases b2<;>cases b3
  all_goals
   ((conv=>whnf);repeat' ((first|(intro hq;(try simp only [lnS]at hq);(try rewrite [List.length_map]))|refine sJ ?_|refine .intro _ (.intro rfl ?_)|refine exL (k:= ?_)|(refine aA [] h1 trivial (λr hs=> ?_);subst hs)|(refine aA [] h2 trivial (λr hs=> ?_);subst hs)|(refine aA [] h3 trivial (λr hs=> ?_);subst hs)|refine dwR ?_|((first|refine aC ?_ ?_|refine aD ?_ ?_)<;>intro hb<;>(first|exact ddX hb|try simp only [lnS]at hb))|(refine aB ?_ ?_<;>intro hb<;>try exact dsX hb))<;>(conv=>whnf)))
  all_goals first|exact⟨_,bW.pair bW.nil,rfl⟩|(simp at hb;done)
 ·rw [if_neg hb]
  obtain rfl:b1=true:=by cases b1<;>simp_all
  obtain rfl:b2=true:=by cases b2<;>simp_all
  obtain rfl:b3=true:=by cases b3<;>simp_all
  by_cases hq:qE ⟨[],[p]⟩=0
  ·rw [if_pos hq]
   rw [show lA ⟨[],[p]⟩=(wQy ⟨[],[p]⟩,0)from if_pos hq]at h5
   have hlq:=wN hq
   obtain⟨k,rfl⟩: ∃k:Nat,n=k:=by
    unfold hX at hb2
    simp only [decide_eq_true_eq]at hb2
    exact⟨n.toNat,by omega⟩
   obtain⟨m,rfl⟩: ∃m:Nat,no=m:=by
    unfold hX at hb3
    simp only [decide_eq_true_eq]at hb3
    exact⟨no.toNat,by omega⟩
   have hk:k < 4294967296:=by unfold hX at hb2;simp only [decide_eq_true_eq]at hb2;omega
   have hm:m < 4294967296:=by unfold hX at hb3;simp only [decide_eq_true_eq]at hb3;omega
   have e1:=aMc s.length (by omega)
   have e2:=(aMi k hk).tri
   have e3:=(aMi m hm).tri
   ((conv=>whnf);repeat ((first|(refine aA [] h1 trivial (λr hs=> ?_);subst hs)|(refine aA [] h2 trivial (λr hs=> ?_);subst hs)|(refine aA [] h3 trivial (λr hs=> ?_);subst hs)|(refine aA [] h4 trivial (λr hs=> ?_);subst hs)|(refine aA [] h5 trivial (λr hs=> ?_);subst hs)|(intro hq;try simp only [lnS]at hq)|refine sI ?_|refine .intro _ (.intro rfl ?_));(conv=>whnf)))
   refine iQ e1 200 (bQ (by with_unfolding_all exact rfl)) ?_
   have i1:gK (k:Int)=beN 8 k:=by unfold gK;rw [show uN (k:Int)=k by unfold uN;omega]
   have i2:gK (m:Int)=beN 8 m:=by unfold gK;rw [show uN (m:Int)=m by unfold uN;omega]
   have a1:=aU 4 s.length
   have a2:=aU 8 k
   have a3:=aU 8 m
   ((conv=>whnf);repeat ((first|(refine aA [] e2 trivial (λr hs=> ?_);subst hs)|(refine aA [] e3 trivial (λr hs=> ?_);subst hs)|(refine And.intro (by simp only [List.length_append,bX];first|omega|rfl|(show (_:Nat)* 1<=_;omega)) ?_)|(intro hq;try simp only [lnS]at hq)|refine sI ?_|refine .intro _ (.intro rfl ?_));(conv=>whnf)))
   refine⟨_,bW.refl _, ?_⟩
   rw [i1,i2]
   simp only [List.map_append]
   rfl
  ·rw [if_neg hq]
   rw [show lA ⟨[],[p]⟩=([],qE ⟨[],[p]⟩)from if_neg hq]at h5
   generalize qE ⟨[],[p]⟩=e at *
   ((conv=>whnf);repeat ((first|(refine aA [] h1 trivial (λr hs=> ?_);subst hs)|(refine aA [] h2 trivial (λr hs=> ?_);subst hs)|(refine aA [] h3 trivial (λr hs=> ?_);subst hs)|(refine aA [] h4 trivial (λr hs=> ?_);subst hs)|(refine aA [] h5 trivial (λr hs=> ?_);subst hs)|(intro hq;try simp only [lnS]at hq)|refine sI ?_|refine .intro _ (.intro rfl ?_));(conv=>whnf)))
   rw [decide_eq_false hq]
   ((conv=>whnf);repeat ((first|(intro hq;try simp only [lnS]at hq)|refine sI ?_|refine .intro _ (.intro rfl ?_));(conv=>whnf)))
   exact⟨_,bW.pair bW.nil,rfl⟩
end Go.Proofs.YtdjfkmkdkclahaaGreatDoor
namespace Go.Proofs.YtdjfkmkdkclahaaGreatDoor
open Go.Proofs Go.RowKit
set_option maxRecDepth 10000
attribute [local irreducible] aL aH Tri aI YVC bP aS
theorem aEg (s:List UInt8) (n:Int):Tri Tryz.prog 13 [.d (.str s), .d (.int .i64 n)] [] (λr=>r= .tup [.d (.agg (lgR (aDj s n).1)), .d (.int .i64 (aDj s n).2)]):=by
 refine Tri.lenS 0 rfl λhs=> ?_
 have h1:=kI s hs
 have h2:=iY n
 unfold aDj
 generalize rdF s=b1 at *
 generalize hX n=b2 at *
 refine Tri.says ?_
 refine aG false [] hty Tryz.func13 rfl (kp [0,1,4,5,13]) [] _ _ _ (by simp [Tryz.f13]) (by simp) ?_
 cases b1<;>cases b2
 all_goals
  ((conv=>whnf);repeat' ((first|(intro hq;(try simp only [lnS]at hq);(try rewrite [List.length_map]))|refine sJ ?_|refine .intro _ (.intro rfl ?_)|refine exL (k:= ?_)|(refine aA [] h1 trivial (λr hs=> ?_);subst hs)|(refine aA [] h2 trivial (λr hs=> ?_);subst hs)|refine dwR ?_|((first|refine aC ?_ ?_|refine aD ?_ ?_)<;>intro hb<;>(first|exact ddX hb|try simp only [lnS]at hb))|(refine aB ?_ ?_<;>intro hb<;>try exact dsX hb))<;>(conv=>whnf)))
 all_goals exact⟨_,bW.pair (bW.wkd (by repeat' (first|exact trivial|exact rfl|refine And.intro ?_ ?_))),rfl⟩
theorem aJa (l:Lg):Tri Tryz.prog 18 [.d (.agg (lgR l))] [] (λr=>r= .d (.int .i64 (aLv l))):=by
 have hl:(l.entries.map bA).length=l.entries.length:=List.length_map ..
 show Tri Tryz.prog 18 [.d (.agg [.str l.reader, .int .i64 l.version, .sl 2 (l.entries.map bA)])] [] _
 refine aG false [1] hty Tryz.func18 rfl (kp [0,1,2]) [] _ _ _ (by simp [Tryz.f18]) (by simp) ?_
 ((conv=>whnf);repeat ((first|(refine aLp rfl rfl rfl ?_)|(intro hq;try simp only [lnS]at hq)|refine sI ?_|refine .intro _ (.intro rfl ?_));(conv=>whnf)))
 refine gB ?_
 unfold aLv
 split<;>omega
theorem xI (l:Lg) (p:List At):Tri Tryz.prog 45 [.d (.agg (lgR l)), .d (.agg (aK p))] [] (λr=>r= .d (.int .i64 (aGs l.entries p))):=by
 have hl:(l.entries.map bA).length=l.entries.length:=List.length_map ..
 rw [show lgR l=[.str l.reader, .int .i64 l.version, .sl 2 (l.entries.map bA)]from rfl]
 rw [show aK p=[.sl 6 (p.map atR)]from rfl]
 refine aG false [2,3] hty Tryz.func45 rfl (kp [0,1,2,3,4,5,10,20]) [] _ _ _ (by simp [Tryz.f45]) (by simp) ?_
 ((conv=>whnf);repeat ((first|(intro hq;try simp only [lnS]at hq)|refine sI ?_|refine .intro _ (.intro rfl ?_));(conv=>whnf)))
 refine aJ hty (λj:Nat=>([(2, .ea 3 [[.str l.reader, .int .i64 l.version, .sl 2 (l.entries.map bA)]] 0 0),(3, .ea 1 [[.sl 6 (p.map atR)]] 0 0),(5, .d (.int .i64 j))],[])) (λj=>j<=l.entries.length/\ ∀x∈l.entries.take j,x.part≠p) (λj=>l.entries.length - j) 0 ⟨Nat.zero_le _,λx hx=>by simp at hx⟩ ⟨by repeat' (first|exact trivial|exact rfl|refine And.intro ?_ ?_),by repeat' (first|exact trivial|exact rfl|refine And.intro ?_ ?_)⟩ ?_
 rintro j ⟨hj,hn⟩
 ((conv=>whnf);repeat ((first|(intro hq;try simp only [lnS]at hq)|refine sI ?_|refine .intro _ (.intro rfl ?_));(conv=>whnf)))
 rw [hl]
 refine aC (λh1=> ?_) (λh1=> ?_)
 ·have hjl:j < l.entries.length:=by omega
  have hrow:(l.entries.map bA)[((j:Nat):Int).toNat]? =some (bA l.entries[j]):=aO hjl
  have hc:=dC l.entries[j].part p
  have hx:= @aGr l.entries p j hjl hn
  have hs: ∀x∈l.entries.take (j+1),x∈l.entries.take j\/x=l.entries[j]:= λx hx=>by
   rw [List.take_succ_eq_append_getElem hjl,List.mem_append,List.mem_singleton]at hx
   exact hx
  rw [show bA l.entries[j]=[.int .i64 l.entries[j].no, .sl 6 (l.entries[j].part.map atR)]from rfl]at hrow
  rw [show aK p=[.sl 6 (p.map atR)]from rfl,show aK l.entries[j].part=[.sl 6 (l.entries[j].part.map atR)]from rfl]at hc
  ((conv=>whnf);repeat ((first|(intro hq;try simp only [lnS]at hq)|refine sI ?_|refine .intro _ (.intro rfl ?_));(conv=>whnf)))
  refine dwR ?_
  ((conv=>whnf);repeat ((first|(refine⟨_,hrow, ?_⟩)|(refine⟨.d (.bool _),_,[],rfl,trivial,hc, ?_⟩)|(intro hq;try simp only [lnS]at hq)|refine sI ?_|refine .intro _ (.intro rfl ?_));(conv=>whnf)))
  by_cases he:l.entries[j].part=p
  ·rw [decide_eq_true he]
   ((conv=>whnf);repeat ((first|(intro hq;try simp only [lnS]at hq)|refine sI ?_|refine .intro _ (.intro rfl ?_));(conv=>whnf)))
   exact gB (hx he).symm
  ·rw [decide_eq_false he]
   ((conv=>whnf);repeat ((first|(intro hq;try simp only [lnS]at hq)|refine sI ?_|refine .intro _ (.intro rfl ?_));(conv=>whnf)))
   refine⟨j+1,⟨by omega,λx hx=> ?_⟩,by dsimp only;omega,by repeat' (first|exact trivial|exact rfl|refine And.intro ?_ ?_),trivial⟩
   rcases hs x hx with h|rfl
   ·exact hn x h
   ·exact he
 ·have hjl:j=l.entries.length:=by omega
  subst hjl
  rw [List.take_length]at hn
  ((conv=>whnf);repeat ((first|(intro hq;try simp only [lnS]at hq)|refine sI ?_|refine .intro _ (.intro rfl ?_));(conv=>whnf)))
  exact gB (aFa hn).symm
end Go.Proofs.YtdjfkmkdkclahaaGreatDoor
namespace Go.Proofs.YtdjfkmkdkclahaaGreatDoor
open Go.Proofs Go.RowKit
set_option maxRecDepth 10000
attribute [local irreducible] aL aH Tri aI YVC bP aS
theorem mZ (p:List At):Tri Tryz.prog 44 [.d (.agg (aK p))] [] (λr=>r= .tup [.d (.agg (aK (if ptE p=0 then dP p else []))), .d (.bool (decide (ptE p=0)))]):=by
 have h1:=iZ p
 have h2:=aAd p
 have h3:=iT ⟨[],[p]⟩
 rw [show qE ⟨[],[p]⟩=ptE p from rfl]at h3
 refine Tri.says ?_
 refine aG false [1,4] hty Tryz.func44 rfl (kp [0,1,2,3,4,5,25]) [] _ _ _ (by simp [Tryz.f44]) (by simp) ?_
 by_cases h:ptE p=0
 ·rw [if_pos h,h]at h2
  rw [h]at h3
  rw [if_pos h,h]
  ((conv=>whnf);repeat ((first|(refine aA [] h1 trivial (λr hs=> ?_);subst hs)|(refine aA [] h2 trivial (λr hs=> ?_);subst hs)|(refine aA [] h3 trivial (λr hs=> ?_);subst hs)|(intro hq;try simp only [lnS]at hq)|refine sI ?_|refine .intro _ (.intro rfl ?_));(conv=>whnf)))
  exact⟨_, .refl _,rfl⟩
 ·rw [if_neg h]at h2
  rw [if_neg h,decide_eq_false h]
  ((conv=>whnf);repeat ((first|(refine aA [] h1 trivial (λr hs=> ?_);subst hs)|(refine aA [] h2 trivial (λr hs=> ?_);subst hs)|(refine aA [] h3 trivial (λr hs=> ?_);subst hs)|(intro hq;try simp only [lnS]at hq)|refine sI ?_|refine .intro _ (.intro rfl ?_));(conv=>whnf)))
  rw [decide_eq_false h]
  ((conv=>whnf);repeat ((first|(intro hq;try simp only [lnS]at hq)|refine sI ?_|refine .intro _ (.intro rfl ?_));(conv=>whnf)))
  exact⟨_,bW.pair (bW.wkd (by repeat' (first|exact trivial|exact rfl|exact cN _|refine And.intro ?_ ?_))),rfl⟩
theorem pZ (l:Lg):Tri Tryz.prog 16 [.d (.agg (lgR l))] [] (λr=>r= .d (.int .i64 (lgE l))):=by
 have hl:(l.entries.map bA).length=l.entries.length:=List.length_map ..
 have h1:=Tri.lenS 0 rfl (λhs=>kI l.reader hs)
 have h2:=iY l.version
 show Tri Tryz.prog 16 [.d (.agg [.str l.reader, .int .i64 l.version, .sl 2 (l.entries.map bA)])] [] _
 refine aG false [1,4,6] hty Tryz.func16 rfl (kp [0,1,2,3,4,5,6,7,8,18,22,27,39,45,61,64,75]) [] _ _ _ (by simp [Tryz.f16]) (by simp) ?_
 generalize hb1:rdF l.reader=b1 at *
 generalize hb2:hX l.version=b2 at *
 have hE:lgE l=if b1=false\/b2=false then 1 else if 1024 < l.entries.length then 2 else zP [] l.entries:=by
  unfold lgE
  rw [hb1,hb2]
 rw [hE]
 by_cases hb:b1=false\/b2=false
 ·rw [if_pos hb]
  cases b1<;>cases b2
  all_goals
   ((conv=>whnf);repeat' ((first|(intro hq;(try simp only [lnS]at hq);(try rewrite [List.length_map]))|refine sJ ?_|refine .intro _ (.intro rfl ?_)|refine exL (k:= ?_)|(refine aA [] h1 trivial (λr hs=> ?_);subst hs)|(refine aA [] h2 trivial (λr hs=> ?_);subst hs)|refine dwR ?_|((first|refine aC ?_ ?_|refine aD ?_ ?_)<;>intro hb<;>(first|exact ddX hb|try simp only [lnS]at hb))|(refine aB ?_ ?_<;>intro hb<;>try exact dsX hb))<;>(conv=>whnf)))
  all_goals first|rfl|(simp at hb;done)
 ·rw [if_neg hb]
  obtain rfl:b1=true:=by cases b1<;>simp_all
  obtain rfl:b2=true:=by cases b2<;>simp_all
  ((conv=>whnf);repeat ((first|(refine aA [] h1 trivial (λr hs=> ?_);subst hs)|(refine aA [] h2 trivial (λr hs=> ?_);subst hs)|(intro hq;try simp only [lnS]at hq)|refine sI ?_|refine .intro _ (.intro rfl ?_));(conv=>whnf)))
  rw [hl]
  refine aC (λh3=> ?_) (λh3=> ?_)
  ·rw [if_pos (by omega)]
   ((conv=>whnf);repeat ((first|(intro hq;try simp only [lnS]at hq)|refine sI ?_|refine .intro _ (.intro rfl ?_));(conv=>whnf)))
   rfl
  rw [if_neg (by omega)]
  ((conv=>whnf);repeat ((first|(intro hq;try simp only [lnS]at hq)|refine sI ?_|refine .intro _ (.intro rfl ?_));(conv=>whnf)))
  refine aJ hty (λj:Nat=>([(1, .ea 3 [[.str l.reader, .int .i64 l.version, .sl 2 (l.entries.map bA)]] 0 0),(3, .d (.int .i64 j))],[])) (λj=>j<=l.entries.length/\zP [] l.entries=zP (l.entries.take j) (l.entries.drop j)) (λj=>l.entries.length - j) 0 ⟨Nat.zero_le _,rfl⟩ ⟨by repeat' (first|exact trivial|exact rfl|refine And.intro ?_ ?_),by repeat' (first|exact trivial|exact rfl|refine And.intro ?_ ?_)⟩ ?_
  rintro j ⟨hj,hn⟩
  ((conv=>whnf);repeat ((first|(intro hq;try simp only [lnS]at hq)|refine sI ?_|refine .intro _ (.intro rfl ?_));(conv=>whnf)))
  rw [hl]
  refine aC (λh4=> ?_) (λh4=> ?_)
  ·have hjl:j < l.entries.length:=by omega
   have hrow:(l.entries.map bA)[((j:Nat):Int).toNat]? =some (bA l.entries[j]):=aO hjl
   have htl:(l.entries.take j).length=j:=by rw [List.length_take];omega
   have hts:l.entries.take (j+1)=l.entries.take j++[l.entries[j]]:=List.take_succ_eq_append_getElem hjl
   rw [List.drop_eq_getElem_cons hjl,zP,htl,<-hts]at hn
   have c0:=iZ l.entries[j].part
   have c1:=iT ⟨[],[l.entries[j].part]⟩
   have c2:=mZ l.entries[j].part
   have c3:=dC (dP l.entries[j].part) l.entries[j].part
   rw [show qE ⟨[],[l.entries[j].part]⟩=ptE l.entries[j].part from rfl]at c1
   have hee:aTk (l.entries.take j) j l.entries[j]=if l.entries[j].no≠(j:Int)+1 then 380 else if ptE l.entries[j].part≠0 then ptE l.entries[j].part else if dP l.entries[j].part=l.entries[j].part/\l.entries[j].part∉(l.entries.take j).map Ent.part then 0 else 380:=rfl
   generalize aTk (l.entries.take j) j l.entries[j]=ee at *
   rw [hn]
   generalize l.entries[j]=x at *
   obtain⟨no,q⟩:=x
   rw [show bA ⟨no,q⟩=[.int .i64 no, .sl 6 (q.map atR)]from rfl]at hrow
   dsimp only at c0 c1 c2 c3 hee
   ((conv=>whnf);repeat ((first|(refine⟨_,hrow, ?_⟩)|(intro hq;try simp only [lnS]at hq)|refine sI ?_|refine .intro _ (.intro rfl ?_));(conv=>whnf)))
   refine aD (λh5=> ?_) (λh5=> ?_)
   ·rw [if_pos h5]at hee
    subst hee
    rw [if_pos (by decide)]
    ((conv=>whnf);repeat ((first|(intro hq;try simp only [lnS]at hq)|refine sI ?_|refine .intro _ (.intro rfl ?_));(conv=>whnf)))
    rfl
   have h5:no=(j:Int)+1:=by simpa using h5
   rw [if_neg (by simpa using h5)]at hee
   rw [show aK q=[.sl 6 (q.map atR)]from rfl]at c0 c2 c3
   generalize ptE q=e at *
   by_cases h6:e=0
   ·subst h6
    rw [if_pos rfl,decide_eq_true rfl]at c2
    rw [if_neg (by decide)]at hee
    rw [show aK (dP q)=[.sl 6 ((dP q).map atR)]from rfl]at c2 c3
    ((conv=>whnf);repeat ((first|(refine aA [] c0 trivial (λr hs=> ?_);subst hs)|(refine aA [] c1 trivial (λr hs=> ?_);subst hs)|(refine aA [] c2 trivial (λr hs=> ?_);subst hs)|(refine aA [] c3 trivial (λr hs=> ?_);subst hs)|(intro hq;try simp only [lnS]at hq)|refine sI ?_|refine .intro _ (.intro rfl ?_));(conv=>whnf)))
    by_cases h7:dP q=q
    ·rw [decide_eq_true h7]
     ((conv=>whnf);repeat ((first|(intro hq;try simp only [lnS]at hq)|refine sI ?_|refine .intro _ (.intro rfl ?_));(conv=>whnf)))
     refine aJ hty (λk:Nat=>([(1, .ea 3 [[.str l.reader, .int .i64 l.version, .sl 2 (l.entries.map bA)]] 0 0),(3, .d (.int .i64 j)),(4, .ea 2 [[.int .i64 no, .sl 6 (q.map atR)]] 0 0),(8, .d (.int .i64 k))],[])) (λk=>k<=j/\ ∀x∈l.entries.take k,x.part≠q) (λk=>j - k) 0 ⟨Nat.zero_le _,λx hx=>by simp at hx⟩ ⟨by repeat' (first|exact trivial|exact rfl|refine And.intro ?_ ?_),by repeat' (first|exact trivial|exact rfl|refine And.intro ?_ ?_)⟩ ?_
     rintro k ⟨hk,hkn⟩
     ((conv=>whnf);repeat ((first|(intro hq;try simp only [lnS]at hq)|refine sI ?_|refine .intro _ (.intro rfl ?_));(conv=>whnf)))
     refine aC (λh8=> ?_) (λh8=> ?_)
     ·have hkl:k < l.entries.length:=by omega
      have hkj:k < j:=by omega
      have hrow2:(l.entries.map bA)[((k:Nat):Int).toNat]? =some (bA l.entries[k]):=aO hkl
      have c4:=dC l.entries[k].part q
      rw [show bA l.entries[k]=[.int .i64 l.entries[k].no, .sl 6 (l.entries[k].part.map atR)]from rfl]at hrow2
      rw [show aK q=[.sl 6 (q.map atR)]from rfl,show aK l.entries[k].part=[.sl 6 (l.entries[k].part.map atR)]from rfl]at c4
      ((conv=>whnf);repeat ((first|(intro hq;try simp only [lnS]at hq)|refine sI ?_|refine .intro _ (.intro rfl ?_));(conv=>whnf)))
      refine dwR ?_
      ((conv=>whnf);repeat ((first|(refine⟨_,hrow2, ?_⟩)|(refine⟨.d (.bool _),_,[],rfl,trivial,c4, ?_⟩)|(intro hq;try simp only [lnS]at hq)|refine sI ?_|refine .intro _ (.intro rfl ?_));(conv=>whnf)))
      by_cases he:l.entries[k].part=q
      ·rw [decide_eq_true he]
       rw [if_neg (λh=>h.2 (List.mem_map.2 ⟨_,List.mem_take_iff_getElem.2 ⟨k,by omega,rfl⟩,he⟩))]at hee
       subst hee
       rw [if_pos (by decide)]
       ((conv=>whnf);repeat ((first|(intro hq;try simp only [lnS]at hq)|refine sI ?_|refine .intro _ (.intro rfl ?_));(conv=>whnf)))
       rfl
      ·rw [decide_eq_false he]
       ((conv=>whnf);repeat ((first|(intro hq;try simp only [lnS]at hq)|refine sI ?_|refine .intro _ (.intro rfl ?_));(conv=>whnf)))
       refine⟨k+1,⟨by omega,λx hx=> ?_⟩,by dsimp only;omega,by repeat' (first|exact trivial|exact rfl|refine And.intro ?_ ?_),trivial⟩
       rw [List.take_succ_eq_append_getElem hkl,List.mem_append,List.mem_singleton]at hx
       rcases hx with hx|rfl
       ·exact hkn x hx
       ·exact he
     ·have hkj:k=j:=by omega
      subst hkj
      rw [if_pos ⟨h7,λh=>by obtain⟨x,hx,e⟩:=List.mem_map.1 h;exact hkn x hx e⟩]at hee
      subst hee
      rw [if_neg (by decide)]at hn |-
      ((conv=>whnf);repeat ((first|(intro hq;try simp only [lnS]at hq)|refine sI ?_|refine .intro _ (.intro rfl ?_));(conv=>whnf)))
      exact⟨k+1,⟨by omega,rfl⟩,by dsimp only;omega,by repeat' (first|exact trivial|exact rfl|refine And.intro ?_ ?_),trivial⟩
    ·rw [decide_eq_false h7]
     rw [if_neg (λh=>h7 h.1)]at hee
     subst hee
     rw [if_pos (by decide)]
     ((conv=>whnf);repeat ((first|(intro hq;try simp only [lnS]at hq)|refine sI ?_|refine .intro _ (.intro rfl ?_));(conv=>whnf)))
     rfl
   ·rw [if_pos h6]at hee
    subst hee
    rw [if_pos h6]
    ((conv=>whnf);repeat ((first|(refine aA [] c0 trivial (λr hs=> ?_);subst hs)|(refine aA [] c1 trivial (λr hs=> ?_);subst hs)|(intro hq;try simp only [lnS]at hq)|refine sI ?_|refine .intro _ (.intro rfl ?_));(conv=>whnf)))
    rw [decide_eq_false h6]
    ((conv=>whnf);repeat ((first|(intro hq;try simp only [lnS]at hq)|refine sI ?_|refine .intro _ (.intro rfl ?_));(conv=>whnf)))
    rfl
  ·have hjl:j=l.entries.length:=by omega
   subst hjl
   rw [List.drop_length]at hn
   rw [hn]
   ((conv=>whnf);repeat ((first|(intro hq;try simp only [lnS]at hq)|refine sI ?_|refine .intro _ (.intro rfl ?_));(conv=>whnf)))
   rfl
end Go.Proofs.YtdjfkmkdkclahaaGreatDoor
