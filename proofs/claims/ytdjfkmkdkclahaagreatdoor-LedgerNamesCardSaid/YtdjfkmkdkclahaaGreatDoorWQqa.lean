/-
  Queries: variables, individuals, terms; the error of an atom.
  Conditions: none.
-/
import Derived.Test.YtdjfkmkdkclahaaGreatDoorWOh
set_option linter.unnecessarySimpa false
set_option linter.unusedSectionVars false
set_option linter.unusedSimpArgs false
set_option linter.unusedVariables false
set_option maxHeartbeats 16000000
namespace Go.Proofs.YtdjfkmkdkclahaaGreatDoor
open Go.Proofs Go.RowKit
set_option maxRecDepth 10000
attribute [local irreducible] aH aF Tri aD YVC bO aP
theorem mX (c:UInt8):Tri Tryz.prog 139 [aDn c] [] (λr=>r= .d (.bool (kJ c))):=by
 refine qG [] hty Tryz.func139 [0,2] ?_
 ((conv=>whnf);repeat' ((first|(intro hq;(try simp only [lnS]at hq);(try rewrite [List.length_map]))|refine sJ ?_|refine qE_ ?_|refine exL (k:=?_)|refine dwR ?_|((first|refine aB ?_ ?_|refine aC ?_ ?_)<;>intro hb<;>(first|exact ddX hb|try simp only [lnS]at hb))|(refine aA ?_ ?_<;>intro hb<;>try exact dsX hb))<;>(conv=>whnf)))
 all_goals (refine aJ (Bool.eq_iff_iff.2 ?_);simp only [kJ,Bool.or_eq_true,decide_eq_true_eq,true_iff,false_iff,Bool.false_eq_true];omega)
theorem aE3 {s:List UInt8}(h:2<=s.length):lU s=(decide (s.length<=17) && (decide ((s[0].toNat:Int)=63) && kJ s[1] && (s.drop 2).all bX)):=by
 match s,h with
 |a::b::r,_=>
  have e:decide (a=63)=decide ((a.toNat:Int)=63):=by
   rw [decide_eq_decide]
   have h9:(63:UInt8).toNat=63:=by decide
   constructor
   ·intro e;rw [e];rfl
   ·intro e;exact UInt8.toNat_inj.1 (by omega)
  simp [lU,e]
theorem hZ {s:List UInt8}{k:Nat}(h2:2<=k) (h:k < s.length) (hp:bX s[k]=false):(s.drop 2).all bX=false:=by
 refine lT (k:=k - 2) (by rw [List.length_drop];omega) ?_
 rw [List.getElem_drop]
 simpa [show 2+(k - 2)=k by omega]using hp
theorem fD {s:List UInt8}{k:Nat}(h2:2<=k) (h:k < s.length) (hk:((s.drop 2).take (k - 2)).all bX=true) (hp:bX s[k]=true):((s.drop 2).take (k+1 - 2)).all bX=true:=by
 rw [show k+1 - 2=k - 2+1 by omega]
 refine jT (by rw [List.length_drop];omega) hk ?_
 rw [List.getElem_drop]
 simpa [show 2+(k - 2)=k by omega]using hp
theorem aEj {c:UInt8}(h:(!kJ c)=true) (h1:¬ (c.toNat:Int)=95) (h2:(c.toNat:Int) < 48\/57 < (c.toNat:Int)):bX c=false:=by
 rw [Bool.not_eq_true']at h
 simp only [bX,h,Bool.false_or,Bool.or_eq_false_iff,decide_eq_false_iff_not];omega
theorem aKt {c:UInt8}(h:(c.toNat:Int)=95):bX c=true:=by
 simp only [bX,Bool.or_eq_true,decide_eq_true_eq];left;right;omega
theorem aHw {c:UInt8}(h:48<=(c.toNat:Int)) (h2:(c.toNat:Int)<=57):bX c=true:=by
 simp only [bX,Bool.or_eq_true,decide_eq_true_eq];right;omega
theorem aHv {c:UInt8}(h:(!kJ c)=false):bX c=true:=by
 rw [Bool.not_eq_false']at h
 simp only [bX,h,Bool.true_or]
theorem jA (s:List UInt8):Tri Tryz.prog 98 [.d (.str s)] [] (λr=>r= .d (.bool (lU s))):=by
 by_cases h2:¬ 2<=s.length
 ·have e:lU s=false:=by unfold lU;rw [decide_eq_false h2,Bool.false_and]
  rw [e]
  refine qG [] hty Tryz.func98 [0,2,3,4,23,27,47] ?_
  ((conv=>whnf);repeat' ((first|(intro hq;(try simp only [lnS]at hq);(try rewrite [List.length_map]))|refine sJ ?_|refine qE_ ?_|refine exL (k:=?_)|refine dwR ?_|((first|refine aB ?_ ?_|refine aC ?_ ?_)<;>intro hb<;>(first|exact ddX hb|try simp only [lnS]at hb))|(refine aA ?_ ?_<;>intro hb<;>try exact dsX hb))<;>(conv=>whnf)))
  all_goals first|rfl|(exfalso;omega)
 have h2:2<=s.length:=by omega
 have e:=aE3 h2
 refine qG [] hty Tryz.func98 [0,2,3,4,23,27,47] ?_
 ((conv=>whnf);repeat' ((first|(intro hq;(try simp only [lnS]at hq);(try rewrite [List.length_map]))|refine sJ ?_|refine qE_ ?_|refine exL (k:=?_)| (refine⟨_,kT (by first|omega|(simp only [List.length_map];omega)), ?_⟩)|refine qT (mX _) ?_|refine dwR ?_|((first|refine aB ?_ ?_|refine aC ?_ ?_)<;>intro hb<;>(first|exact ddX hb|try simp only [lnS]at hb))|(refine aA ?_ ?_<;>intro hb<;>try exact dsX hb))<;>(conv=>whnf)))
 ·refine aJ (Eq.symm ?_);rw [e,decide_eq_false (by omega),Bool.false_and]
 ·rename_i hb
  refine aJ (Eq.symm ?_);rw [e,decide_eq_false (p:=((s[0].toNat:Int)=63)) hb];simp
 ·rename_i hb
  have hb':kJ s[1]=false:=by simpa using hb
  refine aJ (Eq.symm ?_);rw [e,hb'];simp
 rename_i h17 h63
 have hl':kJ s[1]=true:=by simpa using hb
 have h63':((s[0].toNat:Int)=63):=h63
 have e':lU s=(s.drop 2).all bX:=by rw [e,decide_eq_true (p:=s.length<=17) (by omega),decide_eq_true h63',hl'];simp
 rw [e']
 refine aG hty (λk:Nat=>([(0, .d (.str s)),(3, .d (.int .i64 k))],[])) (λk=>(2<=k/\k<=s.length)/\((s.drop 2).take (k - 2)).all bX=true) (λk=>s.length - k) 2 (by simp;omega) ⟨qB,trivial⟩ ?_
 rintro k ⟨⟨hk0,hk⟩,hk2⟩
 ((conv=>whnf);repeat' ((first|(intro hq;(try simp only [lnS]at hq);(try rewrite [List.length_map]))|refine sJ ?_|refine qE_ ?_|refine exL (k:=?_)| (refine⟨_,kT (by first|omega|(simp only [List.length_map];omega)), ?_⟩)|refine qT (mX _) ?_|refine dwR ?_|((first|refine aB ?_ ?_|refine aC ?_ ?_)<;>intro hb<;>(first|exact ddX hb|try simp only [lnS]at hb))|(refine aA ?_ ?_<;>intro hb<;>try exact dsX hb))<;>(conv=>whnf)))
 ·rename_i h1 h2 h3
  have hkl:k < s.length:=by omega
  refine aJ (Eq.symm (hZ (k:=k) hk0 hkl (aEj (c:=s[(k:Int).toNat]) h2 hb (by omega))))
 ·rename_i h1 h2 h3 h4
  have hkl:k < s.length:=by omega
  refine aJ (Eq.symm (hZ (k:=k) hk0 hkl (aEj (c:=s[(k:Int).toNat]) h2 hb (by omega))))
 ·have hkl:k < s.length:=by omega
  exact⟨k+1,⟨⟨by omega,by omega⟩,fD hk0 hkl hk2 (aKt hb)⟩,qO,qB,trivial⟩
 ·have hkl:k < s.length:=by omega
  exact⟨k+1,⟨⟨by omega,by omega⟩,fD hk0 hkl hk2 (aHw (c:=s[(k:Int).toNat]) (by omega) (by omega))⟩,qO,qB,trivial⟩
 ·have hkl:k < s.length:=by omega
  exact⟨k+1,⟨⟨by omega,by omega⟩,fD hk0 hkl hk2 (aHv hb)⟩,qO,qB,trivial⟩
 ·rw [List.take_of_length_le (by rw [List.length_drop];omega)]at hk2
  rw [hk2];rfl
theorem aOq (c:UInt8) (s:List UInt8):([c]:List UInt8).isPrefixOf s=decide (s.head?=some c):=by
 cases s with
 |nil=>rfl
 |cons a r=>
  show (c==a && true)=_
  rw [Bool.and_true,Bool.eq_iff_iff,beq_iff_eq,decide_eq_true_eq,List.head?_cons,Option.some.injEq]
  exact eq_comm
theorem cR (s:List UInt8):Tri Tryz.prog 95 [.d (.str s)] [] (λr=>r= .d (.bool (wK s))):=by
 refine qG [] hty Tryz.func95 [0,2] ?_
 ((conv=>whnf);repeat' ((first|(intro hq;(try simp only [lnS]at hq);(try rewrite [List.length_map]))|refine sJ ?_|refine qE_ ?_|refine exL (k:=?_)| refine qT (gE _) ?_|refine qT (gD _ _) ?_|refine dwR ?_|((first|refine aB ?_ ?_|refine aC ?_ ?_)<;>intro hb<;>(first|exact ddX hb|try simp only [lnS]at hb))|(refine aA ?_ ?_<;>intro hb<;>try exact dsX hb))<;>(conv=>whnf)))
 ·have hn:cQ s=true:=by
   cases h:cQ s
   ·rw [h]at hb;exact absurd hb (by decide)
   ·rfl
  refine aJ ?_
  rw [wK,hn,Bool.true_and]
  exact congrArg _ (aOq 95 s)
 ·have hn:cQ s=false:=by
   cases h:cQ s
   ·rfl
   ·rw [h]at hb;exact absurd rfl hb
  refine aJ ?_
  rw [wK,hn];rfl
theorem aFn (s:List UInt8):aS s=([63]:List UInt8).isPrefixOf s:=(aOq 63 s).symm
theorem dT (s:List UInt8):Tri Tryz.prog 66 [.d (.str s)] [] (λr=>r= .d (.bool (aS s))):=by
 rw [aFn]
 refine qG [] hty Tryz.func66 [0,2] ?_
 ((conv=>whnf);repeat' ((first|(intro hq;(try simp only [lnS]at hq);(try rewrite [List.length_map]))|refine sJ ?_|refine qE_ ?_|refine exL (k:=?_)| refine qT (gD _ _) ?_|refine dwR ?_|((first|refine aB ?_ ?_|refine aC ?_ ?_)<;>intro hb<;>(first|exact ddX hb|try simp only [lnS]at hb))|(refine aA ?_ ?_<;>intro hb<;>try exact dsX hb))<;>(conv=>whnf)))
 rfl
theorem eD (s:List UInt8):Tri Tryz.prog 97 [.d (.str s)] [] (λr=>r= .d (.bool (dJ s))):=by
 refine qG [] hty Tryz.func97 [0,2] ?_
 ((conv=>whnf);repeat' ((first|(intro hq;(try simp only [lnS]at hq);(try rewrite [List.length_map]))|refine sJ ?_|refine qE_ ?_|refine exL (k:=?_)| refine qT (jA _) ?_|refine qT (cR _) ?_|refine dwR ?_|((first|refine aB ?_ ?_|refine aC ?_ ?_)<;>intro hb<;>(first|exact ddX hb|try simp only [lnS]at hb))|(refine aA ?_ ?_<;>intro hb<;>try exact dsX hb))<;>(conv=>whnf)))
 ·refine aJ ?_
  rw [dJ,hb];rfl
 ·refine aJ ?_
  rw [dJ,hb];rfl
theorem kI:Tri Tryz.prog 94 [] [] (λr=>r= .d (.agg [.bool false, .bool false, .bool false, .bool false, .bool true, .bool false, .bool false, .bool true])):=by
 refine qG [] hty Tryz.func94 [0] ?_
 ((conv=>whnf);repeat' ((first|(intro hq;(try simp only [lnS]at hq);(try rewrite [List.length_map]))|refine sJ ?_|refine qE_ ?_|refine exL (k:=?_)|refine dwR ?_|((first|refine aB ?_ ?_|refine aC ?_ ?_)<;>intro hb<;>(first|exact ddX hb|try simp only [lnS]at hb))|(refine aA ?_ ?_<;>intro hb<;>try exact dsX hb))<;>(conv=>whnf)))
 rfl
theorem iO (a:At):Tri Tryz.prog 96 [.d (.agg (atR a))] [] (λr=>r= .d (.sl 1 ((if a.kind=2 then [a.x,a.y]else [a.x]).map aT))):=by
 refine qG [1] hty Tryz.func96 [0,1,2,5] ?_
 ((conv=>whnf);repeat' ((first|(intro hq;(try simp only [lnS]at hq);(try rewrite [List.length_map]))|refine sJ ?_|refine qE_ ?_|refine exL (k:=?_)|refine dwR ?_|((first|refine aB ?_ ?_|refine aC ?_ ?_)<;>intro hb<;>(first|exact ddX hb|try simp only [lnS]at hb))|(refine aA ?_ ?_<;>intro hb<;>try exact dsX hb))<;>(conv=>whnf)))
 ·rw [if_pos hb];rfl
 ·rw [if_neg hb];rfl
theorem aNv {a:At}(h:a.kind < 1\/3 < a.kind):atE a=210:=by unfold atE;rw [if_pos h]
def aOy (k:Int):List SV:=[.d (.bool (decide (k=2))), .d (.bool (decide (k=3)))]
theorem aAv (nm xx yy:List UInt8) (lo hi:Int):Tri Tryz.prog 61 [.d (.agg [.int .i64 1, .str nm, .str xx, .str yy, .int .i64 lo, .int .i64 hi])] [] (λr=>r= .d (.int .i64 (atE ⟨1,nm,xx,yy,lo,hi⟩))):=by
 have ht:=iO ⟨1,nm,xx,yy,lo,hi⟩
 have hn:=cR nm
 have hx:=eD xx
 have hy:=eD yy
 have he:atE ⟨1,nm,xx,yy,lo,hi⟩=if (¬ yy=[])\/(¬ lo=0\/¬ hi=0)then 210 else if lo < -1099511627776\/hi < lo\/1099511627776 < hi then 210 else if wK nm=false then 20 else if dJ xx=false then 20 else 0:=by
  unfold atE;simp
 rw [he]
 clear he
 rw [show (atR ⟨1,nm,xx,yy,lo,hi⟩)=[.int .i64 1, .str nm, .str xx, .str yy, .int .i64 lo, .int .i64 hi]from rfl,show ((if (⟨1,nm,xx,yy,lo,hi⟩:At).kind=2 then [xx,yy]else [xx]).map aT)=[aT xx]from rfl]at ht
 refine qG [1] hty Tryz.func61 [0,1,2,3,5,13,40,55,59,61,62,63,64,69] ?_
 ((conv=>whnf);repeat ((first |(intro hq;try simp only [lnS]at hq)|refine sI ?_|refine qE_ ?_);conv=>whnf))
 refine aH.mid [(1, .ea 6 [[.int .i64 1, .str nm, .str xx, .str yy, .int .i64 lo, .int .i64 hi]] 0 0),(2, .d (.int .i64 0)),(3, .ptr 3 0)] [(3, .cells 130 (aOy 1))] ?_ ?_
 ·(refine bI (id:=3) hty (.first 1 (.first 2 (.alt 0 (.first 3 (.alt 4 (.alt 5 .done .stop) .stop)) (.alt 4 (.alt 0 (.first 3 (.alt 5 .done .stop)) .stop) .stop)))) (by kernel_rfl) (by kernel_rfl) ?_)
  ((conv=>whnf);repeat' ((first|(intro hq;(try simp only [lnS]at hq);(try rewrite [List.length_map]))|refine sJ ?_|refine qE_ ?_|refine exL (k:=?_)| refine qT kI ?_|exact trivial|(refine And.intro ?_ ?_)|refine dwR ?_|((first|refine aB ?_ ?_|refine aC ?_ ?_)<;>intro hb<;>(first|exact ddX hb|try simp only [lnS]at hb))|(refine aA ?_ ?_<;>intro hb<;>try exact dsX hb))<;>(conv=>whnf)))
  all_goals exact⟨qB,qB⟩
 ((conv=>whnf);repeat' ((first|(intro hq;(try simp only [lnS]at hq);(try rewrite [List.length_map]))|refine sJ ?_|refine qE_ ?_|refine exL (k:=?_)| refine qT ht ?_|refine qT hn ?_|refine qT hx ?_|refine qT hy ?_|(refine dC hty 3 ?_)|refine dwR ?_|((first|refine aB ?_ ?_|refine aC ?_ ?_)<;>intro hb<;>(first|exact ddX hb|try simp only [lnS]at hb))|(refine aA ?_ ?_<;>intro hb<;>try exact dsX hb))<;>(conv=>whnf)))
 all_goals (refine congrArg (λe=>SV.d (.int .i64 e)) ?_)
 all_goals (first|(simp_all;done)|(simp_all;omega)|skip)
theorem aAu (nm xx yy:List UInt8) (lo hi:Int):Tri Tryz.prog 61 [.d (.agg [.int .i64 2, .str nm, .str xx, .str yy, .int .i64 lo, .int .i64 hi])] [] (λr=>r= .d (.int .i64 (atE ⟨2,nm,xx,yy,lo,hi⟩))):=by
 have ht:=iO ⟨2,nm,xx,yy,lo,hi⟩
 have hn:=cR nm
 have hx:=eD xx
 have hy:=eD yy
 have he:atE ⟨2,nm,xx,yy,lo,hi⟩=if (¬ lo=0\/¬ hi=0)then 210 else if lo < -1099511627776\/hi < lo\/1099511627776 < hi then 210 else if wK nm=false then 20 else if dJ xx=false then 20 else if dJ yy=false then 20 else 0:=by
  unfold atE;simp
 rw [he]
 clear he
 rw [show (atR ⟨2,nm,xx,yy,lo,hi⟩)=[.int .i64 2, .str nm, .str xx, .str yy, .int .i64 lo, .int .i64 hi]from rfl,show ((if (⟨2,nm,xx,yy,lo,hi⟩:At).kind=2 then [xx,yy]else [xx]).map aT)=[aT xx,aT yy]from rfl]at ht
 refine qG [1] hty Tryz.func61 [0,1,2,3,5,13,40,55,59,61,62,63,64,69] ?_
 ((conv=>whnf);repeat ((first |(intro hq;try simp only [lnS]at hq)|refine sI ?_|refine qE_ ?_);conv=>whnf))
 refine aH.mid [(1, .ea 6 [[.int .i64 2, .str nm, .str xx, .str yy, .int .i64 lo, .int .i64 hi]] 0 0),(2, .d (.int .i64 0)),(3, .ptr 3 0)] [(3, .cells 130 (aOy 2))] ?_ ?_
 ·(refine bI (id:=3) hty (.first 1 (.first 2 (.alt 0 (.first 3 (.alt 4 (.alt 5 .done .stop) .stop)) (.alt 4 (.alt 0 (.first 3 (.alt 5 .done .stop)) .stop) .stop)))) (by kernel_rfl) (by kernel_rfl) ?_)
  ((conv=>whnf);repeat' ((first|(intro hq;(try simp only [lnS]at hq);(try rewrite [List.length_map]))|refine sJ ?_|refine qE_ ?_|refine exL (k:=?_)| refine qT kI ?_|exact trivial|(refine And.intro ?_ ?_)|refine dwR ?_|((first|refine aB ?_ ?_|refine aC ?_ ?_)<;>intro hb<;>(first|exact ddX hb|try simp only [lnS]at hb))|(refine aA ?_ ?_<;>intro hb<;>try exact dsX hb))<;>(conv=>whnf)))
  all_goals exact⟨qB,qB⟩
 ((conv=>whnf);repeat' ((first|(intro hq;(try simp only [lnS]at hq);(try rewrite [List.length_map]))|refine sJ ?_|refine qE_ ?_|refine exL (k:=?_)| refine qT ht ?_|refine qT hn ?_|refine qT hx ?_|refine qT hy ?_|(refine dC hty 3 ?_)|refine dwR ?_|((first|refine aB ?_ ?_|refine aC ?_ ?_)<;>intro hb<;>(first|exact ddX hb|try simp only [lnS]at hb))|(refine aA ?_ ?_<;>intro hb<;>try exact dsX hb))<;>(conv=>whnf)))
 all_goals (refine congrArg (λe=>SV.d (.int .i64 e)) ?_)
 all_goals (first|(simp_all;done)|(simp_all;omega)|skip)
theorem aAt (nm xx yy:List UInt8) (lo hi:Int):Tri Tryz.prog 61 [.d (.agg [.int .i64 3, .str nm, .str xx, .str yy, .int .i64 lo, .int .i64 hi])] [] (λr=>r= .d (.int .i64 (atE ⟨3,nm,xx,yy,lo,hi⟩))):=by
 have ht:=iO ⟨3,nm,xx,yy,lo,hi⟩
 have hn:=cR nm
 have hx:=eD xx
 have hy:=eD yy
 have he:atE ⟨3,nm,xx,yy,lo,hi⟩=if (¬ yy=[])then 210 else if lo < -1099511627776\/hi < lo\/1099511627776 < hi then 210 else if wK nm=false then 20 else if dJ xx=false then 20 else 0:=by
  unfold atE;simp
 rw [he]
 clear he
 rw [show (atR ⟨3,nm,xx,yy,lo,hi⟩)=[.int .i64 3, .str nm, .str xx, .str yy, .int .i64 lo, .int .i64 hi]from rfl,show ((if (⟨3,nm,xx,yy,lo,hi⟩:At).kind=2 then [xx,yy]else [xx]).map aT)=[aT xx]from rfl]at ht
 refine qG [1] hty Tryz.func61 [0,1,2,3,5,13,40,55,59,61,62,63,64,69] ?_
 ((conv=>whnf);repeat ((first |(intro hq;try simp only [lnS]at hq)|refine sI ?_|refine qE_ ?_);conv=>whnf))
 refine aH.mid [(1, .ea 6 [[.int .i64 3, .str nm, .str xx, .str yy, .int .i64 lo, .int .i64 hi]] 0 0),(2, .d (.int .i64 0)),(3, .ptr 3 0)] [(3, .cells 130 (aOy 3))] ?_ ?_
 ·(refine bI (id:=3) hty (.first 1 (.first 2 (.alt 0 (.first 3 (.alt 4 (.alt 5 .done .stop) .stop)) (.alt 4 (.alt 0 (.first 3 (.alt 5 .done .stop)) .stop) .stop)))) (by kernel_rfl) (by kernel_rfl) ?_)
  ((conv=>whnf);repeat' ((first|(intro hq;(try simp only [lnS]at hq);(try rewrite [List.length_map]))|refine sJ ?_|refine qE_ ?_|refine exL (k:=?_)| refine qT kI ?_|exact trivial|(refine And.intro ?_ ?_)|refine dwR ?_|((first|refine aB ?_ ?_|refine aC ?_ ?_)<;>intro hb<;>(first|exact ddX hb|try simp only [lnS]at hb))|(refine aA ?_ ?_<;>intro hb<;>try exact dsX hb))<;>(conv=>whnf)))
  all_goals exact⟨qB,qB⟩
 ((conv=>whnf);repeat' ((first|(intro hq;(try simp only [lnS]at hq);(try rewrite [List.length_map]))|refine sJ ?_|refine qE_ ?_|refine exL (k:=?_)| refine qT ht ?_|refine qT hn ?_|refine qT hx ?_|refine qT hy ?_|(refine dC hty 3 ?_)|refine dwR ?_|((first|refine aB ?_ ?_|refine aC ?_ ?_)<;>intro hb<;>(first|exact ddX hb|try simp only [lnS]at hb))|(refine aA ?_ ?_<;>intro hb<;>try exact dsX hb))<;>(conv=>whnf)))
 all_goals (refine congrArg (λe=>SV.d (.int .i64 e)) ?_)
 all_goals (first|(simp_all;done)|(simp_all;omega)|skip)
theorem tD (a:At):Tri Tryz.prog 61 [.d (.agg (atR a))] [] (λr=>r= .d (.int .i64 (atE a))):=by
 obtain⟨kd,nm,xx,yy,lo,hi⟩:=a
 show Tri Tryz.prog 61 [.d (.agg [.int .i64 kd, .str nm, .str xx, .str yy, .int .i64 lo, .int .i64 hi])] [] _
 by_cases hk:kd < 1\/3 < kd
 ·rw [aNv (by exact hk)]
  refine qG [1] hty Tryz.func61 [0,1,2,3,5,13,40,55,59,61,62,63,64,69] ?_
  ((conv=>whnf);repeat' ((first|(intro hq;(try simp only [lnS]at hq);(try rewrite [List.length_map]))|refine sJ ?_|refine qE_ ?_|refine exL (k:=?_)|refine dwR ?_|((first|refine aB ?_ ?_|refine aC ?_ ?_)<;>intro hb<;>(first|exact ddX hb|try simp only [lnS]at hb))|(refine aA ?_ ?_<;>intro hb<;>try exact dsX hb))<;>(conv=>whnf)))
  all_goals first|rfl|(exfalso;omega)
 have hk3:kd=1\/kd=2\/kd=3:=by omega
 rcases hk3 with rfl|rfl|rfl
 ·exact aAv nm xx yy lo hi
 ·exact aAu nm xx yy lo hi
 ·exact aAt nm xx yy lo hi
end Go.Proofs.YtdjfkmkdkclahaaGreatDoor
