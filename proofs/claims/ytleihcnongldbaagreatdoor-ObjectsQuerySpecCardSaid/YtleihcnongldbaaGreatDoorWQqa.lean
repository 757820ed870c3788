/-
  Queries: variables, individuals, terms; the error of an atom.
  Conditions: none.
-/
import Derived.Test.YtleihcnongldbaaGreatDoorWDb
import Derived.Test.YtleihcnongldbaaGreatDoorWVe
set_option linter.unnecessarySimpa false
set_option linter.unusedSectionVars false
set_option linter.unusedSimpArgs false
set_option linter.unusedVariables false
set_option maxHeartbeats 16000000
namespace Go.Proofs.YtleihcnongldbaaGreatDoor
open Go.Proofs Go.RowKit
set_option maxRecDepth 10000
attribute [local irreducible] aN aJ Tri aI YVC cP bE
theorem uO (c:UInt8):Tri Tryz.prog 146 [aI7 c] [] (λr=>r= .d (.bool (sK c))):=by
 refine aF hty Tryz.func146 rfl (kp [0,2]) [] _ _ _ (by simp [Tryz.f146]) (by simp) ?_
 ((conv=>whnf);repeat' ((first|(intro hq;(try simp only [lnS]at hq);(try rewrite [List.length_map]))|refine sJ ?_|refine .intro _ (.intro rfl ?_)|refine exL (k:= ?_)|refine dwR ?_|((first|refine aB ?_ ?_|refine aC ?_ ?_)<;>intro hb<;>(first|exact ddX hb|try simp only [lnS]at hb))|(refine aA ?_ ?_<;>intro hb<;>try exact dsX hb))<;>(conv=>whnf)))
 all_goals (refine aQ (Bool.eq_iff_iff.2 ?_);simp only [sK,Bool.or_eq_true,decide_eq_true_eq,true_iff,false_iff,Bool.false_eq_true];omega)
theorem aIr {s:List UInt8}(h:2<=s.length):qK s=(decide (s.length<=17) && (decide ((s[0].toNat:Int)=63) && sK s[1] && (s.drop 2).all cZ)):=by
 match s,h with
 |a::b::r,_=>
  have e:decide (a=63)=decide ((a.toNat:Int)=63):=by
   rw [decide_eq_decide]
   have h9:(63:UInt8).toNat=63:=by decide
   constructor
   ·intro e;rw [e];rfl
   ·intro e;exact UInt8.toNat_inj.1 (by omega)
  simp [qK,e]
theorem mM {s:List UInt8}{k:Nat}(h2:2<=k) (h:k < s.length) (hp:cZ s[k]=false):(s.drop 2).all cZ=false:=by
 refine tG (k:=k - 2) (by rw [List.length_drop];omega) ?_
 rw [List.getElem_drop]
 simpa [show 2+(k - 2)=k by omega]using hp
theorem gX {s:List UInt8}{k:Nat}(h2:2<=k) (h:k < s.length) (hk:((s.drop 2).take (k - 2)).all cZ=true) (hp:cZ s[k]=true):((s.drop 2).take (k+1 - 2)).all cZ=true:=by
 rw [show k+1 - 2=k - 2+1 by omega]
 refine oX (by rw [List.length_drop];omega) hk ?_
 rw [List.getElem_drop]
 simpa [show 2+(k - 2)=k by omega]using hp
theorem aJc {c:UInt8}(h:(!sK c)=true) (h1:¬ (c.toNat:Int)=95) (h2:(c.toNat:Int) < 48\/57 < (c.toNat:Int)):cZ c=false:=by
 rw [Bool.not_eq_true']at h
 simp only [cZ,h,Bool.false_or,Bool.or_eq_false_iff,decide_eq_false_iff_not];omega
theorem aPw {c:UInt8}(h:(c.toNat:Int)=95):cZ c=true:=by
 simp only [cZ,Bool.or_eq_true,decide_eq_true_eq];left;right;omega
theorem aMd {c:UInt8}(h:48<=(c.toNat:Int)) (h2:(c.toNat:Int)<=57):cZ c=true:=by
 simp only [cZ,Bool.or_eq_true,decide_eq_true_eq];right;omega
theorem aMc {c:UInt8}(h:(!sK c)=false):cZ c=true:=by
 rw [Bool.not_eq_false']at h
 simp only [cZ,h,Bool.true_or]
theorem oE (s:List UInt8):Tri Tryz.prog 105 [.d (.str s)] [] (λr=>r= .d (.bool (qK s))):=by
 by_cases h2:¬ 2<=s.length
 ·have e:qK s=false:=by unfold qK;rw [decide_eq_false h2,Bool.false_and]
  rw [e]
  refine aF hty Tryz.func105 rfl (kp [0,2,3,4,23,27,47]) [] _ _ _ (by simp [Tryz.f105]) (by simp) ?_
  ((conv=>whnf);repeat' ((first|(intro hq;(try simp only [lnS]at hq);(try rewrite [List.length_map]))|refine sJ ?_|refine .intro _ (.intro rfl ?_)|refine exL (k:= ?_)|refine dwR ?_|((first|refine aB ?_ ?_|refine aC ?_ ?_)<;>intro hb<;>(first|exact ddX hb|try simp only [lnS]at hb))|(refine aA ?_ ?_<;>intro hb<;>try exact dsX hb))<;>(conv=>whnf)))
  all_goals first|rfl|(exfalso;omega)
 have h2:2<=s.length:=by omega
 have e:=aIr h2
 refine aF hty Tryz.func105 rfl (kp [0,2,3,4,23,27,47]) [] _ _ _ (by simp [Tryz.f105]) (by simp) ?_
 ((conv=>whnf);repeat' ((first|(intro hq;(try simp only [lnS]at hq);(try rewrite [List.length_map]))|refine sJ ?_|refine .intro _ (.intro rfl ?_)|refine exL (k:= ?_)|(refine⟨_,rR (by first|omega|(simp only [List.length_map];omega)), ?_⟩)|(refine aD [] (uO _) trivial (λs hs=> ?_);subst hs)|refine dwR ?_|((first|refine aB ?_ ?_|refine aC ?_ ?_)<;>intro hb<;>(first|exact ddX hb|try simp only [lnS]at hb))|(refine aA ?_ ?_<;>intro hb<;>try exact dsX hb))<;>(conv=>whnf)))
 ·refine aQ (Eq.symm ?_);rw [e,decide_eq_false (by omega),Bool.false_and]
 ·rename_i hb
  refine aQ (Eq.symm ?_);rw [e,decide_eq_false (p:=((s[0].toNat:Int)=63)) hb];simp
 ·rename_i hb
  have hb':sK s[1]=false:=by simpa using hb
  refine aQ (Eq.symm ?_);rw [e,hb'];simp
 rename_i h17 h63
 have hl':sK s[1]=true:=by simpa using hb
 have h63':((s[0].toNat:Int)=63):=h63
 have e':qK s=(s.drop 2).all cZ:=by rw [e,decide_eq_true (p:=s.length<=17) (by omega),decide_eq_true h63',hl'];simp
 rw [e']
 refine aH hty (λk:Nat=>([(0, .d (.str s)),(3, .d (.int .i64 k))],[])) (λk=>(2<=k/\k<=s.length)/\((s.drop 2).take (k - 2)).all cZ=true) (λk=>s.length - k) 2 (by simp;omega) ⟨by repeat' (first|exact trivial|exact rfl|refine And.intro ?_ ?_),trivial⟩ ?_
 rintro k ⟨⟨hk0,hk⟩,hk2⟩
 ((conv=>whnf);repeat' ((first|(intro hq;(try simp only [lnS]at hq);(try rewrite [List.length_map]))|refine sJ ?_|refine .intro _ (.intro rfl ?_)|refine exL (k:= ?_)|(refine⟨_,rR (by first|omega|(simp only [List.length_map];omega)), ?_⟩)|(refine aD [] (uO _) trivial (λs hs=> ?_);subst hs)|refine dwR ?_|((first|refine aB ?_ ?_|refine aC ?_ ?_)<;>intro hb<;>(first|exact ddX hb|try simp only [lnS]at hb))|(refine aA ?_ ?_<;>intro hb<;>try exact dsX hb))<;>(conv=>whnf)))
 ·rename_i h1 h2 h3
  have hkl:k < s.length:=by omega
  refine aQ (Eq.symm (mM (k:=k) hk0 hkl (aJc (c:=s[(k:Int).toNat]) h2 hb (by omega))))
 ·rename_i h1 h2 h3 h4
  have hkl:k < s.length:=by omega
  refine aQ (Eq.symm (mM (k:=k) hk0 hkl (aJc (c:=s[(k:Int).toNat]) h2 hb (by omega))))
 ·have hkl:k < s.length:=by omega
  exact⟨k+1,⟨⟨by omega,by omega⟩,gX hk0 hkl hk2 (aPw hb)⟩,by dsimp only;omega,by repeat' (first|exact trivial|exact rfl|refine And.intro ?_ ?_),trivial⟩
 ·have hkl:k < s.length:=by omega
  exact⟨k+1,⟨⟨by omega,by omega⟩,gX hk0 hkl hk2 (aMd (c:=s[(k:Int).toNat]) (by omega) (by omega))⟩,by dsimp only;omega,by repeat' (first|exact trivial|exact rfl|refine And.intro ?_ ?_),trivial⟩
 ·have hkl:k < s.length:=by omega
  exact⟨k+1,⟨⟨by omega,by omega⟩,gX hk0 hkl hk2 (aMc hb)⟩,by dsimp only;omega,by repeat' (first|exact trivial|exact rfl|refine And.intro ?_ ?_),trivial⟩
 ·rw [List.take_of_length_le (by rw [List.length_drop];omega)]at hk2
  rw [hk2];rfl
theorem aVo (c:UInt8) (s:List UInt8):([c]:List UInt8).isPrefixOf s=decide (s.head?=some c):=by
 cases s with
 |nil=>rfl
 |cons a r=>
  show (c==a && true)=_
  rw [Bool.and_true,Bool.eq_iff_iff,beq_iff_eq,decide_eq_true_eq,List.head?_cons,Option.some.injEq]
  exact eq_comm
theorem eF (s:List UInt8):Tri Tryz.prog 102 [.d (.str s)] [] (λr=>r= .d (.bool (aCe s))):=by
 refine aF hty Tryz.func102 rfl (kp [0,2]) [] _ _ _ (by simp [Tryz.f102]) (by simp) ?_
 ((conv=>whnf);repeat' ((first|(intro hq;(try simp only [lnS]at hq);(try rewrite [List.length_map]))|refine sJ ?_|refine .intro _ (.intro rfl ?_)|refine exL (k:= ?_)|(refine aD [] (jU _) trivial (λs hs=> ?_);subst hs)|(refine aD [] (qI _ _) trivial (λs hs=> ?_);subst hs)|refine dwR ?_|((first|refine aB ?_ ?_|refine aC ?_ ?_)<;>intro hb<;>(first|exact ddX hb|try simp only [lnS]at hb))|(refine aA ?_ ?_<;>intro hb<;>try exact dsX hb))<;>(conv=>whnf)))
 ·have hn:dM s=true:=by
   cases h:dM s
   ·rw [h]at hb;exact absurd hb (by decide)
   ·rfl
  refine aQ ?_
  rw [aCe,hn,Bool.true_and]
  exact congrArg _ (aVo 95 s)
 ·have hn:dM s=false:=by
   cases h:dM s
   ·rfl
   ·rw [h]at hb;exact absurd rfl hb
  refine aQ ?_
  rw [aCe,hn];rfl
theorem aKe (s:List UInt8):bX s=([63]:List UInt8).isPrefixOf s:=(aVo 63 s).symm
theorem fL (s:List UInt8):Tri Tryz.prog 107 [.d (.str s)] [] (λr=>r= .d (.bool (bX s))):=by
 rw [aKe]
 refine aF hty Tryz.func107 rfl (kp [0,2]) [] _ _ _ (by simp [Tryz.f107]) (by simp) ?_
 ((conv=>whnf);repeat' ((first|(intro hq;(try simp only [lnS]at hq);(try rewrite [List.length_map]))|refine sJ ?_|refine .intro _ (.intro rfl ?_)|refine exL (k:= ?_)|(refine aD [] (qI _ _) trivial (λs hs=> ?_);subst hs)|refine dwR ?_|((first|refine aB ?_ ?_|refine aC ?_ ?_)<;>intro hb<;>(first|exact ddX hb|try simp only [lnS]at hb))|(refine aA ?_ ?_<;>intro hb<;>try exact dsX hb))<;>(conv=>whnf)))
 rfl
theorem gB (s:List UInt8):Tri Tryz.prog 104 [.d (.str s)] [] (λr=>r= .d (.bool (hU s))):=by
 refine aF hty Tryz.func104 rfl (kp [0,2]) [] _ _ _ (by simp [Tryz.f104]) (by simp) ?_
 ((conv=>whnf);repeat' ((first|(intro hq;(try simp only [lnS]at hq);(try rewrite [List.length_map]))|refine sJ ?_|refine .intro _ (.intro rfl ?_)|refine exL (k:= ?_)|(refine aD [] (oE _) trivial (λs hs=> ?_);subst hs)|(refine aD [] (eF _) trivial (λs hs=> ?_);subst hs)|refine dwR ?_|((first|refine aB ?_ ?_|refine aC ?_ ?_)<;>intro hb<;>(first|exact ddX hb|try simp only [lnS]at hb))|(refine aA ?_ ?_<;>intro hb<;>try exact dsX hb))<;>(conv=>whnf)))
 ·refine aQ ?_
  rw [hU,hb];rfl
 ·refine aQ ?_
  rw [hU,hb];rfl
theorem qP:Tri Tryz.prog 101 [] [] (λr=>r= .d (.agg [.bool false, .bool false, .bool false, .bool false, .bool true, .bool false, .bool false, .bool true])):=by
 refine aF hty Tryz.func101 rfl (kp [0]) [] _ _ _ (by simp [Tryz.f101]) (by simp) ?_
 ((conv=>whnf);repeat' ((first|(intro hq;(try simp only [lnS]at hq);(try rewrite [List.length_map]))|refine sJ ?_|refine .intro _ (.intro rfl ?_)|refine exL (k:= ?_)|refine dwR ?_|((first|refine aB ?_ ?_|refine aC ?_ ?_)<;>intro hb<;>(first|exact ddX hb|try simp only [lnS]at hb))|(refine aA ?_ ?_<;>intro hb<;>try exact dsX hb))<;>(conv=>whnf)))
 rfl
theorem nE (a:At):Tri Tryz.prog 103 [.d (.agg (atR a))] [] (λr=>r= .d (.sl 1 ((if a.kind=2 then [a.x,a.y]else [a.x]).map bL))):=by
 refine aE false [1] hty Tryz.func103 rfl (kp [0,1,2,5]) [] _ _ _ (by simp [Tryz.f103]) (by simp) ?_
 ((conv=>whnf);repeat' ((first|(intro hq;(try simp only [lnS]at hq);(try rewrite [List.length_map]))|refine sJ ?_|refine .intro _ (.intro rfl ?_)|refine exL (k:= ?_)|refine dwR ?_|((first|refine aB ?_ ?_|refine aC ?_ ?_)<;>intro hb<;>(first|exact ddX hb|try simp only [lnS]at hb))|(refine aA ?_ ?_<;>intro hb<;>try exact dsX hb))<;>(conv=>whnf)))
 ·rw [if_pos hb];rfl
 ·rw [if_neg hb];rfl
theorem aTi {a:At}(h:a.kind < 1\/3 < a.kind):atE a=210:=by unfold atE;rw [if_pos h]
def aUs (k:Int):List SV:=[.d (.bool (decide (k=2))), .d (.bool (decide (k=3)))]
theorem aFb (nm xx yy:List UInt8) (lo hi:Int):Tri Tryz.prog 63 [.d (.agg [.int .i64 1, .str nm, .str xx, .str yy, .int .i64 lo, .int .i64 hi])] [] (λr=>r= .d (.int .i64 (atE ⟨1,nm,xx,yy,lo,hi⟩))):=by
 have ht:=nE ⟨1,nm,xx,yy,lo,hi⟩
 have hn:=eF nm
 have hx:=gB xx
 have hy:=gB yy
 have he:atE ⟨1,nm,xx,yy,lo,hi⟩=if (¬ yy=[])\/(¬ lo=0\/¬ hi=0)then 210 else if lo < -1099511627776\/hi < lo\/1099511627776 < hi then 210 else if aCe nm=false then 20 else if hU xx=false then 20 else 0:=by
  unfold atE;simp
 rw [he]
 clear he
 rw [show (atR ⟨1,nm,xx,yy,lo,hi⟩)=[.int .i64 1, .str nm, .str xx, .str yy, .int .i64 lo, .int .i64 hi]from rfl,show ((if (⟨1,nm,xx,yy,lo,hi⟩:At).kind=2 then [xx,yy]else [xx]).map bL)=[bL xx]from rfl]at ht
 refine aE false [1] hty Tryz.func63 rfl (kp [0,1,2,3,5,13,40,55,59,61,62,63,64,69]) [] _ _ _ (by simp [Tryz.f63]) (by simp) ?_
 ((conv=>whnf);repeat ((first|(intro hq;try simp only [lnS]at hq)|refine sI ?_|refine .intro _ (.intro rfl ?_));(conv=>whnf)))
 refine aN.mid [(1, .ea 6 [[.int .i64 1, .str nm, .str xx, .str yy, .int .i64 lo, .int .i64 hi]] 0 0),(2, .d (.int .i64 0)),(3, .ptr 3 0)] [(3, .cells 155 (aUs 1))] ?_ ?_
 ·(refine bI (id:=3) hty (.first 1 (.first 2 (.alt 0 (.first 3 (.alt 4 (.alt 5 .done .stop) .stop)) (.alt 4 (.alt 0 (.first 3 (.alt 5 .done .stop)) .stop) .stop)))) (by kernel_rfl) (by kernel_rfl) ?_)
  ((conv=>whnf);repeat' ((first|(intro hq;(try simp only [lnS]at hq);(try rewrite [List.length_map]))|refine sJ ?_|refine .intro _ (.intro rfl ?_)|refine exL (k:= ?_)|(refine aD [] qP trivial (λr hs=> ?_);subst hs)|exact trivial|(refine And.intro ?_ ?_)|refine dwR ?_|((first|refine aB ?_ ?_|refine aC ?_ ?_)<;>intro hb<;>(first|exact ddX hb|try simp only [lnS]at hb))|(refine aA ?_ ?_<;>intro hb<;>try exact dsX hb))<;>(conv=>whnf)))
  all_goals exact⟨by repeat' (first|exact trivial|exact rfl|refine And.intro ?_ ?_),by repeat' (first|exact trivial|exact rfl|refine And.intro ?_ ?_)⟩
 ((conv=>whnf);repeat' ((first|(intro hq;(try simp only [lnS]at hq);(try rewrite [List.length_map]))|refine sJ ?_|refine .intro _ (.intro rfl ?_)|refine exL (k:= ?_)|(refine aD [] ht trivial (λr hs=> ?_);subst hs)|(refine aD [] hn trivial (λr hs=> ?_);subst hs)|(refine aD [] hx trivial (λr hs=> ?_);subst hs)|(refine aD [] hy trivial (λr hs=> ?_);subst hs)|(refine eO hty 3 ?_)|refine dwR ?_|((first|refine aB ?_ ?_|refine aC ?_ ?_)<;>intro hb<;>(first|exact ddX hb|try simp only [lnS]at hb))|(refine aA ?_ ?_<;>intro hb<;>try exact dsX hb))<;>(conv=>whnf)))
 all_goals (refine congrArg (λe=>SV.d (.int .i64 e)) ?_)
 all_goals (first|(simp_all;done)|(simp_all;omega)|skip)
theorem aFa (nm xx yy:List UInt8) (lo hi:Int):Tri Tryz.prog 63 [.d (.agg [.int .i64 2, .str nm, .str xx, .str yy, .int .i64 lo, .int .i64 hi])] [] (λr=>r= .d (.int .i64 (atE ⟨2,nm,xx,yy,lo,hi⟩))):=by
 have ht:=nE ⟨2,nm,xx,yy,lo,hi⟩
 have hn:=eF nm
 have hx:=gB xx
 have hy:=gB yy
 have he:atE ⟨2,nm,xx,yy,lo,hi⟩=if (¬ lo=0\/¬ hi=0)then 210 else if lo < -1099511627776\/hi < lo\/1099511627776 < hi then 210 else if aCe nm=false then 20 else if hU xx=false then 20 else if hU yy=false then 20 else 0:=by
  unfold atE;simp
 rw [he]
 clear he
 rw [show (atR ⟨2,nm,xx,yy,lo,hi⟩)=[.int .i64 2, .str nm, .str xx, .str yy, .int .i64 lo, .int .i64 hi]from rfl,show ((if (⟨2,nm,xx,yy,lo,hi⟩:At).kind=2 then [xx,yy]else [xx]).map bL)=[bL xx,bL yy]from rfl]at ht
 refine aE false [1] hty Tryz.func63 rfl (kp [0,1,2,3,5,13,40,55,59,61,62,63,64,69]) [] _ _ _ (by simp [Tryz.f63]) (by simp) ?_
 ((conv=>whnf);repeat ((first|(intro hq;try simp only [lnS]at hq)|refine sI ?_|refine .intro _ (.intro rfl ?_));(conv=>whnf)))
 refine aN.mid [(1, .ea 6 [[.int .i64 2, .str nm, .str xx, .str yy, .int .i64 lo, .int .i64 hi]] 0 0),(2, .d (.int .i64 0)),(3, .ptr 3 0)] [(3, .cells 155 (aUs 2))] ?_ ?_
 ·(refine bI (id:=3) hty (.first 1 (.first 2 (.alt 0 (.first 3 (.alt 4 (.alt 5 .done .stop) .stop)) (.alt 4 (.alt 0 (.first 3 (.alt 5 .done .stop)) .stop) .stop)))) (by kernel_rfl) (by kernel_rfl) ?_)
  ((conv=>whnf);repeat' ((first|(intro hq;(try simp only [lnS]at hq);(try rewrite [List.length_map]))|refine sJ ?_|refine .intro _ (.intro rfl ?_)|refine exL (k:= ?_)|(refine aD [] qP trivial (λr hs=> ?_);subst hs)|exact trivial|(refine And.intro ?_ ?_)|refine dwR ?_|((first|refine aB ?_ ?_|refine aC ?_ ?_)<;>intro hb<;>(first|exact ddX hb|try simp only [lnS]at hb))|(refine aA ?_ ?_<;>intro hb<;>try exact dsX hb))<;>(conv=>whnf)))
  all_goals exact⟨by repeat' (first|exact trivial|exact rfl|refine And.intro ?_ ?_),by repeat' (first|exact trivial|exact rfl|refine And.intro ?_ ?_)⟩
 ((conv=>whnf);repeat' ((first|(intro hq;(try simp only [lnS]at hq);(try rewrite [List.length_map]))|refine sJ ?_|refine .intro _ (.intro rfl ?_)|refine exL (k:= ?_)|(refine aD [] ht trivial (λr hs=> ?_);subst hs)|(refine aD [] hn trivial (λr hs=> ?_);subst hs)|(refine aD [] hx trivial (λr hs=> ?_);subst hs)|(refine aD [] hy trivial (λr hs=> ?_);subst hs)|(refine eO hty 3 ?_)|refine dwR ?_|((first|refine aB ?_ ?_|refine aC ?_ ?_)<;>intro hb<;>(first|exact ddX hb|try simp only [lnS]at hb))|(refine aA ?_ ?_<;>intro hb<;>try exact dsX hb))<;>(conv=>whnf)))
 all_goals (refine congrArg (λe=>SV.d (.int .i64 e)) ?_)
 all_goals (first|(simp_all;done)|(simp_all;omega)|skip)
theorem aF9 (nm xx yy:List UInt8) (lo hi:Int):Tri Tryz.prog 63 [.d (.agg [.int .i64 3, .str nm, .str xx, .str yy, .int .i64 lo, .int .i64 hi])] [] (λr=>r= .d (.int .i64 (atE ⟨3,nm,xx,yy,lo,hi⟩))):=by
 have ht:=nE ⟨3,nm,xx,yy,lo,hi⟩
 have hn:=eF nm
 have hx:=gB xx
 have hy:=gB yy
 have he:atE ⟨3,nm,xx,yy,lo,hi⟩=if (¬ yy=[])then 210 else if lo < -1099511627776\/hi < lo\/1099511627776 < hi then 210 else if aCe nm=false then 20 else if hU xx=false then 20 else 0:=by
  unfold atE;simp
 rw [he]
 clear he
 rw [show (atR ⟨3,nm,xx,yy,lo,hi⟩)=[.int .i64 3, .str nm, .str xx, .str yy, .int .i64 lo, .int .i64 hi]from rfl,show ((if (⟨3,nm,xx,yy,lo,hi⟩:At).kind=2 then [xx,yy]else [xx]).map bL)=[bL xx]from rfl]at ht
 refine aE false [1] hty Tryz.func63 rfl (kp [0,1,2,3,5,13,40,55,59,61,62,63,64,69]) [] _ _ _ (by simp [Tryz.f63]) (by simp) ?_
 ((conv=>whnf);repeat ((first|(intro hq;try simp only [lnS]at hq)|refine sI ?_|refine .intro _ (.intro rfl ?_));(conv=>whnf)))
 refine aN.mid [(1, .ea 6 [[.int .i64 3, .str nm, .str xx, .str yy, .int .i64 lo, .int .i64 hi]] 0 0),(2, .d (.int .i64 0)),(3, .ptr 3 0)] [(3, .cells 155 (aUs 3))] ?_ ?_
 ·(refine bI (id:=3) hty (.first 1 (.first 2 (.alt 0 (.first 3 (.alt 4 (.alt 5 .done .stop) .stop)) (.alt 4 (.alt 0 (.first 3 (.alt 5 .done .stop)) .stop) .stop)))) (by kernel_rfl) (by kernel_rfl) ?_)
  ((conv=>whnf);repeat' ((first|(intro hq;(try simp only [lnS]at hq);(try rewrite [List.length_map]))|refine sJ ?_|refine .intro _ (.intro rfl ?_)|refine exL (k:= ?_)|(refine aD [] qP trivial (λr hs=> ?_);subst hs)|exact trivial|(refine And.intro ?_ ?_)|refine dwR ?_|((first|refine aB ?_ ?_|refine aC ?_ ?_)<;>intro hb<;>(first|exact ddX hb|try simp only [lnS]at hb))|(refine aA ?_ ?_<;>intro hb<;>try exact dsX hb))<;>(conv=>whnf)))
  all_goals exact⟨by repeat' (first|exact trivial|exact rfl|refine And.intro ?_ ?_),by repeat' (first|exact trivial|exact rfl|refine And.intro ?_ ?_)⟩
 ((conv=>whnf);repeat' ((first|(intro hq;(try simp only [lnS]at hq);(try rewrite [List.length_map]))|refine sJ ?_|refine .intro _ (.intro rfl ?_)|refine exL (k:= ?_)|(refine aD [] ht trivial (λr hs=> ?_);subst hs)|(refine aD [] hn trivial (λr hs=> ?_);subst hs)|(refine aD [] hx trivial (λr hs=> ?_);subst hs)|(refine aD [] hy trivial (λr hs=> ?_);subst hs)|(refine eO hty 3 ?_)|refine dwR ?_|((first|refine aB ?_ ?_|refine aC ?_ ?_)<;>intro hb<;>(first|exact ddX hb|try simp only [lnS]at hb))|(refine aA ?_ ?_<;>intro hb<;>try exact dsX hb))<;>(conv=>whnf)))
 all_goals (refine congrArg (λe=>SV.d (.int .i64 e)) ?_)
 all_goals (first|(simp_all;done)|(simp_all;omega)|skip)
theorem zL (a:At):Tri Tryz.prog 63 [.d (.agg (atR a))] [] (λr=>r= .d (.int .i64 (atE a))):=by
 obtain⟨kd,nm,xx,yy,lo,hi⟩:=a
 show Tri Tryz.prog 63 [.d (.agg [.int .i64 kd, .str nm, .str xx, .str yy, .int .i64 lo, .int .i64 hi])] [] _
 by_cases hk:kd < 1\/3 < kd
 ·rw [aTi (by exact hk)]
  refine aE false [1] hty Tryz.func63 rfl (kp [0,1,2,3,5,13,40,55,59,61,62,63,64,69]) [] _ _ _ (by simp [Tryz.f63]) (by simp) ?_
  ((conv=>whnf);repeat' ((first|(intro hq;(try simp only [lnS]at hq);(try rewrite [List.length_map]))|refine sJ ?_|refine .intro _ (.intro rfl ?_)|refine exL (k:= ?_)|refine dwR ?_|((first|refine aB ?_ ?_|refine aC ?_ ?_)<;>intro hb<;>(first|exact ddX hb|try simp only [lnS]at hb))|(refine aA ?_ ?_<;>intro hb<;>try exact dsX hb))<;>(conv=>whnf)))
  all_goals first|rfl|(exfalso;omega)
 have hk3:kd=1\/kd=2\/kd=3:=by omega
 rcases hk3 with rfl|rfl|rfl
 ·exact aFb nm xx yy lo hi
 ·exact aFa nm xx yy lo hi
 ·exact aF9 nm xx yy lo hi
end Go.Proofs.YtleihcnongldbaaGreatDoor
