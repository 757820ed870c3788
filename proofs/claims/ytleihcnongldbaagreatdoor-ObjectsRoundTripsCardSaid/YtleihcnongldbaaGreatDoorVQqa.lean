/-
  Queries: variables, individuals, terms; the error of an atom.
  Conditions: none.
-/
import Derived.Test.YtleihcnongldbaaGreatDoorVDb
import Derived.Test.YtleihcnongldbaaGreatDoorVUa
set_option linter.unnecessarySimpa false
set_option linter.unusedSectionVars false
set_option linter.unusedSimpArgs false
set_option linter.unusedVariables false
set_option maxHeartbeats 16000000
namespace Go.Proofs.YtleihcnongldbaaGreatDoor
open Go.Proofs Go.RowKit
set_option maxRecDepth 10000
attribute [local irreducible] aO aH Tri aG YVC cL bB
theorem pZ (c:UInt8):Tri Tryz.prog 146 [aN8 c] [] (λr=>r= .d (.bool (aAq c))):=by
 refine aJ hty Tryz.func146 rfl (kp [0,2]) [] _ _ _ (by simp [Tryz.f146]) (by simp) ?_
 ((conv=>whnf);repeat' ((first|(intro hq;(try simp only [lnS]at hq);(try rewrite [List.length_map]))|refine sJ ?_|refine .intro _ (.intro rfl ?_)|refine exL (k:= ?_)|refine dwR ?_|((first|refine aB ?_ ?_|refine aC ?_ ?_)<;>intro hb<;>(first|exact ddX hb|try simp only [lnS]at hb))|(refine aA ?_ ?_<;>intro hb<;>try exact dsX hb))<;>(conv=>whnf)))
 all_goals (refine aX (Bool.eq_iff_iff.2 ?_);simp only [aAq,Bool.or_eq_true,decide_eq_true_eq,true_iff,false_iff,Bool.false_eq_true];omega)
theorem aK8 {s:List UInt8}(h:2<=s.length):uO s=(decide (s.length<=17) && (decide ((s[0].toNat:Int)=63) && aAq s[1] && (s.drop 2).all dI)):=by
 match s,h with
 |a::b::r,_=>
  have e:decide (a=63)=decide ((a.toNat:Int)=63):=by
   rw [decide_eq_decide]
   have h9:(63:UInt8).toNat=63:=by decide
   constructor
   ·intro e;rw [e];rfl
   ·intro e;exact UInt8.toNat_inj.1 (by omega)
  simp [uO,e]
theorem oU {s:List UInt8}{k:Nat}(h2:2<=k) (h:k < s.length) (hp:dI s[k]=false):(s.drop 2).all dI=false:=by
 refine yC (k:=k - 2) (by rw [List.length_drop];omega) ?_
 rw [List.getElem_drop]
 simpa [show 2+(k - 2)=k by omega]using hp
theorem iZ {s:List UInt8}{k:Nat}(h2:2<=k) (h:k < s.length) (hk:((s.drop 2).take (k - 2)).all dI=true) (hp:dI s[k]=true):((s.drop 2).take (k+1 - 2)).all dI=true:=by
 rw [show k+1 - 2=k - 2+1 by omega]
 refine rH (by rw [List.length_drop];omega) hk ?_
 rw [List.getElem_drop]
 simpa [show 2+(k - 2)=k by omega]using hp
theorem aEj {c:UInt8}(h:(!aAq c)=true) (h1:¬ (c.toNat:Int)=95) (h2:(c.toNat:Int) < 48\/57 < (c.toNat:Int)):dI c=false:=by
 rw [Bool.not_eq_true']at h
 simp only [dI,h,Bool.false_or,Bool.or_eq_false_iff,decide_eq_false_iff_not];omega
theorem aKg {c:UInt8}(h:(c.toNat:Int)=95):dI c=true:=by
 simp only [dI,Bool.or_eq_true,decide_eq_true_eq];left;right;omega
theorem aH6 {c:UInt8}(h:48<=(c.toNat:Int)) (h2:(c.toNat:Int)<=57):dI c=true:=by
 simp only [dI,Bool.or_eq_true,decide_eq_true_eq];right;omega
theorem aH5 {c:UInt8}(h:(!aAq c)=false):dI c=true:=by
 rw [Bool.not_eq_false']at h
 simp only [dI,h,Bool.true_or]
theorem lO (s:List UInt8):Tri Tryz.prog 105 [.d (.str s)] [] (λr=>r= .d (.bool (uO s))):=by
 by_cases h2:¬ 2<=s.length
 ·have e:uO s=false:=by unfold uO;rw [decide_eq_false h2,Bool.false_and]
  rw [e]
  refine aJ hty Tryz.func105 rfl (kp [0,2,3,4,23,27,47]) [] _ _ _ (by simp [Tryz.f105]) (by simp) ?_
  ((conv=>whnf);repeat' ((first|(intro hq;(try simp only [lnS]at hq);(try rewrite [List.length_map]))|refine sJ ?_|refine .intro _ (.intro rfl ?_)|refine exL (k:= ?_)|refine dwR ?_|((first|refine aB ?_ ?_|refine aC ?_ ?_)<;>intro hb<;>(first|exact ddX hb|try simp only [lnS]at hb))|(refine aA ?_ ?_<;>intro hb<;>try exact dsX hb))<;>(conv=>whnf)))
  all_goals first|rfl|(exfalso;omega)
 have h2:2<=s.length:=by omega
 have e:=aK8 h2
 refine aJ hty Tryz.func105 rfl (kp [0,2,3,4,23,27,47]) [] _ _ _ (by simp [Tryz.f105]) (by simp) ?_
 ((conv=>whnf);repeat' ((first|(intro hq;(try simp only [lnS]at hq);(try rewrite [List.length_map]))|refine sJ ?_|refine .intro _ (.intro rfl ?_)|refine exL (k:= ?_)|(refine⟨_,aEr (by first|omega|(simp only [List.length_map];omega)), ?_⟩)|(refine aD [] (pZ _) trivial (λs hs=> ?_);subst hs)|refine dwR ?_|((first|refine aB ?_ ?_|refine aC ?_ ?_)<;>intro hb<;>(first|exact ddX hb|try simp only [lnS]at hb))|(refine aA ?_ ?_<;>intro hb<;>try exact dsX hb))<;>(conv=>whnf)))
 ·refine aX (Eq.symm ?_);rw [e,decide_eq_false (by omega),Bool.false_and]
 ·rename_i hb
  refine aX (Eq.symm ?_);rw [e,decide_eq_false (p:=((s[0].toNat:Int)=63)) hb];simp
 ·rename_i hb
  have hb':aAq s[1]=false:=by simpa using hb
  refine aX (Eq.symm ?_);rw [e,hb'];simp
 rename_i h17 h63
 have hl':aAq s[1]=true:=by simpa using hb
 have h63':((s[0].toNat:Int)=63):=h63
 have e':uO s=(s.drop 2).all dI:=by rw [e,decide_eq_true (p:=s.length<=17) (by omega),decide_eq_true h63',hl'];simp
 rw [e']
 refine aL hty (λk:Nat=>([(0, .d (.str s)),(3, .d (.int .i64 k))],[])) (λk=>(2<=k/\k<=s.length)/\((s.drop 2).take (k - 2)).all dI=true) (λk=>s.length - k) 2 (by simp;omega) ⟨by repeat' (first|exact trivial|exact rfl|refine And.intro ?_ ?_),trivial⟩ ?_
 rintro k ⟨⟨hk0,hk⟩,hk2⟩
 ((conv=>whnf);repeat' ((first|(intro hq;(try simp only [lnS]at hq);(try rewrite [List.length_map]))|refine sJ ?_|refine .intro _ (.intro rfl ?_)|refine exL (k:= ?_)|(refine⟨_,aEr (by first|omega|(simp only [List.length_map];omega)), ?_⟩)|(refine aD [] (pZ _) trivial (λs hs=> ?_);subst hs)|refine dwR ?_|((first|refine aB ?_ ?_|refine aC ?_ ?_)<;>intro hb<;>(first|exact ddX hb|try simp only [lnS]at hb))|(refine aA ?_ ?_<;>intro hb<;>try exact dsX hb))<;>(conv=>whnf)))
 ·rename_i h1 h2 h3
  have hkl:k < s.length:=by omega
  refine aX (Eq.symm (oU (k:=k) hk0 hkl (aEj (c:=s[(k:Int).toNat]) h2 hb (by omega))))
 ·rename_i h1 h2 h3 h4
  have hkl:k < s.length:=by omega
  refine aX (Eq.symm (oU (k:=k) hk0 hkl (aEj (c:=s[(k:Int).toNat]) h2 hb (by omega))))
 ·have hkl:k < s.length:=by omega
  exact⟨k+1,⟨⟨by omega,by omega⟩,iZ hk0 hkl hk2 (aKg hb)⟩,by dsimp only;omega,by repeat' (first|exact trivial|exact rfl|refine And.intro ?_ ?_),trivial⟩
 ·have hkl:k < s.length:=by omega
  exact⟨k+1,⟨⟨by omega,by omega⟩,iZ hk0 hkl hk2 (aH6 (c:=s[(k:Int).toNat]) (by omega) (by omega))⟩,by dsimp only;omega,by repeat' (first|exact trivial|exact rfl|refine And.intro ?_ ?_),trivial⟩
 ·have hkl:k < s.length:=by omega
  exact⟨k+1,⟨⟨by omega,by omega⟩,iZ hk0 hkl hk2 (aH5 hb)⟩,by dsimp only;omega,by repeat' (first|exact trivial|exact rfl|refine And.intro ?_ ?_),trivial⟩
 ·rw [List.take_of_length_le (by rw [List.length_drop];omega)]at hk2
  rw [hk2];rfl
theorem aPn (c:UInt8) (s:List UInt8):([c]:List UInt8).isPrefixOf s=decide (s.head?=some c):=by
 cases s with
 |nil=>rfl
 |cons a r=>
  show (c==a && true)=_
  rw [Bool.and_true,Bool.eq_iff_iff,beq_iff_eq,decide_eq_true_eq,List.head?_cons,Option.some.injEq]
  exact eq_comm
theorem dC (s:List UInt8):Tri Tryz.prog 102 [.d (.str s)] [] (λr=>r= .d (.bool (aDg s))):=by
 refine aJ hty Tryz.func102 rfl (kp [0,2]) [] _ _ _ (by simp [Tryz.f102]) (by simp) ?_
 ((conv=>whnf);repeat' ((first|(intro hq;(try simp only [lnS]at hq);(try rewrite [List.length_map]))|refine sJ ?_|refine .intro _ (.intro rfl ?_)|refine exL (k:= ?_)|(refine aD [] (hH _) trivial (λs hs=> ?_);subst hs)|(refine aD [] (mV _ _) trivial (λs hs=> ?_);subst hs)|refine dwR ?_|((first|refine aB ?_ ?_|refine aC ?_ ?_)<;>intro hb<;>(first|exact ddX hb|try simp only [lnS]at hb))|(refine aA ?_ ?_<;>intro hb<;>try exact dsX hb))<;>(conv=>whnf)))
 ·have hn:eZ s=true:=by
   cases h:eZ s
   ·rw [h]at hb;exact absurd hb (by decide)
   ·rfl
  refine aX ?_
  rw [aDg,hn,Bool.true_and]
  exact congrArg _ (aPn 95 s)
 ·have hn:eZ s=false:=by
   cases h:eZ s
   ·rfl
   ·rw [h]at hb;exact absurd rfl hb
  refine aX ?_
  rw [aDg,hn];rfl
theorem aFc (s:List UInt8):bV s=([63]:List UInt8).isPrefixOf s:=(aPn 63 s).symm
theorem dZ (s:List UInt8):Tri Tryz.prog 107 [.d (.str s)] [] (λr=>r= .d (.bool (bV s))):=by
 rw [aFc]
 refine aJ hty Tryz.func107 rfl (kp [0,2]) [] _ _ _ (by simp [Tryz.f107]) (by simp) ?_
 ((conv=>whnf);repeat' ((first|(intro hq;(try simp only [lnS]at hq);(try rewrite [List.length_map]))|refine sJ ?_|refine .intro _ (.intro rfl ?_)|refine exL (k:= ?_)|(refine aD [] (mV _ _) trivial (λs hs=> ?_);subst hs)|refine dwR ?_|((first|refine aB ?_ ?_|refine aC ?_ ?_)<;>intro hb<;>(first|exact ddX hb|try simp only [lnS]at hb))|(refine aA ?_ ?_<;>intro hb<;>try exact dsX hb))<;>(conv=>whnf)))
 rfl
theorem eP (s:List UInt8):Tri Tryz.prog 104 [.d (.str s)] [] (λr=>r= .d (.bool (mE s))):=by
 refine aJ hty Tryz.func104 rfl (kp [0,2]) [] _ _ _ (by simp [Tryz.f104]) (by simp) ?_
 ((conv=>whnf);repeat' ((first|(intro hq;(try simp only [lnS]at hq);(try rewrite [List.length_map]))|refine sJ ?_|refine .intro _ (.intro rfl ?_)|refine exL (k:= ?_)|(refine aD [] (lO _) trivial (λs hs=> ?_);subst hs)|(refine aD [] (dC _) trivial (λs hs=> ?_);subst hs)|refine dwR ?_|((first|refine aB ?_ ?_|refine aC ?_ ?_)<;>intro hb<;>(first|exact ddX hb|try simp only [lnS]at hb))|(refine aA ?_ ?_<;>intro hb<;>try exact dsX hb))<;>(conv=>whnf)))
 ·refine aX ?_
  rw [mE,hb];rfl
 ·refine aX ?_
  rw [mE,hb];rfl
theorem nD:Tri Tryz.prog 101 [] [] (λr=>r= .d (.agg [.bool false, .bool false, .bool false, .bool false, .bool true, .bool false, .bool false, .bool true])):=by
 refine aJ hty Tryz.func101 rfl (kp [0]) [] _ _ _ (by simp [Tryz.f101]) (by simp) ?_
 ((conv=>whnf);repeat' ((first|(intro hq;(try simp only [lnS]at hq);(try rewrite [List.length_map]))|refine sJ ?_|refine .intro _ (.intro rfl ?_)|refine exL (k:= ?_)|refine dwR ?_|((first|refine aB ?_ ?_|refine aC ?_ ?_)<;>intro hb<;>(first|exact ddX hb|try simp only [lnS]at hb))|(refine aA ?_ ?_<;>intro hb<;>try exact dsX hb))<;>(conv=>whnf)))
 rfl
theorem kC (a:At):Tri Tryz.prog 103 [.d (.agg (atR a))] [] (λr=>r= .d (.sl 1 ((if a.kind=2 then [a.x,a.y]else [a.x]).map cE))):=by
 refine aF false [1] hty Tryz.func103 rfl (kp [0,1,2,5]) [] _ _ _ (by simp [Tryz.f103]) (by simp) ?_
 ((conv=>whnf);repeat' ((first|(intro hq;(try simp only [lnS]at hq);(try rewrite [List.length_map]))|refine sJ ?_|refine .intro _ (.intro rfl ?_)|refine exL (k:= ?_)|refine dwR ?_|((first|refine aB ?_ ?_|refine aC ?_ ?_)<;>intro hb<;>(first|exact ddX hb|try simp only [lnS]at hb))|(refine aA ?_ ?_<;>intro hb<;>try exact dsX hb))<;>(conv=>whnf)))
 ·rw [if_pos hb];rfl
 ·rw [if_neg hb];rfl
theorem aP6 {a:At}(h:a.kind < 1\/3 < a.kind):atE a=210:=by unfold atE;rw [if_pos h]
def aOs (k:Int):List SV:=[.d (.bool (decide (k=2))), .d (.bool (decide (k=3)))]
theorem aB1 (nm xx yy:List UInt8) (lo hi:Int):Tri Tryz.prog 63 [.d (.agg [.int .i64 1, .str nm, .str xx, .str yy, .int .i64 lo, .int .i64 hi])] [] (λr=>r= .d (.int .i64 (atE ⟨1,nm,xx,yy,lo,hi⟩))):=by
 have ht:=kC ⟨1,nm,xx,yy,lo,hi⟩
 have hn:=dC nm
 have hx:=eP xx
 have hy:=eP yy
 have he:atE ⟨1,nm,xx,yy,lo,hi⟩=if (¬ yy=[])\/(¬ lo=0\/¬ hi=0)then 210 else if lo < -1099511627776\/hi < lo\/1099511627776 < hi then 210 else if aDg nm=false then 20 else if mE xx=false then 20 else 0:=by
  unfold atE;simp
 rw [he]
 clear he
 rw [show (atR ⟨1,nm,xx,yy,lo,hi⟩)=[.int .i64 1, .str nm, .str xx, .str yy, .int .i64 lo, .int .i64 hi]from rfl,show ((if (⟨1,nm,xx,yy,lo,hi⟩:At).kind=2 then [xx,yy]else [xx]).map cE)=[cE xx]from rfl]at ht
 refine aF false [1] hty Tryz.func63 rfl (kp [0,1,2,3,5,13,40,55,59,61,62,63,64,69]) [] _ _ _ (by simp [Tryz.f63]) (by simp) ?_
 ((conv=>whnf);repeat ((first|(intro hq;try simp only [lnS]at hq)|refine sI ?_|refine .intro _ (.intro rfl ?_));(conv=>whnf)))
 refine aO.mid [(1, .ea 6 [[.int .i64 1, .str nm, .str xx, .str yy, .int .i64 lo, .int .i64 hi]] 0 0),(2, .d (.int .i64 0)),(3, .ptr 3 0)] [(3, .cells 155 (aOs 1))] ?_ ?_
 ·(refine pI (id:=3) hty (.first 1 (.first 2 (.alt 0 (.first 3 (.alt 4 (.alt 5 .done .stop) .stop)) (.alt 4 (.alt 0 (.first 3 (.alt 5 .done .stop)) .stop) .stop)))) (by kernel_rfl) (by kernel_rfl) ?_)
  ((conv=>whnf);repeat' ((first|(intro hq;(try simp only [lnS]at hq);(try rewrite [List.length_map]))|refine sJ ?_|refine .intro _ (.intro rfl ?_)|refine exL (k:= ?_)|(refine aD [] nD trivial (λr hs=> ?_);subst hs)|exact trivial|(refine And.intro ?_ ?_)|refine dwR ?_|((first|refine aB ?_ ?_|refine aC ?_ ?_)<;>intro hb<;>(first|exact ddX hb|try simp only [lnS]at hb))|(refine aA ?_ ?_<;>intro hb<;>try exact dsX hb))<;>(conv=>whnf)))
  all_goals exact⟨by repeat' (first|exact trivial|exact rfl|refine And.intro ?_ ?_),by repeat' (first|exact trivial|exact rfl|refine And.intro ?_ ?_)⟩
 ((conv=>whnf);repeat' ((first|(intro hq;(try simp only [lnS]at hq);(try rewrite [List.length_map]))|refine sJ ?_|refine .intro _ (.intro rfl ?_)|refine exL (k:= ?_)|(refine aD [] ht trivial (λr hs=> ?_);subst hs)|(refine aD [] hn trivial (λr hs=> ?_);subst hs)|(refine aD [] hx trivial (λr hs=> ?_);subst hs)|(refine aD [] hy trivial (λr hs=> ?_);subst hs)|(refine jF hty 3 ?_)|refine dwR ?_|((first|refine aB ?_ ?_|refine aC ?_ ?_)<;>intro hb<;>(first|exact ddX hb|try simp only [lnS]at hb))|(refine aA ?_ ?_<;>intro hb<;>try exact dsX hb))<;>(conv=>whnf)))
 all_goals (refine congrArg (λe=>SV.d (.int .i64 e)) ?_)
 all_goals (first|(simp_all;done)|(simp_all;omega)|skip)
theorem aB0 (nm xx yy:List UInt8) (lo hi:Int):Tri Tryz.prog 63 [.d (.agg [.int .i64 2, .str nm, .str xx, .str yy, .int .i64 lo, .int .i64 hi])] [] (λr=>r= .d (.int .i64 (atE ⟨2,nm,xx,yy,lo,hi⟩))):=by
 have ht:=kC ⟨2,nm,xx,yy,lo,hi⟩
 have hn:=dC nm
 have hx:=eP xx
 have hy:=eP yy
 have he:atE ⟨2,nm,xx,yy,lo,hi⟩=if (¬ lo=0\/¬ hi=0)then 210 else if lo < -1099511627776\/hi < lo\/1099511627776 < hi then 210 else if aDg nm=false then 20 else if mE xx=false then 20 else if mE yy=false then 20 else 0:=by
  unfold atE;simp
 rw [he]
 clear he
 rw [show (atR ⟨2,nm,xx,yy,lo,hi⟩)=[.int .i64 2, .str nm, .str xx, .str yy, .int .i64 lo, .int .i64 hi]from rfl,show ((if (⟨2,nm,xx,yy,lo,hi⟩:At).kind=2 then [xx,yy]else [xx]).map cE)=[cE xx,cE yy]from rfl]at ht
 refine aF false [1] hty Tryz.func63 rfl (kp [0,1,2,3,5,13,40,55,59,61,62,63,64,69]) [] _ _ _ (by simp [Tryz.f63]) (by simp) ?_
 ((conv=>whnf);repeat ((first|(intro hq;try simp only [lnS]at hq)|refine sI ?_|refine .intro _ (.intro rfl ?_));(conv=>whnf)))
 refine aO.mid [(1, .ea 6 [[.int .i64 2, .str nm, .str xx, .str yy, .int .i64 lo, .int .i64 hi]] 0 0),(2, .d (.int .i64 0)),(3, .ptr 3 0)] [(3, .cells 155 (aOs 2))] ?_ ?_
 ·(refine pI (id:=3) hty (.first 1 (.first 2 (.alt 0 (.first 3 (.alt 4 (.alt 5 .done .stop) .stop)) (.alt 4 (.alt 0 (.first 3 (.alt 5 .done .stop)) .stop) .stop)))) (by kernel_rfl) (by kernel_rfl) ?_)
  ((conv=>whnf);repeat' ((first|(intro hq;(try simp only [lnS]at hq);(try rewrite [List.length_map]))|refine sJ ?_|refine .intro _ (.intro rfl ?_)|refine exL (k:= ?_)|(refine aD [] nD trivial (λr hs=> ?_);subst hs)|exact trivial|(refine And.intro ?_ ?_)|refine dwR ?_|((first|refine aB ?_ ?_|refine aC ?_ ?_)<;>intro hb<;>(first|exact ddX hb|try simp only [lnS]at hb))|(refine aA ?_ ?_<;>intro hb<;>try exact dsX hb))<;>(conv=>whnf)))
  all_goals exact⟨by repeat' (first|exact trivial|exact rfl|refine And.intro ?_ ?_),by repeat' (first|exact trivial|exact rfl|refine And.intro ?_ ?_)⟩
 ((conv=>whnf);repeat' ((first|(intro hq;(try simp only [lnS]at hq);(try rewrite [List.length_map]))|refine sJ ?_|refine .intro _ (.intro rfl ?_)|refine exL (k:= ?_)|(refine aD [] ht trivial (λr hs=> ?_);subst hs)|(refine aD [] hn trivial (λr hs=> ?_);subst hs)|(refine aD [] hx trivial (λr hs=> ?_);subst hs)|(refine aD [] hy trivial (λr hs=> ?_);subst hs)|(refine jF hty 3 ?_)|refine dwR ?_|((first|refine aB ?_ ?_|refine aC ?_ ?_)<;>intro hb<;>(first|exact ddX hb|try simp only [lnS]at hb))|(refine aA ?_ ?_<;>intro hb<;>try exact dsX hb))<;>(conv=>whnf)))
 all_goals (refine congrArg (λe=>SV.d (.int .i64 e)) ?_)
 all_goals (first|(simp_all;done)|(simp_all;omega)|skip)
theorem aAz (nm xx yy:List UInt8) (lo hi:Int):Tri Tryz.prog 63 [.d (.agg [.int .i64 3, .str nm, .str xx, .str yy, .int .i64 lo, .int .i64 hi])] [] (λr=>r= .d (.int .i64 (atE ⟨3,nm,xx,yy,lo,hi⟩))):=by
 have ht:=kC ⟨3,nm,xx,yy,lo,hi⟩
 have hn:=dC nm
 have hx:=eP xx
 have hy:=eP yy
 have he:atE ⟨3,nm,xx,yy,lo,hi⟩=if (¬ yy=[])then 210 else if lo < -1099511627776\/hi < lo\/1099511627776 < hi then 210 else if aDg nm=false then 20 else if mE xx=false then 20 else 0:=by
  unfold atE;simp
 rw [he]
 clear he
 rw [show (atR ⟨3,nm,xx,yy,lo,hi⟩)=[.int .i64 3, .str nm, .str xx, .str yy, .int .i64 lo, .int .i64 hi]from rfl,show ((if (⟨3,nm,xx,yy,lo,hi⟩:At).kind=2 then [xx,yy]else [xx]).map cE)=[cE xx]from rfl]at ht
 refine aF false [1] hty Tryz.func63 rfl (kp [0,1,2,3,5,13,40,55,59,61,62,63,64,69]) [] _ _ _ (by simp [Tryz.f63]) (by simp) ?_
 ((conv=>whnf);repeat ((first|(intro hq;try simp only [lnS]at hq)|refine sI ?_|refine .intro _ (.intro rfl ?_));(conv=>whnf)))
 refine aO.mid [(1, .ea 6 [[.int .i64 3, .str nm, .str xx, .str yy, .int .i64 lo, .int .i64 hi]] 0 0),(2, .d (.int .i64 0)),(3, .ptr 3 0)] [(3, .cells 155 (aOs 3))] ?_ ?_
 ·(refine pI (id:=3) hty (.first 1 (.first 2 (.alt 0 (.first 3 (.alt 4 (.alt 5 .done .stop) .stop)) (.alt 4 (.alt 0 (.first 3 (.alt 5 .done .stop)) .stop) .stop)))) (by kernel_rfl) (by kernel_rfl) ?_)
  ((conv=>whnf);repeat' ((first|(intro hq;(try simp only [lnS]at hq);(try rewrite [List.length_map]))|refine sJ ?_|refine .intro _ (.intro rfl ?_)|refine exL (k:= ?_)|(refine aD [] nD trivial (λr hs=> ?_);subst hs)|exact trivial|(refine And.intro ?_ ?_)|refine dwR ?_|((first|refine aB ?_ ?_|refine aC ?_ ?_)<;>intro hb<;>(first|exact ddX hb|try simp only [lnS]at hb))|(refine aA ?_ ?_<;>intro hb<;>try exact dsX hb))<;>(conv=>whnf)))
  all_goals exact⟨by repeat' (first|exact trivial|exact rfl|refine And.intro ?_ ?_),by repeat' (first|exact trivial|exact rfl|refine And.intro ?_ ?_)⟩
 ((conv=>whnf);repeat' ((first|(intro hq;(try simp only [lnS]at hq);(try rewrite [List.length_map]))|refine sJ ?_|refine .intro _ (.intro rfl ?_)|refine exL (k:= ?_)|(refine aD [] ht trivial (λr hs=> ?_);subst hs)|(refine aD [] hn trivial (λr hs=> ?_);subst hs)|(refine aD [] hx trivial (λr hs=> ?_);subst hs)|(refine aD [] hy trivial (λr hs=> ?_);subst hs)|(refine jF hty 3 ?_)|refine dwR ?_|((first|refine aB ?_ ?_|refine aC ?_ ?_)<;>intro hb<;>(first|exact ddX hb|try simp only [lnS]at hb))|(refine aA ?_ ?_<;>intro hb<;>try exact dsX hb))<;>(conv=>whnf)))
 all_goals (refine congrArg (λe=>SV.d (.int .i64 e)) ?_)
 all_goals (first|(simp_all;done)|(simp_all;omega)|skip)
theorem uJ (a:At):Tri Tryz.prog 63 [.d (.agg (atR a))] [] (λr=>r= .d (.int .i64 (atE a))):=by
 obtain⟨kd,nm,xx,yy,lo,hi⟩:=a
 show Tri Tryz.prog 63 [.d (.agg [.int .i64 kd, .str nm, .str xx, .str yy, .int .i64 lo, .int .i64 hi])] [] _
 by_cases hk:kd < 1\/3 < kd
 ·rw [aP6 (by exact hk)]
  refine aF false [1] hty Tryz.func63 rfl (kp [0,1,2,3,5,13,40,55,59,61,62,63,64,69]) [] _ _ _ (by simp [Tryz.f63]) (by simp) ?_
  ((conv=>whnf);repeat' ((first|(intro hq;(try simp only [lnS]at hq);(try rewrite [List.length_map]))|refine sJ ?_|refine .intro _ (.intro rfl ?_)|refine exL (k:= ?_)|refine dwR ?_|((first|refine aB ?_ ?_|refine aC ?_ ?_)<;>intro hb<;>(first|exact ddX hb|try simp only [lnS]at hb))|(refine aA ?_ ?_<;>intro hb<;>try exact dsX hb))<;>(conv=>whnf)))
  all_goals first|rfl|(exfalso;omega)
 have hk3:kd=1\/kd=2\/kd=3:=by omega
 rcases hk3 with rfl|rfl|rfl
 ·exact aB1 nm xx yy lo hi
 ·exact aB0 nm xx yy lo hi
 ·exact aAz nm xx yy lo hi
end Go.Proofs.YtleihcnongldbaaGreatDoor
