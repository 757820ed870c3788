/-
  Queries: variables, individuals, terms; the error of an atom.
  Conditions: none.
-/
import Derived.Test.YtdjfkmkdkclahaaGreatDoorWOh
set_option linter.unnecessarySimpa false
set_option linter.unusedSectionVars false
set_option linter.unusedSimpArgs false
set_option linter.unusedVariables false
set_option maxHeartbeats 16000000
namespace Go.Proofs.YtdjfkmkdkclahaaGreatDoor
open Go.Proofs Go.RowKit
set_option maxRecDepth 10000
attribute [local irreducible] aJ aG Tri aF YVC cA aU
theorem nO (c:UInt8):Tri Tryz.prog 139 [aM7 c] [] (λr=>r= .d (.bool (aA1 c))):=by
 refine aI hty Tryz.func139 rfl (kp [0,2]) [] _ _ _ (by simp [Tryz.f139]) (by simp) ?_
 ((conv=>whnf);repeat' ((first|(intro hq;(try simp only [lnS]at hq);(try rewrite [List.length_map]))|refine sJ ?_|refine .intro _ (.intro rfl ?_)|refine exL (k:= ?_)|refine dwR ?_|((first|refine aC ?_ ?_|refine aD ?_ ?_)<;>intro hb<;>(first|exact ddX hb|try simp only [lnS]at hb))|(refine aB ?_ ?_<;>intro hb<;>try exact dsX hb))<;>(conv=>whnf)))
 all_goals (refine aM (Bool.eq_iff_iff.2 ?_);simp only [aA1,Bool.or_eq_true,decide_eq_true_eq,true_iff,false_iff,Bool.false_eq_true];omega)
theorem aJ1 {s:List UInt8}(h:2<=s.length):sC s=(decide (s.length<=17) && (decide ((s[0].toNat:Int)=63) && aA1 s[1] && (s.drop 2).all cS)):=by
 match s,h with
 |a::b::r,_=>
  have e:decide (a=63)=decide ((a.toNat:Int)=63):=by
   rw [decide_eq_decide]
   have h9:(63:UInt8).toNat=63:=by decide
   constructor
   ·intro e;rw [e];rfl
   ·intro e;exact UInt8.toNat_inj.1 (by omega)
  simp [sC,e]
theorem mH {s:List UInt8}{k:Nat}(h2:2<=k) (h:k < s.length) (hp:cS s[k]=false):(s.drop 2).all cS=false:=by
 refine wA (k:=k - 2) (by rw [List.length_drop];omega) ?_
 rw [List.getElem_drop]
 simpa [show 2+(k - 2)=k by omega]using hp
theorem gK {s:List UInt8}{k:Nat}(h2:2<=k) (h:k < s.length) (hk:((s.drop 2).take (k - 2)).all cS=true) (hp:cS s[k]=true):((s.drop 2).take (k+1 - 2)).all cS=true:=by
 rw [show k+1 - 2=k - 2+1 by omega]
 refine oZ (by rw [List.length_drop];omega) hk ?_
 rw [List.getElem_drop]
 simpa [show 2+(k - 2)=k by omega]using hp
theorem aDl {c:UInt8}(h:(!aA1 c)=true) (h1:¬ (c.toNat:Int)=95) (h2:(c.toNat:Int) < 48\/57 < (c.toNat:Int)):cS c=false:=by
 rw [Bool.not_eq_true']at h
 simp only [cS,h,Bool.false_or,Bool.or_eq_false_iff,decide_eq_false_iff_not];omega
theorem aJ6 {c:UInt8}(h:(c.toNat:Int)=95):cS c=true:=by
 simp only [cS,Bool.or_eq_true,decide_eq_true_eq];left;right;omega
theorem aGf {c:UInt8}(h:48<=(c.toNat:Int)) (h2:(c.toNat:Int)<=57):cS c=true:=by
 simp only [cS,Bool.or_eq_true,decide_eq_true_eq];right;omega
theorem aGe {c:UInt8}(h:(!aA1 c)=false):cS c=true:=by
 rw [Bool.not_eq_false']at h
 simp only [cS,h,Bool.true_or]
theorem iI (s:List UInt8):Tri Tryz.prog 98 [.d (.str s)] [] (λr=>r= .d (.bool (sC s))):=by
 by_cases h2:¬ 2<=s.length
 ·have e:sC s=false:=by unfold sC;rw [decide_eq_false h2,Bool.false_and]
  rw [e]
  refine aI hty Tryz.func98 rfl (kp [0,2,3,4,23,27,47]) [] _ _ _ (by simp [Tryz.f98]) (by simp) ?_
  ((conv=>whnf);repeat' ((first|(intro hq;(try simp only [lnS]at hq);(try rewrite [List.length_map]))|refine sJ ?_|refine .intro _ (.intro rfl ?_)|refine exL (k:= ?_)|refine dwR ?_|((first|refine aC ?_ ?_|refine aD ?_ ?_)<;>intro hb<;>(first|exact ddX hb|try simp only [lnS]at hb))|(refine aB ?_ ?_<;>intro hb<;>try exact dsX hb))<;>(conv=>whnf)))
  all_goals first|rfl|(exfalso;omega)
 have h2:2<=s.length:=by omega
 have e:=aJ1 h2
 refine aI hty Tryz.func98 rfl (kp [0,2,3,4,23,27,47]) [] _ _ _ (by simp [Tryz.f98]) (by simp) ?_
 ((conv=>whnf);repeat' ((first|(intro hq;(try simp only [lnS]at hq);(try rewrite [List.length_map]))|refine sJ ?_|refine .intro _ (.intro rfl ?_)|refine exL (k:= ?_)|(refine⟨_,aDw (by first|omega|(simp only [List.length_map];omega)), ?_⟩)|(refine aA [] (nO _) trivial (λs hs=> ?_);subst hs)|refine dwR ?_|((first|refine aC ?_ ?_|refine aD ?_ ?_)<;>intro hb<;>(first|exact ddX hb|try simp only [lnS]at hb))|(refine aB ?_ ?_<;>intro hb<;>try exact dsX hb))<;>(conv=>whnf)))
 ·refine aM (Eq.symm ?_);rw [e,decide_eq_false (by omega),Bool.false_and]
 ·rename_i hb
  refine aM (Eq.symm ?_);rw [e,decide_eq_false (p:=((s[0].toNat:Int)=63)) hb];simp
 ·rename_i hb
  have hb':aA1 s[1]=false:=by simpa using hb
  refine aM (Eq.symm ?_);rw [e,hb'];simp
 rename_i h17 h63
 have hl':aA1 s[1]=true:=by simpa using hb
 have h63':((s[0].toNat:Int)=63):=h63
 have e':sC s=(s.drop 2).all cS:=by rw [e,decide_eq_true (p:=s.length<=17) (by omega),decide_eq_true h63',hl'];simp
 rw [e']
 refine aP hty (λk:Nat=>([(0, .d (.str s)),(3, .d (.int .i64 k))],[])) (λk=>(2<=k/\k<=s.length)/\((s.drop 2).take (k - 2)).all cS=true) (λk=>s.length - k) 2 (by simp;omega) ⟨by repeat' (first|exact trivial|exact rfl|refine And.intro ?_ ?_),trivial⟩ ?_
 rintro k ⟨⟨hk0,hk⟩,hk2⟩
 ((conv=>whnf);repeat' ((first|(intro hq;(try simp only [lnS]at hq);(try rewrite [List.length_map]))|refine sJ ?_|refine .intro _ (.intro rfl ?_)|refine exL (k:= ?_)|(refine⟨_,aDw (by first|omega|(simp only [List.length_map];omega)), ?_⟩)|(refine aA [] (nO _) trivial (λs hs=> ?_);subst hs)|refine dwR ?_|((first|refine aC ?_ ?_|refine aD ?_ ?_)<;>intro hb<;>(first|exact ddX hb|try simp only [lnS]at hb))|(refine aB ?_ ?_<;>intro hb<;>try exact dsX hb))<;>(conv=>whnf)))
 ·rename_i h1 h2 h3
  have hkl:k < s.length:=by omega
  refine aM (Eq.symm (mH (k:=k) hk0 hkl (aDl (c:=s[(k:Int).toNat]) h2 hb (by omega))))
 ·rename_i h1 h2 h3 h4
  have hkl:k < s.length:=by omega
  refine aM (Eq.symm (mH (k:=k) hk0 hkl (aDl (c:=s[(k:Int).toNat]) h2 hb (by omega))))
 ·have hkl:k < s.length:=by omega
  exact⟨k+1,⟨⟨by omega,by omega⟩,gK hk0 hkl hk2 (aJ6 hb)⟩,by dsimp only;omega,by repeat' (first|exact trivial|exact rfl|refine And.intro ?_ ?_),trivial⟩
 ·have hkl:k < s.length:=by omega
  exact⟨k+1,⟨⟨by omega,by omega⟩,gK hk0 hkl hk2 (aGf (c:=s[(k:Int).toNat]) (by omega) (by omega))⟩,by dsimp only;omega,by repeat' (first|exact trivial|exact rfl|refine And.intro ?_ ?_),trivial⟩
 ·have hkl:k < s.length:=by omega
  exact⟨k+1,⟨⟨by omega,by omega⟩,gK hk0 hkl hk2 (aGe hb)⟩,by dsimp only;omega,by repeat' (first|exact trivial|exact rfl|refine And.intro ?_ ?_),trivial⟩
 ·rw [List.take_of_length_le (by rw [List.length_drop];omega)]at hk2
  rw [hk2];rfl
theorem aNa (c:UInt8) (s:List UInt8):([c]:List UInt8).isPrefixOf s=decide (s.head?=some c):=by
 cases s with
 |nil=>rfl
 |cons a r=>
  show (c==a && true)=_
  rw [Bool.and_true,Bool.eq_iff_iff,beq_iff_eq,decide_eq_true_eq,List.head?_cons,Option.some.injEq]
  exact eq_comm
theorem cM (s:List UInt8):Tri Tryz.prog 95 [.d (.str s)] [] (λr=>r= .d (.bool (aCv s))):=by
 refine aI hty Tryz.func95 rfl (kp [0,2]) [] _ _ _ (by simp [Tryz.f95]) (by simp) ?_
 ((conv=>whnf);repeat' ((first|(intro hq;(try simp only [lnS]at hq);(try rewrite [List.length_map]))|refine sJ ?_|refine .intro _ (.intro rfl ?_)|refine exL (k:= ?_)|(refine aA [] (fN _) trivial (λs hs=> ?_);subst hs)|(refine aA [] (fM _ _) trivial (λs hs=> ?_);subst hs)|refine dwR ?_|((first|refine aC ?_ ?_|refine aD ?_ ?_)<;>intro hb<;>(first|exact ddX hb|try simp only [lnS]at hb))|(refine aB ?_ ?_<;>intro hb<;>try exact dsX hb))<;>(conv=>whnf)))
 ·have hn:fB s=true:=by
   cases h:fB s
   ·rw [h]at hb;exact absurd hb (by decide)
   ·rfl
  refine aM ?_
  rw [aCv,hn,Bool.true_and]
  exact congrArg _ (aNa 95 s)
 ·have hn:fB s=false:=by
   cases h:fB s
   ·rfl
   ·rw [h]at hb;exact absurd rfl hb
  refine aM ?_
  rw [aCv,hn];rfl
theorem aEf (s:List UInt8):aW s=([63]:List UInt8).isPrefixOf s:=(aNa 63 s).symm
theorem dG (s:List UInt8):Tri Tryz.prog 66 [.d (.str s)] [] (λr=>r= .d (.bool (aW s))):=by
 rw [aEf]
 refine aI hty Tryz.func66 rfl (kp [0,2]) [] _ _ _ (by simp [Tryz.f66]) (by simp) ?_
 ((conv=>whnf);repeat' ((first|(intro hq;(try simp only [lnS]at hq);(try rewrite [List.length_map]))|refine sJ ?_|refine .intro _ (.intro rfl ?_)|refine exL (k:= ?_)|(refine aA [] (fM _ _) trivial (λs hs=> ?_);subst hs)|refine dwR ?_|((first|refine aC ?_ ?_|refine aD ?_ ?_)<;>intro hb<;>(first|exact ddX hb|try simp only [lnS]at hb))|(refine aB ?_ ?_<;>intro hb<;>try exact dsX hb))<;>(conv=>whnf)))
 rfl
theorem dO (s:List UInt8):Tri Tryz.prog 97 [.d (.str s)] [] (λr=>r= .d (.bool (eF s))):=by
 refine aI hty Tryz.func97 rfl (kp [0,2]) [] _ _ _ (by simp [Tryz.f97]) (by simp) ?_
 ((conv=>whnf);repeat' ((first|(intro hq;(try simp only [lnS]at hq);(try rewrite [List.length_map]))|refine sJ ?_|refine .intro _ (.intro rfl ?_)|refine exL (k:= ?_)|(refine aA [] (iI _) trivial (λs hs=> ?_);subst hs)|(refine aA [] (cM _) trivial (λs hs=> ?_);subst hs)|refine dwR ?_|((first|refine aC ?_ ?_|refine aD ?_ ?_)<;>intro hb<;>(first|exact ddX hb|try simp only [lnS]at hb))|(refine aB ?_ ?_<;>intro hb<;>try exact dsX hb))<;>(conv=>whnf)))
 ·refine aM ?_
  rw [eF,hb];rfl
 ·refine aM ?_
  rw [eF,hb];rfl
theorem jR:Tri Tryz.prog 94 [] [] (λr=>r= .d (.agg [.bool false, .bool false, .bool false, .bool false, .bool true, .bool false, .bool false, .bool true])):=by
 refine aI hty Tryz.func94 rfl (kp [0]) [] _ _ _ (by simp [Tryz.f94]) (by simp) ?_
 ((conv=>whnf);repeat' ((first|(intro hq;(try simp only [lnS]at hq);(try rewrite [List.length_map]))|refine sJ ?_|refine .intro _ (.intro rfl ?_)|refine exL (k:= ?_)|refine dwR ?_|((first|refine aC ?_ ?_|refine aD ?_ ?_)<;>intro hb<;>(first|exact ddX hb|try simp only [lnS]at hb))|(refine aB ?_ ?_<;>intro hb<;>try exact dsX hb))<;>(conv=>whnf)))
 rfl
theorem gZ (a:At):Tri Tryz.prog 96 [.d (.agg (atR a))] [] (λr=>r= .d (.sl 1 ((if a.kind=2 then [a.x,a.y]else [a.x]).map bQ))):=by
 refine aH false [1] hty Tryz.func96 rfl (kp [0,1,2,5]) [] _ _ _ (by simp [Tryz.f96]) (by simp) ?_
 ((conv=>whnf);repeat' ((first|(intro hq;(try simp only [lnS]at hq);(try rewrite [List.length_map]))|refine sJ ?_|refine .intro _ (.intro rfl ?_)|refine exL (k:= ?_)|refine dwR ?_|((first|refine aC ?_ ?_|refine aD ?_ ?_)<;>intro hb<;>(first|exact ddX hb|try simp only [lnS]at hb))|(refine aB ?_ ?_<;>intro hb<;>try exact dsX hb))<;>(conv=>whnf)))
 ·rw [if_pos hb];rfl
 ·rw [if_neg hb];rfl
theorem aNz {a:At}(h:a.kind < 1\/3 < a.kind):atE a=210:=by unfold atE;rw [if_pos h]
def aNi (k:Int):List SV:=[.d (.bool (decide (k=2))), .d (.bool (decide (k=3)))]
theorem aAh (nm xx yy:List UInt8) (lo hi:Int):Tri Tryz.prog 61 [.d (.agg [.int .i64 1, .str nm, .str xx, .str yy, .int .i64 lo, .int .i64 hi])] [] (λr=>r= .d (.int .i64 (atE ⟨1,nm,xx,yy,lo,hi⟩))):=by
 have ht:=gZ ⟨1,nm,xx,yy,lo,hi⟩
 have hn:=cM nm
 have hx:=dO xx
 have hy:=dO yy
 have he:atE ⟨1,nm,xx,yy,lo,hi⟩=if (¬ yy=[])\/(¬ lo=0\/¬ hi=0)then 210 else if lo < -1099511627776\/hi < lo\/1099511627776 < hi then 210 else if aCv nm=false then 20 else if eF xx=false then 20 else 0:=by
  unfold atE;simp
 rw [he]
 clear he
 rw [show (atR ⟨1,nm,xx,yy,lo,hi⟩)=[.int .i64 1, .str nm, .str xx, .str yy, .int .i64 lo, .int .i64 hi]from rfl,show ((if (⟨1,nm,xx,yy,lo,hi⟩:At).kind=2 then [xx,yy]else [xx]).map bQ)=[bQ xx]from rfl]at ht
 refine aH false [1] hty Tryz.func61 rfl (kp [0,1,2,3,5,13,40,55,59,61,62,63,64,69]) [] _ _ _ (by simp [Tryz.f61]) (by simp) ?_
 ((conv=>whnf);repeat ((first|(intro hq;try simp only [lnS]at hq)|refine sI ?_|refine .intro _ (.intro rfl ?_));(conv=>whnf)))
 refine aJ.mid [(1, .ea 6 [[.int .i64 1, .str nm, .str xx, .str yy, .int .i64 lo, .int .i64 hi]] 0 0),(2, .d (.int .i64 0)),(3, .ptr 3 0)] [(3, .cells 130 (aNi 1))] ?_ ?_
 ·(refine dJ (id:=3) hty (.first 1 (.first 2 (.alt 0 (.first 3 (.alt 4 (.alt 5 .done .stop) .stop)) (.alt 4 (.alt 0 (.first 3 (.alt 5 .done .stop)) .stop) .stop)))) (by kernel_rfl) (by kernel_rfl) ?_)
  ((conv=>whnf);repeat' ((first|(intro hq;(try simp only [lnS]at hq);(try rewrite [List.length_map]))|refine sJ ?_|refine .intro _ (.intro rfl ?_)|refine exL (k:= ?_)|(refine aA [] jR trivial (λr hs=> ?_);subst hs)|exact trivial|(refine And.intro ?_ ?_)|refine dwR ?_|((first|refine aC ?_ ?_|refine aD ?_ ?_)<;>intro hb<;>(first|exact ddX hb|try simp only [lnS]at hb))|(refine aB ?_ ?_<;>intro hb<;>try exact dsX hb))<;>(conv=>whnf)))
  all_goals exact⟨by repeat' (first|exact trivial|exact rfl|refine And.intro ?_ ?_),by repeat' (first|exact trivial|exact rfl|refine And.intro ?_ ?_)⟩
 ((conv=>whnf);repeat' ((first|(intro hq;(try simp only [lnS]at hq);(try rewrite [List.length_map]))|refine sJ ?_|refine .intro _ (.intro rfl ?_)|refine exL (k:= ?_)|(refine aA [] ht trivial (λr hs=> ?_);subst hs)|(refine aA [] hn trivial (λr hs=> ?_);subst hs)|(refine aA [] hx trivial (λr hs=> ?_);subst hs)|(refine aA [] hy trivial (λr hs=> ?_);subst hs)|(refine gP hty 3 ?_)|refine dwR ?_|((first|refine aC ?_ ?_|refine aD ?_ ?_)<;>intro hb<;>(first|exact ddX hb|try simp only [lnS]at hb))|(refine aB ?_ ?_<;>intro hb<;>try exact dsX hb))<;>(conv=>whnf)))
 all_goals (refine congrArg (λe=>SV.d (.int .i64 e)) ?_)
 all_goals (first|(simp_all;done)|(simp_all;omega)|skip)
theorem aAg (nm xx yy:List UInt8) (lo hi:Int):Tri Tryz.prog 61 [.d (.agg [.int .i64 2, .str nm, .str xx, .str yy, .int .i64 lo, .int .i64 hi])] [] (λr=>r= .d (.int .i64 (atE ⟨2,nm,xx,yy,lo,hi⟩))):=by
 have ht:=gZ ⟨2,nm,xx,yy,lo,hi⟩
 have hn:=cM nm
 have hx:=dO xx
 have hy:=dO yy
 have he:atE ⟨2,nm,xx,yy,lo,hi⟩=if (¬ lo=0\/¬ hi=0)then 210 else if lo < -1099511627776\/hi < lo\/1099511627776 < hi then 210 else if aCv nm=false then 20 else if eF xx=false then 20 else if eF yy=false then 20 else 0:=by
  unfold atE;simp
 rw [he]
 clear he
 rw [show (atR ⟨2,nm,xx,yy,lo,hi⟩)=[.int .i64 2, .str nm, .str xx, .str yy, .int .i64 lo, .int .i64 hi]from rfl,show ((if (⟨2,nm,xx,yy,lo,hi⟩:At).kind=2 then [xx,yy]else [xx]).map bQ)=[bQ xx,bQ yy]from rfl]at ht
 refine aH false [1] hty Tryz.func61 rfl (kp [0,1,2,3,5,13,40,55,59,61,62,63,64,69]) [] _ _ _ (by simp [Tryz.f61]) (by simp) ?_
 ((conv=>whnf);repeat ((first|(intro hq;try simp only [lnS]at hq)|refine sI ?_|refine .intro _ (.intro rfl ?_));(conv=>whnf)))
 refine aJ.mid [(1, .ea 6 [[.int .i64 2, .str nm, .str xx, .str yy, .int .i64 lo, .int .i64 hi]] 0 0),(2, .d (.int .i64 0)),(3, .ptr 3 0)] [(3, .cells 130 (aNi 2))] ?_ ?_
 ·(refine dJ (id:=3) hty (.first 1 (.first 2 (.alt 0 (.first 3 (.alt 4 (.alt 5 .done .stop) .stop)) (.alt 4 (.alt 0 (.first 3 (.alt 5 .done .stop)) .stop) .stop)))) (by kernel_rfl) (by kernel_rfl) ?_)
  ((conv=>whnf);repeat' ((first|(intro hq;(try simp only [lnS]at hq);(try rewrite [List.length_map]))|refine sJ ?_|refine .intro _ (.intro rfl ?_)|refine exL (k:= ?_)|(refine aA [] jR trivial (λr hs=> ?_);subst hs)|exact trivial|(refine And.intro ?_ ?_)|refine dwR ?_|((first|refine aC ?_ ?_|refine aD ?_ ?_)<;>intro hb<;>(first|exact ddX hb|try simp only [lnS]at hb))|(refine aB ?_ ?_<;>intro hb<;>try exact dsX hb))<;>(conv=>whnf)))
  all_goals exact⟨by repeat' (first|exact trivial|exact rfl|refine And.intro ?_ ?_),by repeat' (first|exact trivial|exact rfl|refine And.intro ?_ ?_)⟩
 ((conv=>whnf);repeat' ((first|(intro hq;(try simp only [lnS]at hq);(try rewrite [List.length_map]))|refine sJ ?_|refine .intro _ (.intro rfl ?_)|refine exL (k:= ?_)|(refine aA [] ht trivial (λr hs=> ?_);subst hs)|(refine aA [] hn trivial (λr hs=> ?_);subst hs)|(refine aA [] hx trivial (λr hs=> ?_);subst hs)|(refine aA [] hy trivial (λr hs=> ?_);subst hs)|(refine gP hty 3 ?_)|refine dwR ?_|((first|refine aC ?_ ?_|refine aD ?_ ?_)<;>intro hb<;>(first|exact ddX hb|try simp only [lnS]at hb))|(refine aB ?_ ?_<;>intro hb<;>try exact dsX hb))<;>(conv=>whnf)))
 all_goals (refine congrArg (λe=>SV.d (.int .i64 e)) ?_)
 all_goals (first|(simp_all;done)|(simp_all;omega)|skip)
theorem aAf (nm xx yy:List UInt8) (lo hi:Int):Tri Tryz.prog 61 [.d (.agg [.int .i64 3, .str nm, .str xx, .str yy, .int .i64 lo, .int .i64 hi])] [] (λr=>r= .d (.int .i64 (atE ⟨3,nm,xx,yy,lo,hi⟩))):=by
 have ht:=gZ ⟨3,nm,xx,yy,lo,hi⟩
 have hn:=cM nm
 have hx:=dO xx
 have hy:=dO yy
 have he:atE ⟨3,nm,xx,yy,lo,hi⟩=if (¬ yy=[])then 210 else if lo < -1099511627776\/hi < lo\/1099511627776 < hi then 210 else if aCv nm=false then 20 else if eF xx=false then 20 else 0:=by
  unfold atE;simp
 rw [he]
 clear he
 rw [show (atR ⟨3,nm,xx,yy,lo,hi⟩)=[.int .i64 3, .str nm, .str xx, .str yy, .int .i64 lo, .int .i64 hi]from rfl,show ((if (⟨3,nm,xx,yy,lo,hi⟩:At).kind=2 then [xx,yy]else [xx]).map bQ)=[bQ xx]from rfl]at ht
 refine aH false [1] hty Tryz.func61 rfl (kp [0,1,2,3,5,13,40,55,59,61,62,63,64,69]) [] _ _ _ (by simp [Tryz.f61]) (by simp) ?_
 ((conv=>whnf);repeat ((first|(intro hq;try simp only [lnS]at hq)|refine sI ?_|refine .intro _ (.intro rfl ?_));(conv=>whnf)))
 refine aJ.mid [(1, .ea 6 [[.int .i64 3, .str nm, .str xx, .str yy, .int .i64 lo, .int .i64 hi]] 0 0),(2, .d (.int .i64 0)),(3, .ptr 3 0)] [(3, .cells 130 (aNi 3))] ?_ ?_
 ·(refine dJ (id:=3) hty (.first 1 (.first 2 (.alt 0 (.first 3 (.alt 4 (.alt 5 .done .stop) .stop)) (.alt 4 (.alt 0 (.first 3 (.alt 5 .done .stop)) .stop) .stop)))) (by kernel_rfl) (by kernel_rfl) ?_)
  ((conv=>whnf);repeat' ((first|(intro hq;(try simp only [lnS]at hq);(try rewrite [List.length_map]))|refine sJ ?_|refine .intro _ (.intro rfl ?_)|refine exL (k:= ?_)|(refine aA [] jR trivial (λr hs=> ?_);subst hs)|exact trivial|(refine And.intro ?_ ?_)|refine dwR ?_|((first|refine aC ?_ ?_|refine aD ?_ ?_)<;>intro hb<;>(first|exact ddX hb|try simp only [lnS]at hb))|(refine aB ?_ ?_<;>intro hb<;>try exact dsX hb))<;>(conv=>whnf)))
  all_goals exact⟨by repeat' (first|exact trivial|exact rfl|refine And.intro ?_ ?_),by repeat' (first|exact trivial|exact rfl|refine And.intro ?_ ?_)⟩
 ((conv=>whnf);repeat' ((first|(intro hq;(try simp only [lnS]at hq);(try rewrite [List.length_map]))|refine sJ ?_|refine .intro _ (.intro rfl ?_)|refine exL (k:= ?_)|(refine aA [] ht trivial (λr hs=> ?_);subst hs)|(refine aA [] hn trivial (λr hs=> ?_);subst hs)|(refine aA [] hx trivial (λr hs=> ?_);subst hs)|(refine aA [] hy trivial (λr hs=> ?_);subst hs)|(refine gP hty 3 ?_)|refine dwR ?_|((first|refine aC ?_ ?_|refine aD ?_ ?_)<;>intro hb<;>(first|exact ddX hb|try simp only [lnS]at hb))|(refine aB ?_ ?_<;>intro hb<;>try exact dsX hb))<;>(conv=>whnf)))
 all_goals (refine congrArg (λe=>SV.d (.int .i64 e)) ?_)
 all_goals (first|(simp_all;done)|(simp_all;omega)|skip)
theorem tH (a:At):Tri Tryz.prog 61 [.d (.agg (atR a))] [] (λr=>r= .d (.int .i64 (atE a))):=by
 obtain⟨kd,nm,xx,yy,lo,hi⟩:=a
 show Tri Tryz.prog 61 [.d (.agg [.int .i64 kd, .str nm, .str xx, .str yy, .int .i64 lo, .int .i64 hi])] [] _
 by_cases hk:kd < 1\/3 < kd
 ·rw [aNz (by exact hk)]
  refine aH false [1] hty Tryz.func61 rfl (kp [0,1,2,3,5,13,40,55,59,61,62,63,64,69]) [] _ _ _ (by simp [Tryz.f61]) (by simp) ?_
  ((conv=>whnf);repeat' ((first|(intro hq;(try simp only [lnS]at hq);(try rewrite [List.length_map]))|refine sJ ?_|refine .intro _ (.intro rfl ?_)|refine exL (k:= ?_)|refine dwR ?_|((first|refine aC ?_ ?_|refine aD ?_ ?_)<;>intro hb<;>(first|exact ddX hb|try simp only [lnS]at hb))|(refine aB ?_ ?_<;>intro hb<;>try exact dsX hb))<;>(conv=>whnf)))
  all_goals first|rfl|(exfalso;omega)
 have hk3:kd=1\/kd=2\/kd=3:=by omega
 rcases hk3 with rfl|rfl|rfl
 ·exact aAh nm xx yy lo hi
 ·exact aAg nm xx yy lo hi
 ·exact aAf nm xx yy lo hi
end Go.Proofs.YtdjfkmkdkclahaaGreatDoor
