/-
  Queries: variables, individuals, terms; the error of an atom.
  Conditions: none.
-/
import Derived.Test.YtdjfkmkdkclahaaGreatDoorVOh
set_option linter.unnecessarySimpa false
set_option linter.unusedSectionVars false
set_option linter.unusedSimpArgs false
set_option linter.unusedVariables false
set_option maxHeartbeats 16000000
namespace Go.Proofs.YtdjfkmkdkclahaaGreatDoor
open Go.Proofs Go.RowKit
set_option maxRecDepth 10000
attribute [local irreducible] aL aH Tri aI YVC bP aS
theorem uO (c:UInt8):Tri Tryz.prog 139 [aJt c] [] (λr=>r= .d (.bool (qJ c))):=by
 refine aF hty Tryz.func139 rfl (kp [0,2]) [] _ _ _ (by simp [Tryz.f139]) (by simp) ?_
 ((conv=>whnf);repeat' ((first|(intro hq;(try simp only [lnS]at hq);(try rewrite [List.length_map]))|refine sJ ?_|refine .intro _ (.intro rfl ?_)|refine exL (k:= ?_)|refine dwR ?_|((first|refine aC ?_ ?_|refine aD ?_ ?_)<;>intro hb<;>(first|exact ddX hb|try simp only [lnS]at hb))|(refine aB ?_ ?_<;>intro hb<;>try exact dsX hb))<;>(conv=>whnf)))
 all_goals (refine aN (Bool.eq_iff_iff.2 ?_);simp only [qJ,Bool.or_eq_true,decide_eq_true_eq,true_iff,false_iff,Bool.false_eq_true];omega)
theorem aK7 {s:List UInt8}(h:2<=s.length):mW s=(decide (s.length<=17) && (decide ((s[0].toNat:Int)=63) && qJ s[1] && (s.drop 2).all cH)):=by
 match s,h with
 |a::b::r,_=>
  have e:decide (a=63)=decide ((a.toNat:Int)=63):=by
   rw [decide_eq_decide]
   have h9:(63:UInt8).toNat=63:=by decide
   constructor
   ·intro e;rw [e];rfl
   ·intro e;exact UInt8.toNat_inj.1 (by omega)
  simp [mW,e]
theorem jG {s:List UInt8}{k:Nat}(h2:2<=k) (h:k < s.length) (hp:cH s[k]=false):(s.drop 2).all cH=false:=by
 refine sE (k:=k - 2) (by rw [List.length_drop];omega) ?_
 rw [List.getElem_drop]
 simpa [show 2+(k - 2)=k by omega]using hp
theorem fK {s:List UInt8}{k:Nat}(h2:2<=k) (h:k < s.length) (hk:((s.drop 2).take (k - 2)).all cH=true) (hp:cH s[k]=true):((s.drop 2).take (k+1 - 2)).all cH=true:=by
 rw [show k+1 - 2=k - 2+1 by omega]
 refine lV (by rw [List.length_drop];omega) hk ?_
 rw [List.getElem_drop]
 simpa [show 2+(k - 2)=k by omega]using hp
theorem aKn {c:UInt8}(h:(!qJ c)=true) (h1:¬ (c.toNat:Int)=95) (h2:(c.toNat:Int) < 48\/57 < (c.toNat:Int)):cH c=false:=by
 rw [Bool.not_eq_true']at h
 simp only [cH,h,Bool.false_or,Bool.or_eq_false_iff,decide_eq_false_iff_not];omega
theorem aRl {c:UInt8}(h:(c.toNat:Int)=95):cH c=true:=by
 simp only [cH,Bool.or_eq_true,decide_eq_true_eq];left;right;omega
theorem aO6 {c:UInt8}(h:48<=(c.toNat:Int)) (h2:(c.toNat:Int)<=57):cH c=true:=by
 simp only [cH,Bool.or_eq_true,decide_eq_true_eq];right;omega
theorem aO5 {c:UInt8}(h:(!qJ c)=false):cH c=true:=by
 rw [Bool.not_eq_false']at h
 simp only [cH,h,Bool.true_or]
theorem kW (s:List UInt8):Tri Tryz.prog 98 [.d (.str s)] [] (λr=>r= .d (.bool (mW s))):=by
 by_cases h2:¬ 2<=s.length
 ·have e:mW s=false:=by unfold mW;rw [decide_eq_false h2,Bool.false_and]
  rw [e]
  refine aF hty Tryz.func98 rfl (kp [0,2,3,4,23,27,47]) [] _ _ _ (by simp [Tryz.f98]) (by simp) ?_
  ((conv=>whnf);repeat' ((first|(intro hq;(try simp only [lnS]at hq);(try rewrite [List.length_map]))|refine sJ ?_|refine .intro _ (.intro rfl ?_)|refine exL (k:= ?_)|refine dwR ?_|((first|refine aC ?_ ?_|refine aD ?_ ?_)<;>intro hb<;>(first|exact ddX hb|try simp only [lnS]at hb))|(refine aB ?_ ?_<;>intro hb<;>try exact dsX hb))<;>(conv=>whnf)))
  all_goals first|rfl|(exfalso;omega)
 have h2:2<=s.length:=by omega
 have e:=aK7 h2
 refine aF hty Tryz.func98 rfl (kp [0,2,3,4,23,27,47]) [] _ _ _ (by simp [Tryz.f98]) (by simp) ?_
 ((conv=>whnf);repeat' ((first|(intro hq;(try simp only [lnS]at hq);(try rewrite [List.length_map]))|refine sJ ?_|refine .intro _ (.intro rfl ?_)|refine exL (k:= ?_)|(refine⟨_,pT (by first|omega|(simp only [List.length_map];omega)), ?_⟩)|(refine aA [] (uO _) trivial (λs hs=> ?_);subst hs)|refine dwR ?_|((first|refine aC ?_ ?_|refine aD ?_ ?_)<;>intro hb<;>(first|exact ddX hb|try simp only [lnS]at hb))|(refine aB ?_ ?_<;>intro hb<;>try exact dsX hb))<;>(conv=>whnf)))
 ·refine aN (Eq.symm ?_);rw [e,decide_eq_false (by omega),Bool.false_and]
 ·rename_i hb
  refine aN (Eq.symm ?_);rw [e,decide_eq_false (p:=((s[0].toNat:Int)=63)) hb];simp
 ·rename_i hb
  have hb':qJ s[1]=false:=by simpa using hb
  refine aN (Eq.symm ?_);rw [e,hb'];simp
 rename_i h17 h63
 have hl':qJ s[1]=true:=by simpa using hb
 have h63':((s[0].toNat:Int)=63):=h63
 have e':mW s=(s.drop 2).all cH:=by rw [e,decide_eq_true (p:=s.length<=17) (by omega),decide_eq_true h63',hl'];simp
 rw [e']
 refine aJ hty (λk:Nat=>([(0, .d (.str s)),(3, .d (.int .i64 k))],[])) (λk=>(2<=k/\k<=s.length)/\((s.drop 2).take (k - 2)).all cH=true) (λk=>s.length - k) 2 (by simp;omega) ⟨by repeat' (first|exact trivial|exact rfl|refine And.intro ?_ ?_),trivial⟩ ?_
 rintro k ⟨⟨hk0,hk⟩,hk2⟩
 ((conv=>whnf);repeat' ((first|(intro hq;(try simp only [lnS]at hq);(try rewrite [List.length_map]))|refine sJ ?_|refine .intro _ (.intro rfl ?_)|refine exL (k:= ?_)|(refine⟨_,pT (by first|omega|(simp only [List.length_map];omega)), ?_⟩)|(refine aA [] (uO _) trivial (λs hs=> ?_);subst hs)|refine dwR ?_|((first|refine aC ?_ ?_|refine aD ?_ ?_)<;>intro hb<;>(first|exact ddX hb|try simp only [lnS]at hb))|(refine aB ?_ ?_<;>intro hb<;>try exact dsX hb))<;>(conv=>whnf)))
 ·rename_i h1 h2 h3
  have hkl:k < s.length:=by omega
  refine aN (Eq.symm (jG (k:=k) hk0 hkl (aKn (c:=s[(k:Int).toNat]) h2 hb (by omega))))
 ·rename_i h1 h2 h3 h4
  have hkl:k < s.length:=by omega
  refine aN (Eq.symm (jG (k:=k) hk0 hkl (aKn (c:=s[(k:Int).toNat]) h2 hb (by omega))))
 ·have hkl:k < s.length:=by omega
  exact⟨k+1,⟨⟨by omega,by omega⟩,fK hk0 hkl hk2 (aRl hb)⟩,by dsimp only;omega,by repeat' (first|exact trivial|exact rfl|refine And.intro ?_ ?_),trivial⟩
 ·have hkl:k < s.length:=by omega
  exact⟨k+1,⟨⟨by omega,by omega⟩,fK hk0 hkl hk2 (aO6 (c:=s[(k:Int).toNat]) (by omega) (by omega))⟩,by dsimp only;omega,by repeat' (first|exact trivial|exact rfl|refine And.intro ?_ ?_),trivial⟩
 ·have hkl:k < s.length:=by omega
  exact⟨k+1,⟨⟨by omega,by omega⟩,fK hk0 hkl hk2 (aO5 hb)⟩,by dsimp only;omega,by repeat' (first|exact trivial|exact rfl|refine And.intro ?_ ?_),trivial⟩
 ·rw [List.take_of_length_le (by rw [List.length_drop];omega)]at hk2
  rw [hk2];rfl
theorem aW7 (c:UInt8) (s:List UInt8):([c]:List UInt8).isPrefixOf s=decide (s.head?=some c):=by
 cases s with
 |nil=>rfl
 |cons a r=>
  show (c==a && true)=_
  rw [Bool.and_true,Bool.eq_iff_iff,beq_iff_eq,decide_eq_true_eq,List.head?_cons,Option.some.injEq]
  exact eq_comm
theorem cY (s:List UInt8):Tri Tryz.prog 95 [.d (.str s)] [] (λr=>r= .d (.bool (aDk s))):=by
 refine aF hty Tryz.func95 rfl (kp [0,2]) [] _ _ _ (by simp [Tryz.f95]) (by simp) ?_
 ((conv=>whnf);repeat' ((first|(intro hq;(try simp only [lnS]at hq);(try rewrite [List.length_map]))|refine sJ ?_|refine .intro _ (.intro rfl ?_)|refine exL (k:= ?_)|(refine aA [] (hG _) trivial (λs hs=> ?_);subst hs)|(refine aA [] (hC _ _) trivial (λs hs=> ?_);subst hs)|refine dwR ?_|((first|refine aC ?_ ?_|refine aD ?_ ?_)<;>intro hb<;>(first|exact ddX hb|try simp only [lnS]at hb))|(refine aB ?_ ?_<;>intro hb<;>try exact dsX hb))<;>(conv=>whnf)))
 ·have hn:cT s=true:=by
   cases h:cT s
   ·rw [h]at hb;exact absurd hb (by decide)
   ·rfl
  refine aN ?_
  rw [aDk,hn,Bool.true_and]
  exact congrArg _ (aW7 95 s)
 ·have hn:cT s=false:=by
   cases h:cT s
   ·rfl
   ·rw [h]at hb;exact absurd rfl hb
  refine aN ?_
  rw [aDk,hn];rfl
theorem aLr (s:List UInt8):bE s=([63]:List UInt8).isPrefixOf s:=(aW7 63 s).symm
theorem eC (s:List UInt8):Tri Tryz.prog 66 [.d (.str s)] [] (λr=>r= .d (.bool (bE s))):=by
 rw [aLr]
 refine aF hty Tryz.func66 rfl (kp [0,2]) [] _ _ _ (by simp [Tryz.f66]) (by simp) ?_
 ((conv=>whnf);repeat' ((first|(intro hq;(try simp only [lnS]at hq);(try rewrite [List.length_map]))|refine sJ ?_|refine .intro _ (.intro rfl ?_)|refine exL (k:= ?_)|(refine aA [] (hC _ _) trivial (λs hs=> ?_);subst hs)|refine dwR ?_|((first|refine aC ?_ ?_|refine aD ?_ ?_)<;>intro hb<;>(first|exact ddX hb|try simp only [lnS]at hb))|(refine aB ?_ ?_<;>intro hb<;>try exact dsX hb))<;>(conv=>whnf)))
 rfl
theorem eM (s:List UInt8):Tri Tryz.prog 97 [.d (.str s)] [] (λr=>r= .d (.bool (fQ s))):=by
 refine aF hty Tryz.func97 rfl (kp [0,2]) [] _ _ _ (by simp [Tryz.f97]) (by simp) ?_
 ((conv=>whnf);repeat' ((first|(intro hq;(try simp only [lnS]at hq);(try rewrite [List.length_map]))|refine sJ ?_|refine .intro _ (.intro rfl ?_)|refine exL (k:= ?_)|(refine aA [] (kW _) trivial (λs hs=> ?_);subst hs)|(refine aA [] (cY _) trivial (λs hs=> ?_);subst hs)|refine dwR ?_|((first|refine aC ?_ ?_|refine aD ?_ ?_)<;>intro hb<;>(first|exact ddX hb|try simp only [lnS]at hb))|(refine aB ?_ ?_<;>intro hb<;>try exact dsX hb))<;>(conv=>whnf)))
 ·refine aN ?_
  rw [fQ,hb];rfl
 ·refine aN ?_
  rw [fQ,hb];rfl
theorem nA:Tri Tryz.prog 94 [] [] (λr=>r= .d (.agg [.bool false, .bool false, .bool false, .bool false, .bool true, .bool false, .bool false, .bool true])):=by
 refine aF hty Tryz.func94 rfl (kp [0]) [] _ _ _ (by simp [Tryz.f94]) (by simp) ?_
 ((conv=>whnf);repeat' ((first|(intro hq;(try simp only [lnS]at hq);(try rewrite [List.length_map]))|refine sJ ?_|refine .intro _ (.intro rfl ?_)|refine exL (k:= ?_)|refine dwR ?_|((first|refine aC ?_ ?_|refine aD ?_ ?_)<;>intro hb<;>(first|exact ddX hb|try simp only [lnS]at hb))|(refine aB ?_ ?_<;>intro hb<;>try exact dsX hb))<;>(conv=>whnf)))
 rfl
theorem kE (a:At):Tri Tryz.prog 96 [.d (.agg (atR a))] [] (λr=>r= .d (.sl 1 ((if a.kind=2 then [a.x,a.y]else [a.x]).map aV))):=by
 refine aG false [1] hty Tryz.func96 rfl (kp [0,1,2,5]) [] _ _ _ (by simp [Tryz.f96]) (by simp) ?_
 ((conv=>whnf);repeat' ((first|(intro hq;(try simp only [lnS]at hq);(try rewrite [List.length_map]))|refine sJ ?_|refine .intro _ (.intro rfl ?_)|refine exL (k:= ?_)|refine dwR ?_|((first|refine aC ?_ ?_|refine aD ?_ ?_)<;>intro hb<;>(first|exact ddX hb|try simp only [lnS]at hb))|(refine aB ?_ ?_<;>intro hb<;>try exact dsX hb))<;>(conv=>whnf)))
 ·rw [if_pos hb];rfl
 ·rw [if_neg hb];rfl
theorem aV6 {a:At}(h:a.kind < 1\/3 < a.kind):atE a=210:=by unfold atE;rw [if_pos h]
def aWg (k:Int):List SV:=[.d (.bool (decide (k=2))), .d (.bool (decide (k=3)))]
theorem aGx (nm xx yy:List UInt8) (lo hi:Int):Tri Tryz.prog 61 [.d (.agg [.int .i64 1, .str nm, .str xx, .str yy, .int .i64 lo, .int .i64 hi])] [] (λr=>r= .d (.int .i64 (atE ⟨1,nm,xx,yy,lo,hi⟩))):=by
 have ht:=kE ⟨1,nm,xx,yy,lo,hi⟩
 have hn:=cY nm
 have hx:=eM xx
 have hy:=eM yy
 have he:atE ⟨1,nm,xx,yy,lo,hi⟩=if (¬ yy=[])\/(¬ lo=0\/¬ hi=0)then 210 else if lo < -1099511627776\/hi < lo\/1099511627776 < hi then 210 else if aDk nm=false then 20 else if fQ xx=false then 20 else 0:=by
  unfold atE;simp
 rw [he]
 clear he
 rw [show (atR ⟨1,nm,xx,yy,lo,hi⟩)=[.int .i64 1, .str nm, .str xx, .str yy, .int .i64 lo, .int .i64 hi]from rfl,show ((if (⟨1,nm,xx,yy,lo,hi⟩:At).kind=2 then [xx,yy]else [xx]).map aV)=[aV xx]from rfl]at ht
 refine aG false [1] hty Tryz.func61 rfl (kp [0,1,2,3,5,13,40,55,59,61,62,63,64,69]) [] _ _ _ (by simp [Tryz.f61]) (by simp) ?_
 ((conv=>whnf);repeat ((first|(intro hq;try simp only [lnS]at hq)|refine sI ?_|refine .intro _ (.intro rfl ?_));(conv=>whnf)))
 refine aL.mid [(1, .ea 6 [[.int .i64 1, .str nm, .str xx, .str yy, .int .i64 lo, .int .i64 hi]] 0 0),(2, .d (.int .i64 0)),(3, .ptr 3 0)] [(3, .cells 130 (aWg 1))] ?_ ?_
 ·(refine aX (id:=3) hty (.first 1 (.first 2 (.alt 0 (.first 3 (.alt 4 (.alt 5 .done .stop) .stop)) (.alt 4 (.alt 0 (.first 3 (.alt 5 .done .stop)) .stop) .stop)))) (by kernel_rfl) (by kernel_rfl) ?_)
  ((conv=>whnf);repeat' ((first|(intro hq;(try simp only [lnS]at hq);(try rewrite [List.length_map]))|refine sJ ?_|refine .intro _ (.intro rfl ?_)|refine exL (k:= ?_)|(refine aA [] nA trivial (λr hs=> ?_);subst hs)|exact trivial|(refine And.intro ?_ ?_)|refine dwR ?_|((first|refine aC ?_ ?_|refine aD ?_ ?_)<;>intro hb<;>(first|exact ddX hb|try simp only [lnS]at hb))|(refine aB ?_ ?_<;>intro hb<;>try exact dsX hb))<;>(conv=>whnf)))
  all_goals exact⟨by repeat' (first|exact trivial|exact rfl|refine And.intro ?_ ?_),by repeat' (first|exact trivial|exact rfl|refine And.intro ?_ ?_)⟩
 ((conv=>whnf);repeat' ((first|(intro hq;(try simp only [lnS]at hq);(try rewrite [List.length_map]))|refine sJ ?_|refine .intro _ (.intro rfl ?_)|refine exL (k:= ?_)|(refine aA [] ht trivial (λr hs=> ?_);subst hs)|(refine aA [] hn trivial (λr hs=> ?_);subst hs)|(refine aA [] hx trivial (λr hs=> ?_);subst hs)|(refine aA [] hy trivial (λr hs=> ?_);subst hs)|(refine dI hty 3 ?_)|refine dwR ?_|((first|refine aC ?_ ?_|refine aD ?_ ?_)<;>intro hb<;>(first|exact ddX hb|try simp only [lnS]at hb))|(refine aB ?_ ?_<;>intro hb<;>try exact dsX hb))<;>(conv=>whnf)))
 all_goals (refine congrArg (λe=>SV.d (.int .i64 e)) ?_)
 all_goals (first|(simp_all;done)|(simp_all;omega)|skip)
theorem aGw (nm xx yy:List UInt8) (lo hi:Int):Tri Tryz.prog 61 [.d (.agg [.int .i64 2, .str nm, .str xx, .str yy, .int .i64 lo, .int .i64 hi])] [] (λr=>r= .d (.int .i64 (atE ⟨2,nm,xx,yy,lo,hi⟩))):=by
 have ht:=kE ⟨2,nm,xx,yy,lo,hi⟩
 have hn:=cY nm
 have hx:=eM xx
 have hy:=eM yy
 have he:atE ⟨2,nm,xx,yy,lo,hi⟩=if (¬ lo=0\/¬ hi=0)then 210 else if lo < -1099511627776\/hi < lo\/1099511627776 < hi then 210 else if aDk nm=false then 20 else if fQ xx=false then 20 else if fQ yy=false then 20 else 0:=by
  unfold atE;simp
 rw [he]
 clear he
 rw [show (atR ⟨2,nm,xx,yy,lo,hi⟩)=[.int .i64 2, .str nm, .str xx, .str yy, .int .i64 lo, .int .i64 hi]from rfl,show ((if (⟨2,nm,xx,yy,lo,hi⟩:At).kind=2 then [xx,yy]else [xx]).map aV)=[aV xx,aV yy]from rfl]at ht
 refine aG false [1] hty Tryz.func61 rfl (kp [0,1,2,3,5,13,40,55,59,61,62,63,64,69]) [] _ _ _ (by simp [Tryz.f61]) (by simp) ?_
 ((conv=>whnf);repeat ((first|(intro hq;try simp only [lnS]at hq)|refine sI ?_|refine .intro _ (.intro rfl ?_));(conv=>whnf)))
 refine aL.mid [(1, .ea 6 [[.int .i64 2, .str nm, .str xx, .str yy, .int .i64 lo, .int .i64 hi]] 0 0),(2, .d (.int .i64 0)),(3, .ptr 3 0)] [(3, .cells 130 (aWg 2))] ?_ ?_
 ·(refine aX (id:=3) hty (.first 1 (.first 2 (.alt 0 (.first 3 (.alt 4 (.alt 5 .done .stop) .stop)) (.alt 4 (.alt 0 (.first 3 (.alt 5 .done .stop)) .stop) .stop)))) (by kernel_rfl) (by kernel_rfl) ?_)
  ((conv=>whnf);repeat' ((first|(intro hq;(try simp only [lnS]at hq);(try rewrite [List.length_map]))|refine sJ ?_|refine .intro _ (.intro rfl ?_)|refine exL (k:= ?_)|(refine aA [] nA trivial (λr hs=> ?_);subst hs)|exact trivial|(refine And.intro ?_ ?_)|refine dwR ?_|((first|refine aC ?_ ?_|refine aD ?_ ?_)<;>intro hb<;>(first|exact ddX hb|try simp only [lnS]at hb))|(refine aB ?_ ?_<;>intro hb<;>try exact dsX hb))<;>(conv=>whnf)))
  all_goals exact⟨by repeat' (first|exact trivial|exact rfl|refine And.intro ?_ ?_),by repeat' (first|exact trivial|exact rfl|refine And.intro ?_ ?_)⟩
 ((conv=>whnf);repeat' ((first|(intro hq;(try simp only [lnS]at hq);(try rewrite [List.length_map]))|refine sJ ?_|refine .intro _ (.intro rfl ?_)|refine exL (k:= ?_)|(refine aA [] ht trivial (λr hs=> ?_);subst hs)|(refine aA [] hn trivial (λr hs=> ?_);subst hs)|(refine aA [] hx trivial (λr hs=> ?_);subst hs)|(refine aA [] hy trivial (λr hs=> ?_);subst hs)|(refine dI hty 3 ?_)|refine dwR ?_|((first|refine aC ?_ ?_|refine aD ?_ ?_)<;>intro hb<;>(first|exact ddX hb|try simp only [lnS]at hb))|(refine aB ?_ ?_<;>intro hb<;>try exact dsX hb))<;>(conv=>whnf)))
 all_goals (refine congrArg (λe=>SV.d (.int .i64 e)) ?_)
 all_goals (first|(simp_all;done)|(simp_all;omega)|skip)
theorem aGv (nm xx yy:List UInt8) (lo hi:Int):Tri Tryz.prog 61 [.d (.agg [.int .i64 3, .str nm, .str xx, .str yy, .int .i64 lo, .int .i64 hi])] [] (λr=>r= .d (.int .i64 (atE ⟨3,nm,xx,yy,lo,hi⟩))):=by
 have ht:=kE ⟨3,nm,xx,yy,lo,hi⟩
 have hn:=cY nm
 have hx:=eM xx
 have hy:=eM yy
 have he:atE ⟨3,nm,xx,yy,lo,hi⟩=if (¬ yy=[])then 210 else if lo < -1099511627776\/hi < lo\/1099511627776 < hi then 210 else if aDk nm=false then 20 else if fQ xx=false then 20 else 0:=by
  unfold atE;simp
 rw [he]
 clear he
 rw [show (atR ⟨3,nm,xx,yy,lo,hi⟩)=[.int .i64 3, .str nm, .str xx, .str yy, .int .i64 lo, .int .i64 hi]from rfl,show ((if (⟨3,nm,xx,yy,lo,hi⟩:At).kind=2 then [xx,yy]else [xx]).map aV)=[aV xx]from rfl]at ht
 refine aG false [1] hty Tryz.func61 rfl (kp [0,1,2,3,5,13,40,55,59,61,62,63,64,69]) [] _ _ _ (by simp [Tryz.f61]) (by simp) ?_
 ((conv=>whnf);repeat ((first|(intro hq;try simp only [lnS]at hq)|refine sI ?_|refine .intro _ (.intro rfl ?_));(conv=>whnf)))
 refine aL.mid [(1, .ea 6 [[.int .i64 3, .str nm, .str xx, .str yy, .int .i64 lo, .int .i64 hi]] 0 0),(2, .d (.int .i64 0)),(3, .ptr 3 0)] [(3, .cells 130 (aWg 3))] ?_ ?_
 ·(refine aX (id:=3) hty (.first 1 (.first 2 (.alt 0 (.first 3 (.alt 4 (.alt 5 .done .stop) .stop)) (.alt 4 (.alt 0 (.first 3 (.alt 5 .done .stop)) .stop) .stop)))) (by kernel_rfl) (by kernel_rfl) ?_)
  ((conv=>whnf);repeat' ((first|(intro hq;(try simp only [lnS]at hq);(try rewrite [List.length_map]))|refine sJ ?_|refine .intro _ (.intro rfl ?_)|refine exL (k:= ?_)|(refine aA [] nA trivial (λr hs=> ?_);subst hs)|exact trivial|(refine And.intro ?_ ?_)|refine dwR ?_|((first|refine aC ?_ ?_|refine aD ?_ ?_)<;>intro hb<;>(first|exact ddX hb|try simp only [lnS]at hb))|(refine aB ?_ ?_<;>intro hb<;>try exact dsX hb))<;>(conv=>whnf)))
  all_goals exact⟨by repeat' (first|exact trivial|exact rfl|refine And.intro ?_ ?_),by repeat' (first|exact trivial|exact rfl|refine And.intro ?_ ?_)⟩
 ((conv=>whnf);repeat' ((first|(intro hq;(try simp only [lnS]at hq);(try rewrite [List.length_map]))|refine sJ ?_|refine .intro _ (.intro rfl ?_)|refine exL (k:= ?_)|(refine aA [] ht trivial (λr hs=> ?_);subst hs)|(refine aA [] hn trivial (λr hs=> ?_);subst hs)|(refine aA [] hx trivial (λr hs=> ?_);subst hs)|(refine aA [] hy trivial (λr hs=> ?_);subst hs)|(refine dI hty 3 ?_)|refine dwR ?_|((first|refine aC ?_ ?_|refine aD ?_ ?_)<;>intro hb<;>(first|exact ddX hb|try simp only [lnS]at hb))|(refine aB ?_ ?_<;>intro hb<;>try exact dsX hb))<;>(conv=>whnf)))
 all_goals (refine congrArg (λe=>SV.d (.int .i64 e)) ?_)
 all_goals (first|(simp_all;done)|(simp_all;omega)|skip)
theorem aB0 (a:At):Tri Tryz.prog 61 [.d (.agg (atR a))] [] (λr=>r= .d (.int .i64 (atE a))):=by
 obtain⟨kd,nm,xx,yy,lo,hi⟩:=a
 show Tri Tryz.prog 61 [.d (.agg [.int .i64 kd, .str nm, .str xx, .str yy, .int .i64 lo, .int .i64 hi])] [] _
 by_cases hk:kd < 1\/3 < kd
 ·rw [aV6 (by exact hk)]
  refine aG false [1] hty Tryz.func61 rfl (kp [0,1,2,3,5,13,40,55,59,61,62,63,64,69]) [] _ _ _ (by simp [Tryz.f61]) (by simp) ?_
  ((conv=>whnf);repeat' ((first|(intro hq;(try simp only [lnS]at hq);(try rewrite [List.length_map]))|refine sJ ?_|refine .intro _ (.intro rfl ?_)|refine exL (k:= ?_)|refine dwR ?_|((first|refine aC ?_ ?_|refine aD ?_ ?_)<;>intro hb<;>(first|exact ddX hb|try simp only [lnS]at hb))|(refine aB ?_ ?_<;>intro hb<;>try exact dsX hb))<;>(conv=>whnf)))
  all_goals first|rfl|(exfalso;omega)
 have hk3:kd=1\/kd=2\/kd=3:=by omega
 rcases hk3 with rfl|rfl|rfl
 ·exact aGx nm xx yy lo hi
 ·exact aGw nm xx yy lo hi
 ·exact aGv nm xx yy lo hi
end Go.Proofs.YtdjfkmkdkclahaaGreatDoor
