/-
  The reference's queries: variables, individuals, terms; the error of an atom. The reference's queries: atoms, parts and their variables. The reference's queries: the variables of a part. The reference's queries: Variables; the form of a query. The reference's queries: form.
  Conditions: none.
-/
import Derived.Test.YtdjfkmkdkclahaaGreatDoorVQqa
import Derived.Test.YtdjfkmkdkclahaaGreatDoorVSza
import Derived.Test.YtdjfkmkdkclahaaGreatDoorVXv
import Derived.Test.YtdjfkmkdkclahaaGreatDoorVOh
set_option linter.unnecessarySimpa false
set_option linter.unusedSectionVars false
set_option linter.unusedSimpArgs false
set_option linter.unusedVariables false
set_option maxHeartbeats 32000000
namespace Go.Proofs.YtdjfkmkdkclahaaGreatDoor
open Go.Proofs Go.RowKit
set_option maxRecDepth 10000
attribute [local irreducible] aL aH Tri aI YVC bP aS
theorem uF (c:UInt8):Tri Tryz.prog 121 [aJt c] [] (λr=>r= .d (.bool (qJ c))):=by
 refine aF hty Tryz.func121 rfl (kp [0,2]) [] _ _ _ (by simp [Tryz.f121]) (by simp) ?_
 ((conv=>whnf);repeat' ((first|(intro hq;(try simp only [lnS]at hq);(try rewrite [List.length_map]))|refine sJ ?_|refine .intro _ (.intro rfl ?_)|refine exL (k:= ?_)|refine dwR ?_|((first|refine aC ?_ ?_|refine aD ?_ ?_)<;>intro hb<;>(first|exact ddX hb|try simp only [lnS]at hb))|(refine aB ?_ ?_<;>intro hb<;>try exact dsX hb))<;>(conv=>whnf)))
 all_goals (refine aN (Bool.eq_iff_iff.2 ?_);simp only [qJ,Bool.or_eq_true,decide_eq_true_eq,true_iff,false_iff,Bool.false_eq_true];omega)
def aJs (c:UInt8):Bool:=decide (48<=(c.toNat:Int)/\(c.toNat:Int)<=57)
theorem aFw (c:UInt8):Tri Tryz.prog 122 [aJt c] [] (λr=>r= .d (.bool (aJs c))):=by
 refine aF hty Tryz.func122 rfl (kp [0,2]) [] _ _ _ (by simp [Tryz.f122]) (by simp) ?_
 ((conv=>whnf);repeat' ((first|(intro hq;(try simp only [lnS]at hq);(try rewrite [List.length_map]))|refine sJ ?_|refine .intro _ (.intro rfl ?_)|refine exL (k:= ?_)|refine dwR ?_|((first|refine aC ?_ ?_|refine aD ?_ ?_)<;>intro hb<;>(first|exact ddX hb|try simp only [lnS]at hb))|(refine aB ?_ ?_<;>intro hb<;>try exact dsX hb))<;>(conv=>whnf)))
 all_goals (refine aN (Bool.eq_iff_iff.2 ?_);simp only [aJs,decide_eq_true_eq,true_iff,false_iff,Bool.false_eq_true];omega)
def mP (c:UInt8):Bool:=qJ c || (aJs c || decide ((c.toNat:Int)=95))
theorem aO7 (c:UInt8):cH c=mP c:=by
 unfold mP cH aJs
 cases qJ c
 ·rw [Bool.eq_iff_iff]
  simp only [Bool.or_eq_true,Bool.false_or,decide_eq_true_eq]
  omega
 ·simp
theorem aTt {c:UInt8}(h1:(!qJ c)=true) (h2:¬ (48<=(c.toNat:Int)/\(c.toNat:Int)<=57)) (h3:¬ (c.toNat:Int)=95):mP c=false:=by
 unfold mP aJs
 rw [show qJ c=false by simpa using h1,decide_eq_false h2,decide_eq_false h3];rfl
theorem aRk {c:UInt8}(h1:(!qJ c)=false):mP c=true:=by
 unfold mP
 rw [show qJ c=true by simpa using h1];rfl
theorem aRj {c:UInt8}(h2:48<=(c.toNat:Int)/\(c.toNat:Int)<=57):mP c=true:=by
 unfold mP aJs
 rw [decide_eq_true h2];simp
theorem aRi {c:UInt8}(h3:(c.toNat:Int)=95):mP c=true:=by
 unfold mP
 rw [decide_eq_true h3];simp
theorem eP (s:List UInt8):Tri Tryz.prog 78 [.d (.str s)] [] (λr=>r= .d (.bool (mW s))):=by
 by_cases h2:¬ 2<=s.length
 ·have e:mW s=false:=by unfold mW;rw [decide_eq_false h2,Bool.false_and]
  rw [e]
  refine aF hty Tryz.func78 rfl (kp [0,2,3,22,26,46]) [] _ _ _ (by simp [Tryz.f78]) (by simp) ?_
  ((conv=>whnf);repeat' ((first|(intro hq;(try simp only [lnS]at hq);(try rewrite [List.length_map]))|refine sJ ?_|refine .intro _ (.intro rfl ?_)|refine exL (k:= ?_)|refine dwR ?_|((first|refine aC ?_ ?_|refine aD ?_ ?_)<;>intro hb<;>(first|exact ddX hb|try simp only [lnS]at hb))|(refine aB ?_ ?_<;>intro hb<;>try exact dsX hb))<;>(conv=>whnf)))
  all_goals first|rfl|(exfalso;omega)
 have h2:2<=s.length:=by omega
 have e:=aK7 h2
 refine aF hty Tryz.func78 rfl (kp [0,2,3,22,26,46]) [] _ _ _ (by simp [Tryz.f78]) (by simp) ?_
 ((conv=>whnf);repeat' ((first|(intro hq;(try simp only [lnS]at hq);(try rewrite [List.length_map]))|refine sJ ?_|refine .intro _ (.intro rfl ?_)|refine exL (k:= ?_)|(refine⟨_,pT (by first|omega|(simp only [List.length_map];omega)), ?_⟩)|(refine aA [] (uF _) trivial (λs hs=> ?_);subst hs)|refine dwR ?_|((first|refine aC ?_ ?_|refine aD ?_ ?_)<;>intro hb<;>(first|exact ddX hb|try simp only [lnS]at hb))|(refine aB ?_ ?_<;>intro hb<;>try exact dsX hb))<;>(conv=>whnf)))
 ·refine aN (Eq.symm ?_);rw [e,decide_eq_false (by omega),Bool.false_and]
 ·rename_i hb
  refine aN (Eq.symm ?_);rw [e,decide_eq_false (p:=((s[0].toNat:Int)=63)) hb];simp
 ·rename_i hb
  have hb':qJ s[1]=false:=by simpa using hb
  refine aN (Eq.symm ?_);rw [e,hb'];simp
 rename_i h17 h63
 have hl':qJ s[1]=true:=by simpa using hb
 have h63':((s[0].toNat:Int)=63):=h63
 have e':mW s=(s.drop 2).all cH:=by rw [e,decide_eq_true (p:=s.length<=17) (by omega),decide_eq_true h63',hl'];simp
 rw [e']
 refine aJ hty (λk:Nat=>([(0, .d (.str s)),(3, .d (.int .i64 k))],[])) (λk=>(2<=k/\k<=s.length)/\((s.drop 2).take (k - 2)).all cH=true) (λk=>s.length - k) 2 (by simp;omega) ⟨by repeat' (first|exact trivial|exact rfl|refine And.intro ?_ ?_),by repeat' (first|exact trivial|exact rfl|refine And.intro ?_ ?_)⟩ ?_
 rintro k ⟨⟨hk0,hk⟩,hk2⟩
 ((conv=>whnf);repeat ((first|(intro hq;try simp only [lnS]at hq)|refine sI ?_|refine .intro _ (.intro rfl ?_));(conv=>whnf)))
 refine aC (λh1=> ?_) (λh1=> ?_)
 ·have hkl:k < s.length:=by omega
  have hst:= λh=>jG (k:=k) hk0 hkl h
  have hgo:= λh=>fK hk0 hkl hk2 h
  rw [aO7 s[k]]at hst hgo
  ((conv=>whnf);repeat' ((first|(intro hq;(try simp only [lnS]at hq);(try rewrite [List.length_map]))|refine sJ ?_|refine .intro _ (.intro rfl ?_)|refine exL (k:= ?_)|(refine⟨_,pT (by first|omega|(simp only [List.length_map];omega)), ?_⟩)|(refine aA [] (uF _) trivial (λs hs=> ?_);subst hs)|(refine aA [] (aFw _) trivial (λs hs=> ?_);subst hs)|refine dwR ?_|((first|refine aC ?_ ?_|refine aD ?_ ?_)<;>intro hb<;>(first|exact ddX hb|try simp only [lnS]at hb))|(refine aB ?_ ?_<;>intro hb<;>try exact dsX hb))<;>(conv=>whnf)))
  all_goals first
   |exact aN (Eq.symm (hst (aTt (c:=s[(k:Int).toNat]) (by assumption) (by assumption) (by assumption))))
   |exact⟨k+1,⟨⟨by omega,by omega⟩,hgo (by first|exact aRk (c:=s[(k:Int).toNat]) (by assumption)|exact aRj (c:=s[(k:Int).toNat]) (by assumption)|exact aRi (c:=s[(k:Int).toNat]) (by assumption))⟩,by dsimp only;omega,⟨by repeat' (first|exact trivial|exact rfl|refine And.intro ?_ ?_),by repeat' (first|exact trivial|exact rfl|refine And.intro ?_ ?_)⟩⟩
 ·have hkl:k=s.length:=by omega
  subst hkl
  rw [List.take_of_length_le (by rw [List.length_drop];omega)]at hk2
  rw [hk2]
  ((conv=>whnf);repeat' ((first|(intro hq;(try simp only [lnS]at hq);(try rewrite [List.length_map]))|refine sJ ?_|refine .intro _ (.intro rfl ?_)|refine exL (k:= ?_)|refine dwR ?_|((first|refine aC ?_ ?_|refine aD ?_ ?_)<;>intro hb<;>(first|exact ddX hb|try simp only [lnS]at hb))|(refine aB ?_ ?_<;>intro hb<;>try exact dsX hb))<;>(conv=>whnf)))
  rfl
theorem dD (s:List UInt8):Tri Tryz.prog 171 [.d (.str s)] [] (λr=>r= .d (.bool (aDk s))):=by
 have hc:=fU s
 have hn:s=[]->cT s=false:= λh=>by subst h;rfl
 have hi:aDk s=(cT s && !decide (s.head?=some 95)):=rfl
 cases hv:cT s
 ·rw [hv]at hc hi
  rw [hi]
  refine aF hty Tryz.func171 rfl (kp [0,2]) [] _ _ _ (by simp [Tryz.f171]) (by simp) ?_
  ((conv=>whnf);repeat' ((first|(intro hq;(try simp only [lnS]at hq);(try rewrite [List.length_map]))|refine sJ ?_|refine .intro _ (.intro rfl ?_)|refine exL (k:= ?_)|(refine⟨_,pT (by first|omega|(simp only [List.length_map];omega)), ?_⟩)|(refine aA [] hc trivial (λr hs=> ?_);subst hs)|refine dwR ?_|((first|refine aC ?_ ?_|refine aD ?_ ?_)<;>intro hb<;>(first|exact ddX hb|try simp only [lnS]at hb))|(refine aB ?_ ?_<;>intro hb<;>try exact dsX hb))<;>(conv=>whnf)))
  all_goals first|rfl|(refine aN ?_;simp_all;done)
 ·rw [hv]at hc hi hn
  rw [hi]
  match s,hn with
  | [],hn=>exact absurd (hn rfl) (by decide)
  |c::r,hn=>
   have e:decide ((c::r).head?=some 95)=decide ((c.toNat:Int)=95):=by
    rw [decide_eq_decide,List.head?_cons]
    have h9:(95:UInt8).toNat=95:=by decide
    constructor
    ·intro e;injection e with e;rw [e];rfl
    ·intro e;exact congrArg some (UInt8.toNat_inj.1 (by omega))
   rw [e]
   refine aF hty Tryz.func171 rfl (kp [0,2]) [] _ _ _ (by simp [Tryz.f171]) (by simp) ?_
   ((conv=>whnf);repeat' ((first|(intro hq;(try simp only [lnS]at hq);(try rewrite [List.length_map]))|refine sJ ?_|refine .intro _ (.intro rfl ?_)|refine exL (k:= ?_)|(refine⟨_,pT (by first|omega|(simp only [List.length_map];omega)), ?_⟩)|(refine aA [] hc trivial (λr hs=> ?_);subst hs)|refine dwR ?_|((first|refine aC ?_ ?_|refine aD ?_ ?_)<;>intro hb<;>(first|exact ddX hb|try simp only [lnS]at hb))|(refine aB ?_ ?_<;>intro hb<;>try exact dsX hb))<;>(conv=>whnf)))
   all_goals first
    |(refine aN ?_;rw [show decide ((c.toNat:Int)=95)=false from decide_eq_false hb];rfl)
    |(refine aN ?_;rw [show decide ((c.toNat:Int)=95)=true from decide_eq_true hb];rfl)
theorem fM (s:List UInt8):Tri Tryz.prog 173 [.d (.str s)] [] (λr=>r= .d (.bool (fQ s))):=by
 refine aF hty Tryz.func173 rfl (kp [0,2]) [] _ _ _ (by simp [Tryz.f173]) (by simp) ?_
 ((conv=>whnf);repeat' ((first|(intro hq;(try simp only [lnS]at hq);(try rewrite [List.length_map]))|refine sJ ?_|refine .intro _ (.intro rfl ?_)|refine exL (k:= ?_)|(refine aA [] (eP _) trivial (λs hs=> ?_);subst hs)|(refine aA [] (dD _) trivial (λs hs=> ?_);subst hs)|refine dwR ?_|((first|refine aC ?_ ?_|refine aD ?_ ?_)<;>intro hb<;>(first|exact ddX hb|try simp only [lnS]at hb))|(refine aB ?_ ?_<;>intro hb<;>try exact dsX hb))<;>(conv=>whnf)))
 ·refine aN ?_
  rw [fQ,hb];rfl
 ·refine aN ?_
  rw [fQ,hb];rfl
theorem iS (a:At):Tri Tryz.prog 172 [.d (.agg (atR a))] [] (λr=>r= .d (.sl 1 ((if a.kind=2 then [a.x,a.y]else [a.x]).map aV))):=by
 refine aG false [1] hty Tryz.func172 rfl (kp [0,1,2,5]) [] _ _ _ (by simp [Tryz.f172]) (by simp) ?_
 ((conv=>whnf);repeat' ((first|(intro hq;(try simp only [lnS]at hq);(try rewrite [List.length_map]))|refine sJ ?_|refine .intro _ (.intro rfl ?_)|refine exL (k:= ?_)|refine dwR ?_|((first|refine aC ?_ ?_|refine aD ?_ ?_)<;>intro hb<;>(first|exact ddX hb|try simp only [lnS]at hb))|(refine aB ?_ ?_<;>intro hb<;>try exact dsX hb))<;>(conv=>whnf)))
 ·rw [if_pos hb];rfl
 ·rw [if_neg hb];rfl
theorem lC (l:List (List UInt8)) (s:List UInt8):Tri Tryz.prog 79 [.d (aRn l), .d (.str s)] [] (λr=>r= .d (.bool (decide (s∈l)))):=by
 refine aF hty Tryz.func79 rfl (kp [0,1,4,5,9,17]) [] _ _ _ (by simp [Tryz.f79]) (by simp) ?_
 ((conv=>whnf);repeat' ((first|(intro hq;(try simp only [lnS]at hq);(try rewrite [List.length_map]))|refine sJ ?_|refine .intro _ (.intro rfl ?_)|refine exL (k:= ?_)|refine dwR ?_|((first|refine aC ?_ ?_|refine aD ?_ ?_)<;>intro hb<;>(first|exact ddX hb|try simp only [lnS]at hb))|(refine aB ?_ ?_<;>intro hb<;>try exact dsX hb))<;>(conv=>whnf)))
 refine aJ hty (λj:Nat=>([(0, .d (aRn l)),(1, .d (.str s)),(5, .d (.int .i64 j))],[])) (λj=>j<=l.length/\decide (s∈l)=decide (s∈l.drop j)) (λj=>l.length - j) 0 ⟨by omega,rfl⟩ ⟨by repeat' (first|exact trivial|exact rfl|refine And.intro ?_ ?_),by repeat' (first|exact trivial|exact rfl|refine And.intro ?_ ?_)⟩ ?_
 rintro j ⟨hj,hn⟩
 ((conv=>whnf);repeat ((first|(intro hq;try simp only [lnS]at hq)|refine sI ?_|refine .intro _ (.intro rfl ?_));(conv=>whnf)))
 refine aC (λh1=> ?_) (λh1=> ?_)
 ·have hjl:j < l.length:=by simp only [List.length_map]at h1;omega
  have hrow:(l.map aV)[(j:Int).toNat]? =some (aV l[j]):=aO hjl
  rw [List.drop_eq_getElem_cons hjl]at hn
  generalize l[j]=x at hrow hn
  ((conv=>whnf);repeat' ((first|(intro hq;(try simp only [lnS]at hq);(try rewrite [List.length_map]))|refine sJ ?_|refine .intro _ (.intro rfl ?_)|refine exL (k:= ?_)|(refine⟨_,hrow, ?_⟩)|refine dwR ?_|((first|refine aC ?_ ?_|refine aD ?_ ?_)<;>intro hb<;>(first|exact ddX hb|try simp only [lnS]at hb))|(refine aB ?_ ?_<;>intro hb<;>try exact dsX hb))<;>(conv=>whnf)))
  ·refine aN (Eq.symm ?_)
   rw [hn];simp_all
  ·refine⟨j+1,⟨by omega, ?_⟩,by dsimp only;omega,by repeat' (first|exact trivial|exact rfl|refine And.intro ?_ ?_),trivial⟩
   rw [hn]
   simp_all [eq_comm]
 ·have hjl:j=l.length:=by simp only [List.length_map]at h1;omega
  subst hjl
  ((conv=>whnf);repeat' ((first|(intro hq;(try simp only [lnS]at hq);(try rewrite [List.length_map]))|refine sJ ?_|refine .intro _ (.intro rfl ?_)|refine exL (k:= ?_)|refine dwR ?_|((first|refine aC ?_ ?_|refine aD ?_ ?_)<;>intro hb<;>(first|exact ddX hb|try simp only [lnS]at hb))|(refine aB ?_ ?_<;>intro hb<;>try exact dsX hb))<;>(conv=>whnf)))
  refine aN (Eq.symm ?_)
  rw [hn,List.drop_length];simp
end Go.Proofs.YtdjfkmkdkclahaaGreatDoor
namespace Go.Proofs.YtdjfkmkdkclahaaGreatDoor
open Go.Proofs Go.RowKit
set_option maxRecDepth 10000
attribute [local irreducible] aL aH Tri aI YVC bP aS
theorem aRb (nm xx yy:List UInt8) (lo hi:Int):Tri Tryz.prog 113 [.d (.agg [.int .i64 1, .str nm, .str xx, .str yy, .int .i64 lo, .int .i64 hi])] [] (λr=>r= .d (.int .i64 (atE ⟨1,nm,xx,yy,lo,hi⟩))):=by
 have ht:=iS ⟨1,nm,xx,yy,lo,hi⟩
 have hn:=dD nm
 have hx:=fM xx
 have hy:=fM yy
 have he:atE ⟨1,nm,xx,yy,lo,hi⟩=if (¬ yy=[])\/(¬ lo=0\/¬ hi=0)then 210 else if lo < -1099511627776\/hi < lo\/1099511627776 < hi then 210 else if aDk nm=false then 20 else if fQ xx=false then 20 else 0:=by
  unfold atE;simp
 rw [he]
 clear he
 rw [show (atR ⟨1,nm,xx,yy,lo,hi⟩)=[.int .i64 1, .str nm, .str xx, .str yy, .int .i64 lo, .int .i64 hi]from rfl,show ((if (⟨1,nm,xx,yy,lo,hi⟩:At).kind=2 then [xx,yy]else [xx]).map aV)=[aV xx]from rfl]at ht
 refine aG false [1] hty Tryz.func113 rfl (kp [0,1,2,3,4,37,52,56,62,70]) [] _ _ _ (by simp [Tryz.f113]) (by simp) ?_
 ((conv=>whnf);repeat' ((first|(intro hq;(try simp only [lnS]at hq);(try rewrite [List.length_map]))|refine sJ ?_|refine .intro _ (.intro rfl ?_)|refine exL (k:= ?_)|(refine aA [] ht trivial (λr hs=> ?_);subst hs)|(refine aA [] hn trivial (λr hs=> ?_);subst hs)|(refine aA [] hx trivial (λr hs=> ?_);subst hs)|(refine aA [] hy trivial (λr hs=> ?_);subst hs)|(refine dI hty 3 ?_)|refine dwR ?_|((first|refine aC ?_ ?_|refine aD ?_ ?_)<;>intro hb<;>(first|exact ddX hb|try simp only [lnS]at hb))|(refine aB ?_ ?_<;>intro hb<;>try exact dsX hb))<;>(conv=>whnf)))
 all_goals (refine congrArg (λe=>SV.d (.int .i64 e)) ?_)
 all_goals (first|(simp_all;done)|(simp_all;omega)|skip)
theorem aRa (nm xx yy:List UInt8) (lo hi:Int):Tri Tryz.prog 113 [.d (.agg [.int .i64 2, .str nm, .str xx, .str yy, .int .i64 lo, .int .i64 hi])] [] (λr=>r= .d (.int .i64 (atE ⟨2,nm,xx,yy,lo,hi⟩))):=by
 have ht:=iS ⟨2,nm,xx,yy,lo,hi⟩
 have hn:=dD nm
 have hx:=fM xx
 have hy:=fM yy
 have he:atE ⟨2,nm,xx,yy,lo,hi⟩=if (¬ lo=0\/¬ hi=0)then 210 else if lo < -1099511627776\/hi < lo\/1099511627776 < hi then 210 else if aDk nm=false then 20 else if fQ xx=false then 20 else if fQ yy=false then 20 else 0:=by
  unfold atE;simp
 rw [he]
 clear he
 rw [show (atR ⟨2,nm,xx,yy,lo,hi⟩)=[.int .i64 2, .str nm, .str xx, .str yy, .int .i64 lo, .int .i64 hi]from rfl,show ((if (⟨2,nm,xx,yy,lo,hi⟩:At).kind=2 then [xx,yy]else [xx]).map aV)=[aV xx,aV yy]from rfl]at ht
 refine aG false [1] hty Tryz.func113 rfl (kp [0,1,2,3,4,37,52,56,62,70]) [] _ _ _ (by simp [Tryz.f113]) (by simp) ?_
 ((conv=>whnf);repeat' ((first|(intro hq;(try simp only [lnS]at hq);(try rewrite [List.length_map]))|refine sJ ?_|refine .intro _ (.intro rfl ?_)|refine exL (k:= ?_)|(refine aA [] ht trivial (λr hs=> ?_);subst hs)|(refine aA [] hn trivial (λr hs=> ?_);subst hs)|(refine aA [] hx trivial (λr hs=> ?_);subst hs)|(refine aA [] hy trivial (λr hs=> ?_);subst hs)|(refine dI hty 3 ?_)|refine dwR ?_|((first|refine aC ?_ ?_|refine aD ?_ ?_)<;>intro hb<;>(first|exact ddX hb|try simp only [lnS]at hb))|(refine aB ?_ ?_<;>intro hb<;>try exact dsX hb))<;>(conv=>whnf)))
 all_goals (refine congrArg (λe=>SV.d (.int .i64 e)) ?_)
 all_goals (first|(simp_all;done)|(simp_all;omega)|skip)
theorem aR9 (nm xx yy:List UInt8) (lo hi:Int):Tri Tryz.prog 113 [.d (.agg [.int .i64 3, .str nm, .str xx, .str yy, .int .i64 lo, .int .i64 hi])] [] (λr=>r= .d (.int .i64 (atE ⟨3,nm,xx,yy,lo,hi⟩))):=by
 have ht:=iS ⟨3,nm,xx,yy,lo,hi⟩
 have hn:=dD nm
 have hx:=fM xx
 have hy:=fM yy
 have he:atE ⟨3,nm,xx,yy,lo,hi⟩=if (¬ yy=[])then 210 else if lo < -1099511627776\/hi < lo\/1099511627776 < hi then 210 else if aDk nm=false then 20 else if fQ xx=false then 20 else 0:=by
  unfold atE;simp
 rw [he]
 clear he
 rw [show (atR ⟨3,nm,xx,yy,lo,hi⟩)=[.int .i64 3, .str nm, .str xx, .str yy, .int .i64 lo, .int .i64 hi]from rfl,show ((if (⟨3,nm,xx,yy,lo,hi⟩:At).kind=2 then [xx,yy]else [xx]).map aV)=[aV xx]from rfl]at ht
 refine aG false [1] hty Tryz.func113 rfl (kp [0,1,2,3,4,37,52,56,62,70]) [] _ _ _ (by simp [Tryz.f113]) (by simp) ?_
 ((conv=>whnf);repeat' ((first|(intro hq;(try simp only [lnS]at hq);(try rewrite [List.length_map]))|refine sJ ?_|refine .intro _ (.intro rfl ?_)|refine exL (k:= ?_)|(refine aA [] ht trivial (λr hs=> ?_);subst hs)|(refine aA [] hn trivial (λr hs=> ?_);subst hs)|(refine aA [] hx trivial (λr hs=> ?_);subst hs)|(refine aA [] hy trivial (λr hs=> ?_);subst hs)|(refine dI hty 3 ?_)|refine dwR ?_|((first|refine aC ?_ ?_|refine aD ?_ ?_)<;>intro hb<;>(first|exact ddX hb|try simp only [lnS]at hb))|(refine aB ?_ ?_<;>intro hb<;>try exact dsX hb))<;>(conv=>whnf)))
 all_goals (refine congrArg (λe=>SV.d (.int .i64 e)) ?_)
 all_goals (first|(simp_all;done)|(simp_all;omega)|skip)
theorem aIw (a:At):Tri Tryz.prog 113 [.d (.agg (atR a))] [] (λr=>r= .d (.int .i64 (atE a))):=by
 obtain⟨kd,nm,xx,yy,lo,hi⟩:=a
 show Tri Tryz.prog 113 [.d (.agg [.int .i64 kd, .str nm, .str xx, .str yy, .int .i64 lo, .int .i64 hi])] [] _
 by_cases hk:kd < 1\/3 < kd
 ·rw [aV6 (by exact hk)]
  refine aG false [1] hty Tryz.func113 rfl (kp [0,1,2,3,4,37,52,56,62,70]) [] _ _ _ (by simp [Tryz.f113]) (by simp) ?_
  ((conv=>whnf);repeat' ((first|(intro hq;(try simp only [lnS]at hq);(try rewrite [List.length_map]))|refine sJ ?_|refine .intro _ (.intro rfl ?_)|refine exL (k:= ?_)|refine dwR ?_|((first|refine aC ?_ ?_|refine aD ?_ ?_)<;>intro hb<;>(first|exact ddX hb|try simp only [lnS]at hb))|(refine aB ?_ ?_<;>intro hb<;>try exact dsX hb))<;>(conv=>whnf)))
  all_goals first|rfl|(exfalso;omega)
 have hk3:kd=1\/kd=2\/kd=3:=by omega
 rcases hk3 with rfl|rfl|rfl
 ·exact aRb nm xx yy lo hi
 ·exact aRa nm xx yy lo hi
 ·exact aR9 nm xx yy lo hi
def aKj (a:At):List (List UInt8):=if a.kind=2 then [a.x,a.y]else [a.x]
theorem aDw (p:List At) (s:List UInt8):Tri Tryz.prog 114 [.d (.agg (aK p)), .d (.str s)] [] (λr=>r= .d (.bool (p.any λa=>decide (s∈aKj a)))):=by
 have hpl:(p.map atR).length=p.length:=List.length_map ..
 show Tri Tryz.prog 114 [.d (.agg [.sl 6 (p.map atR)]), .d (.str s)] [] _
 refine aG false [2] hty Tryz.func114 rfl (kp [0,1,2,4,5,10,20]) [] _ _ _ (by simp [Tryz.f114]) (by simp) ?_
 ((conv=>whnf);repeat ((first|(intro hq;try simp only [lnS]at hq)|refine sI ?_|refine .intro _ (.intro rfl ?_));(conv=>whnf)))
 refine aJ hty (λj:Nat=>([(1, .d (.str s)),(2, .ea 1 [[.sl 6 (p.map atR)]] 0 0),(5, .d (.int .i64 j))],[])) (λj=>j<=p.length/\(p.take j).any (λa=>decide (s∈aKj a))=false) (λj=>p.length - j) 0 ⟨by omega,rfl⟩ ⟨by repeat' (first|exact trivial|exact rfl|refine And.intro ?_ ?_),by repeat' (first|exact trivial|exact rfl|refine And.intro ?_ ?_)⟩ ?_
 rintro j ⟨hj,hn⟩
 ((conv=>whnf);repeat ((first|(intro hq;try simp only [lnS]at hq)|refine sI ?_|refine .intro _ (.intro rfl ?_));(conv=>whnf)))
 rw [hpl]
 refine aC (λh1=> ?_) (λh1=> ?_)
 ·have hjl:j < p.length:=by omega
  have hrow:(p.map atR)[(j:Int).toNat]? =some (atR p[j]):=aO hjl
  have hhit:=jL (F:= λa:At=>decide (s∈aKj a)) hjl
  have hsuc:=fL (F:= λa:At=>decide (s∈aKj a)) hjl hn
  generalize p[j]=a at hrow hhit hsuc
  have ht:=iS a
  have hi:=lC (aKj a) s
  rw [show (if a.kind=2 then [a.x,a.y]else [a.x])=aKj a from rfl]at ht
  generalize decide (s∈aKj a)=v at *
  generalize aKj a=tr at *
  obtain⟨kd,nm,xx,yy,lo,hi'⟩:=a
  rw [show atR ⟨kd,nm,xx,yy,lo,hi'⟩=[.int .i64 kd, .str nm, .str xx, .str yy, .int .i64 lo, .int .i64 hi']from rfl]at hrow ht
  ((conv=>whnf);repeat ((first|(refine⟨_,hrow, ?_⟩)|(refine aA [] ht trivial (λr hs=> ?_);subst hs)|(refine aA [] hi trivial (λr hs=> ?_);subst hs)|(intro hq;try simp only [lnS]at hq)|refine sI ?_|refine .intro _ (.intro rfl ?_));(conv=>whnf)))
  cases v
  ·((conv=>whnf);repeat ((first|(intro hq;try simp only [lnS]at hq)|refine sI ?_|refine .intro _ (.intro rfl ?_));(conv=>whnf)))
   exact⟨j+1,⟨by omega,hsuc rfl⟩,by dsimp only;omega,⟨by repeat' (first|exact trivial|exact rfl|refine And.intro ?_ ?_),by repeat' (first|exact trivial|exact rfl|refine And.intro ?_ ?_)⟩⟩
  ·rw [hhit rfl]
   ((conv=>whnf);repeat ((first|(intro hq;try simp only [lnS]at hq)|refine sI ?_|refine .intro _ (.intro rfl ?_));(conv=>whnf)))
   rfl
 ·have hjl:j=p.length:=by omega
  subst hjl
  rw [List.take_length]at hn
  rw [hn]
  ((conv=>whnf);repeat ((first|(intro hq;try simp only [lnS]at hq)|refine sI ?_|refine .intro _ (.intro rfl ?_));(conv=>whnf)))
  rfl
end Go.Proofs.YtdjfkmkdkclahaaGreatDoor
namespace Go.Proofs.YtdjfkmkdkclahaaGreatDoor
open Go.Proofs Go.RowKit
set_option maxRecDepth 10000
attribute [local irreducible] aL aH Tri aI YVC bP aS
def aFr (s:List UInt8):List (List UInt8)->List (List UInt8)
 | []=>[s]
 |a::r=>if Op.bytesLess a s=true then a::aFr s r else s::a::r
def uQ (l:List (List UInt8)) (s:List UInt8):List (List UInt8):=if bE s=true/\¬ s∈l then aFr s l else l
theorem rS (s:List UInt8): ∀l,(aFr s l).Perm (s::l)
 | []=> .refl _
 |a::r=>by
  rw [aFr]
  split
  ·exact((rS s r).cons a).trans (List.Perm.swap ..)
  ·exact .refl _
theorem aI1 {l:List (List UInt8)}{s x:List UInt8}:x∈uQ l s↔x∈l\/(x=s/\bE s=true):=by
 unfold uQ
 split
 ·rename_i h
  rw [(rS s l).mem_iff,List.mem_cons]
  constructor
  ·rintro(e|e)
   ·exact .inr ⟨e,h.1⟩
   ·exact .inl e
  ·rintro(e|e)
   ·exact .inr e
   ·exact .inl e.1
 ·rename_i h
  refine⟨.inl,λe=> ?_⟩
  rcases e with e|⟨rfl,e⟩
  ·exact e
  ·exact Decidable.byContradiction λhn=>h ⟨e,hn⟩
theorem aBo {l:List (List UInt8)}{s:List UInt8}(h:l.Nodup):(uQ l s).Nodup:=by
 unfold uQ
 split
 ·rename_i h1
  rw [(rS s l).nodup_iff,List.nodup_cons]
  exact⟨h1.2,h⟩
 ·exact h
theorem aD4 (l:List (List UInt8)) (s:List UInt8):(uQ l s).length<=l.length+1:=by
 unfold uQ
 split
 ·rw [(rS s l).length_eq];exact Nat.le_refl _
 ·omega
def cR:List (List UInt8)->List At->List (List UInt8)
 |acc,[]=>acc
 |acc,a::r=>cR (uQ (uQ acc a.x) a.y) r
theorem wP: ∀(l:List At) (acc:List (List UInt8)) (a:At),cR acc (l++[a])=uQ (uQ (cR acc l) a.x) a.y
 | [],acc,a=>rfl
 |b::r,acc,a=>by
  show cR (uQ (uQ acc b.x) b.y) (r++[a])=_
  rw [wP r];rfl
theorem lB: ∀(l:List At) (acc:List (List UInt8)),(acc.Nodup->(cR acc l).Nodup)/\(∀x,x∈cR acc l↔x∈acc\/x∈cD l)/\(cR acc l).length<=acc.length+2 * l.length
 | [],acc=>⟨id,λx=>by simp [cR,cD],by simp [cR]⟩
 |a::r,acc=>by
  obtain⟨h1,h2,h3⟩:=lB r (uQ (uQ acc a.x) a.y)
  refine⟨λh=>h1 (aBo (aBo h)),λx=> ?_, ?_⟩
  ·show x∈cR (uQ (uQ acc a.x) a.y) r↔_
   have e:cD (a::r)=([a.x,a.y]:List (List UInt8)).filter bE++cD r:=by
    unfold cD
    rw [List.flatMap_cons,List.filter_append]
   rw [h2 x,aI1,aI1,e,List.mem_append,List.mem_filter]
   simp only [List.mem_cons,List.not_mem_nil,or_false]
   constructor
   ·rintro(((h|h)|h)|h)
    ·exact .inl h
    ·exact .inr (.inl ⟨.inl h.1,by rw [h.1];exact h.2⟩)
    ·exact .inr (.inl ⟨.inr h.1,by rw [h.1];exact h.2⟩)
    ·exact .inr (.inr h)
   ·rintro(h|⟨h|h,k⟩|h)
    ·exact .inl (.inl (.inl h))
    ·exact .inl (.inl (.inr ⟨h,by rw [<-h];exact k⟩))
    ·exact .inl (.inr ⟨h,by rw [<-h];exact k⟩)
    ·exact .inr h
  ·have e1:=aD4 (uQ acc a.x) a.y
   have e2:=aD4 acc a.x
   show (cR (uQ (uQ acc a.x) a.y) r).length<=_
   rw [List.length_cons]
   omega
theorem aIu (l:List At):(cR [] l).length=(cD l).eraseDups.length:=by
 obtain⟨h1,h2,_⟩:=lB l []
 refine List.Perm.length_eq ((List.perm_ext_iff_of_nodup (h1 List.nodup_nil) (pG _ _ (Nat.le_refl _))).2 λx=> ?_)
 rw [h2 x,List.mem_eraseDups]
 simp
theorem aF3 {l:List (List UInt8)}{s:List UInt8}{j:Nat}(h:aFr s l=l.take j++aFr s (l.drop j)) (hj:j=l.length\/ ∃h:j < l.length,Op.bytesLess l[j] s=false):aFr s l=l.take j++s::l.drop j:=by
 rw [h]
 rcases hj with rfl|⟨hj,hb⟩
 ·rw [List.drop_length];rfl
 ·rw [List.drop_eq_getElem_cons hj,aFr,if_neg (by rw [hb];simp)]
theorem aM2 {l:List (List UInt8)}{s:List UInt8}{j:Nat}(hj:j < l.length) (h:aFr s l=l.take j++aFr s (l.drop j)) (hb:Op.bytesLess l[j] s=true):aFr s l=l.take (j+1)++aFr s (l.drop (j+1)):=by
 rw [h,List.drop_eq_getElem_cons hj,aFr,if_pos hb,List.take_succ_eq_append_getElem hj,List.append_assoc]
 rfl
theorem uG (l:List (List UInt8)) (s:List UInt8) (hl:l.length<=1000000):Tri Tryz.prog 174 [.d (.sl 1 (l.map aV)), .d (.str s)] [] (λr=>r= .d (.sl 1 ((uQ l s).map aV))):=by
 have hh:=lC l s
 have hta:(l.map aV).take l.length=l.map aV:=List.take_of_length_le (by simp)
 have hrl:(l.map aV).length=l.length:=List.length_map ..
 by_cases hin:bE s=true/\¬ s∈l
 case neg=>
  rw [show uQ l s=l from if_neg hin]
  by_cases hs:s∈l
  ·rw [decide_eq_true hs]at hh
   refine aF hty Tryz.func174 rfl (kp [0,1,4,5,18,31]) [] _ _ _ (by simp [Tryz.f174]) (by simp) ?_
   ((conv=>whnf);repeat' ((first|(intro hq;(try simp only [lnS]at hq);(try rewrite [List.length_map]))|refine sJ ?_|refine .intro _ (.intro rfl ?_)|refine exL (k:= ?_)|(refine⟨_,pT (by first|omega|(simp only [List.length_map];omega)), ?_⟩)|(refine aA [] hh trivial (λr hs=> ?_);subst hs)|refine dwR ?_|((first|refine aC ?_ ?_|refine aD ?_ ?_)<;>intro hb<;>(first|exact ddX hb|try simp only [lnS]at hb))|(refine aB ?_ ?_<;>intro hb<;>try exact dsX hb))<;>(conv=>whnf)))
   all_goals rfl
  ·have hlk:bE s=false:=by simpa using λh=>hin ⟨h,hs⟩
   rw [decide_eq_false hs]at hh
   match s,hlk with
   | [],_=>
    refine aF hty Tryz.func174 rfl (kp [0,1,4,5,18,31]) [] _ _ _ (by simp [Tryz.f174]) (by simp) ?_
    ((conv=>whnf);repeat' ((first|(intro hq;(try simp only [lnS]at hq);(try rewrite [List.length_map]))|refine sJ ?_|refine .intro _ (.intro rfl ?_)|refine exL (k:= ?_)|(refine⟨_,pT (by first|omega|(simp only [List.length_map];omega)), ?_⟩)|(refine aA [] hh trivial (λr hs=> ?_);subst hs)|refine dwR ?_|((first|refine aC ?_ ?_|refine aD ?_ ?_)<;>intro hb<;>(first|exact ddX hb|try simp only [lnS]at hb))|(refine aB ?_ ?_<;>intro hb<;>try exact dsX hb))<;>(conv=>whnf)))
    all_goals rfl
   |c::r,hlk=>
    have hc:¬ (c.toNat:Int)=63:=by
     intro e
     unfold bE at hlk
     rw [decide_eq_false_iff_not,List.head?_cons]at hlk
     exact hlk (congrArg some (UInt8.toNat_inj.1 (by have : (63 : UInt8).toNat = 63 := by decide
                                                     omega)))
    refine aF hty Tryz.func174 rfl (kp [0,1,4,5,18,31]) [] _ _ _ (by simp [Tryz.f174]) (by simp) ?_
    ((conv=>whnf);repeat ((first|(refine Exists.intro (show (_:Nat) < List.length _ from by simp) ?_)|(intro hq;try simp only [lnS]at hq)|refine sI ?_|refine .intro _ (.intro rfl ?_));(conv=>whnf)))
    refine aD (λh=> ?_) (λh=>absurd h hc)
    ((conv=>whnf);repeat ((first|(intro hq;try simp only [lnS]at hq)|refine sI ?_|refine .intro _ (.intro rfl ?_));(conv=>whnf)))
    rfl
 obtain⟨hlk,hs⟩:=hin
 rw [show uQ l s=aFr s l from if_pos ⟨hlk,hs⟩]
 rw [decide_eq_false hs]at hh
 match s,hlk with
 | [],hlk=>exact absurd hlk (by decide)
 |c::r,hlk=>
  have hc:(c.toNat:Int)=63:=by
   unfold bE at hlk
   rw [decide_eq_true_eq,List.head?_cons]at hlk
   injection hlk with e
   rw [e];rfl
  refine aF hty Tryz.func174 rfl (kp [0,1,4,5,18,31]) [] _ _ _ (by simp [Tryz.f174]) (by simp) ?_
  ((conv=>whnf);repeat ((first|(refine Exists.intro (show (_:Nat) < List.length _ from by simp) ?_)|(intro hq;try simp only [lnS]at hq)|refine sI ?_|refine .intro _ (.intro rfl ?_));(conv=>whnf)))
  refine aD (λh=>absurd hc h) (λhx=> ?_)
  clear hx hc
  ((conv=>whnf);repeat ((first|(refine aA [] hh trivial (λr hs=> ?_);subst hs)|(intro hq;try simp only [lnS]at hq)|refine sI ?_|refine .intro _ (.intro rfl ?_));(conv=>whnf)))
  generalize c::r=s at *
  refine aJ hty (λj:Nat=>([(0, .d (.sl 1 (l.map aV))),(1, .d (.str s)),(5, .d (.int .i64 j))],[])) (λj=>j<=l.length/\aFr s l=l.take j++aFr s (l.drop j)) (λj=>l.length - j) 0 ⟨by omega,by simp⟩ ⟨by repeat' (first|exact trivial|exact rfl|refine And.intro ?_ ?_),by repeat' (first|exact trivial|exact rfl|refine And.intro ?_ ?_)⟩ ?_
  rintro j ⟨hj,hn⟩
  ((conv=>whnf);repeat ((first|(intro hq;try simp only [lnS]at hq)|refine sI ?_|refine .intro _ (.intro rfl ?_));(conv=>whnf)))
  refine aC (λh2=> ?_) (λh2=> ?_)
  ·have hjl:j < l.length:=by have h2:(j:Int) < ((l.map aV).length:Nat):=h2;rw [hrl]at h2;omega
   have hrow:(l.map aV)[((j:Nat):Int).toNat]? =some (aV l[j]):=aO hjl
   have hstep:=aM2 hjl hn
   have hst:= λhb=>aF3 hn (.inr ⟨hjl,hb⟩)
   generalize l[j]=x at *
   ((conv=>whnf);repeat ((first|(refine⟨_,hrow, ?_⟩)|(intro hq;try simp only [lnS]at hq)|refine sI ?_|refine .intro _ (.intro rfl ?_));(conv=>whnf)))
   cases hb:Op.bytesLess x s
   ·have hst:=hst hb
    clear hstep
    ((conv=>whnf);repeat ((first|(intro hq;try simp only [lnS]at hq)|refine sI ?_|refine .intro _ (.intro rfl ?_));(conv=>whnf)))
    (refine aX (id:=6) hty (.first 1 (.first 2 (.first 3 (.first 5 (.first 8 (.first 9 (.first 10 (.alt 0 (.alt 4 (.alt 6 (.alt 7 (.alt 11 (.first 12 .done) .stop) .stop) .stop) (.alt 6 (.alt 4 (.alt 7 (.alt 11 (.first 12 .done) .stop) .stop) .stop) .stop)) (.alt 6 (.alt 0 (.alt 4 (.alt 7 (.alt 11 (.first 12 .done) .stop) .stop) .stop) .stop) .stop))))))))) (by kernel_rfl) (by kernel_rfl) ?_)
    ((conv=>whnf);repeat' ((first|(intro hq;(try simp only [lnS]at hq);(try rewrite [List.length_map]))|refine sJ ?_|refine .intro _ (.intro rfl ?_)|refine exL (k:= ?_)|(refine And.intro (by simp only [List.length_replicate,List.length_drop,List.length_take,List.length_map,List.length_append,List.length_cons,List.length_nil];omega) ?_)|exact trivial|(refine And.intro ?_ ?_)|refine dwR ?_|((first|refine aC ?_ ?_|refine aD ?_ ?_)<;>intro hb<;>(first|exact ddX hb|try simp only [lnS]at hb))|(refine aB ?_ ?_<;>intro hb<;>try exact dsX hb))<;>(conv=>whnf)))
    all_goals
     rw [hst]
     refine congrArg (λq=>SV.d (.sl 1 q)) ?_
     simp [hta,aV,List.map_append,List.map_take,List.map_drop]
   ·((conv=>whnf);repeat' ((first|(intro hq;(try simp only [lnS]at hq);(try rewrite [List.length_map]))|refine sJ ?_|refine .intro _ (.intro rfl ?_)|refine exL (k:= ?_)|refine dwR ?_|((first|refine aC ?_ ?_|refine aD ?_ ?_)<;>intro hb<;>(first|exact ddX hb|try simp only [lnS]at hb))|(refine aB ?_ ?_<;>intro hb<;>try exact dsX hb))<;>(conv=>whnf)))
    exact⟨j+1,⟨by omega,hstep hb⟩,by dsimp only;omega,⟨by repeat' (first|exact trivial|exact rfl|refine And.intro ?_ ?_),by repeat' (first|exact trivial|exact rfl|refine And.intro ?_ ?_)⟩⟩
  ·have hjl:j=l.length:=by have h2:¬ (j:Int) < ((l.map aV).length:Nat):=h2;rw [hrl]at h2;omega
   have hst:=aF3 hn (.inl hjl)
   ((conv=>whnf);repeat ((first|(intro hq;try simp only [lnS]at hq)|refine sI ?_|refine .intro _ (.intro rfl ?_));(conv=>whnf)))
   (refine aX (id:=6) hty (.first 1 (.first 2 (.first 3 (.first 5 (.first 8 (.first 9 (.first 10 (.alt 0 (.alt 4 (.alt 6 (.alt 7 (.alt 11 (.first 12 .done) .stop) .stop) .stop) (.alt 6 (.alt 4 (.alt 7 (.alt 11 (.first 12 .done) .stop) .stop) .stop) .stop)) (.alt 6 (.alt 0 (.alt 4 (.alt 7 (.alt 11 (.first 12 .done) .stop) .stop) .stop) .stop) .stop))))))))) (by kernel_rfl) (by kernel_rfl) ?_)
   ((conv=>whnf);repeat' ((first|(intro hq;(try simp only [lnS]at hq);(try rewrite [List.length_map]))|refine sJ ?_|refine .intro _ (.intro rfl ?_)|refine exL (k:= ?_)|(refine And.intro (by simp only [List.length_replicate,List.length_drop,List.length_take,List.length_map,List.length_append,List.length_cons,List.length_nil];omega) ?_)|exact trivial|(refine And.intro ?_ ?_)|refine dwR ?_|((first|refine aC ?_ ?_|refine aD ?_ ?_)<;>intro hb<;>(first|exact ddX hb|try simp only [lnS]at hb))|(refine aB ?_ ?_<;>intro hb<;>try exact dsX hb))<;>(conv=>whnf)))
   all_goals
    rw [hst]
    refine congrArg (λq=>SV.d (.sl 1 q)) ?_
    simp [hta,aV,List.map_append,List.map_take,List.map_drop]
end Go.Proofs.YtdjfkmkdkclahaaGreatDoor
namespace Go.Proofs.YtdjfkmkdkclahaaGreatDoor
open Go.Proofs Go.RowKit
set_option maxRecDepth 10000
attribute [local irreducible] aL aH Tri aI YVC bP aS
theorem jZ (p:List At) (hl:p.length<=100000):Tri Tryz.prog 115 [.d (.agg (aK p))] [] (λr=>r= .d (.sl 1 ((cR [] p).map aV))):=by
 have hpl:(p.map atR).length=p.length:=List.length_map ..
 refine Tri.says ?_
 show Tri Tryz.prog 115 [.d (.agg [.sl 6 (p.map atR)])] [] _
 refine aG false [1] hty Tryz.func115 rfl (kp [0,1,2,3,4,10]) [] _ _ _ (by simp [Tryz.f115]) (by simp) ?_
 ((conv=>whnf);repeat ((first|(intro hq;try simp only [lnS]at hq)|refine sI ?_|refine .intro _ (.intro rfl ?_));(conv=>whnf)))
 refine aJ hty (λj:Nat=>([(1, .ea 1 [[.sl 6 (p.map atR)]] 0 0),(3, .d (.sl 1 ((cR [] (p.take j)).map aV))),(4, .d (.int .i64 j))],[])) (λj=>j<=p.length) (λj=>p.length - j) 0 (by omega) ⟨by repeat' (first|exact trivial|exact rfl|refine And.intro ?_ ?_),by repeat' (first|exact trivial|exact rfl|refine And.intro ?_ ?_)⟩ ?_
 rintro j hj
 ((conv=>whnf);repeat ((first|(intro hq;try simp only [lnS]at hq)|refine sI ?_|refine .intro _ (.intro rfl ?_));(conv=>whnf)))
 rw [hpl]
 refine aC (λh1=> ?_) (λh1=> ?_)
 ·have hjl:j < p.length:=by omega
  have hrow:(p.map atR)[(j:Int).toNat]? =some (atR p[j]):=aO hjl
  have hnx:cR [] (p.take (j+1))=uQ (uQ (cR [] (p.take j)) p[j].x) p[j].y:=by rw [List.take_succ_eq_append_getElem hjl,wP]
  have hlen:=(lB (p.take j) []).2.2
  rw [List.length_take]at hlen
  simp only [List.length_nil]at hlen
  generalize cR [] (p.take j)=acc at *
  generalize p[j]=a at *
  obtain⟨kd,nm,xx,yy,lo,hi⟩:=a
  rw [show atR ⟨kd,nm,xx,yy,lo,hi⟩=[.int .i64 kd, .str nm, .str xx, .str yy, .int .i64 lo, .int .i64 hi]from rfl]at hrow
  dsimp only at hnx
  have h2:=aD4 acc xx
  have c1:=uG acc xx (by omega)
  have c2:=uG (uQ acc xx) yy (by omega)
  rw [<-hnx]at c2
  clear h2 hlen
  generalize uQ acc xx=acc1 at *
  refine aL.mid [(1, .ea 1 [[.sl 6 (p.map atR)]] 0 0),(3, .d (.sl 1 ((cR [] (p.take (j+1))).map aV))),(4, .d (.int .i64 j))] [] ?_ ?_
  ·(refine aX (id:=5) hty (.first 0 (.first 1 (.first 2 (.first 3 (.first 4 (.first 5 (.first 6 (.first 8 (.first 9 (.first 10 (.first 11 (.first 12 (.first 13 (.alt 7 (.alt 14 (.first 15 .done) .stop) .stop)))))))))))))) (by kernel_rfl) (by kernel_rfl) ?_)
   ((conv=>whnf);repeat' ((first|(intro hq;(try simp only [lnS]at hq);(try rewrite [List.length_map]))|refine sJ ?_|refine .intro _ (.intro rfl ?_)|refine exL (k:= ?_)|(refine⟨_,hrow, ?_⟩)|(refine aA [] c1 trivial (λr hs=> ?_);subst hs)|(refine aA [] c2 trivial (λr hs=> ?_);subst hs)|exact trivial|(refine And.intro ?_ ?_)|refine dwR ?_|((first|refine aC ?_ ?_|refine aD ?_ ?_)<;>intro hb<;>(first|exact ddX hb|try simp only [lnS]at hb))|(refine aB ?_ ?_<;>intro hb<;>try exact dsX hb))<;>(conv=>whnf)))
   all_goals exact⟨by repeat' (first|exact trivial|exact rfl|refine And.intro ?_ ?_),by repeat' (first|exact trivial|exact rfl|refine And.intro ?_ ?_)⟩
  ((conv=>whnf);repeat ((first|(intro hq;try simp only [lnS]at hq)|refine sI ?_|refine .intro _ (.intro rfl ?_));(conv=>whnf)))
  exact⟨j+1,by dsimp only;omega,by dsimp only;omega,⟨by repeat' (first|exact trivial|exact rfl|refine And.intro ?_ ?_),by repeat' (first|exact trivial|exact rfl|refine And.intro ?_ ?_)⟩⟩
 ·have hjl:j=p.length:=by omega
  subst hjl
  rw [List.take_length]
  ((conv=>whnf);repeat ((first|(intro hq;try simp only [lnS]at hq)|refine sI ?_|refine .intro _ (.intro rfl ?_));(conv=>whnf)))
  exact⟨_, .refl _,rfl⟩
theorem aUh {p:List At}{s:List UInt8}(hp: ∀a∈p,atE a=0) (hs:mW s=true):(p.any λa=>decide (s∈aKj a))=decide (s∈cD p):=by
 have hlk:bE s=true:=by
  unfold mW at hs
  simp only [Bool.and_eq_true,decide_eq_true_eq]at hs
  unfold bE
  rw [decide_eq_true_eq]
  exact hs.2.2.1.1
 have hne:s≠[]:= λe=>by rw [e]at hlk;exact absurd hlk (by decide)
 rw [Bool.eq_iff_iff,List.any_eq_true,decide_eq_true_eq]
 unfold cD
 rw [List.mem_filter,List.mem_flatMap]
 constructor
 ·rintro⟨a,ha,h⟩
  rw [decide_eq_true_eq]at h
  refine⟨⟨a,ha, ?_⟩,hlk⟩
  unfold aKj at h
  split at h
  ·exact h
  ·simp only [List.mem_singleton]at h
   rw [h];simp
 ·rintro⟨⟨a,ha,h⟩,_⟩
  refine⟨a,ha, ?_⟩
  rw [decide_eq_true_eq]
  unfold aKj
  split
  ·exact h
  ·rename_i hk
   have hy:a.y=[]:=by
    have h0:=hp a ha
    unfold atE at h0
    split at h0
    ·simp at h0
    ·split at h0
     ·simp at h0
     ·rename_i h2
      exact Decidable.byContradiction λe=>h2 (.inl ⟨hk,e⟩)
   rw [hy]at h
   simp only [List.mem_cons,List.not_mem_nil,or_false]at h
   rcases h with h|h
   ·rw [h];simp
   ·exact absurd h hne
end Go.Proofs.YtdjfkmkdkclahaaGreatDoor
namespace Go.Proofs.YtdjfkmkdkclahaaGreatDoor
open Go.Proofs Go.RowKit
set_option maxRecDepth 10000
attribute [local irreducible] aL aH Tri aI YVC bP aS
theorem aB5 (q:Qy):Tri Tryz.prog 76 [.d (.agg (qyR q))] [] (λr=>r= .d (.int .i64 (qE q))):=by
 rw [aOr]
 obtain⟨told,parts⟩:=q
 dsimp only
 show Tri Tryz.prog 76 [.d (.agg [.sl 1 (told.map aV), .sl 1 (parts.map aK)])] [] _
 have hlt:(told.map aV).length=told.length:=List.length_map ..
 have hlp:(parts.map aK).length=parts.length:=List.length_map ..
 by_cases h1:parts.length < 1\/4 < parts.length\/3 < told.length
 ·rw [show iE ⟨told,parts⟩=210 from if_pos h1,if_pos (by decide)]
  refine aG false [1] hty Tryz.func76 rfl (kp [0,1,2,3,4,5,6,7,8,9,10,26,31,51,56,67,81,87,96,101,113,118,132,137,147]) [] _ _ _ (by simp [Tryz.f76]) (by simp) ?_
  ((conv=>whnf);repeat' ((first|(intro hq;(try simp only [lnS]at hq);(try rewrite [List.length_map]))|refine sJ ?_|refine .intro _ (.intro rfl ?_)|refine exL (k:= ?_)|refine dwR ?_|((first|refine aC ?_ ?_|refine aD ?_ ?_)<;>intro hb<;>(first|exact ddX hb|try simp only [lnS]at hb))|(refine aB ?_ ?_<;>intro hb<;>try exact dsX hb))<;>(conv=>whnf)))
  all_goals first|rfl|(exfalso;omega)
 rw [show iE ⟨told,parts⟩=if parts.any (λp=>decide (p.length < 1) || decide (12 < p.length))then 210 else 0 from if_neg h1]
 refine aG false [1] hty Tryz.func76 rfl (kp [0,1,2,3,4,5,6,7,8,9,10,26,31,51,56,67,81,87,96,101,113,118,132,137,147]) [] _ _ _ (by simp [Tryz.f76]) (by simp) ?_
 ((conv=>whnf);repeat ((first|(intro hq;try simp only [lnS]at hq)|refine sI ?_|refine .intro _ (.intro rfl ?_));(conv=>whnf)))
 rw [hlp]
 refine aC (λh=>absurd h (by omega)) (λ_=> ?_)
 ((conv=>whnf);repeat ((first|(intro hq;try simp only [lnS]at hq)|refine sI ?_|refine .intro _ (.intro rfl ?_));(conv=>whnf)))
 rw [hlp]
 refine aC (λh=>absurd h (by omega)) (λ_=> ?_)
 ((conv=>whnf);repeat ((first|(intro hq;try simp only [lnS]at hq)|refine sI ?_|refine .intro _ (.intro rfl ?_));(conv=>whnf)))
 rw [hlt]
 refine aC (λh=>absurd h (by omega)) (λ_=> ?_)
 ((conv=>whnf);repeat ((first|(intro hq;try simp only [lnS]at hq)|refine sI ?_|refine .intro _ (.intro rfl ?_));(conv=>whnf)))
 refine aJ hty (λj:Nat=>([(1, .ea 2 [[.sl 1 (told.map aV), .sl 1 (parts.map aK)]] 0 0),(3, .d (.int .i64 j))],[])) (λj=>j<=parts.length/\(parts.take j).any (λp=>decide (p.length < 1) || decide (12 < p.length))=false) (λj=>parts.length - j) 0 ⟨by omega,rfl⟩ ⟨by repeat' (first|exact trivial|exact rfl|refine And.intro ?_ ?_),by repeat' (first|exact trivial|exact rfl|refine And.intro ?_ ?_)⟩ ?_
 rintro j ⟨hj,hn⟩
 ((conv=>whnf);repeat ((first|(intro hq;try simp only [lnS]at hq)|refine sI ?_|refine .intro _ (.intro rfl ?_));(conv=>whnf)))
 rw [hlp]
 refine aC (λh2=> ?_) (λh2=> ?_)
 ·have hjl:j < parts.length:=by omega
  have hrow:(parts.map aK)[(j:Int).toNat]? =some (aK parts[j]):=aO hjl
  have hhit:=jL (F:= λp:List At=>decide (p.length < 1) || decide (12 < p.length)) hjl
  have hsuc:=fL (F:= λp:List At=>decide (p.length < 1) || decide (12 < p.length)) hjl hn
  generalize parts[j]=x at hrow hhit hsuc
  rw [show aK x=[.sl 6 (x.map atR)]from rfl]at hrow
  have hlx:(x.map atR).length=x.length:=List.length_map ..
  ((conv=>whnf);repeat' ((first|(intro hq;(try simp only [lnS]at hq);(try rewrite [List.length_map]))|refine sJ ?_|refine .intro _ (.intro rfl ?_)|refine exL (k:= ?_)|(refine⟨_,hrow, ?_⟩)|refine dwR ?_|((first|refine aC ?_ ?_|refine aD ?_ ?_)<;>intro hb<;>(first|exact ddX hb|try simp only [lnS]at hb))|(refine aB ?_ ?_<;>intro hb<;>try exact dsX hb))<;>(conv=>whnf)))
  ·rw [hhit (by rw [Bool.or_eq_true,decide_eq_true_eq,decide_eq_true_eq];omega)];rfl
  ·rw [hhit (by rw [Bool.or_eq_true,decide_eq_true_eq,decide_eq_true_eq];omega)];rfl
  ·exact⟨j+1,⟨by omega,hsuc (by rw [Bool.or_eq_false_iff,decide_eq_false_iff_not,decide_eq_false_iff_not];omega)⟩,by dsimp only;omega,⟨by repeat' (first|exact trivial|exact rfl|refine And.intro ?_ ?_),by repeat' (first|exact trivial|exact rfl|refine And.intro ?_ ?_)⟩⟩
 have hjl:j=parts.length:=by omega
 subst hjl
 rw [List.take_length]at hn
 have hpl: ∀p∈parts,p.length<=12:=by
  intro p hp
  have:=List.any_eq_false.1 hn p hp
  simp at this
  omega
 rw [hn,if_neg (by decide)]
 clear hn h2 hj
 ((conv=>whnf);repeat ((first|(intro hq;try simp only [lnS]at hq)|refine sI ?_|refine .intro _ (.intro rfl ?_));(conv=>whnf)))
 refine aJ hty (λj:Nat=>([(1, .ea 2 [[.sl 1 (told.map aV), .sl 1 (parts.map aK)]] 0 0),(4, .d (.int .i64 j))],[])) (λj=>j<=parts.length/\cE parts.flatten=cE (parts.drop j).flatten) (λj=>parts.length - j) 0 ⟨by omega,rfl⟩ ⟨by repeat' (first|exact trivial|exact rfl|refine And.intro ?_ ?_),by repeat' (first|exact trivial|exact rfl|refine And.intro ?_ ?_)⟩ ?_
 rintro j ⟨hj,hf⟩
 ((conv=>whnf);repeat ((first|(intro hq;try simp only [lnS]at hq)|refine sI ?_|refine .intro _ (.intro rfl ?_));(conv=>whnf)))
 rw [hlp]
 refine aC (λh2=> ?_) (λh2=> ?_)
 ·have hjl:j < parts.length:=by omega
  have hrow:(parts.map aK)[(j:Int).toNat]? =some (aK parts[j]):=aO hjl
  rw [List.drop_eq_getElem_cons hjl,List.flatten_cons]at hf
  generalize parts[j]=x at hrow hf
  rw [show aK x=[.sl 6 (x.map atR)]from rfl]at hrow
  have hlx:(x.map atR).length=x.length:=List.length_map ..
  ((conv=>whnf);repeat ((first|(intro hq;try simp only [lnS]at hq)|refine sI ?_|refine .intro _ (.intro rfl ?_));(conv=>whnf)))
  refine aJ hty (λi:Nat=>([(1, .ea 2 [[.sl 1 (told.map aV), .sl 1 (parts.map aK)]] 0 0),(4, .d (.int .i64 j)),(5, .d (.int .i64 i))],[])) (λi=>i<=x.length/\cE parts.flatten=cE (x.drop i++(parts.drop (j+1)).flatten)) (λi=>x.length - i) 0 ⟨by omega,hf⟩ ⟨by repeat' (first|exact trivial|exact rfl|refine And.intro ?_ ?_),by repeat' (first|exact trivial|exact rfl|refine And.intro ?_ ?_)⟩ ?_
  rintro i ⟨hi,hg⟩
  ((conv=>whnf);repeat ((first|(refine⟨_,hrow, ?_⟩)|(intro hq;try simp only [lnS]at hq)|refine sI ?_|refine .intro _ (.intro rfl ?_));(conv=>whnf)))
  rw [hlx]
  refine aC (λh4=> ?_) (λh4=> ?_)
  ·have hil:i < x.length:=by omega
   have hrow2:(x.map atR)[(i:Int).toNat]? =some (atR x[i]):=aO hil
   rw [List.drop_eq_getElem_cons hil,List.cons_append,cE]at hg
   generalize x[i]=y at hrow2 hg
   have ha:=aIw y
   generalize atE y=ae at ha hg
   obtain⟨kd,nm,xx,yy,lo,hi'⟩:=y
   rw [show atR ⟨kd,nm,xx,yy,lo,hi'⟩=[.int .i64 kd, .str nm, .str xx, .str yy, .int .i64 lo, .int .i64 hi']from rfl]at hrow2 ha
   ((conv=>whnf);repeat' ((first|(intro hq;(try simp only [lnS]at hq);(try rewrite [List.length_map]))|refine sJ ?_|refine .intro _ (.intro rfl ?_)|refine exL (k:= ?_)|(refine⟨_,hrow, ?_⟩)|(refine⟨_,hrow2, ?_⟩)|(refine aA [] ha trivial (λr hs=> ?_);subst hs)|refine dwR ?_|((first|refine aC ?_ ?_|refine aD ?_ ?_)<;>intro hb<;>(first|exact ddX hb|try simp only [lnS]at hb))|(refine aB ?_ ?_<;>intro hb<;>try exact dsX hb))<;>(conv=>whnf)))
   ·rw [hg,if_pos hb,if_pos hb];rfl
   ·exact⟨i+1,⟨by omega,by rw [hg,if_neg (by simpa using hb)]⟩,by dsimp only;omega,⟨by repeat' (first|exact trivial|exact rfl|refine And.intro ?_ ?_),by repeat' (first|exact trivial|exact rfl|refine And.intro ?_ ?_)⟩⟩
  ·have hil:i=x.length:=by omega
   subst hil
   rw [List.drop_length,List.nil_append]at hg
   ((conv=>whnf);repeat ((first|(intro hq;try simp only [lnS]at hq)|refine sI ?_|refine .intro _ (.intro rfl ?_));(conv=>whnf)))
   exact⟨j+1,⟨by omega,hg⟩,by dsimp only;omega,⟨by repeat' (first|exact trivial|exact rfl|refine And.intro ?_ ?_),by repeat' (first|exact trivial|exact rfl|refine And.intro ?_ ?_)⟩⟩
 have hjl:j=parts.length:=by omega
 subst hjl
 rw [List.drop_length]at hf
 have hf:cE parts.flatten=0:=hf
 have hat: ∀p∈parts,∀a∈p,atE a=0:= λp hp a ha=>(cV _).1 hf a (List.mem_flatten.2 ⟨p,hp,ha⟩)
 rw [if_neg (by simpa using hf)]
 clear hf hj h2
 rw [aH5]
 ((conv=>whnf);repeat ((first|(intro hq;try simp only [lnS]at hq)|refine sI ?_|refine .intro _ (.intro rfl ?_));(conv=>whnf)))
 refine aJ hty (λj:Nat=>([(1, .ea 2 [[.sl 1 (told.map aV), .sl 1 (parts.map aK)]] 0 0),(7, .d (.int .i64 j))],[])) (λj=>j<=told.length/\(told.take j).any (λt=> !mW t)=false) (λj=>told.length - j) 0 ⟨by omega,rfl⟩ ⟨by repeat' (first|exact trivial|exact rfl|refine And.intro ?_ ?_),by repeat' (first|exact trivial|exact rfl|refine And.intro ?_ ?_)⟩ ?_
 rintro j ⟨hj,hn⟩
 ((conv=>whnf);repeat ((first|(intro hq;try simp only [lnS]at hq)|refine sI ?_|refine .intro _ (.intro rfl ?_));(conv=>whnf)))
 rw [hlt]
 refine aC (λh2=> ?_) (λh2=> ?_)
 ·have hjl:j < told.length:=by omega
  have hrow:(told.map aV)[(j:Int).toNat]? =some (aV told[j]):=aO hjl
  have hhit:=jL (F:= λt:List UInt8=> !mW t) hjl
  have hsuc:=fL (F:= λt:List UInt8=> !mW t) hjl hn
  generalize told[j]=x at hrow hhit hsuc
  ((conv=>whnf);repeat' ((first|(intro hq;(try simp only [lnS]at hq);(try rewrite [List.length_map]))|refine sJ ?_|refine .intro _ (.intro rfl ?_)|refine exL (k:= ?_)|(refine⟨_,hrow, ?_⟩)|(refine aA [] (eP x) trivial (λr hs=> ?_);subst hs)|refine dwR ?_|((first|refine aC ?_ ?_|refine aD ?_ ?_)<;>intro hb<;>(first|exact ddX hb|try simp only [lnS]at hb))|(refine aB ?_ ?_<;>intro hb<;>try exact dsX hb))<;>(conv=>whnf)))
  ·rw [if_pos (hhit hb),if_pos (by decide)];rfl
  ·exact⟨j+1,⟨by omega,hsuc hb⟩,by dsimp only;omega,⟨by repeat' (first|exact trivial|exact rfl|refine And.intro ?_ ?_),by repeat' (first|exact trivial|exact rfl|refine And.intro ?_ ?_)⟩⟩
 have hjl:j=told.length:=by omega
 subst hjl
 rw [List.take_length]at hn
 have hvar: ∀t∈told,mW t=true:= λt ht=>by
  have:=List.any_eq_false.1 hn t ht
  simpa using this
 rw [if_neg (show ¬ (told.any (λt=> !mW t)=true)by rw [hn];decide)]
 clear hn h2 hj
 ((conv=>whnf);repeat ((first|(intro hq;try simp only [lnS]at hq)|refine sI ?_|refine .intro _ (.intro rfl ?_));(conv=>whnf)))
 refine aJ hty (λj:Nat=>([(1, .ea 2 [[.sl 1 (told.map aV), .sl 1 (parts.map aK)]] 0 0),(8, .d (.int .i64 j))],[])) (λj=>j<=told.length/\(List.range j).any (aK0 told parts)=false) (λj=>told.length - j) 0 ⟨by omega,rfl⟩ ⟨by repeat' (first|exact trivial|exact rfl|refine And.intro ?_ ?_),by repeat' (first|exact trivial|exact rfl|refine And.intro ?_ ?_)⟩ ?_
 rintro j ⟨hj,hn⟩
 ((conv=>whnf);repeat ((first|(intro hq;try simp only [lnS]at hq)|refine sI ?_|refine .intro _ (.intro rfl ?_));(conv=>whnf)))
 rw [hlt]
 refine aC (λh2=> ?_) (λh2=> ?_)
 ·have hjl:j < told.length:=by omega
  have hrow:(told.map aV)[(j:Int).toNat]? =some (aV told[j]):=aO hjl
  have hhit:=pV (F:=aK0 told parts) hjl
  have hsuc:=mR (F:=aK0 told parts) hn
  have hbad:aK0 told parts j=(decide (told[j]∈told.take j) || parts.any (λp=> !decide (told[j]∈cD p))):=by
   unfold aK0
   rw [show told.getD j []=told[j]by rw [List.getD_eq_getElem?_getD,List.getElem?_eq_getElem hjl];rfl,List.contains_eq_mem]
   simp only [List.contains_eq_mem]
  have hv:=hvar told[j] (List.getElem_mem hjl)
  have hc:=lC (told.take j) told[j]
  generalize told[j]=x at hrow hbad hc hv
  rw [show aRn (told.take j)= .sl 1 ((told.take j).map aV)from rfl,List.map_take]at hc
  rw [hbad]at hhit hsuc
  (refine aX (id:=25) hty (.first 0 (.first 1 (.first 2 (.first 3 (.first 4 (.first 5 (.first 6 (.first 7 (.first 8 (.alt 9 .done .stop)))))))))) (by kernel_rfl) (by kernel_rfl) ?_)
  ((conv=>whnf);repeat' ((first|(intro hq;(try simp only [lnS]at hq);(try rewrite [List.length_map]))|refine sJ ?_|refine .intro _ (.intro rfl ?_)|refine exL (k:= ?_)|(refine⟨_,hrow, ?_⟩)|(refine aA [] hc trivial (λr hs=> ?_);subst hs)|exact trivial|(refine And.intro ?_ ?_)|refine dwR ?_|((first|refine aC ?_ ?_|refine aD ?_ ?_)<;>intro hb<;>(first|exact ddX hb|try simp only [lnS]at hb))|(refine aB ?_ ?_<;>intro hb<;>try exact dsX hb))<;>(conv=>whnf)))
  ·rw [if_pos (hhit (by rw [decide_eq_true hb];rfl)),if_pos (by decide)];rfl
  ·rw [decide_eq_false hb,Bool.false_or]at hhit hsuc
   refine aJ hty (λi:Nat=>([(1, .ea 2 [[.sl 1 (told.map aV), .sl 1 (parts.map aK)]] 0 0),(8, .d (.int .i64 j)),(9, .d (.int .i64 i))],[])) (λi=>i<=parts.length/\(parts.take i).any (λp=> !decide (x∈cD p))=false) (λi=>parts.length - i) 0 ⟨by omega,rfl⟩ ⟨by repeat' (first|exact trivial|exact rfl|refine And.intro ?_ ?_),by repeat' (first|exact trivial|exact rfl|refine And.intro ?_ ?_)⟩ ?_
   rintro i ⟨hi,hm⟩
   ((conv=>whnf);repeat ((first|(intro hq;try simp only [lnS]at hq)|refine sI ?_|refine .intro _ (.intro rfl ?_));(conv=>whnf)))
   rw [hlp]
   refine aC (λh4=> ?_) (λh4=> ?_)
   ·have hil:i < parts.length:=by omega
    have hrow2:(parts.map aK)[(i:Int).toNat]? =some (aK parts[i]):=aO hil
    have hhit2:=jL (F:= λp:List At=> !decide (x∈cD p)) hil
    have hsuc2:=fL (F:= λp:List At=> !decide (x∈cD p)) hil hm
    have hoc:=aDw parts[i] x
    rw [aUh (hat _ (List.getElem_mem hil)) hv]at hoc
    generalize parts[i]=y at hrow2 hhit2 hsuc2 hoc
    rw [show aK y=[.sl 6 (y.map atR)]from rfl]at hrow2 hoc
    (refine aX (id:=30) hty (.first 0 (.first 1 (.first 2 (.first 3 (.first 4 (.first 5 (.first 6 (.first 7 (.first 8 (.first 9 (.alt 10 (.first 11 .done) .stop))))))))))) (by kernel_rfl) (by kernel_rfl) ?_)
    ((conv=>whnf);repeat' ((first|(intro hq;(try simp only [lnS]at hq);(try rewrite [List.length_map]))|refine sJ ?_|refine .intro _ (.intro rfl ?_)|refine exL (k:= ?_)|(refine⟨_,hrow2, ?_⟩)|(refine⟨_,hrow, ?_⟩)|(refine aA [] hoc trivial (λr hs=> ?_);subst hs)|exact trivial|(refine And.intro ?_ ?_)|refine dwR ?_|((first|refine aC ?_ ?_|refine aD ?_ ?_)<;>intro hb<;>(first|exact ddX hb|try simp only [lnS]at hb))|(refine aB ?_ ?_<;>intro hb<;>try exact dsX hb))<;>(conv=>whnf)))
    ·rw [if_pos (hhit (hhit2 (by rw [decide_eq_false hb];rfl))),if_pos (by decide)];rfl
    ·exact⟨i+1,⟨by omega,hsuc2 (by rw [decide_eq_true hb];rfl)⟩,by dsimp only;omega,⟨by repeat' (first|exact trivial|exact rfl|refine And.intro ?_ ?_),by repeat' (first|exact trivial|exact rfl|refine And.intro ?_ ?_)⟩⟩
   ·have hil:i=parts.length:=by omega
    subst hil
    rw [List.take_length]at hm
    ((conv=>whnf);repeat ((first|(intro hq;try simp only [lnS]at hq)|refine sI ?_|refine .intro _ (.intro rfl ?_));(conv=>whnf)))
    exact⟨j+1,⟨by omega,hsuc hm⟩,by dsimp only;omega,⟨by repeat' (first|exact trivial|exact rfl|refine And.intro ?_ ?_),by repeat' (first|exact trivial|exact rfl|refine And.intro ?_ ?_)⟩⟩
 have hjl:j=told.length:=by omega
 subst hjl
 rw [if_neg (show ¬ ((List.range told.length).any (aK0 told parts)=true)by rw [hn];decide),if_neg (by decide)]
 clear hn h2 hj
 ((conv=>whnf);repeat ((first|(intro hq;try simp only [lnS]at hq)|refine sI ?_|refine .intro _ (.intro rfl ?_));(conv=>whnf)))
 refine aJ hty (λj:Nat=>([(1, .ea 2 [[.sl 1 (told.map aV), .sl 1 (parts.map aK)]] 0 0),(10, .d (.int .i64 j))],[])) (λj=>j<=parts.length/\(parts.take j).any (λp=>decide (8 < (cD p).eraseDups.length))=false) (λj=>parts.length - j) 0 ⟨by omega,rfl⟩ ⟨by repeat' (first|exact trivial|exact rfl|refine And.intro ?_ ?_),by repeat' (first|exact trivial|exact rfl|refine And.intro ?_ ?_)⟩ ?_
 rintro j ⟨hj,hm⟩
 ((conv=>whnf);repeat ((first|(intro hq;try simp only [lnS]at hq)|refine sI ?_|refine .intro _ (.intro rfl ?_));(conv=>whnf)))
 rw [hlp]
 refine aC (λh4=> ?_) (λh4=> ?_)
 ·have hil:j < parts.length:=by omega
  have hrow2:(parts.map aK)[(j:Int).toNat]? =some (aK parts[j]):=aO hil
  have hhit2:=jL (F:= λp:List At=>decide (8 < (cD p).eraseDups.length)) hil
  have hsuc2:=fL (F:= λp:List At=>decide (8 < (cD p).eraseDups.length)) hil hm
  have hv:=jZ parts[j] (by have:=hpl _ (List.getElem_mem hil);omega)
  have hvl:=aIu parts[j]
  generalize parts[j]=y at hrow2 hhit2 hsuc2 hv hvl
  rw [<-hvl]at hhit2 hsuc2
  generalize cR [] y=vy at hv hvl hhit2 hsuc2
  rw [show aK y=[.sl 6 (y.map atR)]from rfl]at hrow2 hv
  have hlv:(vy.map aV).length=vy.length:=List.length_map ..
  ((conv=>whnf);repeat' ((first|(intro hq;(try simp only [lnS]at hq);(try rewrite [List.length_map]))|refine sJ ?_|refine .intro _ (.intro rfl ?_)|refine exL (k:= ?_)|(refine⟨_,hrow2, ?_⟩)|(refine aA [] hv trivial (λr hs=> ?_);subst hs)|refine dwR ?_|((first|refine aC ?_ ?_|refine aD ?_ ?_)<;>intro hb<;>(first|exact ddX hb|try simp only [lnS]at hb))|(refine aB ?_ ?_<;>intro hb<;>try exact dsX hb))<;>(conv=>whnf)))
  ·rw [if_pos (hhit2 (by rw [decide_eq_true_eq];omega))];rfl
  ·exact⟨j+1,⟨by omega,hsuc2 (by rw [decide_eq_false_iff_not];omega)⟩,by dsimp only;omega,⟨by repeat' (first|exact trivial|exact rfl|refine And.intro ?_ ?_),by repeat' (first|exact trivial|exact rfl|refine And.intro ?_ ?_)⟩⟩
 ·have hil:j=parts.length:=by omega
  subst hil
  rw [List.take_length]at hm
  rw [if_neg (by rw [hm];decide)]
  ((conv=>whnf);repeat ((first|(intro hq;try simp only [lnS]at hq)|refine sI ?_|refine .intro _ (.intro rfl ?_));(conv=>whnf)))
  rfl
end Go.Proofs.YtdjfkmkdkclahaaGreatDoor
