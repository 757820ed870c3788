/-
  Ledgers: the types that come in. Ledgers: Before, Check. Ledgers: Add, Find.
  Conditions: none.
-/
import Derived.Test.YtdjfkmkdkclahaaGreatDoorWTcy
import Derived.Test.YtdjfkmkdkclahaaGreatDoorWNo
import Derived.Test.YtdjfkmkdkclahaaGreatDoorWOh
import Derived.Test.YtdjfkmkdkclahaaGreatDoorWSza
set_option linter.unnecessarySimpa false
set_option linter.unusedSectionVars false
set_option linter.unusedSimpArgs false
set_option linter.unusedVariables false
set_option maxHeartbeats 8000000
namespace Go.Proofs.YtdjfkmkdkclahaaGreatDoor
open Go.Proofs Go.RowKit Go.ChangeShapes
set_option maxRecDepth 100000
theorem aI3:zH Tryz.prog 42=some [3,35]:=by kernel_rfl
def TYL:List TypeId:=35::60::51::33::43::5::42::22::24::57::65::TT
theorem clL:Cl Tryz.prog (· ∈TYL):=aNs (by kernel_rfl)
theorem aHk {n:Nat}{ds:List D}(h:TyD Tryz.prog n 42 ds): ∃x:Ent,ds=bV x:=by
 obtain⟨m,rfl,a1,b1,rfl,h1,a2,b2,rfl,h2,rfl⟩:=mT aI3 h
 obtain⟨k,rfl,_⟩:=pF u3 h1
 obtain⟨p,rfl⟩:=yL h2
 exact⟨⟨k,p⟩,rfl⟩
theorem aKi {n:Nat}{ds:List D}(h:TyD Tryz.prog n 42 ds): ∃x:Ent,mO Tryz.prog 42 ds= .d (.agg (bV x)):=by
 rw [aGa aI3]
 obtain⟨x,rfl⟩:=aHk h
 exact⟨x,rfl⟩
theorem aFn {n:Nat}{ds:List D}(h:TyD Tryz.prog n 51 ds): ∃l:List (List At),mO Tryz.prog 51 ds= .d (.sl 1 (l.map aQ)):=by
 obtain⟨m,rfl,rows,rfl,hn,hr⟩:=pE aI2 h
 obtain⟨l,rfl⟩:=vC (f:=aQ) (λr hr=>yL hr) rows hr
 exact⟨l,by simp only [mO,aI2,aNt]⟩
theorem aMc {n:Nat}{ds:List D}(h:TyD Tryz.prog n 9 ds): ∃s:List UInt8,mO Tryz.prog 9 ds= .d (.str s):=by
 obtain⟨s,rfl,_⟩:=iS u9 h
 exact⟨s,by simp only [mO,u9]⟩
def xQ:List (String×DataW Unit):=[("math/bits.deBruijn32tab",Rows.laid_math_bits_deBruijn32tab),("math/bits.deBruijn64tab",Rows.laid_math_bits_deBruijn64tab),("internal/strconv.uint64pow10",Rows.laid_internal_strconv_uint64pow10),("veilstone/terms.needs",Rows.laid_veilstone_terms_needs),("veilstone/terms.uses",Rows.laid_veilstone_terms_uses)]
theorem nQ {W:World}: ∀ρ:Env,ρ.S=below W-> ∀id o,aN [] id=some o->RO W ρ id o:= λρ _ id o h=>by simp [aN]at h
end Go.Proofs.YtdjfkmkdkclahaaGreatDoor
namespace Go.Proofs.YtdjfkmkdkclahaaGreatDoor
open Go.Proofs Go.RowKit
set_option maxRecDepth 10000
attribute [local irreducible] aJ aG Tri aF YVC cA aU
theorem iH (a b:Lg):Tri Tryz.prog 30 [.d (.agg (lgR a)), .d (.agg (lgR b))] [] (λr=>r= .d (.bool (yS a b))):=by
 have hi:= @mM a b
 have hla:(a.entries.map bV).length=a.entries.length:=List.length_map ..
 have hlb:(b.entries.map bV).length=b.entries.length:=List.length_map ..
 have hc:=zN a.entries (b.entries.take a.entries.length)
 show Tri Tryz.prog 30 [.d (.agg [.str a.reader, .int .i64 a.version, .sl 2 (a.entries.map bV)]), .d (.agg [.str b.reader, .int .i64 b.version, .sl 2 (b.entries.map bV)])] [] _
 refine aH false [2,3] hty Tryz.func30 rfl (kp [0,1,2,3,4,25]) [] _ _ _ (by simp [Tryz.f30]) (by simp) ?_
 have hsl:List.drop 0 (List.take ((a.entries.length:Nat):Int).toNat (b.entries.map bV))=(b.entries.take a.entries.length).map bV:=by rw [List.drop_zero,Int.toNat_natCast,List.map_take]
 ((conv=>whnf);repeat' ((first|(intro hq;(try simp only [lnS]at hq);(try rewrite [List.length_map]))|refine sJ ?_|refine .intro _ (.intro rfl ?_)|refine exL (k:= ?_)|refine dwR ?_|((first|refine aC ?_ ?_|refine aD ?_ ?_)<;>intro hb<;>(first|exact ddX hb|try simp only [lnS]at hb))|(refine aB ?_ ?_<;>intro hb<;>try exact dsX hb))<;>(conv=>whnf)))
 ·refine aM ?_
  cases h:yS a b
  ·rfl
  ·exact absurd (hi.1 h).1 hb
 ·refine aM ?_
  cases h:yS a b
  ·rfl
  ·exact absurd (hi.1 h).2.1 hb
 ·refine aM ?_
  cases h:yS a b
  ·rfl
  ·have:=zI (hi.1 h).2.2
   omega
 ·rw [hsl]
  ((conv=>whnf);repeat ((first|(refine⟨.d (.bool _),_,[],rfl,trivial,hc, ?_⟩)|(intro hq;try simp only [lnS]at hq)|refine sI ?_|refine .intro _ (.intro rfl ?_));(conv=>whnf)))
  refine aM ?_
  rw [Bool.eq_iff_iff,hi,decide_eq_true_eq]
  exact⟨λh=>⟨by assumption,by assumption,h⟩,λh=>h.2.2⟩
theorem qY (l:Lg):Tri Tryz.prog 15 [.d (.agg (lgR l))] [] (λr=>r= .d (.int .i64 (lgE l))):=by
 have hl:(l.entries.map bV).length=l.entries.length:=List.length_map ..
 have h1:=iG l.reader
 have h2:=gI l.version
 show Tri Tryz.prog 15 [.d (.agg [.str l.reader, .int .i64 l.version, .sl 2 (l.entries.map bV)])] [] _
 refine aH false [1,4,5] hty Tryz.func15 rfl (kp [0,1,2,3,4,5,6,16,20,22,23,24,25,33,41,57]) [] _ _ _ (by simp [Tryz.f15]) (by simp) ?_
 generalize hb1:rdF l.reader=b1 at *
 generalize hb2:wC l.version=b2 at *
 have hE:lgE l=if b1=false\/b2=false then 1 else if 1024 < l.entries.length then 2 else iM [] l.entries:=by
  unfold lgE
  rw [hb1,hb2]
 rw [hE]
 by_cases hb:b1=false\/b2=false
 ·rw [if_pos hb]
  cases b1<;>cases b2
  all_goals
   ((conv=>whnf);repeat' ((first|(intro hq;(try simp only [lnS]at hq);(try rewrite [List.length_map]))|refine sJ ?_|refine .intro _ (.intro rfl ?_)|refine exL (k:= ?_)|(refine aA [] h1 trivial (λr hs=> ?_);subst hs)|(refine aA [] h2 trivial (λr hs=> ?_);subst hs)|refine dwR ?_|((first|refine aC ?_ ?_|refine aD ?_ ?_)<;>intro hb<;>(first|exact ddX hb|try simp only [lnS]at hb))|(refine aB ?_ ?_<;>intro hb<;>try exact dsX hb))<;>(conv=>whnf)))
  all_goals first|rfl|(simp at hb;done)
 ·rw [if_neg hb]
  obtain rfl:b1=true:=by cases b1<;>simp_all
  obtain rfl:b2=true:=by cases b2<;>simp_all
  ((conv=>whnf);repeat ((first|(refine aA [] h1 trivial (λr hs=> ?_);subst hs)|(refine aA [] h2 trivial (λr hs=> ?_);subst hs)|(intro hq;try simp only [lnS]at hq)|refine sI ?_|refine .intro _ (.intro rfl ?_));(conv=>whnf)))
  rw [hl]
  refine aC (λh3=> ?_) (λh3=> ?_)
  ·rw [if_pos (by omega)]
   ((conv=>whnf);repeat ((first|(intro hq;try simp only [lnS]at hq)|refine sI ?_|refine .intro _ (.intro rfl ?_));(conv=>whnf)))
   rfl
  rw [if_neg (by omega)]
  ((conv=>whnf);repeat ((first|(intro hq;try simp only [lnS]at hq)|refine sI ?_|refine .intro _ (.intro rfl ?_));(conv=>whnf)))
  refine aP hty (λj:Nat=>([(1, .ea 3 [[.str l.reader, .int .i64 l.version, .sl 2 (l.entries.map bV)]] 0 0),(22, .d (.sl 2 (l.entries.map bV))),(23, .d (.int .i64 l.entries.length)),(24, .d (.int .i64 j))],[])) (λj=>j<=l.entries.length/\iM [] l.entries=iM (l.entries.take j) (l.entries.drop j)) (λj=>l.entries.length - j) 0 ⟨Nat.zero_le _,rfl⟩ ⟨by repeat' (first|exact trivial|exact rfl|(rw [List.length_map];exact rfl)|refine And.intro ?_ ?_),trivial⟩ ?_
  rintro j ⟨hj,hn⟩
  ((conv=>whnf);repeat ((first|(intro hq;try simp only [lnS]at hq)|refine sI ?_|refine .intro _ (.intro rfl ?_));(conv=>whnf)))
  refine aC (λh4=> ?_) (λh4=> ?_)
  ·have hjl:j < l.entries.length:=by omega
   have hrow:(l.entries.map bV)[((j:Nat):Int).toNat]? =some (bV l.entries[j]):=aT hjl
   have htl:(l.entries.take j).length=j:=by rw [List.length_take];omega
   have hts:l.entries.take (j+1)=l.entries.take j++[l.entries[j]]:=List.take_succ_eq_append_getElem hjl
   rw [List.drop_eq_getElem_cons hjl,iM,htl,<-hts]at hn
   have c1:=fO l.entries[j].part
   have c2:=gD (eQ l.entries[j].part) l.entries[j].part
   have c3:=nC (l.entries.take j) l.entries[j].part
   have c4:= @aHd (l.entries.take j) l.entries[j].part
   have hsl:List.drop 0 (List.take ((j:Nat):Int).toNat (l.entries.map bV))=(l.entries.take j).map bV:=by rw [List.drop_zero,Int.toNat_natCast,List.map_take]
   generalize aBm (l.entries.take j) l.entries[j].part=fx at *
   have hee:aIl (l.entries.take j) j l.entries[j]=if l.entries[j].no≠(j:Int)+1 then 380 else if ptE l.entries[j].part≠0 then ptE l.entries[j].part else if eQ l.entries[j].part=l.entries[j].part/\l.entries[j].part∉(l.entries.take j).map Ent.part then 0 else 380:=rfl
   generalize aIl (l.entries.take j) j l.entries[j]=ee at *
   rw [hn]
   generalize l.entries[j]=x at *
   obtain⟨no,q⟩:=x
   rw [show bV ⟨no,q⟩=[.int .i64 no, .sl 6 (q.map atR)]from rfl]at hrow
   dsimp only at c1 c2 c3 c4 hee
   ((conv=>whnf);repeat ((first|(refine⟨_,hrow, ?_⟩)|(intro hq;try simp only [lnS]at hq)|refine sI ?_|refine .intro _ (.intro rfl ?_));(conv=>whnf)))
   refine aD (λh5=> ?_) (λh5=> ?_)
   ·rw [if_pos h5]at hee
    subst hee
    rw [if_pos (by decide)]
    ((conv=>whnf);repeat ((first|(intro hq;try simp only [lnS]at hq)|refine sI ?_|refine .intro _ (.intro rfl ?_));(conv=>whnf)))
    rfl
   have h5:no=(j:Int)+1:=by simpa using h5
   rw [if_neg (by simpa using h5)]at hee
   generalize ptE q=e at *
   by_cases h6:e=0
   ·subst h6
    rw [if_pos rfl]at c1
    rw [if_neg (by decide)]at hee
    rw [show aQ (eQ q)=[.sl 6 ((eQ q).map atR)]from rfl]at c1 c2
    rw [show aQ q=[.sl 6 (q.map atR)]from rfl]at c1 c2 c3
    ((conv=>whnf);repeat ((first|(refine aA [] c1 trivial (λr hs=> ?_);subst hs)|(intro hq;try simp only [lnS]at hq)|refine sI ?_|refine .intro _ (.intro rfl ?_));(conv=>whnf)))
    refine dwR ?_
    ((conv=>whnf);repeat ((first|(refine⟨.d (.bool _),_,[],rfl,trivial,c2, ?_⟩)|(intro hq;try simp only [lnS]at hq)|refine sI ?_|refine .intro _ (.intro rfl ?_));(conv=>whnf)))
    by_cases h7:eQ q=q
    ·rw [decide_eq_true h7]
     ((conv=>whnf);repeat ((first|(intro hq;try simp only [lnS]at hq)|refine sI ?_|refine .intro _ (.intro rfl ?_));(conv=>whnf)))
     rw [hsl]
     ((conv=>whnf);repeat ((first|(refine⟨.d (.int .i64 _),_,[],rfl,trivial,c3, ?_⟩)|(intro hq;try simp only [lnS]at hq)|refine sI ?_|refine .intro _ (.intro rfl ?_));(conv=>whnf)))
     refine aC (λh8=> ?_) (λh8=> ?_)
     ·rw [if_neg (λh=>h.2 (c4.1 h8))]at hee
      subst hee
      rw [if_pos (by decide)]
      ((conv=>whnf);repeat ((first|(intro hq;try simp only [lnS]at hq)|refine sI ?_|refine .intro _ (.intro rfl ?_));(conv=>whnf)))
      rfl
     ·rw [if_pos ⟨h7,λh=>h8 (c4.2 h)⟩]at hee
      subst hee
      rw [if_neg (by decide)]at hn |-
      ((conv=>whnf);repeat ((first|(intro hq;try simp only [lnS]at hq)|refine sI ?_|refine .intro _ (.intro rfl ?_));(conv=>whnf)))
      exact⟨j+1,⟨by omega,rfl⟩,by dsimp only;omega,by repeat' (first|exact trivial|exact rfl|refine And.intro ?_ ?_),trivial⟩
    ·rw [decide_eq_false h7]
     rw [if_neg (λh=>h7 h.1)]at hee
     subst hee
     rw [if_pos (by decide)]
     ((conv=>whnf);repeat ((first|(intro hq;try simp only [lnS]at hq)|refine sI ?_|refine .intro _ (.intro rfl ?_));(conv=>whnf)))
     rfl
   ·rw [if_neg h6]at c1
    rw [if_pos h6]at hee
    subst hee
    rw [if_pos h6]
    rw [show aQ q=[.sl 6 (q.map atR)]from rfl,show aQ []=[.sl 6 []]from rfl]at c1
    ((conv=>whnf);repeat ((first|(refine aA [] c1 trivial (λr hs=> ?_);subst hs)|(intro hq;try simp only [lnS]at hq)|refine sI ?_|refine .intro _ (.intro rfl ?_));(conv=>whnf)))
    rw [decide_eq_false h6]
    ((conv=>whnf);repeat ((first|(intro hq;try simp only [lnS]at hq)|refine sI ?_|refine .intro _ (.intro rfl ?_));(conv=>whnf)))
    rfl
  ·have hjl:j=l.entries.length:=by omega
   subst hjl
   rw [List.drop_length,iM]at hn
   rw [hn]
   ((conv=>whnf);repeat ((first|(intro hq;try simp only [lnS]at hq)|refine sI ?_|refine .intro _ (.intro rfl ?_));(conv=>whnf)))
   rfl
end Go.Proofs.YtdjfkmkdkclahaaGreatDoor
namespace Go.Proofs.YtdjfkmkdkclahaaGreatDoor
open Go.Proofs Go.RowKit
set_option maxRecDepth 10000
attribute [local irreducible] aJ aG Tri aF YVC cA aU
theorem nF (l:Lg) (p:List At):Tri Tryz.prog 21 [.d (.agg (lgR l)), .d (.agg (aQ p))] [] (λr=>r= .tup [.d (.int .i64 (sZ l p).1), .d (.bool (sZ l p).2)]):=by
 have c1:=fO p
 have c2:=nC l.entries (eQ p)
 have c3:=aIj l.entries (eQ p)
 show Tri Tryz.prog 21 [.d (.agg [.str l.reader, .int .i64 l.version, .sl 2 (l.entries.map bV)]), .d (.agg [.sl 6 (p.map atR)])] [] _
 rw [show aQ p=[.sl 6 (p.map atR)]from rfl]at c1
 rw [show aQ (eQ p)=[.sl 6 ((eQ p).map atR)]from rfl]at c2
 unfold sZ
 refine aH false [2,3,6] hty Tryz.func21 rfl (kp [0,1,2,3,4,5,6,7,8,15,21]) [] _ _ _ (by simp [Tryz.f21]) (by simp) ?_
 generalize ptE p=e at *
 by_cases h:e=0
 ·subst h
  rw [if_pos rfl,show aQ (eQ p)=[.sl 6 ((eQ p).map atR)]from rfl]at c1
  rw [if_neg (by decide)]
  ((conv=>whnf);repeat ((first|(refine aA [] c1 trivial (λr hs=> ?_);subst hs)|(refine aA [] c2 trivial (λr hs=> ?_);subst hs)|(intro hq;try simp only [lnS]at hq)|refine sI ?_|refine .intro _ (.intro rfl ?_));(conv=>whnf)))
  rcases c3 with⟨e1,e2⟩|⟨k,hk,e1,e2⟩
  ·rw [e1,e2]
   ((conv=>whnf);repeat ((first|(intro hq;try simp only [lnS]at hq)|refine sI ?_|refine .intro _ (.intro rfl ?_));(conv=>whnf)))
   rfl
  ·have hrow:(l.entries.map bV)[((k:Nat):Int).toNat]? =some (bV l.entries[k]):=aT hk
   rw [e1,e2]
   rw [show bV l.entries[k]=[.int .i64 l.entries[k].no, .sl 6 (l.entries[k].part.map atR)]from rfl]at hrow
   rw [decide_eq_false (by omega)]
   ((conv=>whnf);repeat ((first|(refine⟨_,hrow, ?_⟩)|(intro hq;try simp only [lnS]at hq)|refine sI ?_|refine .intro _ (.intro rfl ?_));(conv=>whnf)))
   rfl
 ·rw [if_neg h,show aQ []=[.sl 6 []]from rfl]at c1
  rw [if_pos h]
  ((conv=>whnf);repeat ((first|(refine aA [] c1 trivial (λr hs=> ?_);subst hs)|(intro hq;try simp only [lnS]at hq)|refine sI ?_|refine .intro _ (.intro rfl ?_));(conv=>whnf)))
  rw [decide_eq_false h]
  ((conv=>whnf);repeat ((first|(intro hq;try simp only [lnS]at hq)|refine sI ?_|refine .intro _ (.intro rfl ?_));(conv=>whnf)))
  rfl
theorem cJ.first3 {a a' b c:SV}(h:cJ a a'):cJ (.tup [a,b,c]) (.tup [a',b,c]):=cJ.tup rfl λj x y hx hy=>by
 match j,hx,hy with
 | 0,hx,hy=>simp at hx hy;subst hx;subst hy;exact h
 | 1,hx,hy=>simp at hx hy;subst hx;subst hy;exact .refl _
 | 2,hx,hy=>simp at hx hy;subst hx;subst hy;exact .refl _
 |j+3,hx,_=>simp at hx
theorem aKm (l:Lg) (p:List At):aFp l p=if lgE l≠0 then (lg0,0,lgE l)else if ptE p≠0 then (lg0,0,ptE p)else
 match yD l.entries (eQ p)with
 |some no=>(l,no,0)
 |none=>if 1024<=l.entries.length then (lg0,0,380)else (⟨l.reader,l.version,l.entries++[⟨(l.entries.length:Int)+1,eQ p⟩]⟩,(l.entries.length:Int)+1,0):=rfl
theorem qZ (l:Lg) (p:List At):Tri Tryz.prog 19 [.d (.agg (lgR l)), .d (.agg (aQ p))] [] (λr=>r= .tup [.d (.agg (lgR (aFp l p).1)), .d (.int .i64 (aFp l p).2.1), .d (.int .i64 (aFp l p).2.2)]):=by
 have c0:=qY l
 have c1:=fO p
 have c2:=nC l.entries (eQ p)
 have c3:=aIj l.entries (eQ p)
 have hl:(l.entries.map bV).length=l.entries.length:=List.length_map ..
 have hE:=aKm l p
 rw [show lgR l=[.str l.reader, .int .i64 l.version, .sl 2 (l.entries.map bV)]from rfl]at c0 |-
 rw [show aQ p=[.sl 6 (p.map atR)]from rfl]at c1 |-
 rw [show aQ (eQ p)=[.sl 6 ((eQ p).map atR)]from rfl]at c2
 refine Tri.says ?_
 refine aH false [2,3,8] hty Tryz.func19 rfl (kp [0,1,2,3,4,5,6,7,8,9,13,22,30,41]) [] _ _ _ (by simp [Tryz.f19]) (by simp) ?_
 generalize hge:lgE l=g at *
 by_cases hg:g=0
 ·subst hg
  rw [if_neg (by decide)]at hE
  generalize ptE p=e at *
  by_cases h:e=0
  ·subst h
   rw [if_pos rfl,show aQ (eQ p)=[.sl 6 ((eQ p).map atR)]from rfl]at c1
   rw [if_neg (by decide)]at hE
   ((conv=>whnf);repeat ((first|(refine aA [] c0 trivial (λr hs=> ?_);subst hs)|(refine aA [] c1 trivial (λr hs=> ?_);subst hs)|(refine aA [] c2 trivial (λr hs=> ?_);subst hs)|(intro hq;try simp only [lnS]at hq)|refine sI ?_|refine .intro _ (.intro rfl ?_));(conv=>whnf)))
   rcases c3 with⟨e1,e2⟩|⟨k,hk,e1,e2⟩
   ·rw [e1]at hE
    dsimp only at hE
    rw [e2]
    ((conv=>whnf);repeat ((first|(intro hq;try simp only [lnS]at hq)|refine sI ?_|refine .intro _ (.intro rfl ?_));(conv=>whnf)))
    rw [hl]
    refine aC (λh3=> ?_) (λh3=> ?_)
    ·rw [if_pos (by omega)]at hE
     rw [hE]
     ((conv=>whnf);repeat ((first|(intro hq;try simp only [lnS]at hq)|refine sI ?_|refine .intro _ (.intro rfl ?_));(conv=>whnf)))
     exact⟨_,cJ.first3 (cJ.wkd (by repeat' (first|exact trivial|exact rfl|exact eE _|refine And.intro ?_ ?_))),rfl⟩
    ·rw [if_neg (by omega)]at hE
     rw [hE]
     have hn:(l.entries.length:Int)+1<=1024:=by omega
     ((conv=>whnf);repeat ((first|(intro hq;try simp only [lnS]at hq)|refine sI ?_|refine .intro _ (.intro rfl ?_));(conv=>whnf)))
     (refine dJ (id:=13) hty (.first 0 (.first 1 (.first 2 (.first 3 (.first 4 (.alt 5 (.first 6 (.alt 7 .done .stop)) .stop)))))) (by kernel_rfl) (by kernel_rfl) ?_)
     ((conv=>whnf);repeat' ((first|exact trivial|refine yU ?_ ?_|intro cap' hcap'|refine eqN rfl ?_|refine leN rfl ?_|refine ltN rfl ?_|refine sJ ?_|(refine Exists.intro _ (And.intro rfl ?_)))<;>(conv=>whnf)))
     all_goals
      refine⟨(List.length_append ..).symm, ?_, ?_,λcp2 hcp2=> ?_⟩
      ·rw [List.length_append,hl]
       show 0+l.entries.length+1<=_
       omega
      ·rw [List.length_append,hl]
       show (0+l.entries.length+1)* 32<=_
       omega
      ((conv=>whnf);repeat ((first|(intro hq;try simp only [lnS]at hq)|refine sI ?_|refine .intro _ (.intro rfl ?_));(conv=>whnf)))
      refine⟨(List.length_append ..).symm, ?_⟩
      have hfin:(l.entries++[Ent.mk ((l.entries.length:Int)+1) (eQ p)]).map bV=l.entries.map bV++[[.int .i64 ((l.entries.map bV).length+1), .sl 6 ((eQ p).map atR)]]:=by rw [List.map_append,hl];rfl
      refine⟨rfl,_, .refl _, ?_⟩
      show _=SV.tup [.d (.agg [.str l.reader, .int .i64 l.version, .sl 2 ((l.entries++[Ent.mk ((l.entries.length:Int)+1) (eQ p)]).map bV)]), .d (.int .i64 ((l.entries.length:Int)+1)), .d (.int .i64 0)]
      rw [hfin,hl]
      rfl
   ·have hrow:(l.entries.map bV)[((k:Nat):Int).toNat]? =some (bV l.entries[k]):=aT hk
    rw [show bV l.entries[k]=[.int .i64 l.entries[k].no, .sl 6 (l.entries[k].part.map atR)]from rfl]at hrow
    rw [e2]at hE
    dsimp only at hE
    rw [e1,hE]
    rw [decide_eq_true (by omega)]
    ((conv=>whnf);repeat ((first|(intro hq;try simp only [lnS]at hq)|refine sI ?_|refine .intro _ (.intro rfl ?_));(conv=>whnf)))
    (refine dJ (id:=9) hty (.first 0 (.first 1 (.first 2 (.first 3 (.first 4 (.first 5 (.first 6 (.alt 7 (.first 8 (.first 9 .done)) .stop)))))))) (by kernel_rfl) (by kernel_rfl) ?_)
    ((conv=>whnf);repeat' ((first|exact trivial|refine yU ?_ ?_|(refine⟨_,hrow, ?_⟩)|refine eqN rfl ?_|refine leN rfl ?_|refine ltN rfl ?_|refine sJ ?_|(refine Exists.intro _ (And.intro rfl ?_)))<;>(conv=>whnf)))
    all_goals exact⟨_, .refl _,rfl⟩
  ·rw [if_neg h,show aQ []=[.sl 6 []]from rfl]at c1
   rw [if_pos h]at hE
   rw [hE]
   ((conv=>whnf);repeat ((first|(refine aA [] c0 trivial (λr hs=> ?_);subst hs)|(refine aA [] c1 trivial (λr hs=> ?_);subst hs)|(intro hq;try simp only [lnS]at hq)|refine sI ?_|refine .intro _ (.intro rfl ?_));(conv=>whnf)))
   rw [decide_eq_false h]
   ((conv=>whnf);repeat ((first|(intro hq;try simp only [lnS]at hq)|refine sI ?_|refine .intro _ (.intro rfl ?_));(conv=>whnf)))
   exact⟨_,cJ.first3 (cJ.wkd (by repeat' (first|exact trivial|exact rfl|exact eE _|refine And.intro ?_ ?_))),rfl⟩
 ·rw [if_pos hg]at hE
  rw [hE]
  ((conv=>whnf);repeat ((first|(refine aA [] c0 trivial (λr hs=> ?_);subst hs)|(intro hq;try simp only [lnS]at hq)|refine sI ?_|refine .intro _ (.intro rfl ?_));(conv=>whnf)))
  rw [decide_eq_false hg]
  ((conv=>whnf);repeat ((first|(intro hq;try simp only [lnS]at hq)|refine sI ?_|refine .intro _ (.intro rfl ?_));(conv=>whnf)))
  exact⟨_,cJ.first3 (cJ.wkd (by repeat' (first|exact trivial|exact rfl|exact eE _|refine And.intro ?_ ?_))),rfl⟩
end Go.Proofs.YtdjfkmkdkclahaaGreatDoor
