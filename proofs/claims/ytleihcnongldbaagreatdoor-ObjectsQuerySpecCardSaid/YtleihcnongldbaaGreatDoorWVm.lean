/-
  The reference's queries: the variables of a part.
  Conditions: none.
-/
import Derived.Test.YtleihcnongldbaaGreatDoorWVk
import Derived.Test.YtleihcnongldbaaGreatDoorWG4
set_option linter.unnecessarySimpa false
set_option linter.unusedSectionVars false
set_option linter.unusedSimpArgs false
set_option linter.unusedVariables false
set_option maxHeartbeats 8000000
namespace Go.Proofs.YtleihcnongldbaaGreatDoor
open Go.Proofs Go.RowKit
set_option maxRecDepth 10000
attribute [local irreducible] aN aJ Tri aI YVC cP bE
def aE2 (s:List UInt8):List (List UInt8)->List (List UInt8)
 | []=>[s]
 |a::r=>if Op.bytesLess a s=true then a::aE2 s r else s::a::r
def uR (l:List (List UInt8)) (s:List UInt8):List (List UInt8):=if bX s=true/\¬ s∈l then aE2 s l else l
theorem sQ (s:List UInt8): ∀l,(aE2 s l).Perm (s::l)
 | []=> .refl _
 |a::r=>by
  rw [aE2]
  split
  ·exact((sQ s r).cons a).trans (List.Perm.swap ..)
  ·exact .refl _
theorem aG3 {l:List (List UInt8)}{s x:List UInt8}:x∈uR l s↔x∈l\/(x=s/\bX s=true):=by
 unfold uR
 split
 ·rename_i h
  rw [(sQ s l).mem_iff,List.mem_cons]
  constructor
  ·rintro(e|e)
   ·exact .inr ⟨e,h.1⟩
   ·exact .inl e
  ·rintro(e|e)
   ·exact .inr e
   ·exact .inl e.1
 ·rename_i h
  refine⟨.inl,λe=> ?_⟩
  rcases e with e|⟨rfl,e⟩
  ·exact e
  ·exact Decidable.byContradiction λhn=>h ⟨e,hn⟩
theorem aAe {l:List (List UInt8)}{s:List UInt8}(h:l.Nodup):(uR l s).Nodup:=by
 unfold uR
 split
 ·rename_i h1
  rw [(sQ s l).nodup_iff,List.nodup_cons]
  exact⟨h1.2,h⟩
 ·exact h
theorem aBz (l:List (List UInt8)) (s:List UInt8):(uR l s).length<=l.length+1:=by
 unfold uR
 split
 ·rw [(sQ s l).length_eq];exact Nat.le_refl _
 ·omega
def fF:List (List UInt8)->List At->List (List UInt8)
 |acc,[]=>acc
 |acc,a::r=>fF (uR (uR acc a.x) a.y) r
theorem wO: ∀(l:List At) (acc:List (List UInt8)) (a:At),fF acc (l++[a])=uR (uR (fF acc l) a.x) a.y
 | [],acc,a=>rfl
 |b::r,acc,a=>by
  show fF (uR (uR acc b.x) b.y) (r++[a])=_
  rw [wO r];rfl
theorem tN: ∀(l:List At) (acc:List (List UInt8)),(acc.Nodup->(fF acc l).Nodup)/\(∀x,x∈fF acc l↔x∈acc\/x∈dB l)/\(fF acc l).length<=acc.length+2 * l.length
 | [],acc=>⟨id,λx=>by simp [fF,dB],by simp [fF]⟩
 |a::r,acc=>by
  obtain⟨h1,h2,h3⟩:=tN r (uR (uR acc a.x) a.y)
  refine⟨λh=>h1 (aAe (aAe h)),λx=> ?_, ?_⟩
  ·show x∈fF (uR (uR acc a.x) a.y) r↔_
   have e:dB (a::r)=([a.x,a.y]:List (List UInt8)).filter bX++dB r:=by
    unfold dB
    rw [List.flatMap_cons,List.filter_append]
   rw [h2 x,aG3,aG3,e,List.mem_append,List.mem_filter]
   simp only [List.mem_cons,List.not_mem_nil,or_false]
   constructor
   ·rintro(((h|h)|h)|h)
    ·exact .inl h
    ·exact .inr (.inl ⟨.inl h.1,by rw [h.1];exact h.2⟩)
    ·exact .inr (.inl ⟨.inr h.1,by rw [h.1];exact h.2⟩)
    ·exact .inr (.inr h)
   ·rintro(h|⟨h|h,k⟩|h)
    ·exact .inl (.inl (.inl h))
    ·exact .inl (.inl (.inr ⟨h,by rw [<-h];exact k⟩))
    ·exact .inl (.inr ⟨h,by rw [<-h];exact k⟩)
    ·exact .inr h
  ·have e1:=aBz (uR acc a.x) a.y
   have e2:=aBz acc a.x
   show (fF (uR (uR acc a.x) a.y) r).length<=_
   rw [List.length_cons]
   omega
theorem aGy (l:List At):(fF [] l).length=(dB l).eraseDups.length:=by
 obtain⟨h1,h2,_⟩:=tN l []
 refine List.Perm.length_eq ((List.perm_ext_iff_of_nodup (h1 List.nodup_nil) (rG _ _ (Nat.le_refl _))).2 λx=> ?_)
 rw [h2 x,List.mem_eraseDups]
 simp
theorem aDb {l:List (List UInt8)}{s:List UInt8}{j:Nat}(h:aE2 s l=l.take j++aE2 s (l.drop j)) (hj:j=l.length\/ ∃h:j < l.length,Op.bytesLess l[j] s=false):aE2 s l=l.take j++s::l.drop j:=by
 rw [h]
 rcases hj with rfl|⟨hj,hb⟩
 ·rw [List.drop_length];rfl
 ·rw [List.drop_eq_getElem_cons hj,aE2,if_neg (by rw [hb];simp)]
theorem aKj {l:List (List UInt8)}{s:List UInt8}{j:Nat}(hj:j < l.length) (h:aE2 s l=l.take j++aE2 s (l.drop j)) (hb:Op.bytesLess l[j] s=true):aE2 s l=l.take (j+1)++aE2 s (l.drop (j+1)):=by
 rw [h,List.drop_eq_getElem_cons hj,aE2,if_pos hb,List.take_succ_eq_append_getElem hj,List.append_assoc]
 rfl
theorem uF (l:List (List UInt8)) (s:List UInt8) (hl:l.length<=1000000):Tri Tryz.prog 155 [.d (.sl 1 (l.map bL)), .d (.str s)] [] (λr=>r= .d (.sl 1 ((uR l s).map bL))):=by
 have hh:=rL l s
 have hta:(l.map bL).take l.length=l.map bL:=List.take_of_length_le (by simp)
 have hrl:(l.map bL).length=l.length:=List.length_map ..
 by_cases hin:bX s=true/\¬ s∈l
 case neg=>
  rw [show uR l s=l from if_neg hin]
  by_cases hs:s∈l
  ·rw [decide_eq_true hs]at hh
   refine aF hty Tryz.func155 rfl (kp [0,1,4,5,18,31]) [] _ _ _ (by simp [Tryz.f155]) (by simp) ?_
   ((conv=>whnf);repeat' ((first|(intro hq;(try simp only [lnS]at hq);(try rewrite [List.length_map]))|refine sJ ?_|refine .intro _ (.intro rfl ?_)|refine exL (k:= ?_)|(refine⟨_,rR (by first|omega|(simp only [List.length_map];omega)), ?_⟩)|(refine aD [] hh trivial (λr hs=> ?_);subst hs)|refine dwR ?_|((first|refine aB ?_ ?_|refine aC ?_ ?_)<;>intro hb<;>(first|exact ddX hb|try simp only [lnS]at hb))|(refine aA ?_ ?_<;>intro hb<;>try exact dsX hb))<;>(conv=>whnf)))
   all_goals rfl
  ·have hlk:bX s=false:=by simpa using λh=>hin ⟨h,hs⟩
   rw [decide_eq_false hs]at hh
   match s,hlk with
   | [],_=>
    refine aF hty Tryz.func155 rfl (kp [0,1,4,5,18,31]) [] _ _ _ (by simp [Tryz.f155]) (by simp) ?_
    ((conv=>whnf);repeat' ((first|(intro hq;(try simp only [lnS]at hq);(try rewrite [List.length_map]))|refine sJ ?_|refine .intro _ (.intro rfl ?_)|refine exL (k:= ?_)|(refine⟨_,rR (by first|omega|(simp only [List.length_map];omega)), ?_⟩)|(refine aD [] hh trivial (λr hs=> ?_);subst hs)|refine dwR ?_|((first|refine aB ?_ ?_|refine aC ?_ ?_)<;>intro hb<;>(first|exact ddX hb|try simp only [lnS]at hb))|(refine aA ?_ ?_<;>intro hb<;>try exact dsX hb))<;>(conv=>whnf)))
    all_goals rfl
   |c::r,hlk=>
    have hc:¬ (c.toNat:Int)=63:=by
     intro e
     unfold bX at hlk
     rw [decide_eq_false_iff_not,List.head?_cons]at hlk
     exact hlk (congrArg some (UInt8.toNat_inj.1 (by have : (63 : UInt8).toNat = 63 := by decide
                                                     omega)))
    refine aF hty Tryz.func155 rfl (kp [0,1,4,5,18,31]) [] _ _ _ (by simp [Tryz.f155]) (by simp) ?_
    ((conv=>whnf);repeat ((first|(refine Exists.intro (show (_:Nat) < List.length _ from by simp) ?_)|(intro hq;try simp only [lnS]at hq)|refine sI ?_|refine .intro _ (.intro rfl ?_));(conv=>whnf)))
    refine aC (λh=> ?_) (λh=>absurd h hc)
    ((conv=>whnf);repeat ((first|(intro hq;try simp only [lnS]at hq)|refine sI ?_|refine .intro _ (.intro rfl ?_));(conv=>whnf)))
    rfl
 obtain⟨hlk,hs⟩:=hin
 rw [show uR l s=aE2 s l from if_pos ⟨hlk,hs⟩]
 rw [decide_eq_false hs]at hh
 match s,hlk with
 | [],hlk=>exact absurd hlk (by decide)
 |c::r,hlk=>
  have hc:(c.toNat:Int)=63:=by
   unfold bX at hlk
   rw [decide_eq_true_eq,List.head?_cons]at hlk
   injection hlk with e
   rw [e];rfl
  refine aF hty Tryz.func155 rfl (kp [0,1,4,5,18,31]) [] _ _ _ (by simp [Tryz.f155]) (by simp) ?_
  ((conv=>whnf);repeat ((first|(refine Exists.intro (show (_:Nat) < List.length _ from by simp) ?_)|(intro hq;try simp only [lnS]at hq)|refine sI ?_|refine .intro _ (.intro rfl ?_));(conv=>whnf)))
  refine aC (λh=>absurd hc h) (λhx=> ?_)
  clear hx hc
  ((conv=>whnf);repeat ((first|(refine aD [] hh trivial (λr hs=> ?_);subst hs)|(intro hq;try simp only [lnS]at hq)|refine sI ?_|refine .intro _ (.intro rfl ?_));(conv=>whnf)))
  generalize c::r=s at *
  refine aH hty (λj:Nat=>([(0, .d (.sl 1 (l.map bL))),(1, .d (.str s)),(5, .d (.int .i64 j))],[])) (λj=>j<=l.length/\aE2 s l=l.take j++aE2 s (l.drop j)) (λj=>l.length - j) 0 ⟨by omega,by simp⟩ ⟨by repeat' (first|exact trivial|exact rfl|refine And.intro ?_ ?_),by repeat' (first|exact trivial|exact rfl|refine And.intro ?_ ?_)⟩ ?_
  rintro j ⟨hj,hn⟩
  ((conv=>whnf);repeat ((first|(intro hq;try simp only [lnS]at hq)|refine sI ?_|refine .intro _ (.intro rfl ?_));(conv=>whnf)))
  refine aB (λh2=> ?_) (λh2=> ?_)
  ·have hjl:j < l.length:=by have h2:(j:Int) < ((l.map bL).length:Nat):=h2;rw [hrl]at h2;omega
   have hrow:(l.map bL)[((j:Nat):Int).toNat]? =some (bL l[j]):=aS hjl
   have hstep:=aKj hjl hn
   have hst:= λhb=>aDb hn (.inr ⟨hjl,hb⟩)
   generalize l[j]=x at *
   ((conv=>whnf);repeat ((first|(refine⟨_,hrow, ?_⟩)|(intro hq;try simp only [lnS]at hq)|refine sI ?_|refine .intro _ (.intro rfl ?_));(conv=>whnf)))
   cases hb:Op.bytesLess x s
   ·have hst:=hst hb
    clear hstep
    ((conv=>whnf);repeat ((first|(intro hq;try simp only [lnS]at hq)|refine sI ?_|refine .intro _ (.intro rfl ?_));(conv=>whnf)))
    (refine bI (id:=6) hty (.first 1 (.first 2 (.first 3 (.first 5 (.first 8 (.first 9 (.first 10 (.alt 0 (.alt 4 (.alt 6 (.alt 7 (.alt 11 (.first 12 .done) .stop) .stop) .stop) (.alt 6 (.alt 4 (.alt 7 (.alt 11 (.first 12 .done) .stop) .stop) .stop) .stop)) (.alt 6 (.alt 0 (.alt 4 (.alt 7 (.alt 11 (.first 12 .done) .stop) .stop) .stop) .stop) .stop))))))))) (by kernel_rfl) (by kernel_rfl) ?_)
    ((conv=>whnf);repeat' ((first|(intro hq;(try simp only [lnS]at hq);(try rewrite [List.length_map]))|refine sJ ?_|refine .intro _ (.intro rfl ?_)|refine exL (k:= ?_)|(refine And.intro (by simp only [List.length_replicate,List.length_drop,List.length_take,List.length_map,List.length_append,List.length_cons,List.length_nil];omega) ?_)|exact trivial|(refine And.intro ?_ ?_)|refine dwR ?_|((first|refine aB ?_ ?_|refine aC ?_ ?_)<;>intro hb<;>(first|exact ddX hb|try simp only [lnS]at hb))|(refine aA ?_ ?_<;>intro hb<;>try exact dsX hb))<;>(conv=>whnf)))
    all_goals
     rw [hst]
     refine congrArg (λq=>SV.d (.sl 1 q)) ?_
     simp [hta,bL,List.map_append,List.map_take,List.map_drop]
   ·((conv=>whnf);repeat' ((first|(intro hq;(try simp only [lnS]at hq);(try rewrite [List.length_map]))|refine sJ ?_|refine .intro _ (.intro rfl ?_)|refine exL (k:= ?_)|refine dwR ?_|((first|refine aB ?_ ?_|refine aC ?_ ?_)<;>intro hb<;>(first|exact ddX hb|try simp only [lnS]at hb))|(refine aA ?_ ?_<;>intro hb<;>try exact dsX hb))<;>(conv=>whnf)))
    exact⟨j+1,⟨by omega,hstep hb⟩,by dsimp only;omega,⟨by repeat' (first|exact trivial|exact rfl|refine And.intro ?_ ?_),by repeat' (first|exact trivial|exact rfl|refine And.intro ?_ ?_)⟩⟩
  ·have hjl:j=l.length:=by have h2:¬ (j:Int) < ((l.map bL).length:Nat):=h2;rw [hrl]at h2;omega
   have hst:=aDb hn (.inl hjl)
   ((conv=>whnf);repeat ((first|(intro hq;try simp only [lnS]at hq)|refine sI ?_|refine .intro _ (.intro rfl ?_));(conv=>whnf)))
   (refine bI (id:=6) hty (.first 1 (.first 2 (.first 3 (.first 5 (.first 8 (.first 9 (.first 10 (.alt 0 (.alt 4 (.alt 6 (.alt 7 (.alt 11 (.first 12 .done) .stop) .stop) .stop) (.alt 6 (.alt 4 (.alt 7 (.alt 11 (.first 12 .done) .stop) .stop) .stop) .stop)) (.alt 6 (.alt 0 (.alt 4 (.alt 7 (.alt 11 (.first 12 .done) .stop) .stop) .stop) .stop) .stop))))))))) (by kernel_rfl) (by kernel_rfl) ?_)
   ((conv=>whnf);repeat' ((first|(intro hq;(try simp only [lnS]at hq);(try rewrite [List.length_map]))|refine sJ ?_|refine .intro _ (.intro rfl ?_)|refine exL (k:= ?_)|(refine And.intro (by simp only [List.length_replicate,List.length_drop,List.length_take,List.length_map,List.length_append,List.length_cons,List.length_nil];omega) ?_)|exact trivial|(refine And.intro ?_ ?_)|refine dwR ?_|((first|refine aB ?_ ?_|refine aC ?_ ?_)<;>intro hb<;>(first|exact ddX hb|try simp only [lnS]at hb))|(refine aA ?_ ?_<;>intro hb<;>try exact dsX hb))<;>(conv=>whnf)))
   all_goals
    rw [hst]
    refine congrArg (λq=>SV.d (.sl 1 q)) ?_
    simp [hta,bL,List.map_append,List.map_take,List.map_drop]
end Go.Proofs.YtleihcnongldbaaGreatDoor
