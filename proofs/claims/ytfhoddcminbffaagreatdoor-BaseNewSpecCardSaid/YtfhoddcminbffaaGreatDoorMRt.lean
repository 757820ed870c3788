/-
  Terms: order, repetition and grouping of parts do not change the canonical form (plainly). The walk through the reference's keyword. Names: the walks through the reference's functions that tell which strings are names. Terms: the reference's Depth, shape, named, walk, CheckConcept. Rename: other names in concepts, plainly; tidying and renaming.
  Conditions: none.
-/
import Derived.Test.YtfhoddcminbffaaGreatDoorMBt
import Derived.Test.YtfhoddcminbffaaGreatDoorMSna
import Derived.Test.YtfhoddcminbffaaGreatDoorMPh
set_option linter.unnecessarySimpa false
set_option linter.unusedSectionVars false
set_option linter.unusedSimpArgs false
set_option linter.unusedVariables false
set_option maxHeartbeats 4000000
namespace Go.Proofs.YtfhoddcminbffaaGreatDoor
open Go.Proofs
theorem aNs (s:List Cn):(eE s).2=0\/(eE s).2=2:=by
 unfold eE
 split
 ·exact .inl rfl
 ·split
  ·exact .inl rfl
  ·split
   ·exact .inl rfl
   ·split
    ·exact .inr rfl
    ·exact .inl rfl
theorem aL8: ∀c:Cn,(aI c).2=0\/(aI c).2=2:=by
 refine Cn.ind ?_
 intro c ih
 rw [eF]
 split
 ·cases hps:c.parts with
  |nil=>exact .inl rfl
  |cons p r=>
   simp only [List.map_cons,pE]
   have:=ih p (by rw [hps];simp)
   split
   ·exact this
   ·exact .inl rfl
 ·split
  ·unfold iZ
   split
   ·rename_i r hr
    have h1:=List.mem_of_find?_eq_some hr
    obtain⟨p,hp,rfl⟩:=List.mem_map.1 h1
    exact ih p hp
   ·exact aNs _
  ·exact .inl rfl
def jG (l:List Cn):List Cn:=(l.map aI).flatMap λr=>bP r.1
theorem dB {x:Cn}{l:List Cn}:x∈jG l↔ ∃p∈l,x∈bP (aI p).1:=by
 unfold jG
 rw [List.mem_flatMap]
 constructor
 ·rintro⟨r,hr,hx⟩
  obtain⟨p,hp,rfl⟩:=List.mem_map.1 hr
  exact⟨p,hp,hx⟩
 ·rintro⟨p,hp,hx⟩
  exact⟨_,List.mem_map_of_mem hp,hx⟩
theorem aH9 {l:List Cn}(h: ∃p∈l,(aI p).2≠0):iZ (l.map aI)=(c0,2):=by
 unfold iZ
 split
 ·rename_i r hr
  have h1:=List.mem_of_find?_eq_some hr
  have h2:=List.find?_some hr
  obtain⟨p,hp,rfl⟩:=List.mem_map.1 h1
  simp only [decide_eq_true_eq]at h2
  rw [(aL8 p).resolve_left h2]
 ·rename_i hn
  obtain⟨p,hp,h⟩:=h
  have:=List.find?_eq_none.1 hn (aI p) (List.mem_map_of_mem hp)
  simp only [decide_eq_true_eq,ne_eq,Classical.not_not]at this
  exact absurd this h
theorem iY {l:List Cn}(h: ∀p∈l,(aI p).2=0):iZ (l.map aI)=eE (lR (jG l)):=by
 unfold iZ
 split
 ·rename_i r hr
  have h1:=List.mem_of_find?_eq_some hr
  have h2:=List.find?_some hr
  obtain⟨p,hp,rfl⟩:=List.mem_map.1 h1
  simp only [decide_eq_true_eq]at h2
  exact absurd (h p hp) h2
 ·rfl
theorem kK {l:List Cn}(h:(iZ (l.map aI)).2=0): ∀p∈l,(aI p).2=0:= λp hp=>Classical.byContradiction λh'=>by
 rw [aH9 ⟨p,hp,h'⟩]at h
 exact absurd h (by decide)
theorem qB: ∀c:Cn,(aI c).2=0-> ∀m∈bP (aI c).1,m.kind≠1/\m.kind≠5:=by
 refine Cn.ind ?_
 intro c ih h0
 have self: ∀x:Cn,x.kind≠5-> ∀m∈bP x,m.kind≠1/\m.kind≠5:= λx h5 m hm=>by
  unfold bP at hm
  split at hm
  ·simp at hm
  ·rename_i h1
   have hm:m∈[x]:=by simpa only [if_neg h5]using hm
   simp only [List.mem_singleton]at hm
   subst hm
   exact⟨h1,h5⟩
 rw [eF]at h0 |-
 split
 ·rename_i h6
  rw [if_pos h6]at h0
  cases hps:c.parts with
  |nil=>exact self _ (by show (0:Int)≠5;decide)
  |cons p r=>
   rw [hps]at h0
   simp only [List.map_cons,pE]at h0 |-
   split
   ·rename_i hb
    rw [if_pos hb]at h0
    have h2:(aI p).1.kind=2:=by rcases hb with hb|hb;exact absurd h0 hb;exact hb
    exact self _ (by rw [h2];decide)
   ·exact self _ (by show (6:Int)≠5;decide)
 ·rename_i h6
  rw [if_neg h6]at h0
  split
  ·rename_i h5
   rw [if_pos h5]at h0
   have hz:=kK h0
   rw [iY hz]at h0 |-
   have hS: ∀m∈lR (jG c.parts),m.kind≠1/\m.kind≠5:= λm hm=>by
    rw [dH,dB]at hm
    obtain⟨p,hp,hm⟩:=hm
    exact ih p hp (hz p hp) m hm
   generalize lR (jG c.parts)=s at h0 hS |-
   unfold eE at h0 |-
   split
   ·rename_i t ht
    have:=List.find?_some ht
    simp only [decide_eq_true_eq]at this
    exact self _ (by show t.kind≠5;rw [this];decide)
   ·rename_i hn
    rw [hn]at h0
    simp only at h0
    split
    ·exact self _ (by show (1:Int)≠5;decide)
    ·rename_i e0
     rw [if_neg e0]at h0
     split
     ·rename_i e1
      match s,e1,hS with
      | [x],_,hS=>exact self x (hS x (by simp)).2
     ·rename_i e1
      rw [if_neg e1]at h0
      split
      ·rename_i e2;rw [if_pos e2]at h0;exact absurd h0 (by decide)
      ·intro m hm
       rw [show bP (.mk 5 [] 0 0 s)=s from rfl]at hm
       exact hS m hm
  ·rename_i h5;exact self c h5
theorem wL {c:Cn}(h:Okn c) (hk:c.kind=2):c= .mk 2 [] 0 0 []:=by
 have hf:=((fB c).1 h).1
 rw [kP hk (by decide),gY rfl]at hf
 obtain⟨⟨_,h2,h3⟩,⟨h4,h5⟩,_⟩:=hf
 obtain⟨k,n,lo,hi,ps⟩:=c
 have q1:k=2:=hk
 have q2:(ps.length:Int)<=0:=h2
 have q3:n=[]:=h3 rfl
 have q4:lo=0:=h4
 have q5:hi=0:=h5
 have q6:ps=[]:=List.eq_nil_of_length_eq_zero (by omega)
 rw [q1,q3,q4,q5,q6]
theorem yN {c m:Cn}(h:Okn c) (hm:m∈bP c):Okn m:=by
 unfold bP at hm
 split at hm
 ·simp at hm
 ·split at hm
  ·exact((fB c).1 h).2 m hm
  ·simp only [List.mem_singleton]at hm;subst hm;exact h
theorem aDq {s:List Cn}(hs: ∀m∈s,Okn m) (h: ∃t∈s,t.kind=2):eE s=(.mk 2 [] 0 0 [],0):=by
 unfold eE
 split
 ·rename_i t ht
  have h1:=List.find?_some ht
  simp only [decide_eq_true_eq]at h1
  rw [wL (hs t (List.mem_of_find?_eq_some ht)) h1]
 ·rename_i hn
  obtain⟨t,ht,hk⟩:=h
  have:=List.find?_eq_none.1 hn t ht
  simp only [decide_eq_true_eq]at this
  exact absurd hk this
end Go.Proofs.YtfhoddcminbffaaGreatDoor
namespace Go.Proofs.YtfhoddcminbffaaGreatDoor
open Go.Proofs
set_option maxRecDepth 10000
attribute [local irreducible] aM aJ Tri aH
theorem aAq (s:List UInt8):Tri Tryz.prog 168 [.d (.str s)] [] (λr=>r= .d (.bool (kwF s))):=by
 refine aK hty Tryz.func168 rfl (kp [0,2,3,4]) [] _ _ _ (by simp [Tryz.f168]) (by simp) ?_
 ((conv=>whnf);repeat' ((first|(intro hq;try simp only [lnS]at hq)|refine sJ ?_|refine .intro _ (.intro rfl ?_)|refine exL (k:= ?_)|refine dwR ?_|((first|refine aB ?_ ?_|refine aC ?_ ?_)<;>intro hb<;>(first|exact ddX hb|try simp only [lnS]at hb))|(refine aA ?_ ?_<;>intro hb<;>try exact dsX hb))<;>(conv=>whnf)))
 all_goals first|(rename_i hb;subst hb;rfl)|skip
 have:kwF s=false:=by simp [kwF,kws, *]
 rw [this];rfl
end Go.Proofs.YtfhoddcminbffaaGreatDoor
namespace Go.Proofs.YtfhoddcminbffaaGreatDoor
open Go.Proofs
set_option maxRecDepth 10000
attribute [local irreducible] aM aJ Tri aH
theorem mA (c:UInt8):Tri Tryz.prog 167 [aSh c] [] (λr=>r= .d (.bool (aMz c))):=by
 refine aK hty Tryz.func167 rfl (kp [0,2]) [] _ _ _ (by simp [Tryz.f167]) (by simp) ?_
 ((conv=>whnf);repeat' ((first|(intro hq;(try simp only [lnS]at hq);(try rewrite [List.length_map]))|refine sJ ?_|refine .intro _ (.intro rfl ?_)|refine exL (k:= ?_)|refine dwR ?_|((first|refine aB ?_ ?_|refine aC ?_ ?_)<;>intro hb<;>(first|exact ddX hb|try simp only [lnS]at hb))|(refine aA ?_ ?_<;>intro hb<;>try exact dsX hb))<;>(conv=>whnf)))
 all_goals (refine aX (Bool.eq_iff_iff.2 ?_);simp only [aMz,Bool.or_eq_true,decide_eq_true_eq,true_iff,false_iff,Bool.false_eq_true];omega)
theorem uK (c:UInt8):Tri Tryz.prog 169 [aSh c] [] (λr=>r= .d (.bool (iG c))):=by
 refine aK hty Tryz.func169 rfl (kp [0,2]) [] _ _ _ (by simp [Tryz.f169]) (by simp) ?_
 ((conv=>whnf);repeat' ((first|(intro hq;(try simp only [lnS]at hq);(try rewrite [List.length_map]))|refine sJ ?_|refine .intro _ (.intro rfl ?_)|refine exL (k:= ?_)|(refine aD [] (mA c) trivial (λs hs=> ?_);subst hs)|refine dwR ?_|((first|refine aB ?_ ?_|refine aC ?_ ?_)<;>intro hb<;>(first|exact ddX hb|try simp only [lnS]at hb))|(refine aA ?_ ?_<;>intro hb<;>try exact dsX hb))<;>(conv=>whnf)))
 all_goals (refine aX (Bool.eq_iff_iff.2 ?_);simp only [iG, *,Bool.or_eq_true,decide_eq_true_eq,true_iff,false_iff,Bool.false_eq_true,true_or,or_true,false_or];try omega)
theorem nP (s:List UInt8):Tri Tryz.prog 132 [.d (.str s)] [] (λr=>r= .d (.bool (sV s))):=by
 cases s with
 |nil=>
  refine aK hty Tryz.func132 rfl (kp [0,2,3,16,20,27]) [] _ _ _ (by simp [Tryz.f132]) (by simp) ?_
  ((conv=>whnf);repeat' ((first|(intro hq;(try simp only [lnS]at hq);(try rewrite [List.length_map]))|refine sJ ?_|refine .intro _ (.intro rfl ?_)|refine exL (k:= ?_)|refine dwR ?_|((first|refine aB ?_ ?_|refine aC ?_ ?_)<;>intro hb<;>(first|exact ddX hb|try simp only [lnS]at hb))|(refine aA ?_ ?_<;>intro hb<;>try exact dsX hb))<;>(conv=>whnf)))
  rfl
 |cons c r=>
  have hw:sV (c::r)=(aMz c && ((c::r).all iG && !kwF (c::r))):=rfl
  rw [hw]
  cases h1:aMz c with
  |false=>
   refine aK hty Tryz.func132 rfl (kp [0,2,3,16,20,27]) [] _ _ _ (by simp [Tryz.f132]) (by simp) ?_
   ((conv=>whnf);repeat' ((first|(intro hq;(try simp only [lnS]at hq);(try rewrite [List.length_map]))|refine sJ ?_|refine .intro _ (.intro rfl ?_)|refine exL (k:= ?_)|refine dwR ?_|((first|refine aB ?_ ?_|refine aC ?_ ?_)<;>intro hb<;>(first|exact ddX hb|try simp only [lnS]at hb))|(refine aA ?_ ?_<;>intro hb<;>try exact dsX hb))<;>(conv=>whnf)))
   refine aD [] (mA c) trivial (λs hs=> ?_)
   rw [h1]at hs
   subst hs
   ((conv=>whnf);repeat' ((first|(intro hq;(try simp only [lnS]at hq);(try rewrite [List.length_map]))|refine sJ ?_|refine .intro _ (.intro rfl ?_)|refine exL (k:= ?_)|refine dwR ?_|((first|refine aB ?_ ?_|refine aC ?_ ?_)<;>intro hb<;>(first|exact ddX hb|try simp only [lnS]at hb))|(refine aA ?_ ?_<;>intro hb<;>try exact dsX hb))<;>(conv=>whnf)))
   rfl
  |true=>
   refine aK hty Tryz.func132 rfl (kp [0,2,3,16,20,27]) [] _ _ _ (by simp [Tryz.f132]) (by simp) ?_
   ((conv=>whnf);repeat' ((first|(intro hq;(try simp only [lnS]at hq);(try rewrite [List.length_map]))|refine sJ ?_|refine .intro _ (.intro rfl ?_)|refine exL (k:= ?_)|refine dwR ?_|((first|refine aB ?_ ?_|refine aC ?_ ?_)<;>intro hb<;>(first|exact ddX hb|try simp only [lnS]at hb))|(refine aA ?_ ?_<;>intro hb<;>try exact dsX hb))<;>(conv=>whnf)))
   refine aD [] (mA c) trivial (λs hs=> ?_)
   rw [h1]at hs
   subst hs
   ((conv=>whnf);repeat ((first|(intro hq;try simp only [lnS]at hq)|refine sI ?_|refine .intro _ (.intro rfl ?_));(conv=>whnf)))
   refine aD [] (aAq (c::r)) trivial (λs hs=> ?_)
   cases h2:kwF (c::r)with
   |true=>
    rw [h2]at hs
    subst hs
    ((conv=>whnf);repeat' ((first|(intro hq;(try simp only [lnS]at hq);(try rewrite [List.length_map]))|refine sJ ?_|refine .intro _ (.intro rfl ?_)|refine exL (k:= ?_)|refine dwR ?_|((first|refine aB ?_ ?_|refine aC ?_ ?_)<;>intro hb<;>(first|exact ddX hb|try simp only [lnS]at hb))|(refine aA ?_ ?_<;>intro hb<;>try exact dsX hb))<;>(conv=>whnf)))
    exact aX (by simp)
   |false=>
    rw [h2]at hs
    subst hs
    ((conv=>whnf);repeat' ((first|(intro hq;(try simp only [lnS]at hq);(try rewrite [List.length_map]))|refine sJ ?_|refine .intro _ (.intro rfl ?_)|refine exL (k:= ?_)|refine dwR ?_|((first|refine aB ?_ ?_|refine aC ?_ ?_)<;>intro hb<;>(first|exact ddX hb|try simp only [lnS]at hb))|(refine aA ?_ ?_<;>intro hb<;>try exact dsX hb))<;>(conv=>whnf)))
    generalize hS:c::r=s
    refine aG hty (λk:Nat=>([(0, .d (.str s)),(3, .d (.int .i64 k))],[])) (λk=>k<=s.length/\(s.take k).all iG=true) (λk=>s.length - k) 0 (by simp) ⟨by repeat' (first|exact trivial|exact rfl|refine And.intro ?_ ?_),by repeat' (first|exact trivial|exact rfl|refine And.intro ?_ ?_)⟩ ?_
    rintro k ⟨hk,hk2⟩
    ((conv=>whnf);repeat ((first|(intro hq;try simp only [lnS]at hq)|refine sI ?_|refine .intro _ (.intro rfl ?_));(conv=>whnf)))
    refine aB (λh1=> ?_) (λh1=> ?_)
    ·have hkl:k < s.length:=by omega
     ((conv=>whnf);repeat' ((first|(intro hq;(try simp only [lnS]at hq);(try rewrite [List.length_map]))|refine sJ ?_|refine .intro _ (.intro rfl ?_)|refine exL (k:= ?_)|refine dwR ?_|((first|refine aB ?_ ?_|refine aC ?_ ?_)<;>intro hb<;>(first|exact ddX hb|try simp only [lnS]at hb))|(refine aA ?_ ?_<;>intro hb<;>try exact dsX hb))<;>(conv=>whnf)))
     refine aD [] (uK _) trivial (λx hs=> ?_)
     cases ht:iG s[(k:Int).toNat]with
     |false=>
      rw [ht]at hs
      subst hs
      ((conv=>whnf);repeat' ((first|(intro hq;(try simp only [lnS]at hq);(try rewrite [List.length_map]))|refine sJ ?_|refine .intro _ (.intro rfl ?_)|refine exL (k:= ?_)|refine dwR ?_|((first|refine aB ?_ ?_|refine aC ?_ ?_)<;>intro hb<;>(first|exact ddX hb|try simp only [lnS]at hb))|(refine aA ?_ ?_<;>intro hb<;>try exact dsX hb))<;>(conv=>whnf)))
      rw [tV (k:=k) hkl ht];rfl
     |true=>
      rw [ht]at hs
      subst hs
      ((conv=>whnf);repeat' ((first|(intro hq;(try simp only [lnS]at hq);(try rewrite [List.length_map]))|refine sJ ?_|refine .intro _ (.intro rfl ?_)|refine exL (k:= ?_)|refine dwR ?_|((first|refine aB ?_ ?_|refine aC ?_ ?_)<;>intro hb<;>(first|exact ddX hb|try simp only [lnS]at hb))|(refine aA ?_ ?_<;>intro hb<;>try exact dsX hb))<;>(conv=>whnf)))
      exact⟨k+1,⟨by omega,qQ hkl hk2 ht⟩,by dsimp only;omega,⟨by repeat' (first|exact trivial|exact rfl|refine And.intro ?_ ?_),by repeat' (first|exact trivial|exact rfl|refine And.intro ?_ ?_)⟩⟩
    ·rw [List.take_of_length_le (by omega)]at hk2
     ((conv=>whnf);repeat' ((first|(intro hq;(try simp only [lnS]at hq);(try rewrite [List.length_map]))|refine sJ ?_|refine .intro _ (.intro rfl ?_)|refine exL (k:= ?_)|refine dwR ?_|((first|refine aB ?_ ?_|refine aC ?_ ?_)<;>intro hb<;>(first|exact ddX hb|try simp only [lnS]at hb))|(refine aA ?_ ?_<;>intro hb<;>try exact dsX hb))<;>(conv=>whnf)))
     rw [hk2];rfl
theorem aSb {s:List UInt8}(h1:2<=s.length) (h3:s[Int.toNat 0]'(by simp;omega)=95):(s.take 1).all iG=true:=by
 match s,h1,h3 with
 |c::r,_,h3=>simp at h3;subst h3;rfl
theorem xE (s:List UInt8):Tri Tryz.prog 133 [.d (.str s)] [] (λr=>r= .d (.bool (aC7 s))):=by
 by_cases h1:2<=s.length
 ·by_cases h2:s.length<=24
  ·by_cases h3:s[Int.toNat 0]'(by simp;omega)=95
   ·have hr:aC7 s=s.all iG:=by
     rw [aC7,aHj (by omega),h3]
     simp [h1,h2]
    have h3':((s[Int.toNat 0]'(by simp;omega)).toNat:Int)=95:=by rw [h3];rfl
    rw [hr]
    refine aK hty Tryz.func133 rfl (kp [0,2,3,16,20,27]) [] _ _ _ (by simp [Tryz.f133]) (by simp) ?_
    ((conv=>whnf);repeat' ((first|(intro hq;(try simp only [lnS]at hq);(try rewrite [List.length_map]))|refine sJ ?_|refine .intro _ (.intro rfl ?_)|refine exL (k:= ?_)|refine dwR ?_|((first|refine aB ?_ ?_|refine aC ?_ ?_)<;>intro hb<;>(first|exact ddX hb|try simp only [lnS]at hb))|(refine aA ?_ ?_<;>intro hb<;>try exact dsX hb))<;>(conv=>whnf)))
    refine aG hty (λk:Nat=>([(0, .d (.str s)),(3, .d (.int .i64 k))],[])) (λk=>k<=s.length/\(s.take k).all iG=true) (λk=>s.length - k) 1 ⟨by omega, ?_⟩ ⟨by repeat' (first|exact trivial|exact rfl|refine And.intro ?_ ?_),by repeat' (first|exact trivial|exact rfl|refine And.intro ?_ ?_)⟩ ?_
    ·exact aSb h1 h3
    rintro k ⟨hk,hk2⟩
    ((conv=>whnf);repeat' ((first|(intro hq;(try simp only [lnS]at hq);(try rewrite [List.length_map]))|refine sJ ?_|refine .intro _ (.intro rfl ?_)|refine exL (k:= ?_)|(refine aD [] (uK _) trivial (λs hs=> ?_);subst hs)|refine dwR ?_|((first|refine aB ?_ ?_|refine aC ?_ ?_)<;>intro hb<;>(first|exact ddX hb|try simp only [lnS]at hb))|(refine aA ?_ ?_<;>intro hb<;>try exact dsX hb))<;>(conv=>whnf)))
    ·have ht:iG s[(k:Int).toNat]=false:=by simpa using hb
     rw [tV (k:=k) (by omega) ht];rfl
    ·have ht:iG s[(k:Int).toNat]=true:=by simpa using hb
     exact⟨k+1,⟨by omega,qQ (by omega) hk2 ht⟩,by dsimp only;omega,⟨by repeat' (first|exact trivial|exact rfl|refine And.intro ?_ ?_),by repeat' (first|exact trivial|exact rfl|refine And.intro ?_ ?_)⟩⟩
    ·rw [List.take_of_length_le (by omega)]at hk2
     rw [hk2];rfl
   ·have hr:aC7 s=false:=by
     rw [aC7,aHj (by omega)]
     simp only [h3,decide_false,Bool.false_and,Bool.and_false]
    have h3':¬ ((s[Int.toNat 0]'(by simp;omega)).toNat:Int)=95:= λe=>h3 (u95 e)
    rw [hr]
    refine aK hty Tryz.func133 rfl (kp [0,2,3,16,20,27]) [] _ _ _ (by simp [Tryz.f133]) (by simp) ?_
    ((conv=>whnf);repeat' ((first|(intro hq;(try simp only [lnS]at hq);(try rewrite [List.length_map]))|refine sJ ?_|refine .intro _ (.intro rfl ?_)|refine exL (k:= ?_)|refine dwR ?_|((first|refine aB ?_ ?_|refine aC ?_ ?_)<;>intro hb<;>(first|exact ddX hb|try simp only [lnS]at hb))|(refine aA ?_ ?_<;>intro hb<;>try exact dsX hb))<;>(conv=>whnf)))
    rfl
  ·have hr:aC7 s=false:=by rw [aC7];simp only [h2,decide_false,Bool.false_and,Bool.and_false]
   rw [hr]
   refine aK hty Tryz.func133 rfl (kp [0,2,3,16,20,27]) [] _ _ _ (by simp [Tryz.f133]) (by simp) ?_
   ((conv=>whnf);repeat' ((first|(intro hq;(try simp only [lnS]at hq);(try rewrite [List.length_map]))|refine sJ ?_|refine .intro _ (.intro rfl ?_)|refine exL (k:= ?_)|refine dwR ?_|((first|refine aB ?_ ?_|refine aC ?_ ?_)<;>intro hb<;>(first|exact ddX hb|try simp only [lnS]at hb))|(refine aA ?_ ?_<;>intro hb<;>try exact dsX hb))<;>(conv=>whnf)))
   rfl
 ·have hr:aC7 s=false:=by rw [aC7];simp only [h1,decide_false,Bool.false_and,Bool.and_false]
  rw [hr]
  refine aK hty Tryz.func133 rfl (kp [0,2,3,16,20,27]) [] _ _ _ (by simp [Tryz.f133]) (by simp) ?_
  ((conv=>whnf);repeat' ((first|(intro hq;(try simp only [lnS]at hq);(try rewrite [List.length_map]))|refine sJ ?_|refine .intro _ (.intro rfl ?_)|refine exL (k:= ?_)|refine dwR ?_|((first|refine aB ?_ ?_|refine aC ?_ ?_)<;>intro hb<;>(first|exact ddX hb|try simp only [lnS]at hb))|(refine aA ?_ ?_<;>intro hb<;>try exact dsX hb))<;>(conv=>whnf)))
  rfl
theorem aNb {c:UInt8}: ∀{s:List UInt8},(∀x∈s,x≠c)->Lib.indexByte s c < 0
 | [],_=>by simp [Lib.indexByte]
 |x::s,h=>by
  have ih:=aNb (c:=c) (s:=s) λy hy=>h y (List.mem_cons_of_mem _ hy)
  have hx:=h x (List.mem_cons_self ..)
  simp only [Lib.indexByte,hx,if_false]
  split<;>(try split)<;>simp_all<;>omega
theorem aTk {c:UInt8}: ∀{s:List UInt8}{k:Nat}(h:k < s.length),(∀x∈s.take k,x≠c)->s[k]=c->Lib.indexByte s c=k
 |x::s,0,_,_,e=>by
  simp at e;subst e;simp [Lib.indexByte]
 |x::s,k+1,h,hn,e=>by
  have ih:=aTk (c:=c) (s:=s) (k:=k) (by simpa using h) (λy hy=>hn y (by simp [hy])) (by simpa using e)
  have hx:=hn x (by simp)
  simp only [Lib.indexByte,hx,if_false,ih]
  split<;>(try split)<;>simp_all<;>omega
theorem u58 {c:UInt8}(h:(c.toNat:Int)=58):c=58:=by
 have h9:(58:UInt8).toNat=58:=by decide
 exact UInt8.toNat_inj.1 (by omega)
theorem aVx {s:List UInt8}{k:Nat}(hk:k < s.length) (h: ∀x∈s.take k,x≠58) (hx:¬ ((s[(k:Int).toNat]'(by simpa using hk)).toNat:Int)=58): ∀x∈s.take (k+1),x≠58:=by
 rw [List.take_succ_eq_append_getElem hk]
 intro x hm
 rcases List.mem_append.1 hm with hm|hm
 ·exact h x hm
 ·simp at hm
  subst hm
  intro e
  exact hx (by simp [e])
theorem iU (s:List UInt8):Tri Tryz.prog 87 [.d (.str s)] [] (λr=>r= .d (.bool (cF s))):=by
 by_cases h2:s.length<=24
 ·refine aK hty Tryz.func87 rfl (kp [0,2,3,6,10,16]) [] _ _ _ (by simp [Tryz.f87]) (by simp) ?_
  ((conv=>whnf);repeat' ((first|(intro hq;(try simp only [lnS]at hq);(try rewrite [List.length_map]))|refine sJ ?_|refine .intro _ (.intro rfl ?_)|refine exL (k:= ?_)|refine dwR ?_|((first|refine aB ?_ ?_|refine aC ?_ ?_)<;>intro hb<;>(first|exact ddX hb|try simp only [lnS]at hb))|(refine aA ?_ ?_<;>intro hb<;>try exact dsX hb))<;>(conv=>whnf)))
  refine aG hty (λk:Nat=>([(0, .d (.str s)),(3, .d (.int .i64 k))],[])) (λk=>k<=s.length/\ ∀x∈s.take k,x≠58) (λk=>s.length - k) 0 (by simp) ⟨by repeat' (first|exact trivial|exact rfl|refine And.intro ?_ ?_),by repeat' (first|exact trivial|exact rfl|refine And.intro ?_ ?_)⟩ ?_
  rintro k ⟨hk,hk2⟩
  ((conv=>whnf);repeat ((first|(intro hq;try simp only [lnS]at hq)|refine sI ?_|refine .intro _ (.intro rfl ?_));(conv=>whnf)))
  refine aB (λh1=> ?_) (λh1=> ?_)
  ·have hkl:k < s.length:=by omega
   ((conv=>whnf);repeat ((first|(refine Exists.intro (show (_:Nat) < List.length _ from by omega) ?_)|(intro hq;try simp only [lnS]at hq)|refine sI ?_|refine .intro _ (.intro rfl ?_));(conv=>whnf)))
   refine aB (λh3=> ?_) (λh3=> ?_)
   ·have e:Lib.indexByte s 58=k:=aTk hkl hk2 (u58 h3)
    have hp:cF s=(sV (s.take k) && sV (s.drop (k+1))):=by
     rw [cF,aQ7,e]
     simp [h2]
    have hd:List.drop ((k:Int)+1).toNat (List.take s.length s)=s.drop (k+1):=by
     rw [List.take_length,show ((k:Int)+1).toNat=k+1 from by omega]
    rw [hp]
    cases h5:sV (s.take k)with
    |false=>
     ((conv=>whnf);repeat' ((first|(intro hq;(try simp only [lnS]at hq);(try rewrite [List.length_map]))|refine sJ ?_|refine .intro _ (.intro rfl ?_)|refine exL (k:= ?_)|(refine aD [] (nP (s.take k)) trivial (λs hs=> ?_);subst hs;rw [h5])|refine dwR ?_|((first|refine aB ?_ ?_|refine aC ?_ ?_)<;>intro hb<;>(first|exact ddX hb|try simp only [lnS]at hb))|(refine aA ?_ ?_<;>intro hb<;>try exact dsX hb))<;>(conv=>whnf)))
     rfl
    |true=>
     ((conv=>whnf);repeat' ((first|(intro hq;(try simp only [lnS]at hq);(try rewrite [List.length_map]))|refine sJ ?_|refine .intro _ (.intro rfl ?_)|refine exL (k:= ?_)|(refine aD [] (nP (s.take k)) trivial (λs hs=> ?_);subst hs;rw [h5])|refine dwR ?_|((first|refine aB ?_ ?_|refine aC ?_ ?_)<;>intro hb<;>(first|exact ddX hb|try simp only [lnS]at hb))|(refine aA ?_ ?_<;>intro hb<;>try exact dsX hb))<;>(conv=>whnf)))
     refine aD [] (nP _) trivial (λs hs=> ?_)
     subst hs
     ((conv=>whnf);repeat ((first|(intro hq;try simp only [lnS]at hq)|refine sI ?_|refine .intro _ (.intro rfl ?_));(conv=>whnf)))
     refine aX ?_
     rw [hd];rfl
   ·((conv=>whnf);repeat ((first|(intro hq;try simp only [lnS]at hq)|refine sI ?_|refine .intro _ (.intro rfl ?_));(conv=>whnf)))
    exact⟨k+1,⟨by omega,aVx hkl hk2 h3⟩,by dsimp only;omega,⟨by repeat' (first|exact trivial|exact rfl|refine And.intro ?_ ?_),by repeat' (first|exact trivial|exact rfl|refine And.intro ?_ ?_)⟩⟩
  ·rw [List.take_of_length_le (by omega)]at hk2
   have e:=aNb hk2
   have hp:cF s=sV s:=by
    rw [cF,aQ7,if_neg (by omega)]
    simp [h2]
   rw [hp]
   ((conv=>whnf);repeat' ((first|(intro hq;(try simp only [lnS]at hq);(try rewrite [List.length_map]))|refine sJ ?_|refine .intro _ (.intro rfl ?_)|refine exL (k:= ?_)|(refine aD [] (nP s) trivial (λs hs=> ?_);subst hs)|refine dwR ?_|((first|refine aB ?_ ?_|refine aC ?_ ?_)<;>intro hb<;>(first|exact ddX hb|try simp only [lnS]at hb))|(refine aA ?_ ?_<;>intro hb<;>try exact dsX hb))<;>(conv=>whnf)))
   rfl
 ·have hr:cF s=false:=by rw [cF];simp only [h2,decide_false,Bool.false_and,Bool.and_false]
  rw [hr]
  refine aK hty Tryz.func87 rfl (kp [0,2,3,6,10,16]) [] _ _ _ (by simp [Tryz.f87]) (by simp) ?_
  ((conv=>whnf);repeat' ((first|(intro hq;(try simp only [lnS]at hq);(try rewrite [List.length_map]))|refine sJ ?_|refine .intro _ (.intro rfl ?_)|refine exL (k:= ?_)|refine dwR ?_|((first|refine aB ?_ ?_|refine aC ?_ ?_)<;>intro hb<;>(first|exact ddX hb|try simp only [lnS]at hb))|(refine aA ?_ ?_<;>intro hb<;>try exact dsX hb))<;>(conv=>whnf)))
  rfl
theorem mE (s:List UInt8):Tri Tryz.prog 88 [.d (.str s)] [] (λr=>r= .d (.bool (iB s))):=by
 cases h1:cF s with
 |true=>
  refine aK hty Tryz.func88 rfl (kp [0,2]) [] _ _ _ (by simp [Tryz.f88]) (by simp) ?_
  ((conv=>whnf);repeat' ((first|(intro hq;(try simp only [lnS]at hq);(try rewrite [List.length_map]))|refine sJ ?_|refine .intro _ (.intro rfl ?_)|refine exL (k:= ?_)|(refine aD [] (iU s) trivial (λs hs=> ?_);subst hs;rw [h1])|refine dwR ?_|((first|refine aB ?_ ?_|refine aC ?_ ?_)<;>intro hb<;>(first|exact ddX hb|try simp only [lnS]at hb))|(refine aA ?_ ?_<;>intro hb<;>try exact dsX hb))<;>(conv=>whnf)))
  rw [iB,h1];rfl
 |false=>
  refine aK hty Tryz.func88 rfl (kp [0,2]) [] _ _ _ (by simp [Tryz.f88]) (by simp) ?_
  ((conv=>whnf);repeat' ((first|(intro hq;(try simp only [lnS]at hq);(try rewrite [List.length_map]))|refine sJ ?_|refine .intro _ (.intro rfl ?_)|refine exL (k:= ?_)|(refine aD [] (iU s) trivial (λs hs=> ?_);subst hs;rw [h1])|(refine aD [] (xE s) trivial (λs hs=> ?_);subst hs)|refine dwR ?_|((first|refine aB ?_ ?_|refine aC ?_ ?_)<;>intro hb<;>(first|exact ddX hb|try simp only [lnS]at hb))|(refine aA ?_ ?_<;>intro hb<;>try exact dsX hb))<;>(conv=>whnf)))
  rw [iB,h1];rfl
end Go.Proofs.YtfhoddcminbffaaGreatDoor
namespace Go.Proofs.YtfhoddcminbffaaGreatDoor
open Go.Proofs
set_option maxRecDepth 10000
attribute [local irreducible] aM aJ Tri aH YVC dI bI
def iQ (c:Cn):Bool:=
 if c.kind=1\/c.kind=2 then decide (c.lo=0) && (decide (c.hi=0) && (decide (c.name=[]) && decide (c.parts.length=0)))
 else if c.kind=3\/c.kind=4 then decide (c.lo=0) && (decide (c.hi=0) && decide (c.parts.length=0))
 else if c.kind=5 then decide (c.lo=0) && (decide (c.hi=0) && (decide (c.name=[]) && (decide (2<=c.parts.length) && decide (c.parts.length<=8))))
 else if c.kind=6 then decide (c.lo=0) && (decide (c.hi=0) && decide (c.parts.length=1))
 else if c.kind=7 then decide (c.parts.length=0) && (decide (-1099511627776<=c.lo) && (decide (c.lo<=c.hi) && decide (c.hi<=1099511627776)))
 else false
theorem aF2 (c:Cn):Tri Tryz.prog 170 [.d (.agg (cnR c))] [] (λr=>r= .d (.bool (iQ c))):=by
 rw [aL]
 unfold iQ
 generalize hk:c.kind=k
 refine aF false [1] hty Tryz.func170 rfl (kp [0,1,2,3,13,14,29,39,59,68]) [] _ _ _ (by simp [Tryz.f170]) (by simp) ?_
 ((conv=>whnf);repeat' ((first|(intro hq;(try simp only [lnS]at hq);(try rewrite [List.length_map]))|refine sJ ?_|refine .intro _ (.intro rfl ?_)|refine exL (k:= ?_)|refine dwR ?_|((first|refine aB ?_ ?_|refine aC ?_ ?_)<;>intro hb<;>(first|exact ddX hb|try simp only [lnS]at hb))|(refine aA ?_ ?_<;>intro hb<;>try exact dsX hb))<;>(conv=>whnf)))
 all_goals (refine aX (Eq.symm ?_);simp_all<;>first|omega|(rw [Bool.eq_iff_iff];simp<;>omega))
def oF (c:Cn):Bool:=if c.kind=3\/c.kind=6\/c.kind=7 then cF c.name else if c.kind=4 then iB c.name else true
theorem aF5 (c:Cn):Tri Tryz.prog 171 [.d (.agg (cnR c))] [] (λr=>r= .d (.bool (oF c))):=by
 rw [aL]
 have p1:=iU c.name
 have p2:=mE c.name
 unfold oF
 generalize hk:c.kind=k
 refine aF false [1] hty Tryz.func171 rfl (kp [0,1,2,4,5,12]) [] _ _ _ (by simp [Tryz.f171]) (by simp) ?_
 ((conv=>whnf);repeat' ((first|(intro hq;(try simp only [lnS]at hq);(try rewrite [List.length_map]))|refine sJ ?_|refine .intro _ (.intro rfl ?_)|refine exL (k:= ?_)|(refine aD [] p1 trivial (λr hs=> ?_);subst hs)|(refine aD [] p2 trivial (λr hs=> ?_);subst hs)|refine dwR ?_|((first|refine aB ?_ ?_|refine aC ?_ ?_)<;>intro hb<;>(first|exact ddX hb|try simp only [lnS]at hb))|(refine aA ?_ ?_<;>intro hb<;>try exact dsX hb))<;>(conv=>whnf)))
 all_goals (refine aX (Eq.symm ?_);simp_all)
theorem oQ (c:Cn):bM c=if iQ c=false then 21 else if oF c=false then 20 else 0:=by
 by_cases h:c.kind < 1\/7 < c.kind
 ·have e:iQ c=false:=by
   unfold iQ
   rw [if_neg (by omega),if_neg (by omega),if_neg (by omega),if_neg (by omega),if_neg (by omega)]
  rw [e,if_pos rfl,bM,if_pos h]
 ·have hk:c.kind=1\/c.kind=2\/c.kind=3\/c.kind=4\/c.kind=5\/c.kind=6\/c.kind=7:=by omega
  have hE:bM c=iC (fH c.kind) c:=by rw [bM,if_neg h]
  rw [hE]
  clear hE h
  have n1:fH 1=⟨0,0,0,false⟩:=rfl
  have n2:fH 2=⟨0,0,0,false⟩:=rfl
  have n3:fH 3=⟨1,0,0,false⟩:=rfl
  have n4:fH 4=⟨2,0,0,false⟩:=rfl
  have n5:fH 5=⟨0,2,8,false⟩:=rfl
  have n6:fH 6=⟨1,1,1,false⟩:=rfl
  have n7:fH 7=⟨1,0,0,true⟩:=rfl
  unfold iQ oF iC aFh iB
  generalize c.parts.length=m
  rcases hk with hk|hk|hk|hk|hk|hk|hk<;>rw [hk]<;>simp only [n1,n2,n3,n4,n5,n6,n7]
  all_goals
   cases cF c.name<;>cases aC7 c.name<;>simp
   all_goals (repeat' split)<;>simp_all<;>omega
theorem zH: ∀(l m:List Cn),dL (l++m)=if dL l≠0 then dL l else dL m
 | [],m=>by simp [dL]
 |x::r,m=>by
  rw [List.cons_append,dL,dL,zH r m]
  split<;>rfl
mutual
theorem vY: ∀(c:Cn) (d n:Int),(fF c d n).1=true->(fF c d n).2=n+(aN c:Nat)
 | .mk k s lo hi ps,d,n=>by
  have e:aN (.mk k s lo hi ps)=(aZ ps).length+1:=pH _
  rw [fF,e]
  split
  ·intro h;exact absurd h (by simp)
  ·intro h
   rw [vX ps d (n+1) h];omega
theorem vX: ∀(l:List Cn) (d n:Int),(gH l d n).1=true->(gH l d n).2=n+((aZ l).length:Nat)
 | [],d,n=>by intro _;rw [gH,aZ];simp
 |c::r,d,n=>by
  have h1:=vY c (d+1) n
  have e:(aZ (c::r)).length=aN c+(aZ r).length:=by rw [aZ,List.length_append];rfl
  rw [gH,e]
  split
  ·rename_i hb
   intro h
   rw [vX r d _ h,h1 hb];omega
  ·intro h;exact absurd h (by simp)
end
mutual
theorem zG: ∀(c:Cn) (d n:Int),((fF c d n).1=true↔d+cI c<=8/\n+aN c<=64)
 | .mk k s lo hi ps,d,n=>by
  have e:aN (.mk k s lo hi ps)=(aZ ps).length+1:=pH _
  rw [fF,cI,e]
  split
  ·rename_i h
   simp only [Bool.false_eq_true,false_iff]
   omega
  ·rename_i h
   rw [zF ps d (n+1) (by omega) (by omega)]
   omega
theorem zF: ∀(l:List Cn) (d n:Int),d<=8->n<=64->((gH l d n).1=true↔d+cU l<=8/\n+(aZ l).length<=64)
 | [],d,n,hd,hn=>by
  rw [gH,cU,aZ]
  simp only [true_iff,List.length_nil]
  omega
 |c::r,d,n,hd,hn=>by
  have h1:=zG c (d+1) n
  have h2:=vY c (d+1) n
  have e:(aZ (c::r)).length=aN c+(aZ r).length:=by rw [aZ,List.length_append];rfl
  rw [gH,cU,e]
  split
  ·rename_i hb
   rw [hb]at h1
   have h1:=h1.1 rfl
   rw [h2 hb,zF r d _ hd (by omega)]
   omega
  ·rename_i hb
   have h1:¬ (d+1+cI c<=8/\n+aN c<=64):= λh=>hb (h1.2 h)
   simp only [Bool.false_eq_true,false_iff]
   omega
end
theorem aG3 (c:Cn):bH c=if 8 < cI c\/64 < aN c then 21 else dL (fT c):=by
 have h:=zG c 0 0
 unfold bH
 split
 ·rename_i hf
  rw [hf]at h
  rw [if_pos]
  have h:¬ ((0:Int)+cI c<=8/\(0:Int)+aN c<=64):= λh'=>absurd (h.2 h') (by decide)
  omega
 ·rename_i hf
  have hf:(fF c 0 0).1=true:=by simpa using hf
  have h1:=h.1 hf
  rw [if_neg]
  omega
theorem aJ6: ∀(c:Cn),Tri Tryz.prog 136 [.d (.agg (cnR c))] [] (λr=>r= .d (.int .i64 (dL (fT c)))):=by
 refine Cn.ind ?_
 intro c ih
 have h1:=aF2 c
 have h2:=aF5 c
 rw [fS,dL,oQ]
 rw [aL]at h1 h2 |-
 generalize iQ c=b1 at *
 generalize oF c=b2 at *
 refine aF false [1] hty Tryz.func136 rfl (kp [0,1,2,3,4,7,10,15,25]) [] _ _ _ (by simp [Tryz.f136]) (by simp) ?_
 ((conv=>whnf);repeat' ((first|(intro hq;(try simp only [lnS]at hq);(try rewrite [List.length_map]))|refine sJ ?_|refine .intro _ (.intro rfl ?_)|refine exL (k:= ?_)|(refine aD [] h1 trivial (λr hs=> ?_);subst hs)|(refine aD [] h2 trivial (λr hs=> ?_);subst hs)|refine dwR ?_|((first|refine aB ?_ ?_|refine aC ?_ ?_)<;>intro hb<;>(first|exact ddX hb|try simp only [lnS]at hb))|(refine aA ?_ ?_<;>intro hb<;>try exact dsX hb))<;>(conv=>whnf)))
 ·subst_vars;simp_all;rfl
 ·subst_vars;simp_all;rfl
 ·have e1:b1=true:=by simpa using (by assumption:(!b1)=false)
  have e2:b2=true:=by simpa using (by assumption:(!b2)=false)
  subst e1;subst e2
  rw [if_neg (by simp)]
  refine aG hty (λj:Nat=>([(1, .ea 5 [[.int .i64 c.kind, .str c.name, .int .i64 c.lo, .int .i64 c.hi, .sl 5 (c.parts.map cnR)]] 0 0),(2, .d (.int .i64 0)),(3, .d (.int .i64 j))],[])) (λj=>j<=c.parts.length/\dL (aZ c.parts)=dL (aZ (c.parts.drop j))) (λj=>c.parts.length - j) 0 ⟨by omega,rfl⟩ ⟨by repeat' (first|exact trivial|exact rfl|exact⟨rfl,rfl⟩|refine And.intro ?_ ?_),trivial⟩ ?_
  rintro j ⟨hj,hn⟩
  ((conv=>whnf);repeat ((first|(intro hq;try simp only [lnS]at hq)|refine sI ?_|refine .intro _ (.intro rfl ?_));(conv=>whnf)))
  refine aB (λh1=> ?_) (λh1=> ?_)
  ·have hjl:j < c.parts.length:=by simp only [List.length_map]at h1;omega
   have hrow':(c.parts.map cnR)[(j:Int).toNat]? =some (cnR c.parts[j]):=bC hjl
   have hi:=ih c.parts[j] (List.getElem_mem hjl)
   rw [List.drop_eq_getElem_cons hjl,aZ,zH]at hn
   generalize c.parts[j]=x at hrow' hi hn
   rw [aL]at hrow' hi
   ((conv=>whnf);repeat' ((first|(intro hq;(try simp only [lnS]at hq);(try rewrite [List.length_map]))|refine sJ ?_|refine .intro _ (.intro rfl ?_)|refine exL (k:= ?_)|(refine⟨_,hrow', ?_⟩)|(refine aD [] hi trivial (λr hs=> ?_);subst hs)|refine dwR ?_|((first|refine aB ?_ ?_|refine aC ?_ ?_)<;>intro hb<;>(first|exact ddX hb|try simp only [lnS]at hb))|(refine aA ?_ ?_<;>intro hb<;>try exact dsX hb))<;>(conv=>whnf)))
   ·rw [if_pos (by assumption)]at hn
    exact cC hn.symm
   ·rw [if_neg (by simpa using (by assumption:dL (fT x)=0))]at hn
    exact⟨j+1,⟨by omega,hn⟩,by dsimp only;omega,by repeat' (first|exact trivial|exact rfl|refine And.intro ?_ ?_),trivial⟩
  ·have hjl:j=c.parts.length:=by simp only [List.length_map]at h1;omega
   subst hjl
   rw [List.drop_length]at hn
   ((conv=>whnf);repeat' ((first|(intro hq;(try simp only [lnS]at hq);(try rewrite [List.length_map]))|refine sJ ?_|refine .intro _ (.intro rfl ?_)|refine exL (k:= ?_)|refine dwR ?_|((first|refine aB ?_ ?_|refine aC ?_ ?_)<;>intro hb<;>(first|exact ddX hb|try simp only [lnS]at hb))|(refine aA ?_ ?_<;>intro hb<;>try exact dsX hb))<;>(conv=>whnf)))
   exact cC hn.symm
theorem aF8: ∀(c:Cn) (_:aN c<=1000000),Tri Tryz.prog 134 [.d (.agg (cnR c))] [] (λr=>r= .d (.int .i64 (cI c))):=by
 refine Cn.ind ?_
 intro c ih hs
 rw [aL,jD]
 refine aF false [1] hty Tryz.func134 rfl (kp [0,1,2,3,4,9]) [] _ _ _ (by simp [Tryz.f134]) (by simp) ?_
 ((conv=>whnf);repeat ((first|(intro hq;try simp only [lnS]at hq)|refine sI ?_|refine .intro _ (.intro rfl ?_));(conv=>whnf)))
 refine aG hty (λj:Nat=>([(1, .ea 5 [[.int .i64 c.kind, .str c.name, .int .i64 c.lo, .int .i64 c.hi, .sl 5 (c.parts.map cnR)]] 0 0),(3, .d (.int .i64 (cU (c.parts.take j):Nat))),(4, .d (.int .i64 j))],[])) (λj=>j<=c.parts.length) (λj=>c.parts.length - j) 0 (by omega) ⟨by repeat' (first|exact trivial|exact rfl|exact⟨rfl,rfl⟩|refine And.intro ?_ ?_),trivial⟩ ?_
 intro j hj
 ((conv=>whnf);repeat ((first|(intro hq;try simp only [lnS]at hq)|refine sI ?_|refine .intro _ (.intro rfl ?_));(conv=>whnf)))
 refine aB (λh1=> ?_) (λh1=> ?_)
 ·have hjl:j < c.parts.length:=by simp only [List.length_map]at h1;omega
  have hrow':(c.parts.map cnR)[(j:Int).toNat]? =some (cnR c.parts[j]):=bC hjl
  have hi:=ih c.parts[j] (List.getElem_mem hjl) (by have:=eP (List.getElem_mem (l:=c.parts) hjl);omega)
  have hd1:=rK c.parts[j]
  have hd2:=eP (List.getElem_mem (l:=c.parts) hjl)
  rw [aL]at hrow' hi
  ((conv=>whnf);repeat' ((first|(intro hq;(try simp only [lnS]at hq);(try rewrite [List.length_map]))|refine sJ ?_|refine .intro _ (.intro rfl ?_)|refine exL (k:= ?_)|(refine⟨_,hrow', ?_⟩)|(refine aD [] hi trivial (λr hs=> ?_);subst hs)|(refine aB8 rfl rfl rfl ?_)|refine dwR ?_|((first|refine aB ?_ ?_|refine aC ?_ ?_)<;>intro hb<;>(first|exact ddX hb|try simp only [lnS]at hb))|(refine aA ?_ ?_<;>intro hb<;>try exact dsX hb))<;>(conv=>whnf)))
  refine⟨j+1,by dsimp only;omega,by dsimp only;omega,⟨?_,trivial⟩⟩
  dsimp only
  rw [aG1 hjl]
  repeat' (first|exact trivial|exact rfl|exact aGc (by omega)|exact⟨rfl,rfl⟩|refine And.intro ?_ ?_)
 ·have hjl:j=c.parts.length:=by simp only [List.length_map]at h1;omega
  subst hjl
  rw [List.take_length]
  ((conv=>whnf);repeat' ((first|(intro hq;(try simp only [lnS]at hq);(try rewrite [List.length_map]))|refine sJ ?_|refine .intro _ (.intro rfl ?_)|refine exL (k:= ?_)|refine dwR ?_|((first|refine aB ?_ ?_|refine aC ?_ ?_)<;>intro hb<;>(first|exact ddX hb|try simp only [lnS]at hb))|(refine aA ?_ ?_<;>intro hb<;>try exact dsX hb))<;>(conv=>whnf)))
  rfl
theorem jK (c:Cn) (hs:aN c<=1000000):Tri Tryz.prog 89 [.d (.agg (cnR c))] [] (λr=>r= .d (.int .i64 (bH c))):=by
 have h1:=aF8 c hs
 have h2:=kH c hs
 have h3:=aJ6 c
 have hc:=aG3 c
 rw [hc]
 rw [aL]at h1 h2 h3 |-
 clear hc
 have hd:=rK c
 generalize dL (fT c)=e at *
 generalize cI c=d at *
 generalize aN c=z at *
 refine aF false [1] hty Tryz.func89 rfl (kp [0,1,2,10]) [] _ _ _ (by simp [Tryz.f89]) (by simp) ?_
 ((conv=>whnf);repeat' ((first|(intro hq;(try simp only [lnS]at hq);(try rewrite [List.length_map]))|refine sJ ?_|refine .intro _ (.intro rfl ?_)|refine exL (k:= ?_)|(refine aD [] h1 trivial (λr hs=> ?_);subst hs)|(refine aD [] h2 trivial (λr hs=> ?_);subst hs)|(refine aD [] h3 trivial (λr hs=> ?_);subst hs)|refine dwR ?_|((first|refine aB ?_ ?_|refine aC ?_ ?_)<;>intro hb<;>(first|exact ddX hb|try simp only [lnS]at hb))|(refine aA ?_ ?_<;>intro hb<;>try exact dsX hb))<;>(conv=>whnf)))
 all_goals (first|(rw [if_neg (by omega)];rfl)|(rw [if_pos (by omega)];rfl))
end Go.Proofs.YtfhoddcminbffaaGreatDoor
namespace Go.Proofs.YtfhoddcminbffaaGreatDoor
open Go.Proofs
structure RenOK (g:Int->List UInt8->List UInt8):Prop where
 plain: ∀k s,cF s=true->cF (g k s)=true
 name: ∀k s,iB s=true->iB (g k s)=true
theorem aLr (k:Int) (n:List UInt8) (lo hi:Int) (ps:List Cn):iQ (.mk k n lo hi ps)=
 if k=1\/k=2 then decide (lo=0) && (decide (hi=0) && (decide (n=[]) && decide (ps.length=0)))
 else if k=3\/k=4 then decide (lo=0) && (decide (hi=0) && decide (ps.length=0))
 else if k=5 then decide (lo=0) && (decide (hi=0) && (decide (n=[]) && (decide (2<=ps.length) && decide (ps.length<=8))))
 else if k=6 then decide (lo=0) && (decide (hi=0) && decide (ps.length=1))
 else if k=7 then decide (ps.length=0) && (decide (-1099511627776<=lo) && (decide (lo<=hi) && decide (hi<=1099511627776)))
 else false:=rfl
theorem aMr (k:Int) (n:List UInt8) (lo hi:Int) (ps:List Cn):oF (.mk k n lo hi ps)=if k=3\/k=6\/k=7 then cF n else if k=4 then iB n else true:=rfl
theorem aF1 {g:Int->List UInt8->List UInt8}(hg:RenOK g) {c:Cn}(h:bM c=0):bM (cH g c)=0:=by
 rw [oQ]at h |-
 have h1:iQ c=true:=by
  cases e:iQ c
  ·rw [e,if_pos rfl]at h;cases h
  ·rfl
 rw [h1,if_neg (by decide)]at h
 have h2:oF c=true:=by
  cases e:oF c
  ·rw [e,if_pos rfl]at h;cases h
  ·rfl
 have s1:iQ (cH g c)=true:=by
  rw [jT]
  obtain⟨k,n,lo,hi,ps⟩:=c
  show iQ (.mk k (aOd g k n) lo hi (ps.map (cH g)))=true
  rw [aLr]at h1 |-
  simp only [List.length_map,aOd]at h1 |-
  by_cases k1:k=1
  ·subst k1;simpa using h1
  by_cases k2:k=2
  ·subst k2;simpa using h1
  by_cases k3:k=3
  ·subst k3;simpa using h1
  by_cases k4:k=4
  ·subst k4;simpa using h1
  by_cases k5:k=5
  ·subst k5;simpa using h1
  by_cases k6:k=6
  ·subst k6;simpa using h1
  by_cases k7:k=7
  ·subst k7;simpa using h1
  simp [k1,k2,k3,k4,k5,k6,k7]at h1
 have s2:oF (cH g c)=true:=by
  rw [jT]
  obtain⟨k,n,lo,hi,ps⟩:=c
  show oF (.mk k (aOd g k n) lo hi (ps.map (cH g)))=true
  rw [aMr]at h2 |-
  simp only [aOd]at h2 |-
  by_cases k3:k=3
  ·subst k3
   have h2:cF n=true:=by simpa using h2
   simpa using hg.plain _ _ h2
  by_cases k6:k=6
  ·subst k6
   have h2:cF n=true:=by simpa using h2
   simpa using hg.plain _ _ h2
  by_cases k7:k=7
  ·subst k7
   have h2:cF n=true:=by simpa using h2
   simpa using hg.plain _ _ h2
  by_cases k4:k=4
  ·subst k4
   have h2:iB n=true:=by simpa using h2
   simpa using hg.name _ _ h2
  simp [k3,k4,k6,k7]
 rw [s1,s2];simp
theorem tL {g:Int->List UInt8->List UInt8}(hg:RenOK g): ∀c:Cn,Okn c->Okn (cH g c):=by
 refine Cn.ind ?_
 intro c ih h
 rw [fB]at h |-
 refine⟨aF1 hg h.1,λp hp=> ?_⟩
 rw [cO]at hp
 obtain⟨q,hq,rfl⟩:=List.mem_map.1 hp
 exact ih q hq (h.2 q hq)
theorem aM6 (g:Int->List UInt8->List UInt8): ∀c:Cn,aN (cH g c)=aN c:=by
 refine Cn.ind ?_
 intro c ih
 rw [cR,cR,cO]
 congr 1
 revert ih
 generalize c.parts=l
 induction l with
 |nil=>intro _;rfl
 |cons x r ihr=>
  intro ih
  rw [List.map_cons,bL,bL,ih x (by simp),ihr λq hq=>ih q (by simp [hq])]
theorem aJ5 (g:Int->List UInt8->List UInt8): ∀c:Cn,cI (cH g c)=cI c:=by
 refine Cn.ind ?_
 intro c ih
 rw [jD,jD,cO]
 revert ih
 generalize c.parts=l
 induction l with
 |nil=>intro _;rfl
 |cons x r ihr=>
  intro ih
  rw [List.map_cons,cU,cU,ih x (by simp),ihr λq hq=>ih q (by simp [hq])]
theorem sE {g:Int->List UInt8->List UInt8}(hg:RenOK g) {c:Cn}(h:bH c=0):bH (cH g c)=0:=by
 obtain⟨h1,h2,h3⟩:=(dN c).1 h
 exact(dN _).2 ⟨by rw [aJ5];exact h1,by rw [aM6];exact h2,tL hg c h3⟩
mutual
def aR2:Cn->Bool
 | .mk k _ _ _ ps=>if k=2 then true else if k=5\/k=6 then aOf ps else false
def aOf:List Cn->Bool
 | []=>false
 |c::r=>aR2 c || aOf r
end
theorem nU: ∀l,aOf l=true↔ ∃p∈l,aR2 p=true
 | []=>by simp [aOf]
 |c::r=>by rw [aOf,Bool.or_eq_true,nU r];simp
theorem wN (c:Cn):aR2 c=if c.kind=2 then true else if c.kind=5\/c.kind=6 then aOf c.parts else false:=by cases c;rw [aR2];rfl
theorem aGs (g:Int->List UInt8->List UInt8): ∀c:Cn,aR2 (cH g c)=aR2 c:=by
 refine Cn.ind ?_
 intro c ih
 rw [wN,wN,cK,cO]
 have:aOf (c.parts.map (cH g))=aOf c.parts:=by
  rw [Bool.eq_iff_iff,nU,nU]
  constructor
  ·rintro⟨p,hp,h⟩
   obtain⟨q,hq,rfl⟩:=List.mem_map.1 hp
   exact⟨q,hq,by rw [<-ih q hq];exact h⟩
  ·rintro⟨q,hq,h⟩
   exact⟨_,List.mem_map_of_mem hq,by rw [ih q hq];exact h⟩
 rw [this]
theorem tT {s:List Cn}(hb: ∀t∈s,t.kind≠2) (h0:(eE s).2=0):(s=[]/\(eE s).1=aKn)\/(∃x,s=[x]/\(eE s).1=x)\/((eE s).1= .mk 5 [] 0 0 s/\2<=s.length/\s.length<=8):=by
 have hn:s.find? (λt=>decide (t.kind=2))=none:=List.find?_eq_none.2 λt ht hk=>hb t ht (by simpa using hk)
 unfold eE at h0 |-
 rw [hn]at h0 |-
 simp only at h0 |-
 split
 ·rename_i e;exact .inl ⟨List.eq_nil_of_length_eq_zero e,rfl⟩
 ·rename_i e0
  rw [if_neg e0]at h0
  split
  ·rename_i e1
   obtain⟨x,rfl⟩:=List.length_eq_one_iff.1 e1
   exact .inr (.inl ⟨x,rfl,rfl⟩)
  ·rename_i e1
   rw [if_neg e1]at h0
   split
   ·rename_i e2;rw [if_pos e2]at h0;cases h0
   ·exact .inr (.inr ⟨rfl,by omega,by omega⟩)
theorem oS {s:List Cn}(h:s.length<=8):(eE s).2=0:=by
 unfold eE
 split
 ·rfl
 ·split
  ·rfl
  ·split
   ·rfl
   ·rw [if_neg (by omega)]
theorem gL {c:Cn}(hk:c.kind=5):aI c=iZ (c.parts.map aI):=by rw [eF,if_neg (by omega),if_pos hk]
theorem gW {c:Cn}(h5:c.kind≠5) (h6:c.kind≠6):aI c=(c,0):=by rw [eF,if_neg h6,if_neg h5]
theorem iN {c p:Cn}(hk:c.kind=6) (hp:c.parts=[p]):aI c=if (aI p).2≠0\/(aI p).1.kind=2 then aI p else (.mk 6 c.name 0 0 [(aI p).1],0):=by
 rw [eF,if_pos hk,hp];rfl
theorem aGy {c:Cn}(h:Okn c) (hk:c.kind=6): ∃p,c.parts=[p]/\Okn p:=by
 have hf:=((fB c).1 h).1
 rw [kP hk (by decide),gY rfl]at hf
 have h1:(1:Int)<=(c.parts.length:Int):=hf.1.1
 have h2:(c.parts.length:Int)<=1:=hf.1.2.1
 obtain⟨p,hp⟩:=List.length_eq_one_iff.1 (show c.parts.length=1 by omega)
 exact⟨p,hp,((fB c).1 h).2 p (by rw [hp];simp)⟩
theorem oM {c:Cn}(h0:(aI c).2=0) (hk:(aI c).1.kind≠2): ∀m∈bP (aI c).1,m.kind≠2:=by
 have self: ∀x:Cn,x.kind≠2->x.kind≠5-> ∀m∈bP x,m.kind≠2:= λx h2 h5 m hm=>by
  unfold bP at hm
  split at hm
  ·simp at hm
  ·have hm:m∈[x]:=by simpa only [if_neg h5]using hm
   simp only [List.mem_singleton]at hm
   subst hm;exact h2
 by_cases h5:c.kind=5
 ·rw [gL h5]at h0 hk |-
  have hz:=kK h0
  rw [iY hz]at h0 hk |-
  have hfl: ∀m∈lR (jG c.parts),m.kind≠1/\m.kind≠5:= λm hm=>by
   rw [dH,dB]at hm
   obtain⟨p,hp,hm⟩:=hm
   exact qB p (hz p hp) m hm
  generalize lR (jG c.parts)=s at h0 hk hfl |-
  by_cases hb: ∃t∈s,t.kind=2
  ·exfalso
   unfold eE at hk
   split at hk
   ·rename_i t ht
    have:=List.find?_some ht
    simp only [decide_eq_true_eq]at this
    exact hk this
   ·rename_i hn
    obtain⟨t,ht,e⟩:=hb
    have:=List.find?_eq_none.1 hn t ht
    simp [e]at this
  ·have hb: ∀t∈s,t.kind≠2:= λt ht e=>hb ⟨t,ht,e⟩
   rcases tT hb h0 with⟨rfl,e⟩|⟨x,rfl,e⟩|⟨e,_⟩<;>rw [e]
   ·exact self _ (by show (1:Int)≠2;decide) (by show (1:Int)≠5;decide)
   ·exact self _ (hb x (by simp)) (hfl x (by simp)).2
   ·intro m hm
    rw [show bP (.mk 5 [] 0 0 s)=s from rfl]at hm
    exact hb m hm
 ·by_cases h6:c.kind=6
  ·refine self _ hk ?_
   rw [eF,if_pos h6]at h0 hk |-
   cases hp:c.parts with
   |nil=>show (0:Int)≠5;decide
   |cons p r=>
    rw [hp]at h0 hk
    simp only [List.map_cons,pE]at h0 hk |-
    split
    ·rename_i hb
     rw [if_pos hb]at h0 hk
     exfalso
     rcases hb with hb|hb
     ·exact hb h0
     ·exact hk hb
    ·show (6:Int)≠5;decide
  ·rw [gW h5 h6]at hk |-
   exact self _ hk h5
theorem aMa {c:Cn}(h5:c.kind=5) (h0:(aI c).2=0) (hk:(aI c).1.kind≠2) (x:Cn):x∈bP (aI c).1↔ ∃p∈c.parts,x∈bP (aI p).1:=by
 have hnb:=oM h0 hk
 rw [gL h5]at h0 hk hnb |-
 have hz:=kK h0
 rw [iY hz]at h0 hk hnb |-
 rw [<-dB,<-dH (l:=jG c.parts)]
 have hfl: ∀m∈lR (jG c.parts),m.kind≠1/\m.kind≠5:= λm hm=>by
  rw [dH,dB]at hm
  obtain⟨p,hp,hm⟩:=hm
  exact qB p (hz p hp) m hm
 generalize lR (jG c.parts)=s at h0 hk hnb hfl |-
 have hb: ∀t∈s,t.kind≠2:= λt ht e=>by
  unfold eE at hk
  split at hk
  ·rename_i t ht
   have:=List.find?_some ht
   simp only [decide_eq_true_eq]at this
   exact hk this
  ·rename_i hn
   have:=List.find?_eq_none.1 hn t ht
   simp [e]at this
 rcases tT hb h0 with⟨rfl,e⟩|⟨y,rfl,e⟩|⟨e,_⟩<;>rw [e]
 ·simp [bP,aKn,Cn.kind]
 ·have:=hfl y (by simp)
  unfold bP
  rw [if_neg this.1,if_neg this.2]
 ·rfl
theorem nG: ∀c:Cn,Okn c->(aI c).2=0->((aI c).1.kind=2↔aR2 c=true):=by
 refine Cn.ind ?_
 intro c ih hok h0
 have hp:=((fB c).1 hok).2
 rw [wN]
 by_cases h5:c.kind=5
 ·rw [if_neg (by omega),if_pos (.inl h5),nU]
  have h0':=h0
  rw [gL h5]at h0'
  have hz:=kK h0'
  constructor
  ·intro hk
   refine Classical.byContradiction λhn=> ?_
   have hn: ∀p∈c.parts,(aI p).1.kind≠2:= λp hpm e=>hn ⟨p,hpm,(ih p hpm (hp p hpm) (hz p hpm)).1 e⟩
   rw [gL h5,iY hz]at hk
   rw [iY hz]at h0'
   have hb: ∀t∈lR (jG c.parts),t.kind≠2:= λt ht=>by
    rw [dH,dB]at ht
    obtain⟨p,hpm,ht⟩:=ht
    exact oM (hz p hpm) (hn p hpm) t ht
   rcases tT hb h0' with⟨e1,e⟩|⟨y,e1,e⟩|⟨e,_⟩<;>rw [e]at hk
   ·exact absurd hk (by show (1:Int)≠2;decide)
   ·exact hb y (by rw [e1];simp) hk
   ·exact absurd hk (by show (5:Int)≠2;decide)
  ·rintro⟨p,hpm,hb⟩
   have hk:=(ih p hpm (hp p hpm) (hz p hpm)).2 hb
   rw [gL h5,iY hz]
   have e := aDq (s := lR (jG c.parts)) (λm hm => by
    rw [dH,dB]at hm
    obtain⟨q,hq,hm⟩:=hm
    exact yN (kC q (hp q hq) (hz q hq)).ok hm) ⟨(aI p).1,by
     rw [dH,dB]
     refine⟨p,hpm, ?_⟩
     unfold bP
     rw [if_neg (by omega),if_neg (by omega)];simp,hk⟩
   rw [e];rfl
 ·by_cases h6:c.kind=6
  ·obtain⟨p,hps,hpo⟩:=aGy hok h6
   have hpm:p∈c.parts:=by rw [hps];simp
   rw [if_neg (by omega),if_pos (.inr h6),hps]
   have h0':=h0
   rw [iN h6 hps]at h0' |-
   have hl:aOf [p]=aR2 p:=by simp [aOf]
   rw [hl]
   split
   ·rename_i hb
    rw [if_pos hb]at h0'
    exact ih p hpm hpo h0'
   ·rename_i hb
    have h1:(aI p).2=0:=by omega
    rw [<-ih p hpm hpo h1]
    constructor
    ·intro e;exact absurd e (by show (6:Int)≠2;decide)
    ·intro e;exact absurd (.inr e) hb
  ·rw [gW h5 h6]
   split
   ·rename_i h2;simp [h2]
   ·rename_i h2
    rw [if_neg (by omega)]
    simp [h2]
theorem aOp {g:Int->List UInt8->List UInt8}(hg:RenOK g): ∀c:Cn,Okn c->(aI c).2=0->(aI (cH g c)).2=0/\aI (cH g (aI c).1)=aI (cH g c):=by
 refine Cn.ind ?_
 intro c ih hok h0
 have hp:=((fB c).1 hok).2
 have hbotr:cH g (.mk 2 [] 0 0 [])= .mk 2 [] 0 0 []:=by rw [jT];rfl
 by_cases h5:c.kind=5
 ·have h0':=h0
  rw [gL h5]at h0'
  have hz:=kK h0'
  have hrz: ∀p∈c.parts,(aI (cH g p)).2=0:= λp hpm=>(ih p hpm (hp p hpm) (hz p hpm)).1
  have hre: ∀p∈c.parts,aI (cH g (aI p).1)=aI (cH g p):= λp hpm=>(ih p hpm (hp p hpm) (hz p hpm)).2
  have hr5:(cH g c).kind=5:=by rw [cK];exact h5
  have hzr: ∀p∈(cH g c).parts,(aI p).2=0:= λq hq=>by
   rw [cO]at hq
   obtain⟨p,hpm,rfl⟩:=List.mem_map.1 hq
   exact hrz p hpm
  have hR:aI (cH g c)=eE (lR (jG (cH g c).parts)):=by rw [gL hr5,iY hzr]
  have hC:aI c=eE (lR (jG c.parts)):=by rw [gL h5,iY hz]
  by_cases hb:(aI c).1.kind=2
  ·have hcb:=(nG c hok h0).1 hb
   have e1:(aI c).1= .mk 2 [] 0 0 []:=wL (kC c hok h0).ok hb
   -- a part is empty
   rw [wN,if_neg (by omega),if_pos (.inl h5),nU]at hcb
   obtain⟨p,hpm,hpb⟩:=hcb
   have hk:(aI (cH g p)).1.kind=2:=(nG _ (tL hg p (hp p hpm)) (hrz p hpm)).2 (by rw [aGs];exact hpb)
   have e2:aI (cH g c)=(.mk 2 [] 0 0 [],0):=by
    rw [hR]
    refine aDq (λm hm=> ?_) ⟨(aI (cH g p)).1, ?_,hk⟩
    ·rw [dH,dB]at hm
     obtain⟨q,hq,hm⟩:=hm
     have hq':=hq
     rw [cO]at hq
     obtain⟨q0,hq0,rfl⟩:=List.mem_map.1 hq
     exact yN (kC _ (tL hg q0 (hp q0 hq0)) (hrz q0 hq0)).ok hm
    ·rw [dH,dB]
     refine⟨cH g p,by rw [cO];exact List.mem_map_of_mem hpm, ?_⟩
     unfold bP
     rw [if_neg (by omega),if_neg (by omega)];simp
   rw [e2,e1,hbotr]
   exact⟨rfl,gW (by show (2:Int)≠5;decide) (by show (2:Int)≠6;decide)⟩
  · -- no part is empty
   have hnb : ∀ p ∈ c.parts, (aI p).1.kind ≠ 2 := λp hpm e => hb ((nG c hok h0).2 (by
    rw [wN,if_neg (by omega),if_pos (.inl h5),nU]
    exact⟨p,hpm,(nG p (hp p hpm) (hz p hpm)).1 e⟩))
   have hnr: ∀p∈c.parts,(aI (cH g p)).1.kind≠2:= λp hpm e=>by
    have h1:=(nG _ (tL hg p (hp p hpm)) (hrz p hpm)).1 e
    rw [aGs]at h1
    exact hnb p hpm ((nG p (hp p hpm) (hz p hpm)).2 h1)
   obtain⟨S,hS⟩: ∃S,S=lR (jG c.parts):=⟨_,rfl⟩
   have hSm: ∀x,x∈S↔ ∃p∈c.parts,x∈bP (aI p).1:= λx=>by rw [hS,dH,dB]
   have hSb: ∀t∈S,t.kind≠2:= λt ht=>by
    obtain⟨p,hpm,ht⟩:=(hSm t).1 ht
    exact oM (hz p hpm) (hnb p hpm) t ht
   have hSk: ∀t∈S,t.kind≠1/\t.kind≠5:= λt ht=>by
    obtain⟨p,hpm,ht⟩:=(hSm t).1 ht
    exact qB p (hz p hpm) t ht
   -- the parts of the forms, renamed
   have hpart: ∀p∈c.parts,(∀q∈bP (aI p).1,(aI (cH g q)).2=0)/\ ∀x,x∈bP (aI (cH g p)).1↔ ∃q∈bP (aI p).1,x∈bP (aI (cH g q)).1:=by
    intro p hpm
    have e:=hre p hpm
    have z:=hrz p hpm
    have nb:=hnr p hpm
    rw [<-e]at z nb |-
    generalize (aI p).1=t at z nb |-
    unfold bP
    by_cases h1:t.kind=1
    ·rw [if_pos h1]
     refine⟨by simp,λx=> ?_⟩
     rw [gW (by rw [cK];omega) (by rw [cK];omega),if_pos (by rw [cK];exact h1)]
     simp
    ·rw [if_neg h1]
     by_cases ht5:t.kind=5
     ·rw [if_pos ht5]
      have hr5:(cH g t).kind=5:=by rw [cK];exact ht5
      have z':=z
      rw [gL hr5]at z'
      have hz':=kK z'
      rw [cO]at hz'
      refine⟨λq hq=>hz' _ (List.mem_map_of_mem hq),λx=> ?_⟩
      have:=aMa hr5 z nb x
      unfold bP at this
      rw [this,cO]
      constructor
      ·rintro⟨q,hq,hx⟩
       obtain⟨q0,hq0,rfl⟩:=List.mem_map.1 hq
       exact⟨q0,hq0,hx⟩
      ·rintro⟨q,hq,hx⟩
       exact⟨_,List.mem_map_of_mem hq,hx⟩
     ·rw [if_neg ht5]
      refine⟨λq hq=> ?_,λx=> ?_⟩
      ·simp only [List.mem_singleton]at hq
       subst hq;exact z
      ·simp
   have hSz: ∀q∈S,(aI (cH g q)).2=0:= λq hq=>by
    obtain⟨p,hpm,hq⟩:=(hSm q).1 hq
    exact(hpart p hpm).1 q hq
   have hU: ∀x,x∈jG (cH g c).parts↔x∈jG (S.map (cH g)):= λx=>by
    rw [dB,dB,cO]
    constructor
    ·rintro⟨p,hpm,hx⟩
     obtain⟨p0,hp0,rfl⟩:=List.mem_map.1 hpm
     obtain⟨q,hq,hx⟩:=((hpart p0 hp0).2 x).1 hx
     exact⟨cH g q,List.mem_map_of_mem ((hSm q).2 ⟨p0,hp0,hq⟩),hx⟩
    ·rintro⟨q,hq,hx⟩
     obtain⟨q0,hq0,rfl⟩:=List.mem_map.1 hq
     obtain⟨p0,hp0,hq1⟩:=(hSm q0).1 hq0
     exact⟨cH g p0,List.mem_map_of_mem hp0,((hpart p0 hp0).2 x).2 ⟨q0,hq1,hx⟩⟩
   have hRS:aI (cH g c)=eE (lR (jG (S.map (cH g)))):=by rw [hR,aIx hU]
   -- each stands for one
   have hone: ∀q∈S,bP (aI (cH g q)).1=[(aI (cH g q)).1]:= λq hq=>by
    have hk:=hSk q hq
    have hk2:=hSb q hq
    have z:=hSz q hq
    by_cases h6:q.kind=6
    ·have hr6:(cH g q).kind=6:=by rw [cK];exact h6
     have:(aI (cH g q)).1.kind=6\/(aI (cH g q)).1.kind=2\/(aI (cH g q)).1.kind=0:=by
      rw [eF,if_pos hr6]at z |-
      cases hps:(cH g q).parts with
      |nil=>exact .inr (.inr rfl)
      |cons u r=>
       rw [hps]at z
       simp only [List.map_cons,pE]at z |-
       split
       ·rename_i hb2
        rw [if_pos hb2]at z
        rcases hb2 with hb2|hb2
        ·exact absurd z hb2
        ·exact .inr (.inl hb2)
       ·exact .inl rfl
     unfold bP
     rw [if_neg (by omega),if_neg (by omega)]
    ·rw [gW (by rw [cK];exact hk.2) (by rw [cK];exact h6)]
     unfold bP
     rw [if_neg (by rw [cK];exact hk.1),if_neg (by rw [cK];exact hk.2)]
   have hlen:(lR (jG (S.map (cH g)))).length<=S.length:=by
    have h1: ∀x∈lR (jG (S.map (cH g))),x∈S.map λq=>(aI (cH g q)).1:= λx hx=>by
     rw [dH,dB]at hx
     obtain⟨q,hq,hx⟩:=hx
     obtain⟨q0,hq0,rfl⟩:=List.mem_map.1 hq
     rw [hone q0 hq0,List.mem_singleton]at hx
     exact List.mem_map.2 ⟨q0,hq0,hx.symm⟩
    have:=List.Nodup.length_le_of_subset (aLj (pD _)) h1
    rwa [List.length_map]at this
   rw [hC,<-hS]at h0
   have hcS:(aI c).1=(eE S).1:=by rw [hC,<-hS]
   rw [hcS,hRS]
   rcases tT hSb h0 with⟨e1,e⟩|⟨x,e1,e⟩|⟨e,l2,l8⟩
   ·rw [e,e1]
    refine⟨oS (by show (0:Nat)<=8;decide), ?_⟩
    rw [jT];rfl
   ·rw [e,e1]
    rw [e1]at hlen
    simp only [List.length_cons,List.length_nil]at hlen
    refine⟨oS (by omega), ?_⟩
    have hx:x∈S:=by rw [e1];simp
    have z:=hSz x hx
    have e3:jG ([x].map (cH g))=[(aI (cH g x)).1]:=by
     have:=hone x hx
     simp [jG,this]
    rw [e3]
    have e4:lR [(aI (cH g x)).1]=[(aI (cH g x)).1]:=aLu (by simp [aG8])
    rw [e4]
    unfold eE
    rw [show aI (cH g x)=((aI (cH g x)).1,0)from Prod.ext rfl z]
    split
    ·rename_i t ht
     have:=List.mem_of_find?_eq_some ht
     simp only [List.mem_singleton]at this
     rw [this]
    ·rfl
   ·rw [e]
    refine⟨oS (by omega), ?_⟩
    rw [gL (by rw [cK];rfl),cO]
    show iZ ((S.map (cH g)).map aI)=_
    refine iY λq hq=> ?_
    obtain⟨q0,hq0,rfl⟩:=List.mem_map.1 hq
    exact hSz q0 hq0
 ·by_cases h6:c.kind=6
  ·obtain⟨p,hps,hpo⟩:=aGy hok h6
   have hpm:p∈c.parts:=by rw [hps];simp
   have hr6:(cH g c).kind=6:=by rw [cK];exact h6
   have hrp:(cH g c).parts=[cH g p]:=by rw [cO,hps];rfl
   have h0':=h0
   rw [iN h6 hps]at h0'
   have hpz:(aI p).2=0:=by
    refine Classical.byContradiction λhn=> ?_
    rw [if_pos (.inl hn)]at h0'
    exact hn h0'
   obtain⟨i1,i2⟩:=ih p hpm hpo hpz
   have hz2:(aI (cH g c)).2=0:=by
    rw [iN hr6 hrp]
    split
    ·exact i1
    ·rfl
   refine⟨hz2, ?_⟩
   rw [iN h6 hps]
   split
   ·rename_i hb
    have hk:(aI p).1.kind=2:=hb.resolve_left (by omega)
    rw [i2,iN hr6 hrp,if_pos]
    right
    rw [<-i2,wL (kC p hpo hpz).ok hk,hbotr,gW (by show (2:Int)≠5;decide) (by show (2:Int)≠6;decide)]
    rfl
   ·rename_i hb
    have e1:cH g (.mk 6 c.name 0 0 [(aI p).1])= .mk 6 (aOd g 6 c.name) 0 0 [cH g (aI p).1]:=by rw [jT];rfl
    rw [e1,iN (p:=cH g (aI p).1) rfl rfl,i2,iN hr6 hrp,aM7,h6]
    rfl
  ·rw [gW h5 h6,gW (by rw [cK];exact h5) (by rw [cK];exact h6)]
   exact⟨rfl,rfl⟩
end Go.Proofs.YtfhoddcminbffaaGreatDoor
