/-
  Merging in place, plainly: what a symmetric merge does to a list, and when its two halves may be merged alone. Rename: renamings, plainly: what is valid, what a name becomes, what two renamings are together, what undoes one. Bases: the reference's Same at one list of axioms; few and same of the law of renamings. What encoding a query answers, and that both readers read it again; plain. Objects: how long what is written is, and that changed bytes are refused; plain.
  Conditions: none.
-/
import Derived.WalkKit
import Derived.Test.YtleihcnongldbaaGreatDoorVBp
import Derived.Test.YtleihcnongldbaaGreatDoorVDb
import Derived.Test.YtleihcnongldbaaGreatDoorVBr
import Derived.Test.YtleihcnongldbaaGreatDoorVBq
import Derived.Test.YtleihcnongldbaaGreatDoorVSyd
import Derived.Test.YtleihcnongldbaaGreatDoorVPi
set_option linter.unnecessarySimpa false
set_option linter.unusedSectionVars false
set_option linter.unusedSimpArgs false
set_option linter.unusedVariables false
namespace Go.Proofs.YtleihcnongldbaaGreatDoor
section
variable {α:Type}
structure OrdC (cf:α->α->Int):Prop where
 asym: ∀x y,cf x y < 0->¬ cf y x < 0
 tr: ∀x y z,¬ cf y x < 0->¬ cf z y < 0->¬ cf z x < 0
def Srt (cf:α->α->Int) (l:List α):Prop:=l.Pairwise λx y=>¬ cf y x < 0
theorem OrdC.refl {cf:α->α->Int}(h:OrdC cf) (x:α):¬ cf x x < 0:= λq=>h.asym x x q q
def Blk (cf:α->α->Int) (bs:Nat) (l:List α):Prop:= ∀k,Srt cf ((l.drop (k * bs)).take bs)
theorem Blk.first {cf:α->α->Int}{bs:Nat}{l:List α}(h:Blk cf bs l):Srt cf (l.take bs):=by
 have:=h 0
 rwa [Nat.zero_mul,List.drop_zero]at this
theorem Blk.rest {cf:α->α->Int}{bs:Nat}{l:List α}(h:Blk cf bs l):Blk cf bs (l.drop bs):=by
 intro k
 have:=h (k+1)
 rw [Nat.add_mul,Nat.one_mul,Nat.add_comm]at this
 rwa [List.drop_drop]
theorem Blk.nil {cf:α->α->Int}{bs:Nat}:Blk cf bs []:= λk=>by
 simp [Srt]
theorem Blk.all {cf:α->α->Int}{bs:Nat}{l:List α}(h:Blk cf bs l) (hl:l.length<=bs):Srt cf l:=by
 have:=h.first
 rwa [List.take_of_length_le hl]at this
end
end Go.Proofs.YtleihcnongldbaaGreatDoor
namespace Go.Proofs.YtleihcnongldbaaGreatDoor
open Go.Proofs
structure Rn where
 kind:Int
 old:List UInt8
 new:List UInt8
theorem Rn.ext' {a b:Rn}(h1:a.kind=b.kind) (h2:a.old=b.old) (h3:a.new=b.new):a=b:=by
 cases a;cases b;simp_all
def rnN (s:List UInt8):Bool:=eZ s && !decide (s.head?=some 95)
def rnV (r:Rn):Bool:=decide (1<=r.kind) && (decide (r.kind<=4) && (rnN r.old && (rnN r.new && !decide (r.old=r.new))))
def aJk (a b:Rn):Int:=orF [jX a.kind b.kind,fB a.old b.old]
abbrev Ky:=Int×List UInt8
def aPq (r:Rn):Ky:=(r.kind,r.new)
def aA6 (r:Rn):Ky:=(r.kind,r.old)
theorem zV {a b:Rn}:aJk a b=0↔aA6 a=aA6 b:=by
 unfold aJk aA6
 simp only [gR,dB,oX,dH,Prod.mk.injEq]
 simp [orF]
theorem LCk.ord {α:Type}{c:α->α->Int}(h:LCk c):OrdC c where
 asym:= λx y a=>by have:=h.anti x y;omega
 tr:= λx y z a b=>by
  have h1:=h.t3 x y z
  have r1:=h.rng x y
  have r2:=h.rng y z
  have a1:=h.anti x y
  have a2:=h.anti y z
  have a3:=h.anti x z
  unfold aCd at h1
  have:=h1.1
  have:=h1.2.1
  have:=h1.2.2
  omega
structure Good (l:List Rn):Prop where
 val: ∀r∈l,rnV r=true
 str:l.Pairwise λa b=>aJk a b < 0
 nod:(l.map aPq).Nodup
theorem aKk {l:List Rn}(h:l.Pairwise λa b=>aJk a b < 0) {a b:Rn}(ha:a∈l) (hb:b∈l) (e:aA6 a=aA6 b):a=b:=by
 induction l with
 |nil=>simp at ha
 |cons x r ih=>
  have h1:=List.pairwise_cons.1 h
  rcases List.mem_cons.1 ha with e1|ha1<;>rcases List.mem_cons.1 hb with e2|hb1
  ·rw [e1,e2]
  ·have:=h1.1 b hb1;rw [<-e1,zV.2 e]at this;omega
  ·have:=h1.1 a ha1;rw [<-e2,zV.2 e.symm]at this;omega
  ·exact ih h1.2 ha1 hb1
def lN (l:List Rn) (k:Int) (s:List UInt8):List UInt8:=
 match l.find? (λr=>decide (r.kind=k) && decide (r.old=s))with
 |some r=>r.new
 |none=>s
theorem zE {l:List Rn}(h:l.Pairwise λa b=>aJk a b < 0) {r:Rn}(hr:r∈l):lN l r.kind r.old=r.new:=by
 unfold lN
 split
 ·rename_i q hq
  have h1:=List.mem_of_find?_eq_some hq
  have h2:=List.find?_some hq
  simp only [Bool.and_eq_true,decide_eq_true_eq]at h2
  rw [aKk h h1 hr (by unfold aA6;rw [h2.1,h2.2])]
 ·rename_i hq
  have:=List.find?_eq_none.1 hq r hr
  simp at this
theorem vD {l:List Rn}{k:Int}{s:List UInt8}(h: ∀r∈l,aA6 r≠(k,s)):lN l k s=s:=by
 unfold lN
 split
 ·rename_i q hq
  have h1:=List.mem_of_find?_eq_some hq
  have h2:=List.find?_some hq
  simp only [Bool.and_eq_true,decide_eq_true_eq]at h2
  exact absurd (by unfold aA6;rw [h2.1,h2.2]) (h q h1)
 ·rfl
theorem sF {l:List Rn}(h:l.Pairwise λa b=>aJk a b < 0) (k:Int) (s:List UInt8):(∃r∈l,aA6 r=(k,s)/\lN l k s=r.new)\/((∀r∈l,aA6 r≠(k,s))/\lN l k s=s):=by
 by_cases he: ∃r∈l,aA6 r=(k,s)
 ·obtain⟨r,hr,e⟩:=he
  have:=zE h hr
  have e':r.kind=k/\r.old=s:=by simpa [aA6]using e
  rw [e'.1,e'.2]at this
  exact .inl ⟨r,hr,e,this⟩
 ·have he: ∀r∈l,aA6 r≠(k,s):= λr hr e=>he ⟨r,hr,e⟩
  exact .inr ⟨he,vD he⟩
structure Comp (l m x:List Rn):Prop where
 str:x.Pairwise λa b=>aJk a b < 0
 mem: ∀r,r∈x↔r.new=lN m r.kind (lN l r.kind r.old)/\r.new≠r.old
theorem Comp.name {l m x:List Rn}(h:Comp l m x) (k:Int) (s:List UInt8):lN x k s=lN m k (lN l k s):=by
 rcases sF h.str k s with⟨r,hr,e,e2⟩|⟨hn,e2⟩
 ·have e':r.kind=k/\r.old=s:=by simpa [aA6]using e
  have:=((h.mem r).1 hr).1
  rw [e2,this,e'.1,e'.2]
 ·rw [e2]
  by_cases hs:lN m k (lN l k s)=s
  ·exact hs.symm
  ·exact absurd rfl (hn ⟨k,s,lN m k (lN l k s)⟩ ((h.mem _).2 ⟨rfl,hs⟩))
def aMv (r:Rn):Rn:=⟨r.kind,r.new,r.old⟩
theorem aI8 (r:Rn):aMv (aMv r)=r:=rfl
structure Inv (l x:List Rn):Prop where
 str:x.Pairwise λa b=>aJk a b < 0
 mem: ∀r,r∈x↔aMv r∈l
theorem Inv.name {l x:List Rn}(hl:Good l) (h:Inv l x) {k:Int}{s:List UInt8}(hn:(∃r∈l,aA6 r=(k,s))\/ ∀r∈l,aPq r≠(k,s)):lN x k (lN l k s)=s:=by
 rcases sF hl.str k s with⟨r,hr,e,e2⟩|⟨h1,e2⟩
 ·have e':r.kind=k/\r.old=s:=by simpa [aA6]using e
  have:=zE h.str ((h.mem (aMv r)).2 (by rw [aI8];exact hr))
  rw [e2,<-e'.1,<-e'.2]
  exact this
 ·rw [e2]
  refine vD λr hr e=> ?_
  have hr':=(h.mem r).1 hr
  rcases hn with⟨q,hq,e3⟩|hn
  ·exact h1 q hq e3
  ·exact hn (aMv r) hr' e
end Go.Proofs.YtleihcnongldbaaGreatDoor
namespace Go.Proofs.YtleihcnongldbaaGreatDoor
open Go.Proofs
set_option maxRecDepth 10000
attribute [local irreducible] aO aH Tri aG YVC cL bB
structure Sm6 (x:Ax):Prop where
 l:bW x.left<=1000000
 r:bW x.right<=1000000
 n:x.roles.length<=1000000
theorem aJ1 {x:Ax}(h:cJ x=0):Sm6 x:=by
 obtain⟨h1,h2,h3⟩:=aDq h
 exact⟨by omega,by omega,by omega⟩
theorem aB2 (x:Ax) (h:Sm6 x):Tri Tryz.prog 60 [.d (.agg (axR x)), .d (.agg (axR x))] [] (λr=>r= .d (.bool true)):=by
 have c:=nZ x x h.l h.r h.n h.l h.r h.n
 rw [show aDn x x=0 from aDm.2 rfl]at c
 refine aF false [2,3] hty Tryz.func60 rfl (kp [0,1,2,3,4]) [] _ _ _ (by simp [Tryz.f60]) (by simp) ?_
 ((conv=>whnf);repeat' ((first|(intro hq;(try simp only [lnS]at hq);(try rewrite [List.length_map]))|refine sJ ?_|refine .intro _ (.intro rfl ?_)|refine exL (k:= ?_)|(refine aD [] c trivial (λr hs=> ?_);subst hs)|refine dwR ?_|((first|refine aB ?_ ?_|refine aC ?_ ?_)<;>intro hb<;>(first|exact ddX hb|try simp only [lnS]at hb))|(refine aA ?_ ?_<;>intro hb<;>try exact dsX hb))<;>(conv=>whnf)))
 all_goals first
  |rfl
  |(refine aX ?_;simp)
  |(exfalso;simp_all;done)
theorem qJ (l:List Ax) (h: ∀x∈l,Sm6 x):Tri Tryz.prog 24 [.d (.sl 16 (l.map axR)), .d (.sl 16 (l.map axR))] [] (λr=>r= .d (.bool true)):=by
 refine aF false [] hty Tryz.func24 rfl (kp [0,1,4,5,10,14,26]) [] _ _ _ (by simp [Tryz.f24]) (by simp) ?_
 ((conv=>whnf);repeat ((first|(intro hq;try simp only [lnS]at hq)|refine sI ?_|refine .intro _ (.intro rfl ?_));(conv=>whnf)))
 refine aC (λh1=> ?_) (λh1=> ?_)
 ·exact absurd rfl h1
 ((conv=>whnf);repeat ((first|(intro hq;try simp only [lnS]at hq)|refine sI ?_|refine .intro _ (.intro rfl ?_));(conv=>whnf)))
 refine aL hty (λj:Nat=>([(0, .d (.sl 16 (l.map axR))),(1, .d (.sl 16 (l.map axR))),(5, .d (.int .i64 j))],[])) (λj=>j<=l.length) (λj=>l.length - j) 0 (by omega) ⟨by repeat' (first|exact trivial|exact rfl|refine And.intro ?_ ?_),trivial⟩ ?_
 rintro j hj
 ((conv=>whnf);repeat ((first|(intro hq;try simp only [lnS]at hq)|refine sI ?_|refine .intro _ (.intro rfl ?_));(conv=>whnf)))
 refine aB (λh2=> ?_) (λh2=> ?_)
 ·have hjl:j < l.length:=by have h2:(j:Int) < ((l.map axR).length:Nat):=h2;rw [List.length_map]at h2;omega
  have hrow:(l.map axR)[(j:Int).toNat]? =some (axR l[j]):=aZ hjl
  have c:=aB2 l[j] (h _ (List.getElem_mem hjl))
  generalize l[j]=x at hrow c
  ((conv=>whnf);repeat' ((first|(intro hq;(try simp only [lnS]at hq);(try rewrite [List.length_map]))|refine sJ ?_|refine .intro _ (.intro rfl ?_)|refine exL (k:= ?_)|(refine⟨_,hrow, ?_⟩)|(refine⟨.d (.bool _),_,[],rfl,trivial,c, ?_⟩)|refine dwR ?_|((first|refine aB ?_ ?_|refine aC ?_ ?_)<;>intro hb<;>(first|exact ddX hb|try simp only [lnS]at hb))|(refine aA ?_ ?_<;>intro hb<;>try exact dsX hb))<;>(conv=>whnf)))
  exact⟨j+1,by dsimp only;omega,by dsimp only;omega,⟨by repeat' (first|exact trivial|exact rfl|refine And.intro ?_ ?_),by repeat' (first|exact trivial|exact rfl|refine And.intro ?_ ?_)⟩⟩
 ·((conv=>whnf);repeat' ((first|(intro hq;(try simp only [lnS]at hq);(try rewrite [List.length_map]))|refine sJ ?_|refine .intro _ (.intro rfl ?_)|refine exL (k:= ?_)|refine dwR ?_|((first|refine aB ?_ ?_|refine aC ?_ ?_)<;>intro hb<;>(first|exact ddX hb|try simp only [lnS]at hb))|(refine aA ?_ ?_<;>intro hb<;>try exact dsX hb))<;>(conv=>whnf)))
  rfl
end Go.Proofs.YtleihcnongldbaaGreatDoor
namespace Go.Proofs.YtleihcnongldbaaGreatDoor
open Go.Proofs
def uO (s:List UInt8):Bool:=decide (2<=s.length) && (decide (s.length<=17) && (decide (s.head?=some 63) && ((s.drop 1).headD 0 |>aAq) && (s.drop 2).all dI))
def aDg (s:List UInt8):Bool:=eZ s && !decide (s.head?=some 95)
def mE (s:List UInt8):Bool:=uO s || aDg s
def atE (a:At):Int:=
 if a.kind < 1\/3 < a.kind then 210
 else if (a.kind≠2/\a.y≠[])\/(a.kind≠3/\(a.lo≠0\/a.hi≠0))then 210
 else if a.lo < -1099511627776\/a.hi < a.lo\/1099511627776 < a.hi then 210
 else if aDg a.name=false then 20
 else if mE a.x=false then 20
 else if a.kind=2/\mE a.y=false then 20 else 0
def dJ:List At->Int
 | []=>0
 |a::r=>if atE a≠0 then atE a else dJ r
def bV (s:List UInt8):Bool:=decide (s.head?=some 63)
def dP (p:List At):List (List UInt8):=(p.flatMap λa=>[a.x,a.y]).filter bV
def rT (told:List (List UInt8)) (parts:List (List At)):Int:=
 if told.any (λt=> !uO t)then 20
 else if (List.range told.length).any (λi=>(told.take i).contains (told.getD i []) || parts.any (λp=> !(dP p).contains (told.getD i [])))then 210 else 0
def qE (q:Qy):Int:=
 if q.parts.length < 1\/4 < q.parts.length\/3 < q.told.length then 210
 else if q.parts.any (λp=>decide (p.length < 1) || decide (12 < p.length))then 210
 else if dJ q.parts.flatten≠0 then dJ q.parts.flatten
 else if rT q.told q.parts≠0 then rT q.told q.parts
 else if q.parts.any (λp=>decide (8 < (dP p).eraseDups.length))then 210 else 0
def gX (q:Qy):List UInt8×Int:=if qE q=0 then (wQy q,0)else ([],qE q)
theorem qQ {s:List UInt8}(h:uO s=true):s.length<=17:=by
 unfold uO at h
 simp only [Bool.and_eq_true,decide_eq_true_eq]at h
 exact h.2.1
theorem qZ {s:List UInt8}(h:aDg s=true):s.length<=24:=by
 unfold aDg at h
 rw [Bool.and_eq_true]at h
 exact sG h.1
theorem hU {s:List UInt8}(h:mE s=true):s.length<=24:=by
 unfold mE at h
 rcases Bool.or_eq_true_iff.1 h with h|h
 ·have:=qQ h;omega
 ·exact qZ h
theorem aNg {a:At}(h:atE a=0):aPe a:=by
 unfold atE at h
 split at h
 ·simp at h
 ·split at h
  ·simp at h
  ·split at h
   ·simp at h
   ·split at h
    ·simp at h
    ·split at h
     ·simp at h
     ·split at h
      ·simp at h
      ·rename_i h1 h2 h3 h4 h5 h6
       have q1:=qZ (s:=a.name) (by simpa using h4)
       have q2:=hU (s:=a.x) (by simpa using h5)
       have q3:a.y.length<=24:=by
        by_cases hk:a.kind=2
        ·refine hU ?_
         cases ht:mE a.y with
         |true=>rfl
         |false=>exact absurd ⟨hk,ht⟩ h6
        ·have:a.y=[]:=Decidable.byContradiction λhy=>h2 (Or.inl ⟨hk,hy⟩)
         rw [this];simp
       exact⟨⟨by omega,by omega⟩,by omega,by omega,by omega,⟨by omega,by omega⟩,⟨by omega,by omega⟩⟩
theorem gF: ∀(l:List At),dJ l=0↔ ∀a∈l,atE a=0
 | []=>by simp [dJ]
 |a::r=>by
  rw [dJ]
  by_cases h:atE a≠0
  ·rw [if_pos h]
   exact⟨λe=>absurd e h,λe=>absurd (e a (List.mem_cons_self ..)) h⟩
  ·rw [if_neg h,gF r]
   have h:=Decidable.not_not.1 h
   refine⟨λe b hb=> ?_,λe b hb=>e b (List.mem_cons_of_mem _ hb)⟩
   rcases List.mem_cons.1 hb with hb|hb
   ·rw [hb];exact h
   ·exact e b hb
theorem aOi {q:Qy}(h:qE q=0):aPu q:=by
 unfold qE at h
 split at h
 ·simp at h
 ·split at h
  ·simp at h
  ·split at h
   ·exact absurd h (by assumption)
   ·split at h
    ·exact absurd h (by assumption)
    ·rename_i h1 h2 h3 h4
     have h3:=(gF _).1 (Decidable.not_not.1 h3)
     have h4:=Decidable.not_not.1 h4
     have ht: ∀s∈q.told,uO s=true:=by
      unfold rT at h4
      split at h4
      ·simp at h4
      ·rename_i h5
       intro s hs
       cases hv:uO s with
       |true=>rfl
       |false=>exact absurd (List.any_eq_true.2 ⟨s,hs,by rw [hv];rfl⟩) h5
     have hp: ∀p∈q.parts,p.length<=12:=by
      intro p hp
      by_cases h5:p.length<=12
      ·exact h5
      ·refine absurd (List.any_eq_true.2 ⟨p,hp, ?_⟩) h2
       rw [Bool.or_eq_true,decide_eq_true_eq,decide_eq_true_eq]
       omega
     refine⟨⟨by omega,λs hs=> ?_⟩,by omega,λp hp'=>⟨?_,λa ha=> ?_⟩⟩
     ·have:=qQ (ht s hs);omega
     ·have:=hp p hp';omega
     ·exact aNg (h3 a (List.mem_flatten.2 ⟨p,hp',ha⟩))
theorem aJ2 {q:Qy}{d:List UInt8}(h:gX q=(d,0)) (e:List UInt8):rQy (d++e)=some (q,e):=by
 obtain⟨h1,rfl⟩:=mQ h
 exact aKp (aOi h1) e
end Go.Proofs.YtleihcnongldbaaGreatDoor
namespace Go.Proofs.YtleihcnongldbaaGreatDoor
open Go.Proofs
def tX (more:List UInt8) (cut:Int) (b:List UInt8):List UInt8:=
 if 0 < more.length then b++more else if b.length=0 then []else b.take (uN cut % b.length)
theorem xY {α:Type}{Q:α->Prop}{rd:Rd α}{wr:α->List UInt8×Int}{zero:α}{bad:Int}{b more:List UInt8}{cut:Int}{x:α}(hq: ∀b y c,rd b=some (y,c)->Q y) (enc: ∀y d,Q y->wr y=(d,0)-> ∀e,rd (d++e)=some (y,e)) (hx:Q x) (h:wr x=(b,0)) (hb:b≠[]):cZ rd wr zero bad (tX more cut b)=(zero,bad):=by
 unfold tX
 have hl:¬ b.length=0:= λe=>hb (List.length_eq_zero_iff.1 e)
 by_cases hm:0 < more.length
 ·rw [if_pos hm]
  exact aBx (enc x b hx h more) (λe=>by rw [e]at hm;simp at hm)
 ·rw [if_neg hm,if_neg hl]
  have hlt:uN cut % b.length < b.length:=Nat.mod_lt _ (by omega)
  refine aIf (c:=b.drop (uN cut % b.length)) hq enc hx (by rw [List.take_append_drop];exact h) λe=> ?_
  have:=congrArg List.length e
  rw [List.length_drop]at this
  simp at this
  omega
theorem xX (more:List UInt8) (cut:Int) (b:List UInt8):(tX more cut b).length<=b.length+more.length:=by
 unfold tX
 split
 ·rw [List.length_append];omega
 ·split
  ·simp
  ·rw [List.length_take];omega
theorem aGk {l:List Ax}(h:l.length<=128):(fF l).1.length<=900004:=by
 unfold fF
 split
 ·rename_i e
  have h1:=nK (aB3 e).1
  have h2:l.length * 7000<=128 * 7000:=Nat.mul_le_mul_right _ h
  show (wAs l).length<=_
  omega
 ·simp
theorem rP (s:List UInt8):(dO s).length=4+s.length:=by unfold dO;rw [List.length_append,aT]
theorem rR (z:Int):(gN z).length=8:=aT ..
theorem vZ (d:Dig):(mX d).length=32:=d.2
theorem hJ {α:Type}{w:α->List UInt8}{k n:Nat}{l:List α}(h: ∀x∈l,(w x).length<=k) (hn:l.length<=n):(bO w l).length<=4+n * k:=by
 have h1:=eX h
 have h2:l.length * k<=n * k:=Nat.mul_le_mul_right _ hn
 unfold bO
 rw [List.length_append,aT]
 omega
theorem aGj (c:Cm):(fI c).1.length<=70000:=by
 unfold fI
 split
 ·rename_i e
  have hp:c.parents.length<=2/\c.message.length<=65536:=by
   unfold cmE at e
   split at e
   ·simp at e
   ·split at e
    ·split at e
     ·simp at e
     ·exact⟨by omega,by omega⟩
    ·simp at e
  have h1:=hJ (w:=gN) (k:=8) (l:=c.parents) (λx _=>Nat.le_of_eq (rR x)) hp.1
  show (wCm c).length<=_
  unfold wCm
  simp only [List.length_append,rR,vZ,rP]
  omega
 ·simp
theorem aK6 {a:At}(h:atE a=0):(wAt a).length<=101:=by
 have hn:a.name.length<=24/\a.x.length<=24/\a.y.length<=24:=by
  unfold atE at h
  split at h
  ·simp at h
  ·split at h
   ·simp at h
   ·split at h
    ·simp at h
    ·split at h
     ·simp at h
     ·split at h
      ·simp at h
      ·split at h
       ·simp at h
       ·rename_i h1 h2 h3 h4 h5 h6
        have q1:=qZ (s:=a.name) (by simpa using h4)
        have q2:=hU (s:=a.x) (by simpa using h5)
        refine⟨q1,q2, ?_⟩
        by_cases hk:a.kind=2
        ·refine hU ?_
         cases ht:mE a.y with
         |true=>rfl
         |false=>exact absurd ⟨hk,ht⟩ h6
        ·have:a.y=[]:=Decidable.byContradiction λhy=>h2 (Or.inl ⟨hk,hy⟩)
         rw [this];simp
 unfold wAt vY
 simp only [List.length_append,rR,rP,aT]
 omega
theorem aMm {q:Qy}(h:qE q=0):(q.told.length<=3/\ ∀s∈q.told,s.length<=17)/\q.parts.length<=4/\ ∀p∈q.parts,(1<=p.length/\p.length<=12)/\ ∀a∈p,atE a=0:=by
 unfold qE at h
 split at h
 ·simp at h
 ·split at h
  ·simp at h
  ·split at h
   ·exact absurd h (by assumption)
   ·split at h
    ·exact absurd h (by assumption)
    ·rename_i h1 h2 h3 h4
     have h3:=(gF _).1 (Decidable.not_not.1 h3)
     have h4:=Decidable.not_not.1 h4
     have ht: ∀s∈q.told,uO s=true:=by
      unfold rT at h4
      split at h4
      ·simp at h4
      ·rename_i h5
       intro s hs
       cases hv:uO s with
       |true=>rfl
       |false=>exact absurd (List.any_eq_true.2 ⟨s,hs,by rw [hv];rfl⟩) h5
     refine⟨⟨by omega,λs hs=>qQ (ht s hs)⟩,by omega,λp hp=>⟨?_,λa ha=>h3 a (List.mem_flatten.2 ⟨p,hp,ha⟩)⟩⟩
     refine Decidable.byContradiction λhc=> ?_
     refine absurd (List.any_eq_true.2 ⟨p,hp, ?_⟩) h2
     rw [Bool.or_eq_true,decide_eq_true_eq,decide_eq_true_eq]
     omega
theorem aK3 {q:Qy}(h:qE q=0):(wQy q).length<=10000:=by
 obtain⟨⟨h1,h2⟩,h3,h4⟩:=aMm h
 have b1:=hJ (w:=dO) (k:=21) (l:=q.told) (λs hs=>by rw [rP];have:=h2 s hs;omega) h1
 have b2 := hJ (w := bO wAt) (k := 1216) (l := q.parts) (λp hp => by
  have:=hJ (w:=wAt) (k:=101) (n:=12) (l:=p) (λa ha=>aK6 ((h4 p hp).2 a ha)) (h4 p hp).1.2
  omega) h3
 unfold wQy
 rw [List.length_append]
 omega
theorem aGh (q:Qy):(gX q).1.length<=10000:=by
 unfold gX
 split
 ·rename_i e
  exact aK3 e
 ·simp
theorem aGl (a:Al):(fG a).1.length<=950000:=by
 unfold fG
 split
 ·rename_i e
  have hp:a.name.length<=24/\(∀x∈a.axioms,cJ x=0)/\a.axioms.length<=128/\a.parts.length<=256/\a.path.length<=256:=by
   unfold alE at e
   split at e
   ·simp at e
   ·split at e
    ·exact absurd e (by assumption)
    ·rename_i h1
     split at e
     ·simp at e
     ·exact⟨by omega,(dN _).1 (Decidable.not_not.1 h1),by omega,by omega,by omega⟩
  obtain⟨h1,h2,h3,h4,h5⟩:=hp
  have b1:=nK h2
  have b2:a.axioms.length * 7000<=128 * 7000:=Nat.mul_le_mul_right _ h3
  have b3:=hJ (w:=mX) (k:=32) (l:=a.parts) (λd _=>Nat.le_of_eq (vZ d)) h4
  have b4:=hJ (w:=mX) (k:=32) (l:=a.path) (λd _=>Nat.le_of_eq (vZ d)) h5
  show (wAl a).length<=_
  unfold wAl
  simp only [List.length_append,rR,vZ,rP]
  omega
 ·simp
theorem aBk {l:List UInt8}(h:4<=l.length):l≠[]:= λe=>by rw [e]at h;simp at h
theorem aJz {l:List Ax}{b:List UInt8}(h:fF l=(b,0)):b≠[]:=by
 obtain⟨_,rfl⟩:=mQ h
 exact aBk (yN wA l)
theorem aJy {c:Cm}{b:List UInt8}(h:fI c=(b,0)):b≠[]:=by
 obtain⟨_,rfl⟩:=mQ h
 refine aBk ?_
 unfold wCm
 simp only [List.length_append,rR]
 omega
theorem aJx {q:Qy}{b:List UInt8}(h:gX q=(b,0)):b≠[]:=by
 obtain⟨_,rfl⟩:=mQ h
 refine aBk ?_
 have:=yN dO q.told
 unfold wQy
 rw [List.length_append]
 omega
theorem aK0 {a:Al}{b:List UInt8}(h:fG a=(b,0)):b≠[]:=by
 obtain⟨_,rfl⟩:=mQ h
 refine aBk ?_
 unfold wAl
 simp only [List.length_append,rP]
 omega
end Go.Proofs.YtleihcnongldbaaGreatDoor
