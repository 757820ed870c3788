/-
  The library's stable sort at rows that may be written: insertion, swaps, rotation.
  Conditions: none.
-/
import Derived.WalkKit
import Derived.Test.YtbobcfjlbcgchaaGreatDoorWBp
import Derived.Test.YtbobcfjlbcgchaaGreatDoorWBq
import Derived.Test.YtbobcfjlbcgchaaGreatDoorWSng
import Derived.Test.YtbobcfjlbcgchaaGreatDoorWSna
set_option linter.unnecessarySimpa false
set_option linter.unusedSectionVars false
set_option linter.unusedSimpArgs false
set_option linter.unusedVariables false
namespace Go.Proofs.YtbobcfjlbcgchaaGreatDoor
section
section
variable {α:Type}
structure OrdC (cf:α->α->Int):Prop where
 asym: ∀x y,cf x y < 0->¬ cf y x < 0
 tr: ∀x y z,¬ cf y x < 0->¬ cf z y < 0->¬ cf z x < 0
def Srt (cf:α->α->Int) (l:List α):Prop:=l.Pairwise λx y=>¬ cf y x < 0
theorem OrdC.refl {cf:α->α->Int}(h:OrdC cf) (x:α):¬ cf x x < 0:= λq=>h.asym x x q q
def Blk (cf:α->α->Int) (bs:Nat) (l:List α):Prop:= ∀k,Srt cf ((l.drop (k * bs)).take bs)
theorem Blk.first {cf:α->α->Int}{bs:Nat}{l:List α}(h:Blk cf bs l):Srt cf (l.take bs):=by
 have:=h 0
 rwa [Nat.zero_mul,List.drop_zero]at this
theorem Blk.rest {cf:α->α->Int}{bs:Nat}{l:List α}(h:Blk cf bs l):Blk cf bs (l.drop bs):=by
 intro k
 have:=h (k+1)
 rw [Nat.add_mul,Nat.one_mul,Nat.add_comm]at this
 rwa [List.drop_drop]
theorem Blk.nil {cf:α->α->Int}{bs:Nat}:Blk cf bs []:= λk=>by
 simp [Srt]
theorem Blk.all {cf:α->α->Int}{bs:Nat}{l:List α}(h:Blk cf bs l) (hl:l.length<=bs):Srt cf l:=by
 have:=h.first
 rwa [List.take_of_length_le hl]at this
end
structure Rn where
 kind:Int
 old:List UInt8
 new:List UInt8
theorem Rn.ext' {a b:Rn}(h1:a.kind=b.kind) (h2:a.old=b.old) (h3:a.new=b.new):a=b:=by
 cases a;cases b;simp_all
def rnN (s:List UInt8):Bool:=fU s && !decide (s.head?=some 95)
def rnV (r:Rn):Bool:=decide (1<=r.kind) && (decide (r.kind<=4) && (rnN r.old && (rnN r.new && !decide (r.old=r.new))))
def aYp (a b:Rn):Int:=orF [nP a.kind b.kind,hJ a.old b.old]
abbrev Ky:=Int×List UInt8
def bFm (r:Rn):Ky:=(r.kind,r.new)
def aJf (r:Rn):Ky:=(r.kind,r.old)
theorem aIx {a b:Rn}:aYp a b=0↔aJf a=aJf b:=by
 unfold aYp aJf
 simp only [lE,fL,vQ,eT,Prod.mk.injEq]
 simp [orF]
theorem LCk.ord {α:Type}{c:α->α->Int}(h:LCk c):OrdC c where
 asym:= λx y a=>by have:=h.anti x y;omega
 tr:= λx y z a b=>by
  have d:=h.t3 x y z
  have r1:=h.rng x y
  have r2:=h.rng y z
  have a1:=h.anti x y
  have a2:=h.anti y z
  have a3:=h.anti x z
  unfold aBy at d
  have:=d.1
  have:=d.2.1
  have:=d.2.2
  omega
structure Good (l:List Rn):Prop where
 val: ∀r∈l,rnV r=true
 str:l.Pairwise λa b=>aYp a b < 0
 nod:(l.map bFm).Nodup
theorem aZc {l:List Rn}(h:l.Pairwise λa b=>aYp a b < 0) {a b:Rn}(ha:a∈l) (hb:b∈l) (e:aJf a=aJf b):a=b:=by
 induction l with
 |nil=>simp at ha
 |cons x r ih=>
  have d:=List.pairwise_cons.1 h
  rcases List.mem_cons.1 ha with e1|c<;>rcases List.mem_cons.1 hb with e2|hb1
  ·rw [e1,e2]
  ·have:=d.1 b hb1;rw [<-e1,aIx.2 e]at this;omega
  ·have:=d.1 a c;rw [<-e2,aIx.2 e.symm]at this;omega
  ·exact ih d.2 c hb1
def qA (l:List Rn) (k:Int) (s:List UInt8):List UInt8:=
 match l.find? (λr=>decide (r.kind=k) && decide (r.old=s))with
 |some r=>r.new
 |none=>s
theorem aHs {l:List Rn}(h:l.Pairwise λa b=>aYp a b < 0) {r:Rn}(hr:r∈l):qA l r.kind r.old=r.new:=by
 unfold qA
 split
 ·rename_i q c
  have e:=List.mem_of_find?_eq_some c
  have d:=List.find?_some c
  simp only [Bool.and_eq_true,decide_eq_true_eq]at d
  rw [aZc h e hr (by unfold aJf;rw [d.1,d.2])]
 ·rename_i c
  have:=List.find?_eq_none.1 c r hr
  simp at this
theorem aDk {l:List Rn}{k:Int}{s:List UInt8}(h: ∀r∈l,aJf r≠(k,s)):qA l k s=s:=by
 unfold qA
 split
 ·rename_i q b
  have c:=List.mem_of_find?_eq_some b
  have a:=List.find?_some b
  simp only [Bool.and_eq_true,decide_eq_true_eq]at a
  exact absurd (by unfold aJf;rw [a.1,a.2]) (h q c)
 ·rfl
theorem aAk {l:List Rn}(h:l.Pairwise λa b=>aYp a b < 0) (k:Int) (s:List UInt8):(∃r∈l,aJf r=(k,s)/\qA l k s=r.new)\/((∀r∈l,aJf r≠(k,s))/\qA l k s=s):=by
 by_cases c: ∃r∈l,aJf r=(k,s)
 ·obtain⟨r,d,e⟩:=c
  have:=aHs h d
  have f:r.kind=k/\r.old=s:=by simpa [aJf]using e
  rw [f.1,f.2]at this
  exact .inl ⟨r,d,e,this⟩
 ·have c: ∀r∈l,aJf r≠(k,s):= λr d e=>c ⟨r,d,e⟩
  exact .inr ⟨c,aDk c⟩
structure Comp (l m x:List Rn):Prop where
 str:x.Pairwise λa b=>aYp a b < 0
 mem: ∀r,r∈x↔r.new=qA m r.kind (qA l r.kind r.old)/\r.new≠r.old
theorem Comp.name {l m x:List Rn}(h:Comp l m x) (k:Int) (s:List UInt8):qA x k s=qA m k (qA l k s):=by
 rcases aAk h.str k s with⟨r,d,e,e2⟩|⟨c,e2⟩
 ·have b:r.kind=k/\r.old=s:=by simpa [aJf]using e
  have:=((h.mem r).1 d).1
  rw [e2,this,b.1,b.2]
 ·rw [e2]
  by_cases a:qA m k (qA l k s)=s
  ·exact a.symm
  ·exact absurd rfl (c ⟨k,s,qA m k (qA l k s)⟩ ((h.mem _).2 ⟨rfl,a⟩))
def bCb (r:Rn):Rn:=⟨r.kind,r.new,r.old⟩
theorem aX9 (r:Rn):bCb (bCb r)=r:=rfl
structure Inv (l x:List Rn):Prop where
 str:x.Pairwise λa b=>aYp a b < 0
 mem: ∀r,r∈x↔bCb r∈l
theorem Inv.name {l x:List Rn}(hl:Good l) (h:Inv l x) {k:Int}{s:List UInt8}(c:(∃r∈l,aJf r=(k,s))\/ ∀r∈l,bFm r≠(k,s)):qA x k (qA l k s)=s:=by
 rcases aAk hl.str k s with⟨r,b,e,e2⟩|⟨f,e2⟩
 ·have d:r.kind=k/\r.old=s:=by simpa [aJf]using e
  have:=aHs h.str ((h.mem (bCb r)).2 (by rw [aX9];exact b))
  rw [e2,<-d.1,<-d.2]
  exact this
 ·rw [e2]
  refine aDk λr b e=> ?_
  have a:=(h.mem r).1 b
  rcases c with⟨q,g,i⟩|c
  ·exact f q g i
  ·exact c (bCb r) a e
def SmA (x:Ax):Prop:=aM x.left<=1000000/\aM x.right<=1000000/\x.roles.length<=1000000
end
section
attribute [local irreducible] aK aF Tri aH YVC cG aT
set_option maxRecDepth 10000
theorem bBf {a b:Int}(h:a=b):Wk (.d (.int .i64 a)) (.d (.int .i64 b)):=by subst h;exact rfl
end
end Go.Proofs.YtbobcfjlbcgchaaGreatDoor
