/-
  The reference's readers of concepts, axioms, queries and alignments, which do not stop; plain.
  Conditions: none.
-/
import Derived.Test.YtbobcfjlbcgchaaGreatDoorWPf
import Derived.Test.YtbobcfjlbcgchaaGreatDoorWDe
import Derived.Test.YtbobcfjlbcgchaaGreatDoorWOf
import Derived.Test.YtbobcfjlbcgchaaGreatDoorWOl
import Derived.Test.YtbobcfjlbcgchaaGreatDoorWYa
import Derived.Test.YtbobcfjlbcgchaaGreatDoorWOv
import Derived.Test.YtbobcfjlbcgchaaGreatDoorWAr
import Derived.Test.YtbobcfjlbcgchaaGreatDoorWOy
import Derived.Test.YtbobcfjlbcgchaaGreatDoorWPa
import Derived.Test.YtbobcfjlbcgchaaGreatDoorWDd
import Derived.Test.YtbobcfjlbcgchaaGreatDoorWA8
set_option linter.unnecessarySimpa false
set_option linter.unusedSectionVars false
set_option linter.unusedSimpArgs false
set_option linter.unusedVariables false
set_option maxHeartbeats 32000000
namespace Go.Proofs.YtbobcfjlbcgchaaGreatDoor
section
attribute [local irreducible] aK aF Tri aH YVC cG aT vZ
open Go.RowKit
set_option maxRecDepth 10000
theorem aVy (x:Ax) (hx:(wA x).length<=100000000000000):vZ Tryz.prog 51 [.d (.agg (axR x))] 5 (wA x):=by
 obtain⟨kd,op,le,a,rs,b,c,e⟩:=x
 have y:(wA ⟨kd,op,le,a,rs,b,c,e⟩).length=1+(1+((wC le).length+((wC a).length+((cU bZ rs).length+((bZ b).length+((bZ c).length+(bZ e).length)))))):=by
  unfold wA;simp only [List.length_append,aS,fY]
 rw [y]at hx
 have t:wA ⟨kd,op,le,a,rs,b,c,e⟩=jE kd++wB op++wC le++wC a++cU bZ rs++bZ b++bZ c++bZ e:=by
  unfold wA;simp only [mR]
 rw [t]
 have o:=(aD8 le (by omega)).tri
 have n:=(aD8 a (by omega)).tri
 rw [aJ]at o n
 have p:=(aW4 rs (by omega)).tri
 have z:=(aA7 b (uM b 0 (by omega))).tri
 have A:=(aA7 c (uM c 0 (by omega))).tri
 have h3:=(aA7 e (uM e 0 (by omega))).tri
 have v:2+((wC le).map aN).length=((jE kd++wB op++wC le).map aN).length:=by rw [nH,dF (jE kd++wB op),List.length_append,aS,fY]
 have f:2+((wC le).map aN).length<=9223372036854775807:=by rw [dF];omega
 have m:(2+((wC le).map aN).length)* 1<=140737488355328:=by rw [dF];omega
 have g:(jE kd++wB op++wC le).length=2+(wC le).length:=by simp only [List.length_append,aS,fY]
 have l:=aLa g (q:=wC a) rfl (by omega)
 have h:=aLb g (q:=wC a) rfl (by omega)
 have j:((jE kd++wB op++wC le).map aN++(wC a).map aN).length+((cU bZ rs).map aN).length<=9223372036854775807:=by rw [List.length_append];simp only [dF,g];omega
 have k:(((jE kd++wB op++wC le).map aN++(wC a).map aN).length+((cU bZ rs).map aN).length)* 1<=140737488355328:=by rw [List.length_append];simp only [dF,g];omega
 have i:(jE kd++wB op++wC le++wC a++cU bZ rs).length=2+(wC le).length+(wC a).length+(cU bZ rs).length:=by simp only [List.length_append,aS,fY]
 have s:=aLa i (q:=bZ b) rfl (by omega)
 have r:=aLb i (q:=bZ b) rfl (by omega)
 have u:((jE kd++wB op++wC le++wC a++cU bZ rs).map aN++(bZ b).map aN).length+((bZ c).map aN).length<=9223372036854775807:=by rw [List.length_append];simp only [dF,i];omega
 have w:(((jE kd++wB op++wC le++wC a++cU bZ rs).map aN++(bZ b).map aN).length+((bZ c).map aN).length)* 1<=140737488355328:=by rw [List.length_append];simp only [dF,i];omega
 have f63:((jE kd++wB op++wC le++wC a++cU bZ rs++bZ b++bZ c).map aN).length+((bZ e).map aN).length<=9223372036854775807:=by simp only [dF,List.length_append,aS,fY];omega
 have f48:(((jE kd++wB op++wC le++wC a++cU bZ rs++bZ b++bZ c).map aN).length+((bZ e).map aN).length)* 1<=140737488355328:=by simp only [dF,List.length_append,aS,fY];omega
 refine mX ?_
 refine aG false [1] hty Tryz.func51 rfl (kp [0,1,2,3,4,6]) 100 (by simp [Tryz.f51]) ?_
 cases op
 ·skip
  refine qX ?_;intros
  refine aK.mid [(1, .ea 16 [[.int .i64 kd, .bool false, .int .i64 le.kind, .str le.name, .int .i64 le.lo, .int .i64 le.hi, .sl 5 (le.parts.map cnR), .int .i64 a.kind, .str a.name, .int .i64 a.lo, .int .i64 a.hi, .sl 5 (a.parts.map cnR), .sl 1 (rs.map bJ), .str b, .str c, .str e]] 0 0),(4, .osl 111 1 ([[.int .u8 (IntKind.u8.wrap kd)],[.int .u8 0]]++(wC le).map aN))] [(111, .own 5 1 (2+((wC le).map aN).length))] ?_ ?_
  ·(refine dN (id:=4) hty (.first 0 (.first 1 (.first 2 (.first 3 (.first 5 (.first 6 (.alt 4 (.alt 7 (.alt 8 (.first 9 .done) .stop) .stop) (.alt 7 (.alt 4 (.alt 8 (.first 9 .done) .stop) .stop) .stop)))))))) (by kernel_rfl) (by kernel_rfl) ?_)
   (repeat' first|(refine qW ?_;intros)|((conv=>whnf);first|(refine And.intro f ?_)|(refine And.intro m ?_)|refine qT o ?_|exact trivial|(refine And.intro ?_ ?_)|refine dwR ?_|((first|refine aA ?_ ?_|refine aC ?_ ?_)<;>intro hb<;>(first|exact ddX hb|try simp only [lnS]at hb))|(refine aB ?_ ?_<;>intro hb<;>try exact dsX hb)))
   all_goals exact⟨qB,qB⟩
  rw [show [[D.int .u8 (IntKind.u8.wrap kd)],[.int .u8 0]]=(jE kd++wB false).map aN by rw [aXs];rfl,<-dM,v]
  refine qX ?_;intros
  refine aK.mid [(1, .ea 16 [[.int .i64 kd, .bool false, .int .i64 le.kind, .str le.name, .int .i64 le.lo, .int .i64 le.hi, .sl 5 (le.parts.map cnR), .int .i64 a.kind, .str a.name, .int .i64 a.lo, .int .i64 a.hi, .sl 5 (a.parts.map cnR), .sl 1 (rs.map bJ), .str b, .str c, .str e]] 0 0),(4, .osl 111 1 ((jE kd++wB false++wC le).map aN++(wC a).map aN++(cU bZ rs).map aN))] [(111, .own 5 1 (((jE kd++wB false++wC le).map aN++(wC a).map aN).length+((cU bZ rs).map aN).length))] ?_ ?_
  ·(refine dN (id:=5) hty (.first 0 (.first 1 (.first 2 (.first 5 (.first 6 (.alt 3 (.alt 4 (.alt 7 (.alt 8 (.first 9 .done) .stop) .stop) .stop) .stop)))))) (by kernel_rfl) (by kernel_rfl) ?_)
   (repeat' first|(refine qW ?_;intros)|((conv=>whnf);first|(refine And.intro l ?_)|(refine And.intro h ?_)|(refine And.intro j ?_)|(refine And.intro k ?_)|refine qT n ?_|refine qT p ?_|exact trivial|(refine And.intro ?_ ?_)|refine dwR ?_|((first|refine aA ?_ ?_|refine aC ?_ ?_)<;>intro hb<;>(first|exact ddX hb|try simp only [lnS]at hb))|(refine aB ?_ ?_<;>intro hb<;>try exact dsX hb)))
   all_goals exact⟨qB,qB⟩
  rw [<-dM,<-dM,<-nH]
  clear f m l h j k
  generalize jE kd++wB false++wC le++wC a++cU bZ rs=q at *
  refine qX ?_;intros
  refine aK.mid [(1, .ea 16 [[.int .i64 kd, .bool false, .int .i64 le.kind, .str le.name, .int .i64 le.lo, .int .i64 le.hi, .sl 5 (le.parts.map cnR), .int .i64 a.kind, .str a.name, .int .i64 a.lo, .int .i64 a.hi, .sl 5 (a.parts.map cnR), .sl 1 (rs.map bJ), .str b, .str c, .str e]] 0 0),(4, .osl 111 1 (q.map aN++(bZ b).map aN++(bZ c).map aN))] [(111, .own 5 1 ((q.map aN++(bZ b).map aN).length+((bZ c).map aN).length))] ?_ ?_
  ·(refine dN (id:=6) hty (.first 0 (.first 1 (.first 2 (.first 5 (.first 6 (.alt 3 (.alt 4 (.alt 7 (.alt 8 (.first 9 .done) .stop) .stop) .stop) .stop)))))) (by kernel_rfl) (by kernel_rfl) ?_)
   (repeat' first|(refine qW ?_;intros)|((conv=>whnf);first|(refine And.intro s ?_)|(refine And.intro r ?_)|(refine And.intro u ?_)|(refine And.intro w ?_)|refine qT z ?_|refine qT A ?_|exact trivial|(refine And.intro ?_ ?_)|refine dwR ?_|((first|refine aA ?_ ?_|refine aC ?_ ?_)<;>intro hb<;>(first|exact ddX hb|try simp only [lnS]at hb))|(refine aB ?_ ?_<;>intro hb<;>try exact dsX hb)))
   all_goals exact⟨qB,qB⟩
  rw [<-dM,<-dM,<-nH]
  refine qZ ?_;intros
  refine .inl ⟨111,_, ?_,rfl, ?_⟩
  ·rw [<-dM];rfl
  ·rw [List.length_append,dF,dF]
 ·skip
  refine qX ?_;intros
  refine aK.mid [(1, .ea 16 [[.int .i64 kd, .bool true, .int .i64 le.kind, .str le.name, .int .i64 le.lo, .int .i64 le.hi, .sl 5 (le.parts.map cnR), .int .i64 a.kind, .str a.name, .int .i64 a.lo, .int .i64 a.hi, .sl 5 (a.parts.map cnR), .sl 1 (rs.map bJ), .str b, .str c, .str e]] 0 0),(4, .osl 111 1 ([[.int .u8 (IntKind.u8.wrap kd)],[.int .u8 1]]++(wC le).map aN))] [(111, .own 5 1 (2+((wC le).map aN).length))] ?_ ?_
  ·(refine dN (id:=4) hty (.first 0 (.first 1 (.first 2 (.first 3 (.first 5 (.first 6 (.alt 4 (.alt 7 (.alt 8 (.first 9 .done) .stop) .stop) (.alt 7 (.alt 4 (.alt 8 (.first 9 .done) .stop) .stop) .stop)))))))) (by kernel_rfl) (by kernel_rfl) ?_)
   (repeat' first|(refine qW ?_;intros)|((conv=>whnf);first|(refine And.intro f ?_)|(refine And.intro m ?_)|refine qT o ?_|exact trivial|(refine And.intro ?_ ?_)|refine dwR ?_|((first|refine aA ?_ ?_|refine aC ?_ ?_)<;>intro hb<;>(first|exact ddX hb|try simp only [lnS]at hb))|(refine aB ?_ ?_<;>intro hb<;>try exact dsX hb)))
   all_goals exact⟨qB,qB⟩
  rw [show [[D.int .u8 (IntKind.u8.wrap kd)],[.int .u8 1]]=(jE kd++wB true).map aN by rw [aXs];rfl,<-dM,v]
  refine qX ?_;intros
  refine aK.mid [(1, .ea 16 [[.int .i64 kd, .bool true, .int .i64 le.kind, .str le.name, .int .i64 le.lo, .int .i64 le.hi, .sl 5 (le.parts.map cnR), .int .i64 a.kind, .str a.name, .int .i64 a.lo, .int .i64 a.hi, .sl 5 (a.parts.map cnR), .sl 1 (rs.map bJ), .str b, .str c, .str e]] 0 0),(4, .osl 111 1 ((jE kd++wB true++wC le).map aN++(wC a).map aN++(cU bZ rs).map aN))] [(111, .own 5 1 (((jE kd++wB true++wC le).map aN++(wC a).map aN).length+((cU bZ rs).map aN).length))] ?_ ?_
  ·(refine dN (id:=5) hty (.first 0 (.first 1 (.first 2 (.first 5 (.first 6 (.alt 3 (.alt 4 (.alt 7 (.alt 8 (.first 9 .done) .stop) .stop) .stop) .stop)))))) (by kernel_rfl) (by kernel_rfl) ?_)
   (repeat' first|(refine qW ?_;intros)|((conv=>whnf);first|(refine And.intro l ?_)|(refine And.intro h ?_)|(refine And.intro j ?_)|(refine And.intro k ?_)|refine qT n ?_|refine qT p ?_|exact trivial|(refine And.intro ?_ ?_)|refine dwR ?_|((first|refine aA ?_ ?_|refine aC ?_ ?_)<;>intro hb<;>(first|exact ddX hb|try simp only [lnS]at hb))|(refine aB ?_ ?_<;>intro hb<;>try exact dsX hb)))
   all_goals exact⟨qB,qB⟩
  rw [<-dM,<-dM,<-nH]
  clear f m l h j k
  generalize jE kd++wB true++wC le++wC a++cU bZ rs=q at *
  refine qX ?_;intros
  refine aK.mid [(1, .ea 16 [[.int .i64 kd, .bool true, .int .i64 le.kind, .str le.name, .int .i64 le.lo, .int .i64 le.hi, .sl 5 (le.parts.map cnR), .int .i64 a.kind, .str a.name, .int .i64 a.lo, .int .i64 a.hi, .sl 5 (a.parts.map cnR), .sl 1 (rs.map bJ), .str b, .str c, .str e]] 0 0),(4, .osl 111 1 (q.map aN++(bZ b).map aN++(bZ c).map aN))] [(111, .own 5 1 ((q.map aN++(bZ b).map aN).length+((bZ c).map aN).length))] ?_ ?_
  ·(refine dN (id:=6) hty (.first 0 (.first 1 (.first 2 (.first 5 (.first 6 (.alt 3 (.alt 4 (.alt 7 (.alt 8 (.first 9 .done) .stop) .stop) .stop) .stop)))))) (by kernel_rfl) (by kernel_rfl) ?_)
   (repeat' first|(refine qW ?_;intros)|((conv=>whnf);first|(refine And.intro s ?_)|(refine And.intro r ?_)|(refine And.intro u ?_)|(refine And.intro w ?_)|refine qT z ?_|refine qT A ?_|exact trivial|(refine And.intro ?_ ?_)|refine dwR ?_|((first|refine aA ?_ ?_|refine aC ?_ ?_)<;>intro hb<;>(first|exact ddX hb|try simp only [lnS]at hb))|(refine aB ?_ ?_<;>intro hb<;>try exact dsX hb)))
   all_goals exact⟨qB,qB⟩
  rw [<-dM,<-dM,<-nH]
  refine qZ ?_;intros
  refine .inl ⟨111,_, ?_,rfl, ?_⟩
  ·rw [<-dM];rfl
  ·rw [List.length_append,dF,dF]
theorem aH7 (l:List Ax) (hl:(cU wA l).length<=100000000000000):vZ Tryz.prog 23 [.d (.sl 16 (l.map axR))] 5 (cU wA l):=by
 rw [fJ]at hl
 have hn:=iT (w:=wA) (Nat.le_refl 1) aQt l
 have b:(l.map axR).length=l.length:=List.length_map ..
 have h:=aFg l.length (by omega)
 refine mX ?_
 refine aG false [] hty Tryz.func23 rfl (kp [0,2,3,4,12]) 100 (by simp [Tryz.f23]) ?_
 refine qX ?_;intros
 rw [b]
 refine vT h 200 (bQ (by with_unfolding_all exact rfl)) ?_
 refine qX ?_;intros
 refine aD hty (λj:Nat=>([(0, .d (.sl 16 (l.map axR))),(3, .osl 200 1 ((beN 4 l.length++((l.take j).map wA).flatten).map aN)),(4, .d (.int .i64 j))],[(200, .own 5 1 ((beN 4 l.length++((l.take j).map wA).flatten).map aN).length)])) (λj=>j<=l.length) (λj=>l.length - j) 0 (by omega) ⟨by dsimp only;rw [List.take_zero,List.map_nil,List.flatten_nil,List.append_nil];exact qB,by dsimp only;rw [List.take_zero,List.map_nil,List.flatten_nil,List.append_nil];exact⟨rfl,trivial⟩⟩ ?_
 intro j hj
 refine qX ?_;intros
 rw [b]
 refine aA (λg=> ?_) (λg=> ?_)
 ·have a:j < l.length:=by omega
  have hrow:(l.map axR)[((j:Nat):Int).toNat]? =some (axR l[j]):=bA a
  have e:beN 4 l.length++((l.take (j+1)).map wA).flatten=beN 4 l.length++((l.take j).map wA).flatten++wA l[j]:=by rw [fF (w:=wA) a,List.append_assoc]
  have f:=qH (w:=wA) l (j+1)
  rw [fF (w:=wA) a,List.length_append]at f
  have c:(beN 4 l.length++((l.take j).map wA).flatten).length=4+(((l.take j).map wA).flatten).length:=by rw [List.length_append,aW]
  have hb63:=aLa c (q:=wA l[j]) rfl (by omega)
  have hb48:=aLb c (q:=wA l[j]) rfl (by omega)
  have hx:=(aVy l[j] (by omega)).tri
  generalize beN 4 l.length++((l.take j).map wA).flatten=q at *
  refine qZ ?_;intros
  refine⟨j+1,qO,qO, ?_⟩
  dsimp only
  rw [e,dM,List.length_append]
  exact⟨qB,qB⟩
 ·have a:j=l.length:=by omega
  subst a
  rw [List.take_length]
  refine qX ?_;intros
  exact .inl ⟨200,_,rfl,rfl,dF _⟩
theorem aFb (l:List Ax) (m:Nat) (hs: ∀x∈l,aM x.left<=1000000/\aM x.right<=1000000) (hm:m<=1000000):Tri Tryz.prog 22 [.d (.sl 16 (l.map axR)), .d (.int .i64 m)] [] (λr=>r= .d (.int .i64 (if cR l≠0 then cR l else if m < l.length then 2 else 0))):=by
 refine Tri.len 0 rfl λf=> ?_
 have e:(l.map axR).length=l.length:=List.length_map ..
 rw [e]at f
 refine qG [] hty Tryz.func22 [0,1,4,5,6,10,19,24] ?_
 refine qX ?_;intros
 refine aD hty (λj:Nat=>([(0, .d (.sl 16 (l.map axR))),(1, .d (.int .i64 m)),(5, .d (.int .i64 j))],[])) (λj=>j<=l.length/\ ∀x∈l.take j,aZ x=0) (λj=>l.length - j) 0 ⟨by omega,by simp⟩ ⟨qB,qB⟩ ?_
 rintro j ⟨hj,hz⟩
 refine qX ?_;intros
 rw [e]
 refine aA (λk=> ?_) (λk=> ?_)
 ·have a:j < l.length:=by omega
  have hrow:(l.map axR)[((j:Nat):Int).toNat]? =some (axR l[j]):=bA a
  have g:=hs l[j] (List.getElem_mem a)
  have hc:=jA l[j] g.1 g.2
  have b:=mL a hz
  have h:aZ l[j]=0-> ∀x∈l.take (j+1),aZ x=0:=by
   intro i x hx
   rw [List.take_succ_eq_append_getElem a]at hx
   rcases List.mem_append.1 hx with hx|hx
   ·exact hz x hx
   ·simp at hx;subst hx;exact i
  generalize l[j]=x at *
  refine qZ ?_;intros
  refine aC (λc=> ?_) (λc=> ?_)
  ·rw [if_pos (by rw [b c];exact c),b c]
   refine qX ?_;intros
   rfl
  ·have c:aZ x=0:=by simpa using c
   rw [c]
   refine qX ?_;intros
   exact⟨j+1,⟨by omega,h c⟩,qO,⟨qB,qB⟩⟩
 ·have a:j=l.length:=by omega
  subst a
  rw [List.take_length]at hz
  rw [if_neg (by rw [(fM l).2 hz];simp)]
  refine qX ?_;intros
  rw [e]
  refine aA (λn=> ?_) (λn=> ?_)
  ·rw [if_pos (by omega)]
   refine qX ?_;intros
   rfl
  ·rw [if_neg (by omega)]
   refine qX ?_;intros
   rfl
end
section
abbrev RS:=List UInt8×Bool
abbrev Tr (α:Type):=RS->α×RS
section
variable {α β:Type}
def bE4 (a:α):Tr α:= λs=>(a,s)
def wE (t:Tr α) (f:α->β):Tr β:= λs=>(f (t s).1,(t s).2)
def cJ (t:Tr α) (f:α->Tr β):Tr β:= λs=>f (t s).1 (t s).2
def jT (n:Nat):Tr (List UInt8):= λs=>if s.2=true\/s.1.length < n then ([],(s.1,true))else (s.1.take n,(s.1.drop n,false))
def jO (k:Nat):Tr Nat:=wE (jT k) deN
def dS (least:Nat):Tr Nat:= λs=>if (jO 4 s).2.2=true\/(jO 4 s).2.1.length / least < (jO 4 s).1 then (0,((jO 4 s).2.1,true))else jO 4 s
def sF (t:Tr α):Nat->Tr (List α)
 | 0=>bE4 []
 |n+1=> λs=>if s.2=true then ([],s)else ((t s).1::(sF t n (t s).2).1,(sF t n (t s).2).2)
theorem oH (t:Tr α) (n:Nat) (s:RS):sF t (n+1) s=if s.2=true then ([],s)else ((t s).1::(sF t n (t s).2).1,(sF t n (t s).2).2):=rfl
def kY (least:Nat) (t:Tr α):Tr (List α):=cJ (dS least) (sF t)
structure Sim (t:Tr α) (r:Rd α):Prop where
 bad: ∀b,(t (b,true)).2.2=true
 ok: ∀b x c,r b=some (x,c)->t (b,false)=(x,(c,false))
 no: ∀b,r b=none->(t (b,false)).2.2=true
theorem Sim.map {t:Tr α}{r:Rd α}(h:Sim t r) (f:α->β):Sim (wE t f) (uR r f):=by
 refine⟨λb=>h.bad b,λb x c e=> ?_,λb e=> ?_⟩
 ·obtain⟨y,a,rfl⟩:=aM9 e
  unfold wE;rw [h.ok b y c a]
 ·refine h.no b ?_
  unfold uR at e
  exact Option.map_eq_none_iff.1 e
theorem Sim.bind {t:Tr α}{r:Rd α}{f:α->Tr β}{g:α->Rd β}(h:Sim t r) (k: ∀x,Sim (f x) (g x)):Sim (cJ t f) (cX r g):=by
 have j: ∀x (s:RS),s.2=true->(f x s).2.2=true:=by
  rintro x ⟨b,d⟩ i
  have i:d=true:=i
  subst i
  exact(k x).bad b
 refine⟨λb=>j _ _ (h.bad b),λb x c e=> ?_,λb e=> ?_⟩
 ·obtain⟨y,d,a,l⟩:=aSl e
  unfold cJ;rw [h.ok b y d a]
  exact(k y).ok d x c l
 ·cases a:r b with
  |none=>exact j _ _ (h.no b a)
  |some p=>
   obtain⟨y,d⟩:=p
   rw [aQ a]at e
   unfold cJ;rw [h.ok b y d a]
   exact(k y).no d e
theorem aLw (n:Nat):Sim (jT n) (tE n):=by
 refine⟨λb=> ?_,λb x c e=> ?_,λb e=> ?_⟩
 ·unfold jT;rw [if_pos (.inl rfl)]
 ·unfold tE at e
  split at e
  ·injection e with e;injection e with e1 e2
   unfold jT;rw [if_neg (by simp;omega),e1,e2]
  ·cases e
 ·unfold tE at e
  split at e
  ·cases e
  ·unfold jT;rw [if_pos (.inr (by simp;omega))]
theorem aEz (k:Nat):Sim (jO k) (aHc k):=(aLw k).map deN
theorem aVn (least:Nat):Sim (dS least) (aOn least):=by
 have h:=aEz 4
 refine⟨λb=> ?_,λb x c e=> ?_,λb e=> ?_⟩
 ·unfold dS;rw [if_pos (.inl (h.bad b))]
 ·unfold aOn at e
  obtain⟨p,a,f⟩:=Option.bind_eq_some_iff.1 e
  split at f
  ·cases f
  ·rename_i d
   injection f with f
   subst f
   unfold dS
   have d:¬ c.length / least < x:=by simpa using d
   rw [h.ok b x c a,if_neg (by simpa using d)]
 ·unfold aOn at e
  cases a:aHc 4 b with
  |none=>unfold dS;rw [if_pos (.inl (h.no b a))]
  |some p=>
   obtain⟨x,c⟩:=p
   rw [a]at e
   simp only [Option.bind_some]at e
   split at e
   ·rename_i d
    unfold dS;rw [h.ok b x c a,if_pos (.inr d)]
   ·cases e
theorem lZ (t:Tr α) (n:Nat) {s:RS}(h:s.2=true):sF t n s=([],s):=by
 cases n with
 |zero=>rfl
 |succ n=>rw [oH,if_pos h]
theorem aRr {t:Tr α}{r:Rd α}(h:Sim t r): ∀n,Sim (sF t n) (tF r n)
 | 0=>⟨λb=>rfl,λb x c e=>by injection e with e;injection e with e1 e2;subst e1 e2;rfl,λb e=>by cases e⟩
 |n+1=>by
  have a:=aRr h n
  have k:=Sim.bind h (λx=>a.map (x:: ·))
  refine⟨λb=>by rw [lZ t (n+1) rfl],λb x c e=> ?_,λb e=> ?_⟩
  ·have:=k.ok b x c e
   rw [<-this]
   rfl
  ·have:=k.no b e
   exact this
theorem zS {t:Tr α}{r:Rd α}(h:Sim t r) (least:Nat):Sim (kY least t) (aDa least r):=(aVn least).bind λn=>aRr h n
theorem uC (t:Tr α): ∀(n:Nat) (s:RS) (l:List α) (s1:RS),sF t n s=(l,s1)->l.length=n->s1.2=false->sF t (n+1) s=(l++[(t s1).1],(t s1).2)
 | 0,s,l,s1,h,_,hb=>by
  injection h with h1 h2
  subst h1 h2
  rw [oH,if_neg (by rw [hb];simp)];rfl
 |n+1,s,l,s1,h,hl,hb=>by
  rw [oH]at h
  split at h
  ·injection h with h1 h2;subst h1;simp at hl
  ·rename_i a
   injection h with h1 h2
   cases l with
   |nil=>cases h1
   |cons x l=>
    injection h1 with h1 h3
    have:=uC t n (t s).2 l s1 (by rw [<-h3,<-h2]) (by simpa using hl) hb
    rw [oH,if_neg a,this,<-h1];rfl
theorem uB (t:Tr α): ∀(k n:Nat) (s:RS) (l:List α) (s1:RS),sF t k s=(l,s1)->s1.2=true->k<=n->sF t n s=(l,s1)
 | 0,n,s,l,s1,h,hb,_=>by
  injection h with h1 h2
  subst h1 h2
  exact lZ t n hb
 |k+1,0,s,l,s1,h,hb,hk=>absurd hk (by omega)
 |k+1,n+1,s,l,s1,h,hb,hk=>by
  rw [oH]at h |-
  split at h
  ·rename_i a;rw [if_pos a];exact h
  ·rename_i a
   injection h with h1 h2
   rw [if_neg a]
   have:=uB t k n (t s).2 (sF t k (t s).2).1 s1 (by rw [<-h2]) hb (by omega)
   rw [this,<-h1]
def aCh (t:Tr α):Prop:= ∀s,(t s).2.1.length<=s.1.length
theorem uZ (n:Nat):aCh (jT n):=by
 intro s
 unfold jT
 split
 ·exact Nat.le_refl _
 ·show (s.1.drop n).length<=_
  rw [List.length_drop];omega
theorem nG {t:Tr α}(h:aCh t) (f:α->β):aCh (wE t f):=h
theorem eD {t:Tr α}{f:α->Tr β}(h:aCh t) (k: ∀x,aCh (f x)):aCh (cJ t f):= λs=>Nat.le_trans (k _ _) (h s)
theorem kK (least:Nat):aCh (dS least):=by
 intro s
 have h:aCh (jO 4):=nG (uZ 4) deN
 unfold dS
 split
 ·exact h s
 ·exact h s
theorem aFu {t:Tr α}(h:aCh t): ∀n,aCh (sF t n)
 | 0=> λs=>Nat.le_refl _
 |n+1=> λs=>by
  rw [oH]
  split
  ·exact Nat.le_refl _
  ·exact Nat.le_trans (aFu h n _) (h s)
theorem aGx (n:Nat) (s:RS):(jT n s).1.length<=n:=by
 unfold jT
 split
 ·simp
 ·show (s.1.take n).length<=n
  rw [List.length_take];omega
theorem yL {least:Nat}(s:RS) (h:0 < least):(dS least s).1<=s.1.length:=by
 have hl:(jO 4 s).2.1.length<=s.1.length:=nG (uZ 4) deN s
 unfold dS
 split
 ·simp
 ·rename_i a
  have h2:¬ (jO 4 s).2.1.length / least < (jO 4 s).1:= λe=>a (.inr e)
  have h3:(jO 4 s).2.1.length / least<=(jO 4 s).2.1.length:=Nat.div_le_self _ _
  omega
end
theorem bFr {α:Type}{t:Tr α}{r:Rd α}(h:Sim t r) (wr:α->List UInt8×Int) (zero:α) (bad:Int) (b:List UInt8):
  iV r wr zero bad b=if (t (b,false)).2.2=true\/(t (b,false)).2.1≠[]\/wr (t (b,false)).1≠(b,0)then (zero,bad)else ((t (b,false)).1,0):=by
 cases h1:r b with
 |none=>
  rw [if_pos (.inl (h.no b h1))]
  unfold iV;rw [h1]
 |some p=>
  obtain⟨x,c⟩:=p
  rw [h.ok b x c h1]
  unfold iV;rw [h1]
  cases c with
  |nil=>
   by_cases a:wr x=(b,0)
   ·simp [a]
   ·simp [a]
  |cons y c=>simp
end
section
attribute [local irreducible] aK aF Tri aH YVC cG aT
open Go.RowKit
set_option maxRecDepth 10000
abbrev rfO (s:RS):HObj:= .cells 77 [.d (.sl 1 (s.1.map aN)), .d (.bool s.2)]
abbrev bFv:Pin:=⟨[3],λ_ _=>False,[]⟩
def RfT {α:Type}(f:FuncId) (ex:List SV) (t:Tr α) (e:α->SV):Prop:= ∀s:RS,s.1.length<=1000000->
 aF Tryz.prog bFv [] [(3,rfO s)] f (.ptr 3 0::ex) (λr h=>r=e (t s).1/\aP h 3=some (rfO (t s).2))
theorem RfT.call {α:Type}{f:FuncId}{ex:List SV}{t:Tr α}{e:α->SV}(h:RfT f ex t e) (hx:SV.idsL ex=[]) (he: ∀x,(e x).ids=[]) {pin:Pin}{fr:Fr}{hp:Hp}{i:Nat}{K:SV->Hp->Prop}(s:RS) (hb:s.1.length<=1000000) (hg:aP hp i=some (rfO s))
  (hok:iY hp i (rfO (t s).2) (K (e (t s).1))):aF Tryz.prog pin fr hp f (.ptr i 0::ex) K:=by
 have a: ∀b,(rfO b).sim:= λb s a=>by
  simp at a
  rcases a with rfl|rfl<;>exact rfl
 refine tQ (λ_=>i) [3] [(3,rfO s)] (h s hb) (aYt hg rfl (a s)) (λk l=>l) (by rw [List.map_cons,aF9 hx];rfl) ?_ ?_ ?_
 ·intro s a
  rcases List.mem_cons.1 a with rfl|a
  ·trivial
  ·exact aF0 hx s a
 ·rintro r d ⟨rfl,g⟩
  refine⟨aRs (he _), ?_,_,bA8 hg g (a _) (λh=>h) rfl rfl, ?_⟩
  ·intro j c
   rw [he]at c
   cases c
  ·rw [aS9 (he _)]
   rw [eJ]at hok
   exact hok
 ·exact λd m=>m.elim
theorem aLn {n:Nat}{s:RS}(h:s.2=true\/s.1.length < n):jT n s=([],(s.1,true)):=if_pos h
theorem aVg {n:Nat}{b:List UInt8}(h:¬ b.length < n):jT n (b,false)=(b.take n,(b.drop n,false)):=if_neg (by simp;omega)
theorem bCi (n:Nat) (hn:n < 18446744073709551616):RfT 159 [.d (.int .u64 n)] (jT n) (λl=> .d (.sl 1 (l.map aN))):=by
 rintro⟨b,d⟩ hb
 have a:=dF b
 have c:IntKind.u64.wrap ((b.length:Nat):Int)=((b.length:Nat):Int):=gK _ (by dsimp only at hb;omega)
 dsimp only at hb
 refine aF.says ?_
 refine aG false [] hty Tryz.func159 rfl (kp [0,1,4,5,19]) 100 (by simp [Tryz.f159]) ?_
 cases d
 ·by_cases h:b.length < n
  ·rw [aLn (.inr h)]
   refine qX ?_;intros
   rw [a,c]
   (repeat' first|(refine qW ?_;intros)|((conv=>whnf);first|refine dwR ?_|((first|refine aA ?_ ?_|refine aC ?_ ?_)<;>intro hb<;>(first|exact ddX hb|try simp only [lnS]at hb))|(refine aB ?_ ?_<;>intro hb<;>try exact dsX hb)))
   exact⟨_,fR.nil,rfl,rfl⟩
  ·rw [aVg h]
   have e1:List.drop 0 (List.take ((n:Nat):Int).toNat (b.map aN))=(b.take n).map aN:=by rw [Int.toNat_natCast,List.drop_zero,List.map_take]
   have e2:List.drop ((n:Nat):Int).toNat (List.take (b.map aN).length (b.map aN))=(b.drop n).map aN:=by rw [Int.toNat_natCast,List.take_length,List.map_drop]
   refine qX ?_;intros
   rw [a,c]
   (repeat' first|(refine qW ?_;intros)|((conv=>whnf);first|refine dwR ?_|((first|refine aA ?_ ?_|refine aC ?_ ?_)<;>intro hb<;>(first|exact ddX hb|try simp only [lnS]at hb))|(refine aB ?_ ?_<;>intro hb<;>try exact dsX hb)))
   refine⟨_, .refl _, ?_, ?_⟩
   ·show SV.d (D.sl 1 (List.drop 0 (List.take ((n:Nat):Int).toNat (b.map aN))))=_
    rw [e1]
   ·show some (HObj.cells 77 [.d (.sl 1 (List.drop ((n:Nat):Int).toNat (List.take (b.map aN).length (b.map aN)))), .d (.bool false)])=_
    rw [e2]
 ·rw [aLn (.inl rfl)]
  (repeat' first|(refine qW ?_;intros)|((conv=>whnf);first|refine dwR ?_|((first|refine aA ?_ ?_|refine aC ?_ ?_)<;>intro hb<;>(first|exact ddX hb|try simp only [lnS]at hb))|(refine aB ?_ ?_<;>intro hb<;>try exact dsX hb)))
  exact⟨_,fR.nil,rfl,rfl⟩
theorem bC8 {x c:Nat}(hx:x < 72057594037927936) (hc:c < 256):IntKind.u64.wrap (IntKind.u64.wrap (256 * (x:Int))+IntKind.u64.wrap (c:Int))=((256 * x+c:Nat):Int):=by
 rw [show (256 * (x:Int))=((256 * x:Nat):Int)by omega,gK _ (by omega),gK _ (by omega),<-Int.natCast_add,gK _ (by omega)]
theorem bDq (m:Nat) (hm:m<=8):RfT 103 [.d (.int .i64 m)] (jO m) (λn=> .d (.int .u64 n)):=by
 intro s hb
 have i:IntKind.u64.wrap ((m:Nat):Int)=((m:Nat):Int):=gK _ (by omega)
 have hl8:=aGx m s
 have f:jO m s=(deN (jT m s).1,(jT m s).2):=rfl
 rw [f]
 clear f
 have o:RfT 159 [.d (.int .u64 (IntKind.u64.wrap ((m:Nat):Int)))] (jT m) (λl=> .d (.sl 1 (l.map aN))):=by rw [i];exact bCi m (by omega)
 refine aG false [] hty Tryz.func103 rfl (kp [0,1,4,5,6,7,15]) 100 (by simp [Tryz.f103]) ?_
 refine qX ?_;intros
 refine RfT.call o rfl (λ_=>rfl) s hb rfl ?_
 generalize (jT m s).1=l at *
 generalize (jT m s).2=s1 at *
 have b:=dF l
 refine qX ?_;intros
 refine aD hty (λj:Nat=>([(5, .d (.sl 1 (l.map aN))),(6, .d (.int .u64 ((deN (l.take j):Nat):Int))),(7, .d (.int .i64 j))],[(3,rfO s1)])) (λj=>j<=l.length) (λj=>l.length - j) 0 (by omega) ⟨qB,qB⟩ ?_
 intro j hj
 refine qX ?_;intros
 rw [b]
 refine aA (λh=> ?_) (λh=> ?_)
 ·have a:j < l.length:=by omega
  have hrow:(l.map aN)[((j:Nat):Int).toNat]? =some (aN l[j]):=bA a
  have hx:deN (l.take j) < 72057594037927936:=by
   have h2:=xT j (l.take j) (by rw [List.length_take];omega)
   have h3:256 ^ j<=256 ^ 7:=Nat.pow_le_pow_right (by decide) (by omega)
   have h4:(256:Nat) ^ 7=72057594037927936:=by decide
   omega
  have g:(l[j]).toNat < 256:=l[j].toNat_lt
  have k:deN (l.take (j+1))=256 * deN (l.take j)+(l[j]).toNat:=by rw [List.take_succ_eq_append_getElem a,zC]
  have e:=bC8 hx g
  generalize l[j]=c at *
  generalize deN (l.take j)=x at *
  (repeat' first|(refine qW ?_;intros)|((conv=>whnf);first|refine dwR ?_|((first|refine aA ?_ ?_|refine aC ?_ ?_)<;>intro hb<;>(first|exact ddX hb|try simp only [lnS]at hb))|(refine aB ?_ ?_<;>intro hb<;>try exact dsX hb)))
  rw [e]
  refine⟨j+1,qO,qO, ?_⟩
  dsimp only
  rw [k]
  exact⟨qB,qB⟩
 ·have a:j=l.length:=by omega
  subst a
  rw [List.take_length]
  refine qX ?_;intros
  exact rfl
theorem bCr {m:Nat}: ∀{l:List UInt8},l.length<=m->deN l < 256 ^ m:= λ{l} h=>Nat.lt_of_lt_of_le (xT l.length l rfl) (Nat.pow_le_pow_right (by decide) h)
theorem aEp (m:Nat) (s:RS):(jO m s).1 < 256 ^ m:=bCr (aGx m s)
def kS:Tr Int:=wE (jO 8) sgN
def iW:Tr (List UInt8):=cJ (jO 4) jT
theorem aRt:Sim kS aQe:=(aEz 8).map sgN
theorem zR:Sim iW aA5:=(aEz 4).bind λn=>aLw n
theorem jK (k:Nat):aCh (jO k):=nG (uZ k) deN
theorem rS:aCh kS:=nG (jK 8) sgN
theorem fB:aCh iW:=eD (jK 4) λn=>uZ n
theorem aG3:RfT 160 [] kS (λz=> .d (.int .i64 z)):=by
 intro s hb
 have a:=aEp 8 s
 have b:kS s=(sgN (jO 8 s).1,(jO 8 s).2):=rfl
 rw [b,<-bBc _ a]
 refine aG false [] hty Tryz.func160 rfl (kp [0,2]) 100 (by simp [Tryz.f160]) ?_
 refine qX ?_;intros
 refine RfT.call (bDq 8 (by decide)) rfl (λ_=>rfl) s hb rfl ?_
 refine qX ?_;intros
 exact rfl
theorem aG2:RfT 106 [] iW (λs=> .d (.str s)):=by
 intro s hb
 have hlt:=aEp 4 s
 have hle:=jK 4 s
 have a:iW s=jT (jO 4 s).1 (jO 4 s).2:=rfl
 rw [a]
 refine aF.mono (K:= λr h=>r= .d (.str (unb ((jT (jO 4 s).1 (jO 4 s).2).1.map aN)))/\aP h 3=some (rfO (jT (jO 4 s).1 (jO 4 s).2).2)) (λr h ⟨h1,h2⟩=>⟨by rw [h1,lL],h2⟩) ?_
 refine aG false [] hty Tryz.func106 rfl (kp [0,2]) 100 (by simp [Tryz.f106]) ?_
 refine qX ?_;intros
 refine RfT.call (bDq 4 (by decide)) rfl (λ_=>rfl) s hb rfl ?_
 generalize (jO 4 s).1=n at *
 generalize (jO 4 s).2=s1 at *
 refine qX ?_;intros
 refine RfT.call (bCi n (by omega)) rfl (λ_=>rfl) s1 (by omega) rfl ?_
 refine qX ?_;intros
 exact rfl
theorem aXd (least:Nat) (h0:0 < least) (h1:least<=1000):RfT 56 [.d (.int .i64 least)] (dS least) (λn=> .d (.int .i64 n)):=by
 intro s hb
 have g:=aEp 4 s
 have j:=jK 4 s
 have l:dS least s=if (jO 4 s).2.2=true\/(jO 4 s).2.1.length / least < (jO 4 s).1 then (0,((jO 4 s).2.1,true))else jO 4 s:=rfl
 rw [l]
 refine aG false [] hty Tryz.func56 rfl (kp [0,1,4,5,23]) 100 (by simp [Tryz.f56]) ?_
 refine qX ?_;intros
 refine RfT.call (bDq 4 (by decide)) rfl (λ_=>rfl) s hb rfl ?_
 generalize jO 4 s=q at *
 obtain⟨n,b,d⟩:=q
 dsimp only at g j |-
 have c:=dF b
 have i:IntKind.i64.wrap ((n:Nat):Int)=((n:Nat):Int):=IntWalk.i64_in _ (by omega)
 have f:b.length / least<=b.length:=Nat.div_le_self _ _
 have a:(((b.length:Nat):Int).tdiv ((least:Nat):Int))=((b.length / least:Nat):Int):=by
  rw [Int.tdiv_eq_ediv_of_nonneg (Int.natCast_nonneg _),Int.natCast_ediv]
 have hqr: -9223372036854775808<=(((b.map aN).length:Nat):Int).tdiv ((least:Nat):Int)/\(((b.map aN).length:Nat):Int).tdiv ((least:Nat):Int)<=9223372036854775807:=by
  rw [c,a]
  clear a
  generalize b.length / least=k at *
  omega
 have e:IntKind.u64.wrap ((b.length / least:Nat):Int)=((b.length / least:Nat):Int):=gK _ (Nat.lt_of_le_of_lt f (by omega))
 cases d
 ·by_cases h:b.length / least < n
  ·rw [if_pos (.inr h)]
   refine qZ ?_;intros
   rw [c,a,e]
   (repeat' first|(refine qW ?_;intros)|((conv=>whnf);first|refine dwR ?_|((first|refine aA ?_ ?_|refine aC ?_ ?_)<;>intro hb<;>(first|exact ddX hb|try simp only [lnS]at hb))|(refine aB ?_ ?_<;>intro hb<;>try exact dsX hb)))
   exact rfl
  ·rw [if_neg (by simpa using h)]
   refine qZ ?_;intros
   rw [c,a,e]
   (repeat' first|(refine qW ?_;intros)|((conv=>whnf);first|refine dwR ?_|((first|refine aA ?_ ?_|refine aC ?_ ?_)<;>intro hb<;>(first|exact ddX hb|try simp only [lnS]at hb))|(refine aB ?_ ?_<;>intro hb<;>try exact dsX hb)))
   rw [i]
   exact⟨rfl,rfl⟩
 ·rw [if_pos (.inl rfl)]
  (repeat' first|(refine qW ?_;intros)|((conv=>whnf);first|refine dwR ?_|((first|refine aA ?_ ?_|refine aC ?_ ?_)<;>intro hb<;>(first|exact ddX hb|try simp only [lnS]at hb))|(refine aB ?_ ?_<;>intro hb<;>try exact dsX hb)))
  exact rfl
def mkD (y:Nat->UInt8):Dig:=⟨[y 0,y 1,y 2,y 3,y 4,y 5,y 6,y 7,y 8,y 9,y 10,y 11,y 12,y 13,y 14,y 15,y 16,y 17,y 18,y 19,y 20,y 21,y 22,y 23,y 24,y 25,y 26,y 27,y 28,y 29,y 30,y 31],rfl⟩
theorem aU1 (d:Dig): ∃y,d=mkD y:=by
 obtain⟨l,h⟩:=d
 obtain⟨I,C,F,J,D,B,E,K,H,G,b,p,r,j,v,s,q,o,x,z,w,A,e,u,f,k,t,c,n,g,m,a,rfl⟩:=aFv h
 exact⟨λi=>[I,C,F,J,D,B,E,K,H,G,b,p,r,j,v,s,q,o,x,z,w,A,e,u,f,k,t,c,n,g,m,a].getD i 0,rfl⟩
theorem aYm:RfT 105 [] (kY 4 iW) (λl=> .d (.sl 1 (l.map bJ))):=by
 intro s hb
 have v:kY 4 iW s=sF iW (dS 4 s).1 (dS 4 s).2:=rfl
 rw [v]
 clear v
 have t:=kK 4 s
 have k:=yL (least:=4) s (by decide)
 refine aF.says ?_
 refine aG false [] hty Tryz.func105 rfl (kp [0,2,3,4,5,18]) 100 (by simp [Tryz.f105]) ?_
 refine qX ?_;intros
 refine RfT.call (aXd 4 (by decide) (by decide)) rfl (λ_=>rfl) s hb rfl ?_
 generalize (dS 4 s).1=n at *
 generalize (dS 4 s).2=s2 at *
 have r:s2.1.length<=1000000:=Nat.le_trans t hb
 have hn:n<=1000000:=Nat.le_trans k hb
 clear t k
 refine qX ?_;intros
 refine aD hty (λy:List (List UInt8)×RS=>([(0, .ptr 3 0),(3, .osl 106 1 (y.1.map bJ)),(4, .d (.int .i64 n)),(5, .d (.int .i64 y.1.length))],[(106, .own 9 1 (y.1.map bJ).length),(3,rfO y.2)])) (λy=>sF iW y.1.length s2=y/\y.1.length<=n/\y.2.1.length<=1000000) (λy=>n - y.1.length) ([],s2) ⟨rfl,Nat.zero_le _,r⟩ ⟨qB,qB⟩ ?_
 rintro⟨l,s⟩ ⟨m,u,p⟩
 dsimp only at m u p
 obtain⟨b,d⟩:=s
 have j:(l.map bJ).length=l.length:=List.length_map ..
 have hb63:(l.map bJ).length+1<=9223372036854775807:=by rw [j];omega
 have hb48:((l.map bJ).length+1)* 16<=140737488355328:=by rw [j];omega
 by_cases i:l.length < n/\d=false
 ·obtain⟨i,rfl⟩:=i
  have f:=fB (b,false)
  have o:=uC iW l.length s2 l (b,false) m rfl rfl
  refine qX ?_;intros
  refine aA (λg=> ?_) (λg=>absurd i (by dsimp only at g;omega))
  clear g
  refine qX ?_;intros
  refine RfT.call aG2 rfl (λ_=>rfl) (b,false) p rfl ?_
  generalize (iW (b,false)).1=x at *
  generalize (iW (b,false)).2=s3 at *
  refine qZ ?_;intros
  refine⟨(l++[_],s3),⟨by dsimp only;rw [List.length_append];exact o,by dsimp only;rw [List.length_append,List.length_singleton];omega,Nat.le_trans f p⟩,by dsimp only;rw [List.length_append,List.length_singleton];omega, ?_⟩
  dsimp only
  rw [List.map_append,List.length_append,List.length_append]
  exact⟨qB,qB⟩
 have c:sF iW n s2=(l,(b,d)):=by
  by_cases e:l.length=n
  ·rw [<-e];exact m
  ·have w:d=true:=by
    cases d with
    |true=>rfl
    |false=>exact absurd ⟨by omega,rfl⟩ i
   exact uB iW l.length n s2 l (b,d) m w u
 rw [c]
 have a:l.length < n->d=true:= λh=>by
  cases d with
  |true=>rfl
  |false=>exact absurd ⟨h,rfl⟩ i
 refine qX ?_;intros
 refine aA (λg=> ?_) (λg=> ?_)
 ·have q:(!d)=false:=by rw [a (by dsimp only at g;omega)];rfl
  refine qX ?_;intros
  rw [q]
  refine qX ?_;intros
  exact⟨_,fR.osl,rfl,rfl⟩
 ·refine qX ?_;intros
  exact⟨_,fR.osl,rfl,rfl⟩
end
section
attribute [local irreducible] aK aF Tri aH YVC cG aT vZ
open Go.RowKit
set_option maxRecDepth 10000
def aL5:List UInt8:=[98,97,115,101]
noncomputable def idF (l:List Ax):Dig×Int:=if dL l=0 then (aVf aL5 (wAs l),0)else (aXi,dL l)
theorem aXz {l:List Ax}(h:dL l=0):aJh l=0:=by
 have h:=(aQ3 l).1 h
 have a:=(fM l).2 λx hx=>gE (x:=x) (by rw [h.tidy x hx])
 have:=h.few
 unfold aJh
 rw [if_neg (by rw [a];simp),if_neg (by omega)]
theorem aUi {l:List Ax}(h:dL l=0):kT l=(wAs l,0)/\(wAs l).length<=8000000:=by
 have a:=aXz h
 obtain⟨b,c⟩:=aBp a
 have h4:=tW b
 have:l.length * 7000<=1024 * 7000:=Nat.mul_le_mul_right _ c
 refine⟨?_,by omega⟩
 unfold kT
 rw [if_pos a]
def NK:Hp:=KG++NG
theorem aWt (l:List Ax):Tri Tryz.prog 11 [.d (bDs l)] NK (λr=>r= .tup [.d (.agg (aBe (idF l).1)), .d (.int .i64 (idF l).2)]):=by
 have b:=aL6 l
 have f:=gG l
 by_cases h:dL l=0
 ·obtain⟨e1,e2⟩:=aUi h
  have i:=aJo aL5 (wAs l) (by decide) (by omega)
  have hi:idF l=(aVf aL5 (wAs l),0):=by unfold idF;rw [if_pos h]
  rw [h]at b
  rw [e1]at f
  rw [hi]
  clear hi e1 e2 h
  generalize aVf aL5 (wAs l)=v at *
  obtain⟨y,rfl⟩:=aU1 v
  generalize wAs l=c at *
  refine qG [] hty Tryz.func11 [0,1,2,3,4,8,18] ?_
  ((conv=>whnf);repeat ((first|(refine aL NG b ⟨rfl,rfl,trivial⟩ (λr a=> ?_);subst a)|(refine aL NG f ⟨rfl,rfl,trivial⟩ (λr a=> ?_);subst a)|(refine aL KG i ⟨rfl,trivial⟩ (λr a=> ?_);subst a) |(intro e;try simp only [lnS]at e)|refine sI ?_|refine qE_ ?_);conv=>whnf))
  rfl
 ·have hi:idF l=(aXi,dL l):=by unfold idF;rw [if_neg h]
  rw [hi]
  generalize dL l=q at *
  refine qG [] hty Tryz.func11 [0,1,2,3,4,8,18] ?_
  ((conv=>whnf);repeat ((first|(refine aL NG b ⟨rfl,rfl,trivial⟩ (λr a=> ?_);subst a) |(intro e;try simp only [lnS]at e)|refine sI ?_|refine qE_ ?_);conv=>whnf))
  refine aC (λg=> ?_) (λg=> ?_)
  ·refine qX ?_;intros
   rfl
  ·exact absurd g h
theorem aW6 (l:List Ax) (hs: ∀x∈l,SmA x) (hn:l.length<=10000):Tri Tryz.prog 12 [.d (bDs l)] [] (λr=>r= .tup [.d (.agg (aBe (idF l).1)), .d (.int .i64 (idF l).2)]):=by
 have e:=aHe l hs hn
 by_cases h:dL l=0
 ·obtain⟨e1,e2⟩:=aUi h
  have b:=(aH7 l (by unfold wAs at e2;omega)).tri
  have c3:=aEo aL5 (wAs l) (by decide) (by omega)
  have hi:idF l=(aVf aL5 (wAs l),0):=by unfold idF;rw [if_pos h]
  rw [h]at e
  rw [hi]
  rw [show cU wA l=wAs l from rfl]at b
  clear hi e1 e2 h
  generalize aVf aL5 (wAs l)=v at *
  obtain⟨y,rfl⟩:=aU1 v
  generalize wAs l=c at *
  refine qG [] hty Tryz.func12 [0,1,2,3,4,8] ?_
  refine qZ ?_;intros
  rfl
 ·have hi:idF l=(aXi,dL l):=by unfold idF;rw [if_neg h]
  rw [hi]
  generalize dL l=q at *
  refine qG [] hty Tryz.func12 [0,1,2,3,4,8] ?_
  refine qZ ?_;intros
  refine aC (λa=> ?_) (λa=> ?_)
  ·refine qX ?_;intros
   rfl
  ·exact absurd a h
end
section
open Go.RowKit Go.ChangeShapes
set_option maxRecDepth 100000
def aTf:List (String×DataW Unit):=[("veilstone/digest.constants",Rows.laid_veilstone_digest_constants),("veilstone/terms.needs",Rows.laid_veilstone_terms_needs),("veilstone/terms.uses",Rows.laid_veilstone_terms_uses)]
theorem bEt:Tryz.prog.globalNamed "veilstone/digest.constants" =some 1:=by kernel_rfl
theorem bE5:(Tryz.prog.globals[(1:Nat)]?).map (·.type)=some 183:=by kernel_rfl
def FTK:List TypeId:=183::126::FT
theorem flK:Fl Tryz.prog (· ∈FTK):=bCk (by kernel_rfl)
theorem aP7 {W:World}(h:laidMetH Tryz.prog aTf W): ∀ρ:Env,ρ.S=below W-> ∀id o,aP NK id=some o->RO W ρ id o:=by
 rw [MakeChecks.laidMetH_plain _ _ _ (by kernel_rfl)]at h
 obtain⟨ps,⟨g2,t2,cs2,f2,p2,q2,b,j,i,m,⟨g0,t0,cs0,f0,p0,q0,d,n,g,p,⟨g1,t1,cs1,f1,p1,q1,c,k,f,l,_,_⟩,_⟩,_⟩,_,_⟩:=h
 obtain rfl:=Option.some.inj (bEt.symm.trans b)
 obtain rfl:=Option.some.inj (bCh.symm.trans d)
 obtain rfl:=Option.some.inj (bEs.symm.trans c)
 obtain rfl:=Option.some.inj (bE5.symm.trans j)
 obtain rfl:=Option.some.inj (bBp.symm.trans n)
 obtain rfl:=Option.some.inj (bE3.symm.trans k)
 have q:=oE (z:=1) (rows:=uI.map aTi) flK b (by decide) i m (by intro r e;obtain⟨x,_,rfl⟩:=List.mem_map.1 e;rfl) (by kernel_rfl)
 have s:=oE (z:=4) (rows:=aT4.map aWw) fl d (by decide) g p (by intro r e;obtain⟨x,_,rfl⟩:=List.mem_map.1 e;rfl) (by kernel_rfl)
 have t:=oE (z:=7) (rows:=kR.map aZ7) fl c (by decide) f l (by intro r e;obtain⟨x,_,rfl⟩:=List.mem_map.1 e;rfl) (by kernel_rfl)
 intro ρ u id o a
 rw [<-u]at s t q
 simp only [NK,KG,NG,List.cons_append,List.nil_append,aP]at a
 split at a
 ·injection a with a;subst a;exact q
 ·split at a
  ·injection a with a;subst a;exact s
  ·split at a
   ·injection a with a;subst a;exact t
   ·cases a
end
section
def zO:Tr Int:=wE (jO 1) λn=>(n:Int)
theorem wP:Sim zO aK8:=(aEz 1).map _
theorem yV:aCh zO:=nG (jK 1) _
def aC0:Tr Bool:= λs=>(decide ((zO s).1=1),((zO s).2.1,(zO s).2.2 || decide (1 < (zO s).1)))
theorem aVo:Sim aC0 rB':=by
 refine⟨λb=> ?_,λb x c e=> ?_,λb e=> ?_⟩
 ·show ((zO (b,true)).2.2 || decide (1 < (zO (b,true)).1))=true
  rw [wP.bad b];rfl
 ·unfold rB' at e
  obtain⟨p,a,d⟩:=Option.bind_eq_some_iff.1 e
  split at d
  ·cases d
  ·rename_i f
   injection d with d;injection d with h4 h5
   have:=wP.ok b p.1 p.2 a
   unfold aC0
   rw [this,<-h4,<-h5,show decide (1 < p.1)=false from decide_eq_false f]
   rfl
 ·unfold rB' at e
  cases a:aK8 b with
  |none=>show ((zO (b,false)).2.2 || decide (1 < (zO (b,false)).1))=true;rw [wP.no b a];rfl
  |some p=>
   obtain⟨x,c⟩:=p
   rw [a]at e
   simp only [Option.bind_some]at e
   split at e
   ·rename_i f
    show ((zO (b,false)).2.2 || decide (1 < (zO (b,false)).1))=true
    rw [wP.ok b x c a,decide_eq_true f,Bool.or_true]
   ·cases e
theorem aI1:aCh aC0:= λs=>yV s
def dC:Tr (Int×List UInt8×Int×Int×Nat):=cJ zO λk=>cJ iW λn=>cJ kS λlo=>cJ kS λhi=>wE (dS 25) λm=>(k,n,lo,hi,m)
def tC:Nat->Tr Cn
 | 0=> λs=>(Cn.mk (dC s).1.1 (dC s).1.2.1 (dC s).1.2.2.1 (dC s).1.2.2.2.1 [],((dC s).2.1,true))
 |m+1=> λs=>(Cn.mk (dC s).1.1 (dC s).1.2.1 (dC s).1.2.2.1 (dC s).1.2.2.2.1 (sF (tC m) (dC s).1.2.2.2.2 (dC s).2).1,(sF (tC m) (dC s).1.2.2.2.2 (dC s).2).2)
theorem bE6 (m:Nat):tC (m+1)=cJ zO λk=>cJ iW λn=>cJ kS λlo=>cJ kS λhi=>wE (kY 25 (tC m)) (Cn.mk k n lo hi):=by
 funext s
 simp only [tC,dC,cJ,wE,kY]
theorem aVp: ∀m,Sim (tC m) (rC' m)
 | 0=>⟨λb=>rfl,λb x c e=>(by cases e),λb e=>rfl⟩
 |m+1=>by
  rw [bE6]
  exact wP.bind λk=>zR.bind λn=>aRt.bind λlo=>aRt.bind λhi=>(zS (aVp m) 25).map _
theorem vA:aCh dC:=eD yV λk=>eD fB λn=>eD rS λlo=>eD rS λhi=>nG (kK 25) _
theorem vB: ∀m,aCh (tC m)
 | 0=> λs=>vA s
 |m+1=> λs=>Nat.le_trans (aFu (vB m) _ _) (vA s)
def tA:Tr Ax:=cJ zO λk=>cJ aC0 λo=>cJ (tC 9) λl=>cJ (tC 9) λr=>cJ (kY 4 iW) λrs=>cJ iW λs1=>cJ iW λs2=>wE iW λs3=>⟨k,o,l,r,rs,s1,s2,s3⟩
theorem bE7:Sim tA rA':=wP.bind λk=>aVo.bind λo=>(aVp 9).bind λl=>(aVp 9).bind λr=>(zS zR 4).bind λrs=>zR.bind λs1=>zR.bind λs2=>zR.map _
theorem wV {α:Type}{t:Tr α}(h:aCh t) (k:Nat):aCh (kY k t):=eD (kK k) λn=>aFu h n
theorem aYf:aCh tA:=eD yV λk=>eD aI1 λo=>eD (vB 9) λl=>eD (vB 9) λr=>eD (wV fB 4) λrs=>eD fB λs1=>eD fB λs2=>nG fB _
def tAs:Tr (List Ax):=kY 68 tA
theorem bBr:Sim tAs aZq:=zS bE7 68
def aUt {α:Type}(k:Nat) (t:Tr α):Prop:= ∀s,(t s).2.2=false->s.2=false/\(t s).2.1.length+k<=s.1.length
section
variable {α β:Type}
theorem zN (n:Nat):aUt n (jT n):=by
 intro s h
 unfold jT at h |-
 split at h
 ·cases h
 ·rename_i a
  rw [if_neg a]
  have b:¬ s.2=true:= λe=>a (.inl e)
  have h3:¬ s.1.length < n:= λe=>a (.inr e)
  refine⟨by simpa using b, ?_⟩
  show (s.1.drop n).length+n<=_
  rw [List.length_drop];omega
theorem rI {t:Tr α}{k:Nat}(h:aUt k t) (f:α->β):aUt k (wE t f):=h
theorem oF {t:Tr α}{f:α->Tr β}{k j:Nat}(h:aUt k t) (g: ∀x,aUt j (f x)):aUt (k+j) (cJ t f):= λs e=>by
 obtain⟨a,h2⟩:=g (t s).1 (t s).2 e
 obtain⟨b,h4⟩:=h s a
 exact⟨b,by show (f (t s).1 (t s).2).2.1.length+_<=_;omega⟩
theorem aR9 {t:Tr α}{k j:Nat}(h:aUt k t) (hj:j<=k):aUt j t:= λs e=>by
 obtain⟨a,h2⟩:=h s e
 exact⟨a,by omega⟩
theorem aR8 (least:Nat):aUt 4 (dS least):=by
 intro s h
 unfold dS at h |-
 split at h
 ·cases h
 ·rename_i a
  rw [if_neg a]
  exact rI (zN 4) deN s h
theorem yH (k:Nat):aUt k (jO k):=rI (zN k) deN
theorem aRa:aUt 25 dC:=aR9 (oF (rI (yH 1) _) λk=>oF (oF (yH 4) λn=>aR9 (zN n) (Nat.zero_le _)) λn=>oF (rI (yH 8) _) λlo=>oF (rI (yH 8) _) λhi=>rI (aR8 25) _) (by decide)
def bFb (t:Tr α) (μ:α->Nat):Prop:= ∀s,((t s).2.2=false->25 * μ (t s).1+(t s).2.1.length<=s.1.length)/\25 * μ (t s).1+(t s).2.1.length<=s.1.length+25
end
theorem aM3 {t:Tr Cn}(h:bFb t aM) (hb: ∀s,s.2=true->(t s).2.2=true): ∀n,bFb (sF t n) λl=>(aX l).length
 | 0=> λs=>by
  show (_->25 * ([]:List Cn).length+s.1.length<=_)/\25 * ([]:List Cn).length+s.1.length<=_
  simp only [List.length_nil]
  exact⟨λ_=>by omega,by omega⟩
 |n+1=> λs=>by
  rw [oH]
  by_cases c:s.2=true
  ·rw [if_pos c]
   show (_->25 * ([]:List Cn).length+s.1.length<=_)/\25 * ([]:List Cn).length+s.1.length<=_
   simp only [List.length_nil]
   exact⟨λ_=>by omega,by omega⟩
  ·rw [if_neg c]
   obtain⟨b,h2⟩:=h s
   have e: ∀r,(aX ((t s).1::r)).length=aM (t s).1+(aX r).length:= λr=>by rw [aX,List.length_append];rfl
   dsimp only
   rw [e]
   cases hf:(t s).2.2
   ·obtain⟨d,f⟩:=aM3 h hb n (t s).2
    have b:=b hf
    dsimp only at d f
    exact⟨λa=>by have:=d a;omega,by omega⟩
   ·rw [lZ t n hf]
    refine⟨λa=>(by rw [hf]at a;cases a), ?_⟩
    show 25 * (aM (t s).1+([]:List Cn).length)+_<=_
    simp only [List.length_nil]
    omega
theorem aRp (k:Int) (n:List UInt8) (lo hi:Int) (ps:List Cn):aM (Cn.mk k n lo hi ps)=1+(aX ps).length:=by
 unfold aM
 rw [dO,List.length_cons]
 show (aX ps).length+1=_
 omega
theorem bFc (m:Nat) (s:RS) (h:s.2=true):(tC m s).2.2=true:=by
 obtain⟨b,d⟩:=s
 have h:d=true:=h
 subst h
 exact(aVp m).bad b
theorem aZ2: ∀m,bFb (tC m) aM
 | 0=> λs=>by
  have g:=vA s
  refine⟨λh=>(by cases h), ?_⟩
  show 25 * aM (Cn.mk _ _ _ _ [])+(dC s).2.1.length<=_
  rw [aRp]
  show 25 * (1+([]:List Cn).length)+_<=_
  simp only [List.length_nil]
  omega
 |m+1=> λs=>by
  obtain⟨b,d⟩:=aM3 (aZ2 m) (bFc m) (dC s).1.2.2.2.2 (dC s).2
  have g:=vA s
  have f:=aRa s
  show (_->25 * aM (Cn.mk _ _ _ _ (sF (tC m) (dC s).1.2.2.2.2 (dC s).2).1)+(sF (tC m) (dC s).1.2.2.2.2 (dC s).2).2.1.length<=_)/\25 * aM (Cn.mk _ _ _ _ (sF (tC m) (dC s).1.2.2.2.2 (dC s).2).1)+(sF (tC m) (dC s).1.2.2.2.2 (dC s).2).2.1.length<=_
  rw [aRp]
  dsimp only at b d
  cases hf:(dC s).2.2
  ·obtain⟨_,f⟩:=f hf
   exact⟨λa=>by have:=b a;omega,by omega⟩
  ·have c:=lZ (tC m) (dC s).1.2.2.2.2 hf
   rw [c]at b d |-
   refine⟨λa=> ?_, ?_⟩
   ·have e:(tC (m+1) s).2.2=(sF (tC m) (dC s).1.2.2.2.2 (dC s).2).2.2:=rfl
    rw [e,c]at a
    have a:(dC s).2.2=false:=a
    rw [hf]at a;cases a
   ·show 25 * (1+([]:List Cn).length)+(dC s).2.1.length<=_
    simp only [List.length_nil]
    omega
theorem aZ1 {m:Nat}{s:RS}(h:s.1.length<=1000000):aM (tC m s).1<=1000000:=by
 have:=(aZ2 m s).2
 omega
def SmC (x:Ax):Prop:=aM x.left<=1000000/\aM x.right<=1000000
theorem bB5 {s:RS}(h:s.1.length<=1000000):SmC (tA s).1:=by
 have h1:=yV s
 have h2:=aI1 (zO s).2
 have h3:=vB 9 (aC0 (zO s).2).2
 exact⟨aZ1 (s:=(aC0 (zO s).2).2) (by omega),aZ1 (s:=(tC 9 (aC0 (zO s).2).2).2) (by omega)⟩
theorem aS8 {α:Type}{t:Tr α}{P:α->Prop}{B:Nat}(hl:aCh t) (h: ∀s:RS,s.1.length<=B->P (t s).1): ∀(n:Nat) (s:RS),s.1.length<=B-> ∀x∈(sF t n s).1,P x
 | 0,s,_,x,hx=>by cases hx
 |n+1,s,hs,x,hx=>by
  rw [oH]at hx
  split at hx
  ·cases hx
  ·rcases List.mem_cons.1 hx with rfl|hx
   ·exact h s hs
   ·exact aS8 hl h n (t s).2 (Nat.le_trans (hl s) hs) x hx
theorem aY7 {s:RS}(h:s.1.length<=1000000): ∀x∈(tAs s).1,SmC x:=aS8 aYf (λs a=>bB5 a) _ _ (Nat.le_trans (kK 68 s) h)
end
end Go.Proofs.YtbobcfjlbcgchaaGreatDoor
