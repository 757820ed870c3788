/-
  ObjectsAxiomsSpec, walked.
  Conditions: none.
-/
import Derived.Test.YtbobcfjlbcgchaaGreatDoorWVp
import Derived.Test.YtbobcfjlbcgchaaGreatDoorWYa
import Derived.Test.YtbobcfjlbcgchaaGreatDoorWQc
import Derived.Test.YtbobcfjlbcgchaaGreatDoorWOy
import Derived.Test.YtbobcfjlbcgchaaGreatDoorWSna
import Derived.Test.YtbobcfjlbcgchaaGreatDoorWPa
import Derived.Test.YtbobcfjlbcgchaaGreatDoorWYd
import Derived.Test.YtbobcfjlbcgchaaGreatDoorWSnc
import Derived.Test.YtbobcfjlbcgchaaGreatDoorWOf
import Derived.Test.YtbobcfjlbcgchaaGreatDoorWDd
import Derived.Test.YtbobcfjlbcgchaaGreatDoorWBq
import Derived.Test.YtbobcfjlbcgchaaGreatDoorWQs
set_option linter.unnecessarySimpa false
set_option linter.unusedSectionVars false
set_option linter.unusedSimpArgs false
set_option linter.unusedVariables false
set_option maxHeartbeats 32000000
namespace Go.Proofs.YtbobcfjlbcgchaaGreatDoor
section
attribute [local irreducible] aK aF Tri aH YVC cG aT
open Go.RowKit
set_option maxRecDepth 10000
theorem bDp:RfT 103 [.d (.int .i64 1)] (jO 1) (λn=> .d (.int .u64 n)):=bDq 1 (by decide)
theorem aKj {n:Nat}(h:n < 256):IntKind.i64.wrap ((n:Nat):Int)=((n:Nat):Int):=IntWalk.i64_in _ (by omega)
theorem aT1 (s:RS):(jO 1 s).1 < 256:=aEp 1 s
abbrev cnZ:List SV:=([D.int .i64 0,D.str [],D.int .i64 0,D.int .i64 0,D.nil]).map .d
abbrev cnH (kd:Int) (nm:List UInt8) (lo hi:Int) (x:SV):List SV:=[.d (.int .i64 kd), .d (.str nm), .d (.int .i64 lo), .d (.int .i64 hi),x]
theorem aU8 {kd:Int}{nm:List UInt8}{lo hi:Int}{x:SV}{l:List Cn}(h:fR x (.d (.sl 5 (l.map cnR)))):fR (.agg (cnH kd nm lo hi x)) (.d (.agg (cnR (.mk kd nm lo hi l)))):=by
 rw [show cnR (.mk kd nm lo hi l)=[.int .i64 kd, .str nm, .int .i64 lo, .int .i64 hi, .sl 5 (l.map cnR)]from aJ _]
 exact fR.cells ⟨.refl _, .refl _, .refl _, .refl _,h,trivial⟩
theorem aU9 {kd:Int}{nm:List UInt8}{lo hi:Int}:fR (.d (.agg [.int .i64 kd, .str nm, .int .i64 lo, .int .i64 hi, .nil])) (.d (.agg (cnR (.mk kd nm lo hi [])))):=fR.wkd ⟨rfl,rfl,rfl,rfl,rfl,trivial⟩
theorem zB: ∀(m:Nat) (d:Int),0<=d->d+m=9->RfT 104 [.d (.int .i64 d)] (tC m) (λc=> .d (.agg (cnR c))):=by
 intro m
 induction m with
 |zero=>
  intro d L M s hb
  obtain rfl:d=9:=by omega
  have v:tC 0 s=(Cn.mk (dC s).1.1 (dC s).1.2.1 (dC s).1.2.2.1 (dC s).1.2.2.2.1 [],((dC s).2.1,true)):=rfl
  have a:dC s=cJ iW (λn=>cJ kS λlo=>cJ kS λhi=>wE (dS 25) λm=>(((jO 1 s).1:Int),n,lo,hi,m)) (jO 1 s).2:=rfl
  rw [v,a]
  clear v a
  have H:=jK 1 s
  have J:=aT1 s
  refine aF.says ?_
  refine aG false [] hty Tryz.func104 rfl (kp [0,1,4,5,6,7,40]) 100 (by simp [Tryz.f104]) ?_
  refine qX ?_;intros
  refine RfT.call bDp rfl (λ_=>rfl) s hb rfl ?_
  generalize (jO 1 s).1=kd at *
  generalize (jO 1 s).2=s1 at *
  refine qX ?_;intros
  rw [aKj J]
  refine RfT.call aG2 rfl (λ_=>rfl) s1 (by omega) rfl ?_
  have D:=fB s1
  have a:cJ iW (λn=>cJ kS λlo=>cJ kS λhi=>wE (dS 25) λm=>((kd:Int),n,lo,hi,m)) s1=cJ kS (λlo=>cJ kS λhi=>wE (dS 25) λm=>((kd:Int),(iW s1).1,lo,hi,m)) (iW s1).2:=rfl
  rw [a]
  clear a
  generalize (iW s1).1=nm at *
  generalize (iW s1).2=s2 at *
  refine qX ?_;intros
  refine RfT.call aG3 rfl (λ_=>rfl) s2 (by omega) rfl ?_
  have C:=rS s2
  have a:cJ kS (λlo=>cJ kS λhi=>wE (dS 25) λm=>((kd:Int),nm,lo,hi,m)) s2=cJ kS (λhi=>wE (dS 25) λm=>((kd:Int),nm,(kS s2).1,hi,m)) (kS s2).2:=rfl
  rw [a]
  clear a
  generalize (kS s2).1=lo at *
  generalize (kS s2).2=s3 at *
  refine qX ?_;intros
  refine RfT.call aG3 rfl (λ_=>rfl) s3 (by omega) rfl ?_
  have I:=rS s3
  have a:cJ kS (λhi=>wE (dS 25) λm=>((kd:Int),nm,lo,hi,m)) s3=(((kd:Int),nm,lo,(kS s3).1,(dS 25 (kS s3).2).1),(dS 25 (kS s3).2).2):=rfl
  rw [a]
  clear a
  generalize (kS s3).1=hi at *
  generalize (kS s3).2=s4 at *
  dsimp only
  refine qX ?_;intros
  refine RfT.call (aXd 25 (by decide) (by decide)) rfl (λ_=>rfl) s4 (by omega) rfl ?_
  have E:=kK 25 s4
  have k:=yL (least:=25) s4 (by decide)
  generalize (dS 25 s4).1=n at *
  generalize (dS 25 s4).2=s5 at *
  have z:s5.1.length<=1000000:=by omega
  have O:n<=1000000:=by omega
  clear H D C I E k hb
  obtain⟨b,fl⟩:=s5
  cases fl
  ·(repeat' first|(refine qW ?_;intros)|((conv=>whnf);first|(refine aCp hty 2 ?_)|refine dwR ?_|((first|refine aA ?_ ?_|refine aC ?_ ?_)<;>intro hb<;>(first|exact ddX hb|try simp only [lnS]at hb))|(refine aB ?_ ?_<;>intro hb<;>try exact dsX hb)))
   all_goals first|(exfalso;omega)|exact⟨_,aU9,rfl,rfl⟩
  ·(repeat' first|(refine qW ?_;intros)|((conv=>whnf);first|(refine aCp hty 2 ?_)|refine dwR ?_|((first|refine aA ?_ ?_|refine aC ?_ ?_)<;>intro hb<;>(first|exact ddX hb|try simp only [lnS]at hb))|(refine aB ?_ ?_<;>intro hb<;>try exact dsX hb)))
   all_goals exact⟨_,aU9,rfl,rfl⟩
 |succ m ih=>
  intro d L M s hb
  have v:tC (m+1) s=(Cn.mk (dC s).1.1 (dC s).1.2.1 (dC s).1.2.2.1 (dC s).1.2.2.2.1 (sF (tC m) (dC s).1.2.2.2.2 (dC s).2).1,(sF (tC m) (dC s).1.2.2.2.2 (dC s).2).2):=rfl
  have a:dC s=cJ iW (λn=>cJ kS λlo=>cJ kS λhi=>wE (dS 25) λm=>(((jO 1 s).1:Int),n,lo,hi,m)) (jO 1 s).2:=rfl
  rw [v,a]
  clear v a
  have H:=jK 1 s
  have J:=aT1 s
  refine aF.says ?_
  refine aG false [] hty Tryz.func104 rfl (kp [0,1,4,5,6,7,40]) 100 (by simp [Tryz.f104]) ?_
  refine qX ?_;intros
  refine RfT.call bDp rfl (λ_=>rfl) s hb rfl ?_
  generalize (jO 1 s).1=kd at *
  generalize (jO 1 s).2=s1 at *
  refine qX ?_;intros
  rw [aKj J]
  refine RfT.call aG2 rfl (λ_=>rfl) s1 (by omega) rfl ?_
  have D:=fB s1
  have a:cJ iW (λn=>cJ kS λlo=>cJ kS λhi=>wE (dS 25) λm=>((kd:Int),n,lo,hi,m)) s1=cJ kS (λlo=>cJ kS λhi=>wE (dS 25) λm=>((kd:Int),(iW s1).1,lo,hi,m)) (iW s1).2:=rfl
  rw [a]
  clear a
  generalize (iW s1).1=nm at *
  generalize (iW s1).2=s2 at *
  refine qX ?_;intros
  refine RfT.call aG3 rfl (λ_=>rfl) s2 (by omega) rfl ?_
  have C:=rS s2
  have a:cJ kS (λlo=>cJ kS λhi=>wE (dS 25) λm=>((kd:Int),nm,lo,hi,m)) s2=cJ kS (λhi=>wE (dS 25) λm=>((kd:Int),nm,(kS s2).1,hi,m)) (kS s2).2:=rfl
  rw [a]
  clear a
  generalize (kS s2).1=lo at *
  generalize (kS s2).2=s3 at *
  refine qX ?_;intros
  refine RfT.call aG3 rfl (λ_=>rfl) s3 (by omega) rfl ?_
  have I:=rS s3
  have a:cJ kS (λhi=>wE (dS 25) λm=>((kd:Int),nm,lo,hi,m)) s3=(((kd:Int),nm,lo,(kS s3).1,(dS 25 (kS s3).2).1),(dS 25 (kS s3).2).2):=rfl
  rw [a]
  clear a
  generalize (kS s3).1=hi at *
  generalize (kS s3).2=s4 at *
  dsimp only
  refine qX ?_;intros
  refine RfT.call (aXd 25 (by decide) (by decide)) rfl (λ_=>rfl) s4 (by omega) rfl ?_
  have E:=kK 25 s4
  have k:=yL (least:=25) s4 (by decide)
  generalize (dS 25 s4).1=n at *
  generalize (dS 25 s4).2=s5 at *
  have z:s5.1.length<=1000000:=by omega
  have O:n<=1000000:=by omega
  clear H D C I E k hb
  obtain⟨b,fl⟩:=s5
  cases fl
  ·refine qX ?_;intros
   have t:decide (d >8)=false:=decide_eq_false (by omega)
   have g:decide (8 < d)=false:=decide_eq_false (by omega)
   refine aK.ownC 105 200 45 45 5 4 rfl rfl (bQ (by with_unfolding_all exact rfl)) ?_
   refine aD hty (λy:List Cn×RS=>([(0, .ptr 3 0),(1, .d (.int .i64 d)),(4, .ptr 104 0),(5, .ptr 105 0),(6, .d (.int .i64 n)),(7, .d (.int .i64 y.1.length))],[(200, .own 45 5 (y.1.map cnR).length),(105, .cells 45 (cnH kd nm lo hi (.osl 200 5 (y.1.map cnR)))),(104, .cells 45 cnZ),(3,rfO y.2)])) (λy=>sF (tC m) y.1.length (b,false)=y/\y.1.length<=n/\y.2.1.length<=1000000) (λy=>n - y.1.length) ([],(b,false)) ⟨rfl,Nat.zero_le _,z⟩ ⟨qB,by repeat' (first|exact trivial|exact rfl|(first|rw [t]|rw [g])|refine And.intro ?_ ?_)⟩ ?_
   clear t g
   rintro⟨l,s⟩ ⟨B,N,G⟩
   dsimp only at B N G
   obtain⟨f,fl⟩:=s
   have r:(l.map cnR).length=l.length:=List.length_map ..
   have u:(l.map cnR).length+1<=9223372036854775807:=by rw [r];omega
   have w:((l.map cnR).length+1)* 64<=140737488355328:=by rw [r];omega
   by_cases q:l.length < n/\fl=false
   ·obtain⟨q,rfl⟩:=q
    have o:=vB m (f,false)
    have K:=uC (tC m) l.length (b,false) l (f,false) B rfl rfl
    refine qX ?_;intros
    refine aA (λp=> ?_) (λp=>absurd q (by dsimp only at p;omega))
    clear p
    refine qX ?_;intros
    refine aK.mid [(0, .ptr 3 0),(1, .d (.int .i64 d)),(4, .ptr 104 0),(5, .ptr 105 0),(6, .d (.int .i64 n)),(7, .d (.int .i64 l.length))] [(200, .own 45 5 ((l.map cnR).length+1)),(105, .cells 45 (cnH kd nm lo hi (.osl 200 5 (l.map cnR++[cnR (tC m (f,false)).1])))),(104, .cells 45 cnZ),(3,rfO (tC m (f,false)).2)] ?_ ?_
    ·have A:=ih (d+1) (by omega) (by omega)
     have x: -9223372036854775808<=d+1/\d+1<=9223372036854775807:=by omega
     rw [show (λc:Cn=>SV.d (.agg (cnR c)))= λc=>SV.d (.agg [.int .i64 c.kind, .str c.name, .int .i64 c.lo, .int .i64 c.hi, .sl 5 (c.parts.map cnR)])from funext λc=>by rw [aJ]]at A
     rw [aJ]
     (refine aGt (id:=7) hty (.first 2 (.first 3 (.alt 0 (.alt 1 (.alt 4 (.alt 5 (.alt 6 (.alt 7 (.alt 8 (.alt 9 .done .stop) .stop) .stop) .stop) .stop) .stop) (.alt 4 (.alt 1 (.alt 5 (.alt 6 (.alt 7 (.alt 8 (.alt 9 .done .stop) .stop) .stop) .stop) .stop) (.alt 5 (.alt 1 (.alt 6 (.alt 7 (.alt 8 (.alt 9 .done .stop) .stop) .stop) .stop) (.alt 6 (.alt 1 (.alt 7 (.alt 8 (.alt 9 .done .stop) .stop) .stop) .stop) .stop)) .stop)) .stop)) (.alt 4 (.alt 0 (.alt 1 (.alt 5 (.alt 6 (.alt 7 (.alt 8 (.alt 9 .done .stop) .stop) .stop) .stop) .stop) (.alt 5 (.alt 1 (.alt 6 (.alt 7 (.alt 8 (.alt 9 .done .stop) .stop) .stop) .stop) (.alt 6 (.alt 1 (.alt 7 (.alt 8 (.alt 9 .done .stop) .stop) .stop) .stop) .stop)) .stop)) (.alt 5 (.alt 0 (.alt 1 (.alt 6 (.alt 7 (.alt 8 (.alt 9 .done .stop) .stop) .stop) .stop) (.alt 6 (.alt 1 (.alt 7 (.alt 8 (.alt 9 .done .stop) .stop) .stop) .stop) .stop)) (.alt 6 (.alt 0 (.alt 1 (.alt 7 (.alt 8 (.alt 9 .done .stop) .stop) .stop) .stop) .stop) .stop)) .stop)) .stop)))) (by kernel_rfl) (by kernel_rfl) ?_)
     (repeat' first|(refine qW ?_;intros)|((conv=>whnf);first|(refine And.intro x ?_)|(refine And.intro u ?_)|(refine And.intro w ?_)|(refine RfT.call A rfl (λ_=>rfl) (f,false) G rfl ?_)|exact trivial|(refine And.intro ?_ ?_)|refine dwR ?_|((first|refine aA ?_ ?_|refine aC ?_ ?_)<;>intro hb<;>(first|exact ddX hb|try simp only [lnS]at hb))|(refine aB ?_ ?_<;>intro hb<;>try exact dsX hb)))
     all_goals exact⟨qB,qB⟩
    refine qX ?_;intros
    refine⟨(l++[(tC m (f,false)).1],(tC m (f,false)).2),⟨by dsimp only;rw [List.length_append];exact K,by dsimp only;rw [List.length_append,List.length_singleton];omega,Nat.le_trans o G⟩,by dsimp only;rw [List.length_append,List.length_singleton];omega, ?_⟩
    dsimp only
    rw [List.map_append,List.length_append,List.length_append]
    exact⟨qB,qB⟩
   have j:sF (tC m) n (b,false)=(l,(f,fl)):=by
    by_cases e:l.length=n
    ·rw [<-e];exact B
    ·have M:fl=true:=by
      cases fl with
      |true=>rfl
      |false=>exact absurd ⟨by omega,rfl⟩ q
     exact uB (tC m) l.length n (b,false) l (f,fl) B M N
   rw [j]
   have i:l.length < n->fl=true:= λh=>by
    cases fl with
    |true=>rfl
    |false=>exact absurd ⟨h,rfl⟩ q
   refine qX ?_;intros
   refine aA (λp=> ?_) (λp=> ?_)
   ·have F:(!fl)=false:=by rw [i (by dsimp only at p;omega)];rfl
    refine qX ?_;intros
    rw [F]
    refine qX ?_;intros
    exact⟨_,aU8 fR.osl,rfl,rfl⟩
   ·refine qX ?_;intros
    exact⟨_,aU8 fR.osl,rfl,rfl⟩
  ·rw [lZ (tC m) n rfl]
   (repeat' first|(refine qW ?_;intros)|((conv=>whnf);first|(refine aCp hty 2 ?_)|refine dwR ?_|((first|refine aA ?_ ?_|refine aC ?_ ?_)<;>intro hb<;>(first|exact ddX hb|try simp only [lnS]at hb))|(refine aB ?_ ?_<;>intro hb<;>try exact dsX hb)))
   all_goals exact⟨_,aU9,rfl,rfl⟩
end
section
attribute [local irreducible] aK aF Tri aH YVC cG aT vZ
open Go.RowKit
set_option maxRecDepth 10000
theorem sW (l:List Ax) (hs: ∀x∈l,aM x.left<=1000000/\aM x.right<=1000000):Tri Tryz.prog 8 [.d (.sl 16 (l.map axR))] [] (λr=>r= .tup [.d (.sl 1 ((kT l).1.map aN)), .d (.int .i64 (kT l).2)]):=by
 refine Tri.says ?_
 have f:=aFb l 1024 hs (by decide)
 have hb:= λh=>tW (l:=l) h
 have e:(if aJh l=0 then (wAs l,0)else ([],aJh l):List UInt8×Int)=kT l:=rfl
 have g:(if cR l≠0 then cR l else if 1024 < l.length then 2 else 0)=aJh l:=rfl
 have b:= λh=>aBp (l:=l) h
 rw [g]at f
 rw [<-e]
 refine qG [] hty Tryz.func8 [0,2,3,4,8] ?_
 refine qZ ?_;intros
 refine aC (λa=> ?_) (λa=> ?_)
 ·rw [if_neg a]
  refine qX ?_;intros
  exact⟨_,pairN (.d .nil) _,rfl⟩
 ·have a:aJh l=0:=by simpa using a
  rw [if_pos a]
  obtain⟨c,i⟩:=b a
  have h4:l.length * 7000<=1024 * 7000:=Nat.mul_le_mul_right _ i
  have hx:=(aH7 l (by have:=hb c;unfold wAs at this;omega)).tri
  refine qZ ?_;intros
  exact⟨_, .refl _,rfl⟩
end
section
attribute [local irreducible] aK aF Tri aH YVC cG aT
open Go.RowKit
set_option maxRecDepth 10000
def qy0:Qy:=⟨[],[]⟩
theorem aG7 (wr:Qy->List UInt8×Int) (bs:List UInt8) (hb:bs.length<=1000000) (hwr: ∀x c,rQy bs=some (x,c)->Tri Tryz.prog 39 [.d (.agg (qyR x))] NG (λr=>r= .tup [.d (.sl 1 ((wr x).1.map aN)), .d (.int .i64 (wr x).2)])):
  Tri Tryz.prog 37 [.d (.sl 1 (bs.map aN)), .fn 38 [] [], .fn 39 [] []] NG (λr=> ∃x,x=(iV rQy wr qy0 280 bs).1/\r= .tup [.d (.agg (qyR x)), .d (.int .i64 (iV rQy wr qy0 280 bs).2)]):=by
 have hlb:=dF bs
 have p:List.drop 0 (List.take (((bs.map aN).length:Nat):Int).toNat (bs.map aN))=bs.map aN:=by rw [List.drop_zero,Int.toNat_natCast,List.take_of_length_le (Nat.le_refl _)]
 refine Tri.says ?_
 refine aR6 false [] hty Tryz.func37 rfl Tryz.func76 rfl rfl rfl rfl rfl rfl rfl (by kernel_rfl) (by decide) (by decide) (by decide) (by decide) rfl (by kernel_rfl) (ms:= #[]) (d:=11) (x:=6) (y:=7) (tx:=52) (ty:=26) rfl rfl rfl rfl rfl rfl (by decide) (by decide) (kp [0,1,2,6,7,8,9,10,44]) (kp [0,1,2,4]) [] _ _ _ 2 (iV rQy wr qy0 280 bs=(qy0,280)) (by simp [Tryz.f37]) (by decide) ?_ ?_
 ·refine qX ?_;intros
  rw [p]
  refine RdT.call aZt rfl (λ_=>rfl) bs hb rfl (λx c e1=> ?_) (λe1 b=>⟨aIs e1,rfl,rfl,⟨_,rfl,rfl⟩,_,rfl⟩)
  have s:=hwr x c e1
  have k:=aBh (wr:=wr) (zero:=qy0) (bad:=280) e1
  generalize iV rQy wr qy0 280 bs=res at *
  generalize wr x=ae at *
  obtain⟨a,e⟩:=ae
  have heq:=qU a bs
  obtain⟨tl,pl⟩:=x
  ((conv=>whnf);repeat ((first|(refine aL NG s ⟨rfl,rfl,trivial⟩ (λr q=> ?_);subst q) |(intro f;try simp only [lnS]at f)|refine sI ?_|refine qE_ ?_);conv=>whnf))
  refine aC (λi=> ?_) (λi=> ?_)
  ·have l:res=(qy0,280):=by rw [k,if_neg];rintro⟨_,h⟩;injection h with g j;exact i j
   ((conv=>whnf);repeat ((first|(refine iP hty rfl (by with_unfolding_all exact rfl) rfl rfl ?_) |(intro f;try simp only [lnS]at f)|refine sI ?_|refine qE_ ?_);conv=>whnf))
   exact⟨⟨_,rfl,rfl⟩,_,rfl⟩
  have i:e=0:=by simpa using i
  subst i
  refine qX ?_;intros
  refine aA (λg=> ?_) (λg=> ?_)
  ·have l:res=(qy0,280):=by rw [k,if_neg];rintro⟨h,_⟩;subst h;simp at g
   ((conv=>whnf);repeat ((first|(refine iP hty rfl (by with_unfolding_all exact rfl) rfl rfl ?_) |(intro f;try simp only [lnS]at f)|refine sI ?_|refine qE_ ?_);conv=>whnf))
   exact⟨⟨_,rfl,rfl⟩,_,rfl⟩
  have g:c=[]:=by
   rw [dF]at g
   exact List.length_eq_zero_iff.1 (by omega)
  subst g
  refine qZ ?_;intros
  by_cases j:a=bs
  ·subst j
   rw [decide_eq_true rfl]
   rw [if_pos ⟨rfl,rfl⟩]at k
   subst k
   refine qX ?_;intros
   exact⟨_, .refl _,_,rfl,rfl⟩
  ·have l:res=(qy0,280):=by rw [k,if_neg];rintro⟨_,h⟩;injection h with h5 h6;exact j h5
   rw [decide_eq_false j]
   ((conv=>whnf);repeat ((first|(refine iP hty rfl (by with_unfolding_all exact rfl) rfl rfl ?_) |(intro f;try simp only [lnS]at f)|refine sI ?_|refine qE_ ?_);conv=>whnf))
   exact⟨⟨_,rfl,rfl⟩,_,rfl⟩
 ·intro l vx vy o
  rw [l]
  obtain⟨s0,vx0,rfl,n⟩:=aG8 o
  obtain⟨s1,vx1,rfl,m⟩:=aG8 n
  obtain rfl:=List.length_eq_zero_iff.1 m
  refine qX ?_;intros
  exact⟨_,fR.pair (fR.wkd qB),_,rfl,rfl⟩
theorem aC2 (wr:Qy->List UInt8×Int) (bs:List UInt8) (hb:bs.length<=1000000) (hwr: ∀x c,rQy bs=some (x,c)->Tri Tryz.prog 39 [.d (.agg (qyR x))] NG (λr=>r= .tup [.d (.sl 1 ((wr x).1.map aN)), .d (.int .i64 (wr x).2)])):
  Tri Tryz.prog 16 [.d (.sl 1 (bs.map aN))] NG (λr=> ∃x,x=(iV rQy wr qy0 280 bs).1/\r= .tup [.d (.agg (qyR x)), .d (.int .i64 (iV rQy wr qy0 280 bs).2)]):=by
 have e:=aG7 wr bs hb hwr
 generalize iV rQy wr qy0 280 bs=res at *
 refine qG [] hty Tryz.func16 [0,2,3] ?_
 refine qX ?_;intros
 refine aL NG e ⟨rfl,rfl,trivial⟩ (λr b=> ?_)
 obtain⟨x,a,rfl⟩:=b
 obtain⟨tl,pl⟩:=x
 refine qX ?_;intros
 rw [<-a]
 rfl
theorem aCc (wr:List Ax->List UInt8×Int) (bs:List UInt8) (hb:bs.length<=1000000) (hwr: ∀x c,(rAs 9) bs=some (x,c)->Tri Tryz.prog 7 [.d (.sl 16 (x.map axR))] NG (λr=>r= .tup [.d (.sl 1 ((wr x).1.map aN)), .d (.int .i64 (wr x).2)])):
  Tri Tryz.prog 24 [.d (.sl 1 (bs.map aN)), .fn 25 [] [], .fn 7 [] []] NG (λr=> ∃x,x=(iV (rAs 9) wr ([]:List Ax) 280 bs).1/\r= .tup [.d (.sl 16 (x.map axR)), .d (.int .i64 (iV (rAs 9) wr ([]:List Ax) 280 bs).2)]):=by
 have hlb:=dF bs
 have o:List.drop 0 (List.take (((bs.map aN).length:Nat):Int).toNat (bs.map aN))=bs.map aN:=by rw [List.drop_zero,Int.toNat_natCast,List.take_of_length_le (Nat.le_refl _)]
 refine Tri.says ?_
 refine aR6 false [] hty Tryz.func24 rfl Tryz.func52 rfl rfl rfl rfl rfl rfl rfl (by kernel_rfl) (by decide) (by decide) (by decide) (by decide) rfl (by kernel_rfl) (ms:= #[]) (d:=11) (x:=6) (y:=7) (tx:=22) (ty:=26) rfl rfl rfl rfl rfl rfl (by decide) (by decide) (kp [0,1,2,6,7,8,9,10,44]) (kp [0,1,2,4]) [] _ _ _ 1 (iV (rAs 9) wr ([]:List Ax) 280 bs=(([]:List Ax),280)) (by simp [Tryz.f24]) (by decide) ?_ ?_
 ·refine qX ?_;intros
  rw [o]
  refine RdT.call aY0 rfl (λ_=>rfl) bs hb rfl (λx c e1=> ?_) (λe1 b=>⟨aIs e1,rfl,rfl,⟨_,rfl,rfl⟩,_,rfl⟩)
  have q:=hwr x c e1
  have k:=aBh (wr:=wr) (zero:=([]:List Ax)) (bad:=280) e1
  generalize iV (rAs 9) wr ([]:List Ax) 280 bs=res at *
  generalize wr x=ae at *
  obtain⟨a,e⟩:=ae
  have heq:=qU a bs
  ((conv=>whnf);repeat ((first|(refine aL NG q ⟨rfl,rfl,trivial⟩ (λr p=> ?_);subst p) |(intro f;try simp only [lnS]at f)|refine sI ?_|refine qE_ ?_);conv=>whnf))
  refine aC (λi=> ?_) (λi=> ?_)
  ·have l:res=(([]:List Ax),280):=by rw [k,if_neg];rintro⟨_,h⟩;injection h with g j;exact i j
   ((conv=>whnf);repeat ((first|(refine iP hty rfl (by with_unfolding_all exact rfl) rfl rfl ?_) |(intro f;try simp only [lnS]at f)|refine sI ?_|refine qE_ ?_);conv=>whnf))
   exact⟨⟨_,rfl,rfl⟩,_,rfl⟩
  have i:e=0:=by simpa using i
  subst i
  refine qX ?_;intros
  refine aA (λg=> ?_) (λg=> ?_)
  ·have l:res=(([]:List Ax),280):=by rw [k,if_neg];rintro⟨h,_⟩;subst h;simp at g
   ((conv=>whnf);repeat ((first|(refine iP hty rfl (by with_unfolding_all exact rfl) rfl rfl ?_) |(intro f;try simp only [lnS]at f)|refine sI ?_|refine qE_ ?_);conv=>whnf))
   exact⟨⟨_,rfl,rfl⟩,_,rfl⟩
  have g:c=[]:=by
   rw [dF]at g
   exact List.length_eq_zero_iff.1 (by omega)
  subst g
  refine qZ ?_;intros
  by_cases j:a=bs
  ·subst j
   rw [decide_eq_true rfl]
   rw [if_pos ⟨rfl,rfl⟩]at k
   subst k
   refine qX ?_;intros
   exact⟨_, .refl _,_,rfl,rfl⟩
  ·have l:res=(([]:List Ax),280):=by rw [k,if_neg];rintro⟨_,h⟩;injection h with h5 h6;exact j h5
   rw [decide_eq_false j]
   ((conv=>whnf);repeat ((first|(refine iP hty rfl (by with_unfolding_all exact rfl) rfl rfl ?_) |(intro f;try simp only [lnS]at f)|refine sI ?_|refine qE_ ?_);conv=>whnf))
   exact⟨⟨_,rfl,rfl⟩,_,rfl⟩
 ·intro l vx vy n
  rw [l]
  obtain⟨s0,vx0,rfl,m⟩:=aG8 n
  obtain rfl:=List.length_eq_zero_iff.1 m
  refine qX ?_;intros
  exact⟨_,fR.pair (fR.wkd qB),_,rfl,rfl⟩
theorem kA (wr:List Ax->List UInt8×Int) (bs:List UInt8) (hb:bs.length<=1000000) (hwr: ∀x c,(rAs 9) bs=some (x,c)->Tri Tryz.prog 7 [.d (.sl 16 (x.map axR))] NG (λr=>r= .tup [.d (.sl 1 ((wr x).1.map aN)), .d (.int .i64 (wr x).2)])):
  Tri Tryz.prog 9 [.d (.sl 1 (bs.map aN))] NG (λr=> ∃x,x=(iV (rAs 9) wr ([]:List Ax) 280 bs).1/\r= .tup [.d (.sl 16 (x.map axR)), .d (.int .i64 (iV (rAs 9) wr ([]:List Ax) 280 bs).2)]):=by
 have e:=aCc wr bs hb hwr
 generalize iV (rAs 9) wr ([]:List Ax) 280 bs=res at *
 refine qG [] hty Tryz.func9 [0,2,3] ?_
 refine qX ?_;intros
 refine aL NG e ⟨rfl,rfl,trivial⟩ (λr b=> ?_)
 obtain⟨x,a,rfl⟩:=b
 refine qX ?_;intros
 rw [<-a]
 rfl
end
section
open Go.RowKit
section
variable {P:Program}
def aJc:List SV->List SV->Prop
 | [],[]=>True
 |a::l,b::m=>fR a b/\aJc l m
 |_,_=>False
theorem aJc.at: ∀(l m:List SV),aJc l m->l.length=m.length/\ ∀(j:Nat) (a b:SV),l[j]? =some a->m[j]? =some b->fR a b
 | [],[],_=>⟨rfl,by simp⟩
 |a::l,b::m,h=>by
  obtain⟨d,e⟩:=aJc.at l m h.2
  refine⟨by simp [d],λj x y hx c=> ?_⟩
  cases j with
  |zero=>simp at hx c;subst hx c;exact h.1
  |succ j=>exact e j x y (by simpa using hx) (by simpa using c)
theorem aJc.ok {w:World}{ρ:Env}{l m:List SV}{vs:Array Value}(h:aJc l m) (hv:cS w ρ l vs):cS w ρ m vs:=by
 obtain⟨a,d⟩:=aJc.at l m h
 refine⟨hv.1.trans a,λj b v hb hx=> ?_⟩
 have c:j < l.length:=by rw [a];exact(List.getElem?_eq_some_iff.1 hb).1
 exact d j _ b (List.getElem?_eq_getElem c) hb w ρ v (hv.2 j _ v (List.getElem?_eq_getElem c) hx)
theorem Tri.args {f:FuncId}{xs bs:List SV}{hp:Hp}{post:SV->Prop}(h:Tri P f bs hp post) (hs:aJc xs bs):Tri P f xs hp post:=
 λw ρ vs a b c=>h w ρ vs a (hs.ok b) c
theorem aF.frozA {pin:Pin}{fr:Fr}{hp:Hp}{f:FuncId}{K:SV->Hp->Prop}{id e z cap n:Nat}{rows:List (List D)}(hp':Hp) (ho:aP hp id=some (.mrow e z cap rows)) (hn:n=rows.length) (hsub:lU hp' hp) (hno:aP hp' id=none)
  (h:aF P pin fr hp' f [.d (.sl z rows)] K):aF P pin fr hp f [.mw id z n] K:=by
 intro E ρ w m b k q vs a
 obtain⟨S',t,o,l⟩:=k.froze ho hsub hno
 obtain⟨u,_⟩:=k.sat id _ ho
 refine h E _ w m b o (q.mono (λ_ _ _=>rfl) t λi _=>ρ.moved_withS S' i) vs ⟨a.1,λj s v g p=> ?_⟩
 cases j with
 |succ j=>simp at g
 |zero=>
  simp at g
  subst g
  have r:=a.2 0 _ v rfl p
  obtain⟨A,c,_,_,_,_,_,e2⟩:=r.mw_inv
  have:=e2 (hn.trans u.symm)
  subst this
  exact .d _ _ l
end
end
section
attribute [local irreducible] aK aF Tri aH YVC cG aT
open Go.RowKit
set_option maxRecDepth 10000
theorem bAy {a:Al}(h:24 < a.name.length):aQa a=([],1):=by
 have e:alE a=1:=by unfold alE;rw [if_pos h]
 unfold aQa;rw [e,if_neg (by decide)]
theorem bF5 {a:Al}(h:¬ 24 < a.name.length) (h2:cR a.axioms≠0):aQa a=([],cR a.axioms):=by
 have e:alE a=cR a.axioms:=by unfold alE;rw [if_neg h,if_pos h2]
 unfold aQa;rw [e,if_neg h2]
theorem bD8 {a:Al}(h:¬ 24 < a.name.length) (h2:cR a.axioms=0) (h3:128 < a.axioms.length\/256 < a.parts.length\/256 < a.path.length):aQa a=([],2):=by
 have e:alE a=2:=by unfold alE;rw [if_neg h,if_neg (by simpa using h2),if_pos h3]
 unfold aQa;rw [e,if_neg (by decide)]
theorem bF4 {a:Al}(h:¬ 24 < a.name.length) (h2:cR a.axioms=0) (h3:¬ (128 < a.axioms.length\/256 < a.parts.length\/256 < a.path.length)):aQa a=(wAl a,0):=by
 have e:alE a=0:=by unfold alE;rw [if_neg h,if_neg (by simpa using h2),if_neg h3]
 unfold aQa;rw [if_pos e]
theorem aQs {a:Al}(h:¬ 24 < a.name.length) (h2:cR a.axioms=0) (h3:¬ (128 < a.axioms.length\/256 < a.parts.length\/256 < a.path.length)):(wAl a).length<=1000000:=by
 have a1:=tW ((fM _).1 h2)
 have a2:a.axioms.length * 7000<=128 * 7000:=Nat.mul_le_mul_right _ (by omega)
 have a3:((a.parts.map wJ).flatten).length<=a.parts.length * 32:=rW λd _=>by rw [show (wJ d).length=32 from d.2];exact Nat.le_refl _
 have a4:((a.path.map wJ).flatten).length<=a.path.length * 32:=rW λd _=>by rw [show (wJ d).length=32 from d.2];exact Nat.le_refl _
 have b:(wJ a.base).length=32:=a.base.2
 have c:(wJ a.pub).length=32:=a.pub.2
 unfold wAl
 simp only [List.length_append,cY,fJ,b,c]
 unfold bZ
 simp only [List.length_append,aW]
 omega
theorem aAi (a:Al):Tri Tryz.prog 18 [.d (.agg (alR a))] NG (λr=>r= .tup [.d (.sl 1 ((aQa a).1.map aN)), .d (.int .i64 (aQa a).2)]):=by
 refine Tri.says ?_
 have n:=aGp a
 have h:=bAy (a:=a)
 have j:=bF5 (a:=a)
 have i:=bD8 (a:=a)
 have f:=bF4 (a:=a)
 have k:=aQs (a:=a)
 have e:=nQ a.axioms
 generalize wAl a=out at *
 generalize aQa a=res at *
 obtain⟨p,d1,g,q,ix,ps,l⟩:=a
 obtain⟨yl,o⟩:=d1
 obtain⟨y0,y1,y2,y3,y4,y5,y6,y7,y8,y9,y10,y11,y12,y13,y14,y15,y16,y17,y18,y19,y20,y21,y22,y23,y24,y25,y26,y27,y28,y29,y30,y31,rfl⟩:=aFv o
 obtain⟨zl,hz⟩:=q
 obtain⟨z0,z1,z2,z3,z4,z5,z6,z7,z8,z9,z10,z11,z12,z13,z14,z15,z16,z17,z18,z19,z20,z21,z22,z23,z24,z25,z26,z27,z28,z29,z30,z31,rfl⟩:=aFv hz
 dsimp only at h j i f k e
 have hla:(g.map axR).length=g.length:=List.length_map ..
 have hlp:(ps.map aBe).length=ps.length:=List.length_map ..
 have hlt:(l.map aBe).length=l.length:=List.length_map ..
 refine qG [] hty Tryz.func18 [0,1,2,3,4,8,13,32] ?_
 refine qX ?_;intros
 refine aA (λb=> ?_) (λb=> ?_)
 ·rw [h (by dsimp only at b;omega)]
  refine qX ?_;intros
  exact⟨_,pairN (.d .nil) _,rfl⟩
 have b:¬ 24 < p.length:=by dsimp only at b;omega
 ((conv=>whnf);repeat ((first|(refine aL NG e ⟨rfl,rfl,trivial⟩ (λr t=> ?_);subst t) |(intro s;try simp only [lnS]at s)|refine sI ?_|refine qE_ ?_);conv=>whnf))
 refine aC (λc=> ?_) (λc=> ?_)
 ·rw [j b c]
  refine qX ?_;intros
  exact⟨_,pairN (.d .nil) _,rfl⟩
 have c:cR g=0:=by simpa using c
 by_cases m:128 < g.length\/256 < ps.length\/256 < l.length
 ·rw [i b c m]
  clear h j i f k n e
  (repeat' first|(refine qW ?_;intros)|((conv=>whnf);first|refine dwR ?_|((first|refine aA ?_ ?_|refine aC ?_ ?_)<;>intro hb<;>(first|exact ddX hb|try simp only [lnS]at hb))|(refine aB ?_ ?_<;>intro hb<;>try exact dsX hb)))
  all_goals exact⟨_,pairN (.d .nil) _,rfl⟩
 ·rw [f b c m]
  have k:=k b c m
  clear h j i f e
  (repeat' first|(refine qW ?_;intros)|((conv=>whnf);first|refine dwR ?_|((first|refine aA ?_ ?_|refine aC ?_ ?_)<;>intro hb<;>(first|exact ddX hb|try simp only [lnS]at hb))|(refine aB ?_ ?_<;>intro hb<;>try exact dsX hb)))
  refine aF.ownH 4 104 67 5 1 rfl (bQ (by with_unfolding_all exact rfl)) (mF (by with_unfolding_all exact rfl)) ?_
  refine WrT.call n rfl [] (by rw [List.length_nil];omega) (by decide) rfl rfl ?_
  rw [List.nil_append]
  refine qX ?_;intros
  exact⟨_, .refl _,rfl⟩
theorem aHp:Tri Tryz.prog 39 [.d (.agg (qyR ⟨[],[]⟩))] NG (λr=>r= .tup [.d (.sl 1 (([]:List UInt8).map aN)), .d (.int .i64 210)]):=by
 have h1:Tri Tryz.prog 137 [.d (.agg (qyR ⟨[],[]⟩))] [] (λr=>r= .d (.int .i64 210)):=by
  refine qG [] hty Tryz.func137 [0,1,2,4,20,22,23,24,25,37] ?_
  (repeat' first|(refine qW ?_;intros)|((conv=>whnf);first|refine dwR ?_|((first|refine aA ?_ ?_|refine aC ?_ ?_)<;>intro hb<;>(first|exact ddX hb|try simp only [lnS]at hb))|(refine aB ?_ ?_<;>intro hb<;>try exact dsX hb)))
  rfl
 have h2:Tri Tryz.prog 81 [.d (.agg (qyR ⟨[],[]⟩)), .d .nil] [] (λr=>r= .d (.int .i64 210)):=by
  refine qG [] hty Tryz.func81 [0,1,2,4,6,8,10,14,17,18,19,20,24,25,26,27,33,40,43,44,45,46,52] ?_
  (repeat' first|(refine qW ?_;intros)|((conv=>whnf);first|refine dwR ?_|((first|refine aA ?_ ?_|refine aC ?_ ?_)<;>intro hb<;>(first|exact ddX hb|try simp only [lnS]at hb))|(refine aB ?_ ?_<;>intro hb<;>try exact dsX hb)))
  rfl
 refine Tri.says ?_
 refine qG [] hty Tryz.func39 [0,1,2,3,4,8] ?_
 (repeat' first|(refine qW ?_;intros)|((conv=>whnf);first|refine dwR ?_|((first|refine aA ?_ ?_|refine aC ?_ ?_)<;>intro hb<;>(first|exact ddX hb|try simp only [lnS]at hb))|(refine aB ?_ ?_<;>intro hb<;>try exact dsX hb)))
 exact⟨_,pairN (.d .nil) _,rfl⟩
end
section
attribute [local irreducible] aK aF Tri aH YVC cG aT vZ
open Go.RowKit
set_option maxRecDepth 10000
theorem gC {α β:Type}{t:Tr α}{f:α->Tr β}{s s1:RS}{x:α}(h:t s=(x,s1)):cJ t f s=f x s1:=by unfold cJ;rw [h]
theorem bFz (s:RS):Tri Tryz.prog 27 [.ptr 0 0] [(0,rfO s)] (λr=>r= .d (.bool (!s.2 && decide (s.1=[])))):=by
 obtain⟨b,d⟩:=s
 have a:=dF b
 refine qG [] hty Tryz.func27 [0,2] ?_
 cases d
 ·refine qX ?_;intros
  rw [a]
  by_cases h:b=[]
  ·subst h
   (repeat' first|(refine qW ?_;intros)|((conv=>whnf);first|refine dwR ?_|((first|refine aA ?_ ?_|refine aC ?_ ?_)<;>intro hb<;>(first|exact ddX hb|try simp only [lnS]at hb))|(refine aB ?_ ?_<;>intro hb<;>try exact dsX hb)))
   all_goals rfl
  ·have hl:¬ b.length=0:= λe=>h (List.length_eq_zero_iff.1 e)
   rw [show decide (b=[])=false from decide_eq_false h]
   (repeat' first|(refine qW ?_;intros)|((conv=>whnf);first|refine dwR ?_|((first|refine aA ?_ ?_|refine aC ?_ ?_)<;>intro hb<;>(first|exact ddX hb|try simp only [lnS]at hb))|(refine aB ?_ ?_<;>intro hb<;>try exact dsX hb)))
   all_goals (refine bG ?_;simp;omega)
 ·(repeat' first|(refine qW ?_;intros)|((conv=>whnf);first|refine dwR ?_|((first|refine aA ?_ ?_|refine aC ?_ ?_)<;>intro hb<;>(first|exact ddX hb|try simp only [lnS]at hb))|(refine aB ?_ ?_<;>intro hb<;>try exact dsX hb)))
  all_goals rfl
end
section
attribute [local irreducible] aK aF Tri aH YVC cG aT
open Go.RowKit
set_option maxRecDepth 10000
theorem bCm:RfT 57 [] tA (λx=> .d (.agg (axR x))):=by
 intro s hb
 have A:tA s=cJ zO (λk=>cJ aC0 λo=>cJ (tC 9) λl=>cJ (tC 9) λr=>cJ (kY 4 iW) λrs=>cJ iW λe=>cJ iW λC=>wE iW λa=>(⟨k,o,l,r,rs,e,C,a⟩:Ax)) s:=rfl
 rw [A]
 clear A
 refine aG false [] hty Tryz.func57 rfl (kp [0,2,3,4]) 100 (by simp [Tryz.f57]) ?_
 refine qX ?_;intros
 refine RfT.call bDp rfl (λ_=>rfl) s hb rfl ?_
 have y:=jK 1 s
 have w:=aT1 s
 rcases h1:jO 1 s with⟨kd,e⟩
 rw [h1]at y w
 rw [gC (show zO s=((kd:Int),e)by unfold zO wE;rw [h1])]
 dsimp only at y w |-
 refine qX ?_;intros
 rw [aKj w]
 refine qX ?_;intros
 refine RfT.call bDp rfl (λ_=>rfl) e (by omega) rfl ?_
 have z:=jK 1 e
 rcases h2:jO 1 e with⟨o,b,fl⟩
 rw [h2]at z
 have B:aC0 e=(decide ((o:Int)=1),(b,fl || decide (1 < (o:Int)))):=by unfold aC0 zO wE;rw [h2]
 rw [gC B]
 clear B
 dsimp only at z |-
 cases fl
 ·rw [Bool.false_or]
  refine qX ?_;intros
  refine RfT.call (zB 9 0 (by decide) (by decide)) rfl (λ_=>rfl) (b,decide (1 < (o:Int))) (qO) rfl ?_
  have q:=vB 9 (b,decide (1 < (o:Int)))
  rcases h3:tC 9 (b,decide (1 < (o:Int)))with⟨le,a⟩
  rw [h3]at q
  rw [gC h3]
  dsimp only at q |-
  rw [aJ le]
  refine qX ?_;intros
  refine RfT.call (zB 9 0 (by decide) (by decide)) rfl (λ_=>rfl) a (by omega) rfl ?_
  have j:=vB 9 a
  rcases h4:tC 9 a with⟨h,g⟩
  rw [h4]at j
  rw [gC h4]
  dsimp only at j |-
  rw [aJ h]
  refine qX ?_;intros
  refine RfT.call aYm rfl (λ_=>rfl) g (by omega) rfl ?_
  have t:=wV fB 4 g
  rcases h5:kY 4 iW g with⟨rs,f⟩
  rw [h5]at t
  rw [gC h5]
  dsimp only at t |-
  refine qX ?_;intros
  refine RfT.call aG2 rfl (λ_=>rfl) f (by omega) rfl ?_
  have u:=fB f
  rcases h6:iW f with⟨p,i⟩
  rw [h6]at u
  rw [gC h6]
  dsimp only at u |-
  refine qX ?_;intros
  refine RfT.call aG2 rfl (λ_=>rfl) i (by omega) rfl ?_
  have n:=fB i
  rcases h7:iW i with⟨m,c⟩
  rw [h7]at n
  rw [gC h7]
  dsimp only at n |-
  refine qX ?_;intros
  refine RfT.call aG2 rfl (λ_=>rfl) c (by omega) rfl ?_
  have v:wE iW (λa=>(⟨(kd:Int),decide ((o:Int)=1),le,h,rs,p,m,a⟩:Ax)) c=(⟨(kd:Int),decide ((o:Int)=1),le,h,rs,p,m,(iW c).1⟩,(iW c).2):=rfl
  rw [v]
  generalize (iW c).1=a8 at *
  generalize (iW c).2=s8 at *
  refine qX ?_;intros
  exact rfl
 ·rw [Bool.true_or]
  refine qX ?_;intros
  refine RfT.call (zB 9 0 (by decide) (by decide)) rfl (λ_=>rfl) (b,true) (qO) rfl ?_
  have q:=vB 9 (b,true)
  rcases h3:tC 9 (b,true)with⟨le,a⟩
  rw [h3]at q
  rw [gC h3]
  dsimp only at q |-
  rw [aJ le]
  refine qX ?_;intros
  refine RfT.call (zB 9 0 (by decide) (by decide)) rfl (λ_=>rfl) a (by omega) rfl ?_
  have j:=vB 9 a
  rcases h4:tC 9 a with⟨h,g⟩
  rw [h4]at j
  rw [gC h4]
  dsimp only at j |-
  rw [aJ h]
  refine qX ?_;intros
  refine RfT.call aYm rfl (λ_=>rfl) g (by omega) rfl ?_
  have t:=wV fB 4 g
  rcases h5:kY 4 iW g with⟨rs,f⟩
  rw [h5]at t
  rw [gC h5]
  dsimp only at t |-
  refine qX ?_;intros
  refine RfT.call aG2 rfl (λ_=>rfl) f (by omega) rfl ?_
  have u:=fB f
  rcases h6:iW f with⟨p,i⟩
  rw [h6]at u
  rw [gC h6]
  dsimp only at u |-
  refine qX ?_;intros
  refine RfT.call aG2 rfl (λ_=>rfl) i (by omega) rfl ?_
  have n:=fB i
  rcases h7:iW i with⟨m,c⟩
  rw [h7]at n
  rw [gC h7]
  dsimp only at n |-
  refine qX ?_;intros
  refine RfT.call aG2 rfl (λ_=>rfl) c (by omega) rfl ?_
  have v:wE iW (λa=>(⟨(kd:Int),decide ((o:Int)=1),le,h,rs,p,m,a⟩:Ax)) c=(⟨(kd:Int),decide ((o:Int)=1),le,h,rs,p,m,(iW c).1⟩,(iW c).2):=rfl
  rw [v]
  generalize (iW c).1=a8 at *
  generalize (iW c).2=s8 at *
  refine qX ?_;intros
  exact rfl
theorem bAg:RfT 26 [] (kY 68 tA) (λl=> .d (.sl 16 (l.map axR))):=by
 intro s hb
 have v:kY 68 tA s=sF tA (dS 68 s).1 (dS 68 s).2:=rfl
 rw [v]
 clear v
 have t:=kK 68 s
 have k:=yL (least:=68) s (by decide)
 refine aF.says ?_
 refine aG false [] hty Tryz.func26 rfl (kp [0,2,3,4,5,18]) 100 (by simp [Tryz.f26]) ?_
 refine qX ?_;intros
 refine RfT.call (aXd 68 (by decide) (by decide)) rfl (λ_=>rfl) s hb rfl ?_
 generalize (dS 68 s).1=n at *
 generalize (dS 68 s).2=s2 at *
 have r:s2.1.length<=1000000:=Nat.le_trans t hb
 have hn:n<=1000000:=Nat.le_trans k hb
 clear t k
 refine qX ?_;intros
 refine aD hty (λy:List Ax×RS=>([(0, .ptr 3 0),(3, .osl 106 16 (y.1.map axR)),(4, .d (.int .i64 n)),(5, .d (.int .i64 y.1.length))],[(106, .own 48 16 (y.1.map axR).length),(3,rfO y.2)])) (λy=>sF tA y.1.length s2=y/\y.1.length<=n/\y.2.1.length<=1000000) (λy=>n - y.1.length) ([],s2) ⟨rfl,Nat.zero_le _,r⟩ ⟨qB,qB⟩ ?_
 rintro⟨l,s⟩ ⟨m,u,p⟩
 dsimp only at m u p
 obtain⟨b,d⟩:=s
 have j:(l.map axR).length=l.length:=List.length_map ..
 have hb63:(l.map axR).length+1<=9223372036854775807:=by rw [j];omega
 have hb48:((l.map axR).length+1)* 200<=140737488355328:=by rw [j];omega
 by_cases i:l.length < n/\d=false
 ·obtain⟨i,rfl⟩:=i
  have f:=aYf (b,false)
  have o:=uC tA l.length s2 l (b,false) m rfl rfl
  refine qX ?_;intros
  refine aA (λg=> ?_) (λg=>absurd i (by dsimp only at g;omega))
  clear g
  refine qX ?_;intros
  refine RfT.call (e:= λx=>SV.d (.agg (axR x))) bCm rfl (λ_=>rfl) (b,false) p rfl ?_
  generalize (tA (b,false)).1=x at *
  generalize (tA (b,false)).2=s3 at *
  rw [aNk]
  refine qZ ?_;intros
  refine⟨(l++[_],s3),⟨by dsimp only;rw [List.length_append];exact o,by dsimp only;rw [List.length_append,List.length_singleton];omega,Nat.le_trans f p⟩,by dsimp only;rw [List.length_append,List.length_singleton];omega, ?_⟩
  dsimp only
  rw [List.map_append,List.length_append,List.length_append]
  exact⟨qB,qB⟩
 have c:sF tA n s2=(l,(b,d)):=by
  by_cases e:l.length=n
  ·rw [<-e];exact m
  ·have w:d=true:=by
    cases d with
    |true=>rfl
    |false=>exact absurd ⟨by omega,rfl⟩ i
   exact uB tA l.length n s2 l (b,d) m w u
 rw [c]
 have a:l.length < n->d=true:= λh=>by
  cases d with
  |true=>rfl
  |false=>exact absurd ⟨h,rfl⟩ i
 refine qX ?_;intros
 refine aA (λg=> ?_) (λg=> ?_)
 ·have q:(!d)=false:=by rw [a (by dsimp only at g;omega)];rfl
  refine qX ?_;intros
  rw [q]
  refine qX ?_;intros
  exact⟨_,fR.osl,rfl,rfl⟩
 ·refine qX ?_;intros
  exact⟨_,fR.osl,rfl,rfl⟩
end
section
attribute [local irreducible] aK aF Tri aH YVC cG aT vZ
open Go.RowKit
set_option maxRecDepth 10000
theorem xZ (bs:List UInt8) (hb:bs.length<=1000000):
  Tri Tryz.prog 10 [.d (.sl 1 (bs.map aN))] [] (λr=> ∃x,x=(iV aZq kT ([]:List Ax) 280 bs).1/\r= .tup [.d (.sl 16 (x.map axR)), .d (.int .i64 (iV aZq kT ([]:List Ax) 280 bs).2)]):=by
 have b:=bFr bBr kT ([]:List Ax) 280 bs
 generalize iV aZq kT ([]:List Ax) 280 bs=res at *
 refine Tri.says ?_
 refine qG [] hty Tryz.func10 [0,2,3,4,5,6,7,31] ?_
 refine qX ?_;intros
 refine RfT.call bAg rfl (λ_=>rfl) (bs,false) hb rfl ?_
 have c:=aY7 (s:=(bs,false)) (by exact hb)
 rw [show kY 68 tA=tAs from rfl]
 rcases h3:tAs (bs,false)with⟨o,g⟩
 rw [h3]at c b
 clear h3
 dsimp only at b c |-
 have p:=sW o c
 generalize kT o=ae at *
 obtain⟨a,e⟩:=ae
 have t:=Tri.at (bFz g) rfl rfl (λs l=>by rw [l];rfl)
 have q:=lL a
 have n:=lL bs
 clear c
 dsimp only at p b
 refine qX ?_;intros
 refine aL [] p trivial (λr l=> ?_)
 subst l
 refine qX ?_;intros
 refine aL [(10,rfO g)] (t 10) ⟨rfl,trivial⟩ (λr l=> ?_)
 subst l
 cases hend:(!g.2 && decide (g.1=[]))
 ·have f:res=([],280):=by
   rw [b,if_pos]
   rw [Bool.and_eq_false_iff]at hend
   rcases hend with h|h
   ·exact .inl (by simpa using h)
   ·exact .inr (.inl (of_decide_eq_false h))
  rw [f]
  refine qX ?_;intros
  exact⟨_,fR.pair (fR.wkd qB),_,rfl,rfl⟩
 rw [Bool.and_eq_true]at hend
 have k:g.2=false:=by simpa using hend.1
 have i:g.1=[]:=of_decide_eq_true hend.2
 refine qX ?_;intros
 refine aC (λj=> ?_) (λj=> ?_)
 ·have f:res=([],280):=by
   rw [b,if_pos]
   refine .inr (.inr λh=>j ?_)
   injection h
  rw [f]
  refine qX ?_;intros
  exact⟨_,fR.pair (fR.wkd qB),_,rfl,rfl⟩
 have j:e=0:=by simpa using j
 subst j
 refine qX ?_;intros
 rw [q,n]
 by_cases m:a=bs
 ·have f:res=(o,0):=by
   rw [b,if_neg]
   rintro(h|h|h)
   ·rw [k]at h;cases h
   ·exact h i
   ·exact h (by rw [m])
  rw [f]
  (repeat' first|(refine qW ?_;intros)|((conv=>whnf);first|refine dwR ?_|((first|refine aA ?_ ?_|refine aC ?_ ?_)<;>intro hb<;>(first|exact ddX hb|try simp only [lnS]at hb))|(refine aB ?_ ?_<;>intro hb<;>try exact dsX hb)))
  all_goals first|exact absurd m (by assumption)|exact⟨_, .refl _,_,rfl,rfl⟩
 ·have f:res=([],280):=by
   rw [b,if_pos]
   refine .inr (.inr λh=>m ?_)
   injection h
  rw [f]
  (repeat' first|(refine qW ?_;intros)|((conv=>whnf);first|refine dwR ?_|((first|refine aA ?_ ?_|refine aC ?_ ?_)<;>intro hb<;>(first|exact ddX hb|try simp only [lnS]at hb))|(refine aB ?_ ?_<;>intro hb<;>try exact dsX hb)))
  all_goals first|exact absurd (by assumption) m|exact⟨_,fR.pair (fR.wkd qB),_,rfl,rfl⟩
end
section
attribute [local irreducible] aK aF Tri aH YVC cG aT
open Go.RowKit
set_option maxRecDepth 10000
def cmX:Cm:=⟨258,[],aXi,[]⟩
def alX:Al:=⟨[120],aXi,[],aXi,0,[],[]⟩
theorem aLh:kT []=([0,0,0,0],0):=by kernel_rfl
theorem bBd:aQ9 cmX=([0,0,0,0,0,0,1,2]++List.replicate 40 0,0):=by kernel_rfl
theorem bBe:aQa alX=([0,0,0,1,120]++List.replicate 84 0,0):=by kernel_rfl
theorem bEc:rAs 9 [0,0,0,0]=some ([],[]):=by kernel_rfl
theorem bEb:rAs 9 [0,0,0,0,0]=some ([],[0]):=by kernel_rfl
theorem bBx:rQy [0,0,0,0,0,0,0,0]=some (⟨[],[]⟩,[]):=by kernel_rfl
theorem bAk:iV (rAs 9) kT [] 280 [0,0,0,0]=([],0):=aIr aLh bEc
theorem bAj:iV (rAs 9) kT [] 280 [0,0,0,0,0]=([],280):=aXk bEb (List.cons_ne_nil _ _)
def bFd:Qy->List UInt8×Int:= λ_=>([],210)
theorem bAi:iV rQy bFd qy0 280 [0,0,0,0,0,0,0,0]=(qy0,280):=by
 rw [aBh bBx,if_neg]
 rintro⟨_,h⟩
 injection h with _ h
 exact absurd h (by decide)
theorem aP5:Tri Tryz.prog 5 [] NG (λr=>r= .d (.bool true)):=by
 have b:Tri Tryz.prog 7 [.d .nil] NG _:=Tri.args (gG []) ⟨fR.nil,trivial⟩
 rw [aLh]at b
 have h: ∀id,Tri Tryz.prog 9 [.osl id 1 (([0,0,0,0]:List UInt8).map aN)] NG (λr=>r= .tup [.d (.sl 16 []), .d (.int .i64 0)]):= λid=>
  (Tri.args (xs:=[.osl id 1 (([0,0,0,0]:List UInt8).map aN)]) (kA kT [0,0,0,0] (by decide) λx _ _=>gG x) ⟨fR.osl,trivial⟩).mono (by rw [bAk];rintro r ⟨x,rfl,rfl⟩;rfl)
 have i: ∀id,Tri Tryz.prog 9 [.osl id 1 (([0,0,0,0,0]:List UInt8).map aN)] NG (λr=>r= .tup [.d (.sl 16 []), .d (.int .i64 280)]):= λid=>
  (Tri.args (xs:=[.osl id 1 (([0,0,0,0,0]:List UInt8).map aN)]) (kA kT [0,0,0,0,0] (by decide) λx _ _=>gG x) ⟨fR.osl,trivial⟩).mono (by rw [bAj];rintro r ⟨x,rfl,rfl⟩;rfl)
 have j:Tri Tryz.prog 16 [.d (.sl 1 (([0,0,0,0,0,0,0,0]:List UInt8).map aN))] NG (λr=>r= .tup [.d (.agg (qyR qy0)), .d (.int .i64 280)]):=
  (aC2 bFd [0, 0, 0, 0, 0, 0, 0, 0] (by decide) (λx c e => by
   rw [bBx]at e
   injection e with e
   injection e with e _
   subst e
   exact aHp)).mono (by rw [bAi];rintro r ⟨x,rfl,rfl⟩;rfl)
 have f:Tri Tryz.prog 17 [.d (.agg ([.int .i64 258, .nil]++aBe aXi++[.str []]))] [] _:=Tri.args (aHq cmX) ⟨fR.wkd qB,trivial⟩
 rw [bBd]at f
 have g:Tri Tryz.prog 18 [.d (.agg ([.str [120]]++aBe aXi++[.nil]++aBe aXi++[.int .i64 0, .nil, .nil]))] NG _:=Tri.args (aAi alX) ⟨fR.wkd qB,trivial⟩
 rw [bBe]at g
 refine qG [] hty Tryz.func5 [0,1,2,3,4,6,8,9,10,11,12] ?_
 refine qX ?_;intros
 refine aL NG b ⟨rfl,rfl,trivial⟩ (λr a=> ?_)
 subst a
 refine qX ?_;intros
 refine aL NG (h _) ⟨rfl,rfl,trivial⟩ (λr a=> ?_)
 subst a
 refine qX ?_;intros
 refine aL NG (i _) ⟨rfl,rfl,trivial⟩ (λr a=> ?_)
 subst a
 refine qX ?_;intros
 refine aF.frozA (rows:=([0,0,0,0,0,0,0,0]:List UInt8).map aN) NG rfl rfl ⟨rfl,rfl,trivial⟩ rfl ?_
 refine aL NG j ⟨rfl,rfl,trivial⟩ (λr a=> ?_)
 subst a
 refine qX ?_;intros
 refine aL [] f trivial (λr a=> ?_)
 subst a
 refine qX ?_;intros
 refine aL NG g ⟨rfl,rfl,trivial⟩ (λr a=> ?_)
 subst a
 refine qX ?_;intros
 rfl
end
section
open Go.RowKit
section
variable {P:Program}
end
end
section
attribute [local irreducible] aK aF Tri aH YVC cG aT vZ
open Go.RowKit
set_option maxRecDepth 10000
theorem aTx (l:List UInt8):vM (.int .u8) (l.map λc=>D.int .u8 c.toNat) (l.map λc=>D.int .u8 c.toNat)=some true:=by
 induction l with
 |nil=>rfl
 |cons c l ih=>
  rw [List.map_cons,vM,ih]
  simp [aIh]
end
section
attribute [local irreducible] aK aF Tri aH YVC cG aT
set_option maxRecDepth 10000
structure Sm6 (x:Ax):Prop where
 l:aM x.left<=1000000
 r:aM x.right<=1000000
 n:x.roles.length<=1000000
theorem bBq {x:Ax}(h:aZ x=0):Sm6 x:=by
 obtain⟨h1,h2,h3⟩:=fP h
 exact⟨by omega,by omega,by omega⟩
theorem aL7 (x:Ax) (h:Sm6 x):Tri Tryz.prog 31 [.d (.agg (axR x)), .d (.agg (axR x))] [] (λr=>r= .d (.bool true)):=by
 have c:=gR x x h.l h.r h.n h.l h.r h.n
 rw [show fW x x=0 from aE7.2 rfl]at c
 refine qG [2,3] hty Tryz.func31 [0,1,2,3,4] ?_
 (repeat' first|(refine qW ?_;intros)|((conv=>whnf);first|refine dwR ?_|((first|refine aA ?_ ?_|refine aC ?_ ?_)<;>intro hb<;>(first|exact ddX hb|try simp only [lnS]at hb))|(refine aB ?_ ?_<;>intro hb<;>try exact dsX hb)))
 all_goals first
  |rfl
  |(refine bG ?_;simp)
  |(exfalso;simp_all;done)
theorem aJ5 (l:List Ax) (h: ∀x∈l,Sm6 x):Tri Tryz.prog 13 [.d (.sl 16 (l.map axR)), .d (.sl 16 (l.map axR))] [] (λr=>r= .d (.bool true)):=by
 refine qG [] hty Tryz.func13 [0,1,4,5,10,14,26] ?_
 refine qX ?_;intros
 refine aC (λf=> ?_) (λf=> ?_)
 ·exact absurd rfl f
 refine qX ?_;intros
 refine aD hty (λj:Nat=>([(0, .d (.sl 16 (l.map axR))),(1, .d (.sl 16 (l.map axR))),(5, .d (.int .i64 j))],[])) (λj=>j<=l.length) (λj=>l.length - j) 0 (by omega) ⟨qB,trivial⟩ ?_
 rintro j hj
 refine qX ?_;intros
 refine aA (λe=> ?_) (λe=> ?_)
 ·have a:j < l.length:=by have e:(j:Int) < ((l.map axR).length:Nat):=e;rw [List.length_map]at e;omega
  have b:(l.map axR)[(j:Int).toNat]? =some (axR l[j]):=bA a
  have c:=aL7 l[j] (h _ (List.getElem_mem a))
  generalize l[j]=x at b c
  (repeat' first|(refine qW ?_;intros)|((conv=>whnf);first|refine dwR ?_|((first|refine aA ?_ ?_|refine aC ?_ ?_)<;>intro hb<;>(first|exact ddX hb|try simp only [lnS]at hb))|(refine aB ?_ ?_<;>intro hb<;>try exact dsX hb)))
  exact⟨j+1,qO,qO,⟨qB,qB⟩⟩
 ·(repeat' first|(refine qW ?_;intros)|((conv=>whnf);first|refine dwR ?_|((first|refine aA ?_ ?_|refine aC ?_ ?_)<;>intro hb<;>(first|exact ddX hb|try simp only [lnS]at hb))|(refine aB ?_ ?_<;>intro hb<;>try exact dsX hb)))
  rfl
end
section
end
section
attribute [local irreducible] aK aF Tri aH YVC cG aT
open Go.RowKit
set_option maxRecDepth 10000
end
section
open Go.RowKit
section
variable {P:Program}
end
end
section
attribute [local irreducible] aK aF Tri aH YVC cG aT
open Go.RowKit
set_option maxRecDepth 10000
theorem aXc (bs:List UInt8) (l:List Ax) (hl: ∀x∈l,SzAx x):Tri Tryz.prog 6 [.d (.sl 1 (bs.map aN)), .d (.sl 16 (l.map axR))] [] (λr=>r= .d (.bool (decide (bs.length<=6000) && (decide ((l.length:Int)<=12) && l.all aCb)))):=by
 have a:=dF bs
 have hf:=aCa l 12 hl
 generalize (decide ((l.length:Int)<=12) && l.all aCb)=v at *
 refine qG [] hty Tryz.func6 [0,1,4] ?_
 refine qX ?_;intros
 rw [a]
 by_cases h:bs.length<=6000
 ·rw [decide_eq_true h]
  (repeat' first|(refine qW ?_;intros)|((conv=>whnf);first|refine dwR ?_|((first|refine aA ?_ ?_|refine aC ?_ ?_)<;>intro hb<;>(first|exact ddX hb|try simp only [lnS]at hb))|(refine aB ?_ ?_<;>intro hb<;>try exact dsX hb)))
  all_goals first|rfl|(exfalso;omega)
 ·rw [decide_eq_false h]
  (repeat' first|(refine qW ?_;intros)|((conv=>whnf);first|refine dwR ?_|((first|refine aA ?_ ?_|refine aC ?_ ?_)<;>intro hb<;>(first|exact ddX hb|try simp only [lnS]at hb))|(refine aB ?_ ?_<;>intro hb<;>try exact dsX hb)))
  all_goals first|rfl|(exfalso;omega)
end
section
attribute [local irreducible] aK aF Tri aH YVC cG aT vZ
open Go.RowKit
set_option maxRecDepth 10000
theorem bAr {l:List Ax}(h:(kT l).2=0): ∀x∈l,Sm6 x:=by
 have b:kT l=((kT l).1,0):=by rw [<-h]
 obtain⟨a,_⟩:=aQk b
 exact λx hx=>bBq ((aBp a).1 x hx)
theorem aXl (bs:List UInt8): ∀x∈(iV (rAs 9) kT ([]:List Ax) 280 bs).1,Sm6 x:=by
 by_cases h:(iV (rAs 9) kT ([]:List Ax) 280 bs).2=0
 ·have d:=(bCq (rd:=rAs 9) (wr:=kT) (zero:=([]:List Ax)) (bad:=280) (b:=bs) (by decide) h).1
  exact bAr (by rw [d])
 ·have e:(iV (rAs 9) kT ([]:List Ax) 280 bs).1=[]:=by
   unfold iV at h |-
   split
   ·split
    ·rename_i a c;simp [a,c]at h
    ·rfl
   ·rfl
  rw [e]
  intro x hx
  cases hx
theorem aBq (l:List Ax) (bs:List UInt8) (hl: ∀x∈l,SzAx x):Tri Tryz.prog 3 [.d (.sl 16 (l.map axR)), .d (.sl 1 (bs.map aN))] NK (λr=>r= .d (.bool true)):=by
 have p:=aXc bs l hl
 have o:=gG l
 have ha:=lL (kT l).1
 have u:=aJ5 (iV (rAs 9) kT ([]:List Ax) 280 bs).1 (aXl bs)
 have s:=aWt l
 have m:= λh=>kA kT bs h (λx _ _=>gG x)
 have j:= λh=>xZ bs h
 have e2:iV aZq kT ([]:List Ax) 280 bs=iV (rAs 9) kT ([]:List Ax) 280 bs:=bAh (λy d h=>by have:=aZp h [];rwa [List.append_nil]at this) (λy d h=>by have:=bBz h [];rwa [List.append_nil]at this) bs
 rw [e2]at j
 clear e2
 refine qG [] hty Tryz.func3 [0,1,4,5,6,7,8,9,10,11,12,13,14,15,16,18,22] ?_
 refine qX ?_;intros
 refine aL NG aP5 ⟨rfl,rfl,trivial⟩ (λr f=> ?_)
 subst f
 refine qX ?_;intros
 refine aL [] p trivial (λr f=> ?_)
 subst f
 by_cases i:(decide (bs.length<=6000) && (decide ((l.length:Int)<=12) && l.all aCb))=true
 ·rw [i]
  simp only [Bool.and_eq_true,decide_eq_true_eq,List.all_eq_true]at i
  obtain⟨v,t,n⟩:=i
  have e: ∀x∈l,SmA x:= λx hx=>by
   obtain⟨a,b,c⟩:=aTw (n x hx)
   exact⟨by omega,by omega,by omega⟩
  have q:=sW l (λx hx=>⟨(e x hx).1,(e x hx).2.1⟩)
  have w:=aW6 l e (by omega)
  have g:bs.length<=1000000:=by omega
  have m:=(m g).mono (post':= λr=>r= .tup [.d (.sl 16 ((iV (rAs 9) kT ([]:List Ax) 280 bs).1.map axR)), .d (.int .i64 (iV (rAs 9) kT ([]:List Ax) 280 bs).2)]) (λr h=>by obtain⟨x,rfl,k⟩:=h;exact k)
  have j:=(j g).mono (post':= λr=>r= .tup [.d (.sl 16 ((iV (rAs 9) kT ([]:List Ax) 280 bs).1.map axR)), .d (.int .i64 (iV (rAs 9) kT ([]:List Ax) 280 bs).2)]) (λr h=>by obtain⟨x,rfl,k⟩:=h;exact k)
  clear v t n e hl
  generalize (idF l).1=dg at *
  obtain⟨y,rfl⟩:=aU1 dg
  have A:(aBe (mkD y)).length=32:=aXh _
  have z:vM (.int .u8) (aBe (mkD y)) (aBe (mkD y))=some true:=aTx _
  generalize (idF l).2=de at *
  generalize (kT l).1=w1 at *
  generalize (kT l).2=w2 at *
  generalize (iV (rAs 9) kT ([]:List Ax) 280 bs).1=d1 at *
  generalize (iV (rAs 9) kT ([]:List Ax) 280 bs).2=d2 at *
  (repeat' first|(refine qW ?_;intros)|((conv=>whnf);first|(refine aL NG o ⟨rfl,rfl,trivial⟩ (λr f=> ?_);subst f)|refine qT q ?_|(refine aL NG m ⟨rfl,rfl,trivial⟩ (λr f=> ?_);subst f)|refine qT j ?_|refine qT u ?_|(refine aL NK s ⟨rfl,rfl,rfl,trivial⟩ (λr f=> ?_);subst f)|refine qT w ?_|(refine bAn hty rfl (by with_unfolding_all exact rfl) rfl (by with_unfolding_all exact rfl) rfl rfl (by with_unfolding_all kernel_rfl) rfl rfl A z ?_)|refine dwR ?_|((first|refine aA ?_ ?_|refine aC ?_ ?_)<;>intro hb<;>(first|exact ddX hb|try simp only [lnS]at hb))|(refine aB ?_ ?_<;>intro hb<;>try exact dsX hb)))
  all_goals first|rfl|(refine bG ?_;simp)
 ·rw [Bool.not_eq_true]at i
  rw [i]
  (repeat' first|(refine qW ?_;intros)|((conv=>whnf);first|refine dwR ?_|((first|refine aA ?_ ?_|refine aC ?_ ?_)<;>intro hb<;>(first|exact ddX hb|try simp only [lnS]at hb))|(refine aB ?_ ?_<;>intro hb<;>try exact dsX hb)))
  all_goals rfl
end
end Go.Proofs.YtbobcfjlbcgchaaGreatDoor
