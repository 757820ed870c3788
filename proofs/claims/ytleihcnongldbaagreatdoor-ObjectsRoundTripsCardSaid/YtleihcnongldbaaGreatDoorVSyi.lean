/-
  Terms: the order of concepts: compare and Compare. Terms: Compare. Terms: CompareAxiom. Terms: the reference's SameList, Same, SameAxiom. Terms: the reference's Same. Terms: the reference's SameAxiom. Terms: the reference's SameNames. Terms: the reference's count and Few. Terms: the reference's FewAxiom. Terms: the types that come in, what their data are, and what the laid variables hold. More operations: a slice as a pointer to an array; a value in an interface.
  Conditions: none.
-/
import Derived.Test.YtleihcnongldbaaGreatDoorVSyb
import Derived.Test.YtleihcnongldbaaGreatDoorVSna
import Derived.Test.YtleihcnongldbaaGreatDoorRows
import Derived.Test.YtleihcnongldbaaGreatDoorVLd
import Derived.LaidHandle
import Derived.MakeChecks
import Derived.Test.YtleihcnongldbaaGreatDoorVA1
set_option linter.unnecessarySimpa false
set_option linter.unusedSectionVars false
set_option linter.unusedSimpArgs false
set_option linter.unusedVariables false
set_option maxHeartbeats 8000000
namespace Go.Proofs.YtleihcnongldbaaGreatDoor
open Go.Proofs
set_option maxRecDepth 10000
theorem Tri.osl {P:Program}{f:FuncId}{id z:Nat}{rows:List (List D)}{post:SV->Prop}(h:Tri P f [.d (.sl z rows)] [] post):Tri P f [.osl id z rows] [] post:=by
 unfold Tri at h |-
 intro w ρ vs a b c
 refine h w ρ vs a ⟨b.1,λj s v hs hv=> ?_⟩ (λid o ho=>by cases ho)
 match j,hs with
 | 0,hs=>
  injection hs with hs;subst hs
  exact .d _ _ (b.2 0 _ v rfl hv).osl_inv.1
attribute [local irreducible] aO aH Tri aG YVC cL bB
end Go.Proofs.YtleihcnongldbaaGreatDoor
namespace Go.Proofs.YtleihcnongldbaaGreatDoor
open Go.Proofs
set_option maxRecDepth 10000
attribute [local irreducible] aO aH Tri aG YVC cL bB
end Go.Proofs.YtleihcnongldbaaGreatDoor
namespace Go.Proofs.YtleihcnongldbaaGreatDoor
open Go.Proofs
set_option maxRecDepth 10000
attribute [local irreducible] aO aH Tri aG YVC cL bB
def qL (x y:Ax):Int:=orF [jX (fH x) (fH y),jX x.kind y.kind]
def tU (x y:Ax):Int:=orF [cM x.roles y.roles,fB x.role y.role,fB x.a y.a,fB x.b y.b]
def aDn (x y:Ax):Int:=
 if qL x y≠0 then qL x y
 else if tP x.left y.left≠0 then tP x.left y.left
 else if tP x.right y.right≠0 then tP x.right y.right
 else tU x y
end Go.Proofs.YtleihcnongldbaaGreatDoor
namespace Go.Proofs.YtleihcnongldbaaGreatDoor
open Go.Proofs
set_option maxRecDepth 10000
attribute [local irreducible] aO aH Tri aG YVC cL bB
end Go.Proofs.YtleihcnongldbaaGreatDoor
namespace Go.Proofs.YtleihcnongldbaaGreatDoor
open Go.Proofs
set_option maxRecDepth 10000
attribute [local irreducible] aO aH Tri aG YVC cL bB
end Go.Proofs.YtleihcnongldbaaGreatDoor
namespace Go.Proofs.YtleihcnongldbaaGreatDoor
open Go.Proofs
set_option maxRecDepth 10000
attribute [local irreducible] aO aH Tri aG YVC cL bB
end Go.Proofs.YtleihcnongldbaaGreatDoor
namespace Go.Proofs.YtleihcnongldbaaGreatDoor
open Go.Proofs
set_option maxRecDepth 10000
attribute [local irreducible] aO aH Tri aG YVC cL bB
structure Nm where
 a:List (List UInt8)
 b:List (List UInt8)
 c:List (List UInt8)
 d:List (List UInt8)
def nmR (x:Nm):List D:=[aKj x.a,aKj x.b,aKj x.c,aKj x.d]
end Go.Proofs.YtleihcnongldbaaGreatDoor
namespace Go.Proofs.YtleihcnongldbaaGreatDoor
open Go.Proofs
set_option maxRecDepth 10000
attribute [local irreducible] aO aH Tri aG YVC cL bB
mutual
def qI:Cn->Int->Int->Int
 | .mk _ n _ _ ps,deep,most=>if deep<=0 then most+1 else tM ps (deep - 1) most (1+n.length / 40)
def tM:List Cn->Int->Int->Int->Int
 | [],_,_,t=>t
 |c::r,deep,most,t=>if t<=most then tM r deep most (t+qI c deep (most - t))else t
end
theorem aFw (c:Cn) (deep most:Int):qI c deep most=if deep<=0 then most+1 else tM c.parts (deep - 1) most (1+(c.name.length:Int) / 40):=by
 cases c;rw [qI];rfl
theorem aDl: ∀(c:Cn) (deep most:Int),deep<=40->0<=deep->0<=most->most<=150->Tri Tryz.prog 143 [.d (.agg (cnR c)), .d (.int .i64 deep), .d (.int .i64 most)] []
  (λr=>r= .d (.int .i64 (qI c deep most))/\1<=qI c deep most/\qI c deep most<=most+300000000000000000):=by
 refine Cn.ind ?_
 intro c ih deep most hd0 hd hm0 hm
 rw [bG,aFw]
 refine aF false [3] hty Tryz.func143 rfl (kp [0,1,2,3,6,7,8,10,27]) [] _ _ _ (by simp [Tryz.f143]) (by simp) ?_
 ((conv=>whnf);repeat' ((first|(intro hq;(try simp only [lnS]at hq);(try rewrite [List.length_map]))|refine sJ ?_|refine .intro _ (.intro rfl ?_)|refine exL (k:= ?_)|refine dwR ?_|((first|refine aB ?_ ?_|refine aC ?_ ?_)<;>intro hb<;>(first|exact ddX hb|try simp only [lnS]at hb))|(refine aA ?_ ?_<;>intro hb<;>try exact dsX hb))<;>(conv=>whnf)))
 ·rw [if_pos (by assumption)]
  exact⟨rfl,by omega,by omega⟩
 ·have ht:((c.name.length:Int)).tdiv 40=(c.name.length:Int) / 40:=Int.tdiv_eq_ediv_of_nonneg (by omega)
  rw [if_neg (by assumption),ht]
  have hT:1<=1+(c.name.length:Int) / 40/\1+(c.name.length:Int) / 40<=most+300000000000000000:=by omega
  generalize (c.name.length:Int) / 40=q at hT |-
  refine⟨⟨by omega,by omega⟩, ?_⟩
  ((conv=>whnf);repeat' ((first|(intro hq;(try simp only [lnS]at hq);(try rewrite [List.length_map]))|refine sJ ?_|refine .intro _ (.intro rfl ?_)|refine exL (k:= ?_)|refine dwR ?_|((first|refine aB ?_ ?_|refine aC ?_ ?_)<;>intro hb<;>(first|exact ddX hb|try simp only [lnS]at hb))|(refine aA ?_ ?_<;>intro hb<;>try exact dsX hb))<;>(conv=>whnf)))
  refine aL hty (λp:Nat×Int=>([(1, .d (.int .i64 deep)),(2, .d (.int .i64 most)),(3, .ea 5 [[.int .i64 c.kind, .str c.name, .int .i64 c.lo, .int .i64 c.hi, .sl 5 (c.parts.map cnR)]] 0 0),(7, .d (.int .i64 p.2)),(8, .d (.int .i64 p.1))],[])) (λp=>p.1<=c.parts.length/\1<=p.2/\p.2<=most+300000000000000000/\tM c.parts (deep - 1) most (1+q)=tM (c.parts.drop p.1) (deep - 1) most p.2) (λp=>c.parts.length - p.1) (0,1+q) ⟨Nat.zero_le _,hT.1,hT.2,rfl⟩ ⟨by repeat' (first|exact trivial|exact rfl|(rw [List.length_map];exact rfl)|exact⟨rfl,rfl⟩|refine And.intro ?_ ?_),trivial⟩ ?_
  rintro⟨j,t⟩ ⟨hj,ht1,ht2,hn⟩
  dsimp only at hj ht1 ht2 hn
  by_cases hjl:j < c.parts.length
  ·have hrow:(c.parts.map cnR)[(j:Int).toNat]? =some (cnR c.parts[j]):=aZ hjl
   have hcall:=ih c.parts[j] (List.getElem_mem hjl) (deep - 1) (most - t) (by omega) (by omega)
   rw [List.drop_eq_getElem_cons hjl,tM]at hn
   generalize c.parts[j]=x at hrow hn hcall
   rw [bG]at hrow hcall
   ((conv=>whnf);repeat' ((first|(intro hq;(try simp only [lnS]at hq);(try rewrite [List.length_map]))|refine sJ ?_|refine .intro _ (.intro rfl ?_)|refine exL (k:= ?_)|(refine⟨_,hrow, ?_⟩)|(refine aD [] (hcall (by omega) (by omega)) trivial (λr hs=> ?_);obtain⟨hs,hs1,hs2⟩:=hs;subst hs)|refine dwR ?_|((first|refine aB ?_ ?_|refine aC ?_ ?_)<;>intro hb<;>(first|exact ddX hb|try simp only [lnS]at hb))|(refine aA ?_ ?_<;>intro hb<;>try exact dsX hb))<;>(conv=>whnf)))
   ·have h9:t<=most:=by first|assumption|omega
    rw [if_pos h9]at hn
    refine⟨(j+1,t+qI x (deep - 1) (most - t)),⟨by dsimp only;omega,by dsimp only;omega,by dsimp only;omega,hn⟩,by dsimp only;omega,by repeat' (first|exact trivial|exact rfl|refine And.intro ?_ ?_),trivial⟩
   ·have h9:¬ t<=most:=by first|assumption|omega
    rw [if_neg h9]at hn
    rw [hn];exact⟨rfl,ht1,ht2⟩
  ·have hjl:j=c.parts.length:=by omega
   subst hjl
   rw [List.drop_length,tM]at hn
   ((conv=>whnf);repeat' ((first|(intro hq;(try simp only [lnS]at hq);(try rewrite [List.length_map]))|refine sJ ?_|refine .intro _ (.intro rfl ?_)|refine exL (k:= ?_)|refine dwR ?_|((first|refine aB ?_ ?_|refine aC ?_ ?_)<;>intro hb<;>(first|exact ddX hb|try simp only [lnS]at hb))|(refine aA ?_ ?_<;>intro hb<;>try exact dsX hb))<;>(conv=>whnf)))
   all_goals (rw [hn];exact⟨rfl,ht1,ht2⟩)
def aO0 (c:Cn):Bool:=decide (qI c 40 150<=150)
theorem aBt (c:Cn):Tri Tryz.prog 100 [.d (.agg (cnR c))] [] (λr=>r= .d (.bool (aO0 c))):=by
 have hc:=aDl c 40 150 (by omega) (by omega) (by omega) (by omega)
 rw [bG]at hc |-
 refine aF false [1] hty Tryz.func100 rfl (kp [0,1,2]) [] _ _ _ (by simp [Tryz.f100]) (by simp) ?_
 ((conv=>whnf);repeat' ((first|(intro hq;(try simp only [lnS]at hq);(try rewrite [List.length_map]))|refine sJ ?_|refine .intro _ (.intro rfl ?_)|refine exL (k:= ?_)|(refine aD [] hc trivial (λr hs=> ?_);obtain⟨hs,hs1,hs2⟩:=hs;subst hs)|refine dwR ?_|((first|refine aB ?_ ?_|refine aC ?_ ?_)<;>intro hb<;>(first|exact ddX hb|try simp only [lnS]at hb))|(refine aA ?_ ?_<;>intro hb<;>try exact dsX hb))<;>(conv=>whnf)))
 all_goals rfl
end Go.Proofs.YtleihcnongldbaaGreatDoor
namespace Go.Proofs.YtleihcnongldbaaGreatDoor
open Go.Proofs
set_option maxRecDepth 10000
attribute [local irreducible] aO aH Tri aG YVC cL bB
def vI:List (List UInt8)->Int
 | []=>0
 |s::r=>s.length+vI r
def aMf (x:Ax):Int:=x.role.length+x.a.length+x.b.length+10 * x.roles.length+vI (x.roles.take 100)
def uD (x:Ax):Bool:=decide (aMf x<=600) && aO0 x.left && aO0 x.right
structure SzAx (x:Ax):Prop where
 r:x.roles.length<=140737488351232
 o:x.role.length<=140737488351232
 a:x.a.length<=140737488351232
 b:x.b.length<=140737488351232
 rs: ∀s∈x.roles,s.length<=140737488351232
theorem yF (x:Ax) (h:SzAx x):Tri Tryz.prog 61 [.d (.agg (axR x))] [] (λr=>r= .d (.bool (uD x))):=by
 have hl:=aBt x.left
 have hr:=aBt x.right
 rw [bG]at hl hr
 obtain⟨s1,s2,s3,s4,s5⟩:=h
 obtain⟨kind,isopen,left,right,roles,role,a,b⟩:=x
 dsimp only at hl hr s1 s2 s3 s4 s5
 unfold uD aMf axR
 dsimp only
 obtain⟨lk,ln,llo,lhi,lps⟩:=left
 obtain⟨rk,rn,rlo,rhi,rps⟩:=right
 dsimp only [Cn.kind,Cn.name,Cn.lo,Cn.hi,Cn.parts]at hl hr |-
 refine aF false [1] hty Tryz.func61 rfl (kp [0,1,2,3,4,29]) [] _ _ _ (by simp [Tryz.f61]) (by simp) ?_
 ((conv=>whnf);repeat' ((first|(intro hq;(try simp only [lnS]at hq);(try rewrite [List.length_map]))|refine sJ ?_|refine .intro _ (.intro rfl ?_)|refine exL (k:= ?_)|refine dwR ?_|((first|refine aB ?_ ?_|refine aC ?_ ?_)<;>intro hb<;>(first|exact ddX hb|try simp only [lnS]at hb))|(refine aA ?_ ?_<;>intro hb<;>try exact dsX hb))<;>(conv=>whnf)))
 refine aL hty (λp:Nat×Int=>([(1, .ea 16 [[.int .i64 kind, .bool isopen, .int .i64 lk, .str ln, .int .i64 llo, .int .i64 lhi,cnl lps, .int .i64 rk, .str rn, .int .i64 rlo, .int .i64 rhi,cnl rps,aKj roles, .str role, .str a, .str b]] 0 0),(3, .d (.int .i64 p.2)),(4, .d (.int .i64 p.1))],[])) (λp=>p.1<=roles.length/\p.1<=100/\0<=p.2/\p.2<=140737488351232 * 13+140737488351232 * p.1/\(role.length:Int)+a.length+b.length+10 * roles.length+vI (roles.take 100)=p.2+vI ((roles.take 100).drop p.1)) (λp=>roles.length - p.1) (0,(role.length:Int)+a.length+b.length+10 * roles.length) ⟨Nat.zero_le _,by omega,by omega,by omega,rfl⟩ ⟨by repeat' (first|exact trivial|exact rfl|(rw [List.length_map];exact rfl)|exact⟨rfl,rfl⟩|refine And.intro ?_ ?_),trivial⟩ ?_
 rintro⟨j,t⟩ ⟨hj,hj2,ht1,ht2,hn⟩
 dsimp only at hj hj2 ht1 ht2 hn
 by_cases hjl:j < roles.length/\j < 100
 ·have hrow:(roles.map cE)[(j:Int).toNat]? =some (cE roles[j]):=aZ hjl.1
  have hlen:=s5 roles[j] (List.getElem_mem hjl.1)
  have htl:j < (roles.take 100).length:=by rw [List.length_take];omega
  rw [List.drop_eq_getElem_cons htl,vI,List.getElem_take]at hn
  have hjl1:=hjl.1
  have hjl2:=hjl.2
  clear s5
  generalize roles[j]=y at hrow hn hlen
  ((conv=>whnf);repeat' ((first|(intro hq;(try simp only [lnS]at hq);(try rewrite [List.length_map]))|refine sJ ?_|refine .intro _ (.intro rfl ?_)|refine exL (k:= ?_)|(refine⟨_,hrow, ?_⟩)|refine dwR ?_|((first|refine aB ?_ ?_|refine aC ?_ ?_)<;>intro hb<;>(first|exact ddX hb|try simp only [lnS]at hb))|(refine aA ?_ ?_<;>intro hb<;>try exact dsX hb))<;>(conv=>whnf)))
  refine⟨(j+1,t+y.length),⟨by dsimp only;omega,by dsimp only;omega,by dsimp only;omega,by dsimp only;omega,by dsimp only;omega⟩,by dsimp only;omega,by repeat' (first|exact trivial|exact rfl|refine And.intro ?_ ?_),trivial⟩
 ·have hdr:(roles.take 100).drop j=[]:=List.drop_eq_nil_of_le (by rw [List.length_take];omega)
  rw [hdr,vI,Int.add_zero]at hn
  rw [hn]
  clear hn hdr s5
  ((conv=>whnf);repeat' ((first|(intro hq;(try simp only [lnS]at hq);(try rewrite [List.length_map]))|refine sJ ?_|refine .intro _ (.intro rfl ?_)|refine exL (k:= ?_)|(refine aD [] hl trivial (λr hs=> ?_);subst hs)|(refine aD [] hr trivial (λr hs=> ?_);subst hs)|refine dwR ?_|((first|refine aB ?_ ?_|refine aC ?_ ?_)<;>intro hb<;>(first|exact ddX hb|try simp only [lnS]at hb))|(refine aA ?_ ?_<;>intro hb<;>try exact dsX hb))<;>(conv=>whnf)))
  all_goals (refine aX (Eq.symm ?_);simp_all [aO0])
  all_goals (intro h9;omega)
end Go.Proofs.YtleihcnongldbaaGreatDoor
namespace Go.Proofs.YtleihcnongldbaaGreatDoor
open Go.Proofs Go.RowKit
set_option maxRecDepth 100000
theorem aMa:qN Tryz.prog 116=some [3,4,114,114,22,9,9,9]:=by kernel_rfl
theorem aGy:qN Tryz.prog 114=some [3,9,3,3,112]:=by kernel_rfl
theorem aEc:Tryz.prog.underlying 112=some (.slice 114):=by kernel_rfl
theorem aAa:Tryz.prog.underlying 39=some (.slice 116):=by kernel_rfl
theorem aGx:Tryz.prog.underlying 22=some (.slice 9):=by kernel_rfl
theorem u3:Tryz.prog.underlying 3=some (.int .i64):=by kernel_rfl
theorem u9:Tryz.prog.underlying 9=some .string:=by kernel_rfl
theorem u4:Tryz.prog.underlying 4=some .bool:=by kernel_rfl
theorem aIm:Tryz.prog.cellsOf 114=5:=by kernel_rfl
theorem aJm:Tryz.prog.cellsOf 116=16:=by kernel_rfl
theorem aLi:Tryz.prog.cellsOf 9=1:=by kernel_rfl
theorem laid:laidOutB Tryz.prog=true:=by kernel_rfl
def TT:List TypeId:=[116,39,114,112,22,3,9,4]
theorem aJj: ∀(n:Nat) (ds:List D),TyD Tryz.prog n 114 ds-> ∃c,ds=cnR c:=by
 intro n
 induction n using Nat.strongRecOn with
 |_ n ih=>
  intro ds h
  obtain⟨m,hm,a1,b1,rfl,h1,a2,b2,rfl,h2,a3,b3,rfl,h3,a4,b4,rfl,h4,a5,b5,rfl,h5,rfl⟩:=dK aGy h
  obtain⟨k,rfl,_⟩:=fR u3 h1
  obtain⟨s,rfl,_⟩:=cR u9 h2
  obtain⟨lo,rfl,_⟩:=fR u3 h3
  obtain⟨hi,rfl,_⟩:=fR u3 h4
  obtain⟨j,hj,rows,rfl,_,hr⟩:=dQ aEc h5
  obtain⟨l,rfl⟩:=nB (λr hr=>ih j (by omega) r hr) rows hr
  exact⟨.mk k s lo hi l,by rw [aIm,bG];rfl⟩
theorem qV {α:Type}{R:List D->Prop}{Q:α->Prop}{f:α->List D}(h: ∀r,R r-> ∃x,r=f x/\Q x): ∀rows:List (List D),(∀r∈rows,R r)-> ∃l:List α,rows=l.map f/\ ∀x∈l,Q x
 | [],_=>⟨[],rfl,by simp⟩
 |r::rest,hr=>by
  obtain⟨x,rfl,hx⟩:=h r (hr r (List.mem_cons_self ..))
  obtain⟨l,rfl,hl⟩:=qV h rest (λq hq=>hr q (List.mem_cons_of_mem _ hq))
  exact⟨x::l,rfl,by simpa using ⟨hx,hl⟩⟩
theorem qH {n:Nat}{ds:List D}(h:TyD Tryz.prog n 22 ds): ∃l:List (List UInt8),ds=[aKj l]/\l.length<=140737488351232/\ ∀s∈l,s.length<=140737488351232:=by
 obtain⟨m,rfl,rows,rfl,hn,hr⟩:=dQ aGx h
 obtain ⟨l, rfl, hl⟩ := qV (f := cE) (Q := λs : List UInt8 => s.length <= 140737488351232) (λr hr => by
  obtain⟨s,rfl,hs⟩:=cR u9 hr
  exact⟨s,rfl,hs⟩) rows hr
 exact⟨l,by rw [aLi];rfl,by rw [List.length_map]at hn;exact hn,hl⟩
theorem aNe {n:Nat}{ds:List D}(h:TyD Tryz.prog n 116 ds): ∃x,ds=axR x/\SzAx x:=by
 obtain⟨m,rfl,a1,b1,rfl,h1,a2,b2,rfl,h2,a3,b3,rfl,h3,a4,b4,rfl,h4,a5,b5,rfl,h5,a6,b6,rfl,h6,a7,b7,rfl,h7,a8,b8,rfl,h8,rfl⟩:=dK aMa h
 obtain⟨k,rfl,_⟩:=fR u3 h1
 obtain⟨o,rfl⟩:=aGz u4 h2
 obtain⟨l,rfl⟩:=aJj _ _ h3
 obtain⟨r,rfl⟩:=aJj _ _ h4
 obtain⟨rs,rfl,q1,q2⟩:=qH h5
 obtain⟨s1,rfl,q3⟩:=cR u9 h6
 obtain⟨s2,rfl,q4⟩:=cR u9 h7
 obtain⟨s3,rfl,q5⟩:=cR u9 h8
 exact⟨⟨k,o,l,r,rs,s1,s2,s3⟩,by rw [bG,bG];rfl,⟨q1,q3,q4,q5,q2⟩⟩
theorem wG {t:TypeId}{ts:List TypeId}(h:qN Tryz.prog t=some ts) (ds:List D):pB Tryz.prog t ds= .d (.agg ds):=by
 unfold qN at h
 split at h
 ·rename_i fs hu
  simp only [pB,hu]
 ·cases h
theorem aLo {n:Nat}{ds:List D}(h:TyD Tryz.prog n 39 ds): ∃l:List Ax,pB Tryz.prog 39 ds= .d (.sl 16 (l.map axR))/\l.length<=140737488351232/\ ∀x∈l,SzAx x:=by
 obtain⟨m,rfl,rows,rfl,hn,hr⟩:=dQ aAa h
 obtain⟨l,rfl,hl⟩:=qV (f:=axR) (Q:=SzAx) (λr hr=>aNe hr) rows hr
 exact⟨l,by simp only [pB,aAa,aJm],by rw [List.length_map]at hn;exact hn,hl⟩
def aFf:List (String×DataW Unit):=[("veilstone/terms.needs",Rows.laid_veilstone_terms_needs),("veilstone/terms.uses",Rows.laid_veilstone_terms_uses)]
theorem aMz:Tryz.prog.globalNamed "veilstone/terms.needs" =some 1:=by kernel_rfl
theorem aOv:Tryz.prog.globalNamed "veilstone/terms.uses" =some 0:=by kernel_rfl
theorem aMe:(Tryz.prog.globals[(1:Nat)]?).map (·.type)=some 216:=by kernel_rfl
theorem aOd:(Tryz.prog.globals[(0:Nat)]?).map (·.type)=some 173:=by kernel_rfl
def FT:List TypeId:=[216,215,173,172,3,4]
theorem fl:Fl Tryz.prog (· ∈FT):=aOw (by kernel_rfl)
theorem aD1 {W:World}(h:laidMetH Tryz.prog aFf W): ∀ρ:Env,ρ.S=below W-> ∀id o,aQ NG id=some o->RO W ρ id o:=by
 rw [MakeChecks.laidMetH_plain _ _ _ (by kernel_rfl)]at h
 obtain⟨ps,⟨g0,t0,cs0,f0,p0,q0,hg0,ht0,hv0,hd0,⟨g1,t1,cs1,f1,p1,q1,hg1,ht1,hv1,hd1,_,_⟩,_⟩,_,_⟩:=h
 obtain rfl:=Option.some.inj (aMz.symm.trans hg0)
 obtain rfl:=Option.some.inj (aOv.symm.trans hg1)
 obtain rfl:=Option.some.inj (aMe.symm.trans ht0)
 obtain rfl:=Option.some.inj (aOd.symm.trans ht1)
 have v0:=pT (z:=4) (rows:=aFa.map aI0) fl hg0 (by decide) hv0 hd0 (by intro r hr;obtain⟨x,_,rfl⟩:=List.mem_map.1 hr;rfl) (by kernel_rfl)
 have v1:=pT (z:=7) (rows:=gJ.map aKb) fl hg1 (by decide) hv1 hd1 (by intro r hr;obtain⟨x,_,rfl⟩:=List.mem_map.1 hr;rfl) (by kernel_rfl)
 intro ρ hS id o ho
 rw [<-hS]at v0 v1
 simp only [NG,aQ]at ho
 split at ho
 ·injection ho with ho;subst ho;exact v0
 ·split at ho
  ·injection ho with ho;subst ho;exact v1
  ·cases ho
end Go.Proofs.YtleihcnongldbaaGreatDoor
namespace Go.Proofs.YtleihcnongldbaaGreatDoor
open Go.RowKit
section
variable {P:Program}
theorem aGt {w:World}{S:Nat->Nat->Prop}{cs:List D}{b off n:Nat}(h:View w S 1 (cs.map λc=>[c]) b off) (hn:cs.length=n):View w S n [cs] b off:=by
 refine⟨λrow hr=> ?_,λi row j x h1 h2=> ?_⟩
 ·rw [List.mem_singleton.1 hr,hn]
 ·have hi:i=0:=by
   have:=(List.getElem?_eq_some_iff.1 h1).1
   simp at this;omega
  subst hi
  injection h1 with h1
  subst h1
  have h3:=h.2 j [x] 0 x (by rw [List.getElem?_map,h2];rfl) rfl
  simp only [Nat.mul_one,Nat.add_zero]at h3
  simpa using h3
theorem aA3 {ti:TypeId->Option TI}(hti:cT P ti) {o:Oper}{t e:TypeId}{x:Operand}{n:Nat}(ho:o.op= .sliceToArrayPointer t x) {Ts:TI}(hT:ti t=some Ts) (htd:Ts.td= .array n e) {pin:Pin}{fr:Fr}{hp:Hp}{K:SV->Hp->Prop}(cs:List D)
  (hx:evO fr x=some (.d (.sl 1 (cs.map λc=>[c])))) (hn:cs.length=n) (h0:0 < n) (hk:K (.ea n [cs] 0 0) hp):bB P o pin fr hp K:=by
 intro E ρ a w _ hm hf next Q hq
 obtain⟨d0,i0,z0,hT0⟩:=aM (hti _ _ hT)
 have hd:d0= .array n e:=by
  have:=hT0.td
  rw [htd]at this
  exact gH this
 subst hd
 have hr:=aU hf hx
 cases hr with
 |d _ _ hd=>
  obtain⟨A,cap,b,off,e1,_,_,hA,hv⟩:=hd.of_sl
  have hne:(cs.map λc=>[c])≠[]:=by
   intro h
   have:=congrArg List.length h
   rw [List.length_map]at this
   simp at this
   rw [this]at hn
   simp at hn;omega
  have hrun:(execOp a.eval o).run P w= .ok (.value (.pointer (some ⟨b,off,none⟩))) w:=by
   have hl:(cs.map λc=>[c]).length=n:=by rw [List.length_map];exact hn
   simp only [execOp,ho,e1,hA hne,Instr.arrayAt,Sem.run_bind,run_underlying hT0.und,Result.andThen_ok]
   rw [hl,if_neg (Nat.lt_irrefl n)]
   rfl
  refine cB hrun (hq _ w ρ _ hp hk hm hf ?_)
  have:=Rep.ea (w:=w) (ρ:=ρ) n [cs] 0 0 b off (aGt hv hn)
  simpa using this
theorem cF {ti:TypeId->Option TI}(hti:cT P ti) {o:Oper}{t:TypeId}{x:Operand}(ho:o.op= .makeInterface t x) {Ts:TI}(hT:ti t=some Ts) {fs:List (TypeId×Nat)}(htd:Ts.td= .struct fs) {pin:Pin}{fr:Fr}{hp:Hp}{K:SV->Hp->Prop}
  (hx:evO fr x=some (.d (.agg []))) (hk:K (.d (.lit (.iface t (.agg #[])))) hp):bB P o pin fr hp K:=by
 intro E ρ a w _ hm hf next Q hq
 obtain⟨d0,i0,z0,hT0⟩:=aM (hti _ _ hT)
 have hni: ∀m,d0≠ .interface m:=by
  intro m e
  have:=hT0.td
  rw [htd,e]at this
  simp [yG]at this
 have e1:a.eval x= .agg #[]:=by
  have hr:=aU hf hx
  generalize a.eval x=v at hr
  cases hr with
  |d _ _ hd=>
   cases hd with
   |agg cs vs hl h=>
    have:vs= #[]:=Array.eq_empty_of_size_eq_zero (by simpa using hl)
    rw [this]
 have hrun:(execOp a.eval o).run P w= .ok (.value (.iface t (.agg #[]))) w:=by
  simp only [execOp,ho,e1,Instr.makeInterface,Sem.run_bind,run_underlying hT0.und,Result.andThen_ok]
  cases d0<;>first|rfl|exact absurd rfl (hni _)
 exact cB hrun (hq _ w ρ _ hp hk hm hf (.d _ _ (.lit _)))
end
end Go.Proofs.YtleihcnongldbaaGreatDoor
