/-
  Terms: the reference's count and Few. Terms: the reference's FewAxiom. Terms: the types that come in, what their data are, and what the laid variables hold. A statement whose ends are many: what they have in common is told once, and the rest follows from there. Regions that draw their order: reads of data and pure operations are taken first; the rest as a tree. Small rules for the orders of a region. Terms: the reference's order, Strings, Size and Compare. Terms: the reference's Weight and CompareAxiom. Circles in steps, plainly: shortest ones, and the search of the program. Circles in steps, plainly: the search of the reference.
  Conditions: none.
-/
import Derived.Test.YtfhoddcminbffaaGreatDoorMAk
import Derived.Test.YtfhoddcminbffaaGreatDoorRows
import Derived.Test.YtfhoddcminbffaaGreatDoorMSs
import Derived.LaidHandle
import Derived.MakeChecks
import Derived.Test.YtfhoddcminbffaaGreatDoorMSna
set_option linter.unnecessarySimpa false
set_option linter.unusedSectionVars false
set_option linter.unusedSimpArgs false
set_option linter.unusedVariables false
set_option maxHeartbeats 8000000
namespace Go.Proofs.YtfhoddcminbffaaGreatDoor
open Go.Proofs
set_option maxRecDepth 10000
attribute [local irreducible] aM aJ Tri aH YVC dI bI
mutual
def lP:Cn->Int->Int->Int
 | .mk _ n _ _ ps,deep,most=>if deep<=0 then most+1 else mT ps (deep - 1) most (1+n.length / 40)
def mT:List Cn->Int->Int->Int->Int
 | [],_,_,t=>t
 |c::r,deep,most,t=>if t<=most then mT r deep most (t+lP c deep (most - t))else t
end
theorem aNq (c:Cn) (deep most:Int):lP c deep most=if deep<=0 then most+1 else mT c.parts (deep - 1) most (1+(c.name.length:Int) / 40):=by
 cases c;rw [lP];rfl
theorem aKe: ∀(c:Cn) (deep most:Int),deep<=40->0<=deep->0<=most->most<=150->Tri Tryz.prog 175 [.d (.agg (cnR c)), .d (.int .i64 deep), .d (.int .i64 most)] []
  (λr=>r= .d (.int .i64 (lP c deep most))/\1<=lP c deep most/\lP c deep most<=most+300000000000000000):=by
 refine Cn.ind ?_
 intro c ih deep most hd0 hd hm0 hm
 rw [aL,aNq]
 refine aF false [3] hty Tryz.func175 rfl (kp [0,1,2,3,6,7,8,10,27]) [] _ _ _ (by simp [Tryz.f175]) (by simp) ?_
 ((conv=>whnf);repeat' ((first|(intro hq;(try simp only [lnS]at hq);(try rewrite [List.length_map]))|refine sJ ?_|refine .intro _ (.intro rfl ?_)|refine exL (k:= ?_)|refine dwR ?_|((first|refine aB ?_ ?_|refine aC ?_ ?_)<;>intro hb<;>(first|exact ddX hb|try simp only [lnS]at hb))|(refine aA ?_ ?_<;>intro hb<;>try exact dsX hb))<;>(conv=>whnf)))
 ·rw [if_pos (by assumption)]
  exact⟨rfl,by omega,by omega⟩
 ·have ht:((c.name.length:Int)).tdiv 40=(c.name.length:Int) / 40:=Int.tdiv_eq_ediv_of_nonneg (by omega)
  rw [if_neg (by assumption),ht]
  have hT:1<=1+(c.name.length:Int) / 40/\1+(c.name.length:Int) / 40<=most+300000000000000000:=by omega
  generalize (c.name.length:Int) / 40=q at hT |-
  refine⟨⟨by omega,by omega⟩, ?_⟩
  ((conv=>whnf);repeat' ((first|(intro hq;(try simp only [lnS]at hq);(try rewrite [List.length_map]))|refine sJ ?_|refine .intro _ (.intro rfl ?_)|refine exL (k:= ?_)|refine dwR ?_|((first|refine aB ?_ ?_|refine aC ?_ ?_)<;>intro hb<;>(first|exact ddX hb|try simp only [lnS]at hb))|(refine aA ?_ ?_<;>intro hb<;>try exact dsX hb))<;>(conv=>whnf)))
  refine aG hty (λp:Nat×Int=>([(1, .d (.int .i64 deep)),(2, .d (.int .i64 most)),(3, .ea 5 [[.int .i64 c.kind, .str c.name, .int .i64 c.lo, .int .i64 c.hi, .sl 5 (c.parts.map cnR)]] 0 0),(7, .d (.int .i64 p.2)),(8, .d (.int .i64 p.1))],[])) (λp=>p.1<=c.parts.length/\1<=p.2/\p.2<=most+300000000000000000/\mT c.parts (deep - 1) most (1+q)=mT (c.parts.drop p.1) (deep - 1) most p.2) (λp=>c.parts.length - p.1) (0,1+q) ⟨Nat.zero_le _,hT.1,hT.2,rfl⟩ ⟨by repeat' (first|exact trivial|exact rfl|(rw [List.length_map];exact rfl)|exact⟨rfl,rfl⟩|refine And.intro ?_ ?_),trivial⟩ ?_
  rintro⟨j,t⟩ ⟨hj,ht1,ht2,hn⟩
  dsimp only at hj ht1 ht2 hn
  by_cases hjl:j < c.parts.length
  ·have hrow:(c.parts.map cnR)[(j:Int).toNat]? =some (cnR c.parts[j]):=bC hjl
   have hcall:=ih c.parts[j] (List.getElem_mem hjl) (deep - 1) (most - t) (by omega) (by omega)
   rw [List.drop_eq_getElem_cons hjl,mT]at hn
   generalize c.parts[j]=x at hrow hn hcall
   rw [aL]at hrow hcall
   ((conv=>whnf);repeat' ((first|(intro hq;(try simp only [lnS]at hq);(try rewrite [List.length_map]))|refine sJ ?_|refine .intro _ (.intro rfl ?_)|refine exL (k:= ?_)|(refine⟨_,hrow, ?_⟩)|(refine aD [] (hcall (by omega) (by omega)) trivial (λr hs=> ?_);obtain⟨hs,hs1,hs2⟩:=hs;subst hs)|refine dwR ?_|((first|refine aB ?_ ?_|refine aC ?_ ?_)<;>intro hb<;>(first|exact ddX hb|try simp only [lnS]at hb))|(refine aA ?_ ?_<;>intro hb<;>try exact dsX hb))<;>(conv=>whnf)))
   ·have h9:t<=most:=by first|assumption|omega
    rw [if_pos h9]at hn
    refine⟨(j+1,t+lP x (deep - 1) (most - t)),⟨by dsimp only;omega,by dsimp only;omega,by dsimp only;omega,hn⟩,by dsimp only;omega,by repeat' (first|exact trivial|exact rfl|refine And.intro ?_ ?_),trivial⟩
   ·have h9:¬ t<=most:=by first|assumption|omega
    rw [if_neg h9]at hn
    rw [hn];exact⟨rfl,ht1,ht2⟩
  ·have hjl:j=c.parts.length:=by omega
   subst hjl
   rw [List.drop_length,mT]at hn
   ((conv=>whnf);repeat' ((first|(intro hq;(try simp only [lnS]at hq);(try rewrite [List.length_map]))|refine sJ ?_|refine .intro _ (.intro rfl ?_)|refine exL (k:= ?_)|refine dwR ?_|((first|refine aB ?_ ?_|refine aC ?_ ?_)<;>intro hb<;>(first|exact ddX hb|try simp only [lnS]at hb))|(refine aA ?_ ?_<;>intro hb<;>try exact dsX hb))<;>(conv=>whnf)))
   all_goals (rw [hn];exact⟨rfl,ht1,ht2⟩)
def aTr (c:Cn):Bool:=decide (lP c 40 150<=150)
theorem aHu (c:Cn):Tri Tryz.prog 141 [.d (.agg (cnR c))] [] (λr=>r= .d (.bool (aTr c))):=by
 have hc:=aKe c 40 150 (by omega) (by omega) (by omega) (by omega)
 rw [aL]at hc |-
 refine aF false [1] hty Tryz.func141 rfl (kp [0,1,2]) [] _ _ _ (by simp [Tryz.f141]) (by simp) ?_
 ((conv=>whnf);repeat' ((first|(intro hq;(try simp only [lnS]at hq);(try rewrite [List.length_map]))|refine sJ ?_|refine .intro _ (.intro rfl ?_)|refine exL (k:= ?_)|(refine aD [] hc trivial (λr hs=> ?_);obtain⟨hs,hs1,hs2⟩:=hs;subst hs)|refine dwR ?_|((first|refine aB ?_ ?_|refine aC ?_ ?_)<;>intro hb<;>(first|exact ddX hb|try simp only [lnS]at hb))|(refine aA ?_ ?_<;>intro hb<;>try exact dsX hb))<;>(conv=>whnf)))
 all_goals rfl
end Go.Proofs.YtfhoddcminbffaaGreatDoor
namespace Go.Proofs.YtfhoddcminbffaaGreatDoor
open Go.Proofs
set_option maxRecDepth 10000
attribute [local irreducible] aM aJ Tri aH YVC dI bI
def pS:List (List UInt8)->Int
 | []=>0
 |s::r=>s.length+pS r
def aRg (x:Ax):Int:=x.role.length+x.a.length+x.b.length+10 * x.roles.length+pS (x.roles.take 100)
def wA (x:Ax):Bool:=decide (aRg x<=600) && aTr x.left && aTr x.right
structure SzAx (x:Ax):Prop where
 r:x.roles.length<=140737488351232
 o:x.role.length<=140737488351232
 a:x.a.length<=140737488351232
 b:x.b.length<=140737488351232
 rs: ∀s∈x.roles,s.length<=140737488351232
theorem aBt (x:Ax) (h:SzAx x):Tri Tryz.prog 99 [.d (.agg (axR x))] [] (λr=>r= .d (.bool (wA x))):=by
 have hl:=aHu x.left
 have hr:=aHu x.right
 rw [aL]at hl hr
 obtain⟨s1,s2,s3,s4,s5⟩:=h
 obtain⟨kind,isopen,left,right,roles,role,a,b⟩:=x
 dsimp only at hl hr s1 s2 s3 s4 s5
 unfold wA aRg axR
 dsimp only
 obtain⟨lk,ln,llo,lhi,lps⟩:=left
 obtain⟨rk,rn,rlo,rhi,rps⟩:=right
 dsimp only [Cn.kind,Cn.name,Cn.lo,Cn.hi,Cn.parts]at hl hr |-
 refine aF false [1] hty Tryz.func99 rfl (kp [0,1,2,3,4,29]) [] _ _ _ (by simp [Tryz.f99]) (by simp) ?_
 ((conv=>whnf);repeat' ((first|(intro hq;(try simp only [lnS]at hq);(try rewrite [List.length_map]))|refine sJ ?_|refine .intro _ (.intro rfl ?_)|refine exL (k:= ?_)|refine dwR ?_|((first|refine aB ?_ ?_|refine aC ?_ ?_)<;>intro hb<;>(first|exact ddX hb|try simp only [lnS]at hb))|(refine aA ?_ ?_<;>intro hb<;>try exact dsX hb))<;>(conv=>whnf)))
 refine aG hty (λp:Nat×Int=>([(1, .ea 16 [[.int .i64 kind, .bool isopen, .int .i64 lk, .str ln, .int .i64 llo, .int .i64 lhi,cnl lps, .int .i64 rk, .str rn, .int .i64 rlo, .int .i64 rhi,cnl rps,aOx roles, .str role, .str a, .str b]] 0 0),(3, .d (.int .i64 p.2)),(4, .d (.int .i64 p.1))],[])) (λp=>p.1<=roles.length/\p.1<=100/\0<=p.2/\p.2<=140737488351232 * 13+140737488351232 * p.1/\(role.length:Int)+a.length+b.length+10 * roles.length+pS (roles.take 100)=p.2+pS ((roles.take 100).drop p.1)) (λp=>roles.length - p.1) (0,(role.length:Int)+a.length+b.length+10 * roles.length) ⟨Nat.zero_le _,by omega,by omega,by omega,rfl⟩ ⟨by repeat' (first|exact trivial|exact rfl|(rw [List.length_map];exact rfl)|exact⟨rfl,rfl⟩|refine And.intro ?_ ?_),trivial⟩ ?_
 rintro⟨j,t⟩ ⟨hj,hj2,ht1,ht2,hn⟩
 dsimp only at hj hj2 ht1 ht2 hn
 by_cases hjl:j < roles.length/\j < 100
 ·have hrow:(roles.map bN)[(j:Int).toNat]? =some (bN roles[j]):=bC hjl.1
  have hlen:=s5 roles[j] (List.getElem_mem hjl.1)
  have htl:j < (roles.take 100).length:=by rw [List.length_take];omega
  rw [List.drop_eq_getElem_cons htl,pS,List.getElem_take]at hn
  have hjl1:=hjl.1
  have hjl2:=hjl.2
  clear s5
  generalize roles[j]=y at hrow hn hlen
  ((conv=>whnf);repeat' ((first|(intro hq;(try simp only [lnS]at hq);(try rewrite [List.length_map]))|refine sJ ?_|refine .intro _ (.intro rfl ?_)|refine exL (k:= ?_)|(refine⟨_,hrow, ?_⟩)|refine dwR ?_|((first|refine aB ?_ ?_|refine aC ?_ ?_)<;>intro hb<;>(first|exact ddX hb|try simp only [lnS]at hb))|(refine aA ?_ ?_<;>intro hb<;>try exact dsX hb))<;>(conv=>whnf)))
  refine⟨(j+1,t+y.length),⟨by dsimp only;omega,by dsimp only;omega,by dsimp only;omega,by dsimp only;omega,by dsimp only;omega⟩,by dsimp only;omega,by repeat' (first|exact trivial|exact rfl|refine And.intro ?_ ?_),trivial⟩
 ·have hdr:(roles.take 100).drop j=[]:=List.drop_eq_nil_of_le (by rw [List.length_take];omega)
  rw [hdr,pS,Int.add_zero]at hn
  rw [hn]
  clear hn hdr s5
  ((conv=>whnf);repeat' ((first|(intro hq;(try simp only [lnS]at hq);(try rewrite [List.length_map]))|refine sJ ?_|refine .intro _ (.intro rfl ?_)|refine exL (k:= ?_)|(refine aD [] hl trivial (λr hs=> ?_);subst hs)|(refine aD [] hr trivial (λr hs=> ?_);subst hs)|refine dwR ?_|((first|refine aB ?_ ?_|refine aC ?_ ?_)<;>intro hb<;>(first|exact ddX hb|try simp only [lnS]at hb))|(refine aA ?_ ?_<;>intro hb<;>try exact dsX hb))<;>(conv=>whnf)))
  all_goals (refine aX (Eq.symm ?_);simp_all [aTr])
  all_goals (intro h9;omega)
end Go.Proofs.YtfhoddcminbffaaGreatDoor
namespace Go.Proofs.YtfhoddcminbffaaGreatDoor
open Go.Proofs Go.RowKit
set_option maxRecDepth 100000
theorem aQl:aEh Tryz.prog 48=some [3,4,46,46,32,9,9,9]:=by kernel_rfl
theorem aOn:aEh Tryz.prog 46=some [3,9,3,3,44]:=by kernel_rfl
theorem aL6:Tryz.prog.underlying 44=some (.slice 46):=by kernel_rfl
theorem aEg:Tryz.prog.underlying 23=some (.slice 48):=by kernel_rfl
theorem aOm:Tryz.prog.underlying 32=some (.slice 9):=by kernel_rfl
theorem u3:Tryz.prog.underlying 3=some (.int .i64):=by kernel_rfl
theorem u9:Tryz.prog.underlying 9=some .string:=by kernel_rfl
theorem u4:Tryz.prog.underlying 4=some .bool:=by kernel_rfl
theorem aQb:Tryz.prog.cellsOf 46=5:=by kernel_rfl
theorem aU1:Tryz.prog.cellsOf 48=16:=by kernel_rfl
theorem aSg:Tryz.prog.cellsOf 9=1:=by kernel_rfl
theorem laid:laidOutB Tryz.prog=true:=by kernel_rfl
def TT:List TypeId:=[48,23,46,44,32,3,9,4]
theorem cl:Cl Tryz.prog (· ∈TT):=aTy (by kernel_rfl)
theorem aQy: ∀(n:Nat) (ds:List D),TyD Tryz.prog n 46 ds-> ∃c,ds=cnR c:=by
 intro n
 induction n using Nat.strongRecOn with
 |_ n ih=>
  intro ds h
  obtain⟨m,hm,a1,b1,rfl,h1,a2,b2,rfl,h2,a3,b3,rfl,h3,a4,b4,rfl,h4,a5,b5,rfl,h5,rfl⟩:=qU aOn h
  obtain⟨k,rfl,_⟩:=uB u3 h1
  obtain⟨s,rfl,_⟩:=kA u9 h2
  obtain⟨lo,rfl,_⟩:=uB u3 h3
  obtain⟨hi,rfl,_⟩:=uB u3 h4
  obtain⟨j,hj,rows,rfl,_,hr⟩:=lV aL6 h5
  obtain⟨l,rfl⟩:=aEw (λr hr=>ih j (by omega) r hr) rows hr
  exact⟨.mk k s lo hi l,by rw [aQb,aL];rfl⟩
theorem tK {α:Type}{R:List D->Prop}{Q:α->Prop}{f:α->List D}(h: ∀r,R r-> ∃x,r=f x/\Q x): ∀rows:List (List D),(∀r∈rows,R r)-> ∃l:List α,rows=l.map f/\ ∀x∈l,Q x
 | [],_=>⟨[],rfl,by simp⟩
 |r::rest,hr=>by
  obtain⟨x,rfl,hx⟩:=h r (hr r (List.mem_cons_self ..))
  obtain⟨l,rfl,hl⟩:=tK h rest (λq hq=>hr q (List.mem_cons_of_mem _ hq))
  exact⟨x::l,rfl,by simpa using ⟨hx,hl⟩⟩
theorem aDp {n:Nat}{ds:List D}(h:TyD Tryz.prog n 32 ds): ∃l:List (List UInt8),ds=[aOx l]/\l.length<=140737488351232/\ ∀s∈l,s.length<=140737488351232:=by
 obtain⟨m,rfl,rows,rfl,hn,hr⟩:=lV aOm h
 obtain ⟨l, rfl, hl⟩ := tK (f := bN) (Q := λs : List UInt8 => s.length <= 140737488351232) (λr hr => by
  obtain⟨s,rfl,hs⟩:=kA u9 hr
  exact⟨s,rfl,hs⟩) rows hr
 exact⟨l,by rw [aSg];rfl,by rw [List.length_map]at hn;exact hn,hl⟩
theorem aSj {n:Nat}{ds:List D}(h:TyD Tryz.prog n 48 ds): ∃x,ds=axR x/\SzAx x:=by
 obtain⟨m,rfl,a1,b1,rfl,h1,a2,b2,rfl,h2,a3,b3,rfl,h3,a4,b4,rfl,h4,a5,b5,rfl,h5,a6,b6,rfl,h6,a7,b7,rfl,h7,a8,b8,rfl,h8,rfl⟩:=qU aQl h
 obtain⟨k,rfl,_⟩:=uB u3 h1
 obtain⟨o,rfl⟩:=aOo u4 h2
 obtain⟨l,rfl⟩:=aQy _ _ h3
 obtain⟨r,rfl⟩:=aQy _ _ h4
 obtain⟨rs,rfl,q1,q2⟩:=aDp h5
 obtain⟨s1,rfl,q3⟩:=kA u9 h6
 obtain⟨s2,rfl,q4⟩:=kA u9 h7
 obtain⟨s3,rfl,q5⟩:=kA u9 h8
 exact⟨⟨k,o,l,r,rs,s1,s2,s3⟩,by rw [aL,aL];rfl,⟨q1,q3,q4,q5,q2⟩⟩
theorem aGe {t:TypeId}{ts:List TypeId}(h:aEh Tryz.prog t=some ts) (ds:List D):wS Tryz.prog t ds= .d (.agg ds):=by
 unfold aEh at h
 split at h
 ·rename_i fs hu
  simp only [wS,hu]
 ·cases h
theorem aU6 {n:Nat}{ds:List D}(h:TyD Tryz.prog n 48 ds): ∃x,wS Tryz.prog 48 ds= .d (.agg (axR x))/\SzAx x:=by
 rw [aGe aQl]
 obtain⟨x,rfl,hx⟩:=aSj h
 exact⟨x,rfl,hx⟩
theorem aSk {n:Nat}{ds:List D}(h:TyD Tryz.prog n 23 ds): ∃l:List Ax,wS Tryz.prog 23 ds= .d (.sl 16 (l.map axR))/\l.length<=140737488351232/\ ∀x∈l,SzAx x:=by
 obtain⟨m,rfl,rows,rfl,hn,hr⟩:=lV aEg h
 obtain⟨l,rfl,hl⟩:=tK (f:=axR) (Q:=SzAx) (λr hr=>aSj hr) rows hr
 exact⟨l,by simp only [wS,aEg,aU1],by rw [List.length_map]at hn;exact hn,hl⟩
def rD:List (String×DataW Unit):=[("veilstone/terms.needs",Rows.laid_veilstone_terms_needs),("veilstone/terms.uses",Rows.laid_veilstone_terms_uses)]
theorem aTp:Tryz.prog.globalNamed "veilstone/terms.needs" =some 1:=by kernel_rfl
theorem aV7:Tryz.prog.globalNamed "veilstone/terms.uses" =some 0:=by kernel_rfl
theorem aT7:(Tryz.prog.globals[(1:Nat)]?).map (·.type)=some 188:=by kernel_rfl
theorem aUr:(Tryz.prog.globals[(0:Nat)]?).map (·.type)=some 98:=by kernel_rfl
def FT:List TypeId:=[188,187,98,97,3,4]
theorem fl:Fl Tryz.prog (· ∈FT):=aV8 (by kernel_rfl)
theorem qY {W:World}(h:laidMetH Tryz.prog rD W): ∀ρ:Env,ρ.S=below W-> ∀id o,aU NG id=some o->RO W ρ id o:=by
 rw [MakeChecks.laidMetH_plain _ _ _ (by kernel_rfl)]at h
 obtain⟨ps,⟨g0,t0,cs0,f0,p0,q0,hg0,ht0,hv0,hd0,⟨g1,t1,cs1,f1,p1,q1,hg1,ht1,hv1,hd1,_,_⟩,_⟩,_,_⟩:=h
 obtain rfl:=Option.some.inj (aTp.symm.trans hg0)
 obtain rfl:=Option.some.inj (aV7.symm.trans hg1)
 obtain rfl:=Option.some.inj (aT7.symm.trans ht0)
 obtain rfl:=Option.some.inj (aUr.symm.trans ht1)
 have v0:=rT (z:=4) (rows:=aMq.map aPq) fl hg0 (by decide) hv0 hd0 (by intro r hr;obtain⟨x,_,rfl⟩:=List.mem_map.1 hr;rfl) (by kernel_rfl)
 have v1:=rT (z:=7) (rows:=jF.map aRd) fl hg1 (by decide) hv1 hd1 (by intro r hr;obtain⟨x,_,rfl⟩:=List.mem_map.1 hr;rfl) (by kernel_rfl)
 intro ρ hS id o ho
 rw [<-hS]at v0 v1
 simp only [NG,aU]at ho
 split at ho
 ·injection ho with ho;subst ho;exact v0
 ·split at ho
  ·injection ho with ho;subst ho;exact v1
  ·cases ho
end Go.Proofs.YtfhoddcminbffaaGreatDoor
namespace Go.Proofs.YtfhoddcminbffaaGreatDoor
open Go.Proofs
theorem aM.mid {C:Cfg}{c:Code}{fr:Fr}{hp:Hp}{K:Ex->Fr->Hp->Prop}(FR:Fr) (HP:Hp) (h:aM C c fr hp (λe fr' hp'=>e= .normal/\Sub fr' hp' FR HP)) (hk:K .normal FR HP):aM C c fr hp K:=
 λE a w hpin hrd hsat=>wpIn_mono (h E a w hpin hrd hsat) λ_ _ _ ⟨_,_,_,E',h0,h1,h2,h3⟩=>by
  obtain⟨rfl,hs⟩:=h2
  exact⟨_,FR,HP,E',h0,h1,hk,h3.sub hs⟩
theorem aM.soft {C:Cfg}{c:Code}{fr:Fr}{hp:Hp}{K:Ex->Fr->Hp->Prop}(i:Nat) {t:TypeId}{cs:List SV}{xs:List D}(ho:aU hp i=some (.cells t cs)) (hx:aR3 cs=some xs)
  (h:aM C c fr (hY hp i (.cells t (xs.map .d))) K):aM C c fr hp K:=by
 intro E a w hpin hrd hsat
 obtain⟨h1,h2,ρ,h3,h4⟩:=hsat
 obtain⟨l1,l2⟩:=aBo hx
 have m := h3.recell ho (cs' := xs.map .d) (by simp [l1]) (λj s' v hs' hv => by
  rw [List.getElem?_map,Option.map_eq_some_iff]at hs'
  obtain⟨x,hx',rfl⟩:=hs'
  obtain⟨s,hs,hd⟩:=l2 j x hx'
  exact .d _ _ (aE4 hd (hv s hs)))
 exact h E a w hpin hrd ⟨h1,h2,ρ,m,h4⟩
end Go.Proofs.YtfhoddcminbffaaGreatDoor
namespace Go.Proofs.YtfhoddcminbffaaGreatDoor
open Go.Proofs
section
variable {P:Program}
def wpS (P:Program) (ops:Array Oper) (Q:Act->World->Prop):Nat->(World->Prop)->Array Bool->Act->World->Prop
 | 0,_,listed,a,w=>Region.ready .any ops listed=[]/\Q a w
 |fuel+1,Cl,listed,a,w=>
  (Region.ready .any ops listed=[]->Q a w)/\
  ∀i∈Region.ready .any ops listed,
   match ops[i]? with
   |none=>wpS P ops Q fuel Cl (listed.setIfInBounds i true) a w
   |some o=>
    if Region.wanted o (yielded ops a.tmps)then
     o.wp P a w (λa' w'=>Cl w'/\wpS P ops Q fuel Cl (listed.setIfInBounds i true) a' w') noX
    else wpS P ops Q fuel Cl (listed.setIfInBounds i true) (a.put o.dst undef) w
theorem aGb {ops:Array Oper}{Q Q':Act->World->Prop}(hQ: ∀a w,Q a w->Q' a w): ∀(fuel:Nat) (Cl Cl':World->Prop) (listed:Array Bool) (a:Act) (w:World),(∀w,Cl' w->Cl w)->wpS P ops Q fuel Cl' listed a w->wpS P ops Q' fuel Cl listed a w:=by
 intro fuel
 induction fuel with
 |zero=>intro Cl Cl' listed a w _ h;exact⟨h.1,hQ _ _ h.2⟩
 |succ fuel ih=>
  intro Cl Cl' listed a w hc h
  refine⟨λh0=>hQ _ _ (h.1 h0),λi hi=> ?_⟩
  have:=h.2 i hi
  split
  ·rename_i ho;simp only [ho]at this;exact ih _ _ _ _ _ hc this
  ·rename_i o ho
   simp only [ho]at this
   split
   ·rename_i hw
    simp only [hw,if_true]at this
    exact tY (λa' w' hk=>⟨hc _ hk.1,ih _ _ _ _ _ hc hk.2⟩) this
   ·rename_i hw;simp only [hw]at this;exact ih _ _ _ _ _ hc this
theorem aIf {ops:Array Oper}{Q:Exit->Act->World->Prop}: ∀(fuel:Nat) (Cl:World->Prop) (listed:Array Bool) (a:Act) (w:World),wpS P ops (Q .normal) fuel Cl listed a w->wpAny P .any ops Q fuel listed a w:=by
 intro fuel
 induction fuel with
 |zero=>intro Cl listed a w h;exact h
 |succ fuel ih=>
  intro Cl listed a w h
  refine⟨h.1,λi hi=> ?_⟩
  have:=h.2 i hi
  unfold wpOp
  split
  ·rename_i ho;simp only [ho]at this;exact ih _ _ _ _ this
  ·rename_i o ho
   simp only [ho]at this
   split
   ·rename_i hw
    simp only [hw,if_true]at this
    left
    exact tY (λa' w' hk=>ih _ _ _ _ hk.2) this
   ·rename_i hw;simp only [hw]at this;exact ih _ _ _ _ this
def YS (P:Program) (ops:Array Oper) (Cl:World->Prop) (o:Oper) (v:Value) (a:Act):Prop:=
 (Region.wanted o (yielded ops a.tmps)=true/\ ∀w,Cl w->(execOp a.eval o).run P w= .ok (.value v) w)\/(Region.wanted o (yielded ops a.tmps)=false/\v=undef)
theorem YS.of_same {ops:Array Oper}{Cl:World->Prop}{o:Oper}{v:Value}{a a':Act}(hy:YS P ops Cl o v a) (he:execOp a'.eval o=execOp a.eval o)
  (hw:Region.wanted o (yielded ops a'.tmps)=Region.wanted o (yielded ops a.tmps)):YS P ops Cl o v a':=by
 unfold YS at *
 rw [he,hw]
 exact hy
theorem aBx {ops:Array Oper}{Q:Act->World->Prop}{i:Nat}{oi:Oper}{v:Value}(hi:ops[i]? =some oi) (hsel:Region.noSelect ops=true):
  ∀(fuel:Nat) (Cl:World->Prop) (listed:Array Bool) (a:Act) (w:World),Cl w->
   (∀j oj,ops[j]? =some oj->j≠i->listed.getD j true=false->(∀e∈oj.after,Region.binds .any e=true->e.on≠i)->oi.apart ops oj=true)->
   i∈Region.ready .any ops listed->YS P ops Cl oi v a->
   wpS P ops Q fuel Cl (listed.setIfInBounds i true) (a.put oi.dst v) w->wpS P ops Q (fuel+1) Cl listed a w:=by
 have own: ∀(fuel:Nat) (Cl:World->Prop) (listed:Array Bool) (a:Act) (w:World),Cl w->YS P ops Cl oi v a->wpS P ops Q fuel Cl (listed.setIfInBounds i true) (a.put oi.dst v) w->
   (match ops[i]? with
   |none=>wpS P ops Q fuel Cl (listed.setIfInBounds i true) a w
   |some o=>if Region.wanted o (yielded ops a.tmps)then o.wp P a w (λa' w'=>Cl w'/\wpS P ops Q fuel Cl (listed.setIfInBounds i true) a' w') noX
    else wpS P ops Q fuel Cl (listed.setIfInBounds i true) (a.put o.dst undef) w):=by
  intro fuel Cl listed a w hc hy H
  simp only [hi]
  rcases hy with⟨hw,hrun⟩|⟨hw,rfl⟩
  ·simp only [hw,if_true]
   exact cD (hrun w hc) ⟨hc,H⟩
  ·simp only [hw,Bool.false_eq_true,if_false];exact H
 intro fuel
 induction fuel with
 |zero=>
  intro Cl listed a w hc _ hr hy H
  refine⟨λh=>(by rw [h]at hr;cases hr),λj hj=> ?_⟩
  by_cases hji:j=i
  ·subst hji;exact own 0 Cl listed a w hc hy H
  ·have:=ready_mono hj hji
   rw [H.1]at this
   cases this
 |succ fuel ih=>
  intro Cl listed a w hc hfree hr hy H
  refine⟨λh=>(by rw [h]at hr;cases hr),λj hj=> ?_⟩
  by_cases hji:j=i
  ·subst hji;exact own _ Cl listed a w hc hy H
  ·have h1:=H.2 j (ready_mono hj hji)
   obtain⟨hjun,oj,hoj,hall⟩:=mem_ready.1 hj
   have hnot: ∀e∈oj.after,Region.binds .any e=true->e.on≠i:= λe he hb heq=>by
    have h1:=hall e he hb
    have h0:=(mem_ready.1 hr).1
    rw [heq]at h1
    rcases Nat.lt_or_ge i listed.size with h'|h'
    ·simp [h']at h0 h1;rw [h0]at h1;cases h1
    ·simp [Array.getElem?_eq_none h']at h1
   obtain⟨p1,p2,p3⟩:=Oper.apart_spec (hfree j oj hoj hji hjun hnot)
   have si:= λcs b=>Region.noSelect_spec hsel i oi cs b hi
   have sj:= λcs b=>Region.noSelect_spec hsel j oj cs b hoj
   have keepY:YS P ops Cl oi v a-> ∀u,YS P ops Cl oi v (a.put oj.dst u):= λhy u=>hy.of_same (execOp_put oi si a oj.dst u p3) (wanted_put oi a oj.dst u p3)
   have hfree': ∀k ok,ops[k]? =some ok->k≠i->(listed.setIfInBounds j true).getD k true=false->
     (∀e∈ok.after,Region.binds .any e=true->e.on≠i)->oi.apart ops ok=true:= λk ok hk hki hun hno=>by
    refine hfree k ok hk hki ?_ hno
    by_cases hjk:j=k
    ·subst hjk;exact hjun
    ·rw [getD_set_ne true hjk]at hun;exact hun
   have hrj:=ready_mono hr (Ne.symm hji)
   simp only [hoj]at h1 |-
   rw [wanted_put oj a oi.dst v p1]at h1
   split
   ·rename_i hw
    simp only [hw,if_true]at h1
    have h2:oj.wp P a w (λa' w'=>(Cl w'/\wpS P ops Q fuel Cl ((listed.setIfInBounds i true).setIfInBounds j true) (a'.put oi.dst v) w')) noX:=by
     unfold Oper.wp at h1 |-
     rw [execOp_put oj sj a oi.dst v p1]at h1
     exact aGd (K:= λa' w'=>Cl w'/\wpS P ops Q fuel Cl ((listed.setIfInBounds i true).setIfInBounds j true) a' w') p2 h1
    have h3:oj.wp P a w (λa' w'=>YS P ops Cl oi v a'/\(Cl w'/\wpS P ops Q fuel Cl ((listed.setIfInBounds i true).setIfInBounds j true) (a'.put oi.dst v) w')) noX:=by
     have hput: ∀u,YS P ops Cl oi v (a.put oj.dst u):= λu=>keepY hy u
     unfold Oper.wp at h2 |-
     generalize (execOp a.eval oj).run P w=r at h2
     cases r with
     |ok n w'=>
      cases n<;>simp only [Oper.upon]at h2 |-
      all_goals first
       |exact⟨hput _,h2⟩
       |exact h2.elim
       |exact Calls.mono h2 (λe w'' he=>by cases e<;>first|exact⟨hput _,he⟩|exact he)
       |exact Rows.mono h2 (λ_ _ he=>⟨hput _,he⟩)
       |exact⟨(keepY hy undef).of_same (by cases oj.dst<;>rfl) (by cases oj.dst<;>rfl),h2⟩
       |exact h2
     |halt x w'=>cases x<;>simp only [Oper.upon]at h2 |-<;>exact h2
    refine tY (λa' w' ⟨hyk,hk⟩=> ?_) h3
    refine⟨hk.1,ih Cl (listed.setIfInBounds j true) a' w' hk.1 hfree' hrj hyk ?_⟩
    rw [Array.setIfInBounds_comm _ _ hji];exact hk.2
   ·rename_i hw
    simp only [hw]at h1
    refine ih Cl (listed.setIfInBounds j true) (a.put oj.dst undef) w hc hfree' hrj (keepY hy undef) ?_
    rw [Array.setIfInBounds_comm _ _ hji,<-Act.put_comm a v _ p2]
    simpa using h1
def aKq (ops:Array Oper):OT->Array Bool->Bool->Bool
 | .done,listed,inn=> !inn && (Region.ready .any ops listed).isEmpty
 | .stop,_,inn=>inn
 | .first i t, listed, inn => !inn && (match ops[i]? with
   |some o=>decide (kd o.op<=1) && (Region.ready .any ops listed).contains i && Region.free .any ops listed i && aKq ops t (listed.setIfInBounds i true) false
   |none=>false)
 | .alt i t r,listed,inn=>(inn || (!(Region.ready .any ops listed).isEmpty && (Region.ready .any ops listed).all λj=>(i::r.heads).contains j)) && (ops[i]?).isSome && aKq ops t (listed.setIfInBounds i true) false && aKq ops r listed true
def jQ (C:Cfg) (all:List Oper) (K:Fr->Hp->Prop):OT->Fr->Hp->Prop
 | .done,fr,hp=>pN C.keep fr λfr'=>K fr' hp
 | .stop,_,_=>True
 | .first i t,fr,hp=>aKd C all i fr [] λfr' _=>jQ C all K t fr' hp
 | .alt i t r,fr,hp=>aKm C all i fr hp (λfr' hp'=>jQ C all K t fr' hp')/\jQ C all K r fr hp
def aVh (C:Cfg) (all:List Oper) (R:Act->World->Prop) (fuel:Nat) (Cl:World->Prop) (listed:Array Bool) (a:Act) (w:World) (i:Nat):Prop:=
 match all.toArray[i]? with
 |none=>wpS C.P all.toArray R fuel Cl (listed.setIfInBounds i true) a w
 |some o=>
  if Region.wanted o (yielded all.toArray a.tmps)then
   o.wp C.P a w (λa' w'=>Cl w'/\wpS C.P all.toArray R fuel Cl (listed.setIfInBounds i true) a' w') noX
  else wpS C.P all.toArray R fuel Cl (listed.setIfInBounds i true) (a.put o.dst undef) w
theorem aEi {C:Cfg}(hti:fD C.P C.ti) {all:List Oper}{K:Fr->Hp->Prop}(hsel:Region.noSelect all.toArray=true):
  ∀(T:OT) (fuel:Nat) (listed:Array Bool) (fr:Fr) (hp:Hp) (ρ:Env) (a:Act) (w:World) (E:Entry),E.pin=C.pin->E.w=w->E.S=ρ.S->jQ C all K T fr hp->Mem E ρ hp w->a.tmps.size=C.nt->a.defers=(E.D.take E.k).map sK->dY ρ w fr a.tmps->
  (aKq all.toArray T listed false=true->T.depth<=fuel->wpS C.P all.toArray (λa w=> ∃fr hp,K fr hp/\Sat E C.nt ⟨fr,hp⟩ a w) fuel (bY ρ.S w) listed a w)/\
  (∀inn,aKq all.toArray T listed inn=true->T.depth<=fuel+1-> ∀i∈T.heads,aVh C all (λa w=> ∃fr hp,K fr hp/\Sat E C.nt ⟨fr,hp⟩ a w) fuel (bY ρ.S w) listed a w i):=by
 intro T
 induction T with
 |done=>
  intro fuel listed fr hp ρ a w E hpin hEw hES h hm h1 h2 h3
  refine⟨λhB _=> ?_,λ_ _ _ i hi=>by simp [OT.heads]at hi⟩
  simp only [aKq,Bool.not_false,Bool.true_and,List.isEmpty_iff]at hB
  simp only [jQ,mF]at h
  have hq: ∃fr hp,K fr hp/\Sat E C.nt ⟨fr,hp⟩ a w:=⟨_,hp,h,h1,h2,ρ,hm,λt s hts=>h3 t s (kM _ _ t s hts)⟩
  cases fuel with
  |zero=>exact⟨hB,hq⟩
  |succ n=>exact⟨λ_=>hq,λi hi=>by rw [hB]at hi;cases hi⟩
 |stop=>
  intro fuel listed fr hp ρ a w E hpin hEw hES h hm h1 h2 h3
  exact⟨λhB=>by simp [aKq]at hB,λ_ _ _ i hi=>by simp [OT.heads]at hi⟩
 |first i t ih=>
  intro fuel listed fr hp ρ a w E hpin hEw hES h hm h1 h2 h3
  refine⟨λhB hd=> ?_,λ_ _ _ i hi=>by simp [OT.heads]at hi⟩
  simp only [jQ,aKd]at h
  split at h
  ·rename_i o ho
   have ho':all.toArray[i]? =some o:=by simpa using ho
   simp only [aKq,ho',Bool.not_false,Bool.true_and,Bool.and_eq_true,decide_eq_true_eq,List.contains_iff_mem]at hB
   obtain⟨⟨⟨hk,hr⟩,hf⟩,hB⟩:=hB
   simp only [OT.depth]at hd
   obtain⟨fuel,rfl⟩: ∃n,fuel=n+1:=⟨fuel - 1,by omega⟩
   have hm0:Mem E ρ [] w:=hm.sub (λid o ho=>by simp [aU]at ho)
   obtain⟨fr0,h3,hh⟩:=fI h h3
   rcases hh with⟨hw,h⟩|⟨hw,h⟩
   ·rcases aUi hti h with⟨_,hd',_⟩|⟨hk',_⟩|⟨hk',_⟩
    ·obtain⟨v,s,q1,q2,q3⟩:=hd' E ρ a w hm0 h3
     obtain⟨fr',p1,p2⟩:=gA q3 h1 h3 q2
     exact aBx ho' hsel fuel _ listed a w (λ_ _ _=>rfl) (Region.free_spec ho' hf) hr (v:=v) (.inl ⟨hw,λw' hw'=>q1 w' ⟨hw',λid x g hx=>by simp [aU]at hx⟩⟩)
      ((ih fuel _ fr' hp ρ _ w E hpin hEw hES p1 hm (by rw [cE];exact h1) (by rw [put_defers];exact h2) p2).1 hB (by omega))
    ·omega
    ·omega
   ·obtain⟨fr',p1,p2⟩:=gA h h1 h3 (Rep.d _ undef (.lit undef))
    exact aBx ho' hsel fuel _ listed a w (λ_ _ _=>rfl) (Region.free_spec ho' hf) hr (v:=undef) (.inr ⟨hw,rfl⟩) ((ih fuel _ fr' hp ρ _ w E hpin hEw hES p1 hm (by rw [cE];exact h1) (by rw [put_defers];exact h2) p2).1 hB (by omega))
  ·exact h.elim
 |alt i t r iht ihr=>
  intro fuel listed fr hp ρ a w E hpin hEw hES h hm h1 h2 h3
  have key: ∀inn,aKq all.toArray (.alt i t r) listed inn=true-> ∀n,(OT.alt i t r).depth<=n+1-> ∀j∈(OT.alt i t r).heads,aVh C all (λa w=> ∃fr hp,K fr hp/\Sat E C.nt ⟨fr,hp⟩ a w) n (bY ρ.S w) listed a w j:=by
   intro inn hB n hd j hj
   simp only [aKq,Bool.and_eq_true]at hB
   obtain⟨⟨⟨_,hsome⟩,hBt⟩,hBr⟩:=hB
   simp only [OT.depth]at hd
   simp only [jQ]at h
   simp only [OT.heads,List.mem_cons]at hj
   rcases hj with rfl|hj
   ·have h:=h.1
    unfold aKm at h
    split at h
    ·rename_i o ho
     have ho':all.toArray[j]? =some o:=by simpa using ho
     unfold aVh
     simp only [ho']
     obtain⟨fr0,h3,hh⟩:=fI h h3
     rcases hh with⟨hw,h⟩|⟨hw,h⟩
     ·rw [if_pos hw]
      refine aVt hti h E ρ a w hpin hm h3 _ noX λv w' ρ' s hp' k1 k2 k3 k4=> ?_
      obtain⟨fr',p1,p2⟩:=gA k1 h1 k3 k4
      have hkp:bY ρ.S w w':=by have:=k2.kp;rwa [hEw,hES]at this
      have hso: ∀b i,ρ.S b i->ρ'.S b i:=by have:=k2.sold;rwa [hES]at this
      refine⟨hkp, ?_⟩
      have hm2:Mem { fY w' ρ' hp' E.pin E.rd E.D with k:=E.k } ρ' hp' w':=by
       have:=k2.enter E.pin E.rd
       exact⟨this.os,this.tape,this.output,this.size,this.old,this.sold,this.snew,this.slt,this.kp,this.sat,this.inj,this.hb,this.mv,this.ro,this.md⟩
      have:=(iht n _ fr' hp' ρ' _ w' { fY w' ρ' hp' E.pin E.rd E.D with k:=E.k } hpin rfl rfl p1 hm2 (by rw [cE];exact h1) (by rw [put_defers];exact h2) p2).1 hBt (by omega)
      refine aGb ?_ _ _ _ _ _ _ (λw2 hw2=>hkp.trans hso hw2) this
      rintro a3 w3 ⟨fr3,hp3,q1,q2,q3,ρ3,q4,q5⟩
      exact⟨fr3,hp3,q1,q2,q3,ρ3,k2.leave (pin:=E.pin) (rd:=E.rd) q4 ⟨rfl,rfl,rfl,rfl,rfl,λb hb=>hb⟩ (λid hid=>hid),q5⟩
     ·rw [if_neg (by rw [hw];decide)]
      obtain⟨fr',p1,p2⟩:=gA h h1 h3 (Rep.d _ undef (.lit undef))
      exact(iht n _ fr' hp ρ _ w E hpin hEw hES p1 hm (by rw [cE];exact h1) (by rw [put_defers];exact h2) p2).1 hBt (by omega)
    ·exact h.elim
   ·exact(ihr n listed fr hp ρ a w E hpin hEw hES h.2 hm h1 h2 h3).2 true hBr (by omega) j hj
  refine⟨λhB hd=> ?_,λinn hB hd=>key inn hB fuel hd⟩
  have hd':=hd
  simp only [OT.depth]at hd'
  obtain⟨fuel,rfl⟩: ∃n,fuel=n+1:=⟨fuel - 1,by omega⟩
  have hc:=hB
  simp only [aKq,Bool.false_or,Bool.and_eq_true,Bool.not_eq_true',List.all_eq_true,List.contains_iff_mem]at hc
  obtain⟨⟨⟨⟨hne,hcov⟩,_⟩,_⟩,_⟩:=hc
  refine⟨λh0=> ?_,λj hj=> ?_⟩
  ·rw [h0]at hne;cases hne
  ·exact key false hB fuel hd j (hcov j hj)
theorem fG {C:Cfg}(hti:fD C.P C.ti) {id:Nat}{l:List Oper}{fr:Fr}{hp:Hp}{K:Ex->Fr->Hp->Prop}(T:OT) (hm:C.P.follows .mixedOrders=true)
  (hB:(decide (T.depth<=l.length) && Region.noSelect l.toArray && aKq l.toArray T (Array.replicate l.length false) false && lD l)=true) (h:jQ C l (K .normal) T fr hp):aM C (.region id l.toArray true) fr hp K:=by
 intro E a w hpin hrd ⟨h1,h2,ρ,h3,h4⟩
 simp only [Bool.and_eq_true,decide_eq_true_eq]at hB
 obtain⟨⟨⟨b1,b2⟩,b3⟩,hnd⟩:=hB
 refine fP hm hnd kW.noOut ?_
 obtain⟨m1,m2⟩:=h3.grow_same (Grew.drew w)
 generalize hw1:w.drew=w1 at *
 have hm2:Mem { fY w1 ρ hp E.pin E.rd E.D with k:=E.k } ρ hp w1:=by
  have:=m1.enter E.pin E.rd
  exact⟨this.os,this.tape,this.output,this.size,this.old,this.sold,this.snew,this.slt,this.kp,this.sat,this.inj,this.hb,this.mv,this.ro,this.md⟩
 have:=(aEi (C:=C) hti b2 T l.length (Array.replicate l.length false) fr hp ρ a w1 { fY w1 ρ hp E.pin E.rd E.D with k:=E.k } hpin rfl rfl h hm2 h1 h2 (m2 fr _ h4)).1 b3 b1
 have h5:=aIf (Q:=kW C E K) _ _ _ _ _ (aGb (Q':=kW C E K .normal) (λa w ⟨fr',hp',k1,q2,q3,ρ3,q4,q5⟩=>⟨.normal,fr',hp',E, .refl E,trivial,k1,q2,q3,ρ3,m1.leave (pin:=E.pin) (rd:=E.rd) q4 ⟨rfl,rfl,rfl,rfl,rfl,λb hb=>hb⟩ (λid hid=>hid),q5⟩) _ _ _ _ _ _ (λ_ h=>h) this)
 have e:l.toArray.size=l.length:=by simp
 rw [e]
 subst hw1
 exact h5
end
end Go.Proofs.YtfhoddcminbffaaGreatDoor
namespace Go.Proofs.YtfhoddcminbffaaGreatDoor
open Go.Proofs
theorem zZ {C:Cfg}{all:List Oper}{i:Nat}{fr fr2:Fr}{hp hp2:Hp}{k:Fr->Hp->Prop}{K:Fr->Hp->Prop}{T:OT}(h1:aKm C all i fr hp k) (h2:jQ C all K T fr2 hp2):aKm C all i fr hp k/\jQ C all K T fr2 hp2:=⟨h1,h2⟩
theorem eqN {α:Type}{a b:α}(h:a=b) {B:Prop}(hb:B):a=b/\B:=⟨h,hb⟩
theorem leN {a b:Nat}(h:Nat.ble a b=true) {B:Prop}(hb:B):a<=b/\B:=⟨Nat.le_of_ble_eq_true h,hb⟩
theorem ltN {a b:Nat}(h:Nat.ble (a+1) b=true) {B:Prop}(hb:B):a < b/\B:=⟨Nat.le_of_ble_eq_true h,hb⟩
theorem aM.frz1 {C:Cfg}{c:Code}{fr:Fr}{hp:Hp}{K:Ex->Fr->Hp->Prop}(t:Nat) (h:aTq [t] fr hp λfr' hp'=>aM C c fr' hp' K):aM C c fr hp K:=by
 intro E a w hpin hrd hsat
 obtain⟨h1,h2,ρ,h3,h4⟩:=hsat
 obtain⟨fr',hp',ρ',q1,q2,q3⟩:=rG [t] (a:=a) h h3 h4
 exact q1 E a w hpin hrd ⟨h1,h2,ρ',q2,q3⟩
mutual
theorem lM: ∀a:D,WkD a a
 | .nil=>by simp [WkD]
 | .sl z rows=>by rw [WkD];exact⟨rfl,aE8 rows⟩
 | .agg cs=>by rw [WkD];exact wT cs
 | .int k n=>by simp [WkD]
 | .bool b=>by simp [WkD]
 | .str l=>by simp [WkD]
 | .lit v=>by simp [WkD]
theorem wT: ∀l:List D,aKs l l
 | []=>by simp [aKs]
 |a::l=>by rw [aKs];exact⟨lM a,wT l⟩
theorem aE8: ∀l:List (List D),aOa l l
 | []=>by simp [aOa]
 |a::l=>by rw [aOa];exact⟨wT a,aE8 l⟩
end
end Go.Proofs.YtfhoddcminbffaaGreatDoor
namespace Go.Proofs.YtfhoddcminbffaaGreatDoor
open Go.Proofs
set_option maxRecDepth 10000
attribute [local irreducible] aM aJ Tri aH YVC dI bI
theorem eK (a b:Int):Tri Tryz.prog 107 [.d (.int .i64 a), .d (.int .i64 b)] [] (λr=>r= .d (.int .i64 (lQ a b))):=by
 refine aK hty Tryz.func107 rfl (kp [0,1,4,7,10]) [] _ _ _ (by simp [Tryz.f107]) (by simp) ?_
 ((conv=>whnf);repeat' ((first|(intro hq;(try simp only [lnS]at hq);(try rewrite [List.length_map]))|refine sJ ?_|refine .intro _ (.intro rfl ?_)|refine exL (k:= ?_)|refine dwR ?_|((first|refine aB ?_ ?_|refine aC ?_ ?_)<;>intro hb<;>(first|exact ddX hb|try simp only [lnS]at hb))|(refine aA ?_ ?_<;>intro hb<;>try exact dsX hb))<;>(conv=>whnf)))
 all_goals (refine cC (Eq.symm ?_);unfold lQ;simp_all<;>omega)
theorem fQ (a b:List UInt8):Tri Tryz.prog 109 [.d (.str a), .d (.str b)] [] (λr=>r= .d (.int .i64 (gB a b))):=by
 refine aK hty Tryz.func109 rfl (kp [0,1,4,7,10]) [] _ _ _ (by simp [Tryz.f109]) (by simp) ?_
 ((conv=>whnf);repeat' ((first|(intro hq;(try simp only [lnS]at hq);(try rewrite [List.length_map]))|refine sJ ?_|refine .intro _ (.intro rfl ?_)|refine exL (k:= ?_)|refine dwR ?_|((first|refine aB ?_ ?_|refine aC ?_ ?_)<;>intro hb<;>(first|exact ddX hb|try simp only [lnS]at hb))|(refine aA ?_ ?_<;>intro hb<;>try exact dsX hb))<;>(conv=>whnf)))
 all_goals (
  refine cC (Eq.symm ?_)
  have hr:=nT a b
  have hz:=dZ a b)
 ·rw [bytesLess_eq,decide_eq_true_eq]at hb
  omega
 ·rename_i hb0
  rw [bytesLess_eq,decide_eq_false_iff_not]at hb0
  have:gB a b≠0:= λq=>by rw [hz.1 q]at hb;simp at hb
  omega
 ·rename_i hb0
  rw [bytesLess_eq,decide_eq_false_iff_not]at hb0
  rw [bytesLess_eq,decide_eq_false hb0]at hb
  exact hz.2 (by simpa using hb)
theorem kH: ∀(c:Cn) (_:aN c<=1000000),Tri Tryz.prog 135 [.d (.agg (cnR c))] [] (λr=>r= .d (.int .i64 (aN c))):=by
 refine Cn.ind ?_
 intro c ih hs
 have hsz:=pH c
 rw [aL]
 refine aF false [1] hty Tryz.func135 rfl (kp [0,1,2,3,4,9]) [] _ _ _ (by simp [Tryz.f135]) (by simp) ?_
 ((conv=>whnf);repeat ((first|(intro hq;try simp only [lnS]at hq)|refine sI ?_|refine .intro _ (.intro rfl ?_));(conv=>whnf)))
 refine aG hty (λj:Nat=>([(1, .ea 5 [[.int .i64 c.kind, .str c.name, .int .i64 c.lo, .int .i64 c.hi, .sl 5 (c.parts.map cnR)]] 0 0),(3, .d (.int .i64 ((aZ (c.parts.take j)).length+1:Nat))),(4, .d (.int .i64 j))],[])) (λj=>j<=c.parts.length) (λj=>c.parts.length - j) 0 (by omega) ⟨by repeat' (first|exact trivial|exact rfl|exact⟨rfl,rfl⟩|refine And.intro ?_ ?_),trivial⟩ ?_
 intro j hj
 ((conv=>whnf);repeat ((first|(intro hq;try simp only [lnS]at hq)|refine sI ?_|refine .intro _ (.intro rfl ?_));(conv=>whnf)))
 refine aB (λh1=> ?_) (λh1=> ?_)
 ·have hjl:j < c.parts.length:=by simp only [List.length_map]at h1;omega
  have hrow':(c.parts.map cnR)[(j:Int).toNat]? =some (cnR c.parts[j]):=bC hjl
  have hp:=eP (List.getElem_mem (l:=c.parts) hjl)
  have hi:=ih c.parts[j] (List.getElem_mem hjl) (by omega)
  have hnl:=mI hjl
  have hle:=eC c.parts (j+1)
  rw [aL]at hrow' hi
  ((conv=>whnf);repeat' ((first|(intro hq;(try simp only [lnS]at hq);(try rewrite [List.length_map]))|refine sJ ?_|refine .intro _ (.intro rfl ?_)|refine exL (k:= ?_)|(refine⟨_,hrow', ?_⟩)|(refine aD [] hi trivial (λr hs=> ?_);subst hs)|refine dwR ?_|((first|refine aB ?_ ?_|refine aC ?_ ?_)<;>intro hb<;>(first|exact ddX hb|try simp only [lnS]at hb))|(refine aA ?_ ?_<;>intro hb<;>try exact dsX hb))<;>(conv=>whnf)))
  refine⟨j+1,by dsimp only;omega,by dsimp only;omega,⟨?_,trivial⟩⟩
  dsimp only
  rw [hnl]
  repeat' (first|exact trivial|exact rfl|exact aGc (by omega)|exact⟨rfl,rfl⟩|refine And.intro ?_ ?_)
 ·have hjl:j=c.parts.length:=by simp only [List.length_map]at h1;omega
  subst hjl
  rw [List.take_length,<-hsz]
  ((conv=>whnf);repeat' ((first|(intro hq;(try simp only [lnS]at hq);(try rewrite [List.length_map]))|refine sJ ?_|refine .intro _ (.intro rfl ?_)|refine exL (k:= ?_)|refine dwR ?_|((first|refine aB ?_ ?_|refine aC ?_ ?_)<;>intro hb<;>(first|exact ddX hb|try simp only [lnS]at hb))|(refine aA ?_ ?_<;>intro hb<;>try exact dsX hb))<;>(conv=>whnf)))
  rfl
theorem aQ9 {l m:List Cn}{j:Nat}(h1:j<=l.length) (h2:j<=m.length) (h:¬ (j < l.length/\j < m.length)):gU (l.drop j) (m.drop j)=lQ l.length m.length:=by
 unfold lQ
 by_cases hl:j < l.length
 ·have hm:m.drop j=[]:=List.drop_eq_nil_of_le (by omega)
  rw [List.drop_eq_getElem_cons hl,hm,gU,if_neg (by omega),if_pos (by omega)]
 ·have hm:l.drop j=[]:=List.drop_eq_nil_of_le (by omega)
  rw [hm]
  by_cases hm:j < m.length
  ·rw [List.drop_eq_getElem_cons hm,gU,if_pos (by omega)]
  ·rw [show m.drop j=[]from List.drop_eq_nil_of_le (by omega),gU,if_neg (by omega),if_neg (by omega)]
theorem iI: ∀(c d:Cn) (_:aN c<=1000000) (_:aN d<=1000000),Tri Tryz.prog 92 [.d (.agg (cnR c)), .d (.agg (cnR d))] [] (λr=>r= .d (.int .i64 (gJ c d))):=by
 refine Cn.ind ?_
 intro c ih d hs hsd
 have s1:=kH c hs
 have s2:=kH d hsd
 have o0:=eK (aN c) (aN d)
 have o1:=eK c.kind d.kind
 have o2:=fQ c.name d.name
 have o3:=eK c.lo d.lo
 have o4:=eK c.hi d.hi
 have o5:=eK c.parts.length d.parts.length
 rw [aG4,pX,aL,aL]
 rw [aL]at s1 s2
 generalize lQ (aN c) (aN d)=n0 at o0 |-
 generalize lQ c.kind d.kind=n1 at o1 |-
 generalize gB c.name d.name=n2 at o2 |-
 generalize lQ c.lo d.lo=n3 at o3 |-
 generalize lQ c.hi d.hi=n4 at o4 |-
 refine aF false [2,3] hty Tryz.func92 rfl (kp [0,1,2,3,4,5,6,13,20,27,34,55,70]) [] _ _ _ (by simp [Tryz.f92]) (by simp) ?_
 ((conv=>whnf);repeat' ((first|(intro hq;(try simp only [lnS]at hq);(try rewrite [List.length_map]))|refine sJ ?_|refine .intro _ (.intro rfl ?_)|refine exL (k:= ?_)|(refine⟨.d (.int .i64 _),_,[],rfl,trivial,s1, ?_⟩)|(refine⟨.d (.int .i64 _),_,[],rfl,trivial,s2, ?_⟩)|(refine⟨.d (.int .i64 _),_,[],rfl,trivial,o0, ?_⟩)|(refine aD [] o1 trivial (λr hs=> ?_);subst hs)|(refine aD [] o2 trivial (λr hs=> ?_);subst hs)|(refine aD [] o3 trivial (λr hs=> ?_);subst hs)|(refine aD [] o4 trivial (λr hs=> ?_);subst hs)|refine dwR ?_|((first|refine aB ?_ ?_|refine aC ?_ ?_)<;>intro hb<;>(first|exact ddX hb|try simp only [lnS]at hb))|(refine aA ?_ ?_<;>intro hb<;>try exact dsX hb))<;>(conv=>whnf)))
 ·refine aG hty (λy:Nat×Int=>([(2, .ea 5 [[.int .i64 c.kind, .str c.name, .int .i64 c.lo, .int .i64 c.hi, .sl 5 (c.parts.map cnR)]] 0 0),(3, .ea 5 [[.int .i64 d.kind, .str d.name, .int .i64 d.lo, .int .i64 d.hi, .sl 5 (d.parts.map cnR)]] 0 0),(5, .d (.int .i64 y.2)),(6, .d (.int .i64 y.1))],[])) (λy=>y.1<=c.parts.length/\y.1<=d.parts.length/\(if y.2≠0 then y.2 else gU (c.parts.drop y.1) (d.parts.drop y.1))=(if n4≠0 then n4 else gU c.parts d.parts)) (λy=>c.parts.length - y.1) (0,n4) ⟨by dsimp only;omega,by dsimp only;omega,rfl⟩ ⟨by repeat' (first|exact trivial|exact rfl|exact⟨rfl,rfl⟩|refine And.intro ?_ ?_),trivial⟩ ?_
  rintro⟨j,n⟩ ⟨hj,hjd,hn⟩
  dsimp only at hj hjd hn
  have hgoal:(if orF [n0,n1,n2,n3,n4]≠0 then orF [n0,n1,n2,n3,n4]else gU c.parts d.parts)=(if n4≠0 then n4 else gU c.parts d.parts):=by
   simp only [orF, *]
   split<;>simp_all
  rw [hgoal]
  clear hgoal o0 o1 o2 o3 o4 s1 s2
  by_cases hlt:n=0/\j < c.parts.length/\j < d.parts.length
  ·obtain⟨rfl,h1,h2⟩:=hlt
   have hrow:(c.parts.map cnR)[(j:Int).toNat]? =some (cnR c.parts[j]):=bC h1
   have hrow2:(d.parts.map cnR)[(j:Int).toNat]? =some (cnR d.parts[j]):=bC h2
   have hp:=eP (List.getElem_mem (l:=c.parts) h1)
   have hp2:=eP (List.getElem_mem (l:=d.parts) h2)
   have hcall:=ih c.parts[j] (List.getElem_mem h1) d.parts[j] (by omega) (by omega)
   rw [if_neg (by simp),List.drop_eq_getElem_cons h1,List.drop_eq_getElem_cons h2,gU]at hn
   generalize c.parts[j]=x at hrow hn hcall
   generalize d.parts[j]=z at hrow2 hn hcall
   rw [aL]at hrow hrow2
   rw [aL,aL]at hcall
   ((conv=>whnf);repeat' ((first|(intro hq;(try simp only [lnS]at hq);(try rewrite [List.length_map]))|refine sJ ?_|refine .intro _ (.intro rfl ?_)|refine exL (k:= ?_)|(refine⟨_,hrow, ?_⟩)|(refine⟨_,hrow2, ?_⟩)|(refine⟨.d (.int .i64 _),_,[],rfl,trivial,hcall, ?_⟩)|refine dwR ?_|((first|refine aB ?_ ?_|refine aC ?_ ?_)<;>intro hb<;>(first|exact ddX hb|try simp only [lnS]at hb))|(refine aA ?_ ?_<;>intro hb<;>try exact dsX hb))<;>(conv=>whnf)))
   exact⟨(j+1,gJ x z),⟨by dsimp only;omega,by dsimp only;omega,hn⟩,by dsimp only;omega,by repeat' (first|exact trivial|exact rfl|refine And.intro ?_ ?_),trivial⟩
  ·by_cases hn0:n=0
   ·subst hn0
    have hlt2:¬ (j < c.parts.length/\j < d.parts.length):= λh=>hlt ⟨rfl,h⟩
    rw [if_neg (by simp),aQ9 hj hjd hlt2]at hn
    rw [<-hn]
    ((conv=>whnf);repeat' ((first|(intro hq;(try simp only [lnS]at hq);(try rewrite [List.length_map]))|refine sJ ?_|refine .intro _ (.intro rfl ?_)|refine exL (k:= ?_)|(refine aD [] o5 trivial (λr hs=> ?_);subst hs)|refine dwR ?_|((first|refine aB ?_ ?_|refine aC ?_ ?_)<;>intro hb<;>(first|exact ddX hb|try simp only [lnS]at hb))|(refine aA ?_ ?_<;>intro hb<;>try exact dsX hb))<;>(conv=>whnf)))
    all_goals rfl
   ·rw [if_pos hn0]at hn
    ((conv=>whnf);repeat' ((first|(intro hq;(try simp only [lnS]at hq);(try rewrite [List.length_map]))|refine sJ ?_|refine .intro _ (.intro rfl ?_)|refine exL (k:= ?_)|refine dwR ?_|((first|refine aB ?_ ?_|refine aC ?_ ?_)<;>intro hb<;>(first|exact ddX hb|try simp only [lnS]at hb))|(refine aA ?_ ?_<;>intro hb<;>try exact dsX hb))<;>(conv=>whnf)))
    exact cC hn
 all_goals
  refine aG hty (λ_:Unit=>([(2, .ea 5 [[.int .i64 c.kind, .str c.name, .int .i64 c.lo, .int .i64 c.hi, .sl 5 (c.parts.map cnR)]] 0 0),(3, .ea 5 [[.int .i64 d.kind, .str d.name, .int .i64 d.lo, .int .i64 d.hi, .sl 5 (d.parts.map cnR)]] 0 0),(5, .d (.int .i64 _)),(6, .d (.int .i64 0))],[])) (λ_=>True) (λ_=>0) () trivial ⟨by repeat' (first|exact trivial|exact rfl|exact⟨rfl,rfl⟩|refine And.intro ?_ ?_),trivial⟩ ?_
  rintro⟨⟩ _
  ((conv=>whnf);repeat' ((first|(intro hq;(try simp only [lnS]at hq);(try rewrite [List.length_map]))|refine sJ ?_|refine .intro _ (.intro rfl ?_)|refine exL (k:= ?_)|refine dwR ?_|((first|refine aB ?_ ?_|refine aC ?_ ?_)<;>intro hb<;>(first|exact ddX hb|try simp only [lnS]at hb))|(refine aA ?_ ?_<;>intro hb<;>try exact dsX hb))<;>(conv=>whnf)))
  refine cC (Eq.symm ?_)
  simp [orF, *]
end Go.Proofs.YtfhoddcminbffaaGreatDoor
namespace Go.Proofs.YtfhoddcminbffaaGreatDoor
open Go.Proofs
set_option maxRecDepth 10000
attribute [local irreducible] aM aJ Tri aH YVC dI bI
theorem sF (x:Ax) (h1:aN x.left<=1000000) (h2:aN x.right<=1000000) (h3:x.roles.length<=1000000):Tri Tryz.prog 108 [.d (.agg (axR x))] [] (λr=>r= .d (.int .i64 (fN x))):=by
 have s1:=kH x.left h1
 have s2:=kH x.right h2
 rw [aL]at s1 s2
 have hw:fN x=(x.roles.length:Int)+aB9 x.left+aB9 x.right+aLk x.role+aLk x.a+aLk x.b:=by
  unfold fN;simp only [aEa,aE9];omega
 rw [hw,aB9,aB9,aLk,aLk,aLk]
 clear hw
 generalize aN x.left=m1 at *
 generalize aN x.right=m2 at *
 refine aF false [1] hty Tryz.func108 rfl (kp [0,1,2,3,10,19,27,32,37]) [] _ _ _ (by simp [Tryz.f108]) (by simp) ?_
 ((conv=>whnf);repeat' ((first|(intro hq;(try simp only [lnS]at hq);(try rewrite [List.length_map]))|refine sJ ?_|refine .intro _ (.intro rfl ?_)|refine exL (k:= ?_)|(refine aD [] s1 trivial (λr hs=> ?_);subst hs)|(refine aD [] s2 trivial (λr hs=> ?_);subst hs)|refine dwR ?_|((first|refine aB ?_ ?_|refine aC ?_ ?_)<;>intro hb<;>(first|exact ddX hb|try simp only [lnS]at hb))|(refine aA ?_ ?_<;>intro hb<;>try exact dsX hb))<;>(conv=>whnf)))
 all_goals (refine cC ?_;simp_all<;>omega)
theorem aQa (x y:Ax):aQ x y=orF [lQ (fN x) (fN y),lQ x.kind y.kind,gJ x.left y.left,gJ x.right y.right,cL x.roles y.roles,gB x.role y.role,gB x.a y.a,gB x.b y.b]:=by
 unfold aQ qP sU
 simp only [orF]
 repeat' split
 all_goals first|rfl|omega
theorem aRx (a s:Int) (r:List Int):orF (a::s::r)=orF ((if a≠0 then a else s)::r):=by
 by_cases h:a=0<;>simp [orF,h]
theorem aNw {l m:List (List UInt8)}{j:Nat}(h1:j<=l.length) (h2:j<=m.length) (h:¬ (j < l.length/\j < m.length)):cL (l.drop j) (m.drop j)=lQ l.length m.length:=by
 unfold lQ
 by_cases hl:j < l.length
 ·have hm:m.drop j=[]:=List.drop_eq_nil_of_le (by omega)
  rw [List.drop_eq_getElem_cons hl,hm,cL,if_neg (by omega),if_pos (by omega)]
 ·have hm:l.drop j=[]:=List.drop_eq_nil_of_le (by omega)
  rw [hm]
  by_cases hm:j < m.length
  ·rw [List.drop_eq_getElem_cons hm,cL,if_pos (by omega)]
  ·rw [show m.drop j=[]from List.drop_eq_nil_of_le (by omega),cL,if_neg (by omega),if_neg (by omega)]
theorem eH (x y:Ax) (h1:aN x.left<=1000000) (h2:aN x.right<=1000000) (h3:x.roles.length<=1000000) (h4:aN y.left<=1000000) (h5:aN y.right<=1000000) (h6:y.roles.length<=1000000):
  Tri Tryz.prog 61 [.d (.agg (axR x)), .d (.agg (axR y))] [] (λr=>r= .d (.int .i64 (aQ x y))):=by
 have w1:=sF x h1 h2 h3
 have w2:=sF y h4 h5 h6
 have o0:=eK (fN x) (fN y)
 have o1:=eK x.kind y.kind
 have o2:=iI x.left y.left h1 h4
 have o3:=iI x.right y.right h2 h5
 have o5:=eK x.roles.length y.roles.length
 have o6:=fQ x.role y.role
 have o7:=fQ x.a y.a
 have o8:=fQ x.b y.b
 rw [aL,aL]at o2 o3
 rw [aQa]
 generalize lQ (fN x) (fN y)=n0 at o0 |-
 generalize lQ x.kind y.kind=n1 at o1 |-
 generalize gJ x.left y.left=n2 at o2 |-
 generalize gJ x.right y.right=n3 at o3 |-
 generalize gB x.role y.role=n6 at o6 |-
 generalize gB x.a y.a=n7 at o7 |-
 generalize gB x.b y.b=n8 at o8 |-
 refine aF false [2,3] hty Tryz.func61 rfl (kp [0,1,2,3,4,5,6,13,20,27,48,63,72,79,86]) [] _ _ _ (by simp [Tryz.f61]) (by simp) ?_
 ((conv=>whnf);repeat' ((first|(intro hq;(try simp only [lnS]at hq);(try rewrite [List.length_map]))|refine sJ ?_|refine .intro _ (.intro rfl ?_)|refine exL (k:= ?_)|(refine⟨.d (.int .i64 _),_,[],rfl,trivial,w1, ?_⟩)|(refine⟨.d (.int .i64 _),_,[],rfl,trivial,w2, ?_⟩)|(refine⟨.d (.int .i64 _),_,[],rfl,trivial,o0, ?_⟩)|(refine aD [] o1 trivial (λr hs=> ?_);subst hs)|(refine aD [] o2 trivial (λr hs=> ?_);subst hs)|(refine aD [] o3 trivial (λr hs=> ?_);subst hs)|refine dwR ?_|((first|refine aB ?_ ?_|refine aC ?_ ?_)<;>intro hb<;>(first|exact ddX hb|try simp only [lnS]at hb))|(refine aA ?_ ?_<;>intro hb<;>try exact dsX hb))<;>(conv=>whnf)))
 ·refine aG hty (λq:Nat×Int=>([(2, .ea 16 [axR x] 0 0),(3, .ea 16 [axR y] 0 0),(5, .d (.int .i64 q.2)),(6, .d (.int .i64 q.1))],[])) (λq=>q.1<=x.roles.length/\q.1<=y.roles.length/\(if q.2≠0 then q.2 else cL (x.roles.drop q.1) (y.roles.drop q.1))=(if n3≠0 then n3 else cL x.roles y.roles)) (λq=>x.roles.length - q.1) (0,n3) ⟨by dsimp only;omega,by dsimp only;omega,rfl⟩ ⟨by repeat' (first|exact trivial|exact rfl|exact⟨rfl,rfl⟩|refine And.intro ?_ ?_),trivial⟩ ?_
  rintro⟨j,n⟩ ⟨hj,hjd,hn⟩
  dsimp only at hj hjd hn
  have hgoal:orF [n0,n1,n2,n3,cL x.roles y.roles,n6,n7,n8]=orF [if n3≠0 then n3 else cL x.roles y.roles,n6,n7,n8]:=by
   have e0:n0=0:=by assumption
   have e1:n1=0:=by assumption
   have e2:n2=0:=by assumption
   rw [e0,e1,e2]
   exact aRx n3 _ _
  rw [hgoal]
  clear hgoal o0 o1 o2 o3 w1 w2
  by_cases hlt:n=0/\j < x.roles.length/\j < y.roles.length
  ·obtain⟨rfl,h1,h2⟩:=hlt
   have hrow:(x.roles.map bN)[(j:Int).toNat]? =some (bN x.roles[j]):=bC h1
   have hrow2:(y.roles.map bN)[(j:Int).toNat]? =some (bN y.roles[j]):=bC h2
   have hcall:=fQ x.roles[j] y.roles[j]
   rw [if_neg (by simp),List.drop_eq_getElem_cons h1,List.drop_eq_getElem_cons h2,cL]at hn
   generalize x.roles[j]=u at hrow hn hcall
   generalize y.roles[j]=z at hrow2 hn hcall
   ((conv=>whnf);repeat' ((first|(intro hq;(try simp only [lnS]at hq);(try rewrite [List.length_map]))|refine sJ ?_|refine .intro _ (.intro rfl ?_)|refine exL (k:= ?_)|(refine⟨_,hrow, ?_⟩)|(refine⟨_,hrow2, ?_⟩)|(refine⟨.d (.int .i64 _),_,[],rfl,trivial,hcall, ?_⟩)|refine dwR ?_|((first|refine aB ?_ ?_|refine aC ?_ ?_)<;>intro hb<;>(first|exact ddX hb|try simp only [lnS]at hb))|(refine aA ?_ ?_<;>intro hb<;>try exact dsX hb))<;>(conv=>whnf)))
   exact⟨(j+1,gB u z),⟨by dsimp only;omega,by dsimp only;omega,hn⟩,by dsimp only;omega,by repeat' (first|exact trivial|exact rfl|refine And.intro ?_ ?_),trivial⟩
  ·by_cases hn0:n=0
   ·subst hn0
    have hlt2:¬ (j < x.roles.length/\j < y.roles.length):= λh=>hlt ⟨rfl,h⟩
    rw [if_neg (by simp),aNw hj hjd hlt2]at hn
    rw [<-hn]
    generalize lQ x.roles.length y.roles.length=n5 at o5
    ((conv=>whnf);repeat' ((first|(intro hq;(try simp only [lnS]at hq);(try rewrite [List.length_map]))|refine sJ ?_|refine .intro _ (.intro rfl ?_)|refine exL (k:= ?_)|(refine aD [] o5 trivial (λr hs=> ?_);subst hs)|(refine aD [] o6 trivial (λr hs=> ?_);subst hs)|(refine aD [] o7 trivial (λr hs=> ?_);subst hs)|(refine aD [] o8 trivial (λr hs=> ?_);subst hs)|refine dwR ?_|((first|refine aB ?_ ?_|refine aC ?_ ?_)<;>intro hb<;>(first|exact ddX hb|try simp only [lnS]at hb))|(refine aA ?_ ?_<;>intro hb<;>try exact dsX hb))<;>(conv=>whnf)))
    all_goals (refine cC ?_;simp [orF, *])
   ·rw [if_pos hn0]at hn
    rw [<-hn]
    ((conv=>whnf);repeat' ((first|(intro hq;(try simp only [lnS]at hq);(try rewrite [List.length_map]))|refine sJ ?_|refine .intro _ (.intro rfl ?_)|refine exL (k:= ?_)|refine dwR ?_|((first|refine aB ?_ ?_|refine aC ?_ ?_)<;>intro hb<;>(first|exact ddX hb|try simp only [lnS]at hb))|(refine aA ?_ ?_<;>intro hb<;>try exact dsX hb))<;>(conv=>whnf)))
    refine cC ?_
    clear hn
    simp [orF, *]
 all_goals
  refine aG hty (λ_:Unit=>([(2, .ea 16 [axR x] 0 0),(3, .ea 16 [axR y] 0 0),(5, .d (.int .i64 _)),(6, .d (.int .i64 0))],[])) (λ_=>True) (λ_=>0) () trivial ⟨by repeat' (first|exact trivial|exact rfl|exact⟨rfl,rfl⟩|refine And.intro ?_ ?_),trivial⟩ ?_
  rintro⟨⟩ _
  ((conv=>whnf);repeat' ((first|(intro hq;(try simp only [lnS]at hq);(try rewrite [List.length_map]))|refine sJ ?_|refine .intro _ (.intro rfl ?_)|refine exL (k:= ?_)|refine dwR ?_|((first|refine aB ?_ ?_|refine aC ?_ ?_)<;>intro hb<;>(first|exact ddX hb|try simp only [lnS]at hb))|(refine aA ?_ ?_<;>intro hb<;>try exact dsX hb))<;>(conv=>whnf)))
  refine cC (Eq.symm ?_)
  simp [orF, *]
end Go.Proofs.YtfhoddcminbffaaGreatDoor
namespace Go.Proofs.YtfhoddcminbffaaGreatDoor
structure CW {V:Type} (E:V->V->Bool->Prop) (L:Nat) (w:Nat->V) (t:Nat->Bool):Prop where
 edge: ∀i,i < L->E (w i) (w (i+1)) (t i)
 closed:w L=w 0
 strict: ∃i,i < L/\t i=true
def jO {V:Type}(E:V->V->Bool->Prop):Prop:= ∃L w t,CW E L w t
theorem CW.cut {V:Type}{E:V->V->Bool->Prop}{L:Nat}{w:Nat->V}{t:Nat->Bool}(h:CW E L w t) {i j:Nat}(hij:i < j) (hj:j < L) (he:w i=w j):
  ∃L' w' t',L' < L/\CW E L' w' t':=by
 obtain⟨k,hk,hs⟩:=h.strict
 by_cases hin:i<=k/\k < j
 ·refine⟨j - i,λn=>w (i+n),λn=>t (i+n),by omega,⟨λn hn=> ?_, ?_,k - i,by omega, ?_⟩⟩
  ·exact h.edge (i+n) (by omega)
  ·show w (i+(j - i))=w (i+0)
   rw [show i+(j - i)=j by omega,Nat.add_zero,he]
  ·show t (i+(k - i))=true
   rw [show i+(k - i)=k by omega,hs]
 ·refine⟨L - (j - i),λn=>if n<=i then w n else w (n+(j - i)),λn=>if n < i then t n else t (n+(j - i)),by omega,⟨λn hn=> ?_, ?_, ?_⟩⟩
  ·show E (if n<=i then w n else w (n+(j - i))) (if n+1<=i then w (n+1)else w (n+1+(j - i))) (if n < i then t n else t (n+(j - i)))
   by_cases h1:n < i
   ·rw [if_pos (by omega),if_pos (by omega),if_pos h1]
    exact h.edge n (by omega)
   ·rw [if_neg (by omega:¬ n+1<=i),if_neg h1]
    have h2:=h.edge (n+(j - i)) (by omega)
    rw [show n+(j - i)+1=n+1+(j - i)by omega]at h2
    by_cases h3:n=i
    ·subst h3
     rw [if_pos (Nat.le_refl _),he]
     rw [show n+(j - n)=j by omega]at h2 |-
     exact h2
    ·rw [if_neg (by omega)]
     exact h2
  ·show (if L - (j - i)<=i then w (L - (j - i))else w (L - (j - i)+(j - i)))=(if 0<=i then w 0 else w (0+(j - i)))
   rw [if_neg (by omega),if_pos (by omega),show L - (j - i)+(j - i)=L by omega]
   exact h.closed
  ·by_cases h1:k < i
   ·exact⟨k,by omega,by show (if k < i then t k else t (k+(j - i)))=true;rw [if_pos h1,hs]⟩
   ·refine⟨k - (j - i),by omega, ?_⟩
    show (if k - (j - i) < i then t (k - (j - i))else t (k - (j - i)+(j - i)))=true
    rw [if_neg (by omega),show k - (j - i)+(j - i)=k by omega,hs]
theorem jO.least {V:Type}{E:V->V->Bool->Prop}(h:jO E): ∃L w t,CW E L w t/\(∀L' w' t',L' < L->¬ CW E L' w' t')/\ ∀i j,i < j->j < L->w i≠w j:=by
 obtain⟨L,w,t,h⟩:=h
 induction L using Nat.strongRecOn generalizing w t with
 |ind L ih=>
  by_cases hc: ∃L' w' t',L' < L/\CW E L' w' t'
  ·obtain⟨L',w',t',hl,h'⟩:=hc
   exact ih L' hl w' t' h'
  ·exact⟨L,w,t,h,λL' w' t' hl h'=>hc ⟨L',w',t',hl,h'⟩,λi j hij hj he=>hc (h.cut hij hj he)⟩
theorem tM {V:Type}: ∀(l m:List V),l.Nodup->(∀x∈l,x∈m)->l.length<=m.length
 | [],m,_,_=>by simp
 |a::r,m,hn,hs=>by
  rw [List.nodup_cons]at hn
  obtain⟨m1,m2,rfl⟩:=List.append_of_mem (hs a (List.mem_cons_self ..))
  have:=tM r (m1++m2) hn.2 λx hx=>by
   have h1:=hs x (List.mem_cons_of_mem _ hx)
   rw [List.mem_append,List.mem_cons]at h1
   rw [List.mem_append]
   rcases h1 with h1|h1|h1
   ·exact .inl h1
   ·subst h1;exact absurd hx hn.1
   ·exact .inr h1
  simp only [List.length_append,List.length_cons]at this |-
  omega
theorem aQs {V:Type}{w:Nat->V}{L:Nat}{m:List V}(hi: ∀i j,i < j->j < L->w i≠w j) (hm: ∀i,i < L->w i∈m):L<=m.length:=by
 have h := tM ((List.range L).map w) m (by
  rw [List.Nodup,List.pairwise_map]
  refine List.pairwise_iff_getElem.2 λi j h1 h2 h3=> ?_
  simp only [List.getElem_range]
  exact hi i j h3 (by simpa using h2)) (by
  intro x hx
  obtain⟨i,hi',rfl⟩:=List.mem_map.1 hx
  exact hm i (List.mem_range.1 hi'))
 simpa using h
inductive Wlk {V:Type} (E:V->V->Bool->Prop) (a:V):Nat->V->Bool->Prop
 |nil:Wlk E a 0 a false
 |snoc {n b c s t}:Wlk E a n b s->E b c t->Wlk E a (n+1) c (s || t)
theorem CW.wlk {V:Type}{E:V->V->Bool->Prop}{L:Nat}{w:Nat->V}{t:Nat->Bool}(h:CW E L w t): ∀n,n<=L->Wlk E (w 0) n (w n) ((List.range n).any t)
 | 0,_=> .nil
 |n+1,hn=>by
  have h1:=(h.wlk n (by omega)).snoc (h.edge n (by omega))
  rw [List.range_succ,List.any_append]
  simpa using h1
theorem Wlk.cw {V:Type}{E:V->V->Bool->Prop}{a:V}: ∀{n:Nat}{b:V}{s:Bool},Wlk E a n b s-> ∃(w:Nat->V) (t:Nat->Bool),w 0=a/\w n=b/\(∀i,i < n->E (w i) (w (i+1)) (t i))/\((List.range n).any t=s)
 |_,_,_, .nil=>⟨λ_=>a,λ_=>false,rfl,rfl,by omega,rfl⟩
 |n+1,c,_, .snoc (b:=b) (s:=s) (t:=t) h he=>by
  obtain⟨w,u,h0,hn,hE,hs⟩:=h.cw
  refine⟨λi=>if i<=n then w i else c,λi=>if i < n then u i else t, ?_, ?_,λi hi=> ?_, ?_⟩
  ·show (if 0<=n then w 0 else c)=a
   rw [if_pos (by omega),h0]
  ·show (if n+1<=n then _ else c)=c
   rw [if_neg (by omega)]
  ·show E (if i<=n then w i else c) (if i+1<=n then w (i+1)else c) (if i < n then u i else t)
   by_cases h1:i < n
   ·rw [if_pos (by omega),if_pos (by omega),if_pos h1];exact hE i h1
   ·have h2:i=n:=by omega
    subst h2
    rw [if_pos (Nat.le_refl _),if_neg (by omega),if_neg h1,hn];exact he
  ·rw [List.range_succ,List.any_append]
   simp only [List.any_cons,List.any_nil,Bool.or_false,Nat.lt_irrefl,if_false]
   rw [<-hs]
   congr 1
   have: ∀i∈List.range n,(if i < n then u i else t)=u i:= λi hi=>if_pos (List.mem_range.1 hi)
   rw [Bool.eq_iff_iff,List.any_eq_true,List.any_eq_true]
   constructor
   ·rintro⟨i,hi,h⟩;exact⟨i,hi,by rw [<-this i hi];exact h⟩
   ·rintro⟨i,hi,h⟩;exact⟨i,hi,by rw [this i hi];exact h⟩
theorem aBl {V:Type}{E:V->V->Bool->Prop}:jO E↔ ∃a n,Wlk E a n a true:=by
 constructor
 ·rintro⟨L,w,t,h⟩
  refine⟨w 0,L, ?_⟩
  have h1:=h.wlk L (Nat.le_refl _)
  rw [h.closed]at h1
  obtain⟨i,hi,hs⟩:=h.strict
  rwa [List.any_eq_true.2 ⟨i,List.mem_range.2 hi,hs⟩]at h1
 ·rintro⟨a,n,h⟩
  obtain⟨w,t,h0,hn,hE,hs⟩:=h.cw
  obtain⟨i,hi,ht⟩:=List.any_eq_true.1 hs
  exact⟨n,w,t,hE,by rw [hn,h0],i,List.mem_range.1 hi,ht⟩
theorem Wlk.mono {V:Type}{E F:V->V->Bool->Prop}(h: ∀a b t,E a b t-> ∃t',F a b t'/\(t=true->t'=true)) {a:V}: ∀{n:Nat}{b:V}{s:Bool},Wlk E a n b s-> ∃s',Wlk F a n b s'/\(s=true->s'=true)
 |_,_,_, .nil=>⟨false, .nil,id⟩
 |_,_,_, .snoc (s:=s) (t:=t) hw he=>by
  obtain⟨s',h1,h2⟩:=hw.mono h
  obtain⟨t',h3,h4⟩:=h _ _ _ he
  refine⟨_, .snoc h1 h3, ?_⟩
  cases s<;>cases t<;>simp_all
theorem jO.mono {V:Type}{E F:V->V->Bool->Prop}(h: ∀a b t,E a b t-> ∃t',F a b t'/\(t=true->t'=true)) (hc:jO E):jO F:=by
 obtain⟨a,n,hw⟩:=aBl.1 hc
 obtain⟨s',h1,h2⟩:=hw.mono h
 rw [h2 rfl]at h1
 exact aBl.2 ⟨a,n,h1⟩
theorem jO.dom {V:Type}{E:V->V->Bool->Prop}(hc:jO E):jO (λa b t=>E a b t/\ ∃c u,E b c u):=by
 obtain⟨L,w,t,h⟩:=hc
 obtain⟨k,hk,hs⟩:=h.strict
 refine⟨L,w,t,λi hi=>⟨h.edge i hi, ?_⟩,h.closed,k,hk,hs⟩
 by_cases h1:i+1 < L
 ·exact⟨_,_,h.edge (i+1) h1⟩
 ·rw [show i+1=L by omega,h.closed]
  exact⟨_,_,h.edge 0 (by omega)⟩
theorem jO.map {V W:Type}{E:V->V->Bool->Prop}{F:W->W->Bool->Prop}(f:V->W) (h: ∀a b t,E a b t->F (f a) (f b) t) (hc:jO E):jO F:=by
 obtain⟨L,w,t,h0⟩:=hc
 exact⟨L,λi=>f (w i),t,λi hi=>h _ _ _ (h0.edge i hi),congrArg f h0.closed,h0.strict⟩
structure Way where
 role:Nat
 strict:Bool
 before:Nat
 many:Nat
abbrev Adj:=List (List (Nat×Bool))
def lT (G:Adj) (i:Nat):List (Nat×Bool):=(G[i]?).getD []
def EG (G:Adj) (i j:Nat) (t:Bool):Prop:=(j,t)∈lT G i
def aRn (p:Bool×Bool) (s:Bool):Bool:=if s then p.2 else p.1
def oD (S:List (Bool×Bool)) (v:Nat) (s:Bool):Bool:=aRn ((S[v]?).getD (false,false)) s
def aCv (p:Bool×Bool) (s:Bool):Bool×Bool:=if s then (p.1,true)else (true,p.2)
structure Bfs (G:Adj) (n start at' k:Nat) (W:List Way) (S:List (Bool×Bool)):Prop where
 len:S.length=n
 first:W[0]? =some ⟨start,false,0,0⟩
 sound: ∀w∈W,Wlk (EG G) start w.many w.role w.strict/\w.role < n
 before: ∀(i:Nat) w,W[i]? =some w->0 < i->w.before < i
 mono: ∀(i j:Nat) x y,i<=j->W[i]? =some x->W[j]? =some y->x.many<=y.many
 bound: ∀x,W[at']? =some x-> ∀w∈W,w.many<=x.many+1
 seen: ∀v s,oD S v s=true↔ ∃w∈W,w.role=v/\w.strict=s
 once:(W.map λw=>(w.role,w.strict)).Nodup
 done: ∀(i:Nat) w (m j:Nat) t,W[i]? =some w->(lT G w.role)[m]? =some (j,t)->(i < at'\/i=at'/\m < k)->¬ (j=start/\(w.strict || t)=true)/\ ∃w'∈W,w'.role=j/\w'.strict=(w.strict || t)/\w'.many<=w.many+1
theorem aNf {α:Type}{l:List α}{i:Nat}{a:α}(h:l.length<=i):(l[i]?).getD a=a:=by rw [List.getElem?_eq_none h];rfl
theorem aGn {S:List (Bool×Bool)}{j:Nat}(hj:j < S.length) (s:Bool) (v:Nat) (s':Bool):
  oD (S.set j (aCv ((S[j]?).getD (false,false)) s)) v s'=true↔oD S v s'=true\/(v=j/\s'=s):=by
 unfold oD
 rw [List.getElem?_set]
 by_cases h:j=v
 ·subst h
  rw [if_pos rfl,if_pos hj]
  simp only [Option.getD_some]
  generalize (S[j]?).getD (false,false)=p
  obtain⟨a,b⟩:=p
  cases s<;>cases s'<;>cases a<;>cases b<;>simp [aRn,aCv]
 ·rw [if_neg h]
  constructor
  ·exact .inl
  ·rintro(h1|⟨rfl,_⟩)
   ·exact h1
   ·exact absurd rfl h
theorem aP4 (n v:Nat) (s:Bool):oD (List.replicate n (false,false)) v s=false:=by
 unfold oD
 rw [List.getElem?_replicate]
 split<;>cases s<;>rfl
theorem Bfs.init {G:Adj}{n start:Nat}(h:start < n):Bfs G n start 0 0 [⟨start,false,0,0⟩] ((List.replicate n (false,false)).set start (true,false)) where
 len:=by simp
 first:=rfl
 sound:=by
  intro w hw
  simp only [List.mem_singleton]at hw
  subst hw
  exact⟨.nil,h⟩
 before:=by
  intro i w hi h0
  rw [List.getElem?_eq_none (by simp;omega)]at hi
  cases hi
 mono:=by
  intro i j x y hij hx hy
  have hi:i=0:=by have:=(List.getElem?_eq_some_iff.1 hx).1;simp at this;exact this
  have hj:j=0:=by have:=(List.getElem?_eq_some_iff.1 hy).1;simp at this;exact this
  subst hi hj
  rw [hx]at hy
  cases hy
  exact Nat.le_refl _
 bound:=by
  intro x hx w hw
  simp only [List.mem_singleton]at hw
  subst hw
  exact Nat.zero_le _
 seen:=by
  intro v s
  have h1:=aGn (S:=List.replicate n (false,false)) (j:=start) (by simpa using h) false v s
  rw [aP4,List.getElem?_replicate,if_pos h]at h1
  simp only [List.mem_singleton]
  refine(show _↔_ from h1).trans ?_
  constructor
  ·rintro(h2|⟨rfl,rfl⟩)
   ·cases h2
   ·exact⟨_,rfl,rfl,rfl⟩
  ·rintro⟨w,rfl,rfl,rfl⟩
   exact .inr ⟨rfl,rfl⟩
 once:=by simp
 done:=by
  intro i w m j t _ _ h
  omega
theorem Bfs.found {G:Adj}{n start at' k:Nat}{W:List Way}{S:List (Bool×Bool)}(h:Bfs G n start at' k W S) {w:Way}(hw:w∈W) {t:Bool}(he:EG G w.role start t) (hs:(w.strict || t)=true):jO (EG G):=by
 have h1:=(h.sound w hw).1.snoc he
 rw [hs]at h1
 exact aBl.2 ⟨_,_,h1⟩
theorem Bfs.skip {G:Adj}{n start at' k:Nat}{W:List Way}{S:List (Bool×Bool)}(h:Bfs G n start at' k W S) {w:Way}(hw:W[at']? =some w) {j:Nat}{t:Bool}
  (hk:(lT G w.role)[k]? =some (j,t)) (hc:¬ (j=start/\(w.strict || t)=true)) (hs:oD S j (w.strict || t)=true):Bfs G n start at' (k+1) W S:=
 { h with
  done:= λi w' m j' t' h1 h2 h3=>by
   by_cases he:i=at'/\m=k
   ·obtain⟨rfl,rfl⟩:=he
    rw [hw]at h1;cases h1
    rw [hk]at h2;cases h2
    refine⟨hc, ?_⟩
    obtain⟨x,hx,e1,e2⟩:=(h.seen _ _).1 hs
    exact⟨x,hx,e1,e2,h.bound w hw x hx⟩
   ·exact h.done i w' m j' t' h1 h2 (by omega) }
theorem Bfs.push {G:Adj}{n start at' k:Nat}{W:List Way}{S:List (Bool×Bool)}(h:Bfs G n start at' k W S) {w:Way}(hw:W[at']? =some w) {j:Nat}{t:Bool}(hj:j < n)
  (hk:(lT G w.role)[k]? =some (j,t)) (hc:¬ (j=start/\(w.strict || t)=true)) (hs:oD S j (w.strict || t)=false):
  Bfs G n start at' (k+1) (W++[⟨j,w.strict || t,at',w.many+1⟩]) (S.set j (aCv ((S[j]?).getD (false,false)) (w.strict || t))):=by
 have hlt:at' < W.length:=(List.getElem?_eq_some_iff.1 hw).1
 have hwm:w∈W:=List.mem_of_getElem? hw
 have hg: ∀(i:Nat) x,(W++[⟨j,w.strict || t,at',w.many+1⟩])[i]? =some x->W[i]? =some x\/(i=W.length/\x=⟨j,w.strict || t,at',w.many+1⟩):=by
  intro i x hx
  rw [List.getElem?_append]at hx
  split at hx
  ·exact .inl hx
  ·rename_i hi
   have h2:=(List.getElem?_eq_some_iff.1 hx).1
   simp only [List.length_singleton]at h2
   have h3:i=W.length:=by omega
   subst h3
   simp only [Nat.sub_self,List.getElem?_cons_zero,Option.some.injEq]at hx
   exact .inr ⟨rfl,hx.symm⟩
 have hE:EG G w.role j t:=List.mem_of_getElem? hk
 refine { len:=by rw [List.length_set];exact h.len,first:= ?_,sound:= ?_,before:= ?_,mono:= ?_,bound:= ?_,seen:= ?_,once:= ?_,done:= ?_ }
 ·rw [List.getElem?_append_left (by omega)];exact h.first
 ·intro x hx
  rcases List.mem_append.1 hx with hx|hx
  ·exact h.sound x hx
  ·simp only [List.mem_singleton]at hx
   subst hx
   exact⟨(h.sound w hwm).1.snoc hE,hj⟩
 ·intro i x hx h0
  rcases hg i x hx with hx|⟨rfl,rfl⟩
  ·exact h.before i x hx h0
  ·exact hlt
 ·intro a b x y hab hx hy
  rcases hg b y hy with hy|⟨rfl,rfl⟩
  ·rcases hg a x hx with hx|⟨rfl,rfl⟩
   ·exact h.mono a b x y hab hx hy
   ·have:=(List.getElem?_eq_some_iff.1 hy).1;omega
  ·rcases hg a x hx with hx|⟨ha,rfl⟩
   ·exact h.bound w hw x (List.mem_of_getElem? hx)
   ·exact Nat.le_refl _
 ·intro x hx y hy
  rw [List.getElem?_append_left hlt,hw]at hx
  cases hx
  rcases List.mem_append.1 hy with hy|hy
  ·exact h.bound w hw y hy
  ·simp only [List.mem_singleton]at hy
   subst hy
   exact Nat.le_refl _
 ·intro v s
  rw [aGn (by rw [h.len];exact hj),h.seen]
  constructor
  ·rintro(⟨x,hx,e⟩|⟨rfl,rfl⟩)
   ·exact⟨x,List.mem_append_left _ hx,e⟩
   ·exact⟨_,List.mem_append_right _ (List.mem_singleton.2 rfl),rfl,rfl⟩
  ·rintro⟨x,hx,e1,e2⟩
   rcases List.mem_append.1 hx with hx|hx
   ·exact .inl ⟨x,hx,e1,e2⟩
   ·simp only [List.mem_singleton]at hx
    subst hx
    exact .inr ⟨e1.symm,e2.symm⟩
 ·rw [List.map_append,List.nodup_append]
  refine⟨h.once,by simp, ?_⟩
  intro a ha b hb hab
  subst hab
  simp only [List.map_cons,List.map_nil,List.mem_singleton]at hb
  subst hb
  obtain⟨x,hx,he⟩:=List.mem_map.1 ha
  injection he with e1 e2
  have:=(h.seen j (w.strict || t)).2 ⟨x,hx,e1,e2⟩
  rw [hs]at this;cases this
 ·intro i x m j' t' h1 h2 h3
  have hi:i<=at':=by omega
  rcases hg i x h1 with h1'|⟨rfl,_⟩
  ·clear h1
   have h1:=h1'
   by_cases he:i=at'/\m=k
   ·obtain⟨rfl,rfl⟩:=he
    rw [hw]at h1;cases h1
    rw [hk]at h2;cases h2
    exact⟨hc,_,List.mem_append_right _ (List.mem_singleton.2 rfl),rfl,rfl,Nat.le_refl _⟩
   ·obtain⟨e1,y,hy,e2⟩:=h.done i x m j' t' h1 h2 (by omega)
    exact⟨e1,y,List.mem_append_left _ hy,e2⟩
  ·omega
theorem Bfs.next {G:Adj}{n start at' k:Nat}{W:List Way}{S:List (Bool×Bool)}(h:Bfs G n start at' k W S) {w:Way}(hw:W[at']? =some w) (hk:(lT G w.role).length<=k):Bfs G n start (at'+1) 0 W S:=
 { h with
  bound:= λx hx y hy=>Nat.le_trans (h.bound w hw y hy) (Nat.succ_le_succ (h.mono _ _ _ _ (Nat.le_succ _) hw hx))
  done:= λi x m j t h1 h2 h3=>by
   refine h.done i x m j t h1 h2 ?_
   by_cases hi:i=at'
   ·subst hi
    rw [hw]at h1;cases h1
    have:=(List.getElem?_eq_some_iff.1 h2).1
    exact .inr ⟨rfl,by omega⟩
   ·omega }
theorem Bfs.none {G:Adj}{n start at':Nat}{W:List Way}{S:List (Bool×Bool)}(h:Bfs G n start at' 0 W S) {most:Nat}(hat: ∀w,W[at']? =some w->most<=w.many+1):
  ∀L w t,CW (EG G) L w t->w 0=start->¬ L < most:=by
 have hp: ∀(i:Nat) (w:Way),W[i]? =some w->w.many+1 < most->i < at':=by
  intro i w hi hm
  by_cases h1:i < at'
  ·exact h1
  ·have h2:at' < W.length:=by have:=(List.getElem?_eq_some_iff.1 hi).1;omega
   have h3:=List.getElem?_eq_getElem h2
   have h4:=hat _ h3
   have h5:=h.mono at' i _ _ (by omega) h3 hi
   omega
 have key: ∀k v s,Wlk (EG G) start k v s->k < most-> ∃(i:Nat) (w:Way),W[i]? =some w/\w.role=v/\w.strict=s/\w.many<=k:=by
  intro k
  induction k with
  |zero=>
   intro v s hw _
   cases hw
   exact⟨0,_,h.first,rfl,rfl,Nat.le_refl _⟩
  |succ k ih=>
   intro v s hw hk
   cases hw with
   |snoc hw he=>
    rename_i b s t
    obtain⟨i,x,hi,e1,e2,e3⟩:=ih b s hw (by omega)
    obtain⟨m,hm,hmt⟩:=List.getElem_of_mem he
    subst e1
    obtain⟨_,y,hy,f1,f2,f3⟩:=h.done i x m v t hi (by rw [List.getElem?_eq_getElem hm,hmt]) (.inl (hp i x hi (by omega)))
    obtain⟨q,hq,rfl⟩:=List.getElem_of_mem hy
    exact⟨q,_,List.getElem?_eq_getElem hq,f1,by rw [f2,e2],by omega⟩
 intro L w t hc h0 hL
 obtain⟨q,hq,hs⟩:=hc.strict
 have h1:=hc.wlk L (Nat.le_refl _)
 have hb:=List.any_eq_true.2 ⟨q,List.mem_range.2 hq,hs⟩
 rw [hc.closed,h0]at h1
 generalize (List.range L).any t=sb at h1 hb
 generalize hst0:start=fin at h1
 cases h1 with
 |nil=>cases hb
 |snoc hw he=>
  subst hst0
  rename_i m b s t'
  obtain⟨i,x,hi,e1,e2,e3⟩:=key m b s hw (by omega)
  obtain⟨p,hpp,hmt⟩:=List.getElem_of_mem he
  subst e1
  exact(h.done i x p start t' hi (by rw [List.getElem?_eq_getElem hpp,hmt]) (.inl (hp i x hi (by omega)))).1 ⟨rfl,by rw [e2];exact hb⟩
theorem Bfs.few {G:Adj}{n start at' k:Nat}{W:List Way}{S:List (Bool×Bool)}(h:Bfs G n start at' k W S):W.length<=2 * n:=by
 have := tM (W.map λw => (w.role, w.strict)) ((List.range n).map (λi => (i, false)) ++ (List.range n).map (λi => (i, true))) h.once (by
  intro x hx
  obtain⟨w,hw,rfl⟩:=List.mem_map.1 hx
  have:=(h.sound w hw).2
  rw [List.mem_append]
  cases hs:w.strict
  ·exact .inl (List.mem_map.2 ⟨_,List.mem_range.2 this,rfl⟩)
  ·exact .inr (List.mem_map.2 ⟨_,List.mem_range.2 this,rfl⟩))
 simp at this
 omega
theorem Bfs.many {G:Adj}{n start at' k:Nat}{W:List Way}{S:List (Bool×Bool)}(h:Bfs G n start at' k W S) {w:Way}(hw:w∈W) {x:Way}(hx:W[at']? =some x):w.many<=x.many+1:=h.bound x hx w hw
theorem aO5 {G:Adj}{i j:Nat}{t:Bool}(h:EG G i j t):i < G.length:=by
 unfold EG lT at h
 by_cases hi:i < G.length
 ·exact hi
 ·rw [aNf (by omega)]at h;cases h
theorem aO1 {G:Adj}(h:jO (EG G)): ∃L w t,CW (EG G) L w t/\w 0 < G.length/\L < G.length+1:=by
 obtain⟨L,w,t,hc,_,hi⟩:=h.least
 have h1:=aQs (m:=List.range G.length) hi λi hi=>List.mem_range.2 (aO5 (hc.edge i hi))
 obtain⟨q,hq,_⟩:=hc.strict
 exact⟨L,w,t,hc,aO5 (hc.edge 0 (by omega)),by simpa using Nat.lt_succ_of_le h1⟩
end Go.Proofs.YtfhoddcminbffaaGreatDoor
namespace Go.Proofs.YtfhoddcminbffaaGreatDoor
abbrev Str:=List UInt8
abbrev Stp:=Str×Str×Bool
abbrev Pth:=List Str×Bool
def ET (T:List Stp) (a b:Str) (t:Bool):Prop:=(a,b,t)∈T
def jB (p:Pth):Str:=(p.1[p.1.length - 1]?).getD []
def pJ (x y:Pth):Bool:=decide (y.2=x.2) && decide ((y.1[x.1.length - 1]?).getD []=jB x)
def vJ (f:Nat->Bool):Nat->Option Nat
 | 0=>none
 |n+1=>if f n then some n else vJ f n
def rB (lt:Str->Str->Bool):List Str->List Str->Bool
 |a::r,b::s=>if a≠b then lt a b else rB lt r s
 |_,_=>false
def aJd (lt:Str->Str->Bool) (out:List Pth) (x:Pth):List Pth:=
 match vJ (λn=>match out[n]? with|some y=>pJ x y|none=>false) out.length with
 |none=>out++[x]
 |some i=>if rB lt x.1 ((out[i]?).getD ([],false)).1 then out.set i x else out
def sX (lt:Str->Str->Bool) (p:Pth) (out:List Pth) (k:Stp):List Pth:=
 if k.1≠jB p\/k.2.1∈p.1 then out else aJd lt out (p.1++[k.2.1],p.2 || k.2.2)
def jA (lt:Str->Str->Bool) (T:List Stp) (ps:List Pth):List Pth:=ps.foldl (λout p=>T.foldl (sX lt p) out) []
def pO (lt:Str->Str->Bool) (T:List Stp) (s:Str):Nat->List Pth
 | 0=>[([s],false)]
 |n+1=>jA lt T (pO lt T s n)
def iD (T:List Stp) (p:Pth):Bool:=T.any λk=>decide (k.1=jB p) && (decide (k.2.1=(p.1[0]?).getD []) && (p.2 || k.2.2))
structure PathOk (E:Str->Str->Bool->Prop) (s:Str) (n:Nat) (p:Pth):Prop where
 ex: ∃(w:Nat->Str) (t:Nat->Bool),p.1=(List.range (n+1)).map w/\w 0=s/\(∀i,i < n->E (w i) (w (i+1)) (t i))/\p.2=(List.range n).any t
theorem PathOk.len {E:Str->Str->Bool->Prop}{s:Str}{n:Nat}{p:Pth}(h:PathOk E s n p):p.1.length=n+1:=by
 obtain⟨w,t,h1,_⟩:=h.ex
 rw [h1];simp
theorem nR {f:Nat->Bool}: ∀{n i:Nat},vJ f n=some i->i < n/\f i=true
 | 0,i,h=>by cases h
 |n+1,i,h=>by
  rw [vJ]at h
  split at h
  ·cases h;exact⟨by omega,by assumption⟩
  ·have:=nR h;exact⟨by omega,this.2⟩
theorem zA {f:Nat->Bool}: ∀{n:Nat},vJ f n=none-> ∀i,i < n->f i=false
 | 0,_,i,h=>by omega
 |n+1,h,i,hi=>by
  rw [vJ]at h
  split at h
  ·cases h
  ·rename_i h1
   by_cases e:i=n
   ·subst e;simpa using h1
   ·exact zA h i (by omega)
theorem aGt {lt:Str->Str->Bool}{out:List Pth}{x y:Pth}(h:y∈aJd lt out x):y∈out\/y=x:=by
 unfold aJd at h
 split at h
 ·simpa using h
 ·split at h
  ·exact(List.mem_or_eq_of_mem_set h)
  ·exact .inl h
def key (n:Nat) (p:Pth):Str×Bool:=((p.1[n]?).getD [],p.2)
theorem aPc {lt:Str->Str->Bool}{out:List Pth}{x:Pth}{n:Nat}(hx:x.1.length=n+1):
  (∃y∈aJd lt out x,key n y=key n x)/\ ∀z∈out,∃y∈aJd lt out x,key n y=key n z:=by
 unfold aJd
 split
 ·exact⟨⟨x,by simp,rfl⟩,λz hz=>⟨z,List.mem_append_left _ hz,rfl⟩⟩
 ·rename_i i hi
  obtain⟨hl,hs⟩:=nR hi
  rw [List.getElem?_eq_getElem hl]at hs |-
  simp only [Option.getD_some]
  have hk:key n out[i]=key n x:=by
   unfold pJ at hs
   rw [Bool.and_eq_true]at hs
   have h1:=of_decide_eq_true hs.1
   have h2:=of_decide_eq_true hs.2
   unfold jB at h2
   rw [hx,Nat.add_sub_cancel]at h2
   unfold key
   rw [h1,h2]
  split
  ·refine⟨⟨x, ?_,rfl⟩,λz hz=> ?_⟩
   ·exact List.mem_set hl x
   ·obtain⟨j,hj,rfl⟩:=List.getElem_of_mem hz
    by_cases e:i=j
    ·subst e
     exact⟨x,List.mem_set hl x,hk.symm⟩
    ·refine⟨out[j], ?_,rfl⟩
     have:(out.set i x)[j]? =some out[j]:=by rw [List.getElem?_set_ne e,List.getElem?_eq_getElem hj]
     exact List.mem_of_getElem? this
  ·exact⟨⟨out[i],List.getElem_mem hl,hk⟩,λz hz=>⟨z,hz,rfl⟩⟩
theorem jU {w:Nat->Str}{n:Nat}{b:Bool}:jB ((List.range (n+1)).map w,b)=w n:=by
 unfold jB
 simp
theorem PathOk.ext {T:List Stp}{s:Str}{n:Nat}{p:Pth}(h:PathOk (ET T) s n p) {k:Stp}(hk:k∈T) (h1:k.1=jB p):PathOk (ET T) s (n+1) (p.1++[k.2.1],p.2 || k.2.2):=by
 obtain⟨w,t,e1,e2,e3,e4⟩:=h.ex
 have hl:jB p=w n:=by
  have:p=((List.range (n+1)).map w,p.2):=by rw [<-e1]
  rw [this];exact jU
 refine⟨λi=>if i<=n then w i else k.2.1,λi=>if i < n then t i else k.2.2, ?_, ?_,λi hi=> ?_, ?_⟩
 ·show p.1++[k.2.1]=_
  rw [List.range_succ,List.map_append,e1]
  simp only [List.map_cons,List.map_nil]
  rw [if_neg (by omega)]
  congr 1
  refine List.map_congr_left λi hi=> ?_
  rw [if_pos (by have:=List.mem_range.1 hi;omega)]
 ·show (if 0<=n then w 0 else k.2.1)=s
  rw [if_pos (by omega),e2]
 ·show ET T (if i<=n then w i else k.2.1) (if i+1<=n then w (i+1)else k.2.1) (if i < n then t i else k.2.2)
  by_cases hi':i < n
  ·rw [if_pos (by omega),if_pos (by omega),if_pos hi'];exact e3 i hi'
  ·have:i=n:=by omega
   subst this
   rw [if_pos (Nat.le_refl _),if_neg (by omega),if_neg hi',<-hl,<-h1]
   exact hk
 ·show (p.2 || k.2.2)=_
  rw [List.range_succ,List.any_append,e4]
  simp only [List.any_cons,List.any_nil,Bool.or_false,Nat.lt_irrefl,if_false]
  congr 1
  have: ∀i∈List.range n,(if i < n then t i else k.2.2)=t i:= λi hi=>if_pos (List.mem_range.1 hi)
  rw [Bool.eq_iff_iff,List.any_eq_true,List.any_eq_true]
  constructor
  ·rintro⟨i,hi,h⟩;exact⟨i,hi,by rw [this i hi];exact h⟩
  ·rintro⟨i,hi,h⟩;exact⟨i,hi,by rw [<-this i hi];exact h⟩
theorem aBe {lt:Str->Str->Bool}{T:List Stp}{s:Str}{n:Nat}{p:Pth}(hp:PathOk (ET T) s n p): ∀(ks:List Stp) (out:List Pth),(∀k∈ks,k∈T)->(∀y∈out,PathOk (ET T) s (n+1) y)->
  (∀y∈ks.foldl (sX lt p) out,PathOk (ET T) s (n+1) y)/\(∀z∈out,∃y∈ks.foldl (sX lt p) out,key (n+1) y=key (n+1) z)/\
  (∀k∈ks,k.1=jB p->k.2.1∉p.1-> ∃y∈ks.foldl (sX lt p) out,key (n+1) y=(k.2.1,p.2 || k.2.2))
 | [],out,_,ho=>⟨ho,λz hz=>⟨z,hz,rfl⟩,λk hk=>by cases hk⟩
 |k::ks,out,hks,ho=>by
  have hkT:=hks k (List.mem_cons_self ..)
  rw [List.foldl_cons]
  by_cases hc:k.1≠jB p\/k.2.1∈p.1
  ·have e:sX lt p out k=out:=if_pos hc
   rw [e]
   obtain⟨a,b,c⟩:=aBe hp ks out (λq hq=>hks q (List.mem_cons_of_mem _ hq)) ho
   refine⟨a,b,λq hq h1 h2=> ?_⟩
   rcases List.mem_cons.1 hq with rfl|hq
   ·rcases hc with hc|hc
    ·exact absurd h1 hc
    ·exact absurd hc h2
   ·exact c q hq h1 h2
  ·have e:sX lt p out k=aJd lt out (p.1++[k.2.1],p.2 || k.2.2):=if_neg hc
   have h1:k.1=jB p:=Decidable.byContradiction λh=>hc (.inl h)
   have hx:=hp.ext hkT h1
   have hxl:=hx.len
   obtain⟨q1,q2⟩:=aPc (lt:=lt) (out:=out) hxl
   rw [e]
   obtain ⟨a, b, c⟩ := aBe (lt := lt) hp ks (aJd lt out (p.1 ++ [k.2.1], p.2 || k.2.2)) (λq hq => hks q (List.mem_cons_of_mem _ hq)) (λy hy => by
    rcases aGt hy with hy|rfl
    ·exact ho y hy
    ·exact hx)
   have hkey:key (n+1) (p.1++[k.2.1],p.2 || k.2.2)=(k.2.1,p.2 || k.2.2):=by
    unfold key
    have hpl:=hp.len
    show ((p.1++[k.2.1])[n+1]?.getD [],_)=_
    rw [List.getElem?_append_right (by omega),hpl]
    simp
   refine⟨a,λz hz=> ?_,λq hq h1' h2=> ?_⟩
   ·obtain⟨y,hy,e1⟩:=q2 z hz
    obtain⟨y',hy',e2⟩:=b y hy
    exact⟨y',hy',by rw [e2,e1]⟩
   ·rcases List.mem_cons.1 hq with rfl|hq
    ·obtain⟨y,hy,e1⟩:=q1
     obtain⟨y',hy',e2⟩:=b y hy
     exact⟨y',hy',by rw [e2,e1,hkey]⟩
    ·exact c q hq h1' h2
theorem aBf {lt:Str->Str->Bool}{T:List Stp}{s:Str}{n:Nat}: ∀(ps out:List Pth),(∀p∈ps,PathOk (ET T) s n p)->(∀y∈out,PathOk (ET T) s (n+1) y)->
  (∀y∈ps.foldl (λout p=>T.foldl (sX lt p) out) out,PathOk (ET T) s (n+1) y)/\(∀z∈out,∃y∈ps.foldl (λout p=>T.foldl (sX lt p) out) out,key (n+1) y=key (n+1) z)/\
  (∀p∈ps,∀k∈T,k.1=jB p->k.2.1∉p.1-> ∃y∈ps.foldl (λout p=>T.foldl (sX lt p) out) out,key (n+1) y=(k.2.1,p.2 || k.2.2))
 | [],out,_,ho=>⟨ho,λz hz=>⟨z,hz,rfl⟩,λk hk=>by cases hk⟩
 |p::ps,out,hps,ho=>by
  rw [List.foldl_cons]
  obtain⟨a,b,c⟩:=aBe (lt:=lt) (hps p (List.mem_cons_self ..)) T out (λ_ h=>h) ho
  obtain⟨a',b',c'⟩:=aBf (lt:=lt) ps _ (λq hq=>hps q (List.mem_cons_of_mem _ hq)) a
  refine⟨a',λz hz=> ?_,λq hq k hk h1 h2=> ?_⟩
  ·obtain⟨y,hy,e1⟩:=b z hz
   obtain⟨y',hy',e2⟩:=b' y hy
   exact⟨y',hy',by rw [e2,e1]⟩
  ·rcases List.mem_cons.1 hq with rfl|hq
   ·obtain⟨y,hy,e1⟩:=c k hk h1 h2
    obtain⟨y',hy',e2⟩:=b' y hy
    exact⟨y',hy',by rw [e2,e1]⟩
   ·exact c' q hq k hk h1 h2
theorem iW {lt:Str->Str->Bool}{T:List Stp}{s:Str}: ∀n,∀p∈pO lt T s n,PathOk (ET T) s n p
 | 0,p,hp=>by
  simp only [pO,List.mem_singleton]at hp
  subst hp
  exact⟨λ_=>s,λ_=>false,rfl,rfl,by omega,rfl⟩
 |n+1,p,hp=>(aBf (lt:=lt) (pO lt T s n) [] (iW n) (by simp)).1 p hp
theorem sS {T:List Stp}{s:Str}{n:Nat}{p:Pth}(h:PathOk (ET T) s n p) (hc:iD T p=true):jO (ET T):=by
 obtain⟨w,t,e1,e2,e3,e4⟩:=h.ex
 have hl:jB p=w n:=by
  have:p=((List.range (n+1)).map w,p.2):=by rw [<-e1]
  rw [this];exact jU
 have h0:(p.1[0]?).getD []=s:=by rw [e1];simp [e2]
 unfold iD at hc
 obtain⟨k,hk,hx⟩:=List.any_eq_true.1 hc
 simp only [Bool.and_eq_true,decide_eq_true_eq,Bool.or_eq_true]at hx
 obtain⟨x1,x2,x3⟩:=hx
 rw [hl]at x1
 rw [h0]at x2
 refine⟨n+1,λi=>if i<=n then w i else s,λi=>if i < n then t i else k.2.2,λi hi=> ?_, ?_, ?_⟩
 ·show ET T (if i<=n then w i else s) (if i+1<=n then w (i+1)else s) (if i < n then t i else k.2.2)
  by_cases hi':i < n
  ·rw [if_pos (by omega),if_pos (by omega),if_pos hi'];exact e3 i hi'
  ·have:i=n:=by omega
   subst this
   rw [if_pos (Nat.le_refl _),if_neg (by omega),if_neg hi',<-x1,<-x2]
   exact hk
 ·show (if n+1<=n then w (n+1)else s)=if 0<=n then w 0 else s
  rw [if_neg (by omega),if_pos (by omega),e2]
 ·rcases x3 with x3|x3
  ·rw [e4]at x3
   obtain⟨i,hi,ht⟩:=List.any_eq_true.1 x3
   have hi:=List.mem_range.1 hi
   exact⟨i,by omega,by show (if i < n then t i else k.2.2)=true;rw [if_pos hi,ht]⟩
  ·exact⟨n,by omega,by show (if n < n then t n else k.2.2)=true;rw [if_neg (by omega),x3]⟩
theorem uW {lt:Str->Str->Bool}{T:List Stp}{L:Nat}{w:Nat->Str}{t:Nat->Bool}(h:CW (ET T) L w t) (hmin: ∀L' w' t',L' < L->¬ CW (ET T) L' w' t'):
  ∀n,n < L-> ∃p∈pO lt T (w 0) n,key n p=(w n,(List.range n).any t)
 | 0,_=>⟨_,List.mem_singleton.2 rfl,rfl⟩
 |n+1,hn=>by
  obtain⟨p,hp,hk⟩:=uW h hmin n (by omega)
  have hok:=iW (lt:=lt) n p hp
  have hpl:=hok.len
  have hl:jB p=w n:=by
   unfold jB
   rw [hpl]
   exact congrArg Prod.fst hk
  have hst:p.2=(List.range n).any t:=congrArg Prod.snd hk
  obtain⟨u,v,e1,e2,e3,e4⟩:=hok.ex
  have hun:u n=w n:=by
   rw [<-hl]
   have:p=((List.range (n+1)).map u,p.2):=by rw [<-e1]
   rw [this];exact jU.symm
  have hnot:w (n+1)∉p.1:=by
   intro hm
   rw [e1]at hm
   obtain⟨m,hm,hum⟩:=List.mem_map.1 hm
   have hm:=List.mem_range.1 hm
   -- the path, followed by the rest of the circle
   have hc:CW (ET T) L (λi=>if i<=n then u i else w i) (λi=>if i < n then v i else t i):=by
    refine⟨λi hi=> ?_, ?_, ?_⟩
    ·show ET T (if i<=n then u i else w i) (if i+1<=n then u (i+1)else w (i+1)) (if i < n then v i else t i)
     by_cases hi':i < n
     ·rw [if_pos (by omega),if_pos (by omega),if_pos hi'];exact e3 i hi'
     ·rw [if_neg (by omega:¬ i+1<=n),if_neg hi']
      by_cases he:i=n
      ·subst he
       rw [if_pos (Nat.le_refl _),hun]
       exact h.edge i hi
      ·rw [if_neg (by omega)]
       exact h.edge i hi
    ·show (if L<=n then u L else w L)=(if 0<=n then u 0 else w 0)
     rw [if_neg (by omega),if_pos (by omega),e2]
     exact h.closed
    ·obtain⟨q,hq,hs⟩:=h.strict
     by_cases hqn:q < n
     ·have:(List.range n).any t=true:=List.any_eq_true.2 ⟨q,List.mem_range.2 hqn,hs⟩
      rw [<-hst,e4]at this
      obtain⟨i,hi,hv⟩:=List.any_eq_true.1 this
      have hi:=List.mem_range.1 hi
      exact⟨i,by omega,by show (if i < n then v i else t i)=true;rw [if_pos hi,hv]⟩
     ·exact⟨q,hq,by show (if q < n then v q else t q)=true;rw [if_neg hqn,hs]⟩
   obtain ⟨L', w', t', hl', hc'⟩ := hc.cut (i := m) (j := n + 1) hm hn (by
    show (if m<=n then u m else w m)=(if n+1<=n then u (n+1)else w (n+1))
    rw [if_pos (by omega),if_neg (by omega),hum])
   exact hmin L' w' t' hl' hc'
  obtain⟨y,hy,hky⟩:=(aBf (lt:=lt) (pO lt T (w 0) n) [] (iW n) (by simp)).2.2 p hp (w n,w (n+1),t n) (h.edge n (by omega)) hl.symm hnot
  refine⟨y,hy, ?_⟩
  rw [hky]
  show (w (n+1),p.2 || t n)=_
  rw [List.range_succ,List.any_append,hst]
  simp
theorem aDy {lt:Str->Str->Bool}{T:List Stp}{L:Nat}{w:Nat->Str}{t:Nat->Bool}(h:CW (ET T) L w t) (hmin: ∀L' w' t',L' < L->¬ CW (ET T) L' w' t'):
  ∃p∈pO lt T (w 0) (L - 1),iD T p=true:=by
 obtain⟨q,hq,hs⟩:=h.strict
 obtain⟨p,hp,hk⟩:=uW (lt:=lt) h hmin (L - 1) (by omega)
 have hok:=iW (lt:=lt) _ p hp
 have hpl:=hok.len
 have hl:jB p=w (L - 1):=by
  unfold jB
  rw [hpl]
  exact congrArg Prod.fst hk
 have hst:p.2=(List.range (L - 1)).any t:=congrArg Prod.snd hk
 have h0:(p.1[0]?).getD []=w 0:=by
  obtain⟨u,v,e1,e2,e3,e4⟩:=hok.ex
  rw [e1];simp [e2]
 refine⟨p,hp,List.any_eq_true.2 ⟨(w (L - 1),w L,t (L - 1)), ?_, ?_⟩⟩
 ·have:=h.edge (L - 1) (by omega)
  rwa [show L - 1+1=L by omega]at this
 ·simp only [Bool.and_eq_true,decide_eq_true_eq,Bool.or_eq_true]
  refine⟨hl.symm,by rw [h0,h.closed], ?_⟩
  by_cases hqL:q < L - 1
  ·exact .inl (by rw [hst];exact List.any_eq_true.2 ⟨q,List.mem_range.2 hqL,hs⟩)
  ·exact .inr (by rw [show L - 1=q by omega];exact hs)
theorem aRr {lt:Str->Str->Bool}{T:List Stp}{R:List Str}(hR: ∀k∈T,k.1∈R):jO (ET T)↔ ∃n,n < R.length/\ ∃s∈R,∃p∈pO lt T s n,iD T p=true:=by
 constructor
 ·intro hc
  obtain⟨L,w,t,h,hmin,hi⟩:=hc.least
  have hw: ∀i,i < L->w i∈R:= λi hi=>hR _ (h.edge i hi)
  have h1:=aQs hi hw
  obtain⟨q,hq,_⟩:=h.strict
  obtain⟨p,hp,hcl⟩:=aDy (lt:=lt) h hmin
  exact⟨L - 1,by omega,w 0,hw 0 (by omega),p,hp,hcl⟩
 ·rintro⟨n,_,s,_,p,hp,hc⟩
  exact sS (iW n p hp) hc
end Go.Proofs.YtfhoddcminbffaaGreatDoor
