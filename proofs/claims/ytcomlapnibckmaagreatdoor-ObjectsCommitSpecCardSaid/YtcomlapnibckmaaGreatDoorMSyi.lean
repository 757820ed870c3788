/-
  Terms: the reference's count and Few. Terms: the reference's FewAxiom. Terms: the types that come in, what their data are, and what the laid variables hold. More operations: a slice as a pointer to an array; a value in an interface.
  Conditions: none.
-/
import Derived.Test.YtcomlapnibckmaaGreatDoorMAk
import Derived.Test.YtcomlapnibckmaaGreatDoorRows
import Derived.Test.YtcomlapnibckmaaGreatDoorMLd
import Derived.LaidHandle
import Derived.MakeChecks
import Derived.Test.YtcomlapnibckmaaGreatDoorMA1
set_option linter.unnecessarySimpa false
set_option linter.unusedSectionVars false
set_option linter.unusedSimpArgs false
set_option linter.unusedVariables false
set_option maxHeartbeats 8000000
namespace Go.Proofs.YtcomlapnibckmaaGreatDoor
open Go.Proofs
set_option maxRecDepth 10000
attribute [local irreducible] aL aG Tri aD YVC cP bB
mutual
def lW:Cn->Int->Int->Int
 | .mk _ n _ _ ps,deep,most=>if deep<=0 then most+1 else nV ps (deep - 1) most (1+n.length / 40)
def nV:List Cn->Int->Int->Int->Int
 | [],_,_,t=>t
 |c::r,deep,most,t=>if t<=most then nV r deep most (t+lW c deep (most - t))else t
end
theorem aAq (c:Cn) (deep most:Int):lW c deep most=if deep<=0 then most+1 else nV c.parts (deep - 1) most (1+(c.name.length:Int) / 40):=by
 cases c;rw [lW];rfl
theorem xV: ∀(c:Cn) (deep most:Int),deep<=40->0<=deep->0<=most->most<=150->Tri Tryz.prog 210 [.d (.agg (cnR c)), .d (.int .i64 deep), .d (.int .i64 most)] []
  (λr=>r= .d (.int .i64 (lW c deep most))/\1<=lW c deep most/\lW c deep most<=most+300000000000000000):=by
 refine Cn.ind ?_
 intro c ih deep most hd0 hd hm0 hm
 rw [bL,aAq]
 refine aH false [3] hty Tryz.func210 rfl (kp [0,1,2,3,6,7,8,10,27]) [] _ _ _ (by simp [Tryz.f210]) (by simp) ?_
 ((conv=>whnf);repeat' ((first|(intro hq;(try simp only [lnS]at hq);(try rewrite [List.length_map]))|refine sJ ?_|refine .intro _ (.intro rfl ?_)|refine exL (k:= ?_)|refine dwR ?_|((first|refine aB ?_ ?_|refine aC ?_ ?_)<;>intro hb<;>(first|exact ddX hb|try simp only [lnS]at hb))|(refine aA ?_ ?_<;>intro hb<;>try exact dsX hb))<;>(conv=>whnf)))
 ·rw [if_pos (by assumption)]
  exact⟨rfl,by omega,by omega⟩
 ·have ht:((c.name.length:Int)).tdiv 40=(c.name.length:Int) / 40:=Int.tdiv_eq_ediv_of_nonneg (by omega)
  rw [if_neg (by assumption),ht]
  have hT:1<=1+(c.name.length:Int) / 40/\1+(c.name.length:Int) / 40<=most+300000000000000000:=by omega
  generalize (c.name.length:Int) / 40=q at hT |-
  refine⟨⟨by omega,by omega⟩, ?_⟩
  ((conv=>whnf);repeat' ((first|(intro hq;(try simp only [lnS]at hq);(try rewrite [List.length_map]))|refine sJ ?_|refine .intro _ (.intro rfl ?_)|refine exL (k:= ?_)|refine dwR ?_|((first|refine aB ?_ ?_|refine aC ?_ ?_)<;>intro hb<;>(first|exact ddX hb|try simp only [lnS]at hb))|(refine aA ?_ ?_<;>intro hb<;>try exact dsX hb))<;>(conv=>whnf)))
  refine aR hty (λp:Nat×Int=>([(1, .d (.int .i64 deep)),(2, .d (.int .i64 most)),(3, .ea 5 [[.int .i64 c.kind, .str c.name, .int .i64 c.lo, .int .i64 c.hi, .sl 5 (c.parts.map cnR)]] 0 0),(7, .d (.int .i64 p.2)),(8, .d (.int .i64 p.1))],[])) (λp=>p.1<=c.parts.length/\1<=p.2/\p.2<=most+300000000000000000/\nV c.parts (deep - 1) most (1+q)=nV (c.parts.drop p.1) (deep - 1) most p.2) (λp=>c.parts.length - p.1) (0,1+q) ⟨Nat.zero_le _,hT.1,hT.2,rfl⟩ ⟨by repeat' (first|exact trivial|exact rfl|(rw [List.length_map];exact rfl)|exact⟨rfl,rfl⟩|refine And.intro ?_ ?_),trivial⟩ ?_
  rintro⟨j,t⟩ ⟨hj,ht1,ht2,hn⟩
  dsimp only at hj ht1 ht2 hn
  by_cases hjl:j < c.parts.length
  ·have hrow:(c.parts.map cnR)[(j:Int).toNat]? =some (cnR c.parts[j]):=cC hjl
   have hcall:=ih c.parts[j] (List.getElem_mem hjl) (deep - 1) (most - t) (by omega) (by omega)
   rw [List.drop_eq_getElem_cons hjl,nV]at hn
   generalize c.parts[j]=x at hrow hn hcall
   rw [bL]at hrow hcall
   ((conv=>whnf);repeat' ((first|(intro hq;(try simp only [lnS]at hq);(try rewrite [List.length_map]))|refine sJ ?_|refine .intro _ (.intro rfl ?_)|refine exL (k:= ?_)|(refine⟨_,hrow, ?_⟩)|(refine aE [] (hcall (by omega) (by omega)) trivial (λr hs=> ?_);obtain⟨hs,hs1,hs2⟩:=hs;subst hs)|refine dwR ?_|((first|refine aB ?_ ?_|refine aC ?_ ?_)<;>intro hb<;>(first|exact ddX hb|try simp only [lnS]at hb))|(refine aA ?_ ?_<;>intro hb<;>try exact dsX hb))<;>(conv=>whnf)))
   ·have h9:t<=most:=by first|assumption|omega
    rw [if_pos h9]at hn
    refine⟨(j+1,t+lW x (deep - 1) (most - t)),⟨by dsimp only;omega,by dsimp only;omega,by dsimp only;omega,hn⟩,by dsimp only;omega,by repeat' (first|exact trivial|exact rfl|refine And.intro ?_ ?_),trivial⟩
   ·have h9:¬ t<=most:=by first|assumption|omega
    rw [if_neg h9]at hn
    rw [hn];exact⟨rfl,ht1,ht2⟩
  ·have hjl:j=c.parts.length:=by omega
   subst hjl
   rw [List.drop_length,nV]at hn
   ((conv=>whnf);repeat' ((first|(intro hq;(try simp only [lnS]at hq);(try rewrite [List.length_map]))|refine sJ ?_|refine .intro _ (.intro rfl ?_)|refine exL (k:= ?_)|refine dwR ?_|((first|refine aB ?_ ?_|refine aC ?_ ?_)<;>intro hb<;>(first|exact ddX hb|try simp only [lnS]at hb))|(refine aA ?_ ?_<;>intro hb<;>try exact dsX hb))<;>(conv=>whnf)))
   all_goals (rw [hn];exact⟨rfl,ht1,ht2⟩)
def aGu (c:Cn):Bool:=decide (lW c 40 150<=150)
theorem vJ (c:Cn):Tri Tryz.prog 148 [.d (.agg (cnR c))] [] (λr=>r= .d (.bool (aGu c))):=by
 have hc:=xV c 40 150 (by omega) (by omega) (by omega) (by omega)
 rw [bL]at hc |-
 refine aH false [1] hty Tryz.func148 rfl (kp [0,1,2]) [] _ _ _ (by simp [Tryz.f148]) (by simp) ?_
 ((conv=>whnf);repeat' ((first|(intro hq;(try simp only [lnS]at hq);(try rewrite [List.length_map]))|refine sJ ?_|refine .intro _ (.intro rfl ?_)|refine exL (k:= ?_)|(refine aE [] hc trivial (λr hs=> ?_);obtain⟨hs,hs1,hs2⟩:=hs;subst hs)|refine dwR ?_|((first|refine aB ?_ ?_|refine aC ?_ ?_)<;>intro hb<;>(first|exact ddX hb|try simp only [lnS]at hb))|(refine aA ?_ ?_<;>intro hb<;>try exact dsX hb))<;>(conv=>whnf)))
 all_goals rfl
end Go.Proofs.YtcomlapnibckmaaGreatDoor
namespace Go.Proofs.YtcomlapnibckmaaGreatDoor
open Go.Proofs
set_option maxRecDepth 10000
attribute [local irreducible] aL aG Tri aD YVC cP bB
def pI:List (List UInt8)->Int
 | []=>0
 |s::r=>s.length+pI r
def aFp (x:Ax):Int:=x.role.length+x.a.length+x.b.length+10 * x.roles.length+pI (x.roles.take 100)
def aAg (x:Ax):Bool:=decide (aFp x<=600) && aGu x.left && aGu x.right
structure SzAx (x:Ax):Prop where
 r:x.roles.length<=140737488351232
 o:x.role.length<=140737488351232
 a:x.a.length<=140737488351232
 b:x.b.length<=140737488351232
 rs: ∀s∈x.roles,s.length<=140737488351232
theorem rI (x:Ax) (h:SzAx x):Tri Tryz.prog 86 [.d (.agg (axR x))] [] (λr=>r= .d (.bool (aAg x))):=by
 have hl:=vJ x.left
 have hr:=vJ x.right
 rw [bL]at hl hr
 obtain⟨s1,s2,s3,s4,s5⟩:=h
 obtain⟨kind,isopen,left,right,roles,role,a,b⟩:=x
 dsimp only at hl hr s1 s2 s3 s4 s5
 unfold aAg aFp axR
 dsimp only
 obtain⟨lk,ln,llo,lhi,lps⟩:=left
 obtain⟨rk,rn,rlo,rhi,rps⟩:=right
 dsimp only [Cn.kind,Cn.name,Cn.lo,Cn.hi,Cn.parts]at hl hr |-
 refine aH false [1] hty Tryz.func86 rfl (kp [0,1,2,3,4,29]) [] _ _ _ (by simp [Tryz.f86]) (by simp) ?_
 ((conv=>whnf);repeat' ((first|(intro hq;(try simp only [lnS]at hq);(try rewrite [List.length_map]))|refine sJ ?_|refine .intro _ (.intro rfl ?_)|refine exL (k:= ?_)|refine dwR ?_|((first|refine aB ?_ ?_|refine aC ?_ ?_)<;>intro hb<;>(first|exact ddX hb|try simp only [lnS]at hb))|(refine aA ?_ ?_<;>intro hb<;>try exact dsX hb))<;>(conv=>whnf)))
 refine aR hty (λp:Nat×Int=>([(1, .ea 16 [[.int .i64 kind, .bool isopen, .int .i64 lk, .str ln, .int .i64 llo, .int .i64 lhi,cnl lps, .int .i64 rk, .str rn, .int .i64 rlo, .int .i64 rhi,cnl rps,aF7 roles, .str role, .str a, .str b]] 0 0),(3, .d (.int .i64 p.2)),(4, .d (.int .i64 p.1))],[])) (λp=>p.1<=roles.length/\p.1<=100/\0<=p.2/\p.2<=140737488351232 * 13+140737488351232 * p.1/\(role.length:Int)+a.length+b.length+10 * roles.length+pI (roles.take 100)=p.2+pI ((roles.take 100).drop p.1)) (λp=>roles.length - p.1) (0,(role.length:Int)+a.length+b.length+10 * roles.length) ⟨Nat.zero_le _,by omega,by omega,by omega,rfl⟩ ⟨by repeat' (first|exact trivial|exact rfl|(rw [List.length_map];exact rfl)|exact⟨rfl,rfl⟩|refine And.intro ?_ ?_),trivial⟩ ?_
 rintro⟨j,t⟩ ⟨hj,hj2,ht1,ht2,hn⟩
 dsimp only at hj hj2 ht1 ht2 hn
 by_cases hjl:j < roles.length/\j < 100
 ·have hrow:(roles.map pZ)[(j:Int).toNat]? =some (pZ roles[j]):=cC hjl.1
  have hlen:=s5 roles[j] (List.getElem_mem hjl.1)
  have htl:j < (roles.take 100).length:=by rw [List.length_take];omega
  rw [List.drop_eq_getElem_cons htl,pI,List.getElem_take]at hn
  have hjl1:=hjl.1
  have hjl2:=hjl.2
  clear s5
  generalize roles[j]=y at hrow hn hlen
  ((conv=>whnf);repeat' ((first|(intro hq;(try simp only [lnS]at hq);(try rewrite [List.length_map]))|refine sJ ?_|refine .intro _ (.intro rfl ?_)|refine exL (k:= ?_)|(refine⟨_,hrow, ?_⟩)|refine dwR ?_|((first|refine aB ?_ ?_|refine aC ?_ ?_)<;>intro hb<;>(first|exact ddX hb|try simp only [lnS]at hb))|(refine aA ?_ ?_<;>intro hb<;>try exact dsX hb))<;>(conv=>whnf)))
  refine⟨(j+1,t+y.length),⟨by dsimp only;omega,by dsimp only;omega,by dsimp only;omega,by dsimp only;omega,by dsimp only;omega⟩,by dsimp only;omega,by repeat' (first|exact trivial|exact rfl|refine And.intro ?_ ?_),trivial⟩
 ·have hdr:(roles.take 100).drop j=[]:=List.drop_eq_nil_of_le (by rw [List.length_take];omega)
  rw [hdr,pI,Int.add_zero]at hn
  rw [hn]
  clear hn hdr s5
  ((conv=>whnf);repeat' ((first|(intro hq;(try simp only [lnS]at hq);(try rewrite [List.length_map]))|refine sJ ?_|refine .intro _ (.intro rfl ?_)|refine exL (k:= ?_)|(refine aE [] hl trivial (λr hs=> ?_);subst hs)|(refine aE [] hr trivial (λr hs=> ?_);subst hs)|refine dwR ?_|((first|refine aB ?_ ?_|refine aC ?_ ?_)<;>intro hb<;>(first|exact ddX hb|try simp only [lnS]at hb))|(refine aA ?_ ?_<;>intro hb<;>try exact dsX hb))<;>(conv=>whnf)))
  all_goals (refine bH (Eq.symm ?_);simp_all [aGu])
  all_goals (intro h9;omega)
end Go.Proofs.YtcomlapnibckmaaGreatDoor
namespace Go.Proofs.YtcomlapnibckmaaGreatDoor
open Go.Proofs Go.RowKit
set_option maxRecDepth 100000
theorem u3:Tryz.prog.underlying 3=some (.int .i64):=by kernel_rfl
theorem u9:Tryz.prog.underlying 9=some .string:=by kernel_rfl
theorem u4:Tryz.prog.underlying 4=some .bool:=by kernel_rfl
theorem laid:laidOutB Tryz.prog=true:=by kernel_rfl
def TT:List TypeId:=[80,47,78,76,22,3,9,4]
theorem aBb {t:TypeId}{ts:List TypeId}(h:yT Tryz.prog t=some ts) (ds:List D):tC Tryz.prog t ds= .d (.agg ds):=by
 unfold yT at h
 split at h
 ·rename_i fs hu
  simp only [tC,hu]
 ·cases h
def aAa:List (String×DataW Unit):=[("veilstone/terms.needs",Rows.laid_veilstone_terms_needs),("veilstone/terms.uses",Rows.laid_veilstone_terms_uses)]
theorem aG5:Tryz.prog.globalNamed "veilstone/terms.needs" =some 3:=by kernel_rfl
theorem aHk:Tryz.prog.globalNamed "veilstone/terms.uses" =some 0:=by kernel_rfl
theorem aFo:(Tryz.prog.globals[(3:Nat)]?).map (·.type)=some 295:=by kernel_rfl
theorem aH6:(Tryz.prog.globals[(0:Nat)]?).map (·.type)=some 181:=by kernel_rfl
def FT:List TypeId:=[295,294,181,180,3,4]
theorem fl:Fl Tryz.prog (· ∈FT):=aHl (by kernel_rfl)
theorem xB {W:World}(h:laidMetH Tryz.prog aAa W): ∀ρ:Env,ρ.S=below W-> ∀id o,aJ NG id=some o->RO W ρ id o:=by
 rw [MakeChecks.laidMetH_plain _ _ _ (by kernel_rfl)]at h
 obtain⟨ps,⟨g0,t0,cs0,f0,p0,q0,hg0,ht0,hv0,hd0,⟨g1,t1,cs1,f1,p1,q1,hg1,ht1,hv1,hd1,_,_⟩,_⟩,_,_⟩:=h
 obtain rfl:=Option.some.inj (aG5.symm.trans hg0)
 obtain rfl:=Option.some.inj (aHk.symm.trans hg1)
 obtain rfl:=Option.some.inj (aFo.symm.trans ht0)
 obtain rfl:=Option.some.inj (aH6.symm.trans ht1)
 have v0:=lK (z:=4) (rows:=aA4.map aC6) fl hg0 (by decide) hv0 hd0 (by intro r hr;obtain⟨x,_,rfl⟩:=List.mem_map.1 hr;rfl) (by kernel_rfl)
 have v1:=lK (z:=7) (rows:=eC.map aDx) fl hg1 (by decide) hv1 hd1 (by intro r hr;obtain⟨x,_,rfl⟩:=List.mem_map.1 hr;rfl) (by kernel_rfl)
 intro ρ hS id o ho
 rw [<-hS]at v0 v1
 simp only [NG,aJ]at ho
 split at ho
 ·injection ho with ho;subst ho;exact v0
 ·split at ho
  ·injection ho with ho;subst ho;exact v1
  ·cases ho
end Go.Proofs.YtcomlapnibckmaaGreatDoor
namespace Go.Proofs.YtcomlapnibckmaaGreatDoor
open Go.RowKit
section
variable {P:Program}
theorem aB7 {w:World}{S:Nat->Nat->Prop}{cs:List D}{b off n:Nat}(h:View w S 1 (cs.map λc=>[c]) b off) (hn:cs.length=n):View w S n [cs] b off:=by
 refine⟨λrow hr=> ?_,λi row j x h1 h2=> ?_⟩
 ·rw [List.mem_singleton.1 hr,hn]
 ·have hi:i=0:=by
   have:=(List.getElem?_eq_some_iff.1 h1).1
   simp at this;omega
  subst hi
  injection h1 with h1
  subst h1
  have h3:=h.2 j [x] 0 x (by rw [List.getElem?_map,h2];rfl) rfl
  simp only [Nat.mul_one,Nat.add_zero]at h3
  simpa using h3
theorem tA {ti:TypeId->Option TI}(hti:cT P ti) {o:Oper}{t e:TypeId}{x:Operand}{n:Nat}(ho:o.op= .sliceToArrayPointer t x) {Ts:TI}(hT:ti t=some Ts) (htd:Ts.td= .array n e) {pin:Pin}{fr:Fr}{hp:Hp}{K:SV->Hp->Prop}(cs:List D)
  (hx:evO fr x=some (.d (.sl 1 (cs.map λc=>[c])))) (hn:cs.length=n) (h0:0 < n) (hk:K (.ea n [cs] 0 0) hp):bB P o pin fr hp K:=by
 intro E ρ a w _ hm hf next Q hq
 obtain⟨d0,i0,z0,hT0⟩:=aI (hti _ _ hT)
 have hd:d0= .array n e:=by
  have:=hT0.td
  rw [htd]at this
  exact dZ this
 subst hd
 have hr:=aV hf hx
 cases hr with
 |d _ _ hd=>
  obtain⟨A,cap,b,off,e1,_,_,hA,hv⟩:=hd.of_sl
  have hne:(cs.map λc=>[c])≠[]:=by
   intro h
   have:=congrArg List.length h
   rw [List.length_map]at this
   simp at this
   rw [this]at hn
   simp at hn;omega
  have hrun:(execOp a.eval o).run P w= .ok (.value (.pointer (some ⟨b,off,none⟩))) w:=by
   have hl:(cs.map λc=>[c]).length=n:=by rw [List.length_map];exact hn
   simp only [execOp,ho,e1,hA hne,Instr.arrayAt,Sem.run_bind,run_underlying hT0.und,Result.andThen_ok]
   rw [hl,if_neg (Nat.lt_irrefl n)]
   rfl
  refine cB hrun (hq _ w ρ _ hp hk hm hf ?_)
  have:=Rep.ea (w:=w) (ρ:=ρ) n [cs] 0 0 b off (aB7 hv hn)
  simpa using this
theorem cI {ti:TypeId->Option TI}(hti:cT P ti) {o:Oper}{t:TypeId}{x:Operand}(ho:o.op= .makeInterface t x) {Ts:TI}(hT:ti t=some Ts) {fs:List (TypeId×Nat)}(htd:Ts.td= .struct fs) {pin:Pin}{fr:Fr}{hp:Hp}{K:SV->Hp->Prop}
  (hx:evO fr x=some (.d (.agg []))) (hk:K (.d (.lit (.iface t (.agg #[])))) hp):bB P o pin fr hp K:=by
 intro E ρ a w _ hm hf next Q hq
 obtain⟨d0,i0,z0,hT0⟩:=aI (hti _ _ hT)
 have hni: ∀m,d0≠ .interface m:=by
  intro m e
  have:=hT0.td
  rw [htd,e]at this
  simp [rU]at this
 have e1:a.eval x= .agg #[]:=by
  have hr:=aV hf hx
  generalize a.eval x=v at hr
  cases hr with
  |d _ _ hd=>
   cases hd with
   |agg cs vs hl h=>
    have:vs= #[]:=Array.eq_empty_of_size_eq_zero (by simpa using hl)
    rw [this]
 have hrun:(execOp a.eval o).run P w= .ok (.value (.iface t (.agg #[]))) w:=by
  simp only [execOp,ho,e1,Instr.makeInterface,Sem.run_bind,run_underlying hT0.und,Result.andThen_ok]
  cases d0<;>first|rfl|exact absurd rfl (hni _)
 exact cB hrun (hq _ w ρ _ hp hk hm hf (.d _ _ (.lit _)))
end
end Go.Proofs.YtcomlapnibckmaaGreatDoor
