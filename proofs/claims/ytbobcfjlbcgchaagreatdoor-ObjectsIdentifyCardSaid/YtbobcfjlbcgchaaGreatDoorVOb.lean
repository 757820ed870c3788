/-
  Terms: the reference's count and Few. Terms: the reference's FewAxiom. Terms: the types that come in, what their data are, and what the laid variables hold. More operations: a slice as a pointer to an array; a value in an interface. Bytes: numbers in bytes, writers and readers of lists, decoding; plain. Objects: the reader takes bytes. Concepts and axioms in bytes: what is written is read again; plain.
  Conditions: none.
-/
import Derived.Test.YtbobcfjlbcgchaaGreatDoorVAk
import Derived.Test.YtbobcfjlbcgchaaGreatDoorRows
import Derived.Test.YtbobcfjlbcgchaaGreatDoorVSs
import Derived.LaidHandle
import Derived.MakeChecks
import Derived.Test.YtbobcfjlbcgchaaGreatDoorVA1
import Derived.Test.YtbobcfjlbcgchaaGreatDoorVSna
set_option linter.unnecessarySimpa false
set_option linter.unusedSectionVars false
set_option linter.unusedSimpArgs false
set_option linter.unusedVariables false
set_option maxHeartbeats 8000000
namespace Go.Proofs.YtbobcfjlbcgchaaGreatDoor
open Go.Proofs
set_option maxRecDepth 10000
attribute [local irreducible] aJ aF Tri aG YVC bS aQ
mutual
def tQ:Cn->Int->Int->Int
 | .mk _ n _ _ ps,deep,most=>if deep<=0 then most+1 else xP ps (deep - 1) most (1+n.length / 40)
def xP:List Cn->Int->Int->Int->Int
 | [],_,_,t=>t
 |c::r,deep,most,t=>if t<=most then xP r deep most (t+tQ c deep (most - t))else t
end
theorem aNy (c:Cn) (deep most:Int):tQ c deep most=if deep<=0 then most+1 else xP c.parts (deep - 1) most (1+(c.name.length:Int) / 40):=by
 cases c;rw [tQ];rfl
theorem aK4: ∀(c:Cn) (deep most:Int),deep<=40->0<=deep->0<=most->most<=150->Tri Tryz.prog 142 [.d (.agg (cnR c)), .d (.int .i64 deep), .d (.int .i64 most)] []
  (λr=>r= .d (.int .i64 (tQ c deep most))/\1<=tQ c deep most/\tQ c deep most<=most+300000000000000000):=by
 refine Cn.ind ?_
 intro c ih deep most hd0 hd hm0 hm
 rw [aT,aNy]
 refine aH false [3] hty Tryz.func142 rfl (kp [0,1,2,3,6,7,8,10,27]) [] _ _ _ (by simp [Tryz.f142]) (by simp) ?_
 ((conv=>whnf);repeat' ((first|(intro hq;(try simp only [lnS]at hq);(try rewrite [List.length_map]))|refine sJ ?_|refine .intro _ (.intro rfl ?_)|refine exL (k:= ?_)|refine dwR ?_|((first|refine aA ?_ ?_|refine aC ?_ ?_)<;>intro hb<;>(first|exact ddX hb|try simp only [lnS]at hb))|(refine aB ?_ ?_<;>intro hb<;>try exact dsX hb))<;>(conv=>whnf)))
 ·rw [if_pos (by assumption)]
  exact⟨rfl,by omega,by omega⟩
 ·have ht:((c.name.length:Int)).tdiv 40=(c.name.length:Int) / 40:=Int.tdiv_eq_ediv_of_nonneg (by omega)
  rw [if_neg (by assumption),ht]
  have hT:1<=1+(c.name.length:Int) / 40/\1+(c.name.length:Int) / 40<=most+300000000000000000:=by omega
  generalize (c.name.length:Int) / 40=q at hT |-
  refine⟨⟨by omega,by omega⟩, ?_⟩
  ((conv=>whnf);repeat' ((first|(intro hq;(try simp only [lnS]at hq);(try rewrite [List.length_map]))|refine sJ ?_|refine .intro _ (.intro rfl ?_)|refine exL (k:= ?_)|refine dwR ?_|((first|refine aA ?_ ?_|refine aC ?_ ?_)<;>intro hb<;>(first|exact ddX hb|try simp only [lnS]at hb))|(refine aB ?_ ?_<;>intro hb<;>try exact dsX hb))<;>(conv=>whnf)))
  refine aK hty (λp:Nat×Int=>([(1, .d (.int .i64 deep)),(2, .d (.int .i64 most)),(3, .ea 5 [[.int .i64 c.kind, .str c.name, .int .i64 c.lo, .int .i64 c.hi, .sl 5 (c.parts.map cnR)]] 0 0),(7, .d (.int .i64 p.2)),(8, .d (.int .i64 p.1))],[])) (λp=>p.1<=c.parts.length/\1<=p.2/\p.2<=most+300000000000000000/\xP c.parts (deep - 1) most (1+q)=xP (c.parts.drop p.1) (deep - 1) most p.2) (λp=>c.parts.length - p.1) (0,1+q) ⟨Nat.zero_le _,hT.1,hT.2,rfl⟩ ⟨by repeat' (first|exact trivial|exact rfl|(rw [List.length_map];exact rfl)|exact⟨rfl,rfl⟩|refine And.intro ?_ ?_),trivial⟩ ?_
  rintro⟨j,t⟩ ⟨hj,ht1,ht2,hn⟩
  dsimp only at hj ht1 ht2 hn
  by_cases hjl:j < c.parts.length
  ·have hrow:(c.parts.map cnR)[(j:Int).toNat]? =some (cnR c.parts[j]):=bV hjl
   have hcall:=ih c.parts[j] (List.getElem_mem hjl) (deep - 1) (most - t) (by omega) (by omega)
   rw [List.drop_eq_getElem_cons hjl,xP]at hn
   generalize c.parts[j]=x at hrow hn hcall
   rw [aT]at hrow hcall
   ((conv=>whnf);repeat' ((first|(intro hq;(try simp only [lnS]at hq);(try rewrite [List.length_map]))|refine sJ ?_|refine .intro _ (.intro rfl ?_)|refine exL (k:= ?_)|(refine⟨_,hrow, ?_⟩)|(refine aD [] (hcall (by omega) (by omega)) trivial (λr hs=> ?_);obtain⟨hs,hs1,hs2⟩:=hs;subst hs)|refine dwR ?_|((first|refine aA ?_ ?_|refine aC ?_ ?_)<;>intro hb<;>(first|exact ddX hb|try simp only [lnS]at hb))|(refine aB ?_ ?_<;>intro hb<;>try exact dsX hb))<;>(conv=>whnf)))
   ·have h9:t<=most:=by first|assumption|omega
    rw [if_pos h9]at hn
    refine⟨(j+1,t+tQ x (deep - 1) (most - t)),⟨by dsimp only;omega,by dsimp only;omega,by dsimp only;omega,hn⟩,by dsimp only;omega,by repeat' (first|exact trivial|exact rfl|refine And.intro ?_ ?_),trivial⟩
   ·have h9:¬ t<=most:=by first|assumption|omega
    rw [if_neg h9]at hn
    rw [hn];exact⟨rfl,ht1,ht2⟩
  ·have hjl:j=c.parts.length:=by omega
   subst hjl
   rw [List.drop_length,xP]at hn
   ((conv=>whnf);repeat' ((first|(intro hq;(try simp only [lnS]at hq);(try rewrite [List.length_map]))|refine sJ ?_|refine .intro _ (.intro rfl ?_)|refine exL (k:= ?_)|refine dwR ?_|((first|refine aA ?_ ?_|refine aC ?_ ?_)<;>intro hb<;>(first|exact ddX hb|try simp only [lnS]at hb))|(refine aB ?_ ?_<;>intro hb<;>try exact dsX hb))<;>(conv=>whnf)))
   all_goals (rw [hn];exact⟨rfl,ht1,ht2⟩)
def aWj (c:Cn):Bool:=decide (tQ c 40 150<=150)
theorem aHj (c:Cn):Tri Tryz.prog 86 [.d (.agg (cnR c))] [] (λr=>r= .d (.bool (aWj c))):=by
 have hc:=aK4 c 40 150 (by omega) (by omega) (by omega) (by omega)
 rw [aT]at hc |-
 refine aH false [1] hty Tryz.func86 rfl (kp [0,1,2]) [] _ _ _ (by simp [Tryz.f86]) (by simp) ?_
 ((conv=>whnf);repeat' ((first|(intro hq;(try simp only [lnS]at hq);(try rewrite [List.length_map]))|refine sJ ?_|refine .intro _ (.intro rfl ?_)|refine exL (k:= ?_)|(refine aD [] hc trivial (λr hs=> ?_);obtain⟨hs,hs1,hs2⟩:=hs;subst hs)|refine dwR ?_|((first|refine aA ?_ ?_|refine aC ?_ ?_)<;>intro hb<;>(first|exact ddX hb|try simp only [lnS]at hb))|(refine aB ?_ ?_<;>intro hb<;>try exact dsX hb))<;>(conv=>whnf)))
 all_goals rfl
end Go.Proofs.YtbobcfjlbcgchaaGreatDoor
namespace Go.Proofs.YtbobcfjlbcgchaaGreatDoor
open Go.Proofs
set_option maxRecDepth 10000
attribute [local irreducible] aJ aF Tri aG YVC bS aQ
def zY:List (List UInt8)->Int
 | []=>0
 |s::r=>s.length+zY r
def aUs (x:Ax):Int:=x.role.length+x.a.length+x.b.length+10 * x.roles.length+zY (x.roles.take 100)
def aDh (x:Ax):Bool:=decide (aUs x<=600) && aWj x.left && aWj x.right
structure SzAx (x:Ax):Prop where
 r:x.roles.length<=140737488351232
 o:x.role.length<=140737488351232
 a:x.a.length<=140737488351232
 b:x.b.length<=140737488351232
 rs: ∀s∈x.roles,s.length<=140737488351232
theorem aBy (x:Ax) (h:SzAx x):Tri Tryz.prog 42 [.d (.agg (axR x))] [] (λr=>r= .d (.bool (aDh x))):=by
 have hl:=aHj x.left
 have hr:=aHj x.right
 rw [aT]at hl hr
 obtain⟨s1,s2,s3,s4,s5⟩:=h
 obtain⟨kind,isopen,left,right,roles,role,a,b⟩:=x
 dsimp only at hl hr s1 s2 s3 s4 s5
 unfold aDh aUs axR
 dsimp only
 obtain⟨lk,ln,llo,lhi,lps⟩:=left
 obtain⟨rk,rn,rlo,rhi,rps⟩:=right
 dsimp only [Cn.kind,Cn.name,Cn.lo,Cn.hi,Cn.parts]at hl hr |-
 refine aH false [1] hty Tryz.func42 rfl (kp [0,1,2,3,4,29]) [] _ _ _ (by simp [Tryz.f42]) (by simp) ?_
 ((conv=>whnf);repeat' ((first|(intro hq;(try simp only [lnS]at hq);(try rewrite [List.length_map]))|refine sJ ?_|refine .intro _ (.intro rfl ?_)|refine exL (k:= ?_)|refine dwR ?_|((first|refine aA ?_ ?_|refine aC ?_ ?_)<;>intro hb<;>(first|exact ddX hb|try simp only [lnS]at hb))|(refine aB ?_ ?_<;>intro hb<;>try exact dsX hb))<;>(conv=>whnf)))
 refine aK hty (λp:Nat×Int=>([(1, .ea 16 [[.int .i64 kind, .bool isopen, .int .i64 lk, .str ln, .int .i64 llo, .int .i64 lhi,cnl lps, .int .i64 rk, .str rn, .int .i64 rlo, .int .i64 rhi,cnl rps,aKk roles, .str role, .str a, .str b]] 0 0),(3, .d (.int .i64 p.2)),(4, .d (.int .i64 p.1))],[])) (λp=>p.1<=roles.length/\p.1<=100/\0<=p.2/\p.2<=140737488351232 * 13+140737488351232 * p.1/\(role.length:Int)+a.length+b.length+10 * roles.length+zY (roles.take 100)=p.2+zY ((roles.take 100).drop p.1)) (λp=>roles.length - p.1) (0,(role.length:Int)+a.length+b.length+10 * roles.length) ⟨Nat.zero_le _,by omega,by omega,by omega,rfl⟩ ⟨by repeat' (first|exact trivial|exact rfl|(rw [List.length_map];exact rfl)|exact⟨rfl,rfl⟩|refine And.intro ?_ ?_),trivial⟩ ?_
 rintro⟨j,t⟩ ⟨hj,hj2,ht1,ht2,hn⟩
 dsimp only at hj hj2 ht1 ht2 hn
 by_cases hjl:j < roles.length/\j < 100
 ·have hrow:(roles.map eO)[(j:Int).toNat]? =some (eO roles[j]):=bV hjl.1
  have hlen:=s5 roles[j] (List.getElem_mem hjl.1)
  have htl:j < (roles.take 100).length:=by rw [List.length_take];omega
  rw [List.drop_eq_getElem_cons htl,zY,List.getElem_take]at hn
  have hjl1:=hjl.1
  have hjl2:=hjl.2
  clear s5
  generalize roles[j]=y at hrow hn hlen
  ((conv=>whnf);repeat' ((first|(intro hq;(try simp only [lnS]at hq);(try rewrite [List.length_map]))|refine sJ ?_|refine .intro _ (.intro rfl ?_)|refine exL (k:= ?_)|(refine⟨_,hrow, ?_⟩)|refine dwR ?_|((first|refine aA ?_ ?_|refine aC ?_ ?_)<;>intro hb<;>(first|exact ddX hb|try simp only [lnS]at hb))|(refine aB ?_ ?_<;>intro hb<;>try exact dsX hb))<;>(conv=>whnf)))
  refine⟨(j+1,t+y.length),⟨by dsimp only;omega,by dsimp only;omega,by dsimp only;omega,by dsimp only;omega,by dsimp only;omega⟩,by dsimp only;omega,by repeat' (first|exact trivial|exact rfl|refine And.intro ?_ ?_),trivial⟩
 ·have hdr:(roles.take 100).drop j=[]:=List.drop_eq_nil_of_le (by rw [List.length_take];omega)
  rw [hdr,zY,Int.add_zero]at hn
  rw [hn]
  clear hn hdr s5
  ((conv=>whnf);repeat' ((first|(intro hq;(try simp only [lnS]at hq);(try rewrite [List.length_map]))|refine sJ ?_|refine .intro _ (.intro rfl ?_)|refine exL (k:= ?_)|(refine aD [] hl trivial (λr hs=> ?_);subst hs)|(refine aD [] hr trivial (λr hs=> ?_);subst hs)|refine dwR ?_|((first|refine aA ?_ ?_|refine aC ?_ ?_)<;>intro hb<;>(first|exact ddX hb|try simp only [lnS]at hb))|(refine aB ?_ ?_<;>intro hb<;>try exact dsX hb))<;>(conv=>whnf)))
  all_goals (refine bQ (Eq.symm ?_);simp_all [aWj])
  all_goals (intro h9;omega)
end Go.Proofs.YtbobcfjlbcgchaaGreatDoor
namespace Go.Proofs.YtbobcfjlbcgchaaGreatDoor
open Go.Proofs Go.RowKit
set_option maxRecDepth 100000
theorem aUq:aOx Tryz.prog 48=some [3,4,45,45,46,9,9,9]:=by kernel_rfl
theorem aOw:aOx Tryz.prog 45=some [3,9,3,3,43]:=by kernel_rfl
theorem aLb:Tryz.prog.underlying 43=some (.slice 45):=by kernel_rfl
theorem aLc:Tryz.prog.underlying 22=some (.slice 48):=by kernel_rfl
theorem aOv:Tryz.prog.underlying 46=some (.slice 9):=by kernel_rfl
theorem u3:Tryz.prog.underlying 3=some (.int .i64):=by kernel_rfl
theorem u9:Tryz.prog.underlying 9=some .string:=by kernel_rfl
theorem u4:Tryz.prog.underlying 4=some .bool:=by kernel_rfl
theorem aQv:Tryz.prog.cellsOf 45=5:=by kernel_rfl
theorem aVt:Tryz.prog.cellsOf 48=16:=by kernel_rfl
theorem aTs:Tryz.prog.cellsOf 9=1:=by kernel_rfl
theorem laid:laidOutB Tryz.prog=true:=by kernel_rfl
def TT:List TypeId:=[48,22,45,43,46,3,9,4]
theorem aRo: ∀(n:Nat) (ds:List D),TyD Tryz.prog n 45 ds-> ∃c,ds=cnR c:=by
 intro n
 induction n using Nat.strongRecOn with
 |_ n ih=>
  intro ds h
  obtain⟨m,hm,a1,b1,rfl,h1,a2,b2,rfl,h2,a3,b3,rfl,h3,a4,b4,rfl,h4,a5,b5,rfl,h5,rfl⟩:=yY aOw h
  obtain⟨k,rfl,_⟩:=vG u3 h1
  obtain⟨s,rfl,_⟩:=jM u9 h2
  obtain⟨lo,rfl,_⟩:=vG u3 h3
  obtain⟨hi,rfl,_⟩:=vG u3 h4
  obtain⟨j,hj,rows,rfl,_,hr⟩:=vF aLb h5
  obtain⟨l,rfl⟩:=aM4 (λr hr=>ih j (by omega) r hr) rows hr
  exact⟨.mk k s lo hi l,by rw [aQv,aT];rfl⟩
theorem aAz {α:Type}{R:List D->Prop}{Q:α->Prop}{f:α->List D}(h: ∀r,R r-> ∃x,r=f x/\Q x): ∀rows:List (List D),(∀r∈rows,R r)-> ∃l:List α,rows=l.map f/\ ∀x∈l,Q x
 | [],_=>⟨[],rfl,by simp⟩
 |r::rest,hr=>by
  obtain⟨x,rfl,hx⟩:=h r (hr r (List.mem_cons_self ..))
  obtain⟨l,rfl,hl⟩:=aAz h rest (λq hq=>hr q (List.mem_cons_of_mem _ hq))
  exact⟨x::l,rfl,by simpa using ⟨hx,hl⟩⟩
theorem aDs {n:Nat}{ds:List D}(h:TyD Tryz.prog n 46 ds): ∃l:List (List UInt8),ds=[aKk l]/\l.length<=140737488351232/\ ∀s∈l,s.length<=140737488351232:=by
 obtain⟨m,rfl,rows,rfl,hn,hr⟩:=vF aOv h
 obtain ⟨l, rfl, hl⟩ := aAz (f := eO) (Q := λs : List UInt8 => s.length <= 140737488351232) (λr hr => by
  obtain⟨s,rfl,hs⟩:=jM u9 hr
  exact⟨s,rfl,hs⟩) rows hr
 exact⟨l,by rw [aTs];rfl,by rw [List.length_map]at hn;exact hn,hl⟩
theorem aXu {n:Nat}{ds:List D}(h:TyD Tryz.prog n 48 ds): ∃x,ds=axR x/\SzAx x:=by
 obtain⟨m,rfl,a1,b1,rfl,h1,a2,b2,rfl,h2,a3,b3,rfl,h3,a4,b4,rfl,h4,a5,b5,rfl,h5,a6,b6,rfl,h6,a7,b7,rfl,h7,a8,b8,rfl,h8,rfl⟩:=yY aUq h
 obtain⟨k,rfl,_⟩:=vG u3 h1
 obtain⟨o,rfl⟩:=aOy u4 h2
 obtain⟨l,rfl⟩:=aRo _ _ h3
 obtain⟨r,rfl⟩:=aRo _ _ h4
 obtain⟨rs,rfl,q1,q2⟩:=aDs h5
 obtain⟨s1,rfl,q3⟩:=jM u9 h6
 obtain⟨s2,rfl,q4⟩:=jM u9 h7
 obtain⟨s3,rfl,q5⟩:=jM u9 h8
 exact⟨⟨k,o,l,r,rs,s1,s2,s3⟩,by rw [aT,aT];rfl,⟨q1,q3,q4,q5,q2⟩⟩
theorem aTz {n:Nat}{ds:List D}(h:TyD Tryz.prog n 22 ds): ∃l:List Ax,aFw Tryz.prog 22 ds= .d (.sl 16 (l.map axR))/\l.length<=140737488351232/\ ∀x∈l,SzAx x:=by
 obtain⟨m,rfl,rows,rfl,hn,hr⟩:=vF aLc h
 obtain⟨l,rfl,hl⟩:=aAz (f:=axR) (Q:=SzAx) (λr hr=>aXu hr) rows hr
 exact⟨l,by simp only [aFw,aLc,aVt],by rw [List.length_map]at hn;exact hn,hl⟩
theorem aVj:Tryz.prog.globalNamed "veilstone/terms.needs" =some 3:=by kernel_rfl
theorem aXk:Tryz.prog.globalNamed "veilstone/terms.uses" =some 0:=by kernel_rfl
theorem aUr:(Tryz.prog.globals[(3:Nat)]?).map (·.type)=some 248:=by kernel_rfl
theorem aWt:(Tryz.prog.globals[(0:Nat)]?).map (·.type)=some 116:=by kernel_rfl
def FT:List TypeId:=[248,247,116,115,3,4]
theorem fl:Fl Tryz.prog (· ∈FT):=aVk (by kernel_rfl)
end Go.Proofs.YtbobcfjlbcgchaaGreatDoor
namespace Go.Proofs.YtbobcfjlbcgchaaGreatDoor
open Go.RowKit
section
variable {P:Program}
theorem fZ {ti:TypeId->Option TI}(hti:dX P ti) {o:Oper}{t:TypeId}{x:Operand}(ho:o.op= .makeInterface t x) {Ts:TI}(hT:ti t=some Ts) {fs:List (TypeId×Nat)}(htd:Ts.td= .struct fs) {pin:Pin}{fr:Fr}{hp:Hp}{K:SV->Hp->Prop}
  (hx:evO fr x=some (.d (.agg []))) (hk:K (.d (.lit (.iface t (.agg #[])))) hp):aQ P o pin fr hp K:=by
 intro E ρ a w _ hm hf next Q hq
 obtain⟨d0,i0,z0,hT0⟩:=aM (hti _ _ hT)
 have hni: ∀m,d0≠ .interface m:=by
  intro m e
  have:=hT0.td
  rw [htd,e]at this
  simp [aBz]at this
 have e1:a.eval x= .agg #[]:=by
  have hr:=aR hf hx
  generalize a.eval x=v at hr
  cases hr with
  |d _ _ hd=>
   cases hd with
   |agg cs vs hl h=>
    have:vs= #[]:=Array.eq_empty_of_size_eq_zero (by simpa using hl)
    rw [this]
 have hrun:(execOp a.eval o).run P w= .ok (.value (.iface t (.agg #[]))) w:=by
  simp only [execOp,ho,e1,Instr.makeInterface,Sem.run_bind,run_underlying hT0.und,Result.andThen_ok]
  cases d0<;>first|rfl|exact absurd rfl (hni _)
 exact bU hrun (hq _ w ρ _ hp hk hm hf (.d _ _ (.lit _)))
end
end Go.Proofs.YtbobcfjlbcgchaaGreatDoor
namespace Go.Proofs.YtbobcfjlbcgchaaGreatDoor
def beN:Nat->Nat->List UInt8
 | 0,_=>[]
 |k+1,n=>beN k (n / 256)++[UInt8.ofNat (n % 256)]
def deN (l:List UInt8):Nat:=l.foldl (λx c=>256 * x+c.toNat) 0
theorem bH: ∀k n,(beN k n).length=k
 | 0,_=>rfl
 |k+1,n=>by rw [beN,List.length_append,bH k];rfl
theorem aHs (l:List UInt8) (c:UInt8):deN (l++[c])=256 * deN l+c.toNat:=by
 unfold deN;rw [List.foldl_append];rfl
theorem aA8: ∀(k:Nat) (l:List UInt8),l.length=k->deN l < 256 ^ k
 | 0,l,h=>by rw [List.length_eq_zero_iff.1 h];decide
 |k+1,l,h=>by
  obtain⟨m,c,rfl⟩: ∃m c,l=m++[c]:=by
   rcases List.eq_nil_or_concat l with e|⟨m,c,e⟩
   ·rw [e]at h;cases h
   ·exact⟨m,c,by rw [e,List.concat_eq_append]⟩
  rw [List.length_append]at h
  have h1:=aA8 k m (by simpa using h)
  have h2:=c.toNat_lt
  rw [aHs,Nat.pow_succ]
  omega
def uN (z:Int):Nat:=(z % 18446744073709551616).toNat
def sgN (n:Nat):Int:=if n < 9223372036854775808 then (n:Int)else (n:Int) - 18446744073709551616
abbrev Rd (α:Type):=List UInt8->Option (α×List UInt8)
section
variable {α β:Type}
def aPl (a:α):Rd α:= λb=>some (a,b)
def tH (r:Rd α) (f:α->β):Rd β:= λb=>(r b).map λp=>(f p.1,p.2)
def dW (r:Rd α) (f:α->Rd β):Rd β:= λb=>(r b).bind λp=>f p.1 p.2
def yG (n:Nat):Rd (List UInt8):= λb=>if n<=b.length then some (b.take n,b.drop n)else none
def aKm (k:Nat):Rd Nat:=tH (yG k) deN
def sH (r:Rd α):Nat->Rd (List α)
 | 0=>aPl []
 |n+1=>dW r λx=>tH (sH r n) (x:: ·)
def iJ (r:Rd α):Rd (List α):=dW (aKm 4) (sH r)
theorem gC {r:Rd α}{f:α->β}{b c:List UInt8}{x:α}(h:r b=some (x,c)):tH r f b=some (f x,c):=by simp [tH,h]
theorem cY {r:Rd α}{f:α->Rd β}{b c:List UInt8}{x:α}(h:r b=some (x,c)):dW r f b=f x c:=by simp [dW,h]
theorem aW {r:Rd α}{f:α->Rd β}{b:List UInt8}(h:r b=none):dW r f b=none:=by simp [dW,h]
theorem gD {r:Rd α}{f:α->β}{b:List UInt8}(h:r b=none):tH r f b=none:=by simp [tH,h]
theorem aMk {r:Rd α}{f:α->Rd β}{b c:List UInt8}{y:β}(h:dW r f b=some (y,c)): ∃x d,r b=some (x,d)/\f x d=some (y,c):=by
 unfold dW at h
 obtain⟨p,h1,h2⟩:=Option.bind_eq_some_iff.1 h
 exact⟨p.1,p.2,h1,h2⟩
theorem aGr {r:Rd α}{f:α->β}{b c:List UInt8}{y:β}(h:tH r f b=some (y,c)): ∃x,r b=some (x,c)/\y=f x:=by
 unfold tH at h
 obtain⟨p,h1,h2⟩:=Option.map_eq_some_iff.1 h
 injection h2 with h3 h4
 exact⟨p.1,by rw [h1,<-h4],h3.symm⟩
theorem qK (r:Rd α): ∀(n:Nat) (b:List UInt8),sH r (n+1) b=(sH r n b).bind λp=>(r p.2).map λq=>(p.1++[q.1],q.2)
 | 0,b=>by
  show dW r (λx=>tH (aPl []) (x:: ·)) b=_
  cases h:r b with
  |none=>rw [aW h];simp [sH,aPl,h]
  |some p=>obtain⟨x,c⟩:=p;rw [cY h];simp [sH,aPl,tH,h]
 |n+1,b=>by
  show dW r (λx=>tH (sH r (n+1)) (x:: ·)) b=(dW r (λx=>tH (sH r n) (x:: ·)) b).bind _
  cases h:r b with
  |none=>rw [aW h,aW h];rfl
  |some p=>
   obtain⟨x,c⟩:=p
   rw [cY h,cY h]
   unfold tH
   rw [qK r n c]
   cases h2:sH r n c with
   |none=>rfl
   |some q=>
    obtain⟨l,d⟩:=q
    simp only [Option.bind_some,Option.map_some]
    cases h3:r d with
    |none=>rfl
    |some q=>rfl
theorem aMj {r:Rd α}{n m:Nat}{b:List UInt8}(h:sH r n b=none) (hm:n<=m):sH r m b=none:=by
 induction m with
 | zero => obtain rfl : n = 0 := by omega
           exact h
 |succ m ih=>
  by_cases e:n=m+1
  ·rw [<-e];exact h
  ·rw [qK,ih (by omega)];rfl
def iA (w:α->List UInt8) (l:List α):List UInt8:=beN 4 l.length++(l.map w).flatten
def yQ (k:Nat) (r:Rd α):Prop:= ∀b x c,r b=some (x,c)-> ∃a,b=a++c/\k<=a.length
theorem aDl (n:Nat):yQ n (yG n):=by
 intro b x c h
 unfold yG at h
 split at h
 ·injection h with h;injection h with h1 h2
  exact⟨b.take n,by rw [<-h2,List.take_append_drop],by rw [List.length_take];omega⟩
 ·cases h
theorem jB {r:Rd α}{f:α->β}{k:Nat}(h:yQ k r):yQ k (tH r f):=by
 intro b x c e
 unfold tH at e
 obtain⟨p,h1,h2⟩:=Option.map_eq_some_iff.1 e
 injection h2 with _ h3
 exact h b p.1 c (by rw [h1,<-h3])
theorem bZ {r:Rd α}{f:α->Rd β}{k j:Nat}(h:yQ k r) (g: ∀x,yQ j (f x)):yQ (k+j) (dW r f):=by
 intro b x c e
 unfold dW at e
 obtain⟨p,h1,h2⟩:=Option.bind_eq_some_iff.1 e
 obtain⟨a1,e1,q1⟩:=h b p.1 p.2 h1
 obtain⟨a2,e2,q2⟩:=g _ _ _ _ h2
 exact⟨a1++a2,by rw [e1,e2,List.append_assoc],by rw [List.length_append];omega⟩
theorem aHo {r:Rd α}{k:Nat}(h:yQ k r): ∀n,yQ (k * n) (sH r n)
 | 0=> λb x c e=>⟨[],by injection e with e;injection e with _ e,by simp⟩
 |n+1=>by
  have:=bZ (f:= λx=>tH (sH r n) (x:: ·)) h (λx=>jB (aHo h n))
  rw [Nat.mul_succ,Nat.add_comm]
  exact this
theorem mR {r:Rd α}{k j:Nat}(h:yQ k r) (hj:j<=k):yQ j r:= λb x c e=>by
 obtain⟨a,h1,h2⟩:=h b x c e
 exact⟨a,h1,by omega⟩
def tY (rd:Rd α) (wr:α->List UInt8×Int) (zero:α) (bad:Int) (b:List UInt8):α×Int:=
 match rd b with
 |some (x,[])=>if wr x=(b,0)then (x,0)else (zero,bad)
 |_=>(zero,bad)
theorem aNw {rd:Rd α}{wr:α->List UInt8×Int}{zero:α}{bad:Int}{b:List UInt8}{x:α}(h1:wr x=(b,0)) (h2:rd b=some (x,[])):tY rd wr zero bad b=(x,0):=by
 unfold tY
 rw [h2]
 simp only [if_pos h1]
theorem aQs {rd:Rd α}{wr:α->List UInt8×Int}{zero:α}{bad:Int}{b c:List UInt8}{x:α}(h:rd b=some (x,c)) (hc:c≠[]):tY rd wr zero bad b=(zero,bad):=by
 unfold tY
 rw [h]
 cases c with
 |nil=>exact absurd rfl hc
 |cons _ _=>rfl
theorem aDc {w:α->List UInt8}{k:Nat}(hw: ∀x,k<=(w x).length): ∀l:List α,k * l.length<=((l.map w).flatten).length
 | []=>by simp
 |x::l=>by
  have h1:=aDc hw l
  have h2:=hw x
  rw [List.map_cons,List.flatten_cons,List.length_append,List.length_cons,Nat.mul_succ]
  omega
end
end Go.Proofs.YtbobcfjlbcgchaaGreatDoor
namespace Go.Proofs.YtbobcfjlbcgchaaGreatDoor
open Go.Proofs
set_option maxRecDepth 10000
attribute [local irreducible] aJ aF Tri aG YVC bS aQ
theorem aC9 (bs:List UInt8) (m:Nat) (hp0:Hp) {pin:Pin}{fr:Fr}{K:SV->Hp->Prop}
  (hok:m<=bs.length->K (.d (.sl 1 ((bs.take m).map bE))) ((3, .cells 104 [.d (.sl 1 ((bs.drop m).map bE))])::hp0))
  (hno:bs.length < m->pin.kp fr ((3, .cells 104 [.d (.sl 1 (bs.map bE))])::hp0)):
  aF Tryz.prog pin fr ((3, .cells 104 [.d (.sl 1 (bs.map bE))])::hp0) 134 [.ptr 3 0, .d (.int .i64 m)] K:=by
 have hl:(bs.map bE).length=bs.length:=List.length_map ..
 refine aI false [] hty Tryz.func134 rfl (kp [0,1,4,11]) 100 (by simp [Tryz.f134]) ?_
 ((conv=>whnf);repeat' ((first|(intro hq;(try simp only [lnS]at hq);(try rewrite [List.length_map]))|refine sJ ?_|refine .intro _ (.intro rfl ?_)|refine exL (k:= ?_)|(refine gV hty 19 (by kernel_rfl) (by kernel_rfl) ?_)|(refine fZ hty rfl (by with_unfolding_all exact rfl) rfl rfl ?_)|refine dwR ?_|((first|refine aA ?_ ?_|refine aC ?_ ?_)<;>intro hb<;>(first|exact ddX hb|try simp only [lnS]at hb))|(refine aB ?_ ?_<;>intro hb<;>try exact dsX hb))<;>(conv=>whnf)))
 ·exact hno (by omega)
 ·have e1:List.drop 0 (List.take ((m:Nat):Int).toNat (bs.map bE))=(bs.take m).map bE:=by rw [Int.toNat_natCast,List.drop_zero,List.map_take]
  have e2:List.drop ((m:Nat):Int).toNat (List.take ((bs.length:Nat):Int).toNat (bs.map bE))=(bs.drop m).map bE:=by rw [Int.toNat_natCast,Int.toNat_natCast,List.take_of_length_le (by rw [List.length_map];exact Nat.le_refl _),List.map_drop]
  show K (SV.d (D.sl 1 (List.drop 0 (List.take ((m:Nat):Int).toNat (bs.map bE))))) ((3,HObj.cells 104 [SV.d (D.sl 1 (List.drop ((m:Nat):Int).toNat (List.take ((bs.length:Nat):Int).toNat (bs.map bE))))])::hp0)
  rw [e1,e2]
  exact hok (by omega)
end Go.Proofs.YtbobcfjlbcgchaaGreatDoor
namespace Go.Proofs.YtbobcfjlbcgchaaGreatDoor
open Go.Proofs
def aSx:Rd Int:=tH (aKm 8) sgN
def aU9:Rd Int:=tH (aKm 1) λn=>(n:Int)
def aF1:Rd (List UInt8):=dW (aKm 4) yG
abbrev Dig:={l:List UInt8 // l.length=32}
def rT (d:Dig):List UInt8:=d.1
def lG (z:Int):List UInt8:=beN 8 (uN z)
def aEd (z:Int):List UInt8:=beN 1 (uN z)
def lC (s:List UInt8):List UInt8:=beN 4 s.length++s
mutual
def wC:Cn->List UInt8
 | .mk k n lo hi ps=>aEd k++(lC n++(lG lo++(lG hi++(beN 4 ps.length++(wCs ps).flatten))))
def wCs:List Cn->List (List UInt8)
 | []=>[]
 |c::r=>wC c::wCs r
end
theorem aKz: ∀l,wCs l=l.map wC
 | []=>rfl
 |c::r=>by rw [wCs,aKz r];rfl
theorem aS6 (c:Cn):wC c=aEd c.kind++(lC c.name++(lG c.lo++(lG c.hi++iA wC c.parts))):=by
 cases c;rw [wC,aKz];rfl
def rC:Nat->Rd Cn
 | 0=> λ_=>none
 |k+1=>dW aU9 λkd=>dW aF1 λn=>dW aSx λlo=>dW aSx λhi=>tH (iJ (rC k)) (Cn.mk kd n lo hi)
def OkC:Nat->Cn->Prop
 | 0,_=>False
 |k+1,c=>(0<=c.kind/\c.kind<=255)/\c.name.length < 4294967296/\(-9223372036854775808<=c.lo/\c.lo<=9223372036854775807)/\(-9223372036854775808<=c.hi/\c.hi<=9223372036854775807)/\c.parts.length < 4294967296/\ ∀p∈c.parts,OkC k p
theorem OkC.up: ∀{k j:Nat}{c:Cn},OkC k c->k<=j->OkC j c
 | 0,_,_,h,_=>h.elim
 |k+1,0,_,_,h=>absurd h (by omega)
 |k+1,j+1,c,⟨a,b,e,f,g,h⟩,hj=>⟨a,b,e,f,g,λp hp=>(h p hp).up (by omega)⟩
def wB (o:Bool):List UInt8:=aEd (if o then 1 else 0)
def wA (x:Ax):List UInt8:=aEd x.kind++(wB x.isopen++(wC x.left++(wC x.right++(iA lC x.roles++(lC x.role++(lC x.a++lC x.b))))))
def wAs (l:List Ax):List UInt8:=iA wA l
def rB:Rd Bool:=tH aU9 λz=>decide (z=1)
def rA (m:Nat):Rd Ax:=dW aU9 λk=>dW rB λo=>dW (rC m) λl=>dW (rC m) λr=>dW (iJ aF1) λrs=>dW aF1 λs1=>dW aF1 λs2=>tH aF1 λs3=>⟨k,o,l,r,rs,s1,s2,s3⟩
def rAs (m:Nat):Rd (List Ax):=iJ (rA m)
theorem gW (k:Nat):yQ k (aKm k):=jB (aDl k)
theorem kU:yQ 8 aSx:=jB (gW 8)
theorem jA:yQ 1 aU9:=jB (gW 1)
theorem cZ:yQ 4 aF1:=mR (bZ (j:=0) (gW 4) λn=>mR (aDl n) (Nat.zero_le _)) (by omega)
theorem mQ {α:Type}{r:Rd α}{k:Nat}(h:yQ k r):yQ 4 (iJ r):=mR (bZ (j:=0) (gW 4) λn=>mR (aHo h n) (Nat.zero_le _)) (by omega)
theorem aA4: ∀k,yQ 25 (rC k)
 | 0=> λb x c e=>by cases e
 |k+1=>mR (bZ jA λ_=>bZ cZ λ_=>bZ kU λ_=>bZ kU λ_=>jB (mQ (aA4 k))) (by omega)
theorem aVm:yQ 1 rB:=jB jA
theorem aVn (m:Nat):yQ 68 (rA m):=mR (bZ jA λ_=>bZ aVm λ_=>bZ (aA4 m) λ_=>bZ (aA4 m) λ_=>bZ (mQ cZ) λ_=>bZ cZ λ_=>bZ cZ λ_=>jB cZ) (by omega)
end Go.Proofs.YtbobcfjlbcgchaaGreatDoor
