/-
  The reference of objects: ReadCommit. The reference of objects: its reader reads an axiom. The reference of objects: its reader reads axioms. The reference of objects: ReadAxioms. Objects: the law's examples. Arrays held against one another: are they not equal? ObjectsCommitSpec, walked. Bases: the reference's Same at one list of axioms; few and same of the law of renamings. Objects: how long what is written is, and that changed bytes are refused; plain. Objects: SameQuery and SameAlignment of the reference at equal arguments; the law's closure that changes bytes. Objects: the law's closure that changes bytes. Sums of ints that may wrap: a walk that knows less of the type int takes them by rules of their own. Objects: few, fewQuery and fewAlignment of the law. Objects: few and fewAlignment of the law. ObjectsAxiomsSpec, walked. The library's stable sort at rows that may be written: the symmetric merge. The library's stable sort at rows that may be written: the whole.
  Conditions: none.
-/
import Derived.Test.YtbobcfjlbcgchaaGreatDoorVOh
import Derived.Test.YtbobcfjlbcgchaaGreatDoorVPc
import Derived.Test.YtbobcfjlbcgchaaGreatDoorVQf
import Derived.Test.YtbobcfjlbcgchaaGreatDoorVA1
import Derived.Test.YtbobcfjlbcgchaaGreatDoorVOf
import Derived.Test.YtbobcfjlbcgchaaGreatDoorVDd
import Derived.Test.YtbobcfjlbcgchaaGreatDoorVBq
import Derived.Test.YtbobcfjlbcgchaaGreatDoorVQs
import Derived.Test.YtbobcfjlbcgchaaGreatDoorVYb
import Derived.Test.YtbobcfjlbcgchaaGreatDoorVQk
set_option linter.unnecessarySimpa false
set_option linter.unusedSectionVars false
set_option linter.unusedSimpArgs false
set_option linter.unusedVariables false
set_option maxHeartbeats 32000000
namespace Go.Proofs.YtbobcfjlbcgchaaGreatDoor
open Go.Proofs Go.RowKit
set_option maxRecDepth 10000
attribute [local irreducible] aJ aF Tri aG YVC bS aQ aAd
end Go.Proofs.YtbobcfjlbcgchaaGreatDoor
namespace Go.Proofs.YtbobcfjlbcgchaaGreatDoor
open Go.Proofs Go.RowKit
set_option maxRecDepth 10000
attribute [local irreducible] aJ aF Tri aG YVC bS aQ
end Go.Proofs.YtbobcfjlbcgchaaGreatDoor
namespace Go.Proofs.YtbobcfjlbcgchaaGreatDoor
open Go.Proofs Go.RowKit
set_option maxRecDepth 10000
attribute [local irreducible] aJ aF Tri aG YVC bS aQ
end Go.Proofs.YtbobcfjlbcgchaaGreatDoor
namespace Go.Proofs.YtbobcfjlbcgchaaGreatDoor
open Go.Proofs Go.RowKit
set_option maxRecDepth 10000
attribute [local irreducible] aJ aF Tri aG YVC bS aQ aAd
end Go.Proofs.YtbobcfjlbcgchaaGreatDoor
namespace Go.Proofs.YtbobcfjlbcgchaaGreatDoor
open Go.Proofs Go.RowKit
set_option maxRecDepth 10000
attribute [local irreducible] aJ aF Tri aG YVC bS aQ
def cmX:Cm:=⟨258,[],aRn,[]⟩
def alX:Al:=⟨[120],aRn,[],aRn,0,[],[]⟩
theorem aG0:aEc []=([0,0,0,0],0):=by kernel_rfl
theorem aUk:aKh cmX=([0,0,0,0,0,0,1,2]++List.replicate 40 0,0):=by kernel_rfl
theorem aUl:aKi alX=([0,0,0,1,120]++List.replicate 84 0,0):=by kernel_rfl
theorem aX5:rAs 9 [0,0,0,0]=some ([],[]):=by kernel_rfl
theorem aX4:rAs 9 [0,0,0,0,0]=some ([],[0]):=by kernel_rfl
theorem aUz:rQy [0,0,0,0,0,0,0,0]=some (⟨[],[]⟩,[]):=by kernel_rfl
theorem aTo:tY (rAs 9) aEc [] 280 [0,0,0,0]=([],0):=aNw aG0 aX5
theorem aTn:tY (rAs 9) aEc [] 280 [0,0,0,0,0]=([],280):=aQs aX4 (List.cons_ne_nil _ _)
def aY3:Qy->List UInt8×Int:= λ_=>([],210)
theorem aTm:tY rQy aY3 qy0 280 [0,0,0,0,0,0,0,0]=(qy0,280):=by
 rw [xO aUz,if_neg]
 rintro⟨_,h⟩
 injection h with _ h
 exact absurd h (by decide)
theorem aJ9:Tri Tryz.prog 5 [] NG (λr=>r= .d (.bool true)):=by
 have c1:Tri Tryz.prog 7 [.d .nil] NG _:=Tri.args (gF []) ⟨gR.nil,trivial⟩
 rw [aG0]at c1
 have c2: ∀id,Tri Tryz.prog 9 [.osl id 1 (([0,0,0,0]:List UInt8).map bE)] NG (λr=>r= .tup [.d (.sl 16 []), .d (.int .i64 0)]):= λid=>
  (Tri.args (xs:=[.osl id 1 (([0,0,0,0]:List UInt8).map bE)]) (lZ aEc [0,0,0,0] (by decide) λx _ _=>gF x) ⟨gR.osl,trivial⟩).mono (by rw [aTo];rintro r ⟨x,rfl,rfl⟩;rfl)
 have c3: ∀id,Tri Tryz.prog 9 [.osl id 1 (([0,0,0,0,0]:List UInt8).map bE)] NG (λr=>r= .tup [.d (.sl 16 []), .d (.int .i64 280)]):= λid=>
  (Tri.args (xs:=[.osl id 1 (([0,0,0,0,0]:List UInt8).map bE)]) (lZ aEc [0,0,0,0,0] (by decide) λx _ _=>gF x) ⟨gR.osl,trivial⟩).mono (by rw [aTn];rintro r ⟨x,rfl,rfl⟩;rfl)
 have c4:Tri Tryz.prog 16 [.d (.sl 1 (([0,0,0,0,0,0,0,0]:List UInt8).map bE))] NG (λr=>r= .tup [.d (.agg (qyR qy0)), .d (.int .i64 280)]):=
  (yE aY3 [0, 0, 0, 0, 0, 0, 0, 0] (by decide) (λx c e => by
   rw [aUz]at e
   injection e with e
   injection e with e _
   subst e
   exact aCr)).mono (by rw [aTm];rintro r ⟨x,rfl,rfl⟩;rfl)
 have c5:Tri Tryz.prog 17 [.d (.agg ([.int .i64 258, .nil]++tX aRn++[.str []]))] [] _:=Tri.args (aCs cmX) ⟨gR.wkd (by repeat' (first|exact trivial|exact rfl|refine And.intro ?_ ?_)),trivial⟩
 rw [aUk]at c5
 have c6:Tri Tryz.prog 18 [.d (.agg ([.str [120]]++tX aRn++[.nil]++tX aRn++[.int .i64 0, .nil, .nil]))] NG _:=Tri.args (vZ alX) ⟨gR.wkd (by repeat' (first|exact trivial|exact rfl|refine And.intro ?_ ?_)),trivial⟩
 rw [aUl]at c6
 refine aH false [] hty Tryz.func5 rfl (kp [0,1,2,3,4,6,8,9,10,11,12]) [] _ _ _ (by simp [Tryz.f5]) (by decide) ?_
 ((conv=>whnf);repeat ((first|(intro hq;try simp only [lnS]at hq)|refine sI ?_|refine .intro _ (.intro rfl ?_));(conv=>whnf)))
 refine aD NG c1 ⟨rfl,rfl,trivial⟩ (λr hs=> ?_)
 subst hs
 ((conv=>whnf);repeat ((first|(intro hq;try simp only [lnS]at hq)|refine sI ?_|refine .intro _ (.intro rfl ?_));(conv=>whnf)))
 refine aD NG (c2 _) ⟨rfl,rfl,trivial⟩ (λr hs=> ?_)
 subst hs
 ((conv=>whnf);repeat ((first|(intro hq;try simp only [lnS]at hq)|refine sI ?_|refine .intro _ (.intro rfl ?_));(conv=>whnf)))
 refine aD NG (c3 _) ⟨rfl,rfl,trivial⟩ (λr hs=> ?_)
 subst hs
 ((conv=>whnf);repeat ((first|(intro hq;try simp only [lnS]at hq)|refine sI ?_|refine .intro _ (.intro rfl ?_));(conv=>whnf)))
 refine aF.frozA (rows:=([0,0,0,0,0,0,0,0]:List UInt8).map bE) NG rfl rfl ⟨rfl,rfl,trivial⟩ rfl ?_
 refine aD NG c4 ⟨rfl,rfl,trivial⟩ (λr hs=> ?_)
 subst hs
 ((conv=>whnf);repeat ((first|(intro hq;try simp only [lnS]at hq)|refine sI ?_|refine .intro _ (.intro rfl ?_));(conv=>whnf)))
 refine aD [] c5 trivial (λr hs=> ?_)
 subst hs
 ((conv=>whnf);repeat ((first|(intro hq;try simp only [lnS]at hq)|refine sI ?_|refine .intro _ (.intro rfl ?_));(conv=>whnf)))
 refine aD NG c6 ⟨rfl,rfl,trivial⟩ (λr hs=> ?_)
 subst hs
 ((conv=>whnf);repeat ((first|(intro hq;try simp only [lnS]at hq)|refine sI ?_|refine .intro _ (.intro rfl ?_));(conv=>whnf)))
 rfl
end Go.Proofs.YtbobcfjlbcgchaaGreatDoor
namespace Go.Proofs.YtbobcfjlbcgchaaGreatDoor
open Go.RowKit
section
variable {P:Program}
theorem aQy {ti:TypeId->Option TI}(hti:dX P ti) {o:Oper}{t t' e:TypeId}{n:Nat}{x y:Operand}(ho:o.op= .binOp .neq t x y t') {Ts T:TI}(hT:ti t=some Ts) (htd:Ts.td= .array n e) (hE:ti e=some T) (ha:T.td.isAgg=false) (h1:T.size=1) (hg:aR6 P t=true) {fr:Fr}{hp:Hp}{K:SV->Prop}{xs ys:List D}{b:Bool}
  (hx:evO fr x=some (.d (.agg xs))) (hy:evO fr y=some (.d (.agg ys))) (hn:xs.length=n) (hb:pP T.td xs ys=some b) (hk:K (.d (.bool (!b)))):bS P o fr hp K:=by
 intro E ρ a w hm hf
 obtain⟨us,e1,hl1,hh1⟩:=(aR hf hx).dagg_inv
 obtain⟨vs,e2,hl2,hh2⟩:=(aR hf hy).dagg_inv
 obtain⟨d0,i0,z0,hT0⟩:=aM (hti _ _ hT)
 obtain⟨d1,i1,z1,hE1⟩:=aM (hti _ _ hE)
 have hd:d0= .array n e:=by
  have:=hT0.td
  rw [htd]at this
  cases d0<;>simp [aBz]at this
  obtain⟨rfl,rfl⟩:=this
  rfl
 subst hd
 have hlen:=xM hb
 refine⟨.bool (!b),_,λw' _=> ?_, .d _ _ (.bool _),hk⟩
 have k2:P.eqGuardType P.depth t=false:=by simpa [aR6]using hg
 have hrun := vP (P := P) hE1 ha (w := w) (S := ρ.S) 9998 w' xs ys b 0 us vs hb (λj x h => by
  have hj:=(List.getElem?_eq_some_iff.1 h).1
  exact⟨us[j]'(by omega),by rw [Nat.zero_add];exact Array.getElem?_eq_getElem (by omega),hh1 j x _ h (Array.getElem?_eq_getElem (by omega))⟩) (λj x h=>by
  have hj:=(List.getElem?_eq_some_iff.1 h).1
  exact⟨vs[j]'(by omega),by rw [Nat.zero_add];exact Array.getElem?_eq_getElem (by omega),hh2 j x _ h (Array.getElem?_eq_getElem (by omega))⟩)
 have heq:(Op.equalIn 10000 t (.agg us) (.agg vs)).run P w'= .ok b w':=lU hT0.und hE1 h1 (by rw [<-hn];exact hrun)
 simp only [execOp,ho,e1,e2,Sem.run_bind,run_eqGuard_agg w' _ t x y us vs k2,Result.andThen_ok,run_neq_struct,heq]
 rfl
end
end Go.Proofs.YtbobcfjlbcgchaaGreatDoor
namespace Go.Proofs.YtbobcfjlbcgchaaGreatDoor
open Go.Proofs Go.RowKit
set_option maxRecDepth 10000
attribute [local irreducible] aJ aF Tri aG YVC bS aQ aAd
theorem aNr (l:List UInt8):pP (.int .u8) (l.map λc=>D.int .u8 c.toNat) (l.map λc=>D.int .u8 c.toNat)=some true:=by
 induction l with
 |nil=>rfl
 |cons c l ih=>
  rw [List.map_cons,pP,ih]
  simp [aDi]
end Go.Proofs.YtbobcfjlbcgchaaGreatDoor
namespace Go.Proofs.YtbobcfjlbcgchaaGreatDoor
open Go.Proofs
set_option maxRecDepth 10000
attribute [local irreducible] aJ aF Tri aG YVC bS aQ
end Go.Proofs.YtbobcfjlbcgchaaGreatDoor
namespace Go.Proofs.YtbobcfjlbcgchaaGreatDoor
open Go.Proofs
end Go.Proofs.YtbobcfjlbcgchaaGreatDoor
namespace Go.Proofs.YtbobcfjlbcgchaaGreatDoor
open Go.Proofs Go.RowKit
set_option maxRecDepth 10000
attribute [local irreducible] aJ aF Tri aG YVC bS aQ
end Go.Proofs.YtbobcfjlbcgchaaGreatDoor
namespace Go.Proofs.YtbobcfjlbcgchaaGreatDoor
open Go.Proofs Go.RowKit
set_option maxRecDepth 10000
attribute [local irreducible] aJ aF Tri aG YVC bS aQ
end Go.Proofs.YtbobcfjlbcgchaaGreatDoor
namespace Go.Proofs.YtbobcfjlbcgchaaGreatDoor
open Go.RowKit
section
variable {P:Program}
end
end Go.Proofs.YtbobcfjlbcgchaaGreatDoor
namespace Go.Proofs.YtbobcfjlbcgchaaGreatDoor
open Go.Proofs Go.RowKit
set_option maxRecDepth 10000
attribute [local irreducible] aJ aF Tri aG YVC bS aQ
end Go.Proofs.YtbobcfjlbcgchaaGreatDoor
namespace Go.Proofs.YtbobcfjlbcgchaaGreatDoor
open Go.Proofs Go.RowKit
set_option maxRecDepth 10000
attribute [local irreducible] aJ aF Tri aG YVC bS aQ
theorem aQn (bs:List UInt8) (l:List Ax) (hl: ∀x∈l,SzAx x):Tri Tryz.prog 6 [.d (.sl 1 (bs.map bE)), .d (.sl 16 (l.map axR))] [] (λr=>r= .d (.bool (decide (bs.length<=6000) && (decide ((l.length:Int)<=12) && l.all aDh)))):=by
 have hbl:=uC bs
 have hf:=yL l 12 hl
 generalize (decide ((l.length:Int)<=12) && l.all aDh)=v at *
 refine aH false [] hty Tryz.func6 rfl (kp [0,1,4]) [] _ _ _ (by simp [Tryz.f6]) (by simp) ?_
 ((conv=>whnf);repeat ((first|(intro hq;try simp only [lnS]at hq)|refine sI ?_|refine .intro _ (.intro rfl ?_));(conv=>whnf)))
 rw [hbl]
 by_cases h:bs.length<=6000
 ·rw [decide_eq_true h]
  ((conv=>whnf);repeat' ((first|(intro hq;(try simp only [lnS]at hq);(try rewrite [List.length_map]))|refine sJ ?_|refine .intro _ (.intro rfl ?_)|refine exL (k:= ?_)|(refine aD [] hf trivial (λr hs=> ?_);subst hs)|refine dwR ?_|((first|refine aA ?_ ?_|refine aC ?_ ?_)<;>intro hb<;>(first|exact ddX hb|try simp only [lnS]at hb))|(refine aB ?_ ?_<;>intro hb<;>try exact dsX hb))<;>(conv=>whnf)))
  all_goals first|rfl|(exfalso;omega)
 ·rw [decide_eq_false h]
  ((conv=>whnf);repeat' ((first|(intro hq;(try simp only [lnS]at hq);(try rewrite [List.length_map]))|refine sJ ?_|refine .intro _ (.intro rfl ?_)|refine exL (k:= ?_)|(refine aD [] hf trivial (λr hs=> ?_);subst hs)|refine dwR ?_|((first|refine aA ?_ ?_|refine aC ?_ ?_)<;>intro hb<;>(first|exact ddX hb|try simp only [lnS]at hb))|(refine aB ?_ ?_<;>intro hb<;>try exact dsX hb))<;>(conv=>whnf)))
  all_goals first|rfl|(exfalso;omega)
end Go.Proofs.YtbobcfjlbcgchaaGreatDoor
namespace Go.Proofs.YtbobcfjlbcgchaaGreatDoor
open Go.Proofs Go.RowKit
set_option maxRecDepth 10000
attribute [local irreducible] aJ aF Tri aG YVC bS aQ aAd
end Go.Proofs.YtbobcfjlbcgchaaGreatDoor
namespace Go.Proofs.YtbobcfjlbcgchaaGreatDoor
open Go.Proofs
set_option maxRecDepth 10000
attribute [local irreducible] aJ aF Tri aG YVC bS aQ
structure CutI (cf:SAx->SAx->Int) (A B:List SAx) (h s0 r0 u v:Nat):Prop where
 le:s0<=u/\u<=v/\v<=r0
 lo: ∀x y,s0 < u->A[u - 1]? =some x->B[h - u]? =some y->¬ cf y x < 0
 hi: ∀x y,v < r0->A[v]? =some x->B[h - 1 - v]? =some y->cf y x < 0
theorem qD {g:FuncId}{cf:SAx->SAx->Int}(G:CmpG g cf): ∀(sz:Nat) (Pr A B Q:List SAx) (_:A.length+B.length<=sz) (_:0 < A.length) (_:0 < B.length) (_:Srt cf A) (_:Srt cf B) {L:List SAx}(_:L=Pr++(A++(B++Q))) (_:L.length<=1000000) {n:Nat}{a m b:Int}(_:n=L.length) (_:a=(Pr.length:Nat)) (_:m=(Pr.length+A.length:Nat)) (_:b=(Pr.length+A.length+B.length:Nat)) (cap:Nat) (rest:Hp) {pin:Pin}{fr:Fr}{K:SV->Hp->Prop}
  (_: ∀S,S.Perm (A++B)->Srt cf S->K (cU []) ((70, .mrow 48 16 cap ((Pr++(S++Q)).map saR))::rest)),
  aF Tryz.prog pin fr ((70, .mrow 48 16 cap (L.map saR))::rest) 128 [.mw 70 16 n, .d (.int .i64 a), .d (.int .i64 m), .d (.int .i64 b), .fn g [] []] K:=by
 intro sz
 induction sz with
 |zero=>intro Pr A B Q h h1;exact absurd h (by omega)
 |succ sz ih=>
  intro Pr A B Q hsz hA0 hB0 hA hB L hL hl n a m b hn ha hm hb cap rest pin fr K fin
  by_cases cA:A.length=1
  ·obtain⟨x,rfl⟩:=List.length_eq_one_iff.1 cA
   exact aJe G Pr x B Q hB hL hl hn ha hm (by rw [hb,List.length_singleton]) cap rest fin
  by_cases cB:B.length=1
  ·obtain⟨y,rfl⟩:=List.length_eq_one_iff.1 cB
   exact aF8 G Pr A y Q hA cA hL hl hn ha hm (by rw [hb,List.length_singleton]) cap rest fin
  subst hn;subst ha;subst hb;subst hm
  have hlen:L.length=Pr.length+(A.length+(B.length+Q.length)):=by rw [hL];simp only [List.length_append]
  have hMl:(L.map saR).length=L.length:=List.length_map ..
  have hrA: ∀(k:Nat) (x:SAx),A[k]? =some x-> ∀i:Nat,i=Pr.length+k->(L.map saR)[((i:Nat):Int).toNat]? =some (saR x):= λk x hx i hi=>
   aGl (Pr:=Pr) (A:=A) (R:=B++Q) hL hx (by rw [Int.toNat_natCast,hi])
  have hrB: ∀(k:Nat) (x:SAx),B[k]? =some x-> ∀i:Int,i=((Pr.length+A.length+k:Nat):Int)->(L.map saR)[i.toNat]? =some (saR x):= λk x hx i hi=>
   aGl (Pr:=Pr++A) (A:=B) (R:=Q) (by rw [hL];simp) hx (by rw [hi,Int.toNat_natCast,List.length_append])
  generalize hN:L.length=N at *
  refine dR hty Tryz.func128 rfl (kp [0,1,2,3,4,10,11,12,13,14,15,16,17,18,19,20,21,22,23,24,28,33,50,58,80,85,103,110,140,151,171,185,199,213]) 500 (by simp [Tryz.f128]) ?_
  obtain⟨h,hh⟩: ∃h,h=(A.length+B.length) / 2:=⟨_,rfl⟩
  have hh2:=aDa (i:=Pr.length) (j:=Pr.length+A.length+B.length) (by omega)
  have hmid:(Pr.length+(Pr.length+A.length+B.length)) / 2=Pr.length+h:=by omega
  rw [hmid]at hh2
  ((conv=>whnf);repeat ((first|(intro hq;try simp only [lnS]at hq)|refine sI ?_|refine .intro _ (.intro rfl ?_));(conv=>whnf)))
  refine aA (λh1=> ?_) (λh1=> ?_)
  ·exfalso;omega
  ((conv=>whnf);repeat ((first|(intro hq;try simp only [lnS]at hq)|refine sI ?_|refine .intro _ (.intro rfl ?_));(conv=>whnf)))
  refine aA (λh2=> ?_) (λh2=> ?_)
  ·exfalso;omega
  ((conv=>whnf);repeat ((first|(intro hq;try simp only [lnS]at hq)|refine sI ?_|refine .intro _ (.intro rfl ?_));(conv=>whnf)))
  rw [hh2]
  -- the ends of the search
  obtain⟨s0,r0,hsr,hcase⟩: ∃s0 r0,(s0<=r0/\r0<=A.length/\r0<=h/\h - s0<=B.length/\s0<=h)/\((h < A.length/\s0=h - B.length/\B.length<=h/\r0=h)\/(A.length<=h/\s0=0/\r0=A.length)):=by
   by_cases hc:h < A.length
   ·exact⟨h - B.length,h,by omega, .inl ⟨hc,rfl,by omega,rfl⟩⟩
   ·exact⟨0,A.length,by omega, .inr ⟨by omega,rfl,rfl⟩⟩
  ((conv=>whnf);repeat ((first|(intro hq;try simp only [lnS]at hq)|refine sI ?_|refine .intro _ (.intro rfl ?_));(conv=>whnf)))
  refine aA (λh3=> ?_) (λh3=> ?_)
  all_goals (
   ((conv=>whnf);repeat ((first|(intro hq;try simp only [lnS]at hq)|refine sI ?_|refine .intro _ (.intro rfl ?_));(conv=>whnf)))
   refine cX hty (λy:Nat×Nat=>([(0, .mw 70 16 N),(1, .d (.int .i64 (Pr.length:Nat))),(2, .d (.int .i64 (Pr.length+A.length:Nat))),(3, .d (.int .i64 (Pr.length+A.length+B.length:Nat))),(4, .fn g [] []),(18, .d (.int .i64 (Pr.length+h:Nat))),(19, .d (.int .i64 (((Pr.length+h:Nat):Int)+(Pr.length+A.length:Nat)))),(20, .d (.int .i64 (Pr.length+y.1:Nat))),(21, .d (.int .i64 (Pr.length+y.2:Nat))),(22, .d (.int .i64 (((Pr.length+h:Nat):Int)+(Pr.length+A.length:Nat) - 1)))],(70, .mrow 48 16 cap (L.map saR))::rest))
    (λy=>CutI cf A B h s0 r0 y.1 y.2) (λy=>y.2 - y.1) (s0,r0) ⟨⟨Nat.le_refl _,hsr.1,Nat.le_refl _⟩,λx y q=>absurd q (Nat.lt_irrefl _),λx y q=>absurd q (Nat.lt_irrefl _)⟩ (by repeat' (first|exact trivial|exact rfl|exact eH (by(try dsimp only);omega)|refine And.intro ?_ ?_)) rfl ?_
   rintro⟨u,v⟩ hI
   dsimp only at hI |-
   obtain⟨i1,i2,i3⟩:=hI.le
   obtain⟨w,hw⟩: ∃w,w=(u+v) / 2:=⟨_,rfl⟩
   have hh3:=aDa (i:=Pr.length+u) (j:=Pr.length+v) (by omega)
   rw [show (Pr.length+u+(Pr.length+v)) / 2=Pr.length+w by omega]at hh3
   ((conv=>whnf);repeat ((first|(intro hq;try simp only [lnS]at hq)|refine sI ?_|refine .intro _ (.intro rfl ?_));(conv=>whnf)))
   refine aA (λh4=> ?_) (λh4=> ?_)
   ·have hw1:u<=w/\w < v:=by omega
    obtain⟨x,hx⟩: ∃x,A[w]? =some x:=⟨_,List.getElem?_eq_getElem (by omega)⟩
    obtain⟨y,hy⟩: ∃y,B[h - 1 - w]? =some y:=⟨_,List.getElem?_eq_getElem (by omega)⟩
    have rx:=hrA _ x hx (Pr.length+w) rfl
    have ry:=hrB _ y hy ((((Pr.length+h:Nat):Int)+(Pr.length+A.length:Nat) - 1) - (Pr.length+w:Nat)) (by omega)
    have htr:=G.tri y x
    generalize hc:cf y x=c at htr
    ((conv=>whnf);repeat ((first|(intro hq;try simp only [lnS]at hq)|refine sI ?_|refine .intro _ (.intro rfl ?_));(conv=>whnf)))
    rw [hh3]
    ((conv=>whnf);repeat ((first|(intro hq;try simp only [lnS]at hq)|refine sI ?_|refine .intro _ (.intro rfl ?_));(conv=>whnf)))
    refine dwR ?_
    ((conv=>whnf);repeat ((first|(refine And.intro hMl.symm ?_)|(refine⟨_,rx, ?_⟩)|(refine⟨_,ry, ?_⟩)|(refine⟨G.call, .d (.int .i64 _),_,[],rfl,trivial,htr, ?_⟩)|(intro hq;try simp only [lnS]at hq)|refine sI ?_|refine .intro _ (.intro rfl ?_));(conv=>whnf)))
    refine aC (λh5=> ?_) (λh5=> ?_)
    ·((conv=>whnf);repeat' ((first|(intro hq;(try simp only [lnS]at hq);(try rewrite [List.length_map]))|refine sJ ?_|refine .intro _ (.intro rfl ?_)|refine exL (k:= ?_)|refine dwR ?_|((first|refine aA ?_ ?_|refine aC ?_ ?_)<;>intro hb<;>(first|exact ddX hb|try simp only [lnS]at hb))|(refine aB ?_ ?_<;>intro hb<;>try exact dsX hb))<;>(conv=>whnf)))
     refine⟨(w+1,v),⟨by dsimp only;omega,λx' y' _ hx' hy'=> ?_,hI.hi⟩,by dsimp only;omega,(by repeat' (first|exact trivial|exact rfl|exact eH (by(try dsimp only);omega)|refine And.intro ?_ ?_)),rfl⟩
     rw [Nat.add_sub_cancel,hx]at hx'
     rw [show h - (w+1)=h - 1 - w by omega,hy]at hy'
     injection hx' with hx'
     injection hy' with hy'
     subst hx';subst hy'
     rw [hc];exact h5
    ·((conv=>whnf);repeat' ((first|(intro hq;(try simp only [lnS]at hq);(try rewrite [List.length_map]))|refine sJ ?_|refine .intro _ (.intro rfl ?_)|refine exL (k:= ?_)|refine dwR ?_|((first|refine aA ?_ ?_|refine aC ?_ ?_)<;>intro hb<;>(first|exact ddX hb|try simp only [lnS]at hb))|(refine aB ?_ ?_<;>intro hb<;>try exact dsX hb))<;>(conv=>whnf)))
     refine⟨(u,w),⟨by dsimp only;omega,hI.lo,λx' y' _ hx' hy'=> ?_⟩,by dsimp only;omega,(by repeat' (first|exact trivial|exact rfl|exact eH (by(try dsimp only);omega)|refine And.intro ?_ ?_)),rfl⟩
     dsimp only at hx' hy'
     rw [hx]at hx'
     rw [hy]at hy'
     injection hx' with hx'
     injection hy' with hy'
     subst hx';subst hy'
     rw [hc];exact h5
   ·obtain rfl:u=v:=by omega
    obtain⟨t,ht⟩: ∃t,t=h - u:=⟨_,rfl⟩
    have hcross := aLk G.ord hA hB (s := u) (t := t) (by omega) (by omega) (λx y hx ht0 hy => G.ord.asym _ _ (hI.hi x y (by
      have:=(List.getElem?_eq_some_iff.1 hx).1
      omega) hx (by rw [show h - 1 - u=t - 1 by omega];exact hy))) (λx y hu hx hy=>hI.lo x y (by
      have:=(List.getElem?_eq_some_iff.1 hy).1
      omega) hx (by rw [<-ht];exact hy))
    have eA:A=A.take u++A.drop u:=(List.take_append_drop _ _).symm
    have eB:B=B.take t++B.drop t:=(List.take_append_drop _ _).symm
    have lA1:(A.take u).length=u:=by rw [List.length_take];omega
    have lA2:(A.drop u).length=A.length - u:=List.length_drop
    have lB1:(B.take t).length=t:=by rw [List.length_take];omega
    have lB2:(B.drop t).length=B.length - t:=List.length_drop
    generalize A.take u=A1 at hcross eA lA1
    generalize A.drop u=A2 at hcross eA lA2
    generalize B.take t=B1 at hcross eB lB1
    generalize B.drop t=B2 at hcross eB lB2
    have sA:Srt cf (A1++A2):=eA ▸ hA
    have sB:Srt cf (B1++B2):=eB ▸ hB
    obtain⟨sA1,sA2,_⟩:=Srt.app.1 sA
    obtain⟨sB1,sB2,_⟩:=Srt.app.1 sB
    have lA:A.length=A1.length+A2.length:=by rw [eA,List.length_append]
    have lB:B.length=B1.length+B2.length:=by rw [eB,List.length_append]
    have hfin: ∀S1 S2,S1.Perm (A1++B1)->Srt cf S1->S2.Perm (A2++B2)->Srt cf S2-> ∀M,M=Pr++(S1++(S2++Q))->K (cU []) ((70, .mrow 48 16 cap (M.map saR))::rest):= λS1 S2 p1 q1 p2 q2 M hM=>by
     have := fin (S1 ++ S2) (by
      refine(p1.append p2).trans ?_
      rw [eA,eB]
      simp only [List.append_assoc]
      refine List.Perm.append_left A1 ?_
      rw [<-List.append_assoc,<-List.append_assoc]
      exact List.Perm.append_right B2 List.perm_append_comm) (Srt.app.2 ⟨q1,q2,λx hx y hy=>hcross x (p1.mem_iff.1 hx) y (p2.mem_iff.1 hy)⟩)
     rw [hM]
     rw [List.append_assoc]at this
     exact this
    have eL:L=Pr++(A1++(A2++(B1++(B2++Q)))):=by rw [hL,eA,eB];simp
    have lN:(Pr++(A1++(B1++(A2++(B2++Q))))).length=N:=by rw [hlen];simp only [List.length_append];omega
    have noA:A1.length=0->Srt cf (A1++B1):= λq=>by rw [List.eq_nil_of_length_eq_zero q];exact sB1
    have noB:B1.length=0->Srt cf (A1++B1):= λq=>by rw [List.eq_nil_of_length_eq_zero q,List.append_nil];exact sA1
    have noA2:A2.length=0->Srt cf (A2++B2):= λq=>by rw [List.eq_nil_of_length_eq_zero q];exact sB2
    have noB2:B2.length=0->Srt cf (A2++B2):= λq=>by rw [List.eq_nil_of_length_eq_zero q,List.append_nil];exact sA2
    have ih1:= λ{pin:Pin} {fr:Fr} {K:SV->Hp->Prop} (q1:0 < A1.length) (q2:0 < B1.length)=>ih Pr A1 B1 (A2++(B2++Q)) (by omega) q1 q2 sA1 sB1 (L:=Pr++(A1++(B1++(A2++(B2++Q))))) rfl (by omega) (n:=N) (a:=(Pr.length:Nat)) (m:=(Pr.length+u:Nat)) (b:=(Pr.length+h:Nat)) lN.symm rfl (by omega) (by omega) cap rest (pin:=pin) (fr:=fr) (K:=K)
    have ih2:= λ{pin:Pin} {fr:Fr} {K:SV->Hp->Prop} (S1:List SAx) (p1:S1.Perm (A1++B1)) (q1:0 < A2.length) (q2:0 < B2.length)=>ih (Pr++S1) A2 B2 Q (by omega) q1 q2 sA2 sB2 (L:=Pr++(S1++(A2++(B2++Q)))) (by simp) (by have:=p1.length_eq;simp only [List.length_append]at this lN |-;omega) (n:=N) (a:=(Pr.length+h:Nat)) (m:=((Pr.length+h:Nat):Int)+(Pr.length+A.length:Nat) - (Pr.length+u:Nat)) (b:=(Pr.length+A.length+B.length:Nat)) (by have:=p1.length_eq;simp only [List.length_append]at this lN |-;omega) (by have:=p1.length_eq;simp only [List.length_append]at this |-;omega) (by have:=p1.length_eq;simp only [List.length_append]at this |-;omega) (by have:=p1.length_eq;simp only [List.length_append]at this |-;omega) cap rest (pin:=pin) (fr:=fr) (K:=K)
    have hrot:= λ{pin:Pin} {fr:Fr} {K:SV->Hp->Prop} (q1:0 < A2.length) (q2:0 < B1.length)=>aEv (g:=g) (Pr++A1) A2 B1 (B2++Q) (List.length_pos_iff.1 q1) (List.length_pos_iff.1 q2) (L:=L) (by rw [eL];simp) (by omega) (n:=N) (a:=(Pr.length+u:Nat)) (m:=(Pr.length+A.length:Nat)) (b:=((Pr.length+h:Nat):Int)+(Pr.length+A.length:Nat) - (Pr.length+u:Nat)) hN.symm (by rw [List.length_append];omega) (by rw [List.length_append];omega) (by rw [List.length_append];omega) cap rest (pin:=pin) (fr:=fr) (K:=K)
    have eRot:(Pr++A1)++(B1++(A2++(B2++Q)))=Pr++(A1++(B1++(A2++(B2++Q)))):=by simp
    rw [eRot]at hrot
    have eNo:¬ (0 < A2.length/\0 < B1.length)->L=Pr++(A1++(B1++(A2++(B2++Q)))):= λq=>by
     rw [eL]
     by_cases q0:A2.length=0
     ·rw [List.eq_nil_of_length_eq_zero q0];simp
     ·rw [List.eq_nil_of_length_eq_zero (show B1.length=0 by omega)];simp
    have ih2n:= λ{pin:Pin} {fr:Fr} {K:SV->Hp->Prop}=>ih2 (pin:=pin) (fr:=fr) (K:=K) (A1++B1) (.refl _)
    rw [show Pr++((A1++B1)++(A2++(B2++Q)))=Pr++(A1++(B1++(A2++(B2++Q))))by simp]at ih2n
    clear eRot hrA hrB hcross fin hI hA hB sA sB ih
    by_cases c1:0 < A2.length/\0 < B1.length
    all_goals by_cases c2:0 < A1.length/\0 < B1.length
    all_goals by_cases c3:0 < A2.length/\0 < B2.length
    all_goals (try rw [eNo c1])
    all_goals ((conv=>whnf);repeat' ((first|(intro hq;(try simp only [lnS]at hq);(try rewrite [List.length_map]))|refine sJ ?_|refine .intro _ (.intro rfl ?_)|refine exL (k:= ?_)|(refine hrot c1.1 c1.2 ?_)|(refine ih1 c2.1 c2.2 (λS1 p1 s1=> ?_))|(refine ih2 _ p1 c3.1 c3.2 (λS2 p2 s2=> ?_))|(refine ih2n c3.1 c3.2 (λS2 p2 s2=> ?_))|refine dwR ?_|((first|refine aA ?_ ?_|refine aC ?_ ?_)<;>intro hb<;>(first|exact ddX hb|try simp only [lnS]at hb))|(refine aB ?_ ?_<;>intro hb<;>try exact dsX hb))<;>(conv=>whnf)))
    all_goals first
     |exact hfin S1 S2 p1 s1 p2 s2 _ (by simp)
     |exact hfin S1 (A2++B2) p1 s1 (.refl _) (by first|exact noA2 (by omega)|exact noB2 (by omega)) _ (by simp)
     |exact hfin (A1++B1) S2 (.refl _) (by first|exact noA (by omega)|exact noB (by omega)) p2 s2 _ (by simp)
     |exact hfin (A1++B1) (A2++B2) (.refl _) (by first|exact noA (by omega)|exact noB (by omega)) (.refl _) (by first|exact noA2 (by omega)|exact noB2 (by omega)) _ (by simp))
end Go.Proofs.YtbobcfjlbcgchaaGreatDoor
namespace Go.Proofs.YtbobcfjlbcgchaaGreatDoor
open Go.Proofs
set_option maxRecDepth 10000
attribute [local irreducible] aJ aF Tri aG YVC bS aQ
theorem aEn {g:FuncId}{cf:SAx->SAx->Int}(G:CmpG g cf) (l:List SAx) (hl:l.length<=100000) {n:Nat}{k:Int}(hn:n=l.length) (hk:k=(l.length:Nat)) (cap:Nat) (rest:Hp) {pin:Pin}{fr:Fr}{K:SV->Hp->Prop}
  (fin: ∀S,S.Perm l->Srt cf S->K (cU []) ((70, .mrow 48 16 cap (S.map saR))::rest)):
  aF Tryz.prog pin fr ((70, .mrow 48 16 cap (l.map saR))::rest) 68 [.mw 70 16 n, .d (.int .i64 k), .fn g [] []] K:=by
 subst hn;subst hk
 generalize hN:l.length=N at *
 refine dR hty Tryz.func68 rfl (kp [0,1,2,6,7,8,9,13,30,35,54]) 500 (by simp [Tryz.f68]) ?_
 ((conv=>whnf);repeat ((first|(intro hq;try simp only [lnS]at hq)|refine sI ?_|refine .intro _ (.intro rfl ?_));(conv=>whnf)))
 refine cX hty (λy:List SAx×List SAx=>([(0, .mw 70 16 N),(1, .d (.int .i64 (N:Nat))),(2, .fn g [] []),(6, .d (.int .i64 20)),(7, .d (.int .i64 (y.1.length:Nat))),(8, .d (.int .i64 (y.1.length+20:Nat)))],(70, .mrow 48 16 cap ((y.1++y.2).map saR))::rest)) (λy=>(y.1++y.2).Perm l/\(∃k,y.1.length=k * 20)/\Blk cf 20 y.1) (λy=>y.2.length) ([],l) ⟨.refl _,⟨0,rfl⟩, .nil⟩ (by repeat' (first|exact trivial|exact rfl|exact eH (by(try dsimp only);omega)|refine And.intro ?_ ?_)) rfl ?_
 rintro⟨U,V⟩ ⟨hp,⟨k,hk⟩,hU⟩
 dsimp only at hp hk hU |-
 have hUV:U.length+V.length=N:=by have:=hp.length_eq;rw [List.length_append]at this;omega
 ((conv=>whnf);repeat ((first|(intro hq;try simp only [lnS]at hq)|refine sI ?_|refine .intro _ (.intro rfl ?_));(conv=>whnf)))
 refine aA (λh1=> ?_) (λh1=> ?_)
 ·have hV:20<=V.length:=by omega
  have eV:V=V.take 20++V.drop 20:=(List.take_append_drop _ _).symm
  have l1:(V.take 20).length=20:=by rw [List.length_take];omega
  generalize V.take 20=A at eV l1
  generalize V.drop 20=Q at eV
  subst eV
  rw [List.length_append]at hUV hV
  ((conv=>whnf);repeat ((first|(intro hq;try simp only [lnS]at hq)|refine sI ?_|refine .intro _ (.intro rfl ?_));(conv=>whnf)))
  refine tM G U A Q rfl (by simp only [List.length_append];omega) (by simp only [List.length_append];omega) (by first|rfl|omega) (by omega) cap rest (λS hS hs=> ?_)
  have lS:=hS.length_eq
  ((conv=>whnf);repeat ((first|(intro hq;try simp only [lnS]at hq)|refine sI ?_|refine .intro _ (.intro rfl ?_));(conv=>whnf)))
  refine⟨(U++S,Q),⟨?_,⟨k+1, ?_⟩,hU.app hk hs (by omega)⟩,by dsimp only;rw [List.length_append];omega,(by repeat' (first|exact trivial|exact rfl|exact eH (by(try dsimp only);(try rw [List.length_append]);omega)|refine And.intro ?_ ?_)), ?_⟩
  ·dsimp only
   rw [List.append_assoc]
   exact(List.Perm.append_left U (List.Perm.append_right Q hS)).trans hp
  ·dsimp only
   rw [List.length_append,hk,Nat.add_mul];omega
  ·dsimp only
   rw [List.append_assoc]
 have hV:V.length < 20:=by omega
 ((conv=>whnf);repeat ((first|(intro hq;try simp only [lnS]at hq)|refine sI ?_|refine .intro _ (.intro rfl ?_));(conv=>whnf)))
 refine tM G U V [] (by simp) (by simp only [List.length_append];omega) (by simp only [List.length_append];omega) (by first|rfl|omega) (by omega) cap rest (λS hS hs=> ?_)
 have lS:=hS.length_eq
 have hb0:Blk cf 20 (U++S):=hU.app hk hs (by omega)
 have hp0:(U++S).Perm l:=(List.Perm.append_left U hS).trans hp
 rw [List.append_nil]
 generalize U++S=l1 at hb0 hp0
 clear hU hk hp hS hs lS hV hUV h1
 ((conv=>whnf);repeat ((first|(intro hq;try simp only [lnS]at hq)|refine sI ?_|refine .intro _ (.intro rfl ?_));(conv=>whnf)))
 refine cX hty (λy:Nat×List SAx=>([(0, .mw 70 16 N),(1, .d (.int .i64 (N:Nat))),(2, .fn g [] []),(6, .d (.int .i64 (y.1:Nat)))],(70, .mrow 48 16 cap (y.2.map saR))::rest)) (λy=>(20<=y.1/\y.1<=200000)/\y.2.Perm l/\Blk cf y.1 y.2) (λy=>N - y.1) (20,l1) ⟨by dsimp only;omega,hp0,hb0⟩ (by repeat' (first|exact trivial|exact rfl|exact eH (by(try dsimp only);omega)|refine And.intro ?_ ?_)) rfl ?_
 rintro⟨bs,l2⟩ ⟨⟨hb1,hb2⟩,hp,hB⟩
 dsimp only at hb1 hb2 hp hB |-
 have hl2:l2.length=N:=by have:=hp.length_eq;omega
 ((conv=>whnf);repeat ((first|(intro hq;try simp only [lnS]at hq)|refine sI ?_|refine .intro _ (.intro rfl ?_));(conv=>whnf)))
 refine aA (λh1=> ?_) (λh1=> ?_)
 ·((conv=>whnf);repeat ((first|(intro hq;try simp only [lnS]at hq)|refine sI ?_|refine .intro _ (.intro rfl ?_));(conv=>whnf)))
  refine cX hty (λy:List SAx×List SAx=>([(0, .mw 70 16 N),(1, .d (.int .i64 (N:Nat))),(2, .fn g [] []),(6, .d (.int .i64 (bs:Nat))),(7, .d (.int .i64 (y.1.length:Nat))),(8, .d (.int .i64 (y.1.length+2 * bs:Nat)))],(70, .mrow 48 16 cap ((y.1++y.2).map saR))::rest)) (λy=>(y.1++y.2).Perm l/\(∃k,y.1.length=k * (2 * bs))/\Blk cf (2 * bs) y.1/\Blk cf bs y.2) (λy=>y.2.length) ([],l2) ⟨hp,⟨0,by simp⟩, .nil,hB⟩ (by repeat' (first|exact trivial|exact rfl|exact eH (by(try dsimp only);(try rw [List.length_nil]);omega)|refine And.intro ?_ ?_)) rfl ?_
  rintro⟨U,V⟩ ⟨hq,⟨k,hk⟩,hU,hV⟩
  dsimp only at hq hk hU hV |-
  have hUV:U.length+V.length=N:=by have:=hq.length_eq;rw [List.length_append]at this;omega
  ((conv=>whnf);repeat ((first|(intro hq;try simp only [lnS]at hq)|refine sI ?_|refine .intro _ (.intro rfl ?_));(conv=>whnf)))
  refine aA (λh2=> ?_) (λh2=> ?_)
  ·have hVl:2 * bs<=V.length:=by omega
   have sA:=hV.first
   have sB:=hV.rest.first
   have sQ:=hV.rest.rest
   have eV:V=V.take bs++((V.drop bs).take bs++(V.drop bs).drop bs):=by rw [List.take_append_drop,List.take_append_drop]
   have l1:(V.take bs).length=bs:=by rw [List.length_take];omega
   have l2:((V.drop bs).take bs).length=bs:=by rw [List.length_take,List.length_drop];omega
   generalize V.take bs=A at eV l1 sA
   generalize (V.drop bs).take bs=B at eV l2 sB
   generalize (V.drop bs).drop bs=Q at eV sQ
   subst eV
   simp only [List.length_append]at hUV hVl
   ((conv=>whnf);repeat ((first|(intro hq;try simp only [lnS]at hq)|refine sI ?_|refine .intro _ (.intro rfl ?_));(conv=>whnf)))
   refine qD G (2 * bs) U A B Q (by omega) (by omega) (by omega) sA sB rfl (by simp only [List.length_append];omega) (by simp only [List.length_append];omega) (by first|rfl|omega) (by omega) (by omega) cap rest (λS hS hs=> ?_)
   have lS:=hS.length_eq
   rw [List.length_append]at lS
   ((conv=>whnf);repeat ((first|(intro hq;try simp only [lnS]at hq)|refine sI ?_|refine .intro _ (.intro rfl ?_));(conv=>whnf)))
   refine⟨(U++S,Q),⟨?_,⟨k+1, ?_⟩,hU.app hk hs (by omega),sQ⟩,by dsimp only;simp only [List.length_append];omega,(by repeat' (first|exact trivial|exact rfl|exact eH (by(try dsimp only);(try rw [List.length_append]);omega)|refine And.intro ?_ ?_)), ?_⟩
   ·dsimp only
    rw [List.append_assoc]
    refine(List.Perm.append_left U (List.Perm.append_right Q hS)).trans ?_
    rw [List.append_assoc]
    exact hq
   ·dsimp only
    rw [List.length_append,hk,Nat.add_mul];omega
   ·dsimp only
    rw [List.append_assoc]
  ·have hVl:V.length < 2 * bs:=by omega
   ((conv=>whnf);repeat ((first|(intro hq;try simp only [lnS]at hq)|refine sI ?_|refine .intro _ (.intro rfl ?_));(conv=>whnf)))
   refine aA (λh3=> ?_) (λh3=> ?_)
   ·have hVb:bs < V.length:=by omega
    have sA:=hV.first
    have sB:=hV.rest.all (by rw [List.length_drop];omega)
    have eV:V=V.take bs++V.drop bs:=(List.take_append_drop _ _).symm
    have l1:(V.take bs).length=bs:=by rw [List.length_take];omega
    have l2:(V.drop bs).length=V.length - bs:=List.length_drop
    generalize V.take bs=A at eV l1 sA
    generalize V.drop bs=B at eV l2 sB
    subst eV
    simp only [List.length_append]at hUV hVl hVb l2
    ((conv=>whnf);repeat ((first|(intro hq;try simp only [lnS]at hq)|refine sI ?_|refine .intro _ (.intro rfl ?_));(conv=>whnf)))
    refine qD G (2 * bs) U A B [] (by omega) (by omega) (by omega) sA sB (by simp) (by simp only [List.length_append];omega) (by simp only [List.length_append];omega) (by first|rfl|omega) (by omega) (by omega) cap rest (λS hS hs=> ?_)
    have lS:=hS.length_eq
    rw [List.length_append]at lS
    ((conv=>whnf);repeat ((first|(intro hq;try simp only [lnS]at hq)|refine sI ?_|refine .intro _ (.intro rfl ?_));(conv=>whnf)))
    refine⟨(2 * bs,U++S),⟨by dsimp only;omega,(List.Perm.append_left U hS).trans hq,hU.app hk hs (by omega)⟩,by dsimp only;omega,(by repeat' (first|exact trivial|exact rfl|exact eH (by(try dsimp only);omega)|refine And.intro ?_ ?_)), ?_⟩
    dsimp only
    rw [List.append_nil]
   ·have hVb:V.length<=bs:=by omega
    ((conv=>whnf);repeat ((first|(intro hq;try simp only [lnS]at hq)|refine sI ?_|refine .intro _ (.intro rfl ?_));(conv=>whnf)))
    refine⟨(2 * bs,U++V),⟨by dsimp only;omega,hq,hU.app hk (hV.all hVb) (by omega)⟩,by dsimp only;omega,(by repeat' (first|exact trivial|exact rfl|exact eH (by(try dsimp only);omega)|refine And.intro ?_ ?_)),rfl⟩
 ·((conv=>whnf);repeat ((first|(intro hq;try simp only [lnS]at hq)|refine sI ?_|refine .intro _ (.intro rfl ?_));(conv=>whnf)))
  exact fin l2 hp (hB.all (by omega))
theorem vM {g:FuncId}{cf:SAx->SAx->Int}(G:CmpG g cf) (l:List SAx) (hl:l.length<=100000) {n:Nat}(hn:n=l.length) (cap:Nat) (rest:Hp) {pin:Pin}{fr:Fr}{K:SV->Hp->Prop}
  (fin: ∀S,S.Perm l->Srt cf S->K (cU []) ((70, .mrow 48 16 cap (S.map saR))::rest)):
  aF Tryz.prog pin fr ((70, .mrow 48 16 cap (l.map saR))::rest) 33 [.mw 70 16 n, .fn g [] []] K:=by
 subst hn
 refine dR hty Tryz.func33 rfl (kp [0,1]) 500 (by simp [Tryz.f33]) ?_
 ((conv=>whnf);repeat ((first|(intro hq;try simp only [lnS]at hq)|refine sI ?_|refine .intro _ (.intro rfl ?_));(conv=>whnf)))
 refine aEn G l hl rfl rfl cap rest (λS hS hs=> ?_)
 ((conv=>whnf);repeat ((first|(intro hq;try simp only [lnS]at hq)|refine sI ?_|refine .intro _ (.intro rfl ?_));(conv=>whnf)))
 exact fin S hS hs
end Go.Proofs.YtbobcfjlbcgchaaGreatDoor
