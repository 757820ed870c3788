/-
  Base: New. Base: combine, Minus, Common. Base: Keep. Base: the chapter's examples. BaseOrder, walked. ObjectsIdentify, walked.
  Conditions: none.
-/
import Derived.Test.YtbobcfjlbcgchaaGreatDoorVDd
import Derived.Test.YtbobcfjlbcgchaaGreatDoorVQsc
import Derived.Test.YtbobcfjlbcgchaaGreatDoorVJp
set_option linter.unnecessarySimpa false
set_option linter.unusedSectionVars false
set_option linter.unusedSimpArgs false
set_option linter.unusedVariables false
set_option maxHeartbeats 32000000
namespace Go.Proofs.YtbobcfjlbcgchaaGreatDoor
open Go.Proofs
set_option maxRecDepth 10000
theorem aF.frozB {P:Program}{pin:Pin}{fr:Fr}{hp hp1:Hp}{f:FuncId}{K:SV->Hp->Prop}{id i t e z cap n:Nat}{rows:List (List D)}(ho:aN hp id=some (.mrow e z cap rows)) (hn:n=rows.length) (hsub:jK hp1 hp) (hno:aN hp1 id=none)
  (hc:aN hp1 i=some (.cells t [.mw id z n])) (h:aF P pin fr (dU hp1 i (.cells t [.d (.sl z rows)])) f [.d (.agg [.sl z rows])] K):aF P pin fr hp f [.agg [.mw id z n]] K:=by
 intro E ρ w tm hpin h3 h4 vs hargs
 obtain⟨S',s1,s2,s3⟩:=h3.froze ho hsub hno
 obtain⟨q1,_⟩:=h3.sat id _ ho
 have m := s2.recell hc (cs' := [.d (.sl z rows)]) rfl (λj s' v hs' hv => by
  cases j with
  |zero=>
   simp at hs'
   subst hs'
   obtain⟨A,c,_,_,_,_,_,e2⟩:=(hv _ rfl).mw_inv
   have:=e2 (hn.trans q1.symm)
   subst this
   exact .d _ _ s3
  |succ j=>simp at hs')
 refine h E _ w tm hpin m (h4.mono (λ_ _ _=>rfl) s1 λi _=>ρ.moved_withS S' i) vs ⟨hargs.1,λk s v hs hv=> ?_⟩
 cases k with
 |succ k=>simp at hs
 |zero=>
  simp at hs
  subst hs
  cases hargs.2 0 _ v rfl hv with
  |agg cs us hl h=>
   refine .d _ _ (.agg _ _ hl λj x u hx hu=> ?_)
   cases j with
   |succ j=>simp at hx
   |zero=>
    simp at hx
    subst hx
    obtain⟨A,c,_,_,_,_,_,e2⟩:=(h 0 _ u rfl hu).mw_inv
    have:=e2 (hn.trans q1.symm)
    subst this
    exact s3
attribute [local irreducible] aJ aF Tri aG YVC bS aQ
structure PairB (l:List Ax) (e:Int) (s:SV):Prop where
 ex: ∃a,s= .tup [.d a, .d (.int .i64 e)]/\(a=aR2 l\/WkD a (aR2 l))
theorem Tri.pairB {P:Program}{f:FuncId}{qs:List SV}{hp:Hp}{l:List Ax}{e:Int}(h:Tri P f qs hp (PairB l e)):Tri P f qs hp (λr=>r= .tup [.d (aR2 l), .d (.int .i64 e)]):=by
 refine Tri.resT h ?_
 rintro s ⟨a,rfl,rfl|hw⟩
 ·exact .inl rfl
 ·exact .inr ⟨_,[.d (aR2 l), .d (.int .i64 e)],rfl,⟨hw,by exact rfl,trivial⟩,rfl⟩
theorem aYa (e:Int):PairB [] e (.tup [.d (.agg [.nil]), .d (.int .i64 e)]):=⟨_,rfl, .inr ⟨rfl,trivial⟩⟩
theorem aWy (l:List Ax) (e:Int):PairB l e (.tup [.d (aR2 l), .d (.int .i64 e)]):=⟨_,rfl, .inl rfl⟩
theorem mwW {i z a b:Nat}(h:a=b):Wk (.mw i z a) (.mw i z b):=by subst h;exact rfl
theorem aGs: ∀(l:List Ax) (h: ∀x∈l,SmA x),((l.pmap Subtype.mk h:List SAx)).map Subtype.val=l
 | [],_=>rfl
 |x::r,h=>by rw [List.pmap_cons,List.map_cons,aGs r]
theorem aCy (a:Ax):mL [] a=[a]:=rfl
theorem aH6 {b:List Ax}{z a:Ax}(h:cS z a=0):mL (b++[z]) a=b++[{ z with isopen:=z.isopen || a.isopen }]:=by
 unfold mL
 simp only [List.getLast?_append,List.getLast?_singleton,Option.some_or,List.dropLast_concat]
 rw [if_pos h]
theorem aH5 {b:List Ax}{z a:Ax}(h:¬ cS z a=0):mL (b++[z]) a=b++[z]++[a]:=by
 unfold mL
 simp only [List.getLast?_append,List.getLast?_singleton,Option.some_or,List.dropLast_concat]
 rw [if_neg h]
theorem aN0 {l:List Ax}: ∀x∈jS l,∃y∈l,erA x=erA y:=by
 have key: ∀(l b:List Ax),∀x∈l.foldl mL b,(∃y∈b,erA x=erA y)\/ ∃y∈l,erA x=erA y:=by
  intro l
  induction l with
  |nil=>intro b x hx;exact .inl ⟨x,hx,rfl⟩
  |cons a r ih=>
   intro b x hx
   rw [List.foldl_cons]at hx
   rcases ih _ x hx with⟨y,hy,e⟩|⟨y,hy,e⟩
   ·rcases List.eq_nil_or_concat b with hb|⟨b0,z,hb⟩
    ·subst hb
     rw [aCy]at hy
     simp at hy;subst hy
     exact .inr ⟨y,by simp,e⟩
    ·rw [List.concat_eq_append]at hb
     subst hb
     by_cases h:cS z a=0
     ·rw [aH6 h]at hy
      rcases List.mem_append.1 hy with hy|hy
      ·exact .inl ⟨y,List.mem_append_left _ hy,e⟩
      ·simp at hy;subst hy
       exact .inl ⟨z,by simp,e⟩
     ·rw [aH5 h]at hy
      rcases List.mem_append.1 hy with hy|hy
      ·exact .inl ⟨y,hy,e⟩
      ·simp at hy;subst hy
       exact .inr ⟨y,by simp,e⟩
   ·exact .inr ⟨y,List.mem_cons_of_mem _ hy,e⟩
 intro x hx
 rcases key l [] x hx with⟨y,hy,_⟩|h
 ·cases hy
 ·exact h
theorem aUu {x y:Ax}(h:erA x=erA y) (hy:SmA y):SmA x:=by
 have e1:(erA x).left=(erA y).left:=by rw [h]
 have e2:(erA x).right=(erA y).right:=by rw [h]
 have e3:(erA x).roles=(erA y).roles:=by rw [h]
 have e1:x.left=y.left:=e1
 have e2:x.right=y.right:=e2
 have e3:x.roles=y.roles:=e3
 unfold SmA
 rw [e1,e2,e3]
 exact hy
theorem aLi {l:List Ax}{j:Nat}(h:j < l.length):(rZ (l.take (j+1))).map axR=(rZ (l.take j)).map axR++[axR (cJ l[j]).1]:=by
 unfold rZ
 rw [List.take_succ_eq_append_getElem h,List.map_append,List.map_append];rfl
theorem aH1 (l:List Ax) (hn:l.length<=100000):Tri Tryz.prog 14 [.d (.sl 16 (l.map axR))] NG (λr=>r= .tup [.d (aR2 (uM l).1), .d (.int .i64 (uM l).2)]):=by
 refine Tri.pairB ?_
 refine aH false [6,7,10] hty Tryz.func14 rfl (kp [0,2,3,4,6,7,8,10,11,12,13,14,15,16,25,35,36,37,38,56,84]) [] _ _ _ (by simp [Tryz.f14]) (by decide) ?_
 ((conv=>whnf);repeat ((first|(intro hq;try simp only [lnS]at hq)|refine sI ?_|refine .intro _ (.intro rfl ?_));(conv=>whnf)))
 rw [List.length_map]
 refine aJ.mown 4 70 48 16 rfl (bY (by with_unfolding_all exact rfl)) ?_
 refine aK hty (λy:Nat×Nat=>([(2, .ptr 2 0),(3, .d (.int .i64 0)),(4, .mw 70 16 y.1),(13, .d (.sl 16 (l.map axR))),(14, .d (.int .i64 l.length)),(15, .d (.int .i64 y.1))],(70, .mrow 48 16 y.2 ((rZ (l.take y.1)).map axR))::(2, .cells 36 [.d .nil])::NG)) (λy=>y.1<=l.length/\ ∀x∈l.take y.1,(cJ x).2=0) (λy=>l.length - y.1) (0,0) ⟨by dsimp only;omega,by simp⟩ ⟨by repeat' (first|exact trivial|exact rfl|refine And.intro ?_ ?_),⟨rfl,rfl,rfl,rfl,trivial⟩⟩ ?_
 rintro⟨j,cap⟩ ⟨hj,hz⟩
 dsimp only at hj hz
 ((conv=>whnf);repeat ((first|(intro hq;try simp only [lnS]at hq)|refine sI ?_|refine .intro _ (.intro rfl ?_));(conv=>whnf)))
 refine aA (λh1=> ?_) (λh1=> ?_)
 ·have hjl:j < l.length:=by dsimp only at h1;omega
  have hrow:=jD hjl
  have ht:=oG l[j]
  have herr:=aG4 hjl hz
  have htm:=aLi hjl
  have hz2:(cJ l[j]).2=0-> ∀x∈l.take (j+1),(cJ x).2=0:= λh2 y hy=>by
   rw [List.take_succ_eq_append_getElem hjl]at hy
   rcases List.mem_append.1 hy with hy|hy
   ·exact hz y hy
   ·simp at hy;subst hy;exact h2
  have hlt:((rZ (l.take j)).map axR).length=j:=by unfold rZ;rw [List.length_map,List.length_map,List.length_take];omega
  have hb63:((rZ (l.take j)).map axR).length+1<=9223372036854775807:=by rw [hlt];omega
  have hb48:(((rZ (l.take j)).map axR).length+1)* 216<=140737488355328:=by rw [hlt];omega
  generalize (cJ l[j]).1=T at *
  generalize (cJ l[j]).2=e at *
  generalize l[j]=x at *
  generalize (rZ (l.take j)).map axR=rows at *
  ((conv=>whnf);repeat ((first|(refine⟨_,hrow, ?_⟩)|(refine aD NG ht ⟨rfl,rfl,trivial⟩ (λr hs=> ?_);subst hs)|(intro hq;try simp only [lnS]at hq)|refine sI ?_|refine .intro _ (.intro rfl ?_));(conv=>whnf)))
  refine aC (λh2=> ?_) (λh2=> ?_)
  ·have hv:uM l=([],e):=by unfold uM;rw [if_pos (by rw [herr h2];exact h2),herr h2]
   rw [hv]
   ((conv=>whnf);repeat' ((first|(intro hq;(try simp only [lnS]at hq);(try rewrite [List.length_map]))|refine sJ ?_|refine .intro _ (.intro rfl ?_)|refine exL (k:= ?_)|refine dwR ?_|((first|refine aA ?_ ?_|refine aC ?_ ?_)<;>intro hb<;>(first|exact ddX hb|try simp only [lnS]at hb))|(refine aB ?_ ?_<;>intro hb<;>try exact dsX hb))<;>(conv=>whnf)))
   exact aYa _
  ·((conv=>whnf);repeat ((first|(refine And.intro hlt.symm ?_)|(refine And.intro hb63 ?_)|(refine And.intro hb48 ?_)|(intro hq;try simp only [lnS]at hq)|refine sI ?_|refine .intro _ (.intro rfl ?_));(conv=>whnf)))
   rename_i cap'
   refine⟨(j+1,cap'),⟨by dsimp only;omega,hz2 (by simpa using h2)⟩,by dsimp only;omega, ?_⟩
   dsimp only
   rw [htm]
   exact⟨by repeat' (first|exact trivial|exact rfl|exact mwW (by rw [hlt];rfl)|refine And.intro ?_ ?_),⟨rfl,rfl,rfl,rfl,trivial⟩⟩
 have hjl:j=l.length:=by dsimp only at h1;omega
 subst hjl
 rw [List.take_length]at hz |-
 have hv:uM l=if dT (aKo (rZ l))≠0 then ([],dT (aKo (rZ l)))else (aKo (rZ l),0):=by
  unfold uM;rw [if_neg (by rw [(qA l).2 hz];simp)]
 rw [hv]
 clear hv h1 hj
 have hTl:(rZ l).length=l.length:=by unfold rZ;rw [List.length_map]
 have hsm: ∀x∈rZ l,SmA x:= λx hx=>by
  obtain⟨y,hy,rfl⟩:=List.mem_map.1 hx
  exact aGc (hz y hy)
 rw [<-aGk (rZ l) hsm]
 have hpv:=aGs (rZ l) hsm
 have hQl:((rZ l).pmap Subtype.mk hsm:List SAx).length=l.length:=by rw [List.length_pmap,hTl]
 generalize ((rZ l).pmap Subtype.mk hsm:List SAx)=Q at *
 ((conv=>whnf);repeat ((first|(intro hq;try simp only [lnS]at hq)|refine sI ?_|refine .intro _ (.intro rfl ?_));(conv=>whnf)))
 refine vM ⟨rfl,aTq.ord,λx y=>fQ x.1 y.1 x.2.1 x.2.2.1 x.2.2.2 y.2.1 y.2.2.1 y.2.2.2⟩ Q (by omega) hQl.symm cap _ (λS hS hs=> ?_)
 have hperm:(S.map Subtype.val).Perm (rZ l):=by rw [<-hpv];exact hS.map _
 have hsrt:(S.map Subtype.val).Pairwise λx y=>¬ cS y x < 0:=by rw [List.pairwise_map];exact hs
 have hnb:=aQ8 hperm hsrt
 have hSl:(S.map Subtype.val).length=l.length:=by rw [hperm.length_eq,hTl]
 have hsm2: ∀x∈S.map Subtype.val,SmA x:= λx hx=>hsm x (hperm.mem_iff.1 hx)
 rw [aSm]
 generalize S.map Subtype.val=A at *
 clear hS hs hpv hperm hsrt
 rw [<-hnb]
 ((conv=>whnf);repeat ((first|(intro hq;try simp only [lnS]at hq)|refine sI ?_|refine .intro _ (.intro rfl ?_));(conv=>whnf)))
 refine aJ.mownC 2 71 36 48 16 0 rfl rfl (bY (by with_unfolding_all exact rfl)) ?_
 refine aK hty (λy:Nat×Nat=>([(2, .ptr 2 0),(3, .d (.int .i64 0)),(35, .mw 70 16 l.length),(36, .d (.int .i64 l.length)),(37, .d (.int .i64 y.1))],(71, .mrow 48 16 y.2 ((jS (A.take y.1)).map axR))::(70, .mrow 48 16 cap (A.map axR))::(2, .cells 36 [.mw 71 16 (jS (A.take y.1)).length])::NG)) (λy=>y.1<=A.length) (λy=>A.length - y.1) (0,0) (by dsimp only;omega) ⟨by repeat' (first|exact trivial|exact rfl|refine And.intro ?_ ?_),⟨rfl,rfl,rfl,rfl,rfl,trivial⟩⟩ ?_
 rintro⟨k,cap2⟩ hk
 dsimp only at hk
 ((conv=>whnf);repeat ((first|(intro hq;try simp only [lnS]at hq)|refine sI ?_|refine .intro _ (.intro rfl ?_));(conv=>whnf)))
 refine aA (λh1=> ?_) (λh1=> ?_)
 ·have hkl:k < A.length:=by dsimp only at h1;omega
  have hrow:=jD hkl
  have hmt:=aJf hkl
  have hml:=aN1 (A.take k)
  rw [List.length_take]at hml
  have hsx:=hsm2 _ (List.getElem_mem hkl)
  have hsb: ∀z∈jS (A.take k),SmA z:= λz hz=>by
   obtain⟨y,hy,e⟩:=aN0 z hz
   exact aUu e (hsm2 y (List.mem_of_mem_take hy))
  generalize jS (A.take k)=B at *
  have hAl:l.length=(A.map axR).length:=by rw [List.length_map,hSl]
  generalize A[k]=x at *
  ((conv=>whnf);repeat ((first|(refine⟨_,hrow, ?_⟩)|(refine And.intro hAl ?_)|(intro hq;try simp only [lnS]at hq)|refine sI ?_|refine .intro _ (.intro rfl ?_));(conv=>whnf)))
  have hBl:(B.map axR).length=B.length:=List.length_map ..
  have hb63:(B.map axR).length+1<=9223372036854775807:=by rw [hBl];omega
  have hb48:((B.map axR).length+1)* 216<=140737488355328:=by rw [hBl];omega
  have happ:(B++[x]).map axR=B.map axR++[axR x]:=by rw [List.map_append];rfl
  rcases List.eq_nil_or_concat B with hB|⟨B0,z,hB⟩
  ·subst hB
   rw [aCy]at hmt
   refine dwR ?_
   ((conv=>whnf);repeat ((first|(refine And.intro hb63 ?_)|(refine And.intro hb48 ?_)|(intro hq;try simp only [lnS]at hq)|refine sI ?_|refine .intro _ (.intro rfl ?_));(conv=>whnf)))
   rename_i cap'
   refine⟨(k+1,cap'),by dsimp only;omega,by dsimp only;omega, ?_⟩
   dsimp only
   rw [hmt]
   exact⟨by repeat' (first|exact trivial|exact rfl|refine And.intro ?_ ?_),⟨rfl,rfl,rfl,rfl,rfl,trivial⟩⟩
  ·rw [List.concat_eq_append]at hB
   have hz:z∈B:=by rw [hB];simp
   have c:=aD3 z x (hsb z hz) hsx
   have hBn:B.length=B0.length+1:=by rw [hB,List.length_append];rfl
   have hrz:(B.map axR)[((B.length:Int) - 1).toNat]? =some (axR z):=by
    rw [hB,show (((B0++[z]).length:Int) - 1).toNat=B0.length by rw [<-hB];omega,List.getElem?_map,List.getElem?_append_right (Nat.le_refl _),Nat.sub_self];rfl
   have hne:cS z x≠0->mL B x=B++[x]:= λh=>by rw [hB,aH5 h]
   have heq:cS z x=0->(mL B x).map axR=(B.map axR).set ((B.length:Int) - 1).toNat (axR { z with isopen:=z.isopen || x.isopen })/\(mL B x).length=B.length:= λh=>by
    rw [hB,aH6 h,show (((B0++[z]).length:Int) - 1).toNat=B0.length by rw [<-hB];omega]
    refine⟨?_,by simp⟩
    rw [<-List.map_set]
    congr 1
    rw [List.set_append_right _ _ (Nat.le_refl _),Nat.sub_self];rfl
   generalize cS z x=v at *
   refine dwR ?_
   ((conv=>whnf);repeat ((first|(refine And.intro hBl.symm ?_)|(refine⟨_,hrz, ?_⟩)|(refine⟨by kernel_rfl, .d (.bool _),_,[],rfl,trivial,c, ?_⟩)|(intro hq;try simp only [lnS]at hq)|refine sI ?_|refine .intro _ (.intro rfl ?_));(conv=>whnf)))
   refine aA (λh4=> ?_) (λh4=>by exfalso;omega)
   ((conv=>whnf);repeat ((first|(refine And.intro hBl.symm ?_)|(refine⟨_,hrz, ?_⟩)|(refine⟨by kernel_rfl, .d (.bool _),_,[],rfl,trivial,c, ?_⟩)|(intro hq;try simp only [lnS]at hq)|refine sI ?_|refine .intro _ (.intro rfl ?_));(conv=>whnf)))
   refine aA (λh5=> ?_) (λh5=> ?_)
   ·obtain⟨e1,e2⟩:=heq h5
    rw [<-hmt]at e1 e2
    ((conv=>whnf);repeat ((first|(intro hq;try simp only [lnS]at hq)|refine sI ?_|refine .intro _ (.intro rfl ?_));(conv=>whnf)))
    refine fV hty [0,1,2,3,4,5,6,7,8,9,10,11,12,13,14,15,16,17] (by kernel_rfl) (by kernel_rfl) ?_
    obtain⟨zk,zo,z1,z2,z3,z4,z5,z6⟩:=z
    obtain⟨xk,xo,x1,x2,x3,x4,x5,x6⟩:=x
    cases zo<;>cases xo
    all_goals
     ((conv=>whnf);repeat ((first|(refine And.intro hBl.symm ?_)|(refine⟨_,hrz, ?_⟩)|(intro hq;try simp only [lnS]at hq)|refine sI ?_|refine .intro _ (.intro rfl ?_));(conv=>whnf)))
     refine⟨(k+1,cap2),by dsimp only;omega,by dsimp only;omega, ?_⟩
     dsimp only
     rw [e1,e2]
     exact⟨by repeat' (first|exact trivial|exact rfl|refine And.intro ?_ ?_),⟨rfl,rfl,rfl,rfl,rfl,trivial⟩⟩
   ·have e1:=hne h5
    rw [e1]at hmt
    ((conv=>whnf);repeat ((first|(refine And.intro hBl.symm ?_)|(refine And.intro hb63 ?_)|(refine And.intro hb48 ?_)|(intro hq;try simp only [lnS]at hq)|refine sI ?_|refine .intro _ (.intro rfl ?_));(conv=>whnf)))
    rename_i cap'
    refine⟨(k+1,cap'),by dsimp only;omega,by dsimp only;omega, ?_⟩
    dsimp only
    rw [hmt,happ,List.length_append]
    exact⟨by repeat' (first|exact trivial|exact rfl|refine And.intro ?_ ?_),⟨rfl,rfl,by rw [hBl];exact rfl,rfl,rfl,trivial⟩⟩
 ·have hkl:k=A.length:=by dsimp only at h1;omega
  subst hkl
  rw [List.take_length]
  have hck:=xU (jS A)
  generalize jS A=B at *
  ((conv=>whnf);repeat ((first|(intro hq;try simp only [lnS]at hq)|refine sI ?_|refine .intro _ (.intro rfl ?_));(conv=>whnf)))
  refine aF.frozB (id:=71) (i:=2) (rows:=B.map axR) (hp1:=(70, .mrow 48 16 cap (A.map axR))::(2, .cells 36 [.mw 71 16 B.length])::NG) rfl (List.length_map ..).symm ⟨rfl,rfl,rfl,rfl,trivial⟩ rfl rfl ?_
  refine aD NG hck ⟨rfl,rfl,trivial⟩ (λr hs=> ?_)
  subst hs
  generalize dT B=e at *
  ((conv=>whnf);repeat ((first|(intro hq;try simp only [lnS]at hq)|refine sI ?_|refine .intro _ (.intro rfl ?_));(conv=>whnf)))
  refine aC (λh2=> ?_) (λh2=> ?_)
  ·rw [if_pos h2]
   ((conv=>whnf);repeat' ((first|(intro hq;(try simp only [lnS]at hq);(try rewrite [List.length_map]))|refine sJ ?_|refine .intro _ (.intro rfl ?_)|refine exL (k:= ?_)|refine dwR ?_|((first|refine aA ?_ ?_|refine aC ?_ ?_)<;>intro hb<;>(first|exact ddX hb|try simp only [lnS]at hb))|(refine aB ?_ ?_<;>intro hb<;>try exact dsX hb))<;>(conv=>whnf)))
   exact aYa _
  ·rw [if_neg (by simp [h2])]
   ((conv=>whnf);repeat' ((first|(intro hq;(try simp only [lnS]at hq);(try rewrite [List.length_map]))|refine sJ ?_|refine .intro _ (.intro rfl ?_)|refine exL (k:= ?_)|refine dwR ?_|((first|refine aA ?_ ?_|refine aC ?_ ?_)<;>intro hb<;>(first|exact ddX hb|try simp only [lnS]at hb))|(refine aB ?_ ?_<;>intro hb<;>try exact dsX hb))<;>(conv=>whnf)))
   exact aWy _ _
end Go.Proofs.YtbobcfjlbcgchaaGreatDoor
namespace Go.Proofs.YtbobcfjlbcgchaaGreatDoor
open Go.Proofs
set_option maxRecDepth 10000
attribute [local irreducible] aJ aF Tri aG YVC bS aQ
end Go.Proofs.YtbobcfjlbcgchaaGreatDoor
namespace Go.Proofs.YtbobcfjlbcgchaaGreatDoor
open Go.Proofs
set_option maxRecDepth 10000
attribute [local irreducible] aJ aF Tri aG YVC bS aQ
end Go.Proofs.YtbobcfjlbcgchaaGreatDoor
namespace Go.Proofs.YtbobcfjlbcgchaaGreatDoor
open Go.Proofs
set_option maxRecDepth 10000
attribute [local irreducible] aJ aF Tri aG YVC bS aQ
end Go.Proofs.YtbobcfjlbcgchaaGreatDoor
namespace Go.Proofs.YtbobcfjlbcgchaaGreatDoor
open Go.Proofs
set_option maxRecDepth 10000
theorem Tri.oslH {P:Program}{f:FuncId}{id z:Nat}{rows:List (List D)}{hp:Hp}{post:SV->Prop}(h:Tri P f [.d (.sl z rows)] hp post):Tri P f [.osl id z rows] hp post:=by
 unfold Tri at h |-
 intro w ρ vs a b c
 refine h w ρ vs a ⟨b.1,λj s v hs hv=> ?_⟩ c
 match j,hs with
 | 0,hs=>
  injection hs with hs;subst hs
  exact .d _ _ (b.2 0 _ v rfl hv).osl_inv.1
attribute [local irreducible] aJ aF Tri aG YVC bS aQ
theorem aMv {l m:List Ax}(h: ∀x,x∈l↔x∈m):((uM l).2=0↔(uM m).2=0)/\(uM l).1=(uM m).1:=by
 have h1:aC8 l=0↔aC8 m=0:=by
  rw [qA,qA]
  exact⟨λq x hx=>q x ((h x).2 hx),λq x hx=>q x ((h x).1 hx)⟩
 have h2:aKo (rZ l)=aKo (rZ m):=aT9 λx=>by
  unfold rZ
  rw [List.mem_map,List.mem_map]
  exact⟨λ⟨a,q,e⟩=>⟨a,(h a).1 q,e⟩,λ⟨a,q,e⟩=>⟨a,(h a).2 q,e⟩⟩
 unfold uM
 rw [h2]
 by_cases h3:aC8 l=0
 ·rw [if_neg (show ¬ (aC8 l≠0)from λq=>q h3),if_neg (show ¬ (aC8 m≠0)from λq=>q (h1.1 h3))]
  exact⟨Iff.rfl,rfl⟩
 ·have h4:¬ aC8 m=0:= λq=>h3 (h1.2 q)
  rw [if_pos (show aC8 l≠0 from h3),if_pos (show aC8 m≠0 from h4)]
  exact⟨⟨λq=>absurd q h3,λq=>absurd q h4⟩,rfl⟩
theorem aVe (a:Int) {n:Nat}(h0:0 < n) (hn:n<=1000000): ∃i:Nat,IntKind.i64.wrap ((IntKind.u64.wrap a).tmod n)=(i:Int)/\i < n:=by
 have hu:0<=IntKind.u64.wrap a:=by rw [IntKind.wrap_u64];omega
 rw [Int.tmod_eq_emod_of_nonneg hu]
 have h1:=Int.emod_nonneg (IntKind.u64.wrap a) (b:=n) (by omega)
 have h2:=Int.emod_lt_of_pos (IntKind.u64.wrap a) (b:=n) (by omega)
 generalize IntKind.u64.wrap a % (n:Int)=r at *
 refine⟨r.toNat, ?_,by omega⟩
 rw [IntKind.wrap_i64];omega
end Go.Proofs.YtbobcfjlbcgchaaGreatDoor
namespace Go.Proofs.YtbobcfjlbcgchaaGreatDoor
open Go.Proofs Go.RowKit
set_option maxRecDepth 10000
attribute [local irreducible] aJ aF Tri aG YVC bS aQ aAd
theorem aBj (l:List Ax) (a0:Int) (hl: ∀x∈l,SzAx x):Tri Tryz.prog 4 [.d (.sl 16 (l.map axR)), .d (.int .i64 a0)] NK (λr=>r= .d (.bool true)):=by
 have c1:Tri Tryz.prog 6 [.d .nil, .d (.sl 16 (l.map axR))] [] _:=Tri.args (xs:=[.d .nil, .d (.sl 16 (l.map axR))]) (aQn [] l hl) ⟨gR.nil,⟨.refl _,trivial⟩⟩
 refine aH false [] hty Tryz.func4 rfl (kp [0,1,4,5,6,7,8,9,10,11,12,13,14,15,17,20,27,50,53]) [] _ _ _ (by simp [Tryz.f4]) (by decide) ?_
 ((conv=>whnf);repeat ((first|(intro hq;try simp only [lnS]at hq)|refine sI ?_|refine .intro _ (.intro rfl ?_));(conv=>whnf)))
 refine aD NG aJ9 ⟨rfl,rfl,trivial⟩ (λr hs=> ?_)
 subst hs
 ((conv=>whnf);repeat ((first|(intro hq;try simp only [lnS]at hq)|refine sI ?_|refine .intro _ (.intro rfl ?_));(conv=>whnf)))
 refine aD [] c1 trivial (λr hs=> ?_)
 subst hs
 cases hf:(decide (([]:List UInt8).length<=6000) && (decide ((l.length:Int)<=12) && l.all aDh))
 ·((conv=>whnf);repeat' ((first|(intro hq;(try simp only [lnS]at hq);(try rewrite [List.length_map]))|refine sJ ?_|refine .intro _ (.intro rfl ?_)|refine exL (k:= ?_)|refine dwR ?_|((first|refine aA ?_ ?_|refine aC ?_ ?_)<;>intro hb<;>(first|exact ddX hb|try simp only [lnS]at hb))|(refine aB ?_ ?_<;>intro hb<;>try exact dsX hb))<;>(conv=>whnf)))
  all_goals rfl
 simp only [Bool.and_eq_true,decide_eq_true_eq,List.all_eq_true]at hf
 have hn:l.length<=12:=by omega
 clear hf c1 hl
 have c2:=aH1 l (by omega)
 ((conv=>whnf);repeat ((first|(refine aD NG c2 ⟨rfl,rfl,trivial⟩ (λr hs=> ?_);subst hs)|(intro hq;try simp only [lnS]at hq)|refine sI ?_|refine .intro _ (.intro rfl ?_));(conv=>whnf)))
 refine aC (λh2=> ?_) (λh2=> ?_)
 ·((conv=>whnf);repeat' ((first|(intro hq;(try simp only [lnS]at hq);(try rewrite [List.length_map]))|refine sJ ?_|refine .intro _ (.intro rfl ?_)|refine exL (k:= ?_)|refine dwR ?_|((first|refine aA ?_ ?_|refine aC ?_ ?_)<;>intro hb<;>(first|exact ddX hb|try simp only [lnS]at hb))|(refine aB ?_ ?_<;>intro hb<;>try exact dsX hb))<;>(conv=>whnf)))
  all_goals rfl
 have h2:(uM l).2=0:=by simpa using h2
 obtain⟨_,hB,_⟩:=aV9 h2
 have hcb:=(sT _).2 hB
 obtain⟨hw,hwl⟩:=aO9 hcb
 have hid:idF (uM l).1=(aRb aFt (wAs (uM l).1),0):=by unfold idF;rw [if_pos hcb]
 have c3:=aQ6 (uM l).1
 have c4:=gF (uM l).1
 have c5:=vH aFt (wAs (uM l).1) (by decide) (by omega)
 rw [hid]at c3
 rw [hw]at c4
 rw [h2]
 rw [show aKq=tX from rfl]at c5
 dsimp only at c3 c4
 generalize aRb aFt (wAs (uM l).1)=dg at *
 obtain⟨y,rfl⟩:=aRm dg
 have hd:(tX (mkD y)).length=32:=aQq _
 have he:pP (.int .u8) (tX (mkD y)) (tX (mkD y))=some true:=aNr _
 ((conv=>whnf);repeat ((first|(refine aD NK c3 ⟨rfl,rfl,rfl,trivial⟩ (λr hs=> ?_);subst hs)|(refine aD NG c4 ⟨rfl,rfl,trivial⟩ (λr hs=> ?_);subst hs)|(intro hq;try simp only [lnS]at hq)|refine sI ?_|refine .intro _ (.intro rfl ?_));(conv=>whnf)))
 refine fV hty [0,1,2,3,4,5,6,7,8,9,10,11] (by kernel_rfl) (by kernel_rfl) ?_
 ((conv=>whnf);repeat ((first|(intro hq;try simp only [lnS]at hq)|refine sI ?_|refine .intro _ (.intro rfl ?_));(conv=>whnf)))
 refine⟨KG,(λs=>s= .d (.agg (tX (mkD y)))),⟨rfl,trivial⟩,c5,λs hs=> ?_⟩
 subst hs
 ((conv=>whnf);repeat ((first|(refine aQy hty rfl (by with_unfolding_all exact rfl) rfl (by with_unfolding_all exact rfl) rfl rfl (by with_unfolding_all kernel_rfl) rfl rfl hd he ?_)|(intro hq;try simp only [lnS]at hq)|refine sI ?_|refine .intro _ (.intro rfl ?_));(conv=>whnf)))
 refine aA (λh1=> ?_) (λh1=> ?_)
 ·((conv=>whnf);repeat' ((first|(intro hq;(try simp only [lnS]at hq);(try rewrite [List.length_map]))|refine sJ ?_|refine .intro _ (.intro rfl ?_)|refine exL (k:= ?_)|refine dwR ?_|((first|refine aA ?_ ?_|refine aC ?_ ?_)<;>intro hb<;>(first|exact ddX hb|try simp only [lnS]at hb))|(refine aB ?_ ?_<;>intro hb<;>try exact dsX hb))<;>(conv=>whnf)))
  all_goals rfl
 have h1:0 < l.length:=by
  have h1:¬ ((l.map axR).length:Int)=0:=h1
  rw [List.length_map]at h1
  omega
 have hwn:IntKind.u64.wrap (((l.map axR).length:Nat):Int)=(l.length:Int):=by
  rw [List.length_map,IntKind.wrap_u64];omega
 have hnz:IntKind.u64.wrap (((l.map axR).length:Nat):Int)≠0:=by rw [hwn];omega
 ((conv=>whnf);repeat ((first|(refine And.intro hnz ?_)|(intro hq;try simp only [lnS]at hq)|refine sI ?_|refine .intro _ (.intro rfl ?_));(conv=>whnf)))
 rw [hwn]
 obtain⟨i,hi,hil⟩:=aVe a0 h1 (by omega)
 rw [hi]
 clear hi hnz hwn
 have hlen:(l.map axR).length=l.length:=List.length_map ..
 have hrow:=jD hil
 have c6:=aH1 (l.drop i++l.take i++[l[i]]) (by simp only [List.length_append,List.length_drop,List.length_take,List.length_singleton];omega)
 have hmem: ∀x,x∈l↔x∈l.drop i++l.take i++[l[i]]:= λx=>by
  rw [List.mem_append,List.mem_append,List.mem_singleton]
  constructor
  ·intro hx
   rw [<-List.take_append_drop i l,List.mem_append]at hx
   exact .inl hx.symm
  ·rintro((hx|hx)|hx)
   ·exact List.mem_of_mem_drop hx
   ·exact List.mem_of_mem_take hx
   ·rw [hx];exact List.getElem_mem hil
 obtain⟨hse,hsb⟩:=aMv hmem
 rw [<-hsb,hse.1 h2]at c6
 have c7: ∀rows,rows=(l.drop i++l.take i++[l[i]]).map axR->Tri Tryz.prog 14 [.osl 62 16 rows] NG (λr=>r= .tup [.d (aR2 (uM l).1), .d (.int .i64 0)]):= λrows h=>by rw [h];exact Tri.oslH c6
 ((conv=>whnf);repeat ((first|(intro hq;try simp only [lnS]at hq)|refine sI ?_|refine .intro _ (.intro rfl ?_));(conv=>whnf)))
 refine aJ.mid [(7, .ptr 7 0),(12, .ptr 12 0),(13, .d (.int .i64 0))] ((12, .cells 36 [.d (.sl 16 ((uM l).1.map axR))])::(7, .cells 32 ((tX (mkD y)).map SV.d))::NK) ?_ ?_
 ·have c8 : Tri Tryz.prog 14 [.osl 62 16 ([] ++ List.drop i (List.take (l.map axR).length (l.map axR)) ++ List.drop 0 (List.take i (l.map axR)) ++ [axR l[i]])] NG _ := c7 _ (by
   rw [List.take_length,List.drop_zero,List.nil_append,<-List.map_drop,<-List.map_take,List.map_append,List.map_append]
   rfl)
  clear c2 c3 c4 c5 c6 c7
  (refine yZ (id:=15) hty (.first 1 (.first 2 (.first 3 (.first 5 (.first 6 (.first 7 (.first 9 (.first 10 (.first 11 (.first 12 (.alt 0 (.alt 4 (.alt 8 (.alt 13 (.alt 14 (.alt 15 (.first 16 (.first 17 (.first 18 (.alt 19 (.alt 20 (.first 21 .done) .stop) .stop)))) (.alt 19 (.alt 15 (.first 16 (.first 17 (.first 18 (.alt 20 (.first 21 .done) .stop)))) .stop) .stop)) (.alt 19 (.alt 14 (.alt 15 (.first 16 (.first 17 (.first 18 (.alt 20 (.first 21 .done) .stop)))) .stop) .stop) .stop)) (.alt 19 (.alt 13 (.alt 14 (.alt 15 (.first 16 (.first 17 (.first 18 (.alt 20 (.first 21 .done) .stop)))) .stop) .stop) .stop) .stop)) (.alt 13 (.alt 8 (.alt 14 (.alt 15 (.first 16 (.first 17 (.first 18 (.alt 19 (.alt 20 (.first 21 .done) .stop) .stop)))) (.alt 19 (.alt 15 (.first 16 (.first 17 (.first 18 (.alt 20 (.first 21 .done) .stop)))) .stop) .stop)) (.alt 19 (.alt 14 (.alt 15 (.first 16 (.first 17 (.first 18 (.alt 20 (.first 21 .done) .stop)))) .stop) .stop) .stop)) (.alt 19 (.alt 8 (.alt 14 (.alt 15 (.first 16 (.first 17 (.first 18 (.alt 20 (.first 21 .done) .stop)))) .stop) .stop) .stop) .stop)) (.alt 19 (.alt 8 (.alt 13 (.alt 14 (.alt 15 (.first 16 (.first 17 (.first 18 (.alt 20 (.first 21 .done) .stop)))) .stop) .stop) .stop) (.alt 13 (.alt 8 (.alt 14 (.alt 15 (.first 16 (.first 17 (.first 18 (.alt 20 (.first 21 .done) .stop)))) .stop) .stop) .stop) .stop)) .stop))) (.alt 13 (.alt 4 (.alt 8 (.alt 14 (.alt 15 (.first 16 (.first 17 (.first 18 (.alt 19 (.alt 20 (.first 21 .done) .stop) .stop)))) (.alt 19 (.alt 15 (.first 16 (.first 17 (.first 18 (.alt 20 (.first 21 .done) .stop)))) .stop) .stop)) (.alt 19 (.alt 14 (.alt 15 (.first 16 (.first 17 (.first 18 (.alt 20 (.first 21 .done) .stop)))) .stop) .stop) .stop)) (.alt 19 (.alt 8 (.alt 14 (.alt 15 (.first 16 (.first 17 (.first 18 (.alt 20 (.first 21 .done) .stop)))) .stop) .stop) .stop) .stop)) (.alt 19 (.alt 4 (.alt 8 (.alt 14 (.alt 15 (.first 16 (.first 17 (.first 18 (.alt 20 (.first 21 .done) .stop)))) .stop) .stop) .stop) .stop) .stop)) (.alt 19 (.alt 4 (.alt 8 (.alt 13 (.alt 14 (.alt 15 (.first 16 (.first 17 (.first 18 (.alt 20 (.first 21 .done) .stop)))) .stop) .stop) .stop) (.alt 13 (.alt 8 (.alt 14 (.alt 15 (.first 16 (.first 17 (.first 18 (.alt 20 (.first 21 .done) .stop)))) .stop) .stop) .stop) .stop)) (.alt 13 (.alt 4 (.alt 8 (.alt 14 (.alt 15 (.first 16 (.first 17 (.first 18 (.alt 20 (.first 21 .done) .stop)))) .stop) .stop) .stop) .stop) .stop)) .stop))) (.alt 13 (.alt 0 (.alt 4 (.alt 8 (.alt 14 (.alt 15 (.first 16 (.first 17 (.first 18 (.alt 19 (.alt 20 (.first 21 .done) .stop) .stop)))) (.alt 19 (.alt 15 (.first 16 (.first 17 (.first 18 (.alt 20 (.first 21 .done) .stop)))) .stop) .stop)) (.alt 19 (.alt 14 (.alt 15 (.first 16 (.first 17 (.first 18 (.alt 20 (.first 21 .done) .stop)))) .stop) .stop) .stop)) (.alt 19 (.alt 8 (.alt 14 (.alt 15 (.first 16 (.first 17 (.first 18 (.alt 20 (.first 21 .done) .stop)))) .stop) .stop) .stop) .stop)) (.alt 19 (.alt 4 (.alt 8 (.alt 14 (.alt 15 (.first 16 (.first 17 (.first 18 (.alt 20 (.first 21 .done) .stop)))) .stop) .stop) .stop) .stop) .stop)) (.alt 19 (.alt 0 (.alt 4 (.alt 8 (.alt 14 (.alt 15 (.first 16 (.first 17 (.first 18 (.alt 20 (.first 21 .done) .stop)))) .stop) .stop) .stop) .stop) .stop) .stop)) (.alt 19 (.alt 0 (.alt 4 (.alt 8 (.alt 13 (.alt 14 (.alt 15 (.first 16 (.first 17 (.first 18 (.alt 20 (.first 21 .done) .stop)))) .stop) .stop) .stop) (.alt 13 (.alt 8 (.alt 14 (.alt 15 (.first 16 (.first 17 (.first 18 (.alt 20 (.first 21 .done) .stop)))) .stop) .stop) .stop) .stop)) (.alt 13 (.alt 4 (.alt 8 (.alt 14 (.alt 15 (.first 16 (.first 17 (.first 18 (.alt 20 (.first 21 .done) .stop)))) .stop) .stop) .stop) .stop) .stop)) (.alt 13 (.alt 0 (.alt 4 (.alt 8 (.alt 14 (.alt 15 (.first 16 (.first 17 (.first 18 (.alt 20 (.first 21 .done) .stop)))) .stop) .stop) .stop) .stop) .stop) .stop)) .stop))))))))))))) (by kernel_rfl) (by kernel_rfl) ?_)
  ((conv=>whnf);repeat' ((first|exact trivial|refine aW2 ?_ ?_|refine eqN rfl ?_|refine leN rfl ?_|refine ltN rfl ?_|(refine And.intro (show i<=(l.map axR).length from by omega) ?_)|(refine And.intro (congrArg (λn=>some (HObj.own 48 16 n)) List.length_append.symm) ?_)|(refine⟨_,hrow, ?_⟩)|(refine aD NG c8 ⟨by exact rfl,by exact rfl,trivial⟩ (λr hs=> ?_);subst hs)|refine sJ ?_|(refine Exists.intro _ (And.intro rfl ?_)))<;>(conv=>whnf)))
  all_goals exact⟨by repeat' (first|exact trivial|exact rfl|refine And.intro ?_ ?_),by repeat' (first|exact trivial|exact rfl|refine And.intro ?_ ?_)⟩
 ((conv=>whnf);repeat ((first|(refine aD NK c3 ⟨by exact rfl,by exact rfl,by exact rfl,trivial⟩ (λr hs=> ?_);subst hs)|(refine aTt hty rfl (by with_unfolding_all exact rfl) rfl (by with_unfolding_all exact rfl) rfl rfl (by with_unfolding_all kernel_rfl) rfl rfl hd he ?_)|(intro hq;try simp only [lnS]at hq)|refine sI ?_|refine .intro _ (.intro rfl ?_));(conv=>whnf)))
 rfl
end Go.Proofs.YtbobcfjlbcgchaaGreatDoor
