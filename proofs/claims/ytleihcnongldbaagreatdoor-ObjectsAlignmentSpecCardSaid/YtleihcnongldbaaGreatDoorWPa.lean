/-
  Rows that the call may write are stable from here on: data. More of maps: a map held against nil; memory by what lies at its numbers; a result that is data from there on. The reference of objects: its reader reads concepts and axioms. A deferred closure that recovers: in a call that comes back it does nothing; after a panic it runs its body. A function whose deferred closure recovers: what its body is held to. A function whose deferred closure recovers: its end, after a return and after a panic. The contract of a function whose deferred closure recovers. Objects: bytes.Equal; what decoding answers; decoding a commit.
  Conditions: none.
-/
import Derived.Test.YtleihcnongldbaaGreatDoorWG4
import Derived.Test.YtleihcnongldbaaGreatDoorWSne
import Derived.Test.YtleihcnongldbaaGreatDoorWVe
import Derived.Test.YtleihcnongldbaaGreatDoorWSyc
import Derived.Test.YtleihcnongldbaaGreatDoorWSyi
import Derived.RecoverIn
import Derived.Test.YtleihcnongldbaaGreatDoorWOy
set_option linter.unnecessarySimpa false
set_option linter.unusedSectionVars false
set_option linter.unusedSimpArgs false
set_option linter.unusedVariables false
set_option maxHeartbeats 16000000
namespace Go.Proofs.YtleihcnongldbaaGreatDoor
open Go.Proofs
theorem Mem.froze {E:Entry}{ρ:Env}{hp hp':Hp}{w:World}(h:Mem E ρ hp w) {id e z cap:Nat}{rows:List (List D)}(ho:aT hp id=some (.mrow e z cap rows)) (hsub:aEd hp' hp) (hno:aT hp' id=none):
  ∃S':Nat->Nat->Prop,(∀b i,ρ.S b i->S' b i)/\Mem E (ρ.withS S') hp' w/\RepD w S' (.sl z rows) (ρ.tv id):=by
 have hat: ∀b,fR (ρ.tv id)=some b->ρ.at id (.mrow e z cap rows)=some b:= λb hb=>hb
 have hs0: ∀i o,aT hp' i=some o->aT hp i=some o:=lV _ _ hsub
 have hne: ∀i o,aT hp' i=some o->i≠id:= λi o hi e=>by rw [e,hno]at hi;cases hi
 refine⟨λb i=>ρ.S b i\/(fR (ρ.tv id)=some b/\i < rows.length * z),λb i hs=> .inl hs, ?_, ?_⟩
 ·refine⟨h.os,h.tape,h.output,h.size,h.old,λb i hs=> .inl (h.sold b i hs), ?_, ?_,h.kp, ?_,λi o i' o' g hi hi'=>h.inj i o i' o' g (hs0 i o hi) (hs0 i' o' hi'),λi o g hi=>h.hb i o g (hs0 i o hi),λi hi=>Env.moved_trans (h.mv i hi) (ρ.moved_withS _ i), ?_,h.md⟩
  ·rintro b i (hs|⟨hb,_⟩) hlt hB
   ·exact h.snew b i hs hlt hB
   ·rcases h.hb id _ b ho (hat b hb)with h1|h1
    ·omega
    ·exact absurd h1 hB
  ·rintro b i (hs|⟨hb,_⟩)
   ·exact h.slt b i hs
   ·exact h.blk_lt ho (hat b hb)
  ·intro i o hi
   refine(h.sat i o (hs0 i o hi)).keep (λ_ _ _=>rfl) (λb i hs=> .inl hs) (λi _=>ρ.moved_withS _ i) ⟨rfl,rfl⟩ (λg _=>rfl) ?_
   rintro g hg j (hs|⟨hb,_⟩)
   ·exact hs
   ·exact absurd (h.inj i o id _ g (hs0 i o hi) ho hg (hat g hb)) (hne i o hi)
  ·intro i oR g hi hrd hg i' o' hi'
   exact h.ro i oR g (hs0 _ _ hi) hrd hg i' o' (hs0 _ _ hi')
 ·obtain⟨_,h2⟩:=h.sat id _ ho
  rcases h2 with⟨rfl,_,A,e1⟩|⟨hc,g,cur,e1,q1,q2,q3,q4,q6,q7⟩
  ·rw [e1]
   exact RepD.mk_sl (b:=0) (off:=0) (by simp) (by simp) (λhne=>absurd rfl hne) ⟨by simp,by simp⟩ (by simp)
  ·have hb:fR (ρ.tv id)=some g:=by
    rw [e1];have:cap≠0:=by omega
    simp [fR,this]
   have key:RepD w (λb i=>ρ.S b i\/(fR (ρ.tv id)=some b/\i < rows.length * z)) (.sl z rows) (.slice (some ⟨g,0,none⟩) rows.length cap):=by
    refine RepD.mk_sl (b:=g) (off:=0) q2 q3 (λ_=>rfl) ?_ rfl
    refine q6.view (λk v hv=> ?_) (λk hk=> ?_) (λx v hx=>hx.mono (λ_ _ _=>rfl) λb i hs=> .inl hs)
    ·rw [Nat.zero_add,cell_of_row w g k cur e (0,0) q1]
     rw [List.getElem?_take]at hv
     split at hv
     ·simpa using hv
     ·cases hv
    ·rw [Nat.zero_add]
     right
     refine⟨hb, ?_⟩
     rw [q6.len]at hk;exact hk
   rw [e1]at key |-
   exact key
theorem aJ.froz {P:Program}{pin:Pin}{fr:Fr}{hp hp':Hp}{f:FuncId}{asv:List SV}{K:SV->Hp->Prop}(j id:Nat) {e z cap n:Nat}{rows:List (List D)}(ho:aT hp id=some (.mrow e z cap rows)) (hn:n=rows.length) (hj:asv[j]? =some (.mw id z n))
  (hsub:aEd hp' hp) (hno:aT hp' id=none) (h:aJ P pin fr hp' f (asv.set j (.d (.sl z rows))) K):aJ P pin fr hp f asv K:=by
 intro E ρ w tm hpin h3 h4 vs hargs
 obtain⟨S',s1,s2,s3⟩:=h3.froze ho hsub hno
 obtain⟨q1,_⟩:=h3.sat id _ ho
 refine h E _ w tm hpin s2 (h4.mono (λ_ _ _=>rfl) s1 λi _=>ρ.moved_withS S' i) vs ⟨by simpa using hargs.1, ?_⟩
 intro k s v hs hv
 by_cases e:j=k
 ·subst e
  have hjl:=(List.getElem?_eq_some_iff.1 hj).1
  rw [List.getElem?_set_self hjl]at hs
  injection hs with hs
  subst hs
  obtain⟨A,c,_,_,_,_,_,e2⟩:=(hargs.2 j _ v hj hv).mw_inv
  have:=e2 (hn.trans q1.symm)
  subst this
  exact .d _ _ s3
 ·rw [List.getElem?_set_ne e]at hs
  exact(hargs.2 k s v hs hv).mono (λ_ _ _=>rfl) s1 λi _=>ρ.moved_withS S' i
theorem aN.froz {C:Cfg}{c:Code}{fr:Fr}{hp hp':Hp}{K:Ex->Fr->Hp->Prop}(t id:Nat) {e z cap n:Nat}{rows:List (List D)}(ht:gO fr t=some (.mw id z n)) (ho:aT hp id=some (.mrow e z cap rows)) (hn:n=rows.length)
  (hsub:aEd hp' hp) (hno:aT hp' id=none) (h:aN C c ((t, .d (.sl z rows))::fr) hp' K):aN C c fr hp K:=by
 intro E a w hpin hrd hsat
 obtain⟨h1,h2,ρ,h3,h4⟩:=hsat
 obtain⟨S',s1,s2,s3⟩:=h3.froze ho hsub hno
 obtain⟨q1,_⟩:=h3.sat id _ ho
 refine h E a w hpin hrd ⟨h1,h2,_,s2, ?_⟩
 intro k s hs
 simp only [gO]at hs
 by_cases e:t=k
 ·rw [if_pos e]at hs
  injection hs with hs
  subst hs;subst e
  obtain⟨v,hv,hr⟩:=h4 t _ ht
  obtain⟨A,c,_,_,_,_,_,e2⟩:=hr.mw_inv
  have:=e2 (hn.trans q1.symm)
  subst this
  exact⟨_,hv, .d _ _ s3⟩
 ·rw [if_neg e]at hs
  obtain⟨v,hv,hr⟩:=h4 k _ hs
  exact⟨v,hv,hr.mono (λ_ _ _=>rfl) s1 λi _=>ρ.moved_withS S' i⟩
end Go.Proofs.YtleihcnongldbaaGreatDoor
namespace Go.Proofs.YtleihcnongldbaaGreatDoor
open Go.Proofs Go.RowKit
section
variable {P:Program}
theorem aN.ownC {C:Cfg}{c:Code}{fr:Fr}{hp:Hp}{K:Ex->Fr->Hp->Prop}(i id t e z k:Nat) {cs:List SV}(hnil:aT hp i=some (.cells t cs)) (hk:cs[k]? =some (.d .nil)) (hfr:jT id C.pin fr hp)
  (h:aN C c fr ((id, .own e z 0)::gQ hp i (.cells t (cs.set k (.osl id z [])))) K):aN C c fr hp K:=by
 intro E a w hpin hrd hsat
 obtain⟨h1,h2,ρ,h3,h4⟩:=hsat
 obtain⟨f1,f2,f3⟩:=hfr
 obtain⟨m1,m2,m3⟩:=h3.newNil (id:=id) e z f3 (by rw [hpin];exact f1)
 have hne:i≠id:= λe=>f3 (by subst e;exact bV hnil (.inl rfl))
 have hi':aT ((id,HObj.own e z 0)::hp) i=some (.cells t cs):=by
  simp only [aT];rw [if_neg (Ne.symm hne)];exact hnil
 have hkl:k < cs.length:=(List.getElem?_eq_some_iff.1 hk).1
 have m4 := m1.recell hi' (cs' := cs.set k (.osl id z [])) (by simp) (λj s' v hs' hv => by
  by_cases e:j=k
  ·subst e
   rw [List.getElem?_set_self hkl]at hs'
   injection hs' with hs'
   subst hs'
   have:=(hv _ hk).nil_inv
   subst this
   exact m3
  ·rw [List.getElem?_set_ne (Ne.symm e)]at hs'
   exact hv _ hs')
 have e2:gQ ((id,HObj.own e z 0)::hp) i (.cells t (cs.set k (.osl id z [])))=(id, .own e z 0)::gQ hp i (.cells t (cs.set k (.osl id z []))):=by
  simp only [gQ];rw [if_neg (Ne.symm hne)]
 rw [e2]at m4
 exact h E a w hpin hrd ⟨h1,h2,_,m4,m2 fr a.tmps f2 h4⟩
end
end Go.Proofs.YtleihcnongldbaaGreatDoor
namespace Go.Proofs.YtleihcnongldbaaGreatDoor
open Go.Proofs Go.RowKit
set_option maxRecDepth 10000
attribute [local irreducible] aN aJ Tri aI YVC cP bE
theorem aT2:RfT 39 [.d (.int .i64 1)] (fS 1) (λn=> .d (.int .u64 n)):=aTy 1 (by decide)
theorem aBs {n:Nat}(h:n < 256):IntKind.i64.wrap ((n:Nat):Int)=((n:Nat):Int):=IntWalk.i64_in _ (by omega)
theorem aFv (s:RS):(fS 1 s).1 < 256:=aB2 1 s
abbrev cnZ:List SV:=([D.int .i64 0,D.str [],D.int .i64 0,D.int .i64 0,D.nil]).map .d
abbrev cnH (kd:Int) (nm:List UInt8) (lo hi:Int) (x:SV):List SV:=[.d (.int .i64 kd), .d (.str nm), .d (.int .i64 lo), .d (.int .i64 hi),x]
theorem aL4 {kd:Int}{nm:List UInt8}{lo hi:Int}{x:SV}{l:List Cn}(h:dA x (.d (.sl 5 (l.map cnR)))):dA (.agg (cnH kd nm lo hi x)) (.d (.agg (cnR (.mk kd nm lo hi l)))):=by
 rw [show cnR (.mk kd nm lo hi l)=[.int .i64 kd, .str nm, .int .i64 lo, .int .i64 hi, .sl 5 (l.map cnR)]from bA _]
 exact dA.cells ⟨.refl _, .refl _, .refl _, .refl _,h,trivial⟩
theorem aL5 {kd:Int}{nm:List UInt8}{lo hi:Int}:dA (.d (.agg [.int .i64 kd, .str nm, .int .i64 lo, .int .i64 hi, .nil])) (.d (.agg (cnR (.mk kd nm lo hi [])))):=dA.wkd ⟨rfl,rfl,rfl,rfl,rfl,trivial⟩
theorem vY: ∀(m:Nat) (d:Int),0<=d->d+m=9->RfT 136 [.d (.int .i64 d)] (tC m) (λc=> .d (.agg (cnR c))):=by
 intro m
 induction m with
 |zero=>
  intro d hd0 hd s hb
  obtain rfl:d=9:=by omega
  have hT:tC 0 s=(Cn.mk (cW s).1.1 (cW s).1.2.1 (cW s).1.2.2.1 (cW s).1.2.2.2.1 [],((cW s).2.1,true)):=rfl
  have hH:cW s=bP dO (λn=>bP fP λlo=>bP fP λhi=>mR (cK 25) λm=>(((fS 1 s).1:Int),n,lo,hi,m)) (fS 1 s).2:=rfl
  rw [hT,hH]
  clear hT hH
  have l1:=gF 1 s
  have ho:=aFv s
  refine aJ.says ?_
  refine aG false [] hty Tryz.func136 rfl (kp [0,1,4,5,6,7,40]) 100 (by simp [Tryz.f136]) ?_
  ((conv=>whnf);repeat ((first|(intro hq;try simp only [lnS]at hq)|refine sI ?_|refine .intro _ (.intro rfl ?_));(conv=>whnf)))
  refine RfT.call aT2 rfl (λ_=>rfl) s hb rfl ?_
  generalize (fS 1 s).1=kd at *
  generalize (fS 1 s).2=s1 at *
  ((conv=>whnf);repeat ((first|(intro hq;try simp only [lnS]at hq)|refine sI ?_|refine .intro _ (.intro rfl ?_));(conv=>whnf)))
  rw [aBs ho]
  refine RfT.call tX rfl (λ_=>rfl) s1 (by omega) rfl ?_
  have l2:=cF s1
  have hH:bP dO (λn=>bP fP λlo=>bP fP λhi=>mR (cK 25) λm=>((kd:Int),n,lo,hi,m)) s1=bP fP (λlo=>bP fP λhi=>mR (cK 25) λm=>((kd:Int),(dO s1).1,lo,hi,m)) (dO s1).2:=rfl
  rw [hH]
  clear hH
  generalize (dO s1).1=nm at *
  generalize (dO s1).2=s2 at *
  ((conv=>whnf);repeat ((first|(intro hq;try simp only [lnS]at hq)|refine sI ?_|refine .intro _ (.intro rfl ?_));(conv=>whnf)))
  refine RfT.call rF rfl (λ_=>rfl) s2 (by omega) rfl ?_
  have l3:=fM s2
  have hH:bP fP (λlo=>bP fP λhi=>mR (cK 25) λm=>((kd:Int),nm,lo,hi,m)) s2=bP fP (λhi=>mR (cK 25) λm=>((kd:Int),nm,(fP s2).1,hi,m)) (fP s2).2:=rfl
  rw [hH]
  clear hH
  generalize (fP s2).1=lo at *
  generalize (fP s2).2=s3 at *
  ((conv=>whnf);repeat ((first|(intro hq;try simp only [lnS]at hq)|refine sI ?_|refine .intro _ (.intro rfl ?_));(conv=>whnf)))
  refine RfT.call rF rfl (λ_=>rfl) s3 (by omega) rfl ?_
  have l4:=fM s3
  have hH:bP fP (λhi=>mR (cK 25) λm=>((kd:Int),nm,lo,hi,m)) s3=(((kd:Int),nm,lo,(fP s3).1,(cK 25 (fP s3).2).1),(cK 25 (fP s3).2).2):=rfl
  rw [hH]
  clear hH
  generalize (fP s3).1=hi at *
  generalize (fP s3).2=s4 at *
  dsimp only
  ((conv=>whnf);repeat ((first|(intro hq;try simp only [lnS]at hq)|refine sI ?_|refine .intro _ (.intro rfl ?_));(conv=>whnf)))
  refine RfT.call (aF4 25 (by decide) (by decide)) rfl (λ_=>rfl) s4 (by omega) rfl ?_
  have l5:=eP 25 s4
  have hle:=lU (least:=25) s4 (by decide)
  generalize (cK 25 s4).1=n at *
  generalize (cK 25 s4).2=s5 at *
  have hs5:s5.1.length<=1000000:=by omega
  have hn:n<=1000000:=by omega
  clear l1 l2 l3 l4 l5 hle hb
  obtain⟨b,fl⟩:=s5
  cases fl
  ·((conv=>whnf);repeat' ((first|(intro hq;(try simp only [lnS]at hq);(try rewrite [List.length_map]))|refine sJ ?_|refine .intro _ (.intro rfl ?_)|refine exL (k:= ?_)|(refine eO hty 2 ?_)|refine dwR ?_|((first|refine aB ?_ ?_|refine aC ?_ ?_)<;>intro hb<;>(first|exact ddX hb|try simp only [lnS]at hb))|(refine aA ?_ ?_<;>intro hb<;>try exact dsX hb))<;>(conv=>whnf)))
   all_goals first|(exfalso;omega)|exact⟨_,aL5,rfl,rfl⟩
  ·((conv=>whnf);repeat' ((first|(intro hq;(try simp only [lnS]at hq);(try rewrite [List.length_map]))|refine sJ ?_|refine .intro _ (.intro rfl ?_)|refine exL (k:= ?_)|(refine eO hty 2 ?_)|refine dwR ?_|((first|refine aB ?_ ?_|refine aC ?_ ?_)<;>intro hb<;>(first|exact ddX hb|try simp only [lnS]at hb))|(refine aA ?_ ?_<;>intro hb<;>try exact dsX hb))<;>(conv=>whnf)))
   all_goals exact⟨_,aL5,rfl,rfl⟩
 |succ m ih=>
  intro d hd0 hd s hb
  have hT:tC (m+1) s=(Cn.mk (cW s).1.1 (cW s).1.2.1 (cW s).1.2.2.1 (cW s).1.2.2.2.1 (jI (tC m) (cW s).1.2.2.2.2 (cW s).2).1,(jI (tC m) (cW s).1.2.2.2.2 (cW s).2).2):=rfl
  have hH:cW s=bP dO (λn=>bP fP λlo=>bP fP λhi=>mR (cK 25) λm=>(((fS 1 s).1:Int),n,lo,hi,m)) (fS 1 s).2:=rfl
  rw [hT,hH]
  clear hT hH
  have l1:=gF 1 s
  have ho:=aFv s
  refine aJ.says ?_
  refine aG false [] hty Tryz.func136 rfl (kp [0,1,4,5,6,7,40]) 100 (by simp [Tryz.f136]) ?_
  ((conv=>whnf);repeat ((first|(intro hq;try simp only [lnS]at hq)|refine sI ?_|refine .intro _ (.intro rfl ?_));(conv=>whnf)))
  refine RfT.call aT2 rfl (λ_=>rfl) s hb rfl ?_
  generalize (fS 1 s).1=kd at *
  generalize (fS 1 s).2=s1 at *
  ((conv=>whnf);repeat ((first|(intro hq;try simp only [lnS]at hq)|refine sI ?_|refine .intro _ (.intro rfl ?_));(conv=>whnf)))
  rw [aBs ho]
  refine RfT.call tX rfl (λ_=>rfl) s1 (by omega) rfl ?_
  have l2:=cF s1
  have hH:bP dO (λn=>bP fP λlo=>bP fP λhi=>mR (cK 25) λm=>((kd:Int),n,lo,hi,m)) s1=bP fP (λlo=>bP fP λhi=>mR (cK 25) λm=>((kd:Int),(dO s1).1,lo,hi,m)) (dO s1).2:=rfl
  rw [hH]
  clear hH
  generalize (dO s1).1=nm at *
  generalize (dO s1).2=s2 at *
  ((conv=>whnf);repeat ((first|(intro hq;try simp only [lnS]at hq)|refine sI ?_|refine .intro _ (.intro rfl ?_));(conv=>whnf)))
  refine RfT.call rF rfl (λ_=>rfl) s2 (by omega) rfl ?_
  have l3:=fM s2
  have hH:bP fP (λlo=>bP fP λhi=>mR (cK 25) λm=>((kd:Int),nm,lo,hi,m)) s2=bP fP (λhi=>mR (cK 25) λm=>((kd:Int),nm,(fP s2).1,hi,m)) (fP s2).2:=rfl
  rw [hH]
  clear hH
  generalize (fP s2).1=lo at *
  generalize (fP s2).2=s3 at *
  ((conv=>whnf);repeat ((first|(intro hq;try simp only [lnS]at hq)|refine sI ?_|refine .intro _ (.intro rfl ?_));(conv=>whnf)))
  refine RfT.call rF rfl (λ_=>rfl) s3 (by omega) rfl ?_
  have l4:=fM s3
  have hH:bP fP (λhi=>mR (cK 25) λm=>((kd:Int),nm,lo,hi,m)) s3=(((kd:Int),nm,lo,(fP s3).1,(cK 25 (fP s3).2).1),(cK 25 (fP s3).2).2):=rfl
  rw [hH]
  clear hH
  generalize (fP s3).1=hi at *
  generalize (fP s3).2=s4 at *
  dsimp only
  ((conv=>whnf);repeat ((first|(intro hq;try simp only [lnS]at hq)|refine sI ?_|refine .intro _ (.intro rfl ?_));(conv=>whnf)))
  refine RfT.call (aF4 25 (by decide) (by decide)) rfl (λ_=>rfl) s4 (by omega) rfl ?_
  have l5:=eP 25 s4
  have hle:=lU (least:=25) s4 (by decide)
  generalize (cK 25 s4).1=n at *
  generalize (cK 25 s4).2=s5 at *
  have hs5:s5.1.length<=1000000:=by omega
  have hn:n<=1000000:=by omega
  clear l1 l2 l3 l4 l5 hle hb
  obtain⟨b,fl⟩:=s5
  cases fl
  ·((conv=>whnf);repeat ((first|(intro hq;try simp only [lnS]at hq)|refine sI ?_|refine .intro _ (.intro rfl ?_));(conv=>whnf)))
   have hd8:decide (d >8)=false:=decide_eq_false (by omega)
   have hd8':decide (8 < d)=false:=decide_eq_false (by omega)
   refine aN.ownC 105 200 114 114 5 4 rfl rfl (bW (by with_unfolding_all exact rfl)) ?_
   refine aH hty (λy:List Cn×RS=>([(0, .ptr 3 0),(1, .d (.int .i64 d)),(4, .ptr 104 0),(5, .ptr 105 0),(6, .d (.int .i64 n)),(7, .d (.int .i64 y.1.length))],[(200, .own 114 5 (y.1.map cnR).length),(105, .cells 114 (cnH kd nm lo hi (.osl 200 5 (y.1.map cnR)))),(104, .cells 114 cnZ),(3,rfO y.2)])) (λy=>jI (tC m) y.1.length (b,false)=y/\y.1.length<=n/\y.2.1.length<=1000000) (λy=>n - y.1.length) ([],(b,false)) ⟨rfl,Nat.zero_le _,hs5⟩ ⟨by repeat' (first|exact trivial|exact rfl|refine And.intro ?_ ?_),by repeat' (first|exact trivial|exact rfl|(first|rw [hd8]|rw [hd8'])|refine And.intro ?_ ?_)⟩ ?_
   clear hd8 hd8'
   rintro⟨l,s⟩ ⟨h1,h2,h3⟩
   dsimp only at h1 h2 h3
   obtain⟨b1,fl⟩:=s
   have hml:(l.map cnR).length=l.length:=List.length_map ..
   have hb63:(l.map cnR).length+1<=9223372036854775807:=by rw [hml];omega
   have hb48:((l.map cnR).length+1)* 64<=140737488355328:=by rw [hml];omega
   by_cases hc:l.length < n/\fl=false
   ·obtain⟨hc,rfl⟩:=hc
    have hless:=sN m (b1,false)
    have hnx:=iA (tC m) l.length (b,false) l (b1,false) h1 rfl rfl
    ((conv=>whnf);repeat ((first|(intro hq;try simp only [lnS]at hq)|refine sI ?_|refine .intro _ (.intro rfl ?_));(conv=>whnf)))
    refine aB (λh5=> ?_) (λh5=>absurd hc (by dsimp only at h5;omega))
    clear h5
    ((conv=>whnf);repeat ((first|(intro hq;try simp only [lnS]at hq)|refine sI ?_|refine .intro _ (.intro rfl ?_));(conv=>whnf)))
    refine aN.mid [(0, .ptr 3 0),(1, .d (.int .i64 d)),(4, .ptr 104 0),(5, .ptr 105 0),(6, .d (.int .i64 n)),(7, .d (.int .i64 l.length))] [(200, .own 114 5 ((l.map cnR).length+1)),(105, .cells 114 (cnH kd nm lo hi (.osl 200 5 (l.map cnR++[cnR (tC m (b1,false)).1])))),(104, .cells 114 cnZ),(3,rfO (tC m (b1,false)).2)] ?_ ?_
    ·have ih':=ih (d+1) (by omega) (by omega)
     have hd63: -9223372036854775808<=d+1/\d+1<=9223372036854775807:=by omega
     rw [show (λc:Cn=>SV.d (.agg (cnR c)))= λc=>SV.d (.agg [.int .i64 c.kind, .str c.name, .int .i64 c.lo, .int .i64 c.hi, .sl 5 (c.parts.map cnR)])from funext λc=>by rw [bA]]at ih'
     rw [bA]
     (refine aJ7 (id:=7) hty (.first 2 (.first 3 (.alt 0 (.alt 1 (.alt 4 (.alt 5 (.alt 6 (.alt 7 (.alt 8 (.alt 9 .done .stop) .stop) .stop) .stop) .stop) .stop) (.alt 4 (.alt 1 (.alt 5 (.alt 6 (.alt 7 (.alt 8 (.alt 9 .done .stop) .stop) .stop) .stop) .stop) (.alt 5 (.alt 1 (.alt 6 (.alt 7 (.alt 8 (.alt 9 .done .stop) .stop) .stop) .stop) (.alt 6 (.alt 1 (.alt 7 (.alt 8 (.alt 9 .done .stop) .stop) .stop) .stop) .stop)) .stop)) .stop)) (.alt 4 (.alt 0 (.alt 1 (.alt 5 (.alt 6 (.alt 7 (.alt 8 (.alt 9 .done .stop) .stop) .stop) .stop) .stop) (.alt 5 (.alt 1 (.alt 6 (.alt 7 (.alt 8 (.alt 9 .done .stop) .stop) .stop) .stop) (.alt 6 (.alt 1 (.alt 7 (.alt 8 (.alt 9 .done .stop) .stop) .stop) .stop) .stop)) .stop)) (.alt 5 (.alt 0 (.alt 1 (.alt 6 (.alt 7 (.alt 8 (.alt 9 .done .stop) .stop) .stop) .stop) (.alt 6 (.alt 1 (.alt 7 (.alt 8 (.alt 9 .done .stop) .stop) .stop) .stop) .stop)) (.alt 6 (.alt 0 (.alt 1 (.alt 7 (.alt 8 (.alt 9 .done .stop) .stop) .stop) .stop) .stop) .stop)) .stop)) .stop)))) (by kernel_rfl) (by kernel_rfl) ?_)
     ((conv=>whnf);repeat' ((first|(intro hq;(try simp only [lnS]at hq);(try rewrite [List.length_map]))|refine sJ ?_|refine .intro _ (.intro rfl ?_)|refine exL (k:= ?_)|(refine And.intro hd63 ?_)|(refine And.intro hb63 ?_)|(refine And.intro hb48 ?_)|(refine RfT.call ih' rfl (λ_=>rfl) (b1,false) h3 rfl ?_)|exact trivial|(refine And.intro ?_ ?_)|refine dwR ?_|((first|refine aB ?_ ?_|refine aC ?_ ?_)<;>intro hb<;>(first|exact ddX hb|try simp only [lnS]at hb))|(refine aA ?_ ?_<;>intro hb<;>try exact dsX hb))<;>(conv=>whnf)))
     all_goals exact⟨by repeat' (first|exact trivial|exact rfl|refine And.intro ?_ ?_),by repeat' (first|exact trivial|exact rfl|refine And.intro ?_ ?_)⟩
    ((conv=>whnf);repeat ((first|(intro hq;try simp only [lnS]at hq)|refine sI ?_|refine .intro _ (.intro rfl ?_));(conv=>whnf)))
    refine⟨(l++[(tC m (b1,false)).1],(tC m (b1,false)).2),⟨by dsimp only;rw [List.length_append];exact hnx,by dsimp only;rw [List.length_append,List.length_singleton];omega,Nat.le_trans hless h3⟩,by dsimp only;rw [List.length_append,List.length_singleton];omega, ?_⟩
    dsimp only
    rw [List.map_append,List.length_append,List.length_append]
    exact⟨by repeat' (first|exact trivial|exact rfl|refine And.intro ?_ ?_),by repeat' (first|exact trivial|exact rfl|refine And.intro ?_ ?_)⟩
   have hfull:jI (tC m) n (b,false)=(l,(b1,fl)):=by
    by_cases e:l.length=n
    ·rw [<-e];exact h1
    ·have hd:fl=true:=by
      cases fl with
      |true=>rfl
      |false=>exact absurd ⟨by omega,rfl⟩ hc
     exact hZ (tC m) l.length n (b,false) l (b1,fl) h1 hd h2
   rw [hfull]
   have hstop:l.length < n->fl=true:= λh=>by
    cases fl with
    |true=>rfl
    |false=>exact absurd ⟨h,rfl⟩ hc
   ((conv=>whnf);repeat ((first|(intro hq;try simp only [lnS]at hq)|refine sI ?_|refine .intro _ (.intro rfl ?_));(conv=>whnf)))
   refine aB (λh5=> ?_) (λh5=> ?_)
   ·have hnd:(!fl)=false:=by rw [hstop (by dsimp only at h5;omega)];rfl
    ((conv=>whnf);repeat ((first|(intro hq;try simp only [lnS]at hq)|refine sI ?_|refine .intro _ (.intro rfl ?_));(conv=>whnf)))
    rw [hnd]
    ((conv=>whnf);repeat ((first|(intro hq;try simp only [lnS]at hq)|refine sI ?_|refine .intro _ (.intro rfl ?_));(conv=>whnf)))
    exact⟨_,aL4 dA.osl,rfl,rfl⟩
   ·((conv=>whnf);repeat ((first|(intro hq;try simp only [lnS]at hq)|refine sI ?_|refine .intro _ (.intro rfl ?_));(conv=>whnf)))
    exact⟨_,aL4 dA.osl,rfl,rfl⟩
  ·rw [jZ (tC m) n rfl]
   ((conv=>whnf);repeat' ((first|(intro hq;(try simp only [lnS]at hq);(try rewrite [List.length_map]))|refine sJ ?_|refine .intro _ (.intro rfl ?_)|refine exL (k:= ?_)|(refine eO hty 2 ?_)|refine dwR ?_|((first|refine aB ?_ ?_|refine aC ?_ ?_)<;>intro hb<;>(first|exact ddX hb|try simp only [lnS]at hb))|(refine aA ?_ ?_<;>intro hb<;>try exact dsX hb))<;>(conv=>whnf)))
   all_goals exact⟨_,aL5,rfl,rfl⟩
end Go.Proofs.YtleihcnongldbaaGreatDoor
namespace Go.Proofs.YtleihcnongldbaaGreatDoor
open Go.RowKit
section
variable {P:Program}
theorem qC (w:World) {t:TypeId}{ms:Array (String×TypeId)}(b:Bool) (v:Value) (hv:(v= .nilIface/\b=false)\/ ∃tx x,v= .iface tx x/\b=true) (ht:P.underlying t=some (.interface ms)):(binOp .neq t v .nilIface).run P w= .ok (.bool b) w:=by
 have h: ∀d:Nat,(Op.equalIn (d+1) t v .nilIface).run P w= .ok (!b) w:= λd=>by
  rcases hv with⟨rfl,rfl⟩|⟨tx,x,rfl,rfl⟩<;>simp [Op.equalIn,run_underlying ht]
 simp only [binOp]
 simp [Op.equal,Op.maxDepth,h 9999]
theorem aMp {g:FuncId}{gn:Func}{r0:Nat}{rc nq:Oper}{a c:Nat}{tI tJ:TypeId}{ms:Array (String×TypeId)}{Y:Code}(hg:P.funcs[g]? =some gn) (hb:gn.body=some (.seq (.region r0 #[rc,nq] false) (.cond (.tmp c) Y .skip)))
  (h1:rc.op= .call { callee:= .builtin .recover,args:= #[],argTypes:= #[] }) (h2:rc.dst=some a) (h3:rc.guard=none) (h4:nq.op= .binOp .neq tI (.tmp a) (.const .nilIface) tJ) (h5:nq.dst=some c) (h6:nq.guard=none)
  (hI:P.underlying tI=some (.interface ms)) (ha:a < gn.ntmps) (hc:c < gn.ntmps) (hres:gn.results= #[]) {args:Array Value} (hsz:args.size<=gn.ntmps) {n:Nat} {w:World} {R:Ending->FrameMode->World->Prop} (hR: ∀v,R (.returned v) .returning w):
  CallsDIn (FW none) n P g args .returning w R:=by
 refine callsDIn_of_wpSIn hg hb trivial (λc₀ cs hm=> ?_)
 refine wpSIn_seq (wpSIn_region ?_)
 show wpOpsSIn (FW none) n P #[rc,nq] _ [0,1] _ _ _
 have hrec:recoverD (c₀::cs)=none:=by simp [recoverD,hm]
 have w1: ∀y,Region.wanted rc y=true:= λy=>by simp [Region.wanted,h3]
 have w2: ∀y,Region.wanted nq y=true:= λy=>by simp [Region.wanted,h6]
 have e1: ∀ev:Operand->Value,(execOp ev rc).run P w= .ok .recover w:= λev=>by simp [execOp,h1,resolve,invoke,builtin]
 have k1:(#[rc,nq]:Array Oper)[0]? =some rc:=rfl
 have k2:(#[rc,nq]:Array Oper)[1]? =some nq:=rfl
 simp only [wpOpsSIn,k1,k2,w1,w2,if_true,e1,hrec]
 refine⟨λ_ _=>trivial,λ_ _=>trivial, ?_⟩
 generalize hA:({ tmps:=args++Array.replicate (gn.ntmps - args.size) undef,defers:=[] }:Act)=A
 have hAs:A.tmps.size=gn.ntmps:=by rw [<-hA];simp;omega
 have hAd:A.defers=[]:=by rw [<-hA]
 have ev1:(A.put rc.dst .nilIface).eval (.tmp a)= .nilIface:=by
  rw [h2]
  simp [Act.put,Act.eval,hAs,ha]
 have e2:(execOp (A.put rc.dst .nilIface).eval nq).run P w= .ok (.value (.bool false)) w:=by
  have ev2:(A.put rc.dst .nilIface).eval (.const .nilIface)= .nilIface:=rfl
  simp [execOp,h4,ev1,ev2,eqGuard,qC w false .nilIface (.inl ⟨rfl,rfl⟩) hI]
 rw [e2]
 have ev3:((A.put rc.dst .nilIface).put nq.dst (.bool false)).eval (.tmp c)= .bool false:=by
  rw [h5]
  simp [Act.put,Act.eval,h2,hAs,hc]
 refine wpSIn_cond ev3 ?_
 refine wpSIn_of_wpIn rfl (wpIn_skip ?_)
 refine⟨by rw [put_defers,put_defers];exact hAd, .returning, ?_, .tuple #[], ?_,hR _⟩
 ·rw [<-hm]
 ·simp [results,hres]
theorem aQ3 {g:FuncId}{gn:Func}{r0:Nat}{rc nq:Oper}{a c:Nat}{tI tJ:TypeId}{ms:Array (String×TypeId)}{Y:Code}(hg:P.funcs[g]? =some gn) (hb:gn.body=some (.seq (.region r0 #[rc,nq] false) (.cond (.tmp c) Y .skip)))
  (h1:rc.op= .call { callee:= .builtin .recover,args:= #[],argTypes:= #[] }) (h2:rc.dst=some a) (h3:rc.guard=none) (h4:nq.op= .binOp .neq tI (.tmp a) (.const .nilIface) tJ) (h5:nq.dst=some c) (h6:nq.guard=none)
  (hI:P.underlying tI=some (.interface ms)) (ha:a < gn.ntmps) (hc:c < gn.ntmps) (hres:gn.results= #[]) {args:Array Value} (hsz:args.size<=gn.ntmps) {n:Nat} {w:World} {R:Ending->FrameMode->World->Prop} {t:TypeId} {x:Value}
  (hY : ∀ A : Act, A.tmps = ((args ++ Array.replicate (gn.ntmps - args.size) undef).setIfInBounds a (.iface t x)).setIfInBounds c (.bool true) -> A.defers = [] ->
   Y.wpIn (FW none) n P (λe a' w'=>(e= .normal\/e= .ret)/\a'.defers=[]/\ ∀v,R (.returned v) (.panicking [{ v:= .iface t x,recovered:=true }]) w') A w):
  CallsDIn (FW none) n P g args (.panicking [{ v:= .iface t x,recovered:=false }]) w R:=by
 refine callsDIn_of_wpSIn hg hb trivial (λc₀ cs hm=> ?_)
 refine wpSIn_seq (wpSIn_region ?_)
 show wpOpsSIn (FW none) n P #[rc,nq] _ [0,1] _ _ _
 have hrec:recoverD (c₀::cs)=some (.iface t x,{ c₀ with mode:= .panicking [{ v:= .iface t x,recovered:=true }] }::cs):=by simp [recoverD,hm]
 have w1: ∀y,Region.wanted rc y=true:= λy=>by simp [Region.wanted,h3]
 have w2: ∀y,Region.wanted nq y=true:= λy=>by simp [Region.wanted,h6]
 have e1: ∀ev:Operand->Value,(execOp ev rc).run P w= .ok .recover w:= λev=>by simp [execOp,h1,resolve,invoke,builtin]
 have k1:(#[rc,nq]:Array Oper)[0]? =some rc:=rfl
 have k2:(#[rc,nq]:Array Oper)[1]? =some nq:=rfl
 simp only [wpOpsSIn,k1,k2,w1,w2,if_true,e1,hrec]
 refine⟨λ_ _=>trivial,λ_ _=>trivial, ?_⟩
 generalize hA:({ tmps:=args++Array.replicate (gn.ntmps - args.size) undef,defers:=[] }:Act)=A
 have hAs:A.tmps.size=gn.ntmps:=by rw [<-hA];simp;omega
 have hAd:A.defers=[]:=by rw [<-hA]
 have ev1:(A.put rc.dst (.iface t x)).eval (.tmp a)= .iface t x:=by
  rw [h2]
  simp [Act.put,Act.eval,hAs,ha]
 have e2:(execOp (A.put rc.dst (.iface t x)).eval nq).run P w= .ok (.value (.bool true)) w:=by
  have ev2:(A.put rc.dst (.iface t x)).eval (.const .nilIface)= .nilIface:=rfl
  simp [execOp,h4,ev1,ev2,eqGuard,qC w true (.iface t x) (.inr ⟨_,_,rfl,rfl⟩) hI]
 rw [e2]
 have ev3:((A.put rc.dst (.iface t x)).put nq.dst (.bool true)).eval (.tmp c)= .bool true:=by
  rw [h5]
  simp [Act.put,Act.eval,h2,hAs,hc]
 refine wpSIn_cond ev3 ?_
 refine wpSIn_of_wpIn rfl (wpIn_mono (hY _ ?_ (by rw [put_defers,put_defers];exact hAd)) ?_)
 ·rw [h2,h5,<-hA];rfl
 ·rintro e a' w' ⟨he,hd,hR⟩
  rcases he with rfl|rfl<;>exact⟨hd,_,rfl, .tuple #[],by simp [results,hres],hR _⟩
end
end Go.Proofs.YtleihcnongldbaaGreatDoor
namespace Go.Proofs.YtleihcnongldbaaGreatDoor
open Go.RowKit
section
variable {P:Program}
theorem Mem.relit {E:Entry}{ρ:Env}{hp:Hp}{w:World}(h:Mem E ρ hp w) {i:Nat}{t:TypeId}{cs:List SV}(hi:aT hp i=some (.cells t cs)):
  ∃vs:List Value,vs.length=cs.length/\Mem E ρ (gQ hp i (.cells t (vs.map λv=> .d (.lit v)))) w:=by
 obtain⟨g0,g1,⟨cur,c1,c2,c3,c4⟩,g3⟩:=h.sat i _ hi
 refine⟨cur.toList,by simpa using c2, ?_⟩
 refine⟨h.os,h.tape,h.output,h.size,h.old,h.sold,h.snew,h.slt,h.kp, ?_, ?_, ?_,h.mv, ?_,h.md⟩
 ·intro id o ho
  rw [bN _ hi]at ho
  split at ho
  ·rename_i e;subst e
   injection ho with ho;subst ho
   exact ⟨g0, g1, ⟨cur, c1, by simp, c3, λj s' v hs' hv => by
    rw [List.getElem?_map,Option.map_eq_some_iff]at hs'
    obtain⟨u,hu,rfl⟩:=hs'
    rw [Array.getElem?_toList,hv]at hu
    injection hu with hu
    subst hu
    exact .d _ _ (.lit _)⟩,g3⟩
  ·exact h.sat id o ho
 ·intro id o id' o' g h1 h2 h3 h4
  rw [bN _ hi]at h1 h2
  have key: ∀k x,(if k=i then some (HObj.cells t (cur.toList.map λv=>SV.d (.lit v)))else aT hp k)=some x->ρ.at k x=some g-> ∃x',aT hp k=some x'/\ρ.at k x'=some g:=by
   intro k x hx hg
   split at hx
   ·rename_i e;subst e
    injection hx with hx;subst hx
    exact⟨_,hi,hg⟩
   ·exact⟨x,hx,hg⟩
  obtain⟨x,a1,a2⟩:=key id o h1 h3
  obtain⟨x',b1,b2⟩:=key id' o' h2 h4
  exact h.inj id x id' x' g a1 b1 a2 b2
 ·intro id o g h1 h3
  rw [bN _ hi]at h1
  split at h1
  ·rename_i e;subst e
   injection h1 with h1;subst h1
   exact h.hb id _ g hi h3
  ·exact h.hb id o g h1 h3
 ·intro id oR g h1 hrd h2 id' o' h3 h4
  rw [bN _ hi]at h1 h3
  split at h1
  ·injection h1 with h1;subst h1;exact hrd.elim
  ·split at h3
   ·rename_i e;subst e
    injection h3 with h3;subst h3
    exact h.ro id oR g h1 hrd h2 id' _ hi h4
   ·exact h.ro id oR g h1 hrd h2 id' o' h3 h4
def aVe (x y:Nat) (tx ty:TypeId) (nx:Nat):Fr->Hp->Prop:= λfr hp=>
 gO fr x=some (.ptr x 0)/\gO fr y=some (.ptr y 0)/\(∃cx,aT hp x=some (.cells tx cx)/\cx.length=nx)/\ ∃cy,aT hp y=some (.cells ty [cy])
def KPq (q:Prop) (x y:Nat) (tx ty:TypeId) (nx:Nat):Fr->Hp->Prop:= λfr hp=>q/\aVe x y tx ty nx fr hp
theorem aJr {mk df:Oper}{B:Code}{g d x y j:Nat}
  (m1:mk.op= .makeFunc (.func g) #[] #[.tmp x, .tmp y]) (m2:mk.dst=some d) (m3:mk.guard=none) (d1:df.op= .defer { callee:= .value (.tmp d),args:= #[],argTypes:= #[] }) (d2:df.dst=none) (d3:df.guard=none)
  {E:Entry} {fr:Fr} {hp:Hp} {nt:Nat} {a:Act} {w:World} {Q:Exit->Act->World->Prop} (hd:d < nt) (hs:Sat E nt ⟨fr,hp⟩ a w) (hE:E.k=0/\E.pin.pre=[]) (hx:gO fr x=some (.ptr x 0)) (hy:gO fr y=some (.ptr y 0)) (ids:List Nat) (kp:Fr->Hp->Prop)
  (hB : ∀ ρ gx gy a', Mem E ρ hp w -> ρ.blk x = some gx -> ρ.blk y = some gy ->
   Sat (cL w ρ hp ⟨ids,kp,[{ target:= .fn (.func g) #[.pointer (some ⟨gx,0,none⟩), .pointer (some ⟨gy,0,none⟩)],args:= #[] }]⟩ none E.D) nt ⟨aH6 fr d (.fn g [] [.ptr x 0, .ptr y 0]),hp⟩ a' w->B.wpIn (FW none) 0 P Q a' w):
  (Code.seq (.region j #[mk,df] false) B).wpIn (FW none) 0 P Q a w:=by
 obtain⟨h1,h2,ρ,hm,hf⟩:=hs
 have ex: ∃gx,a.eval (.tmp x)= .pointer (some ⟨gx,0,none⟩)/\ρ.blk x=some gx:=by
  obtain⟨v,q1,q2⟩:=hf x _ hx
  cases q2 with
  |ptr id off gx h=>exact⟨gx,by simp [Act.eval,Array.getD_eq_getD_getElem?,q1],h⟩
 have ey: ∃gy,a.eval (.tmp y)= .pointer (some ⟨gy,0,none⟩)/\ρ.blk y=some gy:=by
  obtain⟨v,q1,q2⟩:=hf y _ hy
  cases q2 with
  |ptr id off gx h=>exact⟨gx,by simp [Act.eval,Array.getD_eq_getD_getElem?,q1],h⟩
 obtain⟨gx,ex,bx⟩:=ex
 obtain⟨gy,ey,by_⟩:=ey
 refine wpIn_seq (wpIn_region ?_)
 show wpOpsIn (FW none) 0 P #[mk,df] _ [0,1] a w
 have w1: ∀y,Region.wanted mk y=true:= λy=>by simp [Region.wanted,m3]
 have w2: ∀y,Region.wanted df y=true:= λy=>by simp [Region.wanted,d3]
 have k1:(#[mk,df]:Array Oper)[0]? =some mk:=rfl
 have k2:(#[mk,df]:Array Oper)[1]? =some df:=rfl
 simp only [wpOpsIn,k1,k2,w1,w2,if_true]
 have e1:(execOp a.eval mk).run P w= .ok (.value (.func (.func g) #[] #[.pointer (some ⟨gx,0,none⟩), .pointer (some ⟨gy,0,none⟩)])) w:=by
  simp [execOp,m1,Instr.makeFunc,ex,ey]
 refine⟨λ_ _=>trivial, ?_⟩
 show Oper.uponIn (FW none) 0 P mk a _ _ ((execOp a.eval mk).run P w)
 rw [e1,Oper.uponIn_value]
 refine⟨λ_ _=>trivial, ?_⟩
 generalize hA:a.put mk.dst (.func (.func g) #[] #[.pointer (some ⟨gx,0,none⟩), .pointer (some ⟨gy,0,none⟩)])=A
 have hv:A.eval (.tmp d)= .func (.func g) #[] #[.pointer (some ⟨gx,0,none⟩), .pointer (some ⟨gy,0,none⟩)]:=by
  rw [<-hA,m2]
  have hd':d < a.tmps.size:=by rw [h1];exact hd
  simp [Act.put,Act.eval,hd']
 have e2:(execOp A.eval df).run P w= .ok (.defer { target:= .fn (.func g) #[.pointer (some ⟨gx,0,none⟩), .pointer (some ⟨gy,0,none⟩)],args:= #[] }) w:=by
  simp [execOp,d1,resolve,hv,Deferred.ofValue]
 show Oper.uponIn (FW none) 0 P df A _ _ ((execOp A.eval df).run P w)
 rw [e2,Oper.uponIn_defer,d2]
 refine hB ρ gx gy _ hm bx by_ ⟨?_, ?_,ρ,hm.enter _ none, ?_⟩
 ·show A.tmps.size=nt
  rw [<-hA,cE];exact h1
 ·show _::A.defers=_
  rw [<-hA,put_defers,h2,hE.1,hE.2];simp [cL]
 ·intro t s ht
  rw [iL]at ht
  show ∃v,A.tmps[t]? =some v/\Rep w ρ s v
  rw [<-hA,m2]
  by_cases e:t=d
  ·subst e
   simp at ht
   subst ht
   have hd':t < a.tmps.size:=by rw [h1];exact hd
   refine⟨.func (.func g) #[] #[.pointer (some ⟨gx,0,none⟩), .pointer (some ⟨gy,0,none⟩)],by simp [Act.put,hd'], ?_⟩
   refine .fn g [] [.ptr x 0, .ptr y 0] #[] #[.pointer (some ⟨gx,0,none⟩), .pointer (some ⟨gy,0,none⟩)] rfl rfl (by intro j s v h;simp at h) ?_
   intro j s v q1 q2
   match j with
   | 0=>simp at q1 q2;subst q1;subst q2;exact .ptr x 0 gx bx
   | 1=>simp at q1 q2;subst q1;subst q2;exact .ptr y 0 gy by_
   |j+2=>simp at q1
  ·simp [e]at ht
   obtain⟨v,q1,q2⟩:=hf t s ht
   refine⟨v, ?_,q2⟩
   simp only [Act.put]
   rw [Array.getElem?_setIfInBounds_ne (Ne.symm e)]
   exact q1
end
end Go.Proofs.YtleihcnongldbaaGreatDoor
namespace Go.Proofs.YtleihcnongldbaaGreatDoor
open Go.RowKit
section
variable {P:Program}
def oJ (post:SV->Prop) (w:World) (ρ:Env) (e:Ending) (w':World):Prop:=
 ∃v S' s,e= .returned v/\post s/\Grew w w'/\(∀b i,ρ.S b i->S' b i)/\(∀b i,S' b i->ρ.S b i\/w.heap.size<=b)/\(∀b i,S' b i->b < w'.heap.size)/\Rep w' (ρ.withS S') s v
theorem aJ6 {ti:TypeId->Option TI}(hti:dT P ti) {fn:Func}{post:SV->Prop}{w w':World}{ρ ρ':Env}{pinX:Pin}{D:List Nat}{k:Nat}{rd:Option Nat}{fr':Fr}{hp':Hp}{tmps:Array Value}(hm:Mem ⟨w,ρ.S,λ_=>False,pinX,ρ,rd,D,k⟩ ρ' hp' w') (hf:dH ρ' w' fr' tmps)
  (hk:nJ ti fr' hp' fn.results.toList (λl=>mQ hp' l λl=>(fD l).ids=[]/\post (fD l))):LeavesInM (FW none) 0 P fn tmps (oJ post w ρ) [] .returning w':=by
 obtain⟨us,l,r1,r2,r3,r4⟩:=aJo hti hm (a:={ tmps:=tmps,defers:=[] }) hf _ _ hk
 obtain⟨l',⟨k1,k2⟩,k3,k4⟩:=rN hm l us _ r2 r3 r4
 refine⟨_,qN (a:={ tmps:=tmps,defers:=[] }) r1,_,Sfz ρ' hp',fD l',rfl,k2,⟨hm.os,hm.tape,hm.output,hm.size,λb hb=>hm.old b hb (λh=>h)⟩,λb i hs=> .inl (hm.sold b i hs), ?_, ?_, ?_⟩
 ·rintro b i (hs|⟨id,e,z,cap,rows,ho,hb,_⟩)
  ·rcases Nat.lt_or_ge b w.heap.size with hlt|hge
   ·exact .inl (hm.snew b i hs hlt (λh=>h))
   ·exact .inr hge
  ·rcases hm.hb id _ b ho hb with hge|hB
   ·exact .inr hge
   ·exact hB.elim
 ·rintro b i (hs|⟨id,e,z,cap,rows,ho,hb,_⟩)
  ·exact hm.slt b i hs
  ·exact hm.blk_lt ho hb
 ·refine(xB (w:=w') (ρ:=ρ'.withS (Sfz ρ' hp')) (l:=l') (by rw [k3];exact r2) k4).mono (λ_ _ _=>rfl) (λ_ _ h=>h) λid hid=> ?_
  rw [k1]at hid
  cases hid
theorem aG0 {fn gn:Func}{g:FuncId}{cv:Array Value}{tmps:Array Value}{R:Ending->World->Prop}{u:FrameMode}{w:World}(hu:u≠ .run) (hg:P.funcs[g]? =some gn) (hcall:dR P g=true)
  (h : CallsDIn (FW none) 0 P g cv u w fun
     | .returned _,u',w'=>LeavesInM (FW none) 0 P fn tmps R [] (settle u') w'
     | .panicked chain,u',w'=>LeavesInM (FW none) 0 P fn tmps R [] (raised u' chain) w'
     | .outgrown,_,w'=>R .outgrown w'):LeavesInM (FW none) 0 P fn tmps R [{ target:= .fn (.func g) cv,args:= #[] }] u w:=by
 refine⟨hu, .inr ⟨λh=>(by cases h), .func g,cv,g,cv,rfl, ?_,λ_ _=>trivial,h⟩⟩
 unfold dR at hcall
 rw [hg]at hcall
 simp only [Bool.and_eq_true,Bool.not_eq_true']at hcall
 obtain⟨c1,c2⟩:=hcall
 have c3:gn.body.isNone=false:=by cases hb:gn.body<;>simp_all
 simp only [invoke,callFunc,Sem.run_bind,Sem.run_pure,Result.andThen_ok,run_program,hg,c2,c3,Bool.false_eq_true,if_false]
 simp
end
end Go.Proofs.YtleihcnongldbaaGreatDoor
namespace Go.Proofs.YtleihcnongldbaaGreatDoor
open Go.RowKit
section
variable {P:Program}
theorem aEj {F:Fence}{n:Nat}{ops:Array Oper}{Q:Exit->Act->World->Prop}{a:Act}{w:World}(h:wpOpsIn F n P ops.toList.toArray Q (List.range' 0 ops.toList.length) a w):wpOpsIn F n P ops Q (List.range ops.size) a w:=by
 simpa [List.range_eq_range']using h
theorem aEa (zc:Bool) (frz:List Nat) {ti:TypeId->Option TI}(hti:dT P ti) {f:FuncId}{fn:Func}{i j:Nat}{opsA:Array Oper}{mk df:Oper}{B:Code}
  (hf:P.funcs[f]? =some fn) (hb:fn.body=some (.seq (.region i opsA false) (.seq (.region j #[mk,df] false) B)))
  {g:FuncId} {gn:Func} {r0 r1 r2:Nat} {rc nq:Oper} {a c:Nat} {tI tJ:TypeId} {ms:Array (String×TypeId)} {o1 o2:Array Oper}
  (hg:P.funcs[g]? =some gn) (hgb:gn.body=some (.seq (.region r0 #[rc,nq] false) (.cond (.tmp c) (.seq (.region r1 o1 false) (.region r2 o2 false)) .skip)))
  (h1:rc.op= .call { callee:= .builtin .recover,args:= #[],argTypes:= #[] }) (h2:rc.dst=some a) (h3:rc.guard=none) (h4:nq.op= .binOp .neq tI (.tmp a) (.const .nilIface) tJ) (h5:nq.dst=some c) (h6:nq.guard=none)
  (hI:P.underlying tI=some (.interface ms)) (ha:a < gn.ntmps) (hc:c < gn.ntmps) (hac:2<=a) (hcc:2<=c) (hgr:gn.results= #[]) (hcall:dR P g=true)
  {d x y:Nat} {tx ty:TypeId}
  (m1:mk.op= .makeFunc (.func g) #[] #[.tmp x, .tmp y]) (m2:mk.dst=some d) (m3:mk.guard=none) (d1:df.op= .defer { callee:= .value (.tmp d),args:= #[],argTypes:= #[] }) (d2:df.dst=none) (d3:df.guard=none) (hd:d < fn.ntmps) (hxy:x≠y)
  (keep keepY:Nat->Bool) (pin:List Nat) (args:List SV) (hp:Hp) (post:SV->Prop) (nx:Nat) (q:Prop) (hn:args.length<=fn.ntmps) (hnd:(hp.map (·.1)).Nodup)
  (hA : aBq ⟨P, ti, vF pin, fn.ntmps, keep, 0, none, zc, frz⟩ opsA.toList (λfr hp1 => gO fr x = some (.ptr x 0) /\ gO fr y = some (.ptr y 0) /\
   ∀pre,X ⟨P,ti,⟨x::y::pin,KPq q x y tx ty nx,pre⟩,fn.ntmps,keep,0,none,zc,frz⟩ B (aH6 fr d (.fn g [] [.ptr x 0, .ptr y 0])) hp1 (aHa ti fn.results.toList post)) opsA.toList (lP 0 args) (roH hp))
  (hY : q -> ∀ (vx : List Value) (vy : Value), vx.length = nx -> aBq ⟨P, ti, vF (x :: y :: pin), gn.ntmps, keepY, 200, none, false, []⟩ o1.toList (λfr hp1 => aBq ⟨P, ti, vF (x :: y :: pin), gn.ntmps, keepY, 200, none, false, []⟩ o2.toList
   (λ_ hp2=>nJ ti [(x, .ptr x 0),(y, .ptr y 0)] hp2 fn.results.toList (λl=>mQ hp2 l λl=>(fD l).ids=[]/\post (fD l))) o2.toList fr hp1) o1.toList [(0, .ptr x 0),(1, .ptr y 0)] [(x, .cells tx (vx.map λv=> .d (.lit v))),(y, .cells ty [.d (.lit vy)])]):
  Tri P f args hp post:=by
 intro w ρ vs hslt hargs hro
 refine lO (r:=none) (n:=0) |>.1 (callsIn_of_wp_marks hf hb trivial ?_)
 have hm:Mem ⟨w,ρ.S,λ_=>False,vF pin,ρ,none,[],0⟩ ρ (roH hp) w:=by
  have hat: ∀id o,aT (roH hp) id=some o->ρ.at id o=none:=by
   intro id o ho
   rcases vW hp id o hnd ho with⟨t,cs,rfl,_⟩|⟨g,z,rows,rfl,_⟩|⟨X,rfl,_⟩
   ·rfl
   ·rfl
   ·rfl
  refine⟨rfl,rfl, .refl _,Nat.le_refl _,λ_ _ _=>rfl,λ_ _ h=>h,λ_ _ h _ _=>h,hslt,λ_ _ _=>rfl, ?_, ?_, ?_,λid _=>ρ.moved_refl id, ?_,λb hb=>by cases hb⟩
  ·intro id o ho
   rcases vW hp id o hnd ho with⟨t,cs,rfl,h|h⟩|⟨g,z,rows,rfl,h⟩|⟨X,rfl,h|h⟩
   ·exact hro id _ h
   ·exact hro id _ h
   ·exact hro id _ h
   ·exact hro id _ h
   ·exact hro id _ h
  ·intro id o id' o' g h1 _ h3 _;rw [hat id o h1]at h3;cases h3
  ·intro id o g h1 h3;rw [hat id o h1]at h3;cases h3
  ·intro id x g _ _ _ id' o' h3 h4;rw [hat id' o' h3]at h4;cases h4
 have hfs:dH ρ w (lP 0 args) (vs++Array.replicate (fn.ntmps - vs.size) undef):=by
  intro t s ht
  obtain⟨_,h2⟩:=oV args 0 t s ht
  simp only [Nat.sub_zero]at h2
  have hlt:=(List.getElem?_eq_some_iff.1 h2).1
  have hlt':t < vs.size:=by rw [hargs.1];exact hlt
  refine⟨vs[t], ?_,hargs.2 t s _ h2 (Array.getElem?_eq_getElem hlt')⟩
  rw [Array.getElem?_append_left hlt',Array.getElem?_eq_getElem hlt']
 refine wpIn_seq (wpIn_region ?_)
 have key : ∀ fr1 hp1 a1 w1, (gO fr1 x = some (.ptr x 0) /\ gO fr1 y = some (.ptr y 0) /\
   ∀pre,X ⟨P,ti,⟨x::y::pin,KPq q x y tx ty nx,pre⟩,fn.ntmps,keep,0,none,zc,frz⟩ B (aH6 fr1 d (.fn g [] [.ptr x 0, .ptr y 0])) hp1 (aHa ti fn.results.toList post))->
   Sat ⟨w,ρ.S,λ_=>False,vF pin,ρ,none,[],0⟩ fn.ntmps ⟨fr1,hp1⟩ a1 w1->
   (Code.seq (.region j #[mk,df] false) B).wpIn (FW none) 0 P (bodyPostM (FW none) 0 P fn (oJ post w ρ)) a1 w1:=by
  rintro fr1 hp1 a1 w1 ⟨kx,ky,kB⟩ hs
  refine aJr m1 m2 m3 d1 d2 d3 hd hs ⟨rfl,rfl⟩ kx ky (x::y::pin) (KPq q x y tx ty nx) ?_
  intro ρ1 gx gy a2 hm1 bx by_ hs2
  generalize hdfr:({ target:= .fn (.func g) #[.pointer (some ⟨gx,0,none⟩), .pointer (some ⟨gy,0,none⟩)],args:= #[] }:Deferred)=dfr at hs2
  refine wpIn_mono (oI (C:=⟨P,ti,⟨x::y::pin,KPq q x y tx ty nx,[dfr]⟩,fn.ntmps,keep,0,none,zc,frz⟩) hti B _ _ _ (kB _) (cL w1 ρ1 hp1 ⟨x::y::pin,KPq q x y tx ty nx,[dfr]⟩ none []) a2 w1 rfl rfl hs2) ?_
  rintro e a' w' ⟨e0,fr',hp',E',hE,hrel,hk,hnt,hdf,ρ',hm',hf'⟩
  obtain⟨own,q1,q2,q3,q4,q5⟩:=aB1 hE rfl
  have hpre:E'.pin.pre=[dfr]:=by rw [hE.pin];rfl
  have fin:nJ ti fr' hp' fn.results.toList (λl=>mQ hp' l λl=>(fD l).ids=[]/\post (fD l))->LeavesInM (FW none) 0 P fn a'.tmps (oJ post w ρ) a'.defers .returning w':=by
   intro hk
   rw [hdf,q2,hpre]
   refine tQ (by simp) [dfr] own E' w' hm' ⟨_,q1,q5⟩ q4 q3 ?_
   rintro E'' w'' ⟨p1,p2,p3,p4,p5,p6⟩ hm'' hkp
   have hmE:=hm1.leave (pin:=⟨x::y::pin,KPq q x y tx ty nx,[dfr]⟩) (rd:=none) hm'' ⟨p1.trans hE.w,p2.trans hE.S,p3.trans hE.B,p4.trans hE.pin,p5.trans hE.ρ,λb hb=>by cases hb⟩ (λid hid=>List.mem_cons_of_mem _ (List.mem_cons_of_mem _ hid))
   have hf'':dH ρ' w'' fr' a'.tmps:=hf'.mono hkp (λ_ _ x=>x) λi _=>ρ'.moved_refl i
   rw [<-hdfr]
   exact aG0 (by simp) hg hcall (aMp hg hgb h1 h2 h3 h4 h5 h6 hI ha hc hgr (by simp;omega) (λv=>aJ6 hti hmE hf'' hk))
  have finp: ∀ch,Chn ch->KPq q x y tx ty nx fr' hp'->LeavesInM (FW none) 0 P fn a'.tmps (oJ post w ρ) a'.defers (.panicking ch) w':=by
   rintro ch ⟨t,v,rfl⟩ ⟨hqq,kx',ky',⟨cx,hx',lx⟩,cy,hy'⟩
   rw [hdf,q2,hpre]
   refine tQ (by simp) [dfr] own E' w' hm' ⟨_,q1,q5⟩ q4 q3 ?_
   rintro E'' w'' ⟨p1,p2,p3,p4,p5,p6⟩ hm'' hkp
   have hmE:=hm1.leave (pin:=⟨x::y::pin,KPq q x y tx ty nx,[dfr]⟩) (rd:=none) hm'' ⟨p1.trans hE.w,p2.trans hE.S,p3.trans hE.B,p4.trans hE.pin,p5.trans hE.ρ,λb hb=>by cases hb⟩ (λid hid=>List.mem_cons_of_mem _ (List.mem_cons_of_mem _ hid))
   have hf'':dH ρ' w'' fr' a'.tmps:=hf'.mono hkp (λ_ _ x=>x) λi _=>ρ'.moved_refl i
   have hmv:=hm''.mv
   rw [p4.trans hE.pin,p5.trans hE.ρ]at hmv
   have bx':ρ'.blk x=some gx:=(hmv x (List.mem_cons_self ..)).1.trans bx
   have by':ρ'.blk y=some gy:=(hmv y (List.mem_cons_of_mem _ (List.mem_cons_self ..))).1.trans by_
   have hmY := hmE.sub (hp' := [(x, .cells tx cx), (y, .cells ty [cy])]) (by
    intro id o h
    simp only [aT]at h
    split at h
    ·rename_i e;subst e;injection h with h;subst h;exact hx'
    ·split at h
     ·rename_i e;subst e;injection h with h;subst h;exact hy'
     ·cases h)
   obtain⟨vx,lvx,hmY⟩:=hmY.relit (i:=x) (t:=tx) (cs:=cx) (by simp [aT])
   rw [show gQ [(x,HObj.cells tx cx),(y, .cells ty [cy])] x (.cells tx (vx.map λv=> .d (.lit v)))=[(x, .cells tx (vx.map λv=> .d (.lit v))),(y, .cells ty [cy])]by simp [gQ]]at hmY
   obtain⟨vyl,lvy,hmY⟩:=hmY.relit (i:=y) (t:=ty) (cs:=[cy]) (by simp [aT,hxy])
   obtain⟨vy,rfl⟩: ∃vy,vyl=[vy]:=by
    match vyl,lvy with
    | [v],_=>exact⟨v,rfl⟩
   rw [show gQ [(x,HObj.cells tx (vx.map λv=> .d (.lit v))),(y, .cells ty [cy])] y (.cells ty ([vy].map λv=> .d (.lit v)))=[(x, .cells tx (vx.map λv=> .d (.lit v))),(y, .cells ty [.d (.lit vy)])]by simp [gQ,hxy]]at hmY
   have hfx:dH ρ' w'' [(x, .ptr x 0),(y, .ptr y 0)] a'.tmps:=by
    intro t s ht
    simp only [gO]at ht
    split at ht
    ·rename_i e;subst e;injection ht with ht;subst ht;exact hf'' _ _ kx'
    ·split at ht
     ·rename_i e;subst e;injection ht with ht;subst ht;exact hf'' _ _ ky'
     ·cases ht
   rw [<-hdfr]
   refine aG0 (by simp) hg hcall (aQ3 hg hgb h1 h2 h3 h4 h5 h6 hI ha hc hgr (by simp;omega) ?_)
   intro A hAt hAd
   have sY:Sat (cL w'' ρ' [(x, .cells tx (vx.map λv=> .d (.lit v))),(y, .cells ty [.d (.lit vy)])] (vF (x::y::pin)) none []) gn.ntmps ⟨[(0, .ptr x 0),(1, .ptr y 0)],[(x, .cells tx (vx.map λv=> .d (.lit v))),(y, .cells ty [.d (.lit vy)])]⟩ A w'':=by
    refine⟨by rw [hAt];simp;omega,by rw [hAd];rfl,ρ',hmY.enter (vF (x::y::pin)) none, ?_⟩
    intro t s ht
    simp only [gO]at ht
    split at ht
    ·rename_i e
     subst e
     injection ht with ht
     subst ht
     refine⟨.pointer (some ⟨gx,0,none⟩), ?_, .ptr x 0 gx bx'⟩
     rw [hAt,Array.getElem?_setIfInBounds_ne (by omega),Array.getElem?_setIfInBounds_ne (by omega),Array.getElem?_append_left (by simp)]
     rfl
    ·split at ht
     ·rename_i e
      subst e
      injection ht with ht
      subst ht
      refine⟨.pointer (some ⟨gy,0,none⟩), ?_, .ptr y 0 gy by'⟩
      rw [hAt,Array.getElem?_setIfInBounds_ne (by omega),Array.getElem?_setIfInBounds_ne (by omega),Array.getElem?_append_left (by simp)]
      rfl
     ·cases ht
   refine wpIn_seq (wpIn_region ?_)
   have last: ∀fr2 hp2 a2 w2,nJ ti [(x, .ptr x 0),(y, .ptr y 0)] hp2 fn.results.toList (λl=>mQ hp2 l λl=>(fD l).ids=[]/\post (fD l))->
     Sat (cL w'' ρ' [(x, .cells tx (vx.map λv=> .d (.lit v))),(y, .cells ty [.d (.lit vy)])] (vF (x::y::pin)) none []) gn.ntmps ⟨fr2,hp2⟩ a2 w2->a2.defers=[]/\LeavesInM (FW none) 0 P fn a'.tmps (oJ post w ρ) [] .returning w2:=by
    rintro fr2 hp2 a2 w2 hk2 ⟨_,s2,ρ2,hm2,_⟩
    refine⟨by rw [s2];rfl, ?_⟩
    have hmF:=hmY.leave (pin:=vF (x::y::pin)) (rd:=none) hm2 ⟨rfl,rfl,rfl,rfl,rfl,λb hb=>by cases hb⟩ (λid hid=> ?_)
    ·refine aJ6 hti hmF (hfx.mono hm2.kp hm2.sold λid hid=>hm2.mv id ?_) hk2
     have hid:id=x\/id=y:=by simpa [gR,SV.ids]using hid
     show id∈x::y::pin
     rcases hid with e|e
     ·rw [e];exact List.mem_cons_self ..
     ·rw [e];exact List.mem_cons_of_mem _ (List.mem_cons_self ..)
    ·exact List.mem_cons_of_mem _ (List.mem_cons_of_mem _ hid)
   have f2: ∀fr2 hp2 a2 w2,aBq ⟨P,ti,vF (x::y::pin),gn.ntmps,keepY,200,none,false,[]⟩ o2.toList
     (λ_ hp2=>nJ ti [(x, .ptr x 0),(y, .ptr y 0)] hp2 fn.results.toList (λl=>mQ hp2 l λl=>(fD l).ids=[]/\post (fD l))) o2.toList fr2 hp2->
     Sat (cL w'' ρ' [(x, .cells tx (vx.map λv=> .d (.lit v))),(y, .cells ty [.d (.lit vy)])] (vF (x::y::pin)) none []) gn.ntmps ⟨fr2,hp2⟩ a2 w2->
     wpOpsIn (FW none) 0 P o2 (λe aY wY=>(e= .normal\/e= .ret)/\aY.defers=[]/\ ∀v':Value,LeavesInM (FW none) 0 P fn a'.tmps (oJ post w ρ) [] (settle (.panicking [{ v:= .iface t v,recovered:=true }])) wY) (List.range o2.size) a2 w2:=by
    intro fr2 hp2 a2 w2 hk2 hs2
    have:=sD (C:=⟨P,ti,vF (x::y::pin),gn.ntmps,keepY,200,none,false,[]⟩) hti (all:=o2.toList) (E:=cL w'' ρ' [(x, .cells tx (vx.map λv=> .d (.lit v))),(y, .cells ty [.d (.lit vy)])] (vF (x::y::pin)) none [])
     (Q:= λe aY wY=>(e= .normal\/e= .ret)/\aY.defers=[]/\ ∀v':Value,LeavesInM (FW none) 0 P fn a'.tmps (oJ post w ρ) [] (settle (.panicking [{ v:= .iface t v,recovered:=true }])) wY) rfl
     (λfr3 hp3 a3 w3 hk3 hs3 => by
      obtain⟨z1,z2⟩:=last fr3 hp3 a3 w3 hk3 hs3
      exact⟨.inl rfl,z1,λ_=>z2⟩) (λ_ _ _ _ _ _ hk=>hk.elim) o2.toList 0 _ _ _ _ rfl hk2 hs2
    exact aEj this
   have f1:=sD (C:=⟨P,ti,vF (x::y::pin),gn.ntmps,keepY,200,none,false,[]⟩) hti (all:=o1.toList) (E:=cL w'' ρ' [(x, .cells tx (vx.map λv=> .d (.lit v))),(y, .cells ty [.d (.lit vy)])] (vF (x::y::pin)) none [])
    (Q := Exit.then ((Code.region r2 o2 false).wpIn (FW none) 0 P (λe aY wY => (e = .normal \/ e = .ret) /\ aY.defers = [] /\ ∀ v' : Value, LeavesInM (FW none) 0 P fn a'.tmps (oJ post w ρ) [] (settle (.panicking [{ v := .iface t v, recovered := true }])) wY))
     (λe aY wY=>(e= .normal\/e= .ret)/\aY.defers=[]/\ ∀v':Value,LeavesInM (FW none) 0 P fn a'.tmps (oJ post w ρ) [] (settle (.panicking [{ v:= .iface t v,recovered:=true }])) wY)) rfl
    (λfr2 hp2 a2 w2 hk2 hs2=>wpIn_region (f2 fr2 hp2 a2 w2 hk2 hs2)) (λ_ _ _ _ _ _ hk=>hk.elim) o1.toList 0 _ _ _ _ rfl (hY hqq vx vy (lvx.trans lx)) sY
   exact aEj f1
  cases e0<;>cases e<;>simp only [Ex.rel]at hrel<;>simp only [KX,aHa]at hk
  ·exact fin hk
  ·exact hk.elim
  ·exact hk.elim
  ·exact fin hk
  ·exact finp _ hrel hk
 have s0:Sat ⟨w,ρ.S,λ_=>False,vF pin,ρ,none,[],0⟩ fn.ntmps ⟨lP 0 args,roH hp⟩ { tmps:=vs++Array.replicate (fn.ntmps - vs.size) undef,defers:=[] } w:=by
  refine⟨?_,rfl,ρ,hm,hfs⟩
  simp only [Array.size_append,Array.size_replicate]
  have:=hargs.1
  omega
 have:=sD (C:=⟨P,ti,vF pin,fn.ntmps,keep,0,none,zc,frz⟩) hti (all:=opsA.toList) (E:=⟨w,ρ.S,λ_=>False,vF pin,ρ,none,[],0⟩) (Q:=Exit.then ((Code.seq (.region j #[mk,df] false) B).wpIn (FW none) 0 P (bodyPostM (FW none) 0 P fn (oJ post w ρ))) (bodyPostM (FW none) 0 P fn (oJ post w ρ))) rfl (λfr hp a w hk hs=>key fr hp a w hk hs) (λ_ _ _ _ _ _ hk=>hk.elim) opsA.toList 0 _ _ _ _ rfl hA s0
 exact aEj this
end
end Go.Proofs.YtleihcnongldbaaGreatDoor
namespace Go.Proofs.YtleihcnongldbaaGreatDoor
open Go.Proofs Go.RowKit
set_option maxRecDepth 10000
attribute [local irreducible] aN aJ Tri aI YVC cP bE
theorem tB {α:Type}{rd:Rd α}{wr:α->List UInt8×Int}{zero:α}{bad:Int}{b c:List UInt8}{x:α}(h:rd b=some (x,c)):eM rd wr zero bad b=if c=[]/\wr x=(b,0)then (x,0)else (zero,bad):=by
 unfold eM
 rw [h]
 cases c with
 |nil=>simp
 |cons _ _=>simp
theorem yM {α:Type}{rd:Rd α}{wr:α->List UInt8×Int}{zero:α}{bad:Int}{b:List UInt8}(h:rd b=none):eM rd wr zero bad b=(zero,bad):=by
 unfold eM;rw [h]
theorem iQ (a b:List UInt8):Tri Tryz.prog 78 [.d (.sl 1 (a.map aM)), .d (.sl 1 (b.map aM))] [] (λr=>r= .d (.bool (decide (a=b)))):=by
 have ha:=fX a
 have hb:=fX b
 refine aF hty Tryz.func78 rfl (kp [0,1,4]) [] _ _ _ (by simp [Tryz.f78]) (by simp) ?_
 ((conv=>whnf);repeat' ((first|(intro hq;(try simp only [lnS]at hq);(try rewrite [List.length_map]))|refine sJ ?_|refine .intro _ (.intro rfl ?_)|refine exL (k:= ?_)|refine dwR ?_|((first|refine aB ?_ ?_|refine aC ?_ ?_)<;>intro hb<;>(first|exact ddX hb|try simp only [lnS]at hb))|(refine aA ?_ ?_<;>intro hb<;>try exact dsX hb))<;>(conv=>whnf)))
 rw [ha,hb]
 rfl
theorem aL {α:Type}{l:List α}{n:Nat}(h:l.length=n+1): ∃c m,l=c::m/\m.length=n:=by
 cases l with
 |nil=>cases h
 |cons c m=>exact⟨c,m,rfl,by simpa using h⟩
def aOy:Dig:=⟨List.replicate 32 0,rfl⟩
end Go.Proofs.YtleihcnongldbaaGreatDoor
