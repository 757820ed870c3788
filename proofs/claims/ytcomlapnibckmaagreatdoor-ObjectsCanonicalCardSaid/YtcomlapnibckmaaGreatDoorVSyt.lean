/-
  Objects: Query as the program writes it. Statements one after another, the state between them said once.
  Conditions: none.
-/
import Derived.Test.YtcomlapnibckmaaGreatDoorVQqh
import Derived.Test.YtcomlapnibckmaaGreatDoorVSyd
set_option linter.unnecessarySimpa false
set_option linter.unusedSectionVars false
set_option linter.unusedSimpArgs false
set_option linter.unusedVariables false
set_option maxHeartbeats 16000000
namespace Go.Proofs.YtcomlapnibckmaaGreatDoor
open Go.Proofs Go.RowKit
set_option maxRecDepth 10000
attribute [local irreducible] aN aH Tri aF YVC cM bB
theorem aFz {a:At}(h:atE a=0):a.name.length<=24/\a.x.length<=24/\a.y.length<=24:=by
 unfold atE at h
 by_cases h1:a.kind < 1\/3 < a.kind
 ·rw [if_pos h1]at h;simp at h
 rw [if_neg h1]at h
 by_cases h2:(a.kind≠2/\a.y≠[])\/(a.kind≠3/\(a.lo≠0\/a.hi≠0))
 ·rw [if_pos h2]at h;simp at h
 rw [if_neg h2]at h
 by_cases h3:a.lo < -1099511627776\/a.hi < a.lo\/1099511627776 < a.hi
 ·rw [if_pos h3]at h;simp at h
 rw [if_neg h3]at h
 by_cases h4:zP a.name=false
 ·rw [if_pos h4]at h;simp at h
 rw [if_neg h4]at h
 by_cases h5:lI a.x=false
 ·rw [if_pos h5]at h;simp at h
 rw [if_neg h5]at h
 by_cases h6:a.kind=2/\lI a.y=false
 ·rw [if_pos h6]at h;simp at h
 refine⟨xN (by simpa using h4),tP (by simpa using h5), ?_⟩
 by_cases h7:a.kind=2
 ·refine tP ?_
  cases h8:lI a.y
  ·exact absurd ⟨h7,h8⟩ h6
  ·rfl
 ·have:a.y=[]:=by
   refine Classical.byContradiction λh8=>h2 (.inl ⟨h7,h8⟩)
  rw [this];simp
theorem aA6 {q:Qy}(h:qE q=0):(wQy q).length<=1000000:=by
 rw [aGp]at h
 by_cases h1:hJ q≠0
 ·rw [if_pos h1]at h;exact absurd h h1
 rw [if_neg h1]at h
 by_cases h2:dB q.parts.flatten≠0
 ·rw [if_pos h2]at h;exact absurd h h2
 rw [if_neg h2]at h
 by_cases h3:rS q.told q.parts≠0
 ·rw [if_pos h3]at h;exact absurd h h3
 have h1:=Decidable.not_not.1 h1
 have h2:=(lD _).1 (Decidable.not_not.1 h2)
 have h3:=Decidable.not_not.1 h3
 unfold hJ at h1
 split at h1
 ·simp at h1
 ·split at h1
  ·simp at h1
  ·rename_i a1 a2
   have hp: ∀p∈q.parts,p.length<=12:=by
    intro p hp
    have h3:(q.parts.any λp=>decide (p.length < 1) || decide (12 < p.length))=false:=by simpa using a2
    have h4:=List.any_eq_false.1 h3 p hp
    simp at h4
    omega
   have ht: ∀s∈q.told,uZ s=true:=by
    unfold rS at h3
    split at h3
    ·simp at h3
    ·rename_i h5
     intro s hs
     cases hv:uZ s with
     |true=>rfl
     |false=>exact absurd (List.any_eq_true.2 ⟨s,hs,by rw [hv];rfl⟩) h5
   have e1:((q.told.map dO).flatten).length<=q.told.length * 21:=eM λs hs=>by
    have:=wS (ht s hs)
    unfold dO
    simp only [List.length_append,aT]
    omega
   have e2:((q.parts.map (bP wAt)).flatten).length<=q.parts.length * 1300:=eM λp hp'=>by
    have e3:((p.map wAt).flatten).length<=p.length * 101:=eM λa ha=>by
     obtain⟨b1,b2,b3⟩:=aFz (h2 a (List.mem_flatten.2 ⟨p,hp',ha⟩))
     unfold wAt dO
     simp only [List.length_append,aT,cK,aP]
     omega
    have:=hp p hp'
    unfold bP
    simp only [List.length_append,aT]
    omega
   unfold wQy
   unfold bP at *
   simp only [List.length_append,aT]at *
   omega
theorem aCa {q:Qy}(h:qE q≠0):wN q=([],qE q):=by unfold wN;rw [if_neg h]
theorem aEr {q:Qy}(h:qE q=0):wN q=(wQy q,0):=by unfold wN;rw [if_pos h]
theorem oE (q:Qy):Tri Tryz.prog 13 [.d (.agg (qyR q))] NG (λr=>r= .tup [.d (.sl 1 ((wN q).1.map bC)), .d (.int .i64 (wN q).2)]):=by
 refine Tri.says ?_
 have hw:=aCb q
 have hc:=oB q
 have h1:=aCa (q:=q)
 have h2:=aEr (q:=q)
 have h3:=aA6 (q:=q)
 generalize wQy q=out at *
 generalize wN q=res at *
 generalize qE q=qe at *
 obtain⟨told,parts⟩:=q
 rw [show qyR ⟨told,parts⟩=[.sl 1 (told.map cF), .sl 1 (parts.map bK)]from rfl]at *
 refine aG false [] hty Tryz.func13 rfl (kp [0,1,2,3,4,8]) [] _ _ _ (by simp [Tryz.f13]) (by decide) ?_
 ((conv=>whnf);repeat ((first|(refine aD [] hc trivial (λr hs=> ?_);subst hs)|(intro hq;try simp only [lnS]at hq)|refine sI ?_|refine .intro _ (.intro rfl ?_));(conv=>whnf)))
 refine aC (λq1=> ?_) (λq1=> ?_)
 ·rw [h1 q1]
  ((conv=>whnf);repeat ((first|(intro hq;try simp only [lnS]at hq)|refine sI ?_|refine .intro _ (.intro rfl ?_));(conv=>whnf)))
  exact⟨_,pairN (.d .nil) _,rfl⟩
 have q1:qe=0:=by simpa using q1
 rw [h2 q1]
 have h3:=h3 q1
 clear h1 h2 hc
 ((conv=>whnf);repeat' ((first|(intro hq;(try simp only [lnS]at hq);(try rewrite [List.length_map]))|refine sJ ?_|refine .intro _ (.intro rfl ?_)|refine exL (k:= ?_)|refine dwR ?_|((first|refine aB ?_ ?_|refine aC ?_ ?_)<;>intro hb<;>(first|exact ddX hb|try simp only [lnS]at hb))|(refine aA ?_ ?_<;>intro hb<;>try exact dsX hb))<;>(conv=>whnf)))
 refine aH.ownH 4 104 88 5 1 rfl (cD (by with_unfolding_all exact rfl)) (fD (by with_unfolding_all exact rfl)) ?_
 refine WrT.call hw rfl [] (by rw [List.length_nil];omega) (by decide) rfl rfl ?_
 rw [List.nil_append]
 ((conv=>whnf);repeat ((first|(intro hq;try simp only [lnS]at hq)|refine sI ?_|refine .intro _ (.intro rfl ?_));(conv=>whnf)))
 exact⟨_, .refl _,rfl⟩
end Go.Proofs.YtcomlapnibckmaaGreatDoor
namespace Go.Proofs.YtcomlapnibckmaaGreatDoor
open Go.RowKit
section
variable {P:Program}
theorem tO (zc:Bool) (frz:List Nat) {ti:TypeId->Option TI}(hti:cW P ti) {f:FuncId}{fn:Func}{c:Code}(hf:P.funcs[f]? =some fn) (hb:fn.body=some c) (keep:Nat->Bool) (pin:List Nat) (args:List SV) (hp:Hp) (post:SV->Prop)
  (hn:args.length<=fn.ntmps) (hnd:(hp.map (·.1)).Nodup) (hx:aN ⟨P,ti,lQ pin,fn.ntmps,keep,0,none,zc,frz⟩ c (fM 0 args) (roH hp) (tT ti fn.results.toList post)):Tri P f args hp post:=by
 intro w ρ vs hslt hargs hro
 refine eO (r:=none) (n:=0) |>.1 (callsIn_of_wp_marks hf hb trivial ?_)
 have hm:Mem ⟨w,ρ.S,λ_=>False,lQ pin,ρ,none,[],0⟩ ρ (roH hp) w:=by
  have hat: ∀id o,aO (roH hp) id=some o->ρ.at id o=none:=by
   intro id o ho
   rcases iW hp id o hnd ho with⟨t,cs,rfl,_⟩|⟨g,z,rows,rfl,_⟩|⟨X,rfl,_⟩
   ·rfl
   ·rfl
   ·rfl
  refine⟨rfl,rfl, .refl _,Nat.le_refl _,λ_ _ _=>rfl,λ_ _ h=>h,λ_ _ h _ _=>h,hslt,λ_ _ _=>rfl, ?_, ?_, ?_,λid _=>ρ.moved_refl id, ?_,λb hb=>by cases hb⟩
  ·intro id o ho
   rcases iW hp id o hnd ho with⟨t,cs,rfl,h|h⟩|⟨g,z,rows,rfl,h⟩|⟨X,rfl,h|h⟩
   ·exact hro id _ h
   ·exact hro id _ h
   ·exact hro id _ h
   ·exact hro id _ h
   ·exact hro id _ h
  ·intro id o id' o' g h1 _ h3 _;rw [hat id o h1]at h3;cases h3
  ·intro id o g h1 h3;rw [hat id o h1]at h3;cases h3
  ·intro id x g _ _ _ id' o' h3 h4;rw [hat id' o' h3]at h4;cases h4
 have hfs:cE ρ w (fM 0 args) (vs++Array.replicate (fn.ntmps - vs.size) undef):=by
  intro t s ht
  obtain⟨_,h2⟩:=gA args 0 t s ht
  simp only [Nat.sub_zero]at h2
  have hlt:=(List.getElem?_eq_some_iff.1 h2).1
  have hlt':t < vs.size:=by rw [hargs.1];exact hlt
  refine⟨vs[t], ?_,hargs.2 t s _ h2 (Array.getElem?_eq_getElem hlt')⟩
  rw [Array.getElem?_append_left hlt',Array.getElem?_eq_getElem hlt']
 refine wpIn_mono (hx ⟨w,ρ.S,λ_=>False,lQ pin,ρ,none,[],0⟩ _ w rfl rfl ⟨?_,rfl,ρ,hm,hfs⟩) ?_
 ·simp only [Array.size_append,Array.size_replicate]
  have:=hargs.1
  omega
 ·rintro e a' w' ⟨x,fr',hp',E',hE,hrel,hk,hnt,hdf,ρ',hm',hf'⟩
  obtain⟨own,o1,o2,o3,o4,o5⟩:=nJ hE rfl
  have fin:gV ti fr' hp' fn.results.toList (λl=>fW hp' l λl=>(cU l).ids=[]/\post (cU l))->LeavesInM (FW none) 0 P fn a'.tmps (λe w'=> ∃v S' s,e= .returned v/\post s/\Grew w w'/\(∀b i,ρ.S b i->S' b i)/\(∀b i,S' b i->ρ.S b i\/w.heap.size<=b)/\(∀b i,S' b i->b < w'.heap.size)/\Rep w' (ρ.withS S') s v) a'.defers .returning w':=by
   intro hk
   have hpre:E'.pin.pre=[]:=by rw [hE.pin];rfl
   rw [hdf,o2,hpre]
   refine kK (by simp) [] own E' w' hm' ⟨_,o1,o5⟩ o4 o3 ?_
   rintro E'' w'' ⟨q1,q2,q3,q4,q5,q6⟩ hm'' hkp
   have hf'':cE ρ' w'' fr' a'.tmps:=hf'.mono hkp (λ_ _ x=>x) λi _=>ρ'.moved_refl i
   obtain⟨us,l,r1,r2,r3,r4⟩:=wV hti hm'' hf'' _ _ hk
   obtain⟨l',⟨k1,k2⟩,k3,k4⟩:=hG hm'' l us _ r2 r3 r4
   have eW:E''.w=w:=q1.trans hE.w
   have eS:E''.S=ρ.S:=q2.trans hE.S
   have eB:E''.B= λ_=>False:=q3.trans hE.B
   refine⟨_,gG r1,_,Sfz ρ' hp',cU l',rfl,k2,⟨by rw [hm''.os,eW],by rw [hm''.tape,eW],by have:=hm''.output;rw [eW]at this;exact this,by have:=hm''.size;rw [eW]at this;exact this,λb hb=> ?_⟩,λb i hs=> .inl (hm''.sold b i (by rw [eS];exact hs)), ?_, ?_, ?_⟩
   ·have:=hm''.old b (by rw [eW];exact hb) (by rw [eB];exact λh=>h)
    rw [eW]at this;exact this
   ·rintro b i (hs|⟨id,e,z,cap,rows,ho,hb,_⟩)
    ·rcases Nat.lt_or_ge b w.heap.size with hlt|hge
     ·left
      have:=hm''.snew b i hs (by rw [eW];exact hlt) (by rw [eB];exact λh=>h)
      rw [eS]at this;exact this
     ·exact .inr hge
    ·rcases hm''.hb id _ b ho hb with hge|hB
     ·rw [eW]at hge;exact .inr hge
     ·rw [eB]at hB;exact hB.elim
   ·rintro b i (hs|⟨id,e,z,cap,rows,ho,hb,_⟩)
    ·exact hm''.slt b i hs
    ·exact hm''.blk_lt ho hb
   ·refine(lK (w:=w'') (ρ:=ρ'.withS (Sfz ρ' hp')) (l:=l') (by rw [k3];exact r2) k4).mono (λ_ _ _=>rfl) (λ_ _ h=>h) λid hid=> ?_
    rw [k1]at hid
    cases hid
  cases x<;>cases e<;>simp only [Ex.rel]at hrel<;>simp only [KX,tT,lQ]at hk
  ·exact fin hk
  ·exact hk.elim
  ·exact hk.elim
  ·exact fin hk
theorem aCu {C:Cfg}{x y:Code}{fr:Fr}{hp:Hp}{K:Ex->Fr->Hp->Prop}(h:aN C x fr hp λe fr hp=>match e with| .normal=>aN C y fr hp K|e=>K e fr hp):aN C (.seq x y) fr hp K:=by
 intro E a w hpin hrd hs
 refine wpIn_seq (wpIn_mono (h E a w hpin hrd hs) ?_)
 rintro e a' w' ⟨ex,fr',hp',E',hE,hrel,hk,hs'⟩
 cases ex<;>cases e<;>simp only [Ex.rel]at hrel
 ·have:=hk E' a' w' (hE.pin.trans hpin) (hrd.ext hE) hs'
  rw [hE.rd]at this
  exact wpIn_mono this λe a w ⟨ex,fr',hp',E'',hE',rest⟩=>⟨ex,fr',hp',E'',hE.trans hE',rest⟩
 ·exact⟨.exit _,fr',hp',E',hE,hrel,hk,hs'⟩
 ·exact⟨.goto _,fr',hp',E',hE,hrel,hk,hs'⟩
 ·exact⟨.ret,fr',hp',E',hE,hrel,hk,hs'⟩
 ·exact⟨.pan,fr',hp',E',hE,hrel,hk,hs'⟩
theorem tR {C:Cfg}(hti:cW C.P C.ti) {c:Code}{fr:Fr}{hp:Hp}{K:Ex->Fr->Hp->Prop}(h:X C c fr hp K):aN C c fr hp K:= λE a w hpin hrd hs=>gQ hti c fr hp K h E a w hpin hrd hs
theorem kL {C:Cfg}{x y:Code}{fr:Fr}{hp:Hp}{K:Ex->Fr->Hp->Prop}(FR:Fr) (HP:Hp) (h:aN C x fr hp (λe fr' hp'=>e= .normal/\Sub fr' hp' FR HP)) (hk:aN C y FR HP K):aN C (.seq x y) fr hp K:=
 aCu (aN.mid FR HP h hk)
end
end Go.Proofs.YtcomlapnibckmaaGreatDoor
