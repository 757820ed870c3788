/-
  Objects: Query as the program writes it. Statements one after another, the state between them said once. Statements one after another, the state between them said once; a statement may return. Objects: what is written is read again, other bytes are refused (the law ObjectsRoundTrips).
  Conditions: none.
-/
import Derived.Test.YtleihcnongldbaaGreatDoorVQqh
import Derived.Test.YtleihcnongldbaaGreatDoorVSyd
import Derived.Test.YtleihcnongldbaaGreatDoorVUb
set_option linter.unnecessarySimpa false
set_option linter.unusedSectionVars false
set_option linter.unusedSimpArgs false
set_option linter.unusedVariables false
set_option maxHeartbeats 64000000
namespace Go.Proofs.YtleihcnongldbaaGreatDoor
open Go.Proofs Go.RowKit
set_option maxRecDepth 10000
attribute [local irreducible] aO aH Tri aG YVC cL bB
theorem aLn {a:At}(h:atE a=0):a.name.length<=24/\a.x.length<=24/\a.y.length<=24:=by
 unfold atE at h
 by_cases h1:a.kind < 1\/3 < a.kind
 ·rw [if_pos h1]at h;simp at h
 rw [if_neg h1]at h
 by_cases h2:(a.kind≠2/\a.y≠[])\/(a.kind≠3/\(a.lo≠0\/a.hi≠0))
 ·rw [if_pos h2]at h;simp at h
 rw [if_neg h2]at h
 by_cases h3:a.lo < -1099511627776\/a.hi < a.lo\/1099511627776 < a.hi
 ·rw [if_pos h3]at h;simp at h
 rw [if_neg h3]at h
 by_cases h4:aDg a.name=false
 ·rw [if_pos h4]at h;simp at h
 rw [if_neg h4]at h
 by_cases h5:mE a.x=false
 ·rw [if_pos h5]at h;simp at h
 rw [if_neg h5]at h
 by_cases h6:a.kind=2/\mE a.y=false
 ·rw [if_pos h6]at h;simp at h
 refine⟨qZ (by simpa using h4),hU (by simpa using h5), ?_⟩
 by_cases h7:a.kind=2
 ·refine hU ?_
  cases h8:mE a.y
  ·exact absurd ⟨h7,h8⟩ h6
  ·rfl
 ·have:a.y=[]:=by
   refine Classical.byContradiction λh8=>h2 (.inl ⟨h7,h8⟩)
  rw [this];simp
theorem aDz {q:Qy}(h:qE q=0):(wQy q).length<=1000000:=by
 rw [aMl]at h
 by_cases h1:kE q≠0
 ·rw [if_pos h1]at h;exact absurd h h1
 rw [if_neg h1]at h
 by_cases h2:dJ q.parts.flatten≠0
 ·rw [if_pos h2]at h;exact absurd h h2
 rw [if_neg h2]at h
 by_cases h3:rT q.told q.parts≠0
 ·rw [if_pos h3]at h;exact absurd h h3
 have h1:=Decidable.not_not.1 h1
 have h2:=(gF _).1 (Decidable.not_not.1 h2)
 have h3:=Decidable.not_not.1 h3
 unfold kE at h1
 split at h1
 ·simp at h1
 ·split at h1
  ·simp at h1
  ·rename_i a1 a2
   have hp: ∀p∈q.parts,p.length<=12:=by
    intro p hp
    have h3:(q.parts.any λp=>decide (p.length < 1) || decide (12 < p.length))=false:=by simpa using a2
    have h4:=List.any_eq_false.1 h3 p hp
    simp at h4
    omega
   have ht: ∀s∈q.told,uO s=true:=by
    unfold rT at h3
    split at h3
    ·simp at h3
    ·rename_i h5
     intro s hs
     cases hv:uO s with
     |true=>rfl
     |false=>exact absurd (List.any_eq_true.2 ⟨s,hs,by rw [hv];rfl⟩) h5
   have e1:((q.told.map dO).flatten).length<=q.told.length * 21:=eX λs hs=>by
    have:=qQ (ht s hs)
    unfold dO
    simp only [List.length_append,aT]
    omega
   have e2:((q.parts.map (bO wAt)).flatten).length<=q.parts.length * 1300:=eX λp hp'=>by
    have e3:((p.map wAt).flatten).length<=p.length * 101:=eX λa ha=>by
     obtain⟨b1,b2,b3⟩:=aLn (h2 a (List.mem_flatten.2 ⟨p,hp',ha⟩))
     unfold wAt dO
     simp only [List.length_append,aT,cQ,aR]
     omega
    have:=hp p hp'
    unfold bO
    simp only [List.length_append,aT]
    omega
   unfold wQy
   unfold bO at *
   simp only [List.length_append,aT]at *
   omega
theorem aGi {q:Qy}(h:qE q≠0):gX q=([],qE q):=by unfold gX;rw [if_neg h]
theorem aJw {q:Qy}(h:qE q=0):gX q=(wQy q,0):=by unfold gX;rw [if_pos h]
theorem nE (q:Qy):Tri Tryz.prog 9 [.d (.agg (qyR q))] NG (λr=>r= .tup [.d (.sl 1 ((gX q).1.map aV)), .d (.int .i64 (gX q).2)]):=by
 refine Tri.says ?_
 have hw:=aGm q
 have hc:=aAl q
 have h1:=aGi (q:=q)
 have h2:=aJw (q:=q)
 have h3:=aDz (q:=q)
 generalize wQy q=out at *
 generalize gX q=res at *
 generalize qE q=qe at *
 obtain⟨told,parts⟩:=q
 rw [show qyR ⟨told,parts⟩=[.sl 1 (told.map cE), .sl 1 (parts.map bI)]from rfl]at *
 refine aF false [] hty Tryz.func9 rfl (kp [0,1,2,3,4,8]) [] _ _ _ (by simp [Tryz.f9]) (by decide) ?_
 ((conv=>whnf);repeat ((first|(refine aD [] hc trivial (λr hs=> ?_);subst hs)|(intro hq;try simp only [lnS]at hq)|refine sI ?_|refine .intro _ (.intro rfl ?_));(conv=>whnf)))
 refine aC (λq1=> ?_) (λq1=> ?_)
 ·rw [h1 q1]
  ((conv=>whnf);repeat ((first|(intro hq;try simp only [lnS]at hq)|refine sI ?_|refine .intro _ (.intro rfl ?_));(conv=>whnf)))
  exact⟨_,pairN (.d .nil) _,rfl⟩
 have q1:qe=0:=by simpa using q1
 rw [h2 q1]
 have h3:=h3 q1
 clear h1 h2 hc
 ((conv=>whnf);repeat' ((first|(intro hq;(try simp only [lnS]at hq);(try rewrite [List.length_map]))|refine sJ ?_|refine .intro _ (.intro rfl ?_)|refine exL (k:= ?_)|refine dwR ?_|((first|refine aB ?_ ?_|refine aC ?_ ?_)<;>intro hb<;>(first|exact ddX hb|try simp only [lnS]at hb))|(refine aA ?_ ?_<;>intro hb<;>try exact dsX hb))<;>(conv=>whnf)))
 refine aH.ownH 4 104 73 5 1 rfl (cI (by with_unfolding_all exact rfl)) (fZ (by with_unfolding_all exact rfl)) ?_
 refine WrT.call hw rfl [] (by rw [List.length_nil];omega) (by decide) rfl rfl ?_
 rw [List.nil_append]
 ((conv=>whnf);repeat ((first|(intro hq;try simp only [lnS]at hq)|refine sI ?_|refine .intro _ (.intro rfl ?_));(conv=>whnf)))
 exact⟨_, .refl _,rfl⟩
end Go.Proofs.YtleihcnongldbaaGreatDoor
namespace Go.Proofs.YtleihcnongldbaaGreatDoor
open Go.RowKit
section
variable {P:Program}
theorem yQ (zc:Bool) (frz:List Nat) {ti:TypeId->Option TI}(hti:cT P ti) {f:FuncId}{fn:Func}{c:Code}(hf:P.funcs[f]? =some fn) (hb:fn.body=some c) (keep:Nat->Bool) (pin:List Nat) (args:List SV) (hp:Hp) (post:SV->Prop)
  (hn:args.length<=fn.ntmps) (hnd:(hp.map (·.1)).Nodup) (hx:aO ⟨P,ti,oE pin,fn.ntmps,keep,0,none,zc,frz⟩ c (gK 0 args) (roH hp) (yT ti fn.results.toList post)):Tri P f args hp post:=by
 intro w ρ vs hslt hargs hro
 refine fO (r:=none) (n:=0) |>.1 (callsIn_of_wp_marks hf hb trivial ?_)
 have hm:Mem ⟨w,ρ.S,λ_=>False,oE pin,ρ,none,[],0⟩ ρ (roH hp) w:=by
  have hat: ∀id o,aQ (roH hp) id=some o->ρ.at id o=none:=by
   intro id o ho
   rcases mC hp id o hnd ho with⟨t,cs,rfl,_⟩|⟨g,z,rows,rfl,_⟩|⟨X,rfl,_⟩
   ·rfl
   ·rfl
   ·rfl
  refine⟨rfl,rfl, .refl _,Nat.le_refl _,λ_ _ _=>rfl,λ_ _ h=>h,λ_ _ h _ _=>h,hslt,λ_ _ _=>rfl, ?_, ?_, ?_,λid _=>ρ.moved_refl id, ?_,λb hb=>by cases hb⟩
  ·intro id o ho
   rcases mC hp id o hnd ho with⟨t,cs,rfl,h|h⟩|⟨g,z,rows,rfl,h⟩|⟨X,rfl,h|h⟩
   ·exact hro id _ h
   ·exact hro id _ h
   ·exact hro id _ h
   ·exact hro id _ h
   ·exact hro id _ h
  ·intro id o id' o' g h1 _ h3 _;rw [hat id o h1]at h3;cases h3
  ·intro id o g h1 h3;rw [hat id o h1]at h3;cases h3
  ·intro id x g _ _ _ id' o' h3 h4;rw [hat id' o' h3]at h4;cases h4
 have hfs:cK ρ w (gK 0 args) (vs++Array.replicate (fn.ntmps - vs.size) undef):=by
  intro t s ht
  obtain⟨_,h2⟩:=iH args 0 t s ht
  simp only [Nat.sub_zero]at h2
  have hlt:=(List.getElem?_eq_some_iff.1 h2).1
  have hlt':t < vs.size:=by rw [hargs.1];exact hlt
  refine⟨vs[t], ?_,hargs.2 t s _ h2 (Array.getElem?_eq_getElem hlt')⟩
  rw [Array.getElem?_append_left hlt',Array.getElem?_eq_getElem hlt']
 refine wpIn_mono (hx ⟨w,ρ.S,λ_=>False,oE pin,ρ,none,[],0⟩ _ w rfl rfl ⟨?_,rfl,ρ,hm,hfs⟩) ?_
 ·simp only [Array.size_append,Array.size_replicate]
  have:=hargs.1
  omega
 ·rintro e a' w' ⟨x,fr',hp',E',hE,hrel,hk,hnt,hdf,ρ',hm',hf'⟩
  obtain⟨own,o1,o2,o3,o4,o5⟩:=qT hE rfl
  have fin:jM ti fr' hp' fn.results.toList (λl=>hP hp' l λl=>(dE l).ids=[]/\post (dE l))->LeavesInM (FW none) 0 P fn a'.tmps (λe w'=> ∃v S' s,e= .returned v/\post s/\Grew w w'/\(∀b i,ρ.S b i->S' b i)/\(∀b i,S' b i->ρ.S b i\/w.heap.size<=b)/\(∀b i,S' b i->b < w'.heap.size)/\Rep w' (ρ.withS S') s v) a'.defers .returning w':=by
   intro hk
   have hpre:E'.pin.pre=[]:=by rw [hE.pin];rfl
   rw [hdf,o2,hpre]
   refine mZ (by simp) [] own E' w' hm' ⟨_,o1,o5⟩ o4 o3 ?_
   rintro E'' w'' ⟨q1,q2,q3,q4,q5,q6⟩ hm'' hkp
   have hf'':cK ρ' w'' fr' a'.tmps:=hf'.mono hkp (λ_ _ x=>x) λi _=>ρ'.moved_refl i
   obtain⟨us,l,r1,r2,r3,r4⟩:=aBc hti hm'' hf'' _ _ hk
   obtain⟨l',⟨k1,k2⟩,k3,k4⟩:=kA hm'' l us _ r2 r3 r4
   have eW:E''.w=w:=q1.trans hE.w
   have eS:E''.S=ρ.S:=q2.trans hE.S
   have eB:E''.B= λ_=>False:=q3.trans hE.B
   refine⟨_,iO r1,_,Sfz ρ' hp',dE l',rfl,k2,⟨by rw [hm''.os,eW],by rw [hm''.tape,eW],by have:=hm''.output;rw [eW]at this;exact this,by have:=hm''.size;rw [eW]at this;exact this,λb hb=> ?_⟩,λb i hs=> .inl (hm''.sold b i (by rw [eS];exact hs)), ?_, ?_, ?_⟩
   ·have:=hm''.old b (by rw [eW];exact hb) (by rw [eB];exact λh=>h)
    rw [eW]at this;exact this
   ·rintro b i (hs|⟨id,e,z,cap,rows,ho,hb,_⟩)
    ·rcases Nat.lt_or_ge b w.heap.size with hlt|hge
     ·left
      have:=hm''.snew b i hs (by rw [eW];exact hlt) (by rw [eB];exact λh=>h)
      rw [eS]at this;exact this
     ·exact .inr hge
    ·rcases hm''.hb id _ b ho hb with hge|hB
     ·rw [eW]at hge;exact .inr hge
     ·rw [eB]at hB;exact hB.elim
   ·rintro b i (hs|⟨id,e,z,cap,rows,ho,hb,_⟩)
    ·exact hm''.slt b i hs
    ·exact hm''.blk_lt ho hb
   ·refine(nR (w:=w'') (ρ:=ρ'.withS (Sfz ρ' hp')) (l:=l') (by rw [k3];exact r2) k4).mono (λ_ _ _=>rfl) (λ_ _ h=>h) λid hid=> ?_
    rw [k1]at hid
    cases hid
  cases x<;>cases e<;>simp only [Ex.rel]at hrel<;>simp only [KX,yT,oE]at hk
  ·exact fin hk
  ·exact hk.elim
  ·exact hk.elim
  ·exact fin hk
theorem aHb {C:Cfg}{x y:Code}{fr:Fr}{hp:Hp}{K:Ex->Fr->Hp->Prop}(h:aO C x fr hp λe fr hp=>match e with| .normal=>aO C y fr hp K|e=>K e fr hp):aO C (.seq x y) fr hp K:=by
 intro E a w hpin hrd hs
 refine wpIn_seq (wpIn_mono (h E a w hpin hrd hs) ?_)
 rintro e a' w' ⟨ex,fr',hp',E',hE,hrel,hk,hs'⟩
 cases ex<;>cases e<;>simp only [Ex.rel]at hrel
 ·have:=hk E' a' w' (hE.pin.trans hpin) (hrd.ext hE) hs'
  rw [hE.rd]at this
  exact wpIn_mono this λe a w ⟨ex,fr',hp',E'',hE',rest⟩=>⟨ex,fr',hp',E'',hE.trans hE',rest⟩
 ·exact⟨.exit _,fr',hp',E',hE,hrel,hk,hs'⟩
 ·exact⟨.goto _,fr',hp',E',hE,hrel,hk,hs'⟩
 ·exact⟨.ret,fr',hp',E',hE,hrel,hk,hs'⟩
 ·exact⟨.pan,fr',hp',E',hE,hrel,hk,hs'⟩
theorem jK {C:Cfg}(hti:cT C.P C.ti) {c:Code}{fr:Fr}{hp:Hp}{K:Ex->Fr->Hp->Prop}(h:X C c fr hp K):aO C c fr hp K:= λE a w hpin hrd hs=>jE hti c fr hp K h E a w hpin hrd hs
end
end Go.Proofs.YtleihcnongldbaaGreatDoor
namespace Go.Proofs.YtleihcnongldbaaGreatDoor
open Go.RowKit
theorem cG {C:Cfg}{x y:Code}{fr:Fr}{hp:Hp}{K:Ex->Fr->Hp->Prop}(FR:Fr) (HP:Hp) (h:aO C x fr hp (λe fr' hp'=>match e with| .normal=>Sub fr' hp' FR HP|e=>K e fr' hp')) (hk:aO C y FR HP K):aO C (.seq x y) fr hp K:=
 aHb (h.mono λe fr' hp' hh=>by cases e<;>first|exact aO.sub hh hk|exact hh)
end Go.Proofs.YtleihcnongldbaaGreatDoor
namespace Go.Proofs.YtleihcnongldbaaGreatDoor
open Go.Proofs Go.RowKit
set_option maxRecDepth 10000
attribute [local irreducible] aO aH Tri aG YVC cL bB
theorem aNd {l:List Ax}(h:(fF l).2=0): ∀x∈l,Sm6 x:=by
 have hw:fF l=((fF l).1,0):=by rw [<-h]
 obtain⟨h1,_⟩:=mQ hw
 exact λx hx=>aJ1 ((aB3 h1).1 x hx)
theorem aNk {a:Al}(h:(fG a).2=0): ∀x∈a.axioms,Sm6 x:=by
 have hw:fG a=((fG a).1,0):=by rw [<-h]
 obtain⟨h1,_⟩:=mQ hw
 unfold alE at h1
 split at h1
 ·simp at h1
 ·split at h1
  ·exact absurd h1 (by assumption)
  ·rename_i h2
   exact λx hx=>aJ1 ((dN _).1 (Decidable.not_not.1 h2) x hx)
theorem rY (l:List Ax) (c:Cm) (q:Qy) (a:Al) (cut:Int) (more:List UInt8) (hl: ∀x∈l,SzAx x) (ha: ∀x∈a.axioms,SzAx x) (hi:InI a.index):
  Tri Tryz.prog 5 [.d (.sl 16 (l.map axR)), .d (.agg (cmR c)), .d (.agg (qyR q)), .d (.agg (alR a)), .d (.int .i64 cut), .d (.sl 1 (more.map aV))] NG (λr=>r= .d (.bool true)):=by
 have c1:=aIb more l hl
 have c2:=xS q
 have c3:=pN a ha
 by_cases hf:¬ (more.length<=6000/\l.length<=12)
 ·rw [show (decide (more.length <= 6000) && (decide ((l.length : Int) <= 12) && l.all uD)) = false by
   rw [Bool.and_eq_false_iff]
   by_cases h:more.length<=6000
   ·right
    rw [decide_eq_false (by omega),Bool.false_and]
   ·left
    exact decide_eq_false h]at c1
  obtain⟨no,ps,dg,ms⟩:=c
  obtain⟨y,rfl⟩:=lR dg
  obtain⟨nm,d1,ax,d2,ix,pt,pp⟩:=a
  obtain⟨y1,rfl⟩:=lR d1
  obtain⟨y2,rfl⟩:=lR d2
  obtain⟨told,parts⟩:=q
  refine aF false [7,8,9,10,11,23,25,27,32,34,36] hty Tryz.func5 rfl (kp [0,1,2,3,4,5,7,8,9,10,11,12,13,14,15,16,17,18,19,20,21,22,23,24,25,26,27,28,29,31,33,35,37,39,65,159,162,171,173,182,184,193,195,204]) [] _ _ _ (by simp [Tryz.f5]) (by decide) ?_
  ((conv=>whnf);repeat' ((first|(intro hq;(try simp only [lnS]at hq);(try rewrite [List.length_map]))|refine sJ ?_|refine .intro _ (.intro rfl ?_)|refine exL (k:= ?_)|(refine aD NG vA ⟨rfl,rfl,trivial⟩ (λr hs=> ?_);subst hs)|(refine aD [] c1 trivial (λr hs=> ?_);subst hs)|refine dwR ?_|((first|refine aB ?_ ?_|refine aC ?_ ?_)<;>intro hb<;>(first|exact ddX hb|try simp only [lnS]at hb))|(refine aA ?_ ?_<;>intro hb<;>try exact dsX hb))<;>(conv=>whnf)))
  all_goals rfl
 have hf:more.length<=6000/\l.length<=12:=Decidable.not_not.1 hf
 generalize (decide (more.length<=6000) && (decide ((l.length:Int)<=12) && l.all uD))=v1 at c1
 have nA:=aGk (l:=l) (by omega)
 have nC:=aGj c
 have nQ:=aGh q
 have nL:=aGl a
 have oA:=dL l
 have rA:=(dS fF (fF l).1 (by omega) (λx _ _=>dL x)).mono (post':= λr=>r= .tup [.d (.sl 16 ((cZ (rAs 9) fF ([]:List Ax) 280 (fF l).1).1.map axR)), .d (.int .i64 (cZ (rAs 9) fF ([]:List Ax) 280 (fF l).1).2)]) (λr h=>by obtain⟨x,rfl,hr⟩:=h;exact hr)
 have gA:=gW (fF l).1 more cut (by omega) hf.1
 have tA:(fF l).2=0->Tri Tryz.prog 22 [.d (.sl 1 ((tX more cut (fF l).1).map aV))] NG (λr=>r= .tup [.d (.sl 16 (([]:List Ax).map axR)), .d (.int .i64 280)]):= λh=>by
  have:=dS fF (tX more cut (fF l).1) (by have:=xX more cut (fF l).1;omega) (λx _ _=>dL x)
  rw [aNh h]at this
  exact this.mono (λr h=>by obtain⟨x,rfl,hr⟩:=h;exact hr)
 have sA:(fF l).2=0->Tri Tryz.prog 24 [.d (.sl 16 (l.map axR)), .d (.sl 16 ((cZ (rAs 9) fF ([]:List Ax) 280 (fF l).1).1.map axR))] [] (λr=>r= .d (.bool true)):= λh=>by rw [aC6 h];exact qJ l (aNd h)
 have iA:(fF l).2=0->(cZ (rAs 9) fF ([]:List Ax) 280 (fF l).1).2=0:= λh=>by rw [aC6 h]
 have oC:=lM c
 have rC:=(kI (fI c).1 (by omega)).mono (post':= λr=>r= .tup [.d (.agg (cmR (cZ (rCm) fI cm0 280 (fI c).1).1)), .d (.int .i64 (cZ (rCm) fI cm0 280 (fI c).1).2)]) (λr h=>by obtain⟨x,rfl,hr⟩:=h;exact hr)
 have gC:=gW (fI c).1 more cut (by omega) hf.1
 have tC:(fI c).2=0->Tri Tryz.prog 23 [.d (.sl 1 ((tX more cut (fI c).1).map aV))] [] (λr=>r= .tup [.d (.agg (cmR cm0)), .d (.int .i64 280)]):= λh=>by
  have:=kI (tX more cut (fI c).1) (by have:=xX more cut (fI c).1;omega)
  rw [aN5 h]at this
  exact this.mono (λr h=>by obtain⟨x,rfl,hr⟩:=h;exact hr)
 have sC:(fI c).2=0->Tri Tryz.prog 25 [.d (.agg (cmR c)), .d (.agg (cmR (cZ (rCm) fI cm0 280 (fI c).1).1))] [] (λr=>r= .d (.bool true)):= λh=>by rw [aC2 h];exact rW c
 have iC:(fI c).2=0->(cZ (rCm) fI cm0 280 (fI c).1).2=0:= λh=>by rw [aC2 h]
 have oQ:=nE q
 have rQ:=(gZ gX (gX q).1 (by omega) (λx _ _=>nE x)).mono (post':= λr=>r= .tup [.d (.agg (qyR (cZ (rQy) gX qy0 280 (gX q).1).1)), .d (.int .i64 (cZ (rQy) gX qy0 280 (gX q).1).2)]) (λr h=>by obtain⟨x,rfl,hr⟩:=h;exact hr)
 have gQ:=gW (gX q).1 more cut (by omega) hf.1
 have tQ:(gX q).2=0->Tri Tryz.prog 11 [.d (.sl 1 ((tX more cut (gX q).1).map aV))] NG (λr=>r= .tup [.d (.agg (qyR qy0)), .d (.int .i64 280)]):= λh=>by
  have:=gZ gX (tX more cut (gX q).1) (by have:=xX more cut (gX q).1;omega) (λx _ _=>nE x)
  rw [aMk h]at this
  exact this.mono (λr h=>by obtain⟨x,rfl,hr⟩:=h;exact hr)
 have sQ:(gX q).2=0->Tri Tryz.prog 13 [.d (.agg (qyR q)), .d (.agg (qyR (cZ (rQy) gX qy0 280 (gX q).1).1))] [] (λr=>r= .d (.bool true)):= λh=>by rw [aBg h];exact tZ q
 have iQ:(gX q).2=0->(cZ (rQy) gX qy0 280 (gX q).1).2=0:= λh=>by rw [aBg h]
 have oL:=dX a
 have rL:=(gP fG (fG a).1 (by omega) (λx _ _=>dX x)).mono (post':= λr=>r= .tup [.d (.agg (alR (cZ (rAl 9) fG al0 280 (fG a).1).1)), .d (.int .i64 (cZ (rAl 9) fG al0 280 (fG a).1).2)]) (λr h=>by obtain⟨x,rfl,hr⟩:=h;exact hr)
 have gL:=gW (fG a).1 more cut (by omega) hf.1
 have tL:(fG a).2=0->Tri Tryz.prog 17 [.d (.sl 1 ((tX more cut (fG a).1).map aV))] NG (λr=>r= .tup [.d (.agg (alR al0)), .d (.int .i64 280)]):= λh=>by
  have:=gP fG (tX more cut (fG a).1) (by have:=xX more cut (fG a).1;omega) (λx _ _=>dX x)
  rw [aNm hi h]at this
  exact this.mono (λr h=>by obtain⟨x,rfl,hr⟩:=h;exact hr)
 have sL:(fG a).2=0->Tri Tryz.prog 19 [.d (.agg (alR a)), .d (.agg (alR (cZ (rAl 9) fG al0 280 (fG a).1).1))] [] (λr=>r= .d (.bool true)):= λh=>by rw [aC8 hi h];exact nO a (aNk h)
 have iL:(fG a).2=0->(cZ (rAl 9) fG al0 280 (fG a).1).2=0:= λh=>by rw [aC8 hi h]
 generalize cZ (rAs 9) fF ([]:List Ax) 280 (fF l).1=outA at rA sA iA
 generalize tX more cut (fF l).1=chA at gA tA
 generalize fF l=pA at oA rA gA tA sA iA
 obtain⟨wA,eA⟩:=pA
 obtain⟨xA,jA⟩:=outA
 dsimp only at oA rA gA tA sA iA
 generalize cZ (rCm) fI cm0 280 (fI c).1=outC at rC sC iC
 generalize tX more cut (fI c).1=chC at gC tC
 generalize fI c=pC at oC rC gC tC sC iC
 obtain⟨wC,eC⟩:=pC
 obtain⟨xC,jC⟩:=outC
 dsimp only at oC rC gC tC sC iC
 generalize cZ (rQy) gX qy0 280 (gX q).1=outQ at rQ sQ iQ
 generalize tX more cut (gX q).1=chQ at gQ tQ
 generalize gX q=pQ at oQ rQ gQ tQ sQ iQ
 obtain⟨wQ,eQ⟩:=pQ
 obtain⟨xQ,jQ⟩:=outQ
 dsimp only at oQ rQ gQ tQ sQ iQ
 generalize cZ (rAl 9) fG al0 280 (fG a).1=outL at rL sL iL
 generalize tX more cut (fG a).1=chL at gL tL
 generalize fG a=pL at oL rL gL tL sL iL
 obtain⟨wL,eL⟩:=pL
 obtain⟨xL,jL⟩:=outL
 dsimp only at oL rL gL tL sL iL
 clear nA nC nQ nL hl ha hi
 obtain⟨b2,hb2⟩: ∃b:Bool,True:=⟨true,trivial⟩
 clear b2 hb2
 obtain⟨no,ps,dg,ms⟩:=c
 obtain⟨y,rfl⟩:=lR dg
 obtain⟨nm,d1,ax,d2,ix,pt,pp⟩:=a
 obtain⟨y1,rfl⟩:=lR d1
 obtain⟨y2,rfl⟩:=lR d2
 obtain⟨told,parts⟩:=q
 obtain⟨no2,ps2,dg2,ms2⟩:=xC
 obtain⟨z,rfl⟩:=lR dg2
 obtain⟨nm2,d3,ax2,d4,ix2,pt2,pp2⟩:=xL
 obtain⟨z1,rfl⟩:=lR d3
 obtain⟨z2,rfl⟩:=lR d4
 obtain⟨told2,parts2⟩:=xQ
 refine yQ false [7,8,9,10,11,23,25,27,32,34,36] hty Tryz.func5 rfl (kp [0,1,2,3,4,5,7,8,9,10,11,12,13,14,15,16,17,18,19,20,21,22,23,24,25,26,27,28,29,31,33,35,37,39,65,159,162,171,173,182,184,193,195,204]) [] _ _ _ (by simp [Tryz.f5]) (by decide) ?_
 refine cG [(0, .d (.sl 16 (l.map axR))),(7, .ea 35 [cmR ⟨no,ps,mkD y,ms⟩] 0 0),(8, .ea 2 [qyR ⟨told,parts⟩] 0 0),(9, .ea 69 [alR ⟨nm,mkD y1,ax,mkD y2,ix,pt,pp⟩] 0 0),(10, .ea 1 [[.int .i64 cut]] 0 0),(11, .ea 1 [[.sl 1 (more.map aV)]] 0 0)] (roH NG) (jK hty ?_) ?_
 ·((conv=>whnf);repeat' ((first|(intro hq;(try simp only [lnS]at hq);(try rewrite [List.length_map]))|refine sJ ?_|refine .intro _ (.intro rfl ?_)|refine exL (k:= ?_)|refine dwR ?_|((first|refine aB ?_ ?_|refine aC ?_ ?_)<;>intro hb<;>(first|exact ddX hb|try simp only [lnS]at hb))|(refine aA ?_ ?_<;>intro hb<;>try exact dsX hb))<;>(conv=>whnf)))
  all_goals first|exact⟨by repeat' (first|exact trivial|exact rfl|refine And.intro ?_ ?_),by repeat' (first|exact trivial|exact rfl|refine And.intro ?_ ?_)⟩|rfl
 refine cG [(0, .d (.sl 16 (l.map axR))),(7, .ea 35 [cmR ⟨no,ps,mkD y,ms⟩] 0 0),(8, .ea 2 [qyR ⟨told,parts⟩] 0 0),(9, .ea 69 [alR ⟨nm,mkD y1,ax,mkD y2,ix,pt,pp⟩] 0 0),(10, .ea 1 [[.int .i64 cut]] 0 0),(11, .ea 1 [[.sl 1 (more.map aV)]] 0 0)] (roH NG) (jK hty ?_) ?_
 ·((conv=>whnf);repeat' ((first|(intro hq;(try simp only [lnS]at hq);(try rewrite [List.length_map]))|refine sJ ?_|refine .intro _ (.intro rfl ?_)|refine exL (k:= ?_)|(refine aD NG vA ⟨rfl,rfl,trivial⟩ (λr hs=> ?_);subst hs)|refine dwR ?_|((first|refine aB ?_ ?_|refine aC ?_ ?_)<;>intro hb<;>(first|exact ddX hb|try simp only [lnS]at hb))|(refine aA ?_ ?_<;>intro hb<;>try exact dsX hb))<;>(conv=>whnf)))
  all_goals first|exact⟨by repeat' (first|exact trivial|exact rfl|refine And.intro ?_ ?_),by repeat' (first|exact trivial|exact rfl|refine And.intro ?_ ?_)⟩|rfl
 refine cG [(0, .d (.sl 16 (l.map axR))),(7, .ea 35 [cmR ⟨no,ps,mkD y,ms⟩] 0 0),(8, .ea 2 [qyR ⟨told,parts⟩] 0 0),(9, .ea 69 [alR ⟨nm,mkD y1,ax,mkD y2,ix,pt,pp⟩] 0 0),(10, .ea 1 [[.int .i64 cut]] 0 0),(11, .ea 1 [[.sl 1 (more.map aV)]] 0 0)] (roH NG) (jK hty ?_) ?_
 ·((conv=>whnf);repeat' ((first|(intro hq;(try simp only [lnS]at hq);(try rewrite [List.length_map]))|refine sJ ?_|refine .intro _ (.intro rfl ?_)|refine exL (k:= ?_)|(refine aD [] c1 trivial (λr hs=> ?_);subst hs)|(refine aD [] c2 trivial (λr hs=> ?_);obtain⟨b2,rfl⟩:=hs)|(refine aD [] c3 trivial (λr hs=> ?_);obtain⟨b3,rfl⟩:=hs)|refine dwR ?_|((first|refine aB ?_ ?_|refine aC ?_ ?_)<;>intro hb<;>(first|exact ddX hb|try simp only [lnS]at hb))|(refine aA ?_ ?_<;>intro hb<;>try exact dsX hb))<;>(conv=>whnf)))
  all_goals first|exact⟨by repeat' (first|exact trivial|exact rfl|refine And.intro ?_ ?_),by repeat' (first|exact trivial|exact rfl|refine And.intro ?_ ?_)⟩|rfl
 refine cG [(0, .d (.sl 16 (l.map axR))),(7, .ea 35 [cmR ⟨no,ps,mkD y,ms⟩] 0 0),(8, .ea 2 [qyR ⟨told,parts⟩] 0 0),(9, .ea 69 [alR ⟨nm,mkD y1,ax,mkD y2,ix,pt,pp⟩] 0 0),(10, .ea 1 [[.int .i64 cut]] 0 0),(11, .ea 1 [[.sl 1 (more.map aV)]] 0 0),(13, .d (.sl 1 (wA.map aV))),(14, .d (.int .i64 eA))] (roH NG) (jK hty ?_) ?_
 ·((conv=>whnf);repeat' ((first|(intro hq;(try simp only [lnS]at hq);(try rewrite [List.length_map]))|refine sJ ?_|refine .intro _ (.intro rfl ?_)|refine exL (k:= ?_)|(refine aD NG oA ⟨rfl,rfl,trivial⟩ (λr hs=> ?_);subst hs)|refine dwR ?_|((first|refine aB ?_ ?_|refine aC ?_ ?_)<;>intro hb<;>(first|exact ddX hb|try simp only [lnS]at hb))|(refine aA ?_ ?_<;>intro hb<;>try exact dsX hb))<;>(conv=>whnf)))
  all_goals first|exact⟨by repeat' (first|exact trivial|exact rfl|refine And.intro ?_ ?_),by repeat' (first|exact trivial|exact rfl|refine And.intro ?_ ?_)⟩|rfl
 refine cG [(0, .d (.sl 16 (l.map axR))),(7, .ea 35 [cmR ⟨no,ps,mkD y,ms⟩] 0 0),(8, .ea 2 [qyR ⟨told,parts⟩] 0 0),(9, .ea 69 [alR ⟨nm,mkD y1,ax,mkD y2,ix,pt,pp⟩] 0 0),(10, .ea 1 [[.int .i64 cut]] 0 0),(11, .ea 1 [[.sl 1 (more.map aV)]] 0 0),(13, .d (.sl 1 (wA.map aV))),(14, .d (.int .i64 eA)),(15, .d (.sl 1 (wC.map aV))),(16, .d (.int .i64 eC))] (roH NG) (jK hty ?_) ?_
 ·((conv=>whnf);repeat' ((first|(intro hq;(try simp only [lnS]at hq);(try rewrite [List.length_map]))|refine sJ ?_|refine .intro _ (.intro rfl ?_)|refine exL (k:= ?_)|(refine aD [] oC trivial (λr hs=> ?_);subst hs)|refine dwR ?_|((first|refine aB ?_ ?_|refine aC ?_ ?_)<;>intro hb<;>(first|exact ddX hb|try simp only [lnS]at hb))|(refine aA ?_ ?_<;>intro hb<;>try exact dsX hb))<;>(conv=>whnf)))
  all_goals first|exact⟨by repeat' (first|exact trivial|exact rfl|refine And.intro ?_ ?_),by repeat' (first|exact trivial|exact rfl|refine And.intro ?_ ?_)⟩|rfl
 refine cG [(0, .d (.sl 16 (l.map axR))),(7, .ea 35 [cmR ⟨no,ps,mkD y,ms⟩] 0 0),(8, .ea 2 [qyR ⟨told,parts⟩] 0 0),(9, .ea 69 [alR ⟨nm,mkD y1,ax,mkD y2,ix,pt,pp⟩] 0 0),(10, .ea 1 [[.int .i64 cut]] 0 0),(11, .ea 1 [[.sl 1 (more.map aV)]] 0 0),(13, .d (.sl 1 (wA.map aV))),(14, .d (.int .i64 eA)),(15, .d (.sl 1 (wC.map aV))),(16, .d (.int .i64 eC)),(17, .d (.sl 1 (wQ.map aV))),(18, .d (.int .i64 eQ))] (roH NG) (jK hty ?_) ?_
 ·((conv=>whnf);repeat' ((first|(intro hq;(try simp only [lnS]at hq);(try rewrite [List.length_map]))|refine sJ ?_|refine .intro _ (.intro rfl ?_)|refine exL (k:= ?_)|(refine aD NG oQ ⟨rfl,rfl,trivial⟩ (λr hs=> ?_);subst hs)|refine dwR ?_|((first|refine aB ?_ ?_|refine aC ?_ ?_)<;>intro hb<;>(first|exact ddX hb|try simp only [lnS]at hb))|(refine aA ?_ ?_<;>intro hb<;>try exact dsX hb))<;>(conv=>whnf)))
  all_goals first|exact⟨by repeat' (first|exact trivial|exact rfl|refine And.intro ?_ ?_),by repeat' (first|exact trivial|exact rfl|refine And.intro ?_ ?_)⟩|rfl
 refine cG [(0, .d (.sl 16 (l.map axR))),(7, .ea 35 [cmR ⟨no,ps,mkD y,ms⟩] 0 0),(8, .ea 2 [qyR ⟨told,parts⟩] 0 0),(9, .ea 69 [alR ⟨nm,mkD y1,ax,mkD y2,ix,pt,pp⟩] 0 0),(10, .ea 1 [[.int .i64 cut]] 0 0),(11, .ea 1 [[.sl 1 (more.map aV)]] 0 0),(13, .d (.sl 1 (wA.map aV))),(14, .d (.int .i64 eA)),(15, .d (.sl 1 (wC.map aV))),(16, .d (.int .i64 eC)),(17, .d (.sl 1 (wQ.map aV))),(18, .d (.int .i64 eQ)),(19, .d (.sl 1 (wL.map aV))),(20, .d (.int .i64 eL))] (roH NG) (jK hty ?_) ?_
 ·((conv=>whnf);repeat' ((first|(intro hq;(try simp only [lnS]at hq);(try rewrite [List.length_map]))|refine sJ ?_|refine .intro _ (.intro rfl ?_)|refine exL (k:= ?_)|(refine aD NG oL ⟨rfl,rfl,trivial⟩ (λr hs=> ?_);subst hs)|refine dwR ?_|((first|refine aB ?_ ?_|refine aC ?_ ?_)<;>intro hb<;>(first|exact ddX hb|try simp only [lnS]at hb))|(refine aA ?_ ?_<;>intro hb<;>try exact dsX hb))<;>(conv=>whnf)))
  all_goals first|exact⟨by repeat' (first|exact trivial|exact rfl|refine And.intro ?_ ?_),by repeat' (first|exact trivial|exact rfl|refine And.intro ?_ ?_)⟩|rfl
 refine cG [(0, .d (.sl 16 (l.map axR))),(7, .ea 35 [cmR ⟨no,ps,mkD y,ms⟩] 0 0),(8, .ea 2 [qyR ⟨told,parts⟩] 0 0),(9, .ea 69 [alR ⟨nm,mkD y1,ax,mkD y2,ix,pt,pp⟩] 0 0),(10, .ea 1 [[.int .i64 cut]] 0 0),(11, .ea 1 [[.sl 1 (more.map aV)]] 0 0),(13, .d (.sl 1 (wA.map aV))),(14, .d (.int .i64 eA)),(15, .d (.sl 1 (wC.map aV))),(16, .d (.int .i64 eC)),(17, .d (.sl 1 (wQ.map aV))),(18, .d (.int .i64 eQ)),(19, .d (.sl 1 (wL.map aV))),(20, .d (.int .i64 eL)),(21, .d (.sl 16 (xA.map axR))),(22, .d (.int .i64 jA))] (roH NG) (jK hty ?_) ?_
 ·((conv=>whnf);repeat' ((first|(intro hq;(try simp only [lnS]at hq);(try rewrite [List.length_map]))|refine sJ ?_|refine .intro _ (.intro rfl ?_)|refine exL (k:= ?_)|(refine aD NG rA ⟨rfl,rfl,trivial⟩ (λr hs=> ?_);subst hs)|refine dwR ?_|((first|refine aB ?_ ?_|refine aC ?_ ?_)<;>intro hb<;>(first|exact ddX hb|try simp only [lnS]at hb))|(refine aA ?_ ?_<;>intro hb<;>try exact dsX hb))<;>(conv=>whnf)))
  all_goals first|exact⟨by repeat' (first|exact trivial|exact rfl|refine And.intro ?_ ?_),by repeat' (first|exact trivial|exact rfl|refine And.intro ?_ ?_)⟩|rfl
 refine cG [(0, .d (.sl 16 (l.map axR))),(7, .ea 35 [cmR ⟨no,ps,mkD y,ms⟩] 0 0),(8, .ea 2 [qyR ⟨told,parts⟩] 0 0),(9, .ea 69 [alR ⟨nm,mkD y1,ax,mkD y2,ix,pt,pp⟩] 0 0),(10, .ea 1 [[.int .i64 cut]] 0 0),(11, .ea 1 [[.sl 1 (more.map aV)]] 0 0),(13, .d (.sl 1 (wA.map aV))),(14, .d (.int .i64 eA)),(15, .d (.sl 1 (wC.map aV))),(16, .d (.int .i64 eC)),(17, .d (.sl 1 (wQ.map aV))),(18, .d (.int .i64 eQ)),(19, .d (.sl 1 (wL.map aV))),(20, .d (.int .i64 eL)),(21, .d (.sl 16 (xA.map axR))),(22, .d (.int .i64 jA)),(23, .ea 35 [cmR ⟨no2,ps2,mkD z,ms2⟩] 0 0),(24, .d (.int .i64 jC))] (roH NG) (jK hty ?_) ?_
 ·((conv=>whnf);repeat' ((first|(intro hq;(try simp only [lnS]at hq);(try rewrite [List.length_map]))|refine sJ ?_|refine .intro _ (.intro rfl ?_)|refine exL (k:= ?_)|(refine aD [] rC trivial (λr hs=> ?_);subst hs)|refine dwR ?_|((first|refine aB ?_ ?_|refine aC ?_ ?_)<;>intro hb<;>(first|exact ddX hb|try simp only [lnS]at hb))|(refine aA ?_ ?_<;>intro hb<;>try exact dsX hb))<;>(conv=>whnf)))
  all_goals first|exact⟨by repeat' (first|exact trivial|exact rfl|refine And.intro ?_ ?_),by repeat' (first|exact trivial|exact rfl|refine And.intro ?_ ?_)⟩|rfl
 refine cG [(0, .d (.sl 16 (l.map axR))),(7, .ea 35 [cmR ⟨no,ps,mkD y,ms⟩] 0 0),(8, .ea 2 [qyR ⟨told,parts⟩] 0 0),(9, .ea 69 [alR ⟨nm,mkD y1,ax,mkD y2,ix,pt,pp⟩] 0 0),(10, .ea 1 [[.int .i64 cut]] 0 0),(11, .ea 1 [[.sl 1 (more.map aV)]] 0 0),(13, .d (.sl 1 (wA.map aV))),(14, .d (.int .i64 eA)),(15, .d (.sl 1 (wC.map aV))),(16, .d (.int .i64 eC)),(17, .d (.sl 1 (wQ.map aV))),(18, .d (.int .i64 eQ)),(19, .d (.sl 1 (wL.map aV))),(20, .d (.int .i64 eL)),(21, .d (.sl 16 (xA.map axR))),(22, .d (.int .i64 jA)),(23, .ea 35 [cmR ⟨no2,ps2,mkD z,ms2⟩] 0 0),(24, .d (.int .i64 jC)),(25, .ea 2 [qyR ⟨told2,parts2⟩] 0 0),(26, .d (.int .i64 jQ))] (roH NG) (jK hty ?_) ?_
 ·((conv=>whnf);repeat' ((first|(intro hq;(try simp only [lnS]at hq);(try rewrite [List.length_map]))|refine sJ ?_|refine .intro _ (.intro rfl ?_)|refine exL (k:= ?_)|(refine aD NG rQ ⟨rfl,rfl,trivial⟩ (λr hs=> ?_);subst hs)|refine dwR ?_|((first|refine aB ?_ ?_|refine aC ?_ ?_)<;>intro hb<;>(first|exact ddX hb|try simp only [lnS]at hb))|(refine aA ?_ ?_<;>intro hb<;>try exact dsX hb))<;>(conv=>whnf)))
  all_goals first|exact⟨by repeat' (first|exact trivial|exact rfl|refine And.intro ?_ ?_),by repeat' (first|exact trivial|exact rfl|refine And.intro ?_ ?_)⟩|rfl
 refine cG [(0, .d (.sl 16 (l.map axR))),(7, .ea 35 [cmR ⟨no,ps,mkD y,ms⟩] 0 0),(8, .ea 2 [qyR ⟨told,parts⟩] 0 0),(9, .ea 69 [alR ⟨nm,mkD y1,ax,mkD y2,ix,pt,pp⟩] 0 0),(10, .ea 1 [[.int .i64 cut]] 0 0),(11, .ea 1 [[.sl 1 (more.map aV)]] 0 0),(13, .d (.sl 1 (wA.map aV))),(14, .d (.int .i64 eA)),(15, .d (.sl 1 (wC.map aV))),(16, .d (.int .i64 eC)),(17, .d (.sl 1 (wQ.map aV))),(18, .d (.int .i64 eQ)),(19, .d (.sl 1 (wL.map aV))),(20, .d (.int .i64 eL)),(21, .d (.sl 16 (xA.map axR))),(22, .d (.int .i64 jA)),(23, .ea 35 [cmR ⟨no2,ps2,mkD z,ms2⟩] 0 0),(24, .d (.int .i64 jC)),(25, .ea 2 [qyR ⟨told2,parts2⟩] 0 0),(26, .d (.int .i64 jQ)),(27, .ea 69 [alR ⟨nm2,mkD z1,ax2,mkD z2,ix2,pt2,pp2⟩] 0 0),(28, .d (.int .i64 jL))] (roH NG) (jK hty ?_) ?_
 ·((conv=>whnf);repeat' ((first|(intro hq;(try simp only [lnS]at hq);(try rewrite [List.length_map]))|refine sJ ?_|refine .intro _ (.intro rfl ?_)|refine exL (k:= ?_)|(refine aD NG rL ⟨rfl,rfl,trivial⟩ (λr hs=> ?_);subst hs)|refine dwR ?_|((first|refine aB ?_ ?_|refine aC ?_ ?_)<;>intro hb<;>(first|exact ddX hb|try simp only [lnS]at hb))|(refine aA ?_ ?_<;>intro hb<;>try exact dsX hb))<;>(conv=>whnf)))
  all_goals first|exact⟨by repeat' (first|exact trivial|exact rfl|refine And.intro ?_ ?_),by repeat' (first|exact trivial|exact rfl|refine And.intro ?_ ?_)⟩|rfl
 clear oA oC oQ oL rA rC rQ rL c1 c2 c3
 refine cG [(0, .d (.sl 16 (l.map axR))),(7, .ea 35 [cmR ⟨no,ps,mkD y,ms⟩] 0 0),(8, .ea 2 [qyR ⟨told,parts⟩] 0 0),(9, .ea 69 [alR ⟨nm,mkD y1,ax,mkD y2,ix,pt,pp⟩] 0 0),(10, .ea 1 [[.int .i64 cut]] 0 0),(11, .ea 1 [[.sl 1 (more.map aV)]] 0 0),(13, .d (.sl 1 (wA.map aV))),(14, .d (.int .i64 eA)),(15, .d (.sl 1 (wC.map aV))),(16, .d (.int .i64 eC)),(17, .d (.sl 1 (wQ.map aV))),(18, .d (.int .i64 eQ)),(19, .d (.sl 1 (wL.map aV))),(20, .d (.int .i64 eL))] (roH NG) (jK hty ?_) ?_
 ·((conv=>whnf);repeat' ((first|(intro hq;(try simp only [lnS]at hq);(try rewrite [List.length_map]))|refine sJ ?_|refine .intro _ (.intro rfl ?_)|refine exL (k:= ?_)|(refine aD [] (sA (by assumption)) trivial (λr hs=> ?_);subst hs)|(refine aD [] (sC (by assumption)) trivial (λr hs=> ?_);subst hs)|(refine aD [] (sQ (by assumption)) trivial (λr hs=> ?_);subst hs)|(refine aD [] (sL (by assumption)) trivial (λr hs=> ?_);subst hs)|refine dwR ?_|((first|refine aB ?_ ?_|refine aC ?_ ?_)<;>intro hb<;>(first|exact ddX hb|try simp only [lnS]at hb))|(refine aA ?_ ?_<;>intro hb<;>try exact dsX hb))<;>(conv=>whnf)))
  all_goals first
   |exact⟨by repeat' (first|exact trivial|exact rfl|refine And.intro ?_ ?_),by repeat' (first|exact trivial|exact rfl|refine And.intro ?_ ?_)⟩
   |exact absurd (iA (by assumption)) (by assumption)
   |exact absurd (iC (by assumption)) (by assumption)
   |exact absurd (iQ (by assumption)) (by assumption)
   |exact absurd (iL (by assumption)) (by assumption)
 clear sA sC sQ sL iA iC iQ iL
 refine cG [(13, .d (.sl 1 (wA.map aV))),(14, .d (.int .i64 eA)),(15, .d (.sl 1 (wC.map aV))),(16, .d (.int .i64 eC)),(17, .d (.sl 1 (wQ.map aV))),(18, .d (.int .i64 eQ)),(19, .d (.sl 1 (wL.map aV))),(20, .d (.int .i64 eL)),(29, .fn 26 [] [.ea 1 [[.sl 1 (more.map aV)]] 0 0, .ea 1 [[.int .i64 cut]] 0 0])] (roH NG) (jK hty ?_) ?_
 ·((conv=>whnf);repeat' ((first|(intro hq;(try simp only [lnS]at hq);(try rewrite [List.length_map]))|refine sJ ?_|refine .intro _ (.intro rfl ?_)|refine exL (k:= ?_)|refine dwR ?_|((first|refine aB ?_ ?_|refine aC ?_ ?_)<;>intro hb<;>(first|exact ddX hb|try simp only [lnS]at hb))|(refine aA ?_ ?_<;>intro hb<;>try exact dsX hb))<;>(conv=>whnf)))
  all_goals first|exact⟨by repeat' (first|exact trivial|exact rfl|refine And.intro ?_ ?_),by repeat' (first|exact trivial|exact rfl|refine And.intro ?_ ?_)⟩|rfl
 refine cG [(13, .d (.sl 1 (wA.map aV))),(14, .d (.int .i64 eA)),(15, .d (.sl 1 (wC.map aV))),(16, .d (.int .i64 eC)),(17, .d (.sl 1 (wQ.map aV))),(18, .d (.int .i64 eQ)),(19, .d (.sl 1 (wL.map aV))),(20, .d (.int .i64 eL)),(29, .fn 26 [] [.ea 1 [[.sl 1 (more.map aV)]] 0 0, .ea 1 [[.int .i64 cut]] 0 0])] (roH NG) (jK hty ?_) ?_
 ·((conv=>whnf);repeat' ((first|(intro hq;(try simp only [lnS]at hq);(try rewrite [List.length_map]))|refine sJ ?_|refine .intro _ (.intro rfl ?_)|refine exL (k:= ?_)|(refine aD [] gA trivial (λr hs=> ?_);subst hs)|(refine aD NG (tA (by assumption)) ⟨rfl,rfl,trivial⟩ (λr hs=> ?_);subst hs)|refine dwR ?_|((first|refine aB ?_ ?_|refine aC ?_ ?_)<;>intro hb<;>(first|exact ddX hb|try simp only [lnS]at hb))|(refine aA ?_ ?_<;>intro hb<;>try exact dsX hb))<;>(conv=>whnf)))
  all_goals first|exact⟨by repeat' (first|exact trivial|exact rfl|refine And.intro ?_ ?_),by repeat' (first|exact trivial|exact rfl|refine And.intro ?_ ?_)⟩|rfl
 refine cG [(13, .d (.sl 1 (wA.map aV))),(14, .d (.int .i64 eA)),(15, .d (.sl 1 (wC.map aV))),(16, .d (.int .i64 eC)),(17, .d (.sl 1 (wQ.map aV))),(18, .d (.int .i64 eQ)),(19, .d (.sl 1 (wL.map aV))),(20, .d (.int .i64 eL)),(29, .fn 26 [] [.ea 1 [[.sl 1 (more.map aV)]] 0 0, .ea 1 [[.int .i64 cut]] 0 0])] (roH NG) (jK hty ?_) ?_
 ·((conv=>whnf);repeat' ((first|(intro hq;(try simp only [lnS]at hq);(try rewrite [List.length_map]))|refine sJ ?_|refine .intro _ (.intro rfl ?_)|refine exL (k:= ?_)|(refine aD [] gC trivial (λr hs=> ?_);subst hs)|(refine aD [] (tC (by assumption)) trivial (λr hs=> ?_);subst hs)|refine dwR ?_|((first|refine aB ?_ ?_|refine aC ?_ ?_)<;>intro hb<;>(first|exact ddX hb|try simp only [lnS]at hb))|(refine aA ?_ ?_<;>intro hb<;>try exact dsX hb))<;>(conv=>whnf)))
  all_goals first|exact⟨by repeat' (first|exact trivial|exact rfl|refine And.intro ?_ ?_),by repeat' (first|exact trivial|exact rfl|refine And.intro ?_ ?_)⟩|rfl
 refine cG [(13, .d (.sl 1 (wA.map aV))),(14, .d (.int .i64 eA)),(15, .d (.sl 1 (wC.map aV))),(16, .d (.int .i64 eC)),(17, .d (.sl 1 (wQ.map aV))),(18, .d (.int .i64 eQ)),(19, .d (.sl 1 (wL.map aV))),(20, .d (.int .i64 eL)),(29, .fn 26 [] [.ea 1 [[.sl 1 (more.map aV)]] 0 0, .ea 1 [[.int .i64 cut]] 0 0])] (roH NG) (jK hty ?_) ?_
 ·((conv=>whnf);repeat' ((first|(intro hq;(try simp only [lnS]at hq);(try rewrite [List.length_map]))|refine sJ ?_|refine .intro _ (.intro rfl ?_)|refine exL (k:= ?_)|(refine aD [] gQ trivial (λr hs=> ?_);subst hs)|(refine aD NG (tQ (by assumption)) ⟨rfl,rfl,trivial⟩ (λr hs=> ?_);subst hs)|refine dwR ?_|((first|refine aB ?_ ?_|refine aC ?_ ?_)<;>intro hb<;>(first|exact ddX hb|try simp only [lnS]at hb))|(refine aA ?_ ?_<;>intro hb<;>try exact dsX hb))<;>(conv=>whnf)))
  all_goals first|exact⟨by repeat' (first|exact trivial|exact rfl|refine And.intro ?_ ?_),by repeat' (first|exact trivial|exact rfl|refine And.intro ?_ ?_)⟩|rfl
 refine cG [(13, .d (.sl 1 (wA.map aV))),(14, .d (.int .i64 eA)),(15, .d (.sl 1 (wC.map aV))),(16, .d (.int .i64 eC)),(17, .d (.sl 1 (wQ.map aV))),(18, .d (.int .i64 eQ)),(19, .d (.sl 1 (wL.map aV))),(20, .d (.int .i64 eL)),(29, .fn 26 [] [.ea 1 [[.sl 1 (more.map aV)]] 0 0, .ea 1 [[.int .i64 cut]] 0 0])] (roH NG) (jK hty ?_) ?_
 ·((conv=>whnf);repeat' ((first|(intro hq;(try simp only [lnS]at hq);(try rewrite [List.length_map]))|refine sJ ?_|refine .intro _ (.intro rfl ?_)|refine exL (k:= ?_)|(refine aD [] gL trivial (λr hs=> ?_);subst hs)|(refine aD NG (tL (by assumption)) ⟨rfl,rfl,trivial⟩ (λr hs=> ?_);subst hs)|refine dwR ?_|((first|refine aB ?_ ?_|refine aC ?_ ?_)<;>intro hb<;>(first|exact ddX hb|try simp only [lnS]at hb))|(refine aA ?_ ?_<;>intro hb<;>try exact dsX hb))<;>(conv=>whnf)))
  all_goals first|exact⟨by repeat' (first|exact trivial|exact rfl|refine And.intro ?_ ?_),by repeat' (first|exact trivial|exact rfl|refine And.intro ?_ ?_)⟩|rfl
 refine jK hty ?_
 ((conv=>whnf);repeat' ((first|(intro hq;(try simp only [lnS]at hq);(try rewrite [List.length_map]))|refine sJ ?_|refine .intro _ (.intro rfl ?_)|refine exL (k:= ?_)|refine dwR ?_|((first|refine aB ?_ ?_|refine aC ?_ ?_)<;>intro hb<;>(first|exact ddX hb|try simp only [lnS]at hb))|(refine aA ?_ ?_<;>intro hb<;>try exact dsX hb))<;>(conv=>whnf)))
 rfl
end Go.Proofs.YtleihcnongldbaaGreatDoor
