/-
  A nil cell takes up rows of its own, at a call; contracts whose result says less. Contracts of functions that hand back bytes of a row of their own, onto which the caller may append. append of a number of zero values to rows that may be written. The hash: padding. The hash of bytes. The hash of the reference: padding. The hash of the reference: turning a word. The hash of the reference: a block. The hash of the reference. The hash with a tag, of the reference. append onto the slice of a whole array, and append of nothing.
  Conditions: none.
-/
import Derived.Test.YtbobcfjlbcgchaaGreatDoorVOs
import Derived.Test.YtbobcfjlbcgchaaGreatDoorVSs
import Derived.Test.YtbobcfjlbcgchaaGreatDoorVA1
import Derived.Test.YtbobcfjlbcgchaaGreatDoorVYb
set_option linter.unnecessarySimpa false
set_option linter.unusedSectionVars false
set_option linter.unusedSimpArgs false
set_option linter.unusedVariables false
set_option maxHeartbeats 16000000
namespace Go.Proofs.YtbobcfjlbcgchaaGreatDoor
open Go.RowKit
section
variable {P:Program}
theorem aF.ownH {pin:Pin}{fr:Fr}{hp:Hp}{f:FuncId}{args:List SV}{K:SV->Hp->Prop}(i id t e z:Nat) (hnil:aN hp i=some (.cells t [.d .nil])) (hfr:eN id pin fr hp) (hna:id∉SV.idsL args)
  (h:aF P pin fr ((id, .own e z 0)::dU hp i (.cells t [.osl id z []])) f args K):aF P pin fr hp f args K:=by
 intro E ρ w tm hpin h3 h4 vs hargs
 obtain⟨f1,f2,f3⟩:=hfr
 obtain⟨m1,m2,m3⟩:=h3.newNil (id:=id) e z f3 (by rw [hpin];exact f1)
 have hne:i≠id:= λe=>f3 (by subst e;exact bJ hnil (.inl rfl))
 have hi':aN ((id,HObj.own e z 0)::hp) i=some (.cells t [.d .nil]):=by
  simp only [aN];rw [if_neg (Ne.symm hne)];exact hnil
 have m4 := m1.recell hi' (cs' := [.osl id z []]) rfl (λj s' v hs' hv => by
  cases j with
  |zero=>
   simp at hs'
   subst hs'
   have:=(hv (.d .nil) rfl).nil_inv
   subst this
   exact m3
  |succ j=>simp at hs')
 have e2:dU ((id,HObj.own e z 0)::hp) i (.cells t [.osl id z []])=(id, .own e z 0)::dU hp i (.cells t [.osl id z []]):=by
  simp only [dU];rw [if_neg (Ne.symm hne)]
 rw [e2]at m4
 have hidsA: ∀(l:List SV) (k:Nat),id∉SV.idsL l->id∉eQ (cT k l):=by
  intro l
  induction l with
  |nil=>intro k h;simp [cT,eQ]
  |cons s r ih=>
   intro k hn
   rw [SV.idsL,List.mem_append,not_or]at hn
   simp only [cT,eQ,List.flatMap_cons,List.mem_append,not_or]
   exact⟨hn.1,ih (k+1) hn.2⟩
 have hget: ∀(l:List SV) (k j:Nat) (s:SV),l[j]? =some s->gM (cT k l) (k+j)=some s:=by
  intro l
  induction l with
  |nil=>intro k j s h;simp at h
  |cons x r ih=>
   intro k j s h
   cases j with
   |zero=>simp at h;subst h;simp [cT,gM]
   |succ j=>
    simp at h
    have:=ih (k+1) j s h
    simp only [cT,gM]
    rw [if_neg (by omega)]
    rw [show k+(j+1)=k+1+j by omega];exact this
 have hav:dD ρ w (cT 0 args) vs:=by
  intro u s hu
  obtain⟨_,q⟩:=nL args 0 u s hu
  simp only [Nat.sub_zero]at q
  have hlt:=(List.getElem?_eq_some_iff.1 q).1
  have hlt':u < vs.size:=by rw [hargs.1];exact hlt
  exact⟨vs[u],Array.getElem?_eq_getElem hlt',hargs.2 u s _ q (Array.getElem?_eq_getElem hlt')⟩
 have hav2:=m2 (cT 0 args) vs (hidsA args 0 hna) hav
 refine h E _ w tm hpin m4 (m2 fr tm f2 h4) vs ⟨hargs.1,λj s v hs hv=> ?_⟩
 have h0:=hget args 0 j s hs
 rw [Nat.zero_add]at h0
 obtain⟨u,q1,q2⟩:=hav2 j s h0
 rw [hv]at q1
 injection q1 with q1
 rw [q1];exact q2
theorem Tri.says {f:FuncId}{args:List SV}{hp:Hp}{post:SV->Prop}(h:Tri P f args hp λs=> ∃s',gR s s'/\post s'):Tri P f args hp post:=
 λw ρ vs a b c=>(h w ρ vs a b c).mono λ_ _ ⟨v,S',s,h1,⟨s',h2,h3⟩,h4,h5,h6,h7,h8⟩=>⟨v,S',s',h1,h3,h4,h5,h6,h7,h2 _ _ _ h8⟩
theorem gR.tup {l m:List SV}(hl:l.length=m.length) (h: ∀(j:Nat) (a b:SV),l[j]? =some a->m[j]? =some b->gR a b):gR (.tup l) (.tup m):= λw ρ v hr=>by
 obtain⟨vs,rfl,h1,h2⟩:=hr.tup_inv
 refine .tup _ _ (h1.trans hl) λj b u hb hu=> ?_
 have hj:j < l.length:=by rw [hl];exact(List.getElem?_eq_some_iff.1 hb).1
 exact h j _ b (List.getElem?_eq_getElem hj) hb w ρ u (h2 j _ u (List.getElem?_eq_getElem hj) hu)
theorem gR.pair {a b c:SV}(h:gR a b):gR (.tup [a,c]) (.tup [b,c]):=gR.tup rfl λj x y hx hy=>by
 match j with
 | 0=>simp at hx hy;subst hx hy;exact h
 | 1=>simp at hx hy;subst hx hy;exact .refl _
 |j+2=>simp at hx
end
end Go.Proofs.YtbobcfjlbcgchaaGreatDoor
namespace Go.Proofs.YtbobcfjlbcgchaaGreatDoor
open Go.RowKit
section
variable {P:Program}
def jC (l:List UInt8):List Value:=l.map λc=> .int .u8 c.toNat
def aAd (P:Program) (f:FuncId) (args:List SV) (e:TypeId) (bs:List UInt8):Prop:=
 ∀(w:World) (ρ:Env) (vs:Array Value),(∀b i,ρ.S b i->b < w.heap.size)->cL w ρ args vs->
  Calls P f vs w λx w'=> ∃v,x= .returned v/\Grew w w'/\w'.ownsRow 0 e 1 v bs.length (jC bs)/\ ∀g,v.ownBlock=some g->w.heap.size<=g
theorem aJx {w:World}{S:Nat->Nat->Prop}(l:List UInt8):Flat w S 1 (l.map bE) (jC l):=by
 refine⟨by simp [jC],λrow h=> ?_,λv h=> ?_,λi row j x h1 h2=> ?_⟩
 ·obtain⟨c,_,rfl⟩:=List.mem_map.1 h;rfl
 ·obtain⟨c,_,rfl⟩:=List.mem_map.1 h;rfl
 ·rw [List.getElem?_map,Option.map_eq_some_iff]at h1
  obtain⟨c,hc,rfl⟩:=h1
  have hj:j=0/\x= .int .u8 c.toNat:=by
   cases j with
   |zero=>simp [bE]at h2;exact⟨rfl,h2.symm⟩
   |succ j=>simp [bE]at h2
  obtain⟨rfl,rfl⟩:=hj
  exact⟨.int .u8 c.toNat,by simp [jC,hc], .int _ _⟩
theorem aIe {w:World}{S:Nat->Nat->Prop}{l:List UInt8}{v:Value}(h:RepD w S (.sl 1 (l.map bE)) v) {g cap n:Nat}{cur:Array Value}{t:TypeId}(hv:v= .slice (some ⟨g,0,none⟩) n cap) (hg:w.heap[g]? =some (.cells cur t (0,0))) (hs:n<=cur.size) (hn:n=l.length):cur.toList.take n=jC l:=by
 obtain⟨A,cap',b,off,e1,_,_,hA,hview⟩:=h.of_sl
 have hl:(l.map bE).length=l.length:=List.length_map ..
 refine List.ext_getElem? λi=> ?_
 rw [List.getElem?_take]
 split
 ·rename_i hi
  have hil:i < l.length:=by omega
  have hne:l.map bE≠[]:=by
   intro e
   have:=congrArg List.length e
   rw [hl]at this
   simp at this
   rw [this]at hil;simp at hil
  have hA':=hA hne
  subst hA'
  rw [hv]at e1
  injection e1 with e1 _ _
  injection e1 with e1
  injection e1 with e1 e2
  subst e1
  obtain⟨u,c1,_,_,c4⟩:=hview.cell i (bE l[i]) 0 (.int .u8 l[i].toNat) (by rw [List.getElem?_map,List.getElem?_eq_getElem hil];rfl) rfl
  cases c4
  have e3:off+(i * 1+0)=i:=by omega
  rw [e3]at c1
  rw [cell_of_row w g i cur t (0,0) hg]at c1
  rw [Array.getElem?_toList,c1]
  simp [jC,List.getElem?_eq_getElem hil]
 ·rename_i hi
  symm
  rw [List.getElem?_eq_none_iff]
  simp [jC];omega
theorem aTl {w:World}{S:Nat->Nat->Prop}{l:List UInt8}{vs:List Value}(h:Flat w S 1 (l.map bE) vs):vs=jC l:=by
 have hl:vs.length=l.length:=by rw [h.len,List.length_map,Nat.mul_one]
 refine List.ext_getElem? λi=> ?_
 by_cases hi:i < l.length
 ·obtain⟨v,h1,h2⟩:=h.at_ i (bE l[i]) 0 (.int .u8 l[i].toNat) (by rw [List.getElem?_map,List.getElem?_eq_getElem hi];rfl) rfl
  have e3:i * 1+0=i:=by omega
  rw [e3]at h1
  cases h2
  rw [h1]
  simp [jC,List.getElem?_eq_getElem hi]
 ·rw [List.getElem?_eq_none_iff.2 (by omega),List.getElem?_eq_none_iff.2 (by simp [jC];omega)]
theorem aSb {f:FuncId}{args:List SV}{e:TypeId}{bs:List UInt8}
  (h:aF P ⟨[],λ_ _=>False,[]⟩ [] [] f args λs h=>(∃id n,s= .osl id 1 (bs.map bE)/\aN h id=some (.own e 1 n)/\n=bs.length)\/ ∃id n cap,s= .mw id 1 n/\aN h id=some (.mrow e 1 cap (bs.map bE))/\n=bs.length/\bs≠[]):aAd P f args e bs:=by
 intro w ρ vs hslt hargs
 have hm:Mem ⟨w,ρ.S,λ_=>False,⟨[],λ_ _=>False,[]⟩,ρ,none,[],0⟩ ρ [] w:=
  ⟨rfl,rfl, .refl _,Nat.le_refl _,λ_ _ _=>rfl,λ_ _ h=>h,λ_ _ h _ _=>h,hslt,λ_ _ _=>rfl,λ_ _ h=>by simp [aN]at h,λ_ _ _ _ _ h=>by simp [aN]at h,λ_ _ _ h=>by simp [aN]at h,λid _=>ρ.moved_refl id,λ_ _ _ h=>by simp [aN]at h,λb hb=>by cases hb⟩
 refine(h _ ρ w #[] rfl hm (λt s h=>by simp [gM]at h) vs hargs).mono ?_
 have hl:(bs.map bE).length=bs.length:=List.length_map ..
 rintro x w' (⟨v,ρ',s,hp',rfl,hk,k2,k3,k4⟩|⟨ch,ρ',hp',_,_,hf,_⟩)
 ·have hgrew:Grew w w':=⟨k2.os,k2.tape,k2.output,k2.size,λb hb=>k2.old b hb (λh=>h)⟩
  rcases hk with⟨id,n,rfl,ho,hn⟩|⟨id,n,cap,rfl,ho,hn,hne⟩
  ·obtain⟨q1,xs,q2,q3,q4⟩:=k2.sat id _ ho
   obtain⟨r1,r2,r3⟩:=k4.osl_inv
   have ev:=r3 (by rw [hl,q1,hn])
   subst ev
   refine⟨_,rfl,hgrew, ?_,λg hg=> ?_⟩
   ·rw [q1,hn]at q2
    obtain⟨p1,p2|⟨g,cap,cur,p2,p3,p4,p5,p6,p7,p8⟩⟩:=q2
    ·refine⟨by simp [jC], .inl p2⟩
    ·refine⟨by simp [jC], .inr ⟨g,cap,cur,p2,p3,p4,p5,p6,p7, ?_⟩⟩
     have:=aIe r1 p2 p4 (by rw [p7];omega) rfl
     rw [Nat.mul_one];exact this
   ·rcases k2.hb id _ g ho hg with h1|h1
    ·exact h1
    ·exact h1.elim
  ·obtain⟨q1,q2⟩:=k2.sat id _ ho
   obtain⟨A,c,_,_,_,_,_,e2⟩:=k4.mw_inv
   have ev:=e2 (by rw [q1,hl,hn])
   rcases q2 with⟨p1,p2,A',p3⟩|⟨hc,g,cur,p3,p4,p5,p6,p7,p8,p9⟩
   ·exfalso
    have:(bs.map bE).length=0:=by rw [p1];rfl
    rw [hl]at this
    exact hne (List.length_eq_zero_iff.1 this)
   ·rw [ev,p3]
    refine⟨_,rfl,hgrew,⟨by simp [jC], .inr ⟨g,cap,cur,by rw [hl],Nat.zero_le _,p4,by rw [hl]at p5;exact p5,p6,p7, ?_⟩⟩,λg' hg'=> ?_⟩
    ·have:=aTl p8
     rw [hl]at this;exact this
    ·have hgg:g'=g:=by simp [Value.ownBlock]at hg';exact hg'.symm
     subst hgg
     have hb:eM (ρ'.tv id)=some g':=by
      rw [p3]
      have hc0:cap≠0:=by omega
      simp [eM,hc0]
     rcases k2.hb id _ g' ho hb with h1|h1
     ·exact h1
     ·exact h1.elim
 ·exact hf.elim
theorem aAd.tri {f:FuncId}{args:List SV}{e:TypeId}{bs:List UInt8}(h:aAd P f args e bs):Tri P f args [] (λr=>r= .d (.sl 1 (bs.map bE))):=by
 intro w ρ vs hslt hargs _
 refine(h w ρ vs hslt hargs).mono ?_
 rintro x w' ⟨v,rfl,h1,h2,h3⟩
 have hl:(bs.map bE).length=bs.length:=List.length_map ..
 have hm:Mem ⟨w,ρ.S,λ_=>False,⟨[],λ_ _=>False,[]⟩,ρ,none,[],0⟩ ρ [] w:=
  ⟨rfl,rfl, .refl _,Nat.le_refl _,λ_ _ _=>rfl,λ_ _ h=>h,λ_ _ h _ _=>h,hslt,λ_ _ _=>rfl,λ_ _ h=>by simp [aN]at h,λ_ _ _ _ _ h=>by simp [aN]at h,λ_ _ _ h=>by simp [aN]at h,λid _=>ρ.moved_refl id,λ_ _ _ h=>by simp [aN]at h,λb hb=>by cases hb⟩
 obtain⟨m1,m2,m3⟩:=hm.newOwn (id:=0) (e:=e) (z:=1) (rows:=bs.map bE) (vs:=jC bs) h1 (by rw [hl];exact h2) h3 (aJx bs) (by simp [fG]) (λh=>by cases h)
 refine⟨v,_,_,rfl,rfl,h1,m1.sold,λb i hs=> ?_,m1.slt,(Rep.d _ _ m3.osl_inv.1:Rep w' _ (.d (.sl 1 (bs.map bE))) v).noids rfl rfl⟩
 rcases Nat.lt_or_ge b w.heap.size with hlt|hge
 ·exact .inl (m1.snew b i hs hlt (λh=>h))
 ·exact .inr hge
end
end Go.Proofs.YtbobcfjlbcgchaaGreatDoor
namespace Go.Proofs.YtbobcfjlbcgchaaGreatDoor
open Go.Proofs Go.RowKit
variable {P:Program}
theorem aAy (w:World) (t tn ty e:TypeId) (i:TypeInfo) (z:Value) (kq kn:IntKind) (ht:P.underlying t=some (.slice e)) (htn:P.underlying tn=some (.int kn))
  (hi:P.info? e=some i) (hz:i.zero=some z) (hzs:z.cells.size=i.size) (hsz:0 < i.size)
  (v:Value) (n:Nat) (xs:List Value) (hown:w.ownsRow 0 e i.size v n xs) (hn0:0 < n)
  (m:Nat) (h1: ∀u∈(Builtin.zeroCells z.cells m).toList,u.oneCell'=true)
  (h63:n+m<=maxLen) (hbytes:(n+m)* i.bytes<=140737488355328):
  ∃v' w',(Builtin.append_ #[t,tn] ty #[v, .int kq m]).run P w= .ok v' w'/\w'.ownsRow 0 e i.size v' (n+m) (xs++(Builtin.zeroCells z.cells m).toList)/\
   ((∃g cap cs,v= .slice (some ⟨g,0,none⟩) n cap/\v'= .slice (some ⟨g,0,none⟩) (n+m) cap/\w'=w.setRow g cs)\/(v'.ownBlock=some w.heap.size/\Grew w w'/\0 < m)):=by
 have hsmall:n+m<=9223372036854775807:=by simp only [maxLen]at h63;omega
 obtain⟨news,hnews⟩: ∃news,news=(Builtin.zeroCells z.cells m).toList:=⟨_,rfl⟩
 have hl:news.length=m * i.size:=by rw [hnews,Array.length_toList,size_zeroCells,hzs]
 have hna:Builtin.zeroCells z.cells m=news.toArray:=by rw [hnews]
 rw [<-hnews]at h1 |-
 have hlen':(xs++news).length=(n+m)* i.size:=by rw [List.length_append,hown.1,hl,Nat.add_mul]
 have grown: ∀(old:Nat),old < n+m->
   (w.drew.alloc (.cells (xs.toArray++news.toArray++Builtin.zeroCells z.cells (grownCap w (n+m) old e - (n+m))) e)).ownsRow 0 e i.size
    (.slice (some ⟨w.heap.size,0,none⟩) (n+m) (grownCap w (n+m) old e)) (n+m) (xs++news):=by
  intro old ho
  have hge:=grownCap_ge w (n+m) old e
  have hcm:grownCap w (n+m) old e<=maxLen:=grownCap_le_maxLen w (n+m) old e h63
  refine⟨hlen', .inr ⟨w.heap.size,_,_,rfl,Nat.zero_le _,heap_alloc_new w.drew _,hge,hcm, ?_, ?_⟩⟩
  ·simp only [Array.size_append,List.size_toArray,size_zeroCells,hzs,hown.1,hl,<-Nat.add_mul]
   congr 1
   omega
  ·simp only [Array.toList_append,List.append_assoc]
   rw [<-List.append_assoc,<-hlen']
   exact List.take_left
 have hgrew: ∀o,Grew w (w.drew.alloc o):= λo=>(Grew.drew w).trans (Grew.alloc _ _)
 have hw:IntKind.i64.wrap (m:Int)=m:=by rw [IntKind.wrap_i64];omega
 have hneg:¬ ((m:Int) < 0):=by omega
 have h48i:¬ (281474976710656 < (m:Int)* (i.bytes:Int)):=by
  rw [<-Int.natCast_mul]
  have:m * i.bytes<=(n+m)* i.bytes:=Nat.mul_le_mul_right _ (by omega)
  omega
 have hsz0:¬ i.size=0:=by omega
 rcases hown.2 with⟨rfl,rfl⟩|⟨g,cap,cur,rfl,hbg,hg,hnc,hcm,hcs,htake⟩
 ·omega
 ·by_cases hroom:n+m<=cap
  ·have hfit:n * i.size+news.length<=cur.size:=by rw [hl,hcs,<-Nat.add_mul];exact Nat.mul_le_mul_right _ hroom
   have hst:=run_storeCells_at P g (n * i.size) e news 0 cur w hg (by simpa using hfit) h1
   simp only [Nat.add_zero]at hst
   refine⟨.slice (some ⟨g,0,none⟩) (n+m) cap,w.setRow g (cur.toList.take (n * i.size)++news++cur.toList.drop (n * i.size+news.length)).toArray, ?_, ?_, .inl ⟨g,cap,_,rfl,rfl,rfl⟩⟩
   ·by_cases hm:m=0
    ·subst hm
     have hnil:news=[]:=List.eq_nil_of_length_eq_zero (by simpa using hl)
     subst hnil
     have hw0:IntKind.i64.wrap 0=0:=by decide
     simp [hw0,Builtin.append_,run_underlying ht,run_underlying htn,sizeOf,typeInfo,zeroValue,hi,hz,asInt,asIntOf,hw,hneg,h48i,hnc,Addr.add_lit]at hst |-
     rw [hst];rfl
    ·have hns:¬ (m * i.size=0):=Nat.mul_ne_zero hm hsz0
     simp [hns,Builtin.append_,run_underlying ht,run_underlying htn,sizeOf,typeInfo,zeroValue,hi,hz,asInt,asIntOf,hw,hneg,h48i,hroom,hm,hsz0,hna,Addr.add_lit,hst]
   ·refine⟨hlen', .inr ⟨g,cap,_,rfl,Nat.zero_le _,setRow_heap w g cur _ e _ hg,hroom,hcm, ?_, ?_⟩⟩
    ·simp only [List.size_toArray,List.length_append,List.length_take,List.length_drop,Array.length_toList]
     omega
    ·rw [htake,<-hlen',List.append_assoc,<-List.append_assoc]
     exact List.take_left
  ·have hgr:=grown cap (by omega)
   have hm:¬ m=0:=by omega
   have h63':¬ (9223372036854775807 < ((n:Int)+(m:Int))):=by omega
   have h48':¬ (281474976710656 < Builtin.nextslicecap (n+m) cap * i.bytes):=by
    have:=growslice_fits (need:=n+m) (old:=cap) (bytes:=i.bytes) (by omega) hbytes
    omega
   have hfo:=run_firstCells_some (P:=P) w.drew i.size n ⟨g,0,none⟩ n cap xs hown.1 (λj u hu=>by rw [dC];exact iL hown rfl j u hu)
   refine⟨.slice (some ⟨w.heap.size,0,none⟩) (n+m) (grownCap w (n+m) cap e),_, ?_,hgr, .inr ⟨rfl,hgrew _,by omega⟩⟩
   have hns:¬ (m * i.size=0):=Nat.mul_ne_zero hm hsz0
   simp [hns,Builtin.append_,run_underlying ht,run_underlying htn,sizeOf,typeInfo,zeroValue,hi,hz,asInt,asIntOf,hw,hneg,h48i,hroom,hm,hsz0,hna,h63',h48',Question.forced,hfo,newRow,grownCap]
   try (congr 2;apply Array.ext';simp [List.append_assoc])
theorem aJ5 {ti:TypeId->Option TI}(hti:dX P ti) {o:Oper}{t tn e:TypeId}{T N:TI}{x y:Operand}{k kn:IntKind}(ho:o.op= .call { callee:= .builtin .append,args:= #[x,y],argTypes:= #[t,tn] }) (hT:slT ti t=some (e,T)) (hN:ti tn=some N) (hNk:N.td= .int kn)
  {pin:Pin} {fr:Fr} {hp:Hp} {K:SV->Hp->Prop} {id z n cap m:Nat} {l:Int} {rows:List (List D)} (hs:evO fr x=some (.mw id z n)) (hy:evO fr y=some (.d (.int k l))) (hl:l=m)
  (hoo:aN hp id=some (.mrow e z cap rows)) (hver:T.size=z/\n=rows.length) (h0:0 < rows.length) (hpos:0 < T.size) (h63:rows.length+m<=9223372036854775807) (hby:(rows.length+m)* T.bytes<=140737488355328)
  (hk: ∀cap':Nat,rows.length+m<=cap'->gK hp id (.mrow e z cap' (rows++List.replicate m T.zero)) λhp'=>K (.mw id z (rows.length+m)) hp'):aQ P o pin fr hp K:=by
 intro E ρ a w hpin hm hf next Q hn
 subst hl
 obtain⟨rfl,rfl⟩:=hver
 have e1:=(aR hf hs)
 have e2:=(aR hf hy).int_inv
 obtain⟨hu,d2,i2,z2,hT2⟩:=zG hti hT
 obtain⟨dn,i0,z0,hTN⟩:=aM (hti _ _ hN)
 have htd:=hTN.td
 rw [hNk]at htd
 have hdn:=kN htd
 subst hdn
 obtain⟨n0,m0⟩:=hm.sat id _ hoo
 obtain⟨A,c,e3,_,_,_,_,e4⟩:=e1.mw_inv
 have hev:a.eval x=ρ.tv id:=e4 (by omega)
 have hc:cap≠0:=by
  intro hc
  subst hc
  rcases m0 with h|⟨h,_⟩
  ·rw [h.1]at h0;simp at h0
  ·omega
 obtain⟨new,hnew⟩: ∃new,new=List.replicate m T.zero:=⟨_,rfl⟩
 have hnl:new.length=m:=by rw [hnew,List.length_replicate]
 have q3:Flat w ρ.S T.size new (Builtin.zeroCells z2.cells m).toList:=by
  have h:=pU hT2 w ρ.S m hpos
  have e5:(Builtin.zeroCells z2.cells m)=(Array.range (m * i2.size)).map (z2.cells[· % z2.cells.size]!):=by
   rw [Builtin.zeroCells,hT2.cells]
  rw [e5,hnew]
  exact h
 rw [<-hnew]at hk
 rw [<-hnl]at hk h63 hby q3 e2
 obtain⟨xs,o1,o2,o3,g,o4⟩:=m0.owns (by omega)
 obtain⟨v',w',r1,hown,hcase⟩:=aAy (P:=P) w t tn o.type e i2 z2 k kn hu hTN.und hT2.info hT2.zero hT2.cells (by rw [hT2.size];exact hpos) (ρ.tv id) rows.length xs (by rw [hT2.size];exact o1) h0 new.length q3.one (by simp only [maxLen];omega) (by rw [hT2.bytes];exact hby)
 rw [<-hev]at r1
 rw [hT2.size]at hown
 have fin: ∀(cap':Nat),w'.os=w.os->w'.tape=w.tape->aKg w' w->w.heap.size<=w'.heap.size->
   (∀b,b < w.heap.size->eM (ρ.tv id)≠some b->w'.heap[b]? =w.heap[b]?)->fI w' ρ.S e T.size cap' (rows++new) v'->(∀g,eM v'=some g->eM (ρ.tv id)=some g\/w.heap.size<=g)->
   (((rows++new).length=rows.length/\v'=ρ.tv id)\/rows.length < (rows++new).length)->o.wp P a w next Q:=by
  intro cap' r2 r3 r4 r5 r6 r7 r8 r9
  obtain⟨s1,s2,s3⟩:=hm.setMrow hoo r2 r3 r4 r5 r6 r7 r8 r9
  obtain⟨A',p1,p2,p3,p4⟩:=r7.shape
  have hk':=hk cap' (by rw [<-List.length_append];exact p2)
  rw [dM]at hk'
  have hrep:Rep w' (ρ.retop id (rows++new).length v') (.mw id T.size (rows.length+new.length)) v':=by
   rw [p1,<-List.length_append]
   exact .mw id T.size _ cap' A' p2 p3 (λh0=>p4 (by omega)) (by simp [Env.retop]) (by simp [Env.retop])
  have hrun:(execOp a.eval o).run P w= .ok (.value v') w':=fB ho (by rw [e2];exact r1)
  exact bU hrun (hn _ _ _ _ _ hk' s1 (hf.mono s2 (λ_ _ x=>x) λj _=>s3 j) hrep)
 have hmb:eM (ρ.tv id)=some g:=by rw [o3,o4];rfl
 have hnoS: ∀k,¬ ρ.S g k:=by
  rcases m0 with⟨_,h0,_⟩|⟨_,g',cur,e5,_,_,_,_,_,h7⟩
  ·exact absurd h0 hc
  ·rw [o4]at e5
   injection e5 with e5
   injection e5 with e5
   injection e5 with e5
   subst e5;exact h7
 rw [<-List.length_append]at hown
 have hposL:0 < (rows++new).length:=by rw [List.length_append];omega
 rcases hcase with⟨g',cap',cs,p1,p2,rfl⟩|⟨p1,p2,p3⟩
 ·have hg':g'=g:=by rw [p1]at o4;injection o4 with o4;injection o4 with o4;injection o4 with o4
  subst hg'
  have hoth: ∀b,b < w.heap.size->eM (ρ.tv id)≠some b->(w.setRow g' cs).heap[b]? =w.heap[b]? := λb _ hb=>setRow_other w g' b _ (λe=>hb (by rw [e];exact hmb))
  have hkp:cD ρ.S w (w.setRow g' cs):= λb k hs=>World.cell?_of_block (w:=w) (hoth b (hm.slt b k hs) λhb=>by rw [hmb]at hb;injection hb with hb;subst hb;exact hnoS k hs)
  obtain ⟨cap'', c1, c2, c3⟩ := sK (S := ρ.S) hown ((o2.append q3).mono hkp (λ_ _ x => x)) ⟨g', by rw [p2]; rfl⟩ hposL (λg hg k hk' => by
   rw [p2]at hg;simp only [Value.ownBlock,Option.some.injEq]at hg;subst hg;exact hnoS k hk')
  refine fin cap'' rfl rfl (.refl _) (by simp [World.setRow]) hoth c1 (λg hg=> .inl (by rw [c3,p2]at hg;rw [hmb];exact hg)) ?_
  by_cases hm0:new.length=0
  ·left
   have hnil:new=[]:=List.eq_nil_of_length_eq_zero hm0
   rw [hnil,List.append_nil,p2,p1,hnil]
   exact⟨rfl,rfl⟩
  ·right;rw [List.length_append];omega
 ·obtain ⟨cap'', c1, c2, c3⟩ := sK (S := ρ.S) hown ((o2.append q3).mono (p2.keeps hm.slt) (λ_ _ x => x)) ⟨_, p1⟩ hposL (λg hg k hk' => by
   rw [p1]at hg;injection hg with hg;have:=hm.slt g k hk';omega)
  exact fin cap'' p2.os p2.tape p2.output p2.size (λb hb _=>p2.block b hb) c1 (λg hg=> .inr (by rw [c3,p1]at hg;injection hg with hg;omega)) (.inr (by rw [List.length_append];omega))
end Go.Proofs.YtbobcfjlbcgchaaGreatDoor
namespace Go.Proofs.YtbobcfjlbcgchaaGreatDoor
open Go.Proofs Go.RowKit
set_option maxRecDepth 10000
attribute [local irreducible] aJ aF Tri aG YVC bS aQ aAd
theorem aR0 (n j:Nat) (h:j < 8):(beN 8 n).take (j+1)=(beN 8 n).take j++[UInt8.ofNat (n / 2 ^ (56 - 8 * j) % 256)]:=by
 have e:j=0\/j=1\/j=2\/j=3\/j=4\/j=5\/j=6\/j=7:=by omega
 rw [aYe]
 rcases e with rfl|rfl|rfl|rfl|rfl|rfl|rfl|rfl<;>rfl
theorem aXr (n:Nat) (s:Nat) (hn:n < 18446744073709551616) (hs:s<=64):IntKind.u8.wrap (((n:Nat):Int).fdiv (2 ^ (min (s:Int).toNat IntKind.u64.bits)))=(((UInt8.ofNat (n / 2 ^ s % 256)).toNat:Nat):Int):=by
 have h:=aO8 (n:Int) s hs
 rw [sX n hn]at h
 rw [h]
 have e:uN (n:Int)=n:=by unfold uN;omega
 rw [e]
 simp
def aJ2 (b:List UInt8):List UInt8:=b++[128]++List.replicate (aPs b.length) 0
theorem aPt (b:List UInt8):(aJ2 b).length=b.length+1+aPs b.length:=by
 unfold aJ2
 simp only [List.length_append,List.length_replicate,List.length_singleton]
theorem aT2 (b:List UInt8):aJ3 b=aJ2 b++(beN 8 (8 * b.length)).take 8:=by
 rw [List.take_of_length_le (by rw [bH];omega)];rfl
theorem aX8 (b:List UInt8) (hb:b.length<=1000000000000):aAd Tryz.prog 74 [.d (.sl 1 (b.map bE))] 5 (aJ3 b):=by
 refine aSb ?_
 have hbl:(b.map bE).length=b.length:=List.length_map ..
 have e1:((b.map bE).length:Int).tmod 64=((b.length % 64:Nat):Int):=by
  rw [hbl,Int.tmod_eq_emod_of_nonneg (by omega)]
  omega
 have ht:0<=((b.map bE).length:Int).tmod 64/\((b.map bE).length:Int).tmod 64 < 64:=by rw [e1];omega
 have hr: -9223372036854775808<=119 - ((b.map bE).length:Int).tmod 64/\119 - ((b.map bE).length:Int).tmod 64<=9223372036854775807:=by omega
 have hz:(119 - ((b.map bE).length:Int).tmod 64).tmod 64=((aPs b.length:Nat):Int):=by
  rw [e1,Int.tmod_eq_emod_of_nonneg (by omega)]
  unfold aPs
  omega
 have hzb:0<=(119 - ((b.map bE).length:Int).tmod 64).tmod 64/\(119 - ((b.map bE).length:Int).tmod 64).tmod 64 < 64:=by
  have:=aF5 b.length
  rw [hz];omega
 have hzl:=aF5 b.length
 refine aI false [] hty Tryz.func74 rfl (kp [0,2,3,4,5,32]) 100 (by simp [Tryz.f74]) ?_
 ((conv=>whnf);repeat ((first|(refine And.intro hr ?_)|(refine And.intro (by first|omega|(simp only [List.length_replicate,List.length_append,List.length_set,List.length_cons,List.length_nil,Int.toNat_zero,Nat.mul_one,Nat.zero_add];done)|(simp only [List.length_replicate,List.length_append,List.length_set,List.length_cons,List.length_nil,Int.toNat_zero,Nat.mul_one,Nat.zero_add];omega)) ?_)|(intro hq;try simp only [lnS]at hq)|refine sI ?_|refine .intro _ (.intro rfl ?_));(conv=>whnf)))
 rw [hz]
 refine aJ5 hty rfl rfl rfl rfl rfl rfl rfl rfl ⟨rfl, ?_⟩ ?_ (by decide) ?_ ?_ ?_
 ·simp only [List.length_append]
 ·simp only [List.length_replicate,List.length_append,List.length_set,List.length_cons,List.length_nil,Int.toNat_zero,Nat.mul_one,Nat.zero_add,hbl];omega
 ·simp only [List.length_replicate,List.length_append,List.length_set,List.length_cons,List.length_nil,Int.toNat_zero,Nat.mul_one,Nat.zero_add,hbl];omega
 ·simp only [List.length_replicate,List.length_append,List.length_set,List.length_cons,List.length_nil,Int.toNat_zero,Nat.mul_one,Nat.zero_add,hbl];omega
 intro c hc
 have hN:IntKind.u64.wrap (IntKind.u64.wrap ((b.map bE).length:Int)* 8)=((8 * b.length:Nat):Int):=by
  rw [hbl,sX b.length (by omega),show ((b.length:Nat):Int)* 8=((8 * b.length:Nat):Int)by omega,sX _ (by omega)]
 ((conv=>whnf);repeat ((first|(intro hq;try simp only [lnS]at hq)|refine sI ?_|refine .intro _ (.intro rfl ?_));(conv=>whnf)))
 rw [hN]
 have hQ:=aPt b
 refine aK hty (λy:Nat×Nat=>([(2, .mw 117 1 (aJ2 b++(beN 8 (8 * b.length)).take y.1).length),(4, .d (.int .u64 ((8 * b.length:Nat):Int))),(5, .d (.int .i64 (56 - 8 * (y.1:Int))))],[(117, .mrow 5 1 y.2 ((aJ2 b++(beN 8 (8 * b.length)).take y.1).map bE))])) (λy=>y.1<=8) (λy=>8 - y.1) (0,c) (by dsimp only;omega) ?_ ?_
 ·dsimp only
  simp only [List.take_zero,List.append_nil,hQ,List.length_replicate,List.length_append,List.length_set,List.length_cons,List.length_nil,Int.toNat_zero,Nat.zero_add,hbl]
  simp only [aJ2,List.map_append,List.map_replicate,List.map_cons,List.map_nil,List.replicate_zero,List.nil_append]
  exact⟨by repeat' (first|exact trivial|exact rfl|refine And.intro ?_ ?_),by repeat' (first|exact trivial|exact rfl|refine And.intro ?_ ?_)⟩
 rintro⟨j,c2⟩ hj
 dsimp only at hj
 dsimp only
 have hbe:((beN 8 (8 * b.length)).take j).length=j:=by rw [List.length_take,bH];omega
 have hml:((aJ2 b++(beN 8 (8 * b.length)).take j).map bE).length=(aJ2 b++(beN 8 (8 * b.length)).take j).length:=List.length_map ..
 have hmb:(aJ2 b++(beN 8 (8 * b.length)).take j).length=b.length+1+aPs b.length+j:=by rw [List.length_append,hQ,hbe]
 have hstep:j < 8->(aJ2 b++(beN 8 (8 * b.length)).take (j+1))=(aJ2 b++(beN 8 (8 * b.length)).take j)++[UInt8.ofNat ((8 * b.length) / 2 ^ (56 - 8 * j) % 256)]:= λh=>by
  rw [aR0 _ _ h,List.append_assoc]
 have hby:= λ(h:j < 8)=>aXr (8 * b.length) (56 - 8 * j) (by omega) (by omega)
 have hend:j=8->aJ3 b=aJ2 b++(beN 8 (8 * b.length)).take j:= λh=>by rw [h];exact aT2 b
 generalize hR:aJ2 b++(beN 8 (8 * b.length)).take j=R at *
 ((conv=>whnf);repeat ((first|(intro hq;try simp only [lnS]at hq)|refine sI ?_|refine .intro _ (.intro rfl ?_));(conv=>whnf)))
 refine aA (λh1=> ?_) (λh1=> ?_)
 ·have hj8:j < 8:=by omega
  have h0:(0:Int)<=56 - 8 * (j:Int):=by omega
  ((conv=>whnf);repeat ((first|(refine And.intro h0 ?_)|(refine And.intro (by first|omega|(simp only [List.length_replicate,List.length_append,List.length_set,List.length_cons,List.length_nil,hml,Nat.mul_one];done)|(simp only [List.length_replicate,List.length_append,List.length_set,List.length_cons,List.length_nil,hml,Nat.mul_one];omega)) ?_)|(intro hq;try simp only [lnS]at hq)|refine sI ?_|refine .intro _ (.intro rfl ?_));(conv=>whnf)))
  rename_i cp
  have hb2:=hby hj8
  rw [show ((56 - 8 * j:Nat):Int)=56 - 8 * (j:Int)by omega]at hb2
  rw [hb2,show (56 - 8 * (j:Int) - 8)=56 - 8 * ((j+1:Nat):Int)by omega]
  refine⟨(j+1,cp),by dsimp only;omega,by dsimp only;omega, ?_⟩
  dsimp only
  rw [hstep hj8]
  simp only [List.length_replicate,List.length_append,List.length_set,List.length_cons,List.length_nil,hml,List.map_append,List.map_cons,List.map_nil]
  exact⟨by repeat' (first|exact trivial|exact rfl|refine And.intro ?_ ?_),by repeat' (first|exact trivial|exact rfl|refine And.intro ?_ ?_)⟩
 ·have hj8:j=8:=by omega
  rw [hend hj8]
  ((conv=>whnf);repeat ((first|(intro hq;try simp only [lnS]at hq)|refine sI ?_|refine .intro _ (.intro rfl ?_));(conv=>whnf)))
  exact .inr ⟨117,R.length,c2,rfl,rfl,rfl,λe=>by rw [e,List.length_nil]at hmb;omega⟩
theorem aPr (b:List UInt8) (hb:b.length<=1000000000000):Tri Tryz.prog 74 [.d (.sl 1 (b.map bE))] [] (λr=>r= .d (.sl 1 ((aJ3 b).map bE))):=(aX8 b hb).tri
end Go.Proofs.YtbobcfjlbcgchaaGreatDoor
namespace Go.Proofs.YtbobcfjlbcgchaaGreatDoor
open Go.Proofs Go.RowKit
set_option maxRecDepth 10000
attribute [local irreducible] aJ aF Tri aG YVC bS aQ aAd
def aKq (d:Dig):List D:=d.1.map λc=> .int .u8 c.toNat
def oC (s:S8) (m:Nat):List SV:=(((aRd s).take m).map λc:UInt8=>SV.d (.int .u8 c.toNat))++List.replicate (32 - m) (.d (.int .u8 0))
theorem aGw (s:S8):(aRd s).length=32:=rfl
theorem aT3 (s:S8) (i j:Nat) (hi:i < 8) (hj:j < 4):(aRd s)[4 * i+j]? =some ((g8 s i >>>UInt32.ofNat (24 - 8 * j)).toUInt8):=by
 have hj4:j=0\/j=1\/j=2\/j=3:=by omega
 have e0: ∀x:UInt32,x >>>UInt32.ofNat 0=x:= λx=>by
  apply UInt32.toNat_inj.1
  rw [UInt32.toNat_shiftRight]
  simp
 rcases hj4 with rfl|rfl|rfl|rfl
 ·rcases lt8 hi with rfl|rfl|rfl|rfl|rfl|rfl|rfl|rfl<;>rfl
 ·rcases lt8 hi with rfl|rfl|rfl|rfl|rfl|rfl|rfl|rfl<;>rfl
 ·rcases lt8 hi with rfl|rfl|rfl|rfl|rfl|rfl|rfl|rfl<;>rfl
 ·rw [show 24 - 8 * 3=0 from rfl,e0]
  rcases lt8 hi with rfl|rfl|rfl|rfl|rfl|rfl|rfl|rfl<;>rfl
theorem aV7 (s:S8) {m:Nat}(h:m<=32):(oC s m).length=32:=by
 unfold oC
 rw [List.length_append,List.length_map,List.length_take,List.length_replicate,aGw]
 omega
theorem aV6 (s:S8) (m:Nat) (c:UInt8) (hm:m < 32) (hc:(aRd s)[m]? =some c):(oC s m).set m (.d (.int .u8 c.toNat))=oC s (m+1):=by
 have hl:(((aRd s).take m).map λc:UInt8=>SV.d (.int .u8 c.toNat)).length=m:=by
  rw [List.length_map,List.length_take,aGw];omega
 unfold oC
 rw [List.set_append_right _ _ (by omega),hl,Nat.sub_self,show 32 - m=(32 - (m+1))+1 by omega,List.replicate_succ,List.set_cons_zero,List.take_add_one,hc,List.map_append,List.append_assoc]
 rfl
theorem aV8 (s:S8):oC s 32=((aRd s).map λc:UInt8=>D.int .u8 c.toNat).map SV.d:=rfl
theorem aVv (x:UInt32) (n:Nat) (h:n < 32):IntKind.u8.wrap (aEq (wI x) (n:Int))=(((x >>>UInt32.ofNat n).toUInt8.toNat:Nat):Int):=by
 rw [aWw x n h,aUo]
theorem uH (b:List UInt8) (hb:b.length<=1000000000000):Tri Tryz.prog 36 [.d (.sl 1 (b.map bE))] KG (λr=>r= .d (.agg (aKq (aE9 b)))):=by
 have hp:=aPr b hb
 have hdiv:=aPu b
 have hpl:=aGu b
 have hzl:=aF5 b.length
 obtain⟨M,hM⟩: ∃M,M=(aJ3 b).length / 64:=⟨_,rfl⟩
 have hs:aWv b=kY M aUv (aJ3 b):=by rw [hM];rfl
 rw [<-hM]at hdiv
 have hsha:aKq (aE9 b)=(aRd (aWv b)).map λc:UInt8=>D.int .u8 c.toNat:=rfl
 rw [hsha]
 generalize hP:aJ3 b=p at *
 refine aH false [] hty Tryz.func36 rfl (kp [0,2,3,4,5,6,7,13,20,21,22,25,26]) [] _ _ _ (by simp [Tryz.f36]) (by decide) ?_
 ((conv=>whnf);repeat ((first|(refine aD [] hp trivial (λr hs=> ?_);subst hs)|(intro hq;try simp only [lnS]at hq)|refine sI ?_|refine .intro _ (.intro rfl ?_));(conv=>whnf)))
 refine aK hty (λn:Nat=>([(2, .ptr 2 0),(3, .ptr 3 0),(4, .d (.sl 1 ((p.drop (64 * n)).map bE)))],[(3, .cells 127 ((s8R (kY n aUv p)).map .d)),(2, .cells 32 ((List.replicate 32 (D.int .u8 0)).map .d)),(92, .glob 1 1 (aAw.map aNb))])) (λn=>n<=M) (λn=>M - n) 0 (by omega) ⟨by repeat' (first|exact trivial|exact rfl|refine And.intro ?_ ?_),by repeat' (first|exact trivial|exact rfl|refine And.intro ?_ ?_)⟩ ?_
 intro n hn
 have hsn:=tR n aUv p
 have hdl:((p.drop (64 * n)).map bE).length=64 * M - 64 * n:=by rw [List.length_map,List.length_drop];omega
 generalize hS:kY n aUv p=S at *
 ((conv=>whnf);repeat ((first|(intro hq;try simp only [lnS]at hq)|refine sI ?_|refine .intro _ (.intro rfl ?_));(conv=>whnf)))
 refine aA (λh1=> ?_) (λh1=> ?_)
 ·have hnM:n < M:=by omega
  have hm:=aQc S ((p.drop (64 * n)).take 64) (by rw [List.length_take,List.length_drop];omega)
  rw [List.map_take]at hm
  have hlow:(64:Int)<=(((p.drop (64 * n)).map bE).length:Int):=by rw [hdl];omega
  ((conv=>whnf);repeat' ((first|(intro hq;(try simp only [lnS]at hq);(try rewrite [List.length_map]))|refine sJ ?_|refine .intro _ (.intro rfl ?_)|refine exL (k:= ?_)|(refine gV (id:=5) hty 3 (by kernel_rfl) (by kernel_rfl) ?_)|(refine⟨KG,_,⟨rfl,trivial⟩,hm,λr hs=> ?_⟩;subst hs)|(refine And.intro hlow ?_)|(refine And.intro ⟨by decide,hlow⟩ ?_)|refine dwR ?_|((first|refine aA ?_ ?_|refine aC ?_ ?_)<;>intro hb<;>(first|exact ddX hb|try simp only [lnS]at hb))|(refine aB ?_ ?_<;>intro hb<;>try exact dsX hb))<;>(conv=>whnf)))
  have hd2:List.drop 64 (List.take ((p.drop (64 * n)).map bE).length ((p.drop (64 * n)).map bE))=(p.drop (64 * (n+1))).map bE:=by
   rw [List.take_length,<-List.map_drop,List.drop_drop,show 64 * n+64=64 * (n+1)by omega]
  refine⟨n+1,by dsimp only;omega,by dsimp only;omega, ?_⟩
  dsimp only
  rw [hsn,<-hd2]
  exact⟨by repeat' (first|exact trivial|exact rfl|refine And.intro ?_ ?_),by repeat' (first|exact trivial|exact rfl|refine And.intro ?_ ?_)⟩
 have hnM:n=M:=by omega
 subst hnM
 rw [hs,hS]
 clear hsn hdl hs hS hp
 ((conv=>whnf);repeat ((first|(intro hq;try simp only [lnS]at hq)|refine sI ?_|refine .intro _ (.intro rfl ?_));(conv=>whnf)))
 refine aK hty (λi:Nat=>([(2, .ptr 2 0),(20, .d (.agg (s8R S))),(21, .d (.int .i64 i))],[(2, .cells 32 (oC S (4 * i))),(92, .glob 1 1 (aAw.map aNb))])) (λi=>i<=8) (λi=>8 - i) 0 (by omega) ⟨by repeat' (first|exact trivial|exact rfl|refine And.intro ?_ ?_),by repeat' (first|exact trivial|exact rfl|refine And.intro ?_ ?_)⟩ ?_
 intro i hi
 ((conv=>whnf);repeat ((first|(intro hq;try simp only [lnS]at hq)|refine sI ?_|refine .intro _ (.intro rfl ?_));(conv=>whnf)))
 refine aA (λh2=> ?_) (λh2=> ?_)
 ·have hi8:i < 8:=by omega
  have hw:(s8R S)[(i:Int).toNat * 1]? =some (wD (g8 S i)):=by
   rw [Int.toNat_natCast,Nat.mul_one]
   rcases lt8 hi8 with rfl|rfl|rfl|rfl|rfl|rfl|rfl|rfl<;>rfl
  ((conv=>whnf);repeat' ((first|(intro hq;(try simp only [lnS]at hq);(try rewrite [List.length_map]))|refine sJ ?_|refine .intro _ (.intro rfl ?_)|refine exL (k:= ?_)|(refine⟨_,hw, ?_⟩)|refine dwR ?_|((first|refine aA ?_ ?_|refine aC ?_ ?_)<;>intro hb<;>(first|exact ddX hb|try simp only [lnS]at hb))|(refine aB ?_ ?_<;>intro hb<;>try exact dsX hb))<;>(conv=>whnf)))
  refine aK hty (λj:Nat=>([(2, .ptr 2 0),(5, .d (.int .i64 i)),(6, .d (wD (g8 S i))),(20, .d (.agg (s8R S))),(21, .d (.int .i64 i)),(25, .d (.int .i64 j))],[(2, .cells 32 (oC S (4 * i+j))),(92, .glob 1 1 (aAw.map aNb))])) (λj=>j<=4) (λj=>4 - j) 0 (by omega) ⟨by repeat' (first|exact trivial|exact rfl|refine And.intro ?_ ?_),by repeat' (first|exact trivial|exact rfl|refine And.intro ?_ ?_)⟩ ?_
  intro j hj
  ((conv=>whnf);repeat ((first|(intro hq;try simp only [lnS]at hq)|refine sI ?_|refine .intro _ (.intro rfl ?_));(conv=>whnf)))
  refine aA (λh3=> ?_) (λh3=> ?_)
  ·have hj4:j < 4:=by omega
   have h0:(0:Int)<=24 - 8 * (j:Int):=by omega
   have hcl:=aV7 S (m:=4 * i+j) (by omega)
   have hoff:0+(4 * (i:Int)+(j:Int)).toNat * 1 < (oC S (4 * i+j)).length:=by rw [hcl];omega
   have hset:=aV6 S (4 * i+j) _ (by omega) (aT3 S i j hi8 hj4)
   have hb8:=aVv (g8 S i) (24 - 8 * j) (by omega)
   rw [show ((24 - 8 * j:Nat):Int)=24 - 8 * (j:Int)by omega]at hb8
   ((conv=>whnf);repeat ((first|(refine And.intro h0 ?_)|(refine And.intro hoff ?_)|(refine And.intro ⟨by omega,by omega⟩ ?_)|(intro hq;try simp only [lnS]at hq)|refine sI ?_|refine .intro _ (.intro rfl ?_));(conv=>whnf)))
   have hcell:(oC S (4 * i+j)).set (0+(4 * (i:Int)+(j:Int)).toNat * 1) (.d (.int .u8 (IntKind.u8.wrap (aEq (wI (g8 S i)) (24 - 8 * (j:Int))))))=oC S (4 * i+(j+1)):=by
    rw [hb8,show 0+(4 * (i:Int)+(j:Int)).toNat * 1=4 * i+j by omega]
    exact hset
   refine⟨j+1,by dsimp only;omega,by dsimp only;omega, ?_⟩
   dsimp only
   rw [<-hcell]
   exact⟨by repeat' (first|exact trivial|exact rfl|refine And.intro ?_ ?_),by repeat' (first|exact trivial|exact rfl|refine And.intro ?_ ?_)⟩
  have hj4:j=4:=by omega
  subst hj4
  ((conv=>whnf);repeat ((first|(intro hq;try simp only [lnS]at hq)|refine sI ?_|refine .intro _ (.intro rfl ?_));(conv=>whnf)))
  refine⟨i+1,by dsimp only;omega,by dsimp only;omega, ?_⟩
  dsimp only
  rw [show 4 * (i+1)=4 * i+4 by omega]
  exact⟨by repeat' (first|exact trivial|exact rfl|refine And.intro ?_ ?_),by repeat' (first|exact trivial|exact rfl|refine And.intro ?_ ?_)⟩
 have hi8:i=8:=by omega
 subst hi8
 rw [aV8]
 ((conv=>whnf);repeat ((first|(intro hq;try simp only [lnS]at hq)|refine sI ?_|refine .intro _ (.intro rfl ?_));(conv=>whnf)))
 rfl
end Go.Proofs.YtbobcfjlbcgchaaGreatDoor
namespace Go.Proofs.YtbobcfjlbcgchaaGreatDoor
open Go.Proofs Go.RowKit
set_option maxRecDepth 10000
attribute [local irreducible] aJ aF Tri aG YVC bS aQ aAd
end Go.Proofs.YtbobcfjlbcgchaaGreatDoor
namespace Go.Proofs.YtbobcfjlbcgchaaGreatDoor
open Go.Proofs Go.RowKit
set_option maxRecDepth 10000
attribute [local irreducible] aJ aF Tri aG YVC bS aQ
end Go.Proofs.YtbobcfjlbcgchaaGreatDoor
namespace Go.Proofs.YtbobcfjlbcgchaaGreatDoor
open Go.Proofs Go.RowKit
set_option maxRecDepth 10000
attribute [local irreducible] aJ aF Tri aG YVC bS aQ
end Go.Proofs.YtbobcfjlbcgchaaGreatDoor
namespace Go.Proofs.YtbobcfjlbcgchaaGreatDoor
open Go.Proofs Go.RowKit
set_option maxRecDepth 10000
attribute [local irreducible] aJ aF Tri aG YVC bS aQ aAd
end Go.Proofs.YtbobcfjlbcgchaaGreatDoor
namespace Go.Proofs.YtbobcfjlbcgchaaGreatDoor
open Go.Proofs Go.RowKit
set_option maxRecDepth 10000
attribute [local irreducible] aJ aF Tri aG YVC bS aQ aAd
theorem Tri.oslY {P:Program}{f:FuncId}{id z:Nat}{rows rows':List (List D)}{hp:Hp}{post:SV->Prop}(e:rows=rows') (h:Tri P f [.d (.sl z rows')] hp post):Tri P f [.osl id z rows] hp post:=by
 subst e
 unfold Tri at h |-
 intro w ρ vs a b c
 refine h w ρ vs a ⟨b.1,λj s v hs hv=> ?_⟩ c
 match j,hs with
 | 0,hs=>
  injection hs with hs;subst hs
  exact .d _ _ (b.2 0 _ v rfl hv).osl_inv.1
end Go.Proofs.YtbobcfjlbcgchaaGreatDoor
namespace Go.Proofs.YtbobcfjlbcgchaaGreatDoor
open Go.Proofs Go.RowKit
variable {P:Program}
theorem vR (w:World) (t tx ty e:TypeId) (i:TypeInfo) (z:Value) (dx:TypeDesc) (ht:P.underlying t=some (.slice e)) (htx:P.underlying tx=some dx) (hdx:dx= .string\/ ∃e',dx= .slice e')
  (hi:P.info? e=some i) (hz:i.zero=some z) (hzs:z.cells.size=i.size)
  (A:Addr) (n:Nat) (xs:List Value) (hxl:xs.length=n * i.size) (hxc: ∀j v,xs[j]? =some v->w.cell? (A.add j)=some v)
  (x:Value) (m:Nat) (news:List Value) (hl:news.length=m * i.size) (hlen: ∀u:World,(Builtin.lenOf x).run P u= .ok m u)
  (hfc: ∀u:World,u.heap=w.heap->(Builtin.firstCells i.size m x).run P u= .ok news.toArray u)
  (h63:n+m<=maxLen) (hbytes:(n+m)* i.bytes<=140737488355328) (hm:0 < m):
  ∃v' w',(Builtin.append_ #[t,tx] ty #[.slice (some A) n n,x]).run P w= .ok v' w'/\w'.ownsRow 0 e i.size v' (n+m) (xs++news)/\v'.ownBlock=some w.heap.size/\Grew w w':=by
 have hsmall:n+m<=9223372036854775807:=by simp only [maxLen]at h63;omega
 have hlen':(xs++news).length=(n+m)* i.size:=by rw [List.length_append,hxl,hl,Nat.add_mul]
 have hge:=grownCap_ge w (n+m) n e
 have hcm:grownCap w (n+m) n e<=maxLen:=grownCap_le_maxLen w (n+m) n e h63
 have hgr:(w.drew.alloc (.cells (xs.toArray++news.toArray++Builtin.zeroCells z.cells (grownCap w (n+m) n e - (n+m))) e)).ownsRow 0 e i.size
    (.slice (some ⟨w.heap.size,0,none⟩) (n+m) (grownCap w (n+m) n e)) (n+m) (xs++news):=by
  refine⟨hlen', .inr ⟨w.heap.size,_,_,rfl,Nat.zero_le _,heap_alloc_new w.drew _,hge,hcm, ?_, ?_⟩⟩
  ·simp only [Array.size_append,List.size_toArray,size_zeroCells,hzs,hxl,hl,<-Nat.add_mul]
   congr 1
   omega
  ·simp only [Array.toList_append,List.append_assoc]
   rw [<-List.append_assoc,<-hlen']
   exact List.take_left
 have hroom:¬ (n+m<=n):=by omega
 have h63':¬ (9223372036854775807 < ((n:Int)+(m:Int))):=by omega
 have h48':¬ (281474976710656 < Builtin.nextslicecap (n+m) n * i.bytes):=by
  have:=growslice_fits (need:=n+m) (old:=n) (bytes:=i.bytes) (by omega) hbytes
  omega
 have hf:=hfc w.drew rfl
 have hfo:=run_firstCells_some (P:=P) w.drew i.size n A n n xs hxl (λj u hu=>hxc j u hu)
 refine⟨.slice (some ⟨w.heap.size,0,none⟩) (n+m) (grownCap w (n+m) n e),_, ?_,hgr,rfl,(Grew.drew w).trans (Grew.alloc _ _)⟩
 rcases hdx with rfl|⟨e',rfl⟩<;>(simp [Builtin.append_,run_underlying ht,run_underlying htx,sizeOf,typeInfo,zeroValue,hi,hz,hlen,hroom,h63',h48',Question.forced,hf,hfo,newRow,grownCap];congr 2;apply Array.ext';simp [List.append_assoc])
theorem vQ (w:World) (t tx ty e:TypeId) (i:TypeInfo) (dx:TypeDesc) (ht:P.underlying t=some (.slice e)) (htx:P.underlying tx=some dx) (hdx:dx= .string\/ ∃e',dx= .slice e')
  (hi:P.info? e=some i) (A:Option Addr) (n cap:Nat) (hn:n<=cap)
  (x:Value) (hlen: ∀u:World,(Builtin.lenOf x).run P u= .ok 0 u)
  (hfc: ∀u:World,u.heap=w.heap->(Builtin.firstCells i.size 0 x).run P u= .ok #[] u):
  (Builtin.append_ #[t,tx] ty #[.slice A n cap,x]).run P w= .ok (.slice A n cap) w:=by
 have hf:=hfc w rfl
 cases A<;>rcases hdx with rfl|⟨e',rfl⟩<;>simp [Builtin.append_,run_underlying ht,run_underlying htx,sizeOf,typeInfo,hi,hlen,hn,hf,storeCells]
theorem aJ8 {ti:TypeId->Option TI}(hti:dX P ti) {o:Oper}{t tx e:TypeId}{T:TI}{x y:Operand}(ho:o.op= .call { callee:= .builtin .append,args:= #[x,y],argTypes:= #[t,tx] }) (hT:slT ti t=some (e,T))
  {pin:Pin} {fr:Fr} {hp:Hp} {K:SV->Hp->Prop} {z:Nat} {rows:List (List D)} {r:SV} (hs:evO fr x=some (.d (.sl z rows))) (hy:evO fr y=some r) (hnew:sD ti tx T.size r=some []) (hk:K (.d (.sl z rows)) hp):aQ P o pin fr hp K:=by
 intro E ρ a w hpin hm hf next Q hn
 have e1:=aR hf hs
 have e2:=aR hf hy
 obtain⟨hu,d2,i2,z2,hT2⟩:=zG hti hT
 obtain⟨dx,vs,q1,q2,q3,q4,q5⟩:=nG hti hnew e2
 have e1d:RepD w ρ.S (.sl z rows) (a.eval x):=by cases e1 with|d _ _ h=>exact h
 obtain⟨A,cap,b,off,e3,hnc,hcm,hA,hview⟩:=e1d.of_sl
 have hvs:vs=[]:=List.eq_nil_of_length_eq_zero (by simpa using q3.len)
 subst hvs
 have hr:=vQ (P:=P) w t tx o.type e i2 dx hu q1 q2 hT2.info A rows.length cap hnc (a.eval y) (by simpa using q4) (λu hu'=>by have:=q5 u hu';rw [hT2.size];simpa using this)
 rw [<-e3]at hr
 have hrun:(execOp a.eval o).run P w= .ok (.value (a.eval x)) w:=fB ho hr
 exact bU hrun (hn _ _ _ _ _ hk hm hf e1)
theorem aJ7 {ti:TypeId->Option TI}(hti:dX P ti) {o:Oper}{t tx e:TypeId}{T:TI}{x y:Operand}(ho:o.op= .call { callee:= .builtin .append,args:= #[x,y],argTypes:= #[t,tx] }) (hT:slT ti t=some (e,T))
  {pin:Pin} {fr:Fr} {hp:Hp} {K:SV->Hp->Prop} {i z off n:Nat} {tc:TypeId} {cs:List SV} {rows new:List (List D)} {r:SV} (id:Nat) (hs:evO fr x=some (.msl i z off n)) (hy:evO fr y=some r) (hnew:sD ti tx T.size r=some new)
  (hoo:aN hp i=some (.cells tc cs)) (hver:T.size=z/\n=rows.length) (hrz: ∀row∈rows,row.length=z) (hfit:off+rows.length * z<=cs.length)
  (hcells: ∀(a:Nat) (row:List D) (j:Nat) (x:D),rows[a]? =some row->row[j]? =some x->cs[off+(a * z+j)]? =some (.d x))
  (h0:0 < new.length) (h63:rows.length+new.length<=9223372036854775807) (hby:(rows.length+new.length)* T.bytes<=140737488355328) (hfr:eN id pin fr hp)
  (hk:K (.osl id z (rows++new)) ((id, .own e z (rows.length+new.length))::hp)):aQ P o pin fr hp K:=by
 intro E ρ a w hpin hm hf next Q hn
 obtain⟨rfl,rfl⟩:=hver
 have e1:=aR hf hs
 have e2:=aR hf hy
 obtain⟨hu,d2,i2,z2,hT2⟩:=zG hti hT
 obtain⟨dx,vs,q1,q2,q3,q4,q5⟩:=nG hti hnew e2
 obtain⟨g,hg,e3,hmx⟩:=e1.msl_full
 obtain⟨g',hg',⟨cur,c1,c2,c3,c4⟩,c5⟩:=hm.sat i _ hoo
 have hgg:g'=g:=by rw [hg]at hg';injection hg' with h;exact h.symm
 subst hgg
 obtain⟨xs,hxs⟩: ∃xs,xs=(cur.toList.drop off).take (rows.length * T.size):=⟨_,rfl⟩
 have hxl:xs.length=rows.length * T.size:=by
  have hlen:cur.toList.length=cs.length:=by rw [Array.length_toList];exact c2
  rw [hxs,List.length_take,List.length_drop,hlen]
  omega
 have hxat: ∀j,j < rows.length * T.size->xs[j]? =cur[off+j]? :=by
  intro j hj
  rw [hxs,List.getElem?_take_of_lt hj,List.getElem?_drop,Array.getElem?_toList]
 have hfl0:Flat w ρ.S T.size rows xs:=by
  refine⟨hxl,hrz,λv hv=> ?_, ?_⟩
  ·rw [hxs]at hv
   exact c3 v (Array.mem_toList_iff.mp (List.mem_of_mem_drop (List.mem_of_mem_take hv)))
  ·intro b row j d h1 h2
   have hlt:=vS hrz h1 h2
   have hc:=hcells b row j d h1 h2
   have hj:b * T.size+j < rows.length * T.size:=hlt.2.2
   have hcl:off+(b * T.size+j) < cur.size:=by rw [c2];omega
   refine⟨cur[off+(b * T.size+j)],by rw [hxat _ hj];exact Array.getElem?_eq_getElem hcl, ?_⟩
   have hrp:=c4 _ _ _ hc (Array.getElem?_eq_getElem hcl)
   cases hrp with|d _ _ h=>exact h
 have hfl:=hfl0.append q3
 obtain⟨v',w',r1,r2,r3,r4⟩:=vR (P:=P) w t tx o.type e i2 z2 dx hu q1 q2 hT2.info hT2.zero hT2.cells ⟨g',off,none⟩ rows.length xs (by rw [hT2.size];exact hxl)
  (λj v hv => by
   have hj:j < xs.length:=(List.getElem?_eq_some_iff.mp hv).1
   rw [hxat j (by omega)]at hv
   rw [cN,World.cell?,c1]
   simpa using hv)
  (a.eval y) new.length vs (by rw [hT2.size];exact q3.len) q4 (by rw [hT2.size];exact q5) (by simp only [maxLen];omega) (by rw [hT2.bytes];exact hby) h0
 rw [<-e3]at r1
 rw [hT2.size]at r2
 have hll:rows.length+new.length=(rows++new).length:=by rw [List.length_append]
 rw [hll]at r2 hk
 obtain⟨m1,m2,m3⟩:=hm.newOwn (id:=id) r4 r2 (λg hg=>by rw [r3]at hg;injection hg with hg;omega) hfl hfr.2.2 (by rw [hpin];exact hfr.1)
 exact bU (fB ho r1) (hn _ _ _ _ _ hk m1 (m2 fr _ hfr.2.1 hf) m3)
end Go.Proofs.YtbobcfjlbcgchaaGreatDoor
