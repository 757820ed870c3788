/-
  The closing: a contract over data without addresses proves a law's call over every input. What comes in, by its types: a check by reckoning that types lead to plain ones only, and the data of structs, arrays and slices. Laid variables: a package-level variable that reads as a table of numbers and truths is seen row by row.
  Conditions: none.
-/
import Derived.Test.YtdjfkmkdkclahaaGreatDoorWSs
import Derived.Handed
import Derived.ProofKit
import Derived.LaidMore
set_option linter.unusedSectionVars false
set_option linter.unusedSimpArgs false
set_option linter.unusedVariables false
namespace Go.Proofs.YtdjfkmkdkclahaaGreatDoor
open Go.RowKit Go.ChangeShapes
section
variable {H:Type} {enc:TypeId×Value->H} {P:Program}
theorem Grew.below0 {W W':World}(h:Grew W W'):Below W.heap.size W W':=⟨h.os,h.tape,h.output.1,h.size,h.block⟩
theorem Grew.kept {W W':World}(h:Grew W W') (may:MemPlace->Prop):W.keptBut W' may:=by
 refine⟨h.os,h.output.1,λi hi=> ?_⟩
 rw [h.block i hi]
 split
 ·rename_i h1 h2
  rw [h1]at h2
  injection h2 with h2
  injection h2 with e1 e2 e3
  subst e1 e2 e3
  exact⟨rfl,rfl,rfl,λ_ _=>rfl⟩
 ·rename_i h1 h2
  rw [h1]at h2
  injection h2 with h2
  injection h2 with e1 e2
  exact .inr ⟨e1.symm,e2.symm⟩
 ·rfl
theorem uR (hl:laidOutB P=true) {W W':World}(hb:Below W.heap.size W W'): ∀(ts:List TypeId) (vs:List Value) (ds:List (DataW H)) (ps:List MemPlace),(∀t∈ts,P.readableRec t=true/\t < P.types.size)->
  DataW.TrodAll enc P W 0 (λ_=>true) true ts vs ds ps->(∀x∈ps,x.block < W.heap.size)->DataW.TrodAll enc P W' 0 (λb=>decide (b < W.heap.size)) true ts vs ds ps:=by
 intro ts
 induction ts with
 |nil=>
  intro vs ds ps _ h _
  obtain⟨rfl,rfl,rfl⟩:=trodAll_nil h
  rfl
 |cons t r ih=>
  intro vs ds ps hr h hlt
  obtain⟨v,vs1,d,ds1,a,b,rfl,rfl,rfl,h1,h2⟩:=trodAll_cons h
  refine⟨a,b,Below.trod hl (hr t (List.mem_cons_self ..)).1 (hr t (List.mem_cons_self ..)).2 h1 hb (λx hx=>hlt x (List.mem_append_left _ hx)),ih vs1 ds1 b (λu hu=>hr u (List.mem_cons_of_mem _ hu)) h2 (λx hx=>hlt x (List.mem_append_right _ hx)),rfl⟩
def mO (P:Program) (t:TypeId) (ds:List D):SV:=
 match P.underlying t with
 |some (.struct _)=> .d (.agg ds)
 |some (.array _ _)=> .d (.agg ds)
 |_=>match ds with| [d]=> .d d|_=> .d (.lit undef)
inductive ArgsD (P:Program):List TypeId->List SV->Prop
 |nil:ArgsD P [] []
 |cons {t:TypeId} {ts:List TypeId} {ds:List D} {n:Nat} {asv:List SV} (h:TyD P n t ds) (r:ArgsD P ts asv):ArgsD P (t::ts) (mO P t ds::asv)
theorem rX {T:TypeId->Prop}(hT:Cl P T) {W:World}{base:Nat}: ∀(ts:List TypeId) (vs:List Value) (ds:List (DataW H)) (ps:List MemPlace),(∀t∈ts,T t)->
  DataW.TrodAll enc P W 0 (λ_=>true) true ts vs ds ps->(∀n∈DataW.weightsEach P ts ds,n<=reachBytes)->(∀(j:Nat) t v,ts[j]? =some t->vs[j]? =some v->Value.okWide P W .any base t v)->
  ∃asv,ArgsD P ts asv/\asv.length=vs.length/\ ∀(ρ:Env),ρ.S=below W-> ∀(j:Nat) (s:SV) (v:Value),asv[j]? =some s->vs[j]? =some v->Rep W ρ s v:=by
 intro ts
 induction ts with
 |nil=>
  intro vs ds ps _ h _ _
  obtain⟨rfl,rfl,rfl⟩:=trodAll_nil h
  exact⟨[], .nil,rfl,by simp⟩
 |cons t r ih=>
  intro vs ds ps hTs h hws hok
  obtain⟨v,vs1,d,ds1,a,b,rfl,rfl,rfl,h1,h2⟩:=trodAll_cons h
  obtain⟨asv,a1,a2,a3⟩:=ih vs1 ds1 b (λu hu=>hTs u (List.mem_cons_of_mem _ hu)) h2 (λn hn=>hws n (by rw [DataW.weightsEach];exact List.mem_append_right _ hn)) (λj t v x y=>hok (j+1) t v (by simpa using x) (by simpa using y))
  obtain⟨fuel,hf⟩:=h1
  obtain⟨cs,c1,c2⟩:=zT hT fuel t _ _ (hTs t (List.mem_cons_self ..)) hf (λn hn=>hws n (by rw [DataW.weightsEach];exact List.mem_append_left _ hn))
  have hv:=hok 0 t v rfl rfl
  refine⟨mO P t cs::asv, .cons c1 a1,by simp [a2],λρ hS j s u hs hu=> ?_⟩
  cases j with
  |succ j=>exact a3 ρ hS j s u (by simpa using hs) (by simpa using hu)
  |zero=>
   simp at hs hu
   subst hs hu
   have hagg: ∀vs:Array Value,v= .agg vs->Rep W ρ (.d (.agg cs)) v:=by
    rintro vs rfl
    refine .d _ _ (.agg cs vs ?_ ?_)
    ·simpa [Value.cells]using c2.1.symm
    ·intro j x u hx hu
     rw [hS]
     exact(c2.2 j x u hx (by simpa [Value.cells]using hu)).1
   unfold mO
   split
   ·rename_i fs hu
    simp only [Value.okWide,hu]at hv
    obtain⟨vs,rfl,_⟩:=hv
    exact hagg vs rfl
   ·rename_i n e hu
    simp only [Value.okWide,hu]at hv
    obtain⟨vs,rfl,_⟩:=hv
    exact hagg vs rfl
   ·rename_i hn1 hn2
    split
    ·rename_i d'
     have hl:=c2.1
     have hcell:v.cells= #[v]:=by
      cases v with
      |agg cs=>
       exfalso
       have hc:=hT t (hTs t (List.mem_cons_self ..))
       cases hu:P.underlying t with
       |none=>rw [hu]at hc;exact hc
       |some ud=>
        rw [hu]at hc
        simp only [Value.okWide,hu]at hv
        cases ud with
        |struct fs=>exact hn1 fs hu
        |array n e=>exact hn2 n e hu
        |_=>first|exact hc.elim|simp [Cell.okWide,hu,Cell.ok]at hv
      |_=>rfl
     rw [hcell]at c2
     have:=c2.2 0 d' v rfl rfl
     exact .d _ _ (by rw [hS];exact this.1)
    ·rename_i hno
     exfalso
     have hc:=hT t (hTs t (List.mem_cons_self ..))
     cases fuel with
     |zero=>simp [TyD]at c1
     |succ fuel=>
      simp only [TyD]at c1
      cases hu:P.underlying t with
      |none=>rw [hu]at hc;exact hc
      |some ud=>
       rw [hu]at hc c1
       cases ud with
       |bool=>obtain⟨_,rfl⟩:=c1;exact hno _ rfl
       |int k=>obtain⟨_,rfl,_⟩:=c1;exact hno _ rfl
       |string=>obtain⟨_,rfl,_⟩:=c1;exact hno _ rfl
       |slice e=>obtain⟨_,rfl,_⟩:=c1;exact hno _ rfl
       |struct fs=>exact hn1 fs hu
       |array n e=>exact hn2 n e hu
       |_=>exact hc.elim
theorem nR {T:TypeId->Prop}(hT:Cl P T) (hl:laidOutB P=true) {f:FuncId}{fn:Func}{s:ChangeSpec}{tb:TypeId}(hr:fn.resultTypes= #[tb]) (hb:P.underlying tb=some .bool)
  (hTs: ∀t∈fn.params.toList,T t) (hrd: ∀t∈fn.params.toList,P.readableRec t=true/\t < P.types.size) (hvars:s.vars=[])
  (hs: ∀ds:List (DataW H),ds.length=fn.params.size->s.fn H ds={ results:=[.lit (.bool true)],args:=ds })
  {hp:Hp} (tri: ∀asv,ArgsD P fn.params.toList asv->Tri P f asv hp (λr=>r= .d (.bool true)))
  (W:World) (base:Nat) (args:Array Value) (ds gs:List (DataW H)) (before:List MemPlace)
  (hval: ∀(j:Nat) t v,fn.params[j]? =some t->args[j]? =some v->Value.okWide P W .any base t v)
  (hW:DataW.Whole enc P fn.params.toList s.vars false W args.toList ds gs before)
  (hws:(DataW.weightsEach P (fn.params.toList++s.plain.varTypes P) (ds++gs)).all (· <=reachBytes)=true)
  (hgl: ∀ρ:Env,ρ.S=below W-> ∀id o,aN hp id=some o->RO W ρ id o):
  Calls P f args W λe W'=> ∃v,e= .returned v/\s.post enc P fn false true false false W args v W':=by
 have hlt:=hW.lt
 have hW0:=hW
 obtain⟨p,q,hA,hV,rfl,_,_⟩:=hW
 rw [hvars]at hV
 obtain⟨rfl,rfl⟩:=trodVars_none hV
 have hvt:s.plain.varTypes P=[]:=by
  unfold ChangeSpec.plain DataSpec.varTypes
  simp [hvars]
 have hws1: ∀n∈DataW.weightsEach P fn.params.toList ds,n<=reachBytes:=by
  rw [hvt,List.append_nil,List.append_nil]at hws
  exact λn hn=>of_decide_eq_true (List.all_eq_true.1 hws n hn)
 obtain⟨asv,a1,a2,a3⟩:=rX (base:=base) hT _ _ _ _ hTs hA hws1 (λj t v x y=>hval j t v (by simpa using x) (by simpa using y))
 let ρ:Env:=⟨below W,λ_=>none,λ_=>0,λ_=>undef⟩
 refine(tri asv a1 W ρ args (λb i h=>h) ⟨by simpa using a2.symm,λj x v h1 h2=>a3 ρ rfl j x v h1 (by simpa using h2)⟩ (hgl ρ rfl)).mono ?_
 rintro e W' ⟨v,S',r,rfl,rfl,hg,_,_,_,hrep⟩
 have hv:=hrep.bool_inv
 subst hv
 have hlen:ds.length=fn.params.size:=by
  have: ∀(ts:List TypeId) (vs:List Value) (ds:List (DataW H)) (ps:List MemPlace),DataW.TrodAll enc P W 0 (λ_=>true) true ts vs ds ps->ds.length=ts.length:=by
   intro ts
   induction ts with
   |nil=>intro vs ds ps h;obtain⟨rfl,rfl,rfl⟩:=trodAll_nil h;rfl
   |cons t r ih=>
    intro vs ds ps h
    obtain⟨v,vs1,d,ds1,a,b,rfl,rfl,rfl,h1,h2⟩:=trodAll_cons h
    simp [ih _ _ _ h2]
  simpa using this _ _ _ _ hA
 refine⟨_,rfl,ds,[],_,[],p,[],hW0, ?_, ?_, ?_,hg.kept _,λh=>by cases h⟩
 ·rw [List.append_nil,hs ds hlen,hr]
  exact⟨[],[],shut_bool hb _,rfl,rfl⟩
 ·rw [List.append_nil,hs ds hlen]
  exact uR hl hg.below0 _ _ _ _ hrd hA (λx hx=>hlt x (List.mem_append_left _ hx))
 ·rw [List.append_nil,hs ds hlen,hvars];rfl
end
end Go.Proofs.YtdjfkmkdkclahaaGreatDoor
namespace Go.Proofs.YtdjfkmkdkclahaaGreatDoor
open Go.Proofs
section
variable {P:Program}
def wT (P:Program):Nat->List Field->Nat->Bool
 |off,[],n=>off==n
 |off,f::r,n=>f.offset==off && wT P (off+P.cellsOf f.type) r n
theorem aAp: ∀(l:List Field) (off n:Nat),wT P off l n=true->sD P off l n
 | [],off,n,h=>by simpa [wT,sD]using h
 |f::r,off,n,h=>by
  simp only [wT,Bool.and_eq_true,beq_iff_eq]at h
  exact⟨h.1,aAp r _ n h.2⟩
def clB (P:Program) (ts:List TypeId):Bool:=ts.all λt=>match P.underlying t with
 |some .bool=>true
 |some (.int _)=>true
 |some .string=>true
 |some (.slice e)=>(decide (0 < P.cellsOf e) && decide (0 < P.bytesOf e)) && ts.contains e
 |some (.struct fs)=>wT P 0 fs.toList (P.cellsOf t) && fs.toList.all (λf=>ts.contains f.type)
 |some (.array n e)=>(P.cellsOf t==n * P.cellsOf e) && ts.contains e
 |_=>false
theorem aNs {ts:List TypeId}(h:clB P ts=true):Cl P (· ∈ts):=by
 intro t ht
 have h1:=List.all_eq_true.1 h t ht
 revert h1
 cases hu:P.underlying t with
 |none=>simp
 |some d=>
  cases d with
  |slice e=>simp only [Bool.and_eq_true,decide_eq_true_eq,List.contains_iff_mem];exact id
  |struct fs=>
   simp only [Bool.and_eq_true]
   rintro⟨h1,h2⟩
   exact⟨aAp _ _ _ h1,λf hf=>by simpa using List.all_eq_true.1 h2 f hf⟩
  |array n e=>simp only [Bool.and_eq_true,beq_iff_eq,List.contains_iff_mem];exact id
  |_=>simp
def zH (P:Program) (t:TypeId):Option (List TypeId):=match P.underlying t with
 |some (.struct fs)=>some (fs.toList.map (·.type))
 |_=>none
def aO3 (R:TypeId->List D->Prop):List TypeId->List D->Prop
 | [],ds=>ds=[]
 |t::r,ds=> ∃a b,ds=a++b/\R t a/\aO3 R r b
theorem aKn.types {R:TypeId->List D->Prop}: ∀(l:List Field) (ds:List D),aKn R l ds->aO3 R (l.map (·.type)) ds
 | [],_,h=>h
 |_::r,_,⟨a,b,e,h1,h2⟩=>⟨a,b,e,h1,aKn.types r b h2⟩
theorem mT {t:TypeId}{ts:List TypeId}(h:zH P t=some ts) {n:Nat}{ds:List D}(k:TyD P n t ds): ∃m,n=m+1/\aO3 (TyD P m) ts ds:=by
 cases n with
 |zero=>exact k.elim
 |succ n=>
  refine⟨n,rfl, ?_⟩
  unfold zH at h
  split at h
  ·rename_i fs hu
   simp only [TyD,hu]at k
   have:=aKn.types _ _ k
   injection h with h
   rw [h]at this
   exact this
  ·cases h
theorem pE {t e:TypeId}(h:P.underlying t=some (.slice e)) {n:Nat}{ds:List D}(k:TyD P n t ds): ∃m,n=m+1/\ ∃rows,ds=[.sl (P.cellsOf e) rows]/\rows.length<=reachBytes/\ ∀r∈rows,TyD P m e r:=by
 cases n with
 |zero=>exact k.elim
 |succ n=>simp only [TyD,h]at k;exact⟨n,rfl,k⟩
theorem iS {t:TypeId}(h:P.underlying t=some .string) {n:Nat}{ds:List D}(k:TyD P n t ds): ∃l,ds=[.str l]/\l.length<=reachBytes:=by
 cases n with
 |zero=>exact k.elim
 |succ n=>simp only [TyD,h]at k;exact k
theorem pF {t:TypeId}(h:P.underlying t=some (.int .i64)) {n:Nat}{ds:List D}(k:TyD P n t ds): ∃z,ds=[.int .i64 z]/\ -9223372036854775808<=z/\z<=9223372036854775807:=by
 cases n with
 |zero=>exact k.elim
 |succ n=>
  simp only [TyD,h]at k
  obtain⟨z,rfl,hw⟩:=k
  exact⟨z,rfl,by simpa [Lit.wf,IntKind.min,IntKind.max,IntKind.signed,IntKind.bits]using hw⟩
theorem aL1 {t:TypeId}(h:P.underlying t=some (.int .u8)) {n:Nat}{ds:List D}(k:TyD P n t ds): ∃c:UInt8,ds=[.int .u8 c.toNat]:=by
 cases n with
 |zero=>exact k.elim
 |succ n=>
  simp only [TyD,h]at k
  obtain⟨z,rfl,hw⟩:=k
  have hz:0<=z/\z<=255:=by simpa [Lit.wf,IntKind.min,IntKind.max,IntKind.signed,IntKind.bits]using hw
  refine⟨UInt8.ofNat z.toNat, ?_⟩
  have:((UInt8.ofNat z.toNat).toNat:Int)=z:=by
   rw [UInt8.toNat_ofNat'];omega
  rw [this]
theorem vC {α:Type}{R:List D->Prop}{f:α->List D}(h: ∀r,R r-> ∃x,r=f x): ∀rows:List (List D),(∀r∈rows,R r)-> ∃l:List α,rows=l.map f
 | [],_=>⟨[],rfl⟩
 |r::rest,hr=>by
  obtain⟨x,rfl⟩:=h r (hr r (List.mem_cons_self ..))
  obtain⟨l,rfl⟩:=vC h rest (λq hq=>hr q (List.mem_cons_of_mem _ hq))
  exact⟨x::l,rfl⟩
end
end Go.Proofs.YtdjfkmkdkclahaaGreatDoor
namespace Go.Proofs.YtdjfkmkdkclahaaGreatDoor
open Go.RowKit Go.ChangeShapes
section
variable {P:Program} {w:World}
end
end Go.Proofs.YtdjfkmkdkclahaaGreatDoor
