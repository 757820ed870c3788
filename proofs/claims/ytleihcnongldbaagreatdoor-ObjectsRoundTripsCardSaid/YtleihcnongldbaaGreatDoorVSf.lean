/-
  Symbolic operations, one by one: computing.
  Conditions: none.
-/
import Derived.Test.YtleihcnongldbaaGreatDoorVSe
import Derived.Laws.StructEq
set_option linter.unusedSectionVars false
set_option linter.unusedSimpArgs false
set_option linter.unusedVariables false
namespace Go.Proofs.YtleihcnongldbaaGreatDoor
open Go.RowKit
section
variable {P:Program}
def aA4 (k:IntKind) (r:Int) (K:SV->Prop):Prop:=
 match k with
 | .i64=>(-9223372036854775808<=r/\r<=9223372036854775807)/\K (.d (.int .i64 r))
 | .i32=>(-2147483648<=r/\r<=2147483647)/\K (.d (.int .i32 r))
 |k=>K (.d (.int k (k.wrap r)))
theorem mD {k:IntKind}{r:Int}{K:SV->Prop}(h:aA4 k r K):K (.d (.int k (k.wrap r))):=by
 cases k<;>simp only [aA4]at h<;>first|exact h|(rw [IntWalk.i64_in r h.1];exact h.2)|(rw [IntWalk.i32_in r h.1];exact h.2)
def aBr (op:BinOp) (k:IntKind) (a:Int) (k':IntKind) (b:Int) (K:SV->Prop):Prop:=
 match op with
 | .shl=>0<=b/\K (.d (.int k (k.wrap (a * 2 ^ (min b.toNat k.bits)))))
 | .shr=>0<=b/\K (.d (.int k (a.fdiv (2 ^ (min b.toNat k.bits)))))
 |op=>
  if k=k' then
   match op with
   | .add=>aA4 k (a+b) K
   | .sub=>aA4 k (a - b) K
   | .mul=>aA4 k (a * b) K
   | .quo=>b≠0/\aA4 k (a.tdiv b) K
   | .rem=>b≠0/\K (.d (.int k (a.tmod b)))
   | .and=>K (.d (.int k (bits .and k a b)))
   | .or=>K (.d (.int k (bits .or k a b)))
   | .xor=>K (.d (.int k (bits .xor k a b)))
   | .andNot=>K (.d (.int k (bits .andNot k a b)))
   | .eql=>K (.d (.bool (decide (a=b))))
   | .neq=>K (.d (.bool (!decide (a=b))))
   | .lss=>K (.d (.bool (decide (a < b))))
   | .leq=>K (.d (.bool (decide (a<=b))))
   | .gtr=>K (.d (.bool (decide (b < a))))
   | .geq=>K (.d (.bool (decide (b<=a))))
   |_=>aG "binOp: ints"
  else aG "binOp: kinds"
def aBa (op:BinOp) (a b:List UInt8) (K:SV->Prop):Prop:=
 match op with
 | .add=>a.length+b.length<=9223372036854775807/\K (.d (.str (a++b)))
 | .eql=>K (.d (.bool (decide (a=b))))
 | .neq=>K (.d (.bool (!decide (a=b))))
 | .lss=>K (.d (.bool (Op.bytesLess a b)))
 | .leq=>K (.d (.bool (Op.bytesLess a b || decide (a=b))))
 | .gtr=>K (.d (.bool (!(Op.bytesLess a b || decide (a=b)))))
 | .geq=>K (.d (.bool (!Op.bytesLess a b)))
 |_=>aG "binOp: strings"
def zO:TD->D->D->Option Bool
 | .int _, .int k a, .int k' b=>if k=k' then some (decide (a=b))else none
 | .bool, .bool a, .bool b=>some (a==b)
 | .string, .str a, .str b=>some (decide (a=b))
 |_,_,_=>none
def aN0 (ti:TypeId->Option TI) (xs ys:List D):List (TypeId×Nat)->Option Bool
 | []=>some true
 |(ft,off)::r=>
  match ti ft with
  |some T=>
   if T.td.isAgg then none else
   match xs[off]? with
   |some x=>
    match ys[off]? with
    |some y=>
     match zO T.td x y with
     |some c=>match aN0 ti xs ys r with|some b=>some (c && b)|none=>none
     |none=>none
    |none=>none
   |none=>none
  |none=>none
def aOx (P:Program) (t:TypeId):Bool:=
 !P.stoodInHeld t && !P.eqGuardType P.depth t && (match P.underlying t with|some (.struct fs)=>fs.toList.all (·.name != "_")|_=>false)
def aJp (P:Program) (ti:TypeId->Option TI) (op:BinOp) (t:TypeId) (xs ys:List D) (K:SV->Prop):Prop:=
 match ti t with
 |some { td:= .struct fs, .. }=>
  aOx P t=true/\
  match aN0 ti xs ys fs with
  |some b=>(match op with| .eql=>K (.d (.bool b))| .neq=>K (.d (.bool (!b)))|_=>aG "binOp: structs")
  |none=>aG "binOp: fields"
 |_=>aG "binOp: a struct's type"
def aOq (x:SV) (K:Bool->Prop):Prop:=
 match x with
 | .d .nil=>K true
 | .d (.sl _ rows)=> ∀b:Bool,(b=true->rows=[])->K b
 | .osl _ _ rows=> ∀b:Bool,(b=true->rows=[])->K b
 | .mw _ _ n=> ∀b:Bool,(b=true->n=0)->K b
 | .zc=> ∀b:Bool,K b
 |_=>aG "nil: no slice"
theorem aL5 {w:World}{ρ:Env}{x:SV}{v:Value}{K:Bool->Prop}(h:aOq x K) (hr:Rep w ρ x v): ∃A n c,v= .slice A n c/\K A.isNone:=by
 unfold aOq at h
 split at h
 ·exact⟨none,0,0,hr.nil_inv,h⟩
 ·rename_i z rows
  cases hr with
  |d _ _ hd=>
   obtain⟨A,cap,b,off,e,_,_,hA,_⟩:=hd.of_sl
   refine⟨A,_,cap,e,h _ λhn=> ?_⟩
   by_cases hne:rows=[]
   ·exact hne
   ·rw [hA hne]at hn;cases hn
 ·rename_i z rows
  obtain⟨A,cap,b,off,e,_,_,hA,_⟩:=hr.osl_inv.1.of_sl
  refine⟨A,_,cap,e,h _ λhn=> ?_⟩
  by_cases hne:rows=[]
  ·exact hne
  ·rw [hA hne]at hn;cases hn
 ·rename_i id z n
  obtain⟨A,cap,e,_,_,hA,_⟩:=hr.mw_inv
  refine⟨A,n,cap,e,h _ λhn=> ?_⟩
  by_cases hne:n=0
  ·exact hne
  ·obtain⟨g,rfl⟩:=hA hne;cases hn
 ·obtain⟨A,e⟩:=hr.zc_inv
  exact⟨A,0,0,e,h _⟩
 ·exact h.elim
theorem aAe (w:World) {t e:TypeId}(A:Option Addr) (n c:Nat) (ht:P.underlying t=some (.slice e)):(binOp .eql t (.slice A n c) (.slice none 0 0)).run P w= .ok (.bool A.isNone) w:=by
 have h: ∀d:Nat,(Op.equalIn (d+1) t (.slice A n c) (.slice none 0 0)).run P w= .ok A.isNone w:= λd=>by
  cases A<;>simp [Op.equalIn,run_underlying ht]
 simp only [binOp]
 simp [Op.equal,Op.maxDepth,h 9999]
theorem aAd (w:World) {t e:TypeId}(A:Option Addr) (n c:Nat) (ht:P.underlying t=some (.slice e)):(binOp .neq t (.slice A n c) (.slice none 0 0)).run P w= .ok (.bool (!A.isNone)) w:=by
 have h: ∀d:Nat,(Op.equalIn (d+1) t (.slice A n c) (.slice none 0 0)).run P w= .ok A.isNone w:= λd=>by
  cases A<;>simp [Op.equalIn,run_underlying ht]
 simp only [binOp]
 simp [Op.equal,Op.maxDepth,h 9999]
theorem oO (op:BinOp) (t:TypeId) (x y:Operand) (A B:Option Addr) (n c n' c':Nat) (w:World):(eqGuard op t x y (.slice A n c) (.slice B n' c')).run P w= .ok () w:=by
 cases op<;>simp [eqGuard]
def aNr (P:Program) (ti:TypeId->Option TI) (op:BinOp) (t:TypeId) (x y:SV) (K:SV->Prop):Prop:=
 match x,y with
 | .d (.int k a), .d (.int k' b)=>aBr op k a k' b K
 | .d (.str a), .d (.str b)=>aBa op a b K
 | .d (.bool a), .d (.bool b)=>
  (match ti t with
  |some { td:= .bool, .. }=>(match op with| .eql=>K (.d (.bool (a==b)))| .neq=>K (.d (.bool (!(a==b))))|_=>aG "binOp: bools")
  |_=>aG "binOp: a bool's type")
 | .d (.agg xs), .d (.agg ys)=>aJp P ti op t xs ys K
 |x, .d .nil=>
  (match ti t with
  |some { td:= .slice _, .. }=>aOq x λb=>(match op with| .eql=>K (.d (.bool b))| .neq=>K (.d (.bool (!b)))|_=>aG "binOp: slices")
  |_=>aG "binOp: a slice's type")
 |_,_=>aG "binOp"
theorem bool_inv {d:TypeDesc}(h:yG d= .bool):d= .bool:=by
 cases d<;>simp [yG]at h;rfl
theorem lX {d:TypeDesc}{k:IntKind}(h:yG d= .int k):d= .int k:=by
 cases d<;>simp [yG]at h;rw [h]
theorem iY (op:BinOp) (t:TypeId) (x y:Operand) (k k':IntKind) (a b:Int) (w:World):(eqGuard op t x y (.int k a) (.int k' b)).run P w= .ok () w:=by
 cases op<;>simp [eqGuard]
theorem tG (op:BinOp) (t:TypeId) (x y:Operand) (a b:ByteArray) (w:World):(eqGuard op t x y (.string a) (.string b)).run P w= .ok () w:=by
 cases op<;>simp [eqGuard]
theorem qG (op:BinOp) (t:TypeId) (x y:Operand) (a b:Bool) (w:World):(eqGuard op t x y (.bool a) (.bool b)).run P w= .ok () w:=by
 cases op<;>simp [eqGuard]
theorem uU {op:BinOp}{k k':IntKind}{a b:Int}{K:SV->Prop}(t:TypeId) (h:aBr op k a k' b K): ∃v x,(∀w,(binOp op t (.int k a) (.int k' b)).run P w= .ok v w)/\K (.d x)/\(∀w S,RepD w S x v):=by
 unfold aBr at h
 split at h
 ·obtain⟨h0,hk⟩:=h
  have h0':¬ b < 0:=by omega
  exact⟨_,_,λw=>by simp [binOp,Op.shift,h0'],hk,λw S=> .int _ _⟩
 ·obtain⟨h0,hk⟩:=h
  have h0':¬ b < 0:=by omega
  exact⟨_,_,λw=>by simp [binOp,Op.shift,h0'],hk,λw S=> .int _ _⟩
 ·rename_i h1 h2
  split at h
  ·rename_i e
   subst e
   split at h
   ·exact⟨_,_,λw=>by simp [binOp,Op.intArith],mD h,λw S=> .int _ _⟩
   ·exact⟨_,_,λw=>by simp [binOp,Op.intArith],mD h,λw S=> .int _ _⟩
   ·exact⟨_,_,λw=>by simp [binOp,Op.intArith],mD h,λw S=> .int _ _⟩
   ·exact⟨_,_,λw=>by simp [binOp,Op.intDiv,h.1],mD h.2,λw S=> .int _ _⟩
   ·exact⟨_,_,λw=>by simp [binOp,Op.intDiv,h.1],h.2,λw S=> .int _ _⟩
   ·exact⟨_,_,λw=>by simp [binOp,intBits_and],h,λw S=> .int _ _⟩
   ·exact⟨_,_,λw=>by simp [binOp,intBits_or],h,λw S=> .int _ _⟩
   ·exact⟨_,_,λw=>by simp [binOp,intBits_xor],h,λw S=> .int _ _⟩
   ·exact⟨_,_,λw=>by simp [binOp,intBits_andNot],h,λw S=> .int _ _⟩
   ·exact⟨_,_,λw=>by simp [binOp,Op.intCmp];rfl,h,λw S=> .bool _⟩
   ·exact⟨_,_,λw=>by simp [binOp,Op.intCmp];rfl,h,λw S=> .bool _⟩
   ·exact⟨_,_,λw=>by simp [binOp,Op.intCmp],h,λw S=> .bool _⟩
   ·exact⟨_,_,λw=>by simp [binOp,Op.intCmp],h,λw S=> .bool _⟩
   ·exact⟨_,_,λw=>by simp [binOp,Op.intCmp],h,λw S=> .bool _⟩
   ·exact⟨_,_,λw=>by simp [binOp,Op.intCmp],h,λw S=> .bool _⟩
   ·exact h.elim
  ·exact h.elim
theorem hO (l:List UInt8):(⟨l.toArray⟩:ByteArray).toList=l:=by rw [ByteArray.toList_eq]
theorem pS (a b:List UInt8):(a==b)=decide (a=b):=by
 by_cases h:a=b<;>simp [h]
theorem uT {op:BinOp}{a b:List UInt8}{K:SV->Prop}(t:TypeId) (h:aBa op a b K): ∃v x,(∀w,(binOp op t (.string ⟨a.toArray⟩) (.string ⟨b.toArray⟩)).run P w= .ok v w)/\K (.d x)/\(∀w S,RepD w S x v):=by
 have ea:=hO a
 have eb:=hO b
 unfold aBa at h
 split at h
 ·obtain⟨h1,h2⟩:=h
  have e:(⟨a.toArray⟩:ByteArray)++(⟨b.toArray⟩:ByteArray)=⟨(a++b).toArray⟩:=by
   apply ByteArray.ext
   simp
  refine⟨_,_,λw=> ?_,h2,λw S=> .str _ (by simp only [maxLen,List.length_append];omega)⟩
  rw [<-e]
  have hsz: ∀l:List UInt8,(⟨l.toArray⟩:ByteArray).size=l.length:= λl=>rfl
  simp [binOp,Op.stringOp,hsz]
  omega
 ·exact⟨_,_,λw=>by simp [binOp,Op.stringOp,ea,eb,pS],h,λw S=> .bool _⟩
 ·exact⟨_,_,λw=>by simp [binOp,Op.stringOp,ea,eb,pS],h,λw S=> .bool _⟩
 ·exact⟨_,_,λw=>by simp [binOp,Op.stringOp,ea,eb],h,λw S=> .bool _⟩
 ·exact⟨_,_,λw=>by simp [binOp,Op.stringOp,ea,eb,pS],h,λw S=> .bool _⟩
 ·exact⟨_,_,λw=>by simp only [binOp,Op.stringOp,ea,eb,pS];rfl,h,λw S=> .bool _⟩
 ·exact⟨_,_,λw=>by simp [binOp,Op.stringOp,ea,eb],h,λw S=> .bool _⟩
 ·exact h.elim
theorem uV {td:TD}{x y:D}{c:Bool}(h:zO td x y=some c) {w:World}{S:Nat->Nat->Prop}{u v:Value}(hx:RepD w S x u) (hy:RepD w S y v) {t:TypeId}{T:TI}{dd:TypeDesc}{i:TypeInfo}{z:Value}(hT:TIok P t T dd i z)
  (htd:T.td=td) (d:Nat) (w':World):(Op.equalIn (d+1) t u v).run P w'= .ok c w':=by
 have hd:=hT.td
 rw [htd]at hd
 unfold zO at h
 split at h
 ·rename_i k1 k a k' b
  cases hx;cases hy
  split at h
  ·rename_i e
   subst e
   have:=lX hd
   subst this
   rw [run_equalIn_int w' d t _ _ _ _ hT.und]
   injection h with h
   rw [<-h]
   rfl
  ·cases h
 ·cases hx;cases hy
  injection h with h
  have:=bool_inv hd
  subst this
  rw [<-h]
  exact run_equalIn_bool' w' d t _ _ hT.und
 ·cases hx;cases hy
  injection h with h
  have:=eM hd
  subst this
  rw [run_equalIn_string w' d t _ _ hT.und,hO,hO,pS,h]
 ·cases h
theorem aHc {ti:TypeId->Option TI}(hti:cT P ti) {w:World}{S:Nat->Nat->Prop}{xs ys:List D}{us vs:Array Value}(hxl:us.size=xs.length) (hyl:vs.size=ys.length)
  (hx: ∀(j:Nat) (x:D) (u:Value),xs[j]? =some x->us[j]? =some u->RepD w S x u) (hy: ∀(j:Nat) (x:D) (u:Value),ys[j]? =some x->vs[j]? =some u->RepD w S x u) (d:Nat) (w':World):
  ∀(fs:List Field) (b:Bool),(∀f∈fs,f.name≠ "_")->aN0 ti xs ys (fs.map λf=>(f.type,f.offset))=some b->(Op.eqFields (d+1) us vs fs).run P w'= .ok b w':=by
 intro fs
 induction fs with
 |nil=>intro b _ h;simp [aN0]at h;subst h;simp [Op.eqFields]
 |cons f r ih=>
  intro b hn h
  simp only [List.map_cons,aN0]at h
  split at h
  ·rename_i T hT
   obtain⟨dd,i,z,hT⟩:=aM (hti _ _ hT)
   split at h
   ·cases h
   ·rename_i ha
    split at h
    ·rename_i x hxx
     split at h
     ·rename_i y hyy
      split at h
      ·rename_i c hc
       split at h
       ·rename_i b' hb'
        injection h with h
        have hlx:=(List.getElem?_eq_some_iff.1 hxx).1
        have hly:=(List.getElem?_eq_some_iff.1 hyy).1
        have hu:us[f.offset]? =some (us[f.offset]'(by omega)):=Array.getElem?_eq_getElem (by omega)
        have hv:vs[f.offset]? =some (vs[f.offset]'(by omega)):=Array.getElem?_eq_getElem (by omega)
        have hr:=uV (P:=P) hc (hx _ x _ hxx hu) (hy _ y _ hyy hv) hT rfl d w'
        have hrest:=ih b' (λg hg=>hn g (by simp [hg])) hb'
        have ha':T.td.isAgg=false:=by simpa using ha
        have hfn:f.name≠ "_" :=hn f (by simp)
        simp only [Op.eqFields,hfn,ne_eq,not_false_eq_true,if_true,Sem.run_bind,gO hT,ha',Bool.false_eq_true,if_false,hu,hv,Result.andThen_ok,hr]
        cases c
        ·simp at h;subst h;simp
        ·simp at h;subst h;simpa using hrest
       ·cases h
      ·cases h
     ·cases h
    ·cases h
  ·cases h
theorem aJ7 {ti:TypeId->Option TI}(hti:cT P ti) {o:Oper}{op:BinOp}{t t':TypeId}{x y:Operand}(ho:o.op= .binOp op t x y t') {fr:Fr}{hp:Hp}{K:SV->Prop}
  (h:ev fr x λs=>ev fr y λr=>aNr P ti op t s r K):cY P o fr hp K:=by
 intro E ρ a w hm hf
 obtain⟨s,hs,hv0⟩:=cA h
 obtain⟨r,hr,hv⟩:=cA hv0
 clear hv0
 have h1:=aU hf hs
 have h2:=aU hf hr
 unfold aNr at hv
 split at hv
 ·obtain⟨v,q,a1,a2,a3⟩:=uU (P:=P) t hv
  exact⟨v,_,λw' _=>by simp [execOp,ho,h1.int_inv,h2.int_inv,iY,a1], .d _ _ (a3 w ρ.S),a2⟩
 ·obtain⟨v,q,a1,a2,a3⟩:=uT (P:=P) t hv
  exact⟨v,_,λw' _=>by simp [execOp,ho,h1.str_inv.1,h2.str_inv.1,tG,a1], .d _ _ (a3 w ρ.S),a2⟩
 ·rename_i b c
  split at hv
  ·rename_i hT
   obtain⟨d,i,z,hT⟩:=aM (hti _ _ hT)
   have hd:=bool_inv hT.td
   subst hd
   split at hv
   ·exact⟨_,_,λw' _=>by simp [execOp,ho,h1.bool_inv,h2.bool_inv,qG,run_eql_bool w' t b c hT.und], .d _ _ (.bool _),hv⟩
   ·exact⟨_,_,λw' _=>by simp [execOp,ho,h1.bool_inv,h2.bool_inv,qG,run_neq_bool w' t b c hT.und], .d _ _ (.bool _),hv⟩
   ·exact hv.elim
  ·exact hv.elim
 ·rename_i xs ys
  obtain⟨us,e1,hl1,hh1⟩:=h1.dagg_inv
  obtain⟨vs,e2,hl2,hh2⟩:=h2.dagg_inv
  unfold aJp at hv
  split at hv
  ·rename_i fs _ _ _ hT
   obtain⟨d,i,z,hT⟩:=aM (hti _ _ hT)
   obtain⟨gs,rfl,hfs⟩:=lY hT.td
   obtain⟨hok,hv⟩:=hv
   unfold aOx at hok
   rw [hT.und]at hok
   simp only [Bool.and_eq_true,Bool.not_eq_true',List.all_eq_true,bne_iff_ne]at hok
   obtain⟨⟨k1,k2⟩,k3⟩:=hok
   subst hfs
   split at hv
   ·rename_i b hb
    have hfo:P.fieldsOf t=gs:=by simp [Program.fieldsOf,hT.und]
    have hrun:= λw'=>aHc (P:=P) hti hl1 hl2 hh1 hh2 9998 w' gs.toList b k3 hb
    have heq:= λw'=>run_equalIn_struct (P:=P) w' 9999 t us vs (by rw [hfo];exact hT.und) k1
    rw [hfo]at heq
    split at hv
    ·refine⟨_,_,λw' _=> ?_, .d _ _ (.bool _),hv⟩
     simp only [execOp,ho,e1,e2,Sem.run_bind,run_eqGuard_agg w' _ t x y us vs k2,Result.andThen_ok,run_eql_struct,heq,hrun]
     rfl
    ·refine⟨_,_,λw' _=> ?_, .d _ _ (.bool _),hv⟩
     simp only [execOp,ho,e1,e2,Sem.run_bind,run_eqGuard_agg w' _ t x y us vs k2,Result.andThen_ok,run_neq_struct,heq,hrun]
     rfl
    ·exact hv.elim
   ·exact hv.elim
  ·exact hv.elim
 ·split at hv
  ·rename_i e _ _ _ hT
   obtain⟨d,i,z,hT⟩:=aM (hti _ _ hT)
   have hd:=bR hT.td
   subst hd
   obtain⟨A,n,c,e1,hk⟩:=aL5 hv h1
   have e2:=h2.nil_inv
   split at hk
   ·exact⟨_,_,λw' _=>by simp [execOp,ho,e1,e2,oO,aAe w' A n c hT.und], .d _ _ (.bool _),hk⟩
   ·exact⟨_,_,λw' _=>by simp [execOp,ho,e1,e2,oO,aAd w' A n c hT.und], .d _ _ (.bool _),hk⟩
   ·exact hk.elim
  ·exact hv.elim
 ·exact hv.elim
def vUn (op:UnOp) (x:SV) (K:SV->Prop):Prop:=
 match op,x with
 | .not, .d (.bool b)=>K (.d (.bool (!b)))
 | .neg, .d (.int k n)=>aA4 k (0 - n) K
 |_,_=>aG "unOp"
theorem aOo {o:Oper}{op:UnOp}{t:TypeId}{x:Operand}(ho:o.op= .unOp op t x) {fr:Fr}{hp:Hp}{K:SV->Prop}
  (h:ev fr x λs=>vUn op s K):cY P o fr hp K:=by
 intro E ρ a w hm hf
 obtain⟨s,hs,hv⟩:=cA h
 have h1:=aU hf hs
 unfold vUn at hv
 split at hv
 ·exact⟨_,_,λw' _=>by simp [execOp,ho,h1.bool_inv,Op.unary], .d _ _ (.bool _),hv⟩
 ·exact⟨_,_,λw' _=>by simp [execOp,ho,h1.int_inv,Op.unary,Op.intArith], .d _ _ (.int _ _),mD hv⟩
 ·exact hv.elim
def evL (fr:Fr):List Operand->Option (List SV)
 | []=>some []
 |x::r=>match evO fr x with
  |some s=>match evL fr r with|some l=>some (s::l)|none=>none
  |none=>none
theorem tE {ρ:Env}{w:World}{fr:Fr}{a:Act}(hf:cK ρ w fr a.tmps): ∀(xs:List Operand) (l:List SV),evL fr xs=some l->xs.length=l.length/\ ∀(j:Nat) (s:SV) (v:Value),l[j]? =some s->(xs.map a.eval)[j]? =some v->Rep w ρ s v:=by
 intro xs
 induction xs with
 |nil=>intro l h;simp [evL]at h;subst h;simp
 |cons x r ih=>
  intro l h
  simp only [evL]at h
  split at h
  ·rename_i s hs
   split at h
   ·rename_i l' hl'
    simp at h
    subst h
    obtain⟨a1,a2⟩:=ih l' hl'
    refine⟨by simp [a1],λj s' v h1 h2=> ?_⟩
    cases j with
    |zero=>simp at h1 h2;subst h1;subst h2;exact aU hf hs
    |succ j=>simp at h1 h2;exact a2 j s' v h1 (by simpa using h2)
   ·cases h
  ·cases h
theorem aOp {o:Oper}{f:FuncId}{first cap:Array Operand}(ho:o.op= .makeFunc (.func f) first cap) {fr:Fr}{hp:Hp}{K:SV->Prop}
  (h : match evL fr first.toList with
   |some l=>(match evL fr cap.toList with|some m=>K (.fn f l m)|none=>aG "makeFunc")
   |none=>aG "makeFunc"):cY P o fr hp K:=by
 intro E ρ a w hm hf
 split at h
 ·rename_i l hl
  split at h
  ·rename_i m hm'
   obtain⟨a1,a2⟩:=tE hf _ _ hl
   obtain⟨b1,b2⟩:=tE hf _ _ hm'
   refine⟨.func (.func f) (first.map a.eval) (cap.map a.eval),_,λw' _=>by simp [execOp,ho,Instr.makeFunc], .fn f l m _ _ (by simpa using a1) (by simpa using b1) (λj s v h1 h2=>a2 j s v h1 ?_) (λj s v h1 h2=>b2 j s v h1 ?_),h⟩
   ·rw [<-Array.toList_map];simpa using h2
   ·rw [<-Array.toList_map];simpa using h2
  ·exact h.elim
 ·exact h.elim
def aO6 (ti:TypeId->Option TI) (t:TypeId) (s:SV) (K:SV->Prop):Prop:=
 match ti t with
 |some { td:= .string, .. }=>(match s with| .d (.str l)=>l.length<=9223372036854775807->K (.d (.int .i64 l.length))|_=>aG "len: no string")
 |some { td:= .slice _, .. }=>
  (match s with
  | .d .nil=>K (.d (.int .i64 0))
  | .msl _ _ _ n=>n<=9223372036854775807->K (.d (.int .i64 n))
  | .mw _ _ n=>n<=9223372036854775807->K (.d (.int .i64 n))
  | .ms _ _ _ n _=>n<=9223372036854775807->K (.d (.int .i64 n))
  | .zc=>K (.d (.int .i64 0))
  |s=>match pX s with
   |some (_,rows)=>rows.length<=9223372036854775807->K (.d (.int .i64 rows.length))
   |none=>aG "len: no slice")
 |some { td:= .array n _, .. }=>K (.d (.int .i64 n))
 |_=>aG "len: a type"
theorem aS {ρ:Operand->Value}{o:Oper}{b:Builtin}{args:Array Operand}{ts:Array TypeId}(ho:o.op= .call { callee:= .builtin b,args:=args,argTypes:=ts }) (w:World):
  (execOp ρ o).run P w=(builtin b ts o.type (args.map λ| .const _=>true|_=>false) (args.map ρ)).run P w:=by
 simp only [execOp,ho,resolve,invoke,Sem.run_bind,Sem.run_pure,Result.andThen_ok]
 rfl
theorem aMp {ti:TypeId->Option TI}(hti:cT P ti) {o:Oper}{t:TypeId}{x:Operand}(ho:o.op= .call { callee:= .builtin .len,args:= #[x],argTypes:= #[t] }) {fr:Fr}{hp:Hp}{K:SV->Prop}
  (h:ev fr x λs=>aO6 ti t s K):cY P o fr hp K:=by
 intro E ρ a w hm hf
 obtain⟨s,hs,hv⟩:=cA h
 have h1:=aU hf hs
 unfold aO6 at hv
 split at hv
 ·rename_i hT
  obtain⟨d,i,z,hT⟩:=aM (hti _ _ hT)
  have hd:=eM hT.td
  subst hd
  split at hv
  ·rename_i l
   obtain⟨e,hl⟩:=h1.str_inv
   refine⟨_,_,λw' _=> ?_, .d _ _ (.int _ _),hv hl⟩
   rw [aS ho]
   simp [builtin,e,Builtin.len_,run_underlying hT.und,goInt]
   rfl
  ·exact hv.elim
 ·rename_i e _ _ _ hT
  obtain⟨d,i,z,hT⟩:=aM (hti _ _ hT)
  have hd:=bR hT.td
  subst hd
  split at hv
  ·refine⟨_,_,λw' _=> ?_, .d _ _ (.int _ _),hv⟩
   rw [aS ho]
   simp [builtin,h1.nil_inv,Builtin.len_,run_underlying hT.und,goInt]
  ·obtain⟨g,cap,hg,e1,hn,hc⟩:=h1.msl_inv
   refine⟨_,_,λw' _=> ?_, .d _ _ (.int _ _),hv (by simp only [maxLen]at hc;omega)⟩
   rw [aS ho]
   simp [builtin,e1,Builtin.len_,run_underlying hT.und,goInt]
  ·obtain⟨A,cap,e1,hn,hc,_⟩:=h1.mw_inv
   refine⟨_,_,λw' _=> ?_, .d _ _ (.int _ _),hv (by simp only [maxLen]at hc;omega)⟩
   rw [aS ho]
   simp [builtin,e1,Builtin.len_,run_underlying hT.und,goInt]
  ·obtain⟨A,cap,e1,hn,hc,_⟩:=h1.ms_inv
   refine⟨_,_,λw' _=> ?_, .d _ _ (.int _ _),hv (by simp only [maxLen]at hc;omega)⟩
   rw [aS ho]
   simp [builtin,e1,Builtin.len_,run_underlying hT.und,goInt]
  ·obtain⟨A,e1⟩:=h1.zc_inv
   refine⟨_,_,λw' _=> ?_, .d _ _ (.int _ _),hv⟩
   rw [aS ho]
   simp [builtin,e1,Builtin.len_,run_underlying hT.und,goInt]
  ·split at hv
   ·rename_i z' rows hrows
    obtain⟨A,cap,b,off,e1,hn,hc,_,_⟩:=(hZ hrows h1).of_sl
    refine⟨_,_,λw' _=> ?_, .d _ _ (.int _ _),hv (by simp only [maxLen]at hc;omega)⟩
    rw [aS ho]
    simp [builtin,e1,Builtin.len_,run_underlying hT.und,goInt]
   ·exact hv.elim
 ·rename_i n e _ _ _ hT
  obtain⟨d,i,z,hT⟩:=aM (hti _ _ hT)
  have hd:=gH hT.td
  subst hd
  refine⟨_,_,λw' _=> ?_, .d _ _ (.int _ _),hv⟩
  rw [aS ho]
  simp [builtin,Builtin.len_,run_underlying hT.und,goInt]
 ·exact hv.elim
def aO7 (ti:TypeId->Option TI) (t:TypeId) (s:SV) (hp:Hp) (K:SV->Prop):Prop:=
 match ti t with
 |some { td:= .slice _, .. }=>
  (match s with
  | .d .nil=>K (.d (.int .i64 0))
  | .zc=>K (.d (.int .i64 0))
  | .mw id _ n => (match aQ hp id with
   |some (.mrow _ _ cap rows)=>n=rows.length/\(rows.length<=cap->cap<=9223372036854775807->K (.d (.int .i64 cap)))
   |_=>aG "cap: no such rows")
  |_=>aG "cap: no slice of its own")
 |_=>aG "cap: a type"
theorem fE.shape {w:World}{S:Nat->Nat->Prop}{e z cap:Nat}{rows:List (List D)}{v:Value}(h:fE w S e z cap rows v): ∃A,v= .slice A rows.length cap/\rows.length<=cap/\cap<=maxLen/\(cap≠0-> ∃g,A=some ⟨g,0,none⟩):=by
 rcases h with⟨rfl,rfl,A,rfl⟩|⟨hc,g,cur,rfl,h1,h2,h3,_⟩
 ·exact⟨A,rfl,by simp,by simp,λh=>absurd rfl h⟩
 ·exact⟨_,rfl,h2,h3,λ_=>⟨g,rfl⟩⟩
theorem aMq {ti:TypeId->Option TI}(hti:cT P ti) {o:Oper}{t:TypeId}{x:Operand}(ho:o.op= .call { callee:= .builtin .cap,args:= #[x],argTypes:= #[t] }) {fr:Fr}{hp:Hp}{K:SV->Prop}
  (h:ev fr x λs=>aO7 ti t s hp K):cY P o fr hp K:=by
 intro E ρ a w hm hf
 obtain⟨s,hs,hv⟩:=cA h
 have h1:=aU hf hs
 unfold aO7 at hv
 split at hv
 ·rename_i e _ _ _ hT
  obtain⟨d,i,z,hT⟩:=aM (hti _ _ hT)
  have hd:=bR hT.td
  subst hd
  split at hv
  ·refine⟨_,_,λw' _=> ?_, .d _ _ (.int _ _),hv⟩
   rw [aS ho]
   simp [builtin,h1.nil_inv,Builtin.cap_,run_underlying hT.und,goInt]
  ·obtain⟨A,e1⟩:=h1.zc_inv
   refine⟨_,_,λw' _=> ?_, .d _ _ (.int _ _),hv⟩
   rw [aS ho]
   simp [builtin,e1,Builtin.cap_,run_underlying hT.und,goInt]
  ·rename_i id z' n
   split at hv
   ·rename_i e' z'' cap rows ho'
    obtain⟨hn,hv⟩:=hv
    obtain⟨q1,q2⟩:=hm.sat id _ ho'
    obtain⟨A,q3,q4,q5,_⟩:=q2.shape
    obtain⟨A',cap',e1,_,_,_,_,e2⟩:=h1.mw_inv
    have e3:=e2 (by omega)
    rw [e3,q3]at e1
    injection e1 with e4 e5 e6
    refine⟨.int .i64 cap,_,λw' _=> ?_, .d _ _ (.int _ _),hv q4 (by simpa only [maxLen]using q5)⟩
    rw [aS ho]
    rw [q3]at e3
    simp [builtin,e3,Builtin.cap_,run_underlying hT.und,goInt]
   ·exact hv.elim
  ·exact hv.elim
 ·exact hv.elim
end
end Go.Proofs.YtleihcnongldbaaGreatDoor
