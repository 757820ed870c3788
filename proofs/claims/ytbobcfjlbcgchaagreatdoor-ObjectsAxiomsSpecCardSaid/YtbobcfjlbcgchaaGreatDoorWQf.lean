/-
  Layer 6: the maps of the steps of axioms.
  Conditions: none.
-/
import Derived.Test.YtbobcfjlbcgchaaGreatDoorWQc
import Derived.Test.YtbobcfjlbcgchaaGreatDoorWOf
set_option linter.unnecessarySimpa false
set_option linter.unusedSectionVars false
set_option linter.unusedSimpArgs false
set_option linter.unusedVariables false
set_option maxHeartbeats 16000000
namespace Go.Proofs.YtbobcfjlbcgchaaGreatDoor
section
def aUu (x:Ax) (i:Nat):Str:=(x.roles[i]?).getD []
def aAr (x:Ax):Nat:=x.roles.countP λr=>decide (r=x.role)
def fG (x:Ax) (i:Nat):Bool:=
 decide (aUu x i=x.role) && ((decide (aAr x=1) && (decide (i=0) || decide (i+1=x.roles.length))) || (decide (aAr x=2) && decide (x.roles.length=2)))
def jF (x:Ax) (l:List Nat):List Stp:=l.flatMap λi=>if fG x i then []else [(aUu x i,x.role,true)]
def fQ (x:Ax):List Stp:=
 if x.kind=5 then (if aUu x 0=x.role then []else [(aUu x 0,x.role,false)])
 else if x.kind=6 then jF x (List.range x.roles.length)else []
def dW (l:List Ax):List Stp:=l.flatMap fQ
theorem aE8 (x:Ax) (l:List Nat):(jF x l).length<=l.length:=by
 induction l with
 |nil=>simp [jF]
 |cons i r ih=>
  have e:jF x (i::r)=(if fG x i then []else [(aUu x i,x.role,true)])++jF x r:=rfl
  rw [e,List.length_append,List.length_cons]
  split<;>simp<;>omega
theorem aO9 (x:Ax) (h:x.roles.length<=4):(fQ x).length<=4:=by
 unfold fQ
 split
 ·split<;>simp
 ·split
  ·have:=aE8 x (List.range x.roles.length)
   rw [List.length_range]at this
   omega
  ·simp
theorem rL: ∀(l:List Ax),(∀x∈l,x.roles.length<=4)->(dW l).length<=4 * l.length
 | [],_=>by simp [dW]
 |x::r,h=>by
  have h1:=aO9 x (h x (by simp))
  have h2:=rL r λy a=>h y (List.mem_cons_of_mem _ a)
  have e:dW (x::r)=fQ x++dW r:=rfl
  rw [e,List.length_append,List.length_cons];omega
theorem sZ {l:List Ax}{j:Nat}(h:j < l.length):dW (l.take (j+1))=dW (l.take j)++fQ l[j]:=by
 rw [List.take_succ_eq_append_getElem h]
 unfold dW
 rw [List.flatMap_append];simp
theorem aBl (x:Ax) (k:Nat):jF x (List.range (k+1))=jF x (List.range k)++(if fG x k then []else [(aUu x k,x.role,true)]):=by
 rw [List.range_succ]
 unfold jF
 rw [List.flatMap_append];simp
abbrev Inn:=List (Str×Bool)×(List Nat×Nat)
def aGi (l:List (Str×Bool)):List (Str×SV):=l.map λp=>(p.1, .d (.bool p.2))
def inO (x:Inn):HObj:= .ext (aC8 aGy (aGi x.1) x.2.1 x.2.2)
def mU:Nat->List (Str×Inn)->List (Str×SV)
 |_,[]=>[]
 |n,(k,_)::r=>(k, .xv (1000+n) rR)::mU (n+1) r
def hpO:Nat->List (Str×Inn)->Hp
 |_,[]=>[]
 |n,(_,x)::r=>(1000+n,inO x)::hpO (n+1) r
def aC6 (k:Str):List (Str×Inn)->Option Nat
 | []=>none
 |(k',_)::r=>if k=k' then some 0 else (aC6 k r).map (· +1)
theorem aAc {k:Str}: ∀{M:List (Str×Inn)}{i:Nat},aC6 k M=some i-> ∃x,M[i]? =some (k,x)
 |(k',x)::r,i,h=>by
  rw [aC6]at h
  split at h
  ·rename_i e
   cases h
   exact⟨x,by rw [e];rfl⟩
  ·cases hp:aC6 k r with
   |none=>rw [hp]at h;cases h
   |some j=>
    rw [hp]at h
    cases h
    obtain⟨y,a⟩:=aAc hp
    exact⟨y,by simpa using a⟩
theorem aAd {k:Str}: ∀{M:List (Str×Inn)},aC6 k M=none↔k∉M.map (·.1)
 | []=>by simp [aC6]
 |(k',x)::r=>by
  rw [aC6]
  split
  ·rename_i e;simp [e]
  ·rename_i e
   rw [Option.map_eq_none_iff,aAd]
   simp [e]
theorem qC (k:Str): ∀(n:Nat) (M:List (Str×Inn)),qD (mU n M) k=(aC6 k M).map λi=>SV.xv (1000+(n+i)) rR
 |_,[]=>rfl
 |n,(k',x)::r=>by
  rw [mU,qD,aC6]
  split
  ·rfl
  ·rw [qC k (n+1) r]
   cases aC6 k r with
   |none=>rfl
   |some i=>simp [Nat.add_comm,Nat.add_left_comm]
theorem aN5: ∀(n:Nat) (M:List (Str×Inn)),(mU n M).length=M.length
 |_,[]=>rfl
 |n,(k,x)::r=>by rw [mU,List.length_cons,List.length_cons,aN5]
theorem aIk: ∀(n:Nat) (M:List (Str×Inn)),(mU n M).map (·.1)=M.map (·.1)
 |_,[]=>rfl
 |n,(k,x)::r=>by rw [mU,List.map_cons,List.map_cons,aIk]
theorem aKy: ∀(n:Nat) (M:List (Str×Inn)),∀k∈aUw (mU n M),1000+n<=k/\k < 1000+n+M.length
 |_,[],k,h=>by simp [mU,aUw]at h
 |n,(a,x)::r,k,h=>by
  have e:aUw (mU n ((a,x)::r))=[1000+n]++aUw (mU (n+1) r):=rfl
  rw [e]at h
  rw [List.length_cons]
  rcases List.mem_append.1 h with h|h
  ·simp at h;omega
  ·have:=aKy (n+1) r k h;omega
theorem aHu {k:Str}: ∀(n:Nat) (M:List (Str×Inn)) (x:Inn),aC6 k M=none->aAl (mU n M) k (.xv (1000+(n+M.length)) rR)=mU n (M++[(k,x)])
 |_,[],_,_=>rfl
 |n,(k',y)::r,x,h=>by
  rw [aC6]at h
  split at h
  ·cases h
  ·rename_i e
   rw [Option.map_eq_none_iff]at h
   rw [mU,aAl,if_neg e,List.cons_append,mU,List.length_cons,show n+(r.length+1)=n+1+r.length by omega,aHu (n+1) r x h]
theorem aN4: ∀(n:Nat) (M:List (Str×Inn)) (i:Nat) (k:Str) (x y:Inn),M[i]? =some (k,x)->mU n (M.set i (k,y))=mU n M
 |_,[],_,_,_,_,h=>by cases h
 |n,(k',z)::r,0,k,x,y,h=>by
  simp at h
  obtain⟨rfl,rfl⟩:=h
  rfl
 |n,(k',z)::r,i+1,k,x,y,h=>by
  rw [List.set_cons_succ,mU,mU,aN4 (n+1) r i k x y (by simpa using h)]
theorem aB0: ∀(n:Nat) (M:List (Str×Inn)) (i:Nat) (p:Str×Inn) (rest:Hp),M[i]? =some p->aP (hpO n M++rest) (1000+(n+i))=some (inO p.2)
 |_,[],_,_,_,h=>by cases h
 |n,(k,x)::r,0,p,rest,h=>by
  simp at h;subst h
  rw [hpO,List.cons_append,Nat.add_zero]
  exact gF
 |n,(k,x)::r,i+1,p,rest,h=>by
  rw [hpO,List.cons_append]
  refine aR ?_ (by omega)
  rw [show n+(i+1)=n+1+i by omega]
  exact aB0 (n+1) r i p rest (by simpa using h)
theorem aKt: ∀(n:Nat) (M:List (Str×Inn)) (d:Nat) (rest:Hp),(d < 1000+n\/1000+n+M.length<=d)->aP (hpO n M++rest) d=aP rest d
 |_,[],_,_,_=>rfl
 |n,(k,x)::r,d,rest,h=>by
  rw [hpO,List.cons_append]
  refine aR (aKt (n+1) r d rest ?_) ?_
  ·rw [List.length_cons]at h;omega
  ·rw [List.length_cons]at h;omega
theorem aTn: ∀(n:Nat) (M:List (Str×Inn)) (i:Nat) (k:Str) (y:Inn) (rest:Hp),i < M.length->eY (hpO n M++rest) (1000+(n+i)) (inO y)=hpO n (M.set i (k,y))++rest
 |_,[],_,_,_,_,h=>by simp at h
 |n,(k',z)::r,0,k,y,rest,h=>by
  rw [List.set_cons_zero,hpO,hpO,List.cons_append,Nat.add_zero n,aJt];rfl
 |n,(k',z)::r,i+1,k,y,rest,h=>by
  rw [List.set_cons_succ,hpO,hpO,List.cons_append,zT (by omega),show n+(i+1)=n+1+i by omega,aTn (n+1) r i k y rest (by simpa using h)];rfl
theorem aMv: ∀(n:Nat) (M:List (Str×Inn)) (k:Str) (x:Inn),hpO n (M++[(k,x)])=hpO n M++[(1000+(n+M.length),inO x)]
 |_,[],_,_=>rfl
 |n,(k',z)::r,k,x=>by
  rw [List.cons_append,hpO,hpO,aMv (n+1) r k x,List.length_cons,show n+(r.length+1)=n+1+r.length by omega];rfl
theorem aFz: ∀(n:Nat) (M:List (Str×Inn)) (p:Nat×HObj),p∈hpO n M-> ∃i q,M[i]? =some q/\p=(1000+(n+i),inO q.2)
 |_,[],_,h=>by simp [hpO]at h
 |n,(k,x)::r,p,h=>by
  rw [hpO]at h
  rcases List.mem_cons.1 h with rfl|h
  ·exact⟨0,_,rfl,rfl⟩
  ·obtain⟨i,q,a,rfl⟩:=aFz (n+1) r p h
   exact⟨i+1,q,by simpa using a,by rw [show n+(i+1)=n+1+i by omega]⟩
theorem aTl (l:List (Str×Bool)):aUw (aGi l)=[]:=by
 induction l with
 |nil=>rfl
 |cons p r ih=>simpa [aGi,aUw,SV.ids]using ih
theorem bAb (x:Inn):(inO x).ids=[]:=aTl x.1
theorem aTo (n:Nat) (M:List (Str×Inn)): ∀k∈gH (hpO n M),1000+n<=k/\k < 1000+n+M.length:=by
 intro k a
 simp only [gH,List.mem_flatMap,List.mem_cons]at a
 obtain⟨p,hp,a⟩:=a
 obtain⟨i,q,b,rfl⟩:=aFz n M p hp
 have hi:=(List.getElem?_eq_some_iff.1 b).1
 rcases a with rfl|a
 ·dsimp only;omega
 ·dsimp only at a
  rw [bAb]at a;cases a
theorem aMu (a b:Hp):gH (a++b)=gH a++gH b:=List.flatMap_append
def ME (M:List (Str×Inn)) (a b:Str) (t:Bool):Prop:= ∃(i:Nat) (x:Inn),M[i]? =some (a,x)/\qD x.1 b=some t
def aJ9 (x:Inn) (s:Str) (t:Bool) (g:List Nat×Nat):Inn:=(aAl x.1 s (((qD x.1 s).getD false) || t),g)
structure MInv (T:List Stp) (M:List (Str×Inn)):Prop where
 nd:(M.map (·.1)).Nodup
 le:M.length<=T.length
 lei: ∀p∈M,p.2.1.length<=T.length
 sound: ∀a b t,ME M a b t-> ∃t',(a,b,t')∈T/\(t=true->t'=true)
 full: ∀a b t,(a,b,t)∈T-> ∃t',ME M a b t'/\(t=true->t'=true)
theorem MInv.nil:MInv [] [] where
 nd:= .nil
 le:=Nat.le_refl _
 lei:=by simp
 sound:=by
  rintro a b t ⟨i,x,h,_⟩
  cases h
 full:=by simp
theorem aAn {β:Type}(l:List (Str×β)) (k k':Str) (v:β):qD (aAl l k v) k'=if k'=k then some v else qD l k':=by
 induction l with
 |nil=>rfl
 |cons p r ih=>
  obtain⟨q,w⟩:=p
  rw [aAl]
  by_cases h:k=q
  ·subst h
   rw [if_pos rfl,qD,qD]
   split<;>rfl
  ·rw [if_neg h,qD,qD,ih]
   by_cases a:k'=q
   ·subst a
    rw [if_pos rfl,if_pos rfl,if_neg (Ne.symm h)]
   ·rw [if_neg a,if_neg a]
theorem aWx {β:Type}(l:List (Str×β)) (k:Str) (v:β):(aAl l k v).length<=l.length+1:=by
 induction l with
 |nil=>simp [aAl]
 |cons p r ih=>
  obtain⟨q,w⟩:=p
  rw [aAl]
  split
  ·simp
  ·simp only [List.length_cons];omega
theorem aFq {M:List (Str×Inn)}(h:(M.map (·.1)).Nodup) {i j:Nat}{a:Str}{x y:Inn}(hi:M[i]? =some (a,x)) (hj:M[j]? =some (a,y)):i=j:=by
 have b:(M.map (·.1))[i]? =some a:=by rw [List.getElem?_map,hi];rfl
 have c:(M.map (·.1))[j]? =some a:=by rw [List.getElem?_map,hj];rfl
 obtain⟨l1,e1⟩:=List.getElem?_eq_some_iff.1 b
 obtain⟨l2,e2⟩:=List.getElem?_eq_some_iff.1 c
 exact(List.getElem_inj h).1 (e1.trans e2.symm)
theorem bC3 (a b:Bool):(b=true->(a || b)=true):=by cases a<;>cases b<;>decide
theorem MInv.new {T:List Stp}{M:List (Str×Inn)}(h:MInv T M) {r s:Str}(t:Bool) (g:List Nat×Nat) (hr:aC6 r M=none):MInv (T++[(r,s,t)]) (M++[(r,([(s,t)],g))]):=by
 have l:=aAd.1 hr
 have j: ∀a b u,ME (M++[(r,([(s,t)],g))]) a b u↔ME M a b u\/(a=r/\b=s/\u=t):=by
  intro a b u
  constructor
  ·rintro⟨i,x,c,d⟩
   rw [List.getElem?_append]at c
   split at c
   ·exact .inl ⟨i,x,c,d⟩
   ·rename_i hi
    have hl:=(List.getElem?_eq_some_iff.1 c).1
    simp only [List.length_singleton]at hl
    rw [show i - M.length=0 by omega]at c
    simp at c
    obtain⟨rfl,rfl⟩:=c
    simp only [qD]at d
    split at d
    ·rename_i e
     cases d
     exact .inr ⟨rfl,e,rfl⟩
    ·cases d
  ·rintro(⟨i,x,c,d⟩|⟨rfl,rfl,rfl⟩)
   ·have hi:=(List.getElem?_eq_some_iff.1 c).1
    exact⟨i,x,by rw [List.getElem?_append_left hi];exact c,d⟩
   ·exact⟨M.length,([(b,u)],g),by simp,by simp [qD]⟩
 refine⟨?_,by simp;exact h.le, ?_, ?_, ?_⟩
 ·rw [List.map_append,List.nodup_append]
  refine⟨h.nd,by simp,λa m b hb=> ?_⟩
  simp at hb
  subst hb
  exact λe=>l (e ▸ m)
 ·intro p hp
  rw [List.length_append,List.length_singleton]
  rcases List.mem_append.1 hp with hp|hp
  ·have:=h.lei p hp;omega
  ·simp at hp;subst hp;simp
 ·intro a b u f
  rcases(j a b u).1 f with f|⟨rfl,rfl,rfl⟩
  ·obtain⟨k,c,d⟩:=h.sound a b u f
   exact⟨k,List.mem_append_left _ c,d⟩
  ·exact⟨u,by simp,id⟩
 ·intro a b u f
  rcases List.mem_append.1 f with f|f
  ·obtain⟨k,c,d⟩:=h.full a b u f
   exact⟨k,(j a b k).2 (.inl c),d⟩
  ·simp at f
   obtain⟨rfl,rfl,rfl⟩:=f
   exact⟨u,(j _ _ _).2 (.inr ⟨rfl,rfl,rfl⟩),id⟩
theorem MInv.upd {T:List Stp}{M:List (Str×Inn)}(h:MInv T M) {r s:Str}(t:Bool) (g:List Nat×Nat) {i:Nat}{x:Inn}(hi:M[i]? =some (r,x)):MInv (T++[(r,s,t)]) (M.set i (r,aJ9 x s t g)):=by
 have k:=(List.getElem?_eq_some_iff.1 hi).1
 have m:(M.set i (r,aJ9 x s t g)).map (·.1)=M.map (·.1):=by
  rw [List.map_set]
  apply List.ext_getElem?
  intro j
  rw [List.getElem?_set]
  split
  ·rename_i e
   subst e
   rw [List.length_map,if_pos k,List.getElem?_map,hi];rfl
  ·rfl
 have l: ∀a b u,ME (M.set i (r,aJ9 x s t g)) a b u↔(a=r/\b=s/\u=(((qD x.1 s).getD false) || t))\/(¬ (a=r/\b=s)/\ME M a b u):=by
  intro a b u
  constructor
  ·rintro⟨j,y,c,d⟩
   rw [List.getElem?_set]at c
   split at c
   ·rename_i e
    subst e
    try rw [if_pos k]at c
    simp at c
    obtain⟨rfl,rfl⟩:=c
    rw [aJ9,aAn]at d
    split at d
    ·rename_i e
     cases d
     exact .inl ⟨rfl,e,rfl⟩
    ·rename_i e
     exact .inr ⟨λh=>e h.2,i,x,hi,d⟩
   ·rename_i e
    refine .inr ⟨λz=> ?_,j,y,c,d⟩
    obtain⟨rfl,_⟩:=z
    exact e (aFq h.nd hi c)
  ·rintro(⟨rfl,rfl,rfl⟩|⟨o,j,y,c,d⟩)
   ·exact⟨i,_,by rw [List.getElem?_set_self k],by rw [aJ9,aAn,if_pos rfl]⟩
   ·by_cases e:i=j
    ·subst e
     rw [hi]at c
     simp at c
     obtain⟨rfl,rfl⟩:=c
     refine⟨i,_,by rw [List.getElem?_set_self k], ?_⟩
     rw [aJ9,aAn,if_neg λe=>o ⟨rfl,e⟩]
     exact d
    ·exact⟨j,y,by rw [List.getElem?_set_ne e];exact c,d⟩
 refine⟨by rw [m];exact h.nd,by rw [List.length_set,List.length_append];have:=h.le;omega, ?_, ?_, ?_⟩
 ·intro p hp
  rw [List.length_append,List.length_singleton]
  rcases List.mem_or_eq_of_mem_set hp with hp|rfl
  ·have:=h.lei p hp;omega
  ·have c:=h.lei _ (List.mem_of_getElem? hi)
   have d:=aWx x.1 s (((qD x.1 s).getD false) || t)
   show (aAl x.1 s _).length<=_
   dsimp only at c
   omega
 ·intro a b u f
  rcases(l a b u).1 f with⟨rfl,rfl,rfl⟩|⟨o,f⟩
  ·cases hx:qD x.1 b with
   |none=>exact⟨t,by simp,by simp⟩
   |some v=>
    obtain⟨n,c,d⟩:=h.sound a b v ⟨i,x,hi,hx⟩
    cases t with
    |true=>exact⟨true,by simp,by simp⟩
    |false=>exact⟨n,List.mem_append_left _ c,by simpa using d⟩
  ·obtain⟨n,c,d⟩:=h.sound a b u f
   exact⟨n,List.mem_append_left _ c,d⟩
 ·intro a b u f
  rcases List.mem_append.1 f with f|f
  ·obtain⟨n,⟨j,y,c,q⟩,d⟩:=h.full a b u f
   by_cases e:a=r/\b=s
   ·obtain⟨rfl,rfl⟩:=e
    have w:=aFq h.nd hi c
    subst w
    rw [hi]at c
    simp at c
    subst c
    refine⟨_,(l _ _ _).2 (.inl ⟨rfl,rfl,rfl⟩),λf=> ?_⟩
    rw [q]
    simp [d f]
   ·exact⟨n,(l _ _ _).2 (.inr ⟨e,j,y,c,q⟩),d⟩
  ·simp at f
   obtain⟨rfl,rfl,rfl⟩:=f
   exact⟨_,(l _ _ _).2 (.inl ⟨rfl,rfl,rfl⟩),bC3 _ _⟩
theorem MInv.circ {T:List Stp}{M:List (Str×Inn)}(h:MInv T M):mV (ET T)↔mV (ME M):=
 ⟨mV.mono λa b t=>h.full a b t,mV.mono λa b t=>h.sound a b t⟩
structure GOk (M:List (Str×Inn)) (R:List Str) (G:Adj):Prop where
 len:G.length=R.length
 nd:R.Nodup
 mem: ∀a,a∈R↔a∈M.map (·.1)
 sound: ∀i j t,EG G i j t->j < R.length/\ ∃a b,R[i]? =some a/\R[j]? =some b/\ME M a b t
 full: ∀i j t a b,R[i]? =some a->R[j]? =some b->ME M a b t->EG G i j t
theorem GOk.circ {M:List (Str×Inn)}{R:List Str}{G:Adj}(h:GOk M R G):mV (ME M)↔mV (EG G):=by
 have key: ∀{a b:Str} {t:Bool},ME M a b t->a∈R:=by
  rintro a b t ⟨i,x,d,_⟩
  exact(h.mem a).2 (List.mem_map.2 ⟨_,List.mem_of_getElem? d,rfl⟩)
 have at_: ∀{a:Str},a∈R->R[R.idxOf a]? =some a:=by
  intro a g
  have hl:=List.idxOf_lt_length_of_mem g
  rw [List.getElem?_eq_getElem hl,List.getElem_idxOf hl]
 constructor
 ·intro f
  refine mV.map (λa=>R.idxOf a) ?_ f.dom
  rintro a b t ⟨d,c,u,e⟩
  exact h.full _ _ t a b (at_ (key d)) (at_ (key e)) d
 ·refine mV.map (λi=>(R[i]?).getD []) ?_
  intro i j t k
  obtain⟨_,a,b,d,e,l⟩:=h.sound i j t k
  show ME M ((R[i]?).getD []) ((R[j]?).getD []) t
  rw [d,e]
  exact l
open Classical in
noncomputable def eZ (l:List Ax):Int:=if cR l≠0 then cR l else if mV (ET (dW l))then 60 else 0
end
section
attribute [local irreducible] aK aF Tri aH YVC cG aT
set_option maxRecDepth 10000
theorem aH2 (l:List Ax):Tri Tryz.prog 107 [.d (.sl 16 (l.map axR))] NG (λr=>r= .d (.int .i64 (cR l))):=by
 refine Tri.len 0 rfl λc=> ?_
 rw [List.length_map]at c
 refine qG [4] hty Tryz.func107 [0,2,4,5,6,7,8,9,15] ?_
 refine qX ?_;intros
 refine aD hty (λj:Nat=>([(2, .d (.int .i64 0)),(6, .d (.sl 16 (l.map axR))),(7, .d (.int .i64 l.length)),(8, .d (.int .i64 j))],NG)) (λj=>j<=l.length/\ ∀x∈l.take j,aZ x=0) (λj=>l.length - j) 0 ⟨by omega,by simp⟩ ⟨by repeat' (first|exact trivial|exact rfl|(rw [List.length_map];exact rfl)|refine And.intro ?_ ?_),⟨rfl,rfl,trivial⟩⟩ ?_
 rintro j ⟨hj,hz⟩
 refine qX ?_;intros
 refine aA (λk=> ?_) (λk=> ?_)
 ·have a:j < l.length:=by omega
  have b:=gW a
  have i:=kO l[j]
  have f:=mL a hz
  have h:aZ l[j]=0-> ∀x∈l.take (j+1),aZ x=0:= λg x hx=>by
   rw [List.take_succ_eq_append_getElem a]at hx
   rcases List.mem_append.1 hx with hx|hx
   ·exact hz x hx
   ·simp at hx;subst hx;exact g
  generalize aZ l[j]=e at *
  generalize l[j]=x at *
  ((conv=>whnf);repeat ((first|(refine⟨_,b, ?_⟩)|(refine aL NG i ⟨rfl,rfl,trivial⟩ (λr m=> ?_);subst m) |(intro n;try simp only [lnS]at n)|refine sI ?_|refine qE_ ?_);conv=>whnf))
  refine aC (λg=> ?_) (λg=> ?_)
  ·rw [f g]
   (repeat' first|(refine qW ?_;intros)|((conv=>whnf);first|refine dwR ?_|((first|refine aA ?_ ?_|refine aC ?_ ?_)<;>intro hb<;>(first|exact ddX hb|try simp only [lnS]at hb))|(refine aB ?_ ?_<;>intro hb<;>try exact dsX hb)))
   rfl
  ·(repeat' first|(refine qW ?_;intros)|((conv=>whnf);first|refine dwR ?_|((first|refine aA ?_ ?_|refine aC ?_ ?_)<;>intro hb<;>(first|exact ddX hb|try simp only [lnS]at hb))|(refine aB ?_ ?_<;>intro hb<;>try exact dsX hb)))
   exact⟨j+1,⟨by omega,h (by simpa using g)⟩,qO,⟨qB,⟨rfl,rfl,trivial⟩⟩⟩
 ·have a:j=l.length:=by omega
  subst a
  rw [List.take_length]at hz
  rw [qI hz]
  (repeat' first|(refine qW ?_;intros)|((conv=>whnf);first|refine dwR ?_|((first|refine aA ?_ ?_|refine aC ?_ ?_)<;>intro hb<;>(first|exact ddX hb|try simp only [lnS]at hb))|(refine aB ?_ ?_<;>intro hb<;>try exact dsX hb)))
  rfl
theorem aDl (x:Ax) {j:Nat}(h:j < x.roles.length):(x.roles.take (j+1)).countP (λr=>decide (r=x.role))=(x.roles.take j).countP (λr=>decide (r=x.role))+(if x.roles[j]=x.role then 1 else 0):=by
 rw [List.take_succ_eq_append_getElem h,List.countP_append,List.countP_singleton]
 simp
theorem eI {l:List (List UInt8)}{i:Nat}(h:i < l.length):(l.map bJ)[((i:Nat):Int).toNat]? =some (bJ l[i]):=by
 rw [Int.toNat_natCast,List.getElem?_map,List.getElem?_eq_getElem h];rfl
theorem oK {x:Ax}{i:Nat}(h:i < x.roles.length):aUu x i=x.roles[i]:=by
 rw [aUu,List.getElem?_eq_getElem h];rfl
theorem aKx (x:Ax) (i:Nat) (hi:i < x.roles.length) (hl:x.roles.length<=1000000):Tri Tryz.prog 166 [.d (.agg (axR x)), .d (.int .i64 i)] [] (λr=>r= .d (.bool (fG x i))):=by
 have hrow:=eI hi
 have n:=oK hi
 have hx: ∀c:Nat,aAr x=c-> ∀b,fG x i=b->fG x i=b:= λ_ _ _ h=>h
 refine qG [2] hty Tryz.func166 [0,1,2,4,5,6,8,16,21,22,23,24,30] ?_
 refine qX ?_;intros
 refine dwR ?_
 refine qZ ?_;intros
 refine aC (λg=> ?_) (λg=> ?_)
 ·have k:fG x i=false:=by unfold fG;rw [n];simp [g]
  rw [k]
  (repeat' first|(refine qW ?_;intros)|((conv=>whnf);first|refine dwR ?_|((first|refine aA ?_ ?_|refine aC ?_ ?_)<;>intro hb<;>(first|exact ddX hb|try simp only [lnS]at hb))|(refine aB ?_ ?_<;>intro hb<;>try exact dsX hb)))
  rfl
 ·have g:x.roles[i]=x.role:=by simpa using g
  refine qX ?_;intros
  refine aD hty (λj:Nat=>([(1, .d (.int .i64 i)),(2, .ea 16 [axR x] 0 0),(5, .d (.int .i64 x.roles.length)),(6, .d (.int .i64 ((x.roles.take j).countP λr=>decide (r=x.role):Nat))),(21, .d (.sl 1 (x.roles.map bJ))),(22, .d (.int .i64 x.roles.length)),(23, .d (.int .i64 j))],[])) (λj=>j<=x.roles.length) (λj=>x.roles.length - j) 0 (by omega) ⟨by repeat' (first|exact trivial|exact rfl|(rw [List.length_map];exact rfl)|refine And.intro ?_ ?_),trivial⟩ ?_
  rintro j hj
  refine qX ?_;intros
  refine aA (λo=> ?_) (λo=> ?_)
  ·have a:j < x.roles.length:=by omega
   have hrow2:=eI a
   have e:=aDl x a
   have f:=List.countP_le_length (p:= λr=>decide (r=x.role)) (l:=x.roles.take j)
   rw [List.length_take]at f
   generalize (x.roles.take j).countP (λr=>decide (r=x.role))=c at *
   refine qZ ?_;intros
   refine aA (λm=> ?_) (λm=> ?_)
   ·rw [if_pos m]at e
    (repeat' first|(refine qW ?_;intros)|((conv=>whnf);first|refine dwR ?_|((first|refine aA ?_ ?_|refine aC ?_ ?_)<;>intro hb<;>(first|exact ddX hb|try simp only [lnS]at hb))|(refine aB ?_ ?_<;>intro hb<;>try exact dsX hb)))
    refine⟨j+1,by omega,qO,⟨?_,trivial⟩⟩
    dsimp only
    rw [e]
    exact qB
   ·rw [if_neg m]at e
    (repeat' first|(refine qW ?_;intros)|((conv=>whnf);first|refine dwR ?_|((first|refine aA ?_ ?_|refine aC ?_ ?_)<;>intro hb<;>(first|exact ddX hb|try simp only [lnS]at hb))|(refine aB ?_ ?_<;>intro hb<;>try exact dsX hb)))
    refine⟨j+1,by omega,qO,⟨?_,trivial⟩⟩
    dsimp only
    rw [e]
    exact qB
  ·have a:j=x.roles.length:=by omega
   subst a
   rw [List.take_length]
   have e:x.roles.countP (λr=>decide (r=x.role))=aAr x:=rfl
   rw [e]
   have f:=List.countP_le_length (p:= λr=>decide (r=x.role)) (l:=x.roles)
   rw [e]at f
   have k:fG x i=((decide (aAr x=1) && (decide (i=0) || decide (i+1=x.roles.length))) || (decide (aAr x=2) && decide (x.roles.length=2))):=by
    unfold fG;rw [n,g];simp
   rw [k]
   generalize aAr x=c at *
   clear hx k
   (repeat' first|(refine qW ?_;intros)|((conv=>whnf);first|refine dwR ?_|((first|refine aA ?_ ?_|refine aC ?_ ?_)<;>intro hb<;>(first|exact ddX hb|try simp only [lnS]at hb))|(refine aB ?_ ?_<;>intro hb<;>try exact dsX hb)))
   all_goals (refine bG ?_;rw [Bool.eq_iff_iff];simp only [Bool.or_eq_true,Bool.and_eq_true,decide_eq_true_eq,Bool.false_eq_true,true_iff,false_iff];omega)
def stH (M:List (Str×Inn)) (g:List Nat×Nat) (hp0:Hp):Hp:=(23, .cells 160 [.xv 33 rR])::(33, .ext (aC8 aGy (mU 0 M) g.1 g.2))::(hpO 0 M++hp0)
structure FarH (hp0:Hp):Prop where
 lo: ∀k∈gH hp0,80<=k/\k < 100
 s:lU hp0 hp0
theorem aJr {M:List (Str×Inn)}{g:List Nat×Nat}{hp0:Hp}(F:FarH hp0):lU (stH M g hp0) (stH M g hp0):=by
 refine uE λp hp=> ?_
 unfold stH at hp |-
 rcases List.mem_cons.1 hp with rfl|hp
 ·exact gF
 ·rcases List.mem_cons.1 hp with rfl|hp
  ·exact aR gF (show 23≠33 by decide)
  ·rcases List.mem_append.1 hp with hp|hp
   ·obtain⟨i,q,a,rfl⟩:=aFz 0 M p hp
    exact aR (aR (aB0 0 M i q hp0 a) (by omega)) (by omega)
   ·have a:=F.lo p.1 (qE hp)
    refine aR (aR ?_ (by omega)) (by omega)
    rw [aKt 0 M p.1 hp0 (.inl (by omega))]
    exact uD F.s p hp
theorem aEv (M:List (Str×Inn)) (g:List Nat×Nat) (hp0:Hp) (F:FarH hp0) (k:Nat) (hk:k∈gH (stH M g hp0)):k=23\/k=33\/(80<=k/\k < 100)\/(1000<=k/\k < 1000+M.length):=by
 unfold stH at hk
 rw [bU,bU,aMu]at hk
 simp only [List.mem_append,List.mem_cons]at hk
 rcases hk with(h|h)|(h|h)|h|h
 ·exact .inl h
 ·have:k∈([33]:List Nat):=h
  simp at this;exact .inr (.inl this)
 ·exact .inr (.inl h)
 ·have h:k∈aUw (mU 0 M):=h
  have:=aKy 0 M k h
  omega
 ·have:=aTo 0 M k h;omega
 ·have:=F.lo k h;omega
theorem aHi {k:Str}{x:Inn}: ∀{M:List (Str×Inn)},aC6 k M=none->aC6 k (M++[(k,x)])=some M.length
 | [],_=>by simp [aC6]
 |(k',y)::r,h=>by
  rw [aC6]at h
  split at h
  ·cases h
  ·rename_i e
   rw [Option.map_eq_none_iff]at h
   rw [List.cons_append,aC6,if_neg e,aHi h];rfl
theorem aN6 {k:Str}{x y:Inn}: ∀(n:Nat) (M:List (Str×Inn)),mU n (M++[(k,x)])=mU n (M++[(k,y)])
 |_,[]=>rfl
 |n,(k',z)::r=>by rw [List.cons_append,List.cons_append,mU,mU,aN6 (n+1) r]
theorem aAo (s:Str): ∀l:List (Str×Bool),qD (aGi l) s=(qD l s).map λb=>SV.d (.bool b)
 | []=>rfl
 |(k,b)::r=>by
  show qD ((k,SV.d (.bool b))::aGi r) s=_
  rw [qD,qD,aAo s r]
  split<;>rfl
theorem aHv (s:Str) (v:Bool): ∀l:List (Str×Bool),aAl (aGi l) s (.d (.bool v))=aGi (aAl l s v)
 | []=>rfl
 |(k,b)::r=>by
  show aAl ((k,SV.d (.bool b))::aGi r) s _=_
  rw [aAl,aAl,aHv s v r]
  split<;>rfl
theorem aHy (o:Option Bool):wU false (o.map λb=>SV.d (.bool b)) (.d (.bool false))= .d (.bool (o.getD false)):=by cases o<;>rfl
theorem aZe {M:List (Str×Inn)}{r:Str}{x:Inn}{g:List Nat×Nat}{hp0:Hp}(F:FarH hp0):lU (stH (M++[(r,x)]) g hp0) ((1000+(0+M.length),inO x)::(23, .cells 160 [.xv 33 rR])::(33, .ext (aC8 aGy (mU 0 (M++[(r,x)])) g.1 g.2))::(hpO 0 M++hp0)):=by
 refine uE λp hp=> ?_
 unfold stH at hp
 rcases List.mem_cons.1 hp with rfl|hp
 ·exact aR gF (show 1000+(0+M.length)≠23 by omega)
 ·rcases List.mem_cons.1 hp with rfl|hp
  ·exact aR (aR gF (show 23≠33 by decide)) (show 1000+(0+M.length)≠33 by omega)
  ·rcases List.mem_append.1 hp with hp|hp
   ·rw [aMv]at hp
    rcases List.mem_append.1 hp with hp|hp
    ·obtain⟨i,q,a,rfl⟩:=aFz 0 M p hp
     have hi:=(List.getElem?_eq_some_iff.1 a).1
     exact aR (aR (aR (aB0 0 M i q hp0 a) (show 33≠1000+(0+i)by omega)) (show 23≠1000+(0+i)by omega)) (show 1000+(0+M.length)≠1000+(0+i)by omega)
    ·simp only [List.mem_singleton]at hp
     subst hp
     exact gF
   ·have a:=F.lo p.1 (qE hp)
    refine aR (aR (aR ?_ (by omega)) (by omega)) (by omega)
    rw [aKt 0 M p.1 hp0 (.inl (by omega))]
    exact uD F.s p hp
theorem aNp (M:List (Str×Inn)) (g:List Nat×Nat) (r s:Str) (t:Bool) (hp0:Hp) (F:FarH hp0) {pin:Pin}{fr:Fr}{K:SV->Hp->Prop}(hp1: ∀k,1000<=k->k∉pin) (hf: ∀k,1000<=k->k∉gD fr)
  (hk: ∀M' g',(∀T,MInv T M->MInv (T++[(r,s,t)]) M')->K (eQ []) (stH M' g' hp0)):
  aF Tryz.prog pin fr (stH M g hp0) 165 [.d (.str r), .d (.str s), .d (.bool t), .ptr 23 0] K:=by
 refine aF.weak ?_
 refine aG false [] hty Tryz.func165 rfl (kp [0,1,2,3,10]) 40 (by simp [Tryz.f165]) ?_
 cases hpos:aC6 r M with
 |none=>
  have e:=qC r 0 M
  rw [hpos]at e
  have j:qD (mU 0 (M++[(r,(([],([],0)):Inn))])) r=some (.xv (1000+(0+M.length)) rR):=by
   rw [qC,aHi hpos];rfl
  unfold stH
  refine qX ?_;intros
  refine eC (id:=33) (ents:=mU 0 M) (k:=r) (bs:=g.1) (clock:=g.2) rfl rfl (eN rfl) rfl rfl rfl rfl ?_
  rw [e]
  refine qX ?_;intros
  refine aE9 rfl rfl true rfl (.inr ⟨rfl,rfl⟩) rfl ?_
  refine qX ?_;intros
  refine aMq rfl rfl aGy (1000+(0+M.length)) ⟨?_, ?_, ?_⟩ ?_
  ·rw [iS];exact λh=>h.elim (hp1 _ (by omega)) (hf _ (by omega))
  ·simp [bL,bB,SV.ids];omega
  ·intro h
   have:=aEv M g hp0 F _ h
   omega
  refine qX ?_;intros
  refine rH (id:=33) (ents:=mU 0 M) (k:=r) (.inl rfl) rfl (eN rfl) rfl (aR (aR gF (by decide)) (by omega)) rfl rfl (λbs c=> ?_)
  rw [zT (by omega),zT (by decide),aJt,aHu 0 M ([],([],0)) hpos]
  generalize hE:mU 0 (M++[(r,(([],([],0)):Inn))])=EE at *
  refine qX ?_;intros
  rw [aR gF (by omega)]
  refine qX ?_;intros
  refine eC (id:=33) (ents:=EE) (k:=r) (bs:=bs) (clock:=c) rfl rfl (eN rfl) rfl rfl (aR (aR gF (by decide)) (by omega)) rfl ?_
  rw [j]
  refine qX ?_;intros
  rw [aR gF (by omega)]
  refine qX ?_;intros
  refine eC (id:=33) (ents:=EE) (k:=r) (bs:=bs) (clock:=c) rfl rfl (eN rfl) rfl rfl (aR (aR gF (by decide)) (by omega)) rfl ?_
  rw [j]
  refine qX ?_;intros
  refine eC (id:=1000+(0+M.length)) (ents:=[]) (k:=s) (bs:=[]) (clock:=0) rfl rfl (eN rfl) rfl rfl gF rfl ?_
  refine qX ?_;intros
  refine rH (id:=1000+(0+M.length)) (ents:=[]) (k:=s) (.inl rfl) rfl (eN rfl) rfl gF rfl rfl (λa b=> ?_)
  rw [aJt]
  refine qX ?_;intros
  have o:EE=mU 0 (M++[(r,(([(s,t)],(a,b)):Inn))]):=by rw [<-hE];exact aN6 0 M
  subst o
  exact⟨_,aZe F,hk _ (bs,c) (λT h=>h.new t (a,b) hpos)⟩
 |some i=>
  obtain⟨x,hi⟩:=aAc hpos
  have n:=(List.getElem?_eq_some_iff.1 hi).1
  have e:=qC r 0 M
  rw [hpos]at e
  have f:=aB0 0 M i _ hp0 hi
  have p:= λy=>aTn 0 M i r y hp0 n
  have q:= λy=>aN4 0 M i r x y hi
  have hl:=aHy (qD x.1 s)
  rw [<-aAo]at hl
  have m: ∀v bs c,v=((qD x.1 s).getD false || t)->HObj.ext (aC8 aGy (aAl (aGi x.1) s (.d (.bool v))) bs c)=inO (aJ9 x s t (bs,c)):= λv bs c h=>by
   rw [aHv,h];rfl
  generalize (qD x.1 s).getD false=old at *
  unfold stH
  refine qX ?_;intros
  refine eC (id:=33) (ents:=mU 0 M) (k:=r) (bs:=g.1) (clock:=g.2) rfl rfl (eN rfl) rfl rfl rfl rfl ?_
  rw [e]
  refine qX ?_;intros
  refine aE9 rfl rfl false rfl (.inl ⟨_,rfl,rfl⟩) rfl ?_
  refine qX ?_;intros
  refine eC (id:=33) (ents:=mU 0 M) (k:=r) (bs:=g.1) (clock:=g.2) rfl rfl (eN rfl) rfl rfl rfl rfl ?_
  rw [e]
  refine qX ?_;intros
  refine eC (id:=33) (ents:=mU 0 M) (k:=r) (bs:=g.1) (clock:=g.2) rfl rfl (eN rfl) rfl rfl rfl rfl ?_
  rw [e]
  refine qX ?_;intros
  refine eC (id:=1000+(0+i)) (ents:=aGi x.1) (k:=s) (bs:=x.2.1) (clock:=x.2.2) rfl rfl (eN rfl) rfl rfl (aR (aR f (by omega)) (by omega)) rfl ?_
  rw [show ofV (Value.bool false)=SV.d (.bool false)from rfl,hl]
  have l: ∀v,v=(old || t)-> ∀bs c,∃hp'',lU hp'' (eY ((23, .cells 160 [.xv 33 rR])::(33, .ext (aC8 aGy (mU 0 M) g.1 g.2))::(hpO 0 M++hp0)) (1000+(0+i)) (.ext (aC8 aGy (aAl (aGi x.1) s (.d (.bool v))) bs c)))/\K (eQ []) hp'':=by
   intro v u bs c
   rw [m v bs c u,zT (by omega),zT (by omega),p,<-q (aJ9 x s t (bs,c))]
   exact⟨_,aJr F,hk _ g (λT h=>h.upd t (bs,c) hi)⟩
  cases old
  ·refine qX ?_;intros
   refine rH (id:=1000+(0+i)) (ents:=aGi x.1) (k:=s) (.inl rfl) rfl (eN rfl) rfl (aR (aR f (by omega)) (by omega)) rfl rfl (λa b=> ?_)
   refine qX ?_;intros
   exact l t (by simp) a b
  ·refine qX ?_;intros
   refine rH (id:=1000+(0+i)) (ents:=aGi x.1) (k:=s) (.inl rfl) rfl (eN rfl) rfl (aR (aR f (by omega)) (by omega)) rfl rfl (λa b=> ?_)
   refine qX ?_;intros
   exact l true (by simp) a b
def mpH (M:List (Str×Inn)) (g:List Nat×Nat) (hp0:Hp):Hp:=(33, .ext (aC8 aGy (mU 0 M) g.1 g.2))::(hpO 0 M++hp0)
theorem bA5 {M:List (Str×Inn)}{g:List Nat×Nat}{hp0:Hp}(F:FarH hp0):lU (mpH M g hp0) (stH M g hp0):=(aJr F).2
theorem bE9 {x:Ax}(h:aZ x=0) (hk:x.kind=5):0 < x.roles.length:=by
 have a:=((fO x).1 h).shaped
 rw [hk]at a
 unfold bH at a
 simp only [Bool.and_eq_true,decide_eq_true_eq]at a
 have h2:=a.2.2.2.2.2.1
 have e:(cC 5).least=1:=rfl
 omega
theorem aO8 (l:List Ax) (hv: ∀x∈l,aZ x=0) (hn:l.length<=1000000) (hp0:Hp) (F:FarH hp0) {pin:Pin}{fr:Fr}{K:SV->Hp->Prop}(hp1: ∀k,1000<=k\/k=23\/k=33\/k=26->k∉pin) (hf: ∀k,1000<=k\/k=23\/k=33\/k=26->k∉gD fr)
  (D: ∀M g,MInv (dW l) M->K (.xv 33 rR) (mpH M g hp0)):
  aF Tryz.prog pin fr hp0 109 [.d (.sl 16 (l.map axR))] K:=by
 have N: ∀k,k=23\/k=33->k∉gH hp0:= λk D h=>by have:=F.lo k h;omega
 refine aF.weak ?_
 refine aG false [6] hty Tryz.func109 rfl (kp [0,2,3,4,6,7,8,11,12,13,14,18,19,27,36,39,40,41,42,49]) 20 (by simp [Tryz.f109]) ?_
 refine qX ?_;intros
 refine aMq rfl rfl aGy 33 ⟨?_, ?_,N _ (.inr rfl)⟩ ?_
 ·rw [iS];exact λh=>h.elim (hp1 _ (.inr (.inr (.inl rfl)))) (hf _ (.inr (.inr (.inl rfl))))
 ·simp [bL,bB,SV.ids,dG,cD]
 ((conv=>whnf);repeat ((first|(refine And.intro (show fE 23 _ _ _ from⟨by intro h;exact(iS.1 h).elim (hp1 _ (.inr (.inl rfl))) (hf _ (.inr (.inl rfl))),by simp [bL,bB,SV.ids,dG,cD],λh=>by rw [bU]at h;exact(List.mem_append.1 h).elim (λh=>by simp [HObj.ids,aC8,aUw]at h) (N _ (.inl rfl))⟩) ?_) |(intro G;try simp only [lnS]at G)|refine sI ?_|refine qE_ ?_);conv=>whnf))
 rw [List.length_map]
 refine lS hty (λy:Nat×List (Str×Inn)×(List Nat×Nat)=>([(3, .ptr 23 0),(4, .fn 165 [] [.ptr 23 0]),(11, .d (.sl 16 (l.map axR))),(12, .d (.int .i64 l.length)),(13, .d (.int .i64 y.1))],stH y.2.1 y.2.2 hp0)) (λy=>y.1<=l.length/\MInv (dW (l.take y.1)) y.2.1) (λy=>l.length - y.1) (0,[],([],0)) ⟨qO,MInv.nil⟩ qB rfl ?_
 rintro⟨j,M,g⟩ ⟨O,o⟩
 dsimp only at O o
 have n: ∀k,1000<=k->k∉pin.under fr (gD fr):= λk h=>by rw [iS];exact λq=>q.elim (hp1 k (.inl h)) (hf k (.inl h))
 refine qX ?_;intros
 refine aA (λE=> ?_) (λE=> ?_)
 ·have e:j < l.length:=by dsimp only at E;omega
  have v:=gW e
  have c:=sZ e
  have z:=hv _ (List.getElem_mem e)
  have h4:=(fP z).2.2
  have C:=bE9 z
  generalize l[j]=x at *
  have u: ∀p:Fr,26∉gD p->fE 26 (pin.under fr (gD fr)) p (stH M g hp0):= λp h=>⟨λh=>(iS.1 h).elim (hp1 _ (by simp)) (hf _ (by simp)),h,λh=>by have:=aEv M g hp0 F _ h;omega⟩
  have B:26∉gH (stH M g hp0):= λh=>by have:=aEv M g hp0 F _ h;omega
  ((conv=>whnf);repeat ((first|(refine⟨_,v, ?_⟩)|(refine And.intro B ?_)|(refine And.intro (u _ (by simp [bL,bB,SV.ids,SV.idsL])) ?_) |(intro G;try simp only [lnS]at G)|refine sI ?_|refine qE_ ?_);conv=>whnf))
  refine aA (λt=> ?_) (λt=> ?_)
  ·have w:=C t
   have hrow0:(x.roles.map bJ)[(0:Int).toNat]? =some (bJ x.roles[0]):=eI w
   have A:=oK w
   refine qX ?_;intros
   refine dwR ?_
   refine qZ ?_;intros
   refine aC (λr=> ?_) (λr=> ?_)
   ·have a:fQ x=[(x.roles[0],x.role,false)]:=by
     unfold fQ
     rw [if_pos t,A,if_neg r]
    (conv=>whnf)
    (refine dN (id:=9) hty (.first 0 (.first 1 (.first 2 (.first 3 (.first 4 (.first 5 (.first 6 (.alt 7 .done .stop)))))))) (by kernel_rfl) (by kernel_rfl) ?_)
    refine qZ ?_;intros
    refine And.intro ?_ (by exact trivial)
    refine qX ?_;intros
    refine aNp M g x.roles[0] x.role false hp0 F n (λk D=>by simp [bL,bB,SV.ids,SV.idsL];omega) (λM' I s=> ?_)
    refine qX ?_;intros
    exact⟨(j+1,M',I),⟨by omega,by dsimp only;rw [c,a];exact s _ o⟩,qO,qB,rfl⟩
   ·have a:fQ x=[]:=by
     unfold fQ
     rw [if_pos t,A,if_pos r]
    (repeat' first|(refine qW ?_;intros)|((conv=>whnf);first|refine dwR ?_|((first|refine aA ?_ ?_|refine aC ?_ ?_)<;>intro hb<;>(first|exact ddX hb|try simp only [lnS]at hb))|(refine aB ?_ ?_<;>intro hb<;>try exact dsX hb)))
    rw [a,List.append_nil]at c
    refine⟨(j+1,M,g),⟨by omega,by rw [c];exact o⟩,qO,qB,rfl⟩
  ·refine qX ?_;intros
   refine aA (λr=> ?_) (λr=> ?_)
   ·have a:fQ x=jF x (List.range x.roles.length):=by
     unfold fQ
     rw [if_neg t,if_pos r]
    refine qX ?_;intros
    rw [List.length_map]
    refine lS hty (λy:Nat×List (Str×Inn)×(List Nat×Nat)=>([(3, .ptr 23 0),(4, .fn 165 [] [.ptr 23 0]),(6, .ea 16 [axR x] 0 0),(11, .d (.sl 16 (l.map axR))),(12, .d (.int .i64 l.length)),(13, .d (.int .i64 j)),(39, .d (.sl 1 (x.roles.map bJ))),(40, .d (.int .i64 x.roles.length)),(41, .d (.int .i64 y.1))],stH y.2.1 y.2.2 hp0)) (λy=>y.1<=x.roles.length/\MInv (dW (l.take j)++jF x (List.range y.1)) y.2.1) (λy=>x.roles.length - y.1) (0,M,g) ⟨qO,by simpa [jF]using o⟩ qB rfl ?_
    rintro⟨k,M2,L⟩ ⟨J,f⟩
    dsimp only at J f
    refine qX ?_;intros
    refine aA (λC=> ?_) (λC=> ?_)
    ·have m:k < x.roles.length:=by dsimp only at C;omega
     have hrow2:=eI m
     have H:=oK m
     have hex:=aKx x k m (by omega)
     have i:=aBl x k
     rw [H]at i
     generalize fG x k=b at *
     refine qZ ?_;intros
     cases b
     ·rw [if_neg (by decide)]at i
      refine qX ?_;intros
      refine aNp M2 L x.roles[k] x.role true hp0 F n (λk D=>by simp [bL,bB,SV.ids,SV.idsL];omega) (λM' I s=> ?_)
      refine qX ?_;intros
      exact⟨(k+1,M',I),⟨qO,by dsimp only;rw [i,<-List.append_assoc];exact s _ f⟩,qO,qB,rfl⟩
     ·rw [if_pos rfl,List.append_nil]at i
      (repeat' first|(refine qW ?_;intros)|((conv=>whnf);first|refine dwR ?_|((first|refine aA ?_ ?_|refine aC ?_ ?_)<;>intro hb<;>(first|exact ddX hb|try simp only [lnS]at hb))|(refine aB ?_ ?_<;>intro hb<;>try exact dsX hb)))
      exact⟨(k+1,M2,L),⟨qO,by dsimp only;rw [i];exact f⟩,qO,qB,rfl⟩
    ·have m:k=x.roles.length:=by dsimp only at C;omega
     subst m
     rw [<-a,<-c]at f
     (repeat' first|(refine qW ?_;intros)|((conv=>whnf);first|refine dwR ?_|((first|refine aA ?_ ?_|refine aC ?_ ?_)<;>intro hb<;>(first|exact ddX hb|try simp only [lnS]at hb))|(refine aB ?_ ?_<;>intro hb<;>try exact dsX hb)))
     exact⟨(j+1,M2,L),⟨qO,f⟩,qO,qB,rfl⟩
   ·have a:fQ x=[]:=by
     unfold fQ
     rw [if_neg t,if_neg r]
    (repeat' first|(refine qW ?_;intros)|((conv=>whnf);first|refine dwR ?_|((first|refine aA ?_ ?_|refine aC ?_ ?_)<;>intro hb<;>(first|exact ddX hb|try simp only [lnS]at hb))|(refine aB ?_ ?_<;>intro hb<;>try exact dsX hb)))
    rw [a,List.append_nil]at c
    exact⟨(j+1,M,g),⟨by omega,by dsimp only;rw [c];exact o⟩,qO,qB,rfl⟩
 ·have e:j=l.length:=by dsimp only at E;omega
  subst e
  rw [List.take_length]at o
  refine qX ?_;intros
  exact⟨_,bA5 F,D M g o⟩
end
end Go.Proofs.YtbobcfjlbcgchaaGreatDoor
