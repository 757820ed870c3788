/-
  More of maps: a map held against nil; memory by what lies at its numbers; a result that is data from there on.
  Conditions: none.
-/
import Derived.Test.YtbobcfjlbcgchaaGreatDoorWSna
import Derived.Test.YtbobcfjlbcgchaaGreatDoorWSne
set_option linter.unnecessarySimpa false
set_option linter.unusedSectionVars false
set_option linter.unusedSimpArgs false
set_option linter.unusedVariables false
namespace Go.Proofs.YtbobcfjlbcgchaaGreatDoor
section
structure CW {V:Type} (E:V->V->Bool->Prop) (L:Nat) (w:Nat->V) (t:Nat->Bool):Prop where
 edge: ∀i,i < L->E (w i) (w (i+1)) (t i)
 closed:w L=w 0
 strict: ∃i,i < L/\t i=true
def mV {V:Type}(E:V->V->Bool->Prop):Prop:= ∃L w t,CW E L w t
theorem CW.cut {V:Type}{E:V->V->Bool->Prop}{L:Nat}{w:Nat->V}{t:Nat->Bool}(h:CW E L w t) {i j:Nat}(hij:i < j) (hj:j < L) (he:w i=w j):
  ∃L' w' t',L' < L/\CW E L' w' t':=by
 obtain⟨k,hk,c⟩:=h.strict
 by_cases hin:i<=k/\k < j
 ·refine⟨j - i,λn=>w (i+n),λn=>t (i+n),by omega,⟨λn d=> ?_, ?_,k - i,by omega, ?_⟩⟩
  ·exact h.edge (i+n) (by omega)
  ·show w (i+(j - i))=w (i+0)
   rw [show i+(j - i)=j by omega,Nat.add_zero,he]
  ·show t (i+(k - i))=true
   rw [show i+(k - i)=k by omega,c]
 ·refine⟨L - (j - i),λn=>if n<=i then w n else w (n+(j - i)),λn=>if n < i then t n else t (n+(j - i)),by omega,⟨λn d=> ?_, ?_, ?_⟩⟩
  ·show E (if n<=i then w n else w (n+(j - i))) (if n+1<=i then w (n+1)else w (n+1+(j - i))) (if n < i then t n else t (n+(j - i)))
   by_cases a:n < i
   ·rw [if_pos (by omega),if_pos (by omega),if_pos a]
    exact h.edge n (by omega)
   ·rw [if_neg (by omega:¬ n+1<=i),if_neg a]
    have b:=h.edge (n+(j - i)) (by omega)
    rw [show n+(j - i)+1=n+1+(j - i)by omega]at b
    by_cases e:n=i
    ·subst e
     rw [if_pos (Nat.le_refl _),he]
     rw [show n+(j - n)=j by omega]at b |-
     exact b
    ·rw [if_neg (by omega)]
     exact b
  ·show (if L - (j - i)<=i then w (L - (j - i))else w (L - (j - i)+(j - i)))=(if 0<=i then w 0 else w (0+(j - i)))
   rw [if_neg (by omega),if_pos (by omega),show L - (j - i)+(j - i)=L by omega]
   exact h.closed
  ·by_cases a:k < i
   ·exact⟨k,by omega,by show (if k < i then t k else t (k+(j - i)))=true;rw [if_pos a,c]⟩
   ·refine⟨k - (j - i),by omega, ?_⟩
    show (if k - (j - i) < i then t (k - (j - i))else t (k - (j - i)+(j - i)))=true
    rw [if_neg (by omega),show k - (j - i)+(j - i)=k by omega,c]
theorem mV.least {V:Type}{E:V->V->Bool->Prop}(h:mV E): ∃L w t,CW E L w t/\(∀L' w' a,L' < L->¬ CW E L' w' a)/\ ∀i j,i < j->j < L->w i≠w j:=by
 obtain⟨L,w,t,h⟩:=h
 induction L using Nat.strongRecOn generalizing w t with
 |ind L ih=>
  by_cases c: ∃L' w' a,L' < L/\CW E L' w' a
  ·obtain⟨L',w',a,hl,d⟩:=c
   exact ih L' hl w' a d
  ·exact⟨L,w,t,h,λL' w' a hl d=>c ⟨L',w',a,hl,d⟩,λi j b e f=>c (h.cut b e f)⟩
theorem yT {V:Type}: ∀(l m:List V),l.Nodup->(∀x∈l,x∈m)->l.length<=m.length
 | [],m,_,_=>by simp
 |a::r,m,hn,hs=>by
  rw [List.nodup_cons]at hn
  obtain⟨c,d,rfl⟩:=List.append_of_mem (hs a (List.mem_cons_self ..))
  have:=yT r (c++d) hn.2 λx hx=>by
   have b:=hs x (List.mem_cons_of_mem _ hx)
   rw [List.mem_append,List.mem_cons]at b
   rw [List.mem_append]
   rcases b with b|b|b
   ·exact .inl b
   ·subst b;exact absurd hx hn.1
   ·exact .inr b
  simp only [List.length_append,List.length_cons]at this |-
  omega
theorem aYh {V:Type}{w:Nat->V}{L:Nat}{m:List V}(hi: ∀i j,i < j->j < L->w i≠w j) (hm: ∀i,i < L->w i∈m):L<=m.length:=by
 have h := yT ((List.range L).map w) m (by
  rw [List.Nodup,List.pairwise_map]
  refine List.pairwise_iff_getElem.2 λi j h1 b c=> ?_
  simp only [List.getElem_range]
  exact hi i j c (by simpa using b)) (by
  intro x hx
  obtain⟨i,a,rfl⟩:=List.mem_map.1 hx
  exact hm i (List.mem_range.1 a))
 simpa using h
inductive Wlk {V:Type} (E:V->V->Bool->Prop) (a:V):Nat->V->Bool->Prop
 |nil:Wlk E a 0 a false
 |snoc {n b c s t}:Wlk E a n b s->E b c t->Wlk E a (n+1) c (s || t)
theorem CW.wlk {V:Type}{E:V->V->Bool->Prop}{L:Nat}{w:Nat->V}{t:Nat->Bool}(h:CW E L w t): ∀n,n<=L->Wlk E (w 0) n (w n) ((List.range n).any t)
 | 0,_=> .nil
 |n+1,hn=>by
  have a:=(h.wlk n (by omega)).snoc (h.edge n (by omega))
  rw [List.range_succ,List.any_append]
  simpa using a
theorem Wlk.cw {V:Type}{E:V->V->Bool->Prop}{a:V}: ∀{n:Nat}{b:V}{s:Bool},Wlk E a n b s-> ∃(w:Nat->V) (t:Nat->Bool),w 0=a/\w n=b/\(∀i,i < n->E (w i) (w (i+1)) (t i))/\((List.range n).any t=s)
 |_,_,_, .nil=>⟨λ_=>a,λ_=>false,rfl,rfl,by omega,rfl⟩
 |n+1,c,_, .snoc (b:=b) (s:=s) (t:=t) h he=>by
  obtain⟨w,u,f,g,j,e⟩:=h.cw
  refine⟨λi=>if i<=n then w i else c,λi=>if i < n then u i else t, ?_, ?_,λi hi=> ?_, ?_⟩
  ·show (if 0<=n then w 0 else c)=a
   rw [if_pos (by omega),f]
  ·show (if n+1<=n then _ else c)=c
   rw [if_neg (by omega)]
  ·show E (if i<=n then w i else c) (if i+1<=n then w (i+1)else c) (if i < n then u i else t)
   by_cases d:i < n
   ·rw [if_pos (by omega),if_pos (by omega),if_pos d];exact j i d
   ·have k:i=n:=by omega
    subst k
    rw [if_pos (Nat.le_refl _),if_neg (by omega),if_neg d,g];exact he
  ·rw [List.range_succ,List.any_append]
   simp only [List.any_cons,List.any_nil,Bool.or_false,Nat.lt_irrefl,if_false]
   rw [<-e]
   congr 1
   have: ∀i∈List.range n,(if i < n then u i else t)=u i:= λi hi=>if_pos (List.mem_range.1 hi)
   rw [Bool.eq_iff_iff,List.any_eq_true,List.any_eq_true]
   constructor
   ·rintro⟨i,hi,h⟩;exact⟨i,hi,by rw [<-this i hi];exact h⟩
   ·rintro⟨i,hi,h⟩;exact⟨i,hi,by rw [this i hi];exact h⟩
theorem aGb {V:Type}{E:V->V->Bool->Prop}:mV E↔ ∃a n,Wlk E a n a true:=by
 constructor
 ·rintro⟨L,w,t,h⟩
  refine⟨w 0,L, ?_⟩
  have c:=h.wlk L (Nat.le_refl _)
  rw [h.closed]at c
  obtain⟨i,hi,b⟩:=h.strict
  rwa [List.any_eq_true.2 ⟨i,List.mem_range.2 hi,b⟩]at c
 ·rintro⟨a,n,h⟩
  obtain⟨w,t,e,f,g,b⟩:=h.cw
  obtain⟨i,hi,d⟩:=List.any_eq_true.1 b
  exact⟨n,w,t,g,by rw [f,e],i,List.mem_range.1 hi,d⟩
theorem Wlk.mono {V:Type}{E F:V->V->Bool->Prop}(h: ∀a b t,E a b t-> ∃d,F a b d/\(t=true->d=true)) {a:V}: ∀{n:Nat}{b:V}{s:Bool},Wlk E a n b s-> ∃c,Wlk F a n b c/\(s=true->c=true)
 |_,_,_, .nil=>⟨false, .nil,id⟩
 |_,_,_, .snoc (s:=s) (t:=t) hw he=>by
  obtain⟨c,e,h2⟩:=hw.mono h
  obtain⟨d,f,h4⟩:=h _ _ _ he
  refine⟨_, .snoc e f, ?_⟩
  cases s<;>cases t<;>simp_all
theorem mV.mono {V:Type}{E F:V->V->Bool->Prop}(h: ∀a b t,E a b t-> ∃t',F a b t'/\(t=true->t'=true)) (hc:mV E):mV F:=by
 obtain⟨a,n,e⟩:=aGb.1 hc
 obtain⟨s',c,d⟩:=e.mono h
 rw [d rfl]at c
 exact aGb.2 ⟨a,n,c⟩
theorem mV.dom {V:Type}{E:V->V->Bool->Prop}(hc:mV E):mV (λa b t=>E a b t/\ ∃c u,E b c u):=by
 obtain⟨L,w,t,h⟩:=hc
 obtain⟨k,f,d⟩:=h.strict
 refine⟨L,w,t,λi hi=>⟨h.edge i hi, ?_⟩,h.closed,k,f,d⟩
 by_cases e:i+1 < L
 ·exact⟨_,_,h.edge (i+1) e⟩
 ·rw [show i+1=L by omega,h.closed]
  exact⟨_,_,h.edge 0 (by omega)⟩
theorem mV.map {V W:Type}{E:V->V->Bool->Prop}{F:W->W->Bool->Prop}(f:V->W) (h: ∀a b t,E a b t->F (f a) (f b) t) (hc:mV E):mV F:=by
 obtain⟨L,w,t,c⟩:=hc
 exact⟨L,λi=>f (w i),t,λi hi=>h _ _ _ (c.edge i hi),congrArg f c.closed,c.strict⟩
structure Way where
 role:Nat
 strict:Bool
 before:Nat
 many:Nat
abbrev Adj:=List (List (Nat×Bool))
def nZ (G:Adj) (i:Nat):List (Nat×Bool):=(G[i]?).getD []
def EG (G:Adj) (i j:Nat) (t:Bool):Prop:=(j,t)∈nZ G i
def aZf (p:Bool×Bool) (s:Bool):Bool:=if s then p.2 else p.1
def sT (S:List (Bool×Bool)) (v:Nat) (s:Bool):Bool:=aZf ((S[v]?).getD (false,false)) s
def aHx (p:Bool×Bool) (s:Bool):Bool×Bool:=if s then (p.1,true)else (true,p.2)
structure Bfs (G:Adj) (n start at' k:Nat) (W:List Way) (S:List (Bool×Bool)):Prop where
 len:S.length=n
 first:W[0]? =some ⟨start,false,0,0⟩
 sound: ∀w∈W,Wlk (EG G) start w.many w.role w.strict/\w.role < n
 before: ∀(i:Nat) w,W[i]? =some w->0 < i->w.before < i
 mono: ∀(i j:Nat) x y,i<=j->W[i]? =some x->W[j]? =some y->x.many<=y.many
 bound: ∀x,W[at']? =some x-> ∀w∈W,w.many<=x.many+1
 seen: ∀v s,sT S v s=true↔ ∃w∈W,w.role=v/\w.strict=s
 once:(W.map λw=>(w.role,w.strict)).Nodup
 done: ∀(i:Nat) w (m j:Nat) t,W[i]? =some w->(nZ G w.role)[m]? =some (j,t)->(i < at'\/i=at'/\m < k)->¬ (j=start/\(w.strict || t)=true)/\ ∃w'∈W,w'.role=j/\w'.strict=(w.strict || t)/\w'.many<=w.many+1
theorem aTq {α:Type}{l:List α}{i:Nat}{a:α}(h:l.length<=i):(l[i]?).getD a=a:=by rw [List.getElem?_eq_none h];rfl
theorem aM0 {S:List (Bool×Bool)}{j:Nat}(hj:j < S.length) (s:Bool) (v:Nat) (s':Bool):
  sT (S.set j (aHx ((S[j]?).getD (false,false)) s)) v s'=true↔sT S v s'=true\/(v=j/\s'=s):=by
 unfold sT
 rw [List.getElem?_set]
 by_cases h:j=v
 ·subst h
  rw [if_pos rfl,if_pos hj]
  simp only [Option.getD_some]
  generalize (S[j]?).getD (false,false)=p
  obtain⟨a,b⟩:=p
  cases s<;>cases s'<;>cases a<;>cases b<;>simp [aZf,aHx]
 ·rw [if_neg h]
  constructor
  ·exact .inl
  ·rintro(c|⟨rfl,_⟩)
   ·exact c
   ·exact absurd rfl h
theorem aVs (n v:Nat) (s:Bool):sT (List.replicate n (false,false)) v s=false:=by
 unfold sT
 rw [List.getElem?_replicate]
 split<;>cases s<;>rfl
theorem Bfs.init {G:Adj}{n start:Nat}(h:start < n):Bfs G n start 0 0 [⟨start,false,0,0⟩] ((List.replicate n (false,false)).set start (true,false)) where
 len:=by simp
 first:=rfl
 sound:=by
  intro w a
  simp only [List.mem_singleton]at a
  subst a
  exact⟨.nil,h⟩
 before:=by
  intro i w hi h0
  rw [List.getElem?_eq_none (by simp;omega)]at hi
  cases hi
 mono:=by
  intro i j x y hij hx b
  have hi:i=0:=by have:=(List.getElem?_eq_some_iff.1 hx).1;simp at this;exact this
  have e:j=0:=by have:=(List.getElem?_eq_some_iff.1 b).1;simp at this;exact this
  subst hi e
  rw [hx]at b
  cases b
  exact Nat.le_refl _
 bound:=by
  intro x hx w a
  simp only [List.mem_singleton]at a
  subst a
  exact Nat.zero_le _
 seen:=by
  intro v s
  have c:=aM0 (S:=List.replicate n (false,false)) (j:=start) (by simpa using h) false v s
  rw [aVs,List.getElem?_replicate,if_pos h]at c
  simp only [List.mem_singleton]
  refine(show _↔_ from c).trans ?_
  constructor
  ·rintro(d|⟨rfl,rfl⟩)
   ·cases d
   ·exact⟨_,rfl,rfl,rfl⟩
  ·rintro⟨w,rfl,rfl,rfl⟩
   exact .inr ⟨rfl,rfl⟩
 once:=by simp
 done:=by
  intro i w m j t _ _ h
  omega
theorem Bfs.found {G:Adj}{n start at' k:Nat}{W:List Way}{S:List (Bool×Bool)}(h:Bfs G n start at' k W S) {w:Way}(hw:w∈W) {t:Bool}(he:EG G w.role start t) (hs:(w.strict || t)=true):mV (EG G):=by
 have a:=(h.sound w hw).1.snoc he
 rw [hs]at a
 exact aGb.2 ⟨_,_,a⟩
theorem Bfs.skip {G:Adj}{n start at' k:Nat}{W:List Way}{S:List (Bool×Bool)}(h:Bfs G n start at' k W S) {w:Way}(hw:W[at']? =some w) {j:Nat}{t:Bool}
  (hk:(nZ G w.role)[k]? =some (j,t)) (hc:¬ (j=start/\(w.strict || t)=true)) (hs:sT S j (w.strict || t)=true):Bfs G n start at' (k+1) W S:=
 { h with
  done:= λi w' m d e a b h3=>by
   by_cases c:i=at'/\m=k
   ·obtain⟨rfl,rfl⟩:=c
    rw [hw]at a;cases a
    rw [hk]at b;cases b
    refine⟨hc, ?_⟩
    obtain⟨x,hx,e1,e2⟩:=(h.seen _ _).1 hs
    exact⟨x,hx,e1,e2,h.bound w hw x hx⟩
   ·exact h.done i w' m d e a b (by omega) }
theorem Bfs.push {G:Adj}{n start at' k:Nat}{W:List Way}{S:List (Bool×Bool)}(h:Bfs G n start at' k W S) {w:Way}(hw:W[at']? =some w) {j:Nat}{t:Bool}(hj:j < n)
  (hk:(nZ G w.role)[k]? =some (j,t)) (hc:¬ (j=start/\(w.strict || t)=true)) (hs:sT S j (w.strict || t)=false):
  Bfs G n start at' (k+1) (W++[⟨j,w.strict || t,at',w.many+1⟩]) (S.set j (aHx ((S[j]?).getD (false,false)) (w.strict || t))):=by
 have o:at' < W.length:=(List.getElem?_eq_some_iff.1 hw).1
 have p:w∈W:=List.mem_of_getElem? hw
 have l: ∀(i:Nat) x,(W++[⟨j,w.strict || t,at',w.many+1⟩])[i]? =some x->W[i]? =some x\/(i=W.length/\x=⟨j,w.strict || t,at',w.many+1⟩):=by
  intro i x hx
  rw [List.getElem?_append]at hx
  split at hx
  ·exact .inl hx
  ·rename_i hi
   have g:=(List.getElem?_eq_some_iff.1 hx).1
   simp only [List.length_singleton]at g
   have z:i=W.length:=by omega
   subst z
   simp only [Nat.sub_self,List.getElem?_cons_zero,Option.some.injEq]at hx
   exact .inr ⟨rfl,hx.symm⟩
 have C:EG G w.role j t:=List.mem_of_getElem? hk
 refine { len:=by rw [List.length_set];exact h.len,first:= ?_,sound:= ?_,before:= ?_,mono:= ?_,bound:= ?_,seen:= ?_,once:= ?_,done:= ?_ }
 ·rw [List.getElem?_append_left (by omega)];exact h.first
 ·intro x hx
  rcases List.mem_append.1 hx with hx|hx
  ·exact h.sound x hx
  ·simp only [List.mem_singleton]at hx
   subst hx
   exact⟨(h.sound w p).1.snoc C,hj⟩
 ·intro i x hx A
  rcases l i x hx with hx|⟨rfl,rfl⟩
  ·exact h.before i x hx A
  ·exact o
 ·intro a b x y d hx c
  rcases l b y c with c|⟨rfl,rfl⟩
  ·rcases l a x hx with hx|⟨rfl,rfl⟩
   ·exact h.mono a b x y d hx c
   ·have:=(List.getElem?_eq_some_iff.1 c).1;omega
  ·rcases l a x hx with hx|⟨u,rfl⟩
   ·exact h.bound w hw x (List.mem_of_getElem? hx)
   ·exact Nat.le_refl _
 ·intro x hx y c
  rw [List.getElem?_append_left o,hw]at hx
  cases hx
  rcases List.mem_append.1 c with c|c
  ·exact h.bound w hw y c
  ·simp only [List.mem_singleton]at c
   subst c
   exact Nat.le_refl _
 ·intro v s
  rw [aM0 (by rw [h.len];exact hj),h.seen]
  constructor
  ·rintro(⟨x,hx,e⟩|⟨rfl,rfl⟩)
   ·exact⟨x,List.mem_append_left _ hx,e⟩
   ·exact⟨_,List.mem_append_right _ (List.mem_singleton.2 rfl),rfl,rfl⟩
  ·rintro⟨x,hx,e1,e2⟩
   rcases List.mem_append.1 hx with hx|hx
   ·exact .inl ⟨x,hx,e1,e2⟩
   ·simp only [List.mem_singleton]at hx
    subst hx
    exact .inr ⟨e1.symm,e2.symm⟩
 ·rw [List.map_append,List.nodup_append]
  refine⟨h.once,by simp, ?_⟩
  intro a u b hb d
  subst d
  simp only [List.map_cons,List.map_nil,List.mem_singleton]at hb
  subst hb
  obtain⟨x,hx,r⟩:=List.mem_map.1 u
  injection r with e1 e2
  have:=(h.seen j (w.strict || t)).2 ⟨x,hx,e1,e2⟩
  rw [hs]at this;cases this
 ·intro i x m B D f g z
  have hi:i<=at':=by omega
  rcases l i x f with q|⟨rfl,_⟩
  ·clear f
   have f:=q
   by_cases r:i=at'/\m=k
   ·obtain⟨rfl,rfl⟩:=r
    rw [hw]at f;cases f
    rw [hk]at g;cases g
    exact⟨hc,_,List.mem_append_right _ (List.mem_singleton.2 rfl),rfl,rfl,Nat.le_refl _⟩
   ·obtain⟨e1,y,c,e2⟩:=h.done i x m B D f g (by omega)
    exact⟨e1,y,List.mem_append_left _ c,e2⟩
  ·omega
theorem Bfs.next {G:Adj}{n start at' k:Nat}{W:List Way}{S:List (Bool×Bool)}(h:Bfs G n start at' k W S) {w:Way}(hw:W[at']? =some w) (hk:(nZ G w.role).length<=k):Bfs G n start (at'+1) 0 W S:=
 { h with
  bound:= λx hx y c=>Nat.le_trans (h.bound w hw y c) (Nat.succ_le_succ (h.mono _ _ _ _ (Nat.le_succ _) hw hx))
  done:= λi x m j t a b h3=>by
   refine h.done i x m j t a b ?_
   by_cases hi:i=at'
   ·subst hi
    rw [hw]at a;cases a
    have:=(List.getElem?_eq_some_iff.1 b).1
    exact .inr ⟨rfl,by omega⟩
   ·omega }
theorem Bfs.none {G:Adj}{n start at':Nat}{W:List Way}{S:List (Bool×Bool)}(h:Bfs G n start at' 0 W S) {most:Nat}(hat: ∀w,W[at']? =some w->most<=w.many+1):
  ∀L w t,CW (EG G) L w t->w 0=start->¬ L < most:=by
 have hp: ∀(i:Nat) (w:Way),W[i]? =some w->w.many+1 < most->i < at':=by
  intro i w hi l
  by_cases d:i < at'
  ·exact d
  ·have B:at' < W.length:=by have:=(List.getElem?_eq_some_iff.1 hi).1;omega
   have j:=List.getElem?_eq_getElem B
   have h4:=hat _ j
   have h5:=h.mono at' i _ _ (by omega) j hi
   omega
 have key: ∀k v s,Wlk (EG G) start k v s->k < most-> ∃(i:Nat) (w:Way),W[i]? =some w/\w.role=v/\w.strict=s/\w.many<=k:=by
  intro k
  induction k with
  |zero=>
   intro v s c _
   cases c
   exact⟨0,_,h.first,rfl,rfl,Nat.le_refl _⟩
  |succ k ih=>
   intro v s c hk
   cases c with
   |snoc c he=>
    rename_i b s t
    obtain⟨i,x,hi,e1,e2,r⟩:=ih b s c (by omega)
    obtain⟨m,l,a⟩:=List.getElem_of_mem he
    subst e1
    obtain⟨_,y,o,u,D,f3⟩:=h.done i x m v t hi (by rw [List.getElem?_eq_getElem l,a]) (.inl (hp i x hi (by omega)))
    obtain⟨q,f,rfl⟩:=List.getElem_of_mem o
    exact⟨q,_,List.getElem?_eq_getElem f,u,by rw [D,e2],by omega⟩
 intro L w t e z hL
 obtain⟨q,f,C⟩:=e.strict
 have d:=e.wlk L (Nat.le_refl _)
 have hb:=List.any_eq_true.2 ⟨q,List.mem_range.2 f,C⟩
 rw [e.closed,z]at d
 generalize (List.range L).any t=sb at d hb
 generalize hst0:start=fin at d
 cases d with
 |nil=>cases hb
 |snoc c he=>
  subst hst0
  rename_i m b s A
  obtain⟨i,x,hi,e1,e2,r⟩:=key m b s c (by omega)
  obtain⟨p,g,a⟩:=List.getElem_of_mem he
  subst e1
  exact(h.done i x p start A hi (by rw [List.getElem?_eq_getElem g,a]) (.inl (hp i x hi (by omega)))).1 ⟨rfl,by rw [e2];exact hb⟩
theorem Bfs.few {G:Adj}{n start at' k:Nat}{W:List Way}{S:List (Bool×Bool)}(h:Bfs G n start at' k W S):W.length<=2 * n:=by
 have := yT (W.map λw => (w.role, w.strict)) ((List.range n).map (λi => (i, false)) ++ (List.range n).map (λi => (i, true))) h.once (by
  intro x hx
  obtain⟨w,a,rfl⟩:=List.mem_map.1 hx
  have:=(h.sound w a).2
  rw [List.mem_append]
  cases hs:w.strict
  ·exact .inl (List.mem_map.2 ⟨_,List.mem_range.2 this,rfl⟩)
  ·exact .inr (List.mem_map.2 ⟨_,List.mem_range.2 this,rfl⟩))
 simp at this
 omega
theorem Bfs.many {G:Adj}{n start at' k:Nat}{W:List Way}{S:List (Bool×Bool)}(h:Bfs G n start at' k W S) {w:Way}(hw:w∈W) {x:Way}(hx:W[at']? =some x):w.many<=x.many+1:=h.bound x hx w hw
theorem aUn {G:Adj}{i j:Nat}{t:Bool}(h:EG G i j t):i < G.length:=by
 unfold EG nZ at h
 by_cases hi:i < G.length
 ·exact hi
 ·rw [aTq (by omega)]at h;cases h
theorem aUe {G:Adj}(h:mV (EG G)): ∃L w t,CW (EG G) L w t/\w 0 < G.length/\L < G.length+1:=by
 obtain⟨L,w,t,a,_,hi⟩:=h.least
 have b:=aYh (m:=List.range G.length) hi λi hi=>List.mem_range.2 (aUn (a.edge i hi))
 obtain⟨q,hq,_⟩:=a.strict
 exact⟨L,w,t,a,aUn (a.edge 0 (by omega)),by simpa using Nat.lt_succ_of_le b⟩
abbrev Str:=List UInt8
abbrev Stp:=Str×Str×Bool
abbrev Pth:=List Str×Bool
def ET (T:List Stp) (a b:Str) (t:Bool):Prop:=(a,b,t)∈T
def kL (p:Pth):Str:=(p.1[p.1.length - 1]?).getD []
def uK (x y:Pth):Bool:=decide (y.2=x.2) && decide ((y.1[x.1.length - 1]?).getD []=kL x)
def aAs (f:Nat->Bool):Nat->Option Nat
 | 0=>none
 |n+1=>if f n then some n else aAs f n
def wW (lt:Str->Str->Bool):List Str->List Str->Bool
 |a::r,b::s=>if a≠b then lt a b else wW lt r s
 |_,_=>false
def aOu (lt:Str->Str->Bool) (out:List Pth) (x:Pth):List Pth:=
 match aAs (λn=>match out[n]? with|some y=>uK x y|none=>false) out.length with
 |none=>out++[x]
 |some i=>if wW lt x.1 ((out[i]?).getD ([],false)).1 then out.set i x else out
def yB (lt:Str->Str->Bool) (p:Pth) (out:List Pth) (k:Stp):List Pth:=
 if k.1≠kL p\/k.2.1∈p.1 then out else aOu lt out (p.1++[k.2.1],p.2 || k.2.2)
def kJ (lt:Str->Str->Bool) (T:List Stp) (ps:List Pth):List Pth:=ps.foldl (λout p=>T.foldl (yB lt p) out) []
def uU (lt:Str->Str->Bool) (T:List Stp) (s:Str):Nat->List Pth
 | 0=>[([s],false)]
 |n+1=>kJ lt T (uU lt T s n)
def jC (T:List Stp) (p:Pth):Bool:=T.any λk=>decide (k.1=kL p) && (decide (k.2.1=(p.1[0]?).getD []) && (p.2 || k.2.2))
structure PathOk (E:Str->Str->Bool->Prop) (s:Str) (n:Nat) (p:Pth):Prop where
 ex: ∃(w:Nat->Str) (t:Nat->Bool),p.1=(List.range (n+1)).map w/\w 0=s/\(∀i,i < n->E (w i) (w (i+1)) (t i))/\p.2=(List.range n).any t
theorem PathOk.len {E:Str->Str->Bool->Prop}{s:Str}{n:Nat}{p:Pth}(h:PathOk E s n p):p.1.length=n+1:=by
 obtain⟨w,t,a,_⟩:=h.ex
 rw [a];simp
theorem rU {f:Nat->Bool}: ∀{n i:Nat},aAs f n=some i->i < n/\f i=true
 | 0,i,h=>by cases h
 |n+1,i,h=>by
  rw [aAs]at h
  split at h
  ·cases h;exact⟨by omega,by assumption⟩
  ·have:=rU h;exact⟨by omega,this.2⟩
theorem aDo {f:Nat->Bool}: ∀{n:Nat},aAs f n=none-> ∀i,i < n->f i=false
 | 0,_,i,h=>by omega
 |n+1,h,i,hi=>by
  rw [aAs]at h
  split at h
  ·cases h
  ·rename_i a
   by_cases e:i=n
   ·subst e;simpa using a
   ·exact aDo h i (by omega)
theorem aMa {lt:Str->Str->Bool}{out:List Pth}{x y:Pth}(h:y∈aOu lt out x):y∈out\/y=x:=by
 unfold aOu at h
 split at h
 ·simpa using h
 ·split at h
  ·exact(List.mem_or_eq_of_mem_set h)
  ·exact .inl h
def key (n:Nat) (p:Pth):Str×Bool:=((p.1[n]?).getD [],p.2)
theorem aWc {lt:Str->Str->Bool}{out:List Pth}{x:Pth}{n:Nat}(hx:x.1.length=n+1):
  (∃y∈aOu lt out x,key n y=key n x)/\ ∀z∈out,∃y∈aOu lt out x,key n y=key n z:=by
 unfold aOu
 split
 ·exact⟨⟨x,by simp,rfl⟩,λz hz=>⟨z,List.mem_append_left _ hz,rfl⟩⟩
 ·rename_i i hi
  obtain⟨hl,a⟩:=rU hi
  rw [List.getElem?_eq_getElem hl]at a |-
  simp only [Option.getD_some]
  have c:key n out[i]=key n x:=by
   unfold uK at a
   rw [Bool.and_eq_true]at a
   have d:=of_decide_eq_true a.1
   have b:=of_decide_eq_true a.2
   unfold kL at b
   rw [hx,Nat.add_sub_cancel]at b
   unfold key
   rw [d,b]
  split
  ·refine⟨⟨x, ?_,rfl⟩,λz hz=> ?_⟩
   ·exact List.mem_set hl x
   ·obtain⟨j,f,rfl⟩:=List.getElem_of_mem hz
    by_cases e:i=j
    ·subst e
     exact⟨x,List.mem_set hl x,c.symm⟩
    ·refine⟨out[j], ?_,rfl⟩
     have:(out.set i x)[j]? =some out[j]:=by rw [List.getElem?_set_ne e,List.getElem?_eq_getElem f]
     exact List.mem_of_getElem? this
  ·exact⟨⟨out[i],List.getElem_mem hl,c⟩,λz hz=>⟨z,hz,rfl⟩⟩
theorem lQ {w:Nat->Str}{n:Nat}{b:Bool}:kL ((List.range (n+1)).map w,b)=w n:=by
 unfold kL
 simp
theorem PathOk.ext {T:List Stp}{s:Str}{n:Nat}{p:Pth}(h:PathOk (ET T) s n p) {k:Stp}(hk:k∈T) (h1:k.1=kL p):PathOk (ET T) s (n+1) (p.1++[k.2.1],p.2 || k.2.2):=by
 obtain⟨w,t,e1,e2,b,c⟩:=h.ex
 have hl:kL p=w n:=by
  have:p=((List.range (n+1)).map w,p.2):=by rw [<-e1]
  rw [this];exact lQ
 refine⟨λi=>if i<=n then w i else k.2.1,λi=>if i < n then t i else k.2.2, ?_, ?_,λi hi=> ?_, ?_⟩
 ·show p.1++[k.2.1]=_
  rw [List.range_succ,List.map_append,e1]
  simp only [List.map_cons,List.map_nil]
  rw [if_neg (by omega)]
  congr 1
  refine List.map_congr_left λi hi=> ?_
  rw [if_pos (by have:=List.mem_range.1 hi;omega)]
 ·show (if 0<=n then w 0 else k.2.1)=s
  rw [if_pos (by omega),e2]
 ·show ET T (if i<=n then w i else k.2.1) (if i+1<=n then w (i+1)else k.2.1) (if i < n then t i else k.2.2)
  by_cases a:i < n
  ·rw [if_pos (by omega),if_pos (by omega),if_pos a];exact b i a
  ·have:i=n:=by omega
   subst this
   rw [if_pos (Nat.le_refl _),if_neg (by omega),if_neg a,<-hl,<-h1]
   exact hk
 ·show (p.2 || k.2.2)=_
  rw [List.range_succ,List.any_append,c]
  simp only [List.any_cons,List.any_nil,Bool.or_false,Nat.lt_irrefl,if_false]
  congr 1
  have: ∀i∈List.range n,(if i < n then t i else k.2.2)=t i:= λi hi=>if_pos (List.mem_range.1 hi)
  rw [Bool.eq_iff_iff,List.any_eq_true,List.any_eq_true]
  constructor
  ·rintro⟨i,hi,h⟩;exact⟨i,hi,by rw [this i hi];exact h⟩
  ·rintro⟨i,hi,h⟩;exact⟨i,hi,by rw [<-this i hi];exact h⟩
theorem aG0 {lt:Str->Str->Bool}{T:List Stp}{s:Str}{n:Nat}{p:Pth}(hp:PathOk (ET T) s n p): ∀(ks:List Stp) (out:List Pth),(∀k∈ks,k∈T)->(∀y∈out,PathOk (ET T) s (n+1) y)->
  (∀y∈ks.foldl (yB lt p) out,PathOk (ET T) s (n+1) y)/\(∀z∈out,∃y∈ks.foldl (yB lt p) out,key (n+1) y=key (n+1) z)/\
  (∀k∈ks,k.1=kL p->k.2.1∉p.1-> ∃y∈ks.foldl (yB lt p) out,key (n+1) y=(k.2.1,p.2 || k.2.2))
 | [],out,_,ho=>⟨ho,λz hz=>⟨z,hz,rfl⟩,λk x=>by cases x⟩
 |k::ks,out,hks,ho=>by
  have o:=hks k (List.mem_cons_self ..)
  rw [List.foldl_cons]
  by_cases f:k.1≠kL p\/k.2.1∈p.1
  ·have e:yB lt p out k=out:=if_pos f
   rw [e]
   obtain⟨a,b,c⟩:=aG0 hp ks out (λq d=>hks q (List.mem_cons_of_mem _ d)) ho
   refine⟨a,b,λq d m l=> ?_⟩
   rcases List.mem_cons.1 d with rfl|d
   ·rcases f with f|f
    ·exact absurd m f
    ·exact absurd f l
   ·exact c q d m l
  ·have e:yB lt p out k=aOu lt out (p.1++[k.2.1],p.2 || k.2.2):=if_neg f
   have m:k.1=kL p:=Decidable.byContradiction λh=>f (.inl h)
   have hx:=hp.ext o m
   have v:=hx.len
   obtain⟨A,w⟩:=aWc (lt:=lt) (out:=out) v
   rw [e]
   obtain ⟨a, b, c⟩ := aG0 (lt := lt) hp ks (aOu lt out (p.1 ++ [k.2.1], p.2 || k.2.2)) (λq d => hks q (List.mem_cons_of_mem _ d)) (λy i => by
    rcases aMa i with i|rfl
    ·exact ho y i
    ·exact hx)
   have j:key (n+1) (p.1++[k.2.1],p.2 || k.2.2)=(k.2.1,p.2 || k.2.2):=by
    unfold key
    have r:=hp.len
    show ((p.1++[k.2.1])[n+1]?.getD [],_)=_
    rw [List.getElem?_append_right (by omega),r]
    simp
   refine⟨a,λz hz=> ?_,λq d t l=> ?_⟩
   ·obtain⟨y,i,e1⟩:=w z hz
    obtain⟨u,g,e2⟩:=b y i
    exact⟨u,g,by rw [e2,e1]⟩
   ·rcases List.mem_cons.1 d with rfl|d
    ·obtain⟨y,i,e1⟩:=A
     obtain⟨u,g,e2⟩:=b y i
     exact⟨u,g,by rw [e2,e1,j]⟩
    ·exact c q d t l
theorem aG1 {lt:Str->Str->Bool}{T:List Stp}{s:Str}{n:Nat}: ∀(ps out:List Pth),(∀p∈ps,PathOk (ET T) s n p)->(∀y∈out,PathOk (ET T) s (n+1) y)->
  (∀y∈ps.foldl (λout p=>T.foldl (yB lt p) out) out,PathOk (ET T) s (n+1) y)/\(∀z∈out,∃y∈ps.foldl (λout p=>T.foldl (yB lt p) out) out,key (n+1) y=key (n+1) z)/\
  (∀p∈ps,∀k∈T,k.1=kL p->k.2.1∉p.1-> ∃y∈ps.foldl (λout p=>T.foldl (yB lt p) out) out,key (n+1) y=(k.2.1,p.2 || k.2.2))
 | [],out,_,ho=>⟨ho,λz hz=>⟨z,hz,rfl⟩,λk f=>by cases f⟩
 |p::ps,out,hps,ho=>by
  rw [List.foldl_cons]
  obtain⟨a,b,c⟩:=aG0 (lt:=lt) (hps p (List.mem_cons_self ..)) T out (λ_ h=>h) ho
  obtain⟨a',j,o⟩:=aG1 (lt:=lt) ps _ (λq e=>hps q (List.mem_cons_of_mem _ e)) a
  refine⟨a',λz hz=> ?_,λq e k f m l=> ?_⟩
  ·obtain⟨y,g,e1⟩:=b z hz
   obtain⟨i,d,e2⟩:=j y g
   exact⟨i,d,by rw [e2,e1]⟩
  ·rcases List.mem_cons.1 e with rfl|e
   ·obtain⟨y,g,e1⟩:=c k f m l
    obtain⟨i,d,e2⟩:=j y g
    exact⟨i,d,by rw [e2,e1]⟩
   ·exact o q e k f m l
theorem kE {lt:Str->Str->Bool}{T:List Stp}{s:Str}: ∀n,∀p∈uU lt T s n,PathOk (ET T) s n p
 | 0,p,hp=>by
  simp only [uU,List.mem_singleton]at hp
  subst hp
  exact⟨λ_=>s,λ_=>false,rfl,rfl,by omega,rfl⟩
 |n+1,p,hp=>(aG1 (lt:=lt) (uU lt T s n) [] (kE n) (by simp)).1 p hp
theorem xU {T:List Stp}{s:Str}{n:Nat}{p:Pth}(h:PathOk (ET T) s n p) (hc:jC T p=true):mV (ET T):=by
 obtain⟨w,t,e1,e2,g,f⟩:=h.ex
 have hl:kL p=w n:=by
  have:p=((List.range (n+1)).map w,p.2):=by rw [<-e1]
  rw [this];exact lQ
 have e:(p.1[0]?).getD []=s:=by rw [e1];simp [e2]
 unfold jC at hc
 obtain⟨k,j,hx⟩:=List.any_eq_true.1 hc
 simp only [Bool.and_eq_true,decide_eq_true_eq,Bool.or_eq_true]at hx
 obtain⟨d,c,b⟩:=hx
 rw [hl]at d
 rw [e]at c
 refine⟨n+1,λi=>if i<=n then w i else s,λi=>if i < n then t i else k.2.2,λi hi=> ?_, ?_, ?_⟩
 ·show ET T (if i<=n then w i else s) (if i+1<=n then w (i+1)else s) (if i < n then t i else k.2.2)
  by_cases a:i < n
  ·rw [if_pos (by omega),if_pos (by omega),if_pos a];exact g i a
  ·have:i=n:=by omega
   subst this
   rw [if_pos (Nat.le_refl _),if_neg (by omega),if_neg a,<-d,<-c]
   exact j
 ·show (if n+1<=n then w (n+1)else s)=if 0<=n then w 0 else s
  rw [if_neg (by omega),if_pos (by omega),e2]
 ·rcases b with b|b
  ·rw [f]at b
   obtain⟨i,hi,l⟩:=List.any_eq_true.1 b
   have hi:=List.mem_range.1 hi
   exact⟨i,by omega,by show (if i < n then t i else k.2.2)=true;rw [if_pos hi,l]⟩
  ·exact⟨n,by omega,by show (if n < n then t n else k.2.2)=true;rw [if_neg (by omega),b]⟩
theorem aAf {lt:Str->Str->Bool}{T:List Stp}{L:Nat}{w:Nat->Str}{t:Nat->Bool}(h:CW (ET T) L w t) (hmin: ∀L' w' x,L' < L->¬ CW (ET T) L' w' x):
  ∀n,n < L-> ∃p∈uU lt T (w 0) n,key n p=(w n,(List.range n).any t)
 | 0,_=>⟨_,List.mem_singleton.2 rfl,rfl⟩
 |n+1,hn=>by
  obtain⟨p,hp,A⟩:=aAf h hmin n (by omega)
  have d:=kE (lt:=lt) n p hp
  have g:=d.len
  have hl:kL p=w n:=by
   unfold kL
   rw [g]
   exact congrArg Prod.fst A
  have f:p.2=(List.range n).any t:=congrArg Prod.snd A
  obtain⟨u,v,e1,e2,F,G⟩:=d.ex
  have s:u n=w n:=by
   rw [<-hl]
   have:p=((List.range (n+1)).map u,p.2):=by rw [<-e1]
   rw [this];exact lQ.symm
  have c:w (n+1)∉p.1:=by
   intro b
   rw [e1]at b
   obtain⟨m,b,r⟩:=List.mem_map.1 b
   have b:=List.mem_range.1 b
   -- the path, followed by the rest of the circle
   have B:CW (ET T) L (λi=>if i<=n then u i else w i) (λi=>if i < n then v i else t i):=by
    refine⟨λi hi=> ?_, ?_, ?_⟩
    ·show ET T (if i<=n then u i else w i) (if i+1<=n then u (i+1)else w (i+1)) (if i < n then v i else t i)
     by_cases a:i < n
     ·rw [if_pos (by omega),if_pos (by omega),if_pos a];exact F i a
     ·rw [if_neg (by omega:¬ i+1<=n),if_neg a]
      by_cases H:i=n
      ·subst H
       rw [if_pos (Nat.le_refl _),s]
       exact h.edge i hi
      ·rw [if_neg (by omega)]
       exact h.edge i hi
    ·show (if L<=n then u L else w L)=(if 0<=n then u 0 else w 0)
     rw [if_neg (by omega),if_pos (by omega),e2]
     exact h.closed
    ·obtain⟨q,E,z⟩:=h.strict
     by_cases e:q < n
     ·have:(List.range n).any t=true:=List.any_eq_true.2 ⟨q,List.mem_range.2 e,z⟩
      rw [<-f,G]at this
      obtain⟨i,hi,D⟩:=List.any_eq_true.1 this
      have hi:=List.mem_range.1 hi
      exact⟨i,by omega,by show (if i < n then v i else t i)=true;rw [if_pos hi,D]⟩
     ·exact⟨q,E,by show (if q < n then v q else t q)=true;rw [if_neg e,z]⟩
   obtain ⟨L', w', x, k, o⟩ := B.cut (i := m) (j := n + 1) b hn (by
    show (if m<=n then u m else w m)=(if n+1<=n then u (n+1)else w (n+1))
    rw [if_pos (by omega),if_neg (by omega),r])
   exact hmin L' w' x k o
  obtain⟨y,C,l⟩:=(aG1 (lt:=lt) (uU lt T (w 0) n) [] (kE n) (by simp)).2.2 p hp (w n,w (n+1),t n) (h.edge n (by omega)) hl.symm c
  refine⟨y,C, ?_⟩
  rw [l]
  show (w (n+1),p.2 || t n)=_
  rw [List.range_succ,List.any_append,f]
  simp
theorem aJ0 {lt:Str->Str->Bool}{T:List Stp}{L:Nat}{w:Nat->Str}{t:Nat->Bool}(h:CW (ET T) L w t) (hmin: ∀L' w' t',L' < L->¬ CW (ET T) L' w' t'):
  ∃p∈uU lt T (w 0) (L - 1),jC T p=true:=by
 obtain⟨q,hq,e⟩:=h.strict
 obtain⟨p,hp,f⟩:=aAf (lt:=lt) h hmin (L - 1) (by omega)
 have a:=kE (lt:=lt) _ p hp
 have b:=a.len
 have hl:kL p=w (L - 1):=by
  unfold kL
  rw [b]
  exact congrArg Prod.fst f
 have c:p.2=(List.range (L - 1)).any t:=congrArg Prod.snd f
 have g:(p.1[0]?).getD []=w 0:=by
  obtain⟨u,v,e1,e2,e3,e4⟩:=a.ex
  rw [e1];simp [e2]
 refine⟨p,hp,List.any_eq_true.2 ⟨(w (L - 1),w L,t (L - 1)), ?_, ?_⟩⟩
 ·have:=h.edge (L - 1) (by omega)
  rwa [show L - 1+1=L by omega]at this
 ·simp only [Bool.and_eq_true,decide_eq_true_eq,Bool.or_eq_true]
  refine⟨hl.symm,by rw [g,h.closed], ?_⟩
  by_cases d:q < L - 1
  ·exact .inl (by rw [c];exact List.any_eq_true.2 ⟨q,List.mem_range.2 d,e⟩)
  ·exact .inr (by rw [show L - 1=q by omega];exact e)
theorem aZi {lt:Str->Str->Bool}{T:List Stp}{R:List Str}(hR: ∀k∈T,k.1∈R):mV (ET T)↔ ∃n,n < R.length/\ ∃s∈R,∃p∈uU lt T s n,jC T p=true:=by
 constructor
 ·intro c
  obtain⟨L,w,t,h,a,hi⟩:=c.least
  have d: ∀i,i < L->w i∈R:= λi hi=>hR _ (h.edge i hi)
  have h1:=aYh hi d
  obtain⟨q,hq,_⟩:=h.strict
  obtain⟨p,hp,b⟩:=aJ0 (lt:=lt) h a
  exact⟨L - 1,by omega,w 0,d 0 (by omega),p,hp,b⟩
 ·rintro⟨n,_,s,_,p,hp,c⟩
  exact xU (kE n p hp) c
theorem aK.mid {C:Cfg}{c:Code}{fr:Fr}{hp:Hp}{K:Ex->Fr->Hp->Prop}(FR:Fr) (HP:Hp) (h:aK C c fr hp (λe b hp'=>e= .normal/\Sub b hp' FR HP)) (hk:K .normal FR HP):aK C c fr hp K:=
 λE a w f g d=>wpIn_mono (h E a w f g d) λ_ _ _ ⟨x,b,hp',E',h0,h1,h2,h3⟩=>by
  cases x with
  |pan=>exact⟨.pan,b,hp',E',h0,h1,h2,h3⟩
  |normal=>obtain⟨_,i⟩:=h2;exact⟨.normal,FR,HP,E',h0,h1,hk,h3.sub i⟩
  |_=>obtain⟨e,_⟩:=h2;cases e
theorem aK.soft {C:Cfg}{c:Code}{fr:Fr}{hp:Hp}{K:Ex->Fr->Hp->Prop}(i:Nat) {t:TypeId}{cs:List SV}{xs:List D}(ho:aP hp i=some (.cells t cs)) (hx:bAt cs=some xs)
  (h:aK C c fr (eY hp i (.cells t (xs.map .d))) K):aK C c fr hp K:=by
 intro E a w b k f
 obtain⟨p,o,ρ,z,u⟩:=f
 obtain⟨l,n⟩:=aL8 hx
 have m := z.recell ho (cs' := xs.map .d) (by simp [l]) (λj s' v e r => by
  rw [List.getElem?_map,Option.map_eq_some_iff]at e
  obtain⟨x,g,rfl⟩:=e
  obtain⟨s,q,y⟩:=n j x g
  exact .d _ _ (aNm y (r s q)))
 exact h E a w b k ⟨p,o,ρ,m,u⟩
section
variable {P:Program}
def wpS (P:Program) (ops:Array Oper) (Q:Act->World->Prop):Nat->(World->Prop)->Array Bool->Act->World->Prop
 | 0,_,listed,a,w=>Region.ready .any ops listed=[]/\Q a w
 |fuel+1,Cl,listed,a,w=>
  (Region.ready .any ops listed=[]->Q a w)/\
  ∀i∈Region.ready .any ops listed,
   match ops[i]? with
   |none=>wpS P ops Q fuel Cl (listed.setIfInBounds i true) a w
   |some o=>
    if Region.wanted o (yielded ops a.tmps)then
     o.wp P a w (λa' w'=>Cl w'/\wpS P ops Q fuel Cl (listed.setIfInBounds i true) a' w') noX
    else wpS P ops Q fuel Cl (listed.setIfInBounds i true) (a.put o.dst undef) w
theorem aLi {ops:Array Oper}{Q Q':Act->World->Prop}(hQ: ∀a w,Q a w->Q' a w): ∀(fuel:Nat) (Cl Cl':World->Prop) (b:Array Bool) (a:Act) (w:World),(∀w,Cl' w->Cl w)->wpS P ops Q fuel Cl' b a w->wpS P ops Q' fuel Cl b a w:=by
 intro fuel
 induction fuel with
 |zero=>intro Cl Cl' b a w _ h;exact⟨h.1,hQ _ _ h.2⟩
 |succ fuel ih=>
  intro Cl Cl' b a w c h
  refine⟨λg=>hQ _ _ (h.1 g),λi hi=> ?_⟩
  have:=h.2 i hi
  split
  ·rename_i d;simp only [d]at this;exact ih _ _ _ _ _ c this
  ·rename_i o d
   simp only [d]at this
   split
   ·rename_i e
    simp only [e,if_true]at this
    exact zK (λa' w' f=>⟨c _ f.1,ih _ _ _ _ _ c f.2⟩) this
   ·rename_i e;simp only [e]at this;exact ih _ _ _ _ _ c this
theorem aNu {ops:Array Oper}{Q:Exit->Act->World->Prop}: ∀(fuel:Nat) (Cl:World->Prop) (b:Array Bool) (a:Act) (w:World),wpS P ops (Q .normal) fuel Cl b a w->wpAny P .any ops Q fuel b a w:=by
 intro fuel
 induction fuel with
 |zero=>intro Cl b a w h;exact h
 |succ fuel ih=>
  intro Cl b a w h
  refine⟨h.1,λi hi=> ?_⟩
  have:=h.2 i hi
  unfold wpOp
  split
  ·rename_i c;simp only [c]at this;exact ih _ _ _ _ this
  ·rename_i o c
   simp only [c]at this
   split
   ·rename_i d
    simp only [d,if_true]at this
    left
    exact zK (λa' w' e=>ih _ _ _ _ e.2) this
   ·rename_i d;simp only [d]at this;exact ih _ _ _ _ this
def YS (P:Program) (ops:Array Oper) (Cl:World->Prop) (o:Oper) (v:Value) (a:Act):Prop:=
 (Region.wanted o (yielded ops a.tmps)=true/\ ∀w,Cl w->(execOp a.eval o).run P w= .ok (.value v) w)\/(Region.wanted o (yielded ops a.tmps)=false/\v=undef)
theorem YS.of_same {ops:Array Oper}{Cl:World->Prop}{o:Oper}{v:Value}{a a':Act}(hy:YS P ops Cl o v a) (he:execOp a'.eval o=execOp a.eval o)
  (hw:Region.wanted o (yielded ops a'.tmps)=Region.wanted o (yielded ops a.tmps)):YS P ops Cl o v a':=by
 unfold YS at *
 rw [he,hw]
 exact hy
theorem aGl {ops:Array Oper}{Q:Act->World->Prop}{i:Nat}{oi:Oper}{v:Value}(hi:ops[i]? =some oi) (hsel:Region.noSelect ops=true):
  ∀(fuel:Nat) (Cl:World->Prop) (c:Array Bool) (a:Act) (w:World),Cl w->
   (∀j f,ops[j]? =some f->j≠i->c.getD j true=false->(∀e∈f.after,Region.binds .any e=true->e.on≠i)->oi.apart ops f=true)->
   i∈Region.ready .any ops c->YS P ops Cl oi v a->
   wpS P ops Q fuel Cl (c.setIfInBounds i true) (a.put oi.dst v) w->wpS P ops Q (fuel+1) Cl c a w:=by
 have E: ∀(fuel:Nat) (Cl:World->Prop) (c:Array Bool) (a:Act) (w:World),Cl w->YS P ops Cl oi v a->wpS P ops Q fuel Cl (c.setIfInBounds i true) (a.put oi.dst v) w->
   (match ops[i]? with
   |none=>wpS P ops Q fuel Cl (c.setIfInBounds i true) a w
   |some o=>if Region.wanted o (yielded ops a.tmps)then o.wp P a w (λa' w'=>Cl w'/\wpS P ops Q fuel Cl (c.setIfInBounds i true) a' w') noX
    else wpS P ops Q fuel Cl (c.setIfInBounds i true) (a.put o.dst undef) w):=by
  intro fuel Cl c a w z t H
  simp only [hi]
  rcases t with⟨C,G⟩|⟨C,rfl⟩
  ·simp only [C,if_true]
   exact bW (G w z) ⟨z,H⟩
  ·simp only [C,Bool.false_eq_true,if_false];exact H
 intro fuel
 induction fuel with
 |zero=>
  intro Cl c a w z _ B t H
  refine⟨λh=>(by rw [h]at B;cases B),λj O=> ?_⟩
  by_cases d:j=i
  ·subst d;exact E 0 Cl c a w z t H
  ·have:=ready_mono O d
   rw [H.1]at this
   cases this
 |succ fuel ih=>
  intro Cl c a w z p B t H
  refine⟨λh=>(by rw [h]at B;cases B),λj O=> ?_⟩
  by_cases d:j=i
  ·subst d;exact E _ Cl c a w z t H
  ·have l:=H.2 j (ready_mono O d)
   obtain⟨y,f,A,I⟩:=mem_ready.1 O
   have F: ∀e∈f.after,Region.binds .any e=true->e.on≠i:= λe D hb R=>by
    have l:=I e D hb
    have Y:=(mem_ready.1 B).1
    rw [R]at l
    rcases Nat.lt_or_ge i c.size with U|U
    ·simp [U]at Y l;rw [Y]at l;cases l
    ·simp [Array.getElem?_eq_none U]at l
   obtain⟨W,Z,V⟩:=Oper.apart_spec (p j f A d y F)
   have si:= λcs b=>Region.noSelect_spec hsel i oi cs b hi
   have sj:= λcs b=>Region.noSelect_spec hsel j f cs b A
   have g:YS P ops Cl oi v a-> ∀u,YS P ops Cl oi v (a.put f.dst u):= λt u=>t.of_same (execOp_put oi si a f.dst u V) (wanted_put oi a f.dst u V)
   have m: ∀k ok,ops[k]? =some ok->k≠i->(c.setIfInBounds j true).getD k true=false->
     (∀e∈ok.after,Region.binds .any e=true->e.on≠i)->oi.apart ops ok=true:= λk ok N T L S=>by
    refine p k ok N T ?_ S
    by_cases J:j=k
    ·subst J;exact y
    ·rw [getD_set_ne true J]at L;exact L
   have M:=ready_mono B (Ne.symm d)
   simp only [A]at l |-
   rw [wanted_put f a oi.dst v W]at l
   split
   ·rename_i C
    simp only [C,if_true]at l
    have q:f.wp P a w (λa' w'=>(Cl w'/\wpS P ops Q fuel Cl ((c.setIfInBounds i true).setIfInBounds j true) (a'.put oi.dst v) w')) noX:=by
     unfold Oper.wp at l |-
     rw [execOp_put f sj a oi.dst v W]at l
     exact aLm (K:= λa' w'=>Cl w'/\wpS P ops Q fuel Cl ((c.setIfInBounds i true).setIfInBounds j true) a' w') Z l
    have h3:f.wp P a w (λa' w'=>YS P ops Cl oi v a'/\(Cl w'/\wpS P ops Q fuel Cl ((c.setIfInBounds i true).setIfInBounds j true) (a'.put oi.dst v) w')) noX:=by
     have s: ∀u,YS P ops Cl oi v (a.put f.dst u):= λu=>g t u
     unfold Oper.wp at q |-
     generalize (execOp a.eval f).run P w=r at q
     cases r with
     |ok n w'=>
      cases n<;>simp only [Oper.upon]at q |-
      all_goals first
       |exact⟨s _,q⟩
       |exact q.elim
       |exact Calls.mono q (λe w'' D=>by cases e<;>first|exact⟨s _,D⟩|exact D)
       |exact Rows.mono q (λ_ _ D=>⟨s _,D⟩)
       |exact⟨(g t undef).of_same (by cases f.dst<;>rfl) (by cases f.dst<;>rfl),q⟩
       |exact q
     |halt x w'=>cases x<;>simp only [Oper.upon]at q |-<;>exact q
    refine zK (λa' w' ⟨hyk,N⟩=> ?_) h3
    refine⟨N.1,ih Cl (c.setIfInBounds j true) a' w' N.1 m M hyk ?_⟩
    rw [Array.setIfInBounds_comm _ _ d];exact N.2
   ·rename_i C
    simp only [C]at l
    refine ih Cl (c.setIfInBounds j true) (a.put f.dst undef) w z m M (g t undef) ?_
    rw [Array.setIfInBounds_comm _ _ d,<-Act.put_comm a v _ Z]
    simpa using l
def aQf (ops:Array Oper):OT->Array Bool->Bool->Bool
 | .done,listed,inn=> !inn && (Region.ready .any ops listed).isEmpty
 | .stop,_,inn=>inn
 | .first i t, listed, inn => !inn && (match ops[i]? with
   |some o=>decide (kd o.op<=1) && (Region.ready .any ops listed).contains i && Region.free .any ops listed i && aQf ops t (listed.setIfInBounds i true) false
   |none=>false)
 | .alt i t r,listed,inn=>(inn || (!(Region.ready .any ops listed).isEmpty && (Region.ready .any ops listed).all λj=>(i::r.heads).contains j)) && (ops[i]?).isSome && aQf ops t (listed.setIfInBounds i true) false && aQf ops r listed true
def lM (C:Cfg) (all:List Oper) (K:Fr->Hp->Prop):OT->Fr->Hp->Prop
 | .done,fr,hp=>uT C.keep fr λfr'=>K fr' hp
 | .stop,_,_=>True
 | .first i t,fr,hp=>aPy C all i fr [] λfr' _=>lM C all K t fr' hp
 | .alt i t r,fr,hp=>aQ6 C all i fr hp (λfr' hp'=>lM C all K t fr' hp')/\lM C all K r fr hp
def bF3 (C:Cfg) (all:List Oper) (R:Act->World->Prop) (fuel:Nat) (Cl:World->Prop) (listed:Array Bool) (a:Act) (w:World) (i:Nat):Prop:=
 match all.toArray[i]? with
 |none=>wpS C.P all.toArray R fuel Cl (listed.setIfInBounds i true) a w
 |some o=>
  if Region.wanted o (yielded all.toArray a.tmps)then
   o.wp C.P a w (λa' w'=>Cl w'/\wpS C.P all.toArray R fuel Cl (listed.setIfInBounds i true) a' w') noX
  else wpS C.P all.toArray R fuel Cl (listed.setIfInBounds i true) (a.put o.dst undef) w
theorem aJm {C:Cfg}(hti:fH C.P C.ti) {all:List Oper}{K:Fr->Hp->Prop}(hsel:Region.noSelect all.toArray=true):
  ∀(T:OT) (fuel:Nat) (c:Array Bool) (fr:Fr) (hp:Hp) (ρ:Env) (a:Act) (w:World) (E:Entry),E.pin=C.pin->E.w=w->E.S=ρ.S->lM C all K T fr hp->Mem E ρ hp w->a.tmps.size=C.nt->a.defers=(E.D.take E.k).map xP++E.pin.pre->dV ρ w fr a.tmps->
  (aQf all.toArray T c false=true->T.depth<=fuel->wpS C.P all.toArray (λa w=> ∃fr hp,K fr hp/\Sat E C.nt ⟨fr,hp⟩ a w) fuel (cF ρ.S w) c a w)/\
  (∀y,aQf all.toArray T c y=true->T.depth<=fuel+1-> ∀i∈T.heads,bF3 C all (λa w=> ∃fr hp,K fr hp/\Sat E C.nt ⟨fr,hp⟩ a w) fuel (cF ρ.S w) c a w i):=by
 intro T
 induction T with
 |done=>
  intro fuel c fr hp ρ a w E e m l h A z B u
  refine⟨λf _=> ?_,λ_ _ _ i hi=>by simp [OT.heads]at hi⟩
  simp only [aQf,Bool.not_false,Bool.true_and,List.isEmpty_iff]at f
  simp only [lM,oU]at h
  have hq: ∃fr hp,K fr hp/\Sat E C.nt ⟨fr,hp⟩ a w:=⟨_,hp,h,z,B,ρ,A,λt s a7=>u t s (mI _ _ t s a7)⟩
  cases fuel with
  |zero=>exact⟨f,hq⟩
  |succ n=>exact⟨λ_=>hq,λi hi=>by rw [f]at hi;cases hi⟩
 |stop=>
  intro fuel c fr hp ρ a w E e m l h A z B u
  exact⟨λf=>by simp [aQf]at f,λ_ _ _ i hi=>by simp [OT.heads]at hi⟩
 |first i t ih=>
  intro fuel c fr hp ρ a w E e m l h A z B u
  refine⟨λf F=> ?_,λ_ _ _ i hi=>by simp [OT.heads]at hi⟩
  simp only [lM,aPy]at h
  split at h
  ·rename_i o O
   have q:all.toArray[i]? =some o:=by simpa using O
   simp only [aQf,q,Bool.not_false,Bool.true_and,Bool.and_eq_true,decide_eq_true_eq,List.contains_iff_mem]at f
   obtain⟨⟨⟨hk,hr⟩,hf⟩,f⟩:=f
   simp only [OT.depth]at F
   obtain⟨fuel,rfl⟩: ∃n,fuel=n+1:=⟨fuel - 1,by omega⟩
   have b1:Mem E ρ [] w:=A.sub (λid o O=>by simp [aP]at O)
   obtain⟨a9,u,Y⟩:=gI h u
   rcases Y with⟨H,h⟩|⟨H,h⟩
   ·rcases bDr hti h with⟨_,I,_⟩|⟨a6,_⟩|⟨a6,_⟩
    ·obtain⟨v,s,Z,q2,q3⟩:=I E ρ a w b1 u
     obtain⟨p,G,J⟩:=gY q3 z u q2
     exact aGl q hsel fuel _ c a w (λ_ _ _=>rfl) (Region.free_spec q hf) hr (v:=v) (.inl ⟨H,λw' a4=>Z w' ⟨a4,λid x g hx=>by simp [aP]at hx⟩⟩)
      ((ih fuel _ p hp ρ _ w E e m l G A (by rw [cH];exact z) (by rw [put_defers];exact B) J).1 f (by omega))
    ·omega
    ·omega
   ·obtain⟨p,G,J⟩:=gY h z u (Rep.d _ undef (.lit undef))
    exact aGl q hsel fuel _ c a w (λ_ _ _=>rfl) (Region.free_spec q hf) hr (v:=undef) (.inr ⟨H,rfl⟩) ((ih fuel _ p hp ρ _ w E e m l G A (by rw [cH];exact z) (by rw [put_defers];exact B) J).1 f (by omega))
  ·exact h.elim
 |alt i t r iht ihr=>
  intro fuel c fr hp ρ a w E e m l h A z B u
  have key: ∀y,aQf all.toArray (.alt i t r) c y=true-> ∀n,(OT.alt i t r).depth<=n+1-> ∀j∈(OT.alt i t r).heads,bF3 C all (λa w=> ∃fr hp,K fr hp/\Sat E C.nt ⟨fr,hp⟩ a w) n (cF ρ.S w) c a w j:=by
   intro y f n F j L
   simp only [aQf,Bool.and_eq_true]at f
   obtain⟨⟨⟨_,hsome⟩,Q⟩,a1⟩:=f
   simp only [OT.depth]at F
   simp only [lM]at h
   simp only [OT.heads,List.mem_cons]at L
   rcases L with rfl|L
   ·have h:=h.1
    unfold aQ6 at h
    split at h
    ·rename_i o O
     have q:all.toArray[j]? =some o:=by simpa using O
     unfold bF3
     simp only [q]
     obtain⟨a9,u,Y⟩:=gI h u
     rcases Y with⟨H,h⟩|⟨H,h⟩
     ·rw [if_pos H]
      refine bFo hti h E ρ a w e A u _ noX λv w' U s hp' k1 V k3 k4=> ?_
      obtain⟨p,G,J⟩:=gY k1 z k3 k4
      have M:cF ρ.S w w':=by have:=V.kp;rwa [m,l]at this
      have a2: ∀b i,ρ.S b i->U.S b i:=by have:=V.sold;rwa [l]at this
      refine⟨M, ?_⟩
      have W:Mem { cN w' U hp' E.pin E.rd E.D with k:=E.k } U hp' w':=by
       have:=V.enter E.pin E.rd
       exact⟨this.os,this.tape,this.output,this.size,this.old,this.sold,this.snew,this.slt,this.kp,this.sat,this.inj,this.hb,this.mv,this.ro,this.md⟩
      have:=(iht n _ p hp' U _ w' { cN w' U hp' E.pin E.rd E.D with k:=E.k } e rfl rfl G W (by rw [cH];exact z) (by rw [put_defers];exact B) J).1 Q (by omega)
      refine aLi ?_ _ _ _ _ _ _ (λw2 a5=>M.trans a2 a5) this
      rintro a3 w3 ⟨b2,b0,Z,q2,q3,ρ3,q4,q5⟩
      exact⟨b2,b0,Z,q2,q3,ρ3,V.leave (pin:=E.pin) (rd:=E.rd) q4 ⟨rfl,rfl,rfl,rfl,rfl,λb hb=>hb⟩ (λid a8=>a8),q5⟩
     ·rw [if_neg (by rw [H];decide)]
      obtain⟨p,G,J⟩:=gY h z u (Rep.d _ undef (.lit undef))
      exact(iht n _ p hp ρ _ w E e m l G A (by rw [cH];exact z) (by rw [put_defers];exact B) J).1 Q (by omega)
    ·exact h.elim
   ·exact(ihr n c fr hp ρ a w E e m l h.2 A z B u).2 true a1 (by omega) j L
  refine⟨λf F=> ?_,λy f F=>key y f fuel F⟩
  have I:=F
  simp only [OT.depth]at I
  obtain⟨fuel,rfl⟩: ∃n,fuel=n+1:=⟨fuel - 1,by omega⟩
  have hc:=f
  simp only [aQf,Bool.false_or,Bool.and_eq_true,Bool.not_eq_true',List.all_eq_true,List.contains_iff_mem]at hc
  obtain⟨⟨⟨⟨R,N⟩,_⟩,_⟩,_⟩:=hc
  refine⟨λh0=> ?_,λj L=> ?_⟩
  ·rw [h0]at R;cases R
  ·exact key false f fuel F j (N j L)
theorem dN {C:Cfg}(hti:fH C.P C.ti) {id:Nat}{l:List Oper}{fr:Fr}{hp:Hp}{K:Ex->Fr->Hp->Prop}(T:OT) (hm:C.P.follows .mixedOrders=true)
  (hB:(decide (T.depth<=l.length) && Region.noSelect l.toArray && aQf l.toArray T (Array.replicate l.length false) false && nD l)=true) (h:lM C l (K .normal) T fr hp):aK C (.region id l.toArray true) fr hp K:=by
 intro E a w c hrd ⟨p,o,ρ,r,q⟩
 simp only [Bool.and_eq_true,decide_eq_true_eq]at hB
 obtain⟨⟨⟨m,j⟩,t⟩,g⟩:=hB
 refine gP hm g mS.noOut ?_
 obtain⟨i,n⟩:=r.grow_same (Grew.drew w)
 generalize hw1:w.drew=w1 at *
 have d:Mem { cN w1 ρ hp E.pin E.rd E.D with k:=E.k } ρ hp w1:=by
  have:=i.enter E.pin E.rd
  exact⟨this.os,this.tape,this.output,this.size,this.old,this.sold,this.snew,this.slt,this.kp,this.sat,this.inj,this.hb,this.mv,this.ro,this.md⟩
 have:=(aJm (C:=C) hti j T l.length (Array.replicate l.length false) fr hp ρ a w1 { cN w1 ρ hp E.pin E.rd E.D with k:=E.k } c rfl rfl h d p o (n fr _ q)).1 t m
 have s:=aNu (Q:=mS C E K) _ _ _ _ _ (aLi (Q':=mS C E K .normal) (λa w ⟨fr',hp',k1,q2,q3,ρ3,q4,q5⟩=>⟨.normal,fr',hp',E, .refl E,trivial,k1,q2,q3,ρ3,i.leave (pin:=E.pin) (rd:=E.rd) q4 ⟨rfl,rfl,rfl,rfl,rfl,λb hb=>hb⟩ (λid f=>f),q5⟩) _ _ _ _ _ _ (λ_ h=>h) this)
 have e:l.toArray.size=l.length:=by simp
 rw [e]
 subst hw1
 exact s
end
theorem Mem.froze {E:Entry}{ρ:Env}{hp hp':Hp}{w:World}(h:Mem E ρ hp w) {id e z cap:Nat}{rows:List (List D)}(ho:aP hp id=some (.mrow e z cap rows)) (hsub:lU hp' hp) (hno:aP hp' id=none):
  ∃S':Nat->Nat->Prop,(∀b i,ρ.S b i->S' b i)/\Mem E (ρ.withS S') hp' w/\RepD w S' (.sl z rows) (ρ.tv id):=by
 have f: ∀b,gB (ρ.tv id)=some b->ρ.at id (.mrow e z cap rows)=some b:= λb hb=>hb
 have a: ∀i o,aP hp' i=some o->aP hp i=some o:=jU _ _ hsub
 have d: ∀i o,aP hp' i=some o->i≠id:= λi o hi e=>by rw [e,hno]at hi;cases hi
 refine⟨λb i=>ρ.S b i\/(gB (ρ.tv id)=some b/\i < rows.length * z),λb i c=> .inl c, ?_, ?_⟩
 ·refine⟨h.os,h.tape,h.output,h.size,h.old,λb i c=> .inl (h.sold b i c), ?_, ?_,h.kp, ?_,λi o m o' g hi l=>h.inj i o m o' g (a i o hi) (a m o' l),λi o g hi=>h.hb i o g (a i o hi),λi hi=>Env.moved_trans (h.mv i hi) (ρ.moved_withS _ i), ?_,h.md⟩
  ·rintro b i (c|⟨hb,_⟩) r s
   ·exact h.snew b i c r s
   ·rcases h.hb id _ b ho (f b hb)with t|t
    ·omega
    ·exact absurd t s
  ·rintro b i (c|⟨hb,_⟩)
   ·exact h.slt b i c
   ·exact h.blk_lt ho (f b hb)
  ·intro i o hi
   refine(h.sat i o (a i o hi)).keep (λ_ _ _=>rfl) (λb i c=> .inl c) (λi _=>ρ.moved_withS _ i) ⟨rfl,rfl⟩ (λg _=>rfl) ?_
   rintro g p j (c|⟨hb,_⟩)
   ·exact c
   ·exact absurd (h.inj i o id _ g (a i o hi) ho p (f g hb)) (d i o hi)
  ·intro i B g hi q p m o' l
   exact h.ro i B g (a _ _ hi) q p m o' (a _ _ l)
 ·obtain⟨_,G⟩:=h.sat id _ ho
  rcases G with⟨rfl,_,A,e1⟩|⟨hc,g,cur,e1,H,F,C,q4,y,q7⟩
  ·rw [e1]
   exact RepD.mk_sl (b:=0) (off:=0) (by simp) (by simp) (λd=>absurd rfl d) ⟨by simp,by simp⟩ (by simp)
  ·have hb:gB (ρ.tv id)=some g:=by
    rw [e1];have:cap≠0:=by omega
    simp [gB,this]
   have key:RepD w (λb i=>ρ.S b i\/(gB (ρ.tv id)=some b/\i < rows.length * z)) (.sl z rows) (.slice (some ⟨g,0,none⟩) rows.length cap):=by
    refine RepD.mk_sl (b:=g) (off:=0) F C (λ_=>rfl) ?_ rfl
    refine y.view (λk v n=> ?_) (λk u=> ?_) (λx v hx=>hx.mono (λ_ _ _=>rfl) λb i c=> .inl c)
    ·rw [Nat.zero_add,cell_of_row w g k cur e (0,0) H]
     rw [List.getElem?_take]at n
     split at n
     ·simpa using n
     ·cases n
    ·rw [Nat.zero_add]
     right
     refine⟨hb, ?_⟩
     rw [y.len]at u;exact u
   rw [e1]at key |-
   exact key
theorem aF.froz {P:Program}{pin:Pin}{fr:Fr}{hp hp':Hp}{f:FuncId}{asv:List SV}{K:SV->Hp->Prop}(j id:Nat) {e z cap n:Nat}{rows:List (List D)}(ho:aP hp id=some (.mrow e z cap rows)) (hn:n=rows.length) (hj:asv[j]? =some (.mw id z n))
  (hsub:lU hp' hp) (hno:aP hp' id=none) (h:aF P pin fr hp' f (asv.set j (.d (.sl z rows))) K):aF P pin fr hp f asv K:=by
 intro E ρ w r g p u vs a
 obtain⟨S',o,t,q⟩:=p.froze ho hsub hno
 obtain⟨x,_⟩:=p.sat id _ ho
 refine h E _ w r g t (u.mono (λ_ _ _=>rfl) o λi _=>ρ.moved_withS S' i) vs ⟨by simpa using a.1, ?_⟩
 intro k s v b m
 by_cases e:j=k
 ·subst e
  have l:=(List.getElem?_eq_some_iff.1 hj).1
  rw [List.getElem?_set_self l]at b
  injection b with b
  subst b
  obtain⟨A,c,_,_,_,_,_,e2⟩:=(a.2 j _ v hj m).mw_inv
  have:=e2 (hn.trans x.symm)
  subst this
  exact .d _ _ q
 ·rw [List.getElem?_set_ne e]at b
  exact(a.2 k s v b m).mono (λ_ _ _=>rfl) o λi _=>ρ.moved_withS S' i
theorem aK.froz {C:Cfg}{c:Code}{fr:Fr}{hp hp':Hp}{K:Ex->Fr->Hp->Prop}(t id:Nat) {e z cap n:Nat}{rows:List (List D)}(ht:jB fr t=some (.mw id z n)) (ho:aP hp id=some (.mrow e z cap rows)) (hn:n=rows.length)
  (hsub:lU hp' hp) (hno:aP hp' id=none) (h:aK C c ((t, .d (.sl z rows))::fr) hp' K):aK C c fr hp K:=by
 intro E a w f l g
 obtain⟨x,u,ρ,p,o⟩:=g
 obtain⟨S',y,r,q⟩:=p.froze ho hsub hno
 obtain⟨B,_⟩:=p.sat id _ ho
 refine h E a w f l ⟨x,u,_,r, ?_⟩
 intro k s b
 simp only [jB]at b
 by_cases e:t=k
 ·rw [if_pos e]at b
  injection b with b
  subst b;subst e
  obtain⟨v,m,j⟩:=o t _ ht
  obtain⟨A,c,_,_,_,_,_,e2⟩:=j.mw_inv
  have:=e2 (hn.trans B.symm)
  subst this
  exact⟨_,m, .d _ _ q⟩
 ·rw [if_neg e]at b
  obtain⟨v,m,j⟩:=o k _ b
  exact⟨v,m,j.mono (λ_ _ _=>rfl) y λi _=>ρ.moved_withS S' i⟩
end
section
open Go.RowKit
section
variable {P:Program}
theorem aE9 {o:Oper}{t t' kt e:TypeId}{x y:Operand}(ho:o.op= .binOp .eql t x y t') (ht:bA7 P t=some (kt,e)) {fr:Fr}{hp:Hp}{K:SV->Prop}{s:SV}(b:Bool) (hx:evO fr x=some s)
  (hs:(∃id,s= .xv id rR/\b=false)\/(s= .d (.lit (.map none))/\b=true)) (hy:evO fr y=some (.d (.lit (.map none)))) (hk:K (.d (.bool b))):cG P o fr hp K:=by
 intro E ρ a w hm h
 have e2:=(aV h hy).lit_inv
 have e1:(∃g,a.eval x= .map (some g)/\b=false)\/(a.eval x= .map none/\b=true):=by
  rcases hs with⟨id,rfl,hb⟩|⟨rfl,hb⟩
  ·obtain⟨g,_,e1,_⟩:=(aV h hx).xv_inv
   exact .inl ⟨g,e1,hb⟩
  ·exact .inr ⟨(aV h hx).lit_inv,hb⟩
 have i: ∀(m:Option Nat) (w':World),(binOp .eql t (.map m) (.map none)).run P w'= .ok (.bool m.isNone) w':=by
  intro m w'
  have hb:binOp .eql t (.map m) (.map none)=(Op.equal t (.map m) (.map none)>>= λc=>pure (.bool c)):=rfl
  have j:(Op.equal t (.map m) (.map none)).run P w'= .ok m.isNone w':=by
   show (Op.equalIn (9999+1) t (.map m) (.map none)).run P w'=_
   rw [Op.equalIn]
   simp only [Sem.run_bind,run_underlying (aAq ht),Result.andThen_ok]
   cases m<;>rfl
  rw [hb,Sem.run_bind,j]
  rfl
 have f: ∀(m:Option Nat) (w':World),(eqGuard .eql t x y (.map m) (.map none)).run P w'= .ok () w':= λm w'=>rfl
 refine⟨.bool b,_,λw' _=> ?_, .d _ _ (.bool _),hk⟩
 rcases e1 with⟨g,e1,rfl⟩|⟨e1,rfl⟩
 ·simp only [execOp,ho,e1,e2,Sem.run_bind,f,Result.andThen_ok,i,Sem.run_pure,Option.isNone_some]
 ·simp only [execOp,ho,e1,e2,Sem.run_bind,f,Result.andThen_ok,i,Sem.run_pure,Option.isNone_none]
theorem aK.ownC {C:Cfg}{c:Code}{fr:Fr}{hp:Hp}{K:Ex->Fr->Hp->Prop}(i id t e z k:Nat) {cs:List SV}(hnil:aP hp i=some (.cells t cs)) (hk:cs[k]? =some (.d .nil)) (hfr:fE id C.pin fr hp)
  (h:aK C c fr ((id, .own e z 0)::eY hp i (.cells t (cs.set k (.osl id z [])))) K):aK C c fr hp K:=by
 intro E a w f o g
 obtain⟨A,y,ρ,G,D⟩:=g
 obtain⟨u,B,r⟩:=hfr
 obtain⟨s,x,F⟩:=G.newNil (id:=id) e z r (by rw [f];exact u)
 have l:i≠id:= λe=>r (by subst e;exact bR hnil (.inl rfl))
 have n:aP ((id,HObj.own e z 0)::hp) i=some (.cells t cs):=by
  simp only [aP];rw [if_neg (Ne.symm l)];exact hnil
 have m:k < cs.length:=(List.getElem?_eq_some_iff.1 hk).1
 have p := s.recell n (cs' := cs.set k (.osl id z [])) (by simp) (λj s' v b q => by
  by_cases e:j=k
  ·subst e
   rw [List.getElem?_set_self m]at b
   injection b with b
   subst b
   have:=(q _ hk).nil_inv
   subst this
   exact F
  ·rw [List.getElem?_set_ne (Ne.symm e)]at b
   exact q _ b)
 have e2:eY ((id,HObj.own e z 0)::hp) i (.cells t (cs.set k (.osl id z [])))=(id, .own e z 0)::eY hp i (.cells t (cs.set k (.osl id z []))):=by
  simp only [eY];rw [if_neg (Ne.symm l)]
 rw [e2]at p
 exact h E a w f o ⟨A,y,_,p,x fr a.tmps B D⟩
theorem aF.frozR {pin:Pin}{fr:Fr}{hp:Hp}{f:FuncId}{asv:List SV}{K:SV->Hp->Prop}
  (h:aF P pin fr hp f asv λs hp'=> ∃(id e z cap n:Nat) (rows:List (List D)) (a:Hp),s= .mw id z n/\aP hp' id=some (.mrow e z cap rows)/\n=rows.length/\lU a hp'/\aP a id=none/\K (.d (.sl z rows)) a):aF P pin fr hp f asv K:=by
 intro E ρ w p g t y vs b
 refine(h E ρ w p g t y vs b).mono ?_
 rintro e w' (⟨v,C,s,hp',rfl,⟨id,e,z,cap,n,rows,a,rfl,l,F,j,k,G⟩,m,x,r⟩|q)
 case inr=>exact .inr q
 refine .inl ?_
 obtain⟨S',B,u,o⟩:=m.froze l j k
 obtain⟨H,_⟩:=m.sat id _ l
 obtain⟨A,c,_,_,_,_,_,e2⟩:=r.mw_inv
 have:=e2 (F.trans H.symm)
 subst this
 exact⟨_,_,_,_,rfl,G,u,x.mono (λ_ _ _=>rfl) B (λi _=>C.moved_withS S' i), .d _ _ o⟩
end
abbrev Byt:=List UInt8
def aGy (l:Byt):D:= .str l
theorem aR {hp:Hp}{k d:Nat}{o:HObj}{r:Option HObj}(h:aP hp d=r) (hne:k≠d):aP ((k,o)::hp) d=r:=by
 rw [aP,if_neg hne,h]
theorem gF {hp:Hp}{k:Nat}{o:HObj}:aP ((k,o)::hp) k=some o:=by
 rw [aP,if_pos rfl]
theorem zT {hp:Hp}{k d:Nat}{o x:HObj}(hne:k≠d):eY ((k,o)::hp) d x=(k,o)::eY hp d x:=by
 rw [eY,if_neg hne]
theorem aJt {hp:Hp}{k:Nat}{o x:HObj}:eY ((k,o)::hp) k x=(k,x)::hp:=by
 rw [eY,if_pos rfl]
theorem uE: ∀{hp' hp:Hp},(∀p∈hp',aP hp p.1=some p.2)->lU hp' hp
 | [],_,_=>trivial
 |(k,x)::r,hp,h=>⟨h (k,x) (by simp),uE λp hp=>h p (List.mem_cons_of_mem _ hp)⟩
theorem uD: ∀{hp' hp:Hp},lU hp' hp-> ∀p∈hp',aP hp p.1=some p.2
 | [],_,_,p,hp=>by cases hp
 |(k,x)::r,hp,h,p,a=>by
  rcases List.mem_cons.1 a with rfl|a
  ·exact h.1
  ·exact uD h.2 p a
end
end Go.Proofs.YtbobcfjlbcgchaaGreatDoor
