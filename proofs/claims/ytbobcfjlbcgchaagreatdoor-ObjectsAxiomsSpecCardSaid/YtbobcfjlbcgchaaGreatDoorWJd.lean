/-
  Layer 6, reference: longer.
  Conditions: none.
-/
import Derived.Test.YtbobcfjlbcgchaaGreatDoorWQc
import Derived.Test.YtbobcfjlbcgchaaGreatDoorWJa
set_option linter.unnecessarySimpa false
set_option linter.unusedSectionVars false
set_option linter.unusedSimpArgs false
set_option linter.unusedVariables false
set_option maxHeartbeats 16000000
namespace Go.Proofs.YtbobcfjlbcgchaaGreatDoor
section
def aKm (T:List Stp):List (Str×Bool):=T.flatMap λk=>[(k.2.1,false),(k.2.1,true)]
theorem aI5: ∀T:List Stp,(aKm T).length=2 * T.length
 | []=>rfl
 |k::r=>by
  have:=aI5 r
  have e:aKm (k::r)=[(k.2.1,false),(k.2.1,true)]++aKm r:=rfl
  rw [e,List.length_append,List.length_cons,List.length_cons,List.length_nil,List.length_cons];omega
theorem aTg {T:List Stp}{k:Stp}(h:k∈T) (b:Bool):(k.2.1,b)∈aKm T:=by
 refine List.mem_flatMap.2 ⟨k,h, ?_⟩
 cases b<;>simp
structure OutOk (T:List Stp) (n:Nat) (out:List Pth):Prop where
 len: ∀y∈out,y.1.length=n+2
 nd:(out.map (key (n+1))).Nodup
 mem: ∀y∈out,key (n+1) y∈aKm T
theorem OutOk.nil {T:List Stp}{n:Nat}:OutOk T n [] where
 len:=by simp
 nd:=by simp
 mem:=by simp
theorem OutOk.le {T:List Stp}{n:Nat}{out:List Pth}(h:OutOk T n out):out.length<=2 * T.length:=by
 have := yT _ (aKm T) h.nd (λx hx => by
  obtain⟨y,a,rfl⟩:=List.mem_map.1 hx
  exact h.mem y a)
 rw [List.length_map,aI5]at this
 exact this
theorem aM1 {x y:Pth}{n:Nat}(hx:x.1.length=n+2):uK x y=true↔key (n+1) y=key (n+1) x:=by
 unfold uK kL key
 rw [hx,show n+2 - 1=n+1 from rfl,Bool.and_eq_true,decide_eq_true_eq,decide_eq_true_eq]
 constructor
 ·rintro⟨a,b⟩;rw [a,b]
 ·intro h;injection h with a b;exact⟨b,a⟩
theorem OutOk.put {T:List Stp}{n:Nat}{out:List Pth}{lt:Str->Str->Bool}{x:Pth}(h:OutOk T n out) (hx:x.1.length=n+2) (hk:key (n+1) x∈aKm T):OutOk T n (aOu lt out x):=by
 have g: ∀y∈aOu lt out x,y∈out\/y=x:= λy c=>aMa c
 refine⟨λy c=> ?_, ?_,λy c=> ?_⟩
 ·rcases g y c with f|rfl
  ·exact h.len y f
  ·exact hx
 ·unfold aOu
  split
  ·rename_i hi
   rw [List.map_append,List.map_singleton,List.nodup_append]
   refine⟨h.nd,by simp, ?_⟩
   intro a m b hb
   simp only [List.mem_singleton]at hb
   subst hb
   rintro rfl
   obtain⟨y,c,o⟩:=List.mem_map.1 m
   obtain⟨j,l,rfl⟩:=List.getElem_of_mem c
   have:=aDo hi j l
   rw [List.getElem?_eq_getElem l]at this
   have d:=(aM1 (n:=n) hx).2 o
   have this:uK x out[j]=false:=this
   rw [d]at this
   cases this
  ·rename_i i hi
   obtain⟨hl,k⟩:=rU hi
   split
   ·rw [List.getElem?_eq_getElem hl]at k
    have d:=(aM1 (n:=n) hx).1 k
    have e:(out.set i x).map (key (n+1))=out.map (key (n+1)):=by
     rw [List.map_set,<-d]
     refine List.ext_getElem? λj=> ?_
     by_cases e:i=j
     ·subst e
      rw [List.getElem?_set_self (by rw [List.length_map];exact hl),List.getElem?_map,List.getElem?_eq_getElem hl];rfl
     ·rw [List.getElem?_set_ne e]
    rw [e];exact h.nd
   ·exact h.nd
 ·rcases g y c with f|rfl
  ·exact h.mem y f
  ·exact hk
theorem OutOk.ext {T:List Stp}{n:Nat}{out:List Pth}{lt:Str->Str->Bool}{p:Pth}{k:Stp}(h:OutOk T n out) (hp:p.1.length=n+1) (hk:k∈T):OutOk T n (yB lt p out k):=by
 unfold yB
 split
 ·exact h
 ·refine h.put (by simp [hp]) ?_
  have e:key (n+1) (p.1++[k.2.1],p.2 || k.2.2)=(k.2.1,p.2 || k.2.2):=by
   unfold key
   dsimp only
   rw [List.getElem?_append_right (by omega),hp]
   simp
  rw [e]
  exact aTg hk _
theorem OutOk.fold {T:List Stp}{n:Nat}{lt:Str->Str->Bool}{p:Pth}(hp:p.1.length=n+1): ∀(ks:List Stp) (out:List Pth),(∀k∈ks,k∈T)->OutOk T n out->OutOk T n (ks.foldl (yB lt p) out)
 | [],out,_,h=>h
 |k::r,out,hk,h=>by
  rw [List.foldl_cons]
  exact OutOk.fold hp r _ (λx hx=>hk x (List.mem_cons_of_mem _ hx)) (h.ext hp (hk k (by simp)))
theorem OutOk.folds {T:List Stp}{n:Nat}{lt:Str->Str->Bool}: ∀(ps:List Pth) (out:List Pth),(∀p∈ps,p.1.length=n+1)->OutOk T n out->OutOk T n (ps.foldl (λout p=>T.foldl (yB lt p) out) out)
 | [],out,_,h=>h
 |p::r,out,hp,h=>by
  rw [List.foldl_cons]
  exact OutOk.folds r _ (λx hx=>hp x (List.mem_cons_of_mem _ hx)) (OutOk.fold (hp p (by simp)) T out (λk a=>a) h)
theorem aHz {T:List Stp}{n:Nat}{lt:Str->Str->Bool}{ps:List Pth}(hp: ∀p∈ps,p.1.length=n+1):OutOk T n (kJ lt T ps):=OutOk.folds ps [] hp .nil
theorem aPs {lt:Str->Str->Bool}{p:Pth}{T:List Stp}{out:List Pth}{k:Nat}(h:k < T.length):(T.take (k+1)).foldl (yB lt p) out=yB lt p ((T.take k).foldl (yB lt p) out) T[k]:=by
 rw [List.take_succ_eq_append_getElem h,List.foldl_append];rfl
theorem aPt {lt:Str->Str->Bool}{T:List Stp}{ps:List Pth}{i:Nat}(h:i < ps.length):kJ lt T (ps.take (i+1))=T.foldl (yB lt ps[i]) (kJ lt T (ps.take i)):=by
 unfold kJ
 rw [List.take_succ_eq_append_getElem h,List.foldl_append];rfl
theorem aPe {lt:Str->Str->Bool}{a b:List Str}{j:Nat}(h1:j < a.length) (h2:j < b.length):wW lt (a.drop j) (b.drop j)=if a[j]≠b[j]then lt a[j] b[j]else wW lt (a.drop (j+1)) (b.drop (j+1)):=by
 rw [List.drop_eq_getElem_cons h1,List.drop_eq_getElem_cons h2];rfl
theorem aTc {lt:Str->Str->Bool}{a b:List Str}{j:Nat}(h:a.length<=j):wW lt (a.drop j) (b.drop j)=false:=by
 rw [List.drop_eq_nil_of_le h]
 unfold wW
 rfl
end
section
attribute [local irreducible] aK aF Tri aH YVC cG aT
set_option maxRecDepth 10000
def tG (p:Pth):List D:=[.sl 1 (p.1.map bJ), .bool p.2]
def s6R (k:Stp):List D:=[.str k.1, .str k.2.1, .bool k.2.2]
theorem aY9 {l:List Stp}{i:Nat}(h:i < l.length):(l.map s6R)[((i:Nat):Int).toNat]? =some (s6R l[i]):=by
 rw [Int.toNat_natCast,List.getElem?_map,List.getElem?_eq_getElem h];rfl
theorem aFi {l:List Pth}{i:Nat}(h:i < l.length):(l.map tG)[((i:Nat):Int).toNat]? =some (tG l[i]):=by
 rw [Int.toNat_natCast,List.getElem?_map,List.getElem?_eq_getElem h];rfl
theorem aKl {l:List Str}{n:Nat}(h:l.length=n+1):(l.map bJ)[(((l.length:Nat):Int) - 1).toNat]? =some (bJ ((l[l.length - 1]?).getD [])):=by
 have e:(((l.length:Nat):Int) - 1).toNat=n:=by omega
 rw [e,List.getElem?_map,h,Nat.add_sub_cancel,List.getElem?_eq_getElem (by omega)];rfl
theorem aA9 (a b:List Str) (h:a.length<=b.length) (ha:b.length<=100000000):Tri Tryz.prog 120 [.d (.sl 1 (a.map bJ)), .d (.sl 1 (b.map bJ))] [] (λr=>r= .d (.bool (wW Op.bytesLess a b))):=by
 have hra:(a.map bJ).length=a.length:=List.length_map ..
 have hrb:(b.map bJ).length=b.length:=List.length_map ..
 refine qG [] hty Tryz.func120 [0,1,4,5,9,20] ?_
 refine qX ?_;intros
 refine aD hty (λj:Nat=>([(0, .d (.sl 1 (a.map bJ))),(1, .d (.sl 1 (b.map bJ))),(5, .d (.int .i64 j))],[])) (λj=>j<=a.length/\wW Op.bytesLess (a.drop j) (b.drop j)=wW Op.bytesLess a b) (λj=>a.length - j) 0 ⟨by omega,rfl⟩ ⟨qB,qB⟩ ?_
 rintro j ⟨hj,hl⟩
 refine qX ?_;intros
 refine aA (λc=> ?_) (λc=> ?_)
 ·have e:j < a.length:=by have c:(j:Int) < ((a.map bJ).length:Nat):=c;rw [List.length_map]at c;omega
  have f:j < b.length:=by omega
  have hrow1:=eI e
  have hrow2:=eI f
  have g:=hl.symm.trans (aPe e f)
  clear hl
  generalize a[j]=x at *
  generalize b[j]=y at *
  refine dwR ?_
  refine qZ ?_;intros
  refine aC (λi=> ?_) (λi=> ?_)
  ·rw [if_pos i]at g
   refine qX ?_;intros
   refine dwR ?_
   refine qZ ?_;intros
   rw [g]
   rfl
  ·rw [if_neg (by simpa using i)]at g
   (repeat' first|(refine qW ?_;intros)|((conv=>whnf);first|refine dwR ?_|((first|refine aA ?_ ?_|refine aC ?_ ?_)<;>intro hb<;>(first|exact ddX hb|try simp only [lnS]at hb))|(refine aB ?_ ?_<;>intro hb<;>try exact dsX hb)))
   exact⟨j+1,⟨by omega,g.symm⟩,qO,⟨qB,qB⟩⟩
 ·have e:j=a.length:=by have c:¬ (j:Int) < ((a.map bJ).length:Nat):=c;rw [List.length_map]at c;omega
  rw [<-hl,aTc (by omega)]
  (repeat' first|(refine qW ?_;intros)|((conv=>whnf);first|refine dwR ?_|((first|refine aA ?_ ?_|refine aC ?_ ?_)<;>intro hb<;>(first|exact ddX hb|try simp only [lnS]at hb))|(refine aB ?_ ?_<;>intro hb<;>try exact dsX hb)))
  rfl
def clK (p:Pth) (k:Stp):Bool:=decide (k.1=kL p) && (decide (k.2.1=(p.1[0]?).getD []) && (p.2 || k.2.2))
theorem bCx (p:Pth) (T:List Stp):jC T p=T.any (clK p):=rfl
theorem aY4 {α:Type}{f:α->Bool}{l:List α}{j:Nat}(h:j < l.length) (h1:(l.take j).any f=false) (h2:f l[j]=false):(l.take (j+1)).any f=false:=by
 rw [List.take_succ_eq_append_getElem h,List.any_append,h1]
 simp [h2]
theorem bAv {α:Type}{f:α->Bool}{l:List α}{j:Nat}(h:j < l.length) (h2:f l[j]=true):l.any f=true:=List.any_eq_true.2 ⟨_,List.getElem_mem h,h2⟩
theorem aFh (p:Pth) (T:List Stp) (n:Nat) (hp:p.1.length=n+1) (hn:n<=1000000):Tri Tryz.prog 119 [.d (.agg (tG p)), .d (.sl 3 (T.map s6R))] [] (λr=>r= .d (.bool (jC T p))):=by
 refine Tri.len 1 rfl λi=> ?_
 rw [List.length_map]at i
 have hrl:(p.1.map bJ).length=p.1.length:=List.length_map ..
 have hrT:(T.map s6R).length=T.length:=List.length_map ..
 have b:=aKl hp
 have a:(p.1.map bJ)[(0:Int).toNat]? =some (bJ ((p.1[0]?).getD [])):=by
  rw [List.getElem?_map,show (0:Int).toNat=0 from rfl,List.getElem?_eq_getElem (by omega)];rfl
 rw [bCx]
 refine qG [2] hty Tryz.func119 [0,1,2,4,5,9,48] ?_
 refine qX ?_;intros
 refine aD hty (λj:Nat=>([(1, .d (.sl 3 (T.map s6R))),(2, .ea 2 [tG p] 0 0),(5, .d (.int .i64 j))],[])) (λj=>j<=T.length/\(T.take j).any (clK p)=false) (λj=>T.length - j) 0 ⟨by omega,by simp⟩ ⟨qB,qB⟩ ?_
 rintro j ⟨hj,hz⟩
 refine qX ?_;intros
 refine aA (λh=> ?_) (λh=> ?_)
 ·have c:j < T.length:=by have h:(j:Int) < ((T.map s6R).length:Nat):=h;rw [List.length_map]at h;omega
  have g:=aY9 c
  have o:=aY4 (f:=clK p) c hz
  have m:=bAv (f:=clK p) c
  clear hz
  generalize T[j]=k at *
  have l:clK p k=(decide (k.1=(p.1[p.1.length - 1]?).getD []) && (decide (k.2.1=(p.1[0]?).getD []) && (p.2 || k.2.2))):=rfl
  generalize clK p k=v at *
  generalize (p.1[p.1.length - 1]?).getD []=e at *
  generalize (p.1[0]?).getD []=s0 at *
  refine dwR ?_
  ((conv=>whnf);repeat' ((first|(intro s;(try simp only [lnS]at s);(try rewrite [List.length_map]))|refine sJ ?_|refine qE_ ?_|refine exL (k:=?_)| (refine⟨_,g, ?_⟩)|(refine⟨_,b, ?_⟩)|(refine⟨_,a, ?_⟩)|refine dwR ?_|((first|refine aA ?_ ?_|refine aC ?_ ?_)<;>intro hb<;>(first|exact ddX hb|try simp only [lnS]at hb))|(refine aB ?_ ?_<;>intro hb<;>try exact dsX hb))<;>(conv=>whnf)))
  all_goals first
   | (have q : v = true := l.trans (by clear l o m g b a; simp_all; done)
      rw [m q]
      rfl)
   | (have q : v = false := l.trans (by clear l o m g b a; simp_all; done)
      exact⟨j+1,⟨by omega,o q⟩,qO,⟨qB,qB⟩⟩)
 ·have c:j=T.length:=by have h:¬ (j:Int) < ((T.map s6R).length:Nat):=h;rw [List.length_map]at h;omega
  subst c
  rw [List.take_length]at hz
  rw [hz]
  (repeat' first|(refine qW ?_;intros)|((conv=>whnf);first|refine dwR ?_|((first|refine aA ?_ ?_|refine aC ?_ ?_)<;>intro hb<;>(first|exact ddX hb|try simp only [lnS]at hb))|(refine aB ?_ ?_<;>intro hb<;>try exact dsX hb)))
  rfl
theorem aFf (x:Ax) (i:Nat) (hi:i < x.roles.length) (hl:x.roles.length<=1000000):Tri Tryz.prog 169 [.d (.agg (axR x)), .d (.int .i64 i)] [] (λr=>r= .d (.bool (fG x i))):=by
 have hrow:=eI hi
 have k:=oK hi
 have hrl:(x.roles.map bJ).length=x.roles.length:=List.length_map ..
 refine qG [2] hty Tryz.func169 [0,1,2,4,5,6,7,13,23,33] ?_
 refine qX ?_;intros
 refine aD hty (λj:Nat=>([(1, .d (.int .i64 i)),(2, .ea 16 [axR x] 0 0),(5, .d (.int .i64 x.roles.length)),(6, .d (.int .i64 ((x.roles.take j).countP λr=>decide (r=x.role):Nat))),(7, .d (.int .i64 j))],[])) (λj=>j<=x.roles.length) (λj=>x.roles.length - j) 0 (by omega) ⟨by repeat' (first|exact trivial|exact rfl|(rw [List.length_map];exact rfl)|refine And.intro ?_ ?_),trivial⟩ ?_
 rintro j hj
 refine qX ?_;intros
 refine aA (λm=> ?_) (λm=> ?_)
 ·have a:j < x.roles.length:=by omega
  have hrow2:=eI a
  have b:=aDl x a
  have e:=List.countP_le_length (p:= λr=>decide (r=x.role)) (l:=x.roles.take j)
  rw [List.length_take]at e
  generalize (x.roles.take j).countP (λr=>decide (r=x.role))=c at *
  refine dwR ?_
  refine qZ ?_;intros
  refine aA (λh=> ?_) (λh=> ?_)
  ·rw [if_pos h]at b
   (repeat' first|(refine qW ?_;intros)|((conv=>whnf);first|refine dwR ?_|((first|refine aA ?_ ?_|refine aC ?_ ?_)<;>intro hb<;>(first|exact ddX hb|try simp only [lnS]at hb))|(refine aB ?_ ?_<;>intro hb<;>try exact dsX hb)))
   refine⟨j+1,by omega,qO,⟨?_,trivial⟩⟩
   dsimp only
   rw [b]
   exact qB
  ·rw [if_neg h]at b
   (repeat' first|(refine qW ?_;intros)|((conv=>whnf);first|refine dwR ?_|((first|refine aA ?_ ?_|refine aC ?_ ?_)<;>intro hb<;>(first|exact ddX hb|try simp only [lnS]at hb))|(refine aB ?_ ?_<;>intro hb<;>try exact dsX hb)))
   refine⟨j+1,by omega,qO,⟨?_,trivial⟩⟩
   dsimp only
   rw [b]
   exact qB
 ·have a:j=x.roles.length:=by omega
  subst a
  rw [List.take_length]
  have b:x.roles.countP (λr=>decide (r=x.role))=aAr x:=rfl
  rw [b]
  have e:=List.countP_le_length (p:= λr=>decide (r=x.role)) (l:=x.roles)
  rw [b]at e
  refine dwR ?_
  refine qZ ?_;intros
  refine aC (λf=> ?_) (λf=> ?_)
  ·have g:fG x i=false:=by unfold fG;rw [k];simp [f]
   rw [g]
   (repeat' first|(refine qW ?_;intros)|((conv=>whnf);first|refine dwR ?_|((first|refine aA ?_ ?_|refine aC ?_ ?_)<;>intro hb<;>(first|exact ddX hb|try simp only [lnS]at hb))|(refine aB ?_ ?_<;>intro hb<;>try exact dsX hb)))
   rfl
  ·have f:x.roles[i]=x.role:=by simpa using f
   have g:fG x i=((decide (aAr x=1) && (decide (i=0) || decide (i+1=x.roles.length))) || (decide (aAr x=2) && decide (x.roles.length=2))):=by
    unfold fG;rw [k,f];simp
   rw [g]
   generalize aAr x=c at *
   clear g
   (repeat' first|(refine qW ?_;intros)|((conv=>whnf);first|refine dwR ?_|((first|refine aA ?_ ?_|refine aC ?_ ?_)<;>intro hb<;>(first|exact ddX hb|try simp only [lnS]at hb))|(refine aB ?_ ?_<;>intro hb<;>try exact dsX hb)))
   all_goals (refine bG ?_;rw [Bool.eq_iff_iff];simp only [Bool.or_eq_true,Bool.and_eq_true,decide_eq_true_eq,Bool.false_eq_true,true_iff,false_iff];omega)
theorem bBv {x:Ax}(hx:aZ x=0) (h5:x.kind=5):0 < x.roles.length:=by
 obtain⟨_,a,_⟩:=(fO x).1 hx
 rw [h5]at a
 unfold bH at a
 simp only [Bool.and_eq_true,decide_eq_true_eq]at a
 have:(cC 5).least=1:=rfl
 omega
theorem bF0 {a b:Nat}(h1:a<=40000) (h2:b<=4):a+b+1<=9223372036854775807:=by omega
theorem bF1 {a b:Nat}(h1:a<=40000) (h2:b<=4):(a+b+1)* 40<=140737488355328:=by omega
theorem aHa (l:List Ax) (hv: ∀x∈l,aZ x=0) (hn:l.length<=10000):Tri Tryz.prog 117 [.d (.sl 16 (l.map axR))] [] (λr=>r= .d (.sl 3 ((dW l).map s6R))):=by
 have y:(l.map axR).length=l.length:=List.length_map ..
 refine qG [5] hty Tryz.func117 [0,2,3,4,5,6,10,28,48,54] ?_
 refine qX ?_;intros
 refine aK.own 3 201 225 3 rfl (bQ (by with_unfolding_all exact rfl)) ?_
 refine aD hty (λj:Nat=>([(0, .d (.sl 16 (l.map axR))),(3, .osl 201 3 ((dW (l.take j)).map s6R)),(4, .d (.int .i64 j))],[(201, .own 225 3 ((dW (l.take j)).map s6R).length)])) (λj=>j<=l.length) (λj=>l.length - j) 0 (by omega) ⟨qB,qB⟩ ?_
 rintro j hj
 refine qX ?_;intros
 refine aA (λp=> ?_) (λp=> ?_)
 ·have g:j < l.length:=by have p:(j:Int) < ((l.map axR).length:Nat):=p;rw [y]at p;omega
  have hrow:=gW g
  have hx:=hv _ (List.getElem_mem g)
  have a:=sZ g
  have D:=rL (l.take j) λx hx=>(fP (hv x (List.mem_of_mem_take hx))).2.2
  rw [List.length_take]at D
  have hr4:=(fP hx).2.2
  generalize dW (l.take j)=S at *
  generalize l[j]=x at *
  have u:(S.map s6R).length=S.length:=List.length_map ..
  have C:S.length<=40000:=by omega
  have h:(S.map s6R).length+1<=9223372036854775807:=by rw [u];omega
  have i:((S.map s6R).length+1)* 40<=140737488355328:=by rw [u];omega
  refine qZ ?_;intros
  by_cases t:x.kind=5
  ·have I:=bBv hx t
   have q:¬ x.kind=6:=by omega
   have s:(x.roles.map bJ)[(0:Int).toNat]? =some (bJ x.roles[0]):=eI I
   have f:fQ x=if x.roles[0]=x.role then []else [(x.roles[0],x.role,false)]:=by
    unfold fQ
    rw [if_pos t,oK I]
   rw [f]at a
   generalize x.roles[0]=r0 at *
   refine dwR ?_
   refine qX ?_;intros
   refine aA (λc=> ?_) (λc=> ?_)
   ·refine qZ ?_;intros
    refine aC (λE=> ?_) (λE=> ?_)
    ·rw [if_neg E]at a
     obtain⟨B,hBe⟩: ∃B,B=S++[(r0,x.role,false)]:=⟨_,rfl⟩
     rw [<-hBe]at a
     have o:B.map s6R=S.map s6R++[[.str r0, .str x.role, .bool false]]:=by rw [hBe,List.map_append];rfl
     refine qX ?_;intros
     (refine dN (id:=7) hty (.first 0 (.first 1 (.first 2 (.first 3 (.first 4 (.first 5 (.first 6 (.first 7 (.alt 8 (.alt 9 (.first 10 .done) .stop) .stop))))))))) (by kernel_rfl) (by kernel_rfl) ?_)
     ((conv=>whnf);repeat' ((first|exact trivial|refine aUm ?_ ?_|refine eqN rfl ?_|refine leN rfl ?_|refine ltN rfl ?_|(refine⟨_,s, ?_⟩)|(refine And.intro h ?_)|(refine And.intro i ?_)|refine sJ ?_|(refine Exists.intro _ (And.intro rfl ?_)))<;>(conv=>whnf)))
     refine qX ?_;intros
     refine aD hty (λ_:Unit=>([(0, .d (.sl 16 (l.map axR))),(3, .osl 201 3 (B.map s6R)),(4, .d (.int .i64 j)),(5, .ea 16 [axR x] 0 0),(6, .d (.int .i64 0))],[(201, .own 225 3 (B.map s6R).length)])) (λ_=>True) (λ_=>0) () trivial (by dsimp only;(try rw [o,List.length_append]);exact⟨qB,qB⟩) ?_
     rintro _ _
     refine qX ?_;intros
     refine aA (λe=> ?_) (λe=> ?_)
     ·refine qX ?_;intros
      refine aA (λc=> ?_) (λc=> ?_)
      ·exact absurd c q
      ·refine qX ?_;intros
       refine⟨j+1,by omega,qO, ?_⟩
       dsimp only
       rw [a]
       exact⟨qB,qB⟩
     ·refine qX ?_;intros
      refine⟨j+1,by omega,qO, ?_⟩
      dsimp only
      rw [a]
      exact⟨qB,qB⟩
    ·rw [if_pos (by simpa using E),List.append_nil]at a
     obtain⟨B,hBe⟩: ∃B,B=S:=⟨_,rfl⟩
     rw [<-hBe]at a |-
     refine qX ?_;intros
     refine aD hty (λ_:Unit=>([(0, .d (.sl 16 (l.map axR))),(3, .osl 201 3 (B.map s6R)),(4, .d (.int .i64 j)),(5, .ea 16 [axR x] 0 0),(6, .d (.int .i64 0))],[(201, .own 225 3 (B.map s6R).length)])) (λ_=>True) (λ_=>0) () trivial (by dsimp only;(try rw [o,List.length_append]);exact⟨qB,qB⟩) ?_
     rintro _ _
     refine qX ?_;intros
     refine aA (λe=> ?_) (λe=> ?_)
     ·refine qX ?_;intros
      refine aA (λc=> ?_) (λc=> ?_)
      ·exact absurd c q
      ·refine qX ?_;intros
       refine⟨j+1,by omega,qO, ?_⟩
       dsimp only
       rw [a]
       exact⟨qB,qB⟩
     ·refine qX ?_;intros
      refine⟨j+1,by omega,qO, ?_⟩
      dsimp only
      rw [a]
      exact⟨qB,qB⟩
   ·exact absurd t c
  ·clear hx
   refine dwR ?_
   refine qX ?_;intros
   refine aA (λc=> ?_) (λc=> ?_)
   ·exact absurd c t
   ·by_cases q:x.kind=6
    ·have f:fQ x=jF x (List.range x.roles.length):=by
      unfold fQ
      rw [if_neg t,if_pos q]
     rw [f]at a
     have G:S++jF x (List.range 0)=S:=List.append_nil _
     refine qX ?_;intros
     refine aD hty (λk:Nat=>([(0, .d (.sl 16 (l.map axR))),(3, .osl 201 3 ((S++jF x (List.range k)).map s6R)),(4, .d (.int .i64 j)),(5, .ea 16 [axR x] 0 0),(6, .d (.int .i64 k))],[(201, .own 225 3 ((S++jF x (List.range k)).map s6R).length)])) (λk=>k<=x.roles.length) (λk=>x.roles.length - k) 0 (by omega) (by dsimp only;rw [G];exact⟨qB,qB⟩) ?_
     clear G
     rintro k hk
     refine qX ?_;intros
     refine aA (λe=> ?_) (λe=> ?_)
     ·have m:k < x.roles.length:=by have e:(k:Int) < ((x.roles.map bJ).length:Nat):=e;rw [List.length_map]at e;omega
      have n:=eI m
      have F:=aFf x k m (by omega)
      have w:=aE8 x (List.range k)
      rw [List.length_range]at w
      have b:=aBl x k
      have v:=oK m
      rw [v]at b
      obtain⟨Q,hQ⟩: ∃Q,Q=jF x (List.range k):=⟨_,rfl⟩
      rw [<-hQ]at b w |-
      obtain⟨eb,heb⟩: ∃eb,eb=fG x k:=⟨_,rfl⟩
      rw [<-heb]at b F
      obtain⟨rk,hrke⟩: ∃rk,rk=x.roles[k]:=⟨_,rfl⟩
      rw [<-hrke]at b n
      clear hQ heb hrke v
      have z:Q.length<=4:=by omega
      have A:((S++Q).map s6R).length=S.length+Q.length:=by rw [List.length_map,List.length_append]
      have h:((S++Q).map s6R).length+1<=9223372036854775807:=by rw [A];exact bF0 C z
      have i:(((S++Q).map s6R).length+1)* 40<=140737488355328:=by rw [A];exact bF1 C z
      refine qX ?_;intros
      refine aA (λH=> ?_) (λH=> ?_)
      ·refine qZ ?_;intros
       cases eb
       ·rw [if_neg (by decide)]at b
        refine qX ?_;intros
        (refine dN (id:=12) hty (.first 0 (.first 1 (.first 2 (.first 3 (.first 4 (.first 5 (.first 6 (.first 7 (.first 8 (.alt 9 (.alt 10 (.first 11 .done) .stop) .stop)))))))))) (by kernel_rfl) (by kernel_rfl) ?_)
        ((conv=>whnf);repeat' ((first|exact trivial|refine aUm ?_ ?_|refine eqN rfl ?_|refine leN rfl ?_|refine ltN rfl ?_|(refine⟨_,n, ?_⟩)|(refine And.intro h ?_)|(refine And.intro i ?_)|refine sJ ?_|(refine Exists.intro _ (And.intro rfl ?_)))<;>(conv=>whnf)))
        refine qX ?_;intros
        refine⟨k+1,by omega,qO, ?_⟩
        dsimp only
        rw [b,<-List.append_assoc,show ((S++Q)++[(rk,x.role,true)]).map s6R=(S++Q).map s6R++[[.str rk, .str x.role, .bool true]]by rw [List.map_append];rfl,List.length_append]
        exact⟨qB,qB⟩
       ·rw [if_pos rfl,List.append_nil]at b
        refine qX ?_;intros
        refine⟨k+1,by omega,qO, ?_⟩
        dsimp only
        rw [b]
        exact⟨qB,qB⟩
      ·exact absurd q H
     ·have m:k=x.roles.length:=by have e:¬ (k:Int) < ((x.roles.map bJ).length:Nat):=e;rw [List.length_map]at e;omega
      subst m
      rw [<-a]
      refine qX ?_;intros
      exact⟨j+1,by omega,qO,⟨qB,qB⟩⟩
    ·have f:fQ x=[]:=by
      unfold fQ
      rw [if_neg t,if_neg q]
     rw [f,List.append_nil]at a
     obtain⟨B,hBe⟩: ∃B,B=S:=⟨_,rfl⟩
     rw [<-hBe]at a |-
     refine qX ?_;intros
     refine aD hty (λ_:Unit=>([(0, .d (.sl 16 (l.map axR))),(3, .osl 201 3 (B.map s6R)),(4, .d (.int .i64 j)),(5, .ea 16 [axR x] 0 0),(6, .d (.int .i64 0))],[(201, .own 225 3 (B.map s6R).length)])) (λ_=>True) (λ_=>0) () trivial (by dsimp only;(try rw [o,List.length_append]);exact⟨qB,qB⟩) ?_
     rintro _ _
     refine qX ?_;intros
     refine aA (λe=> ?_) (λe=> ?_)
     ·refine qX ?_;intros
      refine aA (λc=> ?_) (λc=> ?_)
      ·exact absurd c q
      ·refine qX ?_;intros
       refine⟨j+1,by omega,qO, ?_⟩
       dsimp only
       rw [a]
       exact⟨qB,qB⟩
     ·refine qX ?_;intros
      refine⟨j+1,by omega,qO, ?_⟩
      dsimp only
      rw [a]
      exact⟨qB,qB⟩
 ·have g:j=l.length:=by have p:¬ (j:Int) < ((l.map axR).length:Nat):=p;rw [y]at p;omega
  subst g
  rw [List.take_length]
  refine qX ?_;intros
  rfl
def atI:Option Nat->Int
 |none=> -1
 |some i=>i
def aOf (x:Pth) (out:List Pth) (n:Nat):Bool:=match out[n]? with|some y=>uK x y|none=>false
theorem aZv {lt:Str->Str->Bool}{out:List Pth}{x:Pth}:aOu lt out x=match aAs (aOf x out) out.length with|none=>out++[x]|some i=>if wW lt x.1 ((out[i]?).getD ([],false)).1 then out.set i x else out:=rfl
theorem aPf (f:Nat->Bool) (n:Nat):aAs f (n+1)=if f n then some n else aAs f n:=rfl
theorem aVt {x:Pth}{out:List Pth}{n:Nat}(h:n < out.length):aOf x out n=uK x out[n]:=by
 unfold aOf;rw [List.getElem?_eq_getElem h]
theorem aHd (ps:List Pth) (T:List Stp) (n:Nat) (hp: ∀p∈ps,p.1.length=n+1) (hn:n<=1000000) (hT:T.length<=1000000) (hps:ps.length<=100000000):Tri Tryz.prog 121 [.d (.sl 2 (ps.map tG)), .d (.sl 3 (T.map s6R))] [] (λr=>r= .d (.sl 2 ((kJ Op.bytesLess T ps).map tG))):=by
 have Z:(T.map s6R).length=T.length:=List.length_map ..
 have a4:(ps.map tG).length=ps.length:=List.length_map ..
 refine qG [7,9] hty Tryz.func121 [0,1,4,5,6,7,8,9,10,11,15,25,51,76,105,108,120] ?_
 refine qX ?_;intros
 refine aK.mown 5 200 168 2 rfl (bQ (by with_unfolding_all exact rfl)) ?_
 refine aD hty (λy:Nat×Nat=>([(0, .d (.sl 2 (ps.map tG))),(1, .d (.sl 3 (T.map s6R))),(5, .mw 200 2 (kJ Op.bytesLess T (ps.take y.1)).length),(6, .d (.int .i64 y.1))],[(200, .mrow 168 2 y.2 ((kJ Op.bytesLess T (ps.take y.1)).map tG))])) (λy=>y.1<=ps.length) (λy=>ps.length - y.1) (0,0) (qO) ⟨qB,qB⟩ ?_
 rintro⟨i,cap⟩ hi
 dsimp only at hi
 have hO:=aHz (n:=n) (lt:=Op.bytesLess) (T:=T) (ps:=ps.take i) (λp hp'=>hp p (List.mem_of_mem_take hp'))
 refine qX ?_;intros
 refine aA (λE=> ?_) (λE=> ?_)
 ·have u:i < ps.length:=by have E:(i:Int) < ((ps.map tG).length:Nat):=E;rw [a4]at E;omega
  have t:=aFi u
  have D:=hp _ (List.getElem_mem u)
  have M:=aPt (lt:=Op.bytesLess) (T:=T) u
  obtain⟨out0,ho0⟩: ∃o,o=kJ Op.bytesLess T (ps.take i):=⟨_,rfl⟩
  rw [<-ho0]at hO M |-
  generalize ps[i]=p at *
  obtain⟨b,f⟩:=p
  dsimp only at D
  refine qZ ?_;intros
  refine aD hty (λy:Nat×Nat=>([(0, .d (.sl 2 (ps.map tG))),(1, .d (.sl 3 (T.map s6R))),(5, .mw 200 2 ((T.take y.1).foldl (yB Op.bytesLess (b,f)) out0).length),(6, .d (.int .i64 i)),(7, .ea 2 [[.sl 1 (b.map bJ), .bool f]] 0 0),(8, .d (.int .i64 y.1))],[(200, .mrow 168 2 y.2 (((T.take y.1).foldl (yB Op.bytesLess (b,f)) out0).map tG))])) (λy=>y.1<=T.length) (λy=>T.length - y.1) (0,cap) (qO) ⟨qB,qB⟩ ?_
  clear t
  rintro⟨k,cap⟩ hk
  dsimp only at hk
  have B:=OutOk.fold (lt:=Op.bytesLess) (p:=(b,f)) D (T.take k) out0 (λx hx=>List.mem_of_mem_take hx) hO
  refine qX ?_;intros
  refine aA (λF=> ?_) (λF=> ?_)
  ·have w:k < T.length:=by have F:(k:Int) < ((T.map s6R).length:Nat):=F;rw [Z]at F;omega
   have t:=aY9 w
   have hkm:T[k]∈T:=List.getElem_mem w
   have a:=aPs (lt:=Op.bytesLess) (p:=(b,f)) (out:=out0) w
   have hle:=B.le
   generalize (T.take k).foldl (yB Op.bytesLess (b,f)) out0=out at *
   generalize T[k]=st at *
   obtain⟨sa,s,O⟩:=st
   have v:=aKl D
   have j:kL (b,f)=(b[b.length - 1]?).getD []:=rfl
   have a3:=aDb b s
   generalize hev:(b[b.length - 1]?).getD []=e at *
   have a6:(b.map bJ).length=b.length:=List.length_map ..
   have K:(b.map bJ)[((((b.map bJ).length:Nat):Int) - 1).toNat]? =some (bJ e):=by rw [a6];exact v
   have N:(sa≠e\/s∈b)->yB Op.bytesLess (b,f) out (sa,s,O)=out:= λh=>by
    unfold yB;rw [j];exact if_pos h
   have Y:sa=e->s∉b->yB Op.bytesLess (b,f) out (sa,s,O)=aOu Op.bytesLess out (b++[s],f || O):= λE F=>by
    unfold yB;rw [j];exact if_neg (by rintro(h|h);exact h E;exact F h)
   refine dwR ?_
   refine qZ ?_;intros
   refine aC (λh3=> ?_) (λh3=> ?_)
   ·refine qX ?_;intros
    refine⟨(k+1,cap),qO,qO, ?_⟩
    dsimp only
    rw [a,N (.inl h3)]
    exact⟨qB,qB⟩
   have h3:sa=e:=by simpa using h3
   refine qZ ?_;intros
   refine aA (λh4=> ?_) (λh4=> ?_)
   ·refine qX ?_;intros
    refine⟨(k+1,cap),qO,qO, ?_⟩
    dsimp only
    rw [a,N (.inr h4)]
    exact⟨qB,qB⟩
   refine qX ?_;intros
   rw [Y (by assumption) (by assumption)]at a
   clear N Y j a3 v K hev
   have J:(b++[s]).length=n+2:=by rw [List.length_append,D];rfl
   have W:b.map bJ++[bJ s]=(b++[s]).map bJ:=by rw [List.map_append];rfl
   refine aK.mid [(0, .d (.sl 2 (ps.map tG))),(1, .d (.sl 3 (T.map s6R))),(5, .mw 200 2 out.length),(6, .d (.int .i64 i)),(7, .ea 2 [[.sl 1 (b.map bJ), .bool f]] 0 0),(8, .d (.int .i64 k)),(9, .ptr 9 0)] [(9, .cells 168 [.osl 52 1 (b.map bJ++[bJ s]), .d (.bool (f || O))]),(52, .own 9 1 ((b.map bJ).length+1)),(200, .mrow 168 2 cap (out.map tG))] ?_ ?_
   ·clear hO B M a ho0 hp
    cases f
    all_goals
     (refine dN (id:=10) hty (.first 1 (.first 2 (.first 4 (.first 5 (.first 6 (.first 7 (.first 8 (.first 11 (.first 12 (.alt 0 (.alt 3 (.alt 9 (.alt 10 (.first 13 (.first 14 (.first 15 (.first 16 (.first 17 (.first 18 (.first 19 (.first 20 (.alt 21 (.alt 22 .done .stop) .stop))))))))) (.alt 21 (.alt 10 (.first 13 (.first 14 (.first 15 (.first 16 (.first 17 (.first 18 (.first 19 (.first 20 (.alt 22 .done .stop))))))))) .stop) .stop)) (.alt 21 (.alt 9 (.alt 10 (.first 13 (.first 14 (.first 15 (.first 16 (.first 17 (.first 18 (.first 19 (.first 20 (.alt 22 .done .stop))))))))) .stop) .stop) .stop)) (.alt 9 (.alt 3 (.alt 10 (.first 13 (.first 14 (.first 15 (.first 16 (.first 17 (.first 18 (.first 19 (.first 20 (.alt 21 (.alt 22 .done .stop) .stop))))))))) (.alt 21 (.alt 10 (.first 13 (.first 14 (.first 15 (.first 16 (.first 17 (.first 18 (.first 19 (.first 20 (.alt 22 .done .stop))))))))) .stop) .stop)) (.alt 21 (.alt 3 (.alt 10 (.first 13 (.first 14 (.first 15 (.first 16 (.first 17 (.first 18 (.first 19 (.first 20 (.alt 22 .done .stop))))))))) .stop) .stop) .stop)) (.alt 21 (.alt 3 (.alt 9 (.alt 10 (.first 13 (.first 14 (.first 15 (.first 16 (.first 17 (.first 18 (.first 19 (.first 20 (.alt 22 .done .stop))))))))) .stop) .stop) (.alt 9 (.alt 3 (.alt 10 (.first 13 (.first 14 (.first 15 (.first 16 (.first 17 (.first 18 (.first 19 (.first 20 (.alt 22 .done .stop))))))))) .stop) .stop) .stop)) .stop))) (.alt 9 (.alt 0 (.alt 3 (.alt 10 (.first 13 (.first 14 (.first 15 (.first 16 (.first 17 (.first 18 (.first 19 (.first 20 (.alt 21 (.alt 22 .done .stop) .stop))))))))) (.alt 21 (.alt 10 (.first 13 (.first 14 (.first 15 (.first 16 (.first 17 (.first 18 (.first 19 (.first 20 (.alt 22 .done .stop))))))))) .stop) .stop)) (.alt 21 (.alt 3 (.alt 10 (.first 13 (.first 14 (.first 15 (.first 16 (.first 17 (.first 18 (.first 19 (.first 20 (.alt 22 .done .stop))))))))) .stop) .stop) .stop)) (.alt 21 (.alt 0 (.alt 3 (.alt 10 (.first 13 (.first 14 (.first 15 (.first 16 (.first 17 (.first 18 (.first 19 (.first 20 (.alt 22 .done .stop))))))))) .stop) .stop) .stop) .stop)) (.alt 21 (.alt 0 (.alt 3 (.alt 9 (.alt 10 (.first 13 (.first 14 (.first 15 (.first 16 (.first 17 (.first 18 (.first 19 (.first 20 (.alt 22 .done .stop))))))))) .stop) .stop) (.alt 9 (.alt 3 (.alt 10 (.first 13 (.first 14 (.first 15 (.first 16 (.first 17 (.first 18 (.first 19 (.first 20 (.alt 22 .done .stop))))))))) .stop) .stop) .stop)) (.alt 9 (.alt 0 (.alt 3 (.alt 10 (.first 13 (.first 14 (.first 15 (.first 16 (.first 17 (.first 18 (.first 19 (.first 20 (.alt 22 .done .stop))))))))) .stop) .stop) .stop) .stop)) .stop)))))))))))) (by kernel_rfl) (by kernel_rfl) ?_)
     ((conv=>whnf);repeat' ((first|exact trivial|refine aUm ?_ ?_|refine eqN rfl ?_|refine leN rfl ?_|refine ltN rfl ?_|(refine⟨_,t, ?_⟩)|refine sJ ?_|(refine Exists.intro _ (And.intro rfl ?_)))<;>(conv=>whnf)))
     all_goals exact⟨qB,qB⟩
   refine qX ?_;intros
   rw [W]
   obtain⟨x,hx⟩: ∃x:Pth,x=(b++[s],f || O):=⟨_,rfl⟩
   rw [<-hx]at a
   have I:b++[s]=x.1:=by rw [hx]
   have V:(f || O)=x.2:=by rw [hx]
   rw [I]at J |-
   rw [V]
   have a5:kL x=s:=by unfold kL;rw [<-I];simp
   have G:(out.map tG).length=out.length:=List.length_map ..
   have U:(x.1.map bJ).length=x.1.length:=List.length_map ..
   clear hx I V W
   refine aK.soft 9 (xs:=[.sl 1 (x.1.map bJ), .bool x.2]) rfl rfl ?_
   refine aK.frz1 9 ?_
   refine qX ?_;intros
   refine aD hty (λm:Nat=>([(0, .d (.sl 2 (ps.map tG))),(1, .d (.sl 3 (T.map s6R))),(5, .mw 200 2 out.length),(6, .d (.int .i64 i)),(7, .ea 2 [[.sl 1 (b.map bJ), .bool f]] 0 0),(8, .d (.int .i64 k)),(9, .ea 2 [[.sl 1 (x.1.map bJ), .bool x.2]] 0 0),(10, .d (.int .i64 (atI (aAs (aOf x out) m)))),(11, .d (.int .i64 m))],[(200, .mrow 168 2 cap (out.map tG))])) (λm=>m<=out.length) (λm=>out.length - m) 0 (by omega) ⟨qB,qB⟩ ?_
   rintro m hm
   refine qX ?_;intros
   refine aA (λh5=> ?_) (λh5=> ?_)
   ·have A:m < out.length:=by have h5:(m:Int) < (out.length:Nat):=h5;omega
    have hrowO:=aFi A
    have S:=B.len _ (List.getElem_mem A)
    have a7:=aVt (x:=x) A
    have g:=aPf (aOf x out) m
    rw [a7]at g
    generalize out[m]=y at *
    have c:uK x y=(decide (y.2=x.2) && decide ((y.1[x.1.length - 1]?).getD []=kL x)):=rfl
    rw [a5]at c
    generalize uK x y=sv at *
    have H:(y.1.map bJ)[(((x.1.length:Nat):Int) - 1).toNat]? =some (bJ ((y.1[x.1.length - 1]?).getD [])):=by
     have h:=aKl (l:=y.1) (n:=n+1) S
     rw [S]at h
     rw [J]
     exact h
    have hrowY':(y.1.map bJ)[((((x.1.map bJ).length:Nat):Int) - 1).toNat]? =some (bJ ((y.1[x.1.length - 1]?).getD [])):=by rw [U];exact H
    generalize (y.1[x.1.length - 1]?).getD []=ye at *
    refine dwR ?_
    (repeat' first|(refine qW ?_;intros)|((conv=>whnf);first|refine dwR ?_|((first|refine aA ?_ ?_|refine aC ?_ ?_)<;>intro hb<;>(first|exact ddX hb|try simp only [lnS]at hb))|(refine aB ?_ ?_<;>intro hb<;>try exact dsX hb)))
    ·have Q:sv=true:=c.trans (by rw [decide_eq_true (by assumption),decide_eq_true (by assumption)];rfl)
     rw [if_pos Q]at g
     refine⟨m+1,qO,qO, ?_⟩
     dsimp only
     rw [g]
     exact⟨qB,qB⟩
    ·have Q:¬ sv=true:=by rw [c,decide_eq_false hb,Bool.and_false];decide
     rw [if_neg Q]at g
     refine⟨m+1,qO,qO, ?_⟩
     dsimp only
     rw [g]
     exact⟨qB,qB⟩
    ·have Q:¬ sv=true:=by rw [c,decide_eq_false hb,Bool.false_and];decide
     rw [if_neg Q]at g
     refine⟨m+1,qO,qO, ?_⟩
     dsimp only
     rw [g]
     exact⟨qB,qB⟩
   ·have A:m=out.length:=by have h5:¬ (m:Int) < (out.length:Nat):=h5;omega
    subst A
    have P:=aZv (lt:=Op.bytesLess) (out:=out) (x:=x)
    rw [P]at a
    clear P
    have R:(out.map tG).length+1<=9223372036854775807:=by rw [G];omega
    have a2:((out.map tG).length+1)* 32<=140737488355328:=by rw [G];omega
    cases hla:aAs (aOf x out) out.length with
    |none=>
     rw [hla]at a
     dsimp only at a
     ((conv=>whnf);repeat ((first|(refine And.intro R ?_)|(refine And.intro a2 ?_) |(intro hq;try simp only [lnS]at hq)|refine sI ?_|refine qE_ ?_);conv=>whnf))
     rename_i a1
     refine⟨(k+1,a1),qO,qO, ?_⟩
     dsimp only
     rw [a,show (out++[x]).length=(out.map tG).length+1 by rw [List.length_append,G];rfl,show (out++[x]).map tG=out.map tG++[tG x]by rw [List.map_append];rfl]
     exact⟨qB,qB⟩
    |some q=>
     have C:=(rU hla).1
     rw [hla]at a
     dsimp only at a
     rw [List.getElem?_eq_getElem C]at a
     have L:=aFi C
     have hless:=aA9 x.1 out[q].1 (by rw [J,B.len _ (List.getElem_mem C)];exact Nat.le_refl _) (by rw [B.len _ (List.getElem_mem C)];omega)
     have a:(T.take (k+1)).foldl (yB Op.bytesLess (b,f)) out0=if wW Op.bytesLess x.1 out[q].1=true then out.set q x else out:=a
     have hqr:q < (out.map tG).length:=by rw [G];exact C
     generalize wW Op.bytesLess x.1 out[q].1=lb at *
     generalize out[q]=z at *
     rw [show atI (some q)=((q:Nat):Int)from rfl]
     refine qX ?_;intros
     refine dwR ?_
     refine qZ ?_;intros
     cases lb
     ·refine qX ?_;intros
      refine⟨(k+1,cap),qO,qO, ?_⟩
      dsimp only
      rw [a,if_neg (by decide)]
      exact⟨qB,qB⟩
     ·((conv=>whnf);repeat ((first|(refine⟨_,L, ?_⟩)|(refine And.intro (by intro d hd;simp only [List.mem_cons,List.not_mem_nil,or_false]at hd;rcases hd with rfl|rfl<;>rfl) ?_) |(intro hq;try simp only [lnS]at hq)|refine sI ?_|refine qE_ ?_);conv=>whnf))
      refine⟨(k+1,cap),qO,qO, ?_⟩
      dsimp only
      rw [a,if_pos rfl,List.length_set,List.map_set]
      exact⟨qB,qB⟩
  ·have w:k=T.length:=by have F:¬ (k:Int) < ((T.map s6R).length:Nat):=F;rw [Z]at F;omega
   subst w
   rw [List.take_length,<-M]
   (repeat' first|(refine qW ?_;intros)|((conv=>whnf);first|refine dwR ?_|((first|refine aA ?_ ?_|refine aC ?_ ?_)<;>intro hb<;>(first|exact ddX hb|try simp only [lnS]at hb))|(refine aB ?_ ?_<;>intro hb<;>try exact dsX hb)))
   exact⟨(i+1,cap),qO,qO,⟨qB,qB⟩⟩
 ·have u:i=ps.length:=by have E:¬ (i:Int) < ((ps.map tG).length:Nat):=E;rw [a4]at E;omega
  subst u
  rw [List.take_length]
  refine qX ?_;intros
  refine And.intro (List.length_map ..).symm ?_
  refine qX ?_;intros
  rfl
end
end Go.Proofs.YtbobcfjlbcgchaaGreatDoor
