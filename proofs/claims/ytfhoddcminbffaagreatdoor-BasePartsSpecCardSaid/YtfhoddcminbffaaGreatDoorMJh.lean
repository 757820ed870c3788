/-
  Layer 6, reference: how many paths there are, plainly. Layer 6, reference: less and closes. Layer 6, reference: exempt. Layer 6, reference: exempt and steps. Layer 6, reference: longer. Layer 6, reference: the rounds of the search, plainly. Layer 6, reference: Check. Layer 7, reference: Check.
  Conditions: none.
-/
import Derived.Test.YtfhoddcminbffaaGreatDoorMPh
import Derived.Test.YtfhoddcminbffaaGreatDoorMJa
import Derived.Test.YtfhoddcminbffaaGreatDoorMDe
import Derived.Test.YtfhoddcminbffaaGreatDoorMQm
import Derived.Test.YtfhoddcminbffaaGreatDoorMDd
set_option linter.unnecessarySimpa false
set_option linter.unusedSectionVars false
set_option linter.unusedSimpArgs false
set_option linter.unusedVariables false
set_option maxHeartbeats 32000000
namespace Go.Proofs.YtfhoddcminbffaaGreatDoor
open Go.Proofs
def aFl (T:List Stp):List (Str×Bool):=T.flatMap λk=>[(k.2.1,false),(k.2.1,true)]
theorem aD1: ∀T:List Stp,(aFl T).length=2 * T.length
 | []=>rfl
 |k::r=>by
  have:=aD1 r
  have e:aFl (k::r)=[(k.2.1,false),(k.2.1,true)]++aFl r:=rfl
  rw [e,List.length_append,List.length_cons,List.length_cons,List.length_nil,List.length_cons];omega
theorem aN4 {T:List Stp}{k:Stp}(h:k∈T) (b:Bool):(k.2.1,b)∈aFl T:=by
 refine List.mem_flatMap.2 ⟨k,h, ?_⟩
 cases b<;>simp
structure OutOk (T:List Stp) (n:Nat) (out:List Pth):Prop where
 len: ∀y∈out,y.1.length=n+2
 nd:(out.map (key (n+1))).Nodup
 mem: ∀y∈out,key (n+1) y∈aFl T
theorem OutOk.nil {T:List Stp}{n:Nat}:OutOk T n [] where
 len:=by simp
 nd:=by simp
 mem:=by simp
theorem OutOk.le {T:List Stp}{n:Nat}{out:List Pth}(h:OutOk T n out):out.length<=2 * T.length:=by
 have := tM _ (aFl T) h.nd (λx hx => by
  obtain⟨y,hy,rfl⟩:=List.mem_map.1 hx
  exact h.mem y hy)
 rw [List.length_map,aD1]at this
 exact this
theorem aGo {x y:Pth}{n:Nat}(hx:x.1.length=n+2):pJ x y=true↔key (n+1) y=key (n+1) x:=by
 unfold pJ jB key
 rw [hx,show n+2 - 1=n+1 from rfl,Bool.and_eq_true,decide_eq_true_eq,decide_eq_true_eq]
 constructor
 ·rintro⟨h1,h2⟩;rw [h1,h2]
 ·intro h;injection h with h1 h2;exact⟨h2,h1⟩
theorem OutOk.put {T:List Stp}{n:Nat}{out:List Pth}{lt:Str->Str->Bool}{x:Pth}(h:OutOk T n out) (hx:x.1.length=n+2) (hk:key (n+1) x∈aFl T):OutOk T n (aJd lt out x):=by
 have hm: ∀y∈aJd lt out x,y∈out\/y=x:= λy hy=>aGt hy
 refine⟨λy hy=> ?_, ?_,λy hy=> ?_⟩
 ·rcases hm y hy with h1|rfl
  ·exact h.len y h1
  ·exact hx
 ·unfold aJd
  split
  ·rename_i hi
   rw [List.map_append,List.map_singleton,List.nodup_append]
   refine⟨h.nd,by simp, ?_⟩
   intro a ha b hb
   simp only [List.mem_singleton]at hb
   subst hb
   rintro rfl
   obtain⟨y,hy,he⟩:=List.mem_map.1 ha
   obtain⟨j,hj,rfl⟩:=List.getElem_of_mem hy
   have:=zA hi j hj
   rw [List.getElem?_eq_getElem hj]at this
   have h2:=(aGo (n:=n) hx).2 he
   have this:pJ x out[j]=false:=this
   rw [h2]at this
   cases this
  ·rename_i i hi
   obtain⟨hl,hs⟩:=nR hi
   split
   ·rw [List.getElem?_eq_getElem hl]at hs
    have h2:=(aGo (n:=n) hx).1 hs
    have e:(out.set i x).map (key (n+1))=out.map (key (n+1)):=by
     rw [List.map_set,<-h2]
     refine List.ext_getElem? λj=> ?_
     by_cases e:i=j
     ·subst e
      rw [List.getElem?_set_self (by rw [List.length_map];exact hl),List.getElem?_map,List.getElem?_eq_getElem hl];rfl
     ·rw [List.getElem?_set_ne e]
    rw [e];exact h.nd
   ·exact h.nd
 ·rcases hm y hy with h1|rfl
  ·exact h.mem y h1
  ·exact hk
theorem OutOk.ext {T:List Stp}{n:Nat}{out:List Pth}{lt:Str->Str->Bool}{p:Pth}{k:Stp}(h:OutOk T n out) (hp:p.1.length=n+1) (hk:k∈T):OutOk T n (sX lt p out k):=by
 unfold sX
 split
 ·exact h
 ·refine h.put (by simp [hp]) ?_
  have e:key (n+1) (p.1++[k.2.1],p.2 || k.2.2)=(k.2.1,p.2 || k.2.2):=by
   unfold key
   dsimp only
   rw [List.getElem?_append_right (by omega),hp]
   simp
  rw [e]
  exact aN4 hk _
theorem OutOk.fold {T:List Stp}{n:Nat}{lt:Str->Str->Bool}{p:Pth}(hp:p.1.length=n+1): ∀(ks:List Stp) (out:List Pth),(∀k∈ks,k∈T)->OutOk T n out->OutOk T n (ks.foldl (sX lt p) out)
 | [],out,_,h=>h
 |k::r,out,hk,h=>by
  rw [List.foldl_cons]
  exact OutOk.fold hp r _ (λx hx=>hk x (List.mem_cons_of_mem _ hx)) (h.ext hp (hk k (by simp)))
theorem OutOk.folds {T:List Stp}{n:Nat}{lt:Str->Str->Bool}: ∀(ps:List Pth) (out:List Pth),(∀p∈ps,p.1.length=n+1)->OutOk T n out->OutOk T n (ps.foldl (λout p=>T.foldl (sX lt p) out) out)
 | [],out,_,h=>h
 |p::r,out,hp,h=>by
  rw [List.foldl_cons]
  exact OutOk.folds r _ (λx hx=>hp x (List.mem_cons_of_mem _ hx)) (OutOk.fold (hp p (by simp)) T out (λk hk=>hk) h)
theorem aCy {T:List Stp}{n:Nat}{lt:Str->Str->Bool}{ps:List Pth}(hp: ∀p∈ps,p.1.length=n+1):OutOk T n (jA lt T ps):=OutOk.folds ps [] hp .nil
theorem aK6 {lt:Str->Str->Bool}{p:Pth}{T:List Stp}{out:List Pth}{k:Nat}(h:k < T.length):(T.take (k+1)).foldl (sX lt p) out=sX lt p ((T.take k).foldl (sX lt p) out) T[k]:=by
 rw [List.take_succ_eq_append_getElem h,List.foldl_append];rfl
theorem aK7 {lt:Str->Str->Bool}{T:List Stp}{ps:List Pth}{i:Nat}(h:i < ps.length):jA lt T (ps.take (i+1))=T.foldl (sX lt ps[i]) (jA lt T (ps.take i)):=by
 unfold jA
 rw [List.take_succ_eq_append_getElem h,List.foldl_append];rfl
theorem aJs {lt:Str->Str->Bool}{a b:List Str}{j:Nat}(h1:j < a.length) (h2:j < b.length):rB lt (a.drop j) (b.drop j)=if a[j]≠b[j]then lt a[j] b[j]else rB lt (a.drop (j+1)) (b.drop (j+1)):=by
 rw [List.drop_eq_getElem_cons h1,List.drop_eq_getElem_cons h2];rfl
theorem aN0 {lt:Str->Str->Bool}{a b:List Str}{j:Nat}(h:a.length<=j):rB lt (a.drop j) (b.drop j)=false:=by
 rw [List.drop_eq_nil_of_le h]
 unfold rB
 rfl
end Go.Proofs.YtfhoddcminbffaaGreatDoor
namespace Go.Proofs.YtfhoddcminbffaaGreatDoor
open Go.Proofs
set_option maxRecDepth 10000
attribute [local irreducible] aM aJ Tri aH YVC dI bI
def oL (p:Pth):List D:=[.sl 1 (p.1.map bN), .bool p.2]
def s6R (k:Stp):List D:=[.str k.1, .str k.2.1, .bool k.2.2]
theorem aQn {l:List Stp}{i:Nat}(h:i < l.length):(l.map s6R)[((i:Nat):Int).toNat]? =some (s6R l[i]):=by
 rw [Int.toNat_natCast,List.getElem?_map,List.getElem?_eq_getElem h];rfl
theorem aAx {l:List Pth}{i:Nat}(h:i < l.length):(l.map oL)[((i:Nat):Int).toNat]? =some (oL l[i]):=by
 rw [Int.toNat_natCast,List.getElem?_map,List.getElem?_eq_getElem h];rfl
theorem aFk {l:List Str}{n:Nat}(h:l.length=n+1):(l.map bN)[(((l.length:Nat):Int) - 1).toNat]? =some (bN ((l[l.length - 1]?).getD [])):=by
 have e:(((l.length:Nat):Int) - 1).toNat=n:=by omega
 rw [e,List.getElem?_map,h,Nat.add_sub_cancel,List.getElem?_eq_getElem (by omega)];rfl
theorem uQ (a b:List Str) (h:a.length<=b.length) (ha:b.length<=100000000):Tri Tryz.prog 114 [.d (.sl 1 (a.map bN)), .d (.sl 1 (b.map bN))] [] (λr=>r= .d (.bool (rB Op.bytesLess a b))):=by
 have hra:(a.map bN).length=a.length:=List.length_map ..
 have hrb:(b.map bN).length=b.length:=List.length_map ..
 refine aK hty Tryz.func114 rfl (kp [0,1,4,5,9,20]) [] _ _ _ (by simp [Tryz.f114]) (by simp) ?_
 ((conv=>whnf);repeat ((first|(intro hq;try simp only [lnS]at hq)|refine sI ?_|refine .intro _ (.intro rfl ?_));(conv=>whnf)))
 refine aG hty (λj:Nat=>([(0, .d (.sl 1 (a.map bN))),(1, .d (.sl 1 (b.map bN))),(5, .d (.int .i64 j))],[])) (λj=>j<=a.length/\rB Op.bytesLess (a.drop j) (b.drop j)=rB Op.bytesLess a b) (λj=>a.length - j) 0 ⟨by omega,rfl⟩ ⟨by repeat' (first|exact trivial|exact rfl|refine And.intro ?_ ?_),by repeat' (first|exact trivial|exact rfl|refine And.intro ?_ ?_)⟩ ?_
 rintro j ⟨hj,hl⟩
 ((conv=>whnf);repeat ((first|(intro hq;try simp only [lnS]at hq)|refine sI ?_|refine .intro _ (.intro rfl ?_));(conv=>whnf)))
 refine aB (λh1=> ?_) (λh1=> ?_)
 ·have hjl:j < a.length:=by have h1:(j:Int) < ((a.map bN).length:Nat):=h1;rw [List.length_map]at h1;omega
  have hjb:j < b.length:=by omega
  have hrow1:=dO hjl
  have hrow2:=dO hjb
  have hv:=hl.symm.trans (aJs hjl hjb)
  clear hl
  generalize a[j]=x at *
  generalize b[j]=y at *
  refine dwR ?_
  ((conv=>whnf);repeat ((first|(refine⟨_,hrow1, ?_⟩)|(refine⟨_,hrow2, ?_⟩)|(intro hq;try simp only [lnS]at hq)|refine sI ?_|refine .intro _ (.intro rfl ?_));(conv=>whnf)))
  refine aC (λh2=> ?_) (λh2=> ?_)
  ·rw [if_pos h2]at hv
   ((conv=>whnf);repeat ((first|(intro hq;try simp only [lnS]at hq)|refine sI ?_|refine .intro _ (.intro rfl ?_));(conv=>whnf)))
   refine dwR ?_
   ((conv=>whnf);repeat ((first|(refine⟨_,hrow1, ?_⟩)|(refine⟨_,hrow2, ?_⟩)|(intro hq;try simp only [lnS]at hq)|refine sI ?_|refine .intro _ (.intro rfl ?_));(conv=>whnf)))
   rw [hv]
   rfl
  ·rw [if_neg (by simpa using h2)]at hv
   ((conv=>whnf);repeat' ((first|(intro hq;(try simp only [lnS]at hq);(try rewrite [List.length_map]))|refine sJ ?_|refine .intro _ (.intro rfl ?_)|refine exL (k:= ?_)|refine dwR ?_|((first|refine aB ?_ ?_|refine aC ?_ ?_)<;>intro hb<;>(first|exact ddX hb|try simp only [lnS]at hb))|(refine aA ?_ ?_<;>intro hb<;>try exact dsX hb))<;>(conv=>whnf)))
   exact⟨j+1,⟨by omega,hv.symm⟩,by dsimp only;omega,⟨by repeat' (first|exact trivial|exact rfl|refine And.intro ?_ ?_),by repeat' (first|exact trivial|exact rfl|refine And.intro ?_ ?_)⟩⟩
 ·have hjl:j=a.length:=by have h1:¬ (j:Int) < ((a.map bN).length:Nat):=h1;rw [List.length_map]at h1;omega
  rw [<-hl,aN0 (by omega)]
  ((conv=>whnf);repeat' ((first|(intro hq;(try simp only [lnS]at hq);(try rewrite [List.length_map]))|refine sJ ?_|refine .intro _ (.intro rfl ?_)|refine exL (k:= ?_)|refine dwR ?_|((first|refine aB ?_ ?_|refine aC ?_ ?_)<;>intro hb<;>(first|exact ddX hb|try simp only [lnS]at hb))|(refine aA ?_ ?_<;>intro hb<;>try exact dsX hb))<;>(conv=>whnf)))
  rfl
def clK (p:Pth) (k:Stp):Bool:=decide (k.1=jB p) && (decide (k.2.1=(p.1[0]?).getD []) && (p.2 || k.2.2))
theorem aTz (p:Pth) (T:List Stp):iD T p=T.any (clK p):=rfl
theorem aQk {α:Type}{f:α->Bool}{l:List α}{j:Nat}(h:j < l.length) (h1:(l.take j).any f=false) (h2:f l[j]=false):(l.take (j+1)).any f=false:=by
 rw [List.take_succ_eq_append_getElem h,List.any_append,h1]
 simp [h2]
theorem aSl {α:Type}{f:α->Bool}{l:List α}{j:Nat}(h:j < l.length) (h2:f l[j]=true):l.any f=true:=List.any_eq_true.2 ⟨_,List.getElem_mem h,h2⟩
theorem aAw (p:Pth) (T:List Stp) (n:Nat) (hp:p.1.length=n+1) (hn:n<=1000000):Tri Tryz.prog 113 [.d (.agg (oL p)), .d (.sl 3 (T.map s6R))] [] (λr=>r= .d (.bool (iD T p))):=by
 refine Tri.len 1 rfl λhlen=> ?_
 rw [List.length_map]at hlen
 have hrl:(p.1.map bN).length=p.1.length:=List.length_map ..
 have hrT:(T.map s6R).length=T.length:=List.length_map ..
 have hrowL:=aFk hp
 have hrow0:(p.1.map bN)[(0:Int).toNat]? =some (bN ((p.1[0]?).getD [])):=by
  rw [List.getElem?_map,show (0:Int).toNat=0 from rfl,List.getElem?_eq_getElem (by omega)];rfl
 rw [aTz]
 refine aF false [2] hty Tryz.func113 rfl (kp [0,1,2,4,5,9,48]) [] _ _ _ (by simp [Tryz.f113]) (by simp) ?_
 ((conv=>whnf);repeat ((first|(intro hq;try simp only [lnS]at hq)|refine sI ?_|refine .intro _ (.intro rfl ?_));(conv=>whnf)))
 refine aG hty (λj:Nat=>([(1, .d (.sl 3 (T.map s6R))),(2, .ea 2 [oL p] 0 0),(5, .d (.int .i64 j))],[])) (λj=>j<=T.length/\(T.take j).any (clK p)=false) (λj=>T.length - j) 0 ⟨by omega,by simp⟩ ⟨by repeat' (first|exact trivial|exact rfl|refine And.intro ?_ ?_),by repeat' (first|exact trivial|exact rfl|refine And.intro ?_ ?_)⟩ ?_
 rintro j ⟨hj,hz⟩
 ((conv=>whnf);repeat ((first|(intro hq;try simp only [lnS]at hq)|refine sI ?_|refine .intro _ (.intro rfl ?_));(conv=>whnf)))
 refine aB (λh1=> ?_) (λh1=> ?_)
 ·have hjl:j < T.length:=by have h1:(j:Int) < ((T.map s6R).length:Nat):=h1;rw [List.length_map]at h1;omega
  have hrow:=aQn hjl
  have hs:=aQk (f:=clK p) hjl hz
  have hh:=aSl (f:=clK p) hjl
  clear hz
  generalize T[j]=k at *
  have hk:clK p k=(decide (k.1=(p.1[p.1.length - 1]?).getD []) && (decide (k.2.1=(p.1[0]?).getD []) && (p.2 || k.2.2))):=rfl
  generalize clK p k=v at *
  generalize (p.1[p.1.length - 1]?).getD []=e at *
  generalize (p.1[0]?).getD []=s0 at *
  refine dwR ?_
  ((conv=>whnf);repeat' ((first|(intro hq;(try simp only [lnS]at hq);(try rewrite [List.length_map]))|refine sJ ?_|refine .intro _ (.intro rfl ?_)|refine exL (k:= ?_)|(refine⟨_,hrow, ?_⟩)|(refine⟨_,hrowL, ?_⟩)|(refine⟨_,hrow0, ?_⟩)|refine dwR ?_|((first|refine aB ?_ ?_|refine aC ?_ ?_)<;>intro hb<;>(first|exact ddX hb|try simp only [lnS]at hb))|(refine aA ?_ ?_<;>intro hb<;>try exact dsX hb))<;>(conv=>whnf)))
  all_goals first
   | (have hv : v = true := hk.trans (by clear hk hs hh hrow hrowL hrow0; simp_all; done)
      rw [hh hv]
      rfl)
   | (have hv : v = false := hk.trans (by clear hk hs hh hrow hrowL hrow0; simp_all; done)
      exact⟨j+1,⟨by omega,hs hv⟩,by dsimp only;omega,⟨by repeat' (first|exact trivial|exact rfl|refine And.intro ?_ ?_),by repeat' (first|exact trivial|exact rfl|refine And.intro ?_ ?_)⟩⟩)
 ·have hjl:j=T.length:=by have h1:¬ (j:Int) < ((T.map s6R).length:Nat):=h1;rw [List.length_map]at h1;omega
  subst hjl
  rw [List.take_length]at hz
  rw [hz]
  ((conv=>whnf);repeat' ((first|(intro hq;(try simp only [lnS]at hq);(try rewrite [List.length_map]))|refine sJ ?_|refine .intro _ (.intro rfl ?_)|refine exL (k:= ?_)|refine dwR ?_|((first|refine aB ?_ ?_|refine aC ?_ ?_)<;>intro hb<;>(first|exact ddX hb|try simp only [lnS]at hb))|(refine aA ?_ ?_<;>intro hb<;>try exact dsX hb))<;>(conv=>whnf)))
  rfl
end Go.Proofs.YtfhoddcminbffaaGreatDoor
namespace Go.Proofs.YtfhoddcminbffaaGreatDoor
open Go.Proofs
set_option maxRecDepth 10000
attribute [local irreducible] aM aJ Tri aH YVC dI bI
theorem aAu (x:Ax) (i:Nat) (hi:i < x.roles.length) (hl:x.roles.length<=1000000):Tri Tryz.prog 153 [.d (.agg (axR x)), .d (.int .i64 i)] [] (λr=>r= .d (.bool (eM x i))):=by
 have hrow:=dO hi
 have hr:=lZ hi
 have hrl:(x.roles.map bN).length=x.roles.length:=List.length_map ..
 refine aF false [2] hty Tryz.func153 rfl (kp [0,1,2,4,5,6,7,13,23,33]) [] _ _ _ (by simp [Tryz.f153]) (by simp) ?_
 ((conv=>whnf);repeat ((first|(intro hq;try simp only [lnS]at hq)|refine sI ?_|refine .intro _ (.intro rfl ?_));(conv=>whnf)))
 refine aG hty (λj:Nat=>([(1, .d (.int .i64 i)),(2, .ea 16 [axR x] 0 0),(5, .d (.int .i64 x.roles.length)),(6, .d (.int .i64 ((x.roles.take j).countP λr=>decide (r=x.role):Nat))),(7, .d (.int .i64 j))],[])) (λj=>j<=x.roles.length) (λj=>x.roles.length - j) 0 (by omega) ⟨by repeat' (first|exact trivial|exact rfl|(rw [List.length_map];exact rfl)|refine And.intro ?_ ?_),trivial⟩ ?_
 rintro j hj
 ((conv=>whnf);repeat ((first|(intro hq;try simp only [lnS]at hq)|refine sI ?_|refine .intro _ (.intro rfl ?_));(conv=>whnf)))
 refine aB (λh2=> ?_) (λh2=> ?_)
 ·have hjl:j < x.roles.length:=by omega
  have hrow2:=dO hjl
  have hm:=yX x hjl
  have hcl:=List.countP_le_length (p:= λr=>decide (r=x.role)) (l:=x.roles.take j)
  rw [List.length_take]at hcl
  generalize (x.roles.take j).countP (λr=>decide (r=x.role))=c at *
  refine dwR ?_
  ((conv=>whnf);repeat ((first|(refine⟨_,hrow2, ?_⟩)|(intro hq;try simp only [lnS]at hq)|refine sI ?_|refine .intro _ (.intro rfl ?_));(conv=>whnf)))
  refine aB (λh3=> ?_) (λh3=> ?_)
  ·rw [if_pos h3]at hm
   ((conv=>whnf);repeat' ((first|(intro hq;(try simp only [lnS]at hq);(try rewrite [List.length_map]))|refine sJ ?_|refine .intro _ (.intro rfl ?_)|refine exL (k:= ?_)|refine dwR ?_|((first|refine aB ?_ ?_|refine aC ?_ ?_)<;>intro hb<;>(first|exact ddX hb|try simp only [lnS]at hb))|(refine aA ?_ ?_<;>intro hb<;>try exact dsX hb))<;>(conv=>whnf)))
   refine⟨j+1,by omega,by dsimp only;omega,⟨?_,trivial⟩⟩
   dsimp only
   rw [hm]
   exact by repeat' (first|exact trivial|exact rfl|refine And.intro ?_ ?_)
  ·rw [if_neg h3]at hm
   ((conv=>whnf);repeat' ((first|(intro hq;(try simp only [lnS]at hq);(try rewrite [List.length_map]))|refine sJ ?_|refine .intro _ (.intro rfl ?_)|refine exL (k:= ?_)|refine dwR ?_|((first|refine aB ?_ ?_|refine aC ?_ ?_)<;>intro hb<;>(first|exact ddX hb|try simp only [lnS]at hb))|(refine aA ?_ ?_<;>intro hb<;>try exact dsX hb))<;>(conv=>whnf)))
   refine⟨j+1,by omega,by dsimp only;omega,⟨?_,trivial⟩⟩
   dsimp only
   rw [hm]
   exact by repeat' (first|exact trivial|exact rfl|refine And.intro ?_ ?_)
 ·have hjl:j=x.roles.length:=by omega
  subst hjl
  rw [List.take_length]
  have hm:x.roles.countP (λr=>decide (r=x.role))=vH x:=rfl
  rw [hm]
  have hcl:=List.countP_le_length (p:= λr=>decide (r=x.role)) (l:=x.roles)
  rw [hm]at hcl
  refine dwR ?_
  ((conv=>whnf);repeat ((first|(refine⟨_,hrow, ?_⟩)|(intro hq;try simp only [lnS]at hq)|refine sI ?_|refine .intro _ (.intro rfl ?_));(conv=>whnf)))
  refine aC (λh1=> ?_) (λh1=> ?_)
  ·have hv:eM x i=false:=by unfold eM;rw [hr];simp [h1]
   rw [hv]
   ((conv=>whnf);repeat' ((first|(intro hq;(try simp only [lnS]at hq);(try rewrite [List.length_map]))|refine sJ ?_|refine .intro _ (.intro rfl ?_)|refine exL (k:= ?_)|refine dwR ?_|((first|refine aB ?_ ?_|refine aC ?_ ?_)<;>intro hb<;>(first|exact ddX hb|try simp only [lnS]at hb))|(refine aA ?_ ?_<;>intro hb<;>try exact dsX hb))<;>(conv=>whnf)))
   rfl
  ·have h1:x.roles[i]=x.role:=by simpa using h1
   have hv:eM x i=((decide (vH x=1) && (decide (i=0) || decide (i+1=x.roles.length))) || (decide (vH x=2) && decide (x.roles.length=2))):=by
    unfold eM;rw [hr,h1];simp
   rw [hv]
   generalize vH x=c at *
   clear hv
   ((conv=>whnf);repeat' ((first|(intro hq;(try simp only [lnS]at hq);(try rewrite [List.length_map]))|refine sJ ?_|refine .intro _ (.intro rfl ?_)|refine exL (k:= ?_)|refine dwR ?_|((first|refine aB ?_ ?_|refine aC ?_ ?_)<;>intro hb<;>(first|exact ddX hb|try simp only [lnS]at hb))|(refine aA ?_ ?_<;>intro hb<;>try exact dsX hb))<;>(conv=>whnf)))
   all_goals (refine aX ?_;rw [Bool.eq_iff_iff];simp only [Bool.or_eq_true,Bool.and_eq_true,decide_eq_true_eq,Bool.false_eq_true,true_iff,false_iff];omega)
end Go.Proofs.YtfhoddcminbffaaGreatDoor
namespace Go.Proofs.YtfhoddcminbffaaGreatDoor
open Go.Proofs
set_option maxRecDepth 10000
attribute [local irreducible] aM aJ Tri aH YVC dI bI
theorem aT9 {x:Ax}(hx:bB x=0) (h5:x.kind=5):0 < x.roles.length:=by
 obtain⟨_,hs,_⟩:=(eX x).1 hx
 rw [h5]at hs
 unfold bA at hs
 simp only [Bool.and_eq_true,decide_eq_true_eq]at hs
 have:(bX 5).least=1:=rfl
 omega
theorem aVf {a b:Nat}(h1:a<=40000) (h2:b<=4):a+b+1<=9223372036854775807:=by omega
theorem aVg {a b:Nat}(h1:a<=40000) (h2:b<=4):(a+b+1)* 40<=140737488355328:=by omega
theorem aCd (l:List Ax) (hv: ∀x∈l,bB x=0) (hn:l.length<=10000):Tri Tryz.prog 111 [.d (.sl 16 (l.map axR))] [] (λr=>r= .d (.sl 3 ((cQ l).map s6R))):=by
 have hrl:(l.map axR).length=l.length:=List.length_map ..
 refine aF false [5] hty Tryz.func111 rfl (kp [0,2,3,4,5,6,10,28,48,54]) [] _ _ _ (by simp [Tryz.f111]) (by simp) ?_
 ((conv=>whnf);repeat ((first|(intro hq;try simp only [lnS]at hq)|refine sI ?_|refine .intro _ (.intro rfl ?_));(conv=>whnf)))
 refine aM.own 3 201 179 3 rfl (bW (by with_unfolding_all exact rfl)) ?_
 refine aG hty (λj:Nat=>([(0, .d (.sl 16 (l.map axR))),(3, .osl 201 3 ((cQ (l.take j)).map s6R)),(4, .d (.int .i64 j))],[(201, .own 179 3 ((cQ (l.take j)).map s6R).length)])) (λj=>j<=l.length) (λj=>l.length - j) 0 (by omega) ⟨by repeat' (first|exact trivial|exact rfl|refine And.intro ?_ ?_),by repeat' (first|exact trivial|exact rfl|refine And.intro ?_ ?_)⟩ ?_
 rintro j hj
 ((conv=>whnf);repeat ((first|(intro hq;try simp only [lnS]at hq)|refine sI ?_|refine .intro _ (.intro rfl ?_));(conv=>whnf)))
 refine aB (λh1=> ?_) (λh1=> ?_)
 ·have hjl:j < l.length:=by have h1:(j:Int) < ((l.map axR).length:Nat):=h1;rw [hrl]at h1;omega
  have hrow:=bR hjl
  have hx:=hv _ (List.getElem_mem hjl)
  have hst:=oH hjl
  have hll:=nL (l.take j) λx hx=>(fK (hv x (List.mem_of_mem_take hx))).2.2
  rw [List.length_take]at hll
  have hr4:=(fK hx).2.2
  generalize cQ (l.take j)=S at *
  generalize l[j]=x at *
  have hSr:(S.map s6R).length=S.length:=List.length_map ..
  have hSl:S.length<=40000:=by omega
  have hb63:(S.map s6R).length+1<=9223372036854775807:=by rw [hSr];omega
  have hb48:((S.map s6R).length+1)* 40<=140737488355328:=by rw [hSr];omega
  ((conv=>whnf);repeat ((first|(refine⟨_,hrow, ?_⟩)|(intro hq;try simp only [lnS]at hq)|refine sI ?_|refine .intro _ (.intro rfl ?_));(conv=>whnf)))
  by_cases h5:x.kind=5
  ·have h0:=aT9 hx h5
   have h6:¬ x.kind=6:=by omega
   have hrow0:(x.roles.map bN)[(0:Int).toNat]? =some (bN x.roles[0]):=dO h0
   have hsa:dG x=if x.roles[0]=x.role then []else [(x.roles[0],x.role,false)]:=by
    unfold dG
    rw [if_pos h5,lZ h0]
   rw [hsa]at hst
   generalize x.roles[0]=r0 at *
   refine dwR ?_
   ((conv=>whnf);repeat ((first|(intro hq;try simp only [lnS]at hq)|refine sI ?_|refine .intro _ (.intro rfl ?_));(conv=>whnf)))
   refine aB (λh3=> ?_) (λh3=> ?_)
   ·((conv=>whnf);repeat ((first|(refine⟨_,hrow0, ?_⟩)|(intro hq;try simp only [lnS]at hq)|refine sI ?_|refine .intro _ (.intro rfl ?_));(conv=>whnf)))
    refine aC (λh4=> ?_) (λh4=> ?_)
    ·rw [if_neg h4]at hst
     obtain⟨B,hBe⟩: ∃B,B=S++[(r0,x.role,false)]:=⟨_,rfl⟩
     rw [<-hBe]at hst
     have hB2:B.map s6R=S.map s6R++[[.str r0, .str x.role, .bool false]]:=by rw [hBe,List.map_append];rfl
     ((conv=>whnf);repeat ((first|(intro hq;try simp only [lnS]at hq)|refine sI ?_|refine .intro _ (.intro rfl ?_));(conv=>whnf)))
     (refine fG (id:=7) hty (.first 0 (.first 1 (.first 2 (.first 3 (.first 4 (.first 5 (.first 6 (.first 7 (.alt 8 (.alt 9 (.first 10 .done) .stop) .stop))))))))) (by kernel_rfl) (by kernel_rfl) ?_)
     ((conv=>whnf);repeat' ((first|exact trivial|refine zZ ?_ ?_|refine eqN rfl ?_|refine leN rfl ?_|refine ltN rfl ?_|(refine⟨_,hrow0, ?_⟩)|(refine And.intro hb63 ?_)|(refine And.intro hb48 ?_)|refine sJ ?_|(refine Exists.intro _ (And.intro rfl ?_)))<;>(conv=>whnf)))
     ((conv=>whnf);repeat ((first|(intro hq;try simp only [lnS]at hq)|refine sI ?_|refine .intro _ (.intro rfl ?_));(conv=>whnf)))
     refine aG hty (λ_:Unit=>([(0, .d (.sl 16 (l.map axR))),(3, .osl 201 3 (B.map s6R)),(4, .d (.int .i64 j)),(5, .ea 16 [axR x] 0 0),(6, .d (.int .i64 0))],[(201, .own 179 3 (B.map s6R).length)])) (λ_=>True) (λ_=>0) () trivial (by dsimp only;(try rw [hB2,List.length_append]);exact⟨by repeat' (first|exact trivial|exact rfl|refine And.intro ?_ ?_),by repeat' (first|exact trivial|exact rfl|refine And.intro ?_ ?_)⟩) ?_
     rintro _ _
     ((conv=>whnf);repeat ((first|(intro hq;try simp only [lnS]at hq)|refine sI ?_|refine .intro _ (.intro rfl ?_));(conv=>whnf)))
     refine aB (λh2=> ?_) (λh2=> ?_)
     ·((conv=>whnf);repeat ((first|(intro hq;try simp only [lnS]at hq)|refine sI ?_|refine .intro _ (.intro rfl ?_));(conv=>whnf)))
      refine aB (λh3=> ?_) (λh3=> ?_)
      ·exact absurd h3 h6
      ·((conv=>whnf);repeat ((first|(intro hq;try simp only [lnS]at hq)|refine sI ?_|refine .intro _ (.intro rfl ?_));(conv=>whnf)))
       refine⟨j+1,by omega,by dsimp only;omega, ?_⟩
       dsimp only
       rw [hst]
       exact⟨by repeat' (first|exact trivial|exact rfl|refine And.intro ?_ ?_),by repeat' (first|exact trivial|exact rfl|refine And.intro ?_ ?_)⟩
     ·((conv=>whnf);repeat ((first|(intro hq;try simp only [lnS]at hq)|refine sI ?_|refine .intro _ (.intro rfl ?_));(conv=>whnf)))
      refine⟨j+1,by omega,by dsimp only;omega, ?_⟩
      dsimp only
      rw [hst]
      exact⟨by repeat' (first|exact trivial|exact rfl|refine And.intro ?_ ?_),by repeat' (first|exact trivial|exact rfl|refine And.intro ?_ ?_)⟩
    ·rw [if_pos (by simpa using h4),List.append_nil]at hst
     obtain⟨B,hBe⟩: ∃B,B=S:=⟨_,rfl⟩
     rw [<-hBe]at hst |-
     ((conv=>whnf);repeat ((first|(intro hq;try simp only [lnS]at hq)|refine sI ?_|refine .intro _ (.intro rfl ?_));(conv=>whnf)))
     refine aG hty (λ_:Unit=>([(0, .d (.sl 16 (l.map axR))),(3, .osl 201 3 (B.map s6R)),(4, .d (.int .i64 j)),(5, .ea 16 [axR x] 0 0),(6, .d (.int .i64 0))],[(201, .own 179 3 (B.map s6R).length)])) (λ_=>True) (λ_=>0) () trivial (by dsimp only;(try rw [hB2,List.length_append]);exact⟨by repeat' (first|exact trivial|exact rfl|refine And.intro ?_ ?_),by repeat' (first|exact trivial|exact rfl|refine And.intro ?_ ?_)⟩) ?_
     rintro _ _
     ((conv=>whnf);repeat ((first|(intro hq;try simp only [lnS]at hq)|refine sI ?_|refine .intro _ (.intro rfl ?_));(conv=>whnf)))
     refine aB (λh2=> ?_) (λh2=> ?_)
     ·((conv=>whnf);repeat ((first|(intro hq;try simp only [lnS]at hq)|refine sI ?_|refine .intro _ (.intro rfl ?_));(conv=>whnf)))
      refine aB (λh3=> ?_) (λh3=> ?_)
      ·exact absurd h3 h6
      ·((conv=>whnf);repeat ((first|(intro hq;try simp only [lnS]at hq)|refine sI ?_|refine .intro _ (.intro rfl ?_));(conv=>whnf)))
       refine⟨j+1,by omega,by dsimp only;omega, ?_⟩
       dsimp only
       rw [hst]
       exact⟨by repeat' (first|exact trivial|exact rfl|refine And.intro ?_ ?_),by repeat' (first|exact trivial|exact rfl|refine And.intro ?_ ?_)⟩
     ·((conv=>whnf);repeat ((first|(intro hq;try simp only [lnS]at hq)|refine sI ?_|refine .intro _ (.intro rfl ?_));(conv=>whnf)))
      refine⟨j+1,by omega,by dsimp only;omega, ?_⟩
      dsimp only
      rw [hst]
      exact⟨by repeat' (first|exact trivial|exact rfl|refine And.intro ?_ ?_),by repeat' (first|exact trivial|exact rfl|refine And.intro ?_ ?_)⟩
   ·exact absurd h5 h3
  ·clear hx
   refine dwR ?_
   ((conv=>whnf);repeat ((first|(intro hq;try simp only [lnS]at hq)|refine sI ?_|refine .intro _ (.intro rfl ?_));(conv=>whnf)))
   refine aB (λh3=> ?_) (λh3=> ?_)
   ·exact absurd h3 h5
   ·by_cases h6:x.kind=6
    ·have hsa:dG x=iF x (List.range x.roles.length):=by
      unfold dG
      rw [if_neg h5,if_pos h6]
     rw [hsa]at hst
     have e0:S++iF x (List.range 0)=S:=List.append_nil _
     ((conv=>whnf);repeat ((first|(intro hq;try simp only [lnS]at hq)|refine sI ?_|refine .intro _ (.intro rfl ?_));(conv=>whnf)))
     refine aG hty (λk:Nat=>([(0, .d (.sl 16 (l.map axR))),(3, .osl 201 3 ((S++iF x (List.range k)).map s6R)),(4, .d (.int .i64 j)),(5, .ea 16 [axR x] 0 0),(6, .d (.int .i64 k))],[(201, .own 179 3 ((S++iF x (List.range k)).map s6R).length)])) (λk=>k<=x.roles.length) (λk=>x.roles.length - k) 0 (by omega) (by dsimp only;rw [e0];exact⟨by repeat' (first|exact trivial|exact rfl|refine And.intro ?_ ?_),by repeat' (first|exact trivial|exact rfl|refine And.intro ?_ ?_)⟩) ?_
     clear e0
     rintro k hk
     ((conv=>whnf);repeat ((first|(intro hq;try simp only [lnS]at hq)|refine sI ?_|refine .intro _ (.intro rfl ?_));(conv=>whnf)))
     refine aB (λh2=> ?_) (λh2=> ?_)
     ·have hkl:k < x.roles.length:=by have h2:(k:Int) < ((x.roles.map bN).length:Nat):=h2;rw [List.length_map]at h2;omega
      have hrowk:=dO hkl
      have hex:=aAu x k hkl (by omega)
      have hcl:=zW x (List.range k)
      rw [List.length_range]at hcl
      have hsn:=wK x k
      have hrk:=lZ hkl
      rw [hrk]at hsn
      obtain⟨Q,hQ⟩: ∃Q,Q=iF x (List.range k):=⟨_,rfl⟩
      rw [<-hQ]at hsn hcl |-
      obtain⟨eb,heb⟩: ∃eb,eb=eM x k:=⟨_,rfl⟩
      rw [<-heb]at hsn hex
      obtain⟨rk,hrke⟩: ∃rk,rk=x.roles[k]:=⟨_,rfl⟩
      rw [<-hrke]at hsn hrowk
      clear hQ heb hrke hrk
      have hQl:Q.length<=4:=by omega
      have hSQ:((S++Q).map s6R).length=S.length+Q.length:=by rw [List.length_map,List.length_append]
      have hb63:((S++Q).map s6R).length+1<=9223372036854775807:=by rw [hSQ];exact aVf hSl hQl
      have hb48:(((S++Q).map s6R).length+1)* 40<=140737488355328:=by rw [hSQ];exact aVg hSl hQl
      ((conv=>whnf);repeat ((first|(intro hq;try simp only [lnS]at hq)|refine sI ?_|refine .intro _ (.intro rfl ?_));(conv=>whnf)))
      refine aB (λh7=> ?_) (λh7=> ?_)
      ·((conv=>whnf);repeat ((first|(refine aD [] hex trivial (λr hs=> ?_);subst hs)|(intro hq;try simp only [lnS]at hq)|refine sI ?_|refine .intro _ (.intro rfl ?_));(conv=>whnf)))
       cases eb
       ·rw [if_neg (by decide)]at hsn
        ((conv=>whnf);repeat ((first|(intro hq;try simp only [lnS]at hq)|refine sI ?_|refine .intro _ (.intro rfl ?_));(conv=>whnf)))
        (refine fG (id:=12) hty (.first 0 (.first 1 (.first 2 (.first 3 (.first 4 (.first 5 (.first 6 (.first 7 (.first 8 (.alt 9 (.alt 10 (.first 11 .done) .stop) .stop)))))))))) (by kernel_rfl) (by kernel_rfl) ?_)
        ((conv=>whnf);repeat' ((first|exact trivial|refine zZ ?_ ?_|refine eqN rfl ?_|refine leN rfl ?_|refine ltN rfl ?_|(refine⟨_,hrowk, ?_⟩)|(refine And.intro hb63 ?_)|(refine And.intro hb48 ?_)|refine sJ ?_|(refine Exists.intro _ (And.intro rfl ?_)))<;>(conv=>whnf)))
        ((conv=>whnf);repeat ((first|(intro hq;try simp only [lnS]at hq)|refine sI ?_|refine .intro _ (.intro rfl ?_));(conv=>whnf)))
        refine⟨k+1,by omega,by dsimp only;omega, ?_⟩
        dsimp only
        rw [hsn,<-List.append_assoc,show ((S++Q)++[(rk,x.role,true)]).map s6R=(S++Q).map s6R++[[.str rk, .str x.role, .bool true]]by rw [List.map_append];rfl,List.length_append]
        exact⟨by repeat' (first|exact trivial|exact rfl|refine And.intro ?_ ?_),by repeat' (first|exact trivial|exact rfl|refine And.intro ?_ ?_)⟩
       ·rw [if_pos rfl,List.append_nil]at hsn
        ((conv=>whnf);repeat ((first|(intro hq;try simp only [lnS]at hq)|refine sI ?_|refine .intro _ (.intro rfl ?_));(conv=>whnf)))
        refine⟨k+1,by omega,by dsimp only;omega, ?_⟩
        dsimp only
        rw [hsn]
        exact⟨by repeat' (first|exact trivial|exact rfl|refine And.intro ?_ ?_),by repeat' (first|exact trivial|exact rfl|refine And.intro ?_ ?_)⟩
      ·exact absurd h6 h7
     ·have hkl:k=x.roles.length:=by have h2:¬ (k:Int) < ((x.roles.map bN).length:Nat):=h2;rw [List.length_map]at h2;omega
      subst hkl
      rw [<-hst]
      ((conv=>whnf);repeat ((first|(intro hq;try simp only [lnS]at hq)|refine sI ?_|refine .intro _ (.intro rfl ?_));(conv=>whnf)))
      exact⟨j+1,by omega,by dsimp only;omega,⟨by repeat' (first|exact trivial|exact rfl|refine And.intro ?_ ?_),by repeat' (first|exact trivial|exact rfl|refine And.intro ?_ ?_)⟩⟩
    ·have hsa:dG x=[]:=by
      unfold dG
      rw [if_neg h5,if_neg h6]
     rw [hsa,List.append_nil]at hst
     obtain⟨B,hBe⟩: ∃B,B=S:=⟨_,rfl⟩
     rw [<-hBe]at hst |-
     ((conv=>whnf);repeat ((first|(intro hq;try simp only [lnS]at hq)|refine sI ?_|refine .intro _ (.intro rfl ?_));(conv=>whnf)))
     refine aG hty (λ_:Unit=>([(0, .d (.sl 16 (l.map axR))),(3, .osl 201 3 (B.map s6R)),(4, .d (.int .i64 j)),(5, .ea 16 [axR x] 0 0),(6, .d (.int .i64 0))],[(201, .own 179 3 (B.map s6R).length)])) (λ_=>True) (λ_=>0) () trivial (by dsimp only;(try rw [hB2,List.length_append]);exact⟨by repeat' (first|exact trivial|exact rfl|refine And.intro ?_ ?_),by repeat' (first|exact trivial|exact rfl|refine And.intro ?_ ?_)⟩) ?_
     rintro _ _
     ((conv=>whnf);repeat ((first|(intro hq;try simp only [lnS]at hq)|refine sI ?_|refine .intro _ (.intro rfl ?_));(conv=>whnf)))
     refine aB (λh2=> ?_) (λh2=> ?_)
     ·((conv=>whnf);repeat ((first|(intro hq;try simp only [lnS]at hq)|refine sI ?_|refine .intro _ (.intro rfl ?_));(conv=>whnf)))
      refine aB (λh3=> ?_) (λh3=> ?_)
      ·exact absurd h3 h6
      ·((conv=>whnf);repeat ((first|(intro hq;try simp only [lnS]at hq)|refine sI ?_|refine .intro _ (.intro rfl ?_));(conv=>whnf)))
       refine⟨j+1,by omega,by dsimp only;omega, ?_⟩
       dsimp only
       rw [hst]
       exact⟨by repeat' (first|exact trivial|exact rfl|refine And.intro ?_ ?_),by repeat' (first|exact trivial|exact rfl|refine And.intro ?_ ?_)⟩
     ·((conv=>whnf);repeat ((first|(intro hq;try simp only [lnS]at hq)|refine sI ?_|refine .intro _ (.intro rfl ?_));(conv=>whnf)))
      refine⟨j+1,by omega,by dsimp only;omega, ?_⟩
      dsimp only
      rw [hst]
      exact⟨by repeat' (first|exact trivial|exact rfl|refine And.intro ?_ ?_),by repeat' (first|exact trivial|exact rfl|refine And.intro ?_ ?_)⟩
 ·have hjl:j=l.length:=by have h1:¬ (j:Int) < ((l.map axR).length:Nat):=h1;rw [hrl]at h1;omega
  subst hjl
  rw [List.take_length]
  ((conv=>whnf);repeat ((first|(intro hq;try simp only [lnS]at hq)|refine sI ?_|refine .intro _ (.intro rfl ?_));(conv=>whnf)))
  rfl
end Go.Proofs.YtfhoddcminbffaaGreatDoor
namespace Go.Proofs.YtfhoddcminbffaaGreatDoor
open Go.Proofs
set_option maxRecDepth 10000
attribute [local irreducible] aM aJ Tri aH YVC dI bI
def atI:Option Nat->Int
 |none=> -1
 |some i=>i
def aIy (x:Pth) (out:List Pth) (n:Nat):Bool:=match out[n]? with|some y=>pJ x y|none=>false
theorem aRu {lt:Str->Str->Bool}{out:List Pth}{x:Pth}:aJd lt out x=match vJ (aIy x out) out.length with|none=>out++[x]|some i=>if rB lt x.1 ((out[i]?).getD ([],false)).1 then out.set i x else out:=rfl
theorem aJu (f:Nat->Bool) (n:Nat):vJ f (n+1)=if f n then some n else vJ f n:=rfl
theorem aP5 {x:Pth}{out:List Pth}{n:Nat}(h:n < out.length):aIy x out n=pJ x out[n]:=by
 unfold aIy;rw [List.getElem?_eq_getElem h]
theorem aCg (ps:List Pth) (T:List Stp) (n:Nat) (hp: ∀p∈ps,p.1.length=n+1) (hn:n<=1000000) (hT:T.length<=1000000) (hps:ps.length<=100000000):Tri Tryz.prog 115 [.d (.sl 2 (ps.map oL)), .d (.sl 3 (T.map s6R))] [] (λr=>r= .d (.sl 2 ((jA Op.bytesLess T ps).map oL))):=by
 have hrT:(T.map s6R).length=T.length:=List.length_map ..
 have hrp:(ps.map oL).length=ps.length:=List.length_map ..
 refine aF false [7,9] hty Tryz.func115 rfl (kp [0,1,4,5,6,7,8,9,10,11,15,25,51,76,105,108,120]) [] _ _ _ (by simp [Tryz.f115]) (by simp) ?_
 ((conv=>whnf);repeat ((first|(intro hq;try simp only [lnS]at hq)|refine sI ?_|refine .intro _ (.intro rfl ?_));(conv=>whnf)))
 refine aM.mown 5 200 131 2 rfl (bW (by with_unfolding_all exact rfl)) ?_
 refine aG hty (λy:Nat×Nat=>([(0, .d (.sl 2 (ps.map oL))),(1, .d (.sl 3 (T.map s6R))),(5, .mw 200 2 (jA Op.bytesLess T (ps.take y.1)).length),(6, .d (.int .i64 y.1))],[(200, .mrow 131 2 y.2 ((jA Op.bytesLess T (ps.take y.1)).map oL))])) (λy=>y.1<=ps.length) (λy=>ps.length - y.1) (0,0) (by dsimp only;omega) ⟨by repeat' (first|exact trivial|exact rfl|refine And.intro ?_ ?_),by repeat' (first|exact trivial|exact rfl|refine And.intro ?_ ?_)⟩ ?_
 rintro⟨i,cap⟩ hi
 dsimp only at hi
 have hO:=aCy (n:=n) (lt:=Op.bytesLess) (T:=T) (ps:=ps.take i) (λp hp'=>hp p (List.mem_of_mem_take hp'))
 ((conv=>whnf);repeat ((first|(intro hq;try simp only [lnS]at hq)|refine sI ?_|refine .intro _ (.intro rfl ?_));(conv=>whnf)))
 refine aB (λh1=> ?_) (λh1=> ?_)
 ·have hil:i < ps.length:=by have h1:(i:Int) < ((ps.map oL).length:Nat):=h1;rw [hrp]at h1;omega
  have hrow:=aAx hil
  have hpl:=hp _ (List.getElem_mem hil)
  have hsn:=aK7 (lt:=Op.bytesLess) (T:=T) hil
  obtain⟨out0,ho0⟩: ∃o,o=jA Op.bytesLess T (ps.take i):=⟨_,rfl⟩
  rw [<-ho0]at hO hsn |-
  generalize ps[i]=p at *
  obtain⟨pr,pb⟩:=p
  dsimp only at hpl
  ((conv=>whnf);repeat ((first|(refine⟨_,hrow, ?_⟩)|(intro hq;try simp only [lnS]at hq)|refine sI ?_|refine .intro _ (.intro rfl ?_));(conv=>whnf)))
  refine aG hty (λy:Nat×Nat=>([(0, .d (.sl 2 (ps.map oL))),(1, .d (.sl 3 (T.map s6R))),(5, .mw 200 2 ((T.take y.1).foldl (sX Op.bytesLess (pr,pb)) out0).length),(6, .d (.int .i64 i)),(7, .ea 2 [[.sl 1 (pr.map bN), .bool pb]] 0 0),(8, .d (.int .i64 y.1))],[(200, .mrow 131 2 y.2 (((T.take y.1).foldl (sX Op.bytesLess (pr,pb)) out0).map oL))])) (λy=>y.1<=T.length) (λy=>T.length - y.1) (0,cap) (by dsimp only;omega) ⟨by repeat' (first|exact trivial|exact rfl|refine And.intro ?_ ?_),by repeat' (first|exact trivial|exact rfl|refine And.intro ?_ ?_)⟩ ?_
  clear hrow
  rintro⟨k,cap⟩ hk
  dsimp only at hk
  have hOk:=OutOk.fold (lt:=Op.bytesLess) (p:=(pr,pb)) hpl (T.take k) out0 (λx hx=>List.mem_of_mem_take hx) hO
  ((conv=>whnf);repeat ((first|(intro hq;try simp only [lnS]at hq)|refine sI ?_|refine .intro _ (.intro rfl ?_));(conv=>whnf)))
  refine aB (λh2=> ?_) (λh2=> ?_)
  ·have hkl:k < T.length:=by have h2:(k:Int) < ((T.map s6R).length:Nat):=h2;rw [hrT]at h2;omega
   have hrow:=aQn hkl
   have hkm:T[k]∈T:=List.getElem_mem hkl
   have hsk:=aK6 (lt:=Op.bytesLess) (p:=(pr,pb)) (out:=out0) hkl
   have hle:=hOk.le
   generalize (T.take k).foldl (sX Op.bytesLess (pr,pb)) out0=out at *
   generalize T[k]=st at *
   obtain⟨sa,sb,sc⟩:=st
   have hrowL:=aFk hpl
   have hlast:jB (pr,pb)=(pr[pr.length - 1]?).getD []:=rfl
   have hhas:=yK pr sb
   generalize hev:(pr[pr.length - 1]?).getD []=e at *
   have hrr:(pr.map bN).length=pr.length:=List.length_map ..
   have hrowM:(pr.map bN)[((((pr.map bN).length:Nat):Int) - 1).toNat]? =some (bN e):=by rw [hrr];exact hrowL
   have hE1:(sa≠e\/sb∈pr)->sX Op.bytesLess (pr,pb) out (sa,sb,sc)=out:= λh=>by
    unfold sX;rw [hlast];exact if_pos h
   have hE2:sa=e->sb∉pr->sX Op.bytesLess (pr,pb) out (sa,sb,sc)=aJd Op.bytesLess out (pr++[sb],pb || sc):= λh1 h2=>by
    unfold sX;rw [hlast];exact if_neg (by rintro(h|h);exact h h1;exact h2 h)
   refine dwR ?_
   ((conv=>whnf);repeat ((first|(refine⟨_,hrow, ?_⟩)|(refine⟨_,hrowM, ?_⟩)|(refine⟨_,hrowL, ?_⟩)|(intro hq;try simp only [lnS]at hq)|refine sI ?_|refine .intro _ (.intro rfl ?_));(conv=>whnf)))
   refine aC (λh3=> ?_) (λh3=> ?_)
   ·((conv=>whnf);repeat ((first|(intro hq;try simp only [lnS]at hq)|refine sI ?_|refine .intro _ (.intro rfl ?_));(conv=>whnf)))
    refine⟨(k+1,cap),by dsimp only;omega,by dsimp only;omega, ?_⟩
    dsimp only
    rw [hsk,hE1 (.inl h3)]
    exact⟨by repeat' (first|exact trivial|exact rfl|refine And.intro ?_ ?_),by repeat' (first|exact trivial|exact rfl|refine And.intro ?_ ?_)⟩
   have h3:sa=e:=by simpa using h3
   ((conv=>whnf);repeat ((first|(refine⟨_,hrow, ?_⟩)|(refine⟨.d (.bool _),_,[],rfl,trivial,hhas, ?_⟩)|(intro hq;try simp only [lnS]at hq)|refine sI ?_|refine .intro _ (.intro rfl ?_));(conv=>whnf)))
   refine aB (λh4=> ?_) (λh4=> ?_)
   ·((conv=>whnf);repeat ((first|(intro hq;try simp only [lnS]at hq)|refine sI ?_|refine .intro _ (.intro rfl ?_));(conv=>whnf)))
    refine⟨(k+1,cap),by dsimp only;omega,by dsimp only;omega, ?_⟩
    dsimp only
    rw [hsk,hE1 (.inr h4)]
    exact⟨by repeat' (first|exact trivial|exact rfl|refine And.intro ?_ ?_),by repeat' (first|exact trivial|exact rfl|refine And.intro ?_ ?_)⟩
   ((conv=>whnf);repeat ((first|(intro hq;try simp only [lnS]at hq)|refine sI ?_|refine .intro _ (.intro rfl ?_));(conv=>whnf)))
   rw [hE2 (by assumption) (by assumption)]at hsk
   clear hE1 hE2 hlast hhas hrowL hrowM hev
   have hxl:(pr++[sb]).length=n+2:=by rw [List.length_append,hpl];rfl
   have hxr:pr.map bN++[bN sb]=(pr++[sb]).map bN:=by rw [List.map_append];rfl
   refine aM.mid [(0, .d (.sl 2 (ps.map oL))),(1, .d (.sl 3 (T.map s6R))),(5, .mw 200 2 out.length),(6, .d (.int .i64 i)),(7, .ea 2 [[.sl 1 (pr.map bN), .bool pb]] 0 0),(8, .d (.int .i64 k)),(9, .ptr 9 0)] [(9, .cells 131 [.osl 52 1 (pr.map bN++[bN sb]), .d (.bool (pb || sc))]),(52, .own 9 1 ((pr.map bN).length+1)),(200, .mrow 131 2 cap (out.map oL))] ?_ ?_
   ·clear hO hOk hsn hsk ho0 hp
    cases pb
    all_goals
     (refine fG (id:=10) hty (.first 1 (.first 2 (.first 4 (.first 5 (.first 6 (.first 7 (.first 8 (.first 11 (.first 12 (.alt 0 (.alt 3 (.alt 9 (.alt 10 (.first 13 (.first 14 (.first 15 (.first 16 (.first 17 (.first 18 (.first 19 (.first 20 (.alt 21 (.alt 22 .done .stop) .stop))))))))) (.alt 21 (.alt 10 (.first 13 (.first 14 (.first 15 (.first 16 (.first 17 (.first 18 (.first 19 (.first 20 (.alt 22 .done .stop))))))))) .stop) .stop)) (.alt 21 (.alt 9 (.alt 10 (.first 13 (.first 14 (.first 15 (.first 16 (.first 17 (.first 18 (.first 19 (.first 20 (.alt 22 .done .stop))))))))) .stop) .stop) .stop)) (.alt 9 (.alt 3 (.alt 10 (.first 13 (.first 14 (.first 15 (.first 16 (.first 17 (.first 18 (.first 19 (.first 20 (.alt 21 (.alt 22 .done .stop) .stop))))))))) (.alt 21 (.alt 10 (.first 13 (.first 14 (.first 15 (.first 16 (.first 17 (.first 18 (.first 19 (.first 20 (.alt 22 .done .stop))))))))) .stop) .stop)) (.alt 21 (.alt 3 (.alt 10 (.first 13 (.first 14 (.first 15 (.first 16 (.first 17 (.first 18 (.first 19 (.first 20 (.alt 22 .done .stop))))))))) .stop) .stop) .stop)) (.alt 21 (.alt 3 (.alt 9 (.alt 10 (.first 13 (.first 14 (.first 15 (.first 16 (.first 17 (.first 18 (.first 19 (.first 20 (.alt 22 .done .stop))))))))) .stop) .stop) (.alt 9 (.alt 3 (.alt 10 (.first 13 (.first 14 (.first 15 (.first 16 (.first 17 (.first 18 (.first 19 (.first 20 (.alt 22 .done .stop))))))))) .stop) .stop) .stop)) .stop))) (.alt 9 (.alt 0 (.alt 3 (.alt 10 (.first 13 (.first 14 (.first 15 (.first 16 (.first 17 (.first 18 (.first 19 (.first 20 (.alt 21 (.alt 22 .done .stop) .stop))))))))) (.alt 21 (.alt 10 (.first 13 (.first 14 (.first 15 (.first 16 (.first 17 (.first 18 (.first 19 (.first 20 (.alt 22 .done .stop))))))))) .stop) .stop)) (.alt 21 (.alt 3 (.alt 10 (.first 13 (.first 14 (.first 15 (.first 16 (.first 17 (.first 18 (.first 19 (.first 20 (.alt 22 .done .stop))))))))) .stop) .stop) .stop)) (.alt 21 (.alt 0 (.alt 3 (.alt 10 (.first 13 (.first 14 (.first 15 (.first 16 (.first 17 (.first 18 (.first 19 (.first 20 (.alt 22 .done .stop))))))))) .stop) .stop) .stop) .stop)) (.alt 21 (.alt 0 (.alt 3 (.alt 9 (.alt 10 (.first 13 (.first 14 (.first 15 (.first 16 (.first 17 (.first 18 (.first 19 (.first 20 (.alt 22 .done .stop))))))))) .stop) .stop) (.alt 9 (.alt 3 (.alt 10 (.first 13 (.first 14 (.first 15 (.first 16 (.first 17 (.first 18 (.first 19 (.first 20 (.alt 22 .done .stop))))))))) .stop) .stop) .stop)) (.alt 9 (.alt 0 (.alt 3 (.alt 10 (.first 13 (.first 14 (.first 15 (.first 16 (.first 17 (.first 18 (.first 19 (.first 20 (.alt 22 .done .stop))))))))) .stop) .stop) .stop) .stop)) .stop)))))))))))) (by kernel_rfl) (by kernel_rfl) ?_)
     ((conv=>whnf);repeat' ((first|exact trivial|refine zZ ?_ ?_|refine eqN rfl ?_|refine leN rfl ?_|refine ltN rfl ?_|(refine⟨_,hrow, ?_⟩)|refine sJ ?_|(refine Exists.intro _ (And.intro rfl ?_)))<;>(conv=>whnf)))
     all_goals exact⟨by repeat' (first|exact trivial|exact rfl|refine And.intro ?_ ?_),by repeat' (first|exact trivial|exact rfl|refine And.intro ?_ ?_)⟩
   ((conv=>whnf);repeat ((first|(intro hq;try simp only [lnS]at hq)|refine sI ?_|refine .intro _ (.intro rfl ?_));(conv=>whnf)))
   rw [hxr]
   obtain⟨x,hx⟩: ∃x:Pth,x=(pr++[sb],pb || sc):=⟨_,rfl⟩
   rw [<-hx]at hsk
   have hx1:pr++[sb]=x.1:=by rw [hx]
   have hx2:(pb || sc)=x.2:=by rw [hx]
   rw [hx1]at hxl |-
   rw [hx2]
   have hlx:jB x=sb:=by unfold jB;rw [<-hx1];simp
   have hor:(out.map oL).length=out.length:=List.length_map ..
   have hxrl:(x.1.map bN).length=x.1.length:=List.length_map ..
   clear hx hx1 hx2 hxr
   refine aM.soft 9 (xs:=[.sl 1 (x.1.map bN), .bool x.2]) rfl rfl ?_
   refine aM.frz1 9 ?_
   ((conv=>whnf);repeat ((first|(intro hq;try simp only [lnS]at hq)|refine sI ?_|refine .intro _ (.intro rfl ?_));(conv=>whnf)))
   refine aG hty (λm:Nat=>([(0, .d (.sl 2 (ps.map oL))),(1, .d (.sl 3 (T.map s6R))),(5, .mw 200 2 out.length),(6, .d (.int .i64 i)),(7, .ea 2 [[.sl 1 (pr.map bN), .bool pb]] 0 0),(8, .d (.int .i64 k)),(9, .ea 2 [[.sl 1 (x.1.map bN), .bool x.2]] 0 0),(10, .d (.int .i64 (atI (vJ (aIy x out) m)))),(11, .d (.int .i64 m))],[(200, .mrow 131 2 cap (out.map oL))])) (λm=>m<=out.length) (λm=>out.length - m) 0 (by omega) ⟨by repeat' (first|exact trivial|exact rfl|refine And.intro ?_ ?_),by repeat' (first|exact trivial|exact rfl|refine And.intro ?_ ?_)⟩ ?_
   rintro m hm
   ((conv=>whnf);repeat ((first|(intro hq;try simp only [lnS]at hq)|refine sI ?_|refine .intro _ (.intro rfl ?_));(conv=>whnf)))
   refine aB (λh5=> ?_) (λh5=> ?_)
   ·have hml:m < out.length:=by have h5:(m:Int) < (out.length:Nat):=h5;omega
    have hrowO:=aAx hml
    have hyl:=hOk.len _ (List.getElem_mem hml)
    have hsi:=aP5 (x:=x) hml
    have hls:=aJu (aIy x out) m
    rw [hsi]at hls
    generalize out[m]=y at *
    have hsame:pJ x y=(decide (y.2=x.2) && decide ((y.1[x.1.length - 1]?).getD []=jB x)):=rfl
    rw [hlx]at hsame
    generalize pJ x y=sv at *
    have hrowY:(y.1.map bN)[(((x.1.length:Nat):Int) - 1).toNat]? =some (bN ((y.1[x.1.length - 1]?).getD [])):=by
     have h:=aFk (l:=y.1) (n:=n+1) hyl
     rw [hyl]at h
     rw [hxl]
     exact h
    have hrowY':(y.1.map bN)[((((x.1.map bN).length:Nat):Int) - 1).toNat]? =some (bN ((y.1[x.1.length - 1]?).getD [])):=by rw [hxrl];exact hrowY
    generalize (y.1[x.1.length - 1]?).getD []=ye at *
    refine dwR ?_
    ((conv=>whnf);repeat' ((first|(intro hq;(try simp only [lnS]at hq);(try rewrite [List.length_map]))|refine sJ ?_|refine .intro _ (.intro rfl ?_)|refine exL (k:= ?_)|(refine⟨_,hrowO, ?_⟩)|(refine⟨_,hrow, ?_⟩)|(refine⟨_,hrowY, ?_⟩)|(refine⟨_,hrowY', ?_⟩)|refine dwR ?_|((first|refine aB ?_ ?_|refine aC ?_ ?_)<;>intro hb<;>(first|exact ddX hb|try simp only [lnS]at hb))|(refine aA ?_ ?_<;>intro hb<;>try exact dsX hb))<;>(conv=>whnf)))
    ·have hv:sv=true:=hsame.trans (by rw [decide_eq_true (by assumption),decide_eq_true (by assumption)];rfl)
     rw [if_pos hv]at hls
     refine⟨m+1,by dsimp only;omega,by dsimp only;omega, ?_⟩
     dsimp only
     rw [hls]
     exact⟨by repeat' (first|exact trivial|exact rfl|refine And.intro ?_ ?_),by repeat' (first|exact trivial|exact rfl|refine And.intro ?_ ?_)⟩
    ·have hv:¬ sv=true:=by rw [hsame,decide_eq_false hb,Bool.and_false];decide
     rw [if_neg hv]at hls
     refine⟨m+1,by dsimp only;omega,by dsimp only;omega, ?_⟩
     dsimp only
     rw [hls]
     exact⟨by repeat' (first|exact trivial|exact rfl|refine And.intro ?_ ?_),by repeat' (first|exact trivial|exact rfl|refine And.intro ?_ ?_)⟩
    ·have hv:¬ sv=true:=by rw [hsame,decide_eq_false hb,Bool.false_and];decide
     rw [if_neg hv]at hls
     refine⟨m+1,by dsimp only;omega,by dsimp only;omega, ?_⟩
     dsimp only
     rw [hls]
     exact⟨by repeat' (first|exact trivial|exact rfl|refine And.intro ?_ ?_),by repeat' (first|exact trivial|exact rfl|refine And.intro ?_ ?_)⟩
   ·have hml:m=out.length:=by have h5:¬ (m:Int) < (out.length:Nat):=h5;omega
    subst hml
    have hpe:=aRu (lt:=Op.bytesLess) (out:=out) (x:=x)
    rw [hpe]at hsk
    clear hpe
    have hb63:(out.map oL).length+1<=9223372036854775807:=by rw [hor];omega
    have hb48:((out.map oL).length+1)* 32<=140737488355328:=by rw [hor];omega
    cases hla:vJ (aIy x out) out.length with
    |none=>
     rw [hla]at hsk
     dsimp only at hsk
     ((conv=>whnf);repeat ((first|(refine And.intro hb63 ?_)|(refine And.intro hb48 ?_)|(intro hq;try simp only [lnS]at hq)|refine sI ?_|refine .intro _ (.intro rfl ?_));(conv=>whnf)))
     rename_i cap2
     refine⟨(k+1,cap2),by dsimp only;omega,by dsimp only;omega, ?_⟩
     dsimp only
     rw [hsk,show (out++[x]).length=(out.map oL).length+1 by rw [List.length_append,hor];rfl,show (out++[x]).map oL=out.map oL++[oL x]by rw [List.map_append];rfl]
     exact⟨by repeat' (first|exact trivial|exact rfl|refine And.intro ?_ ?_),by repeat' (first|exact trivial|exact rfl|refine And.intro ?_ ?_)⟩
    |some q=>
     have hql:=(nR hla).1
     rw [hla]at hsk
     dsimp only at hsk
     rw [List.getElem?_eq_getElem hql]at hsk
     have hrowQ:=aAx hql
     have hless:=uQ x.1 out[q].1 (by rw [hxl,hOk.len _ (List.getElem_mem hql)];exact Nat.le_refl _) (by rw [hOk.len _ (List.getElem_mem hql)];omega)
     have hsk:(T.take (k+1)).foldl (sX Op.bytesLess (pr,pb)) out0=if rB Op.bytesLess x.1 out[q].1=true then out.set q x else out:=hsk
     have hqr:q < (out.map oL).length:=by rw [hor];exact hql
     generalize rB Op.bytesLess x.1 out[q].1=lb at *
     generalize out[q]=z at *
     rw [show atI (some q)=((q:Nat):Int)from rfl]
     ((conv=>whnf);repeat ((first|(intro hq;try simp only [lnS]at hq)|refine sI ?_|refine .intro _ (.intro rfl ?_));(conv=>whnf)))
     refine dwR ?_
     ((conv=>whnf);repeat ((first|(refine⟨_,hrowQ, ?_⟩)|(refine⟨.d (.bool _),_,[],rfl,trivial,hless, ?_⟩)|(intro hq;try simp only [lnS]at hq)|refine sI ?_|refine .intro _ (.intro rfl ?_));(conv=>whnf)))
     cases lb
     ·((conv=>whnf);repeat ((first|(intro hq;try simp only [lnS]at hq)|refine sI ?_|refine .intro _ (.intro rfl ?_));(conv=>whnf)))
      refine⟨(k+1,cap),by dsimp only;omega,by dsimp only;omega, ?_⟩
      dsimp only
      rw [hsk,if_neg (by decide)]
      exact⟨by repeat' (first|exact trivial|exact rfl|refine And.intro ?_ ?_),by repeat' (first|exact trivial|exact rfl|refine And.intro ?_ ?_)⟩
     ·((conv=>whnf);repeat ((first|(refine⟨_,hrowQ, ?_⟩)|(refine And.intro (by intro d hd;simp only [List.mem_cons,List.not_mem_nil,or_false]at hd;rcases hd with rfl|rfl<;>rfl) ?_)|(intro hq;try simp only [lnS]at hq)|refine sI ?_|refine .intro _ (.intro rfl ?_));(conv=>whnf)))
      refine⟨(k+1,cap),by dsimp only;omega,by dsimp only;omega, ?_⟩
      dsimp only
      rw [hsk,if_pos rfl,List.length_set,List.map_set]
      exact⟨by repeat' (first|exact trivial|exact rfl|refine And.intro ?_ ?_),by repeat' (first|exact trivial|exact rfl|refine And.intro ?_ ?_)⟩
  ·have hkl:k=T.length:=by have h2:¬ (k:Int) < ((T.map s6R).length:Nat):=h2;rw [hrT]at h2;omega
   subst hkl
   rw [List.take_length,<-hsn]
   ((conv=>whnf);repeat' ((first|(intro hq;(try simp only [lnS]at hq);(try rewrite [List.length_map]))|refine sJ ?_|refine .intro _ (.intro rfl ?_)|refine exL (k:= ?_)|refine dwR ?_|((first|refine aB ?_ ?_|refine aC ?_ ?_)<;>intro hb<;>(first|exact ddX hb|try simp only [lnS]at hb))|(refine aA ?_ ?_<;>intro hb<;>try exact dsX hb))<;>(conv=>whnf)))
   exact⟨(i+1,cap),by dsimp only;omega,by dsimp only;omega,⟨by repeat' (first|exact trivial|exact rfl|refine And.intro ?_ ?_),by repeat' (first|exact trivial|exact rfl|refine And.intro ?_ ?_)⟩⟩
 ·have hil:i=ps.length:=by have h1:¬ (i:Int) < ((ps.map oL).length:Nat):=h1;rw [hrp]at h1;omega
  subst hil
  rw [List.take_length]
  ((conv=>whnf);repeat ((first|(intro hq;try simp only [lnS]at hq)|refine sI ?_|refine .intro _ (.intro rfl ?_));(conv=>whnf)))
  refine And.intro (List.length_map ..).symm ?_
  ((conv=>whnf);repeat ((first|(intro hq;try simp only [lnS]at hq)|refine sI ?_|refine .intro _ (.intro rfl ?_));(conv=>whnf)))
  rfl
end Go.Proofs.YtfhoddcminbffaaGreatDoor
namespace Go.Proofs.YtfhoddcminbffaaGreatDoor
open Go.Proofs
def mix {α:Type}(f g:Nat->α) (n j:Nat):List α:=(List.range n).map λi=>if i < j then f i else g i
theorem qZ {α:Type}(f g:Nat->α) (n j:Nat):(mix f g n j).length=n:=by simp [mix]
theorem vC {α:Type}(f g:Nat->α) {n j i:Nat}(h:i < n):(mix f g n j)[i]? =some (if i < j then f i else g i):=by
 unfold mix
 rw [List.getElem?_map,List.getElem?_range h];rfl
theorem aTh {α:Type}(f g:Nat->α) {n j i:Nat}(h:i < n):(mix f g n j)[((i:Nat):Int).toNat]? =some (if i < j then f i else g i):=by
 rw [Int.toNat_natCast];exact vC f g h
theorem aMu {α:Type}(f g:Nat->α) {n j:Nat}(h:j < n):(mix f g n j)[((j:Nat):Int).toNat]? =some (g j):=by
 rw [aTh f g h,if_neg (by omega)]
theorem aMt {α:Type}(f g:Nat->α) {n j:Nat}(h:j < n):(mix f g n j).set j (f j)=mix f g n (j+1):=by
 refine List.ext_getElem? λi=> ?_
 by_cases hi:i < n
 ·by_cases e:j=i
  ·subst e
   rw [List.getElem?_set_self (by rw [qZ];exact h),vC f g h,if_pos (by omega)]
  ·rw [List.getElem?_set_ne e,vC f g hi,vC f g hi]
   by_cases e2:i < j
   ·rw [if_pos e2,if_pos (by omega)]
   ·rw [if_neg e2,if_neg (by omega)]
 ·rw [List.getElem?_eq_none (by rw [List.length_set,qZ];omega),List.getElem?_eq_none (by rw [qZ];omega)]
theorem aH3 {α:Type}(f g h:Nat->α) (n:Nat):mix f g n n=mix h f n 0:=by
 unfold mix
 refine List.map_congr_left λi hi=> ?_
 rw [if_pos (List.mem_range.1 hi),if_neg (by omega)]
theorem aS4 {α:Type}(f:Nat->α) (a:α) (n:Nat):List.replicate n a=mix f (λ_=>a) n 0:=by
 refine List.ext_getElem? λi=> ?_
 by_cases hi:i < n
 ·rw [vC _ _ hi,if_neg (by omega),List.getElem?_replicate,if_pos hi]
 ·rw [List.getElem?_eq_none (by rw [List.length_replicate];omega),List.getElem?_eq_none (by rw [qZ];omega)]
def dJ (T:List Stp) (R:List Str) (k i:Nat):List Pth:=pO Op.bytesLess T ((R[i]?).getD []) k
def sD (T:List Stp) (R:List Str) (k i:Nat):List D:=[.sl 2 ((dJ T R k i).map oL)]
def aSi:Option (List Str)->D
 |none=> .nil
 |some L=> .sl 1 (L.map bN)
def jP (T:List Stp) (k:Nat) (seen:Pth->Prop):Option (List Str)->Prop
 |none=> ∀p,seen p->iD T p=false
 |some L=>L.length=k+1/\jO (ET T)
theorem aCm (T:List Stp) (R:List Str) (k i:Nat): ∀p∈dJ T R k i,p.1.length=k+1:= λp hp=>(iW k p hp).len
theorem aJf (T:List Stp) (R:List Str) (k i:Nat):(dJ T R k i).length<=2 * T.length+1:=by
 cases k with
 |zero=>show 1<=_;omega
 |succ k=>
  have:=(aCy (n:=k) (lt:=Op.bytesLess) (T:=T) (ps:=dJ T R k i) (aCm T R k i)).le
  have e:dJ T R (k+1) i=jA Op.bytesLess T (dJ T R k i):=rfl
  rw [e];omega
theorem aFb {T:List Stp}{R:List Str}{k i:Nat}{p:Pth}(hp:p∈dJ T R k i) (h:iD T p=true):jO (ET T):=sS (iW k p hp) h
theorem aEx {T:List Stp}{R:List Str}(hR: ∀k∈T,k.1∈R) (h: ∀k,k < R.length-> ∀i,i < R.length-> ∀p∈dJ T R k i,iD T p=false):¬ jO (ET T):=by
 intro hc
 obtain⟨n,hn,s,hs,p,hp,hcl⟩:=(aRr (lt:=Op.bytesLess) hR).1 hc
 obtain⟨i,hi,rfl⟩:=List.getElem_of_mem hs
 have:=h n hn i hi p (by unfold dJ;rw [List.getElem?_eq_getElem hi];exact hp)
 rw [hcl]at this
 cases this
end Go.Proofs.YtfhoddcminbffaaGreatDoor
namespace Go.Proofs.YtfhoddcminbffaaGreatDoor
open Go.Proofs
set_option maxRecDepth 10000
attribute [local irreducible] aM aJ Tri aH YVC dI bI
theorem xG (l:List Ax) (hs: ∀x∈l,SmA x):Tri Tryz.prog 110 [.d (.sl 16 (l.map axR))] [] (λr=>r= .d (.int .i64 (iE l))):=by
 refine Tri.len 0 rfl λhlen=> ?_
 rw [List.length_map]at hlen
 have hrl:(l.map axR).length=l.length:=List.length_map ..
 refine aK hty Tryz.func110 rfl (kp [0,2,3,4,8,17]) [] _ _ _ (by simp [Tryz.f110]) (by simp) ?_
 ((conv=>whnf);repeat ((first|(intro hq;try simp only [lnS]at hq)|refine sI ?_|refine .intro _ (.intro rfl ?_));(conv=>whnf)))
 refine aG hty (λj:Nat=>([(0, .d (.sl 16 (l.map axR))),(3, .d (.int .i64 j))],[])) (λj=>j<=l.length/\ ∀x∈l.take j,bB x=0) (λj=>l.length - j) 0 ⟨by omega,by simp⟩ ⟨by repeat' (first|exact trivial|exact rfl|refine And.intro ?_ ?_),by repeat' (first|exact trivial|exact rfl|refine And.intro ?_ ?_)⟩ ?_
 rintro j ⟨hj,hz⟩
 ((conv=>whnf);repeat ((first|(intro hq;try simp only [lnS]at hq)|refine sI ?_|refine .intro _ (.intro rfl ?_));(conv=>whnf)))
 refine aB (λh1=> ?_) (λh1=> ?_)
 ·have hjl:j < l.length:=by have h1:(j:Int) < ((l.map axR).length:Nat):=h1;rw [hrl]at h1;omega
  have hrow:=bR hjl
  have hx:=hs _ (List.getElem_mem hjl)
  have c:=lO l[j] hx.1 hx.2.1
  have hbad:=rJ hjl hz
  have hz2:bB l[j]=0-> ∀x∈l.take (j+1),bB x=0:= λh x hx=>by
   rw [List.take_succ_eq_append_getElem hjl]at hx
   rcases List.mem_append.1 hx with hx|hx
   ·exact hz x hx
   ·simp only [List.mem_singleton]at hx;subst hx;exact h
  clear hx
  generalize bB l[j]=e at *
  generalize l[j]=x at *
  ((conv=>whnf);repeat ((first|(refine⟨_,hrow, ?_⟩)|(refine aD [] c trivial (λr hs=> ?_);subst hs)|(intro hq;try simp only [lnS]at hq)|refine sI ?_|refine .intro _ (.intro rfl ?_));(conv=>whnf)))
  refine aC (λh2=> ?_) (λh2=> ?_)
  ·rw [hbad h2]
   ((conv=>whnf);repeat' ((first|(intro hq;(try simp only [lnS]at hq);(try rewrite [List.length_map]))|refine sJ ?_|refine .intro _ (.intro rfl ?_)|refine exL (k:= ?_)|refine dwR ?_|((first|refine aB ?_ ?_|refine aC ?_ ?_)<;>intro hb<;>(first|exact ddX hb|try simp only [lnS]at hb))|(refine aA ?_ ?_<;>intro hb<;>try exact dsX hb))<;>(conv=>whnf)))
   rfl
  ·((conv=>whnf);repeat' ((first|(intro hq;(try simp only [lnS]at hq);(try rewrite [List.length_map]))|refine sJ ?_|refine .intro _ (.intro rfl ?_)|refine exL (k:= ?_)|refine dwR ?_|((first|refine aB ?_ ?_|refine aC ?_ ?_)<;>intro hb<;>(first|exact ddX hb|try simp only [lnS]at hb))|(refine aA ?_ ?_<;>intro hb<;>try exact dsX hb))<;>(conv=>whnf)))
   exact⟨j+1,⟨by omega,hz2 (by simpa using h2)⟩,by dsimp only;omega,⟨by repeat' (first|exact trivial|exact rfl|refine And.intro ?_ ?_),by repeat' (first|exact trivial|exact rfl|refine And.intro ?_ ?_)⟩⟩
 ·have hjl:j=l.length:=by have h1:¬ (j:Int) < ((l.map axR).length:Nat):=h1;rw [hrl]at h1;omega
  subst hjl
  rw [List.take_length]at hz
  rw [mR hz]
  ((conv=>whnf);repeat' ((first|(intro hq;(try simp only [lnS]at hq);(try rewrite [List.length_map]))|refine sJ ?_|refine .intro _ (.intro rfl ?_)|refine exL (k:= ?_)|refine dwR ?_|((first|refine aB ?_ ?_|refine aC ?_ ?_)<;>intro hb<;>(first|exact ddX hb|try simp only [lnS]at hb))|(refine aA ?_ ?_<;>intro hb<;>try exact dsX hb))<;>(conv=>whnf)))
  rfl
theorem aLx {T:List Stp}{R:List Str}{j:Nat}(h:j < R.length):sD T R 0 j=[.sl 2 [[.sl 1 [[.str R[j]]], .bool false]]]:=by
 unfold sD dJ
 rw [List.getElem?_eq_getElem h]
 rfl
theorem aLy (T:List Stp) (R:List Str) (k i:Nat):sD T R (k+1) i=[.sl 2 ((jA Op.bytesLess T (dJ T R k i)).map oL)]:=rfl
theorem zY (L:List Str):aSi (some L)= .sl 1 (L.map bN):=rfl
theorem jP.mono {T:List Stp}{k:Nat}{s s':Pth->Prop}{o:Option (List Str)}(h:jP T k s o) (hs: ∀p,s' p->s p):jP T k s' o:=by
 cases o with
 |none=>exact λp hp=>h p (hs p hp)
 |some L=>exact h
theorem aCh (l:List Ax) (hs: ∀x∈l,SmA x) (hn:l.length<=10000):Tri Tryz.prog 63 [.d (.sl 16 (l.map axR))] [] (RolP (eG l)):=by
 have hc:=xG l hs
 refine aF false [13] hty Tryz.func63 rfl (kp [0,2,3,4,5,6,7,8,9,10,11,12,13,17,29,45,51,60,82,95]) [] _ _ _ (by simp [Tryz.f63]) (by simp) ?_
 ((conv=>whnf);repeat ((first|(refine aD [] hc trivial (λr hs=> ?_);subst hs)|(intro hq;try simp only [lnS]at hq)|refine sI ?_|refine .intro _ (.intro rfl ?_));(conv=>whnf)))
 refine aC (λh1=> ?_) (λh1=> ?_)
 ·have hv:eG l=iE l:=by unfold eG;rw [if_pos h1]
  rw [hv]
  ((conv=>whnf);repeat' ((first|(intro hq;(try simp only [lnS]at hq);(try rewrite [List.length_map]))|refine sJ ?_|refine .intro _ (.intro rfl ?_)|refine exL (k:= ?_)|refine dwR ?_|((first|refine aB ?_ ?_|refine aC ?_ ?_)<;>intro hb<;>(first|exact ddX hb|try simp only [lnS]at hb))|(refine aA ?_ ?_<;>intro hb<;>try exact dsX hb))<;>(conv=>whnf)))
  exact⟨_,rfl⟩
 have h1:iE l=0:=by simpa using h1
 have hv:=(rI l).1 h1
 have hst:=aCd l hv hn
 have hal:=aJb l hv hn
 have hTl:=nL l λx hx=>(fK (hv x hx)).2.2
 have hrv1:jO (ET (cQ l))->eG l=60:= λh=>by unfold eG;rw [if_neg (by simp [h1]),if_pos h]
 have hrv0:¬ jO (ET (cQ l))->eG l=0:= λh=>by unfold eG;rw [if_neg (by simp [h1]),if_neg h]
 clear hc h1
 ((conv=>whnf);repeat ((first|(intro hq;try simp only [lnS]at hq)|refine sI ?_|refine .intro _ (.intro rfl ?_));(conv=>whnf)))
 refine aD [] hst trivial (λr hs=> ?_)
 subst hs
 ((conv=>whnf);repeat ((first|(intro hq;try simp only [lnS]at hq)|refine sI ?_|refine .intro _ (.intro rfl ?_));(conv=>whnf)))
 refine aD [] hal trivial (λr hs=> ?_)
 obtain⟨R,rfl,hR,hRl⟩:=hs.ex
 clear hst hal hs
 generalize cQ l=T at *
 generalize eG l=re at *
 have hrT:(T.map s6R).length=T.length:=List.length_map ..
 have hrR:(R.map bN).length=R.length:=List.length_map ..
 have hrRi:(((R.map bN).length:Nat):Int).toNat=R.length:=by rw [hrR];rfl
 have hm48:R.length * 24<=140737488355328:=by omega
 ((conv=>whnf);repeat ((first|(intro hq;try simp only [lnS]at hq)|refine sI ?_|refine .intro _ (.intro rfl ?_));(conv=>whnf)))
 rw [hrRi]
 refine aG hty (λj:Nat=>([(5, .d (.sl 3 (T.map s6R))),(6, .d (.sl 1 (R.map bN))),(7, .mw 25 1 R.length),(8, .d (.int .i64 j))],[(25, .mrow 132 1 R.length (mix (sD T R 0) (λ_=>[.nil]) R.length j))])) (λj=>j<=R.length) (λj=>R.length - j) 0 (by omega) ⟨by repeat' (first|exact trivial|exact rfl|refine And.intro ?_ ?_),congrArg (λr=>some (HObj.mrow 132 1 R.length r)) (aS4 (sD T R 0) [.nil] R.length),trivial⟩ ?_
 rintro j hj
 ((conv=>whnf);repeat ((first|(intro hq;try simp only [lnS]at hq)|refine sI ?_|refine .intro _ (.intro rfl ?_));(conv=>whnf)))
 refine aB (λh2=> ?_) (λh2=> ?_)
 ·have hjl:j < R.length:=by have h2:(j:Int) < ((R.map bN).length:Nat):=h2;rw [hrR]at h2;omega
  have hrow:=dO hjl
  have hset:=aMt (sD T R 0) (λ_=>[.nil]) hjl
  rw [aLx hjl]at hset
  have hrow1:=aMu (sD T R 0) (λ_=>[D.nil]) hjl
  have hml:=qZ (sD T R 0) (λ_=>[D.nil]) R.length j
  generalize R[j]=s at *
  ((conv=>whnf);repeat ((first|(refine⟨_,hrow, ?_⟩)|(refine⟨_,hrow1, ?_⟩)|(intro hq;try simp only [lnS]at hq)|refine sI ?_|refine .intro _ (.intro rfl ?_));(conv=>whnf)))
  refine⟨j+1,by omega,by dsimp only;omega, ?_⟩
  dsimp only
  rw [<-hset]
  exact⟨by repeat' (first|exact trivial|exact rfl|refine And.intro ?_ ?_),by repeat' (first|exact trivial|exact rfl|refine And.intro ?_ ?_)⟩
 have hjl:j=R.length:=by have h2:¬ (j:Int) < ((R.map bN).length:Nat):=h2;rw [hrR]at h2;omega
 subst hjl
 rw [aH3 (sD T R 0) (λ_=>[.nil]) (sD T R 1)]
 clear h2 hj
 ((conv=>whnf);repeat ((first|(intro hq;try simp only [lnS]at hq)|refine sI ?_|refine .intro _ (.intro rfl ?_));(conv=>whnf)))
 refine aG hty (λk:Nat=>([(5, .d (.sl 3 (T.map s6R))),(6, .d (.sl 1 (R.map bN))),(7, .mw 25 1 R.length),(9, .d (.int .i64 ((k+1:Nat):Int)))],[(25, .mrow 132 1 R.length (mix (sD T R (k+1)) (sD T R k) R.length 0))])) (λk=>k<=R.length/\ ∀k',k' < k-> ∀i,i < R.length-> ∀p∈dJ T R k' i,iD T p=false) (λk=>R.length - k) 0 ⟨by omega,by intro k' h;omega⟩ ⟨by repeat' (first|exact trivial|exact rfl|refine And.intro ?_ ?_),by repeat' (first|exact trivial|exact rfl|refine And.intro ?_ ?_)⟩ ?_
 rintro k ⟨hk,hz⟩
 ((conv=>whnf);repeat ((first|(intro hq;try simp only [lnS]at hq)|refine sI ?_|refine .intro _ (.intro rfl ?_));(conv=>whnf)))
 refine aB (λh2=> ?_) (λh2=> ?_)
 ·have hkl:k < R.length:=by have h2:((k+1:Nat):Int)<=((R.map bN).length:Nat):=h2;rw [hrR]at h2;omega
  clear h2
  ((conv=>whnf);repeat ((first|(intro hq;try simp only [lnS]at hq)|refine sI ?_|refine .intro _ (.intro rfl ?_));(conv=>whnf)))
  refine aG hty (λy:Nat×Option (List Str)=>([(5, .d (.sl 3 (T.map s6R))),(6, .d (.sl 1 (R.map bN))),(7, .mw 25 1 R.length),(9, .d (.int .i64 ((k+1:Nat):Int))),(10, .d (aSi y.2)),(11, .d (.int .i64 y.1))],[(25, .mrow 132 1 R.length (mix (sD T R (k+1)) (sD T R k) R.length y.1))])) (λy=>y.1<=R.length/\jP T k (λp=> ∃i,i < y.1/\p∈dJ T R k i) y.2) (λy=>R.length - y.1) (0,none) ⟨by dsimp only;omega,by rintro p ⟨i,h,_⟩;dsimp only at h;omega⟩ ⟨by repeat' (first|exact trivial|exact rfl|refine And.intro ?_ ?_),by repeat' (first|exact trivial|exact rfl|refine And.intro ?_ ?_)⟩ ?_
  rintro⟨i,o⟩ ⟨hi,hB⟩
  dsimp only at hi hB
  ((conv=>whnf);repeat ((first|(intro hq;try simp only [lnS]at hq)|refine sI ?_|refine .intro _ (.intro rfl ?_));(conv=>whnf)))
  refine aB (λh3=> ?_) (λh3=> ?_)
  ·have hil:i < R.length:=by have h3:(i:Int) < ((R.map bN).length:Nat):=h3;rw [hrR]at h3;omega
   clear h3
   have hrow:=aMu (sD T R (k+1)) (sD T R k) hil
   have hset:=aMt (sD T R (k+1)) (sD T R k) hil
   rw [aLy]at hset
   have hml:=qZ (sD T R (k+1)) (sD T R k) R.length i
   generalize mix (sD T R (k+1)) (sD T R k) R.length i=M at *
   have hrP:sD T R k i=[.sl 2 ((dJ T R k i).map oL)]:=rfl
   rw [hrP]at hrow
   have hlens:=aCm T R k i
   have hfew:=aJf T R k i
   have hcir:= λp=>aFb (T:=T) (R:=R) (k:=k) (i:=i) (p:=p)
   have hlo:=aCg (dJ T R k i) T k hlens (by omega) (by omega) (by omega)
   have hnext:jP T k (λp=>(∃i',i' < i/\p∈dJ T R k i')\/p∈dJ T R k i) o->True:= λ_=>trivial
   have hB0:jP T k (λp=>(∃i',i' < i/\p∈dJ T R k i')\/p∈(dJ T R k i).take 0) o:=hB.mono λp hp=>by
    rcases hp with hp|hp
    ·exact hp
    ·simp at hp
   have hB1: ∀o,jP T k (λp=>(∃i',i' < i/\p∈dJ T R k i')\/p∈dJ T R k i) o->jP T k (λp=> ∃i',i' < i+1/\p∈dJ T R k i') o:= λo h=>h.mono λp ⟨i',h1,h2⟩=>by
    by_cases e:i'=i
    ·subst e;exact .inr h2
    ·exact .inl ⟨i',by omega,h2⟩
   clear hB hnext hrP
   generalize hW:(λp=> ∃i',i' < i/\p∈dJ T R k i')=W at *
   have hB0:jP T k (λp=>W p\/p∈(dJ T R k i).take 0) o:=by rw [<-hW];exact hB0
   have hB1: ∀o,jP T k (λp=>W p\/p∈dJ T R k i) o->jP T k (λp=> ∃i',i' < i+1/\p∈dJ T R k i') o:= λo h=>hB1 o (by rw [<-hW]at h;exact h)
   generalize hps:dJ T R k i=ps at hrow hlens hfew hcir hlo hset hB0 hB1
   have hrp:(ps.map oL).length=ps.length:=List.length_map ..
   clear hW
   ((conv=>whnf);repeat ((first|(intro hq;try simp only [lnS]at hq)|refine sI ?_|refine .intro _ (.intro rfl ?_));(conv=>whnf)))
   refine aG hty (λy:Nat×Option (List Str)=>([(5, .d (.sl 3 (T.map s6R))),(6, .d (.sl 1 (R.map bN))),(7, .mw 25 1 R.length),(9, .d (.int .i64 ((k+1:Nat):Int))),(10, .d (aSi y.2)),(11, .d (.int .i64 i)),(12, .d (.int .i64 y.1))],[(25, .mrow 132 1 R.length M)])) (λy=>y.1<=ps.length/\jP T k (λp=>W p\/p∈ps.take y.1) y.2) (λy=>ps.length - y.1) (0,o) ⟨by dsimp only;omega,hB0⟩ ⟨(by repeat' (first|exact trivial|exact rfl|exact rS _|exact⟨rfl,rfl⟩|refine And.intro ?_ ?_)),by repeat' (first|exact trivial|exact rfl|refine And.intro ?_ ?_)⟩ ?_
   clear hB0
   rintro⟨q,o⟩ ⟨hq,hB⟩
   dsimp only at hq hB
   ((conv=>whnf);repeat ((first|(refine⟨_,hrow, ?_⟩)|(intro hq;try simp only [lnS]at hq)|refine sI ?_|refine .intro _ (.intro rfl ?_));(conv=>whnf)))
   refine aB (λh4=> ?_) (λh4=> ?_)
   ·have hql:q < ps.length:=by have h4:(q:Int) < ((ps.map oL).length:Nat):=h4;rw [hrp]at h4;omega
    clear h4
    have hrowq:=aAx hql
    have hpl:=hlens _ (List.getElem_mem hql)
    have hci:=hcir _ (List.getElem_mem hql)
    have hcl:=aAw ps[q] T k hpl (by omega)
    have hk2:iD T ps[q]=false->jP T k (λp=>W p\/p∈ps.take (q+1)) o:= λh=>by
     cases o with
     |none=>
      rintro p (hp|hp)
      ·exact hB p (.inl hp)
      ·rw [List.take_succ_eq_append_getElem hql]at hp
       rcases List.mem_append.1 hp with hp|hp
       ·exact hB p (.inr hp)
       ·simp only [List.mem_singleton]at hp;rw [hp];exact h
     |some L=>exact hB
    generalize iD T ps[q]=cb at *
    generalize ps[q]=p at *
    ((conv=>whnf);repeat ((first|(refine⟨_,hrow, ?_⟩)|(refine⟨_,hrowq, ?_⟩)|(intro hq;try simp only [lnS]at hq)|refine sI ?_|refine .intro _ (.intro rfl ?_));(conv=>whnf)))
    ((conv=>whnf);repeat ((first|(refine aD [] hcl trivial (λr hs=> ?_);subst hs)|(intro hq;try simp only [lnS]at hq)|refine sI ?_|refine .intro _ (.intro rfl ?_));(conv=>whnf)))
    cases cb
    ·have hk2:=hk2 rfl
     ((conv=>whnf);repeat ((first|(intro hq;try simp only [lnS]at hq)|refine sI ?_|refine .intro _ (.intro rfl ?_));(conv=>whnf)))
     refine⟨(q+1,o),⟨by dsimp only;omega,hk2⟩,by dsimp only;omega,⟨(by repeat' (first|exact trivial|exact rfl|exact rS _|exact⟨rfl,rfl⟩|refine And.intro ?_ ?_)),by repeat' (first|exact trivial|exact rfl|refine And.intro ?_ ?_)⟩⟩
    ·cases o with
     |none=>
      ((conv=>whnf);repeat ((first|(intro hq;try simp only [lnS]at hq)|refine sI ?_|refine .intro _ (.intro rfl ?_));(conv=>whnf)))
      refine⟨(q+1,some p.1),⟨by dsimp only;omega,hpl,hci rfl⟩,by dsimp only;omega,⟨by repeat' (first|exact trivial|exact rfl|refine And.intro ?_ ?_),by repeat' (first|exact trivial|exact rfl|refine And.intro ?_ ?_)⟩⟩
     |some L=>
      have hless:=uQ p.1 L (by rw [hpl,hB.1];exact Nat.le_refl _) (by rw [hB.1];omega)
      have hk2:jP T k (λp=>W p\/p∈ps.take (q+1)) (some L):=hB
      have hL0:L.map bN≠[]:= λh=>by have:=hB.1;rw [List.map_eq_nil_iff.1 h]at this;simp at this
      rw [zY]
      generalize rB Op.bytesLess p.1 L=lb at *
      ((conv=>whnf);repeat ((first|(intro hq;try simp only [lnS]at hq)|refine sI ?_|refine .intro _ (.intro rfl ?_));(conv=>whnf)))
      rename_i bb
      cases bb
      ·((conv=>whnf);repeat ((first|(refine aD [] hless trivial (λr hs=> ?_);subst hs)|(intro hq;try simp only [lnS]at hq)|refine sI ?_|refine .intro _ (.intro rfl ?_));(conv=>whnf)))
       cases lb
       ·((conv=>whnf);repeat ((first|(intro hq;try simp only [lnS]at hq)|refine sI ?_|refine .intro _ (.intro rfl ?_));(conv=>whnf)))
        refine⟨(q+1,some L),⟨by dsimp only;omega,hk2⟩,by dsimp only;omega,⟨by repeat' (first|exact trivial|exact rfl|refine And.intro ?_ ?_),by repeat' (first|exact trivial|exact rfl|refine And.intro ?_ ?_)⟩⟩
       ·((conv=>whnf);repeat ((first|(intro hq;try simp only [lnS]at hq)|refine sI ?_|refine .intro _ (.intro rfl ?_));(conv=>whnf)))
        refine⟨(q+1,some p.1),⟨by dsimp only;omega,hpl,hci rfl⟩,by dsimp only;omega,⟨by repeat' (first|exact trivial|exact rfl|refine And.intro ?_ ?_),by repeat' (first|exact trivial|exact rfl|refine And.intro ?_ ?_)⟩⟩
      ·exact absurd (hq rfl) hL0
   have hql:q=ps.length:=by have h4:¬ (q:Int) < ((ps.map oL).length:Nat):=h4;rw [hrp]at h4;omega
   subst hql
   rw [List.take_length]at hB
   have hB2:=hB1 o hB
   ((conv=>whnf);repeat ((first|(refine⟨_,hrow, ?_⟩)|(refine aD [] hlo trivial (λr hs=> ?_);subst hs)|(intro hq;try simp only [lnS]at hq)|refine sI ?_|refine .intro _ (.intro rfl ?_));(conv=>whnf)))
   refine⟨(i+1,o),⟨by dsimp only;omega,hB2⟩,by dsimp only;omega, ?_⟩
   dsimp only
   rw [<-hset]
   exact⟨(by repeat' (first|exact trivial|exact rfl|exact rS _|exact⟨rfl,rfl⟩|refine And.intro ?_ ?_)),by repeat' (first|exact trivial|exact rfl|refine And.intro ?_ ?_)⟩
  have hil:i=R.length:=by have h3:¬ (i:Int) < ((R.map bN).length:Nat):=h3;rw [hrR]at h3;omega
  subst hil
  rw [aH3 (sD T R (k+1)) (sD T R k) (sD T R (k+1+1))]
  cases o with
  |none=>
   ((conv=>whnf);repeat ((first|(intro hq;try simp only [lnS]at hq)|refine sI ?_|refine .intro _ (.intro rfl ?_));(conv=>whnf)))
   refine⟨k+1,⟨by omega,λk' hk' i hi p hp=> ?_⟩,by dsimp only;omega,⟨by repeat' (first|exact trivial|exact rfl|refine And.intro ?_ ?_),by repeat' (first|exact trivial|exact rfl|refine And.intro ?_ ?_)⟩⟩
   by_cases e:k'=k
   ·subst e;exact hB p ⟨i,hi,hp⟩
   ·exact hz k' (by omega) i hi p hp
  |some L=>
   have hL0:L.map bN≠[]:= λh=>by have:=hB.1;rw [List.map_eq_nil_iff.1 h]at this;simp at this
   rw [zY,hrv1 hB.2]
   ((conv=>whnf);repeat ((first|(intro hq;try simp only [lnS]at hq)|refine sI ?_|refine .intro _ (.intro rfl ?_));(conv=>whnf)))
   rename_i bb
   cases bb
   ·((conv=>whnf);repeat' ((first|(intro hq;(try simp only [lnS]at hq);(try rewrite [List.length_map]))|refine sJ ?_|refine .intro _ (.intro rfl ?_)|refine exL (k:= ?_)|refine dwR ?_|((first|refine aB ?_ ?_|refine aC ?_ ?_)<;>intro hb<;>(first|exact ddX hb|try simp only [lnS]at hb))|(refine aA ?_ ?_<;>intro hb<;>try exact dsX hb))<;>(conv=>whnf)))
    exact⟨_,rfl⟩
   ·exact absurd (hq rfl) hL0
 have hkl:k=R.length:=by have h2:¬ ((k+1:Nat):Int)<=((R.map bN).length:Nat):=h2;rw [hrR]at h2;omega
 subst hkl
 rw [hrv0 (aEx hR hz)]
 ((conv=>whnf);repeat' ((first|(intro hq;(try simp only [lnS]at hq);(try rewrite [List.length_map]))|refine sJ ?_|refine .intro _ (.intro rfl ?_)|refine exL (k:= ?_)|refine dwR ?_|((first|refine aB ?_ ?_|refine aC ?_ ?_)<;>intro hb<;>(first|exact ddX hb|try simp only [lnS]at hb))|(refine aA ?_ ?_<;>intro hb<;>try exact dsX hb))<;>(conv=>whnf)))
 exact⟨_,rfl⟩
end Go.Proofs.YtfhoddcminbffaaGreatDoor
namespace Go.Proofs.YtfhoddcminbffaaGreatDoor
open Go.Proofs
set_option maxRecDepth 10000
attribute [local irreducible] aM aJ Tri aH YVC dI bI
theorem zI: ∀{l:List Ax}{j:Nat}(h:j < l.length),(∀x∈l.take j,aS x=(x,0))->((aS l[j]).2≠0->fJ l=(aS l[j]).2)/\((aS l[j]).2=0->eqA l[j] (aS l[j]).1=false->fJ l=22)
 |x::r,0,_,_=>by
  rw [fJ]
  exact⟨λh=>if_pos h,λh h2=>by rw [if_neg (λq=>q h)];exact if_pos h2⟩
 |x::r,j+1,hl,hz=>by
  have hx:=hz x (by simp)
  have e:fJ (x::r)=fJ r:=by
   rw [fJ,hx]
   rw [if_neg (by simp),if_neg]
   rw [jC.2 rfl];simp
  rw [e]
  exact zI (l:=r) (j:=j) (by simpa using hl) (λy hy=>hz y (by rw [List.take_succ_cons];exact List.mem_cons_of_mem _ hy))
theorem aQ4 (x y:Ax):eqA x y=eqA y x:=by
 rw [Bool.eq_iff_iff,jC,jC];exact eq_comm
theorem aEp {l:List Ax}{j:Nat}(h:j+1 < l.length) (h1:¬ aQ l[j] l[j+1] < 0):fA l=false:=by
 rw [Bool.eq_false_iff]
 intro hs
 have:=(iP l).1 hs
 exact h1 (List.pairwise_iff_getElem.1 this j (j+1) (by omega) h (by omega))
theorem aIu {l:List Ax}(h: ∀j (h:j+1 < l.length),aQ l[j] l[j+1] < 0):fA l=true:=by
 rw [iP]
 refine List.pairwise_iff_getElem.2 λi j hi hj hij=> ?_
 have key: ∀d i (hi:i+d+1 < l.length),aQ l[i] l[i+d+1] < 0:=by
  intro d
  induction d with
  |zero=>intro i hi;exact h i hi
  |succ d ih=>
   intro i hi
   exact lL (ih i (by omega)) (h (i+d+1) (by omega))
 have:=key (j - i - 1) i (by omega)
 have e:i+(j - i - 1)+1=j:=by omega
 simp only [e]at this
 exact this
theorem gX (l:List Ax) (hs: ∀x∈l,SmA x) (hn:l.length<=10000):Tri Tryz.prog 23 [.d (hZ l)] [] (λr=>r= .d (.int .i64 (aY l))):=by
 have hrl:(l.map axR).length=l.length:=List.length_map ..
 have h6:=aCh l hs hn
 refine aF false [1,4] hty Tryz.func23 rfl (kp [0,1,2,3,4,5,6,7,9,14,27,36,41,56,60,65,82,90]) [] _ _ _ (by simp [Tryz.f23]) (by simp) ?_
 ((conv=>whnf);repeat ((first|(intro hq;try simp only [lnS]at hq)|refine sI ?_|refine .intro _ (.intro rfl ?_));(conv=>whnf)))
 refine aG hty (λj:Nat=>([(1, .ea 1 [[.sl 16 (l.map axR)]] 0 0),(3, .d (.int .i64 j))],[])) (λj=>j<=l.length/\ ∀x∈l.take j,aS x=(x,0)) (λj=>l.length - j) 0 ⟨by omega,by simp⟩ ⟨by repeat' (first|exact trivial|exact rfl|refine And.intro ?_ ?_),by repeat' (first|exact trivial|exact rfl|refine And.intro ?_ ?_)⟩ ?_
 rintro j ⟨hj,hz⟩
 ((conv=>whnf);repeat ((first|(intro hq;try simp only [lnS]at hq)|refine sI ?_|refine .intro _ (.intro rfl ?_));(conv=>whnf)))
 refine aB (λh1=> ?_) (λh1=> ?_)
 ·have hjl:j < l.length:=by have h1:(j:Int) < ((l.map axR).length:Nat):=h1;rw [hrl]at h1;omega
  have hrow:=bR hjl
  have hx:=hs _ (List.getElem_mem hjl)
  have ct:=iT l[j] hx.1 hx.2.1
  obtain⟨e1,e2⟩:=zI hjl hz
  have hz2:(aS l[j]).2=0->eqA (aS l[j]).1 l[j]=true-> ∀x∈l.take (j+1),aS x=(x,0):= λh2 h3 x hx=>by
   rw [List.take_succ_eq_append_getElem hjl]at hx
   rcases List.mem_append.1 hx with hx|hx
   ·exact hz x hx
   ·simp only [List.mem_singleton]at hx;subst hx;exact Prod.ext (jC.1 h3) h2
  have cs:= λh2:(aS l[j]).2=0=>uP (aS l[j]).1 l[j] (lC h2) hx
  rw [aQ4]at e2
  generalize eqA (aS l[j]).1 l[j]=q at *
  generalize (aS l[j]).1=t at *
  generalize (aS l[j]).2=e at *
  generalize l[j]=x at *
  clear hx
  ((conv=>whnf);repeat ((first|(refine⟨_,hrow, ?_⟩)|(refine aD [] ct trivial (λr hs=> ?_);subst hs)|(intro hq;try simp only [lnS]at hq)|refine sI ?_|refine .intro _ (.intro rfl ?_));(conv=>whnf)))
  refine aC (λh2=> ?_) (λh2=> ?_)
  ·have hv:aY l=e:=by unfold aY;rw [e1 h2,if_pos h2]
   rw [hv]
   ((conv=>whnf);repeat' ((first|(intro hq;(try simp only [lnS]at hq);(try rewrite [List.length_map]))|refine sJ ?_|refine .intro _ (.intro rfl ?_)|refine exL (k:= ?_)|refine dwR ?_|((first|refine aB ?_ ?_|refine aC ?_ ?_)<;>intro hb<;>(first|exact ddX hb|try simp only [lnS]at hb))|(refine aA ?_ ?_<;>intro hb<;>try exact dsX hb))<;>(conv=>whnf)))
   rfl
  ·have h2:e=0:=by simpa using h2
   have cs:=cs h2
   ((conv=>whnf);repeat ((first|(intro hq;try simp only [lnS]at hq)|refine sI ?_|refine .intro _ (.intro rfl ?_));(conv=>whnf)))
   refine dwR ?_
   ((conv=>whnf);repeat ((first|(refine⟨_,hrow, ?_⟩)|(refine⟨.d (.bool _),_,[],rfl,trivial,cs, ?_⟩)|(intro hq;try simp only [lnS]at hq)|refine sI ?_|refine .intro _ (.intro rfl ?_));(conv=>whnf)))
   cases q
   ·have hv:aY l=22:=by unfold aY;rw [e2 h2 rfl,if_pos (by simp)]
    rw [hv]
    ((conv=>whnf);repeat' ((first|(intro hq;(try simp only [lnS]at hq);(try rewrite [List.length_map]))|refine sJ ?_|refine .intro _ (.intro rfl ?_)|refine exL (k:= ?_)|refine dwR ?_|((first|refine aB ?_ ?_|refine aC ?_ ?_)<;>intro hb<;>(first|exact ddX hb|try simp only [lnS]at hb))|(refine aA ?_ ?_<;>intro hb<;>try exact dsX hb))<;>(conv=>whnf)))
    rfl
   ·((conv=>whnf);repeat' ((first|(intro hq;(try simp only [lnS]at hq);(try rewrite [List.length_map]))|refine sJ ?_|refine .intro _ (.intro rfl ?_)|refine exL (k:= ?_)|refine dwR ?_|((first|refine aB ?_ ?_|refine aC ?_ ?_)<;>intro hb<;>(first|exact ddX hb|try simp only [lnS]at hb))|(refine aA ?_ ?_<;>intro hb<;>try exact dsX hb))<;>(conv=>whnf)))
    exact⟨j+1,⟨by omega,hz2 h2 rfl⟩,by dsimp only;omega,⟨by repeat' (first|exact trivial|exact rfl|refine And.intro ?_ ?_),by repeat' (first|exact trivial|exact rfl|refine And.intro ?_ ?_)⟩⟩
 have hjl:j=l.length:=by have h1:¬ (j:Int) < ((l.map axR).length:Nat):=h1;rw [hrl]at h1;omega
 subst hjl
 rw [List.take_length]at hz
 have hF:=(gI l).2 hz
 have hcv:aY l=if fA l=false then 70 else if 1024 < l.length then 2 else if l.any dP=true then 71 else eG l:=by
  unfold aY;rw [hF,if_neg (by simp)]
 rw [hcv]
 clear hcv hF h1 hj
 ((conv=>whnf);repeat ((first|(intro hq;try simp only [lnS]at hq)|refine sI ?_|refine .intro _ (.intro rfl ?_));(conv=>whnf)))
 refine aG hty (λj:Nat=>([(1, .ea 1 [[.sl 16 (l.map axR)]] 0 0),(6, .d (.int .i64 ((j+1:Nat):Int)))],[])) (λj=>j<=l.length/\ ∀i (h:i+1 < l.length),i < j->aQ l[i] l[i+1] < 0) (λj=>l.length - j) 0 ⟨by omega,λi _ h=>by omega⟩ ⟨by repeat' (first|exact trivial|exact rfl|refine And.intro ?_ ?_),by repeat' (first|exact trivial|exact rfl|refine And.intro ?_ ?_)⟩ ?_
 rintro j ⟨hj,ho⟩
 ((conv=>whnf);repeat ((first|(intro hq;try simp only [lnS]at hq)|refine sI ?_|refine .intro _ (.intro rfl ?_));(conv=>whnf)))
 refine aB (λh1=> ?_) (λh1=> ?_)
 ·have hjl:j+1 < l.length:=by have h1:((j+1:Nat):Int) < ((l.map axR).length:Nat):=h1;rw [hrl]at h1;omega
  have hrow1:(l.map axR)[((((j+1:Nat):Int)) - 1).toNat]? =some (axR l[j]):=by
   have e:((((j+1:Nat):Int)) - 1).toNat=j:=by omega
   rw [e,List.getElem?_map,List.getElem?_eq_getElem (by omega)];rfl
  have hrow2:=bR hjl
  have hx:=hs _ (List.getElem_mem (show j < l.length by omega))
  have hy:=hs _ (List.getElem_mem hjl)
  have c:=eH l[j] l[j+1] hx.1 hx.2.1 hx.2.2 hy.1 hy.2.1 hy.2.2
  have hbad:=aEp hjl
  have ho2:aQ l[j] l[j+1] < 0-> ∀i (h:i+1 < l.length),i < j+1->aQ l[i] l[i+1] < 0:= λh2 i h hi=>by
   by_cases e:i=j
   ·subst e;exact h2
   ·exact ho i h (by omega)
  clear hx hy ho
  generalize aQ l[j] l[j+1]=v at *
  generalize l[j]=x at *
  generalize l[j+1]=y at *
  refine dwR ?_
  ((conv=>whnf);repeat ((first|(refine⟨_,hrow1, ?_⟩)|(refine⟨_,hrow2, ?_⟩)|(refine⟨.d (.int .i64 _),_,[],rfl,trivial,c, ?_⟩)|(intro hq;try simp only [lnS]at hq)|refine sI ?_|refine .intro _ (.intro rfl ?_));(conv=>whnf)))
  refine aB (λh2=> ?_) (λh2=> ?_)
  ·rw [if_pos (hbad (by omega))]
   ((conv=>whnf);repeat' ((first|(intro hq;(try simp only [lnS]at hq);(try rewrite [List.length_map]))|refine sJ ?_|refine .intro _ (.intro rfl ?_)|refine exL (k:= ?_)|refine dwR ?_|((first|refine aB ?_ ?_|refine aC ?_ ?_)<;>intro hb<;>(first|exact ddX hb|try simp only [lnS]at hb))|(refine aA ?_ ?_<;>intro hb<;>try exact dsX hb))<;>(conv=>whnf)))
   rfl
  ·((conv=>whnf);repeat' ((first|(intro hq;(try simp only [lnS]at hq);(try rewrite [List.length_map]))|refine sJ ?_|refine .intro _ (.intro rfl ?_)|refine exL (k:= ?_)|refine dwR ?_|((first|refine aB ?_ ?_|refine aC ?_ ?_)<;>intro hb<;>(first|exact ddX hb|try simp only [lnS]at hb))|(refine aA ?_ ?_<;>intro hb<;>try exact dsX hb))<;>(conv=>whnf)))
   exact⟨j+1,⟨by omega,ho2 (by omega)⟩,by dsimp only;omega,⟨by repeat' (first|exact trivial|exact rfl|refine And.intro ?_ ?_),by repeat' (first|exact trivial|exact rfl|refine And.intro ?_ ?_)⟩⟩
 have hjl:¬ j+1 < l.length:=by have h1:¬ ((j+1:Nat):Int) < ((l.map axR).length:Nat):=h1;rw [hrl]at h1;omega
 rw [if_neg (by rw [aIu λi h=>ho i h (by omega)];simp)]
 clear h1 ho hj hjl
 ((conv=>whnf);repeat ((first|(intro hq;try simp only [lnS]at hq)|refine sI ?_|refine .intro _ (.intro rfl ?_));(conv=>whnf)))
 refine aB (λh1=> ?_) (λh1=> ?_)
 ·have h1:(1024:Int) < ((l.map axR).length:Nat):=h1
  rw [if_pos (by rw [hrl]at h1;omega)]
  ((conv=>whnf);repeat' ((first|(intro hq;(try simp only [lnS]at hq);(try rewrite [List.length_map]))|refine sJ ?_|refine .intro _ (.intro rfl ?_)|refine exL (k:= ?_)|refine dwR ?_|((first|refine aB ?_ ?_|refine aC ?_ ?_)<;>intro hb<;>(first|exact ddX hb|try simp only [lnS]at hb))|(refine aA ?_ ?_<;>intro hb<;>try exact dsX hb))<;>(conv=>whnf)))
  rfl
 have h1:¬ (1024:Int) < ((l.map axR).length:Nat):=h1
 rw [if_neg (by rw [hrl]at h1;omega)]
 clear h1
 ((conv=>whnf);repeat ((first|(intro hq;try simp only [lnS]at hq)|refine sI ?_|refine .intro _ (.intro rfl ?_));(conv=>whnf)))
 refine aG hty (λj:Nat=>([(1, .ea 1 [[.sl 16 (l.map axR)]] 0 0),(7, .d (.int .i64 j))],[])) (λj=>j<=l.length/\ ∀x∈l.take j,dP x=false) (λj=>l.length - j) 0 ⟨by omega,by simp⟩ ⟨by repeat' (first|exact trivial|exact rfl|refine And.intro ?_ ?_),by repeat' (first|exact trivial|exact rfl|refine And.intro ?_ ?_)⟩ ?_
 rintro j ⟨hj,ho⟩
 ((conv=>whnf);repeat ((first|(intro hq;try simp only [lnS]at hq)|refine sI ?_|refine .intro _ (.intro rfl ?_));(conv=>whnf)))
 refine aB (λh1=> ?_) (λh1=> ?_)
 ·have hjl:j < l.length:=by have h1:(j:Int) < ((l.map axR).length:Nat):=h1;rw [hrl]at h1;omega
  have hrow:=bR hjl
  have c:=aF3 l[j]
  have hbad:dP l[j]=true->l.any dP=true:= λh=>List.any_eq_true.2 ⟨_,List.getElem_mem hjl,h⟩
  have ho2:dP l[j]=false-> ∀x∈l.take (j+1),dP x=false:= λh2 x hx=>by
   rw [List.take_succ_eq_append_getElem hjl]at hx
   rcases List.mem_append.1 hx with hx|hx
   ·exact ho x hx
   ·simp only [List.mem_singleton]at hx;subst hx;exact h2
  have hse:dP l[j]=(uJ l[j] && !l[j].isopen):=rfl
  clear ho
  generalize uJ l[j]=ra at *
  generalize dP l[j]=sv at *
  generalize l[j]=x at *
  ((conv=>whnf);repeat ((first|(refine⟨_,hrow, ?_⟩)|(refine aD [] c trivial (λr hs=> ?_);subst hs)|(intro hq;try simp only [lnS]at hq)|refine sI ?_|refine .intro _ (.intro rfl ?_));(conv=>whnf)))
  cases ra
  ·((conv=>whnf);repeat' ((first|(intro hq;(try simp only [lnS]at hq);(try rewrite [List.length_map]))|refine sJ ?_|refine .intro _ (.intro rfl ?_)|refine exL (k:= ?_)|refine dwR ?_|((first|refine aB ?_ ?_|refine aC ?_ ?_)<;>intro hb<;>(first|exact ddX hb|try simp only [lnS]at hb))|(refine aA ?_ ?_<;>intro hb<;>try exact dsX hb))<;>(conv=>whnf)))
   exact⟨j+1,⟨by omega,ho2 (by rw [hse];rfl)⟩,by dsimp only;omega,⟨by repeat' (first|exact trivial|exact rfl|refine And.intro ?_ ?_),by repeat' (first|exact trivial|exact rfl|refine And.intro ?_ ?_)⟩⟩
  ·((conv=>whnf);repeat ((first|(refine⟨_,hrow, ?_⟩)|(intro hq;try simp only [lnS]at hq)|refine sI ?_|refine .intro _ (.intro rfl ?_));(conv=>whnf)))
   cases hop:x.isopen
   ·rw [if_pos (hbad (by rw [hse,hop];rfl))]
    ((conv=>whnf);repeat' ((first|(intro hq;(try simp only [lnS]at hq);(try rewrite [List.length_map]))|refine sJ ?_|refine .intro _ (.intro rfl ?_)|refine exL (k:= ?_)|refine dwR ?_|((first|refine aB ?_ ?_|refine aC ?_ ?_)<;>intro hb<;>(first|exact ddX hb|try simp only [lnS]at hb))|(refine aA ?_ ?_<;>intro hb<;>try exact dsX hb))<;>(conv=>whnf)))
    rfl
   ·((conv=>whnf);repeat' ((first|(intro hq;(try simp only [lnS]at hq);(try rewrite [List.length_map]))|refine sJ ?_|refine .intro _ (.intro rfl ?_)|refine exL (k:= ?_)|refine dwR ?_|((first|refine aB ?_ ?_|refine aC ?_ ?_)<;>intro hb<;>(first|exact ddX hb|try simp only [lnS]at hb))|(refine aA ?_ ?_<;>intro hb<;>try exact dsX hb))<;>(conv=>whnf)))
    exact⟨j+1,⟨by omega,ho2 (by rw [hse,hop];rfl)⟩,by dsimp only;omega,⟨by repeat' (first|exact trivial|exact rfl|refine And.intro ?_ ?_),by repeat' (first|exact trivial|exact rfl|refine And.intro ?_ ?_)⟩⟩
 have hjl:j=l.length:=by have h1:¬ (j:Int) < ((l.map axR).length:Nat):=h1;rw [hrl]at h1;omega
 subst hjl
 rw [List.take_length]at ho
 rw [if_neg (by rw [Bool.not_eq_true,List.any_eq_false];intro x hx;simp [ho x hx])]
 have hr:eG l=0\/eG l=60:=by
  unfold eG
  rw [if_neg (by rw [mR λx hx=>cP (by rw [hz x hx])];simp)]
  split
  ·exact .inr rfl
  ·exact .inl rfl
 generalize eG l=e at *
 ((conv=>whnf);repeat ((first|(refine aD [] h6 trivial (λr hs=> ?_);obtain⟨s,rfl⟩:=hs.ex)|(intro hq;try simp only [lnS]at hq)|refine sI ?_|refine .intro _ (.intro rfl ?_));(conv=>whnf)))
 refine aC (λh2=> ?_) (λh2=> ?_)
 ·rw [show e=60 by omega]
  ((conv=>whnf);repeat' ((first|(intro hq;(try simp only [lnS]at hq);(try rewrite [List.length_map]))|refine sJ ?_|refine .intro _ (.intro rfl ?_)|refine exL (k:= ?_)|refine dwR ?_|((first|refine aB ?_ ?_|refine aC ?_ ?_)<;>intro hb<;>(first|exact ddX hb|try simp only [lnS]at hb))|(refine aA ?_ ?_<;>intro hb<;>try exact dsX hb))<;>(conv=>whnf)))
  rfl
 ·rw [show e=0 by simpa using h2]
  ((conv=>whnf);repeat' ((first|(intro hq;(try simp only [lnS]at hq);(try rewrite [List.length_map]))|refine sJ ?_|refine .intro _ (.intro rfl ?_)|refine exL (k:= ?_)|refine dwR ?_|((first|refine aB ?_ ?_|refine aC ?_ ?_)<;>intro hb<;>(first|exact ddX hb|try simp only [lnS]at hb))|(refine aA ?_ ?_<;>intro hb<;>try exact dsX hb))<;>(conv=>whnf)))
  rfl
end Go.Proofs.YtfhoddcminbffaaGreatDoor
