/-
  Terms: the reference's TidyAxiom, as a plain function. Small rules for the orders of a region. Terms: the reference's TidyAxiom. Layer 7, reference: SameAxiom, SameAxioms, Same, Role, place. Layer 6, reference: Has, With, checked, All. Layer 6, reference: how many paths there are, plainly. Layer 6, reference: less and closes. Layer 6, reference: exempt. Layer 6, reference: exempt and steps.
  Conditions: none.
-/
import Derived.Test.YtbobcfjlbcgchaaGreatDoorVDd
import Derived.Test.YtbobcfjlbcgchaaGreatDoorVOf
import Derived.Test.YtbobcfjlbcgchaaGreatDoorVDe
import Derived.Test.YtbobcfjlbcgchaaGreatDoorVQf
import Derived.Test.YtbobcfjlbcgchaaGreatDoorVSna
import Derived.Test.YtbobcfjlbcgchaaGreatDoorVQh
import Derived.Test.YtbobcfjlbcgchaaGreatDoorVSyc
set_option linter.unnecessarySimpa false
set_option linter.unusedSectionVars false
set_option linter.unusedSimpArgs false
set_option linter.unusedVariables false
namespace Go.Proofs.YtbobcfjlbcgchaaGreatDoor
open Go.Proofs
set_option maxRecDepth 10000
attribute [local irreducible] aJ aF Tri aG YVC bS aQ
end Go.Proofs.YtbobcfjlbcgchaaGreatDoor
namespace Go.Proofs.YtbobcfjlbcgchaaGreatDoor
open Go.Proofs
theorem aW2 {C:Cfg}{all:List Oper}{i:Nat}{fr fr2:Fr}{hp hp2:Hp}{k:Fr->Hp->Prop}{K:Fr->Hp->Prop}{T:OT}(h1:aKe C all i fr hp k) (h2:jF C all K T fr2 hp2):aKe C all i fr hp k/\jF C all K T fr2 hp2:=⟨h1,h2⟩
theorem eqN {α:Type}{a b:α}(h:a=b) {B:Prop}(hb:B):a=b/\B:=⟨h,hb⟩
theorem leN {a b:Nat}(h:Nat.ble a b=true) {B:Prop}(hb:B):a<=b/\B:=⟨Nat.le_of_ble_eq_true h,hb⟩
theorem ltN {a b:Nat}(h:Nat.ble (a+1) b=true) {B:Prop}(hb:B):a < b/\B:=⟨Nat.le_of_ble_eq_true h,hb⟩
end Go.Proofs.YtbobcfjlbcgchaaGreatDoor
namespace Go.Proofs.YtbobcfjlbcgchaaGreatDoor
open Go.Proofs
set_option maxRecDepth 10000
attribute [local irreducible] aJ aF Tri aG YVC bS aQ
end Go.Proofs.YtbobcfjlbcgchaaGreatDoor
namespace Go.Proofs.YtbobcfjlbcgchaaGreatDoor
open Go.Proofs
set_option maxRecDepth 10000
attribute [local irreducible] aJ aF Tri aG YVC bS aQ
end Go.Proofs.YtbobcfjlbcgchaaGreatDoor
namespace Go.Proofs.YtbobcfjlbcgchaaGreatDoor
open Go.Proofs
set_option maxRecDepth 10000
attribute [local irreducible] aJ aF Tri aG YVC bS aQ
end Go.Proofs.YtbobcfjlbcgchaaGreatDoor
namespace Go.Proofs.YtbobcfjlbcgchaaGreatDoor
open Go.Proofs
def aFb (T:List Stp):List (Str×Bool):=T.flatMap λk=>[(k.2.1,false),(k.2.1,true)]
theorem aD7: ∀T:List Stp,(aFb T).length=2 * T.length
 | []=>rfl
 |k::r=>by
  have:=aD7 r
  have e:aFb (k::r)=[(k.2.1,false),(k.2.1,true)]++aFb r:=rfl
  rw [e,List.length_append,List.length_cons,List.length_cons,List.length_nil,List.length_cons];omega
theorem aN9 {T:List Stp}{k:Stp}(h:k∈T) (b:Bool):(k.2.1,b)∈aFb T:=by
 refine List.mem_flatMap.2 ⟨k,h, ?_⟩
 cases b<;>simp
structure OutOk (T:List Stp) (n:Nat) (out:List Pth):Prop where
 len: ∀y∈out,y.1.length=n+2
 nd:(out.map (key (n+1))).Nodup
 mem: ∀y∈out,key (n+1) y∈aFb T
theorem OutOk.nil {T:List Stp}{n:Nat}:OutOk T n [] where
 len:=by simp
 nd:=by simp
 mem:=by simp
theorem OutOk.le {T:List Stp}{n:Nat}{out:List Pth}(h:OutOk T n out):out.length<=2 * T.length:=by
 have := uL _ (aFb T) h.nd (λx hx => by
  obtain⟨y,hy,rfl⟩:=List.mem_map.1 hx
  exact h.mem y hy)
 rw [List.length_map,aD7]at this
 exact this
theorem aGi {x y:Pth}{n:Nat}(hx:x.1.length=n+2):aGj x y=true↔key (n+1) y=key (n+1) x:=by
 unfold aGj aD5 key
 rw [hx,show n+2 - 1=n+1 from rfl,Bool.and_eq_true,decide_eq_true_eq,decide_eq_true_eq]
 constructor
 ·rintro⟨h1,h2⟩;rw [h1,h2]
 ·intro h;injection h with h1 h2;exact⟨h2,h1⟩
theorem OutOk.put {T:List Stp}{n:Nat}{out:List Pth}{lt:Str->Str->Bool}{x:Pth}(h:OutOk T n out) (hx:x.1.length=n+2) (hk:key (n+1) x∈aFb T):OutOk T n (aUa lt out x):=by
 have hm: ∀y∈aUa lt out x,y∈out\/y=x:= λy hy=>aPq hy
 refine⟨λy hy=> ?_, ?_,λy hy=> ?_⟩
 ·rcases hm y hy with h1|rfl
  ·exact h.len y h1
  ·exact hx
 ·unfold aUa
  split
  ·rename_i hi
   rw [List.map_append,List.map_singleton,List.nodup_append]
   refine⟨h.nd,by simp, ?_⟩
   intro a ha b hb
   simp only [List.mem_singleton]at hb
   subst hb
   rintro rfl
   obtain⟨y,hy,he⟩:=List.mem_map.1 ha
   obtain⟨j,hj,rfl⟩:=List.getElem_of_mem hy
   have:=aA0 hi j hj
   rw [List.getElem?_eq_getElem hj]at this
   have h2:=(aGi (n:=n) hx).2 he
   have this:aGj x out[j]=false:=this
   rw [h2]at this
   cases this
  ·rename_i i hi
   obtain⟨hl,hs⟩:=zZ hi
   split
   ·rw [List.getElem?_eq_getElem hl]at hs
    have h2:=(aGi (n:=n) hx).1 hs
    have e:(out.set i x).map (key (n+1))=out.map (key (n+1)):=by
     rw [List.map_set,<-h2]
     refine List.ext_getElem? λj=> ?_
     by_cases e:i=j
     ·subst e
      rw [List.getElem?_set_self (by rw [List.length_map];exact hl),List.getElem?_map,List.getElem?_eq_getElem hl];rfl
     ·rw [List.getElem?_set_ne e]
    rw [e];exact h.nd
   ·exact h.nd
 ·rcases hm y hy with h1|rfl
  ·exact h.mem y h1
  ·exact hk
theorem OutOk.ext {T:List Stp}{n:Nat}{out:List Pth}{lt:Str->Str->Bool}{p:Pth}{k:Stp}(h:OutOk T n out) (hp:p.1.length=n+1) (hk:k∈T):OutOk T n (aYd lt p out k):=by
 unfold aYd
 split
 ·exact h
 ·refine h.put (by simp [hp]) ?_
  have e:key (n+1) (p.1++[k.2.1],p.2 || k.2.2)=(k.2.1,p.2 || k.2.2):=by
   unfold key
   dsimp only
   rw [List.getElem?_append_right (by omega),hp]
   simp
  rw [e]
  exact aN9 hk _
end Go.Proofs.YtbobcfjlbcgchaaGreatDoor
namespace Go.Proofs.YtbobcfjlbcgchaaGreatDoor
open Go.Proofs
set_option maxRecDepth 10000
attribute [local irreducible] aJ aF Tri aG YVC bS aQ
end Go.Proofs.YtbobcfjlbcgchaaGreatDoor
namespace Go.Proofs.YtbobcfjlbcgchaaGreatDoor
open Go.Proofs
set_option maxRecDepth 10000
attribute [local irreducible] aJ aF Tri aG YVC bS aQ
end Go.Proofs.YtbobcfjlbcgchaaGreatDoor
namespace Go.Proofs.YtbobcfjlbcgchaaGreatDoor
open Go.Proofs
set_option maxRecDepth 10000
attribute [local irreducible] aJ aF Tri aG YVC bS aQ
end Go.Proofs.YtbobcfjlbcgchaaGreatDoor
