/-
  Objects: the reader reads ints, octets and texts.
  Conditions: none.
-/
import Derived.Test.YtbobcfjlbcgchaaGreatDoorRows
import Derived.Test.YtbobcfjlbcgchaaGreatDoorWSs
import Derived.Test.YtbobcfjlbcgchaaGreatDoorWAr
import Derived.LaidHandle
import Derived.MakeChecks
import Derived.Test.YtbobcfjlbcgchaaGreatDoorWSnc
import Derived.Test.YtbobcfjlbcgchaaGreatDoorWSna
import Derived.Test.YtbobcfjlbcgchaaGreatDoorWA8
import Derived.Test.YtbobcfjlbcgchaaGreatDoorWSi
set_option linter.unnecessarySimpa false
set_option linter.unusedSectionVars false
set_option linter.unusedSimpArgs false
set_option linter.unusedVariables false
set_option maxHeartbeats 4000000
namespace Go.Proofs.YtbobcfjlbcgchaaGreatDoor
section
open Go.RowKit
set_option maxRecDepth 100000
theorem bBn:aV6 Tryz.prog 48=some [3,4,45,45,46,9,9,9]:=by kernel_rfl
theorem aV5:aV6 Tryz.prog 45=some [3,9,3,3,43]:=by kernel_rfl
theorem aR4:Tryz.prog.underlying 43=some (.slice 45):=by kernel_rfl
theorem aR5:Tryz.prog.underlying 22=some (.slice 48):=by kernel_rfl
theorem aV4:Tryz.prog.underlying 46=some (.slice 9):=by kernel_rfl
theorem u3:Tryz.prog.underlying 3=some (.int .i64):=by kernel_rfl
theorem u9:Tryz.prog.underlying 9=some .string:=by kernel_rfl
theorem u4:Tryz.prog.underlying 4=some .bool:=by kernel_rfl
theorem aXr:Tryz.prog.cellsOf 45=5:=by kernel_rfl
theorem bCy:Tryz.prog.cellsOf 48=16:=by kernel_rfl
theorem bAl:Tryz.prog.cellsOf 9=1:=by kernel_rfl
theorem laid:laidOutB Tryz.prog=true:=by kernel_rfl
def TT:List TypeId:=[48,22,45,43,46,3,9,4]
theorem aYo: ∀(n:Nat) (b:List D),TyD Tryz.prog n 45 b-> ∃c,b=cnR c:=by
 intro n
 induction n using Nat.strongRecOn with
 |_ n ih=>
  intro b h
  obtain⟨m,hm,a1,b1,rfl,e,a2,b2,rfl,d,a3,b3,rfl,g,a4,b4,rfl,f,a5,b5,rfl,i,rfl⟩:=aCr aV5 h
  obtain⟨k,rfl,_⟩:=aEj u3 e
  obtain⟨s,rfl,_⟩:=lW u9 d
  obtain⟨lo,rfl,_⟩:=aEj u3 g
  obtain⟨hi,rfl,_⟩:=aEj u3 f
  obtain⟨j,hj,rows,rfl,_,a⟩:=tY aR4 i
  obtain⟨l,rfl⟩:=aJz (λr a=>ih j (by omega) r a) rows a
  exact⟨.mk k s lo hi l,by rw [aXr,aJ];rfl⟩
theorem aF5 {α:Type}{R:List D->Prop}{Q:α->Prop}{f:α->List D}(h: ∀r,R r-> ∃x,r=f x/\Q x): ∀rows:List (List D),(∀r∈rows,R r)-> ∃l:List α,rows=l.map f/\ ∀x∈l,Q x
 | [],_=>⟨[],rfl,by simp⟩
 |r::rest,hr=>by
  obtain⟨x,rfl,hx⟩:=h r (hr r (List.mem_cons_self ..))
  obtain⟨l,rfl,hl⟩:=aF5 h rest (λq a=>hr q (List.mem_cons_of_mem _ a))
  exact⟨x::l,rfl,by simpa using ⟨hx,hl⟩⟩
theorem aIt {n:Nat}{ds:List D}(h:TyD Tryz.prog n 46 ds): ∃l:List (List UInt8),ds=[aO6 l]/\l.length<=140737488351232/\ ∀s∈l,s.length<=140737488351232:=by
 obtain⟨m,rfl,rows,rfl,b,a⟩:=tY aV4 h
 obtain ⟨l, rfl, hl⟩ := aF5 (f := bJ) (Q := λs : List UInt8 => s.length <= 140737488351232) (λr a => by
  obtain⟨s,rfl,c⟩:=lW u9 a
  exact⟨s,rfl,c⟩) rows a
 exact⟨l,by rw [bAl];rfl,by rw [List.length_map]at b;exact b,hl⟩
theorem bF2 {n:Nat}{ds:List D}(h:TyD Tryz.prog n 48 ds): ∃x,ds=axR x/\SzAx x:=by
 obtain⟨m,rfl,a1,b1,rfl,c,a2,b2,rfl,s,a3,b3,rfl,f,a4,b4,rfl,t,a5,b5,rfl,v,a6,b6,rfl,i,a7,b7,rfl,d,a8,b8,rfl,q,rfl⟩:=aCr bBn h
 obtain⟨k,rfl,_⟩:=aEj u3 c
 obtain⟨o,rfl⟩:=aV7 u4 s
 obtain⟨l,rfl⟩:=aYo _ _ f
 obtain⟨r,rfl⟩:=aYo _ _ t
 obtain⟨rs,rfl,w,j⟩:=aIt v
 obtain⟨u,rfl,e⟩:=lW u9 i
 obtain⟨p,rfl,b⟩:=lW u9 d
 obtain⟨a,rfl,g⟩:=lW u9 q
 exact⟨⟨k,o,l,r,rs,u,p,a⟩,by rw [aJ,aJ];rfl,⟨w,e,b,g,j⟩⟩
theorem bAu {n:Nat}{ds:List D}(h:TyD Tryz.prog n 22 ds): ∃l:List Ax,aL9 Tryz.prog 22 ds= .d (.sl 16 (l.map axR))/\l.length<=140737488351232/\ ∀x∈l,SzAx x:=by
 obtain⟨m,rfl,rows,rfl,b,a⟩:=tY aR5 h
 obtain⟨l,rfl,hl⟩:=aF5 (f:=axR) (Q:=SzAx) (λr a=>bF2 a) rows a
 exact⟨l,by simp only [aL9,aR5,bCy],by rw [List.length_map]at b;exact b,hl⟩
theorem bCh:Tryz.prog.globalNamed "veilstone/terms.needs" =some 3:=by kernel_rfl
theorem bEs:Tryz.prog.globalNamed "veilstone/terms.uses" =some 0:=by kernel_rfl
theorem bBp:(Tryz.prog.globals[(3:Nat)]?).map (·.type)=some 248:=by kernel_rfl
theorem bE3:(Tryz.prog.globals[(0:Nat)]?).map (·.type)=some 116:=by kernel_rfl
def FT:List TypeId:=[248,247,116,115,3,4]
theorem fl:Fl Tryz.prog (· ∈FT):=bCk (by kernel_rfl)
end
section
open Go.RowKit
section
variable {P:Program}
theorem iP {ti:TypeId->Option TI}(hti:fH P ti) {o:Oper}{t:TypeId}{x:Operand}(ho:o.op= .makeInterface t x) {Ts:TI}(hT:ti t=some Ts) {fs:List (TypeId×Nat)}(htd:Ts.td= .struct fs) {pin:Pin}{fr:Fr}{hp:Hp}{K:SV->Hp->Prop}
  (hx:evO fr x=some (.d (.agg []))) (hk:K (.d (.lit (.iface t (.agg #[])))) hp):aT P o pin fr hp K:=by
 intro E ρ a w _ k j next Q l
 obtain⟨g,i0,z0,c⟩:=aO (hti _ _ hT)
 have f: ∀m,g≠ .interface m:=by
  intro m e
  have:=c.td
  rw [htd,e]at this
  simp [aGv]at this
 have e1:a.eval x= .agg #[]:=by
  have i:=aV j hx
  generalize a.eval x=v at i
  cases i with
  |d _ _ hd=>
   cases hd with
   |agg cs vs hl h=>
    have:vs= #[]:=Array.eq_empty_of_size_eq_zero (by simpa using hl)
    rw [this]
 have b:(execOp a.eval o).run P w= .ok (.value (.iface t (.agg #[]))) w:=by
  simp only [execOp,ho,e1,Instr.makeInterface,Sem.run_bind,run_underlying c.und,Result.andThen_ok]
  cases g<;>first|rfl|exact absurd rfl (f _)
 exact bW b (l _ w ρ _ hp hk k j (.d _ _ (.lit _)))
end
end
section
def beN:Nat->Nat->List UInt8
 | 0,_=>[]
 |k+1,n=>beN k (n / 256)++[UInt8.ofNat (n % 256)]
def deN (l:List UInt8):Nat:=l.foldl (λx c=>256 * x+c.toNat) 0
theorem aW: ∀k n,(beN k n).length=k
 | 0,_=>rfl
 |k+1,n=>by rw [beN,List.length_append,aW k];rfl
theorem zC (l:List UInt8) (c:UInt8):deN (l++[c])=256 * deN l+c.toNat:=by
 unfold deN;rw [List.foldl_append];rfl
theorem aU3: ∀k n,deN (beN k n)=n % 256 ^ k
 | 0,n=>by simp [beN,deN,Nat.mod_one]
 |k+1,n=>by
  rw [beN,zC,aU3 k,Nat.pow_succ,Nat.mul_comm (256 ^ k) 256,Nat.mod_mul]
  have h:(UInt8.ofNat (n % 256)).toNat=n % 256:=by simp
  rw [h];omega
theorem xT: ∀(k:Nat) (l:List UInt8),l.length=k->deN l < 256 ^ k
 | 0,l,h=>by rw [List.length_eq_zero_iff.1 h];decide
 |k+1,l,h=>by
  obtain⟨m,c,rfl⟩: ∃m c,l=m++[c]:=by
   rcases List.eq_nil_or_concat l with e|⟨m,c,e⟩
   ·rw [e]at h;cases h
   ·exact⟨m,c,by rw [e,List.concat_eq_append]⟩
  rw [List.length_append]at h
  have h1:=xT k m (by simpa using h)
  have h2:=c.toNat_lt
  rw [zC,Nat.pow_succ]
  omega
def uN (z:Int):Nat:=(z % 18446744073709551616).toNat
def sgN (n:Nat):Int:=if n < 9223372036854775808 then (n:Int)else (n:Int) - 18446744073709551616
theorem bBm (z:Int):uN z < 18446744073709551616:=by unfold uN;omega
theorem bBt {z:Int}(h1: -9223372036854775808<=z) (h2:z<=9223372036854775807):sgN (uN z)=z:=by
 unfold sgN uN;split<;>omega
abbrev Rd (α:Type):=List UInt8->Option (α×List UInt8)
section
variable {α β:Type}
def aW5 (a:α):Rd α:= λb=>some (a,b)
def uR (r:Rd α) (f:α->β):Rd β:= λb=>(r b).map λp=>(f p.1,p.2)
def cX (r:Rd α) (f:α->Rd β):Rd β:= λb=>(r b).bind λp=>f p.1 p.2
def tE (n:Nat):Rd (List UInt8):= λb=>if n<=b.length then some (b.take n,b.drop n)else none
def aHc (k:Nat):Rd Nat:=uR (tE k) deN
def tF (r:Rd α):Nat->Rd (List α)
 | 0=>aW5 []
 |n+1=>cX r λx=>uR (tF r n) (x:: ·)
def iZ (r:Rd α):Rd (List α):=cX (aHc 4) (tF r)
theorem cL {r:Rd α}{f:α->β}{b c:List UInt8}{x:α}(h:r b=some (x,c)):uR r f b=some (f x,c):=by simp [uR,h]
theorem aQ {r:Rd α}{f:α->Rd β}{b c:List UInt8}{x:α}(h:r b=some (x,c)):cX r f b=f x c:=by simp [cX,h]
theorem bE {r:Rd α}{f:α->Rd β}{b:List UInt8}(h:r b=none):cX r f b=none:=by simp [cX,h]
theorem iR {r:Rd α}{f:α->β}{b:List UInt8}(h:r b=none):uR r f b=none:=by simp [uR,h]
theorem aH9 (a c:List UInt8):tE a.length (a++c)=some (a,c):=by
 unfold tE
 rw [if_pos (by rw [List.length_append];omega),List.take_left' rfl,List.drop_left' rfl]
theorem uQ (k n:Nat) (c:List UInt8) (h:n < 256 ^ k):aHc k (beN k n++c)=some (n,c):=by
 have a:=aH9 (beN k n) c
 rw [aW]at a
 unfold aHc
 rw [cL a,aU3,Nat.mod_eq_of_lt h]
theorem aSl {r:Rd α}{f:α->Rd β}{b c:List UInt8}{y:β}(h:cX r f b=some (y,c)): ∃x d,r b=some (x,d)/\f x d=some (y,c):=by
 unfold cX at h
 obtain⟨p,a,e⟩:=Option.bind_eq_some_iff.1 h
 exact⟨p.1,p.2,a,e⟩
theorem aM9 {r:Rd α}{f:α->β}{b c:List UInt8}{y:β}(h:uR r f b=some (y,c)): ∃x,r b=some (x,c)/\y=f x:=by
 unfold uR at h
 obtain⟨p,a,d⟩:=Option.map_eq_some_iff.1 h
 injection d with h3 h4
 exact⟨p.1,by rw [a,<-h4],h3.symm⟩
theorem uO (r:Rd α): ∀(n:Nat) (b:List UInt8),tF r (n+1) b=(tF r n b).bind λp=>(r p.2).map λq=>(p.1++[q.1],q.2)
 | 0,b=>by
  show cX r (λx=>uR (aW5 []) (x:: ·)) b=_
  cases h:r b with
  |none=>rw [bE h];simp [tF,aW5,h]
  |some p=>obtain⟨x,c⟩:=p;rw [aQ h];simp [tF,aW5,uR,h]
 |n+1,b=>by
  show cX r (λx=>uR (tF r (n+1)) (x:: ·)) b=(cX r (λx=>uR (tF r n) (x:: ·)) b).bind _
  cases h:r b with
  |none=>rw [bE h,bE h];rfl
  |some p=>
   obtain⟨x,c⟩:=p
   rw [aQ h,aQ h]
   unfold uR
   rw [uO r n c]
   cases h2:tF r n c with
   |none=>rfl
   |some q=>
    obtain⟨l,d⟩:=q
    simp only [Option.bind_some,Option.map_some]
    cases h3:r d with
    |none=>rfl
    |some q=>rfl
theorem aSi {r:Rd α}{n m:Nat}{b:List UInt8}(h:tF r n b=none) (hm:n<=m):tF r m b=none:=by
 induction m with
 | zero => obtain rfl : n = 0 := by omega
           exact h
 |succ m ih=>
  by_cases e:n=m+1
  ·rw [<-e];exact h
  ·rw [uO,ih (by omega)];rfl
def cU (w:α->List UInt8) (l:List α):List UInt8:=beN 4 l.length++(l.map w).flatten
theorem aFc {r:Rd α}{w:α->List UInt8}: ∀(l:List α) (_: ∀x∈l,∀c,r (w x++c)=some (x,c)) (c:List UInt8),tF r l.length ((l.map w).flatten++c)=some (l,c)
 | [],_,c=>rfl
 |x::l,h,c=>by
  show cX r (λx=>uR (tF r l.length) (x:: ·)) _=_
  rw [List.map_cons,List.flatten_cons,List.append_assoc,aQ (h x (List.mem_cons_self ..) _),cL (aFc l (λy a=>h y (List.mem_cons_of_mem _ a)) c)]
theorem aA8 {r:Rd α}{w:α->List UInt8}{l:List α}(h: ∀x∈l,∀c,r (w x++c)=some (x,c)) (hl:l.length < 4294967296) (c:List UInt8):iZ r (cU w l++c)=some (l,c):=by
 unfold iZ cU
 rw [List.append_assoc,aQ (uQ 4 l.length _ hl)]
 exact aFc l h c
def aCi (k:Nat) (r:Rd α):Prop:= ∀b x c,r b=some (x,c)-> ∃a,b=a++c/\k<=a.length
theorem aIl (n:Nat):aCi n (tE n):=by
 intro b x c h
 unfold tE at h
 split at h
 ·injection h with h;injection h with h1 h2
  exact⟨b.take n,by rw [<-h2,List.take_append_drop],by rw [List.length_take];omega⟩
 ·cases h
theorem lI {r:Rd α}{f:α->β}{k:Nat}(h:aCi k r):aCi k (uR r f):=by
 intro b x c e
 unfold uR at e
 obtain⟨p,a,d⟩:=Option.map_eq_some_iff.1 e
 injection d with _ h3
 exact h b p.1 c (by rw [a,<-h3])
theorem cE {r:Rd α}{f:α->Rd β}{k j:Nat}(h:aCi k r) (g: ∀x,aCi j (f x)):aCi (k+j) (cX r f):=by
 intro b x c e
 unfold cX at e
 obtain⟨p,a,l⟩:=Option.bind_eq_some_iff.1 e
 obtain⟨d,e1,q1⟩:=h b p.1 p.2 a
 obtain⟨i,e2,q2⟩:=g _ _ _ _ l
 exact⟨d++i,by rw [e1,e2,List.append_assoc],by rw [List.length_append];omega⟩
theorem aN7 {r:Rd α}{k:Nat}(h:aCi k r): ∀n,aCi (k * n) (tF r n)
 | 0=> λb x c e=>⟨[],by injection e with e;injection e with _ e,by simp⟩
 |n+1=>by
  have:=cE (f:= λx=>uR (tF r n) (x:: ·)) h (λx=>lI (aN7 h n))
  rw [Nat.mul_succ,Nat.add_comm]
  exact this
theorem qL {r:Rd α}{k j:Nat}(h:aCi k r) (hj:j<=k):aCi j r:= λb x c e=>by
 obtain⟨a,d,h2⟩:=h b x c e
 exact⟨a,d,by omega⟩
def iV (rd:Rd α) (wr:α->List UInt8×Int) (zero:α) (bad:Int) (b:List UInt8):α×Int:=
 match rd b with
 |some (x,[])=>if wr x=(b,0)then (x,0)else (zero,bad)
 |_=>(zero,bad)
theorem bCq {rd:Rd α}{wr:α->List UInt8×Int}{zero:α}{bad:Int}{b:List UInt8}(hb:bad≠0) (h:(iV rd wr zero bad b).2=0):wr (iV rd wr zero bad b).1=(b,0)/\rd b=some ((iV rd wr zero bad b).1,[]):=by
 unfold iV at h |-
 split at h
 ·rename_i x c
  split at h
  ·rename_i a
   simp only [c,if_pos a]
   exact⟨a,trivial⟩
  ·exact absurd h hb
 ·exact absurd h hb
theorem aIr {rd:Rd α}{wr:α->List UInt8×Int}{zero:α}{bad:Int}{b:List UInt8}{x:α}(h1:wr x=(b,0)) (h2:rd b=some (x,[])):iV rd wr zero bad b=(x,0):=by
 unfold iV
 rw [h2]
 simp only [if_pos h1]
theorem aXk {rd:Rd α}{wr:α->List UInt8×Int}{zero:α}{bad:Int}{b c:List UInt8}{x:α}(h:rd b=some (x,c)) (hc:c≠[]):iV rd wr zero bad b=(zero,bad):=by
 unfold iV
 rw [h]
 cases c with
 |nil=>exact absurd rfl hc
 |cons _ _=>rfl
theorem bAh {rd rd':Rd α}{wr:α->List UInt8×Int}{zero:α}{bad:Int}(h: ∀y d,wr y=(d,0)->rd d=some (y,[])) (h': ∀y d,wr y=(d,0)->rd' d=some (y,[])) (b:List UInt8):iV rd wr zero bad b=iV rd' wr zero bad b:=by
 have key: ∀r:Rd α,(∀y d,wr y=(d,0)->r d=some (y,[]))->(∀y,wr y=(b,0)->iV r wr zero bad b=(y,0))/\((∀y,wr y≠(b,0))->iV r wr zero bad b=(zero,bad)):=by
  intro r f
  refine⟨λy a=>aIr a (f y b a),λc=> ?_⟩
  unfold iV
  split
  ·rw [if_neg (c _)]
  ·rfl
 by_cases a: ∃y,wr y=(b,0)
 ·obtain⟨y,a⟩:=a
  rw [(key rd h).1 y a,(key rd' h').1 y a]
 ·have c: ∀y,wr y≠(b,0):= λy e=>a ⟨y,e⟩
  rw [(key rd h).2 c,(key rd' h').2 c]
def aOn (least:Nat):Rd Nat:= λb=>(aHc 4 b).bind λp=>if p.2.length / least < p.1 then none else some p
def aDa (least:Nat) (r:Rd α):Rd (List α):=cX (aOn least) (tF r)
theorem aB6 {w:α->List UInt8}{k:Nat}(hw: ∀x,k<=(w x).length): ∀l:List α,k * l.length<=((l.map w).flatten).length
 | []=>by simp
 |x::l=>by
  have h1:=aB6 hw l
  have h2:=hw x
  rw [List.map_cons,List.flatten_cons,List.length_append,List.length_cons,Nat.mul_succ]
  omega
theorem wR {r:Rd α}{w:α->List UInt8}{k:Nat}(hk:0 < k) (hw: ∀x,k<=(w x).length) {l:List α}(h: ∀x∈l,∀c,r (w x++c)=some (x,c)) (hl:l.length < 4294967296) (c:List UInt8):aDa k r (cU w l++c)=some (l,c):=by
 have a:aOn k (beN 4 l.length++((l.map w).flatten++c))=some (l.length,(l.map w).flatten++c):=by
  unfold aOn
  rw [uQ 4 l.length _ hl]
  have h2:=aB6 hw l
  have h3:l.length<=((l.map w).flatten++c).length / k:=by
   rw [Nat.le_div_iff_mul_le hk,List.length_append,Nat.mul_comm]
   omega
  simp only [Option.bind_some]
  rw [if_neg (by omega)]
 unfold aDa cU
 rw [List.append_assoc,aQ a]
 exact aFc l h c
end
end
section
attribute [local irreducible] aK aF Tri aH YVC cG aT
set_option maxRecDepth 10000
theorem aGw (bs:List UInt8) (m:Nat) (hp0:Hp) {pin:Pin}{fr:Fr}{K:SV->Hp->Prop}
  (hok:m<=bs.length->K (.d (.sl 1 ((bs.take m).map aN))) ((3, .cells 104 [.d (.sl 1 ((bs.drop m).map aN))])::hp0))
  (hno:bs.length < m->pin.kp fr ((3, .cells 104 [.d (.sl 1 (bs.map aN))])::hp0)):
  aF Tryz.prog pin fr ((3, .cells 104 [.d (.sl 1 (bs.map aN))])::hp0) 134 [.ptr 3 0, .d (.int .i64 m)] K:=by
 have hl:(bs.map aN).length=bs.length:=List.length_map ..
 refine aG false [] hty Tryz.func134 rfl (kp [0,1,4,11]) 100 (by simp [Tryz.f134]) ?_
 ((conv=>whnf);repeat' ((first|(intro a;(try simp only [lnS]at a);(try rewrite [List.length_map]))|refine sJ ?_|refine qE_ ?_|refine exL (k:=?_)| (refine fA hty 19 (by kernel_rfl) (by kernel_rfl) ?_)|(refine iP hty rfl (by with_unfolding_all exact rfl) rfl rfl ?_)|refine dwR ?_|((first|refine aA ?_ ?_|refine aC ?_ ?_)<;>intro hb<;>(first|exact ddX hb|try simp only [lnS]at hb))|(refine aB ?_ ?_<;>intro hb<;>try exact dsX hb))<;>(conv=>whnf)))
 ·exact hno (by omega)
 ·have e1:List.drop 0 (List.take ((m:Nat):Int).toNat (bs.map aN))=(bs.take m).map aN:=by rw [Int.toNat_natCast,List.drop_zero,List.map_take]
  have e2:List.drop ((m:Nat):Int).toNat (List.take ((bs.length:Nat):Int).toNat (bs.map aN))=(bs.drop m).map aN:=by rw [Int.toNat_natCast,Int.toNat_natCast,List.take_of_length_le (by rw [List.length_map];exact Nat.le_refl _),List.map_drop]
  show K (SV.d (D.sl 1 (List.drop 0 (List.take ((m:Nat):Int).toNat (bs.map aN))))) ((3,HObj.cells 104 [SV.d (D.sl 1 (List.drop ((m:Nat):Int).toNat (List.take ((bs.length:Nat):Int).toNat (bs.map aN))))])::hp0)
  rw [e1,e2]
  exact hok (by omega)
end
section
def aQe:Rd Int:=uR (aHc 8) sgN
def aK8:Rd Int:=uR (aHc 1) λn=>(n:Int)
def aA5:Rd (List UInt8):=cX (aHc 4) tE
abbrev Dig:={l:List UInt8 // l.length=32}
def wJ (d:Dig):List UInt8:=d.1
def gJ (z:Int):List UInt8:=beN 8 (uN z)
def jE (z:Int):List UInt8:=beN 1 (uN z)
def bZ (s:List UInt8):List UInt8:=beN 4 s.length++s
theorem yQ {z:Int}(h1: -9223372036854775808<=z) (h2:z<=9223372036854775807) (c:List UInt8):aQe (gJ z++c)=some (z,c):=by
 unfold aQe gJ
 rw [cL (uQ 8 (uN z) c (bBm z)),bBt h1 h2]
theorem lC {z:Int}(h1:0<=z) (h2:z<=255) (c:List UInt8):aK8 (jE z++c)=some (z,c):=by
 unfold aK8 jE
 have h:uN z < 256 ^ 1:=by unfold uN;omega
 rw [cL (uQ 1 (uN z) c h)]
 have:((uN z:Nat):Int)=z:=by unfold uN;omega
 rw [this]
theorem iK {s:List UInt8}(h:s.length < 4294967296) (c:List UInt8):aA5 (bZ s++c)=some (s,c):=by
 unfold aA5 bZ
 rw [List.append_assoc,aQ (uQ 4 s.length _ h),aH9]
mutual
def wC:Cn->List UInt8
 | .mk k n lo hi ps=>jE k++(bZ n++(gJ lo++(gJ hi++(beN 4 ps.length++(wCs ps).flatten))))
def wCs:List Cn->List (List UInt8)
 | []=>[]
 |c::r=>wC c::wCs r
end
theorem aQo: ∀l,wCs l=l.map wC
 | []=>rfl
 |c::r=>by rw [wCs,aQo r];rfl
theorem aJj (c:Cn):wC c=jE c.kind++(bZ c.name++(gJ c.lo++(gJ c.hi++cU wC c.parts))):=by
 cases c;rw [wC,aQo];rfl
def rC:Nat->Rd Cn
 | 0=> λ_=>none
 |k+1=>cX aK8 λkd=>cX aA5 λn=>cX aQe λlo=>cX aQe λhi=>uR (iZ (rC k)) (Cn.mk kd n lo hi)
def OkC:Nat->Cn->Prop
 | 0,_=>False
 |k+1,c=>(0<=c.kind/\c.kind<=255)/\c.name.length < 4294967296/\(-9223372036854775808<=c.lo/\c.lo<=9223372036854775807)/\(-9223372036854775808<=c.hi/\c.hi<=9223372036854775807)/\c.parts.length < 4294967296/\ ∀p∈c.parts,OkC k p
theorem aSk: ∀(k:Nat) (c:Cn),OkC k c-> ∀d,rC k (wC c++d)=some (c,d)
 | 0,_,h=>h.elim
 |k+1,c,h=>by
  obtain⟨⟨j,g⟩,b,⟨i,a⟩,⟨d1,l⟩,e,f⟩:=h
  intro d
  rw [aJj]
  simp only [List.append_assoc]
  show cX aK8 _ _=_
  rw [aQ (lC j g _),aQ (iK b _),aQ (yQ i a _),aQ (yQ d1 l _),cL (aA8 (λp hp=>aSk k p (f p hp)) e d)]
  cases c;rfl
theorem OkC.up: ∀{k j:Nat}{c:Cn},OkC k c->k<=j->OkC j c
 | 0,_,_,h,_=>h.elim
 |k+1,0,_,_,h=>absurd h (by omega)
 |k+1,j+1,c,⟨a,b,e,f,g,h⟩,hj=>⟨a,b,e,f,g,λp hp=>(h p hp).up (by omega)⟩
def wB (o:Bool):List UInt8:=jE (if o then 1 else 0)
def wA (x:Ax):List UInt8:=jE x.kind++(wB x.isopen++(wC x.left++(wC x.right++(cU bZ x.roles++(bZ x.role++(bZ x.a++bZ x.b))))))
def wAs (l:List Ax):List UInt8:=cU wA l
def rB:Rd Bool:=uR aK8 λz=>decide (z=1)
def rA (m:Nat):Rd Ax:=cX aK8 λk=>cX rB λo=>cX (rC m) λl=>cX (rC m) λr=>cX (iZ aA5) λrs=>cX aA5 λs1=>cX aA5 λs2=>uR aA5 λs3=>⟨k,o,l,r,rs,s1,s2,s3⟩
def rAs (m:Nat):Rd (List Ax):=iZ (rA m)
def OkA (m:Nat) (x:Ax):Prop:=(0<=x.kind/\x.kind<=255)/\OkC m x.left/\OkC m x.right/\(x.roles.length < 4294967296/\ ∀s∈x.roles,s.length < 4294967296)/\x.role.length < 4294967296/\x.a.length < 4294967296/\x.b.length < 4294967296
theorem bBy (o:Bool) (c:List UInt8):rB (wB o++c)=some (o,c):=by
 unfold rB wB
 cases o
 ·rw [cL (lC (by decide) (by decide) c)];rfl
 ·rw [cL (lC (by decide) (by decide) c)];rfl
theorem bC0 {m:Nat}{x:Ax}(h:OkA m x) (c:List UInt8):rA m (wA x++c)=some (x,c):=by
 obtain⟨⟨j,e⟩,b,d,⟨e1,e2⟩,f,g,i⟩:=h
 unfold wA rA
 simp only [List.append_assoc]
 rw [aQ (lC j e _),aQ (bBy _ _),aQ (aSk _ _ b _),aQ (aSk _ _ d _),aQ (aA8 (λs a=>iK (e2 s a)) e1 _),aQ (iK f _),aQ (iK g _),cL (iK i c)]
theorem aZo {m:Nat}{l:List Ax}(h: ∀x∈l,OkA m x) (hl:l.length < 4294967296) (c:List UInt8):rAs m (wAs l++c)=some (l,c):=
 aA8 (λx hx=>bC0 (h x hx)) hl c
theorem jM (k:Nat):aCi k (aHc k):=lI (aIl k)
theorem nJ:aCi 8 aQe:=lI (jM 8)
theorem lH:aCi 1 aK8:=lI (jM 1)
theorem dR:aCi 4 aA5:=qL (cE (j:=0) (jM 4) λn=>qL (aIl n) (Nat.zero_le _)) (by omega)
theorem qK {α:Type}{r:Rd α}{k:Nat}(h:aCi k r):aCi 4 (iZ r):=qL (cE (j:=0) (jM 4) λn=>qL (aN7 h n) (Nat.zero_le _)) (by omega)
theorem aDy: ∀k,aCi 25 (rC k)
 | 0=> λb x c e=>by cases e
 |k+1=>qL (cE lH λ_=>cE dR λ_=>cE nJ λ_=>cE nJ λ_=>lI (qK (aDy k))) (by omega)
theorem bCo:aCi 1 rB:=lI lH
theorem bCp (m:Nat):aCi 68 (rA m):=qL (cE lH λ_=>cE bCo λ_=>cE (aDy m) λ_=>cE (aDy m) λ_=>cE (qK dR) λ_=>cE dR λ_=>cE dR λ_=>lI dR) (by omega)
structure Cm where
 no:Int
 parents:List Int
 base:Dig
 message:List UInt8
def wCm (c:Cm):List UInt8:=gJ c.no++(cU gJ c.parents++(wJ c.base++bZ c.message))
structure At where
 kind:Int
 name:List UInt8
 x:List UInt8
 y:List UInt8
 lo:Int
 hi:Int
structure Qy where
 told:List (List UInt8)
 parts:List (List At)
def rAt:Rd At:=cX aK8 λk=>cX aA5 λn=>cX aA5 λx=>cX aA5 λy=>cX aQe λlo=>uR aQe λhi=>⟨k,n,x,y,lo,hi⟩
def rQy:Rd Qy:=cX (iZ aA5) λt=>uR (iZ (iZ rAt)) λp=>⟨t,p⟩
structure Al where
 name:List UInt8
 base:Dig
 axioms:List Ax
 pub:Dig
 index:Int
 parts:List Dig
 path:List Dig
def wAl (a:Al):List UInt8:=bZ a.name++(wJ a.base++(wAs a.axioms++(wJ a.pub++(gJ a.index++(cU wJ a.parts++cU wJ a.path)))))
theorem aTz:aCi 29 rAt:=qL (cE lH λ_=>cE dR λ_=>cE dR λ_=>cE dR λ_=>cE nJ λ_=>lI nJ) (by omega)
end
section
open Go.RowKit
theorem gK (n:Nat) (h:n < 18446744073709551616):IntKind.u64.wrap (n:Int)=(n:Int):=by
 have e:IntKind.u64.wrap (n:Int)=((n:Int) % 18446744073709551616):=by
  unfold IntKind.wrap
  rfl
 rw [e];omega
theorem aZy {x c:Nat}(hx:x < 72057594037927936) (hc:c < 256):bits .or .u64 (IntKind.u64.wrap ((x:Int)* 2 ^ (min (8:Int).toNat IntKind.u64.bits))) (c:Int)=((256 * x+c:Nat):Int):=by
 have a:IntKind.u64.wrap ((x:Int)* 2 ^ (min (8:Int).toNat IntKind.u64.bits))=((256 * x:Nat):Int):=by
  have e:(min (8:Int).toNat IntKind.u64.bits)=8:=rfl
  rw [e]
  have:((x:Int)* 2 ^ 8)=((256 * x:Nat):Int):=by omega
  rw [this]
  exact gK _ (by omega)
 rw [a]
 have d:(256 * x ||| c)=256 * x+c:=by
  have:=Nat.two_pow_add_eq_or_of_lt (i:=8) (b:=c) (by omega) x
  simpa using this.symm
 unfold bits
 show IntKind.u64.wrap ((BitVec.ofInt 64 ((256 * x:Nat):Int) ||| BitVec.ofInt 64 (c:Int)).toNat:Int)=_
 rw [BitVec.toNat_or,BitVec.ofInt_natCast,BitVec.ofInt_natCast,BitVec.toNat_ofNat,BitVec.toNat_ofNat,Nat.mod_eq_of_lt (by omega),Nat.mod_eq_of_lt (by omega),d]
 exact gK _ (by omega)
theorem aUg (z:Int) (s:Nat) (hs:s<=64):IntKind.u8.wrap ((IntKind.u64.wrap z).fdiv (2 ^ (min (s:Int).toNat IntKind.u64.bits)))=((uN z / 2 ^ s % 256:Nat):Int):=by
 have e:(min (s:Int).toNat IntKind.u64.bits)=s:=by
  rw [Int.toNat_natCast];exact Nat.min_eq_left hs
 have e1:IntKind.u64.wrap z=((uN z:Nat):Int):=by
  have e:IntKind.u64.wrap z=(z % 18446744073709551616):=rfl
  rw [e];unfold uN;omega
 rw [e,e1,Int.fdiv_eq_ediv_of_nonneg _ (Int.pow_nonneg (by decide))]
 have e2:((uN z:Nat):Int) / (2 ^ s:Int)=((uN z / 2 ^ s:Nat):Int):=by
  rw [Int.natCast_ediv];rfl
 rw [e2]
 have a: ∀k:Int,IntKind.u8.wrap k=k % 256:= λk=>rfl
 rw [a]
 omega
theorem bFn (n:Nat):beN 8 n=[56,48,40,32,24,16,8,0].map λs:Nat=>UInt8.ofNat (n / 2 ^ s % 256):=by
 simp only [beN,List.nil_append,List.cons_append,Nat.div_div_eq_div_mul,List.map_cons,List.map_nil,Nat.pow_zero,Nat.div_one]
theorem bG0 (n:Nat):beN 4 n=[24,16,8,0].map λs:Nat=>UInt8.ofNat (n / 2 ^ s % 256):=by
 simp only [beN,List.nil_append,List.cons_append,Nat.div_div_eq_div_mul,List.map_cons,List.map_nil,Nat.pow_zero,Nat.div_one]
end
section
attribute [local irreducible] aK aF Tri aH YVC cG aT
set_option maxRecDepth 10000
theorem jG (bs:List UInt8) (m:Nat) (hm:m<=8) (hp0:Hp) {pin:Pin}{fr:Fr}{K:SV->Hp->Prop}
  (hok:m<=bs.length->K (.d (.int .u64 (deN (bs.take m)))) ((3, .cells 104 [.d (.sl 1 ((bs.drop m).map aN))])::hp0))
  (hno:bs.length < m->pin.kp fr ((3, .cells 104 [.d (.sl 1 (bs.map aN))])::hp0)):
  aF Tryz.prog pin fr ((3, .cells 104 [.d (.sl 1 (bs.map aN))])::hp0) 100 [.ptr 3 0, .d (.int .i64 m)] K:=by
 refine aG false [] hty Tryz.func100 rfl (kp [0,1,4,6,9,10,11,12]) 100 (by simp [Tryz.f100]) ?_
 refine qX ?_;intros
 refine aGw bs m hp0 (λf=> ?_) (λe=>hno e)
 have hlen:(bs.take m).length=m:=by rw [List.length_take];omega
 replace hok:=hok f
 generalize bs.take m=c at *
 generalize bs.drop m=r at *
 refine qX ?_;intros
 refine lS hty (λj:Nat=>([(4, .d (.int .u64 ((deN (c.take j):Nat):Int))),(9, .d (.sl 1 (c.map aN))),(10, .d (.int .i64 c.length)),(11, .d (.int .i64 j))],(3, .cells 104 [.d (.sl 1 (r.map aN))])::hp0)) (λj=>j<=c.length) (λj=>c.length - j) 0 (by omega) (by repeat' (first|exact trivial|exact rfl|(rw [List.length_map];exact rfl)|refine And.intro ?_ ?_)) rfl ?_
 intro j hj
 refine qX ?_;intros
 refine aA (λh=> ?_) (λh=> ?_)
 ·have a:j < c.length:=by omega
  have hrow:(c.map aN)[(j:Int).toNat]? =some (aN c[j]):=bA a
  have hx:deN (c.take j) < 72057594037927936:=by
   have h2:=xT j (c.take j) (by rw [List.length_take];omega)
   have h3:256 ^ j<=256 ^ 7:=Nat.pow_le_pow_right (by decide) (by omega)
   have h4:(256:Nat) ^ 7=72057594037927936:=by decide
   omega
  have g:(c[j]).toNat < 256:=c[j].toNat_lt
  have l:deN (c.take (j+1))=256 * deN (c.take j)+(c[j]).toNat:=by rw [List.take_succ_eq_append_getElem a,zC]
  have i:=aZy hx g
  have k:=gK (c[j]).toNat (by omega)
  (repeat' first|(refine qW ?_;intros)|((conv=>whnf);first|refine dwR ?_|((first|refine aA ?_ ?_|refine aC ?_ ?_)<;>intro hb<;>(first|exact ddX hb|try simp only [lnS]at hb))|(refine aB ?_ ?_<;>intro hb<;>try exact dsX hb)))
  have b:bits .or .u64 (IntKind.u64.wrap (((deN (c.take j):Nat):Int)* 2 ^ (min (8:Int).toNat IntKind.u64.bits))) (IntKind.u64.wrap ((c[j]).toNat:Int))=((deN (c.take (j+1)):Nat):Int):=by rw [k,l];exact i
  refine⟨j+1,qO,qO, ?_⟩
  dsimp only
  rw [<-b]
  exact⟨qB,rfl⟩
 ·have a:j=c.length:=by omega
  subst a
  rw [List.take_length]
  (repeat' first|(refine qW ?_;intros)|((conv=>whnf);first|refine dwR ?_|((first|refine aA ?_ ?_|refine aC ?_ ?_)<;>intro hb<;>(first|exact ddX hb|try simp only [lnS]at hb))|(refine aB ?_ ?_<;>intro hb<;>try exact dsX hb)))
  exact hok
def RdC {α:Type}(f:FuncId) (r:Rd α) (e:α->SV):Prop:= ∀(bs:List UInt8) (hp0:Hp) {pin:Pin}{fr:Fr}{K:SV->Hp->Prop}
  (_: ∀x c,r bs=some (x,c)->K (e x) ((3, .cells 104 [.d (.sl 1 (c.map aN))])::hp0))
  (_:r bs=none-> ∀b:List UInt8,pin.kp fr ((3, .cells 104 [.d (.sl 1 (b.map aN))])::hp0)),
  aF Tryz.prog pin fr ((3, .cells 104 [.d (.sl 1 (bs.map aN))])::hp0) f [.ptr 3 0] K
theorem aM7 {bs:List UInt8}{m:Nat}(h:m<=bs.length):tE m bs=some (bs.take m,bs.drop m):=if_pos h
theorem aM8 {bs:List UInt8}{m:Nat}(h:bs.length < m):tE m bs=none:=if_neg (by omega)
theorem aFd {bs:List UInt8}{m:Nat}(h:m<=bs.length):aHc m bs=some (deN (bs.take m),bs.drop m):=cL (aM7 h)
theorem aFe {bs:List UInt8}{m:Nat}(h:bs.length < m):aHc m bs=none:=iR (aM8 h)
theorem bBc (n:Nat) (h:n < 18446744073709551616):IntKind.i64.wrap (n:Int)=sgN n:=by
 unfold sgN
 rw [IntKind.wrap_i64]
 split<;>omega
theorem aT2:RdC 156 aQe (λz=> .d (.int .i64 z)):=by
 intro bs b pin fr K a c
 refine aG false [] hty Tryz.func156 rfl (kp [0,2]) 100 (by simp [Tryz.f156]) ?_
 refine qX ?_;intros
 refine jG bs 8 (by omega) b (λg=> ?_) (λe=>c (iR (aFe e)) bs)
 have h:=a _ _ (cL (f:=sgN) (aFd g))
 rw [<-bBc _ (xT 8 (bs.take 8) (by rw [List.length_take];omega))]at h
 (repeat' first|(refine qW ?_;intros)|((conv=>whnf);first|refine dwR ?_|((first|refine aA ?_ ?_|refine aC ?_ ?_)<;>intro hb<;>(first|exact ddX hb|try simp only [lnS]at hb))|(refine aB ?_ ?_<;>intro hb<;>try exact dsX hb)))
 exact h
theorem aWs:RdC 101 (uR (aHc 1) λn=>(n:Int)) (λz=> .d (.int .i64 z)):=by
 intro bs e pin fr K b g
 refine aG false [] hty Tryz.func101 rfl (kp [0,2]) 100 (by simp [Tryz.f101]) ?_
 refine qX ?_;intros
 refine jG bs 1 (by omega) e (λh=> ?_) (λc=>g (iR (aFe c)) bs)
 have a:=b _ _ (cL (f:= λn:Nat=>(n:Int)) (aFd h))
 have h2:=xT 1 (bs.take 1) (by rw [List.length_take];omega)
 have i:IntKind.i64.wrap ((deN (bs.take 1):Nat):Int)=((deN (bs.take 1):Nat):Int):=IntWalk.i64_in _ (by omega)
 dsimp only at a
 rw [<-i]at a
 (repeat' first|(refine qW ?_;intros)|((conv=>whnf);first|refine dwR ?_|((first|refine aA ?_ ?_|refine aC ?_ ?_)<;>intro hb<;>(first|exact ddX hb|try simp only [lnS]at hb))|(refine aB ?_ ?_<;>intro hb<;>try exact dsX hb)))
 exact a
theorem aZ9:RdC 78 (cX (aHc 4) tE) (λs=> .d (.str s)):=by
 intro bs e pin fr K c b
 refine aG false [] hty Tryz.func78 rfl (kp [0,2]) 100 (by simp [Tryz.f78]) ?_
 refine qX ?_;intros
 refine jG bs 4 (by omega) e (λg=> ?_) (λa=>b (bE (aFe a)) bs)
 have h2:=xT 4 (bs.take 4) (by rw [List.length_take];omega)
 have i:IntKind.i64.wrap ((deN (bs.take 4):Nat):Int)=((deN (bs.take 4):Nat):Int):=IntWalk.i64_in _ (by omega)
 have hb:cX (aHc 4) tE bs=tE (deN (bs.take 4)) (bs.drop 4):=aQ (aFd g)
 rw [hb]at c b
 generalize deN (bs.take 4)=m at *
 generalize bs.drop 4=r at *
 refine qX ?_;intros
 rw [i]
 refine aGw r m e (λf=> ?_) (λa=>b (aM8 a) r)
 have h:=c _ _ (aM7 f)
 have j:=lL (r.take m)
 (repeat' first|(refine qW ?_;intros)|((conv=>whnf);first|refine dwR ?_|((first|refine aA ?_ ?_|refine aC ?_ ?_)<;>intro hb<;>(first|exact ddX hb|try simp only [lnS]at hb))|(refine aB ?_ ?_<;>intro hb<;>try exact dsX hb)))
 rw [j]
 exact h
end
end Go.Proofs.YtbobcfjlbcgchaaGreatDoor
