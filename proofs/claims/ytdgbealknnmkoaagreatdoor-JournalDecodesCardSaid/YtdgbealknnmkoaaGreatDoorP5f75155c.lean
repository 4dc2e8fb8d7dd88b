/- Texts of one proof, put together by a program: each lemma is proved for all values of its variables, under the premises that it states. -/
import Derived.BigQuiet
import Derived.Deep.QuietTactic
import Derived.Test.YtdgbealknnmkoaaGreatDoorProg
import Derived.Test.YtdgbealknnmkoaaGreatDoorP2d4812f5
set_option linter.unusedVariables false
set_option linter.unusedSimpArgs false
namespace Go.Proofs.YtdgbealknnmkoaaGreatDoor
open Go.RowKit
theorem Tryz.elemU32:CX Tryz.prog .u32 97 4:=by unfold CX;kernel_rfl
def AaE (A:Option Addr)(xs:List Nat)(w:World)(e:Ending)(w':World):Prop :=
 ∃ m,m≤xs.length∧xs.take m=Ae (val xs)∧e = .returned (.slice A m m)∧w=w'
set_option maxRecDepth 100000 in
theorem Cx {A : Option Addr} {n c B : Nat} {xs : List Nat} (w : World) (hr : Rd .u32 w B A n xs) (hx : W32 xs) (hnc : n ≤ c) (hc : c ≤ 9223372036854775807) :
  Calls Tryz.prog 132 #[.slice A n c] w (AaE A xs w):=by
 have HL:=Lib.hid hr.len;have HX:=Lib.hid hx;clear hx;go_enter Tryz.func132,Tryz.ntmps132
 go_wp2
 go_loop [3] (fun i => ∃ k:Nat,k≤n∧i = .int .i64 k∧Hid (∀ j,k≤j→xs.getD j 0=0)) (fun i=>(intOf i).toNat)
 case atStart=>exact ⟨n,Nat.le_refl _,rfl,fun j hj=>by rw[List.getD_eq_getElem?_getD,List.getElem?_eq_none (by rw[HL.out];exact hj)];rfl⟩
 case round =>
  obtain ⟨k,hk,rfl,HZ⟩:=hrel;by_cases h0:0 < k
  ·obtain ⟨b,off,rfl,hbB,hcell⟩:=hr.at_ (j:=k - 1) (by omega)
   by_cases hz:xs.getD (k - 1) 0=0
   ·have HZ2:Hid (∀ j,k - 1≤j→xs.getD j 0=0):=fun j hj=>by
     by_cases e:j=k - 1
     ·rw[e];exact hz
     ·exact HZ.out j (by omega)
    rw[hz] at hcell;clear hz;go_wp2
    go_round
    case rel=>exact ⟨k - 1,by omega,by go_num,HZ2⟩
    case measure=>simp[intOf] <;> omega
   ·have HZ2:=Lib.hid hz
    have hz':((xs.getD (k - 1) 0:Nat):Int)≠0:=by omega
    generalize hy:xs.getD (k - 1) 0=y at *;have hyb:(((y:Nat):Int) == 0)=false:=by simp;omega
    have HY:=Lib.hid hy;clear hy hz hz';go_wp2
    go_ret
    exact ⟨k,by rw[HL.out];exact hk,DN xs HX.out k (by rw[HL.out];exact hk) HZ.out (.inr (by rw[HY.out];exact HZ2.out)),rfl,rfl⟩
  ·obtain rfl:k=0:=by omega
   go_wp2
   go_ret
   exact ⟨0,by omega,DN xs HX.out 0 (by omega) HZ.out (.inl rfl),by cases A <;> rfl,rfl⟩
def sgn (neg:Bool)(n:Nat):Int:=if neg then -(n:Int) else (n:Int)
def AInt (w:World)(neg:Bool)(A:Option Addr)(n c:Nat)(z:Int):Prop :=
 ∃ ds,Rd .u32 w w.heap.size A n ds∧W32 ds∧n≤c∧c≤9223372036854775807∧z=sgn neg (val ds)
def CInt (w:World)(neg:Bool)(A:Option Addr)(n c:Nat)(z:Int):Prop :=
 Rd .u32 w w.heap.size A n (Ae z.natAbs)∧neg=decide (z < 0)∧n≤c∧c≤9223372036854775807
def RetInt (w:World)(z:Int)(e:Ending)(w':World):Prop :=
 ∃ neg A n c,e = .returned (.agg #[.bool neg,.slice A n c])∧CInt w' neg A n c z∧Below w.heap.size w w'
theorem CInt.any {w:World}{neg:Bool}{A:Option Addr}{n c:Nat}{z:Int}(h:CInt w neg A n c z):AInt w neg A n c z:=by
 refine ⟨_,h.1,Ai _,h.2.2.1,h.2.2.2,?_⟩;rw[An,h.2.1,sgn];by_cases hz:z < 0
 ·simp[hz];omega
 ·simp[hz];omega
theorem CInt.call {w w':World}{neg:Bool}{A:Option Addr}{n c:Nat}{z:Int}(h:CInt w neg A n c z)(hb:Below w.heap.size w w'):CInt w' neg A n c z:=⟨h.1.call hb,h.2⟩
theorem AInt.call {w w':World}{neg:Bool}{A:Option Addr}{n c:Nat}{z:Int}(h:AInt w neg A n c z)(hb:Below w.heap.size w w'):AInt w' neg A n c z:=by
 obtain ⟨ds,h1,h2⟩:=h;exact ⟨ds,h1.call hb,h2⟩
theorem CInt.zero (w:World):CInt w false none 0 0 0:=⟨by rw[show Int.natAbs 0=0 from rfl,AY];exact Rd.nil,by decide,by omega,by omega⟩
theorem CInt.of {w:World}{neg:Bool}{A:Option Addr}{n c:Nat}{m:Nat}(h:Rd .u32 w w.heap.size A n (Ae m))(hm:m≠0)(hc:n≤c)(hc2:c≤9223372036854775807):CInt w neg A n c (sgn neg m):=by
 refine ⟨?_,?_,hc,hc2⟩
 ·have:(sgn neg m).natAbs=m:=by unfold sgn;cases neg <;> simp
  rw[this];exact h
 ·unfold sgn;cases neg
  ·simp
  ·simp;omega
set_option maxRecDepth 100000 in
theorem Jq {A:Option Addr}{n c B:Nat}{xs:List Nat}(neg:Bool)(w:World)(hr:Rd .u32 w B A n xs)(hB:B≤w.heap.size)(hx:W32 xs)(hnc:n≤c)(hc:c≤9223372036854775807) :
  Calls Tryz.prog 137 #[.bool neg,.slice A n c] w (RetInt w (sgn neg (val xs))):=by
 go_enter Tryz.func137,Tryz.ntmps137
 go_wp2_with fail
 refine (Cx _ (hr.alloc hB _) hx hnc hc).mono ?_;rintro e w1 ⟨m,hm,ht,rfl,rfl⟩;have r1:=(hr.take (j:=m) (by have:=hr.len;omega))
 rw[ht] at r1;have hmn:m≤n:=by have:=hr.len;omega
 have HM:Hid (m=0↔val xs=0):=by
  have h1:=r1.len;unfold Hid;rw[←AQ (val xs),h1]
 generalize val xs=v at *;clear ht hm;by_cases h0:m=0
 ·obtain rfl:=HM.out.1 h0
  subst h0;go_wp2
  go_returns
  have h0:sgn neg 0=0:=by cases neg <;> rfl
  rw[h0];exact ⟨_,_,_,_,rfl,CInt.zero _,(Below.refl _ _).alloc (Nat.le_refl _) _⟩
 ·have hne:((m:Int) == 0)=false:=by simp;omega
  have hv:Hid (v≠0):=fun h=>h0 (HM.out.2 h)
  go_wp2
  go_returns
  exact ⟨_,_,_,_,rfl,CInt.of ((r1.alloc hB _).more (by simp;omega)) hv.out (Nat.le_refl _) (by omega),(Below.refl _ _).alloc (Nat.le_refl _) _⟩
def RetMag (w:World)(m:Nat)(e:Ending)(w':World):Prop :=
 ∃ A n c,e = .returned (.slice A n c)∧Rd .u32 w' w'.heap.size A n (Ae m)∧n≤c∧c≤9223372036854775807∧Below w.heap.size w w'
theorem Gd {m:Nat}(h0:m≠0)(h:m < 4294967296):Ae m=[m]:=by
 rw[Ci h0,show m / 4294967296=0 by omega,AY,Nat.mod_eq_of_lt h]
theorem MK {m:Nat}(h0:4294967296≤m)(h:m < 18446744073709551616):Ae m=[m % 4294967296,m / 4294967296]:=by
 rw[Ci (by omega),Gd (by omega) (by omega)]
set_option maxRecDepth 100000 in
theorem Cr (m:Nat)(w:World)(h:m < 18446744073709551616):Calls Tryz.prog 138 #[.int .u64 m] w (RetMag w m):=by
 by_cases h0:m=0
 ·subst h0
  go_enter Tryz.func138,Tryz.ntmps138
  go_wp2
  go_ret
  exact ⟨none,0,0,rfl,by rw[AY];exact Rd.nil,by omega,by omega,Below.refl _ _⟩
 ·have hb:((m:Int) == 0)=false:=by simp;omega
  by_cases h1:m < 4294967296
  ·have HD:=Lib.hid (Gd h0 h1)
   have hd1:decide ((m:Int) < 4294967296)=true:=by simp;omega
   clear h;go_enter Tryz.func138,Tryz.ntmps138
   go_wp2
   go_ret
   exact ⟨_,_,_,rfl,by rw[HD.out];exact (Rd.block .u32 w _ _ [m] _ rfl).more (by simp),by omega,by omega,(Below.refl _ _).alloc (Nat.le_refl _) _⟩
  ·have HD:=Lib.hid (MK (by omega) h)
   have hq:m / 4294967296 < 4294967296:=by omega
   have hd1:decide ((m:Int) < 4294967296)=false:=by simp;omega
   clear h;go_enter Tryz.func138,Tryz.ntmps138
   go_wp2
   go_ret
   exact ⟨_,_,_,rfl,by rw[HD.out];exact (Rd.block .u32 w _ _ [m % 4294967296,m / 4294967296] _ (by simp[cellsOf])).more (by simp),by omega,by omega,(Below.refl _ _).alloc (Nat.le_refl _) _⟩
def VW (w:World)(v:Value)(e:Ending)(w':World):Prop:=e = .returned v ∧ ∃ n,w'=w.drewN n
theorem Xh {w:World}{v:Value}{e:Ending}{a b c:Nat}(h:e = .returned v):VW w v e (((w.drewN a).drewN b).drewN c):=⟨h,a+(b+c),by rw[World.drewN_drewN,World.drewN_drewN]⟩
theorem CM (w:World)(n:Nat):Below w.heap.size w (w.drewN n):=⟨rfl,rfl,rfl,Nat.le_refl _,fun _ _=>rfl⟩
theorem Fq (a b:Nat)(ha:a < 4294967296)(hb:b < 4294967296):bits .or .u64 ((b:Int)*4294967296) (a:Int)=((a+4294967296*b:Nat):Int):=by
 have h:=u64_or_nat (b*4294967296) a (by omega) (by omega)
 rw[nat_join 32 (b*4294967296) a (by omega) (by omega)] at h
 rw[show ((b:Int)*4294967296)=((b*4294967296:Nat):Int) by omega,h]
 omega
set_option maxRecDepth 100000 in
theorem D7 {A:Option Addr}{n c B m:Nat}(w:World)(hr:Rd .u32 w B A n (Ae m))(hm:m < 18446744073709551616) :
  Calls Tryz.prog 189 #[.slice A n c] w (VW w (.int .u64 m)):=by
 by_cases h0:m=0
 ·subst h0
  rw[AY] at hr;obtain rfl:0=n:=hr.len;go_enter Tryz.func189,Tryz.ntmps189
  go_wp2
  go_ret
  exact ⟨rfl,0,rfl⟩
 ·by_cases h1:m < 4294967296
  ·rw[Gd h0 h1] at hr
   obtain rfl:1=n:=hr.len;obtain ⟨b,off,rfl,_,hc⟩:=hr.at_ (j:=0) (by omega)
   simp at hc;go_enter Tryz.func189,Tryz.ntmps189
   go_wp2
   go_ret
   exact ⟨rfl,0,rfl⟩
  ·rw[MK (by omega) hm] at hr
   obtain rfl:2=n:=hr.len;obtain ⟨b,off,rfl,_,hc0⟩:=hr.at_ (j:=0) (by omega)
   obtain ⟨b',off',e,_,hc1⟩:=hr.at_ (j:=1) (by omega)
   injection e with e;injection e with e1 e2;subst e1 e2;have HM:Hid (m=m % 4294967296+4294967296*(m / 4294967296)):=by unfold Hid;omega
   have l0:m % 4294967296 < 4294967296:=by omega
   have l1:m / 4294967296 < 4294967296:=by omega
   have c0:w.cell? ⟨b,off,none⟩=some (.int .u32 ((m % 4294967296:Nat):Int)):=hc0;have c1:w.cell? ⟨b,off+1,none⟩=some (.int .u32 ((m / 4294967296:Nat):Int)):=hc1;clear hc0 hc1 hr h0 h1 hm;have hj:=Fq _ _ l0 l1;have hjj:=Lib.hid HM.out.symm;rw[show m % 4294967296+4294967296*(m / 4294967296)=m from hjj.out] at hj;clear hjj HM;generalize m % 4294967296=a0 at *;generalize m / 4294967296=a1 at *;go_enter Tryz.func189,Tryz.ntmps189
   go_wp2
   go_quiet (fail)
   go_wp2
   go_ret
   exact ⟨rfl,_,rfl⟩
def BT (a b:Nat):Int:=if a < b then -1 else if a=b then 0 else 1
theorem JZ {a b:Nat}(h:(Ae a).length < (Ae b).length):a < b:=by
 rcases Nat.lt_or_ge a b with h1 | h1
 ·exact h1
 ·have:=AW h1;omega
theorem ET {xs ys:List Nat}(hx:W32 xs)(hy:W32 ys)(hl:xs.length=ys.length)(k:Nat)(hk:k < xs.length)(he:xs.drop (k+1)=ys.drop (k+1))(hlt:xs.getD k 0 < ys.getD k 0):val xs < val ys:=by
 have e1:xs=xs.take k++(xs.getD k 0::xs.drop (k+1)):=by
  have h:=List.take_append_drop k xs;rw[List.drop_eq_getElem_cons hk] at h;rw[List.getD_eq_getElem?_getD,List.getElem?_eq_getElem hk];exact h.symm
 have e2:ys=ys.take k++(ys.getD k 0::ys.drop (k+1)):=by
  have hk':k < ys.length:=by omega
  have h:=List.take_append_drop k ys;rw[List.drop_eq_getElem_cons hk'] at h;rw[List.getD_eq_getElem?_getD,List.getElem?_eq_getElem hk'];exact h.symm
 have l1:=BP (hx.take k);have l2:=BP (hy.take k);have hl1:(xs.take k).length=k:=by rw[List.length_take];omega
 have hl2:(ys.take k).length=k:=by rw[List.length_take];omega
 rw[hl1] at l1;rw[hl2] at l2;rw[e1,e2,C6,C6,hl1,hl2,Bq,Bq,he];generalize 4294967296 ^ k=P at *;generalize val (ys.drop (k+1))=v at *;generalize xs.getD k 0=x at *;generalize ys.getD k 0=y at *;have h3:P*(x+4294967296*v)+P≤P*(y+4294967296*v):=by
  rw[←Nat.mul_succ];exact Nat.mul_le_mul_left _ (by omega)
 omega
set_option maxRecDepth 100000 in
theorem EO {A A' : Option Addr} {n n' c c' B B' a b : Nat} (w : World) (hr : Rd .u32 w B A n (Ae a)) (hr' : Rd .u32 w B' A' n' (Ae b)) (hn : n ≤ 9223372036854775807) (hn' : n' ≤ 9223372036854775807) :
  Calls Tryz.prog 192 #[.slice A n c,.slice A' n' c'] w (VW w (.int .i64 (BT a b))):=by
 have hl:=hr.len;have hl':=hr'.len;have hwx:=Ai a;have hwy:=Ai b;by_cases hne:n=n'
 ·have hne' : ((n : Int) != (n' : Int)) = false := by simp [hne]
  have HV:Hid (val (Ae a)=a):=An a;have HV':Hid (val (Ae b)=b):=An b;have HT:=Lib.hid (ET hwx hwy (by omega))
  have HT':=Lib.hid (ET hwy hwx (by omega))
  subst hne;generalize Ae a=xs at *;generalize Ae b=ys at *;have HL:=Lib.hid hl;have HL':=Lib.hid hl';have HX:=Lib.hid hwx;have HY:=Lib.hid hwy;clear hl hl' hwx hwy;go_enter Tryz.func192,Tryz.ntmps192
  go_wp2
  go_loopw [5] (fun i wr => ∃ k:Nat,k≤n∧i = .int .i64 ((k:Int) - 1)∧Hid (xs.drop k=ys.drop k) ∧ ∃ q,Hid (wr=w.drewN q)) (fun i _=>(intOf i+1).toNat)
  case atStart=>exact ⟨n,Nat.le_refl _,rfl,by unfold Hid;rw[List.drop_of_length_le (by rw[HL.out];omega),List.drop_of_length_le (by rw[HL'.out];omega)],0,rfl⟩
  case round =>
   obtain ⟨k,hk,rfl,HE,q,hw⟩:=hrel;have hw':=hw.out;subst hw';clear hw;by_cases h0:0 < k
   ·obtain ⟨k,rfl⟩ : ∃ j,k=j+1:=⟨k - 1,by omega⟩
    obtain ⟨b1,o1,rfl,_,hc1⟩:=hr.at_ (j:=k) (by omega)
    obtain ⟨b2,o2,rfl,_,hc2⟩:=hr'.at_ (j:=k) (by omega)
    have hk1:k < n:=by omega
    have hkk:((k+1:Nat):Int) - 1=(k:Int):=by omega
    rw[hkk];have HT1:=Lib.hid (HT.out k (by rw[HL.out];omega) HE.out)
    have HT2:=Lib.hid (HT'.out k (by rw[HL'.out];omega) HE.out.symm)
    have HXY:Hid (xs.getD k 0=ys.getD k 0→xs.drop k=ys.drop k):=by
     intro e;rw[BJ xs k (by rw[HL.out];omega),BJ ys k (by rw[HL'.out];omega),HE.out,e]
    generalize xs.getD k 0=x at *;generalize ys.getD k 0=y at *;have i1:(0:Int)≤(k:Int):=by omega
    have i2:(k:Int) < (n:Int):=by omega
    by_cases e:x=y
    ·have eb:((x:Int) != (y:Int))=false:=by simp[e]
     have HE2:=Lib.hid (HXY.out e);clear e hkk;go_wp2
     go_quiet (fail)
     go_wp2
     go_roundw
     case rel=>exact ⟨k,by omega,rfl,HE2,_,rfl⟩
     case measure=>simp[intOf] <;> omega
    ·have eb:((x:Int) != (y:Int))=true:=by simp;omega
     by_cases hlt:x < y
     ·have fin:BT a b = -1:=by unfold BT;rw[if_pos (by have:=HT1.out hlt;rw[HV.out,HV'.out] at this;exact this)]
      have HF:=Lib.hid fin;have hlt':decide ((x:Int) < (y:Int))=true:=by simp;omega
      clear fin hkk;go_wp2
      go_quiet (fail)
      go_wp2
      go_quiet (fail)
      go_wp2
      go_ret
      exact Xh (by rw[HF.out];rfl)
     ·have fin:BT a b=1:=by
       have:=HT2.out (by omega)
       rw[HV.out,HV'.out] at this;unfold BT;rw[if_neg (by omega),if_neg (by omega)]
      have HF:=Lib.hid fin;have hlt':decide ((x:Int) < (y:Int))=false:=by simp;omega
      clear fin hkk;go_wp2
      go_quiet (fail)
      go_wp2
      go_quiet (fail)
      go_wp2
      go_ret
      exact Xh (by rw[HF.out];rfl)
   ·obtain rfl:k=0:=by omega
    have fin:BT a b=0:=by
     have h:=HE.out;rw[List.drop_zero,List.drop_zero] at h;have:a=b:=by rw[←HV.out,←HV'.out,h]
     unfold BT;rw[if_neg (by omega),if_pos this]
    have HF:=Lib.hid fin;clear fin;go_wp2
    go_ret
    exact ⟨by rw[HF.out];rfl,_,rfl⟩
 ·have hne':((n:Int) != (n':Int))=true:=by simp;omega
  by_cases hlt:n < n'
  ·have fin:BT a b = -1:=by unfold BT;rw[if_pos (JZ (by omega))]
   have HF:=Lib.hid fin;clear fin;go_enter Tryz.func192,Tryz.ntmps192
   go_wp2
   go_ret
   exact ⟨by rw[HF.out];rfl,0,rfl⟩
  ·have fin:BT a b=1:=by
    have:=JZ (a:=b) (b:=a) (by omega)
    unfold BT;rw[if_neg (by omega),if_neg (by omega)]
   have HF:=Lib.hid fin;clear fin;go_enter Tryz.func192,Tryz.ntmps192
   go_wp2
   go_ret
   exact ⟨by rw[HF.out];rfl,0,rfl⟩
set_option maxRecDepth 100000 in
theorem VU {A A' : Option Addr} {n n' c c' : Nat} {xs ys : List Nat} (w : World) (hr : Rd .u32 w w.heap.size A n xs) (hr' : Rd .u32 w w.heap.size A' n' ys) (hx : W32 xs) (hy : W32 ys) (hn : n ≤ 1099511627776) (hnn : n' ≤ n) :
  Calls Tryz.prog 167 #[.slice A n c,.slice A' n' c'] w (RetMag w (val xs+val ys)):=by
 have HL:=Lib.hid hr.len;have HL':=Lib.hid hr'.len;have HX:=Lib.hid hx;have HY:=Lib.hid hy;clear hx hy;go_enter Tryz.func167,Tryz.ntmps167
 go_wp2_with (at_make;refine AV (kx := .i64) (ky := .i64) (n:=n+1) (c:=n+1) Tryz.elemU32 Tryz.underlying22 rfl rfl (congrArg (Value.int .i64) (by omega)) (congrArg (Value.int .i64) (by omega)) (Nat.le_refl _) (by omega) (by omega) ?_)
 intro w1 B1 b1 l1;rw[←D1] at B1;generalize hg:w.heap.size=g at *;have HG:=Lib.hid hg;clear hg;have r1:=hr.below b1;have r1':=hr'.below b1;have hsz:g < w1.heap.size:=l1;clear hr hr' l1;go_wp2
 go_loopw [6,7,8,22] (fun cv _ _ i wr => ∃ (k cr:Nat) (ds:List Nat),k≤n∧i = .int .i64 k∧cv = .int .u64 cr∧cr≤1∧Hid (ds.length=k)∧Hid (W32 ds)∧Hid (val ds+4294967296 ^ k*cr=val (xs.take k)+val (ys.take k))∧Buf .u32 97 wr g (fill ds (n+1))∧Rd .u32 wr g A n xs∧Rd .u32 wr g A' n' ys∧Below g w wr) (fun _ _ _ i _=>n - (intOf i).toNat)
 case atStart=>exact ⟨0,0,[],by omega,rfl,rfl,by omega,rfl,W32.nil,rfl,B1,r1,r1',b1⟩
 case round =>
  obtain ⟨k,cr,ds,hk,rfl,rfl,hcr,hdl,hdw,HV,hB,q,q',hb⟩:=hrel;clear B1 r1 r1' b1;by_cases hlt:k < n
  ·obtain ⟨b1,o1,rfl,hb1,hc1⟩:=q.at_ hlt
   have hxl:=HX.out.getD k;have hc:wr.cell? ⟨g,k,none⟩=some (.int .u32 (((fill ds (n+1)).getD k 0:Nat):Int)):=hB.cell (by rw[CB (by rw[hdl.out];omega)];omega)
   have hf:=hB.frozen k;have HVS:=Lib.hid (Kk (x:=xs.getD k 0) (y:=ys.getD k 0) HV.out);rw[←Av,←Av,←Nat.pow_succ] at HVS;have hset : ∀ d,(fill ds (n+1)).set k d=fill (ds++[d]) (n+1):=fun d=>CA d (by omega) hdl.out
   have HSET:=Lib.hid hset;have hlen : ∀ d,(ds++[d]).length=k+1:=fun d=>by rw[List.length_append,hdl.out];rfl
   have HLEN:=Lib.hid hlen;have hval : ∀ d,val (ds++[d])=val ds+4294967296 ^ k*d:=fun d=>by rw[BO,hdl.out]
   have HVAL:=Lib.hid hval;clear hset hlen hval;generalize xs.getD k 0=x at *;generalize (fill ds (n+1)).getD k 0=old at *;by_cases hlt':k < n'
   ·obtain ⟨b2,o2,rfl,hb2,hc2⟩:=q'.at_ hlt'
    have hyl:=HY.out.getD k;generalize ys.getD k 0=y at *;go_wp2
    go_roundw
    case rel =>
     refine ⟨k+1,(cr+x+y) / 4294967296,ds++[(cr+x+y) % 4294967296],by omega,by go_num,by go_num,by omega,HLEN.out _,hdw.out.append (W32.mk (by omega) W32.nil),?_,?_,q.setCell (Nat.le_refl _) _,q'.setCell (Nat.le_refl _) _,hb.setCell (Nat.le_refl _) _⟩
     ·unfold Hid;rw[HVAL.out];exact HVS.out
     ·rw[←HSET.out];exact hB.setZ k (by omega)
    case measure=>simp[intOf] <;> omega
   ·have hy0:ys.getD k 0=0:=C5 ys k (by rw[HL'.out];omega)
    rw[hy0] at HVS;clear hy0;go_wp2
    go_roundw
    case rel =>
     refine ⟨k+1,(cr+x+0) / 4294967296,ds++[(cr+x+0) % 4294967296],by omega,by go_num,by go_num,by omega,HLEN.out _,hdw.out.append (W32.mk (by omega) W32.nil),?_,?_,q.setCell (Nat.le_refl _) _,q'.setCell (Nat.le_refl _) _,hb.setCell (Nat.le_refl _) _⟩
     ·unfold Hid;rw[HVAL.out];exact HVS.out
     ·rw[←HSET.out];exact hB.setZ k (by omega)
    case measure=>simp[intOf] <;> omega
  ·obtain rfl:k=n:=by omega
   have hc:wr.cell? ⟨g,k,none⟩=some (.int .u32 (((fill ds (k+1)).getD k 0:Nat):Int)):=hB.cell (by rw[CB (by rw[hdl.out];omega)];omega)
   have hf:=hB.frozen k;have hB2:=hB.set_ k cr;rw[CA cr (by omega) hdl.out,CV (by rw[List.length_append,hdl.out];rfl)] at hB2
   have hv:val (ds++[cr])=val xs+val ys:=by
    have h:=HV.out;rw[List.take_of_length_le (by rw[HL.out];omega),List.take_of_length_le (by rw[HL'.out];omega)] at h
    rw[BO,hdl.out,h]
   have hw32:W32 (ds++[cr]):=hdw.out.append (W32.mk (by omega) W32.nil)
   have hlen:(ds++[cr]).length=k+1:=by rw[List.length_append,hdl.out];rfl
   have hrd:=hB2.rd;rw[hlen] at hrd;have htr:=Cx (c:=k+1) _ hrd hw32 (Nat.le_refl _) (by omega)
   have HT:=Lib.hid htr;have HD:=Lib.hid hrd;have HV2:=Lib.hid hv;have HLen:=Lib.hid hlen;have HB3:=Lib.hid (hb.setCell (p:=⟨g,k,none⟩) (Nat.le_refl _) (.int .u32 (cr:Int)));generalize ds++[cr]=zs at *;clear htr hrd hv hlen hB2 hw32;go_wp2_with fail
   refine HT.out.mono ?_;rintro e w3 ⟨m,hm,ht,rfl,rfl⟩;clear HT;go_wp2
   go_ret
   have r3:=HD.out.take (j:=m) (by rw[←HLen.out];exact hm)
   rw[ht,HV2.out] at r3;exact ⟨_,m,m,rfl,r3,Nat.le_refl _,by have:=HLen.out;omega,by rw[HG.out];exact HB3.out⟩
set_option maxRecDepth 100000 in
theorem VT {A A' : Option Addr} {n n' c c' : Nat} {xs ys : List Nat} (w : World) (hr : Rd .u32 w w.heap.size A n xs) (hr' : Rd .u32 w w.heap.size A' n' ys) (hx : W32 xs) (hy : W32 ys) (hn : n ≤ 1099511627776) (hnn : n' < n) :
  Calls Tryz.prog 167 #[.slice A' n' c',.slice A n c] w (RetMag w (val xs+val ys)):=by
 have HL:=Lib.hid hr.len;have HL':=Lib.hid hr'.len;have HX:=Lib.hid hx;have HY:=Lib.hid hy;clear hx hy;go_enter Tryz.func167,Tryz.ntmps167
 go_wp2_with (at_make;refine AV (kx := .i64) (ky := .i64) (n:=n+1) (c:=n+1) Tryz.elemU32 Tryz.underlying22 rfl rfl (congrArg (Value.int .i64) (by omega)) (congrArg (Value.int .i64) (by omega)) (Nat.le_refl _) (by omega) (by omega) ?_)
 intro w1 B1 b1 l1;rw[←D1] at B1;generalize hg:w.heap.size=g at *;have HG:=Lib.hid hg;clear hg;have r1:=hr.below b1;have r1':=hr'.below b1;have hsz:g < w1.heap.size:=l1;clear hr hr' l1;go_wp2
 go_loopw [6,7,8,22] (fun cv _ _ i wr => ∃ (k cr:Nat) (ds:List Nat),k≤n∧i = .int .i64 k∧cv = .int .u64 cr∧cr≤1∧Hid (ds.length=k)∧Hid (W32 ds)∧Hid (val ds+4294967296 ^ k*cr=val (xs.take k)+val (ys.take k))∧Buf .u32 97 wr g (fill ds (n+1))∧Rd .u32 wr g A n xs∧Rd .u32 wr g A' n' ys∧Below g w wr) (fun _ _ _ i _=>n - (intOf i).toNat)
 case atStart=>exact ⟨0,0,[],by omega,rfl,rfl,by omega,rfl,W32.nil,rfl,B1,r1,r1',b1⟩
 case round =>
  obtain ⟨k,cr,ds,hk,rfl,rfl,hcr,hdl,hdw,HV,hB,q,q',hb⟩:=hrel;clear B1 r1 r1' b1;by_cases hlt:k < n
  ·obtain ⟨b1,o1,rfl,hb1,hc1⟩:=q.at_ hlt
   have hxl:=HX.out.getD k;have hc:wr.cell? ⟨g,k,none⟩=some (.int .u32 (((fill ds (n+1)).getD k 0:Nat):Int)):=hB.cell (by rw[CB (by rw[hdl.out];omega)];omega)
   have hf:=hB.frozen k;have HVS:=Lib.hid (Kk (x:=xs.getD k 0) (y:=ys.getD k 0) HV.out);rw[←Av,←Av,←Nat.pow_succ] at HVS;have hset : ∀ d,(fill ds (n+1)).set k d=fill (ds++[d]) (n+1):=fun d=>CA d (by omega) hdl.out
   have HSET:=Lib.hid hset;have hlen : ∀ d,(ds++[d]).length=k+1:=fun d=>by rw[List.length_append,hdl.out];rfl
   have HLEN:=Lib.hid hlen;have hval : ∀ d,val (ds++[d])=val ds+4294967296 ^ k*d:=fun d=>by rw[BO,hdl.out]
   have HVAL:=Lib.hid hval;clear hset hlen hval;generalize xs.getD k 0=x at *;generalize (fill ds (n+1)).getD k 0=old at *;by_cases hlt':k < n'
   ·obtain ⟨b2,o2,rfl,hb2,hc2⟩:=q'.at_ hlt'
    have hyl:=HY.out.getD k;generalize ys.getD k 0=y at *;go_wp2
    go_roundw
    case rel =>
     refine ⟨k+1,(cr+x+y) / 4294967296,ds++[(cr+x+y) % 4294967296],by omega,by go_num,by go_num,by omega,HLEN.out _,hdw.out.append (W32.mk (by omega) W32.nil),?_,?_,q.setCell (Nat.le_refl _) _,q'.setCell (Nat.le_refl _) _,hb.setCell (Nat.le_refl _) _⟩
     ·unfold Hid;rw[HVAL.out];exact HVS.out
     ·rw[←HSET.out];exact hB.setZ k (by omega)
    case measure=>simp[intOf] <;> omega
   ·have hy0:ys.getD k 0=0:=C5 ys k (by rw[HL'.out];omega)
    rw[hy0] at HVS;clear hy0;go_wp2
    go_roundw
    case rel =>
     refine ⟨k+1,(cr+x+0) / 4294967296,ds++[(cr+x+0) % 4294967296],by omega,by go_num,by go_num,by omega,HLEN.out _,hdw.out.append (W32.mk (by omega) W32.nil),?_,?_,q.setCell (Nat.le_refl _) _,q'.setCell (Nat.le_refl _) _,hb.setCell (Nat.le_refl _) _⟩
     ·unfold Hid;rw[HVAL.out];exact HVS.out
     ·rw[←HSET.out];exact hB.setZ k (by omega)
    case measure=>simp[intOf] <;> omega
  ·obtain rfl:k=n:=by omega
   have hc:wr.cell? ⟨g,k,none⟩=some (.int .u32 (((fill ds (k+1)).getD k 0:Nat):Int)):=hB.cell (by rw[CB (by rw[hdl.out];omega)];omega)
   have hf:=hB.frozen k;have hB2:=hB.set_ k cr;rw[CA cr (by omega) hdl.out,CV (by rw[List.length_append,hdl.out];rfl)] at hB2
   have hv:val (ds++[cr])=val xs+val ys:=by
    have h:=HV.out;rw[List.take_of_length_le (by rw[HL.out];omega),List.take_of_length_le (by rw[HL'.out];omega)] at h
    rw[BO,hdl.out,h]
   have hw32:W32 (ds++[cr]):=hdw.out.append (W32.mk (by omega) W32.nil)
   have hlen:(ds++[cr]).length=k+1:=by rw[List.length_append,hdl.out];rfl
   have hrd:=hB2.rd;rw[hlen] at hrd;have htr:=Cx (c:=k+1) _ hrd hw32 (Nat.le_refl _) (by omega)
   have HT:=Lib.hid htr;have HD:=Lib.hid hrd;have HV2:=Lib.hid hv;have HLen:=Lib.hid hlen;have HB3:=Lib.hid (hb.setCell (p:=⟨g,k,none⟩) (Nat.le_refl _) (.int .u32 (cr:Int)));generalize ds++[cr]=zs at *;clear htr hrd hv hlen hB2 hw32;go_wp2_with fail
   refine HT.out.mono ?_;rintro e w3 ⟨m,hm,ht,rfl,rfl⟩;clear HT;go_wp2
   go_ret
   have r3:=HD.out.take (j:=m) (by rw[←HLen.out];exact hm)
   rw[ht,HV2.out] at r3;exact ⟨_,m,m,rfl,r3,Nat.le_refl _,by have:=HLen.out;omega,by rw[HG.out];exact HB3.out⟩
theorem Na {A A':Option Addr}{n n' c c':Nat}{xs ys:List Nat}(w:World)(hr:Rd .u32 w w.heap.size A n xs)(hr':Rd .u32 w w.heap.size A' n' ys)(hx:W32 xs)(hy:W32 ys)(hn:n≤1099511627776)(hn':n'≤1099511627776) :
  Calls Tryz.prog 167 #[.slice A n c,.slice A' n' c'] w (RetMag w (val xs+val ys)):=by
 by_cases h:n'≤n
 ·exact VU w hr hr' hx hy hn h
 ·rw[Nat.add_comm];exact VT w hr' hr hy hx hn' (by omega)
set_option maxRecDepth 100000 in
theorem H0 {A A' : Option Addr} {n n' c c' : Nat} {xs ys : List Nat} (w : World) (hr : Rd .u32 w w.heap.size A n xs) (hr' : Rd .u32 w w.heap.size A' n' ys) (hx : W32 xs) (hy : W32 ys) (hn : n ≤ 1099511627776) (hnn : n' ≤ n) (hle : val ys ≤ val xs) :
  Calls Tryz.prog 168 #[.slice A n c,.slice A' n' c'] w (RetMag w (val xs - val ys)):=by
 have HL:=Lib.hid hr.len;have HL':=Lib.hid hr'.len;have HX:=Lib.hid hx;have HY:=Lib.hid hy;have HLE:=Lib.hid hle;clear hx hy hle;go_enter Tryz.func168,Tryz.ntmps168
 go_wp2_with (at_make;refine AV (kx := .i64) (ky := .i64) (n:=n) (c:=n) Tryz.elemU32 Tryz.underlying22 rfl rfl rfl rfl (Nat.le_refl _) (by omega) (by omega) ?_)
 intro w1 B1 b1 l1;rw[←D1] at B1;generalize hg:w.heap.size=g at *;have HG:=Lib.hid hg;clear hg;have r1:=hr.below b1;have r1':=hr'.below b1;have hsz:g < w1.heap.size:=l1;clear hr hr' l1;go_wp2
 go_loopw [6,7,8,9,15] (fun cv _ _ _ i wr => ∃ (k cr:Nat) (ds:List Nat),k≤n∧i = .int .i64 k∧cv = .int .i64 cr∧cr≤1∧Hid (ds.length=k)∧Hid (W32 ds)∧Hid (val (xs.take k)+4294967296 ^ k*cr=val ds+val (ys.take k))∧Buf .u32 97 wr g (fill ds n)∧Rd .u32 wr g A n xs∧Rd .u32 wr g A' n' ys∧Below g w wr) (fun _ _ _ _ i _=>n - (intOf i).toNat)
 case atStart=>exact ⟨0,0,[],by omega,rfl,rfl,by omega,rfl,W32.nil,rfl,B1,r1,r1',b1⟩
 case round =>
  obtain ⟨k,cr,ds,hk,rfl,rfl,hcr,hdl,hdw,HV,hB,q,q',hb⟩:=hrel;clear B1 r1 r1' b1;by_cases hlt:k < n
  ·obtain ⟨b1,o1,rfl,hb1,hc1⟩:=q.at_ hlt
   have hxl:=HX.out.getD k;have hyl:=HY.out.getD k;have hc:wr.cell? ⟨g,k,none⟩=some (.int .u32 (((fill ds n).getD k 0:Nat):Int)):=hB.cell (by rw[CB (by rw[hdl.out];omega)];omega)
   have hf:=hB.frozen k;have HVS:=Lib.hid (LW (x:=xs.getD k 0) (y:=ys.getD k 0) HV.out hxl hyl hcr);rw[←Av,←Av,←Nat.pow_succ] at HVS;have HSET:=Lib.hid (fun d=>CA d hlt hdl.out)
   have HLEN:Hid (∀ d,(ds++[d]).length=k+1):=fun d=>by rw[List.length_append,hdl.out];rfl
   have HVAL:Hid (∀ d,val (ds++[d])=val ds+4294967296 ^ k*d):=fun d=>by rw[BO,hdl.out]
   have HW:=Lib.hid (Qc (xs.getD k 0) (ys.getD k 0) cr hxl hyl hcr);by_cases hlt':k < n'
   ·obtain ⟨b2,o2,rfl,hb2,hc2⟩:=q'.at_ hlt'
    generalize xs.getD k 0=x at *;generalize (fill ds n).getD k 0=old at *;generalize ys.getD k 0=y at *;by_cases ht:x < cr+y
    ·rw[if_pos ht] at HVS
     have ht':decide ((x:Int) - (cr:Int) - (y:Int) < 0)=true:=by simp;omega
     go_wp2
     go_roundw
     case rel =>
      refine ⟨k+1,1,ds++[(x+4294967296 - cr - y) % 4294967296],by omega,by go_num,rfl,by omega,HLEN.out _,hdw.out.append (W32.mk (by omega) W32.nil),?_,?_,q.setCell (Nat.le_refl _) _,q'.setCell (Nat.le_refl _) _,hb.setCell (Nat.le_refl _) _⟩
      ·unfold Hid;rw[HVAL.out];exact HVS.out
      ·rw[←HSET.out];exact hB.setZ k HW.out
     case measure=>simp[intOf] <;> omega
    ·rw[if_neg ht] at HVS
     have ht':decide ((x:Int) - (cr:Int) - (y:Int) < 0)=false:=by simp;omega
     go_wp2
     go_roundw
     case rel =>
      refine ⟨k+1,0,ds++[(x+4294967296 - cr - y) % 4294967296],by omega,by go_num,rfl,by omega,HLEN.out _,hdw.out.append (W32.mk (by omega) W32.nil),?_,?_,q.setCell (Nat.le_refl _) _,q'.setCell (Nat.le_refl _) _,hb.setCell (Nat.le_refl _) _⟩
      ·unfold Hid;rw[HVAL.out];exact HVS.out
      ·rw[←HSET.out];exact hB.setZ k (by first | exact HW.out | omega)
     case measure=>simp[intOf] <;> omega
   ·have hy0:ys.getD k 0=0:=C5 ys k (by rw[HL'.out];omega)
    rw[hy0] at HVS HW;clear hy0 hyl;generalize xs.getD k 0=x at *;generalize (fill ds n).getD k 0=old at *;by_cases ht:x < cr
    ·rw[if_pos (by omega)] at HVS
     have ht':decide ((x:Int) - (cr:Int) < 0)=true:=by simp;omega
     go_wp2
     go_roundw
     case rel =>
      refine ⟨k+1,1,ds++[(x+4294967296 - cr - 0) % 4294967296],by omega,by go_num,rfl,by omega,HLEN.out _,hdw.out.append (W32.mk (by omega) W32.nil),?_,?_,q.setCell (Nat.le_refl _) _,q'.setCell (Nat.le_refl _) _,hb.setCell (Nat.le_refl _) _⟩
      ·unfold Hid;rw[HVAL.out];exact HVS.out
      ·rw[←HSET.out];exact hB.setZ k (by omega)
     case measure=>simp[intOf] <;> omega
    ·rw[if_neg (by omega)] at HVS
     have ht':decide ((x:Int) - (cr:Int) < 0)=false:=by simp;omega
     go_wp2
     go_roundw
     case rel =>
      refine ⟨k+1,0,ds++[(x+4294967296 - cr - 0) % 4294967296],by omega,by go_num,rfl,by omega,HLEN.out _,hdw.out.append (W32.mk (by omega) W32.nil),?_,?_,q.setCell (Nat.le_refl _) _,q'.setCell (Nat.le_refl _) _,hb.setCell (Nat.le_refl _) _⟩
      ·unfold Hid;rw[HVAL.out];exact HVS.out
      ·rw[←HSET.out];exact hB.setZ k (by omega)
     case measure=>simp[intOf] <;> omega
  ·obtain rfl:k=n:=by omega
   rw[CV hdl.out] at hB;have hv:val ds=val xs - val ys:=by
    have h:=HV.out;rw[List.take_of_length_le (by rw[HL.out];omega),List.take_of_length_le (by rw[HL'.out];omega)] at h
    have hl:=BP hdw.out;rw[hdl.out] at hl;have h2:=HLE.out;have hc0:cr=0:=by
     rcases Nat.eq_zero_or_pos cr with h0 | h0
     ·exact h0
     ·exfalso
      obtain rfl:cr=1:=by omega
      rw[Nat.mul_one] at h;omega
    subst hc0;rw[Nat.mul_zero] at h;omega
   have hrd:=hB.rd;rw[hdl.out] at hrd;have htr:=Cx (c:=k) _ hrd hdw.out (Nat.le_refl _) (by omega)
   have HT:=Lib.hid htr;have HD:=Lib.hid hrd;have HV2:=Lib.hid hv;clear htr hrd hv;go_wp2_with fail
   refine HT.out.mono ?_;rintro e w3 ⟨m,hm,ht,rfl,rfl⟩;clear HT;go_wp2
   go_ret
   have r3:=HD.out.take (j:=m) (by rw[←hdl.out];exact hm)
   rw[ht,HV2.out] at r3;exact ⟨_,m,m,rfl,r3,Nat.le_refl _,by have:=hdl.out;omega,by rw[HG.out];exact hb⟩
end Go.Proofs.YtdgbealknnmkoaaGreatDoor
