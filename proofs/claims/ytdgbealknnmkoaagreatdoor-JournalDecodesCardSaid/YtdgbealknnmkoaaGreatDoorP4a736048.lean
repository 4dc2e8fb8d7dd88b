/- Texts of one proof, put together by a program: each lemma is proved for all values of its variables, under the premises that it states. -/
import Derived.StillTailTactics
import Derived.Test.YtdgbealknnmkoaaGreatDoorP5f75155c
set_option linter.unusedVariables false
set_option linter.unusedSimpArgs false
namespace Go.Proofs.YtdgbealknnmkoaaGreatDoor
open Go.RowKit
theorem Fj {a:Nat}(h:(Ae a).length=1) : ∃ x,x < 4294967296∧Ae a=[x]∧a=x:=by
 have h0:a≠0:=fun e=>by subst e;rw[AY] at h;simp at h
 have hl:a < 4294967296:=by have:=Ca a;rw[h] at this;omega
 exact ⟨a,hl,Gd h0 hl,rfl⟩
set_option maxHeartbeats 1000000 in
set_option maxRecDepth 100000 in
theorem QH {A A' : Option Addr} {n n' c c' : Nat} {xs ys : List Nat} (w : World) (hr : Rd .u32 w w.heap.size A n xs) (hr' : Rd .u32 w w.heap.size A' n' ys) (hx : W32 xs) (hy : W32 ys) (hn : n ≤ 1099511627776) (hn' : n' ≤ 1099511627776) (h0 : 0 < n) (h0' : 0 < n') (h1 : ¬ (n = 1 ∧ n' = 1)) :
  Calls Tryz.prog 185 #[.slice A n c,.slice A' n' c'] w (RetMag w (val xs*val ys)):=by
 have HL:=Lib.hid hr.len;have HL':=Lib.hid hr'.len;have HX:=Lib.hid hx;have HY:=Lib.hid hy;clear hx hy;have t0:((n:Int) == 0)=false:=by simp;omega
 have t0':((n':Int) == 0)=false:=by simp;omega
 have key : ∀ P:Prop,(((n:Int) == 1)=false→P)→(((n:Int) == 1)=true→((n':Int) == 1)=false→P)→P:=by
  intro P p1 p2;by_cases e:n=1
  ·exact p2 (by simp[e]) (by simp;omega)
  ·exact p1 (by simp;omega)
 refine key _ ?_ ?_;all_goals clear key h1
 ·intro f1
  go_enter Tryz.func185,Tryz.ntmps185
  go_wp2_with (at_make;refine AV (kx := .i64) (ky := .i64) (n:=n+n') (c:=n+n') Tryz.elemU32 Tryz.underlying22 rfl rfl (congrArg (Value.int .i64) (by omega)) (congrArg (Value.int .i64) (by omega)) (Nat.le_refl _) (by omega) (by omega) ?_)
  intro w1 B1 b1 l1;generalize hg:w.heap.size=g at *;have HG:=Lib.hid hg;clear hg;have r1:=hr.below b1;have r1':=hr'.below b1;clear hr hr' l1;go_wp2
  go_loopw [6,7,8,9,10,11,46,68] (fun _ _ _ _ _ _ i _ wr => ∃ (k:Nat) (zs:List Nat),k≤n∧i = .int .i64 k∧Hid (zs.length=n+n')∧Hid (W32 zs)∧Hid (val zs=val (xs.take k)*val ys)∧Hid (∀ j,k+n'≤j→zs.getD j 0=0)∧Buf .u32 97 wr g zs∧Rd .u32 wr g A n xs∧Rd .u32 wr g A' n' ys∧Below g w wr) (fun _ _ _ _ _ _ i _ _=>n - (intOf i).toNat)
  case atStart=>exact ⟨0,_,by omega,rfl,by simp[Hid],W32.rep _,by rw[Jt,List.take_zero];simp[val,Hid],fun j _=>by rw[List.getD_eq_getElem?_getD];simp only[List.getElem?_replicate];split <;> rfl,B1,r1,r1',b1⟩
  case round =>
   obtain ⟨k,zs,hk,rfl,hzl,hzw,HV,HZ,hB,q,q',hb⟩:=hrel;clear B1 r1 r1' b1;by_cases hlt:k < n
   ·obtain ⟨b1, o1, rfl, hb1, hc1⟩ := q.at_ hlt
    have hdl:=HX.out.getD k;have HTS:=Lib.hid (Av xs k);by_cases hd0:xs.getD k 0=0
    ·rw[hd0] at hc1 HTS
     have HV2:Hid (val zs=val (xs.take (k+1))*val ys):=by
      unfold Hid;rw[HTS.out,Nat.mul_zero,Nat.add_zero];exact HV.out
     clear hd0 hdl;go_wp2
     go_roundw
     case rel=>exact ⟨k+1,zs,by omega,by go_num,hzl,hzw,HV2,fun j hj=>HZ.out j (by omega),hB,q,q',hb⟩
     case measure=>simp[intOf] <;> omega
    ·generalize xs.getD k 0 = d at *
     have hd0':((d:Int) == 0)=false:=by simp;omega
     clear hd0;go_wp2
     go_loopw [8,10,11,68] (fun cv _ _ i wr => ∃ (j cr:Nat) (us:List Nat),j≤n'∧i = .int .i64 j∧cv = .int .u64 cr∧cr < 4294967296∧Hid (us.length=n+n')∧Hid (W32 us)∧Hid (val us+4294967296 ^ (k+j)*cr=val zs+4294967296 ^ k*(d*val (ys.take j)))∧Hid (∀ i,k+n'≤i→us.getD i 0=0)∧Buf .u32 97 wr g us∧Rd .u32 wr g (some ⟨b1,o1,none⟩) n xs∧Rd .u32 wr g A' n' ys∧Below g w wr) (fun _ _ _ i _=>n' - (intOf i).toNat)
     case atStart=>exact ⟨0,0,zs,by omega,rfl,rfl,by omega,hzl,hzw,by simp[val,Hid],HZ,hB,q,q',hb⟩
     case round =>
      obtain ⟨j,cr,us,hj,rfl,rfl,hcr,hul,huw,HU,HZU,hBu,p,p',hbu⟩:=hrel;clear hB q q' hb;by_cases hltj:j < n'
      ·obtain ⟨b2,o2,rfl,hb2,hc2⟩:=p'.at_ hltj
       have hfl:=HY.out.getD j;have hc:=hBu.cell (i:=k+j) (by rw[hul.out];omega)
       have hf:=hBu.frozen (k+j);have hol:=huw.out.getD (k+j);have HTJ:=Lib.hid (Av ys j);obtain ⟨pp,s1,s2,e1,e2,e3,es,hsq,hsm⟩:=NO hdl hfl hol hcr;have HVS:=Lib.hid (Mz HU.out (Nat.pow_add 4294967296 k j) s2 es);have HSV:=Lib.hid (DJ us (k+j) (s2 % 4294967296) (by rw[hul.out];omega))
       rw[←HTJ.out] at HVS;generalize ys.getD j 0=f at *;generalize us.getD (k+j) 0=z at *;have HF:Hid (val (us.set (k+j) (s2 % 4294967296))+4294967296 ^ (k+(j+1))*(s2 / 4294967296)=val zs+4294967296 ^ k*(d*val (ys.take (j+1)))):=by
        have h1:=HVS.out;have h2:=HSV.out;have h3:4294967296 ^ (k+(j+1))=4294967296 ^ (k+j)*4294967296:=by rw[←Nat.add_assoc,Nat.pow_succ]
        unfold Hid;rw[h3];generalize 4294967296 ^ (k+j)=P at *;omega
       clear es;go_wp2
       go_roundw
       case rel =>
        refine ⟨j+1,s2 / 4294967296,us.set (k+j) (s2 % 4294967296),by omega,by go_num,by go_num,hsq,?_,huw.out.set _ hsm,HF,?_,?_,p.setCell (Nat.le_refl _) _,p'.setCell (Nat.le_refl _) _,hbu.setCell (Nat.le_refl _) _⟩
        ·unfold Hid;rw[List.length_set];exact hul.out
        ·intro i hi
         rw[List.getD_eq_getElem?_getD,List.getElem?_set_ne (by omega),←List.getD_eq_getElem?_getD]
         exact HZU.out i hi
        ·exact hBu.setZ _ (by omega)
       case measure=>simp[intOf] <;> omega
      ·obtain rfl:j=n':=by omega
       have hc:=hBu.cell (i:=k+j) (by rw[hul.out];omega)
       have hf:=hBu.frozen (k+j);have HSV:=Lib.hid (DJ us (k+j) cr (by rw[hul.out];omega))
       rw[HZU.out (k+j) (by omega)] at HSV
       have HF:Hid (val (us.set (k+j) cr)=val (xs.take (k+1))*val ys):=by
        have h1:=HU.out;have h2:=HSV.out;rw[Nat.mul_zero,Nat.add_zero] at h2;unfold Hid;rw[h2,h1,List.take_of_length_le (by rw[HL'.out];omega),HV.out,HTS.out,Nat.add_mul,Nat.mul_assoc]
       generalize us.getD (k+j) 0=z at *;go_wp2
       go_roundw
       case rel =>
        refine ⟨k+1,us.set (k+j) cr,by omega,by go_num,?_,huw.out.set _ hcr,HF,?_,hBu.setZ _ (by omega),p.setCell (Nat.le_refl _) _,p'.setCell (Nat.le_refl _) _,hbu.setCell (Nat.le_refl _) _⟩
        ·unfold Hid;rw[List.length_set];exact hul.out
        ·intro i hi
         rw[List.getD_eq_getElem?_getD,List.getElem?_set_ne (by omega),←List.getD_eq_getElem?_getD]
         exact HZU.out i (by omega)
       case measure=>simp[intOf] <;> omega
   ·obtain rfl:k=n:=by omega
    have hrd:=hB.rd;rw[hzl.out] at hrd;have hv:val zs=val xs*val ys:=by rw[HV.out,List.take_of_length_le (by rw[HL.out];omega)]
    have htr:=Cx (c:=k+n') _ hrd hzw.out (Nat.le_refl _) (by omega)
    have HT:=Lib.hid htr;have HD:=Lib.hid hrd;have HV2:=Lib.hid hv;clear htr hrd hv;go_wp2_with fail
    refine HT.out.mono ?_;rintro e w3 ⟨m,hm,ht,rfl,rfl⟩;clear HT;go_wp2
    go_ret
    have r3:=HD.out.take (j:=m) (by rw[←hzl.out];exact hm)
    rw[ht,HV2.out] at r3;exact ⟨_,m,m,rfl,r3,Nat.le_refl _,by have:=hzl.out;omega,by rw[HG.out];exact hb⟩
 ·intro f1 f2
  go_enter Tryz.func185,Tryz.ntmps185
  go_wp2_with (at_make;refine AV (kx := .i64) (ky := .i64) (n:=n+n') (c:=n+n') Tryz.elemU32 Tryz.underlying22 rfl rfl (congrArg (Value.int .i64) (by omega)) (congrArg (Value.int .i64) (by omega)) (Nat.le_refl _) (by omega) (by omega) ?_)
  intro w1 B1 b1 l1;generalize hg:w.heap.size=g at *;have HG:=Lib.hid hg;clear hg;have r1:=hr.below b1;have r1':=hr'.below b1;clear hr hr' l1;go_wp2
  go_loopw [6,7,8,9,10,11,46,68] (fun _ _ _ _ _ _ i _ wr => ∃ (k:Nat) (zs:List Nat),k≤n∧i = .int .i64 k∧Hid (zs.length=n+n')∧Hid (W32 zs)∧Hid (val zs=val (xs.take k)*val ys)∧Hid (∀ j,k+n'≤j→zs.getD j 0=0)∧Buf .u32 97 wr g zs∧Rd .u32 wr g A n xs∧Rd .u32 wr g A' n' ys∧Below g w wr) (fun _ _ _ _ _ _ i _ _=>n - (intOf i).toNat)
  case atStart=>exact ⟨0,_,by omega,rfl,by simp[Hid],W32.rep _,by rw[Jt,List.take_zero];simp[val,Hid],fun j _=>by rw[List.getD_eq_getElem?_getD];simp only[List.getElem?_replicate];split <;> rfl,B1,r1,r1',b1⟩
  case round =>
   obtain ⟨k,zs,hk,rfl,hzl,hzw,HV,HZ,hB,q,q',hb⟩:=hrel;clear B1 r1 r1' b1;by_cases hlt:k < n
   ·obtain ⟨b1, o1, rfl, hb1, hc1⟩ := q.at_ hlt
    have hdl:=HX.out.getD k;have HTS:=Lib.hid (Av xs k);by_cases hd0:xs.getD k 0=0
    ·rw[hd0] at hc1 HTS
     have HV2:Hid (val zs=val (xs.take (k+1))*val ys):=by
      unfold Hid;rw[HTS.out,Nat.mul_zero,Nat.add_zero];exact HV.out
     clear hd0 hdl;go_wp2
     go_roundw
     case rel=>exact ⟨k+1,zs,by omega,by go_num,hzl,hzw,HV2,fun j hj=>HZ.out j (by omega),hB,q,q',hb⟩
     case measure=>simp[intOf] <;> omega
    ·generalize xs.getD k 0 = d at *
     have hd0':((d:Int) == 0)=false:=by simp;omega
     clear hd0;go_wp2
     go_loopw [8,10,11,68] (fun cv _ _ i wr => ∃ (j cr:Nat) (us:List Nat),j≤n'∧i = .int .i64 j∧cv = .int .u64 cr∧cr < 4294967296∧Hid (us.length=n+n')∧Hid (W32 us)∧Hid (val us+4294967296 ^ (k+j)*cr=val zs+4294967296 ^ k*(d*val (ys.take j)))∧Hid (∀ i,k+n'≤i→us.getD i 0=0)∧Buf .u32 97 wr g us∧Rd .u32 wr g (some ⟨b1,o1,none⟩) n xs∧Rd .u32 wr g A' n' ys∧Below g w wr) (fun _ _ _ i _=>n' - (intOf i).toNat)
     case atStart=>exact ⟨0,0,zs,by omega,rfl,rfl,by omega,hzl,hzw,by simp[val,Hid],HZ,hB,q,q',hb⟩
     case round =>
      obtain ⟨j,cr,us,hj,rfl,rfl,hcr,hul,huw,HU,HZU,hBu,p,p',hbu⟩:=hrel;clear hB q q' hb;by_cases hltj:j < n'
      ·obtain ⟨b2,o2,rfl,hb2,hc2⟩:=p'.at_ hltj
       have hfl:=HY.out.getD j;have hc:=hBu.cell (i:=k+j) (by rw[hul.out];omega)
       have hf:=hBu.frozen (k+j);have hol:=huw.out.getD (k+j);have HTJ:=Lib.hid (Av ys j);obtain ⟨pp,s1,s2,e1,e2,e3,es,hsq,hsm⟩:=NO hdl hfl hol hcr;have HVS:=Lib.hid (Mz HU.out (Nat.pow_add 4294967296 k j) s2 es);have HSV:=Lib.hid (DJ us (k+j) (s2 % 4294967296) (by rw[hul.out];omega))
       rw[←HTJ.out] at HVS;generalize ys.getD j 0=f at *;generalize us.getD (k+j) 0=z at *;have HF:Hid (val (us.set (k+j) (s2 % 4294967296))+4294967296 ^ (k+(j+1))*(s2 / 4294967296)=val zs+4294967296 ^ k*(d*val (ys.take (j+1)))):=by
        have h1:=HVS.out;have h2:=HSV.out;have h3:4294967296 ^ (k+(j+1))=4294967296 ^ (k+j)*4294967296:=by rw[←Nat.add_assoc,Nat.pow_succ]
        unfold Hid;rw[h3];generalize 4294967296 ^ (k+j)=P at *;omega
       clear es;go_wp2
       go_roundw
       case rel =>
        refine ⟨j+1,s2 / 4294967296,us.set (k+j) (s2 % 4294967296),by omega,by go_num,by go_num,hsq,?_,huw.out.set _ hsm,HF,?_,?_,p.setCell (Nat.le_refl _) _,p'.setCell (Nat.le_refl _) _,hbu.setCell (Nat.le_refl _) _⟩
        ·unfold Hid;rw[List.length_set];exact hul.out
        ·intro i hi
         rw[List.getD_eq_getElem?_getD,List.getElem?_set_ne (by omega),←List.getD_eq_getElem?_getD]
         exact HZU.out i hi
        ·exact hBu.setZ _ (by omega)
       case measure=>simp[intOf] <;> omega
      ·obtain rfl:j=n':=by omega
       have hc:=hBu.cell (i:=k+j) (by rw[hul.out];omega)
       have hf:=hBu.frozen (k+j);have HSV:=Lib.hid (DJ us (k+j) cr (by rw[hul.out];omega))
       rw[HZU.out (k+j) (by omega)] at HSV
       have HF:Hid (val (us.set (k+j) cr)=val (xs.take (k+1))*val ys):=by
        have h1:=HU.out;have h2:=HSV.out;rw[Nat.mul_zero,Nat.add_zero] at h2;unfold Hid;rw[h2,h1,List.take_of_length_le (by rw[HL'.out];omega),HV.out,HTS.out,Nat.add_mul,Nat.mul_assoc]
       generalize us.getD (k+j) 0=z at *;go_wp2
       go_roundw
       case rel =>
        refine ⟨k+1,us.set (k+j) cr,by omega,by go_num,?_,huw.out.set _ hcr,HF,?_,hBu.setZ _ (by omega),p.setCell (Nat.le_refl _) _,p'.setCell (Nat.le_refl _) _,hbu.setCell (Nat.le_refl _) _⟩
        ·unfold Hid;rw[List.length_set];exact hul.out
        ·intro i hi
         rw[List.getD_eq_getElem?_getD,List.getElem?_set_ne (by omega),←List.getD_eq_getElem?_getD]
         exact HZU.out i (by omega)
       case measure=>simp[intOf] <;> omega
   ·obtain rfl:k=n:=by omega
    have hrd:=hB.rd;rw[hzl.out] at hrd;have hv:val zs=val xs*val ys:=by rw[HV.out,List.take_of_length_le (by rw[HL.out];omega)]
    have htr:=Cx (c:=k+n') _ hrd hzw.out (Nat.le_refl _) (by omega)
    have HT:=Lib.hid htr;have HD:=Lib.hid hrd;have HV2:=Lib.hid hv;clear htr hrd hv;go_wp2_with fail
    refine HT.out.mono ?_;rintro e w3 ⟨m,hm,ht,rfl,rfl⟩;clear HT;go_wp2
    go_ret
    have r3:=HD.out.take (j:=m) (by rw[←hzl.out];exact hm)
    rw[ht,HV2.out] at r3;exact ⟨_,m,m,rfl,r3,Nat.le_refl _,by have:=hzl.out;omega,by rw[HG.out];exact hb⟩
set_option maxRecDepth 100000 in
theorem Sv {A A':Option Addr}{c c' x y:Nat}(w:World)(hr:Rd .u32 w w.heap.size A 1 [x])(hr':Rd .u32 w w.heap.size A' 1 [y])(hx:x < 4294967296)(hy:y < 4294967296) :
  Calls Tryz.prog 185 #[.slice A 1 c,.slice A' 1 c'] w (RetMag w (x*y)):=by
 obtain ⟨b1,o1,rfl,l1,hc1⟩:=hr.at_ (j:=0) (by omega)
 obtain ⟨b2,o2,rfl,l2,hc2⟩:=hr'.at_ (j:=0) (by omega)
 simp at hc1 hc2;have hb:=Ep hx hy;have hf:=fun W=>Cr (x*y) W (by omega)
 have e1:IntKind.u64.wrap ((x:Int)*(y:Int))=((x*y:Nat):Int):=by
  have e:((x*y:Nat):Int)=(x:Int)*(y:Int):=by simp
  rw[←e,IntKind.wrap_u64];omega
 have HF:=Lib.hid hf;clear hf hb;generalize x*y=p at *;go_enter Tryz.func185,Tryz.ntmps185
 go_wp2
 go_still_tail 9,(by kernel_rfl)
 go_wp2_with fail
 rw[e1];refine (HF.out _).mono ?_;rintro e w3 ⟨A3,n3,c3,rfl,r3,h3,h4,hb3⟩;go_wp2
 go_ret
 exact ⟨A3,n3,c3,rfl,r3,h3,h4,(CM w 1).trans hb3⟩
theorem QG {A A':Option Addr}{n n' c c':Nat}(w:World)(h:n=0∨n'=0) :
  Calls Tryz.prog 185 #[.slice A n c,.slice A' n' c'] w (RetMag w 0):=by
 have fin:RetMag w 0 (.returned (.slice none 0 0)) w:=⟨none,0,0,rfl,by rw[AY];exact Rd.nil,by omega,by omega,Below.refl _ _⟩
 have F:=Lib.hid fin;clear fin;by_cases h0:n=0
 ·have t0:((n:Int) == 0)=true:=by simp[h0]
  clear h0 h;go_enter Tryz.func185,Tryz.ntmps185
  go_wp2
  go_ret
  exact F.out
 ·have t0:((n:Int) == 0)=false:=by simp;omega
  have t1:((n':Int) == 0)=true:=by simp;omega
  clear h0 h;go_enter Tryz.func185,Tryz.ntmps185
  go_wp2
  go_ret
  exact F.out
theorem Sw {A A':Option Addr}{n n' c c' a b:Nat}(w:World)(hr:Rd .u32 w w.heap.size A n (Ae a))(hr':Rd .u32 w w.heap.size A' n' (Ae b))(hn:n≤1099511627776)(hn':n'≤1099511627776) :
  Calls Tryz.prog 185 #[.slice A n c,.slice A' n' c'] w (RetMag w (a*b)):=by
 by_cases h0:n=0∨n'=0
 ·have:a*b=0:=by
   rcases h0 with h | h
   ·have:=hr.len;rw[h] at this;rw[(AQ a).1 this,Nat.zero_mul]
   ·have:=hr'.len;rw[h] at this;rw[(AQ b).1 this,Nat.mul_zero]
  rw[this];exact QG w h0
 ·by_cases h1:n=1∧n'=1
  ·obtain ⟨rfl,rfl⟩:=h1
   obtain ⟨x,hx,ex,rfl⟩:=Fj hr.len;obtain ⟨y,hy,ey,rfl⟩:=Fj hr'.len;rw[ex] at hr;rw[ey] at hr';exact Sv w hr hr' hx hy
  ·have:=QH (c:=c) (c':=c') w hr hr' (Ai a) (Ai b) hn hn' (by omega) (by omega) h1
   rwa [An,An] at this
theorem DO {a w:World}{g:Nat}(h:a.grownBy w (some g)){p:Addr}(hp:p.block=g∨a.heap.size≤p.block)(u:Value):a.grownBy (w.setCell p u) (some g) :=
 ⟨h.os,h.tape,h.output,by simpa [World.setCell] using h.size,fun i hi hne=>(Below.heap_setCell w p u i (by
  rintro rfl;rcases hp with hp | hp
  ·exact hne (by rw[hp])
  ·omega)).trans (h.block i hi hne)⟩
theorem Da (w:World)(p:Addr)(u:Value):(w.setCell p u).heap.size=w.heap.size:=by simp[World.setCell]
theorem Nat.mul_add_mod_of_lt' {q d r:Nat}(h:r < d):(q*d+r) % d=r:=by rw[Nat.mul_comm,Nat.mul_add_mod,Nat.mod_eq_of_lt h]
theorem Nat.mul_add_div' {q d r:Nat}(hd:0 < d)(h:r < d):(q*d+r) / d=q:=by rw[Nat.mul_comm,Nat.mul_add_div hd,Nat.div_eq_of_lt h,Nat.add_zero]
def Mut (k:IntKind)(e:TypeId)(w:World)(g:Nat)(xs:List Nat):Prop := ∃ cur:Array Value,w.heap[g]? = some (.cells cur e (0,0))∧xs.length≤cur.size∧cur.toList.take xs.length=cellsOf k xs
section
variable {k:IntKind}{e:TypeId}{w w':World}{g:Nat}{xs:List Nat}
theorem Mut.lt (h:Mut k e w g xs):g < w.heap.size:=by obtain ⟨cur,h,_⟩:=h;exact (Array.getElem?_eq_some_iff.1 h).1
theorem Mut.cell' (h:Mut k e w g xs)(i x:Nat)(hx:xs[i]? = some x):w.cell? ⟨g,i,none⟩=some (.int k (x:Int)):=by
 obtain ⟨cur,h,hl,ht⟩:=h;rw[cell_of_row w g i cur e (0,0) h];have hi:=(List.getElem?_eq_some_iff.1 hx).1;have h2:(cur.toList.take xs.length)[i]? = cur.toList[i]? := by rw[List.getElem?_take,if_pos hi]
 rw[ht,DT,hx] at h2
 simpa using h2.symm
theorem Mut.cell (h:Mut k e w g xs){i:Nat}(hi:i < xs.length):w.cell? ⟨g,i,none⟩=some (.int k ((xs.getD i 0:Nat):Int)) :=
 h.cell' i _ (by rw[List.getD_eq_getElem?_getD,List.getElem?_eq_getElem hi];rfl)
theorem Mut.frozen (h:Mut k e w g xs)(i:Nat):w.frozen? ⟨g,i,none⟩=false:=by
 obtain ⟨cur,h,_⟩:=h;simp[World.frozen?,h]
theorem Mut.setZ (h:Mut k e w g xs)(i:Nat){z:Int}{y:Nat}(hz:z=(y:Int)):Mut k e (w.setCell ⟨g,i,none⟩ (.int k z)) g (xs.set i y):=by
 subst hz;obtain ⟨cur,h,hl,ht⟩:=h;refine ⟨cur.setIfInBounds i (.int k (y:Int)),?_,by simpa using hl,?_⟩
 ·simp[World.setCell,Array.getElem?_modify,h]
 ·rw[List.length_set,Array.toList_setIfInBounds,List.take_set,ht]
  simp[cellsOf,List.map_set]
theorem Mut.keep (h:Mut k e w g xs)(hk:w'.heap[g]? = w.heap[g]?):Mut k e w' g xs:=by
 obtain ⟨cur,h,r⟩:=h;exact ⟨cur,hk.trans h,r⟩
theorem Mut.drewN (h:Mut k e w g xs)(n:Nat):Mut k e (w.drewN n) g xs:=h
theorem Mut.alloc (h:Mut k e w g xs)(o:Obj):Mut k e (w.alloc o) g xs:=h.keep (Below.heap_alloc w o g h.lt)
theorem Mut.far (h:Mut k e w g xs){p:Addr}(hp:g≠p.block)(u:Value):Mut k e (w.setCell p u) g xs:=h.keep (Below.heap_setCell w p u g hp)
theorem Mut.call (h:Mut k e w g xs)(hb:Below w.heap.size w w'):Mut k e w' g xs:=h.keep (hb.block g h.lt)
theorem Mut.grown {g':Nat}(h:Mut k e w g xs)(hg:w.grownBy w' (some g'))(hne:g≠g'):Mut k e w' g xs:=h.keep (hg.block g h.lt (by simpa using hne))
theorem Mut.take (h:Mut k e w g xs)(n:Nat):Mut k e w g (xs.take n):=by
 obtain ⟨cur,h,hl,ht⟩:=h;refine ⟨cur,h,by rw[List.length_take];omega,?_⟩
 rw[List.length_take];have:cur.toList.take (min n xs.length)=(cur.toList.take xs.length).take n:=by rw[List.take_take]
 rw[this,ht];simp[cellsOf,List.map_take]
theorem Mut.rd (h:Mut k e w g xs):Rd k w w.heap.size (some ⟨g,0,none⟩) xs.length xs :=
 ⟨rfl,fun _=>⟨g,0,rfl,h.lt,fun j x hx=>by rw[Nat.zero_add];exact h.cell' j x hx⟩⟩
theorem Buf.mut (h:Buf k e w g xs):Mut k e w g xs:=⟨_,h,by simp[cellsOf],by
 have:(cellsOf k xs).toArray.toList=cellsOf k xs:=by simp
 rw[this];exact List.take_of_length_le (by rw[CK];omega)⟩
theorem Own.mut {w0:World}{v:Value}(h:Own k e w0 w v xs)(h0:0 < xs.length) : ∃ g c,v = .slice (some ⟨g,0,none⟩) xs.length c∧Mut k e w g xs∧w0.heap.size≤g∧xs.length≤c∧c≤9223372036854775807:=by
 rcases h.1.2 with ⟨rfl,hn⟩ | ⟨g,cap,cur,rfl,hg,hh,hnc,hcm,hcs,ht⟩
 ·omega
 ·exact ⟨g,cap,rfl,⟨cur,hh,by omega,by simpa using ht⟩,hg,hnc,by unfold maxLen at hcm;exact hcm⟩
end
theorem Oi {H Q d rest x t:Nat}(h:H=Q*d+rest)(ht:t=rest*4294967296+x):x+4294967296*H=(t / d+4294967296*Q)*d+t % d:=by
 have e:=Nat.div_add_mod t d;rw[h,Nat.add_mul,Nat.mul_add,Nat.mul_assoc 4294967296 Q d,Nat.mul_comm (t / d) d];generalize Q*d=qd at *;generalize d*(t / d)=z at *;omega
theorem Ud {rest x d:Nat}(hr:rest < d)(hx:x < 4294967296):(rest*4294967296+x) / d < 4294967296:=by
 apply Nat.div_lt_of_lt_mul;have:(rest+1)*4294967296≤d*4294967296:=Nat.mul_le_mul_right _ hr;omega
theorem Tt (zs qs:List Nat)(k q:Nat)(hk:k < zs.length):(zs.take (k+1)++qs).set k q=zs.take k++(q::qs):=by
 rw[Cy zs k hk,List.append_assoc,List.set_append_right _ _ (by rw[List.length_take];omega),List.length_take,Nat.min_eq_left (by omega),Nat.sub_self]
 simp
theorem TQ (zs qs:List Nat)(k:Nat)(hk:k < zs.length):(zs.take (k+1)++qs).getD k 0=zs.getD k 0:=by
 rw[List.getD_eq_getElem?_getD,List.getElem?_append_left (by rw[List.length_take];omega),List.getElem?_take,if_pos (by omega),←List.getD_eq_getElem?_getD]
def Uv (e32:TypeId)(w:World)(g d:Nat)(zs:List Nat)(e:Ending)(w':World):Prop :=
 ∃ qs,e = .returned (.int .u32 ((val zs % d:Nat):Int))∧qs.length=zs.length∧W32 qs∧val qs=val zs / d∧Mut .u32 e32 w' g qs∧w.grownBy w' (some g)∧w'.heap.size=w.heap.size
set_option maxRecDepth 100000 in
theorem EI {g n c d:Nat}{zs:List Nat}(w:World)(hB0:Mut .u32 97 w g zs)(hz:W32 zs)(hn:zs.length=n)(hnm:n≤1099511627776)(hd:d < 4294967296)(hd0:0 < d) :
  Calls Tryz.prog 133 #[.slice (some ⟨g,0,none⟩) n c,.int .u32 d] w (Uv 97 w g d zs):=by
 have HZ:=Lib.hid hz;have HL:=Lib.hid hn;clear hz hn;go_enter Tryz.func133,Tryz.ntmps133
 go_wp2
 go_loopw [5,6] (fun rv i wr => ∃ (k rest:Nat) (qs:List Nat),k≤n∧i = .int .i64 ((k:Int) - 1)∧rv = .int .u64 rest∧rest < d∧Hid (qs.length+k=n)∧Hid (W32 qs)∧Hid (val (zs.drop k)=val qs*d+rest)∧Mut .u32 97 wr g (zs.take k++qs)∧w.grownBy wr (some g)∧Hid (wr.heap.size=w.heap.size)) (fun _ i _=>(intOf i+1).toNat)
 case atStart=>exact ⟨n,0,[],Nat.le_refl _,rfl,rfl,hd0,by simp[Hid],W32.nil,by unfold Hid;rw[List.drop_of_length_le (by rw[HL.out];omega)];simp[val],by rw[List.append_nil,List.take_of_length_le (by rw[HL.out];omega)];exact hB0,World.grownBy.refl _ _,rfl⟩
 case round =>
  obtain ⟨k,rest,qs,hk,rfl,rfl,hrest,hql,hqw,HV,hB,hgr,hsz⟩:=hrel;clear hB0;by_cases h0:0 < k
  ·obtain ⟨k,rfl⟩ : ∃ j,k=j+1:=⟨k - 1,by omega⟩
   have hkk:((k+1:Nat):Int) - 1=(k:Int):=by omega
   rw[hkk];clear hkk;have hlen:k < (zs.take (k+1)++qs).length:=by
    rw[List.length_append,List.length_take,HL.out];omega
   have hc:=hB.cell hlen;have hf:=hB.frozen k;rw[TQ zs qs k (by rw[HL.out];omega)] at hc
   have hx:=HZ.out.getD k;have HD:Hid (zs.drop k=zs.getD k 0::zs.drop (k+1)):=BJ zs k (by rw[HL.out];omega)
   have HS:=Lib.hid (fun q=>Tt zs qs k q (by rw[HL.out];omega))
   generalize zs.getD k 0=x at *;have hj:=Fq x rest hx (by omega)
   obtain ⟨t,ht⟩ : ∃ t,t=rest*4294967296+x:=⟨_,rfl⟩;have hst:=Oi HV.out ht;have hql2:=Ud hrest hx;rw[←ht] at hql2;have hrl:t % d < d:=Nat.mod_lt _ hd0;rw[show x+4294967296*rest=t by omega] at hj
   have hq:(t:Int) / (d:Int)=((t / d:Nat):Int):=by simp
   have hr:(t:Int) % (d:Int)=((t % d:Nat):Int):=by simp
   have HST:=Lib.hid hst;have hd1:(1:Int)≤(d:Int):=by omega
   have htb:t≤18446744073709551615:=by omega
   clear hst ht hlen;generalize t / d=q at *;generalize t % d=r at *;go_wp2
   go_roundw
   case rel =>
    refine ⟨k,r,q::qs,by omega,rfl,congrArg _ hr,hrl,?_,W32.mk hql2 hqw.out,?_,?_,DO hgr (.inl rfl) _,?_⟩
    ·unfold Hid;rw[List.length_cons];have:=hql.out;omega
    ·unfold Hid;rw[HD.out,Bq,Bq];exact HST.out
    ·rw[←HS.out q];exact hB.setZ k rfl
    ·unfold Hid;rw[Da];exact hsz.out
   case measure=>simp[intOf] <;> omega
  ·obtain rfl:k=0:=by omega
   have hv:=HV.out;rw[List.drop_zero] at hv;have e1:val zs % d=rest:=by rw[hv,Nat.mul_add_mod_of_lt' hrest]
   have e2:val qs=val zs / d:=by rw[hv];exact (Nat.mul_add_div' hd0 hrest).symm
   have E1:=Lib.hid e1;have E2:=Lib.hid e2;simp only[List.take_zero,List.nil_append] at hB;clear hv e1 e2;go_wp2
   go_ret
   exact ⟨qs,by rw[E1.out];rfl,by have:=hql.out;have:=HL.out;omega,hqw.out,E2.out,hB,hgr,hsz.out⟩
def Ac8 (e32:TypeId)(w:World)(xs:List Nat)(e:Ending)(w':World):Prop := ∃ v,e = .returned v∧Own .u32 e32 w w' v xs
theorem Own.new0 (k:IntKind)(e:TypeId){w0:World}(w:World)(hb:Below w0.heap.size w0 w):Own k e w0 (w.alloc (.cells #[] e)) (.slice (some ⟨w.heap.size,0,none⟩) 0 0) []:=by
 have h:Buf k e (w.alloc (.cells #[] e)) w.heap.size []:=heap_alloc_new w _;exact h.own (hb.alloc hb.size _) hb.size (by simp[maxLen])
theorem FG {A:Option Addr}{n c:Nat}{xs:List Nat}(w:World)(hr:Rd .u32 w w.heap.size A n xs)(hn:n≤1099511627776) :
  Calls Tryz.prog 131 #[.slice A n c] w (Ac8 97 w xs):=by
 have HL:=Lib.hid hr.len;have h1:=fun (w:World)=>Lib.run_eql_slice_nil (P:=Tryz.prog) w 22 97 A n c (h:=Tryz.underlying22)
 rcases A with _ | ad
 ·obtain rfl:xs=[]:=by
   rcases Nat.eq_zero_or_pos n with h0 | h0
   ·exact List.eq_nil_of_length_eq_zero (by rw[HL.out];exact h0)
   ·obtain ⟨_,_,h,_⟩:=hr.2 h0
    cases h
  simp only[Option.isNone_none] at h1;go_enter Tryz.func131,Tryz.ntmps131
  go_wp2
  go_ret
  exact ⟨_,rfl,Own.nil (Below.refl _ _)⟩
 ·simp only[Option.isNone_some] at h1
  go_enter Tryz.func131,Tryz.ntmps131
  go_wp2_with (at_builtin;refine Aw Tryz.elemU32 Tryz.underlying22 (Own.new0 .u32 97 w (Below.refl _ _)) (hr.alloc' _) rfl rfl rfl rfl (by simp;omega) (by simp;omega) ?_;intro v1 w1 o1 _ _)
  go_ret
  exact ⟨v1,rfl,o1⟩
def Zb (e32:TypeId)(w:World)(N V:Nat)(e:Ending)(w':World):Prop :=
 ∃ g zs,e = .returned (.slice (some ⟨g,0,none⟩) N N)∧Buf .u32 e32 w' g zs∧zs.length=N∧W32 zs∧val zs=V∧w.heap.size≤g∧Below w.heap.size w w'
theorem UJ {d cr s:Nat}(hd:d < 4294967296)(hs:s < 32)(hcr:cr < 2 ^ s) : ∃ p t:Nat,IntKind.u64.wrap ((d:Int)*2 ^ s)=(p:Int)∧bits .or .u64 (cr:Int) (p:Int)=(t:Int)∧t=cr+d*2 ^ s∧t / 4294967296 < 2 ^ s∧t % 4294967296 < 4294967296∧t≤18446744073709551615:=by
 have hp:2 ^ s≤2 ^ 31:=Nat.pow_le_pow_right (by omega) (by omega)
 have hpos:0 < 2 ^ s:=Nat.two_pow_pos s;have e:((d*2 ^ s:Nat):Int)=(d:Int)*2 ^ s:=by simp
 have hj:cr ||| d*2 ^ s=cr+d*2 ^ s:=by rw[Nat.or_comm,nat_join s _ cr (Nat.mul_mod_left _ _) hcr];omega
 have hm:d*2 ^ s≤4294967295*2 ^ s:=Nat.mul_le_mul_right _ (by omega)
 generalize hQ:2 ^ s=Q at *;refine ⟨d*Q,cr+d*Q,?_,?_,rfl,by omega,by omega,by omega⟩
 ·rw[←e,IntKind.wrap_u64];omega
 ·rw[u64_or_nat cr (d*Q) (by omega) (by omega),hj]
theorem Wx {P v cr a d s t:Nat}(h:v+P*cr=a*2 ^ s)(ht:t=cr+d*2 ^ s):v+P*(t % 4294967296)+P*4294967296*(t / 4294967296)=(a+P*d)*2 ^ s:=by
 have e:P*(t % 4294967296)+P*4294967296*(t / 4294967296)=P*t:=by rw[Nat.mul_assoc,←Nat.mul_add,Nat.mod_add_div]
 rw[Nat.add_assoc,e,ht,Nat.mul_add,Nat.add_mul,←h,Nat.mul_assoc];omega
set_option maxRecDepth 100000 in
theorem Hl {A:Option Addr}{n c s:Nat}{xs:List Nat}(w:World)(hr:Rd .u32 w w.heap.size A n xs)(hx:W32 xs)(hn:n≤1099511627776)(hs:s < 32) :
  Calls Tryz.prog 220 #[.slice A n c,.int .u64 s] w (Zb 97 w (n+1) (val xs*2 ^ s)):=by
 have HL:=Lib.hid hr.len;have HX:=Lib.hid hx;clear hx;go_enter Tryz.func220,Tryz.ntmps220
 go_wp2_with (at_make;refine AV (kx := .i64) (ky := .i64) (n:=n+1) (c:=n+1) Tryz.elemU32 Tryz.underlying22 rfl rfl (congrArg (Value.int .i64) (by omega)) (congrArg (Value.int .i64) (by omega)) (Nat.le_refl _) (by omega) (by omega) ?_)
 intro w1 B1 b1 l1;rw[←D1] at B1;generalize hg:w.heap.size=g at *;have HG:=Lib.hid hg;clear hg;have r1:=hr.below b1;have hsz:g < w1.heap.size:=l1;clear hr l1;go_wp2
 go_loopw [6,7,8,15] (fun cv _ _ i wr => ∃ (k cr:Nat) (ds:List Nat),k≤n∧i = .int .i64 k∧cv = .int .u64 cr∧Hid (cr < 2 ^ s)∧Hid (ds.length=k)∧Hid (W32 ds)∧Hid (val ds+4294967296 ^ k*cr=val (xs.take k)*2 ^ s)∧Buf .u32 97 wr g (fill ds (n+1))∧Rd .u32 wr g A n xs∧Below g w wr) (fun _ _ _ i _=>n - (intOf i).toNat)
 case atStart=>exact ⟨0,0,[],by omega,rfl,rfl,Nat.two_pow_pos s,rfl,W32.nil,by simp[val,Hid],B1,r1,b1⟩
 case round =>
  obtain ⟨k,cr,ds,hk,rfl,rfl,hcr,hdl,hdw,HV,hB,q,hb⟩:=hrel;clear B1 r1 b1;by_cases hlt:k < n
  ·obtain ⟨b1,o1,rfl,hb1,hc1⟩:=q.at_ hlt
   have hxl:=HX.out.getD k;have hc:wr.cell? ⟨g,k,none⟩=some (.int .u32 (((fill ds (n+1)).getD k 0:Nat):Int)):=hB.cell (by rw[CB (by rw[hdl.out];omega)];omega)
   have hf:=hB.frozen k;obtain ⟨p,t,e1,e2,et,htq,htm,htb⟩:=UJ hxl hs hcr.out;have HVS:=Lib.hid (Wx HV.out et);rw[←Av,←Nat.pow_succ] at HVS;have HSET:=Lib.hid (fun d=>CA d (show k < n+1 by omega) hdl.out)
   have HLEN:Hid (∀ d,(ds++[d]).length=k+1):=fun d=>by rw[List.length_append,hdl.out];rfl
   have HVAL:Hid (∀ d,val (ds++[d])=val ds+4294967296 ^ k*d):=fun d=>by rw[BO,hdl.out]
   have HTQ:=Lib.hid htq;clear et htq;generalize xs.getD k 0=x at *;generalize (fill ds (n+1)).getD k 0=old at *;go_wp2
   go_roundw
   case rel =>
    refine ⟨k+1,t / 4294967296,ds++[t % 4294967296],by omega,by go_num,by go_num,HTQ,HLEN.out _,hdw.out.append (W32.mk htm W32.nil),?_,?_,q.setCell (Nat.le_refl _) _,hb.setCell (Nat.le_refl _) _⟩
    ·unfold Hid;rw[HVAL.out];exact HVS.out
    ·rw[←HSET.out];exact hB.setZ k (by omega)
   case measure=>simp[intOf] <;> omega
  ·obtain rfl:k=n:=by omega
   have hcrl:cr < 4294967296:=Nat.lt_of_lt_of_le hcr.out (Nat.pow_le_pow_right (n:=2) (by omega) (show s≤32 by omega))
   have hc:wr.cell? ⟨g,k,none⟩=some (.int .u32 (((fill ds (k+1)).getD k 0:Nat):Int)):=hB.cell (by rw[CB (by rw[hdl.out];omega)];omega)
   have hf:=hB.frozen k;have hB2:=hB.set_ k cr;rw[CA cr (by omega) hdl.out,CV (by rw[List.length_append,hdl.out];rfl)] at hB2
   have hv:val (ds++[cr])=val xs*2 ^ s:=by
    have h:=HV.out;rw[List.take_of_length_le (by rw[HL.out];omega)] at h
    rw[BO,hdl.out,h]
   have hw32:W32 (ds++[cr]):=hdw.out.append (W32.mk hcrl W32.nil);have hlen:(ds++[cr]).length=k+1:=by rw[List.length_append,hdl.out];rfl
   have FIN:Hid (Zb 97 w (k+1) (val xs*2 ^ s) (.returned (.slice (some ⟨g,0,none⟩) (k+1) (k+1))) (wr.setCell ⟨g,k,none⟩ (.int .u32 (cr:Int)))) :=
    ⟨g,_,rfl,hB2,hlen,hw32,hv,by rw[HG.out];omega,by rw[HG.out];exact hb.setCell (Nat.le_refl _) _⟩
   clear hB2 hv hw32 hlen;go_wp2
   go_ret
   exact FIN.out
theorem Ww {d h s:Nat}(hd:d < 4294967296)(hs:s < 32):(d+4294967296*h) / 2 ^ s % 4294967296=d / 2 ^ s+h % 2 ^ s*2 ^ (32 - s):=by
 have e:(4294967296:Nat)=2 ^ s*2 ^ (32 - s):=by rw[←Nat.pow_add,show s+(32 - s)=32 by omega]
 have hP:0 < 2 ^ s:=Nat.two_pow_pos s;have hR:0 < 2 ^ (32 - s):=Nat.two_pow_pos _;generalize 2 ^ s=P at *;generalize 2 ^ (32 - s)=R at *;have e1:(d+4294967296*h) / P=d / P+R*h:=by
  rw[e,Nat.mul_assoc,Nat.add_mul_div_left _ _ hP]
 rw[e1];have e2:R*h=R*(h % P)+4294967296*(h / P):=by
  have:=Nat.mod_add_div h P;rw[e,Nat.mul_comm P R,Nat.mul_assoc,←Nat.mul_add,this]
 rw[e2,←Nat.add_assoc,Nat.add_mul_mod_self_left];have h3:d / P < R:=Nat.div_lt_of_lt_mul (by omega)
 have h4:R*(h % P)≤R*(P - 1):=Nat.mul_le_mul_left _ (by have:=Nat.mod_lt h hP;omega)
 have h5:R*(P - 1)+R=R*P:=by rw[←Nat.mul_succ];congr 1;omega
 rw[Nat.mod_eq_of_lt (by rw[e,Nat.mul_comm P R];omega),Nat.mul_comm (h % P)]
def Ez (s:Nat):List Nat→List Nat
 | []=>[]
 | x::xs=>((x+4294967296*xs.headD 0) / 2 ^ s % 4294967296)::Ez s xs
theorem Dw (s:Nat) : ∀ xs,(Ez s xs).length=xs.length
 | []=>rfl
 | x::xs=>by rw[Ez,List.length_cons,List.length_cons,Dw s xs]
theorem LY (s:Nat) : ∀ xs,W32 (Ez s xs)
 | []=>W32.nil
 | x::xs=>W32.mk (Nat.mod_lt _ (by omega)) (LY s xs)
theorem S5 (xs:List Nat):xs.headD 0=xs.getD 0 0:=by cases xs <;> rfl
theorem Ma (s:Nat) : ∀ (xs:List Nat) (k:Nat),k < xs.length→(Ez s xs).getD k 0=(xs.getD k 0+4294967296*xs.getD (k+1) 0) / 2 ^ s % 4294967296
 | [],_,h=>by simp at h
 | x::xs,0,_=>by rw[Ez,S5];rfl
 | x::xs,k+1,h=>by
  rw[Ez,List.getD_cons_succ,Ma s xs k (by simpa using h)]
  rfl
theorem U4 : ∀ xs:List Nat,∃ V,val xs=xs.headD 0+4294967296*V
 | []=>⟨0,rfl⟩
 | x::xs=>⟨val xs,rfl⟩
theorem LZ (s:Nat)(hs:s < 32) : ∀ xs,W32 xs→val (Ez s xs)=val xs / 2 ^ s
 | [],_=>by simp[Ez,val]
 | x::xs,h=>by
  have hx:=h.cons.1;rw[Ez,Bq,Bq,LZ s hs xs h.cons.2,Ww hx hs];obtain ⟨V,hV⟩:=U4 xs;have e:(4294967296:Nat)=2 ^ s*2 ^ (32 - s):=by rw[←Nat.pow_add,show s+(32 - s)=32 by omega]
  have hP:0 < 2 ^ s:=Nat.two_pow_pos s;generalize 2 ^ s=P at *;generalize 2 ^ (32 - s)=R at *;have e1:(x+4294967296*val xs) / P=x / P+R*val xs:=by rw[e,Nat.mul_assoc,Nat.add_mul_div_left _ _ hP]
  have e2:val xs % P=xs.headD 0 % P:=by rw[hV,e,Nat.mul_assoc,Nat.add_mul_mod_self_left]
  have e3:R*val xs=R*(val xs % P)+4294967296*(val xs / P):=by
   have:=Nat.mod_add_div (val xs) P;rw[e,Nat.mul_comm P R,Nat.mul_assoc,←Nat.mul_add,this]
  rw[e1,e3,e2,Nat.mul_comm R];omega
theorem N6 (a b:Nat)(ha:a < 4294967296)(hb:b < 4294967296):bits .or .u64 (a:Int) ((b:Int)*4294967296)=((a+4294967296*b:Nat):Int):=by
 have h:=u64_or_nat a (b*4294967296) (by omega) (by omega)
 rw[Nat.or_comm,nat_join 32 (b*4294967296) a (by omega) (by omega)] at h
 rw[show ((b:Int)*4294967296)=((b*4294967296:Nat):Int) by omega,h]
 omega
set_option maxRecDepth 100000 in
theorem Mb {A:Option Addr}{n c s:Nat}{xs:List Nat}(w:World)(hr:Rd .u32 w w.heap.size A n xs)(hx:W32 xs)(hn:n≤1099511627776)(hs:s < 32) :
  Calls Tryz.prog 222 #[.slice A n c,.int .u64 s] w (RetMag w (val xs / 2 ^ s)):=by
 have HL:=Lib.hid hr.len;have HX:=Lib.hid hx;clear hx;go_enter Tryz.func222,Tryz.ntmps222
 go_wp2_with (at_make;refine AV (kx := .i64) (ky := .i64) (n:=n) (c:=n) Tryz.elemU32 Tryz.underlying22 rfl rfl rfl rfl (Nat.le_refl _) (by omega) (by omega) ?_)
 intro w1 B1 b1 l1;rw[←D1] at B1;generalize hg:w.heap.size=g at *;have HG:=Lib.hid hg;clear hg;have r1:=hr.below b1;have hsz:g < w1.heap.size:=l1;clear hr l1;go_wp2
 go_loopw [6,7,8,14] (fun _ _ _ i wr => ∃ (k:Nat),k≤n∧i = .int .i64 k∧Buf .u32 97 wr g (fill ((Ez s xs).take k) n)∧Rd .u32 wr g A n xs∧Below g w wr) (fun _ _ _ i _=>n - (intOf i).toNat)
 case atStart=>exact ⟨0,by omega,rfl,B1,r1,b1⟩
 case round =>
  obtain ⟨k,hk,rfl,hB,q,hb⟩:=hrel;clear B1 r1 b1;by_cases hlt:k < n
  ·obtain ⟨b1,o1,rfl,hb1,hc1⟩:=q.at_ hlt
   have hlk:((Ez s xs).take k).length=k:=by rw[List.length_take,Dw,HL.out];omega
   have hxl:=HX.out.getD k;have hxl2:=HX.out.getD (k+1);have hc:wr.cell? ⟨g,k,none⟩=some (.int .u32 (((fill ((Ez s xs).take k) n).getD k 0:Nat):Int)):=hB.cell (by rw[CB (by omega)];omega)
   have hf:=hB.frozen k;have HSET:Hid (fill ((Ez s xs).take k) n |>.set k ((xs.getD k 0+4294967296*xs.getD (k+1) 0) / 2 ^ s % 4294967296) |> (· = fill ((Ez s xs).take (k+1)) n)):=by
    show _=_;rw[CA _ hlt hlk,Cy (Ez s xs) k (by rw[Dw,HL.out];omega),Ma s xs k (by rw[HL.out];omega)]
   generalize (fill ((Ez s xs).take k) n).getD k 0=old at *;clear hlk;by_cases hlt2:k+1 < n
   ·obtain ⟨b2,o2,e,_,hc2⟩:=q.at_ hlt2
    injection e with e;injection e with e1 e2;subst e1 e2;have hj:=N6 (xs.getD k 0) (xs.getD (k+1) 0) hxl hxl2;have hlt2':decide ((k:Int)+1 < (n:Int))=true:=by simp;omega
    generalize xs.getD k 0=x at *;generalize xs.getD (k+1) 0=y at *;have hts:x+4294967296*y≤18446744073709551615:=by omega
    generalize x+4294967296*y=t at *;have hq:(t:Int) / 2 ^ s=((t / 2 ^ s:Nat):Int):=by simp
    generalize t / 2 ^ s=u at *;go_wp2
    go_roundw
    case rel=>exact ⟨k+1,by omega,by go_num,by have h:=hB.setZ (z:=(u:Int) % 4294967296) (y:=u % 4294967296) k (by omega);rw[HSET.out] at h;exact h,q.setCell (Nat.le_refl _) _,hb.setCell (Nat.le_refl _) _⟩
    case measure=>simp[intOf] <;> omega
   ·have hy0:xs.getD (k+1) 0=0:=C5 xs (k+1) (by rw[HL.out];omega)
    rw[hy0,Nat.mul_zero,Nat.add_zero] at HSET;have hlt2':decide ((k:Int)+1 < (n:Int))=false:=by simp;omega
    generalize xs.getD k 0=x at *;have hq:(x:Int) / 2 ^ s=((x / 2 ^ s:Nat):Int):=by simp
    have hxs:x / 2 ^ s < 4294967296:=Nat.lt_of_le_of_lt (Nat.div_le_self _ _) hxl;generalize x / 2 ^ s=u at *;rw[Nat.mod_eq_of_lt hxs] at HSET;clear hy0;go_wp2
    go_roundw
    case rel=>exact ⟨k+1,by omega,by go_num,by have h:=hB.setZ (z:=(u:Int)) (y:=u) k rfl;rw[HSET.out] at h;exact h,q.setCell (Nat.le_refl _) _,hb.setCell (Nat.le_refl _) _⟩
    case measure=>simp[intOf] <;> omega
  ·obtain rfl:k=n:=by omega
   rw[List.take_of_length_le (by rw[Dw,HL.out];omega),CV (by rw[Dw,HL.out])] at hB
   have hrd:=hB.rd;rw[Dw,HL.out] at hrd;have htr:=Cx (c:=k) _ hrd (LY s xs) (Nat.le_refl _) (by omega)
   have HT:=Lib.hid htr;have HD:=Lib.hid hrd;have HV2:=Lib.hid (LZ s hs xs HX.out);have HLs:Hid ((Ez s xs).length=k):=by unfold Hid;rw[Dw,HL.out]
   generalize Ez s xs=zs at *;clear htr hrd;go_wp2_with fail
   refine HT.out.mono ?_;rintro e w3 ⟨m,hm,ht,rfl,rfl⟩;clear HT;go_wp2
   go_ret
   have r3:=HD.out.take (j:=m) (by rw[←HLs.out];exact hm)
   rw[ht,HV2.out] at r3;exact ⟨_,m,m,rfl,r3,Nat.le_refl _,by have:=HLs.out;omega,by rw[HG.out];exact hb⟩
end Go.Proofs.YtdgbealknnmkoaaGreatDoor
