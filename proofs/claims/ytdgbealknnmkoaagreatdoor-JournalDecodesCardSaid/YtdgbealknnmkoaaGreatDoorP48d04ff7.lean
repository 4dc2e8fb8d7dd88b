/- Texts of one proof, put together by a program: each lemma is proved for all values of its variables, under the premises that it states. -/
import Derived.RegionTactic
import Derived.Test.YtdgbealknnmkoaaGreatDoorP10c54fbd
import Derived.Test.YtdgbealknnmkoaaGreatDoorP52bc364b
set_option linter.unusedVariables false
set_option linter.unusedSimpArgs false
namespace Go.Proofs.YtdgbealknnmkoaaGreatDoor
open Go.RowKit
def VE (n:Nat):List Nat:=if n=0 then [] else dec n
theorem VD {n:Nat}(h:n≠0):VE n=VE (n / 10)++[48+n % 10]:=by
 unfold VE;rw[if_neg h];by_cases h1:n < 10
 ·rw[if_pos (by omega),C4 h1,Nat.mod_eq_of_lt h1];rfl
 ·rw[if_neg (by omega),Ge (by omega)]
theorem Oj (a:Nat)(h:a≠0):(dec a).length≤18*(Ae a).length:=by
 have h1:=O7 (Dy a) (NM a);rw[LP a h] at h1;have:=Hq a;omega
def Rv (l us:List Nat)(i:Nat):Prop:=us.length=l.length ∧ ∀ j,j < l.length→us.getD j 0=if j < i∨l.length≤i+j then l.getD (l.length - 1 - j) 0 else l.getD j 0
theorem Rv.start (l:List Nat):Rv l l 0:=⟨rfl,fun j hj=>by rw[if_neg (by omega)]⟩
theorem Oa (l:List Nat)(i j y:Nat)(hi:i < l.length):(l.set i y).getD j 0=if j=i then y else l.getD j 0:=by
 rw[List.getD_eq_getElem?_getD,List.getElem?_set];by_cases h:i=j
 ·subst h;simp[hi]
 ·rw[if_neg h,if_neg (fun e=>h e.symm),List.getD_eq_getElem?_getD]
theorem Rv.step {l us:List Nat}{i k:Nat}(h:Rv l us i)(hk:k+1+i=l.length)(hik:i < k):Rv l ((us.set i (us.getD k 0)).set k (us.getD i 0)) (i+1):=by
 refine ⟨by simp[h.1],fun j hj => ?_⟩
 have hl:=h.1;rw[Oa _ _ _ _ (by rw[List.length_set];omega),Oa _ _ _ _ (by omega)]
 by_cases h1:j=k
 ·subst h1
  rw[if_pos rfl,if_pos (by omega),h.2 i (by omega),if_neg (by omega)]
  congr 1;omega
 ·rw[if_neg h1]
  by_cases h2:j=i
  ·subst h2
   rw[if_pos rfl,if_pos (by omega),h.2 k (by omega),if_neg (by omega)]
   congr 1;omega
  ·rw[if_neg h2,h.2 j hj]
   by_cases h3:j < i∨l.length≤i+j
   ·rw[if_pos h3,if_pos (by omega)]
   ·rw[if_neg h3,if_neg (by omega)]
theorem Rv.fin {l us:List Nat}{i:Nat}(h:Rv l us i)(hi:l.length≤2*i+1):us=l.reverse:=by
 refine List.ext_getElem? fun j => ?_
 by_cases hj:j < l.length
 ·have h1:=h.2 j hj
  have e1:us[j]? = some (us.getD j 0):=by rw[List.getD_eq_getElem?_getD,List.getElem?_eq_getElem (by rw[h.1];exact hj)];rfl
  have e2:l.reverse[j]? = some (l.getD (l.length - 1 - j) 0):=by
   rw[List.getElem?_reverse hj,List.getD_eq_getElem?_getD,List.getElem?_eq_getElem (by omega)];rfl
  rw[e1,e2,h1];by_cases h3:j < i∨l.length≤i+j
  ·rw[if_pos h3]
  ·rw[if_neg h3,show l.length - 1 - j=j by omega]
 ·rw[List.getElem?_eq_none (by rw[h.1];omega),List.getElem?_eq_none (by rw[List.length_reverse];omega)]
theorem GO (us:List Nat)(i k x y:Nat)(h:i≠k):(us.set i x).set k y=(us.set k y).set i x:=List.set_comm _ _ h
def Ady (w wr:World)(a mm:Nat)(mv bv:Value):Prop :=
 ∃ (g k c:Nat) (bs:List Nat),mv = .slice (some ⟨g,0,none⟩) k c∧k≤c∧c≤9223372036854775807∧Mut .u32 97 wr g (Ae mm)∧(Ae mm).length=k∧mm≤a ∧
  Own .u8 5 w wr bv bs∧bv.ownBlock≠some g∧w.heap.size≤g∧VE mm++bs.reverse=dec a
set_option maxHeartbeats 4000000 in
set_option maxRecDepth 100000 in
theorem Nj {s : Bool} {A : Option Addr} {n c : Nat} {x : Int} (w : World) (ha : AInt w s A n c x) (hn : n ≤ 1048576) :
  Calls Tryz.prog 96 #[.agg #[.bool s,.slice A n c]] w (Gk w (.string (AM (Dl s x.natAbs)))):=by
 obtain ⟨ds,h1,h2,h3,h4,hx⟩:=ha;have hxa:x.natAbs=val ds:=by rw[hx];unfold sgn;cases s <;> simp
 rw[hxa];clear hx hxa;obtain ⟨W,hW⟩ : ∃ W,W=w.alloc (.cells #[.bool s,.slice A n c] 24):=⟨_,rfl⟩;have bW:Below w.heap.size w W:=by rw[hW];exact Ek w _
 have pa:Pr W w.heap.size s A n c:=by rw[hW];exact Pr.new w s A n c
 have HT:=Lib.hid (BX (c:=c) W (h1.call bW) h2 h3 h4);have a0:=pa.cell0;have a1:=pa.cell1;generalize val ds=a at *;clear h1 h2 h3 h4;go_enter Tryz.func96,Tryz.ntmps96
 go_wp2_with fail
 rw[←hW];clear hW;go_wp2_with fail
 refine HT.out.mono ?_;rintro e W' ⟨m,rfl,r1,hm,rfl⟩;have km:m=0↔a=0:=by rw[←r1.len];exact AQ a
 have HLA:=Lib.hid r1.len;clear HT a0 a1;by_cases h0:m=0
 ·obtain rfl:=km.1 h0
  subst h0;go_wp2_with (at_builtin;refine Aw Tryz.elemU32 Tryz.underlying22 (Own.nil (w0:=W) (Below.refl _ _)) r1 rfl rfl rfl rfl (by simp) (by simp) ?_;intro v1 w1 o1 _ _;rw[List.nil_append] at o1;obtain ⟨A1,n1,c1,rfl,r2,_,_⟩:=o1.form';have hn1:n1=0:=(by have:=r2.len;rw[AY] at this;simpa using this.symm);subst hn1)
  go_ret
  exact ⟨by rw[F9];rfl,AA bW o1.2⟩
 ·have ha0 : a ≠ 0 := fun e => h0 (km.2 e)
  have hne:((m:Int) == 0)=false:=by simp;omega
  go_wp2_with (at_builtin;refine Aw Tryz.elemU32 Tryz.underlying22 (Own.nil (w0:=W) (Below.refl _ _)) r1 rfl rfl rfl rfl (by simp;omega) (by simp;omega) ?_;intro v1 w1 o1 _ _;rw[List.nil_append] at o1;obtain ⟨g,c1,hv,m1,hg,hc1,hc1'⟩:=o1.mut (by rw[HLA.out];omega);rw[HLA.out] at hv hc1;subst hv)
  have d1:=o1.2;clear o1 km;have hdl:=Oj a ha0;rw[HLA.out] at hdl;go_wp2_with fail
  go_loopg [3,4] a (fun mm mv bv wr=>Hid (Ady W wr a mm mv bv))
  case atStart=>exact ⟨g,m,c1,[],rfl,hc1,hc1',m1,HLA.out,Nat.le_refl _,Own.nil d1,by simp[Value.ownBlock],hg,by unfold VE;rw[if_neg ha0];simp⟩
  case round =>
   clear m1 d1 hg hc1 hc1';obtain ⟨mm,rfl⟩ : ∃ mm,mm=gk:=⟨_,rfl⟩;obtain ⟨g,k,c2,bs,rfl,hk,hk',mR,hlk,hma,oR,hgo,hgW,hbs⟩:=hrel.out;have hkm:k≤m:=by rw[←hlk,←HLA.out];exact AW hma
   have HLK:=Lib.hid hlk;have HBS:=Lib.hid hbs;have HGO:=Lib.hid hgo;have hbl:bs.length≤18*m:=by
    have h:=congrArg List.length HBS.out;rw[List.length_append,List.length_reverse] at h;omega
   clear hrel hlk hbs hgo;by_cases hk0:k=0
   ·subst hk0
    obtain rfl:=(AQ mm).1 HLK.out;have hbe:bs.reverse=dec a:=by have:=HBS.out;unfold VE at this;simpa using this
    have HBE:=Lib.hid hbe;have bR:=oR.2;have pR:=pa.call bR;have q0:=pR.cell0;obtain ⟨Ab,N,cb,rfl,rb,hb1,hb2⟩:=oR.form';have HBN:=Lib.hid rb.len;have hNm:N≤18*m:=by rw[←HBN.out];exact hbl
    clear hbe HBS hbl rb mR HGO hgW hk hk' HLK hma hkm hne;have b0:=bW;replace bW:=AA bW bR
    obtain ⟨wo,rfl⟩ : ∃ wo:World,wo=wr:=⟨_,rfl⟩;have hk1:decide ((0:Int) < ((0:Nat):Int))=false:=by decide
    cases s
    ·have HFI : Hid (Dl false a = bs.reverse) := by unfold Hid; rw [HBE.out]; unfold Dl; simp
     have oL:=oR;have bL:Below W.heap.size W wo:=bR;have hNb:N≤18*m+1:=by omega
     clear HBE oR bR pR pa hNm;go_wp2_with fail
     generalize Dl false a=fin at *
     go_loopw [7,8] (fun iv kv wr => ∃ (i:Nat) (us:List Nat),2*i≤N∧iv = .int .i64 i∧kv = .int .i64 ((N:Int) - 1 - i)∧Own .u8 5 W wr (.slice Ab N cb) us∧Hid (Rv bs us i)) (fun iv kv _=>(intOf kv - intOf iv).toNat)
     case atStart=>exact ⟨0,bs,by omega,rfl,by simp,oL,Rv.start _⟩
     case round =>
      clear oL;obtain ⟨i,us,hi,rfl,rfl,oX,HRV⟩:=hrel;have bX:=oX.2;by_cases hik:(i:Int) < (N:Int) - 1 - i
      ·obtain ⟨k,hk⟩ : ∃ k:Nat,k+1+i=N:=⟨N - 1 - i,by omega⟩
       have ek:(N:Int) - 1 - (i:Int)=(k:Int):=by omega
       have hik2:i < k:=by omega
       rw[ek] at hik ⊢;clear ek;obtain ⟨gb,rfl,mu⟩:=oX.block (by omega)
       have hul:=HRV.out.1;rw[HBN.out] at hul;have ci:=mu.cell (i:=i) (by omega)
       have ck:=mu.cell (i:=k) (by omega)
       have fi:=mu.frozen i;have fk:=mu.frozen k;have HST:=Lib.hid (HRV.out.step (k:=k) (by rw[HBN.out];exact hk) hik2)
       generalize us.getD i 0=y1 at *;generalize us.getD k 0=y2 at *;have i1:(0:Int)≤(i:Int):=by omega
       have i2:(i:Int) < (N:Int):=by omega
       have i3:(0:Int)≤(k:Int):=by omega
       have i4:(k:Int) < (N:Int):=by omega
       have hd:decide ((i:Int) < (k:Int))=true:=decide_eq_true hik;have hne1:i≠k:=by omega
       have hne2:k≠i:=by omega
       clear mu hul;go_wp2
       go_region
       all_goals
        go_wp2
        go_roundw
        case rel =>
         refine ⟨i+1,_,by omega,by go_num,by go_num,?_,HST⟩
         first | exact (oX.setAt i rfl).setAt k rfl | exact (oX.drew.setAt i rfl).setAt k rfl | (rw[GO _ _ _ _ _ (by omega)];exact (oX.setAt k rfl).setAt i rfl) | (rw[GO _ _ _ _ _ (by omega)];exact (oX.drew.setAt k rfl).setAt i rfl)
        case measure=>simp[intOf] <;> omega
      ·have hd:decide ((i:Int) < (N:Int) - 1 - i)=false:=decide_eq_false hik
       obtain ⟨Ax,nx,cx,hvx,rx,hx1,hx2⟩:=oX.form';injection hvx with e1 e2 e3;subst e1 e2 e3;have hf:=HRV.out.fin (by rw[HBN.out];omega)
       rw[hf,←HFI.out] at rx;clear oX hf HRV HFI;go_wp2_with (refine Cw Tryz.underlying31 Tryz.underlying5 Tryz.underlying9 rx rfl rfl rfl ?_)
       go_ret
       exact ⟨rfl,AA b0 bX⟩
    ·have HFI : Hid (Dl true a = (bs ++ [45]).reverse) := by unfold Hid; rw [List.reverse_append, HBE.out]; unfold Dl; simp [ha0]
     go_wp2_with (at_builtin;refine Aw Tryz.elemU8 Tryz.underlying31 (oR.alloc _) (Rd.one .u8 wo _ (y:=45) rfl) rfl rfl rfl rfl (by have:=HBN.out;omega) (by have:=HBN.out;omega) ?_;intro v4 w4 o4 g4 f4;obtain ⟨Ab2,N2,cb2,rfl,rb2,hb1',hb2'⟩:=o4.form';have hNb:N2≤18*m+1:=(by rw[←rb2.len,List.length_append,HBN.out];simp;exact hNm))
     have HBN2:=Lib.hid rb2.len;have bL:Below W.heap.size W w4:=o4.2;have bx:Below W.heap.size W w4:=o4.2;clear HBE oR bR pR pa hNm rb2 g4 f4;generalize bs++[45]=bt at *;have oL:=o4;clear o4;go_wp2_with fail
     generalize Dl true a=fin at *
     go_loopw [7,8] (fun iv kv wr => ∃ (i:Nat) (us:List Nat),2*i≤N2∧iv = .int .i64 i∧kv = .int .i64 ((N2:Int) - 1 - i)∧Own .u8 5 W wr (.slice Ab2 N2 cb2) us∧Hid (Rv bt us i)) (fun iv kv _=>(intOf kv - intOf iv).toNat)
     case atStart=>exact ⟨0,bt,by omega,rfl,by simp,oL,Rv.start _⟩
     case round =>
      clear oL;obtain ⟨i,us,hi,rfl,rfl,oX,HRV⟩:=hrel;have bX:=oX.2;by_cases hik:(i:Int) < (N2:Int) - 1 - i
      ·obtain ⟨k,hk⟩ : ∃ k:Nat,k+1+i=N2:=⟨N2 - 1 - i,by omega⟩
       have ek:(N2:Int) - 1 - (i:Int)=(k:Int):=by omega
       have hik2:i < k:=by omega
       rw[ek] at hik ⊢;clear ek;obtain ⟨gb,rfl,mu⟩:=oX.block (by omega)
       have hul:=HRV.out.1;rw[HBN2.out] at hul;have ci:=mu.cell (i:=i) (by omega)
       have ck:=mu.cell (i:=k) (by omega)
       have fi:=mu.frozen i;have fk:=mu.frozen k;have HST:=Lib.hid (HRV.out.step (k:=k) (by rw[HBN2.out];exact hk) hik2)
       generalize us.getD i 0=y1 at *;generalize us.getD k 0=y2 at *;have i1:(0:Int)≤(i:Int):=by omega
       have i2:(i:Int) < (N2:Int):=by omega
       have i3:(0:Int)≤(k:Int):=by omega
       have i4:(k:Int) < (N2:Int):=by omega
       have hd:decide ((i:Int) < (k:Int))=true:=decide_eq_true hik;have hne1:i≠k:=by omega
       have hne2:k≠i:=by omega
       clear mu hul;go_wp2
       go_region
       all_goals
        go_wp2
        go_roundw
        case rel =>
         refine ⟨i+1,_,by omega,by go_num,by go_num,?_,HST⟩
         first | exact (oX.setAt i rfl).setAt k rfl | exact (oX.drew.setAt i rfl).setAt k rfl | (rw[GO _ _ _ _ _ (by omega)];exact (oX.setAt k rfl).setAt i rfl) | (rw[GO _ _ _ _ _ (by omega)];exact (oX.drew.setAt k rfl).setAt i rfl)
        case measure=>simp[intOf] <;> omega
      ·have hd:decide ((i:Int) < (N2:Int) - 1 - i)=false:=decide_eq_false hik
       obtain ⟨Ax,nx,cx,hvx,rx,hx1,hx2⟩:=oX.form';injection hvx with e1 e2 e3;subst e1 e2 e3;have hf:=HRV.out.fin (by rw[HBN2.out];omega)
       rw[hf,←HFI.out] at rx;clear oX hf HRV HFI;go_wp2_with (refine Cw Tryz.underlying31 Tryz.underlying5 Tryz.underlying9 rx rfl rfl rfl ?_)
       go_ret
       exact ⟨rfl,AA b0 bX⟩
   ·have hk1:decide (0 < (k:Int))=true:=by simp;omega
    have hk2:0 < k:=by omega
    have hmm0:mm≠0:=fun e=>hk0 (by rw[←HLK.out];exact (AQ mm).2 e)
    have HDS:=Lib.hid (VD hmm0);have HZ:=Lib.hid (Ai mm);have HVD:=Lib.hid (An mm);have hrr:mm / 10 < mm:=by omega
    obtain ⟨wo,rfl⟩ : ∃ wo:World,wo=wr:=⟨_,rfl⟩;obtain ⟨zs,hzs⟩ : ∃ zs,zs=Ae mm:=⟨_,rfl⟩;rw[←hzs] at mR HLK HZ HVD;have HL:=HLK;clear hzs HLK;go_wp2_with fail
    go_loopw [5,6] (fun rv i wr => ∃ (j rest:Nat) (qs:List Nat),j≤k∧i = .int .i64 ((j:Int) - 1)∧rv = .int .u64 rest∧rest < 10∧Hid (qs.length+j=k)∧Hid (W32 qs)∧Hid (val (zs.drop j)=val qs*10+rest)∧Mut .u32 97 wr g (zs.take j++qs)∧wo.grownBy wr (some g)∧Hid (wr.heap.size=wo.heap.size)) (fun _ i _=>(intOf i+1).toNat)
    case atStart=>exact ⟨k,0,[],Nat.le_refl _,rfl,rfl,by omega,by simp[Hid],W32.nil,by unfold Hid;rw[List.drop_of_length_le (by rw[HL.out];omega)];simp[val],by rw[List.append_nil,List.take_of_length_le (by rw[HL.out];omega)];exact mR,World.grownBy.refl _ _,rfl⟩
    case round =>
     obtain ⟨j,rest,qs,hj,rfl,rfl,hrest,hql,hqw,HV,hB,hgr,hsz⟩:=hrel;clear mR;by_cases hj0:0 < j
     ·obtain ⟨j,rfl⟩ : ∃ i,j=i+1:=⟨j - 1,by omega⟩
      have hkk:((j+1:Nat):Int) - 1=(j:Int):=by omega
      rw[hkk];clear hkk;have hlen:j < (zs.take (j+1)++qs).length:=by
       rw[List.length_append,List.length_take,HL.out];omega
      have hc:=hB.cell hlen;have hf:=hB.frozen j;rw[TQ zs qs j (by rw[HL.out];omega)] at hc
      have hx:=HZ.out.getD j;have HD:Hid (zs.drop j=zs.getD j 0::zs.drop (j+1)):=BJ zs j (by rw[HL.out];omega)
      have HS:=Lib.hid (fun q=>Tt zs qs j q (by rw[HL.out];omega))
      generalize zs.getD j 0=y at *;have hjn:=Fq y rest hx (by omega)
      obtain ⟨t,ht⟩ : ∃ t,t=rest*4294967296+y:=⟨_,rfl⟩;have hst:=Oi HV.out ht;have hql2:=Ud hrest hx;rw[←ht] at hql2;have hrl:t % 10 < 10:=Nat.mod_lt _ (by omega)
      rw[show y+4294967296*rest=t by omega] at hjn
      have HST:=Lib.hid hst;have htb:t≤18446744073709551615:=by omega
      clear hst ht hlen;have i1:(0:Int)≤(j:Int):=by omega
      have i2:(j:Int) < (k:Int):=by omega
      go_wp2
      go_roundw
      case rel =>
       refine ⟨j,t % 10,t / 10::qs,by omega,rfl,congrArg _ (by omega),hrl,?_,W32.mk hql2 hqw.out,?_,?_,DO hgr (.inl rfl) _,?_⟩
       ·unfold Hid;rw[List.length_cons];have:=hql.out;omega
       ·unfold Hid;rw[HD.out,Bq,Bq];exact HST.out
       ·rw[←HS.out (t / 10)];exact hB.setZ j (by omega)
       ·unfold Hid;rw[Da];exact hsz.out
      case measure=>simp[intOf] <;> omega
     ·obtain rfl:j=0:=by omega
      have hv:=HV.out;rw[List.drop_zero,HVD.out] at hv;have e1:rest=mm % 10:=by omega
      have e2:val qs=mm / 10:=by omega
      have HR:=Lib.hid e1;have HQV:=Lib.hid e2;rw[List.take_zero,List.nil_append] at hB;have HQL:Hid (qs.length=k):=by have:=hql.out;unfold Hid;omega
      have o3:=oR.kept hgr HGO.out hgW;clear hv e1 e2 hql oR HV HVD HZ HL;have hneg:decide ((0:Int)≤((0:Nat):Int) - 1)=false:=by decide
      go_wp2_with (at_builtin;refine Aw Tryz.elemU8 Tryz.underlying31 (o3.alloc _) (Rd.one .u8 wr _ (y:=48+rest) (by omega)) rfl rfl rfl rfl (by omega) (by omega) ?_;intro v4 w4 o4 g4 f4)
      have m4:=Mut.grownO (hB.alloc _) g4 (HGO.out);have HG4:Hid (v4.ownBlock≠some g):=by
       rcases f4 with e | e <;> unfold Hid <;> rw[e]
       ·exact HGO.out
       ·intro h;injection h with h;have:=hB.lt;simp at h;omega
      clear hB o3 g4 f4;have r4:=m4.rd;rw[HQL.out] at r4;have HTR:=Lib.hid (KY (c:=c2) w4 r4 hqw.out hk hk');go_wp2_with fail
      refine HTR.out.mono ?_;rintro e w5 ⟨m5,hm5,ht5,rfl,rfl⟩;have hm5':m5≤k:=by rw[←HQL.out];exact hm5
      have HT5:=Lib.hid ht5;clear ht5 hm5 HTR;go_wp2
      go_roundg (mm / 10)
      case rel =>
       refine ⟨g,m5,_,bs++[48+rest],rfl,by omega,by omega,?_,?_,by omega,o4,HG4.out,hgW,?_⟩
       ·have:=m4.take m5;rw[HT5.out,HQV.out] at this;exact this
       ·rw[←HQV.out,←HT5.out,List.length_take,HQL.out];omega
       ·rw[←HBS.out,HDS.out,HR.out];simp
      case measure=>exact hrr
end Go.Proofs.YtdgbealknnmkoaaGreatDoor
