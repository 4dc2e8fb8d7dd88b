/- Texts of one proof, put together by a program: each lemma is proved for all values of its variables, under the premises that it states. -/
import Derived.Deep.LoopGhost
import Derived.Test.YtdgbealknnmkoaaGreatDoorPf1536298
set_option linter.unusedVariables false
set_option linter.unusedSimpArgs false
namespace Go.Proofs.YtdgbealknnmkoaaGreatDoor
open Go.RowKit
theorem Mut.grownO {k:IntKind}{e:TypeId}{w w':World}{g:Nat}{xs:List Nat}{row:Option Nat}(h:Mut k e w g xs)(hg:w.grownBy w' row)(hne:row≠some g):Mut k e w' g xs:=h.keep (hg.block g h.lt (fun e=>hne e.symm))
theorem Own.kept {k:IntKind}{e:TypeId}{w0 w w':World}{v:Value}{xs:List Nat}{g:Nat}(h:Own k e w0 w v xs)(hg:w.grownBy w' (some g))(hne:v.ownBlock≠some g)(hB:w0.heap.size≤g):Own k e w0 w' v xs :=
 ⟨h.1.kept hg (.inr hne),h.2.grown hg h.2.size (fun k hk=>by injection hk with hk;omega)⟩
def Adx (w wr:World)(a mm:Nat)(mv pv:Value):Prop :=
 ∃ (g k c:Nat) (ps:List Nat),mv = .slice (some ⟨g,0,none⟩) k c∧k≤c∧c≤9223372036854775807∧Mut .u32 97 wr g (Ae mm)∧(Ae mm).length=k∧mm≤a ∧
  Own .u32 97 w wr pv ps∧pv.ownBlock≠some g∧w.heap.size≤g∧ps++Dy mm=Dy a
theorem Tryz.elemU8:CX Tryz.prog .u8 5 1:=by unfold CX;kernel_rfl
set_option maxHeartbeats 1000000 in
set_option maxRecDepth 100000 in
theorem SB {s : Bool} {A : Option Addr} {n c : Nat} {x : Int} (w : World) (ha : AInt w s A n c x) (hn : n ≤ 1073741824) (ht : Tab w) :
  Calls Tryz.prog 91 #[.agg #[.bool s,.slice A n c]] w (Gk w (.string (AM (Dl s x.natAbs)))):=by
 obtain ⟨m,hm,r,HA⟩:=ha.still;clear ha;generalize x.natAbs=a at *;have HC:=Lib.hid (fun W h=>FG (c:=m) (A:=A) (n:=m) (xs:=Ae a) W h (by omega))
 have ka:m=0↔a=0:=by rw[←r.len];exact AQ a
 have hla:(Ae a).length=m:=r.len;have HLA:=Lib.hid hla;clear hla;obtain ⟨W,hW⟩ : ∃ W,W=w.alloc (.cells #[.bool s,.slice A n c] 24):=⟨_,rfl⟩;have bW:Below w.heap.size w W:=by rw[hW];exact Ek w _
 have pa:Pr W w.heap.size s A n c:=by rw[hW];exact Pr.new w s A n c
 have a0:=pa.cell0;have a1:=pa.cell1;go_enter Tryz.func91,Tryz.ntmps91
 go_wp2_with fail
 rw[←hW];clear hW;refine (HA.out _ bW).mono ?_;rintro e W ⟨rfl,rfl⟩;go_wp2_with fail
 refine (HC.out _ (r.call bW)).mono ?_;rintro e w1 ⟨v,rfl,o1⟩;have d1:=o1.2;clear a0 a1 HA HC;by_cases h0:m=0
 ·obtain rfl:=ka.1 h0
  subst h0;obtain ⟨A1,n1,c1,rfl,r1,h1,h1'⟩:=o1.form';have hn1:n1=0:=by have:=r1.len;rw[AY] at this;simpa using this.symm
  subst hn1;clear o1;go_wp2
  go_ret
  exact ⟨by rw[F9];rfl,AA bW d1⟩
 ·have ha0 : a ≠ 0 := fun e => h0 (ka.2 e)
  obtain ⟨g,c1,hv,m1,hg,hc1,hc1'⟩:=o1.mut (by rw[HLA.out];omega)
  rw[HLA.out] at hv hc1;subst hv;have hne:((m:Int) == 0)=false:=by simp;omega
  clear o1 ka;have HP:=Lib.hid (Hq a);go_wp2_with fail
  go_loopg [3,4] a (fun mm mv pv wr=>Hid (Adx W wr a mm mv pv))
  case atStart=>exact ⟨g,m,c1,[],rfl,hc1,hc1',m1,HLA.out,Nat.le_refl _,Own.nil d1,by simp[Value.ownBlock],hg,rfl⟩
  case round =>
   clear m1 d1 hg hc1 hc1';obtain ⟨mm,rfl⟩ : ∃ mm,mm=gk:=⟨_,rfl⟩;obtain ⟨g,k,c2,ps,rfl,hk,hk',mR,hlk,hma,oR,hgo,hgW,hps⟩:=hrel.out;have hkm:k≤m:=by rw[←hlk,←HLA.out];exact AW hma
   have HLK:=Lib.hid hlk;have HPS:=Lib.hid hps;have HGO:=Lib.hid hgo;have hpl:ps.length+(Dy mm).length≤2*m:=by have h:=HP.out;rw[←HPS.out,HLA.out,List.length_append] at h;exact h
   clear hrel hlk hps hgo;by_cases hk0:k=0
   ·subst hk0
    obtain rfl:=(AQ mm).1 HLK.out;rw[Ds,List.append_nil] at HPS;rw[Ds] at hpl;have hpl3:ps.length≤2*m:=by simpa using hpl
    have hpw : ∀ x∈ps,x < 1000000000:=by rw[HPS.out];exact NM a
    have HPW:=Lib.hid hpw;have HTX:Hid (txt ps=dec a):=by unfold Hid;rw[HPS.out];exact LP a ha0
    have bR:=oR.2;have pR:=pa.call bR;have c0:=pR.cell0;obtain ⟨Ap,N,cp,rfl,rp,hp1,hp2⟩:=oR.form';have HPN:=Lib.hid rp.len;have hpn:N≤2*m:=by rw[←HPN.out];exact hpl3
    have hp0:0 < N:=by
     rw[←HPN.out,HPS.out,DB ha0];simp
    clear hpw hpl hpl3 oR HGO hgW mR hk hk' HLK hma hkm hne;replace bW:=AA bW bR
    obtain ⟨wo,rfl⟩ : ∃ wo:World,wo=wr:=⟨_,rfl⟩;go_wp2_with (at_make;refine AV (kx := .i64) (ky := .i64) (n:=0) (c:=9*N+1) Tryz.elemU8 Tryz.underlying31 rfl rfl rfl (congrArg (Value.int .i64) (by omega)) (by omega) (by omega) (by omega) ?_)
    intro w2 B2 b2 hs2;have o2:=B2.own0 b2 (Nat.le_refl _) (by omega)
    have p2:=pR.call b2;have c0:=p2.cell0;obtain ⟨pre,hpre⟩ : ∃ pre:List Nat,pre=(if s=true∧a≠0 then [45] else []):=⟨_,rfl⟩
    have HPRE:Hid (pre++dec a=Dl s a):=by unfold Hid;rw[hpre];rfl
    have hprl:pre.length≤1:=by rw[hpre];split <;> simp
    cases s
    ·obtain rfl : pre = [] := by rw [hpre]; simp
     clear hpre;go_wp2_with fail
     have o3:=o2;clear o2 B2 b2 p2 pR pa c0 hprl;obtain ⟨pre,hpre⟩ : ∃ pre:List Nat,pre=[]:=⟨_,rfl⟩;rw[←hpre] at o3 HPRE;have hprl:pre.length≤1:=by rw[hpre];simp
     clear hpre
     go_loopg [5,6] N (fun j ov i wx=>j≤N∧i = .int .i64 ((j:Int) - 1)∧Own .u8 5 wo wx ov (pre++txt (ps.drop j)))
     case atStart=>exact ⟨Nat.le_refl _,rfl,by rw[List.drop_of_length_le (by rw[HPN.out];omega),show txt []=[] from rfl,List.append_nil];exact o3⟩
     case round =>
      clear o3;obtain ⟨j,rfl⟩ : ∃ j,j=gk:=⟨_,rfl⟩;obtain ⟨hj,rfl,oX⟩:=hrel;have bX:=oX.2;by_cases hj0:j=0
      ·subst hj0
       obtain ⟨Ax,nx,cx,rfl,rx,hx1,hx2⟩:=oX.form';rw[List.drop_zero,HTX.out,HPRE.out] at rx;clear oX;generalize Dl _ a=fin at *;go_wp2_with (refine Cw Tryz.underlying31 Tryz.underlying5 Tryz.underlying9 rx rfl rfl rfl ?_)
       go_ret
       exact ⟨rfl,AA bW bX⟩
      ·obtain ⟨j,rfl⟩ : ∃ k,j=k+1:=⟨j - 1,by omega⟩
       have e1:(((j+1:Nat):Int) - 1)=(j:Int):=by omega
       rw[e1];clear e1 hj0;obtain ⟨b,off,rfl,hbB,hcell⟩:=(rp.below bX).at_ (j:=j) (by omega)
       have hpb:ps.getD j 0 < 1000000000:=D0 ps j _ HPW.out (by omega)
       have HST:=Lib.hid (PV ps j (by rw[HPN.out];omega) hpb)
       rw[HPN.out] at HST;have htl:(txt (ps.drop (j+1))).length≤9*N:=by
        have:=O7 (ps.drop (j+1)) (fun x hx=>HPW.out x (List.mem_of_mem_drop hx))
        rw[List.length_drop,HPN.out] at this;omega
       generalize txt (ps.drop (j+1))=tx at *;obtain ⟨tx',htx'⟩ : ∃ tx',tx'=txt (ps.drop j):=⟨_,rfl⟩;rw[←htx'] at HST;have HTX':=Lib.hid htx';clear htx';generalize ps.getD j 0=p at *;have HF:=Lib.hid (Lg p (by omega) wr (ht.call (AA bW bX)))
       have hdl:(dec p).length≤9:=Jk (n:=p) (k:=8) hpb;have HB:Hid (bytesOf (AM (dec p))=dec p):=Fm _ (KK p);have hsz:(AM (dec p)).size=(dec p).length:=BB _;have HSZ:=Lib.hid hsz;have hsl:(AM (dec p)).size≤9:=by omega
       clear hsz hdl;generalize AM (dec p)=st at *;go_wp2_with fail
       refine HF.out.mono ?_;rintro e w5 ⟨rfl,b5⟩;have o5:=oX.later b5;have htl2:(pre++tx).length≤9*N+1:=by rw[List.length_append];omega
       have HT0:Hid (∀ zs,pre++(tx++zs)=(pre++tx)++zs):=fun zs=>(List.append_assoc _ _ _).symm
       generalize pre++tx=T0 at *;clear HF oX hcell htl hprl;by_cases hjN:j+1 < N
       ·have hd1:decide ((j:Int) < (N:Int) - 1)=true:=by simp;omega
        rw[if_pos hjN] at HST;go_wp2_with fail
        go_loopg [5,56] (9 - st.size) (fun q ov cnt wx => ∃ i:Nat,i+q=9 - st.size∧cnt = .int .i64 i∧Own .u8 5 wo wx ov (T0++List.replicate i 48))
        case atStart=>exact ⟨0,by omega,rfl,by rw[List.replicate_zero,List.append_nil];exact o5⟩
        case round =>
         clear o5 b5 bX;obtain ⟨i,hi,rfl,oY⟩:=hrel;by_cases hi0:gk=0
         ·have hcl:((i:Int) < 9 - (st.size:Int))=False:=by simp;omega
          have hd2:decide ((i:Int) < 9 - (st.size:Int))=false:=by simp;omega
          have HII:Hid (i=9 - (dec p).length):=by unfold Hid;have:=HSZ.out;omega
          have hll:(T0++List.replicate i 48).length≤9*N+10:=by rw[List.length_append,List.length_replicate];omega
          have HRE:Hid (pre++tx'=T0++List.replicate i 48++dec p):=by unfold Hid;rw[HST.out,HT0.out,←HII.out,List.append_assoc]
          generalize T0++List.replicate i 48=T1 at *;clear hcl hi hi0;go_wp2_with (at_builtin;refine BQ Tryz.elemU8 Tryz.underlying31 Tryz.underlying9 oY rfl rfl rfl rfl (by omega) ?_;intro v6 w6 o6 _)
          rw[HB.out,←HRE.out] at o6;go_wp2
          go_roundg j
          case rel=>exact ⟨by omega,by go_num,by rw[←HTX'.out];exact o6⟩
          case measure=>omega
         ·have hd2:decide ((i:Int) < 9 - (st.size:Int))=true:=by simp;omega
          have hll:(T0++List.replicate i 48).length≤9*N+10:=by rw[List.length_append,List.length_replicate];omega
          go_wp2_with (at_builtin;refine Aw Tryz.elemU8 Tryz.underlying31 (oY.alloc _) (Rd.one .u8 wr _ rfl) rfl rfl rfl rfl (by omega) (by omega) ?_;intro v3 w3 o3 _ _)
          go_roundg (gk - 1)
          case rel=>exact ⟨i+1,by omega,by go_num,by rw[List.replicate_succ',←List.append_assoc];exact o3⟩
          case measure=>omega
       ·have hd1:decide ((j:Int) < (N:Int) - 1)=false:=by simp;omega
        rw[if_neg hjN,List.replicate_zero,List.nil_append] at HST;have HRE:Hid (pre++tx'=T0++dec p):=by unfold Hid;rw[HST.out,HT0.out]
        go_wp2_with (at_builtin;refine BQ Tryz.elemU8 Tryz.underlying31 Tryz.underlying9 o5 rfl rfl rfl rfl (by omega) ?_;intro v6 w6 o6 _)
        rw[HB.out,←HRE.out] at o6;go_wp2
        go_roundg j
        case rel=>exact ⟨by omega,by go_num,by rw[←HTX'.out];exact o6⟩
        case measure=>omega
    ·obtain rfl : pre = [45] := by rw [hpre]; simp [ha0]
     clear hpre;go_wp2_with (at_builtin;refine Aw Tryz.elemU8 Tryz.underlying31 (o2.alloc _) (Rd.one .u8 w2 _ rfl) rfl rfl rfl rfl (by simp) (by simp) ?_;intro v3 w3 o3 _ _)
     simp only[List.nil_append] at o3;clear o2 B2 b2 p2 pR pa c0 hprl;obtain ⟨pre,hpre⟩ : ∃ pre:List Nat,pre=[45]:=⟨_,rfl⟩;rw[←hpre] at o3 HPRE;have hprl:pre.length≤1:=by rw[hpre];simp
     clear hpre
     go_loopg [5,6] N (fun j ov i wx=>j≤N∧i = .int .i64 ((j:Int) - 1)∧Own .u8 5 wo wx ov (pre++txt (ps.drop j)))
     case atStart=>exact ⟨Nat.le_refl _,rfl,by rw[List.drop_of_length_le (by rw[HPN.out];omega),show txt []=[] from rfl,List.append_nil];exact o3⟩
     case round =>
      clear o3;obtain ⟨j,rfl⟩ : ∃ j,j=gk:=⟨_,rfl⟩;obtain ⟨hj,rfl,oX⟩:=hrel;have bX:=oX.2;by_cases hj0:j=0
      ·subst hj0
       obtain ⟨Ax,nx,cx,rfl,rx,hx1,hx2⟩:=oX.form';rw[List.drop_zero,HTX.out,HPRE.out] at rx;clear oX;generalize Dl _ a=fin at *;go_wp2_with (refine Cw Tryz.underlying31 Tryz.underlying5 Tryz.underlying9 rx rfl rfl rfl ?_)
       go_ret
       exact ⟨rfl,AA bW bX⟩
      ·obtain ⟨j,rfl⟩ : ∃ k,j=k+1:=⟨j - 1,by omega⟩
       have e1:(((j+1:Nat):Int) - 1)=(j:Int):=by omega
       rw[e1];clear e1 hj0;obtain ⟨b,off,rfl,hbB,hcell⟩:=(rp.below bX).at_ (j:=j) (by omega)
       have hpb:ps.getD j 0 < 1000000000:=D0 ps j _ HPW.out (by omega)
       have HST:=Lib.hid (PV ps j (by rw[HPN.out];omega) hpb)
       rw[HPN.out] at HST;have htl:(txt (ps.drop (j+1))).length≤9*N:=by
        have:=O7 (ps.drop (j+1)) (fun x hx=>HPW.out x (List.mem_of_mem_drop hx))
        rw[List.length_drop,HPN.out] at this;omega
       generalize txt (ps.drop (j+1))=tx at *;obtain ⟨tx',htx'⟩ : ∃ tx',tx'=txt (ps.drop j):=⟨_,rfl⟩;rw[←htx'] at HST;have HTX':=Lib.hid htx';clear htx';generalize ps.getD j 0=p at *;have HF:=Lib.hid (Lg p (by omega) wr (ht.call (AA bW bX)))
       have hdl:(dec p).length≤9:=Jk (n:=p) (k:=8) hpb;have HB:Hid (bytesOf (AM (dec p))=dec p):=Fm _ (KK p);have hsz:(AM (dec p)).size=(dec p).length:=BB _;have HSZ:=Lib.hid hsz;have hsl:(AM (dec p)).size≤9:=by omega
       clear hsz hdl;generalize AM (dec p)=st at *;go_wp2_with fail
       refine HF.out.mono ?_;rintro e w5 ⟨rfl,b5⟩;have o5:=oX.later b5;have htl2:(pre++tx).length≤9*N+1:=by rw[List.length_append];omega
       have HT0:Hid (∀ zs,pre++(tx++zs)=(pre++tx)++zs):=fun zs=>(List.append_assoc _ _ _).symm
       generalize pre++tx=T0 at *;clear HF oX hcell htl hprl;by_cases hjN:j+1 < N
       ·have hd1:decide ((j:Int) < (N:Int) - 1)=true:=by simp;omega
        rw[if_pos hjN] at HST;go_wp2_with fail
        go_loopg [5,56] (9 - st.size) (fun q ov cnt wx => ∃ i:Nat,i+q=9 - st.size∧cnt = .int .i64 i∧Own .u8 5 wo wx ov (T0++List.replicate i 48))
        case atStart=>exact ⟨0,by omega,rfl,by rw[List.replicate_zero,List.append_nil];exact o5⟩
        case round =>
         clear o5 b5 bX;obtain ⟨i,hi,rfl,oY⟩:=hrel;by_cases hi0:gk=0
         ·have hcl:((i:Int) < 9 - (st.size:Int))=False:=by simp;omega
          have hd2:decide ((i:Int) < 9 - (st.size:Int))=false:=by simp;omega
          have HII:Hid (i=9 - (dec p).length):=by unfold Hid;have:=HSZ.out;omega
          have hll:(T0++List.replicate i 48).length≤9*N+10:=by rw[List.length_append,List.length_replicate];omega
          have HRE:Hid (pre++tx'=T0++List.replicate i 48++dec p):=by unfold Hid;rw[HST.out,HT0.out,←HII.out,List.append_assoc]
          generalize T0++List.replicate i 48=T1 at *;clear hcl hi hi0;go_wp2_with (at_builtin;refine BQ Tryz.elemU8 Tryz.underlying31 Tryz.underlying9 oY rfl rfl rfl rfl (by omega) ?_;intro v6 w6 o6 _)
          rw[HB.out,←HRE.out] at o6;go_wp2
          go_roundg j
          case rel=>exact ⟨by omega,by go_num,by rw[←HTX'.out];exact o6⟩
          case measure=>omega
         ·have hd2:decide ((i:Int) < 9 - (st.size:Int))=true:=by simp;omega
          have hll:(T0++List.replicate i 48).length≤9*N+10:=by rw[List.length_append,List.length_replicate];omega
          go_wp2_with (at_builtin;refine Aw Tryz.elemU8 Tryz.underlying31 (oY.alloc _) (Rd.one .u8 wr _ rfl) rfl rfl rfl rfl (by omega) (by omega) ?_;intro v3 w3 o3 _ _)
          go_roundg (gk - 1)
          case rel=>exact ⟨i+1,by omega,by go_num,by rw[List.replicate_succ',←List.append_assoc];exact o3⟩
          case measure=>omega
       ·have hd1:decide ((j:Int) < (N:Int) - 1)=false:=by simp;omega
        rw[if_neg hjN,List.replicate_zero,List.nil_append] at HST;have HRE:Hid (pre++tx'=T0++dec p):=by unfold Hid;rw[HST.out,HT0.out]
        go_wp2_with (at_builtin;refine BQ Tryz.elemU8 Tryz.underlying31 Tryz.underlying9 o5 rfl rfl rfl rfl (by omega) ?_;intro v6 w6 o6 _)
        rw[HB.out,←HRE.out] at o6;go_wp2
        go_roundg j
        case rel=>exact ⟨by omega,by go_num,by rw[←HTX'.out];exact o6⟩
        case measure=>omega
   ·have hk1:decide (0 < (k:Int))=true:=by simp;omega
    have hk2:0 < k:=by omega
    have HD:=Lib.hid (EI (c:=c2) (d:=1000000000) wr mR (Ai mm) HLK.out (by omega) (by omega) (by omega))
    go_wp2_with fail
    refine HD.out.mono ?_;rintro e w3 ⟨qs,rfl,hql,hqw,hqv,m3,hgr3,hsz3⟩;rw[An] at hqv ⊢;have hmm0:mm≠0:=fun e=>hk0 (by rw[←HLK.out];exact (AQ mm).2 e)
    have HPP:=Lib.hid (DB hmm0);have hrl:mm % 1000000000 < 1000000000:=Nat.mod_lt _ (by omega)
    have hrr:mm / 1000000000 < mm:=by omega
    have hpl2:ps.length+1≤2*m:=by rw[HPP.out,List.length_cons] at hpl;omega
    have HQL:=Lib.hid (hql.trans HLK.out);have HQV:=Lib.hid hqv;have HQW:=Lib.hid hqw;have o3:=oR.kept hgr3 HGO.out hgW;clear hql hqv hqw HD mR oR hgr3 hsz3 hpl;generalize mm / 1000000000=q at *;generalize mm % 1000000000=d at *;go_wp2_with (at_builtin;refine Aw Tryz.elemU32 Tryz.underlying22 (o3.alloc _) (Rd.one .u32 w3 _ rfl) rfl rfl rfl rfl (by omega) (by omega) ?_;intro v4 w4 o4 g4 f4)
    have m4:=(m3.alloc (.cells #[.int .u32 (d:Int)] 97)).grownO g4 (HGO.out);have HG4:Hid (v4.ownBlock≠some g):=by
     rcases f4 with e | e <;> unfold Hid <;> rw[e]
     ·exact HGO.out
     ·intro h;injection h with h;have:=m3.lt;simp at h;omega
    clear m3 o3 g4 f4;have r4:=m4.rd;rw[HQL.out] at r4;have HTR:=Lib.hid (Cx (c:=c2) w4 r4 HQW.out hk hk');refine HTR.out.mono ?_;rintro e w5 ⟨m5,hm5,ht5,rfl,rfl⟩;have hm5':m5≤k:=by rw[←HQL.out];exact hm5
    have HT5:=Lib.hid ht5;have hlt5:m5 < k∨True := .inr trivial;clear ht5 hm5 HTR;go_wp2
    go_roundg q
    case rel =>
     refine ⟨g,m5,m5,ps++[d],rfl,Nat.le_refl _,by omega,?_,?_,by omega,o4,HG4.out,hgW,?_⟩
     ·have:=m4.take m5;rw[HT5.out,HQV.out] at this;exact this
     ·rw[←HQV.out,←HT5.out,List.length_take,HQL.out];omega
     ·rw[←HPS.out,HPP.out];simp
    case measure=>exact hrr
theorem CInt.len_le {w:World}{neg:Bool}{A:Option Addr}{n c:Nat}{z:Int}(h:CInt w neg A n c z){k:Nat}(hk:z.natAbs < 4294967296 ^ k):n≤k:=by
 rw[←h.1.len];exact B6 hk
def Lim (k:Nat)(z:Int):Prop:=z.natAbs < 4294967296 ^ k
theorem Lim.mono {k j:Nat}{z:Int}(h:Lim k z)(hk:k≤j):Lim j z:=Nat.lt_of_lt_of_le h (Nat.pow_le_pow_right (by omega) hk)
theorem Lim.add {k:Nat}{x y:Int}(h:Lim k x)(h':Lim k y):Lim (k+1) (x+y):=by
 unfold Lim at *;rw[Nat.pow_succ];have:=Int.natAbs_add_le x y;generalize 4294967296 ^ k=B at *;omega
theorem Lim.mul {k j:Nat}{x y:Int}(h:Lim k x)(h':Lim j y):Lim (k+j) (x*y):=by
 unfold Lim at *;rw[Nat.pow_add,Int.natAbs_mul];exact Nat.mul_lt_mul'' h h'
theorem Lim.neg {k:Nat}{x:Int}(h:Lim k x):Lim k (-x):=by unfold Lim at *;rwa [Int.natAbs_neg]
theorem AInt.lim {w:World}{neg:Bool}{A:Option Addr}{n c:Nat}{z:Int}(h:AInt w neg A n c z):Lim n z:=by
 obtain ⟨ds,h1,h2,h3,h4,rfl⟩:=h;unfold Lim;rw[Bw,←h1.len];exact BP h2
theorem CInt.len {w:World}{neg:Bool}{A:Option Addr}{n c:Nat}{z:Int}(h:CInt w neg A n c z){k:Nat}(hk:Lim k z):n≤k:=h.len_le hk
theorem JQ (x:Int){y:Int}(h0:0 < y):(x.fdiv y).natAbs≤x.natAbs+1:=by
 have h1:=Int.fmod_add_mul_fdiv x y;have h2:0≤x.fmod y∧x.fmod y < y:=⟨Int.fmod_nonneg_of_pos x h0,Int.fmod_lt_of_pos x h0⟩;generalize x.fmod y=r at *;generalize x.fdiv y=q at *;by_cases hq:0≤q
 ·have:1*q≤y*q:=Int.mul_le_mul_of_nonneg_right (by omega) hq
  omega
 ·have h3:y*q+y=y*(q+1):=by rw[Int.mul_add,Int.mul_one]
  have:y*(q+1)≤1*(q+1):=Int.mul_le_mul_of_nonpos_right (by omega) (by omega)
  omega
theorem XV (x y:Int):(x.fdiv y).natAbs≤x.natAbs+1:=by
 by_cases hy:y=0
 ·subst hy;simp
 ·rcases Int.lt_or_gt_of_ne hy with h0 | h0
  ·have:=JQ (-x) (y := -y) (by omega)
   rw[Int.neg_fdiv_neg] at this;omega
  ·exact JQ x h0
theorem Px (x y:Int):x.fmod y = -((-x).fmod (-y)):=by
 have h1:=Int.fmod_add_mul_fdiv x y;have h2:=Int.fmod_add_mul_fdiv (-x) (-y);rw[Int.neg_fdiv_neg,Int.neg_mul] at h2;omega
theorem V4 (x:Int){y:Int}(hy:y≠0):(0 < y→0≤x.fmod y∧x.fmod y < y)∧(y < 0→y < x.fmod y∧x.fmod y≤0):=by
 constructor
 ·intro h0;exact ⟨Int.fmod_nonneg_of_pos x h0,Int.fmod_lt_of_pos x h0⟩
 ·intro h0
  have h1:=Int.fmod_nonneg_of_pos (-x) (b := -y) (by omega)
  have h2:=Int.fmod_lt_of_pos (-x) (b := -y) (by omega)
  rw[Px x y];omega
theorem Lim.fdiv {k:Nat}{x:Int}(h:Lim k x)(y:Int):Lim (k+1) (x.fdiv y):=by
 unfold Lim at *;rw[Nat.pow_succ];have:=XV x y;have h1:1≤4294967296 ^ k:=Nat.one_le_pow _ _ (by omega)
 generalize 4294967296 ^ k=B at *;omega
theorem XR {x y:Int}(hy:y≠0):(x.fmod y).natAbs < y.natAbs:=by
 have:=V4 x hy;rcases Int.lt_or_gt_of_ne hy with h0 | h0
 ·have:=this.2 h0;omega
 ·have:=this.1 h0;omega
theorem Lim.fmod {k:Nat}{x y:Int}(h:Lim k y)(hy:y≠0):Lim k (x.fmod y):=Nat.lt_trans (XR hy) h
theorem YO (w:World):Below w.heap.size w w.drew:=(Below.refl _ _).drew
theorem Aau {x y:Int}(h:x < y):Eg x y = -1:=by unfold Eg;rw[if_pos h]
theorem Aav {x y:Int}(h:y < x):Eg x y=1:=by unfold Eg;rw[if_neg (by omega),if_neg (by omega)]
theorem AInt.trim' {w:World}{neg:Bool}{A:Option Addr}{n c:Nat}{z:Int}(h:AInt w neg A n c z) :
  Calls Tryz.prog 132 #[.slice A n c] w (Nb w w.heap.size n A z.natAbs):=h.trim (Below.refl _ _)
set_option maxHeartbeats 1000000 in
set_option maxRecDepth 100000 in
theorem ZY {s t:Bool}{A A':Option Addr}{n n' c c':Nat}{x y:Int}(w:World)(ha:AInt w s A n c x)(hb:AInt w t A' n' c' y)(hn:n≤549755813888)(hn':n'≤549755813888) :
  Calls Tryz.prog 129 #[.agg #[.bool s,.slice A n c],.agg #[.bool t,.slice A' n' c']] w (RetInt w (Nat.gcd x.natAbs y.natAbs:Nat)):=by
 obtain ⟨W,hW,hS,pa,pb,pr⟩:=MT w s t A A' n n' c c';replace ha:=ha.call hS
 replace hb:=hb.call hS
 go_enter Tryz.func129,Tryz.ntmps129
 go_wp2_with fail
 rw[←hW];clear hW;have d0:=YO W
 (replace ha:=ha.call d0);(replace hb:=hb.call d0);(replace pa:=pa.call d0);(replace pb:=pb.call d0);(replace pr:=pr.call d0)
 replace hS:=AA hS d0
 clear d0;refine wp_region_held_drew (S:=fun w'=>Below w.heap.size w w'∧Pr w' (w.heap.size) s A n c∧Pr w' (w.heap.size+1) t A' n' c') (by kernel_rfl) ⟨hS,pa,pb⟩ (fun _ => ?_)
 generalize W.drew=u0 at *;refine wpAnyH_take (i:=0) (oi:=⟨_,_,_,_,_,_⟩) (v := ?_) rfl (by kernel_rfl) (by kernel_rfl) (by kernel_rfl) (fun _ _ _ h=>h) (Or.inl ⟨by rfl,?_⟩) ⟨hS,pa,pb⟩ ?_
 rotate_left
 ·intro w' hS';(first | (go_simp;done) | (go_simp;with_reducible rfl) | with_reducible rfl)
 (try simp only[Act.put,sA,List.set_cons_zero,List.set_cons_succ])
 refine wpAnyH_take (i:=1) (oi:=⟨_,_,_,_,_,_⟩) (v := ?_) rfl (by kernel_rfl) (by kernel_rfl) (by kernel_rfl) (fun _ _ _ h=>h) (Or.inl ⟨by rfl,?_⟩) ⟨hS,pa,pb⟩ ?_
 rotate_left
 ·intro w' hS';obtain ⟨_,q_pa,q_pb⟩:=hS';have c0:=q_pa.cell0;have c1:=q_pa.cell1;(first | (go_simp;done) | (go_simp;with_reducible rfl) | with_reducible rfl)
 (try simp only[Act.put,sA,List.set_cons_zero,List.set_cons_succ])
 refine wpAnyH_take (i:=3) (oi:=⟨_,_,_,_,_,_⟩) (v := ?_) rfl (by kernel_rfl) (by kernel_rfl) (by kernel_rfl) (fun _ _ _ h=>h) (Or.inl ⟨by rfl,?_⟩) ⟨hS,pa,pb⟩ ?_
 rotate_left
 ·intro w' hS';(first | (go_simp;done) | (go_simp;with_reducible rfl) | with_reducible rfl)
 (try simp only[Act.put,sA,List.set_cons_zero,List.set_cons_succ])
 refine wpAnyH_take (i:=4) (oi:=⟨_,_,_,_,_,_⟩) (v := ?_) rfl (by kernel_rfl) (by kernel_rfl) (by kernel_rfl) (fun _ _ _ h=>h) (Or.inl ⟨by rfl,?_⟩) ⟨hS,pa,pb⟩ ?_
 rotate_left
 ·intro w' hS';obtain ⟨_,q_pa,q_pb⟩:=hS';have c0:=q_pb.cell0;have c1:=q_pb.cell1;(first | (go_simp;done) | (go_simp;with_reducible rfl) | with_reducible rfl)
 (try simp only[Act.put,sA,List.set_cons_zero,List.set_cons_succ])
 refine wpAnyH_ready (rs:=[2]) (by kernel_rfl) (by simp) ?_
 refine AllReadyH.cons (o:=⟨_,_,_,_,_,_⟩) rfl (fun K hK => ?_) AllReadyH.nil
 go_simp
 refine (ha.trim').mono ?_;rintro e u1 ⟨m1,rfl,r1,y1,rfl⟩;first | (with_reducible refine hK.out _ _ ⟨hS,pa,pb⟩ (fun _ => ?_)) | (go_wp2_with fail;with_reducible refine hK.out _ _ ⟨hS,pa,pb⟩ (fun _ => ?_))
 clear hK K
 (try simp only[Act.put,sA,List.set_cons_zero,List.set_cons_succ])
 refine wpAnyH_ready (rs:=[5]) (by kernel_rfl) (by simp) ?_
 refine AllReadyH.cons (o:=⟨_,_,_,_,_,_⟩) rfl (fun K hK => ?_) AllReadyH.nil
 go_simp
 refine (hb.trim').mono ?_;rintro e u2 ⟨m2,rfl,r2,y2,rfl⟩;first | (with_reducible refine hK.out _ _ ⟨hS,pa,pb⟩ (fun _ => ?_)) | (go_wp2_with fail;with_reducible refine hK.out _ _ ⟨hS,pa,pb⟩ (fun _ => ?_))
 clear hK K
 (try simp only[Act.put,sA,List.set_cons_zero,List.set_cons_succ])
 refine wpAnyH_ready (rs:=[6]) (by kernel_rfl) (by simp) ?_
 refine AllReadyH.cons (o:=⟨_,_,_,_,_,_⟩) rfl (fun K hK => ?_) AllReadyH.nil
 go_simp
 refine (S6 _ r1 r2 (by omega) (by omega) (Nat.le_refl _) (by omega) (Nat.le_refl _) (by omega)).mono ?_
 rintro e u3 ⟨B3,m3,e3,rfl,r3,x3,x3',d3⟩;replace hS:=AA hS d3
 (replace ha:=ha.call d3);(replace hb:=hb.call d3);(replace pa:=pa.call d3);(replace pb:=pb.call d3);(replace pr:=pr.call d3);(replace r1:=r1.call d3);(replace r2:=r2.call d3)
 first | (with_reducible refine hK.out _ _ ⟨hS,pa,pb⟩ (fun _ => ?_)) | (go_wp2_with fail;with_reducible refine hK.out _ _ ⟨hS,pa,pb⟩ (fun _ => ?_))
 clear hK K
 (try simp only[Act.put,sA,List.set_cons_zero,List.set_cons_succ])
 refine wpAnyH_ready (rs:=[7]) (by kernel_rfl) (by simp) ?_
 refine AllReadyH.cons (o:=⟨_,_,_,_,_,_⟩) rfl (fun K hK => ?_) AllReadyH.nil
 go_simp
 refine (Co false _ r3 x3 x3').mono ?_;rintro e u4 ⟨t4,B4,m4,e4,rfl,j4,d4⟩;replace hS:=AA hS d4
 (replace ha:=ha.call d4);(replace hb:=hb.call d4);(replace pa:=pa.call d4);(replace pb:=pb.call d4);(replace pr:=pr.call d4);(replace r1:=r1.call d4);(replace r2:=r2.call d4);(replace r3:=r3.call d4)
 first | (with_reducible refine hK.out _ _ ⟨hS,pa,pb⟩ (fun _ => ?_)) | (go_wp2_with fail;with_reducible refine hK.out _ _ ⟨hS,pa,pb⟩ (fun _ => ?_))
 clear hK K;rw[Wz] at j4
 (try simp only[Act.put,sA,List.set_cons_zero,List.set_cons_succ])
 refine wpAnyH_ready (rs:=[8]) (by kernel_rfl) (by simp) ?_
 refine AllReadyH.cons (o:=⟨_,_,_,_,_,_⟩) rfl (fun K hK => ?_) AllReadyH.nil
 obtain ⟨q0,q1,f0,f1,k0,k1⟩:=pr.all (.bool t4) (.slice B4 m4 e4);have hSb:=hS
 go_simp
 replace hS:=AC hS (g:=w.heap.size+1+1) (by omega) (.bool t4) (.slice B4 m4 e4)
 refine hK.out _ _ ⟨hS,(pa.far (by omega) _ _),(pb.far (by omega) _ _)⟩ (fun _ => ?_)
 clear hK K
 (try simp only[Act.put,sA,List.set_cons_zero,List.set_cons_succ])
 refine wpAnyH_done (by kernel_rfl) ?_ _
 go_wp2
 ((try simp only[Exit.inBlock,Exit.then]);refine bodyPost_ret (by simp[results,Tryz.results129,go_sem,k0,k1];try rfl) rfl ?_)
 exact RetInt.stored j4 pr hSb (by omega)
end Go.Proofs.YtdgbealknnmkoaaGreatDoor
namespace Go.Proofs.YtdgbealknnmkoaaGreatDoor
theorem Dq {n d:Int}(hd:0 < d):(Rat.divInt n d).num=n.fdiv (Nat.gcd n.natAbs d.natAbs:Nat):=by
 rw[Rat.num_divInt,Int.sign_eq_one_of_pos hd,Int.one_mul,Int.fdiv_eq_ediv_of_nonneg _ (Int.natCast_nonneg _),Int.gcd,Nat.gcd_comm]
theorem Dr {n d:Int}(hd:0 < d):((Rat.divInt n d).den:Int)=d.fdiv (Nat.gcd n.natAbs d.natAbs:Nat):=by
 rw[Rat.den_divInt,if_neg (by omega),Int.fdiv_eq_ediv_of_nonneg _ (Int.natCast_nonneg _),Int.gcd,Nat.gcd_comm]
 have:d=(d.natAbs:Int):=by omega
 rw[Int.natCast_ediv,←this]
theorem OS (n d:Int):Rat.divInt (-n) (-d)=Rat.divInt n d:=Rat.neg_divInt_neg n d
theorem KE {n d:Int}(hd:d≠0):((Nat.gcd n.natAbs d.natAbs:Nat):Int)≠0:=by
 have:0 < Nat.gcd n.natAbs d.natAbs:=Nat.gcd_pos_of_pos_right _ (by omega)
 omega
theorem Xw (n d:Int):(Rat.divInt n d).num.natAbs≤n.natAbs:=by
 rw[Rat.num_divInt];have h1:((d.sign*n) / (d.gcd n:Int)).natAbs≤(d.sign*n).natAbs:=by
  rcases Nat.eq_zero_or_pos (d.gcd n) with h | h
  ·rw[h];simp
  ·have hd:((d.gcd n:Nat):Int) ∣ d.sign*n:=Int.dvd_trans (Int.gcd_dvd_right ..) (Int.dvd_mul_left _ _)
   rw[Int.natAbs_ediv_of_dvd hd];exact Nat.div_le_self _ _
 refine Nat.le_trans h1 ?_;rw[Int.natAbs_mul];have:d.sign.natAbs≤1:=by rw[Int.natAbs_sign];split <;> omega
 calc d.sign.natAbs*n.natAbs≤1*n.natAbs:=Nat.mul_le_mul_right _ this
  _=n.natAbs:=Nat.one_mul _
theorem Yt {n d:Int}(hd:d≠0):(Rat.divInt n d).den≤d.natAbs:=by
 rw[Rat.den_divInt,if_neg hd];exact Nat.div_le_self _ _
theorem EZ {k:Nat}{n d:Int}(h:Lim k n):Lim k (Rat.divInt n d).num:=Nat.lt_of_le_of_lt (Xw n d) h
theorem FW {k:Nat}{n d:Int}(h:Lim k d)(hk:0 < k):Lim k ((Rat.divInt n d).den:Int):=by
 unfold Lim at *;rw[Int.natAbs_natCast];by_cases hd:d=0
 ·subst hd
  rw[Rat.divInt_zero];show 1 < _
  calc 1 < 4294967296 ^ 1:=by decide
   _≤4294967296 ^ k:=Nat.pow_le_pow_right (by decide) hk
 ·exact Nat.lt_of_le_of_lt (Yt hd) h
theorem Rr (q:Rat):(0:Int) < q.den:=by have:=q.den_pos;omega
theorem BH (q:Rat):Rat.divInt q.num q.den=q:=Rat.num_divInt_den q
theorem Ee {k:Nat}(hk:0 < k):Lim k 1:=by
 unfold Lim
 calc Int.natAbs 1 < 4294967296 ^ 1:=by decide
  _≤4294967296 ^ k:=Nat.pow_le_pow_right (by decide) hk
theorem F5 (k:Nat):Lim k 0:=by unfold Lim;exact Nat.pow_pos (by decide)
theorem QR {k:Nat}{n g:Int}(h:Lim k n)(hg:0 < g):Lim k (n.fdiv g):=by
 unfold Lim at *;refine Nat.lt_of_le_of_lt ?_ h;rw[Int.fdiv_eq_ediv_of_nonneg _ (by omega)]
 rcases Int.le_total 0 n with hn | hn
 ·have h1:n / g≤n:=Int.ediv_le_self _ hn
  have h2:0≤n / g:=Int.ediv_nonneg hn (by omega)
  omega
 ·have h1:n≤n / g:=by
   have:=Int.le_ediv_iff_mul_le (a:=n) (b:=n) hg;refine this.2 ?_;have:n*g≤n*1:=Int.mul_le_mul_of_nonpos_left hn (by omega)
   omega
  have h2:n / g≤0:=by
   have:=Int.ediv_le_ediv hg hn
   simpa using this
  omega
theorem Fa {k:Nat}{n d:Int}(h:Lim k d)(hd:d≠0):Lim k ((Nat.gcd n.natAbs d.natAbs:Nat):Int):=by
 unfold Lim at *;rw[Int.natAbs_natCast];exact Nat.lt_of_le_of_lt (Nat.gcd_le_right _ (by omega)) h
end Go.Proofs.YtdgbealknnmkoaaGreatDoor
