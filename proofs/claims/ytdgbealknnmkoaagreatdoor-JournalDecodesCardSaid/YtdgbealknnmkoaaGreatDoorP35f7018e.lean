/- Texts of one proof, put together by a program: each lemma is proved for all values of its variables, under the premises that it states. -/
import Derived.Test.YtdgbealknnmkoaaGreatDoorPf09b338c
import Derived.Test.YtdgbealknnmkoaaGreatDoorPb6ce3d72
set_option linter.unusedVariables false
set_option linter.unusedSimpArgs false
namespace Go.Proofs.YtdgbealknnmkoaaGreatDoor
open Go.RowKit
theorem LV {sm:Nat}(h:sm < 4294967296) : #[Value.int IntKind.u8 ((sm:Int) / 16777216),Value.int IntKind.u8 ((sm:Int) / 65536 % 256),Value.int IntKind.u8 ((sm:Int) / 256 % 256),Value.int IntKind.u8 ((sm:Int) % 256)]=(cellsOf IntKind.u8 (D8 sm)).toArray:=by
 simp[D8,cellsOf];omega
theorem Own.new1 (k:IntKind)(e:TypeId){w0:World}(w:World)(y:Nat)(hb:Below w0.heap.size w0 w):Own k e w0 (w.alloc (.cells #[.int k (y:Int)] e)) (.slice (some ⟨w.heap.size,0,none⟩) 1 1) [y]:=by
 have h:Buf k e (w.alloc (.cells #[.int k (y:Int)] e)) w.heap.size [y]:=heap_alloc_new w _;exact h.own (hb.alloc hb.size _) hb.size (by simp[maxLen])
set_option maxRecDepth 100000 in
theorem XN {A:Option Addr}{n c:Nat}{xs:List Nat}(kind:Nat)(w:World)(hr:Rd .u8 w w.heap.size A n xs)(hx : ∀ x∈xs,x < 256)(hk:kind < 256)(hn:n≤1048576) :
  Calls Tryz.prog 60 #[.int .u8 kind,.slice A n c] w (El .u8 5 w (Bs kind xs) 0):=by
 have hl:=hr.len;have hb:=EH hk hx (by omega)
 have hfl:=Hu kind xs (by omega)
 have hel:=AJ (n:=n) (by omega)
 have HF:Hid (Bs kind xs=AX kind xs++D8 (crc (AX kind xs))):=rfl;have HH:Hid (AX kind xs=([]++[kind])++Ac n++xs):=by rw[←hl];simp[AX,Hid]
 have Hx:=Lib.hid hx;have Hb:=Lib.hid hb;have HL:=Lib.hid hl;have hcl:=P6 (AX kind xs);clear hx hl hb;go_enter Tryz.func60,Tryz.ntmps60
 go_wp2_with fail
 refine (Dc n _ (by omega)).mono ?_
 rintro e w1 ⟨v1,rfl,o1⟩;obtain ⟨A1,n1,c1,rfl,r1,hc1,hd1⟩:=o1.form';have hn1:n1≤9:=by have:=r1.len;omega
 have b1:=o1.2;have x1:=hr.call o1.2;clear o1;go_wp2_with (at_make;refine AV (kx := .i64) (ky := .i64) (n:=0) (c:=1+n1+n+4) Tryz.elemU8w Tryz.underlying31 rfl rfl rfl (congrArg (Value.int .i64) (by omega)) (by omega) (by omega) (by omega) ?_)
 intro w2 B2 b2 l2;have o2:=B2.own0 (w0:=w1) b2 (Nat.le_refl _) (by omega)
 clear B2 b2 l2;generalize 1+n1+n+4=cc at *;go_wp2_with (at_builtin;refine Aw Tryz.elemU8w Tryz.underlying31 (o2.alloc _) (Rd.one .u8 _ 5 (y:=kind) rfl) rfl rfl rfl rfl ?_ ?_ ?_)
 ·simp
 ·simp
 intro v3 w3 o3 _ _;clear o2;go_wp2_with (at_builtin;refine Aw Tryz.elemU8w Tryz.underlying31 o3 (r1.below o3.below) rfl rfl rfl rfl ?_ ?_ ?_)
 ·simp;omega
 ·simp;omega
 intro v4 w4 o4 _ _;clear o3;go_wp2_with (at_builtin;refine Aw Tryz.elemU8w Tryz.underlying31 o4 (x1.below o4.below) rfl rfl rfl rfl ?_ ?_ ?_)
 ·simp;omega
 ·simp;omega
 intro v5 w5 o5 _ _;clear o4;have o5':Own .u8 5 w1 w5 v5 (AX kind xs):=by rw[HH.out];exact o5
 clear o5;obtain ⟨A5,n5,c5,rfl,r5,hc5,hd5⟩:=o5'.form';have hck:=Kd (c:=c5) w5 r5 (Nat.le_refl _) Hb.out (by omega)
 generalize crc (AX kind xs)=sm at *;have HK:=Lib.hid hck;clear hck;go_wp2_with fail
 refine HK.out.mono ?_;rintro e w6 ⟨rfl,b6⟩;have o6:=o5'.later b6;clear HK o5' r5;go_wp2_with (at_builtin;refine Aw Tryz.elemU8w Tryz.underlying31 (o6.alloc _) (Rd.block .u8 _ 5 _ (D8 sm) _ ?_) rfl rfl rfl rfl ?_ ?_ ?_)
 ·exact LV hcl
 ·simp[D8];omega
 ·simp[D8];omega
 intro v7 w7 o7 _ _;clear o6;go_wp2
 go_ret2
 exact ⟨v7,rfl,by rw[HF.out];exact o7.up b1⟩
theorem V2 {A:Option Addr}{n c:Nat}(kind:Int)(w:World)(hn:1048576 < n) :
  Calls Tryz.prog 60 #[.int .u8 kind,.slice A n c] w (El .u8 5 w [] 10):=by
 go_enter Tryz.func60,Tryz.ntmps60
 go_wp2
 go_ret2
 exact ⟨_,rfl,Own.nil (Below.refl _ _)⟩
theorem V3 {A:Option Addr}{n c:Nat}{xs:List Nat}(kind:Nat)(w:World)(hr:Rd .u8 w w.heap.size A n xs)(hx : ∀ x∈xs,x < 256)(hk:kind < 256) :
  Calls Tryz.prog 60 #[.int .u8 kind,.slice A n c] w (El .u8 5 w (frame kind xs).1 (frame kind xs).2):=by
 unfold frame;rw[hr.len];by_cases h:n≤1048576
 ·rw[if_pos h];exact XN kind w hr hx hk h
 ·rw[if_neg h];exact V2 _ w (by omega)
set_option maxHeartbeats 1000000 in
set_option maxRecDepth 100000 in
theorem PR {A : Option Addr} {n c : Nat} {xs : List Nat} (w : World) (hr : Rd .u8 w w.heap.size A n xs) (hx : ∀ x ∈ xs, x < 256) (hnc : n ≤ c) (hn : n ≤ 140737488355328) (hc : c ≤ 9223372036854775807) :
  Calls Tryz.prog 26 #[.slice A n c] w (Ac7 5 (AP xs) w):=by
 have hl:=hr.len;unfold AP;rw[hl];have HL:=Lib.hid hl;clear hl;by_cases h0:n=0
 ·rw[if_pos h0]
  have h0':((n:Int) == 0)=true:=by simp[h0]
  clear h0;go_enter Tryz.func26,Tryz.ntmps26
  go_wp2
  refine bodyPost_ret (Fx rfl _ _ _) rfl ?_;exact ⟨_,rfl,Own.nil (Below.refl _ _)⟩
 ·rw [if_neg h0]
  have h0':((n:Int) == 0)=false:=by simp[h0]
  have hd:=fun A' (hr':Rd .u8 w w.heap.size A' (n - 1) (xs.drop 1))=>D2 (c:=c - 1) w hr' (KG 1 hx) (by omega)
  have hbd:=DL (xs.drop 1);have her:=(JV (xs.drop 1)).1;rw[List.length_drop,HL.out] at hbd;generalize AZ (xs.drop 1)=r at *;obtain ⟨u,k,er⟩:=r;have HD:=Lib.hid hd;have Hx:=Lib.hid hx;clear hd hx;simp only at hbd her ⊢;by_cases he:er=0
  ·rw [if_neg (by simp [he])]
   obtain ⟨h1,h2,h3,h4⟩:=hbd he;subst he;clear hbd;by_cases hu:1048576 < u
   ·rw[if_pos hu]
    go_enter Tryz.func26,Tryz.ntmps26
    go_wp2_with (refine DY (klo := .i64) (l:=1) Tryz.elemU8w Tryz.underlying31 hr rfl rfl rfl rfl (by omega) hnc ?_)
    intro A' hr';rw[←List.drop_one] at hr';go_wp2_with fail
    refine (HD.out _ hr').mono ?_;rintro e w1 ⟨rfl,rfl⟩;go_wp2
    refine bodyPost_ret (Fx rfl _ _ _) rfl ?_;exact ⟨_,rfl,Own.nil (Below.refl _ _)⟩
   ·rw [if_neg hu]
    by_cases hcut:n - (1+k) < u+4
    ·rw[if_pos hcut]
     go_enter Tryz.func26,Tryz.ntmps26
     go_wp2_with (refine DY (klo := .i64) (l:=1) Tryz.elemU8w Tryz.underlying31 hr rfl rfl rfl rfl (by omega) hnc ?_)
     intro A' hr';rw[←List.drop_one] at hr';go_wp2_with fail
     refine (HD.out _ hr').mono ?_;rintro e w1 ⟨rfl,rfl⟩;go_wp2
     refine bodyPost_ret (Fx rfl _ _ _) rfl ?_;exact ⟨_,rfl,Own.nil (Below.refl _ _)⟩
    ·rw [if_neg hcut]
     obtain ⟨en,hen⟩ : ∃ en,en=1+k+u:=⟨_,rfl⟩;rw[←hen];have hck:=fun A' (r':Rd .u8 w w.heap.size A' en (xs.take en))=>Kd (c:=c) w r' (Nat.le_refl _) (N9 en Hx.out) (by omega)
     have hcl:=P6 (xs.take en);have h4l:((xs.drop en).take 4).length=4:=by rw[List.length_take,List.length_drop,HL.out];omega
     have h4b:=N9 4 (KG en Hx.out);have hbe:=Ac1 _ h4l h4b _ hcl;generalize crc (xs.take en)=sm at *;have HK:=Lib.hid hck;have HB:=Lib.hid hbe;have H4:=Lib.hid h4b;have hen1:en≤1+k+u:=by omega
     have hen2:1+k+u≤en:=by omega
     have HE:=Lib.hid hen;generalize hR:(if (xs.drop en).take 4=D8 sm then (xs.getD 0 0,(xs.drop (1+k)).take u,en+4,0) else (0,([]:List Nat),0,4))=R
     have HR:=Lib.hid hR;clear hck hbe h4b hen hR;go_enter Tryz.func26,Tryz.ntmps26
     go_wp2_with (refine DY (klo := .i64) (l:=1) Tryz.elemU8w Tryz.underlying31 hr rfl rfl rfl rfl (by omega) hnc ?_)
     intro A' hr';rw[←List.drop_one] at hr';go_wp2_with fail
     refine (HD.out _ hr').mono ?_;rintro e w1 ⟨rfl,rfl⟩;clear hr' HD;have hsum:(1:Int)+k+u=en:=by omega
     go_wp2_with (refine Hj (klo := .i64) (khi := .i64) (l:=en) (j:=en+4) Tryz.elemU8w Tryz.underlying31 hr rfl rfl rfl rfl (congrArg (Value.int .i64) (by omega)) (by omega) (by omega) hnc ?_)
     intro A2 r2;have hl4:=Lib.hid r2.len;go_wp2
     go_loop [10,12,46] (fun sv _ i => ∃ j:Nat,j≤4∧i = .int .i64 j ∧ ∃ t:Nat,sv = .int .u32 t∧t < 256 ^ j∧Hid (be (((xs.drop en).take 4).take j)=t)) (fun _ _ i=>4 - (intOf i).toNat)
     case atStart=>exact ⟨0,by omega,rfl,0,rfl,by omega,rfl⟩
     case round =>
      obtain ⟨j,hj,rfl,t,rfl,ht,HT⟩:=hrel;have Ht:=Lib.hid ht;clear ht;by_cases hj4:j < 4
      ·obtain ⟨b2,off2,rfl,_,hc2⟩:=r2.at_ (j:=j) (by omega)
       have hts:=Cy ((xs.drop en).take 4) j (by rw[h4l];exact hj4)
       have hy:=D0 ((xs.drop en).take 4) j 256 H4.out (by omega)
       have HS:Hid (be (((xs.drop en).take 4).take (j+1))=t*256+((xs.drop en).take 4).getD j 0):=by
        unfold Hid;rw[hts,AaA,HT.out]
       clear hts;generalize ((xs.drop en).take 4).getD j 0=y at *;obtain ⟨e1,e2,e3⟩:=Aa9 t y j hj4 Ht.out hy;have E3:=Lib.hid e3;clear e3;generalize hm:t*256=m at *;generalize hq:m+y=q at *;have HM:=Lib.hid hm;have HQ:=Lib.hid hq;clear hm hq;go_wp2
       go_round
       case rel=>exact ⟨j+1,by omega,by go_num,q,rfl,E3.out,HS.out⟩
       case measure=>simp[intOf];omega
      ·obtain rfl:j=4:=by omega
       rw[List.take_of_length_le (i:=4) (by rw[h4l];omega)] at HT
       clear Ht;go_wp2_with (refine O2 (khi := .i64) (j:=en) Tryz.elemU8w Tryz.underlying31 hr rfl rfl rfl rfl (by omega) hnc ?_)
       intro A3 r3;go_wp2_with fail
       refine (HK.out _ r3).mono ?_;rintro e w4 ⟨rfl,b4⟩;have r4:=hr.call b4;clear r3 HK;by_cases hts:t=sm
       ·have hne:((t:Int) != (sm:Int))=false:=by simp[hts]
        have HTS:=Lib.hid hts;clear hts;go_wp2
        obtain ⟨b0,off0,rfl,lt0,hc0⟩:=r4.at_ (j:=0) (by omega)
        simp only[Nat.add_zero] at hc0;have hne2 : ¬ c=1+k:=by omega
        have q1:0 < n:=by omega
        have q1':(0:Int) < (n:Int):=by omega
        have q2:(0:Int)≤1+(k:Int):=by omega
        have q3:1+(k:Int)≤(en:Int):=by omega
        have q4:(en:Int)≤(c:Int):=by omega
        have q5:(1+(k:Int)).toNat=1+k:=by omega
        have q6:IntKind.i64.wrap ((en:Int)+4)=(en:Int)+4:=IntWalk.i64_in _ (by omega)
        go_region_held3 (fun w'=>w'.cell? ⟨b0,off0,none⟩=some (.int .u8 ((xs.getD 0 0:Nat):Int))) (first | (go_keep;done) | (rw[(Lw g5).cell (p:=⟨b0,off0,none⟩) lt0];assumption))
         ((refine Ls Tryz.elemU8w Tryz.underlying31 (Own.nil b4.drew) (r4.sub (i:=1+k) (j:=en) rfl (by omega) (by omega)).drew (by rfl) (by rfl) (by rfl) (by rfl) (by simp;omega) (by simp;omega) ?_;intro v5 w5 o5 g5 _))
        go_wp2
        refine bodyPost_ret (Fx rfl _ _ _) rfl ?_;rw[←HR.out,if_pos (HB.out.1 (by rw[HT.out];exact HTS.out))]
        refine ⟨v5,rfl,?_⟩;have e5:en - (1+k)=u:=by omega
        rw[e5] at o5;exact o5
       ·have hne:((t:Int) != (sm:Int))=true:=by simp;omega
        go_wp2
        refine bodyPost_ret (Fx rfl _ _ _) rfl ?_;rw[←HR.out,if_neg (fun h=>hts (by rw[←HT.out];exact HB.out.2 h))]
        exact ⟨_,rfl,Own.nil b4⟩
  ·rw[if_pos he]
   have he':((er:Int) != 0)=true:=by simp[he]
   clear hbd;go_enter Tryz.func26,Tryz.ntmps26
   go_wp2_with (refine DY (klo := .i64) (l:=1) Tryz.elemU8w Tryz.underlying31 hr rfl rfl rfl rfl (by omega) hnc ?_)
   intro A' hr';rw[←List.drop_one] at hr';go_wp2_with fail
   refine (HD.out _ hr').mono ?_;rintro e w1 ⟨rfl,rfl⟩;go_wp2
   refine bodyPost_ret (Fx rfl _ _ _) rfl ?_;exact ⟨_,rfl,Own.nil (Below.refl _ _)⟩
end Go.Proofs.YtdgbealknnmkoaaGreatDoor
