/- Texts of one proof, put together by a program: each lemma is proved for all values of its variables, under the premises that it states. -/
import Derived.Test.YtdgbealknnmkoaaGreatDoorProg
import Derived.Test.YtdgbealknnmkoaaGreatDoorP2d4812f5
set_option linter.unusedVariables false
set_option linter.unusedSimpArgs false
namespace Go.Proofs.YtdgbealknnmkoaaGreatDoor
open Go.RowKit
def Bl (x:Nat):Nat:=if x=0 then 0 else Nat.log2 x+1
theorem Ot:Bl 0=0:=rfl
theorem Gj (x:Nat):x < 2 ^ Bl x:=by
 unfold Bl;split
 ·subst_vars;simp
 ·exact Nat.lt_log2_self
theorem Ke {x:Nat}(h:x≠0):2 ^ (Bl x - 1)≤x:=by
 unfold Bl;rw[if_neg h,Nat.add_sub_cancel];exact Nat.log2_self_le h
theorem VN {x k:Nat}(h1:2 ^ k≤x)(h2:x < 2 ^ (k+1)):Bl x=k+1:=by
 have h0:x≠0:=by have:=Nat.two_pow_pos k;omega
 unfold Bl;rw[if_neg h0,(Nat.log2_eq_iff h0).2 ⟨h1,h2⟩]
theorem FH (x j:Nat)(h:2 ^ j≤x):Bl x=Bl (x / 2 ^ j)+j:=by
 have hj:=Nat.two_pow_pos j;have h0:x / 2 ^ j≠0:=by have:=Nat.div_pos h hj;omega
 have h1:=Ke h0;have h2:=Gj (x / 2 ^ j);have hb:1≤Bl (x / 2 ^ j):=by unfold Bl;rw[if_neg h0];omega
 obtain ⟨k,hk⟩ : ∃ k,Bl (x / 2 ^ j)=k+1:=⟨Bl (x / 2 ^ j) - 1,by omega⟩
 rw[hk] at h1 h2 ⊢;rw[Nat.add_sub_cancel] at h1;rw[show k+1+j=(k+j)+1 by omega]
 apply VN
 ·rw[Nat.pow_add];exact (Nat.le_div_iff_mul_le hj).1 h1
 ·rw[show k+j+1=(k+1)+j by omega,Nat.pow_add];exact (Nat.div_lt_iff_lt_mul hj).1 h2
theorem DM {x k:Nat}(h:x < 2 ^ k):Bl x≤k:=by
 by_cases h0:x=0
 ·subst h0;rw[Ot];omega
 ·have:=Ke h0
  rcases Nat.lt_or_ge k (Bl x) with h1 | h1
  ·have:=Nat.pow_le_pow_right (n:=2) (by omega) (show k≤Bl x - 1 by omega)
   omega
  ·exact h1
def MR (t:ByteArray):Bool:=(List.range 256).all fun i=>t.data.getD i 0 == UInt8.ofNat (Bl i)
theorem Tk (t:ByteArray)(hc:MR t=true)(x:Nat)(hx:x < 256)(h:x < t.size):((t[x]'h).toNat:Int)=(Bl x:Nat):=by
 have h1:=List.all_eq_true.1 hc x (List.mem_range.2 hx);have h2:t.data.getD x 0=UInt8.ofNat (Bl x):=by simpa using h1
 have h3:t.data.getD x 0=t[x]'h:=by
  unfold Array.getD;rw[dif_pos (show x < t.data.size from h)]
  rfl
 rw[←h3,h2];have:Bl x≤8:=DM (k:=8) hx;simp;omega
theorem J3 {a b:Int}(h:a=b):Ending.returned (.int .i64 a) = .returned (.int .i64 b):=by rw[h]
theorem OE (t:ByteArray)(hc:MR t=true)(x:Nat)(hx:x < 256)(h:x < t.size)(b:Nat)(hb:b≤64):wrap64 ((b:Int)+wrap64 ((t[x]'h).toNat:Int))=((Bl x+b:Nat):Int):=by
 rw[Tk t hc x hx h];have:Bl x≤8:=DM (k:=8) hx;unfold wrap64;omega
theorem Wl (t:ByteArray)(hc:MR t=true)(x:Nat)(hx:x < 256)(h:x < t.size):wrap64 (wrap64 ((t[x]'h).toNat:Int))=((Bl x:Nat):Int):=by
 rw[Tk t hc x hx h];have:Bl x≤8:=DM (k:=8) hx;unfold wrap64;omega
set_option maxRecDepth 100000 in
theorem Vw (x:Nat)(w:World)(h:x < 4294967296):Calls Tryz.prog 234 #[.int .u32 x] w (fun e w'=>e = .returned (.int .i64 (Bl x:Nat))∧w=w'):=by
 by_cases h1:x < 65536
 ·have hd1:decide ((65536:Int)≤(x:Int))=false:=by simp;omega
  by_cases h2:x < 256
  ·have hd2:decide ((256:Int)≤(x:Int))=false:=by simp;omega
   go_enter Tryz.func234,Tryz.ntmps234
   go_wp2
   go_ret
   exact ⟨J3 (Wl _ (by kernel_rfl) x h2 _),rfl⟩
  ·have hd2:decide ((256:Int)≤(x:Int))=true:=by simp;omega
   have HB:=Lib.hid (FH x 8 (by omega))
   have h3:x / 256 < 256:=by omega
   go_enter Tryz.func234,Tryz.ntmps234
   go_wp2
   go_ret
   exact ⟨J3 (by rw[HB.out];exact OE _ (by kernel_rfl) (x / 256) h3 _ 8 (by omega)),rfl⟩
 ·have hd1:decide ((65536:Int)≤(x:Int))=true:=by simp;omega
  by_cases h2:x / 65536 < 256
  ·have hd2:decide ((256:Int)≤(x:Int) / 65536)=false:=by simp;omega
   have HB:=Lib.hid (FH x 16 (by omega))
   go_enter Tryz.func234,Tryz.ntmps234
   go_wp2
   go_ret
   exact ⟨J3 (by rw[HB.out];exact OE _ (by kernel_rfl) (x / 65536) h2 _ 16 (by omega)),rfl⟩
  ·have hd2:decide ((256:Int)≤(x:Int) / 65536)=true:=by simp;omega
   have h3:x / 65536 / 256 < 256:=by omega
   have HB:Hid (Bl x=Bl (x / 65536 / 256)+24):=by
    have a:=FH x 16 (by omega)
    have b:=FH (x / 65536) 8 (by omega)
    unfold Hid;rw[a,b]
   go_enter Tryz.func234,Tryz.ntmps234
   go_wp2
   go_ret
   exact ⟨J3 (by rw[HB.out];exact OE _ (by kernel_rfl) (x / 65536 / 256) h3 _ 24 (by omega)),rfl⟩
theorem EE (x:Nat)(w:World)(h:x < 4294967296):Calls Tryz.prog 218 #[.int .u32 x] w (fun e w'=>e = .returned (.int .i64 ((32 - Bl x:Nat):Int))∧w=w'):=by
 have hb:=DM (k:=32) h;have hl:=Vw x w h;generalize Bl x=b at *;have HL:=Lib.hid hl;clear hl h;go_enter Tryz.func218,Tryz.ntmps218
 go_wp2_with fail
 refine HL.out.mono ?_;rintro e w' ⟨rfl,rfl⟩;go_wp2
 go_ret
 exact ⟨J3 (by omega),rfl⟩
theorem Sq {x:Nat}(h0:x≠0)(h:x < 4294967296):32 - Bl x < 32∧2147483648≤x*2 ^ (32 - Bl x)∧(x+1)*2 ^ (32 - Bl x)≤4294967296:=by
 have hb:=DM (k:=32) h;have h1:=Ke h0;have h2:=Gj x;have hp:1≤Bl x:=by unfold Bl;rw[if_neg h0];omega
 generalize Bl x=b at *;refine ⟨by omega,?_,?_⟩
 ·have:=Nat.mul_le_mul_right (2 ^ (32 - b)) h1
  rw[←Nat.pow_add,show b - 1+(32 - b)=31 by omega] at this
  omega
 ·have:=Nat.mul_le_mul_right (2 ^ (32 - b)) (show x+1≤2 ^ b by omega)
  rw[←Nat.pow_add,show b+(32 - b)=32 by omega] at this
  omega
theorem Tryz.elemU8w:CX Tryz.prog .u8 5 1:=by unfold CX;kernel_rfl
set_option maxRecDepth 100000 in
theorem Dc (n:Nat)(w:World)(hn:n≤4611686018427387904) :
  Calls Tryz.prog 88 #[.int .i64 n] w (El .u8 5 w (Ac n) 0):=by
 have h1:decide ((n:Int) < 0)=false:=by simp
 have h2:decide (4611686018427387904 < (n:Int))=false:=by simp;omega
 go_enter Tryz.func88,Tryz.ntmps88
 go_wp2
 go_loopw [0,4] (fun m v wr => ∃ (k:Nat) (xs:List Nat),m = .int .i64 k∧k≤n∧Hid (xs++Ac k=Ac n)∧Own .u8 5 w wr v xs) (fun m _ _=>(intOf m).toNat)
 case atStart=>exact ⟨n,[],rfl,Nat.le_refl _,rfl,Own.nil (Below.refl _ _)⟩
 case round =>
  obtain ⟨k,xs,rfl,hk,HE,hown⟩:=hrel;have hl:xs.length < 9:=by
   have h9:=AJ hn;rw[←HE.out,List.length_append] at h9;have:=F8 k;omega
  by_cases hlt:128≤k
  ·go_wp2_with (at_builtin;go_must (refine Aw Tryz.elemU8w Tryz.underlying31 (hown.alloc _) (Rd.one .u8 _ 5 (y:=k % 128+128) (AaU k)) rfl rfl rfl rfl (by omega) (by omega) ?_;intro v' w' hown' _ _;clear hown))
   go_roundw
   case rel=>exact ⟨k / 128,_,by go_num,by omega,by rw[←HE.out,Gc hlt,List.append_assoc];rfl,hown'⟩
   case measure=>simp[intOf];omega
  ·go_wp2_with (at_builtin;go_must (refine Aw Tryz.elemU8w Tryz.underlying31 (hown.alloc _) (Rd.one .u8 _ 5 (y:=k) rfl) rfl rfl rfl rfl (by omega) (by omega) ?_;intro v' w' hown' _ _;clear hown))
   go_ret2
   exact ⟨v',rfl,by rw[←HE.out,CF (by omega)];exact hown'⟩
theorem MG (n:Int)(w:World)(hn:n < 0∨4611686018427387904 < n) :
  Calls Tryz.prog 88 #[.int .i64 n] w (El .u8 5 w [] 5):=by
 rcases hn with hn | hn
 ·have h1:decide ((n:Int) < 0)=true:=by simpa using hn
  go_enter Tryz.func88,Tryz.ntmps88
  go_wp2
  go_ret2
  exact ⟨_,rfl,Own.nil (Below.refl _ _)⟩
 ·have h1:decide ((n:Int) < 0)=false:=by simp;omega
  have h2:decide (4611686018427387904 < n)=true:=by simpa using hn
  go_enter Tryz.func88,Tryz.ntmps88
  go_wp2
  go_ret2
  exact ⟨_,rfl,Own.nil (Below.refl _ _)⟩
theorem MH (n:Int)(w:World):Calls Tryz.prog 88 #[.int .i64 n] w (El .u8 5 w (SG n).1 (SG n).2):=by
 unfold SG;by_cases h:0≤n∧n≤4611686018427387904
 ·rw[if_pos h]
  obtain ⟨m,rfl⟩:=Int.eq_ofNat_of_zero_le h.1;exact Dc m w (by omega)
 ·rw[if_neg h]
  exact MG n w (by omega)
set_option maxRecDepth 100000 in
theorem Nq (n:Int)(w:World):Calls Tryz.prog 93 #[.int .i64 n] w (El .u8 5 w (V8 n).1 (V8 n).2):=by
 unfold V8;by_cases h : -2305843009213693952≤n∧n≤2305843009213693952
 ·rw[if_pos h]
  obtain ⟨ha,hb⟩:=h;have h1:decide (n < -2305843009213693952)=false:=by simp;omega
  have h2:decide (2305843009213693952 < n)=false:=by simp;omega
  by_cases hs:0≤n
  ·obtain ⟨m,rfl⟩:=Int.eq_ofNat_of_zero_le hs
   have hz:zig (m:Int)=2*m:=by unfold zig;rw[if_pos hs];omega
   rw[hz];clear hz;go_enter Tryz.func93,Tryz.ntmps93
   go_wp2_with (go_at_call 88;go_must (refine (Dc (2*m) _ (by omega)).mono ?_;rintro e w' ⟨v,rfl,hown⟩))
   go_ret2
   exact ⟨v,rfl,hown⟩
  ·obtain ⟨m,hm⟩ : ∃ m:Nat,(-2*n - 1)=m:=⟨(-2*n - 1).toNat,by omega⟩
   have hz:zig n=m:=by unfold zig;rw[if_neg hs];omega
   rw[hz];clear hz;go_enter Tryz.func93,Tryz.ntmps93
   go_wp2_with (go_at_call 88;go_must (refine (Dc m _ (by omega)).mono ?_;rintro e w' ⟨v,rfl,hown⟩))
   go_ret2
   exact ⟨v,rfl,hown⟩
 ·rw[if_neg h]
  by_cases h1:n < -2305843009213693952
  ·have h1':decide (n < -2305843009213693952)=true:=by simpa using h1
   go_enter Tryz.func93,Tryz.ntmps93
   go_wp2
   go_ret2
   exact ⟨_,rfl,Own.nil (Below.refl _ _)⟩
  ·have h1':decide (n < -2305843009213693952)=false:=by simpa using h1
   have h2:decide (2305843009213693952 < n)=true:=by simp;omega
   clear h;go_enter Tryz.func93,Tryz.ntmps93
   go_wp2
   go_ret2
   exact ⟨_,rfl,Own.nil (Below.refl _ _)⟩
theorem MI (s:ByteArray)(w:World)(hs:s.size≤9223372036854775807):Calls Tryz.prog 92 #[.string s] w (El .u8 5 w (V7 s).1 (V7 s).2):=by
 unfold V7;by_cases h:s.size≤20000
 ·rw[if_pos h]
  go_enter Tryz.func92,Tryz.ntmps92
  go_wp2_with (first | (go_at_call 88;go_must (refine (Dc s.size _ (by omega)).mono ?_;rintro e w' ⟨v,rfl,hown⟩)) | (at_builtin;refine BQ Tryz.elemU8w Tryz.underlying31 Tryz.underlying9 hown rfl rfl rfl rfl ?_ ?_))
  case refine_1=>have:=AJ (n:=s.size) (by omega);omega
  case refine_2 =>
   intro v1 w1 hown1 _;clear hown;go_wp2
   go_ret2
   exact ⟨v1,rfl,hown1⟩
 ·rw[if_neg h]
  go_enter Tryz.func92,Tryz.ntmps92
  go_wp2
  go_ret2
  exact ⟨_,rfl,Own.nil (Below.refl _ _)⟩
set_option maxRecDepth 100000 in
theorem D2 {A : Option Addr} {n c B : Nat} {xs : List Nat} (w : World) (hr : Rd .u8 w B A n xs) (hx : ∀ x ∈ xs, x < 256) (hn : n ≤ 9223372036854775807) :
  Calls Tryz.prog 66 #[.slice A n c] w (Nf (AZ xs) w):=by
 have HX:=Lib.hid hx;have HL:=Lib.hid hr.len;clear hx;go_enter Tryz.func66,Tryz.ntmps66
 go_wp2
 go_loop [2,5,6] (fun m _ i => ∃ k t:Nat,k≤9∧i = .int .i64 k∧k≤n∧m = .int .i64 t∧t < 2 ^ (7*k)∧Hid (Cm (9 - k) (xs.drop k) k t=AZ xs)) (fun _ _ i=>9 - (intOf i).toNat)
 case atStart=>exact ⟨0,0,by omega,rfl,by omega,rfl,by omega,rfl⟩
 case round =>
  obtain ⟨k,t,hk,rfl,hkn,rfl,ht,HE⟩:=hrel;have HT:=Lib.hid ht;clear ht;by_cases h9:k < 9
  ·by_cases hlt : k < n
   ·obtain ⟨b, off, rfl, hbB, hc⟩ := hr.at_ hlt
    have hy:=D0 xs k 256 HX.out (by omega)
    have hd:=BJ xs k (by rw[HL.out];exact hlt)
    rw[hd,show 9 - k=(9 - (k+1))+1 by omega] at HE
    clear hd;generalize xs.getD k 0=y at *;have e2:=U8 y hy;have M':=Lib.hid (Dm (9 - (k+1)) y k t (xs.drop (k+1)));have B':=Lib.hid (FB (9 - (k+1)) y k t (xs.drop (k+1)));have G':=Lib.hid (DD (9 - (k+1)) y k t (xs.drop (k+1)));obtain ⟨z,p,q,e1,hz,e3,_,e4,_,hq,hg,hqe⟩:=Ok y t k hy h9 HT.out;rw[←hqe] at M' B' G';have HG:=Lib.hid hg;clear hg hqe;by_cases ha:128≤y
    ·rw[if_pos ha] at e2
     go_wp2
     go_round
     case rel=>exact ⟨k+1,q,by omega,by go_num,by omega,rfl,HG.out,(M'.out ha).symm.trans HE.out⟩
     case measure=>simp[intOf];omega
    ·rw[if_neg ha] at e2
     by_cases hb:y=0∧0 < k
     ·have HB:=Lib.hid hb
      have hb0:((y:Int) == 0)=true:=by simp[hb.1]
      have hk0:0 < k:=hb.2;clear hb;go_wp2
      go_ret3
      rw[←HE.out,B'.out (by omega) (.inl HB.out)]
      exact ⟨rfl,rfl⟩
     ·have HB:=Lib.hid hb
      by_cases hq2:4611686018427387904 < q
      ·have fin:Nf (AZ xs) w (.returned (.tuple #[.int .i64 0,.int .i64 0,.int .i64 2])) w:=by
        rw[←HE.out,B'.out (by omega) (.inr hq2)]
        exact ⟨rfl,rfl⟩
       have FIN:=Lib.hid fin;clear fin hb;by_cases hy0:y=0
       ·have hb0:((y:Int) == 0)=true:=by simp[hy0]
        have hk0 : ¬ 0 < k:=fun h=>HB.out ⟨hy0,h⟩
        clear hy0;go_wp2
        go_ret3
        exact FIN.out
       ·have hb0:((y:Int) == 0)=false:=by simp[hy0]
        go_wp2
        go_ret3
        exact FIN.out
      ·have fin:Nf (AZ xs) w (.returned (.tuple #[.int .i64 q,.int .i64 ((k+1:Nat):Int),.int .i64 0])) w:=by
        rw[←HE.out,G'.out (by omega) (by rintro (h | h);exact HB.out h;exact hq2 h)]
        exact ⟨rfl,rfl⟩
       have FIN:=Lib.hid fin;clear fin hb;by_cases hy0:y=0
       ·have hb0:((y:Int) == 0)=true:=by simp[hy0]
        have hk0 : ¬ 0 < k:=fun h=>HB.out ⟨hy0,h⟩
        clear hy0;go_wp2
        go_ret3
        exact FIN.out
       ·have hb0:((y:Int) == 0)=false:=by simp[hy0]
        go_wp2
        go_ret3
        exact FIN.out
   ·have fin:Nf (AZ xs) w (.returned (.tuple #[.int .i64 0,.int .i64 0,.int .i64 3])) w:=by
     rw[←HE.out,List.drop_eq_nil_of_le (by rw[HL.out];omega),show 9 - k=(9 - (k+1))+1 by omega,Ol]
     exact ⟨rfl,rfl⟩
    have FIN:=Lib.hid fin;clear fin;go_wp2
    go_ret3
    exact FIN.out
  ·have fin:Nf (AZ xs) w (.returned (.tuple #[.int .i64 0,.int .i64 0,.int .i64 2])) w:=by
    rw[←HE.out,show 9 - k=0 by omega]
    exact ⟨rfl,rfl⟩
   have FIN:=Lib.hid fin;clear fin;go_wp2
   go_ret3
   exact FIN.out
set_option maxRecDepth 100000 in
theorem Nr {A:Option Addr}{n c B:Nat}{xs:List Nat}(w:World)(hr:Rd .u8 w B A n xs)(hx : ∀ x∈xs,x < 256)(hn:n≤9223372036854775807) :
  Calls Tryz.prog 106 #[.slice A n c] w (AaG (Fl xs) w):=by
 have hd:=D2 (c:=c) w hr hx hn;have hbd:=DL xs;have her:=(JV xs).1;unfold Fl;generalize AZ xs=r at *;obtain ⟨u,k,er⟩:=r;have HD:=Lib.hid hd;clear hd;simp only at hbd her ⊢;by_cases h0:er=0
 ·rw[if_pos h0]
  obtain ⟨h1,h2,h3,h4⟩:=hbd h0;subst h0;clear hbd;by_cases hp:u % 2=1
  ·have fin:KR u = -((u:Int) / 2+1):=by unfold KR;rw[if_pos hp];omega
   have HF:=Lib.hid fin;have hp':(u:Int) % 2=1:=by omega
   clear fin hp;go_enter Tryz.func106,Tryz.ntmps106
   go_wp2_with fail
   refine HD.out.mono ?_;rintro e w1 ⟨rfl,rfl⟩;go_wp2
   go_ret3
   rw[HF.out];exact ⟨rfl,rfl⟩
  ·have fin:KR u=(u:Int) / 2:=by unfold KR;rw[if_neg hp];omega
   have HF:=Lib.hid fin;have hp':(u:Int) % 2=0:=by omega
   clear fin hp;go_enter Tryz.func106,Tryz.ntmps106
   go_wp2_with fail
   refine HD.out.mono ?_;rintro e w1 ⟨rfl,rfl⟩;go_wp2
   go_ret3
   rw[HF.out];exact ⟨rfl,rfl⟩
 ·rw[if_neg h0]
  have h0':((er:Int) != 0)=true:=by simp[h0]
  clear hbd;go_enter Tryz.func106,Tryz.ntmps106
  go_wp2_with fail
  refine HD.out.mono ?_;rintro e w1 ⟨rfl,rfl⟩;go_wp2
  go_ret3
  exact ⟨rfl,rfl⟩
set_option maxRecDepth 100000 in
theorem ML {A:Option Addr}{n c B:Nat}{xs:List Nat}(w:World)(hr:Rd .u8 w B A n xs)(hx : ∀ x∈xs,x < 256)(hnc:n≤c)(hn:c≤9223372036854775807) :
  Calls Tryz.prog 105 #[.slice A n c] w (AaF (CW xs) w):=by
 have hd:=D2 (c:=c) w hr hx (by omega)
 have hbd:=DL xs;have her:=(JV xs).1;have hlen:=hr.len;unfold CW;generalize AZ xs=r at *;obtain ⟨u,k,er⟩:=r;have HD:=Lib.hid hd;clear hd hx;simp only at hbd her ⊢;by_cases h0:er=0
 ·rw[if_neg (by simp[h0])]
  obtain ⟨h1,h2,h3,h4⟩:=hbd h0;subst h0;rw[hlen] at h3 ⊢;have HL:=Lib.hid hlen;clear hbd hlen;by_cases ht:20000 < u
  ·rw[if_pos ht]
   go_enter Tryz.func105,Tryz.ntmps105
   go_wp2_with fail
   refine HD.out.mono ?_;rintro e w1 ⟨rfl,rfl⟩;go_wp2
   go_ret3
   exact ⟨rfl,rfl⟩
  ·rw[if_neg ht]
   by_cases hc:n - k < u
   ·rw[if_pos hc]
    go_enter Tryz.func105,Tryz.ntmps105
    go_wp2_with fail
    refine HD.out.mono ?_;rintro e w1 ⟨rfl,rfl⟩;go_wp2
    go_ret3
    exact ⟨rfl,rfl⟩
   ·rw[if_neg hc]
    go_enter Tryz.func105,Tryz.ntmps105
    go_wp2_with fail
    refine HD.out.mono ?_;rintro e w1 ⟨rfl,rfl⟩;go_wp2_with (refine Hj (l:=k) (j:=k+u) (klo := .i64) (khi := .i64) Tryz.elemU8w Tryz.underlying31 hr rfl rfl rfl rfl (congrArg (Value.int .i64) (by omega)) (by omega) (by omega) (by omega) ?_)
    intro A' hr';go_wp2_with (refine Cw Tryz.underlying31 Tryz.underlying5 Tryz.underlying9 hr' rfl rfl rfl ?_)
    go_ret3
    exact ⟨rfl,rfl⟩
 ·rw[if_pos h0]
  have h0':((er:Int) != 0)=true:=by simp[h0]
  clear hbd;go_enter Tryz.func105,Tryz.ntmps105
  go_wp2_with fail
  refine HD.out.mono ?_;rintro e w1 ⟨rfl,rfl⟩;go_wp2
  go_ret3
  exact ⟨rfl,rfl⟩
theorem Tryz.zeroTab (w:World):(zeroValue 144).run Tryz.prog w = .ok (.agg (cellsOf .u32 (EU 0)).toArray) w:=by kernel_rfl
theorem Tryz.sizeTab:(Tryz.prog.info? 144).map (·.size)=some 256:=by kernel_rfl
theorem N7 (r:Nat)(h:r < 4294967296):bits .and .u32 (r:Int) 1=((r % 2:Nat):Int):=by
 have:=u32_and_nat r 1 h (by omega)
 rw[nat_mask1] at this;exact this
theorem PU (r:Nat)(h:r < 4294967296):bits .xor .u32 ((r:Int) / 2) 2197175160=((r / 2 ^^^ 2197175160:Nat):Int):=by
 have:=u32_xor_nat (r / 2) 2197175160 (by omega) (by omega)
 rw[←this];congr 1
set_option maxRecDepth 100000 in
theorem UC (w : World) : Calls Tryz.prog 111 #[] w fun e w' => e = .returned (.agg (cellsOf .u32 (EU 256)).toArray) ∧ Below w.heap.size w w' := by
 go_enter Tryz.func111,Tryz.ntmps111
 go_wp2_with (refine D6 (Tryz.zeroTab _) rfl rfl ?_)
 intro w1 B1 b1 l1;go_wp2_with (refine D6 (Tryz.zeroTab _) rfl rfl ?_)
 intro w2 B2 b2 l2;have C1:=B1.call b2;have d2:=b1.trans (b2.mono b1.size);clear B1 b1 b2;go_wp2
 go_loopw [2,3,4,9] (fun _ _ i _ wr => ∃ n:Nat,n≤256∧i = .int .i64 n∧Buf .u32 144 wr w1.heap.size (EU n)∧Buf .u32 144 wr w.heap.size (EU 0)∧Below w.heap.size w wr) (fun _ _ i _ _=>256 - (intOf i).toNat)
 case atStart=>exact ⟨0,by omega,rfl,B2,C1,d2⟩
 case round =>
  obtain ⟨n,hn,rfl,hB,hC,hb⟩:=hrel;clear B2 C1 d2 l2;by_cases hlt:n < 256
  ·go_wp2
   go_loop [3,9] (fun r j => ∃ m:Nat,m≤8∧j = .int .i64 m∧r = .int .u32 (B7 m n:Nat)) (fun _ j=>8 - (intOf j).toNat)
   case atStart=>exact ⟨0,by omega,rfl,rfl⟩
   case round =>
    obtain ⟨m,hm,rfl,rfl⟩:=hrel;have hlt:=EN (r:=n) (by omega) m
    by_cases hm8:m < 8
    ·obtain ⟨r,hr⟩ : ∃ r,r=B7 m n:=⟨_,rfl⟩
     rw[←hr] at hlt ⊢;have HS:Hid (B7 (m+1) n=CG r):=by rw[hr];rfl
     clear hr;have hx:=PU r hlt;have ha:=N7 r hlt;by_cases hp:r % 2=1
     ·have ha':bits .and .u32 (r:Int) 1=1:=by rw[ha,hp];rfl
      have HP:=Lib.hid hp;clear ha hp;go_wp2
      go_round
      case rel=>exact ⟨m+1,by omega,by go_num,by rw[HS.out,CG,if_pos HP.out]⟩
      case measure=>simp[intOf];omega
     ·have ha':bits .and .u32 (r:Int) 1=0:=by rw[ha,show r % 2=0 by omega];rfl
      have HP:=Lib.hid hp;clear ha hp;go_wp2
      go_round
      case rel=>exact ⟨m+1,by omega,by go_num,by rw[HS.out,CG,if_neg HP.out];go_num⟩
      case measure=>simp[intOf];omega
    ·obtain rfl:m=8:=by omega
     have hc:wr.cell? ⟨w1.heap.size,n,none⟩=some (.int .u32 ((EU n).getD n 0:Nat)):=hB.cell (by rw[BV (by omega)];omega)
     have hf:=hB.frozen n;go_wp2
     go_roundw
     case rel=>exact ⟨n+1,by omega,by go_num,by rw[←UD (by omega)];exact hB.set_ n _,hC.far (by simp;omega) _,hb.setCell (by simp;omega) _⟩
     case measure=>simp[intOf];omega
  ·obtain rfl:n=256:=by omega
   go_wp2_with (first | (refine Lr hB Tryz.underlying144 rfl (by rw[BV (by omega)];exact Tryz.sizeTab) rfl rfl rfl ?_) | (refine Fo (ys:=EU 256) hC (by rw[BV (by omega),BV (by omega)]) (by rw[BV (by omega)];exact Tryz.sizeTab) rfl rfl rfl rfl ?_))
   intro w3 hD hg hsz;have HD:=Lib.hid hD;have HS:=Lib.hid hsz;clear hsz hD hB hC;have hb3:Below w.heap.size w w3:=Fe hb hg hb.size (Nat.le_refl _);clear hg hb;go_wp2
   refine bodyPost_ret (results_cell_row Tryz.results111 _ _ w.heap.size _ _ (0,0) _ rfl HD.out Tryz.underlying144 rfl ?_) rfl ?_
   ·rw[Tryz.sizeTab]
    simp only[List.size_toArray,CK];rw[BV (by omega)]
   ·exact ⟨rfl,hb3⟩
theorem RL (s c:Nat)(hc:c < 256):bits .xor .u8 ((s:Int) % 256) (c:Int)=((s % 256 ^^^ c:Nat):Int):=by
 have:=u8_xor_nat (s % 256) c (by omega) hc
 rw[←this];congr 1
theorem PT (t s:Nat)(ht:t < 4294967296)(h:s < 4294967296):bits .xor .u32 (t:Int) ((s:Int) / 256)=((t ^^^ s / 256:Nat):Int):=by
 have:=u32_xor_nat t (s / 256) ht (by omega)
 rw[←this];congr 1
theorem Vp (s:Nat)(h:s < 4294967296):4294967295 ^^^ s=4294967295 - s:=by
 have h1:(BitVec.allOnes 32 ^^^ BitVec.ofNat 32 s).toNat=4294967295 ^^^ s:=by
  rw[BitVec.toNat_xor,BitVec.toNat_allOnes,BitVec.toNat_ofNat,Nat.mod_eq_of_lt (by omega)]
 have h2:(BitVec.allOnes 32 ^^^ BitVec.ofNat 32 s) = ~~~ (BitVec.ofNat 32 s):=by
  rw[BitVec.xor_comm,BitVec.xor_allOnes]
 rw[←h1,h2,BitVec.toNat_not,BitVec.toNat_ofNat,Nat.mod_eq_of_lt (by omega)]
theorem Tg (s:Nat)(h:s < 4294967296):bits .xor .u32 IntKind.u32.max (s:Int)=((4294967295 - s:Nat):Int):=by
 have:=u32_xor_nat 4294967295 s (by omega) h
 rw[Vp s h] at this;exact this
set_option maxRecDepth 100000 in
theorem Kd {A:Option Addr}{n c B:Nat}{xs:List Nat}(w:World)(hr:Rd .u8 w B A n xs)(hB:B≤w.heap.size)(hx : ∀ x∈xs,x < 256)(hn:n≤9223372036854775807) :
  Calls Tryz.prog 67 #[.slice A n c] w fun e w'=>e = .returned (.int .u32 (crc xs:Nat))∧Below w.heap.size w w':=by
 go_enter Tryz.func67,Tryz.ntmps67
 go_wp2_with fail
 refine (UC _).mono ?_;rintro e w1 ⟨rfl,b1⟩;have r1:=hr.below (b1.mono hB);go_wp2_with (refine D6 (Tryz.zeroTab _) rfl rfl ?_)
 intro w2 B2 b2 l2;have r2:=r1.below (b2.mono (Nat.le_trans hB b1.size));have c2:=b1.trans (b2.mono b1.size);have l1:=b1.size;clear b1 b2 r1;go_wp2_with (refine Fo (ys:=EU 256) B2 (by rw[BV (by omega),BV (by omega)]) (by rw[BV (by omega)];exact Tryz.sizeTab) rfl rfl rfl rfl ?_)
 intro w3 B3 g3 s3;have r3:=r2.grown g3 (by omega) (fun g hg=>by injection hg with hg;omega)
 have c3:=Fe c2 g3 c2.size l1;clear s3 g3 B2 c2 r2 hr;have HB:=Lib.hid B3;clear B3;have hl:=r3.len;have HL:=Lib.hid hl;clear hl;have Hx:=Lib.hid hx;clear hx;go_wp2
 go_loop [4,6,10] (fun s _ i => ∃ k:Nat,k≤n∧i = .int .i64 k∧s = .int .u32 (DE 4294967295 (xs.take k):Nat)) (fun _ _ i=>n - (intOf i).toNat)
 case atStart=>exact ⟨0,by omega,rfl,rfl⟩
 case round =>
  obtain ⟨k,hk,rfl,rfl⟩:=hrel;by_cases hlt:k < n
  ·obtain ⟨b,off,rfl,hbB,hc⟩:=r3.at_ hlt
   have HS:=Lib.hid (Lj 4294967295 (xs.take k) (xs.getD k 0));have hs:=FD (xs.take k) 4294967295 (by omega) (fun x h=>Hx.out x (List.mem_of_mem_take h))
   rw[←Cy xs k (by rw[HL.out];exact hlt)] at HS
   have hy:=D0 xs k 256 Hx.out (by omega)
   generalize DE 4294967295 (xs.take k)=s at *;generalize xs.getD k 0=y at *;have e1:=RL s y hy;have hi:(s % 256 ^^^ y) < 256:=Nat.xor_lt_two_pow (n:=8) (by omega) hy
   have ht:=HB.out.cell' _ _ (UE hi);have e2:=PT _ s (EN (r:=s % 256 ^^^ y) (by omega) 8) hs
   have HE:=Lib.hid (Aas s y hy);generalize B7 8 (s % 256 ^^^ y)=tv at *;generalize s % 256 ^^^ y=ix at *;go_wp2
   go_round
   case rel=>exact ⟨k+1,by omega,by go_num,by rw[HS.out,HE.out]⟩
   case measure=>simp[intOf];omega
  ·obtain rfl:k=n:=by omega
   have hs:=FD (xs.take k) 4294967295 (by omega) (fun x h=>Hx.out x (List.mem_of_mem_take h))
   rw[List.take_of_length_le (by rw[HL.out];omega)] at hs ⊢
   have HC:Hid (crc xs=4294967295 - DE 4294967295 xs):=rfl;generalize DE 4294967295 xs=s at *;go_wp2
   go_ret
   refine ⟨?_,c3⟩;rw[HC.out,←Tg s hs]
   rfl
end Go.Proofs.YtdgbealknnmkoaaGreatDoor
