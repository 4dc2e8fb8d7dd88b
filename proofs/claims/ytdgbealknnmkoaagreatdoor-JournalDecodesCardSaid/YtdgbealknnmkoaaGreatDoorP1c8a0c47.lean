/- Texts of one proof, put together by a program: each lemma is proved for all values of its variables, under the premises that it states. -/
import Derived.Test.YtdgbealknnmkoaaGreatDoorP9bdeabaf
import Derived.Test.YtdgbealknnmkoaaGreatDoorP55896382
set_option linter.unusedVariables false
set_option linter.unusedSimpArgs false
namespace Go.Proofs.YtdgbealknnmkoaaGreatDoor
open Go.RowKit
def PB (neg:Bool)(l:List Nat)(z code:Int):Prop:=(CP neg l∧code=0∧z=sgn neg (nd l))∨(¬ CP neg l∧code=1∧z=0)
theorem PB.bad {neg:Bool}{l:List Nat}{z code:Int}(h:PB neg l z code)(g : ¬ CP neg l):code=1∧z=0:=by
 rcases h with h | h
 ·exact absurd h.1 g
 ·exact h.2
theorem PB.good {neg:Bool}{l:List Nat}{z code:Int}(h:PB neg l z code)(g:CP neg l):code=0∧z=sgn neg (nd l):=by
 rcases h with h | h
 ·exact h.2
 ·exact absurd g h.1
theorem PA.pb {l:List Nat}{z code:Int}(h:PA l z code)(hl:l.length≤400){neg:Bool}{b:List Nat}(h1:BD l=neg)(h2:Bi l=b):PB neg b z code:=by
 subst h1 h2;rcases h with h | h | h
 ·omega
 ·exact .inl h.2
 ·exact .inr h.2
set_option maxHeartbeats 4000000 in
set_option maxRecDepth 100000 in
theorem Vi (s : ByteArray) {z code : Int} (w : World) (hp : PA (bytesOf s) z code) (hs : s.size ≤ 9223372036854775807) :
  Calls Tryz.prog 101 #[.string s] w (D5 w z code):=by
 obtain ⟨W,hW⟩ : ∃ W,W=w.alloc (.cells #[.bool false,.slice none 0 0] 24):=⟨_,rfl⟩;have bW:Below w.heap.size w W:=by rw[hW];exact Ek w _
 have pr:Pr W w.heap.size false none 0 0:=by rw[hW];exact Pr.new w false none 0 0
 have hl:=Aq s;by_cases hbig:400 < s.size
 ·obtain ⟨rfl,rfl⟩:code=10∧z=0:=by
   rcases hp with h | h | h
   ·exact h.2
   ·omega
   ·omega
  clear hp hl;have hd:decide ((400:Int) < (s.size:Int))=true:=decide_eq_true (by omega)
  have hd':decide (400 < s.size)=true:=decide_eq_true (by omega)
  obtain ⟨q0,q1,f0,f1,k0,k1⟩:=pr.all (.bool false) (.slice none 0 0);have F:Hid (D5 w 0 10 (.returned (.tuple #[.agg #[.bool false,.slice none 0 0],.int .i64 10])) ((W.setCell ⟨w.heap.size,0,none⟩ (.bool false)).setCell ⟨w.heap.size,1,none⟩ (.slice none 0 0))) :=
   ⟨_,_,_,_,rfl,CInt.zero _,AC bW (by omega) _ _⟩
  go_enter Tryz.func101,Tryz.ntmps101
  go_upto_region 1 with (fail)
  rw[←hW];clear hW;go_wp2
  refine bodyPost_ret (v := .tuple #[.agg #[.bool false,.slice none 0 0],.int .i64 10]) (by simp[results,Tryz.results101,go_sem,k0,k1]) rfl ?_
  exact F.out
 ·have hd : decide ((400 : Int) < (s.size : Int)) = false := decide_eq_false (by omega)
  have hd':decide (400 < s.size)=false:=decide_eq_false (by omega)
  have hsb:s.size≤400:=by omega
  clear hbig;by_cases hs0:s.size=0
  ·have hb:=hp.pb (by omega) (neg:=false) (b:=[]) (by rw[List.eq_nil_of_length_eq_zero (l:=bytesOf s) (by omega)];rfl) (by rw[List.eq_nil_of_length_eq_zero (l:=bytesOf s) (by omega)];rfl)
   obtain ⟨rfl,rfl⟩:=hb.bad (LG rfl);clear hb hp hl;have c0:decide ((0:Int) < (s.size:Int))=false:=decide_eq_false (by omega)
   have c1:decide (0 < s.size)=false:=decide_eq_false (by omega)
   have c2:((s.size:Int) == 0)=true:=by rw[hs0];rfl
   have c3:(s.size == 0)=true:=by rw[hs0];rfl
   have HS0:=Lib.hid hs0;clear hs0;obtain ⟨q0,q1,f0,f1,k0,k1⟩:=pr.all (.bool false) (.slice none 0 0);have F:Hid (D5 w 0 1 (.returned (.tuple #[.agg #[.bool false,.slice none 0 0],.int .i64 1])) ((W.setCell ⟨w.heap.size,0,none⟩ (.bool false)).setCell ⟨w.heap.size,1,none⟩ (.slice none 0 0))) :=
    ⟨_,_,_,_,rfl,CInt.zero _,AC bW (by omega) _ _⟩
   go_enter Tryz.func101,Tryz.ntmps101
   go_upto_region 1 with (fail)
   rw[←hW];clear hW;go_wp2
   refine bodyPost_ret (v := .tuple #[.agg #[.bool false,.slice none 0 0],.int .i64 1]) (by simp[results,Tryz.results101,go_sem,k0,k1]) rfl ?_
   exact F.out
  ·have c0 : decide ((0 : Int) < (s.size : Int)) = true := decide_eq_true (by omega)
   have c1:decide (0 < s.size)=true:=decide_eq_true (by omega)
   have hpos:0 < s.size:=by omega
   have i0:(0:Int) < (s.size:Int):=by omega
   have e0:=CL s 0 hpos;clear hs0;by_cases h45:s[0].toNat=45
   ·have hb := hp.pb (by omega) (neg := true) (b := bytesOf (s.extract 1 s.size)) (by unfold BD; rw [e0, h45]; rfl) (by unfold Bi BD; rw [e0, h45, Et]; rfl)
    have hts:=EM s 1;have q45:((s[0].toNat:Int) == 45)=true:=by rw[h45];rfl
    have i1:(0:Int)≤1:=by omega
    have i2:(1:Int)≤(s.size:Int):=by omega
    have HB:=Lib.hid hb;clear hp hl e0 h45 hb hd' c1;go_enter Tryz.func101,Tryz.ntmps101
    go_upto_region 1 with (fail)
    rw[←hW];clear hW
    go_upto_region 8 with (fail)
    generalize s.extract 1 s.size=t at *;have htb:t.size≤400:=by omega
    clear hts q45 i1 i2 i0 c0 hd hsb hs;by_cases ht0:t.size=0
    ·have g0:((t.size:Int) == 0)=true:=by rw[ht0];rfl
     obtain ⟨rfl,rfl⟩:=HB.out.bad (LG (by rw[Aq];exact ht0))
     have HT0:=Lib.hid ht0;clear HB ht0;obtain ⟨q0,q1,f0,f1,k0,k1⟩:=pr.all (.bool false) (.slice none 0 0);have F:Hid (D5 w 0 1 (.returned (.tuple #[.agg #[.bool false,.slice none 0 0],.int .i64 1])) ((W.setCell ⟨w.heap.size,0,none⟩ (.bool false)).setCell ⟨w.heap.size,1,none⟩ (.slice none 0 0))) :=
      ⟨_,_,_,_,rfl,CInt.zero _,AC bW (by omega) _ _⟩
     go_wp2
     refine bodyPost_ret (v := .tuple #[.agg #[.bool false,.slice none 0 0],.int .i64 1]) (by simp[results,Tryz.results101,go_sem,k0,k1]) rfl ?_
     exact F.out
    ·have ht1 : 0 < t.size := by omega
     have g0:((t.size:Int) == 0)=false:=beq_eq_false_iff_ne.2 (by omega)
     have j0:(0:Int) < (t.size:Int):=by omega
     have e0:=CL t 0 ht1;clear ht0;have ht0:=ht1;by_cases h48:t[0].toNat=48
     ·have g1:((t[0].toNat:Int) == 48)=true:=by rw[h48];rfl
      by_cases h1:1 < t.size
      ·have g2:decide ((1:Int) < (t.size:Int))=true:=decide_eq_true (by omega)
       obtain ⟨rfl,rfl⟩:=HB.out.bad (MU (by rw[e0];exact h48) (.inr rfl))
       clear HB e0 h48;obtain ⟨q0,q1,f0,f1,k0,k1⟩:=pr.all (.bool false) (.slice none 0 0);have F:Hid (D5 w 0 1 (.returned (.tuple #[.agg #[.bool false,.slice none 0 0],.int .i64 1])) ((W.setCell ⟨w.heap.size,0,none⟩ (.bool false)).setCell ⟨w.heap.size,1,none⟩ (.slice none 0 0))) :=
        ⟨_,_,_,_,rfl,CInt.zero _,AC bW (by omega) _ _⟩
       go_wp2
       refine bodyPost_ret (v := .tuple #[.agg #[.bool false,.slice none 0 0],.int .i64 1]) (by simp[results,Tryz.results101,go_sem,k0,k1]) rfl ?_
       exact F.out
      ·have g2:decide ((1:Int) < (t.size:Int))=false:=decide_eq_false (by omega)
       obtain ⟨rfl,rfl⟩:=HB.out.bad (MU (by rw[e0];exact h48) (.inr rfl))
       clear HB e0 h48;obtain ⟨q0,q1,f0,f1,k0,k1⟩:=pr.all (.bool false) (.slice none 0 0);have F:Hid (D5 w 0 1 (.returned (.tuple #[.agg #[.bool false,.slice none 0 0],.int .i64 1])) ((W.setCell ⟨w.heap.size,0,none⟩ (.bool false)).setCell ⟨w.heap.size,1,none⟩ (.slice none 0 0))) :=
        ⟨_,_,_,_,rfl,CInt.zero _,AC bW (by omega) _ _⟩
       go_wp2
       refine bodyPost_ret (v := .tuple #[.agg #[.bool false,.slice none 0 0],.int .i64 1]) (by simp[results,Tryz.results101,go_sem,k0,k1]) rfl ?_
       exact F.out
     ·have g1 : ((t[0].toNat : Int) == 48) = false := by simp; omega
      have hnz : ¬ ((bytesOf t).getD 0 0=48∧(1 < (bytesOf t).length∨true=true)):=fun h=>h48 (by rw[←e0];exact h.1)
      clear e0 h48;have HN:Hid (¬ ((bytesOf t).getD 0 0=48∧(1 < (bytesOf t).length∨true=true))):=hnz;clear hnz;go_wp2_with fail
      go_loop [41] (fun i => ∃ k:Nat,k≤t.size∧i = .int .i64 k∧Hid (∀ j,j < k→48≤(bytesOf t).getD j 0∧(bytesOf t).getD j 0≤57)) (fun i=>(t.size - intOf i).toNat)
      case atStart=>exact ⟨0,by omega,rfl,fun j hj=>by omega⟩
      case round =>
       obtain ⟨k,hk,rfl,HK⟩:=hrel;by_cases hlt:k < t.size
       ·have i1 : (0 : Int) ≤ (k : Int) := by omega
        have i2:(k:Int) < (t.size:Int):=by omega
        have ek:=CL t k hlt;by_cases h48:t[k].toNat < 48
        ·have l1:decide ((t[k].toNat:Int) < 48)=true:=decide_eq_true (by omega)
         obtain ⟨rfl,rfl⟩:=HB.out.bad (Eu (k:=k) (by rw[Aq];exact hlt) (by rw[ek];exact .inl h48))
         clear HB HN HK ek h48;obtain ⟨q0,q1,f0,f1,k0,k1⟩:=pr.all (.bool false) (.slice none 0 0);have F:Hid (D5 w 0 1 (.returned (.tuple #[.agg #[.bool false,.slice none 0 0],.int .i64 1])) ((W.setCell ⟨w.heap.size,0,none⟩ (.bool false)).setCell ⟨w.heap.size,1,none⟩ (.slice none 0 0))) :=
          ⟨_,_,_,_,rfl,CInt.zero _,AC bW (by omega) _ _⟩
         go_wp2
         refine bodyPost_ret (v := .tuple #[.agg #[.bool false,.slice none 0 0],.int .i64 1]) (by simp[results,Tryz.results101,go_sem,k0,k1]) rfl ?_
         exact F.out
        ·have l1:decide ((t[k].toNat:Int) < 48)=false:=decide_eq_false (by omega)
         by_cases h57:57 < t[k].toNat
         ·have l2:decide (57 < (t[k].toNat:Int))=true:=decide_eq_true (by omega)
          obtain ⟨rfl,rfl⟩:=HB.out.bad (Eu (k:=k) (by rw[Aq];exact hlt) (by rw[ek];exact .inr h57))
          clear HB HN HK ek h48 h57;obtain ⟨q0,q1,f0,f1,k0,k1⟩:=pr.all (.bool false) (.slice none 0 0);have F:Hid (D5 w 0 1 (.returned (.tuple #[.agg #[.bool false,.slice none 0 0],.int .i64 1])) ((W.setCell ⟨w.heap.size,0,none⟩ (.bool false)).setCell ⟨w.heap.size,1,none⟩ (.slice none 0 0))) :=
           ⟨_,_,_,_,rfl,CInt.zero _,AC bW (by omega) _ _⟩
          go_wp2
          refine bodyPost_ret (v := .tuple #[.agg #[.bool false,.slice none 0 0],.int .i64 1]) (by simp[results,Tryz.results101,go_sem,k0,k1]) rfl ?_
          exact F.out
         ·have l2:decide (57 < (t[k].toNat:Int))=false:=decide_eq_false (by omega)
          have EK:=Lib.hid ek;clear ek;have H48:=Lib.hid h48;have H57:=Lib.hid h57;clear h48 h57;go_wp2
          go_round
          case rel =>
           refine ⟨k+1,by omega,by go_num,fun j hj => ?_⟩
           rcases Nat.lt_succ_iff_lt_or_eq.1 hj with h | h
           ·exact HK.out j h
           ·have h1:=H48.out
            have h2:=H57.out;rw[h,EK.out];omega
          case measure=>simp[intOf] <;> omega
       ·obtain rfl:k=t.size:=by omega
        have hok:okD (bytesOf t):=OX (fun j hj=>HK.out j (by rw[Aq] at hj;exact hj))
        obtain ⟨rfl,rfl⟩:=HB.out.good (JM (by rw[Aq];exact ht0) hok (by simpa using HN.out))
        have HPM:=Lib.hid (FR t W (by omega) hok)
        have hdk:decide ((t.size:Int) < (t.size:Int))=false:=by simp
        clear HB HN HK hok;generalize nd (bytesOf t)=V at *;go_wp2_with fail
        refine HPM.out.mono ?_;rintro e w1 ⟨A1,m1,c1,ms1,rfl,o1,hw1,rfl,hm1⟩;obtain ⟨A2,n2,c2,hv,r1,h1,h2⟩:=o1.form';injection hv with hv1 hv2 hv3;subst hv1 hv2 hv3;have b1:=o1.2;have HWR:=Lib.hid (Jq true w1 r1 (Nat.le_refl _) hw1 h1 h2);generalize sgn true (val ms1)=Z at *;clear HPM o1 r1 hw1;go_wp2_with fail
        refine HWR.out.mono ?_;rintro e w2 ⟨s2,A2,n2,c2,rfl,i2,b2⟩;have b3:=AA b1 b2;have p2:=pr.call b3;obtain ⟨q0,q1,f0,f1,k0,k1⟩:=p2.all (.bool s2) (.slice A2 n2 c2);have F:Hid (D5 w Z 0 (.returned (.tuple #[.agg #[.bool s2,.slice A2 n2 c2],.int .i64 0])) ((w2.setCell ⟨w.heap.size,0,none⟩ (.bool s2)).setCell ⟨w.heap.size,1,none⟩ (.slice A2 n2 c2))) :=
         ⟨_,_,_,_,rfl,i2.stored p2 _ _,AC (AA bW b3) (by omega) _ _⟩
        clear HWR i2;go_wp2
        refine bodyPost_ret (v := .tuple #[.agg #[.bool s2,.slice A2 n2 c2],.int .i64 0]) (by simp[results,Tryz.results101,go_sem,k0,k1]) rfl ?_
        exact F.out
   ·have hne : ((s[0].toNat : Int) == 45) = false := by simp; omega
    have hb:=hp.pb (by omega) (neg:=false) (b:=bytesOf s) (by unfold BD;rw[e0];simp;exact h45) (by unfold Bi BD;rw[e0,if_neg (by simp;exact h45)])
    have HB:=Lib.hid hb;clear hp hl e0 h45 hb hd' c1;obtain ⟨t,ht⟩ : ∃ t,t=s:=⟨_,rfl⟩;go_enter Tryz.func101,Tryz.ntmps101
    go_upto_region 1 with (fail)
    rw[←hW];clear hW
    go_upto_region 8 with (fail)
    subst ht;have htb:t.size≤400:=by omega
    clear hne i0 c0 hd hsb hs;by_cases ht0:t.size=0
    ·have g0:((t.size:Int) == 0)=true:=by rw[ht0];rfl
     obtain ⟨rfl,rfl⟩:=HB.out.bad (LG (by rw[Aq];exact ht0))
     have HT0:=Lib.hid ht0;clear HB ht0;obtain ⟨q0,q1,f0,f1,k0,k1⟩:=pr.all (.bool false) (.slice none 0 0);have F:Hid (D5 w 0 1 (.returned (.tuple #[.agg #[.bool false,.slice none 0 0],.int .i64 1])) ((W.setCell ⟨w.heap.size,0,none⟩ (.bool false)).setCell ⟨w.heap.size,1,none⟩ (.slice none 0 0))) :=
      ⟨_,_,_,_,rfl,CInt.zero _,AC bW (by omega) _ _⟩
     go_wp2
     refine bodyPost_ret (v := .tuple #[.agg #[.bool false,.slice none 0 0],.int .i64 1]) (by simp[results,Tryz.results101,go_sem,k0,k1]) rfl ?_
     exact F.out
    ·have ht1 : 0 < t.size := by omega
     have g0:((t.size:Int) == 0)=false:=beq_eq_false_iff_ne.2 (by omega)
     have j0:(0:Int) < (t.size:Int):=by omega
     have e0:=CL t 0 ht1;clear ht0;have ht0:=ht1;by_cases h48:t[0].toNat=48
     ·have g1 : ((t[0].toNat : Int) == 48) = true := by rw [h48]; rfl
      by_cases h1:1 < t.size
      ·have g2:decide ((1:Int) < (t.size:Int))=true:=decide_eq_true (by omega)
       obtain ⟨rfl,rfl⟩:=HB.out.bad (MU (by rw[e0];exact h48) (.inl (by rw[Aq];exact h1)))
       clear HB e0 h48;obtain ⟨q0,q1,f0,f1,k0,k1⟩:=pr.all (.bool false) (.slice none 0 0);have F:Hid (D5 w 0 1 (.returned (.tuple #[.agg #[.bool false,.slice none 0 0],.int .i64 1])) ((W.setCell ⟨w.heap.size,0,none⟩ (.bool false)).setCell ⟨w.heap.size,1,none⟩ (.slice none 0 0))) :=
        ⟨_,_,_,_,rfl,CInt.zero _,AC bW (by omega) _ _⟩
       go_wp2
       refine bodyPost_ret (v := .tuple #[.agg #[.bool false,.slice none 0 0],.int .i64 1]) (by simp[results,Tryz.results101,go_sem,k0,k1]) rfl ?_
       exact F.out
      ·have g2 : decide ((1 : Int) < (t.size : Int)) = false := decide_eq_false (by omega)
       have hnz : ¬ ((bytesOf t).getD 0 0=48∧(1 < (bytesOf t).length∨false=true)):=by rw[Aq];simp;omega
       clear e0 h48;have HN:Hid (¬ ((bytesOf t).getD 0 0=48∧(1 < (bytesOf t).length∨false=true))):=hnz;clear hnz;go_wp2_with fail
       go_loop [41] (fun i => ∃ k:Nat,k≤t.size∧i = .int .i64 k∧Hid (∀ j,j < k→48≤(bytesOf t).getD j 0∧(bytesOf t).getD j 0≤57)) (fun i=>(t.size - intOf i).toNat)
       case atStart=>exact ⟨0,by omega,rfl,fun j hj=>by omega⟩
       case round =>
        obtain ⟨k,hk,rfl,HK⟩:=hrel;by_cases hlt:k < t.size
        ·have i1 : (0 : Int) ≤ (k : Int) := by omega
         have i2:(k:Int) < (t.size:Int):=by omega
         have ek:=CL t k hlt;by_cases h48:t[k].toNat < 48
         ·have l1:decide ((t[k].toNat:Int) < 48)=true:=decide_eq_true (by omega)
          obtain ⟨rfl,rfl⟩:=HB.out.bad (Eu (k:=k) (by rw[Aq];exact hlt) (by rw[ek];exact .inl h48))
          clear HB HN HK ek h48;obtain ⟨q0,q1,f0,f1,k0,k1⟩:=pr.all (.bool false) (.slice none 0 0);have F:Hid (D5 w 0 1 (.returned (.tuple #[.agg #[.bool false,.slice none 0 0],.int .i64 1])) ((W.setCell ⟨w.heap.size,0,none⟩ (.bool false)).setCell ⟨w.heap.size,1,none⟩ (.slice none 0 0))) :=
           ⟨_,_,_,_,rfl,CInt.zero _,AC bW (by omega) _ _⟩
          go_wp2
          refine bodyPost_ret (v := .tuple #[.agg #[.bool false,.slice none 0 0],.int .i64 1]) (by simp[results,Tryz.results101,go_sem,k0,k1]) rfl ?_
          exact F.out
         ·have l1:decide ((t[k].toNat:Int) < 48)=false:=decide_eq_false (by omega)
          by_cases h57:57 < t[k].toNat
          ·have l2:decide (57 < (t[k].toNat:Int))=true:=decide_eq_true (by omega)
           obtain ⟨rfl,rfl⟩:=HB.out.bad (Eu (k:=k) (by rw[Aq];exact hlt) (by rw[ek];exact .inr h57))
           clear HB HN HK ek h48 h57;obtain ⟨q0,q1,f0,f1,k0,k1⟩:=pr.all (.bool false) (.slice none 0 0);have F:Hid (D5 w 0 1 (.returned (.tuple #[.agg #[.bool false,.slice none 0 0],.int .i64 1])) ((W.setCell ⟨w.heap.size,0,none⟩ (.bool false)).setCell ⟨w.heap.size,1,none⟩ (.slice none 0 0))) :=
            ⟨_,_,_,_,rfl,CInt.zero _,AC bW (by omega) _ _⟩
           go_wp2
           refine bodyPost_ret (v := .tuple #[.agg #[.bool false,.slice none 0 0],.int .i64 1]) (by simp[results,Tryz.results101,go_sem,k0,k1]) rfl ?_
           exact F.out
          ·have l2:decide (57 < (t[k].toNat:Int))=false:=decide_eq_false (by omega)
           have EK:=Lib.hid ek;clear ek;have H48:=Lib.hid h48;have H57:=Lib.hid h57;clear h48 h57;go_wp2
           go_round
           case rel =>
            refine ⟨k+1,by omega,by go_num,fun j hj => ?_⟩
            rcases Nat.lt_succ_iff_lt_or_eq.1 hj with h | h
            ·exact HK.out j h
            ·have h1:=H48.out
             have h2:=H57.out;rw[h,EK.out];omega
           case measure=>simp[intOf] <;> omega
        ·obtain rfl:k=t.size:=by omega
         have hok:okD (bytesOf t):=OX (fun j hj=>HK.out j (by rw[Aq] at hj;exact hj))
         obtain ⟨rfl,rfl⟩:=HB.out.good (JM (by rw[Aq];exact ht0) hok (by simpa using HN.out))
         have HPM:=Lib.hid (FR t W (by omega) hok)
         have hdk:decide ((t.size:Int) < (t.size:Int))=false:=by simp
         clear HB HN HK hok;generalize nd (bytesOf t)=V at *;go_wp2_with fail
         refine HPM.out.mono ?_;rintro e w1 ⟨A1,m1,c1,ms1,rfl,o1,hw1,rfl,hm1⟩;obtain ⟨A2,n2,c2,hv,r1,h1,h2⟩:=o1.form';injection hv with hv1 hv2 hv3;subst hv1 hv2 hv3;have b1:=o1.2;have HWR:=Lib.hid (Jq false w1 r1 (Nat.le_refl _) hw1 h1 h2);generalize sgn false (val ms1)=Z at *;clear HPM o1 r1 hw1;go_wp2_with fail
         refine HWR.out.mono ?_;rintro e w2 ⟨s2,A2,n2,c2,rfl,i2,b2⟩;have b3:=AA b1 b2;have p2:=pr.call b3;obtain ⟨q0,q1,f0,f1,k0,k1⟩:=p2.all (.bool s2) (.slice A2 n2 c2);have F:Hid (D5 w Z 0 (.returned (.tuple #[.agg #[.bool s2,.slice A2 n2 c2],.int .i64 0])) ((w2.setCell ⟨w.heap.size,0,none⟩ (.bool s2)).setCell ⟨w.heap.size,1,none⟩ (.slice A2 n2 c2))) :=
          ⟨_,_,_,_,rfl,i2.stored p2 _ _,AC (AA bW b3) (by omega) _ _⟩
         clear HWR i2;go_wp2
         refine bodyPost_ret (v := .tuple #[.agg #[.bool s2,.slice A2 n2 c2],.int .i64 0]) (by simp[results,Tryz.results101,go_sem,k0,k1]) rfl ?_
         exact F.out
     ·have g1 : ((t[0].toNat : Int) == 48) = false := by simp; omega
      have hnz : ¬ ((bytesOf t).getD 0 0=48∧(1 < (bytesOf t).length∨false=true)):=fun h=>h48 (by rw[←e0];exact h.1)
      clear e0 h48;have HN:Hid (¬ ((bytesOf t).getD 0 0=48∧(1 < (bytesOf t).length∨false=true))):=hnz;clear hnz;go_wp2_with fail
      go_loop [41] (fun i => ∃ k:Nat,k≤t.size∧i = .int .i64 k∧Hid (∀ j,j < k→48≤(bytesOf t).getD j 0∧(bytesOf t).getD j 0≤57)) (fun i=>(t.size - intOf i).toNat)
      case atStart=>exact ⟨0,by omega,rfl,fun j hj=>by omega⟩
      case round =>
       obtain ⟨k,hk,rfl,HK⟩:=hrel;by_cases hlt:k < t.size
       ·have i1 : (0 : Int) ≤ (k : Int) := by omega
        have i2:(k:Int) < (t.size:Int):=by omega
        have ek:=CL t k hlt;by_cases h48:t[k].toNat < 48
        ·have l1:decide ((t[k].toNat:Int) < 48)=true:=decide_eq_true (by omega)
         obtain ⟨rfl,rfl⟩:=HB.out.bad (Eu (k:=k) (by rw[Aq];exact hlt) (by rw[ek];exact .inl h48))
         clear HB HN HK ek h48;obtain ⟨q0,q1,f0,f1,k0,k1⟩:=pr.all (.bool false) (.slice none 0 0);have F:Hid (D5 w 0 1 (.returned (.tuple #[.agg #[.bool false,.slice none 0 0],.int .i64 1])) ((W.setCell ⟨w.heap.size,0,none⟩ (.bool false)).setCell ⟨w.heap.size,1,none⟩ (.slice none 0 0))) :=
          ⟨_,_,_,_,rfl,CInt.zero _,AC bW (by omega) _ _⟩
         go_wp2
         refine bodyPost_ret (v := .tuple #[.agg #[.bool false,.slice none 0 0],.int .i64 1]) (by simp[results,Tryz.results101,go_sem,k0,k1]) rfl ?_
         exact F.out
        ·have l1:decide ((t[k].toNat:Int) < 48)=false:=decide_eq_false (by omega)
         by_cases h57:57 < t[k].toNat
         ·have l2:decide (57 < (t[k].toNat:Int))=true:=decide_eq_true (by omega)
          obtain ⟨rfl,rfl⟩:=HB.out.bad (Eu (k:=k) (by rw[Aq];exact hlt) (by rw[ek];exact .inr h57))
          clear HB HN HK ek h48 h57;obtain ⟨q0,q1,f0,f1,k0,k1⟩:=pr.all (.bool false) (.slice none 0 0);have F:Hid (D5 w 0 1 (.returned (.tuple #[.agg #[.bool false,.slice none 0 0],.int .i64 1])) ((W.setCell ⟨w.heap.size,0,none⟩ (.bool false)).setCell ⟨w.heap.size,1,none⟩ (.slice none 0 0))) :=
           ⟨_,_,_,_,rfl,CInt.zero _,AC bW (by omega) _ _⟩
          go_wp2
          refine bodyPost_ret (v := .tuple #[.agg #[.bool false,.slice none 0 0],.int .i64 1]) (by simp[results,Tryz.results101,go_sem,k0,k1]) rfl ?_
          exact F.out
         ·have l2:decide (57 < (t[k].toNat:Int))=false:=decide_eq_false (by omega)
          have EK:=Lib.hid ek;clear ek;have H48:=Lib.hid h48;have H57:=Lib.hid h57;clear h48 h57;go_wp2
          go_round
          case rel =>
           refine ⟨k+1,by omega,by go_num,fun j hj => ?_⟩
           rcases Nat.lt_succ_iff_lt_or_eq.1 hj with h | h
           ·exact HK.out j h
           ·have h1:=H48.out
            have h2:=H57.out;rw[h,EK.out];omega
          case measure=>simp[intOf] <;> omega
       ·obtain rfl:k=t.size:=by omega
        have hok:okD (bytesOf t):=OX (fun j hj=>HK.out j (by rw[Aq] at hj;exact hj))
        obtain ⟨rfl,rfl⟩:=HB.out.good (JM (by rw[Aq];exact ht0) hok (by simpa using HN.out))
        have HPM:=Lib.hid (FR t W (by omega) hok)
        have hdk:decide ((t.size:Int) < (t.size:Int))=false:=by simp
        clear HB HN HK hok;generalize nd (bytesOf t)=V at *;go_wp2_with fail
        refine HPM.out.mono ?_;rintro e w1 ⟨A1,m1,c1,ms1,rfl,o1,hw1,rfl,hm1⟩;obtain ⟨A2,n2,c2,hv,r1,h1,h2⟩:=o1.form';injection hv with hv1 hv2 hv3;subst hv1 hv2 hv3;have b1:=o1.2;have HWR:=Lib.hid (Jq false w1 r1 (Nat.le_refl _) hw1 h1 h2);generalize sgn false (val ms1)=Z at *;clear HPM o1 r1 hw1;go_wp2_with fail
        refine HWR.out.mono ?_;rintro e w2 ⟨s2,A2,n2,c2,rfl,i2,b2⟩;have b3:=AA b1 b2;have p2:=pr.call b3;obtain ⟨q0,q1,f0,f1,k0,k1⟩:=p2.all (.bool s2) (.slice A2 n2 c2);have F:Hid (D5 w Z 0 (.returned (.tuple #[.agg #[.bool s2,.slice A2 n2 c2],.int .i64 0])) ((w2.setCell ⟨w.heap.size,0,none⟩ (.bool s2)).setCell ⟨w.heap.size,1,none⟩ (.slice A2 n2 c2))) :=
         ⟨_,_,_,_,rfl,i2.stored p2 _ _,AC (AA bW b3) (by omega) _ _⟩
        clear HWR i2;go_wp2
        refine bodyPost_ret (v := .tuple #[.agg #[.bool s2,.slice A2 n2 c2],.int .i64 0]) (by simp[results,Tryz.results101,go_sem,k0,k1]) rfl ?_
        exact F.out
end Go.Proofs.YtdgbealknnmkoaaGreatDoor
