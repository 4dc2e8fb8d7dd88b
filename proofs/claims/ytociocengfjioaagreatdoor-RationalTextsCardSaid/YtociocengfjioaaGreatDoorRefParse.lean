/- Walk of pairingref1.Parse. -/
import Derived.Test.YtociocengfjioaaGreatDoorParse
import Derived.Test.YtociocengfjioaaGreatDoorParseR
namespace Go.Proofs.YtociocengfjioaaGreatDoor
open Go.RowKit
set_option linter.unusedVariables false

theorem bytes48 (t : ByteArray) : bytesOf t = [48] ↔ t.toList = [48] := by
  constructor
  · intro h
    have e : t = strOf [48] := by rw [← h, strOf_bytesOf]
    rw [e, Lib.toList_data]; rfl
  · intro h
    unfold bytesOf
    rw [← Lib.toList_data, h]; rfl

set_option maxHeartbeats 4000000 in
set_option maxRecDepth 100000 in
theorem refParse_any (s : ByteArray) {z code : Int} (w : World) (hp : PA (bytesOf s) z code) (hs : s.size ≤ 9223372036854775807) :
    Calls Tryz.prog 74 #[.string s] w (RetIE w z code) := by
  obtain ⟨W, hW⟩ : ∃ W, W = w.alloc (.cells #[.bool false, .slice none 0 0] 24) := ⟨_, rfl⟩
  have bW : Below w.heap.size w W := by rw [hW]; exact bone w _
  have pr : Pr W w.heap.size false none 0 0 := by rw [hW]; exact Pr.new w false none 0 0
  have hl := bytesOf_length s
  by_cases hbig : 400 < s.size
  · obtain ⟨rfl, rfl⟩ : code = 10 ∧ z = 0 := by
      rcases hp with h | h | h
      · exact h.2
      · omega
      · omega
    clear hp hl
    have hd : decide ((400 : Int) < (s.size : Int)) = true := decide_eq_true (by omega)
    have hd' : decide (400 < s.size) = true := decide_eq_true (by omega)
    obtain ⟨q0, q1, f0, f1, k0, k1⟩ := pr.all (.bool false) (.slice none 0 0)
    have F : Hid (RetIE w 0 10 (.returned (.tuple #[.agg #[.bool false, .slice none 0 0], .int .i64 10])) ((W.setCell ⟨w.heap.size, 0, none⟩ (.bool false)).setCell ⟨w.heap.size, 1, none⟩ (.slice none 0 0))) :=
      ⟨_, _, _, _, rfl, CInt.zero _, below_stored bW (by omega) _ _⟩
    go_enter Tryz.func74, Tryz.ntmps74
    go_upto_region 1 with (fail)
    rw [← hW]
    clear hW
    go_wp2
    refine bodyPost_ret (v := .tuple #[.agg #[.bool false, .slice none 0 0], .int .i64 10]) (by simp [results, Tryz.results74, go_sem, k0, k1]) rfl ?_
    exact F.out
  · have hd : decide ((400 : Int) < (s.size : Int)) = false := decide_eq_false (by omega)
    have hd' : decide (400 < s.size) = false := decide_eq_false (by omega)
    have hsb : s.size ≤ 400 := by omega
    clear hbig
    by_cases hs0 : s.size = 0
    · have hb := hp.pb (by omega) (neg := false) (b := []) (by rw [List.eq_nil_of_length_eq_zero (l := bytesOf s) (by omega)]; rfl) (by rw [List.eq_nil_of_length_eq_zero (l := bytesOf s) (by omega)]; rfl)
      obtain ⟨rfl, rfl⟩ := hb.bad (bad_nil rfl)
      have HDE := Lib.hid (refDecimal_any s false W (by omega) ⟨fun h => Bool.noConfusion h, fun h => absurd (List.eq_nil_of_length_eq_zero (l := bytesOf s) (by omega)) h.1⟩)
      clear hb hp hl
      have c0 : decide ((0 : Int) < (s.size : Int)) = false := decide_eq_false (by omega)
      have c1 : decide (0 < s.size) = false := decide_eq_false (by omega)
      have c2 : ((s.size : Int) == 0) = true := by rw [hs0]; rfl
      have c3 : (s.size == 0) = true := by rw [hs0]; rfl
      have HS0 := Lib.hid hs0
      clear hs0
      obtain ⟨q0, q1, f0, f1, k0, k1⟩ := pr.all (.bool false) (.slice none 0 0)
      have F : Hid (RetIE w 0 1 (.returned (.tuple #[.agg #[.bool false, .slice none 0 0], .int .i64 1])) ((W.setCell ⟨w.heap.size, 0, none⟩ (.bool false)).setCell ⟨w.heap.size, 1, none⟩ (.slice none 0 0))) :=
        ⟨_, _, _, _, rfl, CInt.zero _, below_stored bW (by omega) _ _⟩
      go_enter Tryz.func74, Tryz.ntmps74
      go_upto_region 1 with (fail)
      rw [← hW]
      clear hW
      go_wp2_with fail
      refine HDE.out.mono ?_
      rintro e w' ⟨rfl, rfl⟩
      go_wp2
      refine bodyPost_ret (v := .tuple #[.agg #[.bool false, .slice none 0 0], .int .i64 1]) (by simp [results, Tryz.results74, go_sem, k0, k1]) rfl ?_
      exact F.out
    · have c0 : decide ((0 : Int) < (s.size : Int)) = true := decide_eq_true (by omega)
      have c1 : decide (0 < s.size) = true := decide_eq_true (by omega)
      have hpos : 0 < s.size := by omega
      have i0 : (0 : Int) < (s.size : Int) := by omega
      have e0 := bytes_getD s 0 hpos
      clear hs0
      by_cases h45 : s[0].toNat = 45
      · have hb := hp.pb (by omega) (neg := true) (b := bytesOf (s.extract 1 s.size)) (by unfold pNeg; rw [e0, h45]; rfl) (by unfold pBody pNeg; rw [e0, h45, bytes_cut]; rfl)
        have hts := cut_size s 1
        have q45 : ((s[0].toNat : Int) == 45) = true := by rw [h45]; rfl
        have i1 : (0 : Int) ≤ 1 := by omega
        have i2 : (1 : Int) ≤ (s.size : Int) := by omega
        have HB := Lib.hid hb
        clear hp hl e0 h45 hb hd' c1
        go_enter Tryz.func74, Tryz.ntmps74
        go_upto_region 1 with (fail)
        rw [← hW]
        clear hW
        go_upto_region 6 with (fail)
        generalize s.extract 1 s.size = t at *
        have htb : t.size ≤ 400 := by omega
        clear hts q45 i1 i2 i0 c0 hd hsb hs
        by_cases hde : Deci (bytesOf t)
        · have HDE := Lib.hid (refDecimal_any t true W (by omega) ⟨fun _ => hde, fun _ => rfl⟩)
          by_cases h0 : t.toList = [48]
          · have z0 : (t.toList == [48]) = true := by rw [h0]; rfl
            obtain ⟨rfl, rfl⟩ := HB.out.bad (fun g => g.2 ⟨rfl, (bytes48 t).2 h0⟩)
            have HZ := Lib.hid h0
            clear HB h0 hde
            obtain ⟨q0, q1, f0, f1, k0, k1⟩ := pr.all (.bool false) (.slice none 0 0)
            have F : Hid (RetIE w 0 1 (.returned (.tuple #[.agg #[.bool false, .slice none 0 0], .int .i64 1])) ((W.setCell ⟨w.heap.size, 0, none⟩ (.bool false)).setCell ⟨w.heap.size, 1, none⟩ (.slice none 0 0))) :=
              ⟨_, _, _, _, rfl, CInt.zero _, below_stored bW (by omega) _ _⟩
            go_wp2_with fail
            refine HDE.out.mono ?_
            rintro e w' ⟨rfl, rfl⟩
            go_wp2
            refine bodyPost_ret (v := .tuple #[.agg #[.bool false, .slice none 0 0], .int .i64 1]) (by simp [results, Tryz.results74, go_sem, k0, k1]) rfl ?_
            exact F.out
          · have z0 : (t.toList == [48]) = false := beq_eq_false_iff_ne.2 h0
            have hg : GoodB true (bytesOf t) := ⟨hde, fun h => h0 ((bytes48 t).1 h.2)⟩
            clear hde h0
            have HRD := Lib.hid (refRead_any t W (by omega) hg.1.2.1)
            obtain ⟨rfl, rfl⟩ := HB.out.good hg
            clear HB hg
            generalize nd (bytesOf t) = V at *
            go_wp2_with fail
            refine HDE.out.mono ?_
            rintro e w' ⟨rfl, rfl⟩
            go_wp2_with fail
            refine HRD.out.mono ?_
            rintro e w1 ⟨A1, m1, c1, ms1, rfl, o1, hw1, rfl, hm1⟩
            obtain ⟨A2, n2, c2, hv, r1, h1, h2⟩ := o1.form'
            injection hv with hv1 hv2 hv3
            subst hv1 hv2 hv3
            have b1 := o1.2
            have HWR := Lib.hid (make_any true w1 r1 (Nat.le_refl _) hw1 h1 h2 (by omega))
            generalize sgn true (val ms1) = Z at *
            clear HRD o1 r1 hw1 HDE
            go_wp2_with fail
            refine HWR.out.mono ?_
            rintro e w2 ⟨s2, A2, n2, c2, rfl, i2, b2⟩
            have b3 := bthen b1 b2
            have p2 := pr.call b3
            obtain ⟨q0, q1, f0, f1, k0, k1⟩ := p2.all (.bool s2) (.slice A2 n2 c2)
            have F : Hid (RetIE w Z 0 (.returned (.tuple #[.agg #[.bool s2, .slice A2 n2 c2], .int .i64 0])) ((w2.setCell ⟨w.heap.size, 0, none⟩ (.bool s2)).setCell ⟨w.heap.size, 1, none⟩ (.slice A2 n2 c2))) :=
              ⟨_, _, _, _, rfl, i2.stored p2 _ _, below_stored (bthen bW b3) (by omega) _ _⟩
            clear HWR i2
            go_wp2
            refine bodyPost_ret (v := .tuple #[.agg #[.bool s2, .slice A2 n2 c2], .int .i64 0]) (by simp [results, Tryz.results74, go_sem, k0, k1]) rfl ?_
            exact F.out
        · have HDE := Lib.hid (refDecimal_any t false W (by omega) ⟨fun h => Bool.noConfusion h, fun h => absurd h hde⟩)
          obtain ⟨rfl, rfl⟩ := HB.out.bad (fun g => hde g.1)
          clear HB hde
          obtain ⟨q0, q1, f0, f1, k0, k1⟩ := pr.all (.bool false) (.slice none 0 0)
          have F : Hid (RetIE w 0 1 (.returned (.tuple #[.agg #[.bool false, .slice none 0 0], .int .i64 1])) ((W.setCell ⟨w.heap.size, 0, none⟩ (.bool false)).setCell ⟨w.heap.size, 1, none⟩ (.slice none 0 0))) :=
            ⟨_, _, _, _, rfl, CInt.zero _, below_stored bW (by omega) _ _⟩
          go_wp2_with fail
          refine HDE.out.mono ?_
          rintro e w' ⟨rfl, rfl⟩
          go_wp2
          refine bodyPost_ret (v := .tuple #[.agg #[.bool false, .slice none 0 0], .int .i64 1]) (by simp [results, Tryz.results74, go_sem, k0, k1]) rfl ?_
          exact F.out
      · have hne : ((s[0].toNat : Int) == 45) = false := by simp; omega
        have hb := hp.pb (by omega) (neg := false) (b := bytesOf s) (by unfold pNeg; rw [e0]; simp; exact h45) (by unfold pBody pNeg; rw [e0, if_neg (by simp; exact h45)])
        have HB := Lib.hid hb
        clear hp hl e0 h45 hb hd' c1
        obtain ⟨t, ht⟩ : ∃ t, t = s := ⟨_, rfl⟩
        go_enter Tryz.func74, Tryz.ntmps74
        go_upto_region 1 with (fail)
        rw [← hW]
        clear hW
        go_upto_region 6 with (fail)
        subst ht
        have htb : t.size ≤ 400 := by omega
        clear hne i0 c0 hd hsb hs
        by_cases hde : Deci (bytesOf t)
        · have HDE := Lib.hid (refDecimal_any t true W (by omega) ⟨fun _ => hde, fun _ => rfl⟩)
          have hg : GoodB false (bytesOf t) := ⟨hde, fun h => by cases h.1⟩
          clear hde
          have HRD := Lib.hid (refRead_any t W (by omega) hg.1.2.1)
          obtain ⟨rfl, rfl⟩ := HB.out.good hg
          clear HB hg
          generalize nd (bytesOf t) = V at *
          go_wp2_with fail
          refine HDE.out.mono ?_
          rintro e w' ⟨rfl, rfl⟩
          go_wp2_with fail
          refine HRD.out.mono ?_
          rintro e w1 ⟨A1, m1, c1, ms1, rfl, o1, hw1, rfl, hm1⟩
          obtain ⟨A2, n2, c2, hv, r1, h1, h2⟩ := o1.form'
          injection hv with hv1 hv2 hv3
          subst hv1 hv2 hv3
          have b1 := o1.2
          have HWR := Lib.hid (make_any false w1 r1 (Nat.le_refl _) hw1 h1 h2 (by omega))
          generalize sgn false (val ms1) = Z at *
          clear HRD o1 r1 hw1 HDE
          go_wp2_with fail
          refine HWR.out.mono ?_
          rintro e w2 ⟨s2, A2, n2, c2, rfl, i2, b2⟩
          have b3 := bthen b1 b2
          have p2 := pr.call b3
          obtain ⟨q0, q1, f0, f1, k0, k1⟩ := p2.all (.bool s2) (.slice A2 n2 c2)
          have F : Hid (RetIE w Z 0 (.returned (.tuple #[.agg #[.bool s2, .slice A2 n2 c2], .int .i64 0])) ((w2.setCell ⟨w.heap.size, 0, none⟩ (.bool s2)).setCell ⟨w.heap.size, 1, none⟩ (.slice A2 n2 c2))) :=
            ⟨_, _, _, _, rfl, i2.stored p2 _ _, below_stored (bthen bW b3) (by omega) _ _⟩
          clear HWR i2
          go_wp2
          refine bodyPost_ret (v := .tuple #[.agg #[.bool s2, .slice A2 n2 c2], .int .i64 0]) (by simp [results, Tryz.results74, go_sem, k0, k1]) rfl ?_
          exact F.out
        · have HDE := Lib.hid (refDecimal_any t false W (by omega) ⟨fun h => Bool.noConfusion h, fun h => absurd h hde⟩)
          obtain ⟨rfl, rfl⟩ := HB.out.bad (fun g => hde g.1)
          clear HB hde
          obtain ⟨q0, q1, f0, f1, k0, k1⟩ := pr.all (.bool false) (.slice none 0 0)
          have F : Hid (RetIE w 0 1 (.returned (.tuple #[.agg #[.bool false, .slice none 0 0], .int .i64 1])) ((W.setCell ⟨w.heap.size, 0, none⟩ (.bool false)).setCell ⟨w.heap.size, 1, none⟩ (.slice none 0 0))) :=
            ⟨_, _, _, _, rfl, CInt.zero _, below_stored bW (by omega) _ _⟩
          go_wp2_with fail
          refine HDE.out.mono ?_
          rintro e w' ⟨rfl, rfl⟩
          go_wp2
          refine bodyPost_ret (v := .tuple #[.agg #[.bool false, .slice none 0 0], .int .i64 1]) (by simp [results, Tryz.results74, go_sem, k0, k1]) rfl ?_
          exact F.out
end Go.Proofs.YtociocengfjioaaGreatDoor
