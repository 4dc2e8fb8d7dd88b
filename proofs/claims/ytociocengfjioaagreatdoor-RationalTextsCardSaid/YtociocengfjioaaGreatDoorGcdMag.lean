/- Walk of gcdMag. -/
import Derived.Test.YtociocengfjioaaGreatDoorCofactors
import Derived.Test.YtociocengfjioaaGreatDoorCombine
namespace Go.Proofs.YtociocengfjioaaGreatDoor
open Go.RowKit
set_option linter.unusedVariables false

/-- two magnitudes in memory, the first not less than the second -/
def Mags (w wr : World) (A : Option Addr) (n c : Nat) (A' : Option Addr) (n' c' p q G M : Nat) : Prop :=
  Rd .u32 wr wr.heap.size A n (digits p) ∧ Rd .u32 wr wr.heap.size A' n' (digits q) ∧ n ≤ c ∧ c ≤ 9223372036854775807 ∧ n' ≤ c' ∧ c' ≤ 9223372036854775807 ∧ q ≤ p ∧ p ≤ M ∧ Nat.gcd p q = G ∧ Below w.heap.size w wr

theorem RetMag.of_own {w w' w0 : World} {v : Value} {m : Nat} (h : Own .u32 86 w0 w' v (digits m)) (hb : Below w.heap.size w w0) : RetMag w m (.returned v) w' := by
  obtain ⟨A, n, c, rfl, h1, h2, h3⟩ := h.form'
  exact ⟨A, n, c, rfl, h1, h2, h3, bthen hb h.2⟩
theorem bdrew' (w : World) : Below w.heap.size w w.drew := (Below.refl _ _).drew
theorem pos_of_len {n q : Nat} (hl : (digits q).length = n) (hn : 0 < n) : 0 < q := by
  rcases Nat.eq_zero_or_pos q with h | h
  · rw [h, digits_zero] at hl; simp at hl; omega
  · exact h
theorem two_digits {n q : Nat} (hl : (digits q).length = n) (hn : n ≤ 2) : q < 18446744073709551616 := by
  have := digits_lt q
  rw [hl] at this
  exact Nat.lt_of_lt_of_le this (Nat.le_trans (Nat.pow_le_pow_right (by omega) hn) (by decide))

theorem Cq.cells4 {w : World} {g u0 u1 v0 v1 : Nat} {even : Bool} (h : Cq w g u0 u1 v0 v1 even) : w.cell? ⟨g, 0, none⟩ = some (.int .u64 u0) ∧ w.cell? ⟨g, 1, none⟩ = some (.int .u64 u1) ∧ w.cell? ⟨g, 2, none⟩ = some (.int .u64 v0) ∧ w.cell? ⟨g, 3, none⟩ = some (.int .u64 v1) := ⟨h.c0, h.c1, h.c2, h.c3⟩

set_option maxHeartbeats 4000000 in
set_option maxRecDepth 100000 in
theorem gcdMag_any {A A' : Option Addr} {n n' c c' X Y : Nat} (w : World) (hr : Rd .u32 w w.heap.size A n (digits X)) (hr' : Rd .u32 w w.heap.size A' n' (digits Y)) (hn : n ≤ 549755813888) (hn' : n' ≤ 549755813888) (hc : n ≤ c) (hc2 : c ≤ 9223372036854775807) (hc' : n' ≤ c') (hc2' : c' ≤ 9223372036854775807) :
    Calls Tryz.prog 119 #[.slice A n c, .slice A' n' c'] w (RetMag w (Nat.gcd X Y)) := by
  obtain ⟨G, hG⟩ : ∃ G, Nat.gcd X Y = G := ⟨_, rfl⟩
  rw [hG]
  obtain ⟨M, hMX, hMY, hML⟩ : ∃ M, X ≤ M ∧ Y ≤ M ∧ (digits M).length ≤ 549755813888 := by
    rcases Nat.le_total X Y with h | h
    · exact ⟨Y, h, Nat.le_refl _, by rw [hr'.len]; exact hn'⟩
    · exact ⟨X, Nat.le_refl _, h, by rw [hr.len]; exact hn⟩
  have HM : Hid (∀ p m, (digits p).length = m → p ≤ M → m ≤ 549755813888) := fun p m h hp => by rw [← h]; exact Nat.le_trans (digits_len_mono hp) hML
  have HC := Lib.hid (compareMag_any (c := c) (c' := c') w hr hr' (by omega) (by omega))
  have HG := Lib.hid hG
  clear hG
  have HS : Hid (∀ wr, Below w.heap.size w wr → (X < Y → Mags w wr A' n' c' A n c Y X G M) ∧ (Y ≤ X → Mags w wr A n c A' n' c' X Y G M)) := fun wr hb =>
    ⟨fun h => ⟨hr'.call hb, hr.call hb, hc', hc2', hc, hc2, by omega, hMY, by rw [Nat.gcd_comm]; exact HG.out, hb⟩, fun h => ⟨hr.call hb, hr'.call hb, hc, hc2, hc', hc2', h, hMX, HG.out, hb⟩⟩
  clear hr hr' hc hc2 hc' hc2' hn hn' HG
  go_enter Tryz.func119, Tryz.ntmps119
  go_wp2_with fail
  refine HC.out.mono ?_
  rintro e w1 ⟨rfl, hq1⟩
  have b1 := qbelow hq1
  clear hq1
  go_upto_if 15 with (fail)
  go_cut [0, 1] (fun x y wz => ∃ A n c A' n' c' p q, x = .slice A n c ∧ y = .slice A' n' c' ∧ Hid (Mags w wz A n c A' n' c' p q G M))
  case first =>
    rcases Nat.lt_or_ge X Y with hxy | hxy
    · have hcd : decide (cmp3 X Y < 0) = true := by rw [cmp3_lt hxy]; rfl
      have hcp : cmp3 X Y < 0 := by rw [cmp3_lt hxy]; omega
      have HE := Lib.hid ((HS.out w1 b1).1 hxy)
      generalize cmp3 X Y = cp at *
      go_wp2_with fail
      go_meet
      case rel => exact ⟨_, _, _, _, _, _, _, _, rfl, rfl, HE⟩
    · have hcd : decide (cmp3 X Y < 0) = false := by have := cmp3_ge hxy; simp; omega
      have hcp : 0 ≤ cmp3 X Y := cmp3_ge hxy
      have HE := Lib.hid ((HS.out w1 b1).2 hxy)
      generalize cmp3 X Y = cp at *
      go_wp2_with fail
      go_meet
      case rel => exact ⟨_, _, _, _, _, _, _, _, rfl, rfl, HE⟩
  case rest =>
    obtain ⟨A, n, c, A', n', c', p, q, rfl, rfl, HE⟩ := hcut
    clear HS HC b1
    go_wp2_with fail
    go_loopg [0, 1, 5, 6, 7, 8, 9] q (fun gq x y _ _ _ _ _ wr => ∃ A n c A' n' c' p, x = .slice A n c ∧ y = .slice A' n' c' ∧ Hid (Mags w wr A n c A' n' c' p gq G M))
    case atStart => exact ⟨_, _, _, _, _, _, _, rfl, rfl, HE⟩
    case round =>
      clear HE
      obtain ⟨q, rfl⟩ : ∃ i, i = gk := ⟨_, rfl⟩
      obtain ⟨A, n, c, A', n', c', p, rfl, rfl, HP⟩ := hrel
      obtain ⟨hr, hr', hc, hc2, hc', hc2', hqp, hpM, hgc, bR⟩ := HP.out
      have HGC := Lib.hid hgc
      have HPM : Hid (q ≤ p ∧ p ≤ M) := ⟨hqp, hpM⟩
      have hln := HM.out p n hr.len hpM
      have hln' := HM.out q n' hr'.len (by omega)
      have hnn : n' ≤ n := by rw [← hr.len, ← hr'.len]; exact digits_len_mono hqp
      clear HP hgc
      by_cases h2 : n' ≤ 2
      · have hgt : decide ((2 : Int) < (n' : Int)) = false := by simp; omega
        by_cases h0 : n' = 0
        · subst h0
          have hq0 : q = 0 := (digits_nil_iff q).1 hr'.len
          subst hq0
          have hpG : p = G := by have := HGC.out; rwa [Nat.gcd_zero_right] at this
          subst hpG
          have HCL := Lib.hid (clone_any (c := c) wr hr (by omega))
          clear HGC HPM HM
          go_wp2_with fail
          refine HCL.out.mono ?_
          rintro e W5 ⟨v5, rfl, o5⟩
          have F := Lib.hid (RetMag.of_own o5 bR)
          obtain ⟨A5, n5, c5, rfl, _⟩ := o5.form'
          clear HCL o5
          go_wp2
          go_ret
          exact F.out
        · have hne : ((n' : Int) == 0) = false := by simp; omega
          have hq0 : 0 < q := pos_of_len hr'.len (by omega)
          have hq64 : q < 18446744073709551616 := two_digits hr'.len h2
          have HTY := Lib.hid (fun W (h : Rd .u32 W W.heap.size A' n' (digits q)) => toWord_any (c := c') W h hq64)
          by_cases h3 : 2 < n
          · have hgt3 : decide ((2 : Int) < (n : Int)) = true := by simp; omega
            have HDV := Lib.hid (divMag_any (c := c) (c' := c') wr hr hr' hln hln' hq0)
            have hr64 : p % q < 18446744073709551616 := Nat.lt_trans (Nat.mod_lt _ hq0) hq64
            have HGW := Lib.hid (fun W => gcdWord_any q (p % q) W hq64 hr64)
            have hGe : Nat.gcd q (p % q) = G := by rw [Nat.gcd_comm, ← Nat.gcd_rec, Nat.gcd_comm]; exact HGC.out
            rw [hGe] at HGW
            have hG64 : G < 18446744073709551616 := by rw [← hGe]; exact Nat.lt_of_le_of_lt (Nat.gcd_le_left _ hq0) hq64
            have HFW := Lib.hid (fun W => fromWord_any G W hG64)
            generalize p % q = r at *
            clear hGe hq0 hq64 HGC HPM HM hG64
            go_wp2_with fail
            refine HDV.out.mono ?_
            rintro e W5 ⟨A1, n1, c1, A2, n2, c2, rfl, r1, r2, h1, h1', h2, h2', d5⟩
            replace hr' := hr'.call d5
            replace bR := bthen bR d5
            have HTX := Lib.hid (fun W (h : Rd .u32 W W.heap.size A2 n2 (digits r)) => toWord_any (c := c2) W h hr64)
            clear HDV hr r1 hr64 d5
            go_wp2_with fail
            refine (HTY.out _ hr').mono ?_
            rintro e W6 ⟨rfl, hq6⟩
            have d6 := qbelow hq6
            replace bR := bthen bR d6
            replace r2 := r2.call d6
            clear hq6 d6 HTY
            go_wp2_with fail
            refine (HTX.out _ r2).mono ?_
            rintro e W7 ⟨rfl, hq7⟩
            have d7 := qbelow hq7
            replace bR := bthen bR d7
            clear hq7 d7 HTX
            go_wp2_with fail
            refine (HGW.out _).mono ?_
            rintro e W8 ⟨rfl, hq8⟩
            have d8 := qbelow hq8
            replace bR := bthen bR d8
            clear hq8 d8 HGW
            go_wp2_with fail
            refine (HFW.out _).mono ?_
            rintro e W9 ⟨A9, n9, c9, rfl, r9, h9, h9', d9⟩
            go_wp2
            go_ret
            exact ⟨A9, n9, c9, rfl, r9, h9, h9', bthen bR d9⟩
          · have hgt3 : decide ((2 : Int) < (n : Int)) = false := by simp; omega
            have hp64 : p < 18446744073709551616 := two_digits hr.len (by omega)
            have HTX := Lib.hid (fun W (h : Rd .u32 W W.heap.size A n (digits p)) => toWord_any (c := c) W h hp64)
            have HGW := Lib.hid (fun W => gcdWord_any p q W hp64 hq64)
            rw [HGC.out] at HGW
            have hG64 : G < 18446744073709551616 := by rw [← HGC.out]; exact Nat.lt_of_le_of_lt (Nat.gcd_le_right _ hq0) hq64
            have HFW := Lib.hid (fun W => fromWord_any G W hG64)
            clear hq0 hq64 HGC HPM HM hG64 hp64
            go_wp2_with fail
            refine (HTX.out _ hr).mono ?_
            rintro e W6 ⟨rfl, hq6⟩
            have d6 := qbelow hq6
            replace bR := bthen bR d6
            replace hr' := hr'.call d6
            clear hq6 d6 HTX
            go_wp2_with fail
            refine (HTY.out _ hr').mono ?_
            rintro e W7 ⟨rfl, hq7⟩
            have d7 := qbelow hq7
            replace bR := bthen bR d7
            clear hq7 d7 HTY
            go_wp2_with fail
            refine (HGW.out _).mono ?_
            rintro e W8 ⟨rfl, hq8⟩
            have d8 := qbelow hq8
            replace bR := bthen bR d8
            clear hq8 d8 HGW
            go_wp2_with fail
            refine (HFW.out _).mono ?_
            rintro e W9 ⟨A9, n9, c9, rfl, r9, h9, h9', d9⟩
            go_wp2
            go_ret
            exact ⟨A9, n9, c9, rfl, r9, h9, h9', bthen bR d9⟩
      · obtain ⟨D, hD, hA1, hco⟩ := cofactors_any (c := c) (c' := c') wr hr hr' hqp (by omega) hln hc hc2
        have HCO := Lib.hid hco
        have hq0 : 0 < q := pos_of_len hr'.len (by omega)
        have HDV := Lib.hid (fun W (h : Rd .u32 W W.heap.size A n (digits p)) (h' : Rd .u32 W W.heap.size A' n' (digits q)) => divMag_any (c := c) (c' := c') W h h' hln hln' hq0)
        have HQ0 := Lib.hid hq0
        have hgt : decide ((2 : Int) < (n' : Int)) = true := by simp; omega
        have hgt' : 2 < n' := by omega
        clear hco hq0
        go_wp2_with fail
        refine HCO.out.mono ?_
        rintro e W5 ⟨u0, u1, v0, v1, even, rfl, hv, d5⟩
        have HV := Lib.hid hv
        clear HCO hv
        obtain ⟨W6, hW6⟩ : ∃ W6, W6 = W5.alloc (.cells #[.int .u64 u0, .int .u64 u1, .int .u64 v0, .int .u64 v1, .bool even] 131) := ⟨_, rfl⟩
        have d6 : Below W5.heap.size W5 W6 := by rw [hW6]; exact bone _ _
        have p5 : Cq W6 W5.heap.size u0 u1 v0 v1 even := by rw [hW6]; exact Cq.new ..
        replace hr := (hr.call d5).call d6
        replace hr' := (hr'.call d5).call d6
        replace bR := bthen (bthen bR d5) d6
        go_upto_region 5 with (fail)
        rw [← hW6]
        clear hW6 d5 d6
        generalize W5.heap.size = g5 at *
        by_cases hv0 : v0 = 0
        · subst hv0
          have z2 := p5.c2
          have z2' : W6.cell? ⟨g5, 2, none⟩ = some (.int .u64 0) := z2
          clear z2
          go_wp2_with fail
          refine (HDV.out _ hr hr').mono ?_
          rintro e W7 ⟨A1, n1, c1, A2, n2, c2, rfl, r1, r2, h1, h1', h2, h2', d7⟩
          replace hr' := hr'.call d7
          replace bR := bthen bR d7
          clear HDV z2'
          go_wp2_with fail
          go_roundg (p % q)
          case rel => exact ⟨A', n', c', A2, n2, c2, q, rfl, rfl, hr', r2, hc', hc2', h2, h2', by have := Nat.mod_lt p HQ0.out; omega, by have := HPM.out; omega, by rw [Nat.gcd_comm, ← Nat.gcd_rec, Nat.gcd_comm]; exact HGC.out, bR⟩
          case measure => exact Nat.mod_lt p HQ0.out
        · obtain ⟨pp, aa, hct⟩ := HV.out.resolve_left hv0
          obtain ⟨fu0, fu1, fv0, fv1⟩ := hct.fits (by omega) (by omega)
          obtain ⟨nx, ny, hleh⟩ := hct.leh (X := p) (Y := q) (D := D) (ex := p % D) (ey := q % D) (by omega) (by rw [Nat.mul_comm]; exact (Nat.div_add_mod p D).symm) (by rw [Nat.mul_comm]; exact (Nat.div_add_mod q D).symm) (Nat.mod_lt _ hD) (Nat.mod_lt _ hD)
          have HL := Lib.hid hleh
          have hqB : q < 4294967296 ^ n' := by have := digits_lt q; rwa [hr'.len] at this
          have hqB1 : q < 4294967296 ^ (max n n') := Nat.lt_of_lt_of_le hqB (Nat.pow_le_pow_right (by omega) (by omega))
          have hqB2 : q < 4294967296 ^ (max n' n) := Nat.lt_of_lt_of_le hqB (Nat.pow_le_pow_right (by omega) (by omega))
          have hb0 : ((v0 : Int) == 0) = false := by simp; omega
          obtain ⟨z0, z1, z2, z3, z4, _⟩ := p5.all
          cases even
          · have H1 := Lib.hid (fun W (h : Rd .u32 W W.heap.size A n (digits p)) (h' : Rd .u32 W W.heap.size A' n' (digits q)) => combine_any (c := c') (c' := c) (R := nx) W h' h (digits_w32 _) (digits_w32 _) hln' hln fv0 fu0 (by rw [val_digits, val_digits, Nat.mul_comm, Nat.mul_comm u0]; exact (hleh.od rfl).1) (Nat.lt_of_le_of_lt hleh.leY hqB2))
            have H2 := Lib.hid (fun W (h : Rd .u32 W W.heap.size A n (digits p)) (h' : Rd .u32 W W.heap.size A' n' (digits q)) => combine_any (c := c) (c' := c') (R := ny) W h h' (digits_w32 _) (digits_w32 _) hln hln' fu1 fv1 (by rw [val_digits, val_digits, Nat.mul_comm, Nat.mul_comm v1]; exact (hleh.od rfl).2) (Nat.lt_trans hleh.ltY hqB1))
            clear hct hleh HV HDV hqB hqB1 hqB2 hA1
            go_wp2_with fail
            have d0 := bdrew' W6
            replace bR := bthen bR d0
            replace hr := hr.call d0
            replace hr' := hr'.call d0
            replace p5 := p5.call d0
            have y0 := p5.cells4
            go_region_held3 (fun w' => w'.cell? ⟨g5, 0, none⟩ = some (.int .u64 u0) ∧ w'.cell? ⟨g5, 1, none⟩ = some (.int .u64 u1) ∧ w'.cell? ⟨g5, 2, none⟩ = some (.int .u64 v0) ∧ w'.cell? ⟨g5, 3, none⟩ = some (.int .u64 v1))
              (first | (with_reducible exact y0) | (with_reducible exact y1) | (with_reducible exact y2))
              ((first
                | (go_at_call 141; (with_reducible refine (H1.out _ hr hr').mono ?_); rintro e U1 ⟨A1, n1, c1, rfl, r1, h1, h1', d1⟩; have y1 := (p5.call d1).cells4; have s1 := hr.call d1; have s1' := hr'.call d1)
                | (go_at_call 141; (with_reducible refine (H2.out _ s1 s1').mono ?_); rintro e U2 ⟨A2, n2, c2, rfl, r2, h2, h2', d2⟩; have y2 := ((p5.call d1).call d2).cells4)))
            replace bR := bthen (bthen bR d1) d2
            go_wp2_with fail
            go_roundg ny
            case rel => exact ⟨A1, n1, c1, A2, n2, c2, nx, rfl, rfl, r1.call d2, r2, h1, h1', h2, h2', by have := HL.out.lt; omega, by have := HL.out.leY; have := HPM.out; omega, by rw [HL.out.gcd]; exact HGC.out, bR⟩
            case measure => have := HL.out.ltY; omega
          · have H1 := Lib.hid (fun W (h : Rd .u32 W W.heap.size A n (digits p)) (h' : Rd .u32 W W.heap.size A' n' (digits q)) => combine_any (c := c) (c' := c') (R := nx) W h h' (digits_w32 _) (digits_w32 _) hln hln' fu0 fv0 (by rw [val_digits, val_digits, Nat.mul_comm, Nat.mul_comm v0]; exact (hleh.ev rfl).1) (Nat.lt_of_le_of_lt hleh.leY hqB1))
            have H2 := Lib.hid (fun W (h : Rd .u32 W W.heap.size A n (digits p)) (h' : Rd .u32 W W.heap.size A' n' (digits q)) => combine_any (c := c') (c' := c) (R := ny) W h' h (digits_w32 _) (digits_w32 _) hln' hln fv1 fu1 (by rw [val_digits, val_digits, Nat.mul_comm, Nat.mul_comm u1]; exact (hleh.ev rfl).2) (Nat.lt_trans hleh.ltY hqB2))
            clear hct hleh HV HDV hqB hqB1 hqB2 hA1
            go_wp2_with fail
            have d0 := bdrew' W6
            replace bR := bthen bR d0
            replace hr := hr.call d0
            replace hr' := hr'.call d0
            replace p5 := p5.call d0
            have y0 := p5.cells4
            go_region_held3 (fun w' => w'.cell? ⟨g5, 0, none⟩ = some (.int .u64 u0) ∧ w'.cell? ⟨g5, 1, none⟩ = some (.int .u64 u1) ∧ w'.cell? ⟨g5, 2, none⟩ = some (.int .u64 v0) ∧ w'.cell? ⟨g5, 3, none⟩ = some (.int .u64 v1))
              (first | (with_reducible exact y0) | (with_reducible exact y1) | (with_reducible exact y2))
              ((first
                | (go_at_call 141; (with_reducible refine (H1.out _ hr hr').mono ?_); rintro e U1 ⟨A1, n1, c1, rfl, r1, h1, h1', d1⟩; have y1 := (p5.call d1).cells4; have s1 := hr.call d1; have s1' := hr'.call d1)
                | (go_at_call 141; (with_reducible refine (H2.out _ s1 s1').mono ?_); rintro e U2 ⟨A2, n2, c2, rfl, r2, h2, h2', d2⟩; have y2 := ((p5.call d1).call d2).cells4)))
            replace bR := bthen (bthen bR d1) d2
            go_wp2_with fail
            go_roundg ny
            case rel => exact ⟨A1, n1, c1, A2, n2, c2, nx, rfl, rfl, r1.call d2, r2, h1, h1', h2, h2', by have := HL.out.lt; omega, by have := HL.out.leY; have := HPM.out; omega, by rw [HL.out.gcd]; exact HGC.out, bR⟩
            case measure => have := HL.out.ltY; omega
end Go.Proofs.YtociocengfjioaaGreatDoor
