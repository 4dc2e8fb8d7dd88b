/- Walk of integer.Format. -/
import Derived.Test.YtociocengfjioaaGreatDoorShelf
import Derived.Test.YtociocengfjioaaGreatDoorDec
import Derived.Test.YtociocengfjioaaGreatDoorIntF
import Derived.Lib.ItoaMem
import Derived.Lib.AppendIntMem
import Derived.Lib.ItoaLen
import Derived.Test.YtociocengfjioaaGreatDoorFmtPlain
import Derived.Test.YtociocengfjioaaGreatDoorIntH
import Derived.Deep.LoopGhost
/- Walk of FormatUint in base 10. -/
namespace Go.Proofs.YtociocengfjioaaGreatDoor
open Go.RowKit Go.Sort
set_option linter.unusedVariables false

/-- the table of powers of ten reads as it was laid -/
def Tab (w : World) : Prop := Lib.TabIs Tryz.prog w "internal/strconv.uint64pow10" .u64 Lib.pow10Tab
theorem Tab.call {w w' : World} (h : Tab w) (hb : Below w.heap.size w w') : Tab w' := Lib.tabBelow_of_tabIs h w' hb

set_option maxHeartbeats 1000000 in
set_option maxRecDepth 100000 in
theorem fmtUint_inner (u : Nat) (hu : u < 18446744073709551616) (w : World) (ht : Tab w) :
    Calls Tryz.prog 124 #[.int .u64 u, .int .i64 10] w (RetV w (.string (strOf (dec u)))) := by
  rw [dec_str]
  by_cases hs : u < 100
  · have hd : decide ((u : Int) < 100) = true := by simp; omega
    have HS := Lib.hid (fun W => Tryz.internal_strconv_small u hs W)
    go_enter Tryz.func124, Tryz.ntmps124
    go_wp2_with fail
    refine (HS.out _).mono ?_
    rintro e w' ⟨rfl, rfl⟩
    go_wp2
    go_ret
    exact ⟨rfl, Below.refl _ _⟩
  · have hu1 : 1 ≤ u := by omega
    have hnd20 : Lib.nDigits u ≤ 20 := Lib.nDigits_le20 u hu
    have hal : Tryz.prog.arrayLen 136 = 24 := by simp [Program.arrayLen, Tryz.underlying136]
    have hsl : ∀ W, (Instr.sliceAt 136 (.pointer (some ⟨w.heap.size, 0, none⟩)) none (some (.int .i64 (Lib.nDigits u : Int))) none).run Tryz.prog W = .ok (.slice (some ⟨w.heap.size, 0, none⟩) (Lib.nDigits u) 24) W := fun W => by
      rw [run_sliceAt_array_h W 136 ⟨w.heap.size, 0, none⟩ (by simp [Program.arrayLen, Program.elem, Tryz.underlying136]) .i64 (Lib.nDigits u : Int) (by omega) (by rw [hal]; omega)]
      go_simp
    have hH0 := Lib.holds_zero0 w 136 (Lib.nDigits u) (by omega)
    have hfmt := Tryz.internal_strconv_formatBase10 w.heap.size 0 24 u (Array.replicate (Lib.nDigits u) 0) (w.alloc (.cells Lib.zeros24 136)) hH0 (by rw [Array.size_replicate]; exact Lib.lt_pow_nDigits u) hu (by rw [Array.size_replicate]; omega)
    rw [Array.size_replicate] at hfmt
    have HH0 := Lib.hid hH0
    have HF := Lib.hid hfmt
    have iu : (100 : Int) ≤ (u : Int) := by omega
    have HN := Lib.hid (Tryz.internal_strconv_numDigits u hu1 hu (w.alloc (.cells Lib.zeros24 136)) (Lib.tabIs_alloc ht _))
    clear hH0 hal hfmt
    go_enter Tryz.func124, Tryz.ntmps124
    go_wp2_with fail
    refine HN.out.mono ?_
    rintro e w' ⟨rfl, rfl⟩
    go_wp2_with fail
    refine HF.out.mono ?_
    rintro e w' ⟨rfl, k, v', dk, rfl, hF⟩
    have hcv : (convert 93 9 (.slice (some ⟨w.heap.size, 0, none⟩) (Lib.nDigits u) 24)).run Tryz.prog ((putRow (fun (b : UInt8) => Value.int .u8 (b.toNat : Int)) (w.alloc (.cells Lib.zeros24 136)) w.heap.size 0 dk).drewN k) = .ok (.string ⟨(Lib.decDigits u).toArray⟩) ((putRow (fun (b : UInt8) => Value.int .u8 (b.toNat : Int)) (w.alloc (.cells Lib.zeros24 136)) w.heap.size 0 dk).drewN k) := by
      have h := run_convert_bytes_back (P := Tryz.prog) ((putRow (fun (b : UInt8) => Value.int .u8 (b.toNat : Int)) (w.alloc (.cells Lib.zeros24 136)) w.heap.size 0 dk).drewN k) 93 9 5 ⟨w.heap.size, 0, none⟩ 24 (Lib.decDigits u) Tryz.underlying93 Tryz.underlying5 Tryz.underlying9 (fun j hj => by
        rw [Lib.row_is_numeral hF j hj, Lib.add_plain, World.cell?_drewN]
        exact cell?_putRow (fun (b : UInt8) => Value.int .u8 (b.toNat : Int)) _ w.heap.size 0 _ dk HH0.out (by rw [hF.size, Array.size_replicate]) j (by rw [hF.size]; rw [Lib.decDigits_length] at hj; exact hj))
      rw [Lib.decDigits_length] at h
      exact h
    obtain ⟨os, eo⟩ := Lib.fin_at w (.cells Lib.zeros24 136) dk k 0
    have hb : Below w.heap.size w ((putRow (fun (b : UInt8) => Value.int .u8 (b.toNat : Int)) (w.alloc (.cells Lib.zeros24 136)) w.heap.size 0 dk).drewN k) := by rw [eo]; exact Lib.below_grow w.heap.size w (Nat.le_refl _) k os
    clear eo HH0 HF HN
    generalize (putRow (fun (b : UInt8) => Value.int .u8 (b.toNat : Int)) (w.alloc (.cells Lib.zeros24 136)) w.heap.size 0 dk).drewN k = W2 at *
    go_wp2
    go_ret
    exact ⟨rfl, hb⟩

set_option maxRecDepth 100000 in
theorem fmtUint_any (u : Nat) (hu : u < 18446744073709551616) (w : World) (ht : Tab w) :
    Calls Tryz.prog 105 #[.int .u64 u, .int .i64 10] w (RetV w (.string (strOf (dec u)))) := by
  have HS := Lib.hid (fmtUint_inner u hu w ht)
  generalize strOf (dec u) = r at *
  go_enter Tryz.func105, Tryz.ntmps105
  go_wp2_with fail
  refine HS.out.mono ?_
  rintro e w' ⟨rfl, hb⟩
  go_wp2
  go_ret
  exact ⟨rfl, hb⟩
end Go.Proofs.YtociocengfjioaaGreatDoor

namespace Go.Proofs.YtociocengfjioaaGreatDoor
open Go.RowKit
set_option linter.unusedVariables false

theorem Mut.grownO {k : IntKind} {e : TypeId} {w w' : World} {g : Nat} {xs : List Nat} {row : Option Nat} (h : Mut k e w g xs) (hg : w.grownBy w' row) (hne : row ≠ some g) : Mut k e w' g xs := h.keep (hg.block g h.lt (fun e => hne e.symm))
theorem Own.kept {k : IntKind} {e : TypeId} {w0 w w' : World} {v : Value} {xs : List Nat} {g : Nat} (h : Own k e w0 w v xs) (hg : w.grownBy w' (some g)) (hne : v.ownBlock ≠ some g) (hB : w0.heap.size ≤ g) : Own k e w0 w' v xs :=
  ⟨h.1.kept hg (.inr hne), h.2.grown hg h.2.size (fun k hk => by injection hk with hk; omega)⟩

/-- the state of the first loop of Format -/
def FmtS (w wr : World) (a mm : Nat) (mv pv : Value) : Prop :=
  ∃ (g k c : Nat) (ps : List Nat), mv = .slice (some ⟨g, 0, none⟩) k c ∧ k ≤ c ∧ c ≤ 9223372036854775807 ∧ Mut .u32 86 wr g (digits mm) ∧ (digits mm).length = k ∧ mm ≤ a ∧
    Own .u32 86 w wr pv ps ∧ pv.ownBlock ≠ some g ∧ w.heap.size ≤ g ∧ ps ++ parts9 mm = parts9 a
theorem Tryz.elemU8 : IsElem Tryz.prog .u8 5 1 := by unfold IsElem; kernel_rfl

set_option maxHeartbeats 1000000 in
set_option maxRecDepth 100000 in
theorem format_any {s : Bool} {A : Option Addr} {n c : Nat} {x : Int} (w : World) (ha : AInt w s A n c x) (hn : n ≤ 1073741824) (ht : Tab w) :
    Calls Tryz.prog 61 #[.agg #[.bool s, .slice A n c]] w (RetV w (.string (strOf (decz s x.natAbs)))) := by
  obtain ⟨m, hm, r, HA⟩ := ha.still
  clear ha
  generalize x.natAbs = a at *
  have HC := Lib.hid (fun W h => clone_any (c := m) (A := A) (n := m) (xs := digits a) W h (by omega))
  have ka : m = 0 ↔ a = 0 := by rw [← r.len]; exact digits_nil_iff a
  have hla : (digits a).length = m := r.len
  have HLA := Lib.hid hla
  clear hla
  obtain ⟨W, hW⟩ : ∃ W, W = w.alloc (.cells #[.bool s, .slice A n c] 24) := ⟨_, rfl⟩
  have bW : Below w.heap.size w W := by rw [hW]; exact bone w _
  have pa : Pr W w.heap.size s A n c := by rw [hW]; exact Pr.new w s A n c
  have a0 := pa.cell0
  have a1 := pa.cell1
  go_enter Tryz.func61, Tryz.ntmps61
  go_wp2_with fail
  rw [← hW]
  clear hW
  refine (HA.out _ bW).mono ?_
  rintro e W ⟨rfl, rfl⟩
  go_wp2_with fail
  refine (HC.out _ (r.call bW)).mono ?_
  rintro e w1 ⟨v, rfl, o1⟩
  have d1 := o1.2
  clear a0 a1 HA HC
  by_cases h0 : m = 0
  · obtain rfl := ka.1 h0
    subst h0
    obtain ⟨A1, n1, c1, rfl, r1, h1, h1'⟩ := o1.form'
    have hn1 : n1 = 0 := by have := r1.len; rw [digits_zero] at this; simpa using this.symm
    subst hn1
    clear o1
    go_wp2
    go_ret
    exact ⟨by rw [decz_zero]; rfl, bthen bW d1⟩
  · have ha0 : a ≠ 0 := fun e => h0 (ka.2 e)
    obtain ⟨g, c1, hv, m1, hg, hc1, hc1'⟩ := o1.mut (by rw [HLA.out]; omega)
    rw [HLA.out] at hv hc1
    subst hv
    have hne : ((m : Int) == 0) = false := by simp; omega
    clear o1 ka
    have HP := Lib.hid (parts9_digits a)
    go_wp2_with fail
    go_loopg [3, 4] a (fun mm mv pv wr => Hid (FmtS W wr a mm mv pv))
    case atStart => exact ⟨g, m, c1, [], rfl, hc1, hc1', m1, HLA.out, Nat.le_refl _, Own.nil d1, by simp [Value.ownBlock], hg, rfl⟩
    case round =>
      clear m1 d1 hg hc1 hc1'
      obtain ⟨mm, rfl⟩ : ∃ mm, mm = gk := ⟨_, rfl⟩
      obtain ⟨g, k, c2, ps, rfl, hk, hk', mR, hlk, hma, oR, hgo, hgW, hps⟩ := hrel.out
      have hkm : k ≤ m := by rw [← hlk, ← HLA.out]; exact digits_len_mono hma
      have HLK := Lib.hid hlk
      have HPS := Lib.hid hps
      have HGO := Lib.hid hgo
      have hpl : ps.length + (parts9 mm).length ≤ 2 * m := by have h := HP.out; rw [← HPS.out, HLA.out, List.length_append] at h; exact h
      clear hrel hlk hps hgo
      by_cases hk0 : k = 0
      · subst hk0
        obtain rfl := (digits_nil_iff mm).1 HLK.out
        rw [parts9_zero, List.append_nil] at HPS
        rw [parts9_zero] at hpl
        have hpl3 : ps.length ≤ 2 * m := by simpa using hpl
        have hpw : ∀ x ∈ ps, x < 1000000000 := by rw [HPS.out]; exact parts9_lt a
        have HPW := Lib.hid hpw
        have HTX : Hid (txt ps = dec a) := by unfold Hid; rw [HPS.out]; exact txt_parts9 a ha0
        have bR := oR.2
        have pR := pa.call bR
        have c0 := pR.cell0
        obtain ⟨Ap, N, cp, rfl, rp, hp1, hp2⟩ := oR.form'
        have HPN := Lib.hid rp.len
        have hpn : N ≤ 2 * m := by rw [← HPN.out]; exact hpl3
        have hp0 : 0 < N := by
          rw [← HPN.out, HPS.out, parts9_pos ha0]; simp
        clear hpw hpl hpl3 oR HGO hgW mR hk hk' HLK hma hkm hne
        replace bW := bthen bW bR
        obtain ⟨wo, rfl⟩ : ∃ wo : World, wo = wr := ⟨_, rfl⟩
        go_wp2_with (at_make; refine wpList_make_lst (kx := .i64) (ky := .i64) (n := 0) (c := 9 * N + 1) Tryz.elemU8 Tryz.underlying93 rfl rfl rfl (congrArg (Value.int .i64) (by omega)) (by omega) (by omega) (by omega) ?_)
        intro w2 B2 b2 hs2
        have o2 := B2.own0 b2 (Nat.le_refl _) (by omega)
        have p2 := pR.call b2
        have c0 := p2.cell0
        obtain ⟨pre, hpre⟩ : ∃ pre : List Nat, pre = (if s = true ∧ a ≠ 0 then [45] else []) := ⟨_, rfl⟩
        have HPRE : Hid (pre ++ dec a = decz s a) := by unfold Hid; rw [hpre]; rfl
        have hprl : pre.length ≤ 1 := by rw [hpre]; split <;> simp
        cases s
        · obtain rfl : pre = [] := by rw [hpre]; simp
          clear hpre
          go_wp2_with fail
          have o3 := o2
          clear o2 B2 b2 p2 pR pa c0 hprl
          obtain ⟨pre, hpre⟩ : ∃ pre : List Nat, pre = [] := ⟨_, rfl⟩
          rw [← hpre] at o3 HPRE
          have hprl : pre.length ≤ 1 := by rw [hpre]; simp
          clear hpre
          go_loopg [5, 6] N (fun j ov i wx => j ≤ N ∧ i = .int .i64 ((j : Int) - 1) ∧ Own .u8 5 wo wx ov (pre ++ txt (ps.drop j)))
          case atStart => exact ⟨Nat.le_refl _, rfl, by rw [List.drop_of_length_le (by rw [HPN.out]; omega), show txt [] = [] from rfl, List.append_nil]; exact o3⟩
          case round =>
            clear o3
            obtain ⟨j, rfl⟩ : ∃ j, j = gk := ⟨_, rfl⟩
            obtain ⟨hj, rfl, oX⟩ := hrel
            have bX := oX.2
            by_cases hj0 : j = 0
            · subst hj0
              obtain ⟨Ax, nx, cx, rfl, rx, hx1, hx2⟩ := oX.form'
              rw [List.drop_zero, HTX.out, HPRE.out] at rx
              clear oX
              generalize decz _ a = fin at *
              go_wp2_with (refine wpList_string_rd Tryz.underlying93 Tryz.underlying5 Tryz.underlying9 rx rfl rfl rfl ?_)
              go_ret
              exact ⟨rfl, bthen bW bX⟩
            · obtain ⟨j, rfl⟩ : ∃ k, j = k + 1 := ⟨j - 1, by omega⟩
              have e1 : (((j + 1 : Nat) : Int) - 1) = (j : Int) := by omega
              rw [e1]
              clear e1 hj0
              obtain ⟨b, off, rfl, hbB, hcell⟩ := (rp.below bX).at_ (j := j) (by omega)
              have hpb : ps.getD j 0 < 1000000000 := getD_lt ps j _ HPW.out (by omega)
              have HST := Lib.hid (txt_step ps j (by rw [HPN.out]; omega) hpb)
              rw [HPN.out] at HST
              have htl : (txt (ps.drop (j + 1))).length ≤ 9 * N := by
                have := txt_len (ps.drop (j + 1)) (fun x hx => HPW.out x (List.mem_of_mem_drop hx))
                rw [List.length_drop, HPN.out] at this
                omega
              generalize txt (ps.drop (j + 1)) = tx at *
              obtain ⟨tx', htx'⟩ : ∃ tx', tx' = txt (ps.drop j) := ⟨_, rfl⟩
              rw [← htx'] at HST
              have HTX' := Lib.hid htx'
              clear htx'
              generalize ps.getD j 0 = p at *
              have HF := Lib.hid (fmtUint_any p (by omega) wr (ht.call (bthen bW bX)))
              have hdl : (dec p).length ≤ 9 := dec_len_le (n := p) (k := 8) hpb
              have HB : Hid (bytesOf (strOf (dec p)) = dec p) := bytesOf_strOf _ (dec_lt256 p)
              have hsz : (strOf (dec p)).size = (dec p).length := strOf_size _
              have HSZ := Lib.hid hsz
              have hsl : (strOf (dec p)).size ≤ 9 := by omega
              clear hsz hdl
              generalize strOf (dec p) = st at *
              go_wp2_with fail
              refine HF.out.mono ?_
              rintro e w5 ⟨rfl, b5⟩
              have o5 := oX.later b5
              have htl2 : (pre ++ tx).length ≤ 9 * N + 1 := by rw [List.length_append]; omega
              have HT0 : Hid (∀ zs, pre ++ (tx ++ zs) = (pre ++ tx) ++ zs) := fun zs => (List.append_assoc _ _ _).symm
              generalize pre ++ tx = T0 at *
              clear HF oX hcell htl hprl
              by_cases hjN : j + 1 < N
              · have hd1 : decide ((j : Int) < (N : Int) - 1) = true := by simp; omega
                rw [if_pos hjN] at HST
                go_wp2_with fail
                go_loopg [5, 56] (9 - st.size) (fun q ov cnt wx => ∃ i : Nat, i + q = 9 - st.size ∧ cnt = .int .i64 i ∧ Own .u8 5 wo wx ov (T0 ++ List.replicate i 48))
                case atStart => exact ⟨0, by omega, rfl, by rw [List.replicate_zero, List.append_nil]; exact o5⟩
                case round =>
                  clear o5 b5 bX
                  obtain ⟨i, hi, rfl, oY⟩ := hrel
                  by_cases hi0 : gk = 0
                  · have hcl : ((i : Int) < 9 - (st.size : Int)) = False := by simp; omega
                    have hd2 : decide ((i : Int) < 9 - (st.size : Int)) = false := by simp; omega
                    have HII : Hid (i = 9 - (dec p).length) := by unfold Hid; have := HSZ.out; omega
                    have hll : (T0 ++ List.replicate i 48).length ≤ 9 * N + 10 := by rw [List.length_append, List.length_replicate]; omega
                    have HRE : Hid (pre ++ tx' = T0 ++ List.replicate i 48 ++ dec p) := by unfold Hid; rw [HST.out, HT0.out, ← HII.out, List.append_assoc]
                    generalize T0 ++ List.replicate i 48 = T1 at *
                    clear hcl hi hi0
                    go_wp2_with (at_builtin; refine wpList_append_str Tryz.elemU8 Tryz.underlying93 Tryz.underlying9 oY rfl rfl rfl rfl (by omega) ?_; intro v6 w6 o6 _)
                    rw [HB.out, ← HRE.out] at o6
                    go_wp2
                    go_roundg j
                    case rel => exact ⟨by omega, by go_num, by rw [← HTX'.out]; exact o6⟩
                    case measure => omega
                  · have hd2 : decide ((i : Int) < 9 - (st.size : Int)) = true := by simp; omega
                    have hll : (T0 ++ List.replicate i 48).length ≤ 9 * N + 10 := by rw [List.length_append, List.length_replicate]; omega
                    go_wp2_with (at_builtin; refine wpList_append_lst Tryz.elemU8 Tryz.underlying93 (oY.alloc _) (Rd.one .u8 wr _ rfl) rfl rfl rfl rfl (by omega) (by omega) ?_; intro v3 w3 o3 _ _)
                    go_roundg (gk - 1)
                    case rel => exact ⟨i + 1, by omega, by go_num, by rw [List.replicate_succ', ← List.append_assoc]; exact o3⟩
                    case measure => omega
              · have hd1 : decide ((j : Int) < (N : Int) - 1) = false := by simp; omega
                rw [if_neg hjN, List.replicate_zero, List.nil_append] at HST
                have HRE : Hid (pre ++ tx' = T0 ++ dec p) := by unfold Hid; rw [HST.out, HT0.out]
                go_wp2_with (at_builtin; refine wpList_append_str Tryz.elemU8 Tryz.underlying93 Tryz.underlying9 o5 rfl rfl rfl rfl (by omega) ?_; intro v6 w6 o6 _)
                rw [HB.out, ← HRE.out] at o6
                go_wp2
                go_roundg j
                case rel => exact ⟨by omega, by go_num, by rw [← HTX'.out]; exact o6⟩
                case measure => omega
        · obtain rfl : pre = [45] := by rw [hpre]; simp [ha0]
          clear hpre
          go_wp2_with (at_builtin; refine wpList_append_lst Tryz.elemU8 Tryz.underlying93 (o2.alloc _) (Rd.one .u8 w2 _ rfl) rfl rfl rfl rfl (by simp) (by simp) ?_; intro v3 w3 o3 _ _)
          simp only [List.nil_append] at o3
          clear o2 B2 b2 p2 pR pa c0 hprl
          obtain ⟨pre, hpre⟩ : ∃ pre : List Nat, pre = [45] := ⟨_, rfl⟩
          rw [← hpre] at o3 HPRE
          have hprl : pre.length ≤ 1 := by rw [hpre]; simp
          clear hpre
          go_loopg [5, 6] N (fun j ov i wx => j ≤ N ∧ i = .int .i64 ((j : Int) - 1) ∧ Own .u8 5 wo wx ov (pre ++ txt (ps.drop j)))
          case atStart => exact ⟨Nat.le_refl _, rfl, by rw [List.drop_of_length_le (by rw [HPN.out]; omega), show txt [] = [] from rfl, List.append_nil]; exact o3⟩
          case round =>
            clear o3
            obtain ⟨j, rfl⟩ : ∃ j, j = gk := ⟨_, rfl⟩
            obtain ⟨hj, rfl, oX⟩ := hrel
            have bX := oX.2
            by_cases hj0 : j = 0
            · subst hj0
              obtain ⟨Ax, nx, cx, rfl, rx, hx1, hx2⟩ := oX.form'
              rw [List.drop_zero, HTX.out, HPRE.out] at rx
              clear oX
              generalize decz _ a = fin at *
              go_wp2_with (refine wpList_string_rd Tryz.underlying93 Tryz.underlying5 Tryz.underlying9 rx rfl rfl rfl ?_)
              go_ret
              exact ⟨rfl, bthen bW bX⟩
            · obtain ⟨j, rfl⟩ : ∃ k, j = k + 1 := ⟨j - 1, by omega⟩
              have e1 : (((j + 1 : Nat) : Int) - 1) = (j : Int) := by omega
              rw [e1]
              clear e1 hj0
              obtain ⟨b, off, rfl, hbB, hcell⟩ := (rp.below bX).at_ (j := j) (by omega)
              have hpb : ps.getD j 0 < 1000000000 := getD_lt ps j _ HPW.out (by omega)
              have HST := Lib.hid (txt_step ps j (by rw [HPN.out]; omega) hpb)
              rw [HPN.out] at HST
              have htl : (txt (ps.drop (j + 1))).length ≤ 9 * N := by
                have := txt_len (ps.drop (j + 1)) (fun x hx => HPW.out x (List.mem_of_mem_drop hx))
                rw [List.length_drop, HPN.out] at this
                omega
              generalize txt (ps.drop (j + 1)) = tx at *
              obtain ⟨tx', htx'⟩ : ∃ tx', tx' = txt (ps.drop j) := ⟨_, rfl⟩
              rw [← htx'] at HST
              have HTX' := Lib.hid htx'
              clear htx'
              generalize ps.getD j 0 = p at *
              have HF := Lib.hid (fmtUint_any p (by omega) wr (ht.call (bthen bW bX)))
              have hdl : (dec p).length ≤ 9 := dec_len_le (n := p) (k := 8) hpb
              have HB : Hid (bytesOf (strOf (dec p)) = dec p) := bytesOf_strOf _ (dec_lt256 p)
              have hsz : (strOf (dec p)).size = (dec p).length := strOf_size _
              have HSZ := Lib.hid hsz
              have hsl : (strOf (dec p)).size ≤ 9 := by omega
              clear hsz hdl
              generalize strOf (dec p) = st at *
              go_wp2_with fail
              refine HF.out.mono ?_
              rintro e w5 ⟨rfl, b5⟩
              have o5 := oX.later b5
              have htl2 : (pre ++ tx).length ≤ 9 * N + 1 := by rw [List.length_append]; omega
              have HT0 : Hid (∀ zs, pre ++ (tx ++ zs) = (pre ++ tx) ++ zs) := fun zs => (List.append_assoc _ _ _).symm
              generalize pre ++ tx = T0 at *
              clear HF oX hcell htl hprl
              by_cases hjN : j + 1 < N
              · have hd1 : decide ((j : Int) < (N : Int) - 1) = true := by simp; omega
                rw [if_pos hjN] at HST
                go_wp2_with fail
                go_loopg [5, 56] (9 - st.size) (fun q ov cnt wx => ∃ i : Nat, i + q = 9 - st.size ∧ cnt = .int .i64 i ∧ Own .u8 5 wo wx ov (T0 ++ List.replicate i 48))
                case atStart => exact ⟨0, by omega, rfl, by rw [List.replicate_zero, List.append_nil]; exact o5⟩
                case round =>
                  clear o5 b5 bX
                  obtain ⟨i, hi, rfl, oY⟩ := hrel
                  by_cases hi0 : gk = 0
                  · have hcl : ((i : Int) < 9 - (st.size : Int)) = False := by simp; omega
                    have hd2 : decide ((i : Int) < 9 - (st.size : Int)) = false := by simp; omega
                    have HII : Hid (i = 9 - (dec p).length) := by unfold Hid; have := HSZ.out; omega
                    have hll : (T0 ++ List.replicate i 48).length ≤ 9 * N + 10 := by rw [List.length_append, List.length_replicate]; omega
                    have HRE : Hid (pre ++ tx' = T0 ++ List.replicate i 48 ++ dec p) := by unfold Hid; rw [HST.out, HT0.out, ← HII.out, List.append_assoc]
                    generalize T0 ++ List.replicate i 48 = T1 at *
                    clear hcl hi hi0
                    go_wp2_with (at_builtin; refine wpList_append_str Tryz.elemU8 Tryz.underlying93 Tryz.underlying9 oY rfl rfl rfl rfl (by omega) ?_; intro v6 w6 o6 _)
                    rw [HB.out, ← HRE.out] at o6
                    go_wp2
                    go_roundg j
                    case rel => exact ⟨by omega, by go_num, by rw [← HTX'.out]; exact o6⟩
                    case measure => omega
                  · have hd2 : decide ((i : Int) < 9 - (st.size : Int)) = true := by simp; omega
                    have hll : (T0 ++ List.replicate i 48).length ≤ 9 * N + 10 := by rw [List.length_append, List.length_replicate]; omega
                    go_wp2_with (at_builtin; refine wpList_append_lst Tryz.elemU8 Tryz.underlying93 (oY.alloc _) (Rd.one .u8 wr _ rfl) rfl rfl rfl rfl (by omega) (by omega) ?_; intro v3 w3 o3 _ _)
                    go_roundg (gk - 1)
                    case rel => exact ⟨i + 1, by omega, by go_num, by rw [List.replicate_succ', ← List.append_assoc]; exact o3⟩
                    case measure => omega
              · have hd1 : decide ((j : Int) < (N : Int) - 1) = false := by simp; omega
                rw [if_neg hjN, List.replicate_zero, List.nil_append] at HST
                have HRE : Hid (pre ++ tx' = T0 ++ dec p) := by unfold Hid; rw [HST.out, HT0.out]
                go_wp2_with (at_builtin; refine wpList_append_str Tryz.elemU8 Tryz.underlying93 Tryz.underlying9 o5 rfl rfl rfl rfl (by omega) ?_; intro v6 w6 o6 _)
                rw [HB.out, ← HRE.out] at o6
                go_wp2
                go_roundg j
                case rel => exact ⟨by omega, by go_num, by rw [← HTX'.out]; exact o6⟩
                case measure => omega
      · have hk1 : decide (0 < (k : Int)) = true := by simp; omega
        have hk2 : 0 < k := by omega
        have HD := Lib.hid (divWordInPlace_any (c := c2) (d := 1000000000) wr mR (digits_w32 mm) HLK.out (by omega) (by omega) (by omega))
        go_wp2_with fail
        refine HD.out.mono ?_
        rintro e w3 ⟨qs, rfl, hql, hqw, hqv, m3, hgr3, hsz3⟩
        rw [val_digits] at hqv ⊢
        have hmm0 : mm ≠ 0 := fun e => hk0 (by rw [← HLK.out]; exact (digits_nil_iff mm).2 e)
        have HPP := Lib.hid (parts9_pos hmm0)
        have hrl : mm % 1000000000 < 1000000000 := Nat.mod_lt _ (by omega)
        have hrr : mm / 1000000000 < mm := by omega
        have hpl2 : ps.length + 1 ≤ 2 * m := by rw [HPP.out, List.length_cons] at hpl; omega
        have HQL := Lib.hid (hql.trans HLK.out)
        have HQV := Lib.hid hqv
        have HQW := Lib.hid hqw
        have o3 := oR.kept hgr3 HGO.out hgW
        clear hql hqv hqw HD mR oR hgr3 hsz3 hpl
        generalize mm / 1000000000 = q at *
        generalize mm % 1000000000 = d at *
        go_wp2_with (at_builtin; refine wpList_append_lst Tryz.elemU32 Tryz.underlying22 (o3.alloc _) (Rd.one .u32 w3 _ rfl) rfl rfl rfl rfl (by omega) (by omega) ?_; intro v4 w4 o4 g4 f4)
        have m4 := (m3.alloc (.cells #[.int .u32 (d : Int)] 86)).grownO g4 (HGO.out)
        have HG4 : Hid (v4.ownBlock ≠ some g) := by
          rcases f4 with e | e <;> unfold Hid <;> rw [e]
          · exact HGO.out
          · intro h; injection h with h; have := m3.lt; simp at h; omega
        clear m3 o3 g4 f4
        have r4 := m4.rd
        rw [HQL.out] at r4
        have HTR := Lib.hid (trim_any (c := c2) w4 r4 HQW.out hk hk')
        refine HTR.out.mono ?_
        rintro e w5 ⟨m5, hm5, ht5, rfl, rfl⟩
        have hm5' : m5 ≤ k := by rw [← HQL.out]; exact hm5
        have HT5 := Lib.hid ht5
        have hlt5 : m5 < k ∨ True := .inr trivial
        clear ht5 hm5 HTR
        go_wp2
        go_roundg q
        case rel =>
          refine ⟨g, m5, m5, ps ++ [d], rfl, Nat.le_refl _, by omega, ?_, ?_, by omega, o4, HG4.out, hgW, ?_⟩
          · have := m4.take m5; rw [HT5.out, HQV.out] at this; exact this
          · rw [← HQV.out, ← HT5.out, List.length_take, HQL.out]; omega
          · rw [← HPS.out, HPP.out]; simp
        case measure => exact hrr
end Go.Proofs.YtociocengfjioaaGreatDoor
