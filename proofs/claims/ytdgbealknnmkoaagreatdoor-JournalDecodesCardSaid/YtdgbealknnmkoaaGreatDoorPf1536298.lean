/- Texts of one proof, put together by a program: each lemma is proved for all values of its variables, under the premises that it states. -/
import Derived.Lib.AppendIntMem
import Derived.Lib.ItoaLen
import Derived.Lib.ItoaMem
import Derived.Test.YtdgbealknnmkoaaGreatDoorPff0d0975
import Derived.Test.YtdgbealknnmkoaaGreatDoorPf60c83c6
import Derived.Test.YtdgbealknnmkoaaGreatDoorP1c869761
set_option linter.unusedVariables false
set_option linter.unusedSimpArgs false
namespace Go.Proofs.YtdgbealknnmkoaaGreatDoor
open Go.RowKit Go.Sort
def Tab (w : World) : Prop := Lib.TabIs Tryz.prog w "internal/strconv.uint64pow10" .u64 Lib.pow10Tab
theorem Tab.call {w w':World}(h:Tab w)(hb:Below w.heap.size w w'):Tab w':=Lib.tabBelow_of_tabIs h w' hb
set_option maxHeartbeats 1000000 in
set_option maxRecDepth 100000 in
theorem Np (u:Nat)(hu:u < 18446744073709551616)(w:World)(ht:Tab w) :
  Calls Tryz.prog 169 #[.int .u64 u,.int .i64 10] w (Gk w (.string (AM (dec u)))):=by
 rw[Aao];by_cases hs:u < 100
 ·have hd:decide ((u:Int) < 100)=true:=by simp;omega
  have HS:=Lib.hid (fun W=>Tryz.internal_strconv_small u hs W)
  go_enter Tryz.func169,Tryz.ntmps169
  go_wp2_with fail
  refine (HS.out _).mono ?_;rintro e w' ⟨rfl,rfl⟩;go_wp2
  go_ret
  exact ⟨rfl,Below.refl _ _⟩
 ·have hu1:1≤u:=by omega
  have hnd20:Lib.nDigits u≤20:=Lib.nDigits_le20 u hu;have hal:Tryz.prog.arrayLen 208=24:=by simp[Program.arrayLen,Tryz.underlying208]
  have hsl : ∀ W,(Instr.sliceAt 208 (.pointer (some ⟨w.heap.size,0,none⟩)) none (some (.int .i64 (Lib.nDigits u:Int))) none).run Tryz.prog W = .ok (.slice (some ⟨w.heap.size,0,none⟩) (Lib.nDigits u) 24) W:=fun W=>by
   rw[run_sliceAt_array_h W 208 ⟨w.heap.size,0,none⟩ (by simp[Program.arrayLen,Program.elem,Tryz.underlying208]) .i64 (Lib.nDigits u:Int) (by omega) (by rw[hal];omega)]
   go_simp
  have hH0:=Lib.holds_zero0 w 208 (Lib.nDigits u) (by omega)
  have hfmt:=Tryz.internal_strconv_formatBase10 w.heap.size 0 24 u (Array.replicate (Lib.nDigits u) 0) (w.alloc (.cells Lib.zeros24 208)) hH0 (by rw[Array.size_replicate];exact Lib.lt_pow_nDigits u) hu (by rw[Array.size_replicate];omega)
  rw[Array.size_replicate] at hfmt;have HH0:=Lib.hid hH0;have HF:=Lib.hid hfmt;have iu:(100:Int)≤(u:Int):=by omega
  have HN:=Lib.hid (Tryz.internal_strconv_numDigits u hu1 hu (w.alloc (.cells Lib.zeros24 208)) (Lib.tabIs_alloc ht _));clear hH0 hal hfmt;go_enter Tryz.func169,Tryz.ntmps169
  go_wp2_with fail
  refine HN.out.mono ?_;rintro e w' ⟨rfl,rfl⟩;go_wp2_with fail
  refine HF.out.mono ?_;rintro e w' ⟨rfl,k,v',dk,rfl,hF⟩;have hcv:(convert 31 9 (.slice (some ⟨w.heap.size,0,none⟩) (Lib.nDigits u) 24)).run Tryz.prog ((putRow (fun (b:UInt8)=>Value.int .u8 (b.toNat:Int)) (w.alloc (.cells Lib.zeros24 208)) w.heap.size 0 dk).drewN k) = .ok (.string ⟨(Lib.decDigits u).toArray⟩) ((putRow (fun (b:UInt8)=>Value.int .u8 (b.toNat:Int)) (w.alloc (.cells Lib.zeros24 208)) w.heap.size 0 dk).drewN k):=by
   have h:=run_convert_bytes_back (P:=Tryz.prog) ((putRow (fun (b:UInt8)=>Value.int .u8 (b.toNat:Int)) (w.alloc (.cells Lib.zeros24 208)) w.heap.size 0 dk).drewN k) 31 9 5 ⟨w.heap.size,0,none⟩ 24 (Lib.decDigits u) Tryz.underlying31 Tryz.underlying5 Tryz.underlying9 (fun j hj=>by
    rw[Lib.row_is_numeral hF j hj,Lib.add_plain,World.cell?_drewN];exact cell?_putRow (fun (b:UInt8)=>Value.int .u8 (b.toNat:Int)) _ w.heap.size 0 _ dk HH0.out (by rw[hF.size,Array.size_replicate]) j (by rw[hF.size];rw[Lib.decDigits_length] at hj;exact hj))
   rw[Lib.decDigits_length] at h;exact h
  obtain ⟨os,eo⟩:=Lib.fin_at w (.cells Lib.zeros24 208) dk k 0;have hb:Below w.heap.size w ((putRow (fun (b:UInt8)=>Value.int .u8 (b.toNat:Int)) (w.alloc (.cells Lib.zeros24 208)) w.heap.size 0 dk).drewN k):=by rw[eo];exact Lib.below_grow w.heap.size w (Nat.le_refl _) k os
  clear eo HH0 HF HN;generalize (putRow (fun (b:UInt8)=>Value.int .u8 (b.toNat:Int)) (w.alloc (.cells Lib.zeros24 208)) w.heap.size 0 dk).drewN k=W2 at *
  go_wp2
  go_ret
  exact ⟨rfl,hb⟩
set_option maxRecDepth 100000 in
theorem Lg (u:Nat)(hu:u < 18446744073709551616)(w:World)(ht:Tab w) :
  Calls Tryz.prog 134 #[.int .u64 u,.int .i64 10] w (Gk w (.string (AM (dec u)))):=by
 have HS:=Lib.hid (Np u hu w ht);generalize AM (dec u)=r at *;go_enter Tryz.func134,Tryz.ntmps134
 go_wp2_with fail
 refine HS.out.mono ?_;rintro e w' ⟨rfl,hb⟩;go_wp2
 go_ret
 exact ⟨rfl,hb⟩
end Go.Proofs.YtdgbealknnmkoaaGreatDoor
