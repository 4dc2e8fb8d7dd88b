/-
  NARROWER THAN 'FOR EVERY INPUT', by the rows' own cells (each row's printed sentence says how): IntegerDivision: laid · IntegerInt64: laid · IntegerTexts: laid · IntegerRing: laid · IntegerEuclid: laid · IntegerArithmetic: laid · IntegerPowers: laid · IntegerDivisors: laid · IntegerBezout: laid.
  DERIVED. THE GIVEN ROWS OF THIS SEAT. 9 by the template 'for every input the law returns true; each argument reads behind the call as it read before'; 0 by the template 'total and deterministic' (their statements: YteicjbinginamaaDoorTotals.lean).
  GIVEN WITH THE SEED: the statements are not yours to turn. If you find one false, say at which input.
  Laid BY PROGRAM, IN A SANDBOX (cutbox-rows.mjs): the forced cells as the released guide's own fill.sh prints them over the translation 982977d25ba4a44b… (all of the seat's roots in one cut). By AI agents, Wed Nov 11 2026. No macro, syntax, notation, axiom, sorry.
-/
import Derived.Test.YteicjbinginamaaDoorChecked
import GoSem.Claim
import GoSem.ClaimJoined
import GoSem.ClaimMapViews
import Derived.JoinedTies
import Derived.KernelRfl
namespace Go.Proofs.YteicjbinginamaaDoor
/- THE CELL 'sum', in the pinned program and in every row, IS THE sha256 OF THE DUMP (.gsa) THAT YteicjbinginamaaDoorProg.lean LOADS. Nothing in Lean hashes anything: it is a label: what it is worth is what the hold of that sum in a sandbox is worth. -/
noncomputable def Tryd.pinned : Pinned := { name := "yteicjbinginamaadoor", sum := "982977d25ba4a44b9a68e6b771fa2bf893a48ae0aa7a2b6c2593667d0af33a30", checked := Tryd.checked }
namespace Rows
def none {H : Type} : Left H := { results := [], args := [] }

/- WHAT THE LISTED PACKAGE-LEVEL VARIABLES READ AS WHEN THE CALL BEGINS. Each datum BY PROGRAM (the guide's laid-datum.mjs) off the statement by which the dump's own 'gosem.cut.vars' lays the variable. In a bare row this is a premise. The card (YteicjbinginamaaDoorCards.lean) ties it to the program's text. -/
def laid_math_bits_deBruijn32tab {H : Type} : DataW H := .agg [.lit (.int .u8 0), .lit (.int .u8 1), .lit (.int .u8 28), .lit (.int .u8 2), .lit (.int .u8 29), .lit (.int .u8 14), .lit (.int .u8 24), .lit (.int .u8 3), .lit (.int .u8 30), .lit (.int .u8 22), .lit (.int .u8 20), .lit (.int .u8 15), .lit (.int .u8 25), .lit (.int .u8 17), .lit (.int .u8 4), .lit (.int .u8 8), .lit (.int .u8 31), .lit (.int .u8 27), .lit (.int .u8 13), .lit (.int .u8 23), .lit (.int .u8 21), .lit (.int .u8 19), .lit (.int .u8 16), .lit (.int .u8 7), .lit (.int .u8 26), .lit (.int .u8 12), .lit (.int .u8 18), .lit (.int .u8 6), .lit (.int .u8 11), .lit (.int .u8 5), .lit (.int .u8 10), .lit (.int .u8 9)]
def laid_math_bits_deBruijn64tab {H : Type} : DataW H := .agg [.lit (.int .u8 0), .lit (.int .u8 1), .lit (.int .u8 56), .lit (.int .u8 2), .lit (.int .u8 57), .lit (.int .u8 49), .lit (.int .u8 28), .lit (.int .u8 3), .lit (.int .u8 61), .lit (.int .u8 58), .lit (.int .u8 42), .lit (.int .u8 50), .lit (.int .u8 38), .lit (.int .u8 29), .lit (.int .u8 17), .lit (.int .u8 4), .lit (.int .u8 62), .lit (.int .u8 47), .lit (.int .u8 59), .lit (.int .u8 36), .lit (.int .u8 45), .lit (.int .u8 43), .lit (.int .u8 51), .lit (.int .u8 22), .lit (.int .u8 53), .lit (.int .u8 39), .lit (.int .u8 33), .lit (.int .u8 30), .lit (.int .u8 24), .lit (.int .u8 18), .lit (.int .u8 12), .lit (.int .u8 5), .lit (.int .u8 63), .lit (.int .u8 55), .lit (.int .u8 48), .lit (.int .u8 27), .lit (.int .u8 60), .lit (.int .u8 41), .lit (.int .u8 37), .lit (.int .u8 16), .lit (.int .u8 46), .lit (.int .u8 35), .lit (.int .u8 44), .lit (.int .u8 21), .lit (.int .u8 52), .lit (.int .u8 32), .lit (.int .u8 23), .lit (.int .u8 11), .lit (.int .u8 54), .lit (.int .u8 26), .lit (.int .u8 40), .lit (.int .u8 15), .lit (.int .u8 34), .lit (.int .u8 20), .lit (.int .u8 31), .lit (.int .u8 10), .lit (.int .u8 25), .lit (.int .u8 14), .lit (.int .u8 19), .lit (.int .u8 9), .lit (.int .u8 13), .lit (.int .u8 8), .lit (.int .u8 7), .lit (.int .u8 6)]
def laid_internal_strconv_uint64pow10 {H : Type} : DataW H := .agg [.lit (.int .u64 1), .lit (.int .u64 10), .lit (.int .u64 100), .lit (.int .u64 1000), .lit (.int .u64 10000), .lit (.int .u64 100000), .lit (.int .u64 1000000), .lit (.int .u64 10000000), .lit (.int .u64 100000000), .lit (.int .u64 1000000000), .lit (.int .u64 10000000000), .lit (.int .u64 100000000000), .lit (.int .u64 1000000000000), .lit (.int .u64 10000000000000), .lit (.int .u64 100000000000000), .lit (.int .u64 1000000000000000), .lit (.int .u64 10000000000000000), .lit (.int .u64 100000000000000000), .lit (.int .u64 1000000000000000000), .lit (.int .u64 10000000000000000000)]

/-- 'pairinglaw1.IntegerDivision': WHATEVER THE INPUT: true; the input reads as it did. -/
def integerDivisionSpec : ChangeSpec := { name := "integerDivision", fn := fun _ => fun
  | [d1, d2] => { results := [.lit (.bool true)], args := [d1, d2] }
  | _ => none }
def integerDivisionRow : OpenClaim := { program := "yteicjbinginamaadoor", sum := "982977d25ba4a44b9a68e6b771fa2bf893a48ae0aa7a2b6c2593667d0af33a30", func := "pairing/pairinglaw1.IntegerDivision", spec := "integerDivision", named := ["internal/strconv.uint64pow10", "math/bits.deBruijn32tab", "math/bits.deBruijn64tab"], apart := false, laid := [("math/bits.deBruijn32tab", laid_math_bits_deBruijn32tab), ("math/bits.deBruijn64tab", laid_math_bits_deBruijn64tab), ("internal/strconv.uint64pow10", laid_internal_strconv_uint64pow10)] }
def IntegerDivisionSaid : Prop := integerDivisionRow.holds Tryd.pinned (OpenSpec.ofChange integerDivisionSpec)

/-- ITS FALSE NEIGHBOUR: 'it returns false'. Refute it at one input. -/
def integerDivisionWrong : ChangeSpec := { name := "integerDivision", fn := fun _ => fun
  | [d1, d2] => { results := [.lit (.bool false)], args := [d1, d2] }
  | _ => none }
def IntegerDivisionWrongFalsely : Prop := integerDivisionRow.holds Tryd.pinned (OpenSpec.ofChange integerDivisionWrong)

/-- 'pairinglaw1.IntegerInt64': WHATEVER THE INPUT: true; the input reads as it did. -/
def integerInt64Spec : ChangeSpec := { name := "integerInt64", fn := fun _ => fun
  | [d1, d2] => { results := [.lit (.bool true)], args := [d1, d2] }
  | _ => none }
def integerInt64Row : OpenClaim := { program := "yteicjbinginamaadoor", sum := "982977d25ba4a44b9a68e6b771fa2bf893a48ae0aa7a2b6c2593667d0af33a30", func := "pairing/pairinglaw1.IntegerInt64", spec := "integerInt64", named := ["internal/strconv.uint64pow10", "math/bits.deBruijn32tab", "math/bits.deBruijn64tab"], apart := false, laid := [("math/bits.deBruijn32tab", laid_math_bits_deBruijn32tab), ("math/bits.deBruijn64tab", laid_math_bits_deBruijn64tab), ("internal/strconv.uint64pow10", laid_internal_strconv_uint64pow10)] }
def IntegerInt64Said : Prop := integerInt64Row.holds Tryd.pinned (OpenSpec.ofChange integerInt64Spec)

/-- ITS FALSE NEIGHBOUR: 'it returns false'. Refute it at one input. -/
def integerInt64Wrong : ChangeSpec := { name := "integerInt64", fn := fun _ => fun
  | [d1, d2] => { results := [.lit (.bool false)], args := [d1, d2] }
  | _ => none }
def IntegerInt64WrongFalsely : Prop := integerInt64Row.holds Tryd.pinned (OpenSpec.ofChange integerInt64Wrong)

/-- 'pairinglaw1.IntegerTexts': WHATEVER THE INPUT: true; the input reads as it did. -/
def integerTextsSpec : ChangeSpec := { name := "integerTexts", fn := fun _ => fun
  | [d1, d2] => { results := [.lit (.bool true)], args := [d1, d2] }
  | _ => none }
def integerTextsRow : OpenClaim := { program := "yteicjbinginamaadoor", sum := "982977d25ba4a44b9a68e6b771fa2bf893a48ae0aa7a2b6c2593667d0af33a30", func := "pairing/pairinglaw1.IntegerTexts", spec := "integerTexts", named := ["internal/strconv.uint64pow10", "math/bits.deBruijn32tab", "math/bits.deBruijn64tab"], apart := false, laid := [("math/bits.deBruijn32tab", laid_math_bits_deBruijn32tab), ("math/bits.deBruijn64tab", laid_math_bits_deBruijn64tab), ("internal/strconv.uint64pow10", laid_internal_strconv_uint64pow10)] }
def IntegerTextsSaid : Prop := integerTextsRow.holds Tryd.pinned (OpenSpec.ofChange integerTextsSpec)

/-- ITS FALSE NEIGHBOUR: 'it returns false'. Refute it at one input. -/
def integerTextsWrong : ChangeSpec := { name := "integerTexts", fn := fun _ => fun
  | [d1, d2] => { results := [.lit (.bool false)], args := [d1, d2] }
  | _ => none }
def IntegerTextsWrongFalsely : Prop := integerTextsRow.holds Tryd.pinned (OpenSpec.ofChange integerTextsWrong)

/-- 'pairinglaw1.IntegerRing': WHATEVER THE INPUT: true; the input reads as it did. -/
def integerRingSpec : ChangeSpec := { name := "integerRing", fn := fun _ => fun
  | [d1, d2, d3] => { results := [.lit (.bool true)], args := [d1, d2, d3] }
  | _ => none }
def integerRingRow : OpenClaim := { program := "yteicjbinginamaadoor", sum := "982977d25ba4a44b9a68e6b771fa2bf893a48ae0aa7a2b6c2593667d0af33a30", func := "pairing/pairinglaw1.IntegerRing", spec := "integerRing", named := ["internal/strconv.uint64pow10", "math/bits.deBruijn32tab", "math/bits.deBruijn64tab"], apart := false, laid := [("math/bits.deBruijn32tab", laid_math_bits_deBruijn32tab), ("math/bits.deBruijn64tab", laid_math_bits_deBruijn64tab), ("internal/strconv.uint64pow10", laid_internal_strconv_uint64pow10)] }
def IntegerRingSaid : Prop := integerRingRow.holds Tryd.pinned (OpenSpec.ofChange integerRingSpec)

/-- ITS FALSE NEIGHBOUR: 'it returns false'. Refute it at one input. -/
def integerRingWrong : ChangeSpec := { name := "integerRing", fn := fun _ => fun
  | [d1, d2, d3] => { results := [.lit (.bool false)], args := [d1, d2, d3] }
  | _ => none }
def IntegerRingWrongFalsely : Prop := integerRingRow.holds Tryd.pinned (OpenSpec.ofChange integerRingWrong)

/-- 'pairinglaw1.IntegerEuclid': WHATEVER THE INPUT: true; the input reads as it did. -/
def integerEuclidSpec : ChangeSpec := { name := "integerEuclid", fn := fun _ => fun
  | [d1, d2] => { results := [.lit (.bool true)], args := [d1, d2] }
  | _ => none }
def integerEuclidRow : OpenClaim := { program := "yteicjbinginamaadoor", sum := "982977d25ba4a44b9a68e6b771fa2bf893a48ae0aa7a2b6c2593667d0af33a30", func := "pairing/pairinglaw1.IntegerEuclid", spec := "integerEuclid", named := ["internal/strconv.uint64pow10", "math/bits.deBruijn32tab", "math/bits.deBruijn64tab"], apart := false, laid := [("math/bits.deBruijn32tab", laid_math_bits_deBruijn32tab), ("math/bits.deBruijn64tab", laid_math_bits_deBruijn64tab), ("internal/strconv.uint64pow10", laid_internal_strconv_uint64pow10)] }
def IntegerEuclidSaid : Prop := integerEuclidRow.holds Tryd.pinned (OpenSpec.ofChange integerEuclidSpec)

/-- ITS FALSE NEIGHBOUR: 'it returns false'. Refute it at one input. -/
def integerEuclidWrong : ChangeSpec := { name := "integerEuclid", fn := fun _ => fun
  | [d1, d2] => { results := [.lit (.bool false)], args := [d1, d2] }
  | _ => none }
def IntegerEuclidWrongFalsely : Prop := integerEuclidRow.holds Tryd.pinned (OpenSpec.ofChange integerEuclidWrong)

/-- 'pairinglaw1.IntegerArithmetic': WHATEVER THE INPUT: true; the input reads as it did. -/
def integerArithmeticSpec : ChangeSpec := { name := "integerArithmetic", fn := fun _ => fun
  | [d1, d2] => { results := [.lit (.bool true)], args := [d1, d2] }
  | _ => none }
def integerArithmeticRow : OpenClaim := { program := "yteicjbinginamaadoor", sum := "982977d25ba4a44b9a68e6b771fa2bf893a48ae0aa7a2b6c2593667d0af33a30", func := "pairing/pairinglaw1.IntegerArithmetic", spec := "integerArithmetic", named := ["internal/strconv.uint64pow10", "math/bits.deBruijn32tab", "math/bits.deBruijn64tab"], apart := false, laid := [("math/bits.deBruijn32tab", laid_math_bits_deBruijn32tab), ("math/bits.deBruijn64tab", laid_math_bits_deBruijn64tab), ("internal/strconv.uint64pow10", laid_internal_strconv_uint64pow10)] }
def IntegerArithmeticSaid : Prop := integerArithmeticRow.holds Tryd.pinned (OpenSpec.ofChange integerArithmeticSpec)

/-- ITS FALSE NEIGHBOUR: 'it returns false'. Refute it at one input. -/
def integerArithmeticWrong : ChangeSpec := { name := "integerArithmetic", fn := fun _ => fun
  | [d1, d2] => { results := [.lit (.bool false)], args := [d1, d2] }
  | _ => none }
def IntegerArithmeticWrongFalsely : Prop := integerArithmeticRow.holds Tryd.pinned (OpenSpec.ofChange integerArithmeticWrong)

/-- 'pairinglaw1.IntegerPowers': WHATEVER THE INPUT: true; the input reads as it did. -/
def integerPowersSpec : ChangeSpec := { name := "integerPowers", fn := fun _ => fun
  | [d1, d2] => { results := [.lit (.bool true)], args := [d1, d2] }
  | _ => none }
def integerPowersRow : OpenClaim := { program := "yteicjbinginamaadoor", sum := "982977d25ba4a44b9a68e6b771fa2bf893a48ae0aa7a2b6c2593667d0af33a30", func := "pairing/pairinglaw1.IntegerPowers", spec := "integerPowers", named := ["internal/strconv.uint64pow10", "math/bits.deBruijn32tab", "math/bits.deBruijn64tab"], apart := false, laid := [("math/bits.deBruijn32tab", laid_math_bits_deBruijn32tab), ("math/bits.deBruijn64tab", laid_math_bits_deBruijn64tab), ("internal/strconv.uint64pow10", laid_internal_strconv_uint64pow10)] }
def IntegerPowersSaid : Prop := integerPowersRow.holds Tryd.pinned (OpenSpec.ofChange integerPowersSpec)

/-- ITS FALSE NEIGHBOUR: 'it returns false'. Refute it at one input. -/
def integerPowersWrong : ChangeSpec := { name := "integerPowers", fn := fun _ => fun
  | [d1, d2] => { results := [.lit (.bool false)], args := [d1, d2] }
  | _ => none }
def IntegerPowersWrongFalsely : Prop := integerPowersRow.holds Tryd.pinned (OpenSpec.ofChange integerPowersWrong)

/-- 'pairinglaw1.IntegerDivisors': WHATEVER THE INPUT: true; the input reads as it did. -/
def integerDivisorsSpec : ChangeSpec := { name := "integerDivisors", fn := fun _ => fun
  | [d1, d2] => { results := [.lit (.bool true)], args := [d1, d2] }
  | _ => none }
def integerDivisorsRow : OpenClaim := { program := "yteicjbinginamaadoor", sum := "982977d25ba4a44b9a68e6b771fa2bf893a48ae0aa7a2b6c2593667d0af33a30", func := "pairing/pairinglaw1.IntegerDivisors", spec := "integerDivisors", unfollowed := true, recurses := true, named := ["internal/strconv.uint64pow10", "math/bits.deBruijn32tab", "math/bits.deBruijn64tab"], apart := false, laid := [("math/bits.deBruijn32tab", laid_math_bits_deBruijn32tab), ("math/bits.deBruijn64tab", laid_math_bits_deBruijn64tab), ("internal/strconv.uint64pow10", laid_internal_strconv_uint64pow10)] }
def IntegerDivisorsSaid : Prop := integerDivisorsRow.holds Tryd.pinned (OpenSpec.ofChange integerDivisorsSpec)

/-- ITS FALSE NEIGHBOUR: 'it returns false'. Refute it at one input. -/
def integerDivisorsWrong : ChangeSpec := { name := "integerDivisors", fn := fun _ => fun
  | [d1, d2] => { results := [.lit (.bool false)], args := [d1, d2] }
  | _ => none }
def IntegerDivisorsWrongFalsely : Prop := integerDivisorsRow.holds Tryd.pinned (OpenSpec.ofChange integerDivisorsWrong)

/-- 'pairinglaw1.IntegerBezout': WHATEVER THE INPUT: true; the input reads as it did. -/
def integerBezoutSpec : ChangeSpec := { name := "integerBezout", fn := fun _ => fun
  | [d1, d2] => { results := [.lit (.bool true)], args := [d1, d2] }
  | _ => none }
def integerBezoutRow : OpenClaim := { program := "yteicjbinginamaadoor", sum := "982977d25ba4a44b9a68e6b771fa2bf893a48ae0aa7a2b6c2593667d0af33a30", func := "pairing/pairinglaw1.IntegerBezout", spec := "integerBezout", unfollowed := true, recurses := true, named := ["internal/strconv.uint64pow10", "math/bits.deBruijn32tab", "math/bits.deBruijn64tab"], apart := false, laid := [("math/bits.deBruijn32tab", laid_math_bits_deBruijn32tab), ("math/bits.deBruijn64tab", laid_math_bits_deBruijn64tab), ("internal/strconv.uint64pow10", laid_internal_strconv_uint64pow10)] }
def IntegerBezoutSaid : Prop := integerBezoutRow.holds Tryd.pinned (OpenSpec.ofChange integerBezoutSpec)

/-- ITS FALSE NEIGHBOUR: 'it returns false'. Refute it at one input. -/
def integerBezoutWrong : ChangeSpec := { name := "integerBezout", fn := fun _ => fun
  | [d1, d2] => { results := [.lit (.bool false)], args := [d1, d2] }
  | _ => none }
def IntegerBezoutWrongFalsely : Prop := integerBezoutRow.holds Tryd.pinned (OpenSpec.ofChange integerBezoutWrong)

/- THE SECOND FORM. 'bulk': how many values and letters a reading holds, each counted each time it is reached (what is shared counts as often as it is met; a slice's spare places count too). A statement '..UptoSaid' is the law's where the arguments, and the package variables that the reading takes, are together of bulk at most 1048576: NARROWER than '..Said'. Prove '..Said' where nothing that the law and all that it calls make is longer than what came in: it says more and counts as full. Else prove '..UptoSaid'. A law counts once. -/
mutual
def uptoBulk {H : Type} : DataW H → Nat
  | .lit (.string bytes) => bytes.length + 1
  | .lit _ => 1
  | .nil => 1
  | .ptr d => uptoBulk d + 1
  | .slice elems spare => uptoBulkAll elems + uptoBulkAll spare + 1
  | .agg parts => uptoBulkAll parts + 1
  | .iface _ d => uptoBulk d + 1
  | .map entries => uptoBulkEntries entries + 1
  | .held _ => 1
def uptoBulkAll {H : Type} : List (DataW H) → Nat
  | [] => 0
  | d :: r => uptoBulk d + uptoBulkAll r
def uptoBulkEntries {H : Type} : List (Lit × DataW H) → Nat
  | [] => 0
  | x :: r => uptoBulkEntry x + uptoBulkEntries r
def uptoBulkEntry {H : Type} : Lit × DataW H → Nat
  | (.string bytes, d) => bytes.length + uptoBulk d + 1
  | (_, d) => uptoBulk d + 1
 end
def uptoSmall : (H : Type) → List (DataW H) → Bool := fun _ ds => decide (uptoBulkAll ds ≤ 1048576)
def OpenSpec.upto (s : _root_.Go.ChangeSpec) : _root_.Go.OpenSpec := { _root_.Go.OpenSpec.ofChange s with cond := some uptoSmall }

/-- 'pairinglaw1.IntegerDivision', WHERE WHAT IT READS IS OF BULK AT MOST 1048576: true; the input reads as it did. -/
def integerDivisionUptoRow : OpenClaim := { program := "yteicjbinginamaadoor", sum := "982977d25ba4a44b9a68e6b771fa2bf893a48ae0aa7a2b6c2593667d0af33a30", func := "pairing/pairinglaw1.IntegerDivision", spec := "integerDivision", named := ["internal/strconv.uint64pow10", "math/bits.deBruijn32tab", "math/bits.deBruijn64tab"], apart := false, laid := [("math/bits.deBruijn32tab", laid_math_bits_deBruijn32tab), ("math/bits.deBruijn64tab", laid_math_bits_deBruijn64tab), ("internal/strconv.uint64pow10", laid_internal_strconv_uint64pow10)], narrowed := true }
def IntegerDivisionUptoSaid : Prop := integerDivisionUptoRow.holds Tryd.pinned (OpenSpec.upto integerDivisionSpec)

/-- 'pairinglaw1.IntegerInt64', WHERE WHAT IT READS IS OF BULK AT MOST 1048576: true; the input reads as it did. -/
def integerInt64UptoRow : OpenClaim := { program := "yteicjbinginamaadoor", sum := "982977d25ba4a44b9a68e6b771fa2bf893a48ae0aa7a2b6c2593667d0af33a30", func := "pairing/pairinglaw1.IntegerInt64", spec := "integerInt64", named := ["internal/strconv.uint64pow10", "math/bits.deBruijn32tab", "math/bits.deBruijn64tab"], apart := false, laid := [("math/bits.deBruijn32tab", laid_math_bits_deBruijn32tab), ("math/bits.deBruijn64tab", laid_math_bits_deBruijn64tab), ("internal/strconv.uint64pow10", laid_internal_strconv_uint64pow10)], narrowed := true }
def IntegerInt64UptoSaid : Prop := integerInt64UptoRow.holds Tryd.pinned (OpenSpec.upto integerInt64Spec)

/-- 'pairinglaw1.IntegerTexts', WHERE WHAT IT READS IS OF BULK AT MOST 1048576: true; the input reads as it did. -/
def integerTextsUptoRow : OpenClaim := { program := "yteicjbinginamaadoor", sum := "982977d25ba4a44b9a68e6b771fa2bf893a48ae0aa7a2b6c2593667d0af33a30", func := "pairing/pairinglaw1.IntegerTexts", spec := "integerTexts", named := ["internal/strconv.uint64pow10", "math/bits.deBruijn32tab", "math/bits.deBruijn64tab"], apart := false, laid := [("math/bits.deBruijn32tab", laid_math_bits_deBruijn32tab), ("math/bits.deBruijn64tab", laid_math_bits_deBruijn64tab), ("internal/strconv.uint64pow10", laid_internal_strconv_uint64pow10)], narrowed := true }
def IntegerTextsUptoSaid : Prop := integerTextsUptoRow.holds Tryd.pinned (OpenSpec.upto integerTextsSpec)

/-- 'pairinglaw1.IntegerRing', WHERE WHAT IT READS IS OF BULK AT MOST 1048576: true; the input reads as it did. -/
def integerRingUptoRow : OpenClaim := { program := "yteicjbinginamaadoor", sum := "982977d25ba4a44b9a68e6b771fa2bf893a48ae0aa7a2b6c2593667d0af33a30", func := "pairing/pairinglaw1.IntegerRing", spec := "integerRing", named := ["internal/strconv.uint64pow10", "math/bits.deBruijn32tab", "math/bits.deBruijn64tab"], apart := false, laid := [("math/bits.deBruijn32tab", laid_math_bits_deBruijn32tab), ("math/bits.deBruijn64tab", laid_math_bits_deBruijn64tab), ("internal/strconv.uint64pow10", laid_internal_strconv_uint64pow10)], narrowed := true }
def IntegerRingUptoSaid : Prop := integerRingUptoRow.holds Tryd.pinned (OpenSpec.upto integerRingSpec)

/-- 'pairinglaw1.IntegerEuclid', WHERE WHAT IT READS IS OF BULK AT MOST 1048576: true; the input reads as it did. -/
def integerEuclidUptoRow : OpenClaim := { program := "yteicjbinginamaadoor", sum := "982977d25ba4a44b9a68e6b771fa2bf893a48ae0aa7a2b6c2593667d0af33a30", func := "pairing/pairinglaw1.IntegerEuclid", spec := "integerEuclid", named := ["internal/strconv.uint64pow10", "math/bits.deBruijn32tab", "math/bits.deBruijn64tab"], apart := false, laid := [("math/bits.deBruijn32tab", laid_math_bits_deBruijn32tab), ("math/bits.deBruijn64tab", laid_math_bits_deBruijn64tab), ("internal/strconv.uint64pow10", laid_internal_strconv_uint64pow10)], narrowed := true }
def IntegerEuclidUptoSaid : Prop := integerEuclidUptoRow.holds Tryd.pinned (OpenSpec.upto integerEuclidSpec)

/-- 'pairinglaw1.IntegerArithmetic', WHERE WHAT IT READS IS OF BULK AT MOST 1048576: true; the input reads as it did. -/
def integerArithmeticUptoRow : OpenClaim := { program := "yteicjbinginamaadoor", sum := "982977d25ba4a44b9a68e6b771fa2bf893a48ae0aa7a2b6c2593667d0af33a30", func := "pairing/pairinglaw1.IntegerArithmetic", spec := "integerArithmetic", named := ["internal/strconv.uint64pow10", "math/bits.deBruijn32tab", "math/bits.deBruijn64tab"], apart := false, laid := [("math/bits.deBruijn32tab", laid_math_bits_deBruijn32tab), ("math/bits.deBruijn64tab", laid_math_bits_deBruijn64tab), ("internal/strconv.uint64pow10", laid_internal_strconv_uint64pow10)], narrowed := true }
def IntegerArithmeticUptoSaid : Prop := integerArithmeticUptoRow.holds Tryd.pinned (OpenSpec.upto integerArithmeticSpec)

/-- 'pairinglaw1.IntegerPowers', WHERE WHAT IT READS IS OF BULK AT MOST 1048576: true; the input reads as it did. -/
def integerPowersUptoRow : OpenClaim := { program := "yteicjbinginamaadoor", sum := "982977d25ba4a44b9a68e6b771fa2bf893a48ae0aa7a2b6c2593667d0af33a30", func := "pairing/pairinglaw1.IntegerPowers", spec := "integerPowers", named := ["internal/strconv.uint64pow10", "math/bits.deBruijn32tab", "math/bits.deBruijn64tab"], apart := false, laid := [("math/bits.deBruijn32tab", laid_math_bits_deBruijn32tab), ("math/bits.deBruijn64tab", laid_math_bits_deBruijn64tab), ("internal/strconv.uint64pow10", laid_internal_strconv_uint64pow10)], narrowed := true }
def IntegerPowersUptoSaid : Prop := integerPowersUptoRow.holds Tryd.pinned (OpenSpec.upto integerPowersSpec)

/-- 'pairinglaw1.IntegerDivisors', WHERE WHAT IT READS IS OF BULK AT MOST 1048576: true; the input reads as it did. -/
def integerDivisorsUptoRow : OpenClaim := { program := "yteicjbinginamaadoor", sum := "982977d25ba4a44b9a68e6b771fa2bf893a48ae0aa7a2b6c2593667d0af33a30", func := "pairing/pairinglaw1.IntegerDivisors", spec := "integerDivisors", unfollowed := true, recurses := true, named := ["internal/strconv.uint64pow10", "math/bits.deBruijn32tab", "math/bits.deBruijn64tab"], apart := false, laid := [("math/bits.deBruijn32tab", laid_math_bits_deBruijn32tab), ("math/bits.deBruijn64tab", laid_math_bits_deBruijn64tab), ("internal/strconv.uint64pow10", laid_internal_strconv_uint64pow10)], narrowed := true }
def IntegerDivisorsUptoSaid : Prop := integerDivisorsUptoRow.holds Tryd.pinned (OpenSpec.upto integerDivisorsSpec)

/-- 'pairinglaw1.IntegerBezout', WHERE WHAT IT READS IS OF BULK AT MOST 1048576: true; the input reads as it did. -/
def integerBezoutUptoRow : OpenClaim := { program := "yteicjbinginamaadoor", sum := "982977d25ba4a44b9a68e6b771fa2bf893a48ae0aa7a2b6c2593667d0af33a30", func := "pairing/pairinglaw1.IntegerBezout", spec := "integerBezout", unfollowed := true, recurses := true, named := ["internal/strconv.uint64pow10", "math/bits.deBruijn32tab", "math/bits.deBruijn64tab"], apart := false, laid := [("math/bits.deBruijn32tab", laid_math_bits_deBruijn32tab), ("math/bits.deBruijn64tab", laid_math_bits_deBruijn64tab), ("internal/strconv.uint64pow10", laid_internal_strconv_uint64pow10)], narrowed := true }
def IntegerBezoutUptoSaid : Prop := integerBezoutUptoRow.holds Tryd.pinned (OpenSpec.upto integerBezoutSpec)

end Rows
end Go.Proofs.YteicjbinginamaaDoor
