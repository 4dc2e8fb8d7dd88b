/- Texts of one proof, put together by a program: each lemma is proved for all values of its variables, under the premises that it states. -/
import Derived.Carry
import Derived.Lib.LaidTab
import Derived.Lib.SmallJoins
import Derived.SizedLaws
import Derived.Test.YtdgbealknnmkoaaGreatDoorP4bcfbf96
import Derived.Test.YtdgbealknnmkoaaGreatDoorP52bc364b
set_option linter.unusedVariables false
set_option linter.unusedSimpArgs false
namespace Go.Proofs.YtdgbealknnmkoaaGreatDoor
open Go.ChangeShapes Go.WideShapes Go.ChangeAt Go.RowKit Go.Joins
theorem Tryz.cellsInt:Tryz.prog.cellsOf 24=2:=by kernel_rfl
theorem Tryz.bytesU32:Tryz.prog.bytesOf 97=4:=by kernel_rfl
theorem Qi {H:Type}{enc:TypeId×Value→H}{W:World}{base:Nat}{spare:Nat→Bool}{held:Bool}{fuel:Nat}{A:Option Addr}{n c:Nat}{y:DataW H×List MemPlace}
  (h:DataW.trod enc Tryz.prog W base spare held fuel 22 [.slice A n c]=some y) (hz : ∀ x∈DataW.weights Tryz.prog 22 y.1,x≤reachBytes):n≤35184372087808:=by
 obtain ⟨d,ps⟩:=y;have hl:=sliceLen_trod Tryz.underlying22 h;simp only at hl hz;cases d with
 | slice es sp =>
  have:=hz ((es.length+sp.length)*Tryz.prog.bytesOf 97) (by simp[DataW.weights,Tryz.underlying22])
  rw[Tryz.bytesU32] at this;simp only[reachBytes] at this;simp only[sliceLen] at hl;omega
 | _=>simp[sliceLen] at hl;omega
theorem Do {H:Type}{P:Program}{ts:List TypeId}{ds:List (DataW H)}(h:(DataW.weightsEach P ts ds).all (· ≤ reachBytes)=true){j:Nat}{t:TypeId}{d:DataW H}(ht:ts[j]? = some t)(hd:ds[j]? = some d) : ∀ x∈DataW.weights P t d,x≤reachBytes:=fun x hx=>by
 have:=List.all_eq_true.1 h x (DataW.weights_mem_each ht hd x hx)
 simpa using this
end Go.Proofs.YtdgbealknnmkoaaGreatDoor
