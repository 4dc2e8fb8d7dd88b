/- Texts of one proof, put together by a program: each lemma is proved for all values of its variables, under the premises that it states. -/
import Derived.Shelf.Bits.Mul64
import Derived.Shelf.LaysM
import Derived.Shelf.Small.Bits
import Derived.Shelf.Small.Strs
import Derived.Shelf.Small.Utf8
import Derived.Shelf.Strconv.Itoa0
import Derived.Shelf.Strconv.Itoa1
import Derived.Shelf.Strconv.Itoa2
import Derived.Shelf.Strings.AsciiSet
import Derived.Shelf.Strings.Builder1
import Derived.Shelf.Strings.Builder2
import Derived.Shelf.Strings.Builder2Cap
import Derived.Shelf.Strings.BuilderCap
import Derived.Shelf.Strings.BuilderF
import Derived.Shelf.Strings.BuilderK
import Derived.Shelf.Strings.Cut
import Derived.Shelf.Strings.Prefix
import Derived.Shelf.Strings.Repeat
import Derived.Shelf.Strings.Runes
import Derived.Shelf.Strings.Search1
import Derived.Shelf.Strings.Search2
import Derived.Shelf.Strings.Shaped
import Derived.Shelf.Strings.Trim
import Derived.Shelf.Unicode.DecodeSlow
import Derived.Test.YtdgbealknnmkoaaGreatDoorProg
set_option linter.unusedVariables false
set_option linter.unusedSimpArgs false
namespace Go.Proofs
open Go.Shelf
def Tryz.lays161_ren:Go.Shelf.Ren:=⟨fun | 161=>143 | 231=>175 | 227=>176 | 233=>177 | 235=>178 | 228=>205 | 197=>206 | 151=>207 | 260=>230 | 152=>231 | 137=>238 | 119=>239 | 224=>203 | 225=>202 | 217=>201 | 266=>228 | n=>n,fun | 9=>9 | 4=>4 | 3=>3 | 5=>5 | 117=>184 | 116=>183 | 0=>0 | 124=>187 | 105=>216 | 21=>21 | 119=>241 | 46=>42 | 139=>244 | 138=>243 | n=>n,fun | 3=>2 | 4=>3 | n=>n⟩
theorem Tryz.lays161:Go.Proofs.Lays.n161 Tryz.prog Tryz.lays161_ren:={
  mixed:=by kernel_rfl
  f119:=Tryz.func239.trans (congrArg some (by kernel_rfl))
  f137:=Tryz.func238.trans (congrArg some (by kernel_rfl))
  f151:=Tryz.func207.trans (congrArg some (by kernel_rfl))
  f152:=Tryz.func231.trans (congrArg some (by kernel_rfl))
  f161:=Tryz.func143.trans (congrArg some (by kernel_rfl))
  f197:=Tryz.func206.trans (congrArg some (by kernel_rfl))
  f217:=Tryz.func201.trans (congrArg some (by kernel_rfl))
  f224:=Tryz.func203.trans (congrArg some (by kernel_rfl))
  f225:=Tryz.func202.trans (congrArg some (by kernel_rfl))
  f227:=Tryz.func176.trans (congrArg some (by kernel_rfl))
  f228:=Tryz.func205.trans (congrArg some (by kernel_rfl))
  f231:=Tryz.func175.trans (congrArg some (by kernel_rfl))
  f233:=Tryz.func177.trans (congrArg some (by kernel_rfl))
  f235:=Tryz.func178.trans (congrArg some (by kernel_rfl))
  f260:=Tryz.func230.trans (congrArg some (by kernel_rfl))
  f266:=Tryz.func228.trans (congrArg some (by kernel_rfl))
  t0:=Tryz.underlying0
  a0:=Tryz.isAgg0
  z0:=Tryz.sizeOf0
  v0:=Tryz.zeroValue0
  t3:=Tryz.underlying3
  a3:=Tryz.isAgg3
  z3:=Tryz.sizeOf3
  v3:=Tryz.zeroValue3
  t4:=Tryz.underlying4
  a4:=Tryz.isAgg4
  z4:=Tryz.sizeOf4
  v4:=Tryz.zeroValue4
  t5:=Tryz.underlying5
  a5:=Tryz.isAgg5
  z5:=Tryz.sizeOf5
  v5:=Tryz.zeroValue5
  t9:=Tryz.underlying9
  a9:=Tryz.isAgg9
  z9:=Tryz.sizeOf9
  v9:=Tryz.zeroValue9
  t21:=Tryz.underlying21
  a21:=Tryz.isAgg21
  z21:=Tryz.sizeOf21
  v21:=Tryz.zeroValue21
  t46:=Tryz.underlying42
  a46:=Tryz.isAgg42
  z46:=Tryz.sizeOf42
  v46:=Tryz.zeroValue42
  t105:=Tryz.underlying216
  a105:=Tryz.isAgg216
  z105:=Tryz.sizeOf216
  v105:=Tryz.zeroValue216
  t116:=Tryz.underlying183
  a116:=Tryz.isAgg183
  z116:=Tryz.sizeOf183
  t117:=Tryz.underlying184
  a117:=Tryz.isAgg184
  z117:=Tryz.sizeOf184
  v117:=Tryz.zeroValue184
  t119:=Tryz.underlying241
  a119:=Tryz.isAgg241
  z119:=Tryz.sizeOf241
  t124:=Tryz.underlying187
  a124:=Tryz.isAgg187
  z124:=Tryz.sizeOf187
  v124:=Tryz.zeroValue187
  t138:=Tryz.underlying243
  a138:=Tryz.isAgg243
  z138:=Tryz.sizeOf243
  v138:=Tryz.zeroValue243
  t139:=Tryz.underlying244
  a139:=Tryz.isAgg244
  z139:=Tryz.sizeOf244
  v139:=Tryz.zeroValue244
  g3:=by kernel_rfl
  g4:=by kernel_rfl }
open Go.RowKit in
theorem Tryz.strings_TrimLeft_one (s:ByteArray)(c:UInt8)(hc:c.toNat < 128)(w:World) :
    Calls Tryz.prog 143 #[.string s,.string ⟨#[c]⟩] w fun e w'=>e = .returned (.string ⟨(Lib.trimLeftB s.data.toList c).toArray⟩)∧w'=w:=Any.strings_TrimLeft_one Tryz.lays161 s c hc w
def Tryz.lays283_ren:Go.Shelf.Ren:=⟨fun | 283=>197 | n=>n,fun | 3=>3 | 9=>9 | 4=>4 | n=>n,fun | n=>n⟩
theorem Tryz.lays283:Go.Proofs.Lays.n283 Tryz.prog Tryz.lays283_ren:={
  mixed:=by kernel_rfl
  f283:=Tryz.func197.trans (congrArg some (by kernel_rfl))
  t3:=Tryz.underlying3
  a3:=Tryz.isAgg3
  z3:=Tryz.sizeOf3
  v3:=Tryz.zeroValue3
  t4:=Tryz.underlying4
  a4:=Tryz.isAgg4
  z4:=Tryz.sizeOf4
  v4:=Tryz.zeroValue4
  t9:=Tryz.underlying9
  a9:=Tryz.isAgg9
  z9:=Tryz.sizeOf9
  v9:=Tryz.zeroValue9 }
open Go.Lib in
theorem Tryz.internal_strconv_small (i:Nat)(h:i < 100)(w:World) :
    Calls Tryz.prog 197 #[.int .i64 i] w fun e w'=>e = .returned (.string ⟨(Lib.decDigits i).toArray⟩)∧w'=w:=Any.internal_strconv_small Tryz.lays283 i h w
def Tryz.laysM284_ren:Go.Shelf.Ren:=⟨fun | 284=>198 | 129=>224 | 317=>223 | 318=>225 | n=>n,fun | 53=>143 | 3=>3 | 212=>233 | 0=>0 | 4=>4 | 46=>42 | 5=>5 | 9=>9 | n=>n,fun | 17=>1 | n=>n⟩
theorem Tryz.laysM284:Go.Proofs.LaysM.n284 Tryz.prog Tryz.laysM284_ren:={
  mixed:=by kernel_rfl
  f129:=Tryz.func224.trans (congrArg some (by kernel_rfl))
  f284:=Tryz.func198.trans (congrArg some (by kernel_rfl))
  f317:=Tryz.func223.trans (congrArg some (by kernel_rfl))
  f318:=Tryz.func225.trans (congrArg some (by kernel_rfl))
  t0:=Tryz.underlying0
  a0:=Tryz.isAgg0
  z0:=Tryz.sizeOf0
  v0:=Tryz.zeroValue0
  t3:=Tryz.underlying3
  a3:=Tryz.isAgg3
  z3:=Tryz.sizeOf3
  v3:=Tryz.zeroValue3
  t4:=Tryz.underlying4
  a4:=Tryz.isAgg4
  z4:=Tryz.sizeOf4
  v4:=Tryz.zeroValue4
  t5:=Tryz.underlying5
  a5:=Tryz.isAgg5
  z5:=Tryz.sizeOf5
  v5:=Tryz.zeroValue5
  t9:=Tryz.underlying9
  a9:=Tryz.isAgg9
  z9:=Tryz.sizeOf9
  v9:=Tryz.zeroValue9
  t46:=Tryz.underlying42
  a46:=Tryz.isAgg42
  z46:=Tryz.sizeOf42
  v46:=Tryz.zeroValue42
  t53:=Tryz.underlying143
  a53:=Tryz.isAgg143
  z53:=Tryz.sizeOf143
  v53:=Tryz.zeroValue143
  t212:=Tryz.underlying233
  a212:=Tryz.isAgg233
  z212:=Tryz.sizeOf233
  v212:=Tryz.zeroValue233
  g17:=by kernel_rfl
  i0:=by kernel_rfl
  i3:=by kernel_rfl
  i4:=by kernel_rfl
  i5:=by kernel_rfl
  i9:=by kernel_rfl
  i46:=by kernel_rfl
  i53:=by kernel_rfl
  i212:=by kernel_rfl
  m17:=by kernel_rfl }
open Go.Lib in
theorem Tryz.internal_strconv_numDigits (u : Nat) (h1 : 1 ≤ u) (h2 : u < 18446744073709551616) (w : World) (htab : Lib.TabIs Tryz.prog w "internal/strconv.uint64pow10" .u64 Lib.pow10Tab) :
    Calls Tryz.prog 198 #[.int .u64 u] w fun e w'=>e = .returned (.int .i64 (Lib.nDigits u))∧w'=w:=Any.internal_strconv_numDigits Tryz.laysM284 u h1 h2 w htab
def Tryz.lays285_ren:Go.Shelf.Ren:=⟨fun | 285=>199 | n=>n,fun | 37=>31 | 53=>143 | 3=>3 | 4=>4 | 51=>97 | 9=>9 | 5=>5 | 0=>0 | n=>n,fun | n=>n⟩
theorem Tryz.lays285:Go.Proofs.Lays.n285 Tryz.prog Tryz.lays285_ren:={
  mixed:=by kernel_rfl
  f285:=Tryz.func199.trans (congrArg some (by kernel_rfl))
  t0:=Tryz.underlying0
  a0:=Tryz.isAgg0
  z0:=Tryz.sizeOf0
  v0:=Tryz.zeroValue0
  t3:=Tryz.underlying3
  a3:=Tryz.isAgg3
  z3:=Tryz.sizeOf3
  v3:=Tryz.zeroValue3
  t4:=Tryz.underlying4
  a4:=Tryz.isAgg4
  z4:=Tryz.sizeOf4
  v4:=Tryz.zeroValue4
  t5:=Tryz.underlying5
  a5:=Tryz.isAgg5
  z5:=Tryz.sizeOf5
  v5:=Tryz.zeroValue5
  t9:=Tryz.underlying9
  a9:=Tryz.isAgg9
  z9:=Tryz.sizeOf9
  v9:=Tryz.zeroValue9
  t37:=Tryz.underlying31
  a37:=Tryz.isAgg31
  z37:=Tryz.sizeOf31
  v37:=Tryz.zeroValue31
  t51:=Tryz.underlying97
  a51:=Tryz.isAgg97
  z51:=Tryz.sizeOf97
  v51:=Tryz.zeroValue97
  t53:=Tryz.underlying143
  a53:=Tryz.isAgg143
  z53:=Tryz.sizeOf143
  v53:=Tryz.zeroValue143 }
open Go.RowKit Go.Sort Go.Lib in
theorem Tryz.internal_strconv_formatBase10 (blk off cap : Nat) (u : Nat) (d : Array UInt8) (w : World) (hH : Holds (fun (b : UInt8) => Value.int .u8 (b.toNat : Int)) w blk off d) (hu : u < 10 ^ d.size) (hu64 : u < 18446744073709551616) (hsz : d.size < 4611686018427387904) :
    Calls Tryz.prog 199 #[.slice (some ⟨blk,off,none⟩) d.size cap,.int .u64 u] w fun e w' =>
      e = .returned (.tuple #[]) ∧ ∃ (n v':Nat) (dk:Array UInt8),w'=(putRow (fun (b:UInt8)=>Value.int .u8 (b.toNat:Int)) w blk off dk).drewN n∧FmtInv d.size u 0 v' dk:=Any.internal_strconv_formatBase10 Tryz.lays285 blk off cap u d w hH hu hu64 hsz
def Tryz.lays219_ren:Go.Shelf.Ren:=⟨fun | 219=>171 | 217=>201 | 225=>202 | 224=>203 | 267=>204 | 266=>228 | 314=>229 | n=>n,fun | 9=>9 | 3=>3 | 4=>4 | 5=>5 | 46=>42 | 146=>219 | 51=>97 | n=>n,fun | 1=>0 | n=>n⟩
def Tryz.lays145_ren:Go.Shelf.Ren:=⟨fun | 145=>100 | 220=>139 | 219=>171 | 217=>201 | 225=>202 | 224=>203 | 267=>204 | 266=>228 | 314=>229 | n=>n,fun | 9=>9 | 4=>4 | 59=>134 | 3=>3 | 5=>5 | 46=>42 | 146=>219 | 51=>97 | n=>n,fun | 1=>0 | n=>n⟩
theorem Tryz.lays145:Go.Proofs.Lays.n145 Tryz.prog Tryz.lays145_ren:={
  mixed:=by kernel_rfl
  f145:=Tryz.func100.trans (congrArg some (by kernel_rfl))
  f217:=Tryz.func201.trans (congrArg some (by kernel_rfl))
  f219:=Tryz.func171.trans (congrArg some (by kernel_rfl))
  f220:=Tryz.func139.trans (congrArg some (by kernel_rfl))
  f224:=Tryz.func203.trans (congrArg some (by kernel_rfl))
  f225:=Tryz.func202.trans (congrArg some (by kernel_rfl))
  f266:=Tryz.func228.trans (congrArg some (by kernel_rfl))
  f267:=Tryz.func204.trans (congrArg some (by kernel_rfl))
  f314:=Tryz.func229.trans (congrArg some (by kernel_rfl))
  t3:=Tryz.underlying3
  a3:=Tryz.isAgg3
  z3:=Tryz.sizeOf3
  v3:=Tryz.zeroValue3
  t4:=Tryz.underlying4
  a4:=Tryz.isAgg4
  z4:=Tryz.sizeOf4
  v4:=Tryz.zeroValue4
  t5:=Tryz.underlying5
  a5:=Tryz.isAgg5
  z5:=Tryz.sizeOf5
  v5:=Tryz.zeroValue5
  t9:=Tryz.underlying9
  a9:=Tryz.isAgg9
  z9:=Tryz.sizeOf9
  v9:=Tryz.zeroValue9
  t46:=Tryz.underlying42
  a46:=Tryz.isAgg42
  z46:=Tryz.sizeOf42
  v46:=Tryz.zeroValue42
  t51:=Tryz.underlying97
  a51:=Tryz.isAgg97
  z51:=Tryz.sizeOf97
  v51:=Tryz.zeroValue97
  t59:=Tryz.underlying134
  a59:=Tryz.isAgg134
  z59:=Tryz.sizeOf134
  v59:=Tryz.zeroValue134
  t146:=Tryz.underlying219
  a146:=Tryz.isAgg219
  z146:=Tryz.sizeOf219
  v146:=Tryz.zeroValue219
  g1:=by kernel_rfl }
open Go.RowKit Go.Lib in
theorem Tryz.strings_Cut (s sep:ByteArray)(m:Int)(w:World)(hs:s.size < 4294967281)(hm:w.cell? ⟨0,0,none⟩=some (.int .i64 m)) :
    Calls Tryz.prog 100 #[.string s,.string sep] w fun e w'=>e = .returned (.tuple #[.string ⟨(Lib.cut s.data.toList sep.data.toList).1.toArray⟩,.string ⟨(Lib.cut s.data.toList sep.data.toList).2.1.toArray⟩,.bool (Lib.cut s.data.toList sep.data.toList).2.2]) ∧ ∃ n,w'=w.drewN n:=Any.strings_Cut Tryz.lays145 s sep m w hs hm
def Tryz.laysM145_ren:Go.Shelf.Ren:=⟨fun | 145=>100 | 220=>139 | 219=>171 | 217=>201 | 225=>202 | 224=>203 | 267=>204 | 266=>228 | 314=>229 | n=>n,fun | 9=>9 | 4=>4 | 59=>134 | 3=>3 | 5=>5 | 46=>42 | 146=>219 | 51=>97 | n=>n,fun | 1=>0 | n=>n⟩
theorem Tryz.laysM145:Go.Proofs.LaysM.n145 Tryz.prog Tryz.laysM145_ren:={
  mixed:=by kernel_rfl
  f145:=Tryz.func100.trans (congrArg some (by kernel_rfl))
  f217:=Tryz.func201.trans (congrArg some (by kernel_rfl))
  f219:=Tryz.func171.trans (congrArg some (by kernel_rfl))
  f220:=Tryz.func139.trans (congrArg some (by kernel_rfl))
  f224:=Tryz.func203.trans (congrArg some (by kernel_rfl))
  f225:=Tryz.func202.trans (congrArg some (by kernel_rfl))
  f266:=Tryz.func228.trans (congrArg some (by kernel_rfl))
  f267:=Tryz.func204.trans (congrArg some (by kernel_rfl))
  f314:=Tryz.func229.trans (congrArg some (by kernel_rfl))
  t3:=Tryz.underlying3
  a3:=Tryz.isAgg3
  z3:=Tryz.sizeOf3
  v3:=Tryz.zeroValue3
  t4:=Tryz.underlying4
  a4:=Tryz.isAgg4
  z4:=Tryz.sizeOf4
  v4:=Tryz.zeroValue4
  t5:=Tryz.underlying5
  a5:=Tryz.isAgg5
  z5:=Tryz.sizeOf5
  v5:=Tryz.zeroValue5
  t9:=Tryz.underlying9
  a9:=Tryz.isAgg9
  z9:=Tryz.sizeOf9
  v9:=Tryz.zeroValue9
  t46:=Tryz.underlying42
  a46:=Tryz.isAgg42
  z46:=Tryz.sizeOf42
  v46:=Tryz.zeroValue42
  t51:=Tryz.underlying97
  a51:=Tryz.isAgg97
  z51:=Tryz.sizeOf97
  v51:=Tryz.zeroValue97
  t59:=Tryz.underlying134
  a59:=Tryz.isAgg134
  z59:=Tryz.sizeOf134
  v59:=Tryz.zeroValue134
  t146:=Tryz.underlying219
  a146:=Tryz.isAgg219
  z146:=Tryz.sizeOf219
  v146:=Tryz.zeroValue219
  g1:=by kernel_rfl
  i3:=by kernel_rfl
  i4:=by kernel_rfl
  i5:=by kernel_rfl
  i9:=by kernel_rfl
  i46:=by kernel_rfl
  i51:=by kernel_rfl
  i59:=by kernel_rfl
  i146:=by kernel_rfl
  m1:=by kernel_rfl
  s1_3:=fun w h=>Go.Proofs.cell_of_shapedOpen_int (zero := #[.int .i64 0]) (t:=3) h (of_decide_eq_true (by kernel_rfl)) (by kernel_rfl) rfl (by kernel_rfl) (by kernel_rfl) Tryz.underlying3 }
def Tryz.lays206_ren:Go.Shelf.Ren:=⟨fun | 206=>173 | n=>n,fun | 9=>9 | 4=>4 | 3=>3 | n=>n,fun | n=>n⟩
def Tryz.lays99_ren:Go.Shelf.Ren:=⟨fun | 99=>141 | 206=>173 | n=>n,fun | 9=>9 | 4=>4 | 3=>3 | n=>n,fun | n=>n⟩
theorem Tryz.lays99:Go.Proofs.Lays.n99 Tryz.prog Tryz.lays99_ren:={
  mixed:=by kernel_rfl
  f99:=Tryz.func141.trans (congrArg some (by kernel_rfl))
  f206:=Tryz.func173.trans (congrArg some (by kernel_rfl))
  t3:=Tryz.underlying3
  a3:=Tryz.isAgg3
  z3:=Tryz.sizeOf3
  v3:=Tryz.zeroValue3
  t4:=Tryz.underlying4
  a4:=Tryz.isAgg4
  z4:=Tryz.sizeOf4
  v4:=Tryz.zeroValue4
  t9:=Tryz.underlying9
  a9:=Tryz.isAgg9
  z9:=Tryz.sizeOf9
  v9:=Tryz.zeroValue9 }
open Go.RowKit Go.Lib in
theorem Tryz.strings_HasPrefix (s p:ByteArray)(w:World) :
    Calls Tryz.prog 141 #[.string s,.string p] w fun e w'=>e = .returned (.bool (Lib.hasPrefix s.data.toList p.data.toList))∧w'=w:=Any.strings_HasPrefix Tryz.lays99 s p w
def Tryz.lays101_ren:Go.Shelf.Ren:=⟨fun | 101=>142 | 208=>174 | 206=>173 | n=>n,fun | 9=>9 | 4=>4 | 3=>3 | n=>n,fun | n=>n⟩
theorem Tryz.lays101:Go.Proofs.Lays.n101 Tryz.prog Tryz.lays101_ren:={
  mixed:=by kernel_rfl
  f101:=Tryz.func142.trans (congrArg some (by kernel_rfl))
  f206:=Tryz.func173.trans (congrArg some (by kernel_rfl))
  f208:=Tryz.func174.trans (congrArg some (by kernel_rfl))
  t3:=Tryz.underlying3
  a3:=Tryz.isAgg3
  z3:=Tryz.sizeOf3
  v3:=Tryz.zeroValue3
  t4:=Tryz.underlying4
  a4:=Tryz.isAgg4
  z4:=Tryz.sizeOf4
  v4:=Tryz.zeroValue4
  t9:=Tryz.underlying9
  a9:=Tryz.isAgg9
  z9:=Tryz.sizeOf9
  v9:=Tryz.zeroValue9 }
open Go.RowKit Go.Lib in
theorem Tryz.strings_TrimPrefix (s p:ByteArray)(w:World) :
    Calls Tryz.prog 142 #[.string s,.string p] w fun e w'=>e = .returned (.string ⟨(Lib.trimPrefix s.data.toList p.data.toList).toArray⟩)∧w'=w:=Any.strings_TrimPrefix Tryz.lays101 s p w
def Tryz.lays105_ren:Go.Shelf.Ren:=⟨fun | 105=>144 | 212=>179 | 99=>141 | 165=>180 | 166=>181 | 170=>182 | 169=>183 | 263=>208 | 264=>209 | 206=>173 | 240=>210 | 241=>211 | 276=>232 | 277=>233 | n=>n,fun | 9=>9 | 3=>3 | 4=>4 | 20=>20 | 0=>0 | 46=>42 | 109=>188 | 5=>5 | 72=>192 | 76=>195 | 51=>97 | 146=>219 | 53=>143 | 148=>221 | 70=>190 | 37=>31 | 75=>194 | 127=>223 | 164=>238 | 80=>81 | n=>n,fun | n=>n⟩
theorem Tryz.lays105:Go.Proofs.Lays.n105 Tryz.prog Tryz.lays105_ren:={
  mixed:=by kernel_rfl
  f99:=Tryz.func141.trans (congrArg some (by kernel_rfl))
  f105:=Tryz.func144.trans (congrArg some (by kernel_rfl))
  f165:=Tryz.func180.trans (congrArg some (by kernel_rfl))
  f166:=Tryz.func181.trans (congrArg some (by kernel_rfl))
  f169:=Tryz.func183.trans (congrArg some (by kernel_rfl))
  f170:=Tryz.func182.trans (congrArg some (by kernel_rfl))
  f206:=Tryz.func173.trans (congrArg some (by kernel_rfl))
  f212:=Tryz.func179.trans (congrArg some (by kernel_rfl))
  f240:=Tryz.func210.trans (congrArg some (by kernel_rfl))
  f241:=Tryz.func211.trans (congrArg some (by kernel_rfl))
  f263:=Tryz.func208.trans (congrArg some (by kernel_rfl))
  f264:=Tryz.func209.trans (congrArg some (by kernel_rfl))
  f276:=Tryz.func232.trans (congrArg some (by kernel_rfl))
  f277:=Tryz.func233.trans (congrArg some (by kernel_rfl))
  t0:=Tryz.underlying0
  a0:=Tryz.isAgg0
  z0:=Tryz.sizeOf0
  v0:=Tryz.zeroValue0
  t3:=Tryz.underlying3
  a3:=Tryz.isAgg3
  z3:=Tryz.sizeOf3
  v3:=Tryz.zeroValue3
  t4:=Tryz.underlying4
  a4:=Tryz.isAgg4
  z4:=Tryz.sizeOf4
  v4:=Tryz.zeroValue4
  t5:=Tryz.underlying5
  a5:=Tryz.isAgg5
  z5:=Tryz.sizeOf5
  v5:=Tryz.zeroValue5
  t9:=Tryz.underlying9
  a9:=Tryz.isAgg9
  z9:=Tryz.sizeOf9
  v9:=Tryz.zeroValue9
  t20:=Tryz.underlying20
  a20:=Tryz.isAgg20
  z20:=Tryz.sizeOf20
  v20:=Tryz.zeroValue20
  t37:=Tryz.underlying31
  a37:=Tryz.isAgg31
  z37:=Tryz.sizeOf31
  v37:=Tryz.zeroValue31
  t46:=Tryz.underlying42
  a46:=Tryz.isAgg42
  z46:=Tryz.sizeOf42
  v46:=Tryz.zeroValue42
  t51:=Tryz.underlying97
  a51:=Tryz.isAgg97
  z51:=Tryz.sizeOf97
  v51:=Tryz.zeroValue97
  t53:=Tryz.underlying143
  a53:=Tryz.isAgg143
  z53:=Tryz.sizeOf143
  v53:=Tryz.zeroValue143
  t70:=Tryz.underlying190
  a70:=Tryz.isAgg190
  z70:=Tryz.sizeOf190
  v70:=Tryz.zeroValue190
  t72:=Tryz.underlying192
  a72:=Tryz.isAgg192
  z72:=Tryz.sizeOf192
  v72:=Tryz.zeroValue192
  t75:=Tryz.underlying194
  a75:=Tryz.isAgg194
  z75:=Tryz.sizeOf194
  v75:=Tryz.zeroValue194
  t76:=Tryz.underlying195
  a76:=Tryz.isAgg195
  z76:=Tryz.sizeOf195
  v76:=Tryz.zeroValue195
  t109:=Tryz.underlying188
  a109:=Tryz.isAgg188
  z109:=Tryz.sizeOf188
  v109:=Tryz.zeroValue188
  t127:=Tryz.underlying223
  a127:=Tryz.isAgg223
  z127:=Tryz.sizeOf223
  v127:=Tryz.zeroValue223
  t146:=Tryz.underlying219
  a146:=Tryz.isAgg219
  z146:=Tryz.sizeOf219
  v146:=Tryz.zeroValue219
  t148:=Tryz.underlying221
  a148:=Tryz.isAgg221
  z148:=Tryz.sizeOf221
  v148:=Tryz.zeroValue221
  t164:=Tryz.underlying238
  a164:=Tryz.isAgg238
  z164:=Tryz.sizeOf238
  v164:=Tryz.zeroValue238 }
theorem Tryz.Builder_Extra_105:Builder.Extra Tryz.prog Tryz.lays105_ren:={
  sizeBuilder:=by kernel_rfl
  liesBuilder:=by kernel_rfl
  t5:=Tryz.underlying5
  a5:=Tryz.isAgg5
  z5:=Tryz.sizeOf5
  v5:=Tryz.zeroValue5
  infoByte:=by kernel_rfl
  cellsByte:=by kernel_rfl
  sizeByte:=by kernel_rfl
  neB5:=by decide }
open Go.RowKit Go.Lib in
theorem Tryz.strings_Repeat (s:ByteArray)(c:Nat)(w:World)(hc:c≤9223372036854775807)(hlen:s.size*c≤140737488355328) :
    Calls Tryz.prog 144 #[.string s,.int .i64 c] w fun e w'=>e = .returned (.string ⟨(Lib.repeatL s.data.toList c).toArray⟩)∧Below w.heap.size w w':=Any.strings_Repeat Tryz.lays105 Tryz.Builder_Extra_105 s c w hc hlen
end Go.Proofs
