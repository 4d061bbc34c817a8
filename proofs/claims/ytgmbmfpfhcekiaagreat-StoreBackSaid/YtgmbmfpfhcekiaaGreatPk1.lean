/-
  Lemmas on the way, joined: Shelf, Str, FlagP, FlagW, FlagN, DateP, BoxP, StoP, DateW, DateV, DateU, FlagR, FlagS, FlagT, BoxW, Eng18, Eng20, Eng21, Eng19, StoM, SeqC.
-/
import Derived.Shelf.Small.Bits
import Derived.Shelf.Small.Strs
import Derived.Shelf.Strconv.Itoa0
import Derived.Shelf.Strings.Search1
import Derived.Shelf.Strings.Search2
import Derived.Shelf.Strings.Search3
import Derived.Shelf.Strings.Cut
import Derived.Shelf.LaysM
import Derived.Shelf.Strings.Shaped
import Derived.Shelf.Sort.Plain
import Derived.Shelf.Strings.LastIndex
import Derived.Shelf.GgClosure.StringsIndexFunc
import Derived.Ground.GgwProg
import Derived.Shelf.GgClosure.StringsIndexFuncTop
import Derived.Shelf.GgClosure.StringsRunes
import Derived.Shelf.Strings.Prefix
import Derived.Shelf.Strings.FuncGrows
import Derived.Shelf.Slices.Turned
import Derived.Shelf.Slices.Equal
import Derived.Ground.Names2Prog
import Derived.Shelf.Slices.ReverseS
import Derived.Shelf.Slices.Clone
import Derived.Shelf.Slices.CompactS
import Derived.Shelf.Slices.Delete
import Derived.Shelf.Slices.Cells
import Derived.Shelf.Slices.In.SortNone
import Derived.Shelf.Slices.Empties2
import Derived.Ground.SlgnProg
import Derived.Shelf.SlicesE.Equal
import Derived.Shelf.SlicesE.Compact
import Derived.Ground.SlgfProg
import Derived.Shelf.SlicesE.IndexFunc
import Derived.Shelf.SlicesE.DeleteFunc
import Derived.Shelf.Bytes.SlEqualAll
import Derived.Shelf.Bytes.Small
import Derived.Test.YtgmbmfpfhcekiaaGreatProg
import Derived.Sort.OwnSorted
import Derived.Lib.DecodeN
import Derived.Maps.Keyed
import Derived.DeepKeys4
import Derived.Carry
import Derived.Laws.IdiomCopy
import Derived.Lib.AppendZerosOnto
import Derived.Test.YtgmbmfpfhcekiaaGreatPk0
set_option maxRecDepth 100000
set_option linter.unusedVariables false
set_option linter.unusedSimpArgs false
namespace Go.Proofs.YtgmbmfpfhcekiaaGreat
section
open Go.Shelf
def Tryz.lays137_ren : Go.Shelf.Ren := ⟨fun | 137 => 101 | 217 => 134 | 266 => 161 | n => n, fun | 9 => 9 | 5 => 5 | 3 => 3 | n => n, fun | n => n⟩
theorem Tryz.lays137 : Go.Proofs.Lays.n137 Tryz.prog Tryz.lays137_ren := {
 mixed := by kernel_rfl
 f137 := Tryz.func101.trans (congrArg some (by kernel_rfl))
 f217 := Tryz.func134.trans (congrArg some (by kernel_rfl))
 f266 := Tryz.func161.trans (congrArg some (by kernel_rfl))
 t3 := zv
 a3 := zn
 z3 := zj
 v3 := Tryz.zeroValue3
 t5 := zbe
 a5 := zdy
 z5 := zbv
 v5 := Tryz.zeroValue5
 t9 := zk
 a9 := zx
 z9 := zo
 v9 := Tryz.zeroValue9 }
open Go.RowKit in
theorem Tryz.strings_IndexByte (s : ByteArray) (c : Int) (w : World) :
  Calls Tryz.prog 101 #[.string s, .int .u8 c] w fun e w' => e = .returned (.int .i64 (Lib.indexByte s.data.toList c.toNat.toUInt8)) ∧ w' = w := Any.strings_IndexByte Tryz.lays137 s c w
def Tryz.lays219_ren : Go.Shelf.Ren := ⟨fun | 219 => 160 | 217 => 134 | 225 => 180 | 224 => 181 | 267 => 182 | 266 => 161 | 314 => 194 | n => n, fun | 9 => 9 | 3 => 3 | 4 => 4 | 5 => 5 | 46 => 141 | 146 => 208 | 51 => 171 | n => n, fun | 1 => 0 | n => n⟩
theorem Tryz.lays219 : Go.Proofs.Lays.n219 Tryz.prog Tryz.lays219_ren := {
 mixed := by kernel_rfl
 f217 := Tryz.func134.trans (congrArg some (by kernel_rfl))
 f219 := Tryz.func160.trans (congrArg some (by kernel_rfl))
 f224 := Tryz.func181.trans (congrArg some (by kernel_rfl))
 f225 := Tryz.func180.trans (congrArg some (by kernel_rfl))
 f266 := Tryz.func161.trans (congrArg some (by kernel_rfl))
 f267 := Tryz.func182.trans (congrArg some (by kernel_rfl))
 f314 := Tryz.func194.trans (congrArg some (by kernel_rfl))
 t3 := zv
 a3 := zn
 z3 := zj
 v3 := Tryz.zeroValue3
 t4 := zbs
 a4 := zcg
 z4 := zao
 v4 := Tryz.zeroValue4
 t5 := zbe
 a5 := zdy
 z5 := zbv
 v5 := Tryz.zeroValue5
 t9 := zk
 a9 := zx
 z9 := zo
 v9 := Tryz.zeroValue9
 t46 := zei
 a46 := Tryz.isAgg141
 z46 := Tryz.sizeOf141
 v46 := Tryz.zeroValue141
 t51 := Tryz.underlying171
 a51 := Tryz.isAgg171
 z51 := Tryz.sizeOf171
 v51 := Tryz.zeroValue171
 t146 := Tryz.underlying208
 a146 := Tryz.isAgg208
 z146 := Tryz.sizeOf208
 v146 := Tryz.zeroValue208
 g1 := by kernel_rfl }
open Go.RowKit Go.Lib in
theorem Tryz.stringslite_Index_one (s : ByteArray) (c : UInt8) (w : World) :
  Calls Tryz.prog 160 #[.string s, .string ⟨#[c]⟩] w fun e w' => e = .returned (.int .i64 (Lib.indexByte s.data.toList c)) ∧ w' = w := Any.stringslite_Index_one Tryz.lays219 s c w
def Tryz.lays144_ren : Go.Shelf.Ren := ⟨fun | 144 => 100 | 143 => 133 | 219 => 160 | 217 => 134 | 225 => 180 | 224 => 181 | 267 => 182 | 266 => 161 | 314 => 194 | n => n, fun | 9 => 9 | 4 => 4 | 3 => 3 | 5 => 5 | 46 => 141 | 146 => 208 | 51 => 171 | n => n, fun | 1 => 0 | n => n⟩
theorem Tryz.lays144 : Go.Proofs.Lays.n144 Tryz.prog Tryz.lays144_ren := {
 mixed := by kernel_rfl
 f143 := Tryz.func133.trans (congrArg some (by kernel_rfl))
 f144 := Tryz.func100.trans (congrArg some (by kernel_rfl))
 f217 := Tryz.func134.trans (congrArg some (by kernel_rfl))
 f219 := Tryz.func160.trans (congrArg some (by kernel_rfl))
 f224 := Tryz.func181.trans (congrArg some (by kernel_rfl))
 f225 := Tryz.func180.trans (congrArg some (by kernel_rfl))
 f266 := Tryz.func161.trans (congrArg some (by kernel_rfl))
 f267 := Tryz.func182.trans (congrArg some (by kernel_rfl))
 f314 := Tryz.func194.trans (congrArg some (by kernel_rfl))
 t3 := zv
 a3 := zn
 z3 := zj
 v3 := Tryz.zeroValue3
 t4 := zbs
 a4 := zcg
 z4 := zao
 v4 := Tryz.zeroValue4
 t5 := zbe
 a5 := zdy
 z5 := zbv
 v5 := Tryz.zeroValue5
 t9 := zk
 a9 := zx
 z9 := zo
 v9 := Tryz.zeroValue9
 t46 := zei
 a46 := Tryz.isAgg141
 z46 := Tryz.sizeOf141
 v46 := Tryz.zeroValue141
 t51 := Tryz.underlying171
 a51 := Tryz.isAgg171
 z51 := Tryz.sizeOf171
 v51 := Tryz.zeroValue171
 t146 := Tryz.underlying208
 a146 := Tryz.isAgg208
 z146 := Tryz.sizeOf208
 v146 := Tryz.zeroValue208
 g1 := by kernel_rfl }
open Go.RowKit Go.Lib in
theorem Tryz.strings_Contains (s sub : ByteArray) (m : Int) (w : World) (hs : s.size < 4294967281) (hm : w.cell? ⟨0, 0, none⟩ = some (.int .i64 m)) :
  Calls Tryz.prog 100 #[.string s, .string sub] w fun e w' => e = .returned (.bool (Lib.contains s.data.toList sub.data.toList)) ∧ w' = w := Any.strings_Contains Tryz.lays144 s sub m w hs hm
def Tryz.lays190_ren : Go.Shelf.Ren := ⟨fun | 190 => 188 | 125 => 115 | 258 => 202 | 128 => 150 | 129 => 151 | 302 => 205 | 303 => 206 | 304 => 207 | 305 => 208 | 306 => 209 | 307 => 210 | 308 => 120 | 309 => 211 | 310 => 212 | 333 => 214 | 329 => 168 | 330 => 169 | 334 => 215 | 335 => 216 | 336 => 154 | 344 => 217 | n => n, fun | 31 => 23 | 9 => 9 | 3 => 3 | 46 => 141 | 0 => 0 | 51 => 171 | 53 => 40 | 4 => 4 | 183 => 164 | 182 => 163 | 131 => 85 | 5 => 5 | 218 => 182 | 222 => 186 | 228 => 200 | 229 => 201 | n => n, fun | n => n⟩
theorem Tryz.lays190 : Go.Proofs.Lays.n190 Tryz.prog Tryz.lays190_ren := {
 mixed := by kernel_rfl
 f125 := Tryz.func115.trans (congrArg some (by kernel_rfl))
 f128 := Tryz.func150.trans (congrArg some (by kernel_rfl))
 f129 := Tryz.func151.trans (congrArg some (by kernel_rfl))
 f190 := Tryz.func188.trans (congrArg some (by kernel_rfl))
 f258 := Tryz.func202.trans (congrArg some (by kernel_rfl))
 f302 := Tryz.func205.trans (congrArg some (by kernel_rfl))
 f303 := Tryz.func206.trans (congrArg some (by kernel_rfl))
 f304 := Tryz.func207.trans (congrArg some (by kernel_rfl))
 f305 := Tryz.func208.trans (congrArg some (by kernel_rfl))
 f306 := Tryz.func209.trans (congrArg some (by kernel_rfl))
 f307 := Tryz.func210.trans (congrArg some (by kernel_rfl))
 f308 := Tryz.func120.trans (congrArg some (by kernel_rfl))
 f309 := Tryz.func211.trans (congrArg some (by kernel_rfl))
 f310 := Tryz.func212.trans (congrArg some (by kernel_rfl))
 f329 := Tryz.func168.trans (congrArg some (by kernel_rfl))
 f330 := Tryz.func169.trans (congrArg some (by kernel_rfl))
 f333 := Tryz.func214.trans (congrArg some (by kernel_rfl))
 f334 := Tryz.func215.trans (congrArg some (by kernel_rfl))
 f335 := Tryz.func216.trans (congrArg some (by kernel_rfl))
 f336 := Tryz.func154.trans (congrArg some (by kernel_rfl))
 f344 := Tryz.func217.trans (congrArg some (by kernel_rfl))
 t0 := zee
 a0 := Tryz.isAgg0
 z0 := zfd
 v0 := Tryz.zeroValue0
 t3 := zv
 a3 := zn
 z3 := zj
 v3 := Tryz.zeroValue3
 t4 := zbs
 a4 := zcg
 z4 := zao
 v4 := Tryz.zeroValue4
 t5 := zbe
 a5 := zdy
 z5 := zbv
 v5 := Tryz.zeroValue5
 t9 := zk
 a9 := zx
 z9 := zo
 v9 := Tryz.zeroValue9
 t31 := zg
 a31 := zan
 z31 := zab
 v31 := Tryz.zeroValue23
 t46 := zei
 a46 := Tryz.isAgg141
 z46 := Tryz.sizeOf141
 v46 := Tryz.zeroValue141
 t51 := Tryz.underlying171
 a51 := Tryz.isAgg171
 z51 := Tryz.sizeOf171
 v51 := Tryz.zeroValue171
 t53 := zah
 a53 := zds
 z53 := zcu
 v53 := Tryz.zeroValue40
 t131 := Tryz.underlying85
 a131 := Tryz.isAgg85
 z131 := Tryz.sizeOf85
 v131 := Tryz.zeroValue85
 t182 := Tryz.underlying163
 a182 := Tryz.isAgg163
 z182 := Tryz.sizeOf163
 v182 := Tryz.zeroValue163
 t183 := Tryz.underlying164
 a183 := Tryz.isAgg164
 z183 := Tryz.sizeOf164
 v183 := Tryz.zeroValue164
 t218 := Tryz.underlying182
 a218 := Tryz.isAgg182
 z218 := Tryz.sizeOf182
 v218 := Tryz.zeroValue182
 t222 := Tryz.underlying186
 a222 := Tryz.isAgg186
 z222 := Tryz.sizeOf186
 v222 := Tryz.zeroValue186
 t228 := Tryz.underlying200
 a228 := Tryz.isAgg200
 z228 := Tryz.sizeOf200
 v228 := Tryz.zeroValue200
 t229 := Tryz.underlying201
 a229 := Tryz.isAgg201
 z229 := Tryz.sizeOf201
 v229 := Tryz.zeroValue201 }
open Go.Sort Go.RowKit in
theorem Tryz.slices_Sort_string (blk off cap : Nat) (ss : List (List UInt8)) (w : World) (hH : Holds encStr w blk off ss.toArray) (hblk : blk < w.heap.size) (hsz : ss.length < 4611686018427387904) :
  Calls Tryz.prog 188 #[.slice (some ⟨blk, off, none⟩) ss.length cap] w fun e w' =>
   e = .returned (.tuple #[]) ∧ ∃ n os, w' = grow (putRow encStr (Sort.ahead w n) blk off (ss.mergeSort fun x y => decide (x ≤ y)).toArray) os := Any.slices_Sort_string Tryz.lays190 blk off cap ss w hH hblk hsz
def Tryz.lays149_ren : Go.Shelf.Ren := ⟨fun | 149 => 135 | 222 => 162 | n => n, fun | 9 => 9 | 5 => 5 | 3 => 3 | 4 => 4 | n => n, fun | n => n⟩
theorem Tryz.lays149 : Go.Proofs.Lays.n149 Tryz.prog Tryz.lays149_ren := {
 mixed := by kernel_rfl
 f149 := Tryz.func135.trans (congrArg some (by kernel_rfl))
 f222 := Tryz.func162.trans (congrArg some (by kernel_rfl))
 t3 := zv
 a3 := zn
 z3 := zj
 v3 := Tryz.zeroValue3
 t4 := zbs
 a4 := zcg
 z4 := zao
 v4 := Tryz.zeroValue4
 t5 := zbe
 a5 := zdy
 z5 := zbv
 v5 := Tryz.zeroValue5
 t9 := zk
 a9 := zx
 z9 := zo
 v9 := Tryz.zeroValue9 }
open Go.RowKit Go.Lib in
theorem Tryz.strings_LastIndexByte (s : ByteArray) (c : Int) (hs : s.size < 4611686018427387904) (w : World) :
  Calls Tryz.prog 135 #[.string s, .int .u8 c] w fun e w' => e = .returned (.int .i64 (Lib.lastIndexByte s c)) ∧ w' = w := Any.strings_LastIndexByte Tryz.lays149 s c hs w
def Tryz.laysGw17_ren : Go.Shelf.Ren := ⟨fun | 17 => 199 | 15 => 204 | 20 => 213 | n => n, fun | 9 => 9 | 23 => 216 | 4 => 4 | 3 => 3 | 0 => 0 | 21 => 21 | n => n, fun | n => n⟩
theorem Tryz.laysGw17 : Go.Proofs.LaysGw.n17 Tryz.prog Tryz.laysGw17_ren := {
 mixed := by kernel_rfl
 f15 := Tryz.func204.trans (congrArg some (by kernel_rfl))
 f17 := Tryz.func199.trans (congrArg some (by kernel_rfl))
 f20 := Tryz.func213.trans (congrArg some (by kernel_rfl))
 t0 := zee
 a0 := Tryz.isAgg0
 z0 := zfd
 v0 := Tryz.zeroValue0
 i0 := by kernel_rfl
 t3 := zv
 a3 := zn
 z3 := zj
 v3 := Tryz.zeroValue3
 i3 := by kernel_rfl
 t4 := zbs
 a4 := zcg
 z4 := zao
 v4 := Tryz.zeroValue4
 i4 := by kernel_rfl
 t9 := zk
 a9 := zx
 z9 := zo
 v9 := Tryz.zeroValue9
 i9 := by kernel_rfl
 t21 := Tryz.underlying21
 a21 := Tryz.isAgg21
 z21 := Tryz.sizeOf21
 v21 := Tryz.zeroValue21
 i21 := by kernel_rfl
 t23 := Tryz.underlying216
 a23 := Tryz.isAgg216
 z23 := Tryz.sizeOf216
 v23 := Tryz.zeroValue216
 i23 := by kernel_rfl }
open Go.RowKit Go.Lib in
theorem Tryz.strings_ContainsFunc_runes (g : Nat) (lb : Array Value) (eg : ∀ args w, (callFunc g args).run Tryz.prog w = .ok (.enter g args) w) (p : Nat → Bool) (s : ByteArray) (w : World) (hp : PredAtRunes Tryz.prog g lb p w) :
  Calls Tryz.prog 199 #[.string s, .func (.func g) #[] lb] w fun e w' => e = .returned (.bool (decide (0 ≤ Lib.idxFunc p true s))) ∧ Below w.heap.size w w' := Any.strings_ContainsFunc_runes Tryz.laysGw17 g lb eg p s w hp
def Tryz.lays99_ren : Go.Shelf.Ren := ⟨fun | 99 => 110 | 206 => 137 | n => n, fun | 9 => 9 | 4 => 4 | 3 => 3 | n => n, fun | n => n⟩
theorem Tryz.lays99 : Go.Proofs.Lays.n99 Tryz.prog Tryz.lays99_ren := {
 mixed := by kernel_rfl
 f99 := Tryz.func110.trans (congrArg some (by kernel_rfl))
 f206 := Tryz.func137.trans (congrArg some (by kernel_rfl))
 t3 := zv
 a3 := zn
 z3 := zj
 v3 := Tryz.zeroValue3
 t4 := zbs
 a4 := zcg
 z4 := zao
 v4 := Tryz.zeroValue4
 t9 := zk
 a9 := zx
 z9 := zo
 v9 := Tryz.zeroValue9 }
open Go.RowKit Go.Lib in
theorem Tryz.strings_HasPrefix (s p : ByteArray) (w : World) :
  Calls Tryz.prog 110 #[.string s, .string p] w fun e w' => e = .returned (.bool (Lib.hasPrefix s.data.toList p.data.toList)) ∧ w' = w := Any.strings_HasPrefix Tryz.lays99 s p w
def Tryz.lays110_ren : Go.Shelf.Ren := ⟨fun | 110 => 67 | 109 => 116 | n => n, fun | 31 => 23 | 9 => 9 | 4 => 4 | 3 => 3 | 0 => 0 | n => n, fun | n => n⟩
theorem Tryz.lays110 : Go.Proofs.Lays.n110 Tryz.prog Tryz.lays110_ren := {
 mixed := by kernel_rfl
 f109 := Tryz.func116.trans (congrArg some (by kernel_rfl))
 f110 := Tryz.func67.trans (congrArg some (by kernel_rfl))
 t0 := zee
 a0 := Tryz.isAgg0
 z0 := zfd
 v0 := Tryz.zeroValue0
 t3 := zv
 a3 := zn
 z3 := zj
 v3 := Tryz.zeroValue3
 t4 := zbs
 a4 := zcg
 z4 := zao
 v4 := Tryz.zeroValue4
 t9 := zk
 a9 := zx
 z9 := zo
 v9 := Tryz.zeroValue9
 t31 := zg
 a31 := zan
 z31 := zab
 v31 := Tryz.zeroValue23 }
open Go.Lib in
theorem Tryz.slices_Contains_string (b off n c : Nat) (zs : List ByteArray) (x : ByteArray) (w : World) (hz : n ≤ zs.length) (hbig : n ≤ 9223372036854775807) (hc : ∀ j, j < zs.length → w.cell? ⟨b, off + j, none⟩ = some (.string (zs.getD j ByteArray.empty))) :
  Calls Tryz.prog 67 #[.slice (some ⟨b, off, none⟩) n c, .string x] w fun e w' => e = .returned (.bool (Lib.containsS (zs.take n) x)) ∧ w' = w := Any.slices_Contains_string Tryz.lays110 b off n c zs x w hz hbig hc
open Go.Lib in
theorem Tryz.slices_Contains_string_empty (a : Option Addr) (c : Nat) (x : ByteArray) (w : World) :
  Calls Tryz.prog 67 #[.slice a 0 c, .string x] w fun e w' => e = .returned (.bool false) ∧ w' = w := Any.slices_Contains_string_empty Tryz.lays110 a c x w
def Tryz.lays193_ren : Go.Shelf.Ren := ⟨fun | 193 => 177 | n => n, fun | 31 => 23 | 9 => 9 | 4 => 4 | 3 => 3 | 0 => 0 | n => n, fun | n => n⟩
theorem Tryz.lays193 : Go.Proofs.Lays.n193 Tryz.prog Tryz.lays193_ren := {
 mixed := by kernel_rfl
 f193 := Tryz.func177.trans (congrArg some (by kernel_rfl))
 t0 := zee
 a0 := Tryz.isAgg0
 z0 := zfd
 v0 := Tryz.zeroValue0
 t3 := zv
 a3 := zn
 z3 := zj
 v3 := Tryz.zeroValue3
 t4 := zbs
 a4 := zcg
 z4 := zao
 v4 := Tryz.zeroValue4
 t9 := zk
 a9 := zx
 z9 := zo
 v9 := Tryz.zeroValue9
 t31 := zg
 a31 := zan
 z31 := zab
 v31 := Tryz.zeroValue23 }
open Go.RowKit Go.Lib in
theorem Tryz.slices_Equal_string (b1 o1 n c b2 o2 m d : Nat) (xs ys : List ByteArray) (w : World) (hx : n ≤ xs.length) (hy : m ≤ ys.length) (hbig : n ≤ 9223372036854775807) (hbig2 : m ≤ 9223372036854775807) (hc1 : ∀ j, j < xs.length → w.cell? ⟨b1, o1 + j, none⟩ = some (.string (xs.getD j ByteArray.empty))) (hc2 : ∀ j, j < ys.length → w.cell? ⟨b2, o2 + j, none⟩ = some (.string (ys.getD j ByteArray.empty))) :
  Calls Tryz.prog 177 #[.slice (some ⟨b1, o1, none⟩) n c, .slice (some ⟨b2, o2, none⟩) m d] w fun e w' => e = .returned (.bool (decide (xs.take n = ys.take m))) ∧ ∃ q, w' = w.drewN q := Any.slices_Equal_string Tryz.lays193 b1 o1 n c b2 o2 m d xs ys w hx hy hbig hbig2 hc1 hc2
open Go.RowKit Go.Lib in
theorem Tryz.slices_Equal_string_empty (a1 a2 : Option Addr) (c m d : Nat) (w : World) (hbig2 : m ≤ 9223372036854775807) :
  Calls Tryz.prog 177 #[.slice a1 0 c, .slice a2 m d] w fun e w' => e = .returned (.bool (decide (m = 0))) ∧ w' = w := Any.slices_Equal_string_empty Tryz.lays193 a1 a2 c m d w hbig2
def Tryz.laysNm217_ren : Go.Shelf.Ren := ⟨fun | 17 => 105 | n => n, fun | 24 => 23 | 9 => 9 | 3 => 3 | 4 => 4 | 0 => 0 | n => n, fun | n => n⟩
theorem Tryz.laysNm217 : Go.Proofs.Lays2.n17 Tryz.prog Tryz.laysNm217_ren := {
 mixed := by kernel_rfl
 f17 := Tryz.func105.trans (congrArg some (by kernel_rfl))
 t0 := zee
 a0 := Tryz.isAgg0
 z0 := zfd
 v0 := Tryz.zeroValue0
 t3 := zv
 a3 := zn
 z3 := zj
 v3 := Tryz.zeroValue3
 t4 := zbs
 a4 := zcg
 z4 := zao
 v4 := Tryz.zeroValue4
 t9 := zk
 a9 := zx
 z9 := zo
 v9 := Tryz.zeroValue9
 t24 := zg
 a24 := zan
 z24 := zab
 v24 := Tryz.zeroValue23 }
open Go.RowKit Go.Lib Go.Sort in
theorem Tryz.slices_Reverse_string (blk off cap : Nat) (zs : List (List UInt8)) (w : World) (hH : Holds encStr w blk off zs.toArray) (hsz : zs.length ≤ 9223372036854775807) :
  Calls Tryz.prog 105 #[.slice (some ⟨blk, off, none⟩) zs.length cap] w fun e w' => e = .returned (.tuple #[]) ∧ ∃ n, w' = putRow encStr (Sort.ahead w n) blk off zs.reverse.toArray := Any.slices_Reverse_string Tryz.laysNm217 blk off cap zs w hH hsz
open Go.RowKit Go.Lib Go.Sort in
theorem Tryz.slices_Reverse_string_empty (a : Option Addr) (cap : Nat) (w : World) :
  Calls Tryz.prog 105 #[.slice a 0 cap] w fun e w' => e = .returned (.tuple #[]) ∧ w' = w := Any.slices_Reverse_string_empty Tryz.laysNm217 a cap w
def Tryz.laysNm216_ren : Go.Shelf.Ren := ⟨fun | 16 => 75 | n => n, fun | 24 => 23 | 9 => 9 | 4 => 4 | n => n, fun | n => n⟩
theorem Tryz.laysNm216 : Go.Proofs.Lays2.n16 Tryz.prog Tryz.laysNm216_ren := {
 mixed := by kernel_rfl
 f16 := Tryz.func75.trans (congrArg some (by kernel_rfl))
 t4 := zbs
 a4 := zcg
 z4 := zao
 v4 := Tryz.zeroValue4
 t9 := zk
 a9 := zx
 z9 := zo
 v9 := Tryz.zeroValue9
 t24 := zg
 a24 := zan
 z24 := zab
 v24 := Tryz.zeroValue23
 i9 := by kernel_rfl }
open Go.RowKit Go.Lib in
theorem Tryz.slices_Clone_string (b off n c : Nat) (zs : List ByteArray) (w : World) (hz : n ≤ zs.length) (hbig : n * 16 ≤ 140737488355328) (hc : ∀ j, j < zs.length → w.cell? ⟨b, off + j, none⟩ = some (.string (zs.getD j ByteArray.empty))) :
  Calls Tryz.prog 75 #[.slice (some ⟨b, off, none⟩) n c] w fun e w' => ∃ v', e = .returned v' ∧ w'.ownsRow w.heap.size 9 1 v' n ((zs.take n).map (Value.string)) ∧ v' ≠ .slice none 0 0 ∧ Below w.heap.size w w' := Any.slices_Clone_string Tryz.laysNm216 b off n c zs w hz hbig hc
open Go.RowKit Go.Lib in
theorem Tryz.slices_Clone_string_nil (n c : Nat) (w : World) :
  Calls Tryz.prog 75 #[.slice none n c] w fun e w' => e = .returned (.slice none 0 0) ∧ w' = w := Any.slices_Clone_string_nil Tryz.laysNm216 n c w
open Go.RowKit Go.Lib in
theorem Tryz.slices_Clone_string_zero (a : Addr) (c : Nat) (w : World) :
  Calls Tryz.prog 75 #[.slice (some a) 0 c] w fun e w' => ∃ v', e = .returned v' ∧ w'.ownsRow w.heap.size 9 1 v' 0 [] ∧ v' ≠ .slice none 0 0 ∧ Below w.heap.size w w' := Any.slices_Clone_string_zero Tryz.laysNm216 a c w
def Tryz.lays194_ren : Go.Shelf.Ren := ⟨fun | 194 => 189 | n => n, fun | 31 => 23 | 9 => 9 | 3 => 3 | 4 => 4 | 0 => 0 | n => n, fun | n => n⟩
theorem Tryz.lays194 : Go.Proofs.Lays.n194 Tryz.prog Tryz.lays194_ren := {
 mixed := by kernel_rfl
 f194 := Tryz.func189.trans (congrArg some (by kernel_rfl))
 t0 := zee
 a0 := Tryz.isAgg0
 z0 := zfd
 v0 := Tryz.zeroValue0
 t3 := zv
 a3 := zn
 z3 := zj
 v3 := Tryz.zeroValue3
 t4 := zbs
 a4 := zcg
 z4 := zao
 v4 := Tryz.zeroValue4
 t9 := zk
 a9 := zx
 z9 := zo
 v9 := Tryz.zeroValue9
 t31 := zg
 a31 := zan
 z31 := zab
 v31 := Tryz.zeroValue23 }
open Go.RowKit Go.Lib Go.Sort in
theorem Tryz.slices_Compact_string (blk off cap : Nat) (zs : List (List UInt8)) (w : World) (hH : Holds encStr w blk off zs.toArray) (hsz : zs.length ≤ 9223372036854775807) (hcap : zs.length ≤ cap) :
  Calls Tryz.prog 189 #[.slice (some ⟨blk, off, none⟩) zs.length cap] w fun e w' => e = .returned (.slice (some ⟨blk, off, none⟩) (Lib.compact zs).length cap) ∧ ∃ q, w' = putRow encStr (Sort.ahead w q) blk off (Lib.compact zs ++ List.replicate (zs.length - (Lib.compact zs).length) []).toArray := Any.slices_Compact_string Tryz.lays194 blk off cap zs w hH hsz hcap
open Go.RowKit Go.Lib Go.Sort in
theorem Tryz.slices_Compact_string_empty (a : Option Addr) (cap : Nat) (w : World) :
  Calls Tryz.prog 189 #[.slice a 0 cap] w fun e w' => e = .returned (.slice a 0 cap) ∧ w' = w := Any.slices_Compact_string_empty Tryz.lays194 a cap w
open Go.RowKit Go.Sort in
theorem Tryz.slices_Sort_string_none (p : Option Addr) (cap : Nat) (w : World) :
  Calls Tryz.prog 188 #[.slice p 0 cap] w fun e w' => e = .returned (.tuple #[]) ∧ w' = w := Any.slices_Sort_string_none Tryz.lays190 p cap w
open Go.RowKit Go.Lib in
theorem Tryz.slices_Equal_string_lens (a1 a2 : Option Addr) (n c m d : Nat) (w : World) (hnm : n ≠ m) :
  Calls Tryz.prog 177 #[.slice a1 n c, .slice a2 m d] w fun e w' => e = .returned (.bool false) ∧ w' = w := Any.slices_Equal_string_lens Tryz.lays193 a1 a2 n c m d w hnm
def Tryz.laysnb115_ren : Go.Shelf.Ren := ⟨fun | 115 => 83 | n => n, fun | 37 => 76 | 4 => 4 | 9 => 9 | 5 => 5 | n => n, fun | n => n⟩
theorem Tryz.laysnb115 : Go.Proofs.Lays.nb115 Tryz.prog Tryz.laysnb115_ren := {
 mixed := by kernel_rfl
 f115 := Tryz.func83.trans (congrArg some (by kernel_rfl))
 t4 := zbs
 a4 := zcg
 z4 := zao
 v4 := Tryz.zeroValue4
 t9 := zk
 a9 := zx
 z9 := zo
 v9 := Tryz.zeroValue9
 t37 := zaj
 a37 := zem
 z37 := zeg
 v37 := Tryz.zeroValue76
 t5 := zbe
 a5 := zdy
 z5 := zbv
 v5 := Tryz.zeroValue5 }
theorem Tryz.bytes_Equal_all (p1 p2 : Option Addr) (n c m d : Nat) (xs ys : List Int) (w : World) (hx : xs.length = n) (hy : ys.length = m) (h1 : Lib.BytesIn w p1 n xs) (h2 : Lib.BytesIn w p2 m ys) :
  Calls Tryz.prog 83 #[.slice p1 n c, .slice p2 m d] w fun e w' => e = .returned (.bool (Lib.bytesOf xs == Lib.bytesOf ys)) ∧ w' = w := Any.bytes_Equal_all Tryz.laysnb115 p1 p2 n c m d xs ys w hx hy h1 h2
end
section
open Go.RowKit Go.Sort
def srt (ss : List Tx) : List Tx := ss.mergeSort fun x y => decide (x ≤ y)
theorem kY (ss : List Tx) : (srt ss).length = ss.length := by simp [srt]
theorem zH (A : Option Addr) (c : Nat) (ss : List Tx) (w : World) (h : Own w 9 1 A ss.length c (SB ss)) (hs : ss.length < 4611686018427387904) :
  Calls Tryz.prog 188 #[.slice A ss.length c] w fun e w' => e = .returned (.tuple #[]) ∧ Own w' 9 1 A ss.length c (SB (srt ss)) ∧ Frm (ob A) w w' := by
 cases A with
 | none =>
  have h0 : ss = [] := by
   rcases h.cases with ⟨_, h1, _⟩ | ⟨g, cur, h1, _⟩
   · exact zam h1
   cases h1
  subst h0
  refine (Tryz.slices_Sort_string_none none c w).mono fun e w' ⟨he, hw⟩ => ?_
  subst hw
  exact ⟨he, by simpa [srt] using h, Frm.refl _ _⟩
 | some ad =>
  obtain ⟨g, rfl⟩ : ∃ g, ad = ⟨g, 0, none⟩ := by
   rcases h.cases with ⟨h1, _⟩ | ⟨g, cur, h1, _⟩
   · cases h1
   cases h1; exact ⟨g, rfl⟩
  obtain ⟨h1, h2⟩ := h.holds
  refine (Tryz.slices_Sort_string g 0 c ss w h1 h2 hs).mono fun e w' ⟨he, m, os, hw⟩ => ?_
  subst hw
  obtain ⟨h3, h4⟩ := h.put (m := m) (os := os) (ts := srt ss) (kY ss)
  exact ⟨he, h3, h4⟩
theorem oR (ss : List Tx) : (Lib.compact ss).length ≤ ss.length := by
 unfold Lib.compact Lib.compactUpTo
 rw [zal]
 refine zbc (zdj _ _) ?_
 simp
theorem sI (A : Option Addr) (c : Nat) (ss : List Tx) (w : World) (h : Own w 9 1 A ss.length c (SB ss)) (hs : ss.length ≤ 9223372036854775807) :
  Calls Tryz.prog 189 #[.slice A ss.length c] w fun e w' => e = .returned (.slice A (Lib.compact ss).length c) ∧ Own w' 9 1 A (Lib.compact ss).length c (SB (Lib.compact ss)) ∧ Frm (ob A) w w' := by
 cases A with
 | none =>
  have h0 : ss = [] := by
   rcases h.cases with ⟨_, h1, _⟩ | ⟨g, cur, h1, _⟩
   · exact zam h1
   cases h1
  subst h0
  refine (Tryz.slices_Compact_string_empty none c w).mono fun e w' ⟨he, hw⟩ => ?_
  subst hw
  exact ⟨he, by simpa [Lib.compact, Lib.compactUpTo] using h, Frm.refl _ _⟩
 | some ad =>
  obtain ⟨g, rfl⟩ : ∃ g, ad = ⟨g, 0, none⟩ := by
   rcases h.cases with ⟨h1, _⟩ | ⟨g, cur, h1, _⟩
   · cases h1
   cases h1; exact ⟨g, rfl⟩
  obtain ⟨h1, h2⟩ := h.holds
  refine (Tryz.slices_Compact_string g 0 c ss w h1 hs h.le).mono fun e w' ⟨he, m, hw⟩ => ?_
  have hle := oR ss
  obtain ⟨h3, h4⟩ := h.put (m := m) (os := #[]) (ts := Lib.compact ss ++ List.replicate (ss.length - (Lib.compact ss).length) []) (by simp; omega)
  have hg : grow (putRow encStr (Sort.ahead w m) g 0 (Lib.compact ss ++ List.replicate (ss.length - (Lib.compact ss).length) []).toArray) #[] = w' := by rw [hw, qXd]
  rw [hg] at h3 h4
  refine ⟨he, ?_, h4⟩
  have h5 := h3.short (k := (Lib.compact ss).length) hle
  simpa [cV, SB, List.take_append] using h5
theorem bas {ss : List Tx} {j : Nat} : (ss.map fun l => (⟨l.toArray⟩ : ByteArray)).getD j ByteArray.empty = ⟨(ss.getD j []).toArray⟩ := by
 simp only [zck, zde]
 cases ss[j]? <;> rfl
theorem qZ9 {a b : List Tx} (h : (a.map fun l => (⟨l.toArray⟩ : ByteArray)) = b.map fun l => (⟨l.toArray⟩ : ByteArray)) : a = b := by
 refine (List.map_inj_right fun x y hxy => ?_).1 h
 injection hxy with h1
 simpa using congrArg Array.toList h1
theorem xQ (A B : Option Addr) (c d : Nat) (xs ys : List Tx) (w : World) (hx : Rd w 1 A xs.length (SB xs)) (hy : Rd w 1 B ys.length (SB ys)) (h1 : xs.length ≤ 9223372036854775807) (h2 : ys.length ≤ 9223372036854775807) :
  Calls Tryz.prog 177 #[.slice A xs.length c, .slice B ys.length d] w fun e w' => e = .returned (.bool (decide (xs = ys))) ∧ qP w w' := by
 by_cases hl : xs.length = ys.length
 ·
  by_cases h0 : xs.length = 0
  ·
   have e1 : xs = [] := zam h0
   have e2 : ys = [] := zam jo
   subst e1 e2
   refine (Tryz.slices_Equal_string_empty A B c 0 d w jo).mono fun e w' ⟨he, hw⟩ => ?_
   subst hw
   exact ⟨by simpa using he, qP.refl _⟩
  obtain ⟨b1, o1, rfl, _, hc1⟩ := Rd.plain hx jo
  obtain ⟨b2, o2, rfl, _, hc2⟩ := Rd.plain hy jo
  refine (Tryz.slices_Equal_string b1 o1 xs.length c b2 o2 ys.length d (xs.map fun l => ⟨l.toArray⟩) (ys.map fun l => ⟨l.toArray⟩) w jp jp h1 h2 (fun j hj => ?_) (fun j hj => ?_)).mono fun e w' ⟨he, q, hw⟩ => ?_
  ·
   rw [bas]
   simp only [zal] at hj
   exact hc1 j _ (by simp [SB, zd hj, List.getD])
  ·
   rw [bas]
   simp only [zal] at hj
   exact hc2 j _ (by simp [SB, zd hj, List.getD])
  refine ⟨?_, q, hw⟩
  rw [he, zt jp, zt jp]
  congr 2
  rw [decide_eq_decide]
  exact ⟨qZ9, fun h => by rw [h]⟩
 refine (Tryz.slices_Equal_string_lens A B xs.length c ys.length d w hl).mono fun e w' ⟨he, hw⟩ => ?_
 subst hw
 exact ⟨by rw [he, decide_eq_false (fun h => hl (by rw [h]))], qP.refl _⟩
theorem sG (A : Option Addr) (c : Nat) (zs : List Tx) (x : Tx) (w : World) (hz : Rd w 1 A zs.length (SB zs)) (h1 : zs.length ≤ 9223372036854775807) :
  Calls Tryz.prog 67 #[.slice A zs.length c, encStr x] w fun e w' => e = .returned (.bool (decide (x ∈ zs))) ∧ w = w' := by
 by_cases h0 : zs.length = 0
 ·
  have e1 : zs = [] := zam h0
  subst e1
  refine (Tryz.slices_Contains_string_empty A c ⟨x.toArray⟩ w).mono fun e w' ⟨he, hw⟩ => ⟨by simpa using he, hw.symm⟩
 obtain ⟨b1, o1, rfl, _, hc1⟩ := Rd.plain hz jo
 refine (Tryz.slices_Contains_string b1 o1 zs.length c (zs.map fun l => ⟨l.toArray⟩) ⟨x.toArray⟩ w jp h1 (fun j hj => ?_)).mono fun e w' ⟨he, hw⟩ => ⟨?_, hw.symm⟩
 ·
  rw [bas]
  simp only [zal] at hj
  exact hc1 j _ (by simp [SB, zd hj, List.getD])
 rw [he, zt jp]
 congr 2
 rw [zcz, Lib.containsS_iff, decide_eq_true_eq]
 constructor
 ·
  intro h
  obtain ⟨y, hy, hxy⟩ := List.mem_map.1 h
  injection hxy with h2
  have := congrArg Array.toList h2
  simp at this
  rwa [← this]
 intro h
 exact List.mem_map.2 ⟨x, h, rfl⟩
theorem oS (A : Option Addr) (c : Nat) (zs : List Tx) (w : World) (hz : Rd w 1 A zs.length (SB zs)) (h1 : zs.length * 16 ≤ 140737488355328) :
  Calls Tryz.prog 75 #[.slice A zs.length c] w fun e w' => ∃ B d, e = .returned (.slice B zs.length d) ∧ Own w' 9 1 B zs.length d (SB zs) ∧ (∀ x ∈ ob B, w.heap.size ≤ x) ∧ Frm [] w w' := by
 have own : ∀ v' w', World.ownsRow w' w.heap.size 9 1 v' zs.length (SB zs) → Below w.heap.size w w' → ∃ B d, v' = .slice B zs.length d ∧ Own w' 9 1 B zs.length d (SB zs) ∧ (∀ x ∈ ob B, w.heap.size ≤ x) ∧ Frm [] w w' := by
  intro v' w' ho hb
  rcases ho.2 with ⟨rfl, h2⟩ | ⟨g, cap, cur, rfl, hg, hb1, h4, h5, h6, h7⟩
  · refine ⟨none, 0, by rw [h2], ⟨ho.1, .inl ⟨by rw [h2], h2⟩⟩, by simp [ob], Frm.of_below hb⟩
  exact ⟨some ⟨g, 0, none⟩, cap, rfl, ⟨ho.1, .inr ⟨g, cap, cur, rfl, zad _, hb1, h4, h5, h6, h7⟩⟩, by simp [ob]; exact hg, Frm.of_below hb⟩
 by_cases h0 : zs.length = 0
 ·
  have e1 : zs = [] := zam h0
  subst e1
  cases A with
  | none =>
   refine (Tryz.slices_Clone_string_nil 0 c w).mono fun e w' ⟨he, hw⟩ => ?_
   subst hw
   exact ⟨none, 0, he, Own.nil _ _ _, by simp [ob], Frm.refl _ _⟩
  | some a =>
   refine (Tryz.slices_Clone_string_zero a c w).mono fun e w' ⟨v', he, ho, _, hb⟩ => ?_
   obtain ⟨B, d, rfl, h2⟩ := own v' w' ho hb
   exact ⟨B, d, he, h2⟩
 obtain ⟨b1, o1, rfl, _, hc1⟩ := Rd.plain hz jo
 refine (Tryz.slices_Clone_string b1 o1 zs.length c (zs.map fun l => ⟨l.toArray⟩) w jp h1 (fun j hj => ?_)).mono fun e w' ⟨v', he, ho, _, hb⟩ => ?_
 ·
  rw [bas]
  simp only [zal] at hj
  exact hc1 j _ (by simp [SB, zd hj, List.getD])
 rw [zt jp, zce] at ho
 obtain ⟨B, d, rfl, h2⟩ := own v' w' ho hb
 exact ⟨B, d, he, h2⟩
end
section
open Go.RowKit Go.Sort
def low (c : UInt8) : UInt8 := if 65 ≤ c.toNat ∧ c.toNat ≤ 90 then c + 32 else c
theorem dD (c : UInt8) : (low c).toNat = if 65 ≤ c.toNat ∧ c.toNat ≤ 90 then c.toNat + 32 else c.toNat := by
 unfold low
 split
 ·
  rename_i h
  rw [UInt8.toNat_add]
  have : (32 : UInt8).toNat = 32 := rfl
  omega
 rfl
theorem qJa (c : UInt8) : low (low c) = low c := by
 apply UInt8.toNat_inj.1
 rw [dD, dD]
 by_cases h : 65 ≤ c.toNat ∧ c.toNat ≤ 90
 · rw [if_pos h, if_neg jo]
 rw [if_neg h, if_neg h]
def qT (s : Tx) : Tx := s.map low
theorem dX (s : Tx) : (qT s).length = s.length := by simp [qT]
theorem lR (s : Tx) : qT (qT s) = qT s := by
 unfold qT
 rw [zce]
 exact zef fun c _ => qJa c
def qF (n : Nat) : Prop := (97 ≤ n ∧ n ≤ 122) ∨ (48 ≤ n ∧ n ≤ 57) ∨ n = 36 ∨ n = 45 ∨ n = 46 ∨ n = 95
instance (n : Nat) : Decidable (qF n) := by unfold qF; exact inferInstance
theorem qF.lt {n : Nat} (h : qF n) : n < 128 := by unfold qF at h; omega
def bP : List Tx := [[92, 65, 110, 115, 119, 101, 114, 101, 100], [92, 68, 101, 108, 101, 116, 101, 100], [92, 68, 114, 97, 102, 116], [92, 70, 108, 97, 103, 103, 101, 100], [92, 83, 101, 101, 110]]
def bH (s : Tx) : Option Tx :=
 if ([92] : Tx).isPrefixOf s = true then bP.find? fun f => decide (qT f = qT s)
 else if qT s = [] ∨ 20 < s.length ∨ ∃ c ∈ qT s, ¬ qF c.toNat then none else some (qT s)
theorem gV {s t : Tx} (h : bH s = some t) : 0 < t.length ∧ t.length ≤ 20 := by
 unfold bH at h
 split at h
 ·
  have := List.mem_of_find?_eq_some h
  have key : ∀ t ∈ bP, 0 < t.length ∧ t.length ≤ 20 := jd
  exact key t this
 split at h
 · cases h
 rename_i h1
 injection h with h
 subst h
 rw [dX]
 refine ⟨?_, jo⟩
 have : qT s ≠ [] := fun e => h1 (.inl e)
 rw [← dX]
 exact List.length_pos_iff.2 this
theorem qXj {s t : Tx} (h : bH s = some t) : t ≠ [] := by
 have := (gV h).1
 intro e; subst e; simp at this
theorem kE : ∀ f ∈ bP, bH f = some f := by decide +kernel
theorem xX {s t : Tx} (h : bH s = some t) : bH t = some t := by
 unfold bH at h
 split at h
 · exact kE t (List.mem_of_find?_eq_some h)
 split at h
 · cases h
 rename_i h0 h1
 injection h with h
 subst h
 unfold bH
 rw [if_neg, if_neg]
 · rw [lR]
 · rw [lR, dX]; exact h1
 intro h2
 cases hs : qT s with
 | nil => rw [hs] at h2; simp at h2
 | cons c r =>
  rw [hs] at h2
  simp at h2
  subst h2
  refine h1 (.inr (.inr ⟨92, by rw [hs]; simp, jd⟩))
def cJ : List Tx → Option (List Tx)
 | [] => some []
 | s :: r => match bH s, cJ r with
  | some t, some ts => some (t :: ts)
  | _, _ => none
theorem oT (l : List Tx) (s : Tx) : cJ (l ++ [s]) = match cJ l, bH s with
  | some ts, some t => some (ts ++ [t])
  | _, _ => none := by
 induction l with
 | nil => simp only [zcb, cJ]; cases bH s <;> rfl
 | cons a r ih =>
  simp only [List.cons_append, cJ, ih]
  cases bH a <;> cases cJ r <;> cases bH s <;> rfl
theorem oU {l : List Tx} {s : Tx} (hs : s ∈ l) (h : bH s = none) : cJ l = none := by
 induction l with
 | nil => cases hs
 | cons a r ih =>
  simp only [cJ]
  rcases zbj.1 hs with rfl | hs
  · rw [h]
  rw [ih hs]; cases bH a <;> rfl
theorem rS {l : List Tx} (h : ∀ s ∈ l, bH s = some s) : cJ l = some l := by
 induction l with
 | nil => rfl
 | cons a r ih =>
  simp only [cJ]
  rw [h a jp, ih fun s hs => h s (by simp [hs])]
theorem zM {l ts : List Tx} (h : cJ l = some ts) : ∀ t, t ∈ ts ↔ ∃ s ∈ l, bH s = some t := by
 induction l generalizing ts with
 | nil => simp only [cJ, Option.some.injEq] at h; subst h; simp
 | cons a r ih =>
  simp only [cJ] at h
  cases ha : bH a with
  | none => rw [ha] at h; cases h
  | some t0 =>
   cases hr : cJ r with
   | none => rw [ha, hr] at h; cases h
   | some ts0 =>
    rw [ha, hr] at h
    injection h with h
    subst h
    intro t
    simp only [zbj, ih hr, exists_eq_or_imp, ha, Option.some.injEq]
    constructor
    ·
     rintro (rfl | h)
     · exact .inl rfl
     exact .inr h
    rintro (rfl | h)
    · exact .inl rfl
    exact .inr h
theorem oB {l ts : List Tx} (h : cJ l = some ts) : ∀ t ∈ ts, bH t = some t := fun t ht => by
 obtain ⟨s, _, hs⟩ := (zM h t).1 ht
 exact xX hs
theorem rU {l ts : List Tx} (h : cJ l = some ts) : ts.length = l.length := by
 induction l generalizing ts with
 | nil => simp only [cJ, Option.some.injEq] at h; subst h; rfl
 | cons a r ih =>
  simp only [cJ] at h
  cases ha : bH a with
  | none => rw [ha] at h; cases h
  | some t0 =>
   cases hr : cJ r with
   | none => rw [ha, hr] at h; cases h
   | some ts0 => rw [ha, hr] at h; injection h with h; subst h; simp [ih hr]
abbrev SS (l : List Tx) : Prop := l.Pairwise (· < ·)
theorem nV {a b : Tx} (h : a ≤ b) (hne : a ≠ b) : a < b := by
 rcases Classical.em (a < b) with h1 | h1
 · exact h1
 exact absurd (List.le_antisymm h (List.not_lt.1 h1)) hne
theorem sL (a : Tx) : ¬ a < a := zen a
theorem zN {a b : List Tx} (ha : SS a) (hb : SS b) (h : ∀ x, x ∈ a ↔ x ∈ b) : a = b := by
 induction a generalizing b with
 | nil =>
  cases b with
  | nil => rfl
  | cons y r => exact absurd ((h y).2 jp) jp
 | cons x r ih =>
  cases b with
  | nil => exact absurd ((h x).1 jp) jp
  | cons y q =>
   have ha := List.pairwise_cons.1 ha
   have hb := List.pairwise_cons.1 hb
   have hxy : x = y := by
    rcases zbj.1 ((h x).1 jp) with h1 | h1
    · exact h1
    rcases zbj.1 ((h y).2 jp) with h2 | h2
    · exact h2.symm
    exact absurd (List.lt_trans (ha.1 y h2) (hb.1 x h1)) (sL x)
   subst hxy
   rw [ih ha.2 hb.2]
   intro z
   constructor
   ·
    intro hz
    rcases zbj.1 ((h z).1 (zeu _ hz)) with h1 | h1
    · subst h1; exact absurd (ha.1 z hz) (sL z)
    exact h1
   intro hz
   rcases zbj.1 ((h z).2 (zeu _ hz)) with h1 | h1
   · subst h1; exact absurd (hb.1 z hz) (sL z)
   exact h1
def nub (ts : List Tx) : List Tx := Lib.compact (srt ts)
theorem qJb (ts : List Tx) (x : Tx) : x ∈ srt ts ↔ x ∈ ts := (List.mergeSort_perm ts _).mem_iff
theorem xZ (ts : List Tx) : (srt ts).Pairwise (· ≤ ·) := by
 have := List.pairwise_mergeSort (le := fun x y : Tx => decide (x ≤ y)) (fun a b c h1 h2 => by
  simp only [decide_eq_true_eq] at *
  exact List.le_trans h1 h2) (fun a b => by
  simp only [Bool.or_eq_true, decide_eq_true_eq]
  exact List.le_total a b) ts
 exact this.imp (by intro a b h; simpa using h)
theorem kG {d : Array Tx} (hd : ∀ i j, i ≤ j → j < d.size → d[i]! ≤ d[j]!) : ∀ m, m ≤ d.size →
  SS (Lib.compactUpTo d m) ∧ (∀ x, x ∈ Lib.compactUpTo d m ↔ ∃ j, j < m ∧ d[j]! = x)
 | 0, _ => by simp [Lib.compactUpTo]
 | m + 1, hm => by
  obtain ⟨h1, h2⟩ := kG hd m jo
  rw [Lib.compactUpTo_succ]
  by_cases hk : Lib.keeps d m = true
  ·
   rw [if_pos hk]
   refine ⟨List.pairwise_append.2 ⟨h1, jp, fun x hx y hy => ?_⟩, fun x => ?_⟩
   ·
    simp only [zc] at hy
    subst hy
    obtain ⟨j, hj, rfl⟩ := (h2 x).1 hx
    have h3 := hd j (m - 1) jo jo
    have h4 := hd (m - 1) m jo jo
    unfold Lib.keeps at hk
    rw [decide_eq_true_eq] at hk
    have h5 : d[m - 1]! < d[m]! := nV h4 (by rcases hk with h | h; omega; exact fun e => h e.symm)
    exact List.lt_of_le_of_lt h3 h5
   rw [zfb, h2, zc]
   constructor
   ·
    rintro (⟨j, hj, rfl⟩ | rfl)
    · exact ⟨j, jo, rfl⟩
    exact ⟨m, jo, rfl⟩
   rintro ⟨j, hj, rfl⟩
   rcases zdc j m with h | h
   · exact .inl ⟨j, h, rfl⟩
   have : j = m := jo
   subst this
   exact .inr rfl
  rw [if_neg hk, zcc]
  refine ⟨h1, fun x => ?_⟩
  rw [h2]
  unfold Lib.keeps at hk
  rw [decide_eq_true_eq] at hk
  constructor
  ·
   rintro ⟨j, hj, rfl⟩
   exact ⟨j, jo, rfl⟩
  rintro ⟨j, hj, rfl⟩
  rcases zdc j m with h | h
  · exact ⟨j, h, rfl⟩
  have : j = m := jo
  subst this
  have hne : j ≠ 0 := fun h => hk (.inl h)
  have heq : d[j]! = d[j - 1]! := Classical.not_not.1 fun h => hk (.inr h)
  exact ⟨j - 1, jo, heq.symm⟩
theorem fX (ts : List Tx) : SS (nub ts) ∧ ∀ x, x ∈ nub ts ↔ x ∈ ts := by
 have hs := xZ ts
 have hd : ∀ i j, i ≤ j → j < (srt ts).toArray.size → (srt ts).toArray[i]! ≤ (srt ts).toArray[j]! := by
  intro i j hij hj
  have hj' : j < (srt ts).length := by simpa using hj
  rw [getElem!_pos _ i (by simp; omega), getElem!_pos _ j (by simpa using hj)]
  simp only [List.getElem_toArray]
  rcases zdc i j with h | h
  · exact List.pairwise_iff_getElem.1 hs i j jo hj' h
  have : i = j := jo
  subst this
  exact List.le_refl _
 obtain ⟨h1, h2⟩ := kG hd (srt ts).length jp
 refine ⟨h1, fun x => ?_⟩
 rw [← qJb ts x]
 unfold nub Lib.compact
 rw [h2]
 constructor
 ·
  rintro ⟨j, hj, rfl⟩
  rw [getElem!_pos _ j (by simpa using hj)]
  simp
 intro hx
 obtain ⟨j, hj, rfl⟩ := zag hx
 exact ⟨j, hj, by rw [getElem!_pos _ j (by simpa using hj)]; simp⟩
theorem oQ {l : List Tx} (h : SS l) : nub l = l := zN (fX l).1 h (fX l).2
theorem qJc (ts : List Tx) : (nub ts).length ≤ ts.length := by
 unfold nub
 refine zbc (oR _) ?_
 rw [kY]
 exact zac _
def gH (l : List Tx) (s : Tx) : List Tx := l.filter (fun x => decide (x < s)) ++ [s] ++ l.filter (fun x => decide (s < x))
theorem zP {l : List Tx} (h : SS l) (s : Tx) : SS (gH l s) ∧ ∀ x, x ∈ gH l s ↔ x ∈ l ∨ x = s := by
 refine ⟨?_, fun x => ?_⟩
 ·
  unfold gH
  refine List.pairwise_append.2 ⟨List.pairwise_append.2 ⟨h.filter _, jp, fun x hx y hy => ?_⟩, h.filter _, fun x hx y hy => ?_⟩
  ·
   simp only [zfc, decide_eq_true_eq, zc] at hx hy
   rw [hy]; exact hx.2
  simp only [zfc, decide_eq_true_eq] at hy
  rcases zfb.1 hx with hx | hx
  ·
   simp only [zfc, decide_eq_true_eq] at hx
   exact List.lt_trans hx.2 hy.2
  simp only [zc] at hx
  rw [hx]; exact hy.2
 unfold gH
 simp only [zfb, zfc, decide_eq_true_eq, zc]
 constructor
 ·
  rintro ((⟨h1, _⟩ | h1) | ⟨h1, _⟩)
  · exact .inl h1
  · exact .inr h1
  exact .inl h1
 rintro (h1 | h1)
 ·
  rcases Classical.em (x < s) with h2 | h2
  · exact .inl (.inl ⟨h1, h2⟩)
  rcases Classical.em (x = s) with h3 | h3
  · exact .inl (.inr h3)
  exact .inr ⟨h1, nV (List.not_lt.1 h2) (fun e => h3 e.symm)⟩
 exact .inl (.inr h1)
def jY (l ts : List Tx) : List Tx := ts.foldl gH l
theorem xJ {l : List Tx} (h : SS l) : ∀ ts, SS (jY l ts) ∧ ∀ x, x ∈ jY l ts ↔ x ∈ l ∨ x ∈ ts := by
 intro ts
 induction ts generalizing l with
 | nil => exact ⟨h, by simp [jY]⟩
 | cons t r ih =>
  obtain ⟨h1, h2⟩ := zP h t
  obtain ⟨h3, h4⟩ := ih h1
  refine ⟨h3, fun x => ?_⟩
  show x ∈ jY (gH l t) r ↔ _
  rw [h4, h2, zbj, or_assoc]
theorem rB (ts : List Tx) : jY [] ts = nub ts := by
 obtain ⟨h1, h2⟩ := xJ (l := []) jp ts
 exact zN h1 (fX ts).1 fun x => by rw [h2, (fX ts).2]; simp
theorem xK (l a : List Tx) (t : Tx) : gH (jY l a) t = jY l (a ++ [t]) := by simp [jY]
def dS (l : List Tx) : Except Nat (List Tx) := match cJ l with
 | none => .error 18
 | some ts => if 16 < (nub ts).length then .error 5 else .ok (nub ts)
def cU (l : List Tx) : Prop := dS l = .ok l
instance (l : List Tx) : Decidable (cU l) := by
 unfold cU
 cases h : dS l with
 | error k => exact isFalse jp
 | ok x => exact if hx : x = l then isTrue (by rw [hx]) else isFalse (by simp [hx])
theorem eN {l : List Tx} (h : cU l) : SS l ∧ l.length ≤ 16 ∧ cJ l = some l ∧ ∀ s ∈ l, bH s = some s := by
 unfold cU dS at h
 cases ht : cJ l with
 | none => rw [ht] at h; cases h
 | some ts =>
  rw [ht] at h
  dsimp only at h
  split at h
  · cases h
  rename_i hl
  injection h with h
  have h1 := fX ts
  rw [h] at h1
  have h2 : ∀ s ∈ l, bH s = some s := fun s hs => oB ht s ((h1.2 s).1 hs)
  refine ⟨h1.1, by rw [h] at hl; omega, ?_, h2⟩
  exact ht.symm.trans (rS h2)
theorem xV {l : List Tx} : cU l ↔ SS l ∧ l.length ≤ 16 ∧ ∀ s ∈ l, bH s = some s := by
 constructor
 ·
  intro h
  obtain ⟨h1, h2, _, h3⟩ := eN h
  exact ⟨h1, h2, h3⟩
 rintro ⟨h1, h2, h3⟩
 unfold cU dS
 rw [rS h3]
 dsimp only
 rw [oQ h1, if_neg jo]
theorem nW {l r : List Tx} (h : dS l = .ok r) : cU r := by
 unfold dS at h
 cases ht : cJ l with
 | none => rw [ht] at h; cases h
 | some ts =>
  rw [ht] at h
  dsimp only at h
  split at h
  · cases h
  rename_i hl
  injection h with h
  subst h
  exact xV.2 ⟨(fX ts).1, jo, fun s hs => oB ht s (((fX ts).2 s).1 hs)⟩
end
section
open Go.RowKit Go.Sort
theorem zR {n i : Nat} {cs : Array Value} {l : List UInt8} {c : UInt8} (h : cs.toList.take n = U8 l) (hl : l.length = n) (hi : i < n) : (cs.setIfInBounds i (.int .u8 ((c.toNat : Nat) : Int))).toList.take n = U8 (l.set i c) := by
 rw [zdv, List.take_set, h]
 simp [U8, List.map_set]
theorem sO {s : Tx} {i : Nat} (h : i < s.length) : ((s.take i).map low ++ s.drop i).set i (low s[i]) = (s.take (i + 1)).map low ++ s.drop (i + 1) := by
 have e1 : ((s.take i).map low).length = i := by simp; omega
 rw [List.set_append_right _ _ jo, e1, zdh, zbd h, List.set_cons_zero]
 have e2 : s.take (i + 1) = s.take i ++ [s[i]] := by rw [zau, zd h]; rfl
 rw [e2]
 simp only [zbh, zby, zdr, zat, List.cons_append, zcb]
theorem qXk {s : Tx} {i : Nat} (h : i < s.length) (hl : low s[i] = s[i]) : (s.take i).map low ++ s.drop i = (s.take (i + 1)).map low ++ s.drop (i + 1) := by
 rw [← sO h, hl]
 apply zcy
 intro j
 by_cases hj : j = i
 ·
  subst hj
  have e1 : ((s.take j).map low).length = j := by simp; omega
  rw [zco (by simp; omega), zbq jo, e1, zdh, zbd h]
  rfl
 rw [zdl (Ne.symm hj)]
theorem kF (q : Tx) (w : World) (hq : q.length ≤ 1000000) : Calls Tryz.prog 198 #[encStr q] w fun e w' => e = .returned (encStr (qT q)) ∧ Frm [] w w' := by
 refine VC.calls (nt := 29) (res := #[.tmp 2]) Tryz.func198 rfl Tryz.ntmps198 Tryz.results198 rfl ?_
 refine jS (jR (ja rfl (jO (jN (jv1 0 ?_)))))
 refine jS (jR (jM ?_))
 refine Ops.m (qK.bytesOfT rfl zk zaj zbe) rfl ?_
 rintro _ w1 ⟨c1, cs1, rfl, hF1, ht1, hf1⟩
 have hge : w.heap.size ≤ w.heap.size := zac _
 generalize hg : w.heap.size = g1 at hF1 hge ⊢
 refine ja rfl (jO (jN (jv1 3 ?_)))
 refine jS (jS (jR (jm rfl (je (Run.lenS rfl zaj) ?_))))
 refine jx .i64 0 ?_
 refine jO (jN (jB ?_))
 refine VC.loop (σ := Nat) (fun s => [(3, .slice (some ⟨g1, 0, none⟩) q.length c1), (8, .slice (some ⟨g1, 0, none⟩) q.length c1), (9, .int .i64 ((q.length : Nat) : Int)), (10, .int .i64 ((s : Nat) : Int))]) (fun s wr => s ≤ q.length ∧ Frm [] w wr ∧ ∃ cs, Fro wr g1 5 cs ∧ cs.toList.take q.length = U8 ((q.take s).map low ++ q.drop s)) (fun s => q.length - s) 0 (js4 rfl rfl rfl rfl) ⟨jo, hf1, cs1, hF1, by simpa using ht1⟩ ?_
 rintro i wr ⟨hi, hfr, cs, hF, ht⟩
 refine jS (jR (jb rfl rfl (Bin.lssN _ _) (jO (jN (jS ?_)))))
 refine jD rfl (fun hc1 => ?_) fun hc1 => ?_
 ·
  have hrd : Rd wr 1 (some ⟨g1, 0, none⟩) q.length (U8 ((q.take i).map low ++ q.drop i)) := by
   have h := hF.rd (l := (q.take i).map low ++ q.drop i) (by simpa [zas hi, zey hi] using ht)
   simpa [zas hi, zey hi] using h
  have hcell : wr.cell? ((⟨g1, 0, none⟩ : Addr).add (i * 1)) = some (.int .u8 ((q[i].toNat : Nat) : Int)) := by
   rw [zbu]
   obtain ⟨ad, u, hA, hu, hc⟩ := hrd.at1 hc1
   cases hA
   rw [hc, ← hu]
   simp [U8, zbq, zas hi, zd, hc1]
  have hll : ((q.take i).map low ++ q.drop i).length = q.length := by simp; omega
  have hsz : i < cs.size := by
   have := congrArg List.length ht
   simp [U8] at this
   omega
  refine jQ (jN (jv4 3 8 9 10 ?_))
  refine jS (jB (jS (jR (jm rfl (je (Run.indexS i rfl rfl zaj zbv hc1) (jl rfl zdy hcell (ja rfl (ja rfl (jO (jN (jv6 3 4 5 8 9 10 ?_)))))))))))
  refine jS ?_
  refine VC.split1 [(3, _), (4, _), (5, _), (8, _), (9, _), (10, _)] (js6 rfl rfl rfl rfl rfl rfl) 20 (.bool (decide ((65 ≤ q[i].toNat) ∧ (q[i].toNat ≤ 90)))) ?_ ?_
  ·
   by_cases hs0 : 65 ≤ q[i].toNat
   ·
    refine jR (jm rfl (jb rfl rfl (Bin.geqN _ 65) (jM ?_)))
    refine jG ?_
    refine jk (Run.bin rfl rfl (Bin.leqN _ 90)) ?_
    refine je (Run.pickT rfl rfl au) (jO ?_)
    refine jN ⟨(js7 (by rw [oM hs0]; rfl) rfl rfl rfl rfl rfl rfl), rfl⟩
   refine jR (jm rfl (jb rfl rfl (Bin.geqN _ 65) (jM ?_)))
   refine jU ?_
   refine jU ?_
   refine je (Run.pickF rfl rfl au) (jO ?_)
   refine jN ⟨(js7 (by rw [oN hs0]; rfl) rfl rfl rfl rfl rfl rfl), rfl⟩
  intro Γ hΓ
  refine jN (VC.sub _ hΓ ?_)
  refine VC.meet (σ := Unit) (fun s => [(3, .slice (some ⟨g1, 0, none⟩) q.length c1), (8, .slice (some ⟨g1, 0, none⟩) q.length c1), (9, .int .i64 ((q.length : Nat) : Int)), (10, .int .i64 ((i : Nat) : Int))]) (fun s wm => Frm [] w wm ∧ ∃ cs, Fro wm g1 5 cs ∧ cs.toList.take q.length = U8 ((q.take (i + 1)).map low ++ q.drop (i + 1))) ?_ ?_
  ·
   refine jD rfl (fun hc2 => ?_) fun hc2 => ?_
   ·
    refine jR (jm rfl (jm rfl (jm rfl (jb rfl rfl (Bin.add_u8 _ 32 jo) ?_))))
    rw [show (q[i].toNat + 32 : Nat) = (low q[i]).toNat by rw [dD, if_pos hc2]]
    refine je (Run.indexS i rfl rfl zaj zbv hc1) ?_
    rw [show (⟨g1, 0, none⟩ : Addr).add (i * 1) = ⟨g1, i, none⟩ by unfold Addr.add; rw [zbu]; split <;> simp_all]
    refine Ops.st (qH.storeFro rfl rfl zbv hF hsz rfl) ?_
    rintro w2 ⟨hF2, hf2, hs2⟩
    refine jO ?_
    refine jN ⟨(), (js4 rfl rfl rfl rfl), ?_⟩
    exact ⟨hfr.own hf2 (fun x hx => by simp at hx; omega), _, hF2, by rw [zR ht hll hc1, sO hc1]⟩
   refine jQ ?_
   refine jN ⟨(), (js4 rfl rfl rfl rfl), ?_⟩
   exact ⟨hfr, cs, hF, by rw [ht, qXk hc1 (UInt8.toNat_inj.1 (by rw [dD, if_neg hc2]))]⟩
  rintro _ wm ⟨hfr2, cs2, hF2, ht2⟩ Γ hΓ
  refine qW (jN (VC.sub _ hΓ ?_))
  refine jR (jb rfl rfl (Bin.add_i64 _ 1 jo) (jm rfl (jO ?_)))
  refine jN ⟨(i + 1), (js4 rfl rfl rfl rfl), ?_, ?_⟩
  · exact ⟨hc1, hfr2, cs2, hF2, ht2⟩
  first | omega | (dsimp only; omega)
 refine jX ?_
 refine qJ (qJ (qR ?_))
 refine jN (jv1 3 ?_)
 refine jS (jR (jM ?_))
 have hR : Rd wr 1 (some ⟨g1, 0, none⟩) q.length (U8 (qT q)) := by
  have him : i = q.length := jo
  subst him
  have h := hF.rd (l := qT q) (by rw [dX, ht]; simp [qT])
  rwa [dX] at h
 refine je (Run.strOfT rfl zaj zbe zk hR) (ja rfl (jO (jN (jv1 2 ?_))))
 refine jT ?_
 refine qN rfl ?_
 exact ⟨rfl, hfr⟩
theorem zS (n : Nat) (w : World) : Calls Tryz.prog 201 #[.int .i32 ((n : Nat) : Int)] w fun e w' => e = .returned (.bool (decide (qF n))) ∧ w = w' := by
 refine VC.calls (nt := 33) (res := #[.tmp 2]) Tryz.func201 rfl Tryz.ntmps201 Tryz.results201 rfl ?_
 refine jS (jR (ja rfl (jO (jN (jv1 0 ?_)))))
 refine jS ?_
 refine VC.split1 [] .nil 2 (.bool (decide (qF n))) ?_ ?_
 ·
  refine jR ?_
  refine jm rfl (jb rfl rfl (Bin.geqN _ 97) ?_)
  by_cases hs4 : 97 ≤ n
  ·
   refine jM ?_
   refine jG ?_
   refine jk (Run.bin rfl rfl (Bin.leqN _ 122)) ?_
   by_cases hs7 : n ≤ 122
   ·
    refine je (Run.pickT rfl rfl au) (jM ?_)
    refine jU ?_
    refine jU ?_
    refine jU ?_
    refine Ops.skU rfl rfl ?_
    refine Ops.skU rfl rfl ?_
    refine jU ?_
    refine je (Run.pickT rfl rfl au) (jM ?_)
    refine jU ?_
    refine jU ?_
    refine je (Run.pickT rfl rfl au) (jM ?_)
    refine jU ?_
    refine jU ?_
    refine je (Run.pickT rfl rfl au) (jM ?_)
    refine jU ?_
    refine jU ?_
    refine je (Run.pickT rfl rfl au) (jM ?_)
    refine jU ?_
    refine jU ?_
    refine je (Run.pickT rfl rfl au) (ja rfl (jO ?_))
    refine jN ⟨(js1 (jC (Eq.symm (by unfold qF; grind)))), rfl⟩
   refine je (Run.pickT rfl rfl au) (jM ?_)
   refine jG ?_
   refine jk (Run.bin rfl rfl (Bin.geqN _ 48)) ?_
   by_cases hs11 : 48 ≤ n
   ·
    refine jG ?_
    refine jG ?_
    refine jk (Run.bin rfl rfl (Bin.leqN _ 57)) ?_
    by_cases hs14 : n ≤ 57
    ·
     refine jk (Run.pickT rfl rfl au) ?_
     refine je (Run.pickF rfl rfl au) (jM ?_)
     refine jU ?_
     refine jU ?_
     refine je (Run.pickT rfl rfl au) (jM ?_)
     refine jU ?_
     refine jU ?_
     refine je (Run.pickT rfl rfl au) (jM ?_)
     refine jU ?_
     refine jU ?_
     refine je (Run.pickT rfl rfl au) (jM ?_)
     refine jU ?_
     refine jU ?_
     refine je (Run.pickT rfl rfl au) (ja rfl (jO ?_))
     refine jN ⟨(js1 (jC (Eq.symm (by unfold qF; grind)))), rfl⟩
    refine jk (Run.pickT rfl rfl au) ?_
    refine je (Run.pickF rfl rfl au) (jM ?_)
    refine jG ?_
    refine jk (Run.bin rfl rfl (Bin.eqlN _ 36)) ?_
    by_cases hs19 : n = 36
    ·
     refine je (Run.pickF rfl rfl au) (jM ?_)
     refine jU ?_
     refine jU ?_
     refine je (Run.pickT rfl rfl au) (jM ?_)
     refine jU ?_
     refine jU ?_
     refine je (Run.pickT rfl rfl au) (jM ?_)
     refine jU ?_
     refine jU ?_
     refine je (Run.pickT rfl rfl au) (ja rfl (jO ?_))
     refine jN ⟨(js1 (jC (Eq.symm (by unfold qF; grind)))), rfl⟩
    refine je (Run.pickF rfl rfl au) (jM ?_)
    refine jG ?_
    refine jk (Run.bin rfl rfl (Bin.eqlN _ 45)) ?_
    by_cases hs23 : n = 45
    ·
     refine je (Run.pickF rfl rfl au) (jM ?_)
     refine jU ?_
     refine jU ?_
     refine je (Run.pickT rfl rfl au) (jM ?_)
     refine jU ?_
     refine jU ?_
     refine je (Run.pickT rfl rfl au) (ja rfl (jO ?_))
     refine jN ⟨(js1 (jC (Eq.symm (by unfold qF; grind)))), rfl⟩
    refine je (Run.pickF rfl rfl au) (jM ?_)
    refine jG ?_
    refine jk (Run.bin rfl rfl (Bin.eqlN _ 46)) ?_
    by_cases hs27 : n = 46
    ·
     refine je (Run.pickF rfl rfl au) (jM ?_)
     refine jU ?_
     refine jU ?_
     refine je (Run.pickT rfl rfl au) (ja rfl (jO ?_))
     refine jN ⟨(js1 (jC (Eq.symm (by unfold qF; grind)))), rfl⟩
    refine je (Run.pickF rfl rfl au) (jM ?_)
    refine jG ?_
    refine jk (Run.bin rfl rfl (Bin.eqlN _ 95)) ?_
    by_cases hs31 : n = 95
    ·
     refine je (Run.pickF rfl rfl au) (ja rfl (jO ?_))
     refine jN ⟨(js1 (jC (Eq.symm (by unfold qF; grind)))), rfl⟩
    refine je (Run.pickF rfl rfl au) (ja rfl (jO ?_))
    refine jN ⟨(js1 (jC (Eq.symm (by unfold qF; grind)))), rfl⟩
   refine jG ?_
   refine jU ?_
   refine jU ?_
   refine jk (Run.pickF rfl rfl au) ?_
   refine je (Run.pickF rfl rfl au) (jM ?_)
   refine jG ?_
   refine jk (Run.bin rfl rfl (Bin.eqlN _ 36)) ?_
   by_cases hs19 : n = 36
   ·
    refine je (Run.pickF rfl rfl au) (jM ?_)
    refine jU ?_
    refine jU ?_
    refine je (Run.pickT rfl rfl au) (jM ?_)
    refine jU ?_
    refine jU ?_
    refine je (Run.pickT rfl rfl au) (jM ?_)
    refine jU ?_
    refine jU ?_
    refine je (Run.pickT rfl rfl au) (ja rfl (jO ?_))
    refine jN ⟨(js1 (jC (Eq.symm (by unfold qF; grind)))), rfl⟩
   refine je (Run.pickF rfl rfl au) (jM ?_)
   refine jG ?_
   refine jk (Run.bin rfl rfl (Bin.eqlN _ 45)) ?_
   by_cases hs23 : n = 45
   ·
    refine je (Run.pickF rfl rfl au) (jM ?_)
    refine jU ?_
    refine jU ?_
    refine je (Run.pickT rfl rfl au) (jM ?_)
    refine jU ?_
    refine jU ?_
    refine je (Run.pickT rfl rfl au) (ja rfl (jO ?_))
    refine jN ⟨(js1 (jC (Eq.symm (by unfold qF; grind)))), rfl⟩
   refine je (Run.pickF rfl rfl au) (jM ?_)
   refine jG ?_
   refine jk (Run.bin rfl rfl (Bin.eqlN _ 46)) ?_
   by_cases hs27 : n = 46
   ·
    refine je (Run.pickF rfl rfl au) (jM ?_)
    refine jU ?_
    refine jU ?_
    refine je (Run.pickT rfl rfl au) (ja rfl (jO ?_))
    refine jN ⟨(js1 (jC (Eq.symm (by unfold qF; grind)))), rfl⟩
   refine je (Run.pickF rfl rfl au) (jM ?_)
   refine jG ?_
   refine jk (Run.bin rfl rfl (Bin.eqlN _ 95)) ?_
   by_cases hs31 : n = 95
   ·
    refine je (Run.pickF rfl rfl au) (ja rfl (jO ?_))
    refine jN ⟨(js1 (jC (Eq.symm (by unfold qF; grind)))), rfl⟩
   refine je (Run.pickF rfl rfl au) (ja rfl (jO ?_))
   refine jN ⟨(js1 (jC (Eq.symm (by unfold qF; grind)))), rfl⟩
  refine jM ?_
  refine jU ?_
  refine jU ?_
  refine je (Run.pickF rfl rfl au) (jM ?_)
  refine jG ?_
  refine jk (Run.bin rfl rfl (Bin.geqN _ 48)) ?_
  by_cases hs11 : 48 ≤ n
  ·
   refine jG ?_
   refine jG ?_
   refine jk (Run.bin rfl rfl (Bin.leqN _ 57)) ?_
   by_cases hs14 : n ≤ 57
   ·
    refine jk (Run.pickT rfl rfl au) ?_
    refine je (Run.pickF rfl rfl au) (jM ?_)
    refine jU ?_
    refine jU ?_
    refine je (Run.pickT rfl rfl au) (jM ?_)
    refine jU ?_
    refine jU ?_
    refine je (Run.pickT rfl rfl au) (jM ?_)
    refine jU ?_
    refine jU ?_
    refine je (Run.pickT rfl rfl au) (jM ?_)
    refine jU ?_
    refine jU ?_
    refine je (Run.pickT rfl rfl au) (ja rfl (jO ?_))
    refine jN ⟨(js1 (jC (Eq.symm (by unfold qF; grind)))), rfl⟩
   refine jk (Run.pickT rfl rfl au) ?_
   refine je (Run.pickF rfl rfl au) (jM ?_)
   refine jG ?_
   refine jk (Run.bin rfl rfl (Bin.eqlN _ 36)) ?_
   by_cases hs19 : n = 36
   ·
    refine je (Run.pickF rfl rfl au) (jM ?_)
    refine jU ?_
    refine jU ?_
    refine je (Run.pickT rfl rfl au) (jM ?_)
    refine jU ?_
    refine jU ?_
    refine je (Run.pickT rfl rfl au) (jM ?_)
    refine jU ?_
    refine jU ?_
    refine je (Run.pickT rfl rfl au) (ja rfl (jO ?_))
    refine jN ⟨(js1 (jC (Eq.symm (by unfold qF; grind)))), rfl⟩
   refine je (Run.pickF rfl rfl au) (jM ?_)
   refine jG ?_
   refine jk (Run.bin rfl rfl (Bin.eqlN _ 45)) ?_
   by_cases hs23 : n = 45
   ·
    refine je (Run.pickF rfl rfl au) (jM ?_)
    refine jU ?_
    refine jU ?_
    refine je (Run.pickT rfl rfl au) (jM ?_)
    refine jU ?_
    refine jU ?_
    refine je (Run.pickT rfl rfl au) (ja rfl (jO ?_))
    refine jN ⟨(js1 (jC (Eq.symm (by unfold qF; grind)))), rfl⟩
   refine je (Run.pickF rfl rfl au) (jM ?_)
   refine jG ?_
   refine jk (Run.bin rfl rfl (Bin.eqlN _ 46)) ?_
   by_cases hs27 : n = 46
   ·
    refine je (Run.pickF rfl rfl au) (jM ?_)
    refine jU ?_
    refine jU ?_
    refine je (Run.pickT rfl rfl au) (ja rfl (jO ?_))
    refine jN ⟨(js1 (jC (Eq.symm (by unfold qF; grind)))), rfl⟩
   refine je (Run.pickF rfl rfl au) (jM ?_)
   refine jG ?_
   refine jk (Run.bin rfl rfl (Bin.eqlN _ 95)) ?_
   by_cases hs31 : n = 95
   ·
    refine je (Run.pickF rfl rfl au) (ja rfl (jO ?_))
    refine jN ⟨(js1 (jC (Eq.symm (by unfold qF; grind)))), rfl⟩
   refine je (Run.pickF rfl rfl au) (ja rfl (jO ?_))
   refine jN ⟨(js1 (jC (Eq.symm (by unfold qF; grind)))), rfl⟩
  refine jG ?_
  refine jU ?_
  refine jU ?_
  refine jk (Run.pickF rfl rfl au) ?_
  refine je (Run.pickF rfl rfl au) (jM ?_)
  refine jG ?_
  refine jk (Run.bin rfl rfl (Bin.eqlN _ 36)) ?_
  by_cases hs19 : n = 36
  ·
   refine je (Run.pickF rfl rfl au) (jM ?_)
   refine jU ?_
   refine jU ?_
   refine je (Run.pickT rfl rfl au) (jM ?_)
   refine jU ?_
   refine jU ?_
   refine je (Run.pickT rfl rfl au) (jM ?_)
   refine jU ?_
   refine jU ?_
   refine je (Run.pickT rfl rfl au) (ja rfl (jO ?_))
   refine jN ⟨(js1 (jC (Eq.symm (by unfold qF; grind)))), rfl⟩
  refine je (Run.pickF rfl rfl au) (jM ?_)
  refine jG ?_
  refine jk (Run.bin rfl rfl (Bin.eqlN _ 45)) ?_
  by_cases hs23 : n = 45
  ·
   refine je (Run.pickF rfl rfl au) (jM ?_)
   refine jU ?_
   refine jU ?_
   refine je (Run.pickT rfl rfl au) (jM ?_)
   refine jU ?_
   refine jU ?_
   refine je (Run.pickT rfl rfl au) (ja rfl (jO ?_))
   refine jN ⟨(js1 (jC (Eq.symm (by unfold qF; grind)))), rfl⟩
  refine je (Run.pickF rfl rfl au) (jM ?_)
  refine jG ?_
  refine jk (Run.bin rfl rfl (Bin.eqlN _ 46)) ?_
  by_cases hs27 : n = 46
  ·
   refine je (Run.pickF rfl rfl au) (jM ?_)
   refine jU ?_
   refine jU ?_
   refine je (Run.pickT rfl rfl au) (ja rfl (jO ?_))
   refine jN ⟨(js1 (jC (Eq.symm (by unfold qF; grind)))), rfl⟩
  refine je (Run.pickF rfl rfl au) (jM ?_)
  refine jG ?_
  refine jk (Run.bin rfl rfl (Bin.eqlN _ 95)) ?_
  by_cases hs31 : n = 95
  ·
   refine je (Run.pickF rfl rfl au) (ja rfl (jO ?_))
   refine jN ⟨(js1 (jC (Eq.symm (by unfold qF; grind)))), rfl⟩
  refine je (Run.pickF rfl rfl au) (ja rfl (jO ?_))
  refine jN ⟨(js1 (jC (Eq.symm (by unfold qF; grind)))), rfl⟩
 intro Γ hΓ
 refine jN (VC.sub _ hΓ ?_)
 refine jT ?_
 refine qN rfl ?_
 exact ⟨rfl, rfl⟩
theorem xW (n : Nat) (w : World) : Calls Tryz.prog 200 #[.int .i32 ((n : Nat) : Int)] w fun e w' => e = .returned (.bool (!decide (qF n))) ∧ w = w' := by
 refine VC.calls (nt := 6) (res := #[.tmp 2]) Tryz.func200 rfl Tryz.ntmps200 Tryz.results200 rfl ?_
 refine jS (jR (ja rfl (jO (jN (jv1 0 ?_)))))
 refine jS (jR (jM ?_))
 refine Ops.cl (jE1 Tryz.call201) (zS n _) rfl ?_
 rintro e _ ⟨rfl, rfl⟩
 refine ⟨_, rfl, ?_⟩
 refine je (Run.not rfl) (ja rfl (jO (jN (jv1 2 ?_))))
 refine jT ?_
 refine qN rfl ?_
 exact ⟨rfl, rfl⟩
theorem xY (s : ByteArray) (i : Nat) (h : (s.get! i).toNat < 128) : Utf8.decode s i = ((s.get! i).toNat, 1) := by
 rw [Lib.decode_at]
 unfold Lib.decodeN
 rw [if_pos h]
theorem uS (s : ByteArray) (i : Nat) (h : ¬ (s.get! i).toNat < 128) : 128 ≤ (Utf8.decode s i).1 := by
 rw [Lib.decode_at]
 unfold Lib.decodeN
 rw [if_neg h]
 repeat' split
 all_goals (dsimp only; omega)
theorem tQ (s : Tx) : ∀ f pos, s.length ≤ pos + f → pos ≤ s.length → (0 ≤ Lib.idxFuncFrom (fun n => !decide (qF n)) true ⟨s.toArray⟩ f pos ↔ ∃ c ∈ s.drop pos, ¬ qF c.toNat)
 | 0, pos, h1, h2 => by
  have : s.drop pos = [] := zbg jo
  rw [this]
  simp [Lib.idxFuncFrom]
 | f + 1, pos, h1, h2 => by
  unfold Lib.idxFuncFrom
  have hsz : (⟨s.toArray⟩ : ByteArray).size = s.length := rfl
  rw [hsz]
  by_cases hp : pos < s.length
  ·
   rw [if_pos hp, zbd hp]
   have hget : (⟨s.toArray⟩ : ByteArray).get! pos = s[pos] := by
    show s.toArray[pos]! = _
    rw [getElem!_pos _ pos (by simpa using hp)]
    simp
   by_cases hl : s[pos].toNat < 128
   ·
    rw [xY _ _ (by rw [hget]; exact hl), hget]
    dsimp only
    by_cases hs : qF s[pos].toNat
    ·
     rw [if_neg (by simp [hs]), tQ s f (pos + 1) jo jo]
     simp only [zbj, exists_eq_or_imp, hs, not_true, false_or]
    rw [if_pos (by simp [hs])]
    exact iff_of_true jo ⟨_, zfe, hs⟩
   have hd := uS ⟨s.toArray⟩ pos (by rw [hget]; exact hl)
   rw [if_pos (by simp only [zdf, decide_eq_false_iff_not]; intro h; have := h.lt; omega)]
   have hns : ¬ qF s[pos].toNat := fun h => hl h.lt
   exact iff_of_true jo ⟨_, zfe, hns⟩
  rw [if_neg hp]
  have : s.drop pos = [] := zbg jo
  rw [this]
  simp
theorem uT (s : Tx) (w : World) : Calls Tryz.prog 199 #[encStr s, .func (.func 200) #[] #[]] w fun e w' => e = .returned (.bool (decide (∃ c ∈ s, ¬ qF c.toNat))) ∧ Frm [] w w' := by
 refine (Tryz.strings_ContainsFunc_runes 200 #[] Tryz.call200 (fun n => !decide (qF n)) ⟨s.toArray⟩ w ?_).mono fun e w' ⟨he, hb⟩ => ⟨?_, Frm.of_below hb⟩
 ·
  intro W x _ _
  exact (xW x W).mono fun e w' ⟨he, hw⟩ => ⟨he, 0, by rw [← hw]; rfl⟩
 rw [he]
 congr 2
 rw [decide_eq_decide]
 exact tQ s s.length 0 jo jo
theorem zT (w : World) : Calls Tryz.prog 197 #[] w fun e w' => e = .returned (.agg (SB bP).toArray) ∧ Frm [] w w' := by
 refine VC.calls (nt := 2) (res := #[.cell 0 213]) Tryz.func197 rfl Tryz.ntmps197 Tryz.results197 rfl ?_
 refine jS (jR ?_)
 refine Ops.m (qK.alloc vT) rfl ?_
 rintro _ w1 ⟨rfl, hF1⟩
 have hb1 := hF1.blk
 generalize hg0 : w.heap.size = g0 at *
 refine jO (jN (jS (jR (je (Run.buildA (evs.cons rfl (evs.cons rfl (evs.cons rfl (evs.cons rfl (evs.cons rfl evs.nil))))) vT Tryz.underlying213 zo (cells := (SB bP).toArray) jK) ?_))))
 refine Ops.st (qH.storeA rfl rfl Tryz.sizeOf213 hb1 rfl (eH bP)) ?_
 rintro w5 ⟨hb5, hf5, hs5⟩
 refine jO (jN (jv1 0 ?_))
 refine jT ?_
 refine bT ?_
 refine zK rfl Tryz.isAgg213 Tryz.sizeOf213 (hb5) rfl ?_
 refine bZ ?_
 exact ⟨rfl, hF1.frm.own hf5 (fun x hx => by simp at hx; omega)⟩
def bL (s : Tx) : Tx × Nat := match bH s with
 | some t => (t, 0)
 | none => ([], 18)
theorem vF {q : Tx} {i : Nat} (hi : i < bP.length) (hn : ∀ f ∈ bP.take i, qT f ≠ qT q) (h : qT (bP[i]) = qT q) : bP.find? (fun f => decide (qT f = qT q)) = some bP[i] := by
 rw [List.find?_eq_some_iff_append]
 refine ⟨by simpa using h, bP.take i, bP.drop (i + 1), ?_, fun a ha => by simpa using hn a ha⟩
 rw [← zbd hi, zbx]
theorem zU (q : Tx) (w : World) (hq : q.length ≤ 1000000) : Calls Tryz.prog 187 #[encStr q] w fun e w' => e = .returned (.tuple #[encStr (bL q).1, .int .i64 (((bL q).2 : Nat) : Int)]) ∧ Frm [] w w' := by
 refine VC.calls (nt := 34) (res := #[.tmp 2, .tmp 3]) Tryz.func187 rfl Tryz.ntmps187 Tryz.results187 rfl ?_
 refine jS (jR (ja rfl (jz 0 (jO (jN (jv1 0 ?_))))))
 refine jS (jS (jR (jM ?_)))
 refine Ops.cl (jE2 Tryz.call110) (Tryz.strings_HasPrefix ⟨q.toArray⟩ ⟨#[92]⟩ _) rfl ?_
 rintro e w0 ⟨rfl, hw0⟩
 obtain rfl : w = w0 := hw0.symm
 refine ⟨.bool (([92] : Tx).isPrefixOf q), rfl, ?_⟩
 refine jO (jN (jv2 0 8 ?_))
 refine VC.condB rfl (fun hc1 => ?_) (fun hc1 => ?_)
 ·
  refine jS (jS (jR ?_))
  refine Ops.cl (jE0 Tryz.call197) (zT _) rfl ?_
  rintro e w1 ⟨rfl, hf1⟩
  refine ⟨_, rfl, ?_⟩
  refine jx .i64 0 ?_
  refine jO (jN (jv3 0 9 10 ?_))
  refine jB ?_
  refine VC.loop (σ := Nat) (fun s => [(0, encStr q), (9, .agg (SB bP).toArray), (10, .int .i64 ((s : Nat) : Int))]) (fun s wr => s ≤ 5 ∧ Frm [] w wr ∧ ∀ f ∈ bP.take s, qT f ≠ qT q) (fun s => 5 - s) 0 (js3 rfl rfl rfl) ⟨jo, hf1, jp⟩ ?_
  rintro i wr ⟨hi, hfr, hn⟩
  refine jS (jR (jb rfl rfl (Bin.lssN _ 5) (jO (jN (jS ?_)))))
  refine jD rfl (fun hc2 => ?_) fun hc2 => ?_
  ·
   have hi5 : i < bP.length := hc2
   refine jQ (jN (jv3 0 9 10 ?_))
   refine jS (jB (jS (jR ?_)))
   refine Ops.r (Run.indexArr1 (v := encStr bP[i]) i rfl rfl Tryz.underlying213 zx zo rfl (by simp [SB, hi5])) rfl ?_
   refine ja rfl (jO (jN (jv4 0 5 9 10 ?_)))
   refine jS (jR (jM ?_))
   refine Ops.cl (jE1 Tryz.call198) (kF bP[i] _ (by have := gV (kE _ (zw hi5)); omega)) rfl ?_
   rintro e w2 ⟨rfl, hf2⟩
   refine ⟨_, rfl, ?_⟩
   refine jM ?_
   refine Ops.cl (jE1 Tryz.call198) (kF q _ hq) rfl ?_
   rintro e w3 ⟨rfl, hf3⟩
   refine ⟨_, rfl, ?_⟩
   have hfr3 := (hfr.trans hf2 jp).trans hf3 jp
   refine je (Run.eqlT rfl rfl) (jO (jN (jv5 0 5 9 10 17 ?_)))
   refine jD rfl (fun hc3 => ?_) fun hc3 => ?_
   ·
    refine jS (jR (jm rfl (ja rfl (jz 0 (jO (jN (jv2 2 3 ?_)))))))
    refine jT ?_
    refine qV (qZ (qZ (qV (qZ (qZ (dR rfl rfl ?_))))))
    have e : bL q = (bP[i], 0) := by
     unfold bL bH
     rw [if_pos hc1, vF hi5 hn hc3]
    rw [e]
    exact ⟨rfl, hfr3⟩
   refine jQ ?_
   refine qW (jN ?_)
   refine jv3 0 9 10 ?_
   refine jR (jb rfl rfl (Bin.add_i64 _ 1 jo) (jm rfl (jO ?_)))
   refine jN ⟨(i + 1), (js3 rfl rfl rfl), ?_, ?_⟩
   ·
    refine ⟨hc2, hfr3, fun f hf => ?_⟩
    have e : bP.take (i + 1) = bP.take i ++ [bP[i]] := by rw [zau, zd hi5]; rfl
    rw [e] at hf
    rcases zfb.1 hf with h | h
    · exact hn f h
    simp only [zc] at h
    rw [h]; exact hc3
   first | omega | (dsimp only; omega)
  refine jX ?_
  refine qJ (qJ (qR ?_))
  refine jN ?_
  refine VC.sub [] .nil ?_
  refine jS (jR (ja rfl (jz 18 (jO (jN (jT ?_))))))
  refine qZ (dR rfl rfl ?_)
  have e : bL q = ([], 18) := by
   have hi : i = 5 := jo
   subst hi
   unfold bL bH
   rw [if_pos hc1, List.find?_eq_none.2 (fun f hf => by simpa using hn f hf)]
  rw [e]
  exact ⟨rfl, hfr⟩
 refine jQ (jN (jv1 0 ?_))
 refine jS (jR (jM ?_))
 refine Ops.cl (jE1 Tryz.call198) (kF q _ hq) rfl ?_
 rintro e w3 ⟨rfl, hf3⟩
 refine ⟨_, rfl, ?_⟩
 have hpf : ¬ ([92] : Tx).isPrefixOf q = true := by rw [hc1]; simp
 refine ja rfl (jO (jN (jv1 6 ?_)))
 refine jS (jS ?_)
 refine VC.splitR [(6, encStr (qT q))] (Frm [] w) 32 (.bool (decide (qT q = [] ∨ 20 < (qT q).length ∨ ∃ c ∈ qT q, ¬ qF c.toNat))) ?_ ?_
 ·
  refine jR ?_
  refine jm rfl (je (Run.eqlT rfl rfl) ?_)
  by_cases hs23 : qT q = []
  ·
   refine jM ?_
   refine jU ?_
   refine jU ?_
   refine jU ?_
   refine je (Run.pickT rfl rfl au) (jM ?_)
   refine jU ?_
   refine jU ?_
   refine je (Run.pickT rfl rfl au) (jO ?_)
   refine jN ⟨(js2 (jC (Eq.symm (by simp [*]))) rfl), (by first | exact hf3.trans hf4 jp | exact hf3)⟩
  refine jM ?_
  refine jG ?_
  refine jk (Run.lenT rfl zk) ?_
  refine jk (Run.bin rfl rfl (Bin.gtrN _ 20)) ?_
  by_cases hs27 : 20 < (qT q).length
  ·
   refine je (Run.pickF rfl rfl au) (jM ?_)
   refine jU ?_
   refine jU ?_
   refine je (Run.pickT rfl rfl au) (jO ?_)
   refine jN ⟨(js2 (jC (Eq.symm (by simp [*]))) rfl), (by first | exact hf3.trans hf4 jp | exact hf3)⟩
  refine je (Run.pickF rfl rfl au) (jM ?_)
  refine jG ?_
  refine Ops.clg rfl au (jE2 Tryz.call199) (uT (qT q) _) rfl ?_
  rintro e w4 ⟨rfl, hf4⟩
  refine ⟨_, rfl, ?_⟩
  by_cases hs31 : ∃ c ∈ qT q, ¬ qF c.toNat
  ·
   refine je (Run.pickF rfl rfl au) (jO ?_)
   refine jN ⟨(js2 (jC (Eq.symm (by simp [*]))) rfl), (by first | exact hf3.trans hf4 jp | exact hf3)⟩
  refine je (Run.pickF rfl rfl au) (jO ?_)
  refine jN ⟨(js2 (jC (Eq.symm (by simp [*]))) rfl), (by first | exact hf3.trans hf4 jp | exact hf3)⟩
 intro Γ wR hΓ hR
 refine jN (VC.sub _ hΓ ?_)
 refine jD rfl (fun hc4 => ?_) fun hc4 => ?_
 ·
  refine jS (jR (ja rfl (jz 18 (jO (jN (jv2 2 3 ?_))))))
  refine jT ?_
  refine qZ (dR rfl rfl ?_)
  have e : bL q = ([], 18) := by
   unfold bL bH
   rw [if_neg hpf, if_pos (by rw [dX] at hc4; exact hc4)]
  rw [e]
  exact ⟨rfl, hR⟩
 refine jQ (jN (jv1 6 ?_))
 refine jS (jR (jm rfl (ja rfl (jz 0 (jO (jN (jv2 2 3 ?_)))))))
 refine jT ?_
 refine dR rfl rfl ?_
 have e : bL q = (qT q, 0) := by
  unfold bL bH
  rw [if_neg hpf, if_neg (by rw [dX] at hc4; exact hc4)]
 rw [e]
 exact ⟨rfl, hR⟩
end
section
open Go.RowKit Go.Sort
theorem kA (s : Tx) : (∃ t, bH s = some t ∧ bL s = (t, 0)) ∨ (bH s = none ∧ bL s = ([], 18)) := by
 unfold bL
 cases bH s with
 | none => exact .inr ⟨rfl, rfl⟩
 | some t => exact .inl ⟨t, rfl, rfl⟩
def IsN (w0 w' : World) (e : Ending) (F : Except Nat (List Tx)) (B : Option Addr) (d : Nat) (r : List Tx) (k : Nat) : Prop :=
 e = .returned (.tuple #[.slice B r.length d, .int .i64 ((k : Nat) : Int)]) ∧ Own w' 9 1 B r.length d (SB r) ∧ (∀ x ∈ ob B, w0.heap.size ≤ x) ∧ ((k = 0 ∧ F = .ok r) ∨ (k ≠ 0 ∧ r = [] ∧ F = .error k))
theorem dJ {α : Type} {l : List α} {i : Nat} (h : i < l.length) : l.take (i + 1) = l.take i ++ [l[i]] := by rw [zau, zd h]; rfl
theorem tX {w w' : World} {t : TypeId} {q : Tx} (h : Fresh w w' t #[encStr q]) : Rd w' 1 (some ⟨w.heap.size, 0, none⟩) 1 (SB [q]) := Rd.of_blk (n := 1) (size := 1) h.blk rfl
theorem xG (A : Option Addr) (c0 : Nat) (l : List Tx) (w : World) (hn : l.length ≤ 1000000) (hq : ∀ q ∈ l, q.length ≤ 1000000) (hr : Rd w 1 A l.length (SB l)) :
  Calls Tryz.prog 176 #[.slice A l.length c0] w fun e w' => Frm [] w w' ∧ ∃ B d r k, IsN w w' e (dS l) B d r k := by
 refine VC.calls (nt := 36) (res := #[.tmp 2, .tmp 3]) Tryz.func176 rfl Tryz.ntmps176 Tryz.results176 rfl ?_
 refine jS (jR (ja rfl (jz 0 (jO (jN (jv1 0 ?_))))))
 refine jS (jR (ja rfl (jO (jN (jS (jS (jR (jm rfl (je (Run.lenS rfl zg) ?_)))))))))
 refine jx .i64 0 ?_
 refine jO (jN (jv4 4 9 10 11 ?_))
 refine jB ?_
 refine VC.loop (σ := Nat × Option Addr × Nat × List Tx) (fun s => [(4, .slice s.2.1 s.2.2.2.length s.2.2.1), (9, .slice A l.length c0), (10, .int .i64 ((l.length : Nat) : Int)), (11, .int .i64 ((s.1 : Nat) : Int))]) (fun s wr => s.1 ≤ l.length ∧ Own wr 9 1 s.2.1 s.2.2.2.length s.2.2.1 (SB s.2.2.2) ∧ (∀ x ∈ ob s.2.1, w.heap.size ≤ x) ∧ Frm [] w wr ∧ cJ (l.take s.1) = some s.2.2.2) (fun s => l.length - s.1) (0, none, 0, []) (js4 rfl rfl rfl rfl) ⟨jo, Own.nil _ _ _, by simp [ob], Frm.refl _ _, rfl⟩ ?_
 rintro ⟨i, B, d, ts⟩ wr ⟨hi, hown, hge, hfr, htl⟩
 dsimp only at hi hown hge htl ⊢
 have htsl : ts.length = i := by rw [rU htl]; simp; omega
 refine jS (jR (jb rfl rfl (Bin.lssN _ _) (jO (jN (jS ?_)))))
 refine jD rfl (fun hc1 => ?_) fun hc1 => ?_
 ·
  obtain ⟨ad, rfl, hcell⟩ := eS (hr.frm hfr jp) hc1
  refine jQ (jN (jv4 4 9 10 11 ?_))
  refine jS (jB (jS (jR (je (Run.index1 i rfl rfl zg zo hc1) (jl rfl zx hcell (ja rfl (jO (jN (jv5 4 6 9 10 11 ?_)))))))))
  refine jS (jR (jM ?_))
  refine Ops.cl (jE1 Tryz.call187) (zU l[i] _ (hq _ (zw hc1))) rfl ?_
  rintro e w1 ⟨rfl, hf1⟩
  refine ⟨_, rfl, ?_⟩
  have hfr1 := hfr.trans hf1 jp
  have hown1 := hown.frm hf1 jp
  have htc := kA l[i]
  generalize hq0 : l[i] = q at *
  refine jm rfl (je (Run.extract rfl rfl) (je (Run.extract rfl rfl) (ja rfl (ja rfl (jO (jN (jv6 4 7 8 9 10 11 ?_)))))))
  refine jS (jS (jR (jm rfl (jb rfl rfl (Bin.neqN _ 0) (jO (jN (jv7 4 7 8 9 10 11 21 ?_)))))))
  refine jD rfl (fun hc2 => ?_) fun hc2 => ?_
  ·
   have ht0 : bH q = none ∧ bL q = ([], 18) := by
    rcases htc with ⟨t, _, h⟩ | h
    · rw [h] at hc2; exact absurd rfl hc2
    exact h
   have hnf : dS l = .error 18 := by
    unfold dS
    rw [oU (hq0 ▸ zw hc1) ht0.1]
   refine jS (jR (jm rfl (ja rfl (ja rfl (jO (jN (jv2 2 3 ?_)))))))
   refine jT ?_
   refine qZ (qV (qZ (qZ (qV (qZ (dR rfl rfl ?_))))))
   rw [ht0.2]
   exact ⟨hfr1, none, 0, [], 18, rfl, Own.nil _ _ _, by simp [ob], .inr ⟨jd, rfl, hnf⟩⟩
  obtain ⟨t, ht0, hv0⟩ : ∃ t, bH q = some t ∧ bL q = (t, 0) := by
   rcases htc with h | ⟨_, h⟩
   · exact h
   rw [h] at hc2; exact absurd jd hc2
  rw [hv0]
  refine jQ (jN (jv5 4 7 9 10 11 ?_))
  refine jR (jm rfl (jM ?_))
  refine Ops.m (qK.buildS1 rfl zg zo eT jd jd rfl rfl) rfl ?_
  rintro _ w2 ⟨rfl, hF2⟩
  have hfr2 := hfr1.trans hF2.frm jp
  refine Ops.m (qK.app rfl rfl zg (gX) rfl jd (hown1.frm hF2.frm jp) (tX hF2) (eH _) jo jo) rfl ?_
  rintro _ w3 ⟨A3, c3, rfl, hown3, hfr3, hob3⟩
  rw [← cV] at hown3
  have hge3 := gK hge hob3 hfr2.size
  have hfr3' := hfr2.own hfr3 hge
  refine ja rfl (jO ?_)
  refine qW (jN ?_)
  refine jv4 4 9 10 11 ?_
  refine jR (jb rfl rfl (Bin.add_i64 _ 1 jo) (jm rfl (jO ?_)))
  refine jN ⟨(i + 1, A3, c3, ts ++ [t]), (js4 (by rw [zf]; rfl) rfl rfl rfl), ?_, ?_⟩
  · exact ⟨hc1, by simpa using hown3, hge3, hfr3', by rw [dJ hc1, oT, htl, hq0, ht0]⟩
  first | omega | (dsimp only; omega)
 refine jX ?_
 refine qJ (qJ (qR ?_))
 refine jN (jv1 4 ?_)
 refine jS (jR (jM ?_))
 refine Ops.cl (jE1 Tryz.call188) (zH B d ts _ hown jo) rfl ?_
 rintro e w2 ⟨rfl, hown2, hf2⟩
 refine ⟨_, rfl, ?_⟩
 have hfr2 := hfr.own hf2 hge
 have him : i = l.length := jo
 subst him
 rw [zaq] at htl
 rw [← kY ts] at hown2
 refine jO (jN (jv1 4 ?_))
 refine jS (jS (jR (jM ?_)))
 refine Ops.cl (jE1 Tryz.call189) ((show Calls _ _ #[.slice B ts.length d] _ _ from kY ts ▸ sI B d (srt ts) _ hown2 (by rw [kY]; omega))) rfl ?_
 rintro e w3 ⟨rfl, hown3, hf3⟩
 refine ⟨_, rfl, ?_⟩
 have hfr3 := hfr2.own hf3 hge
 refine ja rfl (jO (jN (jv1 4 ?_)))
 refine jS (jR (jm rfl (je (Run.lenS rfl zg) (jb rfl rfl (Bin.gtrN _ 16) (jO (jN (jv2 4 34 ?_)))))))
 refine jD rfl (fun hc3 => ?_) fun hc3 => ?_
 ·
  refine jS (jR (ja rfl (jz 5 (jO (jN (jv2 2 3 ?_))))))
  refine jT ?_
  refine qZ (dR rfl rfl ?_)
  exact ⟨hfr3, none, 0, [], 5, rfl, Own.nil _ _ _, by simp [ob], .inr ⟨jd, rfl, by unfold dS; rw [htl]; exact if_pos hc3⟩⟩
 refine jQ (jN (jv1 4 ?_))
 refine jS (jR (jm rfl (ja rfl (jz 0 (jO (jN (jv2 2 3 ?_)))))))
 refine jT ?_
 refine dR rfl rfl ?_
 exact ⟨hfr3, B, d, nub ts, 0, rfl, hown3, hge, .inl ⟨rfl, by unfold dS; rw [htl]; exact if_neg hc3⟩⟩
theorem uU (A : Option Addr) (c0 : Nat) (l : List Tx) (w : World) (hn : l.length ≤ 1000000) (hq : ∀ q ∈ l, q.length ≤ 1000000) (hr : Rd w 1 A l.length (SB l)) :
  Calls Tryz.prog 153 #[.slice A l.length c0] w fun e w' => e = .returned (.bool (decide (cU l))) ∧ Frm [] w w' := by
 refine VC.calls (nt := 17) (res := #[.tmp 2]) Tryz.func153 rfl Tryz.ntmps153 Tryz.results153 rfl ?_
 refine jS (jR (ja rfl (jO (jN (jv1 0 ?_)))))
 refine jS (jR (jM ?_))
 refine Ops.cl (jE1 Tryz.call176) (xG A c0 l _ hn hq hr) rfl ?_
 rintro e w1 ⟨hf1, B, d, r, k, rfl, ho1, hge1, hN⟩
 refine ⟨_, rfl, ?_⟩
 have hr1 := hr.frm hf1 jp
 have hck : cU l ↔ (k = 0 ∧ r = l) := by
  unfold cU
  rcases hN with ⟨h1, h2⟩ | ⟨h1, _, h2⟩
  · rw [h2]; simp [h1]
  rw [h2]; simp [h1]
 have hrl : r.length ≤ 1000000 := by
  rcases hN with ⟨h1, h2⟩ | ⟨h1, h2, _⟩
  · have := (eN (nW h2)).2.1; omega
  subst h2; simp
 refine jm rfl (je (Run.extract rfl rfl) (je (Run.extract rfl rfl) (ja rfl (ja rfl (jO (jN (jv3 0 3 4 ?_)))))))
 refine jS ?_
 refine VC.splitR [] (Frm [] w) 2 (.bool (decide (cU l))) ?_ ?_
 ·
  refine jR ?_
  refine jm rfl (jb rfl rfl (Bin.eqlN _ 0) ?_)
  by_cases hs11 : k = 0
  ·
   refine jM ?_
   refine jG ?_
   refine jG ?_
   refine Ops.clg rfl au (jE2 Tryz.call177) (xQ B A d c0 r l _ ho1.rd hr1 jo jo) rfl ?_
   rintro e w2 ⟨rfl, hd2⟩
   refine ⟨_, rfl, ?_⟩
   by_cases hs15 : r = l
   ·
    refine je (Run.pickT rfl rfl au) (ja rfl (jO ?_))
    refine jN ⟨(js1 (jC (Eq.symm (by simp [hck, *])))), (by first | exact hf1.drawn hd2 | exact hf1)⟩
   refine je (Run.pickT rfl rfl au) (ja rfl (jO ?_))
   refine jN ⟨(js1 (jC (Eq.symm (by simp [hck, *])))), (by first | exact hf1.drawn hd2 | exact hf1)⟩
  refine jM ?_
  refine jU ?_
  refine jU ?_
  refine jU ?_
  refine je (Run.pickF rfl rfl au) (ja rfl (jO ?_))
  refine jN ⟨(js1 (jC (Eq.symm (by simp [hck, *])))), (by first | exact hf1.drawn hd2 | exact hf1)⟩
 intro Γ wR hΓ hR
 refine jN (VC.sub _ hΓ ?_)
 refine jT ?_
 refine qN rfl ?_
 exact ⟨rfl, hR⟩
def xH (l : List Tx) (q : Tx) : Prop := ∃ t, bH q = some t ∧ t ∈ l
theorem qXl (l : List Tx) (q : Tx) : xH l q ↔ (bL q).2 = 0 ∧ (bL q).1 ∈ l := by
 unfold xH
 rcases kA q with ⟨t, h1, h2⟩ | ⟨h1, h2⟩ <;> rw [h1, h2] <;> simp
instance (l : List Tx) (q : Tx) : Decidable (xH l q) := decidable_of_iff _ (qXl l q).symm
end
section
def cI (y : Nat) : Prop := y % 4 = 0 ∧ y % 100 ≠ 0 ∨ y % 400 = 0
instance (y : Nat) : Decidable (cI y) := by unfold cI; infer_instance
def longN (y m : Nat) : Nat := if m = 2 then (if cI y then 29 else 28) else if m = 4 ∨ m = 6 ∨ m = 9 ∨ m = 11 then 30 else 31
def wholeN (y : Nat) : Nat := if cI y then 366 else 365
def aheadN (y : Nat) : Nat := 365 * (y - 1) + (y - 1) / 4 - (y - 1) / 100 + (y - 1) / 400
def bA (y : Nat) : Nat → Nat
 | 0 => 0
 | 1 => 0
 | m + 2 => bA y (m + 1) + longN y (m + 1)
theorem rC (y : Nat) : 365 ≤ wholeN y ∧ wholeN y ≤ 366 := by unfold wholeN; split <;> omega
theorem kI (y : Nat) (h : 1 ≤ y) : aheadN (y + 1) = aheadN y + wholeN y := by
 obtain ⟨x, rfl⟩ : ∃ x, y = x + 1 := ⟨y - 1, jo⟩
 have d4 : ((x + 1) % 4 = 0 ∧ (x + 1) / 4 = x / 4 + 1) ∨ ((x + 1) % 4 ≠ 0 ∧ (x + 1) / 4 = x / 4) := jo
 have d100 : ((x + 1) % 100 = 0 ∧ (x + 1) / 100 = x / 100 + 1) ∨ ((x + 1) % 100 ≠ 0 ∧ (x + 1) / 100 = x / 100) := jo
 have d400 : ((x + 1) % 400 = 0 ∧ (x + 1) / 400 = x / 400 + 1) ∨ ((x + 1) % 400 ≠ 0 ∧ (x + 1) / 400 = x / 400) := jo
 have i1 : (x + 1) % 400 = 0 → (x + 1) % 100 = 0 := jo
 have i2 : (x + 1) % 100 = 0 → (x + 1) % 4 = 0 := jo
 have i3 : x / 100 ≤ x / 4 := jo
 have i4 : (x + 1) / 100 ≤ (x + 1) / 4 := jo
 unfold aheadN wholeN
 by_cases hl : cI (x + 1)
 ·
  rw [if_pos hl]; unfold cI at hl; simp only [Nat.add_sub_cancel]
  generalize (x + 1) % 4 = m4 at *
  generalize (x + 1) % 100 = m100 at *
  generalize (x + 1) % 400 = m400 at *
  generalize (x + 1) / 4 = a4 at *
  generalize (x + 1) / 100 = a100 at *
  generalize (x + 1) / 400 = a400 at *
  generalize x / 4 = b4 at *
  generalize x / 100 = b100 at *
  generalize x / 400 = b400 at *
  omega
 rw [if_neg hl]; unfold cI at hl; simp only [Nat.add_sub_cancel]
 generalize (x + 1) % 4 = m4 at *
 generalize (x + 1) % 100 = m100 at *
 generalize (x + 1) % 400 = m400 at *
 generalize (x + 1) / 4 = a4 at *
 generalize (x + 1) / 100 = a100 at *
 generalize (x + 1) / 400 = a400 at *
 generalize x / 4 = b4 at *
 generalize x / 100 = b100 at *
 generalize x / 400 = b400 at *
 omega
theorem kQ (y m : Nat) (h : 1 ≤ m) : bA y (m + 1) = bA y m + longN y m := by
 obtain ⟨x, rfl⟩ : ∃ x, m = x + 1 := ⟨m - 1, jo⟩
 rfl
theorem qKo (f g : Nat → Nat) (h1 : f 1 = 0) (h : ∀ m, 1 ≤ m → f (m + 1) = f m + g m) : f 13 = g 1 + g 2 + g 3 + g 4 + g 5 + g 6 + g 7 + g 8 + g 9 + g 10 + g 11 + g 12 := by
 rw [h 12 jo, h 11 jo, h 10 jo, h 9 jo, h 8 jo, h 7 jo, h 6 jo, h 5 jo, h 4 jo, h 3 jo, h 2 jo, h 1 jo, h1]
 omega
theorem oC (y : Nat) : bA y 13 = wholeN y := by
 rw [qKo (bA y) (longN y) rfl (kQ y)]
 unfold longN wholeN
 by_cases hl : cI y
 · simp [hl]
 simp [hl]
theorem rD (y : Nat) (h : aheadN y ≤ 3652058) : y ≤ 9999 := by unfold aheadN at h; omega
theorem zB (n : Nat) : n < aheadN (n / 365 + 1 + 1) := by unfold aheadN; omega
theorem rE : aheadN 1 = 0 := rfl
def sM (n : Int) (y m d : Nat) : Prop := 1 ≤ y ∧ y ≤ 9999 ∧ 1 ≤ m ∧ m ≤ 12 ∧ 1 ≤ d ∧ d ≤ longN y m ∧ n + 719162 = ((aheadN y + bA y m + (d - 1) : Nat) : Int)
def dV (sec zone : Int) : Prop := -1439 ≤ zone ∧ zone ≤ 1439 ∧ -719162 * 86400 ≤ sec + 60 * zone ∧ sec + 60 * zone < 2932897 * 86400
instance (a b : Int) : Decidable (dV a b) := by unfold dV; infer_instance
end
section
open Go.RowKit
structure MsgP where
 uid : Int
 sec : Int
 zone : Int
 size : Int
 blob : Nat
 flags : List Tx
deriving DecidableEq
structure Mc where
 m : MsgP
 A : Option Addr
 c : Nat
def Mc.cells (x : Mc) : List Value := [.int .i64 x.m.uid, .int .i64 x.m.sec, .int .i64 x.m.zone, .int .i64 x.m.size, .int .u64 (x.m.blob : Int), .slice x.A x.m.flags.length x.c]
theorem Mc.cells_len (x : Mc) : x.cells.length = 6 := rfl
theorem Mc.cells_one (x : Mc) : ∀ u ∈ x.cells, u.oneCell' = true := by
 intro u hu
 simp only [Mc.cells, zbj, zcn, or_false] at hu
 rcases hu with rfl | rfl | rfl | rfl | rfl | rfl <;> rfl
abbrev MC (l : List Mc) : List Value := l.flatMap Mc.cells
theorem oD (l : List Mc) : (MC l).length = l.length * 6 := sB Mc.cells 6 Mc.cells_len l
theorem mX (a b : List Mc) : MC (a ++ b) = MC a ++ MC b := List.flatMap_append
structure Mc.At (w : World) (x : Mc) : Prop where
 rd : Rd w 1 x.A x.m.flags.length (SB x.m.flags)
 n : x.m.flags.length ≤ 500000
 q : ∀ q ∈ x.m.flags, q.length ≤ 1000000
theorem Mc.At.frm {w w' : World} {S : List Nat} {x : Mc} (h : x.At w) (k : Frm S w w') (hS : ∀ b ∈ S, w.heap.size ≤ b) : x.At w' :=
 ⟨h.rd.frm k (fun hn y hy hyS => by have := h.rd.lt hn y hy; have := hS y hyS; omega), h.n, h.q⟩
structure RdM (w : World) (A : Option Addr) (l : List Mc) : Prop where
 rd : Rd w 6 A l.length (MC l)
 fl : ∀ x ∈ l, x.At w
theorem RdM.nil (w : World) (A : Option Addr) : RdM w A [] := ⟨Rd.nil _ _ _, jp⟩
theorem RdM.frm {w w' : World} {A : Option Addr} {l : List Mc} (h : RdM w A l) (k : Frm [] w w') : RdM w' A l :=
 ⟨h.rd.frm k jp, fun x hx => (h.fl x hx).frm k jp⟩
theorem RdM.elem {w : World} {A : Option Addr} {l : List Mc} {k : Nat} (h : RdM w A l) (hk : k < l.length) : ∃ ad, A = some ad ∧ ∀ j v, (l[k]).cells[j]? = some v → w.cell? ((ad.add (k * 6)).add j) = some v := by
 obtain ⟨ad, rfl, hc⟩ := h.rd.elem hk
 refine ⟨ad, rfl, fun j v hj => hc j v ?_⟩
 rw [fE Mc.cells 6 Mc.cells_len l k hk]
 exact hj
structure BoxV where
 valid : Int
 next : Int
 l : List MsgP
deriving DecidableEq
abbrev Ms (l : List Mc) : List MsgP := l.map Mc.m
def cD (m : MsgP) : Prop := dV m.sec m.zone ∧ 0 ≤ m.size ∧ m.blob ≠ 0 ∧ cU m.flags
instance (m : MsgP) : Decidable (cD m) := by unfold cD; infer_instance
def prevU (l : List MsgP) : Nat → Int
 | 0 => 0
 | j + 1 => (l[j]?.map MsgP.uid).getD 0
def bI (next : Int) (l : List MsgP) (j : Nat) (m : MsgP) : Prop := prevU l j < m.uid ∧ m.uid < next ∧ cD m
instance (a : Int) (l : List MsgP) (j : Nat) (m : MsgP) : Decidable (bI a l j m) := by unfold bI; infer_instance
def bO (b : BoxV) : Prop := (1 ≤ b.valid ∧ b.valid ≤ 2147483647 ∧ 1 ≤ b.next ∧ b.next ≤ 2147483648 ∧ b.l.length ≤ 128) ∧ ∀ j (h : j < b.l.length), bI b.next b.l j b.l[j]
instance (b : BoxV) : Decidable (bO b) := by
 unfold bO
 infer_instance
def qXm : Tx := [92, 68, 101, 108, 101, 116, 101, 100]
def qZv (every : Bool) (only : List Int) (m : MsgP) : Prop := xH m.flags qXm ∧ (every = true ∨ m.uid ∈ only)
instance (every : Bool) (only : List Int) (m : MsgP) : Decidable (qZv every only m) := by unfold qZv; infer_instance
abbrev BVc (v n : Int) (A : Option Addr) (m c : Nat) : List Value := [.int .i64 v, .int .i64 n, .slice A m c]
theorem cZ (v n : Int) (A : Option Addr) (m c : Nat) : ∀ u ∈ BVc v n A m c, u.oneCell' = true := by
 intro u hu
 simp only [BVc, zbj, zcn, or_false] at hu
 rcases hu with rfl | rfl | rfl <;> rfl
def tZ (w' : World) (F : Except Nat BoxV) (v n : Int) (B : Option Addr) (d : Nat) (l : List Mc) (k : Nat) : Prop :=
 RdM w' B l ∧ ((k = 0 ∧ F = .ok ⟨v, n, Ms l⟩) ∨ (k ≠ 0 ∧ F = .error k ∧ v = 0 ∧ n = 0 ∧ B = none ∧ d = 0 ∧ l = []))
theorem tZ.err {w' : World} {F : Except Nat BoxV} {k : Nat} (hk : k ≠ 0) (h : F = .error k) : tZ w' F 0 0 none 0 [] k := ⟨RdM.nil _ _, .inr ⟨hk, h, rfl, rfl, rfl, rfl, rfl⟩⟩
theorem tZ.frm {w w' : World} {F : Except Nat BoxV} {v n : Int} {B : Option Addr} {d : Nat} {l : List Mc} {k : Nat} (h : tZ w F v n B d l k) (hf : Frm [] w w') : tZ w' F v n B d l k := ⟨h.1.frm hf, h.2⟩
end
section
open Go.RowKit
abbrev NmP := Tx × BoxV
structure MailP where
 l : List NmP
 subs : List Tx
 valid : Int
 blob : Int
deriving DecidableEq
def dE (s : Tx) : Prop := isN s ∧ qS s = s
instance (s : Tx) : Decidable (dE s) := by unfold dE; infer_instance
def bG (l : List Tx) (i : Nat) (s : Tx) : Prop := dE s ∧ (0 < i → (l[i - 1]?).getD [] < s)
instance (l : List Tx) (i : Nat) (s : Tx) : Decidable (bG l i s) := by unfold bG; infer_instance
def dK (l : List Tx) : Prop := l.length ≤ 24 ∧ ∀ i (h : i < l.length), bG l i l[i]
instance (l : List Tx) : Decidable (dK l) := by unfold dK; infer_instance
abbrev qO (m : MailP) : List Tx := m.l.map Prod.fst
def oE (valid blob : Int) (l : List NmP) (i : Nat) (x : NmP) : Prop := bO x.2 ∧ x.2.valid ≤ valid ∧ (∀ y ∈ l.take i, y.2.valid ≠ x.2.valid) ∧ ∀ y ∈ x.2.l, (y.blob : Int) ≤ blob
instance (v b : Int) (l : List NmP) (i : Nat) (x : NmP) : Decidable (oE v b l i x) := by unfold oE; infer_instance
def cY (m : MailP) : Prop := dK (qO m) ∧ dK m.subs ∧ 1 ≤ m.valid ∧ m.valid ≤ 2147483647 ∧ 0 ≤ m.blob ∧ m.blob ≤ 2147483647 ∧ bQ ∈ qO m
instance (m : MailP) : Decidable (cY m) := by unfold cY; infer_instance
def bY (m : MailP) : Prop := cY m ∧ ∀ i (h : i < m.l.length), oE m.valid m.blob m.l i m.l[i]
instance (m : MailP) : Decidable (bY m) := by unfold bY; infer_instance
def bS (l : List NmP) : Prop := (l.map Prod.fst).Pairwise (· < ·)
theorem fV (a : Tx) : ¬ a < a := zen a
theorem gO {a b c : Tx} (h1 : a < b) (h2 : b < c) : a < c := List.lt_trans h1 h2
theorem zC {a b : Tx} (h1 : ¬ a < b) (h2 : ¬ b < a) : a = b := List.le_antisymm (List.not_lt.1 h2) (List.not_lt.1 h1)
theorem xM : ∀ {l : List Tx}, (∀ i (h : i < l.length), 0 < i → (l[i - 1]?).getD [] < l[i]) → l.Pairwise (· < ·) := by
 intro l h
 rw [List.pairwise_iff_getElem]
 intro i j hi hj hij
 induction j with
 | zero => omega
 | succ j ih =>
  have h1 := h (j + 1) hj jo
  rw [show j + 1 - 1 = j by omega, zd jo] at h1
  by_cases e : i = j
  · subst e; exact h1
  exact gO (ih jo jo) h1
theorem qXn {m : MailP} (h : bY m) : bS m.l := xM fun i hi h0 => (h.1.1.2 i hi).2 h0
def eU (l : List NmP) (t : Tx) (b : BoxV) : List NmP := l.filter (fun x => decide (x.1 < t)) ++ (t, b) :: l.filter (fun x => decide (t < x.1))
def gZ (l : List NmP) (t : Tx) (i : Nat) : Prop := i ≤ l.length ∧ (∀ j (h : j < l.length), j < i → (l[j]).1 < t) ∧ ∀ j (h : j < l.length), i ≤ j → ¬ (l[j]).1 < t
theorem oF {l : List NmP} {t : Tx} {i : Nat} (h : gZ l t i) : l.filter (fun x => decide (x.1 < t)) = l.take i := by
 obtain ⟨h1, h2, h3⟩ := h
 conv => lhs; rw [← zbx i l]
 rw [zcl, List.filter_eq_self.2, List.filter_eq_nil_iff.2, zcc]
 ·
  intro x hx
  obtain ⟨j, hj, rfl⟩ := zag hx
  rw [zaf] at hj
  rw [zfi]
  simpa using h3 (i + j) jo jo
 intro x hx
 obtain ⟨j, hj, rfl⟩ := zag hx
 rw [zp] at hj
 rw [zdm]
 simpa using h2 j jo jo
theorem kL {l : List NmP} (h : bS l) {i j : Nat} (hi : i < l.length) (hj : j < l.length) (hij : i < j) : (l[i]).1 < (l[j]).1 := by
 have := List.pairwise_iff_getElem.1 h i j (by simpa using hi) (by simpa using hj) hij
 simpa using this
theorem mZ {l : List NmP} {t : Tx} {i : Nat} (hr : bS l) (h : gZ l t i) : (∃ hi : i < l.length, (l[i]).1 = t) ↔ t ∈ l.map Prod.fst := by
 constructor
 ·
  rintro ⟨hi, he⟩
  rw [← he]
  exact zbr (zw hi)
 intro hm
 obtain ⟨x, hx, rfl⟩ := List.mem_map.1 hm
 obtain ⟨j, hj, rfl⟩ := zag hx
 have hij : i ≤ j := by
  rcases zdc j i with h4 | h4
  · exact absurd (h.2.1 j hj h4) (fV _)
  exact h4
 have hi : i < l.length := jo
 refine ⟨hi, ?_⟩
 by_cases e : i = j
 · subst e; rfl
 exact absurd (kL hr hi hj jo) (h.2.2 i hi (zac _))
theorem xN {l : List NmP} {t : Tx} {i : Nat} (h : gZ l t i) (hn : t ∉ l.map Prod.fst) : l.filter (fun x => decide (t < x.1)) = l.drop i := by
 conv => lhs; rw [← zbx i l]
 rw [zcl, List.filter_eq_nil_iff.2, List.filter_eq_self.2, zcb]
 ·
  intro x hx
  have hx2 := zbp hx
  obtain ⟨j, hj, rfl⟩ := zag hx
  rw [zaf] at hj
  rw [zfi] at hx2 ⊢
  have h1 := h.2.2 (i + j) jo jo
  simp only [decide_eq_true_eq]
  rcases Classical.em (t < (l[i + j]).1) with h2 | h2
  · exact h2
  exact absurd (List.mem_map.2 ⟨_, hx2, zC h1 h2⟩) hn
 intro x hx
 obtain ⟨j, hj, rfl⟩ := zag hx
 rw [zp] at hj
 rw [zdm]
 simp only [decide_eq_true_eq]
 intro h2
 exact fV _ (gO h2 (h.2.1 j jo jo))
theorem qXo {l : List NmP} {t : Tx} {i : Nat} {b : BoxV} (h : gZ l t i) (hn : t ∉ l.map Prod.fst) : eU l t b = l.take i ++ (t, b) :: l.drop i := by
 unfold eU
 rw [oF h, xN h hn]
theorem xP {l : List NmP} {t : Tx} {i : Nat} (hr : bS l) (h : gZ l t i) (hi : i < l.length) (he : (l[i]).1 = t) : l.filter (fun x => decide (x.1 ≠ t)) = l.take i ++ l.drop (i + 1) := by
 have e1 : l = l.take i ++ l[i] :: l.drop (i + 1) := by
  have h2 := (zbx i l).symm
  rw [zbd hi] at h2
  exact h2
 conv => lhs; rw [e1]
 rw [zcl, zes, if_neg (by simp [he]), List.filter_eq_self.2, List.filter_eq_self.2]
 ·
  intro x hx
  obtain ⟨j, hj, rfl⟩ := zag hx
  rw [zaf] at hj
  rw [zfi]
  have h3 := kL hr hi (j := i + 1 + j) jo jo
  simp only [ne_eq, decide_not, zdf, decide_eq_false_iff_not]
  intro e
  rw [e, he] at h3
  exact fV _ h3
 intro x hx
 obtain ⟨j, hj, rfl⟩ := zag hx
 rw [zp] at hj
 rw [zdm]
 have h3 := h.2.1 j jo jo
 simp only [ne_eq, decide_not, zdf, decide_eq_false_iff_not]
 intro e
 rw [e] at h3
 exact fV _ h3
theorem xR {l : List NmP} {t : Tx} {b : BoxV} (hr : bS l) : bS (eU l t b) := by
 unfold bS eU at *
 rw [zbh, zby]
 refine List.pairwise_append.2 ⟨hr.sublist (List.filter_sublist.map _), List.pairwise_cons.2 ⟨fun y hy => ?_, hr.sublist (List.filter_sublist.map _)⟩, fun a ha c hc => ?_⟩
 ·
  obtain ⟨x, hx, rfl⟩ := List.mem_map.1 hy
  simpa using (zfc.1 hx).2
 obtain ⟨x, hx, rfl⟩ := List.mem_map.1 ha
 have h1 : x.1 < t := by simpa using (zfc.1 hx).2
 rcases zbj.1 hc with rfl | hc
 · exact h1
 obtain ⟨y, hy, rfl⟩ := List.mem_map.1 hc
 have h2 : t < y.1 := by simpa using (zfc.1 hy).2
 exact gO h1 h2
theorem xS {l : List NmP} {t : Tx} {b : BoxV} (x : Tx) : x ∈ (eU l t b).map Prod.fst ↔ x = t ∨ x ∈ l.map Prod.fst := by
 unfold eU
 rw [zbh, zby, zfb, zbj]
 constructor
 ·
  rintro (h | h | h)
  ·
   obtain ⟨y, hy, rfl⟩ := List.mem_map.1 h
   exact .inr (zbr (zfc.1 hy).1)
  · exact .inl h
  obtain ⟨y, hy, rfl⟩ := List.mem_map.1 h
  exact .inr (zbr (zfc.1 hy).1)
 rintro (h | h)
 · exact .inr (.inl h)
 obtain ⟨y, hy, rfl⟩ := List.mem_map.1 h
 by_cases h1 : y.1 < t
 · exact .inl (zbr (zfc.2 ⟨hy, by simpa using h1⟩))
 by_cases h2 : t < y.1
 · exact .inr (.inr (zbr (zfc.2 ⟨hy, by simpa using h2⟩)))
 exact .inr (.inl (zC h1 h2))
def oA (l : List NmP) (t : Tx) : Option BoxV := (l.find? (fun x => decide (x.1 = t))).map Prod.snd
theorem qXp {l : List NmP} {t : Tx} {i : Nat} (hr : bS l) (hi : i < l.length) (he : (l[i]).1 = t) : oA l t = some (l[i]).2 := by
 unfold oA
 have : l.find? (fun x => decide (x.1 = t)) = some l[i] := by
  rw [List.find?_eq_some_iff_getElem]
  refine ⟨by simpa using he, i, hi, rfl, fun j hj => ?_⟩
  have h3 := kL hr (i := j) jo hi hj
  simp only [zdf, decide_eq_false_iff_not]
  intro e
  rw [e, he] at h3
  exact fV _ h3
 rw [this]
 rfl
theorem xU {l : List NmP} {t : Tx} (hn : t ∉ l.map Prod.fst) : oA l t = none := by
 unfold oA
 rw [Option.map_eq_none_iff, List.find?_eq_none]
 intro x hx
 simp only [decide_eq_true_eq]
 intro e
 exact hn (by rw [← e]; exact zbr hx)
def mJ : Nat → Tx → List Tx
 | 0, _ => []
 | n + 1, s => if s = [] then [] else s :: mJ n (upN s)
def anc (s : Tx) : List Tx := mJ s.length s
theorem rF : ∀ (m n : Nat) (s : Tx), s.length ≤ m → s.length ≤ n → mJ m s = mJ n s
 | 0, n, s, h, _ => by
  obtain rfl : s = [] := zam jo
  cases n <;> simp [mJ]
 | m + 1, 0, s, _, h => by
  obtain rfl : s = [] := zam jo
  simp [mJ]
 | m + 1, n + 1, s, h1, h2 => by
  unfold mJ
  split
  · rfl
  rename_i h
  have := gS h
  rw [rF m n (upN s) jo jo]
theorem anc_nil : anc [] = [] := rfl
theorem kO {s : Tx} (h : s ≠ []) : anc s = s :: anc (upN s) := by
 have h1 := gS h
 have h2 : 0 < s.length := List.length_pos_iff.2 h
 unfold anc
 rw [show s.length = (s.length - 1) + 1 by omega, mJ, if_neg h, rF (s.length - 1) (upN s).length _ jo (zac _)]
theorem qJd (s : Tx) : (anc s).length ≤ s.length := by
 have key : ∀ n (s : Tx), s.length ≤ n → (anc s).length ≤ s.length := by
  intro n
  induction n with
  | zero => intro s h; obtain rfl : s = [] := zam jo; simp [anc_nil]
  | succ n ih =>
   intro s h
   by_cases h0 : s = []
   · subst h0; simp [anc_nil]
   have h1 := gS h0
   rw [kO h0, zbi]
   have := ih (upN s) jo
   omega
 exact key _ s (zac _)
def bB (l : List NmP) (s : Tx) : List Tx := ((anc s).filter fun x => decide (qS x ∉ l.map Prod.fst)).reverse
def dL (m : MailP) (x : Tx) : MailP := { m with valid := m.valid + 1, l := eU m.l (qS x) ⟨m.valid + 1, 1, []⟩ }
def fM (m : MailP) (s : Tx) : MailP := (bB m.l s).foldl dL m
def dI (m : MailP) (more valids : Nat) : Nat := if 24 < m.l.length + more then 5 else if 2147483647 < m.valid + (valids : Int) then 19 else 0
def fF (m : MailP) (s : Tx) : Except Nat MailP :=
 if ¬ bY m then .error 1 else if ¬ isN s then .error 18 else if qS s ∈ qO m then .error 15
 else if dI m (bB m.l s).length (bB m.l s).length ≠ 0 then .error (dI m (bB m.l s).length (bB m.l s).length) else .ok (fM m s)
def eB (m : MailP) (s : Tx) : Except Nat MailP :=
 if ¬ bY m then .error 1 else if ¬ isN s then .error 18 else if qS s ∉ qO m then .error 6 else if qS s = bQ then .error 17
 else if ∃ x ∈ qO m, cM x s then .error 16 else .ok { m with l := m.l.filter fun x => decide (x.1 ≠ qS s) }
def lQ (m : MailP) (s : Tx) : Option BoxV := if bY m then oA m.l (qS s) else none
end
section
open Go.RowKit
theorem lX (y : Nat) (w : World) (h1 : 1 ≤ y) (h2 : y ≤ 100000) : Calls Tryz.prog 185 #[.int .i64 ((y : Nat) : Int)] w fun e w' => e = .returned (.int .i64 ((aheadN y : Nat) : Int)) ∧ w = w' := by
 refine VC.calls (nt := 17) (res := #[.tmp 2]) Tryz.func185 rfl Tryz.ntmps185 Tryz.results185 rfl ?_
 refine jS (jR (jz 0 (jO (jN (jv1 0 ?_)))))
 refine jS (jR (jm rfl (jb rfl rfl (Bin.sub_i64 _ 1 jo jo) (ja rfl (jO (jN (jv1 3 ?_)))))))
 refine jS (jR (jm rfl (jb rfl rfl (Bin.mul_i64 365 _ jo) (jm rfl (jb rfl rfl (Bin.quo_i64 _ 4 jo jo) (jb rfl rfl (Bin.add_i64 _ _ jo) (jm rfl (jb rfl rfl (Bin.quo_i64 _ 100 jo jo) (jb rfl rfl (Bin.sub_i64 _ _ jo jo) ?_)))))))))
 refine jm rfl (jb rfl rfl (Bin.quo_i64 _ 400 jo jo) (jb rfl rfl (Bin.add_i64 _ _ jo) (ja rfl (jO (jN (jv1 2 ?_))))))
 refine jT ?_
 refine qN rfl ?_
 exact ⟨rfl, rfl⟩
theorem zD (y : Nat) (w : World) : Calls Tryz.prog 196 #[.int .i64 ((y : Nat) : Int)] w fun e w' => e = .returned (.bool (decide (cI y))) ∧ w = w' := by
 refine VC.calls (nt := 16) (res := #[.tmp 2]) Tryz.func196 rfl Tryz.ntmps196 Tryz.results196 rfl ?_
 refine jS (jR (ja rfl (jO (jN (jv1 0 ?_)))))
 refine jS ?_
 refine VC.split1 [] .nil 2 (.bool (decide (cI y))) ?_ ?_
 ·
  refine jR ?_
  refine jm rfl (jb rfl rfl (Bin.remN _ 4 jo) (jb rfl rfl (Bin.eqlN _ 0) ?_))
  by_cases hs5 : y % 4 = 0
  ·
   refine jM ?_
   refine jG ?_
   refine jk (Run.bin rfl rfl (Bin.remN _ 100 jo)) ?_
   refine jk (Run.bin rfl rfl (Bin.neqN _ 0)) ?_
   by_cases hs9 : y % 100 ≠ 0
   ·
    refine je (Run.pickT rfl rfl au) (jM ?_)
    refine jU ?_
    refine jU ?_
    refine jU ?_
    refine je (Run.pickT rfl rfl au) (ja rfl (jO ?_))
    refine jN ⟨(js1 (jC (Eq.symm (by unfold cI; simp [*])))), rfl⟩
   refine je (Run.pickT rfl rfl au) (jM ?_)
   refine jG ?_
   refine jk (Run.bin rfl rfl (Bin.remN _ 400 jo)) ?_
   refine jk (Run.bin rfl rfl (Bin.eqlN _ 0)) ?_
   by_cases hs14 : y % 400 = 0
   ·
    refine je (Run.pickF rfl rfl au) (ja rfl (jO ?_))
    refine jN ⟨(js1 (jC (Eq.symm (by unfold cI; simp [*])))), rfl⟩
   refine je (Run.pickF rfl rfl au) (ja rfl (jO ?_))
   refine jN ⟨(js1 (jC (Eq.symm (by unfold cI; simp [*])))), rfl⟩
  refine jM ?_
  refine jU ?_
  refine jU ?_
  refine jU ?_
  refine je (Run.pickF rfl rfl au) (jM ?_)
  refine jG ?_
  refine jk (Run.bin rfl rfl (Bin.remN _ 400 jo)) ?_
  refine jk (Run.bin rfl rfl (Bin.eqlN _ 0)) ?_
  by_cases hs14 : y % 400 = 0
  ·
   refine je (Run.pickF rfl rfl au) (ja rfl (jO ?_))
   refine jN ⟨(js1 (jC (Eq.symm (by unfold cI; simp [*])))), rfl⟩
  refine je (Run.pickF rfl rfl au) (ja rfl (jO ?_))
  refine jN ⟨(js1 (jC (Eq.symm (by unfold cI; simp [*])))), rfl⟩
 intro Γ hΓ
 refine jN (VC.sub _ hΓ ?_)
 refine jT ?_
 refine qN rfl ?_
 exact ⟨rfl, rfl⟩
def qZw : List Nat := [31, 28, 31, 30, 31, 30, 31, 31, 30, 31, 30, 31]
theorem qXq {m : Nat} (h1 : 1 ≤ m) (h2 : m ≤ 12) : qZw[m - 1]? = some (if m = 2 then 28 else if m = 4 ∨ m = 6 ∨ m = 9 ∨ m = 11 then 30 else 31) := by
 have : m = 1 ∨ m = 2 ∨ m = 3 ∨ m = 4 ∨ m = 5 ∨ m = 6 ∨ m = 7 ∨ m = 8 ∨ m = 9 ∨ m = 10 ∨ m = 11 ∨ m = 12 := jo
 rcases this with rfl | rfl | rfl | rfl | rfl | rfl | rfl | rfl | rfl | rfl | rfl | rfl <;> rfl
theorem rA (y m : Nat) (w : World) (h1 : 1 ≤ m) (h2 : m ≤ 12) : Calls Tryz.prog 186 #[.int .i64 ((y : Nat) : Int), .int .i64 ((m : Nat) : Int)] w fun e w' => e = .returned (.int .i64 ((longN y m : Nat) : Int)) ∧ w = w' := by
 refine VC.calls (nt := 17) (res := #[.tmp 4]) Tryz.func186 rfl Tryz.ntmps186 Tryz.results186 rfl ?_
 refine jS (jR (jz 0 (jO (jN (jv2 0 1 ?_)))))
 refine jS (jR (je (Run.buildA (evs.cons rfl (evs.cons rfl (evs.cons rfl (evs.cons rfl (evs.cons rfl (evs.cons rfl (evs.cons rfl (evs.cons rfl (evs.cons rfl (evs.cons rfl (evs.cons rfl (evs.cons rfl evs.nil)))))))))))) qZ6 Tryz.underlying211 zj (cells := (IB (qZw.map fun x : Nat => (x : Int))).toArray) jK) (jm rfl (jb rfl rfl (Bin.sub_i64 _ 1 jo jo) ?_))))
 refine Ops.r (Run.indexArr1 (v := .int .i64 (((if m = 2 then 28 else if m = 4 ∨ m = 6 ∨ m = 9 ∨ m = 11 then 30 else 31) : Nat) : Int)) (m - 1) rfl rfl Tryz.underlying211 zn zj rfl (by simp [IB, qXq h1 h2])) rfl ?_
 refine ja rfl (jO (jN (jv3 0 1 5 ?_)))
 refine jS (jS ?_)
 refine VC.split1 [(5, _)] (js1 rfl) 15 (.bool (decide (m = 2 ∧ cI y))) ?_ ?_
 ·
  refine jR ?_
  refine jm rfl (jb rfl rfl (Bin.eqlN _ 2) ?_)
  by_cases hs11 : m = 2
  ·
   refine jM ?_
   refine jG ?_
   refine Ops.clg rfl au (jE1 Tryz.call196) (zD y _) rfl ?_
   rintro e _ ⟨rfl, rfl⟩
   refine ⟨_, rfl, ?_⟩
   by_cases hs14 : cI y
   ·
    refine je (Run.pickT rfl rfl au) (jO ?_)
    refine jN ⟨(js2 (jC (Eq.symm (by simp [*]))) rfl), rfl⟩
   refine je (Run.pickT rfl rfl au) (jO ?_)
   refine jN ⟨(js2 (jC (Eq.symm (by simp [*]))) rfl), rfl⟩
  refine jM ?_
  refine jU ?_
  refine jU ?_
  refine je (Run.pickF rfl rfl au) (jO ?_)
  refine jN ⟨(js2 (jC (Eq.symm (by simp [*]))) rfl), rfl⟩
 intro Γ hΓ
 refine jN (VC.sub _ hΓ ?_)
 refine jD rfl (fun hc1 => ?_) fun hc1 => ?_
 ·
  refine jS (jR (jz 29 (jO (jN (jv1 4 ?_)))))
  refine jT ?_
  refine qZ (qN rfl ?_)
  exact ⟨by rw [show longN y m = 29 by unfold longN; rw [if_pos hc1.1, if_pos hc1.2]], rfl⟩
 refine jQ (jN (jv1 5 ?_))
 refine jS (jR (jm rfl (ja rfl (jO (jN (jv1 4 ?_))))))
 refine jT ?_
 refine qN rfl ?_
 refine ⟨?_, rfl⟩
 have e : longN y m = (if m = 2 then 28 else if m = 4 ∨ m = 6 ∨ m = 9 ∨ m = 11 then 30 else 31) := by
  unfold longN
  by_cases h : m = 2
  · rw [if_pos h, if_pos h, if_neg (fun hl => hc1 ⟨h, hl⟩)]
  rw [if_neg h, if_neg h]
 rw [e]
theorem xB (n : Int) (w : World) : Calls Tryz.prog 175 #[.int .i64 n] w fun e w' =>
  w = w' ∧ ∃ y m d k : Nat, e = .returned (.tuple #[.int .i64 ((y : Nat) : Int), .int .i64 ((m : Nat) : Int), .int .i64 ((d : Nat) : Int), .int .i64 ((k : Nat) : Int)]) ∧
   (((n < -719162 ∨ 2932896 < n) ∧ y = 0 ∧ m = 0 ∧ d = 0 ∧ k = 4) ∨ (¬ (n < -719162 ∨ 2932896 < n) ∧ k = 0 ∧ sM n y m d)) := by
 refine VC.calls (nt := 47) (res := #[.tmp 2, .tmp 3, .tmp 4, .tmp 5]) Tryz.func175 rfl Tryz.ntmps175 Tryz.results175 rfl ?_
 refine jS (jR (jz 0 (jz 0 (jz 0 (jz 0 (jO (jN (jv1 0 ?_))))))))
 refine jS (jS ?_)
 refine VC.split1 [(0, _)] (js1 rfl) 15 (.bool (decide (n < -719162 ∨ 2932896 < n))) ?_ ?_
 ·
  refine jR ?_
  refine jm rfl (jb rfl rfl (Bin.lss _ (-719162)) ?_)
  by_cases hs9 : n < -719162
  ·
   refine jM ?_
   refine jU ?_
   refine jU ?_
   refine jU ?_
   refine jU ?_
   refine je (Run.pickT rfl rfl au) (jO ?_)
   refine jN ⟨(js2 (jC (Eq.symm (by first | exact decide_eq_true jo | exact decide_eq_false jo | exact decide_eq_decide.2 jo))) rfl), rfl⟩
  refine jM ?_
  refine jG ?_
  refine Ops.clg rfl au (jE1 Tryz.call185) (lX 10000 _ jo jo) rfl ?_
  rintro e _ ⟨rfl, rfl⟩
  refine ⟨_, rfl, ?_⟩
  rw [show aheadN 10000 = 3652059 from rfl]
  refine jk (Run.bin rfl rfl (Bin.sub_i64 _ 719162 jo jo)) ?_
  refine jk (Run.bin rfl rfl (Bin.geq _ _)) ?_
  by_cases hs14 : ((2932897 : Nat) : Int) ≤ n
  ·
   refine je (Run.pickF rfl rfl au) (jO ?_)
   refine jN ⟨(js2 (jC (Eq.symm (by first | exact decide_eq_true jo | exact decide_eq_false jo | exact decide_eq_decide.2 jo))) rfl), rfl⟩
  refine je (Run.pickF rfl rfl au) (jO ?_)
  refine jN ⟨(js2 (jC (Eq.symm (by first | exact decide_eq_true jo | exact decide_eq_false jo | exact decide_eq_decide.2 jo))) rfl), rfl⟩
 intro Γ hΓ
 refine jN (VC.sub _ hΓ ?_)
 refine jD rfl (fun hc1 => ?_) fun hc1 => ?_
 ·
  refine jS (jR (jz 0 (jz 0 (jz 0 (jz 4 (jO (jN (jv4 2 3 4 5 ?_))))))))
  refine jT ?_
  refine qZ (bT ?_)
  refine bX rfl ?_
  refine bX rfl ?_
  refine bX rfl ?_
  refine bX rfl ?_
  refine bZ ?_
  exact ⟨rfl, 0, 0, 0, 4, rfl, .inl ⟨hc1, rfl, rfl, rfl, rfl⟩⟩
 obtain ⟨n1, hn1⟩ : ∃ n1 : Nat, n + 719162 = ((n1 : Nat) : Int) := ⟨(n + 719162).toNat, jo⟩
 have hn1m : n1 ≤ 3652058 := jo
 refine jQ (jN (jv1 0 ?_))
 refine jS (jR (jm rfl (jb rfl rfl (Bin.addZ _ 719162 jo jo) ?_)))
 rw [hn1]
 refine ja rfl (jO (jN (jv1 0 ?_)))
 refine jS (jR (jm rfl (jb rfl rfl (Bin.quo_i64 _ 365 jo jo) (jb rfl rfl (Bin.add_i64 _ 1 jo) (ja rfl (jO (jN (jv2 0 6 ?_))))))))
 refine jS (jB ?_)
 refine VC.loop (σ := Nat) (fun s => [(0, .int .i64 ((n1 : Nat) : Int)), (6, .int .i64 ((s : Nat) : Int))]) (fun s wr => (1 ≤ s ∧ s ≤ 20000 ∧ n1 < aheadN (s + 1)) ∧ w = wr) (fun s => s) (n1 / 365 + 1) (js2 rfl rfl) ⟨⟨jo, jo, zB n1⟩, rfl⟩ ?_
 rintro y _ ⟨⟨hy1, hy2, hy3⟩, rfl⟩
 refine jS (jS (jR (jM ?_)))
 refine Ops.cl (jE1 Tryz.call185) (lX y _ hy1 jo) rfl ?_
 rintro e _ ⟨rfl, rfl⟩
 refine ⟨_, rfl, ?_⟩
 refine jm rfl (jb rfl rfl (Bin.gtrN _ _) (jO (jN (jv3 0 6 24 ?_))))
 refine jD rfl (fun hc2 => ?_) fun hc2 => ?_
 ·
  have hyn : y ≠ 1 := fun h => by subst h; rw [rE] at hc2; omega
  refine jQ (jN (jv2 0 6 ?_))
  refine jB (jR (jm rfl (jb rfl rfl (Bin.sub_i64 _ 1 jo jo) (ja rfl (jO ?_)))))
  refine qW (jN ⟨(y - 1), (js2 rfl rfl), ?_, ?_⟩)
  ·
   have : y - 1 + 1 = y := jo
   exact ⟨⟨jo, jo, by rw [this]; exact hc2⟩, rfl⟩
  first | omega | (dsimp only; omega)
 refine jX ?_
 refine qJ (qJ (qR ?_))
 refine jN (jv2 0 6 ?_)
 refine jS (jR (jm rfl (jM ?_)))
 refine Ops.cl (jE1 Tryz.call185) (lX y _ hy1 jo) rfl ?_
 rintro e _ ⟨rfl, rfl⟩
 refine ⟨_, rfl, ?_⟩
 have has := kI y hy1
 have hyt := rD y jo
 refine jb rfl rfl (Bin.sub_i64 _ _ jo jo) (ja rfl (jO (jN (jv2 0 6 ?_))))
 refine jS (jR (jz 1 (jO (jN (jS (jB ?_))))))
 refine VC.loop (σ := Nat) (fun s => [(0, .int .i64 ((n1 - aheadN y - bA y s : Nat) : Int)), (6, .int .i64 ((y : Nat) : Int)), (7, .int .i64 ((s : Nat) : Int))]) (fun s wr => (1 ≤ s ∧ s ≤ 12 ∧ bA y s ≤ n1 - aheadN y) ∧ w = wr) (fun s => 13 - s) 1 (js3 rfl rfl rfl) ⟨⟨jo, jo, zad _⟩, rfl⟩ ?_
 rintro m _ ⟨⟨hm1, hm2, hm3⟩, rfl⟩
 have hbs := kQ y m hm1
 refine jS (jS (jR (jm rfl (jm rfl (jM ?_)))))
 refine Ops.cl (jE2 Tryz.call186) (rA y m _ hm1 hm2) rfl ?_
 rintro e _ ⟨rfl, rfl⟩
 refine ⟨_, rfl, ?_⟩
 refine jb rfl rfl (Bin.geqN _ _) (jO (jN (jv4 0 6 7 35 ?_)))
 refine jD rfl (fun hc3 => ?_) fun hc3 => ?_
 ·
  refine jQ (jN (jv3 0 6 7 ?_))
  refine jB (jS (jR (jm rfl (jm rfl (jM ?_)))))
  refine Ops.cl (jE2 Tryz.call186) (rA y m _ hm1 hm2) rfl ?_
  rintro e _ ⟨rfl, rfl⟩
  refine ⟨_, rfl, ?_⟩
  refine jb rfl rfl (Bin.sub_i64 _ _ jo jo) (ja rfl (jO (jN (jv3 0 6 7 ?_))))
  refine jR (jm rfl (jb rfl rfl (Bin.add_i64 _ 1 jo) (ja rfl (jO ?_))))
  refine qW (jN ⟨(m + 1), (js3 (congrArg (fun z : Nat => some (Value.int .i64 (z : Int))) (jo : n1 - aheadN y - bA y m - longN y m = n1 - aheadN y - bA y (m + 1))) rfl rfl), ?_, ?_⟩)
  ·
   refine ⟨⟨jo, ?_, jo⟩, rfl⟩
   apply Classical.byContradiction
   intro h
   have h12 : m = 12 := jo
   subst h12
   have hbe := oC y
   have : bA y (12 + 1) = bA y 13 := rfl
   omega
  first | omega | (dsimp only; omega)
 refine jX ?_
 refine qJ (qJ (qR ?_))
 refine jN (jv3 0 6 7 ?_)
 refine jS (jR (jm rfl (jm rfl (jm rfl (jb rfl rfl (Bin.add_i64 _ 1 jo) (ja rfl (ja rfl (ja rfl (jz 0 (jO (jN (jv4 2 3 4 5 ?_))))))))))))
 refine jT ?_
 refine bT ?_
 refine bX rfl ?_
 refine bX rfl ?_
 refine bX rfl ?_
 refine bX rfl ?_
 refine bZ ?_
 refine ⟨rfl, y, m, n1 - aheadN y - bA y m + 1, 0, rfl, .inr ⟨hc1, rfl, ?_⟩⟩
 exact ⟨hy1, hyt, hm1, hm2, jo, jo, jo⟩
theorem xC (x : Int) (w : World) (h1 : -4611686018427387904 ≤ x) (h2 : x ≤ 4611686018427387904) : Calls Tryz.prog 173 #[.int .i64 x] w fun e w' => e = .returned (.tuple #[.int .i64 (x / 86400), .int .i64 (x % 86400)]) ∧ w = w' := by
 have e1 := Int.tmod_add_mul_tdiv x 86400
 have e2 := Int.tmod_lt_of_pos x (b := 86400) jd
 have e3 := Int.lt_tmod_of_pos x (b := 86400) jd
 refine VC.calls (nt := 18) (res := #[.tmp 2, .tmp 3]) Tryz.func173 rfl Tryz.ntmps173 Tryz.results173 rfl ?_
 refine jS (jR (jz 0 (jz 0 (jO (jN (jv1 0 ?_))))))
 refine jS (jR (jm rfl (jb rfl rfl (Bin.quoZ _ 86400 jo jo jo) (jm rfl (jb rfl rfl (Bin.remZ _ 86400 jo) (ja rfl (ja rfl (jO (jN (jv2 4 5 ?_))))))))))
 refine jS (jS (jR (jm rfl (jb rfl rfl (Bin.lss _ 0) (jO (jN (jv3 4 5 11 ?_)))))))
 refine VC.meet (σ := Unit) (fun s => [(4, .int .i64 (x / 86400)), (5, .int .i64 (x % 86400))]) (fun s wm => w = wm) ?_ ?_
 ·
  refine jD rfl (fun hc1 => ?_) fun hc1 => ?_
  ·
   refine jR (jm rfl (jb rfl rfl (Bin.subZ _ 1 jo jo) (jm rfl (jb rfl rfl (Bin.addZ _ 86400 jo jo) (ja rfl (ja rfl (jO ?_)))))))
   refine jN ⟨(), (js2 (congrArg (fun z => some (Value.int .i64 z)) (jo : x.tdiv 86400 - 1 = x / 86400)) (congrArg (fun z => some (Value.int .i64 z)) (jo : x.tmod 86400 + 86400 = x % 86400))), ?_⟩
   rfl
  refine jQ ?_
  refine jN ⟨(), (js2 (congrArg (fun z => some (Value.int .i64 z)) (jo : x.tdiv 86400 = x / 86400)) (congrArg (fun z => some (Value.int .i64 z)) (jo : x.tmod 86400 = x % 86400))), ?_⟩
  rfl
 rintro _ _ rfl Γ hΓ
 refine jN (VC.sub _ hΓ (jS (jR (jm rfl (jm rfl (ja rfl (ja rfl (jO (jN (jv2 2 3 ?_))))))))))
 refine jT ?_
 refine dR rfl rfl ?_
 exact ⟨rfl, rfl⟩
end
section
open Go.RowKit
theorem qJ0 {n : Int} {y m d k : Nat} (h : ((n < -719162 ∨ 2932896 < n) ∧ y = 0 ∧ m = 0 ∧ d = 0 ∧ k = 4) ∨ (¬ (n < -719162 ∨ 2932896 < n) ∧ k = 0 ∧ sM n y m d)) : k = 0 ↔ (-719162 ≤ n ∧ n ≤ 2932896) := by
 rcases h with ⟨h1, _, _, _, h2⟩ | ⟨h1, h2, _⟩ <;> omega
theorem nY {a b : Int} (h1 : -1439 ≤ b) (h2 : b ≤ 1439) : (-719162 ≤ (a + 60 * b) / 86400 ∧ (a + 60 * b) / 86400 ≤ 2932896) ↔ dV a b := by
 unfold dV
 omega
theorem xD (a b : Int) (w : World) (h1 : -1439 ≤ b) (h2 : b ≤ 1439) (h3 : -1099511627776 ≤ a) (h4 : a ≤ 1099511627776) : Calls Tryz.prog 174 #[.agg #[.int .i64 a, .int .i64 b]] w fun e w' => e = .returned (.int .i64 (a + 60 * b)) ∧ Frm [] w w' := by
 refine VC.calls (nt := 9) (res := #[.tmp 2]) Tryz.func174 rfl Tryz.ntmps174 Tryz.results174 rfl ?_
 refine jS (jR ?_)
 refine Ops.m (qK.box rfl) rfl ?_
 rintro _ w1 ⟨rfl, hF1⟩
 have hb1 := hF1.blk
 have hf1 := hF1.frm
 generalize hg1 : w.heap.size = g1 at *
 refine jz 0 (jO (jN (jv1 1 ?_)))
 refine jS (jR (jf rfl zay rfl zdk (jl rfl zdz (hb1.cell 0) (jf rfl zay rfl zj (jl rfl zn (hb1.cell 1) (jb rfl rfl (Bin.mulZ 60 _ jo jo) (jb rfl rfl (Bin.addZ _ _ jo jo) (ja rfl (jO (jN (jv1 2 ?_)))))))))))
 refine jT ?_
 refine qN rfl ?_
 exact ⟨rfl, hf1⟩
theorem zE (a b : Int) (w : World) : Calls Tryz.prog 152 #[.agg #[.int .i64 a, .int .i64 b]] w fun e w' => e = .returned (.bool (decide (dV a b))) ∧ Frm [] w w' := by
 refine VC.calls (nt := 42) (res := #[.tmp 2]) Tryz.func152 rfl Tryz.ntmps152 Tryz.results152 rfl ?_
 refine jS (jR ?_)
 refine Ops.m (qK.box rfl) rfl ?_
 rintro _ w1 ⟨rfl, hF1⟩
 have hb1 := hF1.blk
 have hf1 := hF1.frm
 generalize hg1 : w.heap.size = g1 at *
 refine ja rfl (jO (jN (jv1 1 ?_)))
 refine jS (jS ?_)
 refine VC.split1 [(1, _)] (js1 rfl) 26 (.bool (decide (b < -1439 ∨ 1439 < b ∨ 1099511627776 < a ∨ a < -1099511627776))) ?_ ?_
 ·
  refine jR (jf rfl zay rfl zj (jl rfl zn (hb1.cell 1) (jb rfl rfl (Bin.lss _ (-1439)) ?_)))
  by_cases hs11 : b < -1439
  ·
   refine jM ?_
   refine jU ?_
   refine jU ?_
   refine jU ?_
   refine je (Run.pickT rfl rfl au) (jM ?_)
   refine jU ?_
   refine jU ?_
   refine jU ?_
   refine je (Run.pickT rfl rfl au) (jM ?_)
   refine jU ?_
   refine jU ?_
   refine jU ?_
   refine je (Run.pickT rfl rfl au) (jO ?_)
   refine jN ⟨(js2 (jC (Eq.symm (by simp [*]))) rfl), rfl⟩
  refine jM ?_
  refine jk (Run.fieldAddr rfl zay rfl zj jd) ?_
  refine jk (Run.load rfl zn (hb1.cell 1)) ?_
  refine jk (Run.bin rfl rfl (Bin.gtr _ 1439)) ?_
  by_cases hs15 : 1439 < b
  ·
   refine je (Run.pickF rfl rfl au) (jM ?_)
   refine jU ?_
   refine jU ?_
   refine jU ?_
   refine je (Run.pickT rfl rfl au) (jM ?_)
   refine jU ?_
   refine jU ?_
   refine jU ?_
   refine je (Run.pickT rfl rfl au) (jO ?_)
   refine jN ⟨(js2 (jC (Eq.symm (by simp [*]))) rfl), rfl⟩
  refine je (Run.pickF rfl rfl au) (jM ?_)
  refine jk (Run.fieldAddr rfl zay rfl zdk jd) ?_
  refine jk (Run.load rfl zdz (hb1.cell 0)) ?_
  refine jk (Run.bin rfl rfl (Bin.gtr _ 1099511627776)) ?_
  by_cases hs20 : 1099511627776 < a
  ·
   refine je (Run.pickF rfl rfl au) (jM ?_)
   refine jU ?_
   refine jU ?_
   refine jU ?_
   refine je (Run.pickT rfl rfl au) (jO ?_)
   refine jN ⟨(js2 (jC (Eq.symm (by simp [*]))) rfl), rfl⟩
  refine je (Run.pickF rfl rfl au) (jM ?_)
  refine jk (Run.fieldAddr rfl zay rfl zdk jd) ?_
  refine jk (Run.load rfl zdz (hb1.cell 0)) ?_
  refine jk (Run.bin rfl rfl (Bin.lss _ (-1099511627776))) ?_
  by_cases hs25 : a < -1099511627776
  ·
   refine je (Run.pickF rfl rfl au) (jO ?_)
   refine jN ⟨(js2 (jC (Eq.symm (by simp [*]))) rfl), rfl⟩
  refine je (Run.pickF rfl rfl au) (jO ?_)
  refine jN ⟨(js2 (jC (Eq.symm (by simp [*]))) rfl), rfl⟩
 intro Γ hΓ
 refine jN (VC.sub _ hΓ ?_)
 refine jD rfl (fun hc1 => ?_) fun hc1 => ?_
 ·
  refine jS (jR (ja rfl (jO (jN (jv1 2 ?_)))))
  refine jT ?_
  refine qZ (qN rfl ?_)
  exact ⟨by rw [decide_eq_false (by unfold dV; omega)], hf1⟩
 refine jQ (jN (jv1 1 ?_))
 refine jS (jR (je (Run.loadA rfl Tryz.isAgg58 zbz (fun j v hj => hb1.cells j v hj) (by first | rfl | (simp; done))) ?_))
 refine Ops.cl (jE1 Tryz.call174) (xD a b _ jo jo jo jo) rfl ?_
 rintro e w2 ⟨rfl, hf2⟩
 refine ⟨_, rfl, ?_⟩
 have hfr2 := hf1.trans hf2 jp
 refine Ops.cl (jE1 Tryz.call173) (xC (a + 60 * b) _ jo jo) rfl ?_
 rintro e _ ⟨rfl, rfl⟩
 refine ⟨_, rfl, ?_⟩
 refine jm rfl (je (Run.extract rfl rfl) (je (Run.extract rfl rfl) (ja rfl (ja rfl (jO (jN (jv1 3 ?_)))))))
 refine jS (jR (jM ?_))
 refine Ops.cl (jE1 Tryz.call175) (xB ((a + 60 * b) / 86400) _) rfl ?_
 rintro e _ ⟨rfl, y, m, d, k, rfl, hk⟩
 refine ⟨_, rfl, ?_⟩
 refine jm rfl (je (Run.extract rfl rfl) (je (Run.extract rfl rfl) (je (Run.extract rfl rfl) (je (Run.extract rfl rfl) (ja rfl (ja rfl (jA ?_)))))))
 refine ja rfl (jO (jN (jv1 8 ?_)))
 refine jS (jR (jm rfl (jb rfl rfl (Bin.eqlN _ 0) (ja rfl (jO (jN (jv1 2 ?_)))))))
 refine jT ?_
 refine qN rfl ?_
 refine ⟨?_, hfr2⟩
 rw [show (decide (k = 0)) = decide (dV a b) from decide_eq_decide.2 ((qJ0 hk).trans (nY jo jo))]
theorem fN (y : Nat) (w : World) : Calls Tryz.prog 203 #[.int .i64 ((y : Nat) : Int)] w fun e w' => e = .returned (.bool (decide (cI y))) ∧ w = w' := by
 refine VC.calls (nt := 16) (res := #[.tmp 2]) Tryz.func203 rfl Tryz.ntmps203 Tryz.results203 rfl ?_
 refine jS (jR (ja rfl (jO (jN (jv1 0 ?_)))))
 refine jS ?_
 refine VC.split1 [] .nil 2 (.bool (decide (cI y))) ?_ ?_
 ·
  refine jR ?_
  refine jm rfl (jb rfl rfl (Bin.remN _ 400 jo) (jb rfl rfl (Bin.eqlN _ 0) ?_))
  by_cases hs5 : y % 400 = 0
  ·
   refine jM ?_
   refine jU ?_
   refine jU ?_
   refine jU ?_
   refine jU ?_
   refine Ops.skU rfl rfl ?_
   refine Ops.skU rfl rfl ?_
   refine Ops.skU rfl rfl ?_
   refine jU ?_
   refine je (Run.pickT rfl rfl au) (ja rfl (jO ?_))
   refine jN ⟨(js1 (jC (Eq.symm (by unfold cI; simp [*])))), rfl⟩
  refine jM ?_
  refine jG ?_
  refine jk (Run.bin rfl rfl (Bin.remN _ 4 jo)) ?_
  refine jk (Run.bin rfl rfl (Bin.eqlN _ 0)) ?_
  by_cases hs9 : y % 4 = 0
  ·
   refine jG ?_
   refine jG ?_
   refine jk (Run.bin rfl rfl (Bin.remN _ 100 jo)) ?_
   refine jk (Run.bin rfl rfl (Bin.neqN _ 0)) ?_
   by_cases hs13 : y % 100 ≠ 0
   ·
    refine jk (Run.pickT rfl rfl au) ?_
    refine je (Run.pickF rfl rfl au) (ja rfl (jO ?_))
    refine jN ⟨(js1 (jC (Eq.symm (by unfold cI; simp [*])))), rfl⟩
   refine jk (Run.pickT rfl rfl au) ?_
   refine je (Run.pickF rfl rfl au) (ja rfl (jO ?_))
   refine jN ⟨(js1 (jC (Eq.symm (by unfold cI; simp [*])))), rfl⟩
  refine jG ?_
  refine jU ?_
  refine jU ?_
  refine jU ?_
  refine jk (Run.pickF rfl rfl au) ?_
  refine je (Run.pickF rfl rfl au) (ja rfl (jO ?_))
  refine jN ⟨(js1 (jC (Eq.symm (by unfold cI; simp [*])))), rfl⟩
 intro Γ hΓ
 refine jN (VC.sub _ hΓ ?_)
 refine jT ?_
 refine qN rfl ?_
 exact ⟨rfl, rfl⟩
theorem lZ (y : Nat) (w : World) : Calls Tryz.prog 190 #[.int .i64 ((y : Nat) : Int)] w fun e w' => e = .returned (.int .i64 ((wholeN y : Nat) : Int)) ∧ w = w' := by
 refine VC.calls (nt := 5) (res := #[.tmp 2]) Tryz.func190 rfl Tryz.ntmps190 Tryz.results190 rfl ?_
 refine jS (jR (jz 0 (jO (jN (jv1 0 ?_)))))
 refine jS (jS (jR (jM ?_)))
 refine Ops.cl (jE1 Tryz.call203) (fN y _) rfl ?_
 rintro e _ ⟨rfl, rfl⟩
 refine ⟨_, rfl, ?_⟩
 refine jO (jN (jv1 4 ?_))
 refine VC.condB rfl (fun hc1 => ?_) (fun hc1 => ?_)
 ·
  have hl : cI y := by simpa using hc1
  refine jS (jR (jz 366 (jO (jN (jv1 2 ?_)))))
  refine jT ?_
  refine qZ (qN rfl ?_)
  exact ⟨by unfold wholeN; rw [if_pos hl], rfl⟩
 have hl : ¬ cI y := by simpa using hc1
 refine jQ (jN ?_)
 refine VC.sub [] .nil ?_
 refine jS (jR (jz 365 (jO (jN (jT ?_)))))
 refine qN rfl ?_
 exact ⟨by unfold wholeN; rw [if_neg hl], rfl⟩
theorem oI (y m : Nat) (w : World) : Calls Tryz.prog 191 #[.int .i64 ((y : Nat) : Int), .int .i64 ((m : Nat) : Int)] w fun e w' => e = .returned (.int .i64 ((longN y m : Nat) : Int)) ∧ w = w' := by
 refine VC.calls (nt := 15) (res := #[.tmp 4]) Tryz.func191 rfl Tryz.ntmps191 Tryz.results191 rfl ?_
 refine jS (jR (jz 0 (jO (jN (jv2 0 1 ?_)))))
 refine jS (jS (jR (jm rfl (jO (jN (jv2 0 5 ?_))))))
 refine jB (jS (jS (jR (jb rfl rfl (Bin.eqlN _ 4) (ja rfl (jO (jN (jv3 0 5 6 ?_))))))))
 refine jD rfl (fun hc1 => ?_) fun hc1 => ?_
 ·
  refine jQ (jN ?_)
  refine jD rfl (fun hc4 => ?_) fun hc4 => ?_
  ·
   refine jS (jR (jz 30 (jO (jN (jv1 4 ?_)))))
   refine jT ?_
   refine qV (qZ (qN rfl ?_))
   exact ⟨by unfold longN; simp_all, rfl⟩
  refine jS (jR (jb rfl rfl (Bin.eqlN _ 2) (ja rfl (jO (jN (jv2 0 11 ?_))))))
  refine jD rfl (fun hc5 => ?_) fun hc5 => ?_
  ·
   refine jS (jS (jR (jM ?_)))
   refine Ops.cl (jE1 Tryz.call203) (fN y _) rfl ?_
   rintro e _ ⟨rfl, rfl⟩
   refine ⟨_, rfl, ?_⟩
   refine jO (jN (jv1 14 ?_))
   refine VC.condB rfl (fun hc6 => ?_) (fun hc6 => ?_)
   ·
    refine jS (jR (jz 29 (jO (jN (jv1 4 ?_)))))
    refine jT ?_
    refine qZ (qV (qZ (qN rfl ?_)))
    exact ⟨by unfold longN; simp_all, rfl⟩
   refine jQ (jN ?_)
   refine VC.sub [] .nil ?_
   refine jS (jR (jz 28 (jO (jN (jT ?_)))))
   refine qV (qZ (qN rfl ?_))
   exact ⟨by unfold longN; simp_all, rfl⟩
  refine jQ ?_
  refine qW (jN ?_)
  refine VC.sub [] .nil ?_
  refine jS (jR (jz 31 (jO (jN (jT ?_)))))
  refine qN rfl ?_
  exact ⟨by unfold longN; simp_all, rfl⟩
 refine jS (jR (jb rfl rfl (Bin.eqlN _ 6) (ja rfl (jO (jN (jv3 0 5 6 ?_))))))
 refine jD rfl (fun hc2 => ?_) fun hc2 => ?_
 ·
  refine jQ (jN ?_)
  refine jD rfl (fun hc4 => ?_) fun hc4 => ?_
  ·
   refine jS (jR (jz 30 (jO (jN (jv1 4 ?_)))))
   refine jT ?_
   refine qV (qZ (qN rfl ?_))
   exact ⟨by unfold longN; simp_all, rfl⟩
  refine jS (jR (jb rfl rfl (Bin.eqlN _ 2) (ja rfl (jO (jN (jv2 0 11 ?_))))))
  refine jD rfl (fun hc5 => ?_) fun hc5 => ?_
  ·
   refine jS (jS (jR (jM ?_)))
   refine Ops.cl (jE1 Tryz.call203) (fN y _) rfl ?_
   rintro e _ ⟨rfl, rfl⟩
   refine ⟨_, rfl, ?_⟩
   refine jO (jN (jv1 14 ?_))
   refine VC.condB rfl (fun hc6 => ?_) (fun hc6 => ?_)
   ·
    refine jS (jR (jz 29 (jO (jN (jv1 4 ?_)))))
    refine jT ?_
    refine qZ (qV (qZ (qN rfl ?_)))
    exact ⟨by unfold longN; simp_all, rfl⟩
   refine jQ (jN ?_)
   refine VC.sub [] .nil ?_
   refine jS (jR (jz 28 (jO (jN (jT ?_)))))
   refine qV (qZ (qN rfl ?_))
   exact ⟨by unfold longN; simp_all, rfl⟩
  refine jQ ?_
  refine qW (jN ?_)
  refine VC.sub [] .nil ?_
  refine jS (jR (jz 31 (jO (jN (jT ?_)))))
  refine qN rfl ?_
  exact ⟨by unfold longN; simp_all, rfl⟩
 refine jS (jR (jb rfl rfl (Bin.eqlN _ 9) (ja rfl (jO (jN (jv3 0 5 6 ?_))))))
 refine jD rfl (fun hc3 => ?_) fun hc3 => ?_
 ·
  refine jQ (jN ?_)
  refine jD rfl (fun hc4 => ?_) fun hc4 => ?_
  ·
   refine jS (jR (jz 30 (jO (jN (jv1 4 ?_)))))
   refine jT ?_
   refine qV (qZ (qN rfl ?_))
   exact ⟨by unfold longN; simp_all, rfl⟩
  refine jS (jR (jb rfl rfl (Bin.eqlN _ 2) (ja rfl (jO (jN (jv2 0 11 ?_))))))
  refine jD rfl (fun hc5 => ?_) fun hc5 => ?_
  ·
   refine jS (jS (jR (jM ?_)))
   refine Ops.cl (jE1 Tryz.call203) (fN y _) rfl ?_
   rintro e _ ⟨rfl, rfl⟩
   refine ⟨_, rfl, ?_⟩
   refine jO (jN (jv1 14 ?_))
   refine VC.condB rfl (fun hc6 => ?_) (fun hc6 => ?_)
   ·
    refine jS (jR (jz 29 (jO (jN (jv1 4 ?_)))))
    refine jT ?_
    refine qZ (qV (qZ (qN rfl ?_)))
    exact ⟨by unfold longN; simp_all, rfl⟩
   refine jQ (jN ?_)
   refine VC.sub [] .nil ?_
   refine jS (jR (jz 28 (jO (jN (jT ?_)))))
   refine qV (qZ (qN rfl ?_))
   exact ⟨by unfold longN; simp_all, rfl⟩
  refine jQ ?_
  refine qW (jN ?_)
  refine VC.sub [] .nil ?_
  refine jS (jR (jz 31 (jO (jN (jT ?_)))))
  refine qN rfl ?_
  exact ⟨by unfold longN; simp_all, rfl⟩
 refine jR (jb rfl rfl (Bin.eqlN _ 11) (ja rfl (jO (jN (jv3 0 5 6 ?_)))))
 refine jD rfl (fun hc4 => ?_) fun hc4 => ?_
 ·
  refine jS (jR (jz 30 (jO (jN (jv1 4 ?_)))))
  refine jT ?_
  refine qV (qZ (qN rfl ?_))
  exact ⟨by unfold longN; simp_all, rfl⟩
 refine jS (jR (jb rfl rfl (Bin.eqlN _ 2) (ja rfl (jO (jN (jv2 0 11 ?_))))))
 refine jD rfl (fun hc5 => ?_) fun hc5 => ?_
 ·
  refine jS (jS (jR (jM ?_)))
  refine Ops.cl (jE1 Tryz.call203) (fN y _) rfl ?_
  rintro e _ ⟨rfl, rfl⟩
  refine ⟨_, rfl, ?_⟩
  refine jO (jN (jv1 14 ?_))
  refine VC.condB rfl (fun hc6 => ?_) (fun hc6 => ?_)
  ·
   refine jS (jR (jz 29 (jO (jN (jv1 4 ?_)))))
   refine jT ?_
   refine qZ (qV (qZ (qN rfl ?_)))
   exact ⟨by unfold longN; simp_all, rfl⟩
  refine jQ (jN ?_)
  refine VC.sub [] .nil ?_
  refine jS (jR (jz 28 (jO (jN (jT ?_)))))
  refine qV (qZ (qN rfl ?_))
  exact ⟨by unfold longN; simp_all, rfl⟩
 refine jQ ?_
 refine qW (jN ?_)
 refine VC.sub [] .nil ?_
 refine jS (jR (jz 31 (jO (jN (jT ?_)))))
 refine qN rfl ?_
 exact ⟨by unfold longN; simp_all, rfl⟩
end
section
open Go.RowKit
theorem uB (n : Int) (w : World) : Calls Tryz.prog 178 #[.int .i64 n] w fun e w' =>
  w = w' ∧ ∃ y m d : Nat, ∃ b : Bool, e = .returned (.tuple #[.int .i64 ((y : Nat) : Int), .int .i64 ((m : Nat) : Int), .int .i64 ((d : Nat) : Int), .bool b]) ∧
   (((n < -719162 ∨ 2932896 < n) ∧ y = 0 ∧ m = 0 ∧ d = 0 ∧ b = false) ∨ (¬ (n < -719162 ∨ 2932896 < n) ∧ b = true ∧ sM n y m d)) := by
 refine VC.calls (nt := 48) (res := #[.tmp 2, .tmp 3, .tmp 4, .tmp 5]) Tryz.func178 rfl Tryz.ntmps178 Tryz.results178 rfl ?_
 refine jS (jR (jz 0 (jz 0 (jz 0 (ja rfl (jO (jN (jv1 0 ?_))))))))
 refine jS (jS ?_)
 refine VC.split1 [(0, _)] (js1 rfl) 13 (.bool (decide (n < -719162 ∨ 2932896 < n))) ?_ ?_
 ·
  refine jR ?_
  refine jm rfl (jb rfl rfl (Bin.lss _ (-719162)) ?_)
  by_cases hs9 : n < -719162
  ·
   refine jM ?_
   refine jU ?_
   refine jU ?_
   refine je (Run.pickT rfl rfl au) (jO ?_)
   refine jN ⟨(js2 (jC (Eq.symm (by simp [*]))) rfl), rfl⟩
  refine jM ?_
  refine jG ?_
  refine jk (Run.bin rfl rfl (Bin.gtr _ 2932896)) ?_
  by_cases hs12 : 2932896 < n
  ·
   refine je (Run.pickF rfl rfl au) (jO ?_)
   refine jN ⟨(js2 (jC (Eq.symm (by simp [*]))) rfl), rfl⟩
  refine je (Run.pickF rfl rfl au) (jO ?_)
  refine jN ⟨(js2 (jC (Eq.symm (by simp [*]))) rfl), rfl⟩
 intro Γ hΓ
 refine jN (VC.sub _ hΓ ?_)
 refine jD rfl (fun hc1 => ?_) fun hc1 => ?_
 ·
  refine jS (jR (jz 0 (jz 0 (jz 0 (ja rfl (jO (jN (jv4 2 3 4 5 ?_))))))))
  refine jT ?_
  refine qZ (bT ?_)
  refine bX rfl ?_
  refine bX rfl ?_
  refine bX rfl ?_
  refine bX rfl ?_
  refine bZ ?_
  exact ⟨rfl, 0, 0, 0, false, rfl, .inl ⟨hc1, rfl, rfl, rfl, rfl⟩⟩
 obtain ⟨n1, hn1⟩ : ∃ n1 : Nat, n + 719162 = ((n1 : Nat) : Int) := ⟨(n + 719162).toNat, jo⟩
 have hn1m : n1 ≤ 3652058 := jo
 have h70 : aheadN 1970 = 719162 := rfl
 refine jQ (jN (jv1 0 ?_))
 refine jS (jR (jz 1970 (jO (jN (jS (jB ?_))))))
 refine VC.loop (σ := Nat) (fun s => [(0, .int .i64 (((n1 : Nat) : Int) - ((aheadN s : Nat) : Int))), (6, .int .i64 ((s : Nat) : Int))]) (fun s wr => (1 ≤ s ∧ s ≤ 1970 ∧ aheadN s ≤ 719162) ∧ w = wr) (fun s => s) 1970 (js2 (congrArg (fun z => some (Value.int .i64 z)) (jo : n = ((n1 : Nat) : Int) - ((aheadN 1970 : Nat) : Int))) rfl) ⟨⟨jo, jo, jo⟩, rfl⟩ ?_
 rintro y _ ⟨⟨hy1, hy2, hy3⟩, rfl⟩
 refine jS (jS (jR (jm rfl (jb rfl rfl (Bin.lss _ 0) (jO (jN (jv3 0 6 15 ?_)))))))
 refine jD rfl (fun hc2 => ?_) fun hc2 => ?_
 ·
  have hyn : y ≠ 1 := fun h => by subst h; rw [rE] at hc2; omega
  have has := kI (y - 1) jo
  have hwp := rC (y - 1)
  rw [show y - 1 + 1 = y by omega] at has
  refine jQ (jN (jv2 0 6 ?_))
  refine jB (jS (jR (jm rfl (jb rfl rfl (Bin.sub_i64 _ 1 jo jo) (ja rfl (jO (jN (jv2 0 6 ?_))))))))
  refine jR (jm rfl (jM ?_))
  refine Ops.cl (jE1 Tryz.call190) (lZ (y - 1) _) rfl ?_
  rintro e _ ⟨rfl, rfl⟩
  refine ⟨_, rfl, ?_⟩
  refine jb rfl rfl (Bin.addZ _ _ jo jo) (ja rfl (jO ?_))
  refine qW (jN ⟨(y - 1), (js2 (congrArg (fun z => some (Value.int .i64 z)) (jo : ((n1 : Nat) : Int) - ((aheadN y : Nat) : Int) + ((wholeN (y - 1) : Nat) : Int) = ((n1 : Nat) : Int) - ((aheadN (y - 1) : Nat) : Int))) rfl), ?_, ?_⟩)
  · exact ⟨⟨jo, jo, jo⟩, rfl⟩
  first | omega | (dsimp only; omega)
 refine jX ?_
 refine qJ (qJ (qR ?_))
 refine jN (jv2 0 6 ?_)
 refine jS (jB ?_)
 refine VC.loop (σ := Nat) (fun s => [(0, .int .i64 ((n1 - aheadN s : Nat) : Int)), (6, .int .i64 ((s : Nat) : Int))]) (fun s wr => (1 ≤ s ∧ aheadN s ≤ n1) ∧ w = wr) (fun s => n1 + 1 - aheadN s) y (js2 (congrArg (fun z => some (Value.int .i64 z)) (jo : ((n1 : Nat) : Int) - ((aheadN y : Nat) : Int) = ((n1 - aheadN y : Nat) : Int))) rfl) ⟨⟨jo, jo⟩, rfl⟩ ?_
 rintro y _ ⟨⟨hy1, hy2⟩, rfl⟩
 have has := kI y hy1
 have hwp := rC y
 have hyt := rD y jo
 refine jS (jS (jR (jm rfl (jM ?_))))
 refine Ops.cl (jE1 Tryz.call190) (lZ y _) rfl ?_
 rintro e _ ⟨rfl, rfl⟩
 refine ⟨_, rfl, ?_⟩
 refine jb rfl rfl (Bin.geqN _ _) (jO (jN (jv3 0 6 25 ?_)))
 refine jD rfl (fun hc3 => ?_) fun hc3 => ?_
 ·
  refine jQ (jN (jv2 0 6 ?_))
  refine jB (jS (jR (jm rfl (jM ?_))))
  refine Ops.cl (jE1 Tryz.call190) (lZ y _) rfl ?_
  rintro e _ ⟨rfl, rfl⟩
  refine ⟨_, rfl, ?_⟩
  refine jb rfl rfl (Bin.sub_i64 _ _ jo jo) (ja rfl (jO (jN (jv2 0 6 ?_))))
  refine jR (jm rfl (jb rfl rfl (Bin.add_i64 _ 1 jo) (ja rfl (jO ?_))))
  refine qW (jN ⟨(y + 1), (js2 (congrArg (fun z : Nat => some (Value.int .i64 (z : Int))) (jo : n1 - aheadN y - wholeN y = n1 - aheadN (y + 1))) rfl), ?_, ?_⟩)
  · exact ⟨⟨jo, jo⟩, rfl⟩
  first | omega | (dsimp only; omega)
 refine jX ?_
 refine qJ (qJ (qR ?_))
 refine jN (jv2 0 6 ?_)
 refine jS (jR (jz 1 (jO (jN (jS (jB ?_))))))
 refine VC.loop (σ := Nat) (fun s => [(0, .int .i64 ((n1 - aheadN y - bA y s : Nat) : Int)), (6, .int .i64 ((y : Nat) : Int)), (7, .int .i64 ((s : Nat) : Int))]) (fun s wr => (1 ≤ s ∧ s ≤ 12 ∧ bA y s ≤ n1 - aheadN y) ∧ w = wr) (fun s => 13 - s) 1 (js3 rfl rfl rfl) ⟨⟨jo, jo, zad _⟩, rfl⟩ ?_
 rintro m _ ⟨⟨hm1, hm2, hm3⟩, rfl⟩
 have hbs := kQ y m hm1
 refine jS (jS (jR (jm rfl (jm rfl (jM ?_)))))
 refine Ops.cl (jE2 Tryz.call191) (oI y m _) rfl ?_
 rintro e _ ⟨rfl, rfl⟩
 refine ⟨_, rfl, ?_⟩
 refine jb rfl rfl (Bin.geqN _ _) (jO (jN (jv4 0 6 7 36 ?_)))
 refine jD rfl (fun hc4 => ?_) fun hc4 => ?_
 ·
  refine jQ (jN (jv3 0 6 7 ?_))
  refine jB (jS (jR (jm rfl (jm rfl (jM ?_)))))
  refine Ops.cl (jE2 Tryz.call191) (oI y m _) rfl ?_
  rintro e _ ⟨rfl, rfl⟩
  refine ⟨_, rfl, ?_⟩
  refine jb rfl rfl (Bin.sub_i64 _ _ jo jo) (ja rfl (jO (jN (jv3 0 6 7 ?_))))
  refine jR (jm rfl (jb rfl rfl (Bin.add_i64 _ 1 jo) (ja rfl (jO ?_))))
  refine qW (jN ⟨(m + 1), (js3 (congrArg (fun z : Nat => some (Value.int .i64 (z : Int))) (jo : n1 - aheadN y - bA y m - longN y m = n1 - aheadN y - bA y (m + 1))) rfl rfl), ?_, ?_⟩)
  ·
   refine ⟨⟨jo, ?_, jo⟩, rfl⟩
   apply Classical.byContradiction
   intro h
   have h12 : m = 12 := jo
   subst h12
   have hbe := oC y
   have : bA y (12 + 1) = bA y 13 := rfl
   omega
  first | omega | (dsimp only; omega)
 refine jX ?_
 refine qJ (qJ (qR ?_))
 refine jN (jv3 0 6 7 ?_)
 refine jS (jR (jm rfl (jm rfl (jm rfl (jb rfl rfl (Bin.add_i64 _ 1 jo) (ja rfl (ja rfl (ja rfl (ja rfl (jO (jN (jv4 2 3 4 5 ?_))))))))))))
 refine jT ?_
 refine bT ?_
 refine bX rfl ?_
 refine bX rfl ?_
 refine bX rfl ?_
 refine bX rfl ?_
 refine bZ ?_
 refine ⟨rfl, y, m, n1 - aheadN y - bA y m + 1, true, rfl, .inr ⟨hc1, rfl, ?_⟩⟩
 exact ⟨hy1, hyt, hm1, hm2, jo, jo, jo⟩
theorem qJe {n : Int} {y m d : Nat} {b : Bool} (h : ((n < -719162 ∨ 2932896 < n) ∧ y = 0 ∧ m = 0 ∧ d = 0 ∧ b = false) ∨ (¬ (n < -719162 ∨ 2932896 < n) ∧ b = true ∧ sM n y m d)) : b = decide (-719162 ≤ n ∧ n ≤ 2932896) := by
 rcases h with ⟨h1, _, _, _, h2⟩ | ⟨h1, h2, _⟩
 · rw [h2, decide_eq_false jo]
 rw [h2, decide_eq_true jo]
def hX (a b : Int) : Int × Int × Bool := if b < -1439 ∨ 1439 < b ∨ a < -100000000000 ∨ 1000000000000 < a then (0, 0, false) else ((a + 60 * b) / 86400, (a + 60 * b) % 86400, decide (dV a b))
theorem qXr (a b : Int) : (hX a b).2.2 = decide (dV a b) := by
 unfold hX
 split
 · rw [decide_eq_false (by unfold dV; omega)]
 rfl
theorem xE (a b : Int) (w : World) : Calls Tryz.prog 156 #[.agg #[.int .i64 a, .int .i64 b]] w fun e w' => e = .returned (.tuple #[.int .i64 (hX a b).1, .int .i64 (hX a b).2.1, .bool (hX a b).2.2]) ∧ Frm [] w w' := by
 refine VC.calls (nt := 57) (res := #[.tmp 2, .tmp 3, .tmp 4]) Tryz.func156 rfl Tryz.ntmps156 Tryz.results156 rfl ?_
 refine jS (jR ?_)
 refine Ops.m (qK.box rfl) rfl ?_
 rintro _ w1 ⟨rfl, hF1⟩
 have hb1 := hF1.blk
 have hf1 := hF1.frm
 generalize hg1 : w.heap.size = g1 at *
 refine jz 0 (jz 0 (ja rfl (jO (jN (jv1 1 ?_)))))
 refine jS (jS ?_)
 refine VC.split1 [(1, _)] (js1 rfl) 28 (.bool (decide (b < -1439 ∨ 1439 < b ∨ a < -100000000000 ∨ 1000000000000 < a))) ?_ ?_
 ·
  refine jR (jf rfl zay rfl zj (jl rfl zn (hb1.cell 1) (jb rfl rfl (Bin.lss _ (-1439)) ?_)))
  by_cases hs13 : b < -1439
  ·
   refine jM ?_
   refine jU ?_
   refine jU ?_
   refine jU ?_
   refine je (Run.pickT rfl rfl au) (jM ?_)
   refine jU ?_
   refine jU ?_
   refine jU ?_
   refine je (Run.pickT rfl rfl au) (jM ?_)
   refine jU ?_
   refine jU ?_
   refine jU ?_
   refine je (Run.pickT rfl rfl au) (jO ?_)
   refine jN ⟨(js2 (jC (Eq.symm (by simp [*]))) rfl), rfl⟩
  refine jM ?_
  refine jk (Run.fieldAddr rfl zay rfl zj jd) ?_
  refine jk (Run.load rfl zn (hb1.cell 1)) ?_
  refine jk (Run.bin rfl rfl (Bin.gtr _ 1439)) ?_
  by_cases hs17 : 1439 < b
  ·
   refine je (Run.pickF rfl rfl au) (jM ?_)
   refine jU ?_
   refine jU ?_
   refine jU ?_
   refine je (Run.pickT rfl rfl au) (jM ?_)
   refine jU ?_
   refine jU ?_
   refine jU ?_
   refine je (Run.pickT rfl rfl au) (jO ?_)
   refine jN ⟨(js2 (jC (Eq.symm (by simp [*]))) rfl), rfl⟩
  refine je (Run.pickF rfl rfl au) (jM ?_)
  refine jk (Run.fieldAddr rfl zay rfl zdk jd) ?_
  refine jk (Run.load rfl zdz (hb1.cell 0)) ?_
  refine jk (Run.bin rfl rfl (Bin.lss _ (-100000000000))) ?_
  by_cases hs22 : a < -100000000000
  ·
   refine je (Run.pickF rfl rfl au) (jM ?_)
   refine jU ?_
   refine jU ?_
   refine jU ?_
   refine je (Run.pickT rfl rfl au) (jO ?_)
   refine jN ⟨(js2 (jC (Eq.symm (by simp [*]))) rfl), rfl⟩
  refine je (Run.pickF rfl rfl au) (jM ?_)
  refine jk (Run.fieldAddr rfl zay rfl zdk jd) ?_
  refine jk (Run.load rfl zdz (hb1.cell 0)) ?_
  refine jk (Run.bin rfl rfl (Bin.gtr _ 1000000000000)) ?_
  by_cases hs27 : 1000000000000 < a
  ·
   refine je (Run.pickF rfl rfl au) (jO ?_)
   refine jN ⟨(js2 (jC (Eq.symm (by simp [*]))) rfl), rfl⟩
  refine je (Run.pickF rfl rfl au) (jO ?_)
  refine jN ⟨(js2 (jC (Eq.symm (by simp [*]))) rfl), rfl⟩
 intro Γ hΓ
 refine jN (VC.sub _ hΓ ?_)
 refine jD rfl (fun hc1 => ?_) fun hc1 => ?_
 ·
  refine jS (jR (jz 0 (jz 0 (ja rfl (jO (jN (jv3 2 3 4 ?_)))))))
  refine jT ?_
  refine qZ (sU rfl rfl rfl ?_)
  exact ⟨by rw [show hX a b = (0, 0, false) from if_pos hc1]; rfl, hf1⟩
 have e0 : a + b * 60 = a + 60 * b := jo
 generalize hx : a + 60 * b = x at *
 have e1 := Int.tmod_add_mul_tdiv x 86400
 have e2 := Int.tmod_lt_of_pos x (b := 86400) jd
 have e3 := Int.lt_tmod_of_pos x (b := 86400) jd
 have hcv : hX a b = (x / 86400, x % 86400, decide (dV a b)) := by rw [← hx]; exact if_neg hc1
 refine jQ (jN (jv1 1 ?_))
 refine jS (jR (jf rfl zay rfl zdk (jl rfl zdz (hb1.cell 0) (jf rfl zay rfl zj (jl rfl zn (hb1.cell 1) (jb rfl rfl (Bin.mulZ _ 60 jo jo) (jb rfl rfl (Bin.addZ _ _ jo jo) ?_)))))))
 rw [e0]
 refine ja rfl (jO (jN (jv1 5 ?_)))
 refine jS (jR (jm rfl (jb rfl rfl (Bin.quoZ _ 86400 jo jo jo) (ja rfl (jO (jN (jv2 5 6 ?_)))))))
 refine jS (jR (jm rfl (jm rfl (jb rfl rfl (Bin.mulZ 86400 _ jo jo) (jb rfl rfl (Bin.subZ _ _ jo jo) (ja rfl (jO (jN (jv2 5 6 ?_)))))))))
 refine jS (jS (jR (jm rfl (jb rfl rfl (Bin.lss _ 0) (jO (jN (jv3 5 6 42 ?_)))))))
 refine VC.meet (σ := Unit) (fun s => [(5, .int .i64 (x % 86400)), (6, .int .i64 (x / 86400))]) (fun s wm => Frm [] w wm) ?_ ?_
 ·
  refine jD rfl (fun hc2 => ?_) fun hc2 => ?_
  ·
   refine jS (jR (jm rfl (jb rfl rfl (Bin.subZ _ 1 jo jo) (ja rfl (jO (jN (jv2 5 6 ?_)))))))
   refine jR (jm rfl (jb rfl rfl (Bin.addZ _ 86400 jo jo) (ja rfl (jO ?_))))
   refine jN ⟨(), (js2 (congrArg (fun z => some (Value.int .i64 z)) (jo : x - 86400 * x.tdiv 86400 + 86400 = x % 86400)) (congrArg (fun z => some (Value.int .i64 z)) (jo : x.tdiv 86400 - 1 = x / 86400))), ?_⟩
   exact hf1
  refine jQ ?_
  refine jN ⟨(), (js2 (congrArg (fun z => some (Value.int .i64 z)) (jo : x - 86400 * x.tdiv 86400 = x % 86400)) (congrArg (fun z => some (Value.int .i64 z)) (jo : x.tdiv 86400 = x / 86400))), ?_⟩
  exact hf1
 rintro _ w1 hf1 Γ hΓ
 refine jN (VC.sub _ hΓ (jS (jR (jM ?_))))
 refine Ops.cl (jE1 Tryz.call178) (uB (x / 86400) _) rfl ?_
 rintro e _ ⟨rfl, y, m, d, ok, rfl, hk⟩
 refine ⟨_, rfl, ?_⟩
 refine jm rfl (je (Run.extract rfl rfl) (je (Run.extract rfl rfl) (je (Run.extract rfl rfl) (je (Run.extract rfl rfl) (ja rfl (ja rfl (jA ?_)))))))
 refine ja rfl (jO (jN (jv3 5 6 10 ?_)))
 refine jS (jR (jm rfl (jm rfl (jm rfl (ja rfl (ja rfl (ja rfl (jO (jN (jv3 2 3 4 ?_))))))))))
 refine jT ?_
 refine sU rfl rfl rfl ?_
 refine ⟨?_, hf1⟩
 have hok : ok = decide (dV a b) := (qJe hk).trans (decide_eq_decide.2 (by rw [← hx]; exact nY jo jo))
 rw [hcv, hok]
 rfl
end
section
open Go.RowKit Go.Sort
theorem nG (c : UInt8) (w : World) : Calls Tryz.prog 164 #[.int .u8 ((c.toNat : Nat) : Int)] w fun e w' => e = .returned (.int .u8 (((low c).toNat : Nat) : Int)) ∧ w = w' := by
 refine VC.calls (nt := 12) (res := #[.tmp 2]) Tryz.func164 rfl Tryz.ntmps164 Tryz.results164 rfl ?_
 refine jS (jR ?_)
 refine jy .u8 0 ?_
 refine jO (jN (jv1 0 ?_))
 refine jS (jS ?_)
 refine VC.split1 [(0, _)] (js1 rfl) 8 (.bool (decide ((65 ≤ c.toNat) ∧ (c.toNat ≤ 90)))) ?_ ?_
 ·
  by_cases hs0 : 65 ≤ c.toNat
  ·
   refine jR (jm rfl (jb rfl rfl (Bin.leqN 65 _) (jM ?_)))
   refine jG ?_
   refine jk (Run.bin rfl rfl (Bin.leqN _ 90)) ?_
   refine je (Run.pickT rfl rfl au) (jO ?_)
   refine jN ⟨(js2 (by rw [oM hs0]; rfl) rfl), rfl⟩
  refine jR (jm rfl (jb rfl rfl (Bin.leqN 65 _) (jM ?_)))
  refine jU ?_
  refine jU ?_
  refine je (Run.pickF rfl rfl au) (jO ?_)
  refine jN ⟨(js2 (by rw [oN hs0]; rfl) rfl), rfl⟩
 intro Γ hΓ
 refine jN (VC.sub _ hΓ ?_)
 refine jD rfl (fun hc1 => ?_) fun hc1 => ?_
 ·
  refine jS (jR (jm rfl (jb rfl rfl (Bin.add_u8 _ 32 jo) (ja rfl (jO (jN (jv1 2 ?_)))))))
  refine jT ?_
  refine qZ (qN rfl ?_)
  exact ⟨by rw [dD, if_pos hc1], rfl⟩
 refine jQ (jN (jv1 0 ?_))
 refine jS (jR (jm rfl (ja rfl (jO (jN (jv1 2 ?_))))))
 refine jT ?_
 refine qN rfl ?_
 exact ⟨by rw [dD, if_neg hc1], rfl⟩
theorem oL (a b : Tx) (w : World) (ha : a.length ≤ 1000000) (hb : b.length ≤ 1000000) : Calls Tryz.prog 139 #[encStr a, encStr b] w fun e w' => e = .returned (.bool (decide (qT a = qT b))) ∧ qP w w' := by
 refine VC.calls (nt := 26) (res := #[.tmp 4]) Tryz.func139 rfl Tryz.ntmps139 Tryz.results139 rfl ?_
 refine jS (jR (ja rfl (jO (jN (jv2 0 1 ?_)))))
 refine jS (jS (jR (jm rfl (je (Run.lenT rfl zk) (jm rfl (je (Run.lenT rfl zk) (jb rfl rfl (Bin.neqN _ _) (jO (jN (jv3 0 1 10 ?_))))))))))
 refine jD rfl (fun hc1 => ?_) fun hc1 => ?_
 ·
  have hne : ¬ qT a = qT b := fun h => hc1 (by have := congrArg List.length h; simpa [dX] using this)
  refine jS (jR (ja rfl (jO (jN (jv1 4 ?_)))))
  refine jT ?_
  refine qZ (qN rfl ?_)
  exact ⟨by simp [hne], qP.refl _⟩
 have hll : a.length = b.length := Classical.not_not.1 hc1
 refine jQ (jN (jv2 0 1 ?_))
 refine jS (jS (jR (jz 0 (jO (jN (jB ?_))))))
 refine VC.loop (σ := Nat) (fun s => [(0, encStr a), (1, encStr b), (5, .int .i64 ((s : Nat) : Int))]) (fun s wr => s ≤ a.length ∧ qT (a.take s) = qT (b.take s) ∧ qP w wr) (fun s => a.length - s) 0 (js3 rfl rfl rfl) ⟨jo, rfl, qP.refl _⟩ ?_
 rintro i wr ⟨hi, htk, hd⟩
 refine jS (jS (jR (jm rfl (jm rfl (je (Run.lenT rfl zk) (jb rfl rfl (Bin.lssN _ _) (jO (jN (jv4 0 1 5 14 ?_)))))))))
 refine jD rfl (fun hc2 => ?_) fun hc2 => ?_
 ·
  have hib : i < b.length := jo
  have hta : a.take (i + 1) = a.take i ++ [a[i]] := dJ hc2
  have htb : b.take (i + 1) = b.take i ++ [b[i]] := dJ hib
  have hab : qT a = qT b → low a[i] = low b[i] := fun h => by
   have h1 : (qT a)[i]? = (qT b)[i]? := by rw [h]
   simpa [qT, zd, hc2, hib] using h1
  have hga : a[i]? = some a[i] := zd hc2
  have hgb : b[i]? = some b[i] := zd hib
  generalize a[i] = x at *
  generalize b[i] = y at *
  refine jQ (jN (jv3 0 1 5 ?_))
  refine jS (jB (jS ?_))
  refine VC.still jK jK ?_
  refine qM ?_
  refine qM ?_
  refine qE (Run.indexT _ rfl rfl zk hga) ?_
  refine bV.call (jE1 Tryz.call164) (nG x _) trivial rfl rfl ?_
  refine qM ?_
  refine qM ?_
  refine qE (Run.indexT _ rfl rfl zk hgb) ?_
  refine bV.call (jE1 Tryz.call164) (nG y _) trivial rfl rfl ?_
  refine qE (Run.bin rfl rfl (Bin.neqN _ _)) ?_
  refine bV.nil ?_
  refine jN (jv4 0 1 5 25 ?_)
  refine jD rfl (fun hc3 => ?_) fun hc3 => ?_
  ·
   have hne : ¬ qT a = qT b := fun h => hc3 (by rw [hab h])
   refine jS (jR (ja rfl (jO (jN (jv1 4 ?_)))))
   refine jT ?_
   refine qV (qZ (qZ (qV (qZ (qN rfl ?_)))))
   exact ⟨by simp [hne], hd.trans (qP.drew _)⟩
  have hxy : low x = low y := UInt8.toNat_inj.1 (Classical.not_not.1 hc3)
  refine jQ ?_
  refine qW (jN ?_)
  refine jv3 0 1 5 ?_
  refine jR (jm rfl (jb rfl rfl (Bin.add_i64 _ 1 jo) (ja rfl (jO ?_))))
  refine jN ⟨(i + 1), (js3 rfl rfl rfl), ?_, ?_⟩
  ·
   refine ⟨hc2, ?_, hd.trans (qP.drew _)⟩
   rw [hta, htb]
   show (_ ++ _ : Tx).map low = (_ ++ _ : Tx).map low
   rw [zbh, zbh]
   show qT _ ++ [low x] = qT _ ++ [low y]
   rw [htk, hxy]
  first | omega | (dsimp only; omega)
 have heq : qT a = qT b := by
  have hil : i = a.length := by omega
  subst hil
  rw [zaq, hll, zaq] at htk
  exact htk
 refine jX ?_
 refine qJ (qJ (qR ?_))
 refine jN ?_
 refine VC.sub [] .nil ?_
 refine jS (jR (ja rfl (jO (jN (jT ?_)))))
 refine qN rfl ?_
 exact ⟨by simp [heq], hd⟩
theorem qKp {c : UInt8} (h : low c = 92) : c = 92 := by
 have h1 := congrArg UInt8.toNat h
 rw [dD] at h1
 apply UInt8.toNat_inj.1
 have e : (92 : UInt8).toNat = 92 := rfl
 rw [e] at h1 ⊢
 split at h1 <;> omega
theorem uC {q f : Tx} (hf : f ∈ bP) (h : qT f = qT q) : ([92] : Tx).isPrefixOf q = true := by
 have h0 : (qT f)[0]? = some 92 := by
  have key : ∀ f ∈ bP, (qT f)[0]? = some 92 := jd
  exact key f hf
 rw [h] at h0
 cases q with
 | nil => cases h0
 | cons c r =>
  simp only [qT, zby, List.getElem?_cons_zero, Option.some.injEq] at h0
  rw [qKp h0]
  simp [List.isPrefixOf]
theorem zF {q : Tx} {i : Nat} (hi : i < bP.length) (hn : ∀ f ∈ bP.take i, qT q ≠ qT f) (h : qT q = qT bP[i]) : bL q = (bP[i], 0) := by
 unfold bL bH
 rw [if_pos (uC (zw hi) h.symm), vF hi (fun f hf e => hn f hf e.symm) h.symm]
theorem qXs {q : Tx} (hn : ∀ f ∈ bP, qT q ≠ qT f) {c : UInt8} (hc : c ∈ q) (hs : ¬ qF (low c).toNat) : bL q = ([], 18) := by
 unfold bL bH
 split
 ·
  rename_i h
  split at h
  · rw [List.find?_eq_none.2 (fun f hf => by simpa using fun e => hn f hf e.symm)] at h; cases h
  rw [if_pos (.inr (.inr ⟨low c, List.mem_map.2 ⟨c, hc, rfl⟩, hs⟩))] at h; cases h
 rfl
theorem mK {q : Tx} (hs : ∀ c ∈ q, qF (low c).toNat) : ¬ ([92] : Tx).isPrefixOf q = true := by
 intro h
 cases q with
 | nil => simp at h
 | cons c r =>
  simp [List.isPrefixOf] at h
  have := hs c jp
  rw [← h] at this
  exact absurd this jd
theorem zA {q : Tx} (hs : ∀ c ∈ q, qF (low c).toNat) (hl : 20 < q.length) : bL q = ([], 18) := by
 unfold bL bH
 rw [if_neg (mK hs), if_pos (.inr (.inl hl))]
theorem zI {q : Tx} (hs : ∀ c ∈ q, qF (low c).toNat) (hl : ¬ 20 < q.length) : (bL q).1 = qT q := by
 unfold bL bH
 rw [if_neg (mK hs)]
 by_cases h : qT q = []
 · rw [if_pos (.inl h), h]
 rw [if_neg]
 rintro (h1 | h1 | ⟨c, hc, h1⟩)
 · exact h h1
 · exact hl h1
 obtain ⟨d, hd, rfl⟩ := List.mem_map.1 hc
 exact h1 (hs d hd)
theorem xF (q : Tx) (w : World) (hq : q.length ≤ 1000000) : Calls Tryz.prog 192 #[encStr q] w fun e w' => e = .returned (encStr (bL q).1) ∧ Frm [] w w' := by
 refine VC.calls (nt := 80) (res := #[.tmp 2]) Tryz.func192 rfl Tryz.ntmps192 Tryz.results192 rfl ?_
 refine jS (jR (ja rfl (jO (jN (jv1 0 ?_)))))
 refine jS (jR ?_)
 refine Ops.m (qK.buildN (cells := (SB bP).toArray) (evs.cons rfl (evs.cons rfl (evs.cons rfl (evs.cons rfl (evs.cons rfl evs.nil))))) zg zo eT rfl rfl jK) rfl ?_
 rintro _ w1 ⟨rfl, hF1⟩
 have hr1 : Rd w1 1 (some ⟨w.heap.size, 0, none⟩) bP.length (SB bP) := Rd.of_blk (n := 5) (size := 1) hF1.blk rfl
 have hf1 := hF1.frm
 generalize w.heap.size = g1 at *
 refine ja rfl (jO (jN (jv2 0 3 ?_)))
 refine jS (jS (jR (jz 0 (jO (jN (jB ?_))))))
 refine VC.loop (σ := Nat) (fun s => [(0, encStr q), (3, .slice (some ⟨g1, 0, none⟩) 5 5), (4, .int .i64 ((s : Nat) : Int))]) (fun s wr => s ≤ 5 ∧ Frm [] w1 wr ∧ ∀ f ∈ bP.take s, qT q ≠ qT f) (fun s => 5 - s) 0 (js3 rfl rfl rfl) ⟨jo, Frm.refl _ _, jp⟩ ?_
 rintro i wr ⟨hi, hfr, hn⟩
 refine jS (jS (jR (jm rfl (jb rfl rfl (Bin.lssN _ 5) (jO (jN (jv4 0 3 4 10 ?_)))))))
 refine jD rfl (fun hc1 => ?_) fun hc1 => ?_
 ·
  have hi5 : i < bP.length := hc1
  obtain ⟨ad, hA, hcell⟩ := eS (hr1.frm hfr jp) hi5
  cases hA
  refine jQ (jN (jv3 0 3 4 ?_))
  refine jS (jB (jS (jR (jm rfl (jm rfl (jm rfl (je (Run.index1 i rfl rfl zg zo hc1) (jl rfl zx hcell ?_))))))))
  refine Ops.cl (jE2 Tryz.call139) (oL q bP[i] _ hq (by have := gV (kE _ (zw hi5)); omega)) rfl ?_
  rintro e w2 ⟨rfl, hd2⟩
  refine ⟨_, rfl, ?_⟩
  have hfr2 := hfr.drawn hd2
  refine jO (jN (jv4 0 3 4 18 ?_))
  refine VC.condB rfl (fun hc2 => ?_) (fun hc2 => ?_)
  ·
   obtain ⟨ad2, hA2, hcell2⟩ := eS (hr1.frm hfr2 jp) hi5
   cases hA2
   refine jS (jR (jm rfl (jm rfl (je (Run.index1 i rfl rfl zg zo hc1) (jl rfl zx hcell2 (ja rfl (jO (jN (jv1 2 ?_)))))))))
   refine jT ?_
   refine qV (qZ (qZ (qV (qZ (qN rfl ?_)))))
   exact ⟨by rw [zF hi5 hn (of_decide_eq_true hc2)], hf1.trans hfr2 jp⟩
  refine jQ ?_
  refine qW (jN ?_)
  refine jv3 0 3 4 ?_
  refine jR (jm rfl (jb rfl rfl (Bin.add_i64 _ 1 jo) (ja rfl (jO ?_))))
  refine jN ⟨(i + 1), (js3 rfl rfl rfl), ?_, ?_⟩
  ·
   refine ⟨hc1, hfr2, fun f hf => ?_⟩
   rw [dJ hi5] at hf
   rcases zfb.1 hf with h | h
   · exact hn f h
   simp only [zc] at h
   rw [h]; exact of_decide_eq_false (by simpa using hc2)
  first | omega | (dsimp only; omega)
 refine jX ?_
 refine qJ (qJ (qR ?_))
 refine jN (jv1 0 ?_)
 refine jS (jR (ja rfl (jO (jN (jS (jS (jR (jz 0 (jO (jN (jB ?_)))))))))))
 have hn5 : ∀ f ∈ bP, qT q ≠ qT f := by
  have him : i = 5 := jo
  subst him
  exact hn
 refine VC.loop (σ := Nat) (fun s => [(0, encStr q), (5, encStr (qT (q.take s))), (6, .int .i64 ((s : Nat) : Int))]) (fun s wr => s ≤ q.length ∧ Frm [] w wr ∧ ∀ c ∈ q.take s, qF (low c).toNat) (fun s => q.length - s) 0 (js3 rfl rfl rfl) ⟨jo, hf1.trans hfr jp, jp⟩ ?_
 rintro j wr ⟨hj, hfr, hsg⟩
 refine jS (jS (jR (jm rfl (jm rfl (je (Run.lenT rfl zk) (jb rfl rfl (Bin.lssN _ _) (jO (jN (jv4 0 5 6 26 ?_)))))))))
 refine jD rfl (fun hc3 => ?_) fun hc3 => ?_
 ·
  have hgq : q[j]? = some q[j] := zd hc3
  have htq : q.take (j + 1) = q.take j ++ [q[j]] := dJ hc3
  have hmq : q[j] ∈ q := zw hc3
  generalize q[j] = c at *
  refine jQ (jN (jv3 0 5 6 ?_))
  refine jS (jB (jS (jR (jm rfl (jm rfl (je (Run.indexT _ rfl rfl zk hgq) (ja rfl (jO (jN (jv4 0 5 6 7 ?_))))))))))
  refine jS (jS ?_)
  refine VC.split1 [(0, _), (5, _), (6, _), (7, _)] (js4 rfl rfl rfl rfl) 37 (.bool (decide ((65 ≤ c.toNat) ∧ (c.toNat ≤ 90)))) ?_ ?_
  ·
   by_cases hs0 : 65 ≤ c.toNat
   ·
    refine jR (jm rfl (jb rfl rfl (Bin.leqN 65 _) (jM ?_)))
    refine jG ?_
    refine jk (Run.bin rfl rfl (Bin.leqN _ 90)) ?_
    refine je (Run.pickT rfl rfl au) (jO ?_)
    refine jN ⟨(js5 (by rw [oM hs0]; rfl) rfl rfl rfl rfl), rfl⟩
   refine jR (jm rfl (jb rfl rfl (Bin.leqN 65 _) (jM ?_)))
   refine jU ?_
   refine jU ?_
   refine je (Run.pickF rfl rfl au) (jO ?_)
   refine jN ⟨(js5 (by rw [oN hs0]; rfl) rfl rfl rfl rfl), rfl⟩
  intro Γ hΓ
  refine jN (VC.sub _ hΓ ?_)
  refine VC.meet (σ := Unit) (fun s => [(0, encStr q), (5, encStr (qT (q.take j))), (6, .int .i64 ((j : Nat) : Int)), (7, .int .u8 (((low c).toNat : Nat) : Int))]) (fun s wm => wr = wm) ?_ ?_
  ·
   refine jD rfl (fun hc4 => ?_) fun hc4 => ?_
   ·
    refine jR (jm rfl (jb rfl rfl (Bin.add_u8 _ 32 jo) (ja rfl (jO ?_))))
    refine jN ⟨(), (js4 rfl rfl rfl (by rw [dD, if_pos hc4]; rfl)), ?_⟩
    rfl
   refine jQ ?_
   refine jN ⟨(), (js4 rfl rfl rfl (by rw [dD, if_neg hc4]; rfl)), ?_⟩
   rfl
  rintro _ _ rfl Γ hΓ
  refine jN (VC.sub _ hΓ (jS (jS ?_)))
  refine VC.split1 [(0, _), (5, _), (6, _), (7, _)] (js4 rfl rfl rfl rfl) 70 (.bool (decide (¬ qF (low c).toNat))) ?_ ?_
  ·
   refine jR ?_
   refine jm rfl (jb rfl rfl (Bin.leqN 97 _) ?_)
   by_cases hs41 : 97 ≤ (low c).toNat
   ·
    refine jM ?_
    refine jG ?_
    refine jk (Run.bin rfl rfl (Bin.leqN _ 122)) ?_
    by_cases hs44 : (low c).toNat ≤ 122
    ·
     refine je (Run.pickT rfl rfl au) (jM ?_)
     refine jU ?_
     refine jU ?_
     refine jU ?_
     refine Ops.skU rfl rfl ?_
     refine Ops.skU rfl rfl ?_
     refine jU ?_
     refine je (Run.pickT rfl rfl au) (jM ?_)
     refine jU ?_
     refine jU ?_
     refine je (Run.pickT rfl rfl au) (jM ?_)
     refine jU ?_
     refine jU ?_
     refine je (Run.pickT rfl rfl au) (jM ?_)
     refine jU ?_
     refine jU ?_
     refine je (Run.pickT rfl rfl au) (jM ?_)
     refine jU ?_
     refine jU ?_
     refine je (Run.pickT rfl rfl au) (je (Run.not rfl) (jO ?_))
     refine jN ⟨(js5 (jC (Eq.symm (by unfold qF; grind))) rfl rfl rfl rfl), rfl⟩
    refine je (Run.pickT rfl rfl au) (jM ?_)
    refine jG ?_
    refine jk (Run.bin rfl rfl (Bin.leqN 48 _)) ?_
    by_cases hs48 : 48 ≤ (low c).toNat
    ·
     refine jG ?_
     refine jG ?_
     refine jk (Run.bin rfl rfl (Bin.leqN _ 57)) ?_
     by_cases hs51 : (low c).toNat ≤ 57
     ·
      refine jk (Run.pickT rfl rfl au) ?_
      refine je (Run.pickF rfl rfl au) (jM ?_)
      refine jU ?_
      refine jU ?_
      refine je (Run.pickT rfl rfl au) (jM ?_)
      refine jU ?_
      refine jU ?_
      refine je (Run.pickT rfl rfl au) (jM ?_)
      refine jU ?_
      refine jU ?_
      refine je (Run.pickT rfl rfl au) (jM ?_)
      refine jU ?_
      refine jU ?_
      refine je (Run.pickT rfl rfl au) (je (Run.not rfl) (jO ?_))
      refine jN ⟨(js5 (jC (Eq.symm (by unfold qF; grind))) rfl rfl rfl rfl), rfl⟩
     refine jk (Run.pickT rfl rfl au) ?_
     refine je (Run.pickF rfl rfl au) (jM ?_)
     refine jG ?_
     refine jk (Run.bin rfl rfl (Bin.eqlN _ 36)) ?_
     by_cases hs56 : (low c).toNat = 36
     ·
      refine je (Run.pickF rfl rfl au) (jM ?_)
      refine jU ?_
      refine jU ?_
      refine je (Run.pickT rfl rfl au) (jM ?_)
      refine jU ?_
      refine jU ?_
      refine je (Run.pickT rfl rfl au) (jM ?_)
      refine jU ?_
      refine jU ?_
      refine je (Run.pickT rfl rfl au) (je (Run.not rfl) (jO ?_))
      refine jN ⟨(js5 (jC (Eq.symm (by unfold qF; grind))) rfl rfl rfl rfl), rfl⟩
     refine je (Run.pickF rfl rfl au) (jM ?_)
     refine jG ?_
     refine jk (Run.bin rfl rfl (Bin.eqlN _ 45)) ?_
     by_cases hs60 : (low c).toNat = 45
     ·
      refine je (Run.pickF rfl rfl au) (jM ?_)
      refine jU ?_
      refine jU ?_
      refine je (Run.pickT rfl rfl au) (jM ?_)
      refine jU ?_
      refine jU ?_
      refine je (Run.pickT rfl rfl au) (je (Run.not rfl) (jO ?_))
      refine jN ⟨(js5 (jC (Eq.symm (by unfold qF; grind))) rfl rfl rfl rfl), rfl⟩
     refine je (Run.pickF rfl rfl au) (jM ?_)
     refine jG ?_
     refine jk (Run.bin rfl rfl (Bin.eqlN _ 46)) ?_
     by_cases hs64 : (low c).toNat = 46
     ·
      refine je (Run.pickF rfl rfl au) (jM ?_)
      refine jU ?_
      refine jU ?_
      refine je (Run.pickT rfl rfl au) (je (Run.not rfl) (jO ?_))
      refine jN ⟨(js5 (jC (Eq.symm (by unfold qF; grind))) rfl rfl rfl rfl), rfl⟩
     refine je (Run.pickF rfl rfl au) (jM ?_)
     refine jG ?_
     refine jk (Run.bin rfl rfl (Bin.eqlN _ 95)) ?_
     by_cases hs68 : (low c).toNat = 95
     ·
      refine je (Run.pickF rfl rfl au) (je (Run.not rfl) (jO ?_))
      refine jN ⟨(js5 (jC (Eq.symm (by unfold qF; grind))) rfl rfl rfl rfl), rfl⟩
     refine je (Run.pickF rfl rfl au) (je (Run.not rfl) (jO ?_))
     refine jN ⟨(js5 (jC (Eq.symm (by unfold qF; grind))) rfl rfl rfl rfl), rfl⟩
    refine jG ?_
    refine jU ?_
    refine jU ?_
    refine jk (Run.pickF rfl rfl au) ?_
    refine je (Run.pickF rfl rfl au) (jM ?_)
    refine jG ?_
    refine jk (Run.bin rfl rfl (Bin.eqlN _ 36)) ?_
    by_cases hs56 : (low c).toNat = 36
    ·
     refine je (Run.pickF rfl rfl au) (jM ?_)
     refine jU ?_
     refine jU ?_
     refine je (Run.pickT rfl rfl au) (jM ?_)
     refine jU ?_
     refine jU ?_
     refine je (Run.pickT rfl rfl au) (jM ?_)
     refine jU ?_
     refine jU ?_
     refine je (Run.pickT rfl rfl au) (je (Run.not rfl) (jO ?_))
     refine jN ⟨(js5 (jC (Eq.symm (by unfold qF; grind))) rfl rfl rfl rfl), rfl⟩
    refine je (Run.pickF rfl rfl au) (jM ?_)
    refine jG ?_
    refine jk (Run.bin rfl rfl (Bin.eqlN _ 45)) ?_
    by_cases hs60 : (low c).toNat = 45
    ·
     refine je (Run.pickF rfl rfl au) (jM ?_)
     refine jU ?_
     refine jU ?_
     refine je (Run.pickT rfl rfl au) (jM ?_)
     refine jU ?_
     refine jU ?_
     refine je (Run.pickT rfl rfl au) (je (Run.not rfl) (jO ?_))
     refine jN ⟨(js5 (jC (Eq.symm (by unfold qF; grind))) rfl rfl rfl rfl), rfl⟩
    refine je (Run.pickF rfl rfl au) (jM ?_)
    refine jG ?_
    refine jk (Run.bin rfl rfl (Bin.eqlN _ 46)) ?_
    by_cases hs64 : (low c).toNat = 46
    ·
     refine je (Run.pickF rfl rfl au) (jM ?_)
     refine jU ?_
     refine jU ?_
     refine je (Run.pickT rfl rfl au) (je (Run.not rfl) (jO ?_))
     refine jN ⟨(js5 (jC (Eq.symm (by unfold qF; grind))) rfl rfl rfl rfl), rfl⟩
    refine je (Run.pickF rfl rfl au) (jM ?_)
    refine jG ?_
    refine jk (Run.bin rfl rfl (Bin.eqlN _ 95)) ?_
    by_cases hs68 : (low c).toNat = 95
    ·
     refine je (Run.pickF rfl rfl au) (je (Run.not rfl) (jO ?_))
     refine jN ⟨(js5 (jC (Eq.symm (by unfold qF; grind))) rfl rfl rfl rfl), rfl⟩
    refine je (Run.pickF rfl rfl au) (je (Run.not rfl) (jO ?_))
    refine jN ⟨(js5 (jC (Eq.symm (by unfold qF; grind))) rfl rfl rfl rfl), rfl⟩
   refine jM ?_
   refine jU ?_
   refine jU ?_
   refine je (Run.pickF rfl rfl au) (jM ?_)
   refine jG ?_
   refine jk (Run.bin rfl rfl (Bin.leqN 48 _)) ?_
   by_cases hs48 : 48 ≤ (low c).toNat
   ·
    refine jG ?_
    refine jG ?_
    refine jk (Run.bin rfl rfl (Bin.leqN _ 57)) ?_
    by_cases hs51 : (low c).toNat ≤ 57
    ·
     refine jk (Run.pickT rfl rfl au) ?_
     refine je (Run.pickF rfl rfl au) (jM ?_)
     refine jU ?_
     refine jU ?_
     refine je (Run.pickT rfl rfl au) (jM ?_)
     refine jU ?_
     refine jU ?_
     refine je (Run.pickT rfl rfl au) (jM ?_)
     refine jU ?_
     refine jU ?_
     refine je (Run.pickT rfl rfl au) (jM ?_)
     refine jU ?_
     refine jU ?_
     refine je (Run.pickT rfl rfl au) (je (Run.not rfl) (jO ?_))
     refine jN ⟨(js5 (jC (Eq.symm (by unfold qF; grind))) rfl rfl rfl rfl), rfl⟩
    refine jk (Run.pickT rfl rfl au) ?_
    refine je (Run.pickF rfl rfl au) (jM ?_)
    refine jG ?_
    refine jk (Run.bin rfl rfl (Bin.eqlN _ 36)) ?_
    by_cases hs56 : (low c).toNat = 36
    ·
     refine je (Run.pickF rfl rfl au) (jM ?_)
     refine jU ?_
     refine jU ?_
     refine je (Run.pickT rfl rfl au) (jM ?_)
     refine jU ?_
     refine jU ?_
     refine je (Run.pickT rfl rfl au) (jM ?_)
     refine jU ?_
     refine jU ?_
     refine je (Run.pickT rfl rfl au) (je (Run.not rfl) (jO ?_))
     refine jN ⟨(js5 (jC (Eq.symm (by unfold qF; grind))) rfl rfl rfl rfl), rfl⟩
    refine je (Run.pickF rfl rfl au) (jM ?_)
    refine jG ?_
    refine jk (Run.bin rfl rfl (Bin.eqlN _ 45)) ?_
    by_cases hs60 : (low c).toNat = 45
    ·
     refine je (Run.pickF rfl rfl au) (jM ?_)
     refine jU ?_
     refine jU ?_
     refine je (Run.pickT rfl rfl au) (jM ?_)
     refine jU ?_
     refine jU ?_
     refine je (Run.pickT rfl rfl au) (je (Run.not rfl) (jO ?_))
     refine jN ⟨(js5 (jC (Eq.symm (by unfold qF; grind))) rfl rfl rfl rfl), rfl⟩
    refine je (Run.pickF rfl rfl au) (jM ?_)
    refine jG ?_
    refine jk (Run.bin rfl rfl (Bin.eqlN _ 46)) ?_
    by_cases hs64 : (low c).toNat = 46
    ·
     refine je (Run.pickF rfl rfl au) (jM ?_)
     refine jU ?_
     refine jU ?_
     refine je (Run.pickT rfl rfl au) (je (Run.not rfl) (jO ?_))
     refine jN ⟨(js5 (jC (Eq.symm (by unfold qF; grind))) rfl rfl rfl rfl), rfl⟩
    refine je (Run.pickF rfl rfl au) (jM ?_)
    refine jG ?_
    refine jk (Run.bin rfl rfl (Bin.eqlN _ 95)) ?_
    by_cases hs68 : (low c).toNat = 95
    ·
     refine je (Run.pickF rfl rfl au) (je (Run.not rfl) (jO ?_))
     refine jN ⟨(js5 (jC (Eq.symm (by unfold qF; grind))) rfl rfl rfl rfl), rfl⟩
    refine je (Run.pickF rfl rfl au) (je (Run.not rfl) (jO ?_))
    refine jN ⟨(js5 (jC (Eq.symm (by unfold qF; grind))) rfl rfl rfl rfl), rfl⟩
   refine jG ?_
   refine jU ?_
   refine jU ?_
   refine jk (Run.pickF rfl rfl au) ?_
   refine je (Run.pickF rfl rfl au) (jM ?_)
   refine jG ?_
   refine jk (Run.bin rfl rfl (Bin.eqlN _ 36)) ?_
   by_cases hs56 : (low c).toNat = 36
   ·
    refine je (Run.pickF rfl rfl au) (jM ?_)
    refine jU ?_
    refine jU ?_
    refine je (Run.pickT rfl rfl au) (jM ?_)
    refine jU ?_
    refine jU ?_
    refine je (Run.pickT rfl rfl au) (jM ?_)
    refine jU ?_
    refine jU ?_
    refine je (Run.pickT rfl rfl au) (je (Run.not rfl) (jO ?_))
    refine jN ⟨(js5 (jC (Eq.symm (by unfold qF; grind))) rfl rfl rfl rfl), rfl⟩
   refine je (Run.pickF rfl rfl au) (jM ?_)
   refine jG ?_
   refine jk (Run.bin rfl rfl (Bin.eqlN _ 45)) ?_
   by_cases hs60 : (low c).toNat = 45
   ·
    refine je (Run.pickF rfl rfl au) (jM ?_)
    refine jU ?_
    refine jU ?_
    refine je (Run.pickT rfl rfl au) (jM ?_)
    refine jU ?_
    refine jU ?_
    refine je (Run.pickT rfl rfl au) (je (Run.not rfl) (jO ?_))
    refine jN ⟨(js5 (jC (Eq.symm (by unfold qF; grind))) rfl rfl rfl rfl), rfl⟩
   refine je (Run.pickF rfl rfl au) (jM ?_)
   refine jG ?_
   refine jk (Run.bin rfl rfl (Bin.eqlN _ 46)) ?_
   by_cases hs64 : (low c).toNat = 46
   ·
    refine je (Run.pickF rfl rfl au) (jM ?_)
    refine jU ?_
    refine jU ?_
    refine je (Run.pickT rfl rfl au) (je (Run.not rfl) (jO ?_))
    refine jN ⟨(js5 (jC (Eq.symm (by unfold qF; grind))) rfl rfl rfl rfl), rfl⟩
   refine je (Run.pickF rfl rfl au) (jM ?_)
   refine jG ?_
   refine jk (Run.bin rfl rfl (Bin.eqlN _ 95)) ?_
   by_cases hs68 : (low c).toNat = 95
   ·
    refine je (Run.pickF rfl rfl au) (je (Run.not rfl) (jO ?_))
    refine jN ⟨(js5 (jC (Eq.symm (by unfold qF; grind))) rfl rfl rfl rfl), rfl⟩
   refine je (Run.pickF rfl rfl au) (je (Run.not rfl) (jO ?_))
   refine jN ⟨(js5 (jC (Eq.symm (by unfold qF; grind))) rfl rfl rfl rfl), rfl⟩
  intro Γ hΓ
  refine jN (VC.sub _ hΓ ?_)
  refine jD rfl (fun hc5 => ?_) fun hc5 => ?_
  ·
   refine jS (jR (ja rfl (jO (jN (jv1 2 ?_)))))
   refine jT ?_
   refine qZ (qV (qZ (qZ (qV (qZ (qN rfl ?_))))))
   exact ⟨by rw [qXs hn5 hmq hc5], hfr⟩
  refine jQ (jN (jv4 0 5 6 7 ?_))
  refine jR (jm rfl (jM ?_))
  refine Ops.m (qK.buildS1 rfl zaj zbv wL jd jd rfl rfl) rfl ?_
  rintro _ w3 ⟨rfl, hF3⟩
  have hfr3 := hfr.trans hF3.frm jp
  have hsc : qF (low c).toNat := Classical.not_not.1 hc5
  refine je (Run.strOfT rfl zaj zbe zk (show Rd w3 1 _ 1 (U8 [low c]) from Rd.of_blk (n := 1) (size := 1) hF3.blk rfl)) (je (Run.addT rfl rfl (by simp [qT]; omega)) (ja rfl (jO ?_)))
  refine qW (jN ?_)
  refine jv3 0 5 6 ?_
  refine jR (jm rfl (jb rfl rfl (Bin.add_i64 _ 1 jo) (ja rfl (jO ?_))))
  refine jN ⟨(j + 1), (js3 rfl (by rw [htq]; simp only [qT, zbh, zby, zdr]; rfl) rfl), ?_, ?_⟩
  ·
   refine ⟨hc3, hfr3, fun d hd => ?_⟩
   rw [htq] at hd
   rcases zfb.1 hd with h | h
   · exact hsg d h
   simp only [zc] at h
   rw [h]; exact hsc
  first | omega | (dsimp only; omega)
 have hjm : j = q.length := jo
 subst hjm
 rw [zaq] at hsg ⊢
 refine jX ?_
 refine qJ (qJ (qR ?_))
 refine jN (jv1 5 ?_)
 refine jS (jS (jR (jm rfl (je (Run.lenT rfl zk) (jb rfl rfl (Bin.gtrN _ 20) ?_)))))
 rw [dX]
 refine jO (jN (jv2 5 78 ?_))
 refine jD rfl (fun hc6 => ?_) fun hc6 => ?_
 ·
  refine jS (jR (ja rfl (jO (jN (jv1 2 ?_)))))
  refine jT ?_
  refine qZ (qN rfl ?_)
  exact ⟨by rw [zA hsg hc6], hfr⟩
 refine jQ (jN (jv1 5 ?_))
 refine jS (jR (jm rfl (ja rfl (jO (jN (jv1 2 ?_))))))
 refine jT ?_
 refine qN rfl ?_
 exact ⟨by rw [zI hsg hc6], hfr⟩
end
section
open Go.RowKit Go.Sort
theorem rI {p : Tx → Bool} {l : List Tx} {i : Nat} (h : i < l.length) : (l.take (i + 1)).filter p = (l.take i).filter p ++ (if p l[i] = true then [l[i]] else []) := by
 rw [dJ h, zcl]
 by_cases hp : p l[i] = true <;> simp [hp]
theorem vA {p : Tx → Bool} (l : List Tx) (i : Nat) : ((l.take i).filter p).length ≤ l.length := by
 refine zbc (zdj _ _) ?_
 simp
 omega
theorem qXt (A : Option Addr) (c0 : Nat) (l : List Tx) (q : Tx) (w : World) (hn : l.length ≤ 1000000) (hr : Rd w 1 A l.length (SB l)) :
  Calls Tryz.prog 193 #[.slice A l.length c0, encStr q] w fun e w' => Frm [] w w' ∧ ∃ B d, e = .returned (.slice B (gH l q).length d) ∧ Own w' 9 1 B (gH l q).length d (SB (gH l q)) ∧ (∀ x ∈ ob B, w.heap.size ≤ x) := by
 refine VC.calls (nt := 51) (res := #[.tmp 4]) Tryz.func193 rfl Tryz.ntmps193 Tryz.results193 rfl ?_
 refine jS (jR (ja rfl (jO (jN (jv2 0 1 ?_)))))
 refine jS (jR (ja rfl (jO (jN (jS (jS (jR (jz 0 (jO (jN (jB ?_)))))))))))
 refine VC.loop (σ := Nat × Option Addr × Nat) (fun s => [(0, .slice A l.length c0), (1, encStr q), (5, .slice s.2.1 ((l.take s.1).filter (fun x => decide (x < q))).length s.2.2), (6, .int .i64 ((s.1 : Nat) : Int))]) (fun s wr => s.1 ≤ l.length ∧ Own wr 9 1 s.2.1 ((l.take s.1).filter (fun x => decide (x < q))).length s.2.2 (SB ((l.take s.1).filter (fun x => decide (x < q)))) ∧ (∀ x ∈ ob s.2.1, w.heap.size ≤ x) ∧ Frm [] w wr) (fun s => l.length - s.1) (0, none, 0) (js4 rfl rfl rfl rfl) ⟨jo, Own.nil _ _ _, by simp [ob], Frm.refl _ _⟩ ?_
 rintro ⟨i, B, d⟩ wr ⟨hi, hown, hge, hfr⟩
 dsimp only at hi hown hge ⊢
 have hfl := vA (p := fun x => decide (x < q)) l i
 refine jS (jS (jR (jm rfl (jm rfl (je (Run.lenS rfl zg) (jb rfl rfl (Bin.lssN _ _) (jO (jN (jv5 0 1 5 6 11 ?_)))))))))
 refine jD rfl (fun hc1 => ?_) fun hc1 => ?_
 ·
  obtain ⟨ad, rfl, hcell⟩ := eS (hr.frm hfr jp) hc1
  have hfs := rI (p := fun x => decide (x < q)) hc1
  have hgl : l[i] = l[i] := rfl
  generalize hq0 : l[i] = x at *
  refine jQ (jN (jv4 0 1 5 6 ?_))
  refine jS (jB (jS (jR (jm rfl (jm rfl (je (Run.index1 i rfl rfl zg zo hc1) (jl rfl zx hcell (jm rfl (je (Run.lssT rfl rfl) (jO (jN (jv5 0 1 5 6 19 ?_))))))))))))
  refine VC.meet (σ := Option Addr × Nat) (fun s => [(0, .slice (some ad) l.length c0), (1, encStr q), (5, .slice s.1 ((l.take (i + 1)).filter (fun x => decide (x < q))).length s.2), (6, .int .i64 ((i : Nat) : Int))]) (fun s wm => Own wm 9 1 s.1 ((l.take (i + 1)).filter (fun x => decide (x < q))).length s.2 (SB ((l.take (i + 1)).filter (fun x => decide (x < q)))) ∧ (∀ x ∈ ob s.1, w.heap.size ≤ x) ∧ Frm [] w wm) ?_ ?_
  ·
   refine jD rfl (fun hc2 => ?_) fun hc2 => ?_
   ·
    refine jR (jm rfl (jm rfl (jm rfl (je (Run.index1 i rfl rfl zg zo hc1) (jl rfl zx hcell ?_)))))
    refine Ops.m (qK.buildS1 rfl zg zo eT jd jd rfl rfl) rfl ?_
    rintro _ w2 ⟨rfl, hF2⟩
    have hfr2 := hfr.trans hF2.frm jp
    refine Ops.m (qK.app rfl rfl zg (gX) rfl jd (hown.frm hF2.frm jp) (tX hF2) (eH _) jo jo) rfl ?_
    rintro _ w3 ⟨A3, c3, rfl, hown3, hfr3, hob3⟩
    rw [← cV] at hown3
    have hge3 := gK hge hob3 hfr2.size
    have hfr3' := hfr2.own hfr3 hge
    refine ja rfl (jO ?_)
    refine jN ⟨(A3, c3), (js4 rfl rfl (by rw [hfs, if_pos (decide_eq_true hc2), zf]; rfl) rfl), ?_⟩
    rw [hfs, if_pos (decide_eq_true hc2)]
    exact ⟨by simpa using hown3, hge3, hfr3'⟩
   refine jQ ?_
   refine jN ⟨(B, d), (js4 rfl rfl (by rw [hfs, if_neg (by simpa using hc2), zcc]; rfl) rfl), ?_⟩
   rw [hfs, if_neg (by simpa using hc2), zcc]
   exact ⟨hown, hge, hfr⟩
  rintro ⟨B2, d2⟩ wm ⟨hown2, hge2, hfr2⟩ Γ hΓ
  refine qW (jN (VC.sub _ hΓ ?_))
  refine jR (jm rfl (jb rfl rfl (Bin.add_i64 _ 1 jo) (ja rfl (jO ?_))))
  refine jN ⟨(i + 1, B2, d2), (js4 rfl rfl rfl rfl), ?_, ?_⟩
  · exact ⟨hc1, hown2, hge2, hfr2⟩
  first | omega | (dsimp only; omega)
 have him : i = l.length := jo
 subst him
 rw [zaq] at hown hfl ⊢
 refine jX ?_
 refine qJ (qJ (qR ?_))
 refine jN (jv3 0 1 5 ?_)
 refine jS (jR (jm rfl (jM ?_)))
 refine Ops.m (qK.buildS1 rfl zg zo eT jd jd rfl rfl) rfl ?_
 rintro _ w4 ⟨rfl, hF4⟩
 have hfr4 := hfr.trans hF4.frm jp
 refine Ops.m (qK.app rfl rfl zg (gX) rfl jd (hown.frm hF4.frm jp) (tX hF4) (eH _) jo jo) rfl ?_
 rintro _ w5 ⟨A5, c5, rfl, hown5, hfr5, hob5⟩
 rw [← cV] at hown5
 have hge5 := gK hge hob5 hfr4.size
 have hfr5' := hfr4.own hfr5 hge
 refine ja rfl (jO (jN (jv3 0 1 5 ?_)))
 refine jS (jS (jR (jz 0 (jO (jN (jB ?_))))))
 refine VC.loop (σ := Nat × Option Addr × Nat) (fun s => [(0, .slice A l.length c0), (1, encStr q), (5, .slice s.2.1 (l.filter (fun x => decide (x < q)) ++ [q] ++ (l.take s.1).filter (fun x => decide (q < x))).length s.2.2), (7, .int .i64 ((s.1 : Nat) : Int))]) (fun s wr => s.1 ≤ l.length ∧ Own wr 9 1 s.2.1 (l.filter (fun x => decide (x < q)) ++ [q] ++ (l.take s.1).filter (fun x => decide (q < x))).length s.2.2 (SB (l.filter (fun x => decide (x < q)) ++ [q] ++ (l.take s.1).filter (fun x => decide (q < x)))) ∧ (∀ x ∈ ob s.2.1, w.heap.size ≤ x) ∧ Frm [] w wr) (fun s => l.length - s.1) (0, A5, c5) (js4 rfl rfl (by simp; rfl) rfl) ⟨jo, by simpa using hown5, hge5, hfr5'⟩ ?_
 rintro ⟨j, B, d⟩ wr ⟨hj, hown, hge, hfr⟩
 dsimp only at hj hown hge ⊢
 have hfl2 := vA (p := fun x => decide (q < x)) l j
 have hlen2 : (l.filter (fun x => decide (x < q)) ++ [q] ++ (l.take j).filter (fun x => decide (q < x))).length ≤ 3000000 := by simp only [zf, List.length_singleton]; omega
 generalize hP : l.filter (fun x => decide (x < q)) ++ [q] = P0 at *
 refine jS (jS (jR (jm rfl (jm rfl (je (Run.lenS rfl zg) (jb rfl rfl (Bin.lssN _ _) (jO (jN (jv5 0 1 5 7 34 ?_)))))))))
 refine jD rfl (fun hc3 => ?_) fun hc3 => ?_
 ·
  obtain ⟨ad, rfl, hcell⟩ := eS (hr.frm hfr jp) hc3
  have hfs := rI (p := fun x => decide (q < x)) hc3
  generalize hq0 : l[j] = x at *
  refine jQ (jN (jv4 0 1 5 7 ?_))
  refine jS (jB (jS (jR (jm rfl (jm rfl (je (Run.index1 j rfl rfl zg zo hc3) (jl rfl zx hcell (jm rfl (je (Run.gtrT rfl rfl) (jO (jN (jv5 0 1 5 7 42 ?_))))))))))))
  refine VC.meet (σ := Option Addr × Nat) (fun s => [(0, .slice (some ad) l.length c0), (1, encStr q), (5, .slice s.1 (P0 ++ (l.take (j + 1)).filter (fun x => decide (q < x))).length s.2), (7, .int .i64 ((j : Nat) : Int))]) (fun s wm => Own wm 9 1 s.1 (P0 ++ (l.take (j + 1)).filter (fun x => decide (q < x))).length s.2 (SB (P0 ++ (l.take (j + 1)).filter (fun x => decide (q < x)))) ∧ (∀ x ∈ ob s.1, w.heap.size ≤ x) ∧ Frm [] w wm) ?_ ?_
  ·
   refine jD rfl (fun hc4 => ?_) fun hc4 => ?_
   ·
    refine jR (jm rfl (jm rfl (jm rfl (je (Run.index1 j rfl rfl zg zo hc3) (jl rfl zx hcell ?_)))))
    refine Ops.m (qK.buildS1 rfl zg zo eT jd jd rfl rfl) rfl ?_
    rintro _ w6 ⟨rfl, hF6⟩
    have hfr6 := hfr.trans hF6.frm jp
    refine Ops.m (qK.app rfl rfl zg (gX) rfl jd (hown.frm hF6.frm jp) (tX hF6) (eH _) jo jo) rfl ?_
    rintro _ w7 ⟨A7, c7, rfl, hown7, hfr7, hob7⟩
    rw [← cV] at hown7
    have hge7 := gK hge hob7 hfr6.size
    have hfr7' := hfr6.own hfr7 hge
    refine ja rfl (jO ?_)
    refine jN ⟨(A7, c7), (js4 rfl rfl (by rw [hfs, if_pos (decide_eq_true hc4), ← zat, zf (bs := [x])]; rfl) rfl), ?_⟩
    rw [hfs, if_pos (decide_eq_true hc4), ← zat, zf (bs := [x])]
    exact ⟨hown7, hge7, hfr7'⟩
   refine jQ ?_
   refine jN ⟨(B, d), (js4 rfl rfl (by rw [hfs, if_neg (by simpa using hc4), zcc]; rfl) rfl), ?_⟩
   rw [hfs, if_neg (by simpa using hc4), zcc]
   exact ⟨hown, hge, hfr⟩
  rintro ⟨B2, d2⟩ wm ⟨hown2, hge2, hfr2⟩ Γ hΓ
  refine qW (jN (VC.sub _ hΓ ?_))
  refine jR (jm rfl (jb rfl rfl (Bin.add_i64 _ 1 jo) (ja rfl (jO ?_))))
  refine jN ⟨(j + 1, B2, d2), (js4 rfl rfl rfl rfl), ?_, ?_⟩
  · exact ⟨hc3, hown2, hge2, hfr2⟩
  first | omega | (dsimp only; omega)
 refine jX ?_
 refine qJ (qJ (qR ?_))
 refine jN (jv1 5 ?_)
 refine jS (jR (jm rfl (ja rfl (jO (jN (jv1 4 ?_))))))
 refine jT ?_
 refine qN rfl ?_
 have hjm : j = l.length := jo
 subst hjm
 rw [zaq] at hown ⊢
 have e : P0 ++ l.filter (fun x => decide (q < x)) = gH l q := by rw [← hP]; rfl
 rw [e] at hown ⊢
 exact ⟨hfr, B, d, rfl, hown, hge⟩
theorem oO (A B : Option Addr) (c d : Nat) (a b : List Tx) (w : World) (hla : a.length ≤ 1000000) (hlb : b.length ≤ 1000000) (ha : Rd w 1 A a.length (SB a)) (hb : Rd w 1 B b.length (SB b)) :
  Calls Tryz.prog 71 #[.slice A a.length c, .slice B b.length d] w fun e w' => e = .returned (.bool (decide (a = b))) ∧ qP w w' := by
 refine VC.calls (nt := 26) (res := #[.tmp 4]) Tryz.func71 rfl Tryz.ntmps71 Tryz.results71 rfl ?_
 refine jS (jR (ja rfl (jO (jN (jv2 0 1 ?_)))))
 refine jS (jS (jR (jm rfl (je (Run.lenS rfl zg) (jm rfl (je (Run.lenS rfl zg) (jb rfl rfl (Bin.neqN _ _) (jO (jN (jv3 0 1 10 ?_))))))))))
 refine jD rfl (fun hc1 => ?_) fun hc1 => ?_
 ·
  have hne : ¬ a = b := fun h => hc1 (by rw [h])
  refine jS (jR (ja rfl (jO (jN (jv1 4 ?_)))))
  refine jT ?_
  refine qZ (qN rfl ?_)
  exact ⟨by simp [hne], qP.refl _⟩
 have hll : a.length = b.length := Classical.not_not.1 hc1
 refine jQ (jN (jv2 0 1 ?_))
 refine jS (jS (jR (jz 0 (jO (jN (jB ?_))))))
 refine VC.loop (σ := Nat) (fun s => [(0, .slice A a.length c), (1, .slice B b.length d), (5, .int .i64 ((s : Nat) : Int))]) (fun s wr => s ≤ a.length ∧ a.take s = b.take s ∧ qP w wr) (fun s => a.length - s) 0 (js3 rfl rfl rfl) ⟨jo, rfl, qP.refl _⟩ ?_
 rintro i wr ⟨hi, htk, hd⟩
 refine jS (jS (jR (jm rfl (jm rfl (je (Run.lenS rfl zg) (jb rfl rfl (Bin.lssN _ _) (jO (jN (jv4 0 1 5 14 ?_)))))))))
 refine jD rfl (fun hc2 => ?_) fun hc2 => ?_
 ·
  have hib : i < b.length := jo
  obtain ⟨ad, rfl, hcell⟩ := eS (ha.drawn (hd.trans (qP.drew _))) hc2
  obtain ⟨ad2, rfl, hcell2⟩ := eS (hb.drawn (hd.trans (qP.drew _))) hib
  have hta : a.take (i + 1) = a.take i ++ [a[i]] := dJ hc2
  have htb : b.take (i + 1) = b.take i ++ [b[i]] := dJ hib
  have hab : a = b → a[i] = b[i] := by rintro rfl; rfl
  generalize a[i] = x at *
  generalize b[i] = y at *
  refine jQ (jN (jv3 0 1 5 ?_))
  refine jS (jB (jS ?_))
  refine VC.still jK jK ?_
  refine qM ?_
  refine qM ?_
  refine qE (Run.index1 i rfl rfl zg zo hc2) ?_
  refine qE (Run.load rfl zx hcell) ?_
  refine qM ?_
  refine qM ?_
  refine qE (Run.index1 i rfl rfl zg zo hib) ?_
  refine qE (Run.load rfl zx hcell2) ?_
  refine qE (Run.neqT rfl rfl) ?_
  refine bV.nil ?_
  refine jN (jv4 0 1 5 25 ?_)
  refine jD rfl (fun hc3 => ?_) fun hc3 => ?_
  ·
   have hne : ¬ a = b := fun h => hc3 (hab h)
   refine jS (jR (ja rfl (jO (jN (jv1 4 ?_)))))
   refine jT ?_
   refine qV (qZ (qZ (qV (qZ (qN rfl ?_)))))
   exact ⟨by simp [hne], hd.trans (qP.drew _)⟩
  have hxy : x = y := Classical.not_not.1 hc3
  refine jQ ?_
  refine qW (jN ?_)
  refine jv3 0 1 5 ?_
  refine jR (jm rfl (jb rfl rfl (Bin.add_i64 _ 1 jo) (ja rfl (jO ?_))))
  refine jN ⟨(i + 1), (js3 rfl rfl rfl), ?_, ?_⟩
  · exact ⟨hc2, by rw [hta, htb, htk, hxy], hd.trans (qP.drew _)⟩
  first | omega | (dsimp only; omega)
 have hil : i = a.length := jo
 subst hil
 have heq : a = b := by
  rw [zaq, hll, zaq] at htk
  exact htk
 refine jX ?_
 refine qJ (qJ (qR ?_))
 refine jN ?_
 refine VC.sub [] .nil ?_
 refine jS (jR (ja rfl (jO (jN (jT ?_)))))
 refine qN rfl ?_
 exact ⟨by simp [heq], hd⟩
end
section
open Go.RowKit Go.Sort
theorem xA (A : Option Addr) (c0 : Nat) (l : List Tx) (w : World) (hn : l.length ≤ 900000) (hq : ∀ q ∈ l, q.length ≤ 1000000) (hr : Rd w 1 A l.length (SB l)) :
  Calls Tryz.prog 179 #[.slice A l.length c0] w fun e w' => Frm [] w w' ∧ ∃ B d r k, IsN w w' e (dS l) B d r k := by
 refine VC.calls (nt := 27) (res := #[.tmp 2, .tmp 3]) Tryz.func179 rfl Tryz.ntmps179 Tryz.results179 rfl ?_
 refine jS (jR (ja rfl (jz 0 (jO (jN (jv1 0 ?_))))))
 refine jS (jR (ja rfl (jO (jN (jS (jS (jR (jz 0 (jO (jN (jB ?_)))))))))))
 refine VC.loop (σ := Nat × Option Addr × Nat × List Tx) (fun s => [(0, .slice A l.length c0), (4, .slice s.2.1 (nub s.2.2.2).length s.2.2.1), (5, .int .i64 ((s.1 : Nat) : Int))]) (fun s wr => s.1 ≤ l.length ∧ Own wr 9 1 s.2.1 (nub s.2.2.2).length s.2.2.1 (SB (nub s.2.2.2)) ∧ (∀ x ∈ ob s.2.1, w.heap.size ≤ x) ∧ Frm [] w wr ∧ cJ (l.take s.1) = some s.2.2.2) (fun s => l.length - s.1) (0, none, 0, []) (js3 rfl (by rw [show nub [] = [] from oQ jp]; rfl) rfl) ⟨jo, (by rw [show nub [] = [] from oQ jp]; exact Own.nil _ _ _), by simp [ob], Frm.refl _ _, rfl⟩ ?_
 rintro ⟨i, B, d, ts⟩ wr ⟨hi, hown, hge, hfr, htl⟩
 dsimp only at hi hown hge htl ⊢
 have htsl : ts.length = i := by rw [rU htl]; simp; omega
 have hnl := qJc ts
 refine jS (jS (jR (jm rfl (jm rfl (je (Run.lenS rfl zg) (jb rfl rfl (Bin.lssN _ _) (jO (jN (jv4 0 4 5 10 ?_)))))))))
 refine jD rfl (fun hc1 => ?_) fun hc1 => ?_
 ·
  obtain ⟨ad, rfl, hcell⟩ := eS (hr.frm hfr jp) hc1
  refine jQ (jN (jv3 0 4 5 ?_))
  refine jS (jB (jS (jR (jm rfl (jm rfl (je (Run.index1 i rfl rfl zg zo hc1) (jl rfl zx hcell ?_)))))))
  refine Ops.cl (jE1 Tryz.call192) (xF l[i] _ (hq _ (zw hc1))) rfl ?_
  rintro e w1 ⟨rfl, hf1⟩
  refine ⟨_, rfl, ?_⟩
  have hfr1 := hfr.trans hf1 jp
  have hown1 := hown.frm hf1 jp
  have htc := kA l[i]
  generalize hq0 : l[i] = q at *
  refine ja rfl (jO (jN (jv4 0 4 5 6 ?_)))
  refine jS (jS (jR (jm rfl (je (Run.eqlT rfl rfl) (jO (jN (jv5 0 4 5 6 19 ?_)))))))
  refine jD rfl (fun hc2 => ?_) fun hc2 => ?_
  ·
   have ht0 : bH q = none := by
    rcases htc with ⟨t, h, h2⟩ | ⟨h, _⟩
    · rw [h2] at hc2; exact absurd hc2 (qXj h)
    exact h
   have hnf : dS l = .error 18 := by
    unfold dS
    rw [oU (hq0 ▸ zw hc1) ht0]
   refine jS (jR (ja rfl (jz 18 (jO (jN (jv2 2 3 ?_))))))
   refine jT ?_
   refine qZ (qV (qZ (qZ (qV (qZ (dR rfl rfl ?_))))))
   exact ⟨hfr1, none, 0, [], 18, rfl, Own.nil _ _ _, by simp [ob], .inr ⟨jd, rfl, hnf⟩⟩
  obtain ⟨t, ht0, hv0⟩ : ∃ t, bH q = some t ∧ bL q = (t, 0) := by
   rcases htc with h | ⟨_, h⟩
   · exact h
   rw [h] at hc2; exact absurd rfl hc2
  rw [hv0]
  refine jQ (jN (jv4 0 4 5 6 ?_))
  refine jR (jm rfl (jM ?_))
  refine Ops.cl (jE2 Tryz.call193) (qXt B d (nub ts) t _ jo hown1.rd) rfl ?_
  rintro e w3 ⟨hf3, D, d3, rfl, hown3, hge3⟩
  refine ⟨_, rfl, ?_⟩
  have hfr3 := hfr1.trans hf3 jp
  have hnt : gH (nub ts) t = nub (ts ++ [t]) := by rw [← rB, ← rB, xK]
  rw [hnt] at hown3 ⊢
  refine ja rfl (jO ?_)
  refine qW (jN ?_)
  refine jv3 0 4 5 ?_
  refine jR (jm rfl (jb rfl rfl (Bin.add_i64 _ 1 jo) (ja rfl (jO ?_))))
  refine jN ⟨(i + 1, D, d3, ts ++ [t]), (js3 rfl rfl rfl), ?_, ?_⟩
  · exact ⟨hc1, hown3, fun x hx => zbc hfr1.size (hge3 x hx), hfr3, by rw [dJ hc1, oT, htl, hq0, ht0]⟩
  first | omega | (dsimp only; omega)
 have him : i = l.length := jo
 subst him
 rw [zaq] at htl
 refine jX ?_
 refine qJ (qJ (qR ?_))
 refine jN (jv1 4 ?_)
 refine jS (jS (jR (jm rfl (je (Run.lenS rfl zg) (jb rfl rfl (Bin.gtrN _ 16) (jO (jN (jv2 4 25 ?_))))))))
 refine jD rfl (fun hc3 => ?_) fun hc3 => ?_
 ·
  refine jS (jR (ja rfl (jz 5 (jO (jN (jv2 2 3 ?_))))))
  refine jT ?_
  refine qZ (dR rfl rfl ?_)
  exact ⟨hfr, none, 0, [], 5, rfl, Own.nil _ _ _, by simp [ob], .inr ⟨jd, rfl, by unfold dS; rw [htl]; exact if_pos hc3⟩⟩
 refine jQ (jN (jv1 4 ?_))
 refine jS (jR (jm rfl (ja rfl (jz 0 (jO (jN (jv2 2 3 ?_)))))))
 refine jT ?_
 refine dR rfl rfl ?_
 exact ⟨hfr, B, d, nub ts, 0, rfl, hown, hge, .inl ⟨rfl, by unfold dS; rw [htl]; exact if_neg hc3⟩⟩
theorem uD (A : Option Addr) (c0 : Nat) (l : List Tx) (w : World) (hn : l.length ≤ 900000) (hq : ∀ q ∈ l, q.length ≤ 1000000) (hr : Rd w 1 A l.length (SB l)) :
  Calls Tryz.prog 157 #[.slice A l.length c0] w fun e w' => e = .returned (.bool (decide (cU l))) ∧ Frm [] w w' := by
 refine VC.calls (nt := 17) (res := #[.tmp 2]) Tryz.func157 rfl Tryz.ntmps157 Tryz.results157 rfl ?_
 refine jS (jR (ja rfl (jO (jN (jv1 0 ?_)))))
 refine jS (jR (jM ?_))
 refine Ops.cl (jE1 Tryz.call179) (xA A c0 l _ hn hq hr) rfl ?_
 rintro e w1 ⟨hf1, B, d, r, k, rfl, ho1, hge1, hN⟩
 refine ⟨_, rfl, ?_⟩
 have hr1 := hr.frm hf1 jp
 have hck : cU l ↔ (k = 0 ∧ r = l) := by
  unfold cU
  rcases hN with ⟨h1, h2⟩ | ⟨h1, _, h2⟩
  · rw [h2]; simp [h1]
  rw [h2]; simp [h1]
 have hrl : r.length ≤ 1000000 := by
  rcases hN with ⟨h1, h2⟩ | ⟨h1, h2, _⟩
  · have := (eN (nW h2)).2.1; omega
  subst h2; simp
 refine jm rfl (je (Run.extract rfl rfl) (je (Run.extract rfl rfl) (ja rfl (ja rfl (jO (jN (jv3 0 3 4 ?_)))))))
 refine jS ?_
 refine VC.splitR [] (Frm [] w) 2 (.bool (decide (cU l))) ?_ ?_
 ·
  refine jR ?_
  refine jm rfl (jb rfl rfl (Bin.eqlN _ 0) ?_)
  by_cases hs11 : k = 0
  ·
   refine jM ?_
   refine jG ?_
   refine jG ?_
   refine Ops.clg rfl au (jE2 Tryz.call71) (oO B A d c0 r l _ jo jo ho1.rd hr1) rfl ?_
   rintro e w2 ⟨rfl, hd2⟩
   refine ⟨_, rfl, ?_⟩
   by_cases hs15 : r = l
   ·
    refine je (Run.pickT rfl rfl au) (ja rfl (jO ?_))
    refine jN ⟨(js1 (jC (Eq.symm (by simp [hck, *])))), (by first | exact hf1.drawn hd2 | exact hf1)⟩
   refine je (Run.pickT rfl rfl au) (ja rfl (jO ?_))
   refine jN ⟨(js1 (jC (Eq.symm (by simp [hck, *])))), (by first | exact hf1.drawn hd2 | exact hf1)⟩
  refine jM ?_
  refine jU ?_
  refine jU ?_
  refine jU ?_
  refine je (Run.pickF rfl rfl au) (ja rfl (jO ?_))
  refine jN ⟨(js1 (jC (Eq.symm (by simp [hck, *])))), (by first | exact hf1.drawn hd2 | exact hf1)⟩
 intro Γ wR hΓ hR
 refine jN (VC.sub _ hΓ ?_)
 refine jT ?_
 refine qN rfl ?_
 exact ⟨rfl, hR⟩
end
section
open Go.RowKit Go.Sort
theorem Blk.sub {w : World} {g : Nat} {t : TypeId} {cs : Array Value} (h : Blk w g t cs) (i : Nat) (l : List Value) (hl : (cs.toList.drop i).take l.length = l) : ∀ j v, l[j]? = some v → w.cell? ((⟨g, i, none⟩ : Addr).add j) = some v := by
 intro j v hj
 have hlt : j < l.length := (List.getElem?_eq_some_iff.1 hj).1
 rw [show ((⟨g, i, none⟩ : Addr).add j) = ⟨g, i + j, none⟩ by unfold Addr.add; split <;> simp_all, h.cell]
 rw [← hl, zbw hlt, zdi] at hj
 simpa using hj
theorem mV {l : List Mc} {i : Nat} (h : i < l.length) : prevU (Ms l) (i + 1) = (l[i]).m.uid := by
 simp [prevU, Ms, zd h]
theorem vI {v n : Int} {l : List Mc} (h1 : 1 ≤ v ∧ v ≤ 2147483647 ∧ 1 ≤ n ∧ n ≤ 2147483648 ∧ l.length ≤ 128) (h2 : ∀ j (hj : j < l.length), bI n (Ms l) j (l[j]).m) : bO ⟨v, n, Ms l⟩ := by
 refine ⟨by simpa [Ms] using h1, fun j hj => ?_⟩
 have hj' : j < l.length := by simpa [Ms] using hj
 have := h2 j hj'
 simpa [Ms] using this
theorem pQ {v n : Int} {l : List Mc} (h : bO ⟨v, n, Ms l⟩) : (1 ≤ v ∧ v ≤ 2147483647 ∧ 1 ≤ n ∧ n ≤ 2147483648 ∧ l.length ≤ 128) ∧ ∀ j (hj : j < l.length), bI n (Ms l) j (l[j]).m := by
 obtain ⟨h1, h2⟩ := h
 refine ⟨by simpa [Ms] using h1, fun j hj => ?_⟩
 have := h2 j (by simpa [Ms] using hj)
 simpa [Ms] using this
theorem tJ (x : Mc) (w : World) (hx : x.At w) : Calls Tryz.prog 117 #[.agg x.cells.toArray] w fun e w' => e = .returned (.bool (decide (cD x.m))) ∧ Frm [] w w' := by
 refine VC.calls (nt := 21) (res := #[.tmp 2]) Tryz.func117 rfl Tryz.ntmps117 Tryz.results117 rfl ?_
 refine jS (jR ?_)
 refine Ops.m (qK.box rfl) rfl ?_
 rintro _ w1 ⟨rfl, hF1⟩
 have hb1 := hF1.blk
 have hf1 := hF1.frm
 generalize hg1 : w.heap.size = g1 at *
 refine ja rfl (jO (jN (jv1 1 ?_)))
 refine jS ?_
 refine VC.splitR [] (Frm [] w) 2 (.bool (decide (cD x.m))) ?_ ?_
 ·
  refine jR (jf rfl zr rfl zbz (je (Run.loadA rfl Tryz.isAgg58 zbz (hb1.sub 1 [.int .i64 x.m.sec, .int .i64 x.m.zone] rfl) (by first | rfl | (simp; done))) ?_))
  refine Ops.cl (jE1 Tryz.call152) (zE x.m.sec x.m.zone _) rfl ?_
  rintro e w2 ⟨rfl, hf2⟩
  refine ⟨_, rfl, ?_⟩
  have hfr2 := hf1.trans hf2 jp
  have hb1 := hb1.frm hf2 jp
  by_cases hs5 : dV x.m.sec x.m.zone
  ·
   refine jM ?_
   refine jk (Run.fieldAddr rfl zr rfl zj jd) ?_
   refine jk (Run.load rfl zn (hb1.cell 3)) ?_
   refine jk (Run.bin rfl rfl (Bin.geq _ 0)) ?_
   by_cases hs9 : 0 ≤ x.m.size
   ·
    refine je (Run.pickT rfl rfl au) (jM ?_)
    refine jk (Run.fieldAddr rfl zr rfl zcu jd) ?_
    refine jk (Run.load rfl zds (hb1.cell 4)) ?_
    refine jk (Run.bin rfl rfl (Bin.neqN _ 0)) ?_
    by_cases hs14 : x.m.blob ≠ 0
    ·
     refine je (Run.pickT rfl rfl au) (jM ?_)
     refine jk (Run.fieldAddr rfl zr rfl zab jd) ?_
     refine jk (Run.load rfl zan (hb1.cell 5)) ?_
     refine Ops.clg rfl au (jE1 Tryz.call153) (uU x.A x.c x.m.flags _ (by have := hx.n; omega) hx.q (hx.frm hfr2 jp).rd) rfl ?_
     rintro e w3 ⟨rfl, hf3⟩
     refine ⟨_, rfl, ?_⟩
     have hfr3 := hfr2.trans hf3 jp
     by_cases hs19 : cU x.m.flags
     ·
      refine je (Run.pickT rfl rfl au) (ja rfl (jO ?_))
      refine jN ⟨(js1 (jC (Eq.symm (by unfold cD; simp [*])))), (by first | exact hfr3 | exact hfr2)⟩
     refine je (Run.pickT rfl rfl au) (ja rfl (jO ?_))
     refine jN ⟨(js1 (jC (Eq.symm (by unfold cD; simp [*])))), (by first | exact hfr3 | exact hfr2)⟩
    refine je (Run.pickT rfl rfl au) (jM ?_)
    refine jU ?_
    refine jU ?_
    refine jU ?_
    refine je (Run.pickF rfl rfl au) (ja rfl (jO ?_))
    refine jN ⟨(js1 (jC (Eq.symm (by unfold cD; simp [*])))), (by first | exact hfr3 | exact hfr2)⟩
   refine je (Run.pickT rfl rfl au) (jM ?_)
   refine jU ?_
   refine jU ?_
   refine jU ?_
   refine je (Run.pickF rfl rfl au) (jM ?_)
   refine jU ?_
   refine jU ?_
   refine jU ?_
   refine je (Run.pickF rfl rfl au) (ja rfl (jO ?_))
   refine jN ⟨(js1 (jC (Eq.symm (by unfold cD; simp [*])))), (by first | exact hfr3 | exact hfr2)⟩
  refine jM ?_
  refine jU ?_
  refine jU ?_
  refine jU ?_
  refine je (Run.pickF rfl rfl au) (jM ?_)
  refine jU ?_
  refine jU ?_
  refine jU ?_
  refine je (Run.pickF rfl rfl au) (jM ?_)
  refine jU ?_
  refine jU ?_
  refine jU ?_
  refine je (Run.pickF rfl rfl au) (ja rfl (jO ?_))
  refine jN ⟨(js1 (jC (Eq.symm (by unfold cD; simp [*])))), (by first | exact hfr3 | exact hfr2)⟩
 intro Γ wR hΓ hR
 refine jN (VC.sub _ hΓ ?_)
 refine jT ?_
 refine qN rfl ?_
 exact ⟨rfl, hR⟩
theorem tK (v n : Int) (A : Option Addr) (c : Nat) (l : List Mc) (w : World) (hl : RdM w A l) : Calls Tryz.prog 68 #[.agg #[.int .i64 v, .int .i64 n, .slice A l.length c]] w fun e w' => e = .returned (.bool (decide (bO ⟨v, n, Ms l⟩))) ∧ Frm [] w w' := by
 refine VC.calls (nt := 56) (res := #[.tmp 2]) Tryz.func68 rfl Tryz.ntmps68 Tryz.results68 rfl ?_
 refine jS (jR ?_)
 refine Ops.m (qK.box rfl) rfl ?_
 rintro _ w1 ⟨rfl, hF1⟩
 have hb1 := hF1.blk
 have hf1 := hF1.frm
 generalize hg1 : w.heap.size = g1 at *
 refine ja rfl (jO (jN (jv1 1 ?_)))
 refine jS (jS ?_)
 refine VC.split1 [(1, _)] (js1 rfl) 29 (.bool (decide (v < 1 ∨ 2147483647 < v ∨ n < 1 ∨ 2147483648 < n ∨ 128 < l.length))) ?_ ?_
 ·
  refine jR (jf rfl zl rfl zj (jl rfl zn (hb1.cell 0) (jb rfl rfl (Bin.lss _ 1) ?_)))
  by_cases hs8 : v < 1
  ·
   refine jM ?_
   refine jU ?_
   refine jU ?_
   refine jU ?_
   refine je (Run.pickT rfl rfl au) (jM ?_)
   refine jU ?_
   refine jU ?_
   refine jU ?_
   refine je (Run.pickT rfl rfl au) (jM ?_)
   refine jU ?_
   refine jU ?_
   refine jU ?_
   refine je (Run.pickT rfl rfl au) (jM ?_)
   refine jU ?_
   refine jU ?_
   refine jU ?_
   refine jU ?_
   refine je (Run.pickT rfl rfl au) (jO ?_)
   refine jN ⟨(js2 (jC (Eq.symm (by simp [*]))) rfl), rfl⟩
  refine jM ?_
  refine jk (Run.fieldAddr rfl zl rfl zj jd) ?_
  refine jk (Run.load rfl zn (hb1.cell 0)) ?_
  refine jk (Run.bin rfl rfl (Bin.gtr _ 2147483647)) ?_
  by_cases hs12 : 2147483647 < v
  ·
   refine je (Run.pickF rfl rfl au) (jM ?_)
   refine jU ?_
   refine jU ?_
   refine jU ?_
   refine je (Run.pickT rfl rfl au) (jM ?_)
   refine jU ?_
   refine jU ?_
   refine jU ?_
   refine je (Run.pickT rfl rfl au) (jM ?_)
   refine jU ?_
   refine jU ?_
   refine jU ?_
   refine jU ?_
   refine je (Run.pickT rfl rfl au) (jO ?_)
   refine jN ⟨(js2 (jC (Eq.symm (by simp [*]))) rfl), rfl⟩
  refine je (Run.pickF rfl rfl au) (jM ?_)
  refine jk (Run.fieldAddr rfl zl rfl zj jd) ?_
  refine jk (Run.load rfl zn (hb1.cell 1)) ?_
  refine jk (Run.bin rfl rfl (Bin.lss _ 1)) ?_
  by_cases hs17 : n < 1
  ·
   refine je (Run.pickF rfl rfl au) (jM ?_)
   refine jU ?_
   refine jU ?_
   refine jU ?_
   refine je (Run.pickT rfl rfl au) (jM ?_)
   refine jU ?_
   refine jU ?_
   refine jU ?_
   refine jU ?_
   refine je (Run.pickT rfl rfl au) (jO ?_)
   refine jN ⟨(js2 (jC (Eq.symm (by simp [*]))) rfl), rfl⟩
  refine je (Run.pickF rfl rfl au) (jM ?_)
  refine jk (Run.fieldAddr rfl zl rfl zj jd) ?_
  refine jk (Run.load rfl zn (hb1.cell 1)) ?_
  refine jk (Run.bin rfl rfl (Bin.gtr _ 2147483648)) ?_
  by_cases hs22 : 2147483648 < n
  ·
   refine je (Run.pickF rfl rfl au) (jM ?_)
   refine jU ?_
   refine jU ?_
   refine jU ?_
   refine jU ?_
   refine je (Run.pickT rfl rfl au) (jO ?_)
   refine jN ⟨(js2 (jC (Eq.symm (by simp [*]))) rfl), rfl⟩
  refine je (Run.pickF rfl rfl au) (jM ?_)
  refine jk (Run.fieldAddr rfl zl rfl zai jd) ?_
  refine jk (Run.load rfl zar (hb1.cell 2)) ?_
  refine jk (Run.lenS rfl zy) ?_
  refine jk (Run.bin rfl rfl (Bin.gtrN _ 128)) ?_
  by_cases hs28 : 128 < l.length
  ·
   refine je (Run.pickF rfl rfl au) (jO ?_)
   refine jN ⟨(js2 (jC (Eq.symm (by simp [*]))) rfl), rfl⟩
  refine je (Run.pickF rfl rfl au) (jO ?_)
  refine jN ⟨(js2 (jC (Eq.symm (by simp [*]))) rfl), rfl⟩
 intro Γ hΓ
 refine jN (VC.sub _ hΓ ?_)
 refine jD rfl (fun hc1 => ?_) fun hc1 => ?_
 ·
  refine jS (jR (ja rfl (jO (jN (jv1 2 ?_)))))
  refine jT ?_
  refine qZ (qN rfl ?_)
  refine ⟨?_, hf1⟩
  rw [decide_eq_false]
  intro h
  have := (pQ h).1
  omega
 refine jQ (jN (jv1 1 ?_))
 refine jS (jR (jz 0 (jO (jN (jS (jS (jR (jf rfl zl rfl zai (jl rfl zar (hb1.cell 2) (je (Run.lenS rfl zy) ?_))))))))))
 refine jx .i64 0 ?_
 refine jO (jN (jv5 1 3 31 32 33 ?_))
 refine jB ?_
 refine VC.loop (σ := Nat) (fun s => [(1, .pointer (some ⟨g1, 0, none⟩)), (3, .int .i64 (prevU (Ms l) s)), (31, .slice A l.length c), (32, .int .i64 ((l.length : Nat) : Int)), (33, .int .i64 ((s : Nat) : Int))]) (fun s wr => s ≤ l.length ∧ Frm [] w wr ∧ Blk wr g1 43 #[.int .i64 v, .int .i64 n, .slice A l.length c] ∧ ∀ j (hj : j < l.length), j < s → bI n (Ms l) j (l[j]).m) (fun s => l.length - s) 0 (js5 rfl rfl rfl rfl rfl) ⟨jo, hf1, hb1, jp⟩ ?_
 rintro i wr ⟨hi, hfr, hbr, hg⟩
 refine jS (jR (jb rfl rfl (Bin.lssN _ _) (jO (jN (jS ?_)))))
 refine jD rfl (fun hc2 => ?_) fun hc2 => ?_
 ·
  obtain ⟨ad, rfl, hcell⟩ := (hl.frm hfr).elem hc2
  have hxa := (hl.frm hfr).fl (l[i]) (zw hc2)
  have hps := mV hc2
  generalize hx : l[i] = x at *
  refine jQ (jN (jv5 1 3 31 32 33 ?_))
  refine jS (jB (jS (jR (je (Run.indexS i rfl rfl zy zak hc2) (je (Run.loadA rfl zct zak hcell (by first | rfl | (simp; done))) ?_)))))
  refine Ops.m (qK.alloc dB) rfl ?_
  rintro _ w2 ⟨rfl, hF2⟩
  have hb2 := hF2.blk
  have hf2 := hF2.frm
  have hsz2 : wr.heap.size ≤ wr.heap.size := zac _
  have hfs := hfr.size
  generalize hg2 : wr.heap.size = g2 at hb2 hsz2 hfs ⊢
  refine Ops.st (qH.storeA rfl rfl zak hb2 rfl x.cells_one) ?_
  rintro w3 ⟨hb3, hf3, hs3⟩
  have hfr3 : Frm [] wr w3 := hf2.own hf3 (fun y hy => by simp at hy; omega)
  have hb13 := hbr.frm hfr3 jp
  refine jO (jN (jv6 1 3 5 31 32 33 ?_))
  refine jS (jS ?_)
  refine VC.splitR [(1, .pointer (some ⟨g1, 0, none⟩)), (5, .pointer (some ⟨g2, 0, none⟩)), (31, .slice (some ad) l.length c), (32, .int .i64 ((l.length : Nat) : Int)), (33, .int .i64 ((i : Nat) : Int))] (Frm [] w3) 52 (.bool (decide (¬ bI n (Ms l) i x.m))) ?_ ?_
  ·
   refine jR (jf rfl zr rfl zj (jl rfl zn (hb3.cell 0) (jm rfl (jb rfl rfl (Bin.leq _ _) ?_))))
   by_cases hs40 : x.m.uid ≤ prevU (Ms l) i
   ·
    refine jM ?_
    refine jU ?_
    refine jU ?_
    refine jU ?_
    refine jU ?_
    refine jU ?_
    refine je (Run.pickT rfl rfl au) (jM ?_)
    refine jU ?_
    refine jU ?_
    refine jU ?_
    refine je (Run.pickT rfl rfl au) (jO ?_)
    refine jN ⟨(js6 (jC (Eq.symm (by first | exact decide_eq_true (by unfold bI; omega) | (rw [← decide_not]; exact decide_eq_decide.2 ⟨fun h hm => h ⟨jo, jo, hm⟩, fun h hg => h hg.2.2⟩) | exact decide_eq_decide.2 ⟨fun _ => jo, fun _ => by unfold bI; omega⟩))) rfl rfl rfl rfl rfl), (by first | exact hf4 | exact Frm.refl _ _)⟩
   refine jM ?_
   refine jk (Run.fieldAddr rfl zr rfl zj jd) ?_
   refine jk (Run.load rfl zn (hb3.cell 0)) ?_
   refine jk (Run.fieldAddr rfl zl rfl zj jd) ?_
   refine jk (Run.load rfl zn (hb13.cell 1)) ?_
   refine jk (Run.bin rfl rfl (Bin.geq _ _)) ?_
   by_cases hs46 : n ≤ x.m.uid
   ·
    refine je (Run.pickF rfl rfl au) (jM ?_)
    refine jU ?_
    refine jU ?_
    refine jU ?_
    refine je (Run.pickT rfl rfl au) (jO ?_)
    refine jN ⟨(js6 (jC (Eq.symm (by first | exact decide_eq_true (by unfold bI; omega) | (rw [← decide_not]; exact decide_eq_decide.2 ⟨fun h hm => h ⟨jo, jo, hm⟩, fun h hg => h hg.2.2⟩) | exact decide_eq_decide.2 ⟨fun _ => jo, fun _ => by unfold bI; omega⟩))) rfl rfl rfl rfl rfl), (by first | exact hf4 | exact Frm.refl _ _)⟩
   refine je (Run.pickF rfl rfl au) (jM ?_)
   refine jk (Run.loadA rfl zct zak (fun j v hj => hb3.cells j v hj) (by first | rfl | (simp; done))) ?_
   refine Ops.clg rfl au (jE1 Tryz.call117) (tJ x _ (hxa.frm hfr3 jp)) rfl ?_
   rintro e w4 ⟨rfl, hf4⟩
   refine ⟨_, rfl, ?_⟩
   by_cases hs50 : cD x.m
   ·
    refine jk (Run.not rfl) ?_
    refine je (Run.pickF rfl rfl au) (jO ?_)
    refine jN ⟨(js6 (jC (Eq.symm (by first | exact decide_eq_true (by unfold bI; omega) | (rw [← decide_not]; exact decide_eq_decide.2 ⟨fun h hm => h ⟨jo, jo, hm⟩, fun h hg => h hg.2.2⟩) | exact decide_eq_decide.2 ⟨fun _ => jo, fun _ => by unfold bI; omega⟩))) rfl rfl rfl rfl rfl), (by first | exact hf4 | exact Frm.refl _ _)⟩
   refine jk (Run.not rfl) ?_
   refine je (Run.pickF rfl rfl au) (jO ?_)
   refine jN ⟨(js6 (jC (Eq.symm (by first | exact decide_eq_true (by unfold bI; omega) | (rw [← decide_not]; exact decide_eq_decide.2 ⟨fun h hm => h ⟨jo, jo, hm⟩, fun h hg => h hg.2.2⟩) | exact decide_eq_decide.2 ⟨fun _ => jo, fun _ => by unfold bI; omega⟩))) rfl rfl rfl rfl rfl), (by first | exact hf4 | exact Frm.refl _ _)⟩
  intro Γ w4 hΓ hf4
  refine jN (VC.sub _ hΓ ?_)
  refine jD rfl (fun hc3 => ?_) fun hc3 => ?_
  ·
   have hng : ¬ bI n (Ms l) i x.m := hc3
   refine jS (jR (ja rfl (jO (jN (jv1 2 ?_)))))
   refine jT ?_
   refine qZ (qV (qZ (qZ (qV (qZ (qN rfl ?_))))))
   refine ⟨?_, (hfr.trans hfr3 jp).trans hf4 jp⟩
   rw [decide_eq_false]
   intro h
   have := (pQ h).2 i hc2
   rw [hx] at this
   exact hng this
  have hgi : bI n (Ms l) i x.m := Classical.not_not.1 hc3
  have hb34 := hb3.frm hf4 jp
  have hb14 := hb13.frm hf4 jp
  have hfr4 := hfr3.trans hf4 jp
  refine jQ (jN (jv5 1 5 31 32 33 ?_))
  refine jR (jf rfl zr rfl zj (jl rfl zn (hb34.cell 0) (ja rfl (jO ?_))))
  refine qW (jN ?_)
  refine jv5 1 3 31 32 33 ?_
  refine jR (jb rfl rfl (Bin.add_i64 _ 1 jo) (jm rfl (jO ?_)))
  refine jN ⟨(i + 1), (js5 rfl (congrArg (fun z => some (Value.int .i64 z)) hps.symm) rfl rfl rfl), ?_, ?_⟩
  ·
   refine ⟨hc2, hfr.trans hfr4 jp, hb14, fun j hj hji => ?_⟩
   rcases zdc j i with h | h
   · exact hg j hj h
   obtain rfl : j = i := jo
   rw [hx]; exact hgi
  first | omega | (dsimp only; omega)
 refine jX ?_
 refine qJ (qJ (qR ?_))
 refine jN ?_
 refine VC.sub [] .nil ?_
 refine jS (jR (ja rfl (jO (jN (jT ?_)))))
 refine qN rfl ?_
 refine ⟨?_, hfr⟩
 rw [decide_eq_true]
 exact vI jo (fun j hj => hg j hj jo)
structure OwM (w : World) (A : Option Addr) (d : Nat) (l : List Mc) : Prop where
 own : Own w 60 6 A l.length d (MC l)
 fl : ∀ x ∈ l, Own w 9 1 x.A x.m.flags.length x.c (SB x.m.flags)
 fit : ∀ x ∈ l, x.m.flags.length ≤ 500000 ∧ ∀ q ∈ x.m.flags, q.length ≤ 1000000
theorem OwM.nil (w : World) : OwM w none 0 [] := ⟨Own.nil _ _ _, jp, jp⟩
theorem OwM.rdm {w : World} {A : Option Addr} {d : Nat} {l : List Mc} (h : OwM w A d l) : RdM w A l :=
 ⟨h.own.rd, fun x hx => ⟨(h.fl x hx).rd, (h.fit x hx).1, (h.fit x hx).2⟩⟩
theorem OwM.frm {w w' : World} {A : Option Addr} {d : Nat} {l : List Mc} (h : OwM w A d l) (k : Frm [] w w') : OwM w' A d l :=
 ⟨h.own.frm k jp, fun x hx => (h.fl x hx).frm k jp, h.fit⟩
theorem OwM.blk {w w' : World} {A : Option Addr} {d g : Nat} {l : List Mc} {t : TypeId} {cs : Array Value} (h : OwM w A d l) (k : Frm [g] w w') (hb : Blk w g t cs) (h1 : 60 ≠ t) (h2 : 9 ≠ t) : OwM w' A d l :=
 ⟨h.own.frm k (fun x hx => by simp; rintro rfl; exact h.own.ne_blk hb h1 hx), fun y hy => (h.fl y hy).frm k (fun x hx => by simp; rintro rfl; exact (h.fl y hy).ne_blk hb h2 hx), h.fit⟩
theorem OwM.put {w w' : World} {A B : Option Addr} {d d' : Nat} {l : List Mc} {x : Mc} (h : OwM w A d l) (ho : Own w' 60 6 B (l ++ [x]).length d' (MC (l ++ [x]))) (k : Frm (ob A) w w') (hx : Own w 9 1 x.A x.m.flags.length x.c (SB x.m.flags)) (hf : x.m.flags.length ≤ 500000 ∧ ∀ q ∈ x.m.flags, q.length ≤ 1000000) : OwM w' B d' (l ++ [x]) := by
 refine ⟨ho, fun y hy => ?_, fun y hy => ?_⟩
 ·
  rcases zfb.1 hy with h1 | h1
  · exact (h.fl y h1).frm k ((h.fl y h1).ne_own h.own jd)
  simp only [zc] at h1
  subst h1
  exact hx.frm k (hx.ne_own h.own jd)
 rcases zfb.1 hy with h1 | h1
 · exact h.fit y h1
 simp only [zc] at h1
 subst h1
 exact hf
theorem hrdM {w w' : World} {t : TypeId} {x : Mc} (h : Fresh w w' t (Value.agg x.cells.toArray).cells) : Rd w' 6 (some ⟨w.heap.size, 0, none⟩) 1 (MC [x]) := Rd.of_blk (n := 1) (size := 6) h.blk rfl
theorem pE {l : List Mc} {i : Nat} (h : i < l.length) : Ms (l.take (i + 1)) = Ms (l.take i) ++ [(l[i]).m] := by
 simp only [Ms, zdn]
 rw [zau, zde, zd h]
 rfl
end
section
open Go.RowKit
open Go.Maps (Keyed)
def MpF (P : Program) (k : TypeId) {κ : Type} (enc : κ → Value) (w : World) (g : Nat) (M : κ → Option Value) : Prop :=
 ∃ (es : List MapEntry) (clock : Nat), w.heap[g]? = some (.map es.toArray clock) ∧ (∀ e ∈ es, (∃ l, keyOf P k e.key = some l) ∧ e.born < clock) ∧ es.Pairwise (fun a b => a.born ≠ b.born ∧ a.key ≠ b.key) ∧ ∀ x v, M x = some v ↔ ∃ e ∈ es, e.key = enc x ∧ e.val = v
def MpE (P : Program) (k : TypeId) {κ : Type} (enc : κ → Value) (w : World) (g : Nat) (M : κ → Option Value) (x : κ) (n : Nat) : Prop :=
 ∃ (es : List MapEntry) (clock : Nat), w.heap[g]? = some (.map es.toArray clock) ∧ (∀ e ∈ es, (∃ l, keyOf P k e.key = some l) ∧ e.born < clock) ∧ es.Pairwise (fun a b => a.born ≠ b.born ∧ a.key ≠ b.key) ∧ (∀ x v, M x = some v ↔ ∃ e ∈ es, e.key = enc x ∧ e.val = v) ∧
  ∃ e ∈ es, e.key = enc x ∧ e.born = n
section
variable {P : Program} {k : TypeId} {κ : Type} {enc : κ → Value} {w w' : World} {g : Nat} {M : κ → Option Value} {S : List Nat}
theorem MpE.mp {x : κ} {n : Nat} (h : MpE P k enc w g M x n) : MpF P k enc w g M := by
 obtain ⟨es, clock, h1, h2, h3, h4, _⟩ := h
 exact ⟨es, clock, h1, h2, h3, h4⟩
theorem MpF.lt (h : MpF P k enc w g M) : g < w.heap.size := by
 obtain ⟨es, clock, h1, _⟩ := h
 exact (Array.getElem?_eq_some_iff.1 h1).1
theorem MpF.frm (h : MpF P k enc w g M) (f : Frm S w w') (hS : g ∉ S) : MpF P k enc w' g M := by
 have hl := h.lt
 obtain ⟨es, clock, h1, h2⟩ := h
 exact ⟨es, clock, (f.block g hl hS).trans h1, h2⟩
theorem MpE.frm {x : κ} {n : Nat} (h : MpE P k enc w g M x n) (f : Frm S w w') (hS : g ∉ S) : MpE P k enc w' g M x n := by
 have hl := h.mp.lt
 obtain ⟨es, clock, h1, h2⟩ := h
 exact ⟨es, clock, (f.block g hl hS).trans h1, h2⟩
theorem MpF.drawn (h : MpF P k enc w g M) (hd : qP w w') : MpF P k enc w' g M := by
 obtain ⟨m, rfl⟩ := hd
 exact h
theorem MpF.ne_blk {b : Nat} {t : TypeId} {cs : Array Value} (h : MpF P k enc w g M) (hb : Blk w b t cs) : g ≠ b := by
 rintro rfl
 obtain ⟨es, clock, h1, _⟩ := h
 rw [show w.heap[g]? = _ from hb] at h1
 cases h1
theorem MpF.new : MpF P k enc (w.alloc (.map #[] 0)) w.heap.size (fun _ : κ => none) := by
 refine ⟨[], 0, (MapKept.heap_alloc w _).1, jp, List.Pairwise.nil, fun x v => ?_⟩
 simp
theorem mW (w : World) (g : Nat) (o : Obj) : Frm [g] w (ChangeMaps.setBlock w g o) :=
 ⟨rfl, rfl, rfl, by simp [ChangeMaps.setBlock], fun i _ hi => by
  unfold ChangeMaps.setBlock
  simp only [Array.getElem?_setIfInBounds]
  rw [if_neg (fun e => hi (by rw [e]; simp))]⟩
theorem qXu {t e : TypeId} {z : Value} {x : κ} {kl : Lit} (h : MpF P k enc w g M) (K : Keyed P k) (ht : P.underlying t = some (.map k e)) (hz : (zeroValue e).run P w = .ok z w) (hkey : keyOf P k (enc x) = some kl) :
  (Instr.lookup t (.map (some g)) (enc x) false).run P w = .ok ((M x).getD z) w := by
 obtain ⟨es, clock, hb, h2, h3, h4⟩ := h
 rcases K.find w hkey es (fun e he => (h2 e he).1) with ⟨h5, h6⟩ | ⟨j, e0, h5, h6, h7⟩
 ·
  have hM : M x = none := by
   cases hm : M x with
   | none => rfl
   | some v =>
    obtain ⟨e1, he1, he2, _⟩ := (h4 x v).1 hm
    exact absurd he2 (h6 e1 he1)
  rw [hM]
  simp [Instr.lookup, run_underlying ht, MapKept.run_getObj_map hb, K.check w _ hkey, h5, hz, Result.andThen]
 have hM : M x = some e0.val := (h4 x e0.val).2 ⟨e0, zcm h6, h7, rfl⟩
 rw [hM]
 simp [Instr.lookup, run_underlying ht, MapKept.run_getObj_map hb, K.check w _ hkey, h5, Result.andThen]
end
section
variable {P : Program} {k : TypeId} {κ : Type} {enc : κ → Value} {w : World} {g : Nat} {M : κ → Option Value} {Γ : Env} {dst : Option Tmp} {T : TypeId} {pos : String} {after : Array Edge} {gd : Option (Nat × Bool)}
theorem qK.makeMap {t : TypeId} : qK P ⟨dst, .makeMap t none, T, pos, after, gd⟩ Γ w (fun r w' => r = .map (some w.heap.size) ∧ MpF P k enc w' w.heap.size (fun _ : κ => none) ∧ Frm [] w w' ∧ w'.heap.size = w.heap.size + 1) := fun ρ _ =>
 ⟨_, w.alloc (.map #[] 0), by simp [execOp, run_makeMap], rfl, MpF.new, (Frm.refl [] w).alloc _, jp⟩
theorem Run.lookup {t e : TypeId} {a b : Operand} {z : Value} {x : κ} {kl : Lit} (ha : ev? Γ a = some (.map (some g))) (hb : ev? Γ b = some (enc x)) (h : MpF P k enc w g M) (K : Keyed P k) (ht : P.underlying t = some (.map k e)) (hz : ∀ w, (zeroValue e).run P w = .ok z w) (hkey : keyOf P k (enc x) = some kl) :
  Run P ⟨dst, .lookup t a b false, T, pos, after, gd⟩ Γ w ((M x).getD z) := fun ρ hρ => by
 simp [execOp, hρ _ _ ha, hρ _ _ hb, qXu h K ht (hz w) hkey]
end
end
section
open Go.RowKit
open Go.Maps (Keyed)
section
variable {P : Program} {k : TypeId} {κ : Type} {enc : κ → Value} {w w' : World} {g : Nat} {M : κ → Option Value} {S : List Nat}
theorem qJf [DecidableEq κ] {t e : TypeId} {x : κ} {kl : Lit} {v : Value} (h : MpF P k enc w g M) (K : Keyed P k) (henc : ∀ a b, enc a = enc b → a = b) (ht : P.underlying t = some (.map k e)) (hkey : keyOf P k (enc x) = some kl) :
  ∃ w' : World, (Instr.mapUpdate t (.map (some g)) (enc x) v).run P w = .ok () w' ∧ MpF P k enc w' g (fun y => if y = x then some v else M y) ∧ Frm [g] w w' ∧ w'.heap.size = w.heap.size := by
 have hlt := h.lt
 obtain ⟨es, clock, hb, h2, h3, h4⟩ := h
 rcases K.find w hkey es (fun e he => (h2 e he).1) with ⟨h5, h6⟩ | ⟨j, e0, h5, h6, h7⟩
 ·
  refine ⟨ChangeMaps.setBlock w g (.map (es ++ [(⟨enc x, v, clock⟩ : MapEntry)]).toArray (clock + 1)), ?_, ⟨es ++ [(⟨enc x, v, clock⟩ : MapEntry)], clock + 1, ?_, ?_, ?_, ?_⟩, mW w g _, by simp [ChangeMaps.setBlock]⟩
  · simp [Instr.mapUpdate, run_underlying ht, MapKept.run_getObj_map hb, K.check w _ hkey, h5, MapKept.run_setObj_map _ hb, Result.andThen, ChangeMaps.setBlock]
  · simp [ChangeMaps.setBlock, hlt]
  ·
   intro e1 he1
   rcases zfb.1 he1 with he1 | he1
   · exact ⟨(h2 e1 he1).1, by have := (h2 e1 he1).2; omega⟩
   rw [zc] at he1
   subst he1
   exact ⟨⟨kl, hkey⟩, Nat.lt_succ_self _⟩
  ·
   refine List.pairwise_append.2 ⟨h3, jp, fun a ha b hb2 => ?_⟩
   rw [zc] at hb2
   subst hb2
   exact ⟨by have := (h2 a ha).2; dsimp only; omega, h6 a ha⟩
  intro y u
  dsimp only
  by_cases hy : y = x
  ·
   subst hy
   rw [if_pos rfl]
   constructor
   ·
    intro hv
    simp only [Option.some.injEq] at hv
    exact ⟨⟨enc y, v, clock⟩, jp, rfl, hv⟩
   rintro ⟨e1, he1, he2, he3⟩
   rcases zfb.1 he1 with he1 | he1
   · exact absurd he2 (h6 e1 he1)
   rw [zc] at he1
   subst he1
   simpa using he3
  rw [if_neg hy]
  constructor
  ·
   intro hv
   obtain ⟨e1, he1, he2⟩ := (h4 y u).1 hv
   exact ⟨e1, by simp [he1], he2⟩
  rintro ⟨e1, he1, he2, he3⟩
  rcases zfb.1 he1 with he1 | he1
  · exact (h4 y u).2 ⟨e1, he1, he2, he3⟩
  rw [zc] at he1
  subst he1
  exact absurd (henc _ _ he2).symm hy
 have hkey0 : ({ e0 with key := enc x, val := v } : MapEntry) = { e0 with val := v } := by rw [← h7]
 have hmod : es.modify j (fun e => { e with key := enc x, val := v }) = es.set j { e0 with val := v } := by
  rw [ChangeMaps.modify_eq_set _ _ _ _ h6, hkey0]
 have hjl := (List.getElem?_eq_some_iff.1 h6).1
 have ej : es[j] = e0 := by rw [zd hjl] at h6; exact Option.some.inj h6
 have he0 : e0 ∈ es := zcm h6
 have who : ∀ e1 ∈ es.set j { e0 with val := v }, e1 = { e0 with val := v } ∨ (e1 ∈ es ∧ e1.key ≠ e0.key ∧ e1.born ≠ e0.born) := by
  intro e1 he1
  obtain ⟨i, hi, ex⟩ := zag he1
  rw [List.getElem_set] at ex
  split at ex
  · exact .inl ex.symm
  rename_i hne
  have hi' : i < es.length := by simpa using hi
  refine .inr ⟨ex ▸ zw hi', ?_⟩
  rcases Nat.lt_or_gt_of_ne hne with h5 | h5
  ·
   have := List.pairwise_iff_getElem.1 h3 j i hjl hi' h5
   rw [ej, ex] at this
   exact ⟨this.2.symm, this.1.symm⟩
  have := List.pairwise_iff_getElem.1 h3 i j hi' hjl h5
  rw [ej, ex] at this
  exact ⟨this.2, this.1⟩
 have back : ∀ e1 ∈ es, e1.key ≠ e0.key → e1 ∈ es.set j { e0 with val := v } := by
  intro e1 he1 hne
  obtain ⟨i, hi, ex⟩ := zag he1
  have hij : j ≠ i := by
   rintro rfl
   rw [zd hi, ex] at h6
   exact hne (by rw [Option.some.inj h6])
  have : (es.set j { e0 with val := v })[i]? = some e1 := by rw [zdl hij, zd hi, ex]
  exact zcm this
 have hmem : ({ e0 with val := v } : MapEntry) ∈ es.set j { e0 with val := v } := by
  have : (es.set j { e0 with val := v })[j]? = some { e0 with val := v } := by rw [zco hjl]
  exact zcm this
 have hstay := K.stays w hkey
 refine ⟨ChangeMaps.setBlock w g (.map (es.set j { e0 with val := v }).toArray clock), ?_, ⟨es.set j { e0 with val := v }, clock, by simp [ChangeMaps.setBlock, hlt], ?_, ?_, ?_⟩, mW w g _, by simp [ChangeMaps.setBlock]⟩
 · simp [Instr.mapUpdate, run_underlying ht, MapKept.run_getObj_map hb, K.check w _ hkey, h5, h6, h7, hstay, MapKept.run_setObj_map _ hb, Result.andThen, ChangeMaps.setBlock, hmod]
 ·
  intro e1 he1
  rcases who e1 he1 with rfl | ⟨h5, _⟩
  · exact h2 e0 he0
  exact h2 e1 h5
 ·
  rw [List.pairwise_iff_getElem]
  intro a b ha hb2 hab
  have ha' : a < es.length := by simpa using ha
  have hb' : b < es.length := by simpa using hb2
  have h5 := List.pairwise_iff_getElem.1 h3 a b ha' hb' hab
  rw [List.getElem_set, List.getElem_set]
  by_cases h6 : j = a
  ·
   subst h6
   rw [if_pos rfl, if_neg jo]
   rw [ej] at h5
   exact h5
  rw [if_neg h6]
  by_cases h7 : j = b
  ·
   subst h7
   rw [if_pos rfl]
   rw [ej] at h5
   exact h5
  rw [if_neg h7]
  exact h5
 intro y u
 dsimp only
 by_cases hy : y = x
 ·
  subst hy
  rw [if_pos rfl]
  constructor
  ·
   intro hu
   exact ⟨_, hmem, h7, by simpa using hu⟩
  rintro ⟨e1, he1, he2, he3⟩
  rcases who e1 he1 with rfl | ⟨_, h6, _⟩
  · simpa using he3
  exact absurd (he2.trans h7.symm) h6
 rw [if_neg hy]
 constructor
 ·
  intro hu
  obtain ⟨e1, he1, he2, he3⟩ := (h4 y u).1 hu
  exact ⟨e1, back e1 he1 (fun e => hy (henc _ _ (by rw [← he2, ← h7, e]))), he2, he3⟩
 rintro ⟨e1, he1, he2, he3⟩
 rcases who e1 he1 with rfl | ⟨h5, _, _⟩
 · exact absurd (henc _ _ (h7.symm.trans he2)).symm hy
 exact (h4 y u).2 ⟨e1, h5, he2, he3⟩
end
section
variable {P : Program} {k : TypeId} {κ : Type} {enc : κ → Value} {w : World} {g : Nat} {M : κ → Option Value} {Γ : Env} {dst : Option Tmp} {T : TypeId} {pos : String} {after : Array Edge} {gd : Option (Nat × Bool)}
theorem qH.mapUpd [DecidableEq κ] {t e : TypeId} {a b c : Operand} {x : κ} {kl : Lit} {v : Value} (ha : ev? Γ a = some (.map (some g))) (hb : ev? Γ b = some (enc x)) (hc : ev? Γ c = some v) (h : MpF P k enc w g M) (K : Keyed P k) (henc : ∀ a b, enc a = enc b → a = b) (ht : P.underlying t = some (.map k e)) (hkey : keyOf P k (enc x) = some kl) :
  qH P ⟨dst, .mapUpdate t a b c, T, pos, after, gd⟩ Γ w (fun w' => MpF P k enc w' g (fun y => if y = x then some v else M y) ∧ Frm [g] w w' ∧ w'.heap.size = w.heap.size) := fun ρ hρ => by
 obtain ⟨w', h1, h2⟩ := qJf (t := t) (v := v) h K henc ht hkey
 exact ⟨w', by simp [execOp, hρ _ _ ha, hρ _ _ hb, hρ _ _ hc, h1], h2⟩
end
end
section
open Go.RowKit
section
variable {P : Program} {w : World} {g : Nat} {e : TypeId}
theorem Blk.setCells : ∀ (vs : List Value) (o : Nat) (w : World) (cs : Array Value), Blk w g e cs → o + vs.length ≤ cs.size → Blk (w.setCells g o vs) g e (cs.toList.take o ++ vs ++ cs.toList.drop (o + vs.length)).toArray
 | [], o, w, cs, h, _ => by
  simp only [World.setCells, zbk, Nat.add_zero, zcc, zbx]
  exact h
 | v :: r, o, w, cs, h, hl => by
  have hl' : o + (r.length + 1) ≤ cs.size := hl
  have ih := Blk.setCells r (o + 1) (w.setCell ⟨g, o, none⟩ v) (cs.setIfInBounds o v) (h.set o v) (by rw [Array.size_setIfInBounds]; omega)
  rw [World.setCells]
  have e1 : (cs.setIfInBounds o v).toList = cs.toList.set o v := zdv ..
  have hsz : o < cs.toList.length := by rw [zcf]; omega
  have e2 : (cs.toList.set o v).take (o + 1) = cs.toList.take o ++ [v] := by
   rw [List.take_set, List.set_eq_take_append_cons_drop, if_pos (by rw [zp]; omega), zeo, zas jo]
   congr 2
   rw [zbg (by rw [zp]; omega)]
  have e3 : (cs.toList.set o v).drop (o + 1 + r.length) = cs.toList.drop (o + 1 + r.length) := by
   rw [List.drop_set, if_pos jo]
  rw [e1, e2, e3] at ih
  have e4 : cs.toList.take o ++ [v] ++ r ++ cs.toList.drop (o + 1 + r.length) = cs.toList.take o ++ v :: r ++ cs.toList.drop (o + (v :: r).length) := by
   rw [zbi, show o + (r.length + 1) = o + 1 + r.length by omega]
   simp
  rw [e4] at ih
  exact ih
theorem Frm.setCells : ∀ (vs : List Value) (o : Nat) (w : World), Frm [g] w (w.setCells g o vs) ∧ (w.setCells g o vs).heap.size = w.heap.size
 | [], o, w => ⟨Frm.refl _ _, rfl⟩
 | v :: r, o, w => by
  obtain ⟨h1, h2⟩ := Frm.setCells r (o + 1) (w.setCell ⟨g, o, none⟩ v)
  exact ⟨(Frm.set1 w ⟨g, o, none⟩ v).trans h1 (fun x hx => .inl hx), h2.trans jp⟩
theorem uE (vs : List Value) (o : Nat) (w : World) (cs : Array Value) (h : Blk w g e cs) (hl : o + vs.length ≤ cs.size) (h1 : ∀ v ∈ vs, v.oneCell' = true) : (storeCells ⟨g, o, none⟩ vs).run P w = .ok () (w.setCells g o vs) := by
 have := run_storeCells_cells (P := P) g o vs 0 w (fun j hj => by
  rw [h.cell, zdx jo]; rfl) (fun j _ => h.frozen _) h1
 simpa using this
theorem mY {size m c : Nat} {A : Option Addr} {ys : List Value} (hr : Rd w size A m ys) : (Builtin.firstCells size m (.slice A m c)).run P w = .ok ys.toArray w := by
 rcases zcs m with hm | hm
 ·
  subst hm
  have hn0 : ys = [] := zam (by simpa using hr.1)
  subst hn0
  cases A <;> simp [Builtin.firstCells, loadCells, loadCellsFrom]
 obtain ⟨ad, rfl, _, hcell⟩ := hr.2 hm
 have hl := run_loadCells_list (P := P) w ad ys hcell
 rw [hr.1] at hl
 simp [Builtin.firstCells, hl]
theorem xI {size m m' c : Nat} {A : Option Addr} {ys : List Value} (hr : Rd w size A m ys) : (Builtin.firstCells size m (.slice A m' c)).run P w = .ok ys.toArray w := by
 have h := mY (P := P) (c := c) hr
 cases A <;> exact h
theorem Own.more {size n N cap : Nat} {xs : List Value} (h : Own w e size (some ⟨g, 0, none⟩) n cap xs) (h1 : n ≤ N) (h2 : N ≤ cap) : ∃ zs, Own w e size (some ⟨g, 0, none⟩) N cap (xs ++ zs) ∧ zs.length = (N - n) * size := by
 have hl := h.len
 rcases h.cases with ⟨h0, _⟩ | ⟨g', cur, hA, hb, hnc, hc, hs, ht⟩
 · cases h0
 cases hA
 have hm1 : n * size ≤ N * size := zaz _ h1
 have hm2 : N * size ≤ cap * size := zaz _ h2
 refine ⟨(cur.toList.take (N * size)).drop (n * size), ⟨?_, .inr ⟨g, cap, cur, rfl, zad _, hb, h2, hc, hs, ?_⟩⟩, ?_⟩
 ·
  rw [zf, hl, zaf, zp, zcf, hs]
  omega
 ·
  have e1 : cur.toList.take (n * size) = xs := ht
  have e2 : (cur.toList.take (N * size)).take (n * size) = xs := by rw [zeo, zas hm1, e1]
  conv => rhs; rw [← e2]
  rw [zbx]
 rw [zaf, zp, zcf, hs, Nat.sub_mul]
 omega
theorem Own.write {size N cap o : Nat} {xs ys : List Value} (h : Own w e size (some ⟨g, 0, none⟩) N cap xs) (hle : o + ys.length ≤ xs.length) (h1 : ∀ v ∈ ys, v.oneCell' = true) :
  (storeCells ⟨g, o, none⟩ ys).run P w = .ok () (w.setCells g o ys) ∧ Own (w.setCells g o ys) e size (some ⟨g, 0, none⟩) N cap (xs.take o ++ ys ++ xs.drop (o + ys.length)) ∧ Frm [g] w (w.setCells g o ys) ∧ (w.setCells g o ys).heap.size = w.heap.size := by
 have hl := h.len
 rcases h.cases with ⟨h0, _⟩ | ⟨g', cur, hA, hb, hnc, hc, hs, ht⟩
 · cases h0
 cases hA
 have hm : N * size ≤ cap * size := zaz _ hnc
 have e1 : cur.toList.take (N * size) = xs := ht
 have hcl : cur.toList.length = cap * size := by rw [zcf, hs]
 refine ⟨uE ys o w cur hb jo h1, ⟨?_, .inr ⟨g, cap, _, rfl, zad _, Blk.setCells ys o w cur hb jo, hnc, hc, ?_, ?_⟩⟩, Frm.setCells ys o w⟩
 ·
  rw [zf, zf, zp, zaf]
  omega
 ·
  simp only [zdd, zf, zp, zaf]
  omega
 show (cur.toList.take o ++ ys ++ cur.toList.drop (o + ys.length)).take (N * size) = _
 have hAB : (cur.toList.take o ++ ys).length = o + ys.length := by rw [zf, zp]; omega
 rw [← e1, zeo, zas jo, List.take_append, zt jo, hAB, List.drop_take]
theorem qK.copyOwn {Γ : Env} {dst : Option Tmp} {T : TypeId} {pos : String} {after : Array Edge} {gd : Option (Nat × Bool)} {x y : Operand} {dT sT : TypeId} {size N cap o dLen dCap sLen sCap : Nat} {A : Option Addr} {xs ys : List Value}
  (hx : ev? Γ x = some (.slice (some ⟨g, o, none⟩) dLen dCap)) (hy : ev? Γ y = some (.slice A sLen sCap)) (ht : P.underlying dT = some (.slice e)) (hz : ∀ w, (sizeOf e).run P w = .ok size w)
  (ho : Own w e size (some ⟨g, 0, none⟩) N cap xs) (n : Nat) (hr : Rd w size A n ys) (hn : Nat.min sLen dLen = n) (hle : o + ys.length ≤ xs.length) (h1 : ∀ v ∈ ys, v.oneCell' = true) :
  qK P ⟨dst, .call ⟨.builtin .copy, #[x, y], #[dT, sT]⟩, T, pos, after, gd⟩ Γ w
   (fun r w' => r = .int .i64 ((n : Nat) : Int) ∧ Own w' e size (some ⟨g, 0, none⟩) N cap (xs.take o ++ ys ++ xs.drop (o + ys.length)) ∧ Frm [g] w w' ∧ w'.heap.size = w.heap.size) := fun ρ hρ => by
 obtain ⟨h2, h3, h4, h5⟩ := ho.write (P := P) hle h1
 refine ⟨_, w.setCells g o ys, ?_, rfl, h3, h4, h5⟩
 have hf := xI (P := P) (m' := sLen) (c := sCap) hr
 simp [execOp, resolve, invoke, builtin, hρ _ _ hx, hρ _ _ hy, Builtin.copy_, run_underlying ht, Builtin.lenOf, hz, hn, hf, h2, goInt]
theorem qK.appIn {Γ : Env} {dst : Option Tmp} {T : TypeId} {pos : String} {after : Array Edge} {gd : Option (Nat × Bool)} {x y : Operand} {t : TypeId} {size N cap n m c2 : Nat} {A : Option Addr} {xs ys : List Value}
  (hx : ev? Γ x = some (.slice (some ⟨g, 0, none⟩) n cap)) (hy : ev? Γ y = some (.slice A m c2)) (ht : P.underlying t = some (.slice e)) (hz : ∀ w, (sizeOf e).run P w = .ok size w)
  (ho : Own w e size (some ⟨g, 0, none⟩) N cap xs) (hr : Rd w size A m ys) (hle : n + m ≤ N) (h1 : ∀ v ∈ ys, v.oneCell' = true) :
  qK P ⟨dst, .call ⟨.builtin .append, #[x, y], #[t, t]⟩, T, pos, after, gd⟩ Γ w
   (fun r w' => r = .slice (some ⟨g, 0, none⟩) (n + m) cap ∧ Own w' e size (some ⟨g, 0, none⟩) N cap (xs.take (n * size) ++ ys ++ xs.drop ((n + m) * size)) ∧ Frm [g] w w' ∧ w'.heap.size = w.heap.size) := fun ρ hρ => by
 have hyl := hr.1
 have hxl := ho.len
 have hm1 : (n + m) * size ≤ N * size := zaz _ hle
 have hm2 : (n + m) * size = n * size + m * size := Nat.add_mul _ _ _
 obtain ⟨h2, h3, h4, h5⟩ := ho.write (P := P) (o := n * size) (ys := ys) jo h1
 rw [hyl, ← hm2] at h3
 have hnc := ho.le
 refine ⟨_, w.setCells g (n * size) ys, ?_, rfl, h3, h4, h5⟩
 have hf := mY (P := P) (c := c2) hr
 have hadd : (⟨g, 0, none⟩ : Addr).add (n * size) = ⟨g, n * size, none⟩ := by unfold Addr.add; split <;> simp_all
 have hroom : n + m ≤ cap := jo
 simp [execOp, resolve, invoke, builtin, hρ _ _ hx, hρ _ _ hy, Builtin.append_, run_underlying ht, Builtin.lenOf, hz, hf, h2, hadd, hroom]
theorem dO (z : Array Value) (n : Nat) : (Builtin.zeroCells z n).size = n * z.size := by simp [Builtin.zeroCells]
theorem Rd.drew {size n : Nat} {A : Option Addr} {xs : List Value} (h : Rd w size A n xs) : Rd w.drew size A n xs := ⟨h.1, fun hn => by
 obtain ⟨ad, h1, h2, h3⟩ := h.2 hn
 exact ⟨ad, h1, h2, h3⟩⟩
theorem qK.appMake {Γ : Env} {dst : Option Tmp} {T : TypeId} {pos : String} {after : Array Edge} {gd : Option (Nat × Bool)} {x y : Operand} {t t2 : TypeId} {kn kq : IntKind} {z : Value} {size bytes cap n k : Nat} {A : Option Addr} {xs : List Value}
    (hx : ev? Γ x = some (.slice A n cap)) (hy : ev? Γ y = some (.int kq (k : Int))) (ht : P.underlying t = some (.slice e)) (ht2 : P.underlying t2 = some (.int kn)) (hi : (P.info? e).map (fun i => (i.zero, i.size, i.bytes)) = some (some z, size, bytes)) (hzs : z.cells.size = size) (hsz : 0 < size)
    (hr : Rd w size A n xs) (hk : 0 < k) (hroom : cap < n + k) (h63 : n + k ≤ 4611686018427387904) (hb : (n + k) * bytes ≤ 140737488355328) (hcn : n ≤ cap) :
    qK P ⟨dst, .call ⟨.builtin .append, #[x, y], #[t, t2]⟩, T, pos, after, gd⟩ Γ w
      (fun r w' => ∃ c' zs, r = .slice (some ⟨w.heap.size, 0, none⟩) (n + k) c' ∧ Own w' e size (some ⟨w.heap.size, 0, none⟩) (n + k) c' (xs ++ zs) ∧ zs.length = k * size ∧ Frm [] w w') := fun ρ hρ => by
  obtain ⟨i0, hi0, hz0, hz1, hz2⟩ := info_parts hi
  have hf : (Builtin.firstCells i0.size n (.slice A n cap)).run P w.drew = .ok xs.toArray w.drew := by
    rw [hz1]; exact mY hr.drew
  have hkb : k * i0.bytes ≤ 281474976710656 := by
    rw [hz2]
    have : k * bytes ≤ (n + k) * bytes := zaz _ jo
    omega
  have hnx : Builtin.nextslicecap (n + k) cap * i0.bytes ≤ 281474976710656 := by
    rw [hz2]
    exact growslice_fits hroom hb
  have hrun := Lib.run_append_grow_zeros (P := P) w t t2 T e i0 z kq kn ht ht2 hi0 hz0 A n cap xs hf k hk jo hroom jo hkb hnx
  have hge := grownCap_ge w (n + k) cap e
  have hle := grownCap_le_maxLen w (n + k) cap e (by show n + k ≤ maxLen; have : (4611686018427387904 : Nat) ≤ maxLen := by decide
                                                     omega)
  have hms : (n + k) * size ≤ grownCap w (n + k) cap e * size := zaz _ hge
  have hdist : (n + k) * size = n * size + k * size := Nat.add_mul _ _ _
  have hsub : (grownCap w (n + k) cap e - (n + k)) * size = grownCap w (n + k) cap e * size - (n + k) * size := Nat.sub_mul _ _ _
  obtain ⟨cur, hcur⟩ : ∃ cur, cur = xs.toArray ++ Builtin.zeroCells z.cells k ++ Builtin.zeroCells z.cells (grownCap w (n + k) cap e - (n + k)) := ⟨_, rfl⟩
  rw [← hcur] at hrun
  refine ⟨_, w.drew.alloc (.cells cur e), ?_, grownCap w (n + k) cap e, (Builtin.zeroCells z.cells k).toList, rfl, ⟨?_, .inr ⟨w.heap.size, grownCap w (n + k) cap e, cur, rfl, zad _, Blk.new w.drew e cur, hge, hle, ?_, ?_⟩⟩, ?_, ?_⟩
  · simp only [execOp, resolve, invoke, builtin, zer, zby, zdr, hρ _ _ hx, hρ _ _ hy, Sem.run_bind, Sem.run_pure, Result.andThen_ok, hrun]
  · rw [zf, hr.1, zcf, dO, hzs, hdist]
  · rw [hcur]
    simp only [zfg, dO, hzs, zdd, hr.1, hsub]
    omega
  · rw [hcur, Array.toList_append, Array.toList_append, zax (by simp only [zf, zcf, dO, hzs, zdd, hr.1]; omega), zt (by simp only [zf, zcf, dO, hzs, zdd, hr.1]; omega)]
  · rw [zcf, dO, hzs]
  · exact ((Frm.refl [] w).drew).alloc _
theorem Run.capS {Γ : Env} {dst : Option Tmp} {T : TypeId} {pos : String} {after : Array Edge} {gd : Option (Nat × Bool)} {t : TypeId} {x : Operand} {a : Option Addr} {len cap : Nat} (hx : ev? Γ x = some (.slice a len cap)) (ht : P.underlying t = some (.slice e)) :
  Run P ⟨dst, .call ⟨.builtin .cap, #[x], #[t]⟩, T, pos, after, gd⟩ Γ w (.int .i64 ((cap : Nat) : Int)) := fun ρ hρ => by
 simp [execOp, resolve, invoke, builtin, Builtin.cap_, hρ _ _ hx, run_underlying ht, goInt]
theorem Run.ext2 {Γ : Env} {dst : Option Tmp} {T : TypeId} {pos : String} {after : Array Edge} {gd : Option (Nat × Bool)} {f : FuncId} {x y : Operand} {a b v : Value} {ts : Array TypeId} (hx : ev? Γ x = some a) (hy : ev? Γ y = some b) (h : (callFunc f #[a, b]).run P w = .ok (.value v) w) :
  Run P ⟨dst, .call ⟨.value (.func f), #[x, y], ts⟩, T, pos, after, gd⟩ Γ w v := fun ρ hρ => by
 have e2 : ρ (.func f) = .func (.func f) #[] #[] := hρ _ _ rfl
 simp [execOp, resolve, e2, Deferred.ofValue, invoke, hρ _ _ hx, hρ _ _ hy, h]
theorem kH {cap i sz : Nat} (hi : i < cap) : dU (some (⟨g, 0, none⟩ : Addr)) cap i sz = some ⟨g, i * sz, none⟩ := by
 unfold dU
 rw [if_neg jo, zda, lD]
theorem Blk.shape {t : TypeId} {cs : Array Value} (h : Blk w g t cs) : w.shape? g = some (t, cs.size) := by
 unfold Blk at h
 simp [World.shape?, h]
theorem Run.geqT {Γ : Env} {dst : Option Tmp} {T : TypeId} {pos : String} {after : Array Edge} {gd : Option (Nat × Bool)} {t yT : TypeId} {x y : Operand} {a b : List UInt8} (hx : ev? Γ x = some (encStr a)) (hy : ev? Γ y = some (encStr b)) : Run P ⟨dst, .binOp .geq t x y yT, T, pos, after, gd⟩ Γ w (.bool (!decide (a < b))) := fun ρ hρ => by
 have e : Op.bytesLess a b = decide (a < b) := Go.Proofs.bytesLess_eq _ _
 have hx2 : ev? Γ x = some (.string ⟨a.toArray⟩) := hx
 have hy2 : ev? Γ y = some (.string ⟨b.toArray⟩) := hy
 rw [← e]
 simp [execOp, hρ _ _ hx2, hρ _ _ hy2, eqGuard, binOp, Op.stringOp, ByteArray.toList_eq]
theorem Run.leqT {Γ : Env} {dst : Option Tmp} {T : TypeId} {pos : String} {after : Array Edge} {gd : Option (Nat × Bool)} {t yT : TypeId} {x y : Operand} {a b : List UInt8} (hx : ev? Γ x = some (encStr a)) (hy : ev? Γ y = some (encStr b)) : Run P ⟨dst, .binOp .leq t x y yT, T, pos, after, gd⟩ Γ w (.bool (!decide (b < a))) := fun ρ hρ => by
 have e : Op.bytesLess a b = decide (a < b) := Go.Proofs.bytesLess_eq _ _
 have e2 : (decide (a < b) || (a == b)) = !decide (b < a) := by
  rw [zcz]
  simp only [Bool.or_eq_true, decide_eq_true_eq, beq_iff_eq, zdf, decide_eq_false_iff_not]
  constructor
  ·
   rintro (h | h) h2
   · exact zen _ (List.lt_trans h h2)
   rw [h] at h2; exact zen _ h2
  intro h
  rcases Classical.em (a < b) with h3 | h3
  · exact .inl h3
  exact .inr (List.le_antisymm (List.not_lt.1 h) (List.not_lt.1 h3))
 have hx2 : ev? Γ x = some (.string ⟨a.toArray⟩) := hx
 have hy2 : ev? Γ y = some (.string ⟨b.toArray⟩) := hy
 rw [← e2, ← e]
 simp [execOp, hρ _ _ hx2, hρ _ _ hy2, eqGuard, binOp, Op.stringOp, ByteArray.toList_eq]
end
end
section
open Go.RowKit
section
variable {P : Program} {n : NF} {ops : Array Oper} {S : World → Prop} {Pn : List PanicEntry → World → Prop} {L fuel : Nat} {listed : Array Bool} {Γ : Env} {w : World} {K : Env → World → Prop}
end
theorem qK.make0 {P : Program} {Γ : Env} {w : World} {dst : Option Nat} {T : TypeId} {pos : String} {after : Array Edge} {g : Option (Nat × Bool)} {t e : TypeId} {x y : Operand} {z : Value} {size bytes c : Nat} {k k' : IntKind} (hx : ev? Γ x = some (.int k ((0 : Nat) : Int))) (hy : ev? Γ y = some (.int k' (c : Int)))
  (ht : P.underlying t = some (.slice e)) (hi : (P.info? e).map (fun i => (i.zero, i.size, i.bytes)) = some (some z, size, bytes)) (hb : bytes * c ≤ 281474976710656) (hc : c ≤ 9223372036854775807) :
  qK P ⟨dst, .makeSlice t x y, T, pos, after, g⟩ Γ w (fun r w' => r = .slice (some ⟨w.heap.size, 0, none⟩) 0 c ∧ Own w' e size (some ⟨w.heap.size, 0, none⟩) 0 c [] ∧ Frm [] w w' ∧ w'.heap.size = w.heap.size + 1) := fun ρ hρ => by
 obtain ⟨i, hi1, hi2⟩ := Option.map_eq_some_iff.1 hi
 simp only [Prod.mk.injEq] at hi2
 obtain ⟨hz, hsz, hbt⟩ := hi2
 have hr := run_make (P := P) w t e i z ht hi1 hz k k' ((0 : Nat) : Int) (c : Int) jo jo (by have h := Int.ofNat_le.2 hb; rw [Int.natCast_mul] at h; rw [hbt]; exact h) jo
 simp only [zfh, hsz] at hr
 refine ⟨_, w.alloc (.cells (madeCells z.cells (c * size)) e), ?_, rfl, ?_, (Frm.refl _ _).alloc _, (Fresh.mk' w e _).size⟩
 · simp only [execOp, hρ _ _ hx, hρ _ _ hy, Sem.run_bind, hr, Result.andThen_ok, Sem.run_pure]
 exact ⟨jp, .inr ⟨w.heap.size, c, _, rfl, zad _, Blk.new w e _, zad _, by simp [maxLen]; omega, by rw [size_madeCells], jp⟩⟩
theorem Run.eqNilS {P : Program} {Γ : Env} {w : World} {dst : Option Nat} {T : TypeId} {pos : String} {after : Array Edge} {g : Option (Nat × Bool)} {t yT e : TypeId} {x y : Operand} {A : Option Addr} {n c : Nat} (hx : ev? Γ x = some (.slice A n c)) (hy : ev? Γ y = some (.slice none 0 0)) (ht : P.underlying t = some (.slice e)) :
  Run P ⟨dst, .binOp .eql t x y yT, T, pos, after, g⟩ Γ w (.bool A.isNone) := fun ρ hρ => by
 have h0 : ∀ d : Nat, (Op.equalIn (d + 1) t (.slice A n c) (.slice none 0 0)).run P w = .ok A.isNone w := fun d => by
  cases A <;> simp [Op.equalIn, run_underlying ht]
 have h1 : (Op.equal t (.slice A n c) (.slice none 0 0)).run P w = .ok A.isNone w := h0 9999
 simp [execOp, hρ _ _ hx, hρ _ _ hy, eqGuard, binOp, h1]
theorem Run.slice3 {P : Program} {Γ : Env} {w : World} {dst : Option Nat} {T : TypeId} {pos : String} {after : Array Edge} {g : Option (Nat × Bool)} {t e : TypeId} {x lo hi mx : Operand} {a : Option Addr} {len cap sz : Nat} {k k' k'' : IntKind} (l h m : Nat) (hx : ev? Γ x = some (.slice a len cap)) (ht : P.underlying t = some (.slice e)) (hz : ∀ w, (sizeOf e).run P w = .ok sz w)
  (hlo : ev? Γ lo = some (.int k (l : Int))) (hhi : ev? Γ hi = some (.int k' (h : Int))) (hmx : ev? Γ mx = some (.int k'' (m : Int))) (h1 : l ≤ h) (h2 : h ≤ m) (h3 : m ≤ cap) :
  Run P ⟨dst, .slice t x (some lo) (some hi) (some mx), T, pos, after, g⟩ Γ w (.slice (dU a m l sz) (h - l) (m - l)) := fun ρ hρ => by
 have hb : ∀ (k : IntKind) (r y : Nat) (code : BoundsCode), r ≤ y → (Instr.sliceBound (.int k (r : Int)) y code).run P w = .ok r w := by
  intro k r y code hry
  have := run_sliceBound (P := P) w k (r : Int) y code jo jo
  simpa using this
 have hbb : (Instr.sliceBounds true len cap (some (.int k (l : Int))) (some (.int k' (h : Int))) (some (.int k'' (m : Int)))).run P w = .ok (l, h, m) w := by
  unfold Instr.sliceBounds
  simp [hb _ _ _ _ h1, hb _ _ _ _ h2, hb _ _ _ _ h3]
 simp only [execOp, Instr.sliceAt, Instr.slice, Sem.run_bind, run_underlying ht, Result.andThen_ok, hρ _ _ hx, hρ _ _ hlo, hρ _ _ hhi, hρ _ _ hmx, zda, hbb, hz, Sem.run_pure]
 rfl
end
section
open Go.RowKit
structure Nc where
 nm : Tx
 v : Int
 n : Int
 A : Option Addr
 c : Nat
 l : List Mc
def Nc.cells (x : Nc) : List Value := [encStr x.nm, .int .i64 x.v, .int .i64 x.n, .slice x.A x.l.length x.c]
theorem Nc.cells_len (x : Nc) : x.cells.length = 4 := rfl
theorem Nc.cells_one (x : Nc) : ∀ u ∈ x.cells, u.oneCell' = true := by
 intro u hu
 simp only [Nc.cells, zbj, zcn, or_false] at hu
 rcases hu with rfl | rfl | rfl | rfl <;> rfl
def Nc.p (x : Nc) : NmP := (x.nm, ⟨x.v, x.n, Ms x.l⟩)
abbrev NDC (l : List Nc) : List Value := l.flatMap Nc.cells
abbrev Ns (l : List Nc) : List NmP := l.map Nc.p
theorem eC (l : List Nc) : (NDC l).length = l.length * 4 := sB Nc.cells 4 Nc.cells_len l
theorem dZ (a b : List Nc) : NDC (a ++ b) = NDC a ++ NDC b := List.flatMap_append
theorem fW (l : List Nc) : ∀ u ∈ NDC l, u.oneCell' = true := kU Nc.cells Nc.cells_one l
theorem hZ (l : List Nc) (i : Nat) (hi : i ≤ l.length) : (NDC l).take (i * 4) = NDC (l.take i) := by
 have e1 : NDC l = NDC (l.take i) ++ NDC (l.drop i) := by rw [← dZ, zbx]
 have e2 : (NDC (l.take i)).length = i * 4 := by rw [eC, zp, zas hi]
 rw [e1, zax jo, zt jo]
theorem tV (l : List Nc) (i : Nat) (hi : i ≤ l.length) : (NDC l).drop (i * 4) = NDC (l.drop i) := by
 have e1 : NDC l = NDC (l.take i) ++ NDC (l.drop i) := by rw [← dZ, zbx]
 have e2 : (NDC (l.take i)).length = i * 4 := by rw [eC, zp, zas hi]
 rw [e1, zdp, zbg jo, e2, zdh]
 rfl
structure Nc.At (w : World) (x : Nc) : Prop where
 rd : RdM w x.A x.l
 n : x.l.length ≤ 900000
 q : x.nm.length ≤ 1000000
theorem Nc.At.frm {w w' : World} {x : Nc} (h : x.At w) (k : Frm [] w w') : x.At w' := ⟨h.rd.frm k, h.n, h.q⟩
theorem Mc.At.lt {w : World} {x : Mc} (h : x.At w) (hn : 0 < x.m.flags.length) : ∀ y ∈ ob x.A, y < w.heap.size := h.rd.lt hn
structure RdN (w : World) (A : Option Addr) (l : List Nc) : Prop where
 rd : Rd w 4 A l.length (NDC l)
 el : ∀ x ∈ l, x.At w
theorem RdN.nil (w : World) (A : Option Addr) : RdN w A [] := ⟨Rd.nil _ _ _, jp⟩
theorem RdN.frm {w w' : World} {A : Option Addr} {l : List Nc} (h : RdN w A l) (k : Frm [] w w') : RdN w' A l := ⟨h.rd.frm k jp, fun x hx => (h.el x hx).frm k⟩
theorem RdN.elem {w : World} {A : Option Addr} {l : List Nc} {k : Nat} (h : RdN w A l) (hk : k < l.length) : ∃ ad, A = some ad ∧ ∀ j v, (l[k]).cells[j]? = some v → w.cell? ((ad.add (k * 4)).add j) = some v := by
 obtain ⟨ad, rfl, hc⟩ := h.rd.elem hk
 refine ⟨ad, rfl, fun j v hj => hc j v ?_⟩
 rw [fE Nc.cells 4 Nc.cells_len l k hk]
 exact hj
structure MlC where
 A : Option Addr
 c : Nat
 l : List Nc
 S : Option Addr
 d : Nat
 ss : List Tx
 v : Int
 b : Int
def MlC.cells (m : MlC) : List Value := [.slice m.A m.l.length m.c, .slice m.S m.ss.length m.d, .int .i64 m.v, .int .i64 m.b]
theorem MlC.cells_one (m : MlC) : ∀ u ∈ m.cells, u.oneCell' = true := by
 intro u hu
 simp only [MlC.cells, zbj, zcn, or_false] at hu
 rcases hu with rfl | rfl | rfl | rfl <;> rfl
abbrev MlC.val (m : MlC) : Value := .agg m.cells.toArray
def MlC.p (m : MlC) : MailP := ⟨Ns m.l, m.ss, m.v, m.b⟩
def qD : MlC := ⟨none, 0, [], none, 0, [], 0, 0⟩
structure RdL (w : World) (m : MlC) : Prop where
 l : RdN w m.A m.l
 s : Rd w 1 m.S m.ss.length (SB m.ss)
 lc : m.l.length ≤ m.c
 sc : m.ss.length ≤ m.d
 ln : m.l.length ≤ 1000000
 sn : m.ss.length ≤ 1000000
 sq : ∀ q ∈ m.ss, q.length ≤ 1000000
theorem RdL.frm {w w' : World} {m : MlC} (h : RdL w m) (k : Frm [] w w') : RdL w' m := ⟨h.l.frm k, h.s.frm k jp, h.lc, h.sc, h.ln, h.sn, h.sq⟩
theorem RdL.zero (w : World) : RdL w qD := ⟨RdN.nil _ _, Rd.nil _ _ _, zac _, zac _, zad _, zad _, by intro q hq; cases hq⟩
def mG (w' : World) (F : Except Nat MailP) (m : MlC) (k : Nat) : Prop := RdL w' m ∧ ((k = 0 ∧ F = .ok m.p) ∨ (k ≠ 0 ∧ F = .error k ∧ m = qD))
theorem mG.err {w' : World} {F : Except Nat MailP} {k : Nat} (hk : k ≠ 0) (h : F = .error k) : mG w' F qD k := ⟨RdL.zero _, .inr ⟨hk, h, rfl⟩⟩
theorem mG.frm {w w' : World} {F : Except Nat MailP} {m : MlC} {k : Nat} (h : mG w F m k) (hf : Frm [] w w') : mG w' F m k := ⟨h.1.frm hf, h.2⟩
structure OwN (w : World) (A : Option Addr) (d : Nat) (l : List Nc) : Prop where
 own : Own w 45 4 A l.length d (NDC l)
 el : ∀ x ∈ l, x.At w
theorem OwN.frm {w w' : World} {A : Option Addr} {d : Nat} {l : List Nc} (h : OwN w A d l) (k : Frm [] w w') : OwN w' A d l := ⟨h.own.frm k jp, fun x hx => (h.el x hx).frm k⟩
theorem OwN.nil (w : World) : OwN w none 0 [] := ⟨Own.nil _ _ _, jp⟩
theorem bC (l : List Nc) : (Ns l).length = l.length := zal _
theorem sN {w w' : World} {t : TypeId} {x : Nc} (h : Fresh w w' t (Value.agg x.cells.toArray).cells) : Rd w' 4 (some ⟨w.heap.size, 0, none⟩) 1 (NDC [x]) := Rd.of_blk (n := 1) (size := 4) h.blk rfl
theorem zL {l : List Nc} {k : Nat} (hk : k < l.length) : ((NDC l).drop (k * 4)).take 4 = (l[k]).cells := fE Nc.cells 4 Nc.cells_len l k hk
end
section
open Go.RowKit Go.Sort
theorem uF (s : Tx) (c : UInt8) (w : World) : Calls Tryz.prog 160 #[encStr s, encStr [c]] w fun e w' => e = .returned (.int .i64 (Lib.indexByte s c)) ∧ w = w' :=
 (Tryz.stringslite_Index_one ⟨s.toArray⟩ c w).mono fun e w' ⟨h, hw⟩ => ⟨h, hw.symm⟩
theorem zO (s : Tx) (c : UInt8) (w : World) (hs : s.length ≤ 1000000) : Calls Tryz.prog 163 #[encStr s, encStr [c]] w fun e w' => e = .returned (.tuple #[encStr (cX c s), encStr (gI c s), .bool (decide (c ∈ s))]) ∧ Frm [] w w' := by
 refine VC.calls (nt := 23) (res := #[.tmp 4, .tmp 5, .tmp 6]) Tryz.func163 rfl Tryz.ntmps163 Tryz.results163 rfl ?_
 refine jS (jR (ja rfl (ja rfl (ja rfl (jO (jN (jv2 0 1 ?_)))))))
 refine jS (jS (jR (jm rfl (jM ?_))))
 refine Ops.cl (jE2 Tryz.call160) (uF s c _) rfl ?_
 rintro e _ ⟨rfl, rfl⟩
 refine ⟨_, rfl, ?_⟩
 refine ja rfl (jO (jN (jv3 0 1 7 ?_)))
 refine jS (jR (jm rfl (jb rfl rfl (Bin.geq _ 0) (jO (jN (jv4 0 1 7 12 ?_))))))
 refine jD rfl (fun hc1 => ?_) fun hc1 => ?_
 ·
  obtain ⟨a, b, rfl, hc, hi⟩ := (gR s c).resolve_left (fun h => by rw [h.1] at hc1; omega)
  rw [hi]
  obtain ⟨hb1, hb2⟩ := zG (b := b) hc
  simp only [zf, zbi] at hs
  have e1 : (a ++ c :: b).take a.length = a := jp
  have e2 : (a ++ c :: b).drop (a.length + 1) = b := by rw [zdp, zbg jo]; simp
  refine jS ?_
  refine VC.still jK jK ?_
  refine qM ?_
  refine qM ?_
  refine qE (Run.sliceT 0 a.length rfl zk evB.none_ (evB.some_ rfl) jo jp) ?_
  refine qM ?_
  refine qM ?_
  refine qM ?_
  refine qE (Run.lenT rfl zk) ?_
  refine qE (Run.bin rfl rfl (Bin.add_i64 a.length 1 jo)) ?_
  refine qE (Run.sliceT (a.length + 1) _ rfl zk (evB.some_ rfl) evB.none_ (by first | (simp; done) | (simp; omega)) jp) ?_
  refine qA ?_
  refine qA ?_
  refine qA ?_
  refine bV.nil ?_
  refine jN (jv3 4 5 6 ?_)
  refine jT ?_
  refine qZ (sU rfl rfl rfl ?_)
  refine ⟨?_, (qP.drew _).frm⟩
  rw [hb1, hb2, decide_eq_true jp]
  simp only [zcj, zcd, e1, e2]
  rw [zt (l := b) (by simp; omega)]
 have hc : c ∉ s := by
  rcases gR s c with ⟨_, h⟩ | ⟨a, b, _, _, hi⟩
  · exact h
  rw [hi] at hc1; omega
 obtain ⟨hb1, hb2⟩ := zY hc
 refine jQ (jN (jv1 0 ?_))
 refine jS (jR (jm rfl (ja rfl (ja rfl (ja rfl (jO (jN (jv3 4 5 6 ?_))))))))
 refine jT ?_
 refine sU rfl rfl rfl ?_
 refine ⟨?_, Frm.refl _ _⟩
 rw [hb1, hb2, decide_eq_false hc]
theorem qXv (s : Tx) (c : UInt8) (w : World) (hs : s.length ≤ 1000000) : Calls Tryz.prog 136 #[encStr s, encStr [c]] w fun e w' => e = .returned (.tuple #[encStr (cX c s), encStr (gI c s), .bool (decide (c ∈ s))]) ∧ Frm [] w w' := by
 refine VC.calls (nt := 13) (res := #[.tmp 4, .tmp 5, .tmp 6]) Tryz.func136 rfl Tryz.ntmps136 Tryz.results136 rfl ?_
 refine jS (jR (ja rfl (ja rfl (ja rfl (jO (jN (jv2 0 1 ?_)))))))
 refine jS (jR (jm rfl (jM ?_)))
 refine Ops.cl (jE2 Tryz.call163) (zO s c _ hs) rfl ?_
 rintro e w1 ⟨rfl, hf1⟩
 refine ⟨_, rfl, ?_⟩
 refine je (Run.extract rfl rfl) (je (Run.extract rfl rfl) (je (Run.extract rfl rfl) (ja rfl (ja rfl (ja rfl (jO (jN (jv3 4 5 6 ?_))))))))
 refine jT ?_
 refine sU rfl rfl rfl ?_
 exact ⟨rfl, hf1⟩
end
end Go.Proofs.YtgmbmfpfhcekiaaGreat
