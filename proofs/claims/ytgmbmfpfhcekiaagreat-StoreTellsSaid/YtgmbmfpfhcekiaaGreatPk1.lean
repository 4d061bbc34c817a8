/-
  Lemmas on the way, joined: Shelf, Str, FlagP, FlagW, FlagN, DateP, BoxP, StoP, DateW, DateV, DateU, FlagR, FlagS, FlagT, BoxW, Eng18, Eng20, Eng21, Eng19, StoM, SeqC.
-/
import Derived.Shelf.Small.Bits
import Derived.Shelf.Small.Strs
import Derived.Shelf.Strconv.Itoa0
import Derived.Shelf.Strings.Search1
import Derived.Shelf.Strings.Search2
import Derived.Shelf.Strings.Search3
import Derived.Shelf.Strings.Cut
import Derived.Shelf.LaysM
import Derived.Shelf.Strings.Shaped
import Derived.Shelf.Sort.Plain
import Derived.Shelf.Strings.LastIndex
import Derived.Shelf.GgClosure.StringsIndexFunc
import Derived.Ground.GgwProg
import Derived.Shelf.GgClosure.StringsIndexFuncTop
import Derived.Shelf.GgClosure.StringsRunes
import Derived.Shelf.Strings.Prefix
import Derived.Shelf.Strings.FuncGrows
import Derived.Shelf.Slices.Turned
import Derived.Shelf.Slices.Equal
import Derived.Ground.Names2Prog
import Derived.Shelf.Slices.ReverseS
import Derived.Shelf.Slices.Clone
import Derived.Shelf.Slices.CompactS
import Derived.Shelf.Slices.Delete
import Derived.Shelf.Slices.Cells
import Derived.Shelf.Slices.In.SortNone
import Derived.Shelf.Slices.Empties2
import Derived.Ground.SlgnProg
import Derived.Shelf.SlicesE.Equal
import Derived.Shelf.SlicesE.Compact
import Derived.Ground.SlgfProg
import Derived.Shelf.SlicesE.IndexFunc
import Derived.Shelf.SlicesE.DeleteFunc
import Derived.Shelf.Bytes.SlEqualAll
import Derived.Shelf.Bytes.Small
import Derived.Test.YtgmbmfpfhcekiaaGreatProg
import Derived.Sort.OwnSorted
import Derived.Lib.DecodeN
import Derived.Maps.Keyed
import Derived.DeepKeys4
import Derived.Carry
import Derived.Laws.IdiomCopy
import Derived.Lib.AppendZerosOnto
import Derived.Test.YtgmbmfpfhcekiaaGreatPk0
set_option maxRecDepth 100000
set_option linter.unusedVariables false
set_option linter.unusedSimpArgs false
namespace Go.Proofs.YtgmbmfpfhcekiaaGreat
section
open Go.Shelf
def Tryz.lays125_ren : Go.Shelf.Ren := ⟨fun | 125 => 115 | 128 => 150 | 129 => 151 | n => n, fun | 46 => 141 | 3 => 3 | 51 => 171 | 53 => 40 | 4 => 4 | 5 => 5 | 9 => 9 | n => n, fun | n => n⟩
theorem Tryz.lays125 : Go.Proofs.Lays.n125 Tryz.prog Tryz.lays125_ren := {
 mixed := by kernel_rfl
 f125 := Tryz.func115.trans (congrArg some (by kernel_rfl))
 f128 := Tryz.func150.trans (congrArg some (by kernel_rfl))
 f129 := Tryz.func151.trans (congrArg some (by kernel_rfl))
 t3 := zac
 a3 := zp
 z3 := zn
 v3 := Tryz.zeroValue3
 t4 := zbd
 a4 := zbv
 z4 := zao
 v4 := Tryz.zeroValue4
 t5 := zbx
 a5 := zdd
 z5 := zbk
 v5 := Tryz.zeroValue5
 t9 := zj
 a9 := zx
 z9 := zm
 v9 := Tryz.zeroValue9
 t46 := zcq
 a46 := Tryz.isAgg141
 z46 := Tryz.sizeOf141
 v46 := Tryz.zeroValue141
 t51 := zfc
 a51 := Tryz.isAgg171
 z51 := Tryz.sizeOf171
 v51 := Tryz.zeroValue171
 t53 := zay
 a53 := zk
 z53 := zd
 v53 := Tryz.zeroValue40 }
theorem Tryz.bits_Len (x : Int) (w : World) (h0 : 0 ≤ x) (h1 : x ≤ 18446744073709551615) :
  Calls Tryz.prog 115 #[.int .u64 x] w fun e w' => e = .returned (.int .i64 (Lib.bitLen x.toNat)) ∧ w' = w := Any.bits_Len Tryz.lays125 x w h0 h1
def Tryz.lays137_ren : Go.Shelf.Ren := ⟨fun | 137 => 101 | 217 => 134 | 266 => 161 | n => n, fun | 9 => 9 | 5 => 5 | 3 => 3 | n => n, fun | n => n⟩
theorem Tryz.lays137 : Go.Proofs.Lays.n137 Tryz.prog Tryz.lays137_ren := {
 mixed := by kernel_rfl
 f137 := Tryz.func101.trans (congrArg some (by kernel_rfl))
 f217 := Tryz.func134.trans (congrArg some (by kernel_rfl))
 f266 := Tryz.func161.trans (congrArg some (by kernel_rfl))
 t3 := zac
 a3 := zp
 z3 := zn
 v3 := Tryz.zeroValue3
 t5 := zbx
 a5 := zdd
 z5 := zbk
 v5 := Tryz.zeroValue5
 t9 := zj
 a9 := zx
 z9 := zm
 v9 := Tryz.zeroValue9 }
open Go.RowKit in
theorem Tryz.strings_IndexByte (s : ByteArray) (c : Int) (w : World) :
  Calls Tryz.prog 101 #[.string s, .int .u8 c] w fun e w' => e = .returned (.int .i64 (Lib.indexByte s.data.toList c.toNat.toUInt8)) ∧ w' = w := Any.strings_IndexByte Tryz.lays137 s c w
def Tryz.lays219_ren : Go.Shelf.Ren := ⟨fun | 219 => 160 | 217 => 134 | 225 => 180 | 224 => 181 | 267 => 182 | 266 => 161 | 314 => 194 | n => n, fun | 9 => 9 | 3 => 3 | 4 => 4 | 5 => 5 | 46 => 141 | 146 => 208 | 51 => 171 | n => n, fun | 1 => 0 | n => n⟩
theorem Tryz.lays219 : Go.Proofs.Lays.n219 Tryz.prog Tryz.lays219_ren := {
 mixed := by kernel_rfl
 f217 := Tryz.func134.trans (congrArg some (by kernel_rfl))
 f219 := Tryz.func160.trans (congrArg some (by kernel_rfl))
 f224 := Tryz.func181.trans (congrArg some (by kernel_rfl))
 f225 := Tryz.func180.trans (congrArg some (by kernel_rfl))
 f266 := Tryz.func161.trans (congrArg some (by kernel_rfl))
 f267 := Tryz.func182.trans (congrArg some (by kernel_rfl))
 f314 := Tryz.func194.trans (congrArg some (by kernel_rfl))
 t3 := zac
 a3 := zp
 z3 := zn
 v3 := Tryz.zeroValue3
 t4 := zbd
 a4 := zbv
 z4 := zao
 v4 := Tryz.zeroValue4
 t5 := zbx
 a5 := zdd
 z5 := zbk
 v5 := Tryz.zeroValue5
 t9 := zj
 a9 := zx
 z9 := zm
 v9 := Tryz.zeroValue9
 t46 := zcq
 a46 := Tryz.isAgg141
 z46 := Tryz.sizeOf141
 v46 := Tryz.zeroValue141
 t51 := zfc
 a51 := Tryz.isAgg171
 z51 := Tryz.sizeOf171
 v51 := Tryz.zeroValue171
 t146 := Tryz.underlying208
 a146 := Tryz.isAgg208
 z146 := Tryz.sizeOf208
 v146 := Tryz.zeroValue208
 g1 := by kernel_rfl }
open Go.RowKit Go.Lib in
theorem Tryz.stringslite_Index_one (s : ByteArray) (c : UInt8) (w : World) :
  Calls Tryz.prog 160 #[.string s, .string ⟨#[c]⟩] w fun e w' => e = .returned (.int .i64 (Lib.indexByte s.data.toList c)) ∧ w' = w := Any.stringslite_Index_one Tryz.lays219 s c w
def Tryz.lays144_ren : Go.Shelf.Ren := ⟨fun | 144 => 100 | 143 => 133 | 219 => 160 | 217 => 134 | 225 => 180 | 224 => 181 | 267 => 182 | 266 => 161 | 314 => 194 | n => n, fun | 9 => 9 | 4 => 4 | 3 => 3 | 5 => 5 | 46 => 141 | 146 => 208 | 51 => 171 | n => n, fun | 1 => 0 | n => n⟩
theorem Tryz.lays144 : Go.Proofs.Lays.n144 Tryz.prog Tryz.lays144_ren := {
 mixed := by kernel_rfl
 f143 := Tryz.func133.trans (congrArg some (by kernel_rfl))
 f144 := Tryz.func100.trans (congrArg some (by kernel_rfl))
 f217 := Tryz.func134.trans (congrArg some (by kernel_rfl))
 f219 := Tryz.func160.trans (congrArg some (by kernel_rfl))
 f224 := Tryz.func181.trans (congrArg some (by kernel_rfl))
 f225 := Tryz.func180.trans (congrArg some (by kernel_rfl))
 f266 := Tryz.func161.trans (congrArg some (by kernel_rfl))
 f267 := Tryz.func182.trans (congrArg some (by kernel_rfl))
 f314 := Tryz.func194.trans (congrArg some (by kernel_rfl))
 t3 := zac
 a3 := zp
 z3 := zn
 v3 := Tryz.zeroValue3
 t4 := zbd
 a4 := zbv
 z4 := zao
 v4 := Tryz.zeroValue4
 t5 := zbx
 a5 := zdd
 z5 := zbk
 v5 := Tryz.zeroValue5
 t9 := zj
 a9 := zx
 z9 := zm
 v9 := Tryz.zeroValue9
 t46 := zcq
 a46 := Tryz.isAgg141
 z46 := Tryz.sizeOf141
 v46 := Tryz.zeroValue141
 t51 := zfc
 a51 := Tryz.isAgg171
 z51 := Tryz.sizeOf171
 v51 := Tryz.zeroValue171
 t146 := Tryz.underlying208
 a146 := Tryz.isAgg208
 z146 := Tryz.sizeOf208
 v146 := Tryz.zeroValue208
 g1 := by kernel_rfl }
open Go.RowKit Go.Lib in
theorem Tryz.strings_Contains (s sub : ByteArray) (m : Int) (w : World) (hs : s.size < 4294967281) (hm : w.cell? ⟨0, 0, none⟩ = some (.int .i64 m)) :
  Calls Tryz.prog 100 #[.string s, .string sub] w fun e w' => e = .returned (.bool (Lib.contains s.data.toList sub.data.toList)) ∧ w' = w := Any.strings_Contains Tryz.lays144 s sub m w hs hm
def Tryz.lays190_ren : Go.Shelf.Ren := ⟨fun | 190 => 188 | 125 => 115 | 258 => 202 | 128 => 150 | 129 => 151 | 302 => 205 | 303 => 206 | 304 => 207 | 305 => 208 | 306 => 209 | 307 => 210 | 308 => 120 | 309 => 211 | 310 => 212 | 333 => 214 | 329 => 168 | 330 => 169 | 334 => 215 | 335 => 216 | 336 => 154 | 344 => 217 | n => n, fun | 31 => 23 | 9 => 9 | 3 => 3 | 46 => 141 | 0 => 0 | 51 => 171 | 53 => 40 | 4 => 4 | 183 => 164 | 182 => 163 | 131 => 85 | 5 => 5 | 218 => 182 | 222 => 186 | 228 => 200 | 229 => 201 | n => n, fun | n => n⟩
theorem Tryz.lays190 : Go.Proofs.Lays.n190 Tryz.prog Tryz.lays190_ren := {
 mixed := by kernel_rfl
 f125 := Tryz.func115.trans (congrArg some (by kernel_rfl))
 f128 := Tryz.func150.trans (congrArg some (by kernel_rfl))
 f129 := Tryz.func151.trans (congrArg some (by kernel_rfl))
 f190 := Tryz.func188.trans (congrArg some (by kernel_rfl))
 f258 := Tryz.func202.trans (congrArg some (by kernel_rfl))
 f302 := Tryz.func205.trans (congrArg some (by kernel_rfl))
 f303 := Tryz.func206.trans (congrArg some (by kernel_rfl))
 f304 := Tryz.func207.trans (congrArg some (by kernel_rfl))
 f305 := Tryz.func208.trans (congrArg some (by kernel_rfl))
 f306 := Tryz.func209.trans (congrArg some (by kernel_rfl))
 f307 := Tryz.func210.trans (congrArg some (by kernel_rfl))
 f308 := Tryz.func120.trans (congrArg some (by kernel_rfl))
 f309 := Tryz.func211.trans (congrArg some (by kernel_rfl))
 f310 := Tryz.func212.trans (congrArg some (by kernel_rfl))
 f329 := Tryz.func168.trans (congrArg some (by kernel_rfl))
 f330 := Tryz.func169.trans (congrArg some (by kernel_rfl))
 f333 := Tryz.func214.trans (congrArg some (by kernel_rfl))
 f334 := Tryz.func215.trans (congrArg some (by kernel_rfl))
 f335 := Tryz.func216.trans (congrArg some (by kernel_rfl))
 f336 := Tryz.func154.trans (congrArg some (by kernel_rfl))
 f344 := Tryz.func217.trans (congrArg some (by kernel_rfl))
 t0 := zdn
 a0 := zew
 z0 := zek
 v0 := Tryz.zeroValue0
 t3 := zac
 a3 := zp
 z3 := zn
 v3 := Tryz.zeroValue3
 t4 := zbd
 a4 := zbv
 z4 := zao
 v4 := Tryz.zeroValue4
 t5 := zbx
 a5 := zdd
 z5 := zbk
 v5 := Tryz.zeroValue5
 t9 := zj
 a9 := zx
 z9 := zm
 v9 := Tryz.zeroValue9
 t31 := zc
 a31 := zar
 z31 := zaj
 v31 := Tryz.zeroValue23
 t46 := zcq
 a46 := Tryz.isAgg141
 z46 := Tryz.sizeOf141
 v46 := Tryz.zeroValue141
 t51 := zfc
 a51 := Tryz.isAgg171
 z51 := Tryz.sizeOf171
 v51 := Tryz.zeroValue171
 t53 := zay
 a53 := zk
 z53 := zd
 v53 := Tryz.zeroValue40
 t131 := Tryz.underlying85
 a131 := Tryz.isAgg85
 z131 := Tryz.sizeOf85
 v131 := Tryz.zeroValue85
 t182 := Tryz.underlying163
 a182 := Tryz.isAgg163
 z182 := Tryz.sizeOf163
 v182 := Tryz.zeroValue163
 t183 := Tryz.underlying164
 a183 := Tryz.isAgg164
 z183 := Tryz.sizeOf164
 v183 := Tryz.zeroValue164
 t218 := Tryz.underlying182
 a218 := zdt
 z218 := zfe
 v218 := Tryz.zeroValue182
 t222 := Tryz.underlying186
 a222 := Tryz.isAgg186
 z222 := Tryz.sizeOf186
 v222 := Tryz.zeroValue186
 t228 := Tryz.underlying200
 a228 := Tryz.isAgg200
 z228 := Tryz.sizeOf200
 v228 := Tryz.zeroValue200
 t229 := Tryz.underlying201
 a229 := Tryz.isAgg201
 z229 := Tryz.sizeOf201
 v229 := Tryz.zeroValue201 }
open Go.Sort Go.RowKit in
theorem Tryz.slices_Sort_string (blk off cap : Nat) (ss : List (List UInt8)) (w : World) (hH : Holds encStr w blk off ss.toArray) (hblk : blk < w.heap.size) (hsz : ss.length < 4611686018427387904) :
  Calls Tryz.prog 188 #[.slice (some ⟨blk, off, none⟩) ss.length cap] w fun e w' =>
   e = .returned (.tuple #[]) ∧ ∃ n os, w' = grow (putRow encStr (Sort.ahead w n) blk off (ss.mergeSort fun x y => decide (x ≤ y)).toArray) os := Any.slices_Sort_string Tryz.lays190 blk off cap ss w hH hblk hsz
def Tryz.lays149_ren : Go.Shelf.Ren := ⟨fun | 149 => 135 | 222 => 162 | n => n, fun | 9 => 9 | 5 => 5 | 3 => 3 | 4 => 4 | n => n, fun | n => n⟩
theorem Tryz.lays149 : Go.Proofs.Lays.n149 Tryz.prog Tryz.lays149_ren := {
 mixed := by kernel_rfl
 f149 := Tryz.func135.trans (congrArg some (by kernel_rfl))
 f222 := Tryz.func162.trans (congrArg some (by kernel_rfl))
 t3 := zac
 a3 := zp
 z3 := zn
 v3 := Tryz.zeroValue3
 t4 := zbd
 a4 := zbv
 z4 := zao
 v4 := Tryz.zeroValue4
 t5 := zbx
 a5 := zdd
 z5 := zbk
 v5 := Tryz.zeroValue5
 t9 := zj
 a9 := zx
 z9 := zm
 v9 := Tryz.zeroValue9 }
open Go.RowKit Go.Lib in
theorem Tryz.strings_LastIndexByte (s : ByteArray) (c : Int) (hs : s.size < 4611686018427387904) (w : World) :
  Calls Tryz.prog 135 #[.string s, .int .u8 c] w fun e w' => e = .returned (.int .i64 (Lib.lastIndexByte s c)) ∧ w' = w := Any.strings_LastIndexByte Tryz.lays149 s c hs w
def Tryz.laysGw17_ren : Go.Shelf.Ren := ⟨fun | 17 => 199 | 15 => 204 | 20 => 213 | n => n, fun | 9 => 9 | 23 => 216 | 4 => 4 | 3 => 3 | 0 => 0 | 21 => 21 | n => n, fun | n => n⟩
theorem Tryz.laysGw17 : Go.Proofs.LaysGw.n17 Tryz.prog Tryz.laysGw17_ren := {
 mixed := by kernel_rfl
 f15 := Tryz.func204.trans (congrArg some (by kernel_rfl))
 f17 := Tryz.func199.trans (congrArg some (by kernel_rfl))
 f20 := Tryz.func213.trans (congrArg some (by kernel_rfl))
 t0 := zdn
 a0 := zew
 z0 := zek
 v0 := Tryz.zeroValue0
 i0 := by kernel_rfl
 t3 := zac
 a3 := zp
 z3 := zn
 v3 := Tryz.zeroValue3
 i3 := by kernel_rfl
 t4 := zbd
 a4 := zbv
 z4 := zao
 v4 := Tryz.zeroValue4
 i4 := by kernel_rfl
 t9 := zj
 a9 := zx
 z9 := zm
 v9 := Tryz.zeroValue9
 i9 := by kernel_rfl
 t21 := Tryz.underlying21
 a21 := Tryz.isAgg21
 z21 := Tryz.sizeOf21
 v21 := Tryz.zeroValue21
 i21 := by kernel_rfl
 t23 := Tryz.underlying216
 a23 := Tryz.isAgg216
 z23 := Tryz.sizeOf216
 v23 := Tryz.zeroValue216
 i23 := by kernel_rfl }
open Go.RowKit Go.Lib in
theorem Tryz.strings_ContainsFunc_runes (g : Nat) (lb : Array Value) (eg : ∀ args w, (callFunc g args).run Tryz.prog w = .ok (.enter g args) w) (p : Nat → Bool) (s : ByteArray) (w : World) (hp : PredAtRunes Tryz.prog g lb p w) :
  Calls Tryz.prog 199 #[.string s, .func (.func g) #[] lb] w fun e w' => e = .returned (.bool (decide (0 ≤ Lib.idxFunc p true s))) ∧ Below w.heap.size w w' := Any.strings_ContainsFunc_runes Tryz.laysGw17 g lb eg p s w hp
def Tryz.lays99_ren : Go.Shelf.Ren := ⟨fun | 99 => 110 | 206 => 137 | n => n, fun | 9 => 9 | 4 => 4 | 3 => 3 | n => n, fun | n => n⟩
theorem Tryz.lays99 : Go.Proofs.Lays.n99 Tryz.prog Tryz.lays99_ren := {
 mixed := by kernel_rfl
 f99 := Tryz.func110.trans (congrArg some (by kernel_rfl))
 f206 := Tryz.func137.trans (congrArg some (by kernel_rfl))
 t3 := zac
 a3 := zp
 z3 := zn
 v3 := Tryz.zeroValue3
 t4 := zbd
 a4 := zbv
 z4 := zao
 v4 := Tryz.zeroValue4
 t9 := zj
 a9 := zx
 z9 := zm
 v9 := Tryz.zeroValue9 }
open Go.RowKit Go.Lib in
theorem Tryz.strings_HasPrefix (s p : ByteArray) (w : World) :
  Calls Tryz.prog 110 #[.string s, .string p] w fun e w' => e = .returned (.bool (Lib.hasPrefix s.data.toList p.data.toList)) ∧ w' = w := Any.strings_HasPrefix Tryz.lays99 s p w
def Tryz.lays110_ren : Go.Shelf.Ren := ⟨fun | 110 => 67 | 109 => 116 | n => n, fun | 31 => 23 | 9 => 9 | 4 => 4 | 3 => 3 | 0 => 0 | n => n, fun | n => n⟩
theorem Tryz.lays110 : Go.Proofs.Lays.n110 Tryz.prog Tryz.lays110_ren := {
 mixed := by kernel_rfl
 f109 := Tryz.func116.trans (congrArg some (by kernel_rfl))
 f110 := Tryz.func67.trans (congrArg some (by kernel_rfl))
 t0 := zdn
 a0 := zew
 z0 := zek
 v0 := Tryz.zeroValue0
 t3 := zac
 a3 := zp
 z3 := zn
 v3 := Tryz.zeroValue3
 t4 := zbd
 a4 := zbv
 z4 := zao
 v4 := Tryz.zeroValue4
 t9 := zj
 a9 := zx
 z9 := zm
 v9 := Tryz.zeroValue9
 t31 := zc
 a31 := zar
 z31 := zaj
 v31 := Tryz.zeroValue23 }
open Go.Lib in
theorem Tryz.slices_Contains_string (b off n c : Nat) (zs : List ByteArray) (x : ByteArray) (w : World) (hz : n ≤ zs.length) (hbig : n ≤ 9223372036854775807) (hc : ∀ j, j < zs.length → w.cell? ⟨b, off + j, none⟩ = some (.string (zs.getD j ByteArray.empty))) :
  Calls Tryz.prog 67 #[.slice (some ⟨b, off, none⟩) n c, .string x] w fun e w' => e = .returned (.bool (Lib.containsS (zs.take n) x)) ∧ w' = w := Any.slices_Contains_string Tryz.lays110 b off n c zs x w hz hbig hc
open Go.Lib in
theorem Tryz.slices_Contains_string_empty (a : Option Addr) (c : Nat) (x : ByteArray) (w : World) :
  Calls Tryz.prog 67 #[.slice a 0 c, .string x] w fun e w' => e = .returned (.bool false) ∧ w' = w := Any.slices_Contains_string_empty Tryz.lays110 a c x w
def Tryz.lays193_ren : Go.Shelf.Ren := ⟨fun | 193 => 177 | n => n, fun | 31 => 23 | 9 => 9 | 4 => 4 | 3 => 3 | 0 => 0 | n => n, fun | n => n⟩
theorem Tryz.lays193 : Go.Proofs.Lays.n193 Tryz.prog Tryz.lays193_ren := {
 mixed := by kernel_rfl
 f193 := Tryz.func177.trans (congrArg some (by kernel_rfl))
 t0 := zdn
 a0 := zew
 z0 := zek
 v0 := Tryz.zeroValue0
 t3 := zac
 a3 := zp
 z3 := zn
 v3 := Tryz.zeroValue3
 t4 := zbd
 a4 := zbv
 z4 := zao
 v4 := Tryz.zeroValue4
 t9 := zj
 a9 := zx
 z9 := zm
 v9 := Tryz.zeroValue9
 t31 := zc
 a31 := zar
 z31 := zaj
 v31 := Tryz.zeroValue23 }
open Go.RowKit Go.Lib in
theorem Tryz.slices_Equal_string (b1 o1 n c b2 o2 m d : Nat) (xs ys : List ByteArray) (w : World) (hx : n ≤ xs.length) (hy : m ≤ ys.length) (hbig : n ≤ 9223372036854775807) (hbig2 : m ≤ 9223372036854775807) (hc1 : ∀ j, j < xs.length → w.cell? ⟨b1, o1 + j, none⟩ = some (.string (xs.getD j ByteArray.empty))) (hc2 : ∀ j, j < ys.length → w.cell? ⟨b2, o2 + j, none⟩ = some (.string (ys.getD j ByteArray.empty))) :
  Calls Tryz.prog 177 #[.slice (some ⟨b1, o1, none⟩) n c, .slice (some ⟨b2, o2, none⟩) m d] w fun e w' => e = .returned (.bool (decide (xs.take n = ys.take m))) ∧ ∃ q, w' = w.drewN q := Any.slices_Equal_string Tryz.lays193 b1 o1 n c b2 o2 m d xs ys w hx hy hbig hbig2 hc1 hc2
open Go.RowKit Go.Lib in
theorem Tryz.slices_Equal_string_empty (a1 a2 : Option Addr) (c m d : Nat) (w : World) (hbig2 : m ≤ 9223372036854775807) :
  Calls Tryz.prog 177 #[.slice a1 0 c, .slice a2 m d] w fun e w' => e = .returned (.bool (decide (m = 0))) ∧ w' = w := Any.slices_Equal_string_empty Tryz.lays193 a1 a2 c m d w hbig2
def Tryz.laysNm217_ren : Go.Shelf.Ren := ⟨fun | 17 => 105 | n => n, fun | 24 => 23 | 9 => 9 | 3 => 3 | 4 => 4 | 0 => 0 | n => n, fun | n => n⟩
theorem Tryz.laysNm217 : Go.Proofs.Lays2.n17 Tryz.prog Tryz.laysNm217_ren := {
 mixed := by kernel_rfl
 f17 := Tryz.func105.trans (congrArg some (by kernel_rfl))
 t0 := zdn
 a0 := zew
 z0 := zek
 v0 := Tryz.zeroValue0
 t3 := zac
 a3 := zp
 z3 := zn
 v3 := Tryz.zeroValue3
 t4 := zbd
 a4 := zbv
 z4 := zao
 v4 := Tryz.zeroValue4
 t9 := zj
 a9 := zx
 z9 := zm
 v9 := Tryz.zeroValue9
 t24 := zc
 a24 := zar
 z24 := zaj
 v24 := Tryz.zeroValue23 }
open Go.RowKit Go.Lib Go.Sort in
theorem Tryz.slices_Reverse_string (blk off cap : Nat) (zs : List (List UInt8)) (w : World) (hH : Holds encStr w blk off zs.toArray) (hsz : zs.length ≤ 9223372036854775807) :
  Calls Tryz.prog 105 #[.slice (some ⟨blk, off, none⟩) zs.length cap] w fun e w' => e = .returned (.tuple #[]) ∧ ∃ n, w' = putRow encStr (Sort.ahead w n) blk off zs.reverse.toArray := Any.slices_Reverse_string Tryz.laysNm217 blk off cap zs w hH hsz
open Go.RowKit Go.Lib Go.Sort in
theorem Tryz.slices_Reverse_string_empty (a : Option Addr) (cap : Nat) (w : World) :
  Calls Tryz.prog 105 #[.slice a 0 cap] w fun e w' => e = .returned (.tuple #[]) ∧ w' = w := Any.slices_Reverse_string_empty Tryz.laysNm217 a cap w
def Tryz.laysNm216_ren : Go.Shelf.Ren := ⟨fun | 16 => 75 | n => n, fun | 24 => 23 | 9 => 9 | 4 => 4 | n => n, fun | n => n⟩
theorem Tryz.laysNm216 : Go.Proofs.Lays2.n16 Tryz.prog Tryz.laysNm216_ren := {
 mixed := by kernel_rfl
 f16 := Tryz.func75.trans (congrArg some (by kernel_rfl))
 t4 := zbd
 a4 := zbv
 z4 := zao
 v4 := Tryz.zeroValue4
 t9 := zj
 a9 := zx
 z9 := zm
 v9 := Tryz.zeroValue9
 t24 := zc
 a24 := zar
 z24 := zaj
 v24 := Tryz.zeroValue23
 i9 := by kernel_rfl }
open Go.RowKit Go.Lib in
theorem Tryz.slices_Clone_string (b off n c : Nat) (zs : List ByteArray) (w : World) (hz : n ≤ zs.length) (hbig : n * 16 ≤ 140737488355328) (hc : ∀ j, j < zs.length → w.cell? ⟨b, off + j, none⟩ = some (.string (zs.getD j ByteArray.empty))) :
  Calls Tryz.prog 75 #[.slice (some ⟨b, off, none⟩) n c] w fun e w' => ∃ v', e = .returned v' ∧ w'.ownsRow w.heap.size 9 1 v' n ((zs.take n).map (Value.string)) ∧ v' ≠ .slice none 0 0 ∧ Below w.heap.size w w' := Any.slices_Clone_string Tryz.laysNm216 b off n c zs w hz hbig hc
open Go.RowKit Go.Lib in
theorem Tryz.slices_Clone_string_nil (n c : Nat) (w : World) :
  Calls Tryz.prog 75 #[.slice none n c] w fun e w' => e = .returned (.slice none 0 0) ∧ w' = w := Any.slices_Clone_string_nil Tryz.laysNm216 n c w
open Go.RowKit Go.Lib in
theorem Tryz.slices_Clone_string_zero (a : Addr) (c : Nat) (w : World) :
  Calls Tryz.prog 75 #[.slice (some a) 0 c] w fun e w' => ∃ v', e = .returned v' ∧ w'.ownsRow w.heap.size 9 1 v' 0 [] ∧ v' ≠ .slice none 0 0 ∧ Below w.heap.size w w' := Any.slices_Clone_string_zero Tryz.laysNm216 a c w
def Tryz.lays194_ren : Go.Shelf.Ren := ⟨fun | 194 => 189 | n => n, fun | 31 => 23 | 9 => 9 | 3 => 3 | 4 => 4 | 0 => 0 | n => n, fun | n => n⟩
theorem Tryz.lays194 : Go.Proofs.Lays.n194 Tryz.prog Tryz.lays194_ren := {
 mixed := by kernel_rfl
 f194 := Tryz.func189.trans (congrArg some (by kernel_rfl))
 t0 := zdn
 a0 := zew
 z0 := zek
 v0 := Tryz.zeroValue0
 t3 := zac
 a3 := zp
 z3 := zn
 v3 := Tryz.zeroValue3
 t4 := zbd
 a4 := zbv
 z4 := zao
 v4 := Tryz.zeroValue4
 t9 := zj
 a9 := zx
 z9 := zm
 v9 := Tryz.zeroValue9
 t31 := zc
 a31 := zar
 z31 := zaj
 v31 := Tryz.zeroValue23 }
open Go.RowKit Go.Lib Go.Sort in
theorem Tryz.slices_Compact_string (blk off cap : Nat) (zs : List (List UInt8)) (w : World) (hH : Holds encStr w blk off zs.toArray) (hsz : zs.length ≤ 9223372036854775807) (hcap : zs.length ≤ cap) :
  Calls Tryz.prog 189 #[.slice (some ⟨blk, off, none⟩) zs.length cap] w fun e w' => e = .returned (.slice (some ⟨blk, off, none⟩) (Lib.compact zs).length cap) ∧ ∃ q, w' = putRow encStr (Sort.ahead w q) blk off (Lib.compact zs ++ List.replicate (zs.length - (Lib.compact zs).length) []).toArray := Any.slices_Compact_string Tryz.lays194 blk off cap zs w hH hsz hcap
open Go.RowKit Go.Lib Go.Sort in
theorem Tryz.slices_Compact_string_empty (a : Option Addr) (cap : Nat) (w : World) :
  Calls Tryz.prog 189 #[.slice a 0 cap] w fun e w' => e = .returned (.slice a 0 cap) ∧ w' = w := Any.slices_Compact_string_empty Tryz.lays194 a cap w
open Go.RowKit Go.Sort in
theorem Tryz.slices_Sort_string_none (p : Option Addr) (cap : Nat) (w : World) :
  Calls Tryz.prog 188 #[.slice p 0 cap] w fun e w' => e = .returned (.tuple #[]) ∧ w' = w := Any.slices_Sort_string_none Tryz.lays190 p cap w
open Go.RowKit Go.Lib in
theorem Tryz.slices_Equal_string_lens (a1 a2 : Option Addr) (n c m d : Nat) (w : World) (hnm : n ≠ m) :
  Calls Tryz.prog 177 #[.slice a1 n c, .slice a2 m d] w fun e w' => e = .returned (.bool false) ∧ w' = w := Any.slices_Equal_string_lens Tryz.lays193 a1 a2 n c m d w hnm
def Tryz.laysSlE43_f65_ren : Go.Shelf.Ren := ⟨fun | 43 => 65 | n => n, fun | 22 => 37 | 23 => 40 | 3 => 3 | 4 => 4 | 0 => 0 | n => n, fun | n => n⟩
theorem Tryz.laysSlE43_f65 : Go.Proofs.SlLaysE.n43 Tryz.prog Tryz.laysSlE43_f65_ren := {
 mixed := by kernel_rfl
 f43 := ⟨Tryz.f65.name, jd, Tryz.func65.trans (congrArg some (by kernel_rfl))⟩
 t0 := zdn
 a0 := zew
 z0 := zek
 v0 := Tryz.zeroValue0
 t3 := zac
 a3 := zp
 z3 := zn
 v3 := Tryz.zeroValue3
 t4 := zbd
 a4 := zbv
 z4 := zao
 v4 := Tryz.zeroValue4
 t22 := ze
 a22 := Tryz.isAgg37
 z22 := Tryz.sizeOf37
 v22 := Tryz.zeroValue37
 a23 := zk
 z23 := zd }
open Go.RowKit Go.Lib Go.Sort in
theorem Tryz.slices_Compact_f65 {α : Type} [Inhabited α] [DecidableEq α] (enc : α → Value) (hO : OneCell enc) (heq : EqlAt Tryz.prog 40 enc (fun x y => decide (x = y))) (hne : NeqAt Tryz.prog 40 enc (fun x y => decide (x = y))) (zr : α) (v23 : ∀ w, (zeroValue 40).run Tryz.prog w = .ok (enc zr) w) (blk off cap : Nat) (d : Array α) (w : World) (hH : Holds enc w blk off d) (hsz : d.size ≤ 9223372036854775807) (hcap : d.size ≤ cap) :
  Calls Tryz.prog 65 #[.slice (some ⟨blk, off, none⟩) d.size cap] w fun e w' => e = .returned (.slice (some ⟨blk, off, none⟩) (compactUpTo d d.size).length cap) ∧ ∃ q, w' = putRow enc (Sort.ahead w q) blk off (compactUpTo d d.size ++ List.replicate (d.size - (compactUpTo d d.size).length) zr).toArray := AnyE.slices_Compact Tryz.laysSlE43_f65 enc hO heq hne zr v23 blk off cap d w hH hsz hcap
def Tryz.laysnb115_ren : Go.Shelf.Ren := ⟨fun | 115 => 83 | n => n, fun | 37 => 76 | 4 => 4 | 9 => 9 | 5 => 5 | n => n, fun | n => n⟩
theorem Tryz.laysnb115 : Go.Proofs.Lays.nb115 Tryz.prog Tryz.laysnb115_ren := {
 mixed := by kernel_rfl
 f115 := Tryz.func83.trans (congrArg some (by kernel_rfl))
 t4 := zbd
 a4 := zbv
 z4 := zao
 v4 := Tryz.zeroValue4
 t9 := zj
 a9 := zx
 z9 := zm
 v9 := Tryz.zeroValue9
 t37 := zat
 a37 := Tryz.isAgg76
 z37 := Tryz.sizeOf76
 v37 := Tryz.zeroValue76
 t5 := zbx
 a5 := zdd
 z5 := zbk
 v5 := Tryz.zeroValue5 }
theorem Tryz.bytes_Equal_all (p1 p2 : Option Addr) (n c m d : Nat) (xs ys : List Int) (w : World) (hx : xs.length = n) (hy : ys.length = m) (h1 : Lib.BytesIn w p1 n xs) (h2 : Lib.BytesIn w p2 m ys) :
  Calls Tryz.prog 83 #[.slice p1 n c, .slice p2 m d] w fun e w' => e = .returned (.bool (Lib.bytesOf xs == Lib.bytesOf ys)) ∧ w' = w := Any.bytes_Equal_all Tryz.laysnb115 p1 p2 n c m d xs ys w hx hy h1 h2
end
section
open Go.RowKit Go.Sort
def srt (ss : List Tx) : List Tx := ss.mergeSort fun x y => decide (x ≤ y)
theorem kP (ss : List Tx) : (srt ss).length = ss.length := by simp [srt]
theorem zI (A : Option Addr) (c : Nat) (ss : List Tx) (w : World) (h : Own w 9 1 A ss.length c (SB ss)) (hs : ss.length < 4611686018427387904) :
  Calls Tryz.prog 188 #[.slice A ss.length c] w fun e w' => e = .returned (.tuple #[]) ∧ Own w' 9 1 A ss.length c (SB (srt ss)) ∧ Frm (ob A) w w' := by
 cases A with
 | none =>
  have h0 : ss = [] := by
   rcases h.cases with ⟨_, h1, _⟩ | ⟨g, cur, h1, _⟩
   · exact zai h1
   cases h1
  subst h0
  refine (Tryz.slices_Sort_string_none none c w).mono fun e w' ⟨he, hw⟩ => ?_
  subst hw
  exact ⟨he, by simpa [srt] using h, Frm.refl _ _⟩
 | some ad =>
  obtain ⟨g, rfl⟩ : ∃ g, ad = ⟨g, 0, none⟩ := by
   rcases h.cases with ⟨h1, _⟩ | ⟨g, cur, h1, _⟩
   · cases h1
   cases h1; exact ⟨g, rfl⟩
  obtain ⟨h1, h2⟩ := h.holds
  refine (Tryz.slices_Sort_string g 0 c ss w h1 h2 hs).mono fun e w' ⟨he, m, os, hw⟩ => ?_
  subst hw
  obtain ⟨h3, h4⟩ := h.put (m := m) (os := os) (ts := srt ss) (kP ss)
  exact ⟨he, h3, h4⟩
theorem oC (ss : List Tx) : (Lib.compact ss).length ≤ ss.length := by
 unfold Lib.compact Lib.compactUpTo
 rw [zah]
 refine zax (zce _ _) ?_
 simp
theorem sD (A : Option Addr) (c : Nat) (ss : List Tx) (w : World) (h : Own w 9 1 A ss.length c (SB ss)) (hs : ss.length ≤ 9223372036854775807) :
  Calls Tryz.prog 189 #[.slice A ss.length c] w fun e w' => e = .returned (.slice A (Lib.compact ss).length c) ∧ Own w' 9 1 A (Lib.compact ss).length c (SB (Lib.compact ss)) ∧ Frm (ob A) w w' := by
 cases A with
 | none =>
  have h0 : ss = [] := by
   rcases h.cases with ⟨_, h1, _⟩ | ⟨g, cur, h1, _⟩
   · exact zai h1
   cases h1
  subst h0
  refine (Tryz.slices_Compact_string_empty none c w).mono fun e w' ⟨he, hw⟩ => ?_
  subst hw
  exact ⟨he, by simpa [Lib.compact, Lib.compactUpTo] using h, Frm.refl _ _⟩
 | some ad =>
  obtain ⟨g, rfl⟩ : ∃ g, ad = ⟨g, 0, none⟩ := by
   rcases h.cases with ⟨h1, _⟩ | ⟨g, cur, h1, _⟩
   · cases h1
   cases h1; exact ⟨g, rfl⟩
  obtain ⟨h1, h2⟩ := h.holds
  refine (Tryz.slices_Compact_string g 0 c ss w h1 hs h.le).mono fun e w' ⟨he, m, hw⟩ => ?_
  have hle := oC ss
  obtain ⟨h3, h4⟩ := h.put (m := m) (os := #[]) (ts := Lib.compact ss ++ List.replicate (ss.length - (Lib.compact ss).length) []) (by simp; omega)
  have hg : grow (putRow encStr (Sort.ahead w m) g 0 (Lib.compact ss ++ List.replicate (ss.length - (Lib.compact ss).length) []).toArray) #[] = w' := by rw [hw, sR]
  rw [hg] at h3 h4
  refine ⟨he, ?_, h4⟩
  have h5 := h3.short (k := (Lib.compact ss).length) hle
  simpa [bA, SB, List.take_append] using h5
theorem bas {ss : List Tx} {j : Nat} : (ss.map fun l => (⟨l.toArray⟩ : ByteArray)).getD j ByteArray.empty = ⟨(ss.getD j []).toArray⟩ := by
 simp only [zdc, zcm]
 cases ss[j]? <;> rfl
theorem qKd {a b : List Tx} (h : (a.map fun l => (⟨l.toArray⟩ : ByteArray)) = b.map fun l => (⟨l.toArray⟩ : ByteArray)) : a = b := by
 refine (List.map_inj_right fun x y hxy => ?_).1 h
 injection hxy with h1
 simpa using congrArg Array.toList h1
theorem xX (A B : Option Addr) (c d : Nat) (xs ys : List Tx) (w : World) (hx : Rd w 1 A xs.length (SB xs)) (hy : Rd w 1 B ys.length (SB ys)) (h1 : xs.length ≤ 9223372036854775807) (h2 : ys.length ≤ 9223372036854775807) :
  Calls Tryz.prog 177 #[.slice A xs.length c, .slice B ys.length d] w fun e w' => e = .returned (.bool (decide (xs = ys))) ∧ qK w w' := by
 by_cases hl : xs.length = ys.length
 ·
  by_cases h0 : xs.length = 0
  ·
   have e1 : xs = [] := zai h0
   have e2 : ys = [] := zai jo
   subst e1 e2
   refine (Tryz.slices_Equal_string_empty A B c 0 d w jo).mono fun e w' ⟨he, hw⟩ => ?_
   subst hw
   exact ⟨by simpa using he, qK.refl _⟩
  obtain ⟨b1, o1, rfl, _, hc1⟩ := Rd.plain hx jo
  obtain ⟨b2, o2, rfl, _, hc2⟩ := Rd.plain hy jo
  refine (Tryz.slices_Equal_string b1 o1 xs.length c b2 o2 ys.length d (xs.map fun l => ⟨l.toArray⟩) (ys.map fun l => ⟨l.toArray⟩) w jp jp h1 h2 (fun j hj => ?_) (fun j hj => ?_)).mono fun e w' ⟨he, q, hw⟩ => ?_
  ·
   rw [bas]
   simp only [zah] at hj
   exact hc1 j _ (by simp [SB, zb hj, List.getD])
  ·
   rw [bas]
   simp only [zah] at hj
   exact hc2 j _ (by simp [SB, zb hj, List.getD])
  refine ⟨?_, q, hw⟩
  rw [he, zv jp, zv jp]
  congr 2
  rw [decide_eq_decide]
  exact ⟨qKd, fun h => by rw [h]⟩
 refine (Tryz.slices_Equal_string_lens A B xs.length c ys.length d w hl).mono fun e w' ⟨he, hw⟩ => ?_
 subst hw
 exact ⟨by rw [he, decide_eq_false (fun h => hl (by rw [h]))], qK.refl _⟩
theorem rO (A : Option Addr) (c : Nat) (zs : List Tx) (x : Tx) (w : World) (hz : Rd w 1 A zs.length (SB zs)) (h1 : zs.length ≤ 9223372036854775807) :
  Calls Tryz.prog 67 #[.slice A zs.length c, encStr x] w fun e w' => e = .returned (.bool (decide (x ∈ zs))) ∧ w = w' := by
 by_cases h0 : zs.length = 0
 ·
  have e1 : zs = [] := zai h0
  subst e1
  refine (Tryz.slices_Contains_string_empty A c ⟨x.toArray⟩ w).mono fun e w' ⟨he, hw⟩ => ⟨by simpa using he, hw.symm⟩
 obtain ⟨b1, o1, rfl, _, hc1⟩ := Rd.plain hz jo
 refine (Tryz.slices_Contains_string b1 o1 zs.length c (zs.map fun l => ⟨l.toArray⟩) ⟨x.toArray⟩ w jp h1 (fun j hj => ?_)).mono fun e w' ⟨he, hw⟩ => ⟨?_, hw.symm⟩
 ·
  rw [bas]
  simp only [zah] at hj
  exact hc1 j _ (by simp [SB, zb hj, List.getD])
 rw [he, zv jp]
 congr 2
 rw [zbt, Lib.containsS_iff, decide_eq_true_eq]
 constructor
 ·
  intro h
  obtain ⟨y, hy, hxy⟩ := List.mem_map.1 h
  injection hxy with h2
  have := congrArg Array.toList h2
  simp at this
  rwa [← this]
 intro h
 exact List.mem_map.2 ⟨x, h, rfl⟩
theorem oD (A : Option Addr) (c : Nat) (zs : List Tx) (w : World) (hz : Rd w 1 A zs.length (SB zs)) (h1 : zs.length * 16 ≤ 140737488355328) :
  Calls Tryz.prog 75 #[.slice A zs.length c] w fun e w' => ∃ B d, e = .returned (.slice B zs.length d) ∧ Own w' 9 1 B zs.length d (SB zs) ∧ (∀ x ∈ ob B, w.heap.size ≤ x) ∧ Frm [] w w' := by
 have own : ∀ v' w', World.ownsRow w' w.heap.size 9 1 v' zs.length (SB zs) → Below w.heap.size w w' → ∃ B d, v' = .slice B zs.length d ∧ Own w' 9 1 B zs.length d (SB zs) ∧ (∀ x ∈ ob B, w.heap.size ≤ x) ∧ Frm [] w w' := by
  intro v' w' ho hb
  rcases ho.2 with ⟨rfl, h2⟩ | ⟨g, cap, cur, rfl, hg, hb1, h4, h5, h6, h7⟩
  · refine ⟨none, 0, by rw [h2], ⟨ho.1, .inl ⟨by rw [h2], h2⟩⟩, by simp [ob], Frm.of_below hb⟩
  exact ⟨some ⟨g, 0, none⟩, cap, rfl, ⟨ho.1, .inr ⟨g, cap, cur, rfl, zae _, hb1, h4, h5, h6, h7⟩⟩, by simp [ob]; exact hg, Frm.of_below hb⟩
 by_cases h0 : zs.length = 0
 ·
  have e1 : zs = [] := zai h0
  subst e1
  cases A with
  | none =>
   refine (Tryz.slices_Clone_string_nil 0 c w).mono fun e w' ⟨he, hw⟩ => ?_
   subst hw
   exact ⟨none, 0, he, Own.nil _ _ _, by simp [ob], Frm.refl _ _⟩
  | some a =>
   refine (Tryz.slices_Clone_string_zero a c w).mono fun e w' ⟨v', he, ho, _, hb⟩ => ?_
   obtain ⟨B, d, rfl, h2⟩ := own v' w' ho hb
   exact ⟨B, d, he, h2⟩
 obtain ⟨b1, o1, rfl, _, hc1⟩ := Rd.plain hz jo
 refine (Tryz.slices_Clone_string b1 o1 zs.length c (zs.map fun l => ⟨l.toArray⟩) w jp h1 (fun j hj => ?_)).mono fun e w' ⟨v', he, ho, _, hb⟩ => ?_
 ·
  rw [bas]
  simp only [zah] at hj
  exact hc1 j _ (by simp [SB, zb hj, List.getD])
 rw [zv jp, zcs] at ho
 obtain ⟨B, d, rfl, h2⟩ := own v' w' ho hb
 exact ⟨B, d, he, h2⟩
end
section
open Go.RowKit Go.Sort
def low (c : UInt8) : UInt8 := if 65 ≤ c.toNat ∧ c.toNat ≤ 90 then c + 32 else c
theorem dG (c : UInt8) : (low c).toNat = if 65 ≤ c.toNat ∧ c.toNat ≤ 90 then c.toNat + 32 else c.toNat := by
 unfold low
 split
 ·
  rename_i h
  rw [UInt8.toNat_add]
  have : (32 : UInt8).toNat = 32 := rfl
  omega
 rfl
theorem qKe (c : UInt8) : low (low c) = low c := by
 apply UInt8.toNat_inj.1
 rw [dG, dG]
 by_cases h : 65 ≤ c.toNat ∧ c.toNat ≤ 90
 · rw [if_pos h, if_neg jo]
 rw [if_neg h, if_neg h]
def qT (s : Tx) : Tx := s.map low
theorem cI (s : Tx) : (qT s).length = s.length := by simp [qT]
theorem lB (s : Tx) : qT (qT s) = qT s := by
 unfold qT
 rw [zcs]
 exact List.map_congr_left fun c _ => qKe c
def qD (n : Nat) : Prop := (97 ≤ n ∧ n ≤ 122) ∨ (48 ≤ n ∧ n ≤ 57) ∨ n = 36 ∨ n = 45 ∨ n = 46 ∨ n = 95
instance (n : Nat) : Decidable (qD n) := by unfold qD; exact inferInstance
theorem qD.lt {n : Nat} (h : qD n) : n < 128 := by unfold qD at h; omega
def bM : List Tx := [[92, 65, 110, 115, 119, 101, 114, 101, 100], [92, 68, 101, 108, 101, 116, 101, 100], [92, 68, 114, 97, 102, 116], [92, 70, 108, 97, 103, 103, 101, 100], [92, 83, 101, 101, 110]]
def bY (s : Tx) : Option Tx :=
 if ([92] : Tx).isPrefixOf s = true then bM.find? fun f => decide (qT f = qT s)
 else if qT s = [] ∨ 20 < s.length ∨ ∃ c ∈ qT s, ¬ qD c.toNat then none else some (qT s)
theorem hZ {s t : Tx} (h : bY s = some t) : 0 < t.length ∧ t.length ≤ 20 := by
 unfold bY at h
 split at h
 ·
  have := List.mem_of_find?_eq_some h
  have key : ∀ t ∈ bM, 0 < t.length ∧ t.length ≤ 20 := jd
  exact key t this
 split at h
 · cases h
 rename_i h1
 injection h with h
 subst h
 rw [cI]
 refine ⟨?_, jo⟩
 have : qT s ≠ [] := fun e => h1 (.inl e)
 rw [← cI]
 exact List.length_pos_iff.2 this
theorem qX5 {s t : Tx} (h : bY s = some t) : t ≠ [] := by
 have := (hZ h).1
 intro e; subst e; simp at this
theorem kL : ∀ f ∈ bM, bY f = some f := by decide +kernel
theorem xZ {s t : Tx} (h : bY s = some t) : bY t = some t := by
 unfold bY at h
 split at h
 · exact kL t (List.mem_of_find?_eq_some h)
 split at h
 · cases h
 rename_i h0 h1
 injection h with h
 subst h
 unfold bY
 rw [if_neg, if_neg]
 · rw [lB]
 · rw [lB, cI]; exact h1
 intro h2
 cases hs : qT s with
 | nil => rw [hs] at h2; simp at h2
 | cons c r =>
  rw [hs] at h2
  simp at h2
  subst h2
  refine h1 (.inr (.inr ⟨92, by rw [hs]; simp, jd⟩))
def bL : List Tx → Option (List Tx)
 | [] => some []
 | s :: r => match bY s, bL r with
  | some t, some ts => some (t :: ts)
  | _, _ => none
theorem oE (l : List Tx) (s : Tx) : bL (l ++ [s]) = match bL l, bY s with
  | some ts, some t => some (ts ++ [t])
  | _, _ => none := by
 induction l with
 | nil => simp only [zcg, bL]; cases bY s <;> rfl
 | cons a r ih =>
  simp only [List.cons_append, bL, ih]
  cases bY a <;> cases bL r <;> cases bY s <;> rfl
theorem oF {l : List Tx} {s : Tx} (hs : s ∈ l) (h : bY s = none) : bL l = none := by
 induction l with
 | nil => cases hs
 | cons a r ih =>
  simp only [bL]
  rcases zbh.1 hs with rfl | hs
  · rw [h]
  rw [ih hs]; cases bY a <;> rfl
theorem rV {l : List Tx} (h : ∀ s ∈ l, bY s = some s) : bL l = some l := by
 induction l with
 | nil => rfl
 | cons a r ih =>
  simp only [bL]
  rw [h a jp, ih fun s hs => h s (by simp [hs])]
theorem zL {l ts : List Tx} (h : bL l = some ts) : ∀ t, t ∈ ts ↔ ∃ s ∈ l, bY s = some t := by
 induction l generalizing ts with
 | nil => simp only [bL, Option.some.injEq] at h; subst h; simp
 | cons a r ih =>
  simp only [bL] at h
  cases ha : bY a with
  | none => rw [ha] at h; cases h
  | some t0 =>
   cases hr : bL r with
   | none => rw [ha, hr] at h; cases h
   | some ts0 =>
    rw [ha, hr] at h
    injection h with h
    subst h
    intro t
    simp only [zbh, ih hr, exists_eq_or_imp, ha, Option.some.injEq]
    constructor
    ·
     rintro (rfl | h)
     · exact .inl rfl
     exact .inr h
    rintro (rfl | h)
    · exact .inl rfl
    exact .inr h
theorem oA {l ts : List Tx} (h : bL l = some ts) : ∀ t ∈ ts, bY t = some t := fun t ht => by
 obtain ⟨s, _, hs⟩ := (zL h t).1 ht
 exact xZ hs
theorem rW {l ts : List Tx} (h : bL l = some ts) : ts.length = l.length := by
 induction l generalizing ts with
 | nil => simp only [bL, Option.some.injEq] at h; subst h; rfl
 | cons a r ih =>
  simp only [bL] at h
  cases ha : bY a with
  | none => rw [ha] at h; cases h
  | some t0 =>
   cases hr : bL r with
   | none => rw [ha, hr] at h; cases h
   | some ts0 => rw [ha, hr] at h; injection h with h; subst h; simp [ih hr]
abbrev SS (l : List Tx) : Prop := l.Pairwise (· < ·)
theorem nG {a b : Tx} (h : a ≤ b) (hne : a ≠ b) : a < b := by
 rcases Classical.em (a < b) with h1 | h1
 · exact h1
 exact absurd (List.le_antisymm h (List.not_lt.1 h1)) hne
theorem sE (a : Tx) : ¬ a < a := zem a
theorem zO {a b : List Tx} (ha : SS a) (hb : SS b) (h : ∀ x, x ∈ a ↔ x ∈ b) : a = b := by
 induction a generalizing b with
 | nil =>
  cases b with
  | nil => rfl
  | cons y r => exact absurd ((h y).2 jp) jp
 | cons x r ih =>
  cases b with
  | nil => exact absurd ((h x).1 jp) jp
  | cons y q =>
   have ha := List.pairwise_cons.1 ha
   have hb := List.pairwise_cons.1 hb
   have hxy : x = y := by
    rcases zbh.1 ((h x).1 jp) with h1 | h1
    · exact h1
    rcases zbh.1 ((h y).2 jp) with h2 | h2
    · exact h2.symm
    exact absurd (List.lt_trans (ha.1 y h2) (hb.1 x h1)) (sE x)
   subst hxy
   rw [ih ha.2 hb.2]
   intro z
   constructor
   ·
    intro hz
    rcases zbh.1 ((h z).1 (zdh _ hz)) with h1 | h1
    · subst h1; exact absurd (ha.1 z hz) (sE z)
    exact h1
   intro hz
   rcases zbh.1 ((h z).2 (zdh _ hz)) with h1 | h1
   · subst h1; exact absurd (hb.1 z hz) (sE z)
   exact h1
def nub (ts : List Tx) : List Tx := Lib.compact (srt ts)
theorem qKf (ts : List Tx) (x : Tx) : x ∈ srt ts ↔ x ∈ ts := (List.mergeSort_perm ts _).mem_iff
theorem xJ (ts : List Tx) : (srt ts).Pairwise (· ≤ ·) := by
 have := List.pairwise_mergeSort (le := fun x y : Tx => decide (x ≤ y)) (fun a b c h1 h2 => by
  simp only [decide_eq_true_eq] at *
  exact List.le_trans h1 h2) (fun a b => by
  simp only [Bool.or_eq_true, decide_eq_true_eq]
  exact List.le_total a b) ts
 exact this.imp (by intro a b h; simpa using h)
theorem kR {d : Array Tx} (hd : ∀ i j, i ≤ j → j < d.size → d[i]! ≤ d[j]!) : ∀ m, m ≤ d.size →
  SS (Lib.compactUpTo d m) ∧ (∀ x, x ∈ Lib.compactUpTo d m ↔ ∃ j, j < m ∧ d[j]! = x)
 | 0, _ => by simp [Lib.compactUpTo]
 | m + 1, hm => by
  obtain ⟨h1, h2⟩ := kR hd m jo
  rw [Lib.compactUpTo_succ]
  by_cases hk : Lib.keeps d m = true
  ·
   rw [if_pos hk]
   refine ⟨List.pairwise_append.2 ⟨h1, jp, fun x hx y hy => ?_⟩, fun x => ?_⟩
   ·
    simp only [za] at hy
    subst hy
    obtain ⟨j, hj, rfl⟩ := (h2 x).1 hx
    have h3 := hd j (m - 1) jo jo
    have h4 := hd (m - 1) m jo jo
    unfold Lib.keeps at hk
    rw [decide_eq_true_eq] at hk
    have h5 : d[m - 1]! < d[m]! := nG h4 (by rcases hk with h | h; omega; exact fun e => h e.symm)
    exact List.lt_of_le_of_lt h3 h5
   rw [zds, h2, za]
   constructor
   ·
    rintro (⟨j, hj, rfl⟩ | rfl)
    · exact ⟨j, jo, rfl⟩
    exact ⟨m, jo, rfl⟩
   rintro ⟨j, hj, rfl⟩
   rcases zby j m with h | h
   · exact .inl ⟨j, h, rfl⟩
   have : j = m := jo
   subst this
   exact .inr rfl
  rw [if_neg hk, zbs]
  refine ⟨h1, fun x => ?_⟩
  rw [h2]
  unfold Lib.keeps at hk
  rw [decide_eq_true_eq] at hk
  constructor
  ·
   rintro ⟨j, hj, rfl⟩
   exact ⟨j, jo, rfl⟩
  rintro ⟨j, hj, rfl⟩
  rcases zby j m with h | h
  · exact ⟨j, h, rfl⟩
  have : j = m := jo
  subst this
  have hne : j ≠ 0 := fun h => hk (.inl h)
  have heq : d[j]! = d[j - 1]! := Classical.not_not.1 fun h => hk (.inr h)
  exact ⟨j - 1, jo, heq.symm⟩
theorem eP (ts : List Tx) : SS (nub ts) ∧ ∀ x, x ∈ nub ts ↔ x ∈ ts := by
 have hs := xJ ts
 have hd : ∀ i j, i ≤ j → j < (srt ts).toArray.size → (srt ts).toArray[i]! ≤ (srt ts).toArray[j]! := by
  intro i j hij hj
  have hj' : j < (srt ts).length := by simpa using hj
  rw [getElem!_pos _ i (by simp; omega), getElem!_pos _ j (by simpa using hj)]
  simp only [List.getElem_toArray]
  rcases zby i j with h | h
  · exact List.pairwise_iff_getElem.1 hs i j jo hj' h
  have : i = j := jo
  subst this
  exact List.le_refl _
 obtain ⟨h1, h2⟩ := kR hd (srt ts).length jp
 refine ⟨h1, fun x => ?_⟩
 rw [← qKf ts x]
 unfold nub Lib.compact
 rw [h2]
 constructor
 ·
  rintro ⟨j, hj, rfl⟩
  rw [getElem!_pos _ j (by simpa using hj)]
  simp
 intro hx
 obtain ⟨j, hj, rfl⟩ := zag hx
 exact ⟨j, hj, by rw [getElem!_pos _ j (by simpa using hj)]; simp⟩
theorem oK {l : List Tx} (h : SS l) : nub l = l := zO (eP l).1 h (eP l).2
theorem qKg (ts : List Tx) : (nub ts).length ≤ ts.length := by
 unfold nub
 refine zax (oC _) ?_
 rw [kP]
 exact zw _
def gQ (l : List Tx) (s : Tx) : List Tx := l.filter (fun x => decide (x < s)) ++ [s] ++ l.filter (fun x => decide (s < x))
theorem qQa {l : List Tx} (h : SS l) (s : Tx) : SS (gQ l s) ∧ ∀ x, x ∈ gQ l s ↔ x ∈ l ∨ x = s := by
 refine ⟨?_, fun x => ?_⟩
 ·
  unfold gQ
  refine List.pairwise_append.2 ⟨List.pairwise_append.2 ⟨h.filter _, jp, fun x hx y hy => ?_⟩, h.filter _, fun x hx y hy => ?_⟩
  ·
   simp only [zfa, decide_eq_true_eq, za] at hx hy
   rw [hy]; exact hx.2
  simp only [zfa, decide_eq_true_eq] at hy
  rcases zds.1 hx with hx | hx
  ·
   simp only [zfa, decide_eq_true_eq] at hx
   exact List.lt_trans hx.2 hy.2
  simp only [za] at hx
  rw [hx]; exact hy.2
 unfold gQ
 simp only [zds, zfa, decide_eq_true_eq, za]
 constructor
 ·
  rintro ((⟨h1, _⟩ | h1) | ⟨h1, _⟩)
  · exact .inl h1
  · exact .inr h1
  exact .inl h1
 rintro (h1 | h1)
 ·
  rcases Classical.em (x < s) with h2 | h2
  · exact .inl (.inl ⟨h1, h2⟩)
  rcases Classical.em (x = s) with h3 | h3
  · exact .inl (.inr h3)
  exact .inr ⟨h1, nG (List.not_lt.1 h2) (fun e => h3 e.symm)⟩
 exact .inl (.inr h1)
def hY (l ts : List Tx) : List Tx := ts.foldl gQ l
theorem xK {l : List Tx} (h : SS l) : ∀ ts, SS (hY l ts) ∧ ∀ x, x ∈ hY l ts ↔ x ∈ l ∨ x ∈ ts := by
 intro ts
 induction ts generalizing l with
 | nil => exact ⟨h, by simp [hY]⟩
 | cons t r ih =>
  obtain ⟨h1, h2⟩ := qQa h t
  obtain ⟨h3, h4⟩ := ih h1
  refine ⟨h3, fun x => ?_⟩
  show x ∈ hY (gQ l t) r ↔ _
  rw [h4, h2, zbh, or_assoc]
theorem rY (ts : List Tx) : hY [] ts = nub ts := by
 obtain ⟨h1, h2⟩ := xK (l := []) jp ts
 exact zO h1 (eP ts).1 fun x => by rw [h2, (eP ts).2]; simp
theorem xV (l a : List Tx) (t : Tx) : gQ (hY l a) t = hY l (a ++ [t]) := by simp [hY]
def dY (l : List Tx) : Except Nat (List Tx) := match bL l with
 | none => .error 18
 | some ts => if 16 < (nub ts).length then .error 5 else .ok (nub ts)
def cY (l : List Tx) : Prop := dY l = .ok l
instance (l : List Tx) : Decidable (cY l) := by
 unfold cY
 cases h : dY l with
 | error k => exact isFalse jp
 | ok x => exact if hx : x = l then isTrue (by rw [hx]) else isFalse (by simp [hx])
theorem eI {l : List Tx} (h : cY l) : SS l ∧ l.length ≤ 16 ∧ bL l = some l ∧ ∀ s ∈ l, bY s = some s := by
 unfold cY dY at h
 cases ht : bL l with
 | none => rw [ht] at h; cases h
 | some ts =>
  rw [ht] at h
  dsimp only at h
  split at h
  · cases h
  rename_i hl
  injection h with h
  have h1 := eP ts
  rw [h] at h1
  have h2 : ∀ s ∈ l, bY s = some s := fun s hs => oA ht s ((h1.2 s).1 hs)
  refine ⟨h1.1, by rw [h] at hl; omega, ?_, h2⟩
  exact ht.symm.trans (rV h2)
theorem xW {l : List Tx} : cY l ↔ SS l ∧ l.length ≤ 16 ∧ ∀ s ∈ l, bY s = some s := by
 constructor
 ·
  intro h
  obtain ⟨h1, h2, _, h3⟩ := eI h
  exact ⟨h1, h2, h3⟩
 rintro ⟨h1, h2, h3⟩
 unfold cY dY
 rw [rV h3]
 dsimp only
 rw [oK h1, if_neg jo]
theorem nH {l r : List Tx} (h : dY l = .ok r) : cY r := by
 unfold dY at h
 cases ht : bL l with
 | none => rw [ht] at h; cases h
 | some ts =>
  rw [ht] at h
  dsimp only at h
  split at h
  · cases h
  rename_i hl
  injection h with h
  subst h
  exact xW.2 ⟨(eP ts).1, jo, fun s hs => oA ht s (((eP ts).2 s).1 hs)⟩
end
section
open Go.RowKit Go.Sort
theorem qQb {n i : Nat} {cs : Array Value} {l : List UInt8} {c : UInt8} (h : cs.toList.take n = U8 l) (hl : l.length = n) (hi : i < n) : (cs.setIfInBounds i (.int .u8 ((c.toNat : Nat) : Int))).toList.take n = U8 (l.set i c) := by
 rw [zdv, List.take_set, h]
 simp [U8, zfb]
theorem sF {s : Tx} {i : Nat} (h : i < s.length) : ((s.take i).map low ++ s.drop i).set i (low s[i]) = (s.take (i + 1)).map low ++ s.drop (i + 1) := by
 have e1 : ((s.take i).map low).length = i := by simp; omega
 rw [List.set_append_right _ _ jo, e1, zdq, zav h, List.set_cons_zero]
 have e2 : s.take (i + 1) = s.take i ++ [s[i]] := by rw [zan, zb h]; rfl
 rw [e2]
 simp only [zbc, zbw, zdp, zbf, List.cons_append, zcg]
theorem qX6 {s : Tx} {i : Nat} (h : i < s.length) (hl : low s[i] = s[i]) : (s.take i).map low ++ s.drop i = (s.take (i + 1)).map low ++ s.drop (i + 1) := by
 rw [← sF h, hl]
 apply zcl
 intro j
 by_cases hj : j = i
 ·
  subst hj
  have e1 : ((s.take j).map low).length = j := by simp; omega
  rw [zck (by simp; omega), zbp jo, e1, zdq, zav h]
  rfl
 rw [zdg (Ne.symm hj)]
theorem kO (q : Tx) (w : World) (hq : q.length ≤ 1000000) : Calls Tryz.prog 198 #[encStr q] w fun e w' => e = .returned (encStr (qT q)) ∧ Frm [] w w' := by
 refine VC.calls (nt := 29) (res := #[.tmp 2]) Tryz.func198 rfl Tryz.ntmps198 Tryz.results198 rfl ?_
 refine jS (jR (ja rfl (jO (jN (jv1 0 ?_)))))
 refine jS (jR (jM ?_))
 refine Ops.m (qV.bytesOfT rfl zj zat zbx) rfl ?_
 rintro _ w1 ⟨c1, cs1, rfl, hF1, ht1, hf1⟩
 have hge : w.heap.size ≤ w.heap.size := zw _
 generalize hg : w.heap.size = g1 at hF1 hge ⊢
 refine ja rfl (jO (jN (jv1 3 ?_)))
 refine jS (jS (jR (jm rfl (je (Run.lenS rfl zat) ?_))))
 refine jx .i64 0 ?_
 refine jO (jN (jB ?_))
 refine VC.loop (σ := Nat) (fun s => [(3, .slice (some ⟨g1, 0, none⟩) q.length c1), (8, .slice (some ⟨g1, 0, none⟩) q.length c1), (9, .int .i64 ((q.length : Nat) : Int)), (10, .int .i64 ((s : Nat) : Int))]) (fun s wr => s ≤ q.length ∧ Frm [] w wr ∧ ∃ cs, Fro wr g1 5 cs ∧ cs.toList.take q.length = U8 ((q.take s).map low ++ q.drop s)) (fun s => q.length - s) 0 (js4 rfl rfl rfl rfl) ⟨jo, hf1, cs1, hF1, by simpa using ht1⟩ ?_
 rintro i wr ⟨hi, hfr, cs, hF, ht⟩
 refine jS (jR (jb rfl rfl (Bin.lssN _ _) (jO (jN (jS ?_)))))
 refine jD rfl (fun hc1 => ?_) fun hc1 => ?_
 ·
  have hrd : Rd wr 1 (some ⟨g1, 0, none⟩) q.length (U8 ((q.take i).map low ++ q.drop i)) := by
   have h := hF.rd (l := (q.take i).map low ++ q.drop i) (by simpa [zau hi, zex hi] using ht)
   simpa [zau hi, zex hi] using h
  have hcell : wr.cell? ((⟨g1, 0, none⟩ : Addr).add (i * 1)) = some (.int .u8 ((q[i].toNat : Nat) : Int)) := by
   rw [zbq]
   obtain ⟨ad, u, hA, hu, hc⟩ := hrd.at1 hc1
   cases hA
   rw [hc, ← hu]
   simp [U8, zbp, zau hi, zb, hc1]
  have hll : ((q.take i).map low ++ q.drop i).length = q.length := by simp; omega
  have hsz : i < cs.size := by
   have := congrArg List.length ht
   simp [U8] at this
   omega
  refine jQ (jN (jv4 3 8 9 10 ?_))
  refine jS (jB (jS (jR (jm rfl (je (Run.indexS i rfl rfl zat zbk hc1) (jl rfl zdd hcell (ja rfl (ja rfl (jO (jN (jv6 3 4 5 8 9 10 ?_)))))))))))
  refine jS ?_
  refine VC.split1 [(3, _), (4, _), (5, _), (8, _), (9, _), (10, _)] (js6 rfl rfl rfl rfl rfl rfl) 20 (.bool (decide ((65 ≤ q[i].toNat) ∧ (q[i].toNat ≤ 90)))) ?_ ?_
  ·
   by_cases hs0 : 65 ≤ q[i].toNat
   ·
    refine jR (jm rfl (jb rfl rfl (Bin.geqN _ 65) (jM ?_)))
    refine jG ?_
    refine jk (Run.bin rfl rfl (Bin.leqN _ 90)) ?_
    refine je (Run.pickT rfl rfl au) (jO ?_)
    refine jN ⟨(js7 (by rw [oS hs0]; rfl) rfl rfl rfl rfl rfl rfl), rfl⟩
   refine jR (jm rfl (jb rfl rfl (Bin.geqN _ 65) (jM ?_)))
   refine jU ?_
   refine jU ?_
   refine je (Run.pickF rfl rfl au) (jO ?_)
   refine jN ⟨(js7 (by rw [oT hs0]; rfl) rfl rfl rfl rfl rfl rfl), rfl⟩
  intro Γ hΓ
  refine jN (VC.sub _ hΓ ?_)
  refine VC.meet (σ := Unit) (fun s => [(3, .slice (some ⟨g1, 0, none⟩) q.length c1), (8, .slice (some ⟨g1, 0, none⟩) q.length c1), (9, .int .i64 ((q.length : Nat) : Int)), (10, .int .i64 ((i : Nat) : Int))]) (fun s wm => Frm [] w wm ∧ ∃ cs, Fro wm g1 5 cs ∧ cs.toList.take q.length = U8 ((q.take (i + 1)).map low ++ q.drop (i + 1))) ?_ ?_
  ·
   refine jD rfl (fun hc2 => ?_) fun hc2 => ?_
   ·
    refine jR (jm rfl (jm rfl (jm rfl (jb rfl rfl (Bin.add_u8 _ 32 jo) ?_))))
    rw [show (q[i].toNat + 32 : Nat) = (low q[i]).toNat by rw [dG, if_pos hc2]]
    refine je (Run.indexS i rfl rfl zat zbk hc1) ?_
    rw [show (⟨g1, 0, none⟩ : Addr).add (i * 1) = ⟨g1, i, none⟩ by unfold Addr.add; rw [zbq]; split <;> simp_all]
    refine Ops.st (qP.storeFro rfl rfl zbk hF hsz rfl) ?_
    rintro w2 ⟨hF2, hf2, hs2⟩
    refine jO ?_
    refine jN ⟨(), (js4 rfl rfl rfl rfl), ?_⟩
    exact ⟨hfr.own hf2 (fun x hx => by simp at hx; omega), _, hF2, by rw [qQb ht hll hc1, sF hc1]⟩
   refine jQ ?_
   refine jN ⟨(), (js4 rfl rfl rfl rfl), ?_⟩
   exact ⟨hfr, cs, hF, by rw [ht, qX6 hc1 (UInt8.toNat_inj.1 (by rw [dG, if_neg hc2]))]⟩
  rintro _ wm ⟨hfr2, cs2, hF2, ht2⟩ Γ hΓ
  refine qW (jN (VC.sub _ hΓ ?_))
  refine jR (jb rfl rfl (Bin.add_i64 _ 1 jo) (jm rfl (jO ?_)))
  refine jN ⟨(i + 1), (js4 rfl rfl rfl rfl), ?_, ?_⟩
  · exact ⟨hc1, hfr2, cs2, hF2, ht2⟩
  first | omega | (dsimp only; omega)
 refine jX ?_
 refine qJ (qJ (qN ?_))
 refine jN (jv1 3 ?_)
 refine jS (jR (jM ?_))
 have hR : Rd wr 1 (some ⟨g1, 0, none⟩) q.length (U8 (qT q)) := by
  have him : i = q.length := jo
  subst him
  have h := hF.rd (l := qT q) (by rw [cI, ht]; simp [qT])
  rwa [cI] at h
 refine je (Run.strOfT rfl zat zbx zj hR) (ja rfl (jO (jN (jv1 2 ?_))))
 refine jT ?_
 refine qR rfl ?_
 exact ⟨rfl, hfr⟩
theorem qQc (n : Nat) (w : World) : Calls Tryz.prog 201 #[.int .i32 ((n : Nat) : Int)] w fun e w' => e = .returned (.bool (decide (qD n))) ∧ w = w' := by
 refine VC.calls (nt := 33) (res := #[.tmp 2]) Tryz.func201 rfl Tryz.ntmps201 Tryz.results201 rfl ?_
 refine jS (jR (ja rfl (jO (jN (jv1 0 ?_)))))
 refine jS ?_
 refine VC.split1 [] .nil 2 (.bool (decide (qD n))) ?_ ?_
 ·
  refine jR ?_
  refine jm rfl (jb rfl rfl (Bin.geqN _ 97) ?_)
  by_cases hs4 : 97 ≤ n
  ·
   refine jM ?_
   refine jG ?_
   refine jk (Run.bin rfl rfl (Bin.leqN _ 122)) ?_
   by_cases hs7 : n ≤ 122
   ·
    refine je (Run.pickT rfl rfl au) (jM ?_)
    refine jU ?_
    refine jU ?_
    refine jU ?_
    refine Ops.skU rfl rfl ?_
    refine Ops.skU rfl rfl ?_
    refine jU ?_
    refine je (Run.pickT rfl rfl au) (jM ?_)
    refine jU ?_
    refine jU ?_
    refine je (Run.pickT rfl rfl au) (jM ?_)
    refine jU ?_
    refine jU ?_
    refine je (Run.pickT rfl rfl au) (jM ?_)
    refine jU ?_
    refine jU ?_
    refine je (Run.pickT rfl rfl au) (jM ?_)
    refine jU ?_
    refine jU ?_
    refine je (Run.pickT rfl rfl au) (ja rfl (jO ?_))
    refine jN ⟨(js1 (jC (Eq.symm (by unfold qD; grind)))), rfl⟩
   refine je (Run.pickT rfl rfl au) (jM ?_)
   refine jG ?_
   refine jk (Run.bin rfl rfl (Bin.geqN _ 48)) ?_
   by_cases hs11 : 48 ≤ n
   ·
    refine jG ?_
    refine jG ?_
    refine jk (Run.bin rfl rfl (Bin.leqN _ 57)) ?_
    by_cases hs14 : n ≤ 57
    ·
     refine jk (Run.pickT rfl rfl au) ?_
     refine je (Run.pickF rfl rfl au) (jM ?_)
     refine jU ?_
     refine jU ?_
     refine je (Run.pickT rfl rfl au) (jM ?_)
     refine jU ?_
     refine jU ?_
     refine je (Run.pickT rfl rfl au) (jM ?_)
     refine jU ?_
     refine jU ?_
     refine je (Run.pickT rfl rfl au) (jM ?_)
     refine jU ?_
     refine jU ?_
     refine je (Run.pickT rfl rfl au) (ja rfl (jO ?_))
     refine jN ⟨(js1 (jC (Eq.symm (by unfold qD; grind)))), rfl⟩
    refine jk (Run.pickT rfl rfl au) ?_
    refine je (Run.pickF rfl rfl au) (jM ?_)
    refine jG ?_
    refine jk (Run.bin rfl rfl (Bin.eqlN _ 36)) ?_
    by_cases hs19 : n = 36
    ·
     refine je (Run.pickF rfl rfl au) (jM ?_)
     refine jU ?_
     refine jU ?_
     refine je (Run.pickT rfl rfl au) (jM ?_)
     refine jU ?_
     refine jU ?_
     refine je (Run.pickT rfl rfl au) (jM ?_)
     refine jU ?_
     refine jU ?_
     refine je (Run.pickT rfl rfl au) (ja rfl (jO ?_))
     refine jN ⟨(js1 (jC (Eq.symm (by unfold qD; grind)))), rfl⟩
    refine je (Run.pickF rfl rfl au) (jM ?_)
    refine jG ?_
    refine jk (Run.bin rfl rfl (Bin.eqlN _ 45)) ?_
    by_cases hs23 : n = 45
    ·
     refine je (Run.pickF rfl rfl au) (jM ?_)
     refine jU ?_
     refine jU ?_
     refine je (Run.pickT rfl rfl au) (jM ?_)
     refine jU ?_
     refine jU ?_
     refine je (Run.pickT rfl rfl au) (ja rfl (jO ?_))
     refine jN ⟨(js1 (jC (Eq.symm (by unfold qD; grind)))), rfl⟩
    refine je (Run.pickF rfl rfl au) (jM ?_)
    refine jG ?_
    refine jk (Run.bin rfl rfl (Bin.eqlN _ 46)) ?_
    by_cases hs27 : n = 46
    ·
     refine je (Run.pickF rfl rfl au) (jM ?_)
     refine jU ?_
     refine jU ?_
     refine je (Run.pickT rfl rfl au) (ja rfl (jO ?_))
     refine jN ⟨(js1 (jC (Eq.symm (by unfold qD; grind)))), rfl⟩
    refine je (Run.pickF rfl rfl au) (jM ?_)
    refine jG ?_
    refine jk (Run.bin rfl rfl (Bin.eqlN _ 95)) ?_
    by_cases hs31 : n = 95
    ·
     refine je (Run.pickF rfl rfl au) (ja rfl (jO ?_))
     refine jN ⟨(js1 (jC (Eq.symm (by unfold qD; grind)))), rfl⟩
    refine je (Run.pickF rfl rfl au) (ja rfl (jO ?_))
    refine jN ⟨(js1 (jC (Eq.symm (by unfold qD; grind)))), rfl⟩
   refine jG ?_
   refine jU ?_
   refine jU ?_
   refine jk (Run.pickF rfl rfl au) ?_
   refine je (Run.pickF rfl rfl au) (jM ?_)
   refine jG ?_
   refine jk (Run.bin rfl rfl (Bin.eqlN _ 36)) ?_
   by_cases hs19 : n = 36
   ·
    refine je (Run.pickF rfl rfl au) (jM ?_)
    refine jU ?_
    refine jU ?_
    refine je (Run.pickT rfl rfl au) (jM ?_)
    refine jU ?_
    refine jU ?_
    refine je (Run.pickT rfl rfl au) (jM ?_)
    refine jU ?_
    refine jU ?_
    refine je (Run.pickT rfl rfl au) (ja rfl (jO ?_))
    refine jN ⟨(js1 (jC (Eq.symm (by unfold qD; grind)))), rfl⟩
   refine je (Run.pickF rfl rfl au) (jM ?_)
   refine jG ?_
   refine jk (Run.bin rfl rfl (Bin.eqlN _ 45)) ?_
   by_cases hs23 : n = 45
   ·
    refine je (Run.pickF rfl rfl au) (jM ?_)
    refine jU ?_
    refine jU ?_
    refine je (Run.pickT rfl rfl au) (jM ?_)
    refine jU ?_
    refine jU ?_
    refine je (Run.pickT rfl rfl au) (ja rfl (jO ?_))
    refine jN ⟨(js1 (jC (Eq.symm (by unfold qD; grind)))), rfl⟩
   refine je (Run.pickF rfl rfl au) (jM ?_)
   refine jG ?_
   refine jk (Run.bin rfl rfl (Bin.eqlN _ 46)) ?_
   by_cases hs27 : n = 46
   ·
    refine je (Run.pickF rfl rfl au) (jM ?_)
    refine jU ?_
    refine jU ?_
    refine je (Run.pickT rfl rfl au) (ja rfl (jO ?_))
    refine jN ⟨(js1 (jC (Eq.symm (by unfold qD; grind)))), rfl⟩
   refine je (Run.pickF rfl rfl au) (jM ?_)
   refine jG ?_
   refine jk (Run.bin rfl rfl (Bin.eqlN _ 95)) ?_
   by_cases hs31 : n = 95
   ·
    refine je (Run.pickF rfl rfl au) (ja rfl (jO ?_))
    refine jN ⟨(js1 (jC (Eq.symm (by unfold qD; grind)))), rfl⟩
   refine je (Run.pickF rfl rfl au) (ja rfl (jO ?_))
   refine jN ⟨(js1 (jC (Eq.symm (by unfold qD; grind)))), rfl⟩
  refine jM ?_
  refine jU ?_
  refine jU ?_
  refine je (Run.pickF rfl rfl au) (jM ?_)
  refine jG ?_
  refine jk (Run.bin rfl rfl (Bin.geqN _ 48)) ?_
  by_cases hs11 : 48 ≤ n
  ·
   refine jG ?_
   refine jG ?_
   refine jk (Run.bin rfl rfl (Bin.leqN _ 57)) ?_
   by_cases hs14 : n ≤ 57
   ·
    refine jk (Run.pickT rfl rfl au) ?_
    refine je (Run.pickF rfl rfl au) (jM ?_)
    refine jU ?_
    refine jU ?_
    refine je (Run.pickT rfl rfl au) (jM ?_)
    refine jU ?_
    refine jU ?_
    refine je (Run.pickT rfl rfl au) (jM ?_)
    refine jU ?_
    refine jU ?_
    refine je (Run.pickT rfl rfl au) (jM ?_)
    refine jU ?_
    refine jU ?_
    refine je (Run.pickT rfl rfl au) (ja rfl (jO ?_))
    refine jN ⟨(js1 (jC (Eq.symm (by unfold qD; grind)))), rfl⟩
   refine jk (Run.pickT rfl rfl au) ?_
   refine je (Run.pickF rfl rfl au) (jM ?_)
   refine jG ?_
   refine jk (Run.bin rfl rfl (Bin.eqlN _ 36)) ?_
   by_cases hs19 : n = 36
   ·
    refine je (Run.pickF rfl rfl au) (jM ?_)
    refine jU ?_
    refine jU ?_
    refine je (Run.pickT rfl rfl au) (jM ?_)
    refine jU ?_
    refine jU ?_
    refine je (Run.pickT rfl rfl au) (jM ?_)
    refine jU ?_
    refine jU ?_
    refine je (Run.pickT rfl rfl au) (ja rfl (jO ?_))
    refine jN ⟨(js1 (jC (Eq.symm (by unfold qD; grind)))), rfl⟩
   refine je (Run.pickF rfl rfl au) (jM ?_)
   refine jG ?_
   refine jk (Run.bin rfl rfl (Bin.eqlN _ 45)) ?_
   by_cases hs23 : n = 45
   ·
    refine je (Run.pickF rfl rfl au) (jM ?_)
    refine jU ?_
    refine jU ?_
    refine je (Run.pickT rfl rfl au) (jM ?_)
    refine jU ?_
    refine jU ?_
    refine je (Run.pickT rfl rfl au) (ja rfl (jO ?_))
    refine jN ⟨(js1 (jC (Eq.symm (by unfold qD; grind)))), rfl⟩
   refine je (Run.pickF rfl rfl au) (jM ?_)
   refine jG ?_
   refine jk (Run.bin rfl rfl (Bin.eqlN _ 46)) ?_
   by_cases hs27 : n = 46
   ·
    refine je (Run.pickF rfl rfl au) (jM ?_)
    refine jU ?_
    refine jU ?_
    refine je (Run.pickT rfl rfl au) (ja rfl (jO ?_))
    refine jN ⟨(js1 (jC (Eq.symm (by unfold qD; grind)))), rfl⟩
   refine je (Run.pickF rfl rfl au) (jM ?_)
   refine jG ?_
   refine jk (Run.bin rfl rfl (Bin.eqlN _ 95)) ?_
   by_cases hs31 : n = 95
   ·
    refine je (Run.pickF rfl rfl au) (ja rfl (jO ?_))
    refine jN ⟨(js1 (jC (Eq.symm (by unfold qD; grind)))), rfl⟩
   refine je (Run.pickF rfl rfl au) (ja rfl (jO ?_))
   refine jN ⟨(js1 (jC (Eq.symm (by unfold qD; grind)))), rfl⟩
  refine jG ?_
  refine jU ?_
  refine jU ?_
  refine jk (Run.pickF rfl rfl au) ?_
  refine je (Run.pickF rfl rfl au) (jM ?_)
  refine jG ?_
  refine jk (Run.bin rfl rfl (Bin.eqlN _ 36)) ?_
  by_cases hs19 : n = 36
  ·
   refine je (Run.pickF rfl rfl au) (jM ?_)
   refine jU ?_
   refine jU ?_
   refine je (Run.pickT rfl rfl au) (jM ?_)
   refine jU ?_
   refine jU ?_
   refine je (Run.pickT rfl rfl au) (jM ?_)
   refine jU ?_
   refine jU ?_
   refine je (Run.pickT rfl rfl au) (ja rfl (jO ?_))
   refine jN ⟨(js1 (jC (Eq.symm (by unfold qD; grind)))), rfl⟩
  refine je (Run.pickF rfl rfl au) (jM ?_)
  refine jG ?_
  refine jk (Run.bin rfl rfl (Bin.eqlN _ 45)) ?_
  by_cases hs23 : n = 45
  ·
   refine je (Run.pickF rfl rfl au) (jM ?_)
   refine jU ?_
   refine jU ?_
   refine je (Run.pickT rfl rfl au) (jM ?_)
   refine jU ?_
   refine jU ?_
   refine je (Run.pickT rfl rfl au) (ja rfl (jO ?_))
   refine jN ⟨(js1 (jC (Eq.symm (by unfold qD; grind)))), rfl⟩
  refine je (Run.pickF rfl rfl au) (jM ?_)
  refine jG ?_
  refine jk (Run.bin rfl rfl (Bin.eqlN _ 46)) ?_
  by_cases hs27 : n = 46
  ·
   refine je (Run.pickF rfl rfl au) (jM ?_)
   refine jU ?_
   refine jU ?_
   refine je (Run.pickT rfl rfl au) (ja rfl (jO ?_))
   refine jN ⟨(js1 (jC (Eq.symm (by unfold qD; grind)))), rfl⟩
  refine je (Run.pickF rfl rfl au) (jM ?_)
  refine jG ?_
  refine jk (Run.bin rfl rfl (Bin.eqlN _ 95)) ?_
  by_cases hs31 : n = 95
  ·
   refine je (Run.pickF rfl rfl au) (ja rfl (jO ?_))
   refine jN ⟨(js1 (jC (Eq.symm (by unfold qD; grind)))), rfl⟩
  refine je (Run.pickF rfl rfl au) (ja rfl (jO ?_))
  refine jN ⟨(js1 (jC (Eq.symm (by unfold qD; grind)))), rfl⟩
 intro Γ hΓ
 refine jN (VC.sub _ hΓ ?_)
 refine jT ?_
 refine qR rfl ?_
 exact ⟨rfl, rfl⟩
theorem xY (n : Nat) (w : World) : Calls Tryz.prog 200 #[.int .i32 ((n : Nat) : Int)] w fun e w' => e = .returned (.bool (!decide (qD n))) ∧ w = w' := by
 refine VC.calls (nt := 6) (res := #[.tmp 2]) Tryz.func200 rfl Tryz.ntmps200 Tryz.results200 rfl ?_
 refine jS (jR (ja rfl (jO (jN (jv1 0 ?_)))))
 refine jS (jR (jM ?_))
 refine Ops.cl (jE1 Tryz.call201) (qQc n _) rfl ?_
 rintro e _ ⟨rfl, rfl⟩
 refine ⟨_, rfl, ?_⟩
 refine je (Run.not rfl) (ja rfl (jO (jN (jv1 2 ?_))))
 refine jT ?_
 refine qR rfl ?_
 exact ⟨rfl, rfl⟩
theorem xG (s : ByteArray) (i : Nat) (h : (s.get! i).toNat < 128) : Utf8.decode s i = ((s.get! i).toNat, 1) := by
 rw [Lib.decode_at]
 unfold Lib.decodeN
 rw [if_pos h]
theorem uR (s : ByteArray) (i : Nat) (h : ¬ (s.get! i).toNat < 128) : 128 ≤ (Utf8.decode s i).1 := by
 rw [Lib.decode_at]
 unfold Lib.decodeN
 rw [if_neg h]
 repeat' split
 all_goals (dsimp only; omega)
theorem sA (s : Tx) : ∀ f pos, s.length ≤ pos + f → pos ≤ s.length → (0 ≤ Lib.idxFuncFrom (fun n => !decide (qD n)) true ⟨s.toArray⟩ f pos ↔ ∃ c ∈ s.drop pos, ¬ qD c.toNat)
 | 0, pos, h1, h2 => by
  have : s.drop pos = [] := zbn jo
  rw [this]
  simp [Lib.idxFuncFrom]
 | f + 1, pos, h1, h2 => by
  unfold Lib.idxFuncFrom
  have hsz : (⟨s.toArray⟩ : ByteArray).size = s.length := rfl
  rw [hsz]
  by_cases hp : pos < s.length
  ·
   rw [if_pos hp, zav hp]
   have hget : (⟨s.toArray⟩ : ByteArray).get! pos = s[pos] := by
    show s.toArray[pos]! = _
    rw [getElem!_pos _ pos (by simpa using hp)]
    simp
   by_cases hl : s[pos].toNat < 128
   ·
    rw [xG _ _ (by rw [hget]; exact hl), hget]
    dsimp only
    by_cases hs : qD s[pos].toNat
    ·
     rw [if_neg (by simp [hs]), sA s f (pos + 1) jo jo]
     simp only [zbh, exists_eq_or_imp, hs, not_true, false_or]
    rw [if_pos (by simp [hs])]
    exact iff_of_true jo ⟨_, zfd, hs⟩
   have hd := uR ⟨s.toArray⟩ pos (by rw [hget]; exact hl)
   rw [if_pos (by simp only [zcv, decide_eq_false_iff_not]; intro h; have := h.lt; omega)]
   have hns : ¬ qD s[pos].toNat := fun h => hl h.lt
   exact iff_of_true jo ⟨_, zfd, hns⟩
  rw [if_neg hp]
  have : s.drop pos = [] := zbn jo
  rw [this]
  simp
theorem uS (s : Tx) (w : World) : Calls Tryz.prog 199 #[encStr s, .func (.func 200) #[] #[]] w fun e w' => e = .returned (.bool (decide (∃ c ∈ s, ¬ qD c.toNat))) ∧ Frm [] w w' := by
 refine (Tryz.strings_ContainsFunc_runes 200 #[] Tryz.call200 (fun n => !decide (qD n)) ⟨s.toArray⟩ w ?_).mono fun e w' ⟨he, hb⟩ => ⟨?_, Frm.of_below hb⟩
 ·
  intro W x _ _
  exact (xY x W).mono fun e w' ⟨he, hw⟩ => ⟨he, 0, by rw [← hw]; rfl⟩
 rw [he]
 congr 2
 rw [decide_eq_decide]
 exact sA s s.length 0 jo jo
theorem qQd (w : World) : Calls Tryz.prog 197 #[] w fun e w' => e = .returned (.agg (SB bM).toArray) ∧ Frm [] w w' := by
 refine VC.calls (nt := 2) (res := #[.cell 0 213]) Tryz.func197 rfl Tryz.ntmps197 Tryz.results197 rfl ?_
 refine jS (jR ?_)
 refine Ops.m (qV.alloc vD) rfl ?_
 rintro _ w1 ⟨rfl, hF1⟩
 have hb1 := hF1.blk
 generalize hg0 : w.heap.size = g0 at *
 refine jO (jN (jS (jR (je (Run.buildA (evs.cons rfl (evs.cons rfl (evs.cons rfl (evs.cons rfl (evs.cons rfl evs.nil))))) vD Tryz.underlying213 zm (cells := (SB bM).toArray) jK) ?_))))
 refine Ops.st (qP.storeA rfl rfl Tryz.sizeOf213 hb1 rfl (dS bM)) ?_
 rintro w5 ⟨hb5, hf5, hs5⟩
 refine jO (jN (jv1 0 ?_))
 refine jT ?_
 refine bT ?_
 refine zU rfl Tryz.isAgg213 Tryz.sizeOf213 (hb5) rfl ?_
 refine bX ?_
 exact ⟨rfl, hF1.frm.own hf5 (fun x hx => by simp at hx; omega)⟩
def bD (s : Tx) : Tx × Nat := match bY s with
 | some t => (t, 0)
 | none => ([], 18)
theorem vL {q : Tx} {i : Nat} (hi : i < bM.length) (hn : ∀ f ∈ bM.take i, qT f ≠ qT q) (h : qT (bM[i]) = qT q) : bM.find? (fun f => decide (qT f = qT q)) = some bM[i] := by
 rw [List.find?_eq_some_iff_append]
 refine ⟨by simpa using h, bM.take i, bM.drop (i + 1), ?_, fun a ha => by simpa using hn a ha⟩
 rw [← zav hi, zbu]
theorem qQe (q : Tx) (w : World) (hq : q.length ≤ 1000000) : Calls Tryz.prog 187 #[encStr q] w fun e w' => e = .returned (.tuple #[encStr (bD q).1, .int .i64 (((bD q).2 : Nat) : Int)]) ∧ Frm [] w w' := by
 refine VC.calls (nt := 34) (res := #[.tmp 2, .tmp 3]) Tryz.func187 rfl Tryz.ntmps187 Tryz.results187 rfl ?_
 refine jS (jR (ja rfl (jz 0 (jO (jN (jv1 0 ?_))))))
 refine jS (jS (jR (jM ?_)))
 refine Ops.cl (jE2 Tryz.call110) (Tryz.strings_HasPrefix ⟨q.toArray⟩ ⟨#[92]⟩ _) rfl ?_
 rintro e w0 ⟨rfl, hw0⟩
 obtain rfl : w = w0 := hw0.symm
 refine ⟨.bool (([92] : Tx).isPrefixOf q), rfl, ?_⟩
 refine jO (jN (jv2 0 8 ?_))
 refine VC.condB rfl (fun hc1 => ?_) (fun hc1 => ?_)
 ·
  refine jS (jS (jR ?_))
  refine Ops.cl (jE0 Tryz.call197) (qQd _) rfl ?_
  rintro e w1 ⟨rfl, hf1⟩
  refine ⟨_, rfl, ?_⟩
  refine jx .i64 0 ?_
  refine jO (jN (jv3 0 9 10 ?_))
  refine jB ?_
  refine VC.loop (σ := Nat) (fun s => [(0, encStr q), (9, .agg (SB bM).toArray), (10, .int .i64 ((s : Nat) : Int))]) (fun s wr => s ≤ 5 ∧ Frm [] w wr ∧ ∀ f ∈ bM.take s, qT f ≠ qT q) (fun s => 5 - s) 0 (js3 rfl rfl rfl) ⟨jo, hf1, jp⟩ ?_
  rintro i wr ⟨hi, hfr, hn⟩
  refine jS (jR (jb rfl rfl (Bin.lssN _ 5) (jO (jN (jS ?_)))))
  refine jD rfl (fun hc2 => ?_) fun hc2 => ?_
  ·
   have hi5 : i < bM.length := hc2
   refine jQ (jN (jv3 0 9 10 ?_))
   refine jS (jB (jS (jR ?_)))
   refine Ops.r (Run.indexArr1 (v := encStr bM[i]) i rfl rfl Tryz.underlying213 zx zm rfl (by simp [SB, hi5])) rfl ?_
   refine ja rfl (jO (jN (jv4 0 5 9 10 ?_)))
   refine jS (jR (jM ?_))
   refine Ops.cl (jE1 Tryz.call198) (kO bM[i] _ (by have := hZ (kL _ (zaa hi5)); omega)) rfl ?_
   rintro e w2 ⟨rfl, hf2⟩
   refine ⟨_, rfl, ?_⟩
   refine jM ?_
   refine Ops.cl (jE1 Tryz.call198) (kO q _ hq) rfl ?_
   rintro e w3 ⟨rfl, hf3⟩
   refine ⟨_, rfl, ?_⟩
   have hfr3 := (hfr.trans hf2 jp).trans hf3 jp
   refine je (Run.eqlT rfl rfl) (jO (jN (jv5 0 5 9 10 17 ?_)))
   refine jD rfl (fun hc3 => ?_) fun hc3 => ?_
   ·
    refine jS (jR (jm rfl (ja rfl (jz 0 (jO (jN (jv2 2 3 ?_)))))))
    refine jT ?_
    refine qH (qZ (qZ (qH (qZ (qZ (cF rfl rfl ?_))))))
    have e : bD q = (bM[i], 0) := by
     unfold bD bY
     rw [if_pos hc1, vL hi5 hn hc3]
    rw [e]
    exact ⟨rfl, hfr3⟩
   refine jQ ?_
   refine qW (jN ?_)
   refine jv3 0 9 10 ?_
   refine jR (jb rfl rfl (Bin.add_i64 _ 1 jo) (jm rfl (jO ?_)))
   refine jN ⟨(i + 1), (js3 rfl rfl rfl), ?_, ?_⟩
   ·
    refine ⟨hc2, hfr3, fun f hf => ?_⟩
    have e : bM.take (i + 1) = bM.take i ++ [bM[i]] := by rw [zan, zb hi5]; rfl
    rw [e] at hf
    rcases zds.1 hf with h | h
    · exact hn f h
    simp only [za] at h
    rw [h]; exact hc3
   first | omega | (dsimp only; omega)
  refine jX ?_
  refine qJ (qJ (qN ?_))
  refine jN ?_
  refine VC.sub [] .nil ?_
  refine jS (jR (ja rfl (jz 18 (jO (jN (jT ?_))))))
  refine qZ (cF rfl rfl ?_)
  have e : bD q = ([], 18) := by
   have hi : i = 5 := jo
   subst hi
   unfold bD bY
   rw [if_pos hc1, List.find?_eq_none.2 (fun f hf => by simpa using hn f hf)]
  rw [e]
  exact ⟨rfl, hfr⟩
 refine jQ (jN (jv1 0 ?_))
 refine jS (jR (jM ?_))
 refine Ops.cl (jE1 Tryz.call198) (kO q _ hq) rfl ?_
 rintro e w3 ⟨rfl, hf3⟩
 refine ⟨_, rfl, ?_⟩
 have hpf : ¬ ([92] : Tx).isPrefixOf q = true := by rw [hc1]; simp
 refine ja rfl (jO (jN (jv1 6 ?_)))
 refine jS (jS ?_)
 refine VC.splitR [(6, encStr (qT q))] (Frm [] w) 32 (.bool (decide (qT q = [] ∨ 20 < (qT q).length ∨ ∃ c ∈ qT q, ¬ qD c.toNat))) ?_ ?_
 ·
  refine jR ?_
  refine jm rfl (je (Run.eqlT rfl rfl) ?_)
  by_cases hs23 : qT q = []
  ·
   refine jM ?_
   refine jU ?_
   refine jU ?_
   refine jU ?_
   refine je (Run.pickT rfl rfl au) (jM ?_)
   refine jU ?_
   refine jU ?_
   refine je (Run.pickT rfl rfl au) (jO ?_)
   refine jN ⟨(js2 (jC (Eq.symm (by simp [*]))) rfl), (by first | exact hf3.trans hf4 jp | exact hf3)⟩
  refine jM ?_
  refine jG ?_
  refine jk (Run.lenT rfl zj) ?_
  refine jk (Run.bin rfl rfl (Bin.gtrN _ 20)) ?_
  by_cases hs27 : 20 < (qT q).length
  ·
   refine je (Run.pickF rfl rfl au) (jM ?_)
   refine jU ?_
   refine jU ?_
   refine je (Run.pickT rfl rfl au) (jO ?_)
   refine jN ⟨(js2 (jC (Eq.symm (by simp [*]))) rfl), (by first | exact hf3.trans hf4 jp | exact hf3)⟩
  refine je (Run.pickF rfl rfl au) (jM ?_)
  refine jG ?_
  refine Ops.clg rfl au (jE2 Tryz.call199) (uS (qT q) _) rfl ?_
  rintro e w4 ⟨rfl, hf4⟩
  refine ⟨_, rfl, ?_⟩
  by_cases hs31 : ∃ c ∈ qT q, ¬ qD c.toNat
  ·
   refine je (Run.pickF rfl rfl au) (jO ?_)
   refine jN ⟨(js2 (jC (Eq.symm (by simp [*]))) rfl), (by first | exact hf3.trans hf4 jp | exact hf3)⟩
  refine je (Run.pickF rfl rfl au) (jO ?_)
  refine jN ⟨(js2 (jC (Eq.symm (by simp [*]))) rfl), (by first | exact hf3.trans hf4 jp | exact hf3)⟩
 intro Γ wR hΓ hR
 refine jN (VC.sub _ hΓ ?_)
 refine jD rfl (fun hc4 => ?_) fun hc4 => ?_
 ·
  refine jS (jR (ja rfl (jz 18 (jO (jN (jv2 2 3 ?_))))))
  refine jT ?_
  refine qZ (cF rfl rfl ?_)
  have e : bD q = ([], 18) := by
   unfold bD bY
   rw [if_neg hpf, if_pos (by rw [cI] at hc4; exact hc4)]
  rw [e]
  exact ⟨rfl, hR⟩
 refine jQ (jN (jv1 6 ?_))
 refine jS (jR (jm rfl (ja rfl (jz 0 (jO (jN (jv2 2 3 ?_)))))))
 refine jT ?_
 refine cF rfl rfl ?_
 have e : bD q = (qT q, 0) := by
  unfold bD bY
  rw [if_neg hpf, if_neg (by rw [cI] at hc4; exact hc4)]
 rw [e]
 exact ⟨rfl, hR⟩
end
section
open Go.RowKit Go.Sort
theorem lQ (s : Tx) : (∃ t, bY s = some t ∧ bD s = (t, 0)) ∨ (bY s = none ∧ bD s = ([], 18)) := by
 unfold bD
 cases bY s with
 | none => exact .inr ⟨rfl, rfl⟩
 | some t => exact .inl ⟨t, rfl, rfl⟩
def IsN (w0 w' : World) (e : Ending) (F : Except Nat (List Tx)) (B : Option Addr) (d : Nat) (r : List Tx) (k : Nat) : Prop :=
 e = .returned (.tuple #[.slice B r.length d, .int .i64 ((k : Nat) : Int)]) ∧ Own w' 9 1 B r.length d (SB r) ∧ (∀ x ∈ ob B, w0.heap.size ≤ x) ∧ ((k = 0 ∧ F = .ok r) ∨ (k ≠ 0 ∧ r = [] ∧ F = .error k))
theorem cL {α : Type} {l : List α} {i : Nat} (h : i < l.length) : l.take (i + 1) = l.take i ++ [l[i]] := by rw [zan, zb h]; rfl
theorem sI {w w' : World} {t : TypeId} {q : Tx} (h : Fresh w w' t #[encStr q]) : Rd w' 1 (some ⟨w.heap.size, 0, none⟩) 1 (SB [q]) := Rd.of_blk (n := 1) (size := 1) h.blk rfl
theorem xH (A : Option Addr) (c0 : Nat) (l : List Tx) (w : World) (hn : l.length ≤ 1000000) (hq : ∀ q ∈ l, q.length ≤ 1000000) (hr : Rd w 1 A l.length (SB l)) :
  Calls Tryz.prog 176 #[.slice A l.length c0] w fun e w' => Frm [] w w' ∧ ∃ B d r k, IsN w w' e (dY l) B d r k := by
 refine VC.calls (nt := 36) (res := #[.tmp 2, .tmp 3]) Tryz.func176 rfl Tryz.ntmps176 Tryz.results176 rfl ?_
 refine jS (jR (ja rfl (jz 0 (jO (jN (jv1 0 ?_))))))
 refine jS (jR (ja rfl (jO (jN (jS (jS (jR (jm rfl (je (Run.lenS rfl zc) ?_)))))))))
 refine jx .i64 0 ?_
 refine jO (jN (jv4 4 9 10 11 ?_))
 refine jB ?_
 refine VC.loop (σ := Nat × Option Addr × Nat × List Tx) (fun s => [(4, .slice s.2.1 s.2.2.2.length s.2.2.1), (9, .slice A l.length c0), (10, .int .i64 ((l.length : Nat) : Int)), (11, .int .i64 ((s.1 : Nat) : Int))]) (fun s wr => s.1 ≤ l.length ∧ Own wr 9 1 s.2.1 s.2.2.2.length s.2.2.1 (SB s.2.2.2) ∧ (∀ x ∈ ob s.2.1, w.heap.size ≤ x) ∧ Frm [] w wr ∧ bL (l.take s.1) = some s.2.2.2) (fun s => l.length - s.1) (0, none, 0, []) (js4 rfl rfl rfl rfl) ⟨jo, Own.nil _ _ _, by simp [ob], Frm.refl _ _, rfl⟩ ?_
 rintro ⟨i, B, d, ts⟩ wr ⟨hi, hown, hge, hfr, htl⟩
 dsimp only at hi hown hge htl ⊢
 have htsl : ts.length = i := by rw [rW htl]; simp; omega
 refine jS (jR (jb rfl rfl (Bin.lssN _ _) (jO (jN (jS ?_)))))
 refine jD rfl (fun hc1 => ?_) fun hc1 => ?_
 ·
  obtain ⟨ad, rfl, hcell⟩ := eZ (hr.frm hfr jp) hc1
  refine jQ (jN (jv4 4 9 10 11 ?_))
  refine jS (jB (jS (jR (je (Run.index1 i rfl rfl zc zm hc1) (jl rfl zx hcell (ja rfl (jO (jN (jv5 4 6 9 10 11 ?_)))))))))
  refine jS (jR (jM ?_))
  refine Ops.cl (jE1 Tryz.call187) (qQe l[i] _ (hq _ (zaa hc1))) rfl ?_
  rintro e w1 ⟨rfl, hf1⟩
  refine ⟨_, rfl, ?_⟩
  have hfr1 := hfr.trans hf1 jp
  have hown1 := hown.frm hf1 jp
  have htc := lQ l[i]
  generalize hq0 : l[i] = q at *
  refine jm rfl (je (Run.extract rfl rfl) (je (Run.extract rfl rfl) (ja rfl (ja rfl (jO (jN (jv6 4 7 8 9 10 11 ?_)))))))
  refine jS (jS (jR (jm rfl (jb rfl rfl (Bin.neqN _ 0) (jO (jN (jv7 4 7 8 9 10 11 21 ?_)))))))
  refine jD rfl (fun hc2 => ?_) fun hc2 => ?_
  ·
   have ht0 : bY q = none ∧ bD q = ([], 18) := by
    rcases htc with ⟨t, _, h⟩ | h
    · rw [h] at hc2; exact absurd rfl hc2
    exact h
   have hnf : dY l = .error 18 := by
    unfold dY
    rw [oF (hq0 ▸ zaa hc1) ht0.1]
   refine jS (jR (jm rfl (ja rfl (ja rfl (jO (jN (jv2 2 3 ?_)))))))
   refine jT ?_
   refine qZ (qH (qZ (qZ (qH (qZ (cF rfl rfl ?_))))))
   rw [ht0.2]
   exact ⟨hfr1, none, 0, [], 18, rfl, Own.nil _ _ _, by simp [ob], .inr ⟨jd, rfl, hnf⟩⟩
  obtain ⟨t, ht0, hv0⟩ : ∃ t, bY q = some t ∧ bD q = (t, 0) := by
   rcases htc with h | ⟨_, h⟩
   · exact h
   rw [h] at hc2; exact absurd jd hc2
  rw [hv0]
  refine jQ (jN (jv5 4 7 9 10 11 ?_))
  refine jR (jm rfl (jM ?_))
  refine Ops.m (qV.buildS1 rfl zc zm dI jd jd rfl rfl) rfl ?_
  rintro _ w2 ⟨rfl, hF2⟩
  have hfr2 := hfr1.trans hF2.frm jp
  refine Ops.m (qV.app rfl rfl zc (eF) rfl jd (hown1.frm hF2.frm jp) (sI hF2) (dS _) jo jo) rfl ?_
  rintro _ w3 ⟨A3, c3, rfl, hown3, hfr3, hob3⟩
  rw [← bA] at hown3
  have hge3 := fF hge hob3 hfr2.size
  have hfr3' := hfr2.own hfr3 hge
  refine ja rfl (jO ?_)
  refine qW (jN ?_)
  refine jv4 4 9 10 11 ?_
  refine jR (jb rfl rfl (Bin.add_i64 _ 1 jo) (jm rfl (jO ?_)))
  refine jN ⟨(i + 1, A3, c3, ts ++ [t]), (js4 (by rw [zi]; rfl) rfl rfl rfl), ?_, ?_⟩
  · exact ⟨hc1, by simpa using hown3, hge3, hfr3', by rw [cL hc1, oE, htl, hq0, ht0]⟩
  first | omega | (dsimp only; omega)
 refine jX ?_
 refine qJ (qJ (qN ?_))
 refine jN (jv1 4 ?_)
 refine jS (jR (jM ?_))
 refine Ops.cl (jE1 Tryz.call188) (zI B d ts _ hown jo) rfl ?_
 rintro e w2 ⟨rfl, hown2, hf2⟩
 refine ⟨_, rfl, ?_⟩
 have hfr2 := hfr.own hf2 hge
 have him : i = l.length := jo
 subst him
 rw [zaq] at htl
 rw [← kP ts] at hown2
 refine jO (jN (jv1 4 ?_))
 refine jS (jS (jR (jM ?_)))
 refine Ops.cl (jE1 Tryz.call189) ((show Calls _ _ #[.slice B ts.length d] _ _ from kP ts ▸ sD B d (srt ts) _ hown2 (by rw [kP]; omega))) rfl ?_
 rintro e w3 ⟨rfl, hown3, hf3⟩
 refine ⟨_, rfl, ?_⟩
 have hfr3 := hfr2.own hf3 hge
 refine ja rfl (jO (jN (jv1 4 ?_)))
 refine jS (jR (jm rfl (je (Run.lenS rfl zc) (jb rfl rfl (Bin.gtrN _ 16) (jO (jN (jv2 4 34 ?_)))))))
 refine jD rfl (fun hc3 => ?_) fun hc3 => ?_
 ·
  refine jS (jR (ja rfl (jz 5 (jO (jN (jv2 2 3 ?_))))))
  refine jT ?_
  refine qZ (cF rfl rfl ?_)
  exact ⟨hfr3, none, 0, [], 5, rfl, Own.nil _ _ _, by simp [ob], .inr ⟨jd, rfl, by unfold dY; rw [htl]; exact if_pos hc3⟩⟩
 refine jQ (jN (jv1 4 ?_))
 refine jS (jR (jm rfl (ja rfl (jz 0 (jO (jN (jv2 2 3 ?_)))))))
 refine jT ?_
 refine cF rfl rfl ?_
 exact ⟨hfr3, B, d, nub ts, 0, rfl, hown3, hge, .inl ⟨rfl, by unfold dY; rw [htl]; exact if_neg hc3⟩⟩
theorem uT (A : Option Addr) (c0 : Nat) (l : List Tx) (w : World) (hn : l.length ≤ 1000000) (hq : ∀ q ∈ l, q.length ≤ 1000000) (hr : Rd w 1 A l.length (SB l)) :
  Calls Tryz.prog 153 #[.slice A l.length c0] w fun e w' => e = .returned (.bool (decide (cY l))) ∧ Frm [] w w' := by
 refine VC.calls (nt := 17) (res := #[.tmp 2]) Tryz.func153 rfl Tryz.ntmps153 Tryz.results153 rfl ?_
 refine jS (jR (ja rfl (jO (jN (jv1 0 ?_)))))
 refine jS (jR (jM ?_))
 refine Ops.cl (jE1 Tryz.call176) (xH A c0 l _ hn hq hr) rfl ?_
 rintro e w1 ⟨hf1, B, d, r, k, rfl, ho1, hge1, hN⟩
 refine ⟨_, rfl, ?_⟩
 have hr1 := hr.frm hf1 jp
 have hck : cY l ↔ (k = 0 ∧ r = l) := by
  unfold cY
  rcases hN with ⟨h1, h2⟩ | ⟨h1, _, h2⟩
  · rw [h2]; simp [h1]
  rw [h2]; simp [h1]
 have hrl : r.length ≤ 1000000 := by
  rcases hN with ⟨h1, h2⟩ | ⟨h1, h2, _⟩
  · have := (eI (nH h2)).2.1; omega
  subst h2; simp
 refine jm rfl (je (Run.extract rfl rfl) (je (Run.extract rfl rfl) (ja rfl (ja rfl (jO (jN (jv3 0 3 4 ?_)))))))
 refine jS ?_
 refine VC.splitR [] (Frm [] w) 2 (.bool (decide (cY l))) ?_ ?_
 ·
  refine jR ?_
  refine jm rfl (jb rfl rfl (Bin.eqlN _ 0) ?_)
  by_cases hs11 : k = 0
  ·
   refine jM ?_
   refine jG ?_
   refine jG ?_
   refine Ops.clg rfl au (jE2 Tryz.call177) (xX B A d c0 r l _ ho1.rd hr1 jo jo) rfl ?_
   rintro e w2 ⟨rfl, hd2⟩
   refine ⟨_, rfl, ?_⟩
   by_cases hs15 : r = l
   ·
    refine je (Run.pickT rfl rfl au) (ja rfl (jO ?_))
    refine jN ⟨(js1 (jC (Eq.symm (by simp [hck, *])))), (by first | exact hf1.drawn hd2 | exact hf1)⟩
   refine je (Run.pickT rfl rfl au) (ja rfl (jO ?_))
   refine jN ⟨(js1 (jC (Eq.symm (by simp [hck, *])))), (by first | exact hf1.drawn hd2 | exact hf1)⟩
  refine jM ?_
  refine jU ?_
  refine jU ?_
  refine jU ?_
  refine je (Run.pickF rfl rfl au) (ja rfl (jO ?_))
  refine jN ⟨(js1 (jC (Eq.symm (by simp [hck, *])))), (by first | exact hf1.drawn hd2 | exact hf1)⟩
 intro Γ wR hΓ hR
 refine jN (VC.sub _ hΓ ?_)
 refine jT ?_
 refine qR rfl ?_
 exact ⟨rfl, hR⟩
def xM (l : List Tx) (q : Tx) : Prop := ∃ t, bY q = some t ∧ t ∈ l
theorem qX7 (l : List Tx) (q : Tx) : xM l q ↔ (bD q).2 = 0 ∧ (bD q).1 ∈ l := by
 unfold xM
 rcases lQ q with ⟨t, h1, h2⟩ | ⟨h1, h2⟩ <;> rw [h1, h2] <;> simp
instance (l : List Tx) (q : Tx) : Decidable (xM l q) := decidable_of_iff _ (qX7 l q).symm
end
section
def cC (y : Nat) : Prop := y % 4 = 0 ∧ y % 100 ≠ 0 ∨ y % 400 = 0
instance (y : Nat) : Decidable (cC y) := by unfold cC; infer_instance
def longN (y m : Nat) : Nat := if m = 2 then (if cC y then 29 else 28) else if m = 4 ∨ m = 6 ∨ m = 9 ∨ m = 11 then 30 else 31
def wholeN (y : Nat) : Nat := if cC y then 366 else 365
def aheadN (y : Nat) : Nat := 365 * (y - 1) + (y - 1) / 4 - (y - 1) / 100 + (y - 1) / 400
def bB (y : Nat) : Nat → Nat
 | 0 => 0
 | 1 => 0
 | m + 2 => bB y (m + 1) + longN y (m + 1)
theorem rG (y : Nat) : 365 ≤ wholeN y ∧ wholeN y ≤ 366 := by unfold wholeN; split <;> omega
theorem lX (y : Nat) (h : 1 ≤ y) : aheadN (y + 1) = aheadN y + wholeN y := by
 obtain ⟨x, rfl⟩ : ∃ x, y = x + 1 := ⟨y - 1, jo⟩
 have d4 : ((x + 1) % 4 = 0 ∧ (x + 1) / 4 = x / 4 + 1) ∨ ((x + 1) % 4 ≠ 0 ∧ (x + 1) / 4 = x / 4) := jo
 have d100 : ((x + 1) % 100 = 0 ∧ (x + 1) / 100 = x / 100 + 1) ∨ ((x + 1) % 100 ≠ 0 ∧ (x + 1) / 100 = x / 100) := jo
 have d400 : ((x + 1) % 400 = 0 ∧ (x + 1) / 400 = x / 400 + 1) ∨ ((x + 1) % 400 ≠ 0 ∧ (x + 1) / 400 = x / 400) := jo
 have i1 : (x + 1) % 400 = 0 → (x + 1) % 100 = 0 := jo
 have i2 : (x + 1) % 100 = 0 → (x + 1) % 4 = 0 := jo
 have i3 : x / 100 ≤ x / 4 := jo
 have i4 : (x + 1) / 100 ≤ (x + 1) / 4 := jo
 unfold aheadN wholeN
 by_cases hl : cC (x + 1)
 ·
  rw [if_pos hl]; unfold cC at hl; simp only [Nat.add_sub_cancel]
  generalize (x + 1) % 4 = m4 at *
  generalize (x + 1) % 100 = m100 at *
  generalize (x + 1) % 400 = m400 at *
  generalize (x + 1) / 4 = a4 at *
  generalize (x + 1) / 100 = a100 at *
  generalize (x + 1) / 400 = a400 at *
  generalize x / 4 = b4 at *
  generalize x / 100 = b100 at *
  generalize x / 400 = b400 at *
  omega
 rw [if_neg hl]; unfold cC at hl; simp only [Nat.add_sub_cancel]
 generalize (x + 1) % 4 = m4 at *
 generalize (x + 1) % 100 = m100 at *
 generalize (x + 1) % 400 = m400 at *
 generalize (x + 1) / 4 = a4 at *
 generalize (x + 1) / 100 = a100 at *
 generalize (x + 1) / 400 = a400 at *
 generalize x / 4 = b4 at *
 generalize x / 100 = b100 at *
 generalize x / 400 = b400 at *
 omega
theorem jE (y m : Nat) (h : 1 ≤ m) : bB y (m + 1) = bB y m + longN y m := by
 obtain ⟨x, rfl⟩ : ∃ x, m = x + 1 := ⟨m - 1, jo⟩
 rfl
theorem qV2 (f g : Nat → Nat) (h1 : f 1 = 0) (h : ∀ m, 1 ≤ m → f (m + 1) = f m + g m) : f 13 = g 1 + g 2 + g 3 + g 4 + g 5 + g 6 + g 7 + g 8 + g 9 + g 10 + g 11 + g 12 := by
 rw [h 12 jo, h 11 jo, h 10 jo, h 9 jo, h 8 jo, h 7 jo, h 6 jo, h 5 jo, h 4 jo, h 3 jo, h 2 jo, h 1 jo, h1]
 omega
theorem oI (y : Nat) : bB y 13 = wholeN y := by
 rw [qV2 (bB y) (longN y) rfl (jE y)]
 unfold longN wholeN
 by_cases hl : cC y
 · simp [hl]
 simp [hl]
theorem rH (y : Nat) (h : aheadN y ≤ 3652058) : y ≤ 9999 := by unfold aheadN at h; omega
theorem qQf (n : Nat) : n < aheadN (n / 365 + 1 + 1) := by unfold aheadN; omega
theorem rM : aheadN 1 = 0 := rfl
def sY (n : Int) (y m d : Nat) : Prop := 1 ≤ y ∧ y ≤ 9999 ∧ 1 ≤ m ∧ m ≤ 12 ∧ 1 ≤ d ∧ d ≤ longN y m ∧ n + 719162 = ((aheadN y + bB y m + (d - 1) : Nat) : Int)
def dQ (sec zone : Int) : Prop := -1439 ≤ zone ∧ zone ≤ 1439 ∧ -719162 * 86400 ≤ sec + 60 * zone ∧ sec + 60 * zone < 2932897 * 86400
instance (a b : Int) : Decidable (dQ a b) := by unfold dQ; infer_instance
end
section
open Go.RowKit
structure MsgP where
 uid : Int
 sec : Int
 zone : Int
 size : Int
 blob : Nat
 flags : List Tx
deriving DecidableEq
structure Mc where
 m : MsgP
 A : Option Addr
 c : Nat
def Mc.cells (x : Mc) : List Value := [.int .i64 x.m.uid, .int .i64 x.m.sec, .int .i64 x.m.zone, .int .i64 x.m.size, .int .u64 (x.m.blob : Int), .slice x.A x.m.flags.length x.c]
theorem Mc.cells_len (x : Mc) : x.cells.length = 6 := rfl
theorem Mc.cells_one (x : Mc) : ∀ u ∈ x.cells, u.oneCell' = true := by
 intro u hu
 simp only [Mc.cells, zbh, zcj, or_false] at hu
 rcases hu with rfl | rfl | rfl | rfl | rfl | rfl <;> rfl
abbrev MC (l : List Mc) : List Value := l.flatMap Mc.cells
theorem oL (l : List Mc) : (MC l).length = l.length * 6 := sP Mc.cells 6 Mc.cells_len l
theorem rN (a b : List Mc) : MC (a ++ b) = MC a ++ MC b := zeb
structure Mc.At (w : World) (x : Mc) : Prop where
 rd : Rd w 1 x.A x.m.flags.length (SB x.m.flags)
 n : x.m.flags.length ≤ 500000
 q : ∀ q ∈ x.m.flags, q.length ≤ 1000000
theorem Mc.At.frm {w w' : World} {S : List Nat} {x : Mc} (h : x.At w) (k : Frm S w w') (hS : ∀ b ∈ S, w.heap.size ≤ b) : x.At w' :=
 ⟨h.rd.frm k (fun hn y hy hyS => by have := h.rd.lt hn y hy; have := hS y hyS; omega), h.n, h.q⟩
structure RdM (w : World) (A : Option Addr) (l : List Mc) : Prop where
 rd : Rd w 6 A l.length (MC l)
 fl : ∀ x ∈ l, x.At w
theorem RdM.nil (w : World) (A : Option Addr) : RdM w A [] := ⟨Rd.nil _ _ _, jp⟩
theorem RdM.frm {w w' : World} {A : Option Addr} {l : List Mc} (h : RdM w A l) (k : Frm [] w w') : RdM w' A l :=
 ⟨h.rd.frm k jp, fun x hx => (h.fl x hx).frm k jp⟩
theorem RdM.elem {w : World} {A : Option Addr} {l : List Mc} {k : Nat} (h : RdM w A l) (hk : k < l.length) : ∃ ad, A = some ad ∧ ∀ j v, (l[k]).cells[j]? = some v → w.cell? ((ad.add (k * 6)).add j) = some v := by
 obtain ⟨ad, rfl, hc⟩ := h.rd.elem hk
 refine ⟨ad, rfl, fun j v hj => hc j v ?_⟩
 rw [fY Mc.cells 6 Mc.cells_len l k hk]
 exact hj
structure BoxV where
 valid : Int
 next : Int
 l : List MsgP
deriving DecidableEq
abbrev Ms (l : List Mc) : List MsgP := l.map Mc.m
def cP (m : MsgP) : Prop := dQ m.sec m.zone ∧ 0 ≤ m.size ∧ m.blob ≠ 0 ∧ cY m.flags
instance (m : MsgP) : Decidable (cP m) := by unfold cP; infer_instance
def prevU (l : List MsgP) : Nat → Int
 | 0 => 0
 | j + 1 => (l[j]?.map MsgP.uid).getD 0
def bC (next : Int) (l : List MsgP) (j : Nat) (m : MsgP) : Prop := prevU l j < m.uid ∧ m.uid < next ∧ cP m
instance (a : Int) (l : List MsgP) (j : Nat) (m : MsgP) : Decidable (bC a l j m) := by unfold bC; infer_instance
def bE (b : BoxV) : Prop := (1 ≤ b.valid ∧ b.valid ≤ 2147483647 ∧ 1 ≤ b.next ∧ b.next ≤ 2147483648 ∧ b.l.length ≤ 128) ∧ ∀ j (h : j < b.l.length), bC b.next b.l j b.l[j]
instance (b : BoxV) : Decidable (bE b) := by
 unfold bE
 infer_instance
def qX8 : Tx := [92, 68, 101, 108, 101, 116, 101, 100]
def qJy (every : Bool) (only : List Int) (m : MsgP) : Prop := xM m.flags qX8 ∧ (every = true ∨ m.uid ∈ only)
instance (every : Bool) (only : List Int) (m : MsgP) : Decidable (qJy every only m) := by unfold qJy; infer_instance
abbrev BVc (v n : Int) (A : Option Addr) (m c : Nat) : List Value := [.int .i64 v, .int .i64 n, .slice A m c]
theorem cR (v n : Int) (A : Option Addr) (m c : Nat) : ∀ u ∈ BVc v n A m c, u.oneCell' = true := by
 intro u hu
 simp only [BVc, zbh, zcj, or_false] at hu
 rcases hu with rfl | rfl | rfl <;> rfl
def sL (w' : World) (F : Except Nat BoxV) (v n : Int) (B : Option Addr) (d : Nat) (l : List Mc) (k : Nat) : Prop :=
 RdM w' B l ∧ ((k = 0 ∧ F = .ok ⟨v, n, Ms l⟩) ∨ (k ≠ 0 ∧ F = .error k ∧ v = 0 ∧ n = 0 ∧ B = none ∧ d = 0 ∧ l = []))
theorem sL.err {w' : World} {F : Except Nat BoxV} {k : Nat} (hk : k ≠ 0) (h : F = .error k) : sL w' F 0 0 none 0 [] k := ⟨RdM.nil _ _, .inr ⟨hk, h, rfl, rfl, rfl, rfl, rfl⟩⟩
theorem sL.frm {w w' : World} {F : Except Nat BoxV} {v n : Int} {B : Option Addr} {d : Nat} {l : List Mc} {k : Nat} (h : sL w F v n B d l k) (hf : Frm [] w w') : sL w' F v n B d l k := ⟨h.1.frm hf, h.2⟩
end
section
open Go.RowKit
abbrev NmP := Tx × BoxV
structure MailP where
 l : List NmP
 subs : List Tx
 valid : Int
 blob : Int
deriving DecidableEq
def dH (s : Tx) : Prop := isN s ∧ qS s = s
instance (s : Tx) : Decidable (dH s) := by unfold dH; infer_instance
def bJ (l : List Tx) (i : Nat) (s : Tx) : Prop := dH s ∧ (0 < i → (l[i - 1]?).getD [] < s)
instance (l : List Tx) (i : Nat) (s : Tx) : Decidable (bJ l i s) := by unfold bJ; infer_instance
def dZ (l : List Tx) : Prop := l.length ≤ 24 ∧ ∀ i (h : i < l.length), bJ l i l[i]
instance (l : List Tx) : Decidable (dZ l) := by unfold dZ; infer_instance
abbrev qB (m : MailP) : List Tx := m.l.map Prod.fst
def oO (valid blob : Int) (l : List NmP) (i : Nat) (x : NmP) : Prop := bE x.2 ∧ x.2.valid ≤ valid ∧ (∀ y ∈ l.take i, y.2.valid ≠ x.2.valid) ∧ ∀ y ∈ x.2.l, (y.blob : Int) ≤ blob
instance (v b : Int) (l : List NmP) (i : Nat) (x : NmP) : Decidable (oO v b l i x) := by unfold oO; infer_instance
def cX (m : MailP) : Prop := dZ (qB m) ∧ dZ m.subs ∧ 1 ≤ m.valid ∧ m.valid ≤ 2147483647 ∧ 0 ≤ m.blob ∧ m.blob ≤ 2147483647 ∧ qC ∈ qB m
instance (m : MailP) : Decidable (cX m) := by unfold cX; infer_instance
def bV (m : MailP) : Prop := cX m ∧ ∀ i (h : i < m.l.length), oO m.valid m.blob m.l i m.l[i]
instance (m : MailP) : Decidable (bV m) := by unfold bV; infer_instance
def bN (l : List NmP) : Prop := (l.map Prod.fst).Pairwise (· < ·)
theorem eU (a : Tx) : ¬ a < a := zem a
theorem gB {a b c : Tx} (h1 : a < b) (h2 : b < c) : a < c := List.lt_trans h1 h2
theorem qQg {a b : Tx} (h1 : ¬ a < b) (h2 : ¬ b < a) : a = b := List.le_antisymm (List.not_lt.1 h2) (List.not_lt.1 h1)
theorem xN : ∀ {l : List Tx}, (∀ i (h : i < l.length), 0 < i → (l[i - 1]?).getD [] < l[i]) → l.Pairwise (· < ·) := by
 intro l h
 rw [List.pairwise_iff_getElem]
 intro i j hi hj hij
 induction j with
 | zero => omega
 | succ j ih =>
  have h1 := h (j + 1) hj jo
  rw [show j + 1 - 1 = j by omega, zb jo] at h1
  by_cases e : i = j
  · subst e; exact h1
  exact gB (ih jo jo) h1
theorem sO {m : MailP} (h : bV m) : bN m.l := xN fun i hi h0 => (h.1.1.2 i hi).2 h0
def eJ (l : List NmP) (t : Tx) (b : BoxV) : List NmP := l.filter (fun x => decide (x.1 < t)) ++ (t, b) :: l.filter (fun x => decide (t < x.1))
def fC (l : List NmP) (t : Tx) (i : Nat) : Prop := i ≤ l.length ∧ (∀ j (h : j < l.length), j < i → (l[j]).1 < t) ∧ ∀ j (h : j < l.length), i ≤ j → ¬ (l[j]).1 < t
theorem pQ {l : List NmP} {t : Tx} {i : Nat} (h : fC l t i) : l.filter (fun x => decide (x.1 < t)) = l.take i := by
 obtain ⟨h1, h2, h3⟩ := h
 conv => lhs; rw [← zbu i l]
 rw [zca, List.filter_eq_self.2, List.filter_eq_nil_iff.2, zbs]
 ·
  intro x hx
  obtain ⟨j, hj, rfl⟩ := zag hx
  rw [zal] at hj
  rw [zfi]
  simpa using h3 (i + j) jo jo
 intro x hx
 obtain ⟨j, hj, rfl⟩ := zag hx
 rw [zt] at hj
 rw [zdk]
 simpa using h2 j jo jo
theorem lZ {l : List NmP} (h : bN l) {i j : Nat} (hi : i < l.length) (hj : j < l.length) (hij : i < j) : (l[i]).1 < (l[j]).1 := by
 have := List.pairwise_iff_getElem.1 h i j (by simpa using hi) (by simpa using hj) hij
 simpa using this
theorem mK {l : List NmP} {t : Tx} {i : Nat} (hr : bN l) (h : fC l t i) : (∃ hi : i < l.length, (l[i]).1 = t) ↔ t ∈ l.map Prod.fst := by
 constructor
 ·
  rintro ⟨hi, he⟩
  rw [← he]
  exact zbr (zaa hi)
 intro hm
 obtain ⟨x, hx, rfl⟩ := List.mem_map.1 hm
 obtain ⟨j, hj, rfl⟩ := zag hx
 have hij : i ≤ j := by
  rcases zby j i with h4 | h4
  · exact absurd (h.2.1 j hj h4) (eU _)
  exact h4
 have hi : i < l.length := jo
 refine ⟨hi, ?_⟩
 by_cases e : i = j
 · subst e; rfl
 exact absurd (lZ hr hi hj jo) (h.2.2 i hi (zw _))
theorem xP {l : List NmP} {t : Tx} {i : Nat} (h : fC l t i) (hn : t ∉ l.map Prod.fst) : l.filter (fun x => decide (t < x.1)) = l.drop i := by
 conv => lhs; rw [← zbu i l]
 rw [zca, List.filter_eq_nil_iff.2, List.filter_eq_self.2, zcg]
 ·
  intro x hx
  have hx2 := zdi hx
  obtain ⟨j, hj, rfl⟩ := zag hx
  rw [zal] at hj
  rw [zfi] at hx2 ⊢
  have h1 := h.2.2 (i + j) jo jo
  simp only [decide_eq_true_eq]
  rcases Classical.em (t < (l[i + j]).1) with h2 | h2
  · exact h2
  exact absurd (List.mem_map.2 ⟨_, hx2, qQg h1 h2⟩) hn
 intro x hx
 obtain ⟨j, hj, rfl⟩ := zag hx
 rw [zt] at hj
 rw [zdk]
 simp only [decide_eq_true_eq]
 intro h2
 exact eU _ (gB h2 (h.2.1 j jo jo))
theorem qX9 {l : List NmP} {t : Tx} {i : Nat} {b : BoxV} (h : fC l t i) (hn : t ∉ l.map Prod.fst) : eJ l t b = l.take i ++ (t, b) :: l.drop i := by
 unfold eJ
 rw [pQ h, xP h hn]
theorem xR {l : List NmP} {t : Tx} {i : Nat} (hr : bN l) (h : fC l t i) (hi : i < l.length) (he : (l[i]).1 = t) : l.filter (fun x => decide (x.1 ≠ t)) = l.take i ++ l.drop (i + 1) := by
 have e1 : l = l.take i ++ l[i] :: l.drop (i + 1) := by
  have h2 := (zbu i l).symm
  rw [zav hi] at h2
  exact h2
 conv => lhs; rw [e1]
 rw [zca, zea, if_neg (by simp [he]), List.filter_eq_self.2, List.filter_eq_self.2]
 ·
  intro x hx
  obtain ⟨j, hj, rfl⟩ := zag hx
  rw [zal] at hj
  rw [zfi]
  have h3 := lZ hr hi (j := i + 1 + j) jo jo
  simp only [ne_eq, decide_not, zcv, decide_eq_false_iff_not]
  intro e
  rw [e, he] at h3
  exact eU _ h3
 intro x hx
 obtain ⟨j, hj, rfl⟩ := zag hx
 rw [zt] at hj
 rw [zdk]
 have h3 := h.2.1 j jo jo
 simp only [ne_eq, decide_not, zcv, decide_eq_false_iff_not]
 intro e
 rw [e] at h3
 exact eU _ h3
theorem xS {l : List NmP} {t : Tx} {b : BoxV} (hr : bN l) : bN (eJ l t b) := by
 unfold bN eJ at *
 rw [zbc, zbw]
 refine List.pairwise_append.2 ⟨hr.sublist (List.filter_sublist.map _), List.pairwise_cons.2 ⟨fun y hy => ?_, hr.sublist (List.filter_sublist.map _)⟩, fun a ha c hc => ?_⟩
 ·
  obtain ⟨x, hx, rfl⟩ := List.mem_map.1 hy
  simpa using (zfa.1 hx).2
 obtain ⟨x, hx, rfl⟩ := List.mem_map.1 ha
 have h1 : x.1 < t := by simpa using (zfa.1 hx).2
 rcases zbh.1 hc with rfl | hc
 · exact h1
 obtain ⟨y, hy, rfl⟩ := List.mem_map.1 hc
 have h2 : t < y.1 := by simpa using (zfa.1 hy).2
 exact gB h1 h2
theorem xU {l : List NmP} {t : Tx} {b : BoxV} (x : Tx) : x ∈ (eJ l t b).map Prod.fst ↔ x = t ∨ x ∈ l.map Prod.fst := by
 unfold eJ
 rw [zbc, zbw, zds, zbh]
 constructor
 ·
  rintro (h | h | h)
  ·
   obtain ⟨y, hy, rfl⟩ := List.mem_map.1 h
   exact .inr (zbr (zfa.1 hy).1)
  · exact .inl h
  obtain ⟨y, hy, rfl⟩ := List.mem_map.1 h
  exact .inr (zbr (zfa.1 hy).1)
 rintro (h | h)
 · exact .inr (.inl h)
 obtain ⟨y, hy, rfl⟩ := List.mem_map.1 h
 by_cases h1 : y.1 < t
 · exact .inl (zbr (zfa.2 ⟨hy, by simpa using h1⟩))
 by_cases h2 : t < y.1
 · exact .inr (.inr (zbr (zfa.2 ⟨hy, by simpa using h2⟩)))
 exact .inr (.inl (qQg h1 h2))
def hU (l : List NmP) (t : Tx) : Option BoxV := (l.find? (fun x => decide (x.1 = t))).map Prod.snd
theorem tQ {l : List NmP} {t : Tx} {i : Nat} (hr : bN l) (hi : i < l.length) (he : (l[i]).1 = t) : hU l t = some (l[i]).2 := by
 unfold hU
 have : l.find? (fun x => decide (x.1 = t)) = some l[i] := by
  rw [List.find?_eq_some_iff_getElem]
  refine ⟨by simpa using he, i, hi, rfl, fun j hj => ?_⟩
  have h3 := lZ hr (i := j) jo hi hj
  simp only [zcv, decide_eq_false_iff_not]
  intro e
  rw [e, he] at h3
  exact eU _ h3
 rw [this]
 rfl
theorem pX {l : List NmP} {t : Tx} (hn : t ∉ l.map Prod.fst) : hU l t = none := by
 unfold hU
 rw [Option.map_eq_none_iff, List.find?_eq_none]
 intro x hx
 simp only [decide_eq_true_eq]
 intro e
 exact hn (by rw [← e]; exact zbr hx)
def mV : Nat → Tx → List Tx
 | 0, _ => []
 | n + 1, s => if s = [] then [] else s :: mV n (upN s)
def anc (s : Tx) : List Tx := mV s.length s
theorem rP : ∀ (m n : Nat) (s : Tx), s.length ≤ m → s.length ≤ n → mV m s = mV n s
 | 0, n, s, h, _ => by
  obtain rfl : s = [] := zai jo
  cases n <;> simp [mV]
 | m + 1, 0, s, _, h => by
  obtain rfl : s = [] := zai jo
  simp [mV]
 | m + 1, n + 1, s, h1, h2 => by
  unfold mV
  split
  · rfl
  rename_i h
  have := gW h
  rw [rP m n (upN s) jo jo]
theorem anc_nil : anc [] = [] := rfl
theorem lJ {s : Tx} (h : s ≠ []) : anc s = s :: anc (upN s) := by
 have h1 := gW h
 have h2 : 0 < s.length := List.length_pos_iff.2 h
 unfold anc
 rw [show s.length = (s.length - 1) + 1 by omega, mV, if_neg h, rP (s.length - 1) (upN s).length _ jo (zw _)]
theorem qKh (s : Tx) : (anc s).length ≤ s.length := by
 have key : ∀ n (s : Tx), s.length ≤ n → (anc s).length ≤ s.length := by
  intro n
  induction n with
  | zero => intro s h; obtain rfl : s = [] := zai jo; simp [anc_nil]
  | succ n ih =>
   intro s h
   by_cases h0 : s = []
   · subst h0; simp [anc_nil]
   have h1 := gW h0
   rw [lJ h0, zbi]
   have := ih (upN s) jo
   omega
 exact key _ s (zw _)
def bR (l : List NmP) (s : Tx) : List Tx := ((anc s).filter fun x => decide (qS x ∉ l.map Prod.fst)).reverse
def dU (m : MailP) (x : Tx) : MailP := { m with valid := m.valid + 1, l := eJ m.l (qS x) ⟨m.valid + 1, 1, []⟩ }
def eL (m : MailP) (s : Tx) : MailP := (bR m.l s).foldl dU m
def dR (m : MailP) (more valids : Nat) : Nat := if 24 < m.l.length + more then 5 else if 2147483647 < m.valid + (valids : Int) then 19 else 0
def fG (m : MailP) (s : Tx) : Except Nat MailP :=
 if ¬ bV m then .error 1 else if ¬ isN s then .error 18 else if qS s ∈ qB m then .error 15
 else if dR m (bR m.l s).length (bR m.l s).length ≠ 0 then .error (dR m (bR m.l s).length (bR m.l s).length) else .ok (eL m s)
def eK (m : MailP) (s : Tx) : Except Nat MailP :=
 if ¬ bV m then .error 1 else if ¬ isN s then .error 18 else if qS s ∉ qB m then .error 6 else if qS s = qC then .error 17
 else if ∃ x ∈ qB m, cK x s then .error 16 else .ok { m with l := m.l.filter fun x => decide (x.1 ≠ qS s) }
def eO (m : MailP) (s : Tx) : Option BoxV := if bV m then hU m.l (qS s) else none
end
section
open Go.RowKit
theorem lK (y : Nat) (w : World) (h1 : 1 ≤ y) (h2 : y ≤ 100000) : Calls Tryz.prog 185 #[.int .i64 ((y : Nat) : Int)] w fun e w' => e = .returned (.int .i64 ((aheadN y : Nat) : Int)) ∧ w = w' := by
 refine VC.calls (nt := 17) (res := #[.tmp 2]) Tryz.func185 rfl Tryz.ntmps185 Tryz.results185 rfl ?_
 refine jS (jR (jz 0 (jO (jN (jv1 0 ?_)))))
 refine jS (jR (jm rfl (jb rfl rfl (Bin.sub_i64 _ 1 jo jo) (ja rfl (jO (jN (jv1 3 ?_)))))))
 refine jS (jR (jm rfl (jb rfl rfl (Bin.mul_i64 365 _ jo) (jm rfl (jb rfl rfl (Bin.quo_i64 _ 4 jo jo) (jb rfl rfl (Bin.add_i64 _ _ jo) (jm rfl (jb rfl rfl (Bin.quo_i64 _ 100 jo jo) (jb rfl rfl (Bin.sub_i64 _ _ jo jo) ?_)))))))))
 refine jm rfl (jb rfl rfl (Bin.quo_i64 _ 400 jo jo) (jb rfl rfl (Bin.add_i64 _ _ jo) (ja rfl (jO (jN (jv1 2 ?_))))))
 refine jT ?_
 refine qR rfl ?_
 exact ⟨rfl, rfl⟩
theorem qQh (y : Nat) (w : World) : Calls Tryz.prog 196 #[.int .i64 ((y : Nat) : Int)] w fun e w' => e = .returned (.bool (decide (cC y))) ∧ w = w' := by
 refine VC.calls (nt := 16) (res := #[.tmp 2]) Tryz.func196 rfl Tryz.ntmps196 Tryz.results196 rfl ?_
 refine jS (jR (ja rfl (jO (jN (jv1 0 ?_)))))
 refine jS ?_
 refine VC.split1 [] .nil 2 (.bool (decide (cC y))) ?_ ?_
 ·
  refine jR ?_
  refine jm rfl (jb rfl rfl (Bin.remN _ 4 jo) (jb rfl rfl (Bin.eqlN _ 0) ?_))
  by_cases hs5 : y % 4 = 0
  ·
   refine jM ?_
   refine jG ?_
   refine jk (Run.bin rfl rfl (Bin.remN _ 100 jo)) ?_
   refine jk (Run.bin rfl rfl (Bin.neqN _ 0)) ?_
   by_cases hs9 : y % 100 ≠ 0
   ·
    refine je (Run.pickT rfl rfl au) (jM ?_)
    refine jU ?_
    refine jU ?_
    refine jU ?_
    refine je (Run.pickT rfl rfl au) (ja rfl (jO ?_))
    refine jN ⟨(js1 (jC (Eq.symm (by unfold cC; simp [*])))), rfl⟩
   refine je (Run.pickT rfl rfl au) (jM ?_)
   refine jG ?_
   refine jk (Run.bin rfl rfl (Bin.remN _ 400 jo)) ?_
   refine jk (Run.bin rfl rfl (Bin.eqlN _ 0)) ?_
   by_cases hs14 : y % 400 = 0
   ·
    refine je (Run.pickF rfl rfl au) (ja rfl (jO ?_))
    refine jN ⟨(js1 (jC (Eq.symm (by unfold cC; simp [*])))), rfl⟩
   refine je (Run.pickF rfl rfl au) (ja rfl (jO ?_))
   refine jN ⟨(js1 (jC (Eq.symm (by unfold cC; simp [*])))), rfl⟩
  refine jM ?_
  refine jU ?_
  refine jU ?_
  refine jU ?_
  refine je (Run.pickF rfl rfl au) (jM ?_)
  refine jG ?_
  refine jk (Run.bin rfl rfl (Bin.remN _ 400 jo)) ?_
  refine jk (Run.bin rfl rfl (Bin.eqlN _ 0)) ?_
  by_cases hs14 : y % 400 = 0
  ·
   refine je (Run.pickF rfl rfl au) (ja rfl (jO ?_))
   refine jN ⟨(js1 (jC (Eq.symm (by unfold cC; simp [*])))), rfl⟩
  refine je (Run.pickF rfl rfl au) (ja rfl (jO ?_))
  refine jN ⟨(js1 (jC (Eq.symm (by unfold cC; simp [*])))), rfl⟩
 intro Γ hΓ
 refine jN (VC.sub _ hΓ ?_)
 refine jT ?_
 refine qR rfl ?_
 exact ⟨rfl, rfl⟩
def qJz : List Nat := [31, 28, 31, 30, 31, 30, 31, 31, 30, 31, 30, 31]
theorem qZa {m : Nat} (h1 : 1 ≤ m) (h2 : m ≤ 12) : qJz[m - 1]? = some (if m = 2 then 28 else if m = 4 ∨ m = 6 ∨ m = 9 ∨ m = 11 then 30 else 31) := by
 have : m = 1 ∨ m = 2 ∨ m = 3 ∨ m = 4 ∨ m = 5 ∨ m = 6 ∨ m = 7 ∨ m = 8 ∨ m = 9 ∨ m = 10 ∨ m = 11 ∨ m = 12 := jo
 rcases this with rfl | rfl | rfl | rfl | rfl | rfl | rfl | rfl | rfl | rfl | rfl | rfl <;> rfl
theorem rR (y m : Nat) (w : World) (h1 : 1 ≤ m) (h2 : m ≤ 12) : Calls Tryz.prog 186 #[.int .i64 ((y : Nat) : Int), .int .i64 ((m : Nat) : Int)] w fun e w' => e = .returned (.int .i64 ((longN y m : Nat) : Int)) ∧ w = w' := by
 refine VC.calls (nt := 17) (res := #[.tmp 4]) Tryz.func186 rfl Tryz.ntmps186 Tryz.results186 rfl ?_
 refine jS (jR (jz 0 (jO (jN (jv2 0 1 ?_)))))
 refine jS (jR (je (Run.buildA (evs.cons rfl (evs.cons rfl (evs.cons rfl (evs.cons rfl (evs.cons rfl (evs.cons rfl (evs.cons rfl (evs.cons rfl (evs.cons rfl (evs.cons rfl (evs.cons rfl (evs.cons rfl evs.nil)))))))))))) qKa Tryz.underlying211 zn (cells := (IB (qJz.map fun x : Nat => (x : Int))).toArray) jK) (jm rfl (jb rfl rfl (Bin.sub_i64 _ 1 jo jo) ?_))))
 refine Ops.r (Run.indexArr1 (v := .int .i64 (((if m = 2 then 28 else if m = 4 ∨ m = 6 ∨ m = 9 ∨ m = 11 then 30 else 31) : Nat) : Int)) (m - 1) rfl rfl Tryz.underlying211 zp zn rfl (by simp [IB, qZa h1 h2])) rfl ?_
 refine ja rfl (jO (jN (jv3 0 1 5 ?_)))
 refine jS (jS ?_)
 refine VC.split1 [(5, _)] (js1 rfl) 15 (.bool (decide (m = 2 ∧ cC y))) ?_ ?_
 ·
  refine jR ?_
  refine jm rfl (jb rfl rfl (Bin.eqlN _ 2) ?_)
  by_cases hs11 : m = 2
  ·
   refine jM ?_
   refine jG ?_
   refine Ops.clg rfl au (jE1 Tryz.call196) (qQh y _) rfl ?_
   rintro e _ ⟨rfl, rfl⟩
   refine ⟨_, rfl, ?_⟩
   by_cases hs14 : cC y
   ·
    refine je (Run.pickT rfl rfl au) (jO ?_)
    refine jN ⟨(js2 (jC (Eq.symm (by simp [*]))) rfl), rfl⟩
   refine je (Run.pickT rfl rfl au) (jO ?_)
   refine jN ⟨(js2 (jC (Eq.symm (by simp [*]))) rfl), rfl⟩
  refine jM ?_
  refine jU ?_
  refine jU ?_
  refine je (Run.pickF rfl rfl au) (jO ?_)
  refine jN ⟨(js2 (jC (Eq.symm (by simp [*]))) rfl), rfl⟩
 intro Γ hΓ
 refine jN (VC.sub _ hΓ ?_)
 refine jD rfl (fun hc1 => ?_) fun hc1 => ?_
 ·
  refine jS (jR (jz 29 (jO (jN (jv1 4 ?_)))))
  refine jT ?_
  refine qZ (qR rfl ?_)
  exact ⟨by rw [show longN y m = 29 by unfold longN; rw [if_pos hc1.1, if_pos hc1.2]], rfl⟩
 refine jQ (jN (jv1 5 ?_))
 refine jS (jR (jm rfl (ja rfl (jO (jN (jv1 4 ?_))))))
 refine jT ?_
 refine qR rfl ?_
 refine ⟨?_, rfl⟩
 have e : longN y m = (if m = 2 then 28 else if m = 4 ∨ m = 6 ∨ m = 9 ∨ m = 11 then 30 else 31) := by
  unfold longN
  by_cases h : m = 2
  · rw [if_pos h, if_pos h, if_neg (fun hl => hc1 ⟨h, hl⟩)]
  rw [if_neg h, if_neg h]
 rw [e]
theorem xB (n : Int) (w : World) : Calls Tryz.prog 175 #[.int .i64 n] w fun e w' =>
  w = w' ∧ ∃ y m d k : Nat, e = .returned (.tuple #[.int .i64 ((y : Nat) : Int), .int .i64 ((m : Nat) : Int), .int .i64 ((d : Nat) : Int), .int .i64 ((k : Nat) : Int)]) ∧
   (((n < -719162 ∨ 2932896 < n) ∧ y = 0 ∧ m = 0 ∧ d = 0 ∧ k = 4) ∨ (¬ (n < -719162 ∨ 2932896 < n) ∧ k = 0 ∧ sY n y m d)) := by
 refine VC.calls (nt := 47) (res := #[.tmp 2, .tmp 3, .tmp 4, .tmp 5]) Tryz.func175 rfl Tryz.ntmps175 Tryz.results175 rfl ?_
 refine jS (jR (jz 0 (jz 0 (jz 0 (jz 0 (jO (jN (jv1 0 ?_))))))))
 refine jS (jS ?_)
 refine VC.split1 [(0, _)] (js1 rfl) 15 (.bool (decide (n < -719162 ∨ 2932896 < n))) ?_ ?_
 ·
  refine jR ?_
  refine jm rfl (jb rfl rfl (Bin.lss _ (-719162)) ?_)
  by_cases hs9 : n < -719162
  ·
   refine jM ?_
   refine jU ?_
   refine jU ?_
   refine jU ?_
   refine jU ?_
   refine je (Run.pickT rfl rfl au) (jO ?_)
   refine jN ⟨(js2 (jC (Eq.symm (by first | exact decide_eq_true jo | exact decide_eq_false jo | exact decide_eq_decide.2 jo))) rfl), rfl⟩
  refine jM ?_
  refine jG ?_
  refine Ops.clg rfl au (jE1 Tryz.call185) (lK 10000 _ jo jo) rfl ?_
  rintro e _ ⟨rfl, rfl⟩
  refine ⟨_, rfl, ?_⟩
  rw [show aheadN 10000 = 3652059 from rfl]
  refine jk (Run.bin rfl rfl (Bin.sub_i64 _ 719162 jo jo)) ?_
  refine jk (Run.bin rfl rfl (Bin.geq _ _)) ?_
  by_cases hs14 : ((2932897 : Nat) : Int) ≤ n
  ·
   refine je (Run.pickF rfl rfl au) (jO ?_)
   refine jN ⟨(js2 (jC (Eq.symm (by first | exact decide_eq_true jo | exact decide_eq_false jo | exact decide_eq_decide.2 jo))) rfl), rfl⟩
  refine je (Run.pickF rfl rfl au) (jO ?_)
  refine jN ⟨(js2 (jC (Eq.symm (by first | exact decide_eq_true jo | exact decide_eq_false jo | exact decide_eq_decide.2 jo))) rfl), rfl⟩
 intro Γ hΓ
 refine jN (VC.sub _ hΓ ?_)
 refine jD rfl (fun hc1 => ?_) fun hc1 => ?_
 ·
  refine jS (jR (jz 0 (jz 0 (jz 0 (jz 4 (jO (jN (jv4 2 3 4 5 ?_))))))))
  refine jT ?_
  refine qZ (bT ?_)
  refine qO rfl ?_
  refine qO rfl ?_
  refine qO rfl ?_
  refine qO rfl ?_
  refine bX ?_
  exact ⟨rfl, 0, 0, 0, 4, rfl, .inl ⟨hc1, rfl, rfl, rfl, rfl⟩⟩
 obtain ⟨n1, hn1⟩ : ∃ n1 : Nat, n + 719162 = ((n1 : Nat) : Int) := ⟨(n + 719162).toNat, jo⟩
 have hn1m : n1 ≤ 3652058 := jo
 refine jQ (jN (jv1 0 ?_))
 refine jS (jR (jm rfl (jb rfl rfl (Bin.addZ _ 719162 jo jo) ?_)))
 rw [hn1]
 refine ja rfl (jO (jN (jv1 0 ?_)))
 refine jS (jR (jm rfl (jb rfl rfl (Bin.quo_i64 _ 365 jo jo) (jb rfl rfl (Bin.add_i64 _ 1 jo) (ja rfl (jO (jN (jv2 0 6 ?_))))))))
 refine jS (jB ?_)
 refine VC.loop (σ := Nat) (fun s => [(0, .int .i64 ((n1 : Nat) : Int)), (6, .int .i64 ((s : Nat) : Int))]) (fun s wr => (1 ≤ s ∧ s ≤ 20000 ∧ n1 < aheadN (s + 1)) ∧ w = wr) (fun s => s) (n1 / 365 + 1) (js2 rfl rfl) ⟨⟨jo, jo, qQf n1⟩, rfl⟩ ?_
 rintro y _ ⟨⟨hy1, hy2, hy3⟩, rfl⟩
 refine jS (jS (jR (jM ?_)))
 refine Ops.cl (jE1 Tryz.call185) (lK y _ hy1 jo) rfl ?_
 rintro e _ ⟨rfl, rfl⟩
 refine ⟨_, rfl, ?_⟩
 refine jm rfl (jb rfl rfl (Bin.gtrN _ _) (jO (jN (jv3 0 6 24 ?_))))
 refine jD rfl (fun hc2 => ?_) fun hc2 => ?_
 ·
  have hyn : y ≠ 1 := fun h => by subst h; rw [rM] at hc2; omega
  refine jQ (jN (jv2 0 6 ?_))
  refine jB (jR (jm rfl (jb rfl rfl (Bin.sub_i64 _ 1 jo jo) (ja rfl (jO ?_)))))
  refine qW (jN ⟨(y - 1), (js2 rfl rfl), ?_, ?_⟩)
  ·
   have : y - 1 + 1 = y := jo
   exact ⟨⟨jo, jo, by rw [this]; exact hc2⟩, rfl⟩
  first | omega | (dsimp only; omega)
 refine jX ?_
 refine qJ (qJ (qN ?_))
 refine jN (jv2 0 6 ?_)
 refine jS (jR (jm rfl (jM ?_)))
 refine Ops.cl (jE1 Tryz.call185) (lK y _ hy1 jo) rfl ?_
 rintro e _ ⟨rfl, rfl⟩
 refine ⟨_, rfl, ?_⟩
 have has := lX y hy1
 have hyt := rH y jo
 refine jb rfl rfl (Bin.sub_i64 _ _ jo jo) (ja rfl (jO (jN (jv2 0 6 ?_))))
 refine jS (jR (jz 1 (jO (jN (jS (jB ?_))))))
 refine VC.loop (σ := Nat) (fun s => [(0, .int .i64 ((n1 - aheadN y - bB y s : Nat) : Int)), (6, .int .i64 ((y : Nat) : Int)), (7, .int .i64 ((s : Nat) : Int))]) (fun s wr => (1 ≤ s ∧ s ≤ 12 ∧ bB y s ≤ n1 - aheadN y) ∧ w = wr) (fun s => 13 - s) 1 (js3 rfl rfl rfl) ⟨⟨jo, jo, zae _⟩, rfl⟩ ?_
 rintro m _ ⟨⟨hm1, hm2, hm3⟩, rfl⟩
 have hbs := jE y m hm1
 refine jS (jS (jR (jm rfl (jm rfl (jM ?_)))))
 refine Ops.cl (jE2 Tryz.call186) (rR y m _ hm1 hm2) rfl ?_
 rintro e _ ⟨rfl, rfl⟩
 refine ⟨_, rfl, ?_⟩
 refine jb rfl rfl (Bin.geqN _ _) (jO (jN (jv4 0 6 7 35 ?_)))
 refine jD rfl (fun hc3 => ?_) fun hc3 => ?_
 ·
  refine jQ (jN (jv3 0 6 7 ?_))
  refine jB (jS (jR (jm rfl (jm rfl (jM ?_)))))
  refine Ops.cl (jE2 Tryz.call186) (rR y m _ hm1 hm2) rfl ?_
  rintro e _ ⟨rfl, rfl⟩
  refine ⟨_, rfl, ?_⟩
  refine jb rfl rfl (Bin.sub_i64 _ _ jo jo) (ja rfl (jO (jN (jv3 0 6 7 ?_))))
  refine jR (jm rfl (jb rfl rfl (Bin.add_i64 _ 1 jo) (ja rfl (jO ?_))))
  refine qW (jN ⟨(m + 1), (js3 (congrArg (fun z : Nat => some (Value.int .i64 (z : Int))) (jo : n1 - aheadN y - bB y m - longN y m = n1 - aheadN y - bB y (m + 1))) rfl rfl), ?_, ?_⟩)
  ·
   refine ⟨⟨jo, ?_, jo⟩, rfl⟩
   apply Classical.byContradiction
   intro h
   have h12 : m = 12 := jo
   subst h12
   have hbe := oI y
   have : bB y (12 + 1) = bB y 13 := rfl
   omega
  first | omega | (dsimp only; omega)
 refine jX ?_
 refine qJ (qJ (qN ?_))
 refine jN (jv3 0 6 7 ?_)
 refine jS (jR (jm rfl (jm rfl (jm rfl (jb rfl rfl (Bin.add_i64 _ 1 jo) (ja rfl (ja rfl (ja rfl (jz 0 (jO (jN (jv4 2 3 4 5 ?_))))))))))))
 refine jT ?_
 refine bT ?_
 refine qO rfl ?_
 refine qO rfl ?_
 refine qO rfl ?_
 refine qO rfl ?_
 refine bX ?_
 refine ⟨rfl, y, m, n1 - aheadN y - bB y m + 1, 0, rfl, .inr ⟨hc1, rfl, ?_⟩⟩
 exact ⟨hy1, hyt, hm1, hm2, jo, jo, jo⟩
theorem xC (x : Int) (w : World) (h1 : -4611686018427387904 ≤ x) (h2 : x ≤ 4611686018427387904) : Calls Tryz.prog 173 #[.int .i64 x] w fun e w' => e = .returned (.tuple #[.int .i64 (x / 86400), .int .i64 (x % 86400)]) ∧ w = w' := by
 have e1 := Int.tmod_add_mul_tdiv x 86400
 have e2 := Int.tmod_lt_of_pos x (b := 86400) jd
 have e3 := Int.lt_tmod_of_pos x (b := 86400) jd
 refine VC.calls (nt := 18) (res := #[.tmp 2, .tmp 3]) Tryz.func173 rfl Tryz.ntmps173 Tryz.results173 rfl ?_
 refine jS (jR (jz 0 (jz 0 (jO (jN (jv1 0 ?_))))))
 refine jS (jR (jm rfl (jb rfl rfl (Bin.quoZ _ 86400 jo jo jo) (jm rfl (jb rfl rfl (Bin.remZ _ 86400 jo) (ja rfl (ja rfl (jO (jN (jv2 4 5 ?_))))))))))
 refine jS (jS (jR (jm rfl (jb rfl rfl (Bin.lss _ 0) (jO (jN (jv3 4 5 11 ?_)))))))
 refine VC.meet (σ := Unit) (fun s => [(4, .int .i64 (x / 86400)), (5, .int .i64 (x % 86400))]) (fun s wm => w = wm) ?_ ?_
 ·
  refine jD rfl (fun hc1 => ?_) fun hc1 => ?_
  ·
   refine jR (jm rfl (jb rfl rfl (Bin.subZ _ 1 jo jo) (jm rfl (jb rfl rfl (Bin.addZ _ 86400 jo jo) (ja rfl (ja rfl (jO ?_)))))))
   refine jN ⟨(), (js2 (congrArg (fun z => some (Value.int .i64 z)) (jo : x.tdiv 86400 - 1 = x / 86400)) (congrArg (fun z => some (Value.int .i64 z)) (jo : x.tmod 86400 + 86400 = x % 86400))), ?_⟩
   rfl
  refine jQ ?_
  refine jN ⟨(), (js2 (congrArg (fun z => some (Value.int .i64 z)) (jo : x.tdiv 86400 = x / 86400)) (congrArg (fun z => some (Value.int .i64 z)) (jo : x.tmod 86400 = x % 86400))), ?_⟩
  rfl
 rintro _ _ rfl Γ hΓ
 refine jN (VC.sub _ hΓ (jS (jR (jm rfl (jm rfl (ja rfl (ja rfl (jO (jN (jv2 2 3 ?_))))))))))
 refine jT ?_
 refine cF rfl rfl ?_
 exact ⟨rfl, rfl⟩
end
section
open Go.RowKit
theorem qK9 {n : Int} {y m d k : Nat} (h : ((n < -719162 ∨ 2932896 < n) ∧ y = 0 ∧ m = 0 ∧ d = 0 ∧ k = 4) ∨ (¬ (n < -719162 ∨ 2932896 < n) ∧ k = 0 ∧ sY n y m d)) : k = 0 ↔ (-719162 ≤ n ∧ n ≤ 2932896) := by
 rcases h with ⟨h1, _, _, _, h2⟩ | ⟨h1, h2, _⟩ <;> omega
theorem nM {a b : Int} (h1 : -1439 ≤ b) (h2 : b ≤ 1439) : (-719162 ≤ (a + 60 * b) / 86400 ∧ (a + 60 * b) / 86400 ≤ 2932896) ↔ dQ a b := by
 unfold dQ
 omega
theorem xD (a b : Int) (w : World) (h1 : -1439 ≤ b) (h2 : b ≤ 1439) (h3 : -1099511627776 ≤ a) (h4 : a ≤ 1099511627776) : Calls Tryz.prog 174 #[.agg #[.int .i64 a, .int .i64 b]] w fun e w' => e = .returned (.int .i64 (a + 60 * b)) ∧ Frm [] w w' := by
 refine VC.calls (nt := 9) (res := #[.tmp 2]) Tryz.func174 rfl Tryz.ntmps174 Tryz.results174 rfl ?_
 refine jS (jR ?_)
 refine Ops.m (qV.box rfl) rfl ?_
 rintro _ w1 ⟨rfl, hF1⟩
 have hb1 := hF1.blk
 have hf1 := hF1.frm
 generalize hg1 : w.heap.size = g1 at *
 refine jz 0 (jO (jN (jv1 1 ?_)))
 refine jS (jR (jf rfl zbg rfl zel (jl rfl zed (hb1.cell 0) (jf rfl zbg rfl zn (jl rfl zp (hb1.cell 1) (jb rfl rfl (Bin.mulZ 60 _ jo jo) (jb rfl rfl (Bin.addZ _ _ jo jo) (ja rfl (jO (jN (jv1 2 ?_)))))))))))
 refine jT ?_
 refine qR rfl ?_
 exact ⟨rfl, hf1⟩
theorem qQi (a b : Int) (w : World) : Calls Tryz.prog 152 #[.agg #[.int .i64 a, .int .i64 b]] w fun e w' => e = .returned (.bool (decide (dQ a b))) ∧ Frm [] w w' := by
 refine VC.calls (nt := 42) (res := #[.tmp 2]) Tryz.func152 rfl Tryz.ntmps152 Tryz.results152 rfl ?_
 refine jS (jR ?_)
 refine Ops.m (qV.box rfl) rfl ?_
 rintro _ w1 ⟨rfl, hF1⟩
 have hb1 := hF1.blk
 have hf1 := hF1.frm
 generalize hg1 : w.heap.size = g1 at *
 refine ja rfl (jO (jN (jv1 1 ?_)))
 refine jS (jS ?_)
 refine VC.split1 [(1, _)] (js1 rfl) 26 (.bool (decide (b < -1439 ∨ 1439 < b ∨ 1099511627776 < a ∨ a < -1099511627776))) ?_ ?_
 ·
  refine jR (jf rfl zbg rfl zn (jl rfl zp (hb1.cell 1) (jb rfl rfl (Bin.lss _ (-1439)) ?_)))
  by_cases hs11 : b < -1439
  ·
   refine jM ?_
   refine jU ?_
   refine jU ?_
   refine jU ?_
   refine je (Run.pickT rfl rfl au) (jM ?_)
   refine jU ?_
   refine jU ?_
   refine jU ?_
   refine je (Run.pickT rfl rfl au) (jM ?_)
   refine jU ?_
   refine jU ?_
   refine jU ?_
   refine je (Run.pickT rfl rfl au) (jO ?_)
   refine jN ⟨(js2 (jC (Eq.symm (by simp [*]))) rfl), rfl⟩
  refine jM ?_
  refine jk (Run.fieldAddr rfl zbg rfl zn jd) ?_
  refine jk (Run.load rfl zp (hb1.cell 1)) ?_
  refine jk (Run.bin rfl rfl (Bin.gtr _ 1439)) ?_
  by_cases hs15 : 1439 < b
  ·
   refine je (Run.pickF rfl rfl au) (jM ?_)
   refine jU ?_
   refine jU ?_
   refine jU ?_
   refine je (Run.pickT rfl rfl au) (jM ?_)
   refine jU ?_
   refine jU ?_
   refine jU ?_
   refine je (Run.pickT rfl rfl au) (jO ?_)
   refine jN ⟨(js2 (jC (Eq.symm (by simp [*]))) rfl), rfl⟩
  refine je (Run.pickF rfl rfl au) (jM ?_)
  refine jk (Run.fieldAddr rfl zbg rfl zel jd) ?_
  refine jk (Run.load rfl zed (hb1.cell 0)) ?_
  refine jk (Run.bin rfl rfl (Bin.gtr _ 1099511627776)) ?_
  by_cases hs20 : 1099511627776 < a
  ·
   refine je (Run.pickF rfl rfl au) (jM ?_)
   refine jU ?_
   refine jU ?_
   refine jU ?_
   refine je (Run.pickT rfl rfl au) (jO ?_)
   refine jN ⟨(js2 (jC (Eq.symm (by simp [*]))) rfl), rfl⟩
  refine je (Run.pickF rfl rfl au) (jM ?_)
  refine jk (Run.fieldAddr rfl zbg rfl zel jd) ?_
  refine jk (Run.load rfl zed (hb1.cell 0)) ?_
  refine jk (Run.bin rfl rfl (Bin.lss _ (-1099511627776))) ?_
  by_cases hs25 : a < -1099511627776
  ·
   refine je (Run.pickF rfl rfl au) (jO ?_)
   refine jN ⟨(js2 (jC (Eq.symm (by simp [*]))) rfl), rfl⟩
  refine je (Run.pickF rfl rfl au) (jO ?_)
  refine jN ⟨(js2 (jC (Eq.symm (by simp [*]))) rfl), rfl⟩
 intro Γ hΓ
 refine jN (VC.sub _ hΓ ?_)
 refine jD rfl (fun hc1 => ?_) fun hc1 => ?_
 ·
  refine jS (jR (ja rfl (jO (jN (jv1 2 ?_)))))
  refine jT ?_
  refine qZ (qR rfl ?_)
  exact ⟨by rw [decide_eq_false (by unfold dQ; omega)], hf1⟩
 refine jQ (jN (jv1 1 ?_))
 refine jS (jR (je (Run.loadA rfl Tryz.isAgg58 zcx (fun j v hj => hb1.cells j v hj) (by first | rfl | (simp; done))) ?_))
 refine Ops.cl (jE1 Tryz.call174) (xD a b _ jo jo jo jo) rfl ?_
 rintro e w2 ⟨rfl, hf2⟩
 refine ⟨_, rfl, ?_⟩
 have hfr2 := hf1.trans hf2 jp
 refine Ops.cl (jE1 Tryz.call173) (xC (a + 60 * b) _ jo jo) rfl ?_
 rintro e _ ⟨rfl, rfl⟩
 refine ⟨_, rfl, ?_⟩
 refine jm rfl (je (Run.extract rfl rfl) (je (Run.extract rfl rfl) (ja rfl (ja rfl (jO (jN (jv1 3 ?_)))))))
 refine jS (jR (jM ?_))
 refine Ops.cl (jE1 Tryz.call175) (xB ((a + 60 * b) / 86400) _) rfl ?_
 rintro e _ ⟨rfl, y, m, d, k, rfl, hk⟩
 refine ⟨_, rfl, ?_⟩
 refine jm rfl (je (Run.extract rfl rfl) (je (Run.extract rfl rfl) (je (Run.extract rfl rfl) (je (Run.extract rfl rfl) (ja rfl (ja rfl (jA ?_)))))))
 refine ja rfl (jO (jN (jv1 8 ?_)))
 refine jS (jR (jm rfl (jb rfl rfl (Bin.eqlN _ 0) (ja rfl (jO (jN (jv1 2 ?_)))))))
 refine jT ?_
 refine qR rfl ?_
 refine ⟨?_, hfr2⟩
 rw [show (decide (k = 0)) = decide (dQ a b) from decide_eq_decide.2 ((qK9 hk).trans (nM jo jo))]
theorem fQ (y : Nat) (w : World) : Calls Tryz.prog 203 #[.int .i64 ((y : Nat) : Int)] w fun e w' => e = .returned (.bool (decide (cC y))) ∧ w = w' := by
 refine VC.calls (nt := 16) (res := #[.tmp 2]) Tryz.func203 rfl Tryz.ntmps203 Tryz.results203 rfl ?_
 refine jS (jR (ja rfl (jO (jN (jv1 0 ?_)))))
 refine jS ?_
 refine VC.split1 [] .nil 2 (.bool (decide (cC y))) ?_ ?_
 ·
  refine jR ?_
  refine jm rfl (jb rfl rfl (Bin.remN _ 400 jo) (jb rfl rfl (Bin.eqlN _ 0) ?_))
  by_cases hs5 : y % 400 = 0
  ·
   refine jM ?_
   refine jU ?_
   refine jU ?_
   refine jU ?_
   refine jU ?_
   refine Ops.skU rfl rfl ?_
   refine Ops.skU rfl rfl ?_
   refine Ops.skU rfl rfl ?_
   refine jU ?_
   refine je (Run.pickT rfl rfl au) (ja rfl (jO ?_))
   refine jN ⟨(js1 (jC (Eq.symm (by unfold cC; simp [*])))), rfl⟩
  refine jM ?_
  refine jG ?_
  refine jk (Run.bin rfl rfl (Bin.remN _ 4 jo)) ?_
  refine jk (Run.bin rfl rfl (Bin.eqlN _ 0)) ?_
  by_cases hs9 : y % 4 = 0
  ·
   refine jG ?_
   refine jG ?_
   refine jk (Run.bin rfl rfl (Bin.remN _ 100 jo)) ?_
   refine jk (Run.bin rfl rfl (Bin.neqN _ 0)) ?_
   by_cases hs13 : y % 100 ≠ 0
   ·
    refine jk (Run.pickT rfl rfl au) ?_
    refine je (Run.pickF rfl rfl au) (ja rfl (jO ?_))
    refine jN ⟨(js1 (jC (Eq.symm (by unfold cC; simp [*])))), rfl⟩
   refine jk (Run.pickT rfl rfl au) ?_
   refine je (Run.pickF rfl rfl au) (ja rfl (jO ?_))
   refine jN ⟨(js1 (jC (Eq.symm (by unfold cC; simp [*])))), rfl⟩
  refine jG ?_
  refine jU ?_
  refine jU ?_
  refine jU ?_
  refine jk (Run.pickF rfl rfl au) ?_
  refine je (Run.pickF rfl rfl au) (ja rfl (jO ?_))
  refine jN ⟨(js1 (jC (Eq.symm (by unfold cC; simp [*])))), rfl⟩
 intro Γ hΓ
 refine jN (VC.sub _ hΓ ?_)
 refine jT ?_
 refine qR rfl ?_
 exact ⟨rfl, rfl⟩
theorem lV (y : Nat) (w : World) : Calls Tryz.prog 190 #[.int .i64 ((y : Nat) : Int)] w fun e w' => e = .returned (.int .i64 ((wholeN y : Nat) : Int)) ∧ w = w' := by
 refine VC.calls (nt := 5) (res := #[.tmp 2]) Tryz.func190 rfl Tryz.ntmps190 Tryz.results190 rfl ?_
 refine jS (jR (jz 0 (jO (jN (jv1 0 ?_)))))
 refine jS (jS (jR (jM ?_)))
 refine Ops.cl (jE1 Tryz.call203) (fQ y _) rfl ?_
 rintro e _ ⟨rfl, rfl⟩
 refine ⟨_, rfl, ?_⟩
 refine jO (jN (jv1 4 ?_))
 refine VC.condB rfl (fun hc1 => ?_) (fun hc1 => ?_)
 ·
  have hl : cC y := by simpa using hc1
  refine jS (jR (jz 366 (jO (jN (jv1 2 ?_)))))
  refine jT ?_
  refine qZ (qR rfl ?_)
  exact ⟨by unfold wholeN; rw [if_pos hl], rfl⟩
 have hl : ¬ cC y := by simpa using hc1
 refine jQ (jN ?_)
 refine VC.sub [] .nil ?_
 refine jS (jR (jz 365 (jO (jN (jT ?_)))))
 refine qR rfl ?_
 exact ⟨by unfold wholeN; rw [if_neg hl], rfl⟩
theorem pZ (y m : Nat) (w : World) : Calls Tryz.prog 191 #[.int .i64 ((y : Nat) : Int), .int .i64 ((m : Nat) : Int)] w fun e w' => e = .returned (.int .i64 ((longN y m : Nat) : Int)) ∧ w = w' := by
 refine VC.calls (nt := 15) (res := #[.tmp 4]) Tryz.func191 rfl Tryz.ntmps191 Tryz.results191 rfl ?_
 refine jS (jR (jz 0 (jO (jN (jv2 0 1 ?_)))))
 refine jS (jS (jR (jm rfl (jO (jN (jv2 0 5 ?_))))))
 refine jB (jS (jS (jR (jb rfl rfl (Bin.eqlN _ 4) (ja rfl (jO (jN (jv3 0 5 6 ?_))))))))
 refine jD rfl (fun hc1 => ?_) fun hc1 => ?_
 ·
  refine jQ (jN ?_)
  refine jD rfl (fun hc4 => ?_) fun hc4 => ?_
  ·
   refine jS (jR (jz 30 (jO (jN (jv1 4 ?_)))))
   refine jT ?_
   refine qH (qZ (qR rfl ?_))
   exact ⟨by unfold longN; simp_all, rfl⟩
  refine jS (jR (jb rfl rfl (Bin.eqlN _ 2) (ja rfl (jO (jN (jv2 0 11 ?_))))))
  refine jD rfl (fun hc5 => ?_) fun hc5 => ?_
  ·
   refine jS (jS (jR (jM ?_)))
   refine Ops.cl (jE1 Tryz.call203) (fQ y _) rfl ?_
   rintro e _ ⟨rfl, rfl⟩
   refine ⟨_, rfl, ?_⟩
   refine jO (jN (jv1 14 ?_))
   refine VC.condB rfl (fun hc6 => ?_) (fun hc6 => ?_)
   ·
    refine jS (jR (jz 29 (jO (jN (jv1 4 ?_)))))
    refine jT ?_
    refine qZ (qH (qZ (qR rfl ?_)))
    exact ⟨by unfold longN; simp_all, rfl⟩
   refine jQ (jN ?_)
   refine VC.sub [] .nil ?_
   refine jS (jR (jz 28 (jO (jN (jT ?_)))))
   refine qH (qZ (qR rfl ?_))
   exact ⟨by unfold longN; simp_all, rfl⟩
  refine jQ ?_
  refine qW (jN ?_)
  refine VC.sub [] .nil ?_
  refine jS (jR (jz 31 (jO (jN (jT ?_)))))
  refine qR rfl ?_
  exact ⟨by unfold longN; simp_all, rfl⟩
 refine jS (jR (jb rfl rfl (Bin.eqlN _ 6) (ja rfl (jO (jN (jv3 0 5 6 ?_))))))
 refine jD rfl (fun hc2 => ?_) fun hc2 => ?_
 ·
  refine jQ (jN ?_)
  refine jD rfl (fun hc4 => ?_) fun hc4 => ?_
  ·
   refine jS (jR (jz 30 (jO (jN (jv1 4 ?_)))))
   refine jT ?_
   refine qH (qZ (qR rfl ?_))
   exact ⟨by unfold longN; simp_all, rfl⟩
  refine jS (jR (jb rfl rfl (Bin.eqlN _ 2) (ja rfl (jO (jN (jv2 0 11 ?_))))))
  refine jD rfl (fun hc5 => ?_) fun hc5 => ?_
  ·
   refine jS (jS (jR (jM ?_)))
   refine Ops.cl (jE1 Tryz.call203) (fQ y _) rfl ?_
   rintro e _ ⟨rfl, rfl⟩
   refine ⟨_, rfl, ?_⟩
   refine jO (jN (jv1 14 ?_))
   refine VC.condB rfl (fun hc6 => ?_) (fun hc6 => ?_)
   ·
    refine jS (jR (jz 29 (jO (jN (jv1 4 ?_)))))
    refine jT ?_
    refine qZ (qH (qZ (qR rfl ?_)))
    exact ⟨by unfold longN; simp_all, rfl⟩
   refine jQ (jN ?_)
   refine VC.sub [] .nil ?_
   refine jS (jR (jz 28 (jO (jN (jT ?_)))))
   refine qH (qZ (qR rfl ?_))
   exact ⟨by unfold longN; simp_all, rfl⟩
  refine jQ ?_
  refine qW (jN ?_)
  refine VC.sub [] .nil ?_
  refine jS (jR (jz 31 (jO (jN (jT ?_)))))
  refine qR rfl ?_
  exact ⟨by unfold longN; simp_all, rfl⟩
 refine jS (jR (jb rfl rfl (Bin.eqlN _ 9) (ja rfl (jO (jN (jv3 0 5 6 ?_))))))
 refine jD rfl (fun hc3 => ?_) fun hc3 => ?_
 ·
  refine jQ (jN ?_)
  refine jD rfl (fun hc4 => ?_) fun hc4 => ?_
  ·
   refine jS (jR (jz 30 (jO (jN (jv1 4 ?_)))))
   refine jT ?_
   refine qH (qZ (qR rfl ?_))
   exact ⟨by unfold longN; simp_all, rfl⟩
  refine jS (jR (jb rfl rfl (Bin.eqlN _ 2) (ja rfl (jO (jN (jv2 0 11 ?_))))))
  refine jD rfl (fun hc5 => ?_) fun hc5 => ?_
  ·
   refine jS (jS (jR (jM ?_)))
   refine Ops.cl (jE1 Tryz.call203) (fQ y _) rfl ?_
   rintro e _ ⟨rfl, rfl⟩
   refine ⟨_, rfl, ?_⟩
   refine jO (jN (jv1 14 ?_))
   refine VC.condB rfl (fun hc6 => ?_) (fun hc6 => ?_)
   ·
    refine jS (jR (jz 29 (jO (jN (jv1 4 ?_)))))
    refine jT ?_
    refine qZ (qH (qZ (qR rfl ?_)))
    exact ⟨by unfold longN; simp_all, rfl⟩
   refine jQ (jN ?_)
   refine VC.sub [] .nil ?_
   refine jS (jR (jz 28 (jO (jN (jT ?_)))))
   refine qH (qZ (qR rfl ?_))
   exact ⟨by unfold longN; simp_all, rfl⟩
  refine jQ ?_
  refine qW (jN ?_)
  refine VC.sub [] .nil ?_
  refine jS (jR (jz 31 (jO (jN (jT ?_)))))
  refine qR rfl ?_
  exact ⟨by unfold longN; simp_all, rfl⟩
 refine jR (jb rfl rfl (Bin.eqlN _ 11) (ja rfl (jO (jN (jv3 0 5 6 ?_)))))
 refine jD rfl (fun hc4 => ?_) fun hc4 => ?_
 ·
  refine jS (jR (jz 30 (jO (jN (jv1 4 ?_)))))
  refine jT ?_
  refine qH (qZ (qR rfl ?_))
  exact ⟨by unfold longN; simp_all, rfl⟩
 refine jS (jR (jb rfl rfl (Bin.eqlN _ 2) (ja rfl (jO (jN (jv2 0 11 ?_))))))
 refine jD rfl (fun hc5 => ?_) fun hc5 => ?_
 ·
  refine jS (jS (jR (jM ?_)))
  refine Ops.cl (jE1 Tryz.call203) (fQ y _) rfl ?_
  rintro e _ ⟨rfl, rfl⟩
  refine ⟨_, rfl, ?_⟩
  refine jO (jN (jv1 14 ?_))
  refine VC.condB rfl (fun hc6 => ?_) (fun hc6 => ?_)
  ·
   refine jS (jR (jz 29 (jO (jN (jv1 4 ?_)))))
   refine jT ?_
   refine qZ (qH (qZ (qR rfl ?_)))
   exact ⟨by unfold longN; simp_all, rfl⟩
  refine jQ (jN ?_)
  refine VC.sub [] .nil ?_
  refine jS (jR (jz 28 (jO (jN (jT ?_)))))
  refine qH (qZ (qR rfl ?_))
  exact ⟨by unfold longN; simp_all, rfl⟩
 refine jQ ?_
 refine qW (jN ?_)
 refine VC.sub [] .nil ?_
 refine jS (jR (jz 31 (jO (jN (jT ?_)))))
 refine qR rfl ?_
 exact ⟨by unfold longN; simp_all, rfl⟩
end
section
open Go.RowKit
theorem uU (n : Int) (w : World) : Calls Tryz.prog 178 #[.int .i64 n] w fun e w' =>
  w = w' ∧ ∃ y m d : Nat, ∃ b : Bool, e = .returned (.tuple #[.int .i64 ((y : Nat) : Int), .int .i64 ((m : Nat) : Int), .int .i64 ((d : Nat) : Int), .bool b]) ∧
   (((n < -719162 ∨ 2932896 < n) ∧ y = 0 ∧ m = 0 ∧ d = 0 ∧ b = false) ∨ (¬ (n < -719162 ∨ 2932896 < n) ∧ b = true ∧ sY n y m d)) := by
 refine VC.calls (nt := 48) (res := #[.tmp 2, .tmp 3, .tmp 4, .tmp 5]) Tryz.func178 rfl Tryz.ntmps178 Tryz.results178 rfl ?_
 refine jS (jR (jz 0 (jz 0 (jz 0 (ja rfl (jO (jN (jv1 0 ?_))))))))
 refine jS (jS ?_)
 refine VC.split1 [(0, _)] (js1 rfl) 13 (.bool (decide (n < -719162 ∨ 2932896 < n))) ?_ ?_
 ·
  refine jR ?_
  refine jm rfl (jb rfl rfl (Bin.lss _ (-719162)) ?_)
  by_cases hs9 : n < -719162
  ·
   refine jM ?_
   refine jU ?_
   refine jU ?_
   refine je (Run.pickT rfl rfl au) (jO ?_)
   refine jN ⟨(js2 (jC (Eq.symm (by simp [*]))) rfl), rfl⟩
  refine jM ?_
  refine jG ?_
  refine jk (Run.bin rfl rfl (Bin.gtr _ 2932896)) ?_
  by_cases hs12 : 2932896 < n
  ·
   refine je (Run.pickF rfl rfl au) (jO ?_)
   refine jN ⟨(js2 (jC (Eq.symm (by simp [*]))) rfl), rfl⟩
  refine je (Run.pickF rfl rfl au) (jO ?_)
  refine jN ⟨(js2 (jC (Eq.symm (by simp [*]))) rfl), rfl⟩
 intro Γ hΓ
 refine jN (VC.sub _ hΓ ?_)
 refine jD rfl (fun hc1 => ?_) fun hc1 => ?_
 ·
  refine jS (jR (jz 0 (jz 0 (jz 0 (ja rfl (jO (jN (jv4 2 3 4 5 ?_))))))))
  refine jT ?_
  refine qZ (bT ?_)
  refine qO rfl ?_
  refine qO rfl ?_
  refine qO rfl ?_
  refine qO rfl ?_
  refine bX ?_
  exact ⟨rfl, 0, 0, 0, false, rfl, .inl ⟨hc1, rfl, rfl, rfl, rfl⟩⟩
 obtain ⟨n1, hn1⟩ : ∃ n1 : Nat, n + 719162 = ((n1 : Nat) : Int) := ⟨(n + 719162).toNat, jo⟩
 have hn1m : n1 ≤ 3652058 := jo
 have h70 : aheadN 1970 = 719162 := rfl
 refine jQ (jN (jv1 0 ?_))
 refine jS (jR (jz 1970 (jO (jN (jS (jB ?_))))))
 refine VC.loop (σ := Nat) (fun s => [(0, .int .i64 (((n1 : Nat) : Int) - ((aheadN s : Nat) : Int))), (6, .int .i64 ((s : Nat) : Int))]) (fun s wr => (1 ≤ s ∧ s ≤ 1970 ∧ aheadN s ≤ 719162) ∧ w = wr) (fun s => s) 1970 (js2 (congrArg (fun z => some (Value.int .i64 z)) (jo : n = ((n1 : Nat) : Int) - ((aheadN 1970 : Nat) : Int))) rfl) ⟨⟨jo, jo, jo⟩, rfl⟩ ?_
 rintro y _ ⟨⟨hy1, hy2, hy3⟩, rfl⟩
 refine jS (jS (jR (jm rfl (jb rfl rfl (Bin.lss _ 0) (jO (jN (jv3 0 6 15 ?_)))))))
 refine jD rfl (fun hc2 => ?_) fun hc2 => ?_
 ·
  have hyn : y ≠ 1 := fun h => by subst h; rw [rM] at hc2; omega
  have has := lX (y - 1) jo
  have hwp := rG (y - 1)
  rw [show y - 1 + 1 = y by omega] at has
  refine jQ (jN (jv2 0 6 ?_))
  refine jB (jS (jR (jm rfl (jb rfl rfl (Bin.sub_i64 _ 1 jo jo) (ja rfl (jO (jN (jv2 0 6 ?_))))))))
  refine jR (jm rfl (jM ?_))
  refine Ops.cl (jE1 Tryz.call190) (lV (y - 1) _) rfl ?_
  rintro e _ ⟨rfl, rfl⟩
  refine ⟨_, rfl, ?_⟩
  refine jb rfl rfl (Bin.addZ _ _ jo jo) (ja rfl (jO ?_))
  refine qW (jN ⟨(y - 1), (js2 (congrArg (fun z => some (Value.int .i64 z)) (jo : ((n1 : Nat) : Int) - ((aheadN y : Nat) : Int) + ((wholeN (y - 1) : Nat) : Int) = ((n1 : Nat) : Int) - ((aheadN (y - 1) : Nat) : Int))) rfl), ?_, ?_⟩)
  · exact ⟨⟨jo, jo, jo⟩, rfl⟩
  first | omega | (dsimp only; omega)
 refine jX ?_
 refine qJ (qJ (qN ?_))
 refine jN (jv2 0 6 ?_)
 refine jS (jB ?_)
 refine VC.loop (σ := Nat) (fun s => [(0, .int .i64 ((n1 - aheadN s : Nat) : Int)), (6, .int .i64 ((s : Nat) : Int))]) (fun s wr => (1 ≤ s ∧ aheadN s ≤ n1) ∧ w = wr) (fun s => n1 + 1 - aheadN s) y (js2 (congrArg (fun z => some (Value.int .i64 z)) (jo : ((n1 : Nat) : Int) - ((aheadN y : Nat) : Int) = ((n1 - aheadN y : Nat) : Int))) rfl) ⟨⟨jo, jo⟩, rfl⟩ ?_
 rintro y _ ⟨⟨hy1, hy2⟩, rfl⟩
 have has := lX y hy1
 have hwp := rG y
 have hyt := rH y jo
 refine jS (jS (jR (jm rfl (jM ?_))))
 refine Ops.cl (jE1 Tryz.call190) (lV y _) rfl ?_
 rintro e _ ⟨rfl, rfl⟩
 refine ⟨_, rfl, ?_⟩
 refine jb rfl rfl (Bin.geqN _ _) (jO (jN (jv3 0 6 25 ?_)))
 refine jD rfl (fun hc3 => ?_) fun hc3 => ?_
 ·
  refine jQ (jN (jv2 0 6 ?_))
  refine jB (jS (jR (jm rfl (jM ?_))))
  refine Ops.cl (jE1 Tryz.call190) (lV y _) rfl ?_
  rintro e _ ⟨rfl, rfl⟩
  refine ⟨_, rfl, ?_⟩
  refine jb rfl rfl (Bin.sub_i64 _ _ jo jo) (ja rfl (jO (jN (jv2 0 6 ?_))))
  refine jR (jm rfl (jb rfl rfl (Bin.add_i64 _ 1 jo) (ja rfl (jO ?_))))
  refine qW (jN ⟨(y + 1), (js2 (congrArg (fun z : Nat => some (Value.int .i64 (z : Int))) (jo : n1 - aheadN y - wholeN y = n1 - aheadN (y + 1))) rfl), ?_, ?_⟩)
  · exact ⟨⟨jo, jo⟩, rfl⟩
  first | omega | (dsimp only; omega)
 refine jX ?_
 refine qJ (qJ (qN ?_))
 refine jN (jv2 0 6 ?_)
 refine jS (jR (jz 1 (jO (jN (jS (jB ?_))))))
 refine VC.loop (σ := Nat) (fun s => [(0, .int .i64 ((n1 - aheadN y - bB y s : Nat) : Int)), (6, .int .i64 ((y : Nat) : Int)), (7, .int .i64 ((s : Nat) : Int))]) (fun s wr => (1 ≤ s ∧ s ≤ 12 ∧ bB y s ≤ n1 - aheadN y) ∧ w = wr) (fun s => 13 - s) 1 (js3 rfl rfl rfl) ⟨⟨jo, jo, zae _⟩, rfl⟩ ?_
 rintro m _ ⟨⟨hm1, hm2, hm3⟩, rfl⟩
 have hbs := jE y m hm1
 refine jS (jS (jR (jm rfl (jm rfl (jM ?_)))))
 refine Ops.cl (jE2 Tryz.call191) (pZ y m _) rfl ?_
 rintro e _ ⟨rfl, rfl⟩
 refine ⟨_, rfl, ?_⟩
 refine jb rfl rfl (Bin.geqN _ _) (jO (jN (jv4 0 6 7 36 ?_)))
 refine jD rfl (fun hc4 => ?_) fun hc4 => ?_
 ·
  refine jQ (jN (jv3 0 6 7 ?_))
  refine jB (jS (jR (jm rfl (jm rfl (jM ?_)))))
  refine Ops.cl (jE2 Tryz.call191) (pZ y m _) rfl ?_
  rintro e _ ⟨rfl, rfl⟩
  refine ⟨_, rfl, ?_⟩
  refine jb rfl rfl (Bin.sub_i64 _ _ jo jo) (ja rfl (jO (jN (jv3 0 6 7 ?_))))
  refine jR (jm rfl (jb rfl rfl (Bin.add_i64 _ 1 jo) (ja rfl (jO ?_))))
  refine qW (jN ⟨(m + 1), (js3 (congrArg (fun z : Nat => some (Value.int .i64 (z : Int))) (jo : n1 - aheadN y - bB y m - longN y m = n1 - aheadN y - bB y (m + 1))) rfl rfl), ?_, ?_⟩)
  ·
   refine ⟨⟨jo, ?_, jo⟩, rfl⟩
   apply Classical.byContradiction
   intro h
   have h12 : m = 12 := jo
   subst h12
   have hbe := oI y
   have : bB y (12 + 1) = bB y 13 := rfl
   omega
  first | omega | (dsimp only; omega)
 refine jX ?_
 refine qJ (qJ (qN ?_))
 refine jN (jv3 0 6 7 ?_)
 refine jS (jR (jm rfl (jm rfl (jm rfl (jb rfl rfl (Bin.add_i64 _ 1 jo) (ja rfl (ja rfl (ja rfl (ja rfl (jO (jN (jv4 2 3 4 5 ?_))))))))))))
 refine jT ?_
 refine bT ?_
 refine qO rfl ?_
 refine qO rfl ?_
 refine qO rfl ?_
 refine qO rfl ?_
 refine bX ?_
 refine ⟨rfl, y, m, n1 - aheadN y - bB y m + 1, true, rfl, .inr ⟨hc1, rfl, ?_⟩⟩
 exact ⟨hy1, hyt, hm1, hm2, jo, jo, jo⟩
theorem qKi {n : Int} {y m d : Nat} {b : Bool} (h : ((n < -719162 ∨ 2932896 < n) ∧ y = 0 ∧ m = 0 ∧ d = 0 ∧ b = false) ∨ (¬ (n < -719162 ∨ 2932896 < n) ∧ b = true ∧ sY n y m d)) : b = decide (-719162 ≤ n ∧ n ≤ 2932896) := by
 rcases h with ⟨h1, _, _, _, h2⟩ | ⟨h1, h2, _⟩
 · rw [h2, decide_eq_false jo]
 rw [h2, decide_eq_true jo]
def gC (a b : Int) : Int × Int × Bool := if b < -1439 ∨ 1439 < b ∨ a < -100000000000 ∨ 1000000000000 < a then (0, 0, false) else ((a + 60 * b) / 86400, (a + 60 * b) % 86400, decide (dQ a b))
theorem qZb (a b : Int) : (gC a b).2.2 = decide (dQ a b) := by
 unfold gC
 split
 · rw [decide_eq_false (by unfold dQ; omega)]
 rfl
theorem xE (a b : Int) (w : World) : Calls Tryz.prog 156 #[.agg #[.int .i64 a, .int .i64 b]] w fun e w' => e = .returned (.tuple #[.int .i64 (gC a b).1, .int .i64 (gC a b).2.1, .bool (gC a b).2.2]) ∧ Frm [] w w' := by
 refine VC.calls (nt := 57) (res := #[.tmp 2, .tmp 3, .tmp 4]) Tryz.func156 rfl Tryz.ntmps156 Tryz.results156 rfl ?_
 refine jS (jR ?_)
 refine Ops.m (qV.box rfl) rfl ?_
 rintro _ w1 ⟨rfl, hF1⟩
 have hb1 := hF1.blk
 have hf1 := hF1.frm
 generalize hg1 : w.heap.size = g1 at *
 refine jz 0 (jz 0 (ja rfl (jO (jN (jv1 1 ?_)))))
 refine jS (jS ?_)
 refine VC.split1 [(1, _)] (js1 rfl) 28 (.bool (decide (b < -1439 ∨ 1439 < b ∨ a < -100000000000 ∨ 1000000000000 < a))) ?_ ?_
 ·
  refine jR (jf rfl zbg rfl zn (jl rfl zp (hb1.cell 1) (jb rfl rfl (Bin.lss _ (-1439)) ?_)))
  by_cases hs13 : b < -1439
  ·
   refine jM ?_
   refine jU ?_
   refine jU ?_
   refine jU ?_
   refine je (Run.pickT rfl rfl au) (jM ?_)
   refine jU ?_
   refine jU ?_
   refine jU ?_
   refine je (Run.pickT rfl rfl au) (jM ?_)
   refine jU ?_
   refine jU ?_
   refine jU ?_
   refine je (Run.pickT rfl rfl au) (jO ?_)
   refine jN ⟨(js2 (jC (Eq.symm (by simp [*]))) rfl), rfl⟩
  refine jM ?_
  refine jk (Run.fieldAddr rfl zbg rfl zn jd) ?_
  refine jk (Run.load rfl zp (hb1.cell 1)) ?_
  refine jk (Run.bin rfl rfl (Bin.gtr _ 1439)) ?_
  by_cases hs17 : 1439 < b
  ·
   refine je (Run.pickF rfl rfl au) (jM ?_)
   refine jU ?_
   refine jU ?_
   refine jU ?_
   refine je (Run.pickT rfl rfl au) (jM ?_)
   refine jU ?_
   refine jU ?_
   refine jU ?_
   refine je (Run.pickT rfl rfl au) (jO ?_)
   refine jN ⟨(js2 (jC (Eq.symm (by simp [*]))) rfl), rfl⟩
  refine je (Run.pickF rfl rfl au) (jM ?_)
  refine jk (Run.fieldAddr rfl zbg rfl zel jd) ?_
  refine jk (Run.load rfl zed (hb1.cell 0)) ?_
  refine jk (Run.bin rfl rfl (Bin.lss _ (-100000000000))) ?_
  by_cases hs22 : a < -100000000000
  ·
   refine je (Run.pickF rfl rfl au) (jM ?_)
   refine jU ?_
   refine jU ?_
   refine jU ?_
   refine je (Run.pickT rfl rfl au) (jO ?_)
   refine jN ⟨(js2 (jC (Eq.symm (by simp [*]))) rfl), rfl⟩
  refine je (Run.pickF rfl rfl au) (jM ?_)
  refine jk (Run.fieldAddr rfl zbg rfl zel jd) ?_
  refine jk (Run.load rfl zed (hb1.cell 0)) ?_
  refine jk (Run.bin rfl rfl (Bin.gtr _ 1000000000000)) ?_
  by_cases hs27 : 1000000000000 < a
  ·
   refine je (Run.pickF rfl rfl au) (jO ?_)
   refine jN ⟨(js2 (jC (Eq.symm (by simp [*]))) rfl), rfl⟩
  refine je (Run.pickF rfl rfl au) (jO ?_)
  refine jN ⟨(js2 (jC (Eq.symm (by simp [*]))) rfl), rfl⟩
 intro Γ hΓ
 refine jN (VC.sub _ hΓ ?_)
 refine jD rfl (fun hc1 => ?_) fun hc1 => ?_
 ·
  refine jS (jR (jz 0 (jz 0 (ja rfl (jO (jN (jv3 2 3 4 ?_)))))))
  refine jT ?_
  refine qZ (sN rfl rfl rfl ?_)
  exact ⟨by rw [show gC a b = (0, 0, false) from if_pos hc1]; rfl, hf1⟩
 have e0 : a + b * 60 = a + 60 * b := jo
 generalize hx : a + 60 * b = x at *
 have e1 := Int.tmod_add_mul_tdiv x 86400
 have e2 := Int.tmod_lt_of_pos x (b := 86400) jd
 have e3 := Int.lt_tmod_of_pos x (b := 86400) jd
 have hcv : gC a b = (x / 86400, x % 86400, decide (dQ a b)) := by rw [← hx]; exact if_neg hc1
 refine jQ (jN (jv1 1 ?_))
 refine jS (jR (jf rfl zbg rfl zel (jl rfl zed (hb1.cell 0) (jf rfl zbg rfl zn (jl rfl zp (hb1.cell 1) (jb rfl rfl (Bin.mulZ _ 60 jo jo) (jb rfl rfl (Bin.addZ _ _ jo jo) ?_)))))))
 rw [e0]
 refine ja rfl (jO (jN (jv1 5 ?_)))
 refine jS (jR (jm rfl (jb rfl rfl (Bin.quoZ _ 86400 jo jo jo) (ja rfl (jO (jN (jv2 5 6 ?_)))))))
 refine jS (jR (jm rfl (jm rfl (jb rfl rfl (Bin.mulZ 86400 _ jo jo) (jb rfl rfl (Bin.subZ _ _ jo jo) (ja rfl (jO (jN (jv2 5 6 ?_)))))))))
 refine jS (jS (jR (jm rfl (jb rfl rfl (Bin.lss _ 0) (jO (jN (jv3 5 6 42 ?_)))))))
 refine VC.meet (σ := Unit) (fun s => [(5, .int .i64 (x % 86400)), (6, .int .i64 (x / 86400))]) (fun s wm => Frm [] w wm) ?_ ?_
 ·
  refine jD rfl (fun hc2 => ?_) fun hc2 => ?_
  ·
   refine jS (jR (jm rfl (jb rfl rfl (Bin.subZ _ 1 jo jo) (ja rfl (jO (jN (jv2 5 6 ?_)))))))
   refine jR (jm rfl (jb rfl rfl (Bin.addZ _ 86400 jo jo) (ja rfl (jO ?_))))
   refine jN ⟨(), (js2 (congrArg (fun z => some (Value.int .i64 z)) (jo : x - 86400 * x.tdiv 86400 + 86400 = x % 86400)) (congrArg (fun z => some (Value.int .i64 z)) (jo : x.tdiv 86400 - 1 = x / 86400))), ?_⟩
   exact hf1
  refine jQ ?_
  refine jN ⟨(), (js2 (congrArg (fun z => some (Value.int .i64 z)) (jo : x - 86400 * x.tdiv 86400 = x % 86400)) (congrArg (fun z => some (Value.int .i64 z)) (jo : x.tdiv 86400 = x / 86400))), ?_⟩
  exact hf1
 rintro _ w1 hf1 Γ hΓ
 refine jN (VC.sub _ hΓ (jS (jR (jM ?_))))
 refine Ops.cl (jE1 Tryz.call178) (uU (x / 86400) _) rfl ?_
 rintro e _ ⟨rfl, y, m, d, ok, rfl, hk⟩
 refine ⟨_, rfl, ?_⟩
 refine jm rfl (je (Run.extract rfl rfl) (je (Run.extract rfl rfl) (je (Run.extract rfl rfl) (je (Run.extract rfl rfl) (ja rfl (ja rfl (jA ?_)))))))
 refine ja rfl (jO (jN (jv3 5 6 10 ?_)))
 refine jS (jR (jm rfl (jm rfl (jm rfl (ja rfl (ja rfl (ja rfl (jO (jN (jv3 2 3 4 ?_))))))))))
 refine jT ?_
 refine sN rfl rfl rfl ?_
 refine ⟨?_, hf1⟩
 have hok : ok = decide (dQ a b) := (qKi hk).trans (decide_eq_decide.2 (by rw [← hx]; exact nM jo jo))
 rw [hcv, hok]
 rfl
end
section
open Go.RowKit Go.Sort
theorem nN (c : UInt8) (w : World) : Calls Tryz.prog 164 #[.int .u8 ((c.toNat : Nat) : Int)] w fun e w' => e = .returned (.int .u8 (((low c).toNat : Nat) : Int)) ∧ w = w' := by
 refine VC.calls (nt := 12) (res := #[.tmp 2]) Tryz.func164 rfl Tryz.ntmps164 Tryz.results164 rfl ?_
 refine jS (jR ?_)
 refine jy .u8 0 ?_
 refine jO (jN (jv1 0 ?_))
 refine jS (jS ?_)
 refine VC.split1 [(0, _)] (js1 rfl) 8 (.bool (decide ((65 ≤ c.toNat) ∧ (c.toNat ≤ 90)))) ?_ ?_
 ·
  by_cases hs0 : 65 ≤ c.toNat
  ·
   refine jR (jm rfl (jb rfl rfl (Bin.leqN 65 _) (jM ?_)))
   refine jG ?_
   refine jk (Run.bin rfl rfl (Bin.leqN _ 90)) ?_
   refine je (Run.pickT rfl rfl au) (jO ?_)
   refine jN ⟨(js2 (by rw [oS hs0]; rfl) rfl), rfl⟩
  refine jR (jm rfl (jb rfl rfl (Bin.leqN 65 _) (jM ?_)))
  refine jU ?_
  refine jU ?_
  refine je (Run.pickF rfl rfl au) (jO ?_)
  refine jN ⟨(js2 (by rw [oT hs0]; rfl) rfl), rfl⟩
 intro Γ hΓ
 refine jN (VC.sub _ hΓ ?_)
 refine jD rfl (fun hc1 => ?_) fun hc1 => ?_
 ·
  refine jS (jR (jm rfl (jb rfl rfl (Bin.add_u8 _ 32 jo) (ja rfl (jO (jN (jv1 2 ?_)))))))
  refine jT ?_
  refine qZ (qR rfl ?_)
  exact ⟨by rw [dG, if_pos hc1], rfl⟩
 refine jQ (jN (jv1 0 ?_))
 refine jS (jR (jm rfl (ja rfl (jO (jN (jv1 2 ?_))))))
 refine jT ?_
 refine qR rfl ?_
 exact ⟨by rw [dG, if_neg hc1], rfl⟩
theorem pJ (a b : Tx) (w : World) (ha : a.length ≤ 1000000) (hb : b.length ≤ 1000000) : Calls Tryz.prog 139 #[encStr a, encStr b] w fun e w' => e = .returned (.bool (decide (qT a = qT b))) ∧ qK w w' := by
 refine VC.calls (nt := 26) (res := #[.tmp 4]) Tryz.func139 rfl Tryz.ntmps139 Tryz.results139 rfl ?_
 refine jS (jR (ja rfl (jO (jN (jv2 0 1 ?_)))))
 refine jS (jS (jR (jm rfl (je (Run.lenT rfl zj) (jm rfl (je (Run.lenT rfl zj) (jb rfl rfl (Bin.neqN _ _) (jO (jN (jv3 0 1 10 ?_))))))))))
 refine jD rfl (fun hc1 => ?_) fun hc1 => ?_
 ·
  have hne : ¬ qT a = qT b := fun h => hc1 (by have := congrArg List.length h; simpa [cI] using this)
  refine jS (jR (ja rfl (jO (jN (jv1 4 ?_)))))
  refine jT ?_
  refine qZ (qR rfl ?_)
  exact ⟨by simp [hne], qK.refl _⟩
 have hll : a.length = b.length := Classical.not_not.1 hc1
 refine jQ (jN (jv2 0 1 ?_))
 refine jS (jS (jR (jz 0 (jO (jN (jB ?_))))))
 refine VC.loop (σ := Nat) (fun s => [(0, encStr a), (1, encStr b), (5, .int .i64 ((s : Nat) : Int))]) (fun s wr => s ≤ a.length ∧ qT (a.take s) = qT (b.take s) ∧ qK w wr) (fun s => a.length - s) 0 (js3 rfl rfl rfl) ⟨jo, rfl, qK.refl _⟩ ?_
 rintro i wr ⟨hi, htk, hd⟩
 refine jS (jS (jR (jm rfl (jm rfl (je (Run.lenT rfl zj) (jb rfl rfl (Bin.lssN _ _) (jO (jN (jv4 0 1 5 14 ?_)))))))))
 refine jD rfl (fun hc2 => ?_) fun hc2 => ?_
 ·
  have hib : i < b.length := jo
  have hta : a.take (i + 1) = a.take i ++ [a[i]] := cL hc2
  have htb : b.take (i + 1) = b.take i ++ [b[i]] := cL hib
  have hab : qT a = qT b → low a[i] = low b[i] := fun h => by
   have h1 : (qT a)[i]? = (qT b)[i]? := by rw [h]
   simpa [qT, zb, hc2, hib] using h1
  have hga : a[i]? = some a[i] := zb hc2
  have hgb : b[i]? = some b[i] := zb hib
  generalize a[i] = x at *
  generalize b[i] = y at *
  refine jQ (jN (jv3 0 1 5 ?_))
  refine jS (jB (jS ?_))
  refine VC.still jK jK ?_
  refine qM ?_
  refine qM ?_
  refine qE (Run.indexT _ rfl rfl zj hga) ?_
  refine bZ.call (jE1 Tryz.call164) (nN x _) trivial rfl rfl ?_
  refine qM ?_
  refine qM ?_
  refine qE (Run.indexT _ rfl rfl zj hgb) ?_
  refine bZ.call (jE1 Tryz.call164) (nN y _) trivial rfl rfl ?_
  refine qE (Run.bin rfl rfl (Bin.neqN _ _)) ?_
  refine bZ.nil ?_
  refine jN (jv4 0 1 5 25 ?_)
  refine jD rfl (fun hc3 => ?_) fun hc3 => ?_
  ·
   have hne : ¬ qT a = qT b := fun h => hc3 (by rw [hab h])
   refine jS (jR (ja rfl (jO (jN (jv1 4 ?_)))))
   refine jT ?_
   refine qH (qZ (qZ (qH (qZ (qR rfl ?_)))))
   exact ⟨by simp [hne], hd.trans (qK.drew _)⟩
  have hxy : low x = low y := UInt8.toNat_inj.1 (Classical.not_not.1 hc3)
  refine jQ ?_
  refine qW (jN ?_)
  refine jv3 0 1 5 ?_
  refine jR (jm rfl (jb rfl rfl (Bin.add_i64 _ 1 jo) (ja rfl (jO ?_))))
  refine jN ⟨(i + 1), (js3 rfl rfl rfl), ?_, ?_⟩
  ·
   refine ⟨hc2, ?_, hd.trans (qK.drew _)⟩
   rw [hta, htb]
   show (_ ++ _ : Tx).map low = (_ ++ _ : Tx).map low
   rw [zbc, zbc]
   show qT _ ++ [low x] = qT _ ++ [low y]
   rw [htk, hxy]
  first | omega | (dsimp only; omega)
 have heq : qT a = qT b := by
  have hil : i = a.length := by omega
  subst hil
  rw [zaq, hll, zaq] at htk
  exact htk
 refine jX ?_
 refine qJ (qJ (qN ?_))
 refine jN ?_
 refine VC.sub [] .nil ?_
 refine jS (jR (ja rfl (jO (jN (jT ?_)))))
 refine qR rfl ?_
 exact ⟨by simp [heq], hd⟩
theorem qV3 {c : UInt8} (h : low c = 92) : c = 92 := by
 have h1 := congrArg UInt8.toNat h
 rw [dG] at h1
 apply UInt8.toNat_inj.1
 have e : (92 : UInt8).toNat = 92 := rfl
 rw [e] at h1 ⊢
 split at h1 <;> omega
theorem uB {q f : Tx} (hf : f ∈ bM) (h : qT f = qT q) : ([92] : Tx).isPrefixOf q = true := by
 have h0 : (qT f)[0]? = some 92 := by
  have key : ∀ f ∈ bM, (qT f)[0]? = some 92 := jd
  exact key f hf
 rw [h] at h0
 cases q with
 | nil => cases h0
 | cons c r =>
  simp only [qT, zbw, List.getElem?_cons_zero, Option.some.injEq] at h0
  rw [qV3 h0]
  simp [List.isPrefixOf]
theorem qQj {q : Tx} {i : Nat} (hi : i < bM.length) (hn : ∀ f ∈ bM.take i, qT q ≠ qT f) (h : qT q = qT bM[i]) : bD q = (bM[i], 0) := by
 unfold bD bY
 rw [if_pos (uB (zaa hi) h.symm), vL hi (fun f hf e => hn f hf e.symm) h.symm]
theorem qZc {q : Tx} (hn : ∀ f ∈ bM, qT q ≠ qT f) {c : UInt8} (hc : c ∈ q) (hs : ¬ qD (low c).toNat) : bD q = ([], 18) := by
 unfold bD bY
 split
 ·
  rename_i h
  split at h
  · rw [List.find?_eq_none.2 (fun f hf => by simpa using fun e => hn f hf e.symm)] at h; cases h
  rw [if_pos (.inr (.inr ⟨low c, List.mem_map.2 ⟨c, hc, rfl⟩, hs⟩))] at h; cases h
 rfl
theorem mW {q : Tx} (hs : ∀ c ∈ q, qD (low c).toNat) : ¬ ([92] : Tx).isPrefixOf q = true := by
 intro h
 cases q with
 | nil => simp at h
 | cons c r =>
  simp [List.isPrefixOf] at h
  have := hs c jp
  rw [← h] at this
  exact absurd this jd
theorem qQk {q : Tx} (hs : ∀ c ∈ q, qD (low c).toNat) (hl : 20 < q.length) : bD q = ([], 18) := by
 unfold bD bY
 rw [if_neg (mW hs), if_pos (.inr (.inl hl))]
theorem qQl {q : Tx} (hs : ∀ c ∈ q, qD (low c).toNat) (hl : ¬ 20 < q.length) : (bD q).1 = qT q := by
 unfold bD bY
 rw [if_neg (mW hs)]
 by_cases h : qT q = []
 · rw [if_pos (.inl h), h]
 rw [if_neg]
 rintro (h1 | h1 | ⟨c, hc, h1⟩)
 · exact h h1
 · exact hl h1
 obtain ⟨d, hd, rfl⟩ := List.mem_map.1 hc
 exact h1 (hs d hd)
theorem xF (q : Tx) (w : World) (hq : q.length ≤ 1000000) : Calls Tryz.prog 192 #[encStr q] w fun e w' => e = .returned (encStr (bD q).1) ∧ Frm [] w w' := by
 refine VC.calls (nt := 80) (res := #[.tmp 2]) Tryz.func192 rfl Tryz.ntmps192 Tryz.results192 rfl ?_
 refine jS (jR (ja rfl (jO (jN (jv1 0 ?_)))))
 refine jS (jR ?_)
 refine Ops.m (qV.buildN (cells := (SB bM).toArray) (evs.cons rfl (evs.cons rfl (evs.cons rfl (evs.cons rfl (evs.cons rfl evs.nil))))) zc zm dI rfl rfl jK) rfl ?_
 rintro _ w1 ⟨rfl, hF1⟩
 have hr1 : Rd w1 1 (some ⟨w.heap.size, 0, none⟩) bM.length (SB bM) := Rd.of_blk (n := 5) (size := 1) hF1.blk rfl
 have hf1 := hF1.frm
 generalize w.heap.size = g1 at *
 refine ja rfl (jO (jN (jv2 0 3 ?_)))
 refine jS (jS (jR (jz 0 (jO (jN (jB ?_))))))
 refine VC.loop (σ := Nat) (fun s => [(0, encStr q), (3, .slice (some ⟨g1, 0, none⟩) 5 5), (4, .int .i64 ((s : Nat) : Int))]) (fun s wr => s ≤ 5 ∧ Frm [] w1 wr ∧ ∀ f ∈ bM.take s, qT q ≠ qT f) (fun s => 5 - s) 0 (js3 rfl rfl rfl) ⟨jo, Frm.refl _ _, jp⟩ ?_
 rintro i wr ⟨hi, hfr, hn⟩
 refine jS (jS (jR (jm rfl (jb rfl rfl (Bin.lssN _ 5) (jO (jN (jv4 0 3 4 10 ?_)))))))
 refine jD rfl (fun hc1 => ?_) fun hc1 => ?_
 ·
  have hi5 : i < bM.length := hc1
  obtain ⟨ad, hA, hcell⟩ := eZ (hr1.frm hfr jp) hi5
  cases hA
  refine jQ (jN (jv3 0 3 4 ?_))
  refine jS (jB (jS (jR (jm rfl (jm rfl (jm rfl (je (Run.index1 i rfl rfl zc zm hc1) (jl rfl zx hcell ?_))))))))
  refine Ops.cl (jE2 Tryz.call139) (pJ q bM[i] _ hq (by have := hZ (kL _ (zaa hi5)); omega)) rfl ?_
  rintro e w2 ⟨rfl, hd2⟩
  refine ⟨_, rfl, ?_⟩
  have hfr2 := hfr.drawn hd2
  refine jO (jN (jv4 0 3 4 18 ?_))
  refine VC.condB rfl (fun hc2 => ?_) (fun hc2 => ?_)
  ·
   obtain ⟨ad2, hA2, hcell2⟩ := eZ (hr1.frm hfr2 jp) hi5
   cases hA2
   refine jS (jR (jm rfl (jm rfl (je (Run.index1 i rfl rfl zc zm hc1) (jl rfl zx hcell2 (ja rfl (jO (jN (jv1 2 ?_)))))))))
   refine jT ?_
   refine qH (qZ (qZ (qH (qZ (qR rfl ?_)))))
   exact ⟨by rw [qQj hi5 hn (of_decide_eq_true hc2)], hf1.trans hfr2 jp⟩
  refine jQ ?_
  refine qW (jN ?_)
  refine jv3 0 3 4 ?_
  refine jR (jm rfl (jb rfl rfl (Bin.add_i64 _ 1 jo) (ja rfl (jO ?_))))
  refine jN ⟨(i + 1), (js3 rfl rfl rfl), ?_, ?_⟩
  ·
   refine ⟨hc1, hfr2, fun f hf => ?_⟩
   rw [cL hi5] at hf
   rcases zds.1 hf with h | h
   · exact hn f h
   simp only [za] at h
   rw [h]; exact of_decide_eq_false (by simpa using hc2)
  first | omega | (dsimp only; omega)
 refine jX ?_
 refine qJ (qJ (qN ?_))
 refine jN (jv1 0 ?_)
 refine jS (jR (ja rfl (jO (jN (jS (jS (jR (jz 0 (jO (jN (jB ?_)))))))))))
 have hn5 : ∀ f ∈ bM, qT q ≠ qT f := by
  have him : i = 5 := jo
  subst him
  exact hn
 refine VC.loop (σ := Nat) (fun s => [(0, encStr q), (5, encStr (qT (q.take s))), (6, .int .i64 ((s : Nat) : Int))]) (fun s wr => s ≤ q.length ∧ Frm [] w wr ∧ ∀ c ∈ q.take s, qD (low c).toNat) (fun s => q.length - s) 0 (js3 rfl rfl rfl) ⟨jo, hf1.trans hfr jp, jp⟩ ?_
 rintro j wr ⟨hj, hfr, hsg⟩
 refine jS (jS (jR (jm rfl (jm rfl (je (Run.lenT rfl zj) (jb rfl rfl (Bin.lssN _ _) (jO (jN (jv4 0 5 6 26 ?_)))))))))
 refine jD rfl (fun hc3 => ?_) fun hc3 => ?_
 ·
  have hgq : q[j]? = some q[j] := zb hc3
  have htq : q.take (j + 1) = q.take j ++ [q[j]] := cL hc3
  have hmq : q[j] ∈ q := zaa hc3
  generalize q[j] = c at *
  refine jQ (jN (jv3 0 5 6 ?_))
  refine jS (jB (jS (jR (jm rfl (jm rfl (je (Run.indexT _ rfl rfl zj hgq) (ja rfl (jO (jN (jv4 0 5 6 7 ?_))))))))))
  refine jS (jS ?_)
  refine VC.split1 [(0, _), (5, _), (6, _), (7, _)] (js4 rfl rfl rfl rfl) 37 (.bool (decide ((65 ≤ c.toNat) ∧ (c.toNat ≤ 90)))) ?_ ?_
  ·
   by_cases hs0 : 65 ≤ c.toNat
   ·
    refine jR (jm rfl (jb rfl rfl (Bin.leqN 65 _) (jM ?_)))
    refine jG ?_
    refine jk (Run.bin rfl rfl (Bin.leqN _ 90)) ?_
    refine je (Run.pickT rfl rfl au) (jO ?_)
    refine jN ⟨(js5 (by rw [oS hs0]; rfl) rfl rfl rfl rfl), rfl⟩
   refine jR (jm rfl (jb rfl rfl (Bin.leqN 65 _) (jM ?_)))
   refine jU ?_
   refine jU ?_
   refine je (Run.pickF rfl rfl au) (jO ?_)
   refine jN ⟨(js5 (by rw [oT hs0]; rfl) rfl rfl rfl rfl), rfl⟩
  intro Γ hΓ
  refine jN (VC.sub _ hΓ ?_)
  refine VC.meet (σ := Unit) (fun s => [(0, encStr q), (5, encStr (qT (q.take j))), (6, .int .i64 ((j : Nat) : Int)), (7, .int .u8 (((low c).toNat : Nat) : Int))]) (fun s wm => wr = wm) ?_ ?_
  ·
   refine jD rfl (fun hc4 => ?_) fun hc4 => ?_
   ·
    refine jR (jm rfl (jb rfl rfl (Bin.add_u8 _ 32 jo) (ja rfl (jO ?_))))
    refine jN ⟨(), (js4 rfl rfl rfl (by rw [dG, if_pos hc4]; rfl)), ?_⟩
    rfl
   refine jQ ?_
   refine jN ⟨(), (js4 rfl rfl rfl (by rw [dG, if_neg hc4]; rfl)), ?_⟩
   rfl
  rintro _ _ rfl Γ hΓ
  refine jN (VC.sub _ hΓ (jS (jS ?_)))
  refine VC.split1 [(0, _), (5, _), (6, _), (7, _)] (js4 rfl rfl rfl rfl) 70 (.bool (decide (¬ qD (low c).toNat))) ?_ ?_
  ·
   refine jR ?_
   refine jm rfl (jb rfl rfl (Bin.leqN 97 _) ?_)
   by_cases hs41 : 97 ≤ (low c).toNat
   ·
    refine jM ?_
    refine jG ?_
    refine jk (Run.bin rfl rfl (Bin.leqN _ 122)) ?_
    by_cases hs44 : (low c).toNat ≤ 122
    ·
     refine je (Run.pickT rfl rfl au) (jM ?_)
     refine jU ?_
     refine jU ?_
     refine jU ?_
     refine Ops.skU rfl rfl ?_
     refine Ops.skU rfl rfl ?_
     refine jU ?_
     refine je (Run.pickT rfl rfl au) (jM ?_)
     refine jU ?_
     refine jU ?_
     refine je (Run.pickT rfl rfl au) (jM ?_)
     refine jU ?_
     refine jU ?_
     refine je (Run.pickT rfl rfl au) (jM ?_)
     refine jU ?_
     refine jU ?_
     refine je (Run.pickT rfl rfl au) (jM ?_)
     refine jU ?_
     refine jU ?_
     refine je (Run.pickT rfl rfl au) (je (Run.not rfl) (jO ?_))
     refine jN ⟨(js5 (jC (Eq.symm (by unfold qD; grind))) rfl rfl rfl rfl), rfl⟩
    refine je (Run.pickT rfl rfl au) (jM ?_)
    refine jG ?_
    refine jk (Run.bin rfl rfl (Bin.leqN 48 _)) ?_
    by_cases hs48 : 48 ≤ (low c).toNat
    ·
     refine jG ?_
     refine jG ?_
     refine jk (Run.bin rfl rfl (Bin.leqN _ 57)) ?_
     by_cases hs51 : (low c).toNat ≤ 57
     ·
      refine jk (Run.pickT rfl rfl au) ?_
      refine je (Run.pickF rfl rfl au) (jM ?_)
      refine jU ?_
      refine jU ?_
      refine je (Run.pickT rfl rfl au) (jM ?_)
      refine jU ?_
      refine jU ?_
      refine je (Run.pickT rfl rfl au) (jM ?_)
      refine jU ?_
      refine jU ?_
      refine je (Run.pickT rfl rfl au) (jM ?_)
      refine jU ?_
      refine jU ?_
      refine je (Run.pickT rfl rfl au) (je (Run.not rfl) (jO ?_))
      refine jN ⟨(js5 (jC (Eq.symm (by unfold qD; grind))) rfl rfl rfl rfl), rfl⟩
     refine jk (Run.pickT rfl rfl au) ?_
     refine je (Run.pickF rfl rfl au) (jM ?_)
     refine jG ?_
     refine jk (Run.bin rfl rfl (Bin.eqlN _ 36)) ?_
     by_cases hs56 : (low c).toNat = 36
     ·
      refine je (Run.pickF rfl rfl au) (jM ?_)
      refine jU ?_
      refine jU ?_
      refine je (Run.pickT rfl rfl au) (jM ?_)
      refine jU ?_
      refine jU ?_
      refine je (Run.pickT rfl rfl au) (jM ?_)
      refine jU ?_
      refine jU ?_
      refine je (Run.pickT rfl rfl au) (je (Run.not rfl) (jO ?_))
      refine jN ⟨(js5 (jC (Eq.symm (by unfold qD; grind))) rfl rfl rfl rfl), rfl⟩
     refine je (Run.pickF rfl rfl au) (jM ?_)
     refine jG ?_
     refine jk (Run.bin rfl rfl (Bin.eqlN _ 45)) ?_
     by_cases hs60 : (low c).toNat = 45
     ·
      refine je (Run.pickF rfl rfl au) (jM ?_)
      refine jU ?_
      refine jU ?_
      refine je (Run.pickT rfl rfl au) (jM ?_)
      refine jU ?_
      refine jU ?_
      refine je (Run.pickT rfl rfl au) (je (Run.not rfl) (jO ?_))
      refine jN ⟨(js5 (jC (Eq.symm (by unfold qD; grind))) rfl rfl rfl rfl), rfl⟩
     refine je (Run.pickF rfl rfl au) (jM ?_)
     refine jG ?_
     refine jk (Run.bin rfl rfl (Bin.eqlN _ 46)) ?_
     by_cases hs64 : (low c).toNat = 46
     ·
      refine je (Run.pickF rfl rfl au) (jM ?_)
      refine jU ?_
      refine jU ?_
      refine je (Run.pickT rfl rfl au) (je (Run.not rfl) (jO ?_))
      refine jN ⟨(js5 (jC (Eq.symm (by unfold qD; grind))) rfl rfl rfl rfl), rfl⟩
     refine je (Run.pickF rfl rfl au) (jM ?_)
     refine jG ?_
     refine jk (Run.bin rfl rfl (Bin.eqlN _ 95)) ?_
     by_cases hs68 : (low c).toNat = 95
     ·
      refine je (Run.pickF rfl rfl au) (je (Run.not rfl) (jO ?_))
      refine jN ⟨(js5 (jC (Eq.symm (by unfold qD; grind))) rfl rfl rfl rfl), rfl⟩
     refine je (Run.pickF rfl rfl au) (je (Run.not rfl) (jO ?_))
     refine jN ⟨(js5 (jC (Eq.symm (by unfold qD; grind))) rfl rfl rfl rfl), rfl⟩
    refine jG ?_
    refine jU ?_
    refine jU ?_
    refine jk (Run.pickF rfl rfl au) ?_
    refine je (Run.pickF rfl rfl au) (jM ?_)
    refine jG ?_
    refine jk (Run.bin rfl rfl (Bin.eqlN _ 36)) ?_
    by_cases hs56 : (low c).toNat = 36
    ·
     refine je (Run.pickF rfl rfl au) (jM ?_)
     refine jU ?_
     refine jU ?_
     refine je (Run.pickT rfl rfl au) (jM ?_)
     refine jU ?_
     refine jU ?_
     refine je (Run.pickT rfl rfl au) (jM ?_)
     refine jU ?_
     refine jU ?_
     refine je (Run.pickT rfl rfl au) (je (Run.not rfl) (jO ?_))
     refine jN ⟨(js5 (jC (Eq.symm (by unfold qD; grind))) rfl rfl rfl rfl), rfl⟩
    refine je (Run.pickF rfl rfl au) (jM ?_)
    refine jG ?_
    refine jk (Run.bin rfl rfl (Bin.eqlN _ 45)) ?_
    by_cases hs60 : (low c).toNat = 45
    ·
     refine je (Run.pickF rfl rfl au) (jM ?_)
     refine jU ?_
     refine jU ?_
     refine je (Run.pickT rfl rfl au) (jM ?_)
     refine jU ?_
     refine jU ?_
     refine je (Run.pickT rfl rfl au) (je (Run.not rfl) (jO ?_))
     refine jN ⟨(js5 (jC (Eq.symm (by unfold qD; grind))) rfl rfl rfl rfl), rfl⟩
    refine je (Run.pickF rfl rfl au) (jM ?_)
    refine jG ?_
    refine jk (Run.bin rfl rfl (Bin.eqlN _ 46)) ?_
    by_cases hs64 : (low c).toNat = 46
    ·
     refine je (Run.pickF rfl rfl au) (jM ?_)
     refine jU ?_
     refine jU ?_
     refine je (Run.pickT rfl rfl au) (je (Run.not rfl) (jO ?_))
     refine jN ⟨(js5 (jC (Eq.symm (by unfold qD; grind))) rfl rfl rfl rfl), rfl⟩
    refine je (Run.pickF rfl rfl au) (jM ?_)
    refine jG ?_
    refine jk (Run.bin rfl rfl (Bin.eqlN _ 95)) ?_
    by_cases hs68 : (low c).toNat = 95
    ·
     refine je (Run.pickF rfl rfl au) (je (Run.not rfl) (jO ?_))
     refine jN ⟨(js5 (jC (Eq.symm (by unfold qD; grind))) rfl rfl rfl rfl), rfl⟩
    refine je (Run.pickF rfl rfl au) (je (Run.not rfl) (jO ?_))
    refine jN ⟨(js5 (jC (Eq.symm (by unfold qD; grind))) rfl rfl rfl rfl), rfl⟩
   refine jM ?_
   refine jU ?_
   refine jU ?_
   refine je (Run.pickF rfl rfl au) (jM ?_)
   refine jG ?_
   refine jk (Run.bin rfl rfl (Bin.leqN 48 _)) ?_
   by_cases hs48 : 48 ≤ (low c).toNat
   ·
    refine jG ?_
    refine jG ?_
    refine jk (Run.bin rfl rfl (Bin.leqN _ 57)) ?_
    by_cases hs51 : (low c).toNat ≤ 57
    ·
     refine jk (Run.pickT rfl rfl au) ?_
     refine je (Run.pickF rfl rfl au) (jM ?_)
     refine jU ?_
     refine jU ?_
     refine je (Run.pickT rfl rfl au) (jM ?_)
     refine jU ?_
     refine jU ?_
     refine je (Run.pickT rfl rfl au) (jM ?_)
     refine jU ?_
     refine jU ?_
     refine je (Run.pickT rfl rfl au) (jM ?_)
     refine jU ?_
     refine jU ?_
     refine je (Run.pickT rfl rfl au) (je (Run.not rfl) (jO ?_))
     refine jN ⟨(js5 (jC (Eq.symm (by unfold qD; grind))) rfl rfl rfl rfl), rfl⟩
    refine jk (Run.pickT rfl rfl au) ?_
    refine je (Run.pickF rfl rfl au) (jM ?_)
    refine jG ?_
    refine jk (Run.bin rfl rfl (Bin.eqlN _ 36)) ?_
    by_cases hs56 : (low c).toNat = 36
    ·
     refine je (Run.pickF rfl rfl au) (jM ?_)
     refine jU ?_
     refine jU ?_
     refine je (Run.pickT rfl rfl au) (jM ?_)
     refine jU ?_
     refine jU ?_
     refine je (Run.pickT rfl rfl au) (jM ?_)
     refine jU ?_
     refine jU ?_
     refine je (Run.pickT rfl rfl au) (je (Run.not rfl) (jO ?_))
     refine jN ⟨(js5 (jC (Eq.symm (by unfold qD; grind))) rfl rfl rfl rfl), rfl⟩
    refine je (Run.pickF rfl rfl au) (jM ?_)
    refine jG ?_
    refine jk (Run.bin rfl rfl (Bin.eqlN _ 45)) ?_
    by_cases hs60 : (low c).toNat = 45
    ·
     refine je (Run.pickF rfl rfl au) (jM ?_)
     refine jU ?_
     refine jU ?_
     refine je (Run.pickT rfl rfl au) (jM ?_)
     refine jU ?_
     refine jU ?_
     refine je (Run.pickT rfl rfl au) (je (Run.not rfl) (jO ?_))
     refine jN ⟨(js5 (jC (Eq.symm (by unfold qD; grind))) rfl rfl rfl rfl), rfl⟩
    refine je (Run.pickF rfl rfl au) (jM ?_)
    refine jG ?_
    refine jk (Run.bin rfl rfl (Bin.eqlN _ 46)) ?_
    by_cases hs64 : (low c).toNat = 46
    ·
     refine je (Run.pickF rfl rfl au) (jM ?_)
     refine jU ?_
     refine jU ?_
     refine je (Run.pickT rfl rfl au) (je (Run.not rfl) (jO ?_))
     refine jN ⟨(js5 (jC (Eq.symm (by unfold qD; grind))) rfl rfl rfl rfl), rfl⟩
    refine je (Run.pickF rfl rfl au) (jM ?_)
    refine jG ?_
    refine jk (Run.bin rfl rfl (Bin.eqlN _ 95)) ?_
    by_cases hs68 : (low c).toNat = 95
    ·
     refine je (Run.pickF rfl rfl au) (je (Run.not rfl) (jO ?_))
     refine jN ⟨(js5 (jC (Eq.symm (by unfold qD; grind))) rfl rfl rfl rfl), rfl⟩
    refine je (Run.pickF rfl rfl au) (je (Run.not rfl) (jO ?_))
    refine jN ⟨(js5 (jC (Eq.symm (by unfold qD; grind))) rfl rfl rfl rfl), rfl⟩
   refine jG ?_
   refine jU ?_
   refine jU ?_
   refine jk (Run.pickF rfl rfl au) ?_
   refine je (Run.pickF rfl rfl au) (jM ?_)
   refine jG ?_
   refine jk (Run.bin rfl rfl (Bin.eqlN _ 36)) ?_
   by_cases hs56 : (low c).toNat = 36
   ·
    refine je (Run.pickF rfl rfl au) (jM ?_)
    refine jU ?_
    refine jU ?_
    refine je (Run.pickT rfl rfl au) (jM ?_)
    refine jU ?_
    refine jU ?_
    refine je (Run.pickT rfl rfl au) (jM ?_)
    refine jU ?_
    refine jU ?_
    refine je (Run.pickT rfl rfl au) (je (Run.not rfl) (jO ?_))
    refine jN ⟨(js5 (jC (Eq.symm (by unfold qD; grind))) rfl rfl rfl rfl), rfl⟩
   refine je (Run.pickF rfl rfl au) (jM ?_)
   refine jG ?_
   refine jk (Run.bin rfl rfl (Bin.eqlN _ 45)) ?_
   by_cases hs60 : (low c).toNat = 45
   ·
    refine je (Run.pickF rfl rfl au) (jM ?_)
    refine jU ?_
    refine jU ?_
    refine je (Run.pickT rfl rfl au) (jM ?_)
    refine jU ?_
    refine jU ?_
    refine je (Run.pickT rfl rfl au) (je (Run.not rfl) (jO ?_))
    refine jN ⟨(js5 (jC (Eq.symm (by unfold qD; grind))) rfl rfl rfl rfl), rfl⟩
   refine je (Run.pickF rfl rfl au) (jM ?_)
   refine jG ?_
   refine jk (Run.bin rfl rfl (Bin.eqlN _ 46)) ?_
   by_cases hs64 : (low c).toNat = 46
   ·
    refine je (Run.pickF rfl rfl au) (jM ?_)
    refine jU ?_
    refine jU ?_
    refine je (Run.pickT rfl rfl au) (je (Run.not rfl) (jO ?_))
    refine jN ⟨(js5 (jC (Eq.symm (by unfold qD; grind))) rfl rfl rfl rfl), rfl⟩
   refine je (Run.pickF rfl rfl au) (jM ?_)
   refine jG ?_
   refine jk (Run.bin rfl rfl (Bin.eqlN _ 95)) ?_
   by_cases hs68 : (low c).toNat = 95
   ·
    refine je (Run.pickF rfl rfl au) (je (Run.not rfl) (jO ?_))
    refine jN ⟨(js5 (jC (Eq.symm (by unfold qD; grind))) rfl rfl rfl rfl), rfl⟩
   refine je (Run.pickF rfl rfl au) (je (Run.not rfl) (jO ?_))
   refine jN ⟨(js5 (jC (Eq.symm (by unfold qD; grind))) rfl rfl rfl rfl), rfl⟩
  intro Γ hΓ
  refine jN (VC.sub _ hΓ ?_)
  refine jD rfl (fun hc5 => ?_) fun hc5 => ?_
  ·
   refine jS (jR (ja rfl (jO (jN (jv1 2 ?_)))))
   refine jT ?_
   refine qZ (qH (qZ (qZ (qH (qZ (qR rfl ?_))))))
   exact ⟨by rw [qZc hn5 hmq hc5], hfr⟩
  refine jQ (jN (jv4 0 5 6 7 ?_))
  refine jR (jm rfl (jM ?_))
  refine Ops.m (qV.buildS1 rfl zat zbk qJv jd jd rfl rfl) rfl ?_
  rintro _ w3 ⟨rfl, hF3⟩
  have hfr3 := hfr.trans hF3.frm jp
  have hsc : qD (low c).toNat := Classical.not_not.1 hc5
  refine je (Run.strOfT rfl zat zbx zj (show Rd w3 1 _ 1 (U8 [low c]) from Rd.of_blk (n := 1) (size := 1) hF3.blk rfl)) (je (Run.addT rfl rfl (by simp [qT]; omega)) (ja rfl (jO ?_)))
  refine qW (jN ?_)
  refine jv3 0 5 6 ?_
  refine jR (jm rfl (jb rfl rfl (Bin.add_i64 _ 1 jo) (ja rfl (jO ?_))))
  refine jN ⟨(j + 1), (js3 rfl (by rw [htq]; simp only [qT, zbc, zbw, zdp]; rfl) rfl), ?_, ?_⟩
  ·
   refine ⟨hc3, hfr3, fun d hd => ?_⟩
   rw [htq] at hd
   rcases zds.1 hd with h | h
   · exact hsg d h
   simp only [za] at h
   rw [h]; exact hsc
  first | omega | (dsimp only; omega)
 have hjm : j = q.length := jo
 subst hjm
 rw [zaq] at hsg ⊢
 refine jX ?_
 refine qJ (qJ (qN ?_))
 refine jN (jv1 5 ?_)
 refine jS (jS (jR (jm rfl (je (Run.lenT rfl zj) (jb rfl rfl (Bin.gtrN _ 20) ?_)))))
 rw [cI]
 refine jO (jN (jv2 5 78 ?_))
 refine jD rfl (fun hc6 => ?_) fun hc6 => ?_
 ·
  refine jS (jR (ja rfl (jO (jN (jv1 2 ?_)))))
  refine jT ?_
  refine qZ (qR rfl ?_)
  exact ⟨by rw [qQk hsg hc6], hfr⟩
 refine jQ (jN (jv1 5 ?_))
 refine jS (jR (jm rfl (ja rfl (jO (jN (jv1 2 ?_))))))
 refine jT ?_
 refine qR rfl ?_
 exact ⟨by rw [qQl hsg hc6], hfr⟩
end
section
open Go.RowKit Go.Sort
theorem rS {p : Tx → Bool} {l : List Tx} {i : Nat} (h : i < l.length) : (l.take (i + 1)).filter p = (l.take i).filter p ++ (if p l[i] = true then [l[i]] else []) := by
 rw [cL h, zca]
 by_cases hp : p l[i] = true <;> simp [hp]
theorem vO {p : Tx → Bool} (l : List Tx) (i : Nat) : ((l.take i).filter p).length ≤ l.length := by
 refine zax (zce _ _) ?_
 simp
 omega
theorem qZd (A : Option Addr) (c0 : Nat) (l : List Tx) (q : Tx) (w : World) (hn : l.length ≤ 1000000) (hr : Rd w 1 A l.length (SB l)) :
  Calls Tryz.prog 193 #[.slice A l.length c0, encStr q] w fun e w' => Frm [] w w' ∧ ∃ B d, e = .returned (.slice B (gQ l q).length d) ∧ Own w' 9 1 B (gQ l q).length d (SB (gQ l q)) ∧ (∀ x ∈ ob B, w.heap.size ≤ x) := by
 refine VC.calls (nt := 51) (res := #[.tmp 4]) Tryz.func193 rfl Tryz.ntmps193 Tryz.results193 rfl ?_
 refine jS (jR (ja rfl (jO (jN (jv2 0 1 ?_)))))
 refine jS (jR (ja rfl (jO (jN (jS (jS (jR (jz 0 (jO (jN (jB ?_)))))))))))
 refine VC.loop (σ := Nat × Option Addr × Nat) (fun s => [(0, .slice A l.length c0), (1, encStr q), (5, .slice s.2.1 ((l.take s.1).filter (fun x => decide (x < q))).length s.2.2), (6, .int .i64 ((s.1 : Nat) : Int))]) (fun s wr => s.1 ≤ l.length ∧ Own wr 9 1 s.2.1 ((l.take s.1).filter (fun x => decide (x < q))).length s.2.2 (SB ((l.take s.1).filter (fun x => decide (x < q)))) ∧ (∀ x ∈ ob s.2.1, w.heap.size ≤ x) ∧ Frm [] w wr) (fun s => l.length - s.1) (0, none, 0) (js4 rfl rfl rfl rfl) ⟨jo, Own.nil _ _ _, by simp [ob], Frm.refl _ _⟩ ?_
 rintro ⟨i, B, d⟩ wr ⟨hi, hown, hge, hfr⟩
 dsimp only at hi hown hge ⊢
 have hfl := vO (p := fun x => decide (x < q)) l i
 refine jS (jS (jR (jm rfl (jm rfl (je (Run.lenS rfl zc) (jb rfl rfl (Bin.lssN _ _) (jO (jN (jv5 0 1 5 6 11 ?_)))))))))
 refine jD rfl (fun hc1 => ?_) fun hc1 => ?_
 ·
  obtain ⟨ad, rfl, hcell⟩ := eZ (hr.frm hfr jp) hc1
  have hfs := rS (p := fun x => decide (x < q)) hc1
  have hgl : l[i] = l[i] := rfl
  generalize hq0 : l[i] = x at *
  refine jQ (jN (jv4 0 1 5 6 ?_))
  refine jS (jB (jS (jR (jm rfl (jm rfl (je (Run.index1 i rfl rfl zc zm hc1) (jl rfl zx hcell (jm rfl (je (Run.lssT rfl rfl) (jO (jN (jv5 0 1 5 6 19 ?_))))))))))))
  refine VC.meet (σ := Option Addr × Nat) (fun s => [(0, .slice (some ad) l.length c0), (1, encStr q), (5, .slice s.1 ((l.take (i + 1)).filter (fun x => decide (x < q))).length s.2), (6, .int .i64 ((i : Nat) : Int))]) (fun s wm => Own wm 9 1 s.1 ((l.take (i + 1)).filter (fun x => decide (x < q))).length s.2 (SB ((l.take (i + 1)).filter (fun x => decide (x < q)))) ∧ (∀ x ∈ ob s.1, w.heap.size ≤ x) ∧ Frm [] w wm) ?_ ?_
  ·
   refine jD rfl (fun hc2 => ?_) fun hc2 => ?_
   ·
    refine jR (jm rfl (jm rfl (jm rfl (je (Run.index1 i rfl rfl zc zm hc1) (jl rfl zx hcell ?_)))))
    refine Ops.m (qV.buildS1 rfl zc zm dI jd jd rfl rfl) rfl ?_
    rintro _ w2 ⟨rfl, hF2⟩
    have hfr2 := hfr.trans hF2.frm jp
    refine Ops.m (qV.app rfl rfl zc (eF) rfl jd (hown.frm hF2.frm jp) (sI hF2) (dS _) jo jo) rfl ?_
    rintro _ w3 ⟨A3, c3, rfl, hown3, hfr3, hob3⟩
    rw [← bA] at hown3
    have hge3 := fF hge hob3 hfr2.size
    have hfr3' := hfr2.own hfr3 hge
    refine ja rfl (jO ?_)
    refine jN ⟨(A3, c3), (js4 rfl rfl (by rw [hfs, if_pos (decide_eq_true hc2), zi]; rfl) rfl), ?_⟩
    rw [hfs, if_pos (decide_eq_true hc2)]
    exact ⟨by simpa using hown3, hge3, hfr3'⟩
   refine jQ ?_
   refine jN ⟨(B, d), (js4 rfl rfl (by rw [hfs, if_neg (by simpa using hc2), zbs]; rfl) rfl), ?_⟩
   rw [hfs, if_neg (by simpa using hc2), zbs]
   exact ⟨hown, hge, hfr⟩
  rintro ⟨B2, d2⟩ wm ⟨hown2, hge2, hfr2⟩ Γ hΓ
  refine qW (jN (VC.sub _ hΓ ?_))
  refine jR (jm rfl (jb rfl rfl (Bin.add_i64 _ 1 jo) (ja rfl (jO ?_))))
  refine jN ⟨(i + 1, B2, d2), (js4 rfl rfl rfl rfl), ?_, ?_⟩
  · exact ⟨hc1, hown2, hge2, hfr2⟩
  first | omega | (dsimp only; omega)
 have him : i = l.length := jo
 subst him
 rw [zaq] at hown hfl ⊢
 refine jX ?_
 refine qJ (qJ (qN ?_))
 refine jN (jv3 0 1 5 ?_)
 refine jS (jR (jm rfl (jM ?_)))
 refine Ops.m (qV.buildS1 rfl zc zm dI jd jd rfl rfl) rfl ?_
 rintro _ w4 ⟨rfl, hF4⟩
 have hfr4 := hfr.trans hF4.frm jp
 refine Ops.m (qV.app rfl rfl zc (eF) rfl jd (hown.frm hF4.frm jp) (sI hF4) (dS _) jo jo) rfl ?_
 rintro _ w5 ⟨A5, c5, rfl, hown5, hfr5, hob5⟩
 rw [← bA] at hown5
 have hge5 := fF hge hob5 hfr4.size
 have hfr5' := hfr4.own hfr5 hge
 refine ja rfl (jO (jN (jv3 0 1 5 ?_)))
 refine jS (jS (jR (jz 0 (jO (jN (jB ?_))))))
 refine VC.loop (σ := Nat × Option Addr × Nat) (fun s => [(0, .slice A l.length c0), (1, encStr q), (5, .slice s.2.1 (l.filter (fun x => decide (x < q)) ++ [q] ++ (l.take s.1).filter (fun x => decide (q < x))).length s.2.2), (7, .int .i64 ((s.1 : Nat) : Int))]) (fun s wr => s.1 ≤ l.length ∧ Own wr 9 1 s.2.1 (l.filter (fun x => decide (x < q)) ++ [q] ++ (l.take s.1).filter (fun x => decide (q < x))).length s.2.2 (SB (l.filter (fun x => decide (x < q)) ++ [q] ++ (l.take s.1).filter (fun x => decide (q < x)))) ∧ (∀ x ∈ ob s.2.1, w.heap.size ≤ x) ∧ Frm [] w wr) (fun s => l.length - s.1) (0, A5, c5) (js4 rfl rfl (by simp; rfl) rfl) ⟨jo, by simpa using hown5, hge5, hfr5'⟩ ?_
 rintro ⟨j, B, d⟩ wr ⟨hj, hown, hge, hfr⟩
 dsimp only at hj hown hge ⊢
 have hfl2 := vO (p := fun x => decide (q < x)) l j
 have hlen2 : (l.filter (fun x => decide (x < q)) ++ [q] ++ (l.take j).filter (fun x => decide (q < x))).length ≤ 3000000 := by simp only [zi, List.length_singleton]; omega
 generalize hP : l.filter (fun x => decide (x < q)) ++ [q] = P0 at *
 refine jS (jS (jR (jm rfl (jm rfl (je (Run.lenS rfl zc) (jb rfl rfl (Bin.lssN _ _) (jO (jN (jv5 0 1 5 7 34 ?_)))))))))
 refine jD rfl (fun hc3 => ?_) fun hc3 => ?_
 ·
  obtain ⟨ad, rfl, hcell⟩ := eZ (hr.frm hfr jp) hc3
  have hfs := rS (p := fun x => decide (q < x)) hc3
  generalize hq0 : l[j] = x at *
  refine jQ (jN (jv4 0 1 5 7 ?_))
  refine jS (jB (jS (jR (jm rfl (jm rfl (je (Run.index1 j rfl rfl zc zm hc3) (jl rfl zx hcell (jm rfl (je (Run.gtrT rfl rfl) (jO (jN (jv5 0 1 5 7 42 ?_))))))))))))
  refine VC.meet (σ := Option Addr × Nat) (fun s => [(0, .slice (some ad) l.length c0), (1, encStr q), (5, .slice s.1 (P0 ++ (l.take (j + 1)).filter (fun x => decide (q < x))).length s.2), (7, .int .i64 ((j : Nat) : Int))]) (fun s wm => Own wm 9 1 s.1 (P0 ++ (l.take (j + 1)).filter (fun x => decide (q < x))).length s.2 (SB (P0 ++ (l.take (j + 1)).filter (fun x => decide (q < x)))) ∧ (∀ x ∈ ob s.1, w.heap.size ≤ x) ∧ Frm [] w wm) ?_ ?_
  ·
   refine jD rfl (fun hc4 => ?_) fun hc4 => ?_
   ·
    refine jR (jm rfl (jm rfl (jm rfl (je (Run.index1 j rfl rfl zc zm hc3) (jl rfl zx hcell ?_)))))
    refine Ops.m (qV.buildS1 rfl zc zm dI jd jd rfl rfl) rfl ?_
    rintro _ w6 ⟨rfl, hF6⟩
    have hfr6 := hfr.trans hF6.frm jp
    refine Ops.m (qV.app rfl rfl zc (eF) rfl jd (hown.frm hF6.frm jp) (sI hF6) (dS _) jo jo) rfl ?_
    rintro _ w7 ⟨A7, c7, rfl, hown7, hfr7, hob7⟩
    rw [← bA] at hown7
    have hge7 := fF hge hob7 hfr6.size
    have hfr7' := hfr6.own hfr7 hge
    refine ja rfl (jO ?_)
    refine jN ⟨(A7, c7), (js4 rfl rfl (by rw [hfs, if_pos (decide_eq_true hc4), ← zbf, zi (bs := [x])]; rfl) rfl), ?_⟩
    rw [hfs, if_pos (decide_eq_true hc4), ← zbf, zi (bs := [x])]
    exact ⟨hown7, hge7, hfr7'⟩
   refine jQ ?_
   refine jN ⟨(B, d), (js4 rfl rfl (by rw [hfs, if_neg (by simpa using hc4), zbs]; rfl) rfl), ?_⟩
   rw [hfs, if_neg (by simpa using hc4), zbs]
   exact ⟨hown, hge, hfr⟩
  rintro ⟨B2, d2⟩ wm ⟨hown2, hge2, hfr2⟩ Γ hΓ
  refine qW (jN (VC.sub _ hΓ ?_))
  refine jR (jm rfl (jb rfl rfl (Bin.add_i64 _ 1 jo) (ja rfl (jO ?_))))
  refine jN ⟨(j + 1, B2, d2), (js4 rfl rfl rfl rfl), ?_, ?_⟩
  · exact ⟨hc3, hown2, hge2, hfr2⟩
  first | omega | (dsimp only; omega)
 refine jX ?_
 refine qJ (qJ (qN ?_))
 refine jN (jv1 5 ?_)
 refine jS (jR (jm rfl (ja rfl (jO (jN (jv1 4 ?_))))))
 refine jT ?_
 refine qR rfl ?_
 have hjm : j = l.length := jo
 subst hjm
 rw [zaq] at hown ⊢
 have e : P0 ++ l.filter (fun x => decide (q < x)) = gQ l q := by rw [← hP]; rfl
 rw [e] at hown ⊢
 exact ⟨hfr, B, d, rfl, hown, hge⟩
theorem pK (A B : Option Addr) (c d : Nat) (a b : List Tx) (w : World) (hla : a.length ≤ 1000000) (hlb : b.length ≤ 1000000) (ha : Rd w 1 A a.length (SB a)) (hb : Rd w 1 B b.length (SB b)) :
  Calls Tryz.prog 71 #[.slice A a.length c, .slice B b.length d] w fun e w' => e = .returned (.bool (decide (a = b))) ∧ qK w w' := by
 refine VC.calls (nt := 26) (res := #[.tmp 4]) Tryz.func71 rfl Tryz.ntmps71 Tryz.results71 rfl ?_
 refine jS (jR (ja rfl (jO (jN (jv2 0 1 ?_)))))
 refine jS (jS (jR (jm rfl (je (Run.lenS rfl zc) (jm rfl (je (Run.lenS rfl zc) (jb rfl rfl (Bin.neqN _ _) (jO (jN (jv3 0 1 10 ?_))))))))))
 refine jD rfl (fun hc1 => ?_) fun hc1 => ?_
 ·
  have hne : ¬ a = b := fun h => hc1 (by rw [h])
  refine jS (jR (ja rfl (jO (jN (jv1 4 ?_)))))
  refine jT ?_
  refine qZ (qR rfl ?_)
  exact ⟨by simp [hne], qK.refl _⟩
 have hll : a.length = b.length := Classical.not_not.1 hc1
 refine jQ (jN (jv2 0 1 ?_))
 refine jS (jS (jR (jz 0 (jO (jN (jB ?_))))))
 refine VC.loop (σ := Nat) (fun s => [(0, .slice A a.length c), (1, .slice B b.length d), (5, .int .i64 ((s : Nat) : Int))]) (fun s wr => s ≤ a.length ∧ a.take s = b.take s ∧ qK w wr) (fun s => a.length - s) 0 (js3 rfl rfl rfl) ⟨jo, rfl, qK.refl _⟩ ?_
 rintro i wr ⟨hi, htk, hd⟩
 refine jS (jS (jR (jm rfl (jm rfl (je (Run.lenS rfl zc) (jb rfl rfl (Bin.lssN _ _) (jO (jN (jv4 0 1 5 14 ?_)))))))))
 refine jD rfl (fun hc2 => ?_) fun hc2 => ?_
 ·
  have hib : i < b.length := jo
  obtain ⟨ad, rfl, hcell⟩ := eZ (ha.drawn (hd.trans (qK.drew _))) hc2
  obtain ⟨ad2, rfl, hcell2⟩ := eZ (hb.drawn (hd.trans (qK.drew _))) hib
  have hta : a.take (i + 1) = a.take i ++ [a[i]] := cL hc2
  have htb : b.take (i + 1) = b.take i ++ [b[i]] := cL hib
  have hab : a = b → a[i] = b[i] := by rintro rfl; rfl
  generalize a[i] = x at *
  generalize b[i] = y at *
  refine jQ (jN (jv3 0 1 5 ?_))
  refine jS (jB (jS ?_))
  refine VC.still jK jK ?_
  refine qM ?_
  refine qM ?_
  refine qE (Run.index1 i rfl rfl zc zm hc2) ?_
  refine qE (Run.load rfl zx hcell) ?_
  refine qM ?_
  refine qM ?_
  refine qE (Run.index1 i rfl rfl zc zm hib) ?_
  refine qE (Run.load rfl zx hcell2) ?_
  refine qE (Run.neqT rfl rfl) ?_
  refine bZ.nil ?_
  refine jN (jv4 0 1 5 25 ?_)
  refine jD rfl (fun hc3 => ?_) fun hc3 => ?_
  ·
   have hne : ¬ a = b := fun h => hc3 (hab h)
   refine jS (jR (ja rfl (jO (jN (jv1 4 ?_)))))
   refine jT ?_
   refine qH (qZ (qZ (qH (qZ (qR rfl ?_)))))
   exact ⟨by simp [hne], hd.trans (qK.drew _)⟩
  have hxy : x = y := Classical.not_not.1 hc3
  refine jQ ?_
  refine qW (jN ?_)
  refine jv3 0 1 5 ?_
  refine jR (jm rfl (jb rfl rfl (Bin.add_i64 _ 1 jo) (ja rfl (jO ?_))))
  refine jN ⟨(i + 1), (js3 rfl rfl rfl), ?_, ?_⟩
  · exact ⟨hc2, by rw [hta, htb, htk, hxy], hd.trans (qK.drew _)⟩
  first | omega | (dsimp only; omega)
 have hil : i = a.length := jo
 subst hil
 have heq : a = b := by
  rw [zaq, hll, zaq] at htk
  exact htk
 refine jX ?_
 refine qJ (qJ (qN ?_))
 refine jN ?_
 refine VC.sub [] .nil ?_
 refine jS (jR (ja rfl (jO (jN (jT ?_)))))
 refine qR rfl ?_
 exact ⟨by simp [heq], hd⟩
end
section
open Go.RowKit Go.Sort
theorem xA (A : Option Addr) (c0 : Nat) (l : List Tx) (w : World) (hn : l.length ≤ 900000) (hq : ∀ q ∈ l, q.length ≤ 1000000) (hr : Rd w 1 A l.length (SB l)) :
  Calls Tryz.prog 179 #[.slice A l.length c0] w fun e w' => Frm [] w w' ∧ ∃ B d r k, IsN w w' e (dY l) B d r k := by
 refine VC.calls (nt := 27) (res := #[.tmp 2, .tmp 3]) Tryz.func179 rfl Tryz.ntmps179 Tryz.results179 rfl ?_
 refine jS (jR (ja rfl (jz 0 (jO (jN (jv1 0 ?_))))))
 refine jS (jR (ja rfl (jO (jN (jS (jS (jR (jz 0 (jO (jN (jB ?_)))))))))))
 refine VC.loop (σ := Nat × Option Addr × Nat × List Tx) (fun s => [(0, .slice A l.length c0), (4, .slice s.2.1 (nub s.2.2.2).length s.2.2.1), (5, .int .i64 ((s.1 : Nat) : Int))]) (fun s wr => s.1 ≤ l.length ∧ Own wr 9 1 s.2.1 (nub s.2.2.2).length s.2.2.1 (SB (nub s.2.2.2)) ∧ (∀ x ∈ ob s.2.1, w.heap.size ≤ x) ∧ Frm [] w wr ∧ bL (l.take s.1) = some s.2.2.2) (fun s => l.length - s.1) (0, none, 0, []) (js3 rfl (by rw [show nub [] = [] from oK jp]; rfl) rfl) ⟨jo, (by rw [show nub [] = [] from oK jp]; exact Own.nil _ _ _), by simp [ob], Frm.refl _ _, rfl⟩ ?_
 rintro ⟨i, B, d, ts⟩ wr ⟨hi, hown, hge, hfr, htl⟩
 dsimp only at hi hown hge htl ⊢
 have htsl : ts.length = i := by rw [rW htl]; simp; omega
 have hnl := qKg ts
 refine jS (jS (jR (jm rfl (jm rfl (je (Run.lenS rfl zc) (jb rfl rfl (Bin.lssN _ _) (jO (jN (jv4 0 4 5 10 ?_)))))))))
 refine jD rfl (fun hc1 => ?_) fun hc1 => ?_
 ·
  obtain ⟨ad, rfl, hcell⟩ := eZ (hr.frm hfr jp) hc1
  refine jQ (jN (jv3 0 4 5 ?_))
  refine jS (jB (jS (jR (jm rfl (jm rfl (je (Run.index1 i rfl rfl zc zm hc1) (jl rfl zx hcell ?_)))))))
  refine Ops.cl (jE1 Tryz.call192) (xF l[i] _ (hq _ (zaa hc1))) rfl ?_
  rintro e w1 ⟨rfl, hf1⟩
  refine ⟨_, rfl, ?_⟩
  have hfr1 := hfr.trans hf1 jp
  have hown1 := hown.frm hf1 jp
  have htc := lQ l[i]
  generalize hq0 : l[i] = q at *
  refine ja rfl (jO (jN (jv4 0 4 5 6 ?_)))
  refine jS (jS (jR (jm rfl (je (Run.eqlT rfl rfl) (jO (jN (jv5 0 4 5 6 19 ?_)))))))
  refine jD rfl (fun hc2 => ?_) fun hc2 => ?_
  ·
   have ht0 : bY q = none := by
    rcases htc with ⟨t, h, h2⟩ | ⟨h, _⟩
    · rw [h2] at hc2; exact absurd hc2 (qX5 h)
    exact h
   have hnf : dY l = .error 18 := by
    unfold dY
    rw [oF (hq0 ▸ zaa hc1) ht0]
   refine jS (jR (ja rfl (jz 18 (jO (jN (jv2 2 3 ?_))))))
   refine jT ?_
   refine qZ (qH (qZ (qZ (qH (qZ (cF rfl rfl ?_))))))
   exact ⟨hfr1, none, 0, [], 18, rfl, Own.nil _ _ _, by simp [ob], .inr ⟨jd, rfl, hnf⟩⟩
  obtain ⟨t, ht0, hv0⟩ : ∃ t, bY q = some t ∧ bD q = (t, 0) := by
   rcases htc with h | ⟨_, h⟩
   · exact h
   rw [h] at hc2; exact absurd rfl hc2
  rw [hv0]
  refine jQ (jN (jv4 0 4 5 6 ?_))
  refine jR (jm rfl (jM ?_))
  refine Ops.cl (jE2 Tryz.call193) (qZd B d (nub ts) t _ jo hown1.rd) rfl ?_
  rintro e w3 ⟨hf3, D, d3, rfl, hown3, hge3⟩
  refine ⟨_, rfl, ?_⟩
  have hfr3 := hfr1.trans hf3 jp
  have hnt : gQ (nub ts) t = nub (ts ++ [t]) := by rw [← rY, ← rY, xV]
  rw [hnt] at hown3 ⊢
  refine ja rfl (jO ?_)
  refine qW (jN ?_)
  refine jv3 0 4 5 ?_
  refine jR (jm rfl (jb rfl rfl (Bin.add_i64 _ 1 jo) (ja rfl (jO ?_))))
  refine jN ⟨(i + 1, D, d3, ts ++ [t]), (js3 rfl rfl rfl), ?_, ?_⟩
  · exact ⟨hc1, hown3, fun x hx => zax hfr1.size (hge3 x hx), hfr3, by rw [cL hc1, oE, htl, hq0, ht0]⟩
  first | omega | (dsimp only; omega)
 have him : i = l.length := jo
 subst him
 rw [zaq] at htl
 refine jX ?_
 refine qJ (qJ (qN ?_))
 refine jN (jv1 4 ?_)
 refine jS (jS (jR (jm rfl (je (Run.lenS rfl zc) (jb rfl rfl (Bin.gtrN _ 16) (jO (jN (jv2 4 25 ?_))))))))
 refine jD rfl (fun hc3 => ?_) fun hc3 => ?_
 ·
  refine jS (jR (ja rfl (jz 5 (jO (jN (jv2 2 3 ?_))))))
  refine jT ?_
  refine qZ (cF rfl rfl ?_)
  exact ⟨hfr, none, 0, [], 5, rfl, Own.nil _ _ _, by simp [ob], .inr ⟨jd, rfl, by unfold dY; rw [htl]; exact if_pos hc3⟩⟩
 refine jQ (jN (jv1 4 ?_))
 refine jS (jR (jm rfl (ja rfl (jz 0 (jO (jN (jv2 2 3 ?_)))))))
 refine jT ?_
 refine cF rfl rfl ?_
 exact ⟨hfr, B, d, nub ts, 0, rfl, hown, hge, .inl ⟨rfl, by unfold dY; rw [htl]; exact if_neg hc3⟩⟩
theorem uC (A : Option Addr) (c0 : Nat) (l : List Tx) (w : World) (hn : l.length ≤ 900000) (hq : ∀ q ∈ l, q.length ≤ 1000000) (hr : Rd w 1 A l.length (SB l)) :
  Calls Tryz.prog 157 #[.slice A l.length c0] w fun e w' => e = .returned (.bool (decide (cY l))) ∧ Frm [] w w' := by
 refine VC.calls (nt := 17) (res := #[.tmp 2]) Tryz.func157 rfl Tryz.ntmps157 Tryz.results157 rfl ?_
 refine jS (jR (ja rfl (jO (jN (jv1 0 ?_)))))
 refine jS (jR (jM ?_))
 refine Ops.cl (jE1 Tryz.call179) (xA A c0 l _ hn hq hr) rfl ?_
 rintro e w1 ⟨hf1, B, d, r, k, rfl, ho1, hge1, hN⟩
 refine ⟨_, rfl, ?_⟩
 have hr1 := hr.frm hf1 jp
 have hck : cY l ↔ (k = 0 ∧ r = l) := by
  unfold cY
  rcases hN with ⟨h1, h2⟩ | ⟨h1, _, h2⟩
  · rw [h2]; simp [h1]
  rw [h2]; simp [h1]
 have hrl : r.length ≤ 1000000 := by
  rcases hN with ⟨h1, h2⟩ | ⟨h1, h2, _⟩
  · have := (eI (nH h2)).2.1; omega
  subst h2; simp
 refine jm rfl (je (Run.extract rfl rfl) (je (Run.extract rfl rfl) (ja rfl (ja rfl (jO (jN (jv3 0 3 4 ?_)))))))
 refine jS ?_
 refine VC.splitR [] (Frm [] w) 2 (.bool (decide (cY l))) ?_ ?_
 ·
  refine jR ?_
  refine jm rfl (jb rfl rfl (Bin.eqlN _ 0) ?_)
  by_cases hs11 : k = 0
  ·
   refine jM ?_
   refine jG ?_
   refine jG ?_
   refine Ops.clg rfl au (jE2 Tryz.call71) (pK B A d c0 r l _ jo jo ho1.rd hr1) rfl ?_
   rintro e w2 ⟨rfl, hd2⟩
   refine ⟨_, rfl, ?_⟩
   by_cases hs15 : r = l
   ·
    refine je (Run.pickT rfl rfl au) (ja rfl (jO ?_))
    refine jN ⟨(js1 (jC (Eq.symm (by simp [hck, *])))), (by first | exact hf1.drawn hd2 | exact hf1)⟩
   refine je (Run.pickT rfl rfl au) (ja rfl (jO ?_))
   refine jN ⟨(js1 (jC (Eq.symm (by simp [hck, *])))), (by first | exact hf1.drawn hd2 | exact hf1)⟩
  refine jM ?_
  refine jU ?_
  refine jU ?_
  refine jU ?_
  refine je (Run.pickF rfl rfl au) (ja rfl (jO ?_))
  refine jN ⟨(js1 (jC (Eq.symm (by simp [hck, *])))), (by first | exact hf1.drawn hd2 | exact hf1)⟩
 intro Γ wR hΓ hR
 refine jN (VC.sub _ hΓ ?_)
 refine jT ?_
 refine qR rfl ?_
 exact ⟨rfl, hR⟩
end
section
open Go.RowKit Go.Sort
theorem Blk.sub {w : World} {g : Nat} {t : TypeId} {cs : Array Value} (h : Blk w g t cs) (i : Nat) (l : List Value) (hl : (cs.toList.drop i).take l.length = l) : ∀ j v, l[j]? = some v → w.cell? ((⟨g, i, none⟩ : Addr).add j) = some v := by
 intro j v hj
 have hlt : j < l.length := (List.getElem?_eq_some_iff.1 hj).1
 rw [show ((⟨g, i, none⟩ : Addr).add j) = ⟨g, i + j, none⟩ by unfold Addr.add; split <;> simp_all, h.cell]
 rw [← hl, zbo hlt, zdr] at hj
 simpa using hj
theorem mY {l : List Mc} {i : Nat} (h : i < l.length) : prevU (Ms l) (i + 1) = (l[i]).m.uid := by
 simp [prevU, Ms, zb h]
theorem wQ {v n : Int} {l : List Mc} (h1 : 1 ≤ v ∧ v ≤ 2147483647 ∧ 1 ≤ n ∧ n ≤ 2147483648 ∧ l.length ≤ 128) (h2 : ∀ j (hj : j < l.length), bC n (Ms l) j (l[j]).m) : bE ⟨v, n, Ms l⟩ := by
 refine ⟨by simpa [Ms] using h1, fun j hj => ?_⟩
 have hj' : j < l.length := by simpa [Ms] using hj
 have := h2 j hj'
 simpa [Ms] using this
theorem pV {v n : Int} {l : List Mc} (h : bE ⟨v, n, Ms l⟩) : (1 ≤ v ∧ v ≤ 2147483647 ∧ 1 ≤ n ∧ n ≤ 2147483648 ∧ l.length ≤ 128) ∧ ∀ j (hj : j < l.length), bC n (Ms l) j (l[j]).m := by
 obtain ⟨h1, h2⟩ := h
 refine ⟨by simpa [Ms] using h1, fun j hj => ?_⟩
 have := h2 j (by simpa [Ms] using hj)
 simpa [Ms] using this
theorem tX (x : Mc) (w : World) (hx : x.At w) : Calls Tryz.prog 117 #[.agg x.cells.toArray] w fun e w' => e = .returned (.bool (decide (cP x.m))) ∧ Frm [] w w' := by
 refine VC.calls (nt := 21) (res := #[.tmp 2]) Tryz.func117 rfl Tryz.ntmps117 Tryz.results117 rfl ?_
 refine jS (jR ?_)
 refine Ops.m (qV.box rfl) rfl ?_
 rintro _ w1 ⟨rfl, hF1⟩
 have hb1 := hF1.blk
 have hf1 := hF1.frm
 generalize hg1 : w.heap.size = g1 at *
 refine ja rfl (jO (jN (jv1 1 ?_)))
 refine jS ?_
 refine VC.splitR [] (Frm [] w) 2 (.bool (decide (cP x.m))) ?_ ?_
 ·
  refine jR (jf rfl zad rfl zcx (je (Run.loadA rfl Tryz.isAgg58 zcx (hb1.sub 1 [.int .i64 x.m.sec, .int .i64 x.m.zone] rfl) (by first | rfl | (simp; done))) ?_))
  refine Ops.cl (jE1 Tryz.call152) (qQi x.m.sec x.m.zone _) rfl ?_
  rintro e w2 ⟨rfl, hf2⟩
  refine ⟨_, rfl, ?_⟩
  have hfr2 := hf1.trans hf2 jp
  have hb1 := hb1.frm hf2 jp
  by_cases hs5 : dQ x.m.sec x.m.zone
  ·
   refine jM ?_
   refine jk (Run.fieldAddr rfl zad rfl zn jd) ?_
   refine jk (Run.load rfl zp (hb1.cell 3)) ?_
   refine jk (Run.bin rfl rfl (Bin.geq _ 0)) ?_
   by_cases hs9 : 0 ≤ x.m.size
   ·
    refine je (Run.pickT rfl rfl au) (jM ?_)
    refine jk (Run.fieldAddr rfl zad rfl zd jd) ?_
    refine jk (Run.load rfl zk (hb1.cell 4)) ?_
    refine jk (Run.bin rfl rfl (Bin.neqN _ 0)) ?_
    by_cases hs14 : x.m.blob ≠ 0
    ·
     refine je (Run.pickT rfl rfl au) (jM ?_)
     refine jk (Run.fieldAddr rfl zad rfl zaj jd) ?_
     refine jk (Run.load rfl zar (hb1.cell 5)) ?_
     refine Ops.clg rfl au (jE1 Tryz.call153) (uT x.A x.c x.m.flags _ (by have := hx.n; omega) hx.q (hx.frm hfr2 jp).rd) rfl ?_
     rintro e w3 ⟨rfl, hf3⟩
     refine ⟨_, rfl, ?_⟩
     have hfr3 := hfr2.trans hf3 jp
     by_cases hs19 : cY x.m.flags
     ·
      refine je (Run.pickT rfl rfl au) (ja rfl (jO ?_))
      refine jN ⟨(js1 (jC (Eq.symm (by unfold cP; simp [*])))), (by first | exact hfr3 | exact hfr2)⟩
     refine je (Run.pickT rfl rfl au) (ja rfl (jO ?_))
     refine jN ⟨(js1 (jC (Eq.symm (by unfold cP; simp [*])))), (by first | exact hfr3 | exact hfr2)⟩
    refine je (Run.pickT rfl rfl au) (jM ?_)
    refine jU ?_
    refine jU ?_
    refine jU ?_
    refine je (Run.pickF rfl rfl au) (ja rfl (jO ?_))
    refine jN ⟨(js1 (jC (Eq.symm (by unfold cP; simp [*])))), (by first | exact hfr3 | exact hfr2)⟩
   refine je (Run.pickT rfl rfl au) (jM ?_)
   refine jU ?_
   refine jU ?_
   refine jU ?_
   refine je (Run.pickF rfl rfl au) (jM ?_)
   refine jU ?_
   refine jU ?_
   refine jU ?_
   refine je (Run.pickF rfl rfl au) (ja rfl (jO ?_))
   refine jN ⟨(js1 (jC (Eq.symm (by unfold cP; simp [*])))), (by first | exact hfr3 | exact hfr2)⟩
  refine jM ?_
  refine jU ?_
  refine jU ?_
  refine jU ?_
  refine je (Run.pickF rfl rfl au) (jM ?_)
  refine jU ?_
  refine jU ?_
  refine jU ?_
  refine je (Run.pickF rfl rfl au) (jM ?_)
  refine jU ?_
  refine jU ?_
  refine jU ?_
  refine je (Run.pickF rfl rfl au) (ja rfl (jO ?_))
  refine jN ⟨(js1 (jC (Eq.symm (by unfold cP; simp [*])))), (by first | exact hfr3 | exact hfr2)⟩
 intro Γ wR hΓ hR
 refine jN (VC.sub _ hΓ ?_)
 refine jT ?_
 refine qR rfl ?_
 exact ⟨rfl, hR⟩
theorem tZ (v n : Int) (A : Option Addr) (c : Nat) (l : List Mc) (w : World) (hl : RdM w A l) : Calls Tryz.prog 68 #[.agg #[.int .i64 v, .int .i64 n, .slice A l.length c]] w fun e w' => e = .returned (.bool (decide (bE ⟨v, n, Ms l⟩))) ∧ Frm [] w w' := by
 refine VC.calls (nt := 56) (res := #[.tmp 2]) Tryz.func68 rfl Tryz.ntmps68 Tryz.results68 rfl ?_
 refine jS (jR ?_)
 refine Ops.m (qV.box rfl) rfl ?_
 rintro _ w1 ⟨rfl, hF1⟩
 have hb1 := hF1.blk
 have hf1 := hF1.frm
 generalize hg1 : w.heap.size = g1 at *
 refine ja rfl (jO (jN (jv1 1 ?_)))
 refine jS (jS ?_)
 refine VC.split1 [(1, _)] (js1 rfl) 29 (.bool (decide (v < 1 ∨ 2147483647 < v ∨ n < 1 ∨ 2147483648 < n ∨ 128 < l.length))) ?_ ?_
 ·
  refine jR (jf rfl zl rfl zn (jl rfl zp (hb1.cell 0) (jb rfl rfl (Bin.lss _ 1) ?_)))
  by_cases hs8 : v < 1
  ·
   refine jM ?_
   refine jU ?_
   refine jU ?_
   refine jU ?_
   refine je (Run.pickT rfl rfl au) (jM ?_)
   refine jU ?_
   refine jU ?_
   refine jU ?_
   refine je (Run.pickT rfl rfl au) (jM ?_)
   refine jU ?_
   refine jU ?_
   refine jU ?_
   refine je (Run.pickT rfl rfl au) (jM ?_)
   refine jU ?_
   refine jU ?_
   refine jU ?_
   refine jU ?_
   refine je (Run.pickT rfl rfl au) (jO ?_)
   refine jN ⟨(js2 (jC (Eq.symm (by simp [*]))) rfl), rfl⟩
  refine jM ?_
  refine jk (Run.fieldAddr rfl zl rfl zn jd) ?_
  refine jk (Run.load rfl zp (hb1.cell 0)) ?_
  refine jk (Run.bin rfl rfl (Bin.gtr _ 2147483647)) ?_
  by_cases hs12 : 2147483647 < v
  ·
   refine je (Run.pickF rfl rfl au) (jM ?_)
   refine jU ?_
   refine jU ?_
   refine jU ?_
   refine je (Run.pickT rfl rfl au) (jM ?_)
   refine jU ?_
   refine jU ?_
   refine jU ?_
   refine je (Run.pickT rfl rfl au) (jM ?_)
   refine jU ?_
   refine jU ?_
   refine jU ?_
   refine jU ?_
   refine je (Run.pickT rfl rfl au) (jO ?_)
   refine jN ⟨(js2 (jC (Eq.symm (by simp [*]))) rfl), rfl⟩
  refine je (Run.pickF rfl rfl au) (jM ?_)
  refine jk (Run.fieldAddr rfl zl rfl zn jd) ?_
  refine jk (Run.load rfl zp (hb1.cell 1)) ?_
  refine jk (Run.bin rfl rfl (Bin.lss _ 1)) ?_
  by_cases hs17 : n < 1
  ·
   refine je (Run.pickF rfl rfl au) (jM ?_)
   refine jU ?_
   refine jU ?_
   refine jU ?_
   refine je (Run.pickT rfl rfl au) (jM ?_)
   refine jU ?_
   refine jU ?_
   refine jU ?_
   refine jU ?_
   refine je (Run.pickT rfl rfl au) (jO ?_)
   refine jN ⟨(js2 (jC (Eq.symm (by simp [*]))) rfl), rfl⟩
  refine je (Run.pickF rfl rfl au) (jM ?_)
  refine jk (Run.fieldAddr rfl zl rfl zn jd) ?_
  refine jk (Run.load rfl zp (hb1.cell 1)) ?_
  refine jk (Run.bin rfl rfl (Bin.gtr _ 2147483648)) ?_
  by_cases hs22 : 2147483648 < n
  ·
   refine je (Run.pickF rfl rfl au) (jM ?_)
   refine jU ?_
   refine jU ?_
   refine jU ?_
   refine jU ?_
   refine je (Run.pickT rfl rfl au) (jO ?_)
   refine jN ⟨(js2 (jC (Eq.symm (by simp [*]))) rfl), rfl⟩
  refine je (Run.pickF rfl rfl au) (jM ?_)
  refine jk (Run.fieldAddr rfl zl rfl zak jd) ?_
  refine jk (Run.load rfl zas (hb1.cell 2)) ?_
  refine jk (Run.lenS rfl zab) ?_
  refine jk (Run.bin rfl rfl (Bin.gtrN _ 128)) ?_
  by_cases hs28 : 128 < l.length
  ·
   refine je (Run.pickF rfl rfl au) (jO ?_)
   refine jN ⟨(js2 (jC (Eq.symm (by simp [*]))) rfl), rfl⟩
  refine je (Run.pickF rfl rfl au) (jO ?_)
  refine jN ⟨(js2 (jC (Eq.symm (by simp [*]))) rfl), rfl⟩
 intro Γ hΓ
 refine jN (VC.sub _ hΓ ?_)
 refine jD rfl (fun hc1 => ?_) fun hc1 => ?_
 ·
  refine jS (jR (ja rfl (jO (jN (jv1 2 ?_)))))
  refine jT ?_
  refine qZ (qR rfl ?_)
  refine ⟨?_, hf1⟩
  rw [decide_eq_false]
  intro h
  have := (pV h).1
  omega
 refine jQ (jN (jv1 1 ?_))
 refine jS (jR (jz 0 (jO (jN (jS (jS (jR (jf rfl zl rfl zak (jl rfl zas (hb1.cell 2) (je (Run.lenS rfl zab) ?_))))))))))
 refine jx .i64 0 ?_
 refine jO (jN (jv5 1 3 31 32 33 ?_))
 refine jB ?_
 refine VC.loop (σ := Nat) (fun s => [(1, .pointer (some ⟨g1, 0, none⟩)), (3, .int .i64 (prevU (Ms l) s)), (31, .slice A l.length c), (32, .int .i64 ((l.length : Nat) : Int)), (33, .int .i64 ((s : Nat) : Int))]) (fun s wr => s ≤ l.length ∧ Frm [] w wr ∧ Blk wr g1 43 #[.int .i64 v, .int .i64 n, .slice A l.length c] ∧ ∀ j (hj : j < l.length), j < s → bC n (Ms l) j (l[j]).m) (fun s => l.length - s) 0 (js5 rfl rfl rfl rfl rfl) ⟨jo, hf1, hb1, jp⟩ ?_
 rintro i wr ⟨hi, hfr, hbr, hg⟩
 refine jS (jR (jb rfl rfl (Bin.lssN _ _) (jO (jN (jS ?_)))))
 refine jD rfl (fun hc2 => ?_) fun hc2 => ?_
 ·
  obtain ⟨ad, rfl, hcell⟩ := (hl.frm hfr).elem hc2
  have hxa := (hl.frm hfr).fl (l[i]) (zaa hc2)
  have hps := mY hc2
  generalize hx : l[i] = x at *
  refine jQ (jN (jv5 1 3 31 32 33 ?_))
  refine jS (jB (jS (jR (je (Run.indexS i rfl rfl zab zam hc2) (je (Run.loadA rfl zdb zam hcell (by first | rfl | (simp; done))) ?_)))))
  refine Ops.m (qV.alloc eA) rfl ?_
  rintro _ w2 ⟨rfl, hF2⟩
  have hb2 := hF2.blk
  have hf2 := hF2.frm
  have hsz2 : wr.heap.size ≤ wr.heap.size := zw _
  have hfs := hfr.size
  generalize hg2 : wr.heap.size = g2 at hb2 hsz2 hfs ⊢
  refine Ops.st (qP.storeA rfl rfl zam hb2 rfl x.cells_one) ?_
  rintro w3 ⟨hb3, hf3, hs3⟩
  have hfr3 : Frm [] wr w3 := hf2.own hf3 (fun y hy => by simp at hy; omega)
  have hb13 := hbr.frm hfr3 jp
  refine jO (jN (jv6 1 3 5 31 32 33 ?_))
  refine jS (jS ?_)
  refine VC.splitR [(1, .pointer (some ⟨g1, 0, none⟩)), (5, .pointer (some ⟨g2, 0, none⟩)), (31, .slice (some ad) l.length c), (32, .int .i64 ((l.length : Nat) : Int)), (33, .int .i64 ((i : Nat) : Int))] (Frm [] w3) 52 (.bool (decide (¬ bC n (Ms l) i x.m))) ?_ ?_
  ·
   refine jR (jf rfl zad rfl zn (jl rfl zp (hb3.cell 0) (jm rfl (jb rfl rfl (Bin.leq _ _) ?_))))
   by_cases hs40 : x.m.uid ≤ prevU (Ms l) i
   ·
    refine jM ?_
    refine jU ?_
    refine jU ?_
    refine jU ?_
    refine jU ?_
    refine jU ?_
    refine je (Run.pickT rfl rfl au) (jM ?_)
    refine jU ?_
    refine jU ?_
    refine jU ?_
    refine je (Run.pickT rfl rfl au) (jO ?_)
    refine jN ⟨(js6 (jC (Eq.symm (by first | exact decide_eq_true (by unfold bC; omega) | (rw [← decide_not]; exact decide_eq_decide.2 ⟨fun h hm => h ⟨jo, jo, hm⟩, fun h hg => h hg.2.2⟩) | exact decide_eq_decide.2 ⟨fun _ => jo, fun _ => by unfold bC; omega⟩))) rfl rfl rfl rfl rfl), (by first | exact hf4 | exact Frm.refl _ _)⟩
   refine jM ?_
   refine jk (Run.fieldAddr rfl zad rfl zn jd) ?_
   refine jk (Run.load rfl zp (hb3.cell 0)) ?_
   refine jk (Run.fieldAddr rfl zl rfl zn jd) ?_
   refine jk (Run.load rfl zp (hb13.cell 1)) ?_
   refine jk (Run.bin rfl rfl (Bin.geq _ _)) ?_
   by_cases hs46 : n ≤ x.m.uid
   ·
    refine je (Run.pickF rfl rfl au) (jM ?_)
    refine jU ?_
    refine jU ?_
    refine jU ?_
    refine je (Run.pickT rfl rfl au) (jO ?_)
    refine jN ⟨(js6 (jC (Eq.symm (by first | exact decide_eq_true (by unfold bC; omega) | (rw [← decide_not]; exact decide_eq_decide.2 ⟨fun h hm => h ⟨jo, jo, hm⟩, fun h hg => h hg.2.2⟩) | exact decide_eq_decide.2 ⟨fun _ => jo, fun _ => by unfold bC; omega⟩))) rfl rfl rfl rfl rfl), (by first | exact hf4 | exact Frm.refl _ _)⟩
   refine je (Run.pickF rfl rfl au) (jM ?_)
   refine jk (Run.loadA rfl zdb zam (fun j v hj => hb3.cells j v hj) (by first | rfl | (simp; done))) ?_
   refine Ops.clg rfl au (jE1 Tryz.call117) (tX x _ (hxa.frm hfr3 jp)) rfl ?_
   rintro e w4 ⟨rfl, hf4⟩
   refine ⟨_, rfl, ?_⟩
   by_cases hs50 : cP x.m
   ·
    refine jk (Run.not rfl) ?_
    refine je (Run.pickF rfl rfl au) (jO ?_)
    refine jN ⟨(js6 (jC (Eq.symm (by first | exact decide_eq_true (by unfold bC; omega) | (rw [← decide_not]; exact decide_eq_decide.2 ⟨fun h hm => h ⟨jo, jo, hm⟩, fun h hg => h hg.2.2⟩) | exact decide_eq_decide.2 ⟨fun _ => jo, fun _ => by unfold bC; omega⟩))) rfl rfl rfl rfl rfl), (by first | exact hf4 | exact Frm.refl _ _)⟩
   refine jk (Run.not rfl) ?_
   refine je (Run.pickF rfl rfl au) (jO ?_)
   refine jN ⟨(js6 (jC (Eq.symm (by first | exact decide_eq_true (by unfold bC; omega) | (rw [← decide_not]; exact decide_eq_decide.2 ⟨fun h hm => h ⟨jo, jo, hm⟩, fun h hg => h hg.2.2⟩) | exact decide_eq_decide.2 ⟨fun _ => jo, fun _ => by unfold bC; omega⟩))) rfl rfl rfl rfl rfl), (by first | exact hf4 | exact Frm.refl _ _)⟩
  intro Γ w4 hΓ hf4
  refine jN (VC.sub _ hΓ ?_)
  refine jD rfl (fun hc3 => ?_) fun hc3 => ?_
  ·
   have hng : ¬ bC n (Ms l) i x.m := hc3
   refine jS (jR (ja rfl (jO (jN (jv1 2 ?_)))))
   refine jT ?_
   refine qZ (qH (qZ (qZ (qH (qZ (qR rfl ?_))))))
   refine ⟨?_, (hfr.trans hfr3 jp).trans hf4 jp⟩
   rw [decide_eq_false]
   intro h
   have := (pV h).2 i hc2
   rw [hx] at this
   exact hng this
  have hgi : bC n (Ms l) i x.m := Classical.not_not.1 hc3
  have hb34 := hb3.frm hf4 jp
  have hb14 := hb13.frm hf4 jp
  have hfr4 := hfr3.trans hf4 jp
  refine jQ (jN (jv5 1 5 31 32 33 ?_))
  refine jR (jf rfl zad rfl zn (jl rfl zp (hb34.cell 0) (ja rfl (jO ?_))))
  refine qW (jN ?_)
  refine jv5 1 3 31 32 33 ?_
  refine jR (jb rfl rfl (Bin.add_i64 _ 1 jo) (jm rfl (jO ?_)))
  refine jN ⟨(i + 1), (js5 rfl (congrArg (fun z => some (Value.int .i64 z)) hps.symm) rfl rfl rfl), ?_, ?_⟩
  ·
   refine ⟨hc2, hfr.trans hfr4 jp, hb14, fun j hj hji => ?_⟩
   rcases zby j i with h | h
   · exact hg j hj h
   obtain rfl : j = i := jo
   rw [hx]; exact hgi
  first | omega | (dsimp only; omega)
 refine jX ?_
 refine qJ (qJ (qN ?_))
 refine jN ?_
 refine VC.sub [] .nil ?_
 refine jS (jR (ja rfl (jO (jN (jT ?_)))))
 refine qR rfl ?_
 refine ⟨?_, hfr⟩
 rw [decide_eq_true]
 exact wQ jo (fun j hj => hg j hj jo)
structure OwM (w : World) (A : Option Addr) (d : Nat) (l : List Mc) : Prop where
 own : Own w 60 6 A l.length d (MC l)
 fl : ∀ x ∈ l, Own w 9 1 x.A x.m.flags.length x.c (SB x.m.flags)
 fit : ∀ x ∈ l, x.m.flags.length ≤ 500000 ∧ ∀ q ∈ x.m.flags, q.length ≤ 1000000
theorem OwM.nil (w : World) : OwM w none 0 [] := ⟨Own.nil _ _ _, jp, jp⟩
theorem OwM.rdm {w : World} {A : Option Addr} {d : Nat} {l : List Mc} (h : OwM w A d l) : RdM w A l :=
 ⟨h.own.rd, fun x hx => ⟨(h.fl x hx).rd, (h.fit x hx).1, (h.fit x hx).2⟩⟩
theorem OwM.frm {w w' : World} {A : Option Addr} {d : Nat} {l : List Mc} (h : OwM w A d l) (k : Frm [] w w') : OwM w' A d l :=
 ⟨h.own.frm k jp, fun x hx => (h.fl x hx).frm k jp, h.fit⟩
theorem OwM.blk {w w' : World} {A : Option Addr} {d g : Nat} {l : List Mc} {t : TypeId} {cs : Array Value} (h : OwM w A d l) (k : Frm [g] w w') (hb : Blk w g t cs) (h1 : 60 ≠ t) (h2 : 9 ≠ t) : OwM w' A d l :=
 ⟨h.own.frm k (fun x hx => by simp; rintro rfl; exact h.own.ne_blk hb h1 hx), fun y hy => (h.fl y hy).frm k (fun x hx => by simp; rintro rfl; exact (h.fl y hy).ne_blk hb h2 hx), h.fit⟩
theorem OwM.put {w w' : World} {A B : Option Addr} {d d' : Nat} {l : List Mc} {x : Mc} (h : OwM w A d l) (ho : Own w' 60 6 B (l ++ [x]).length d' (MC (l ++ [x]))) (k : Frm (ob A) w w') (hx : Own w 9 1 x.A x.m.flags.length x.c (SB x.m.flags)) (hf : x.m.flags.length ≤ 500000 ∧ ∀ q ∈ x.m.flags, q.length ≤ 1000000) : OwM w' B d' (l ++ [x]) := by
 refine ⟨ho, fun y hy => ?_, fun y hy => ?_⟩
 ·
  rcases zds.1 hy with h1 | h1
  · exact (h.fl y h1).frm k ((h.fl y h1).ne_own h.own jd)
  simp only [za] at h1
  subst h1
  exact hx.frm k (hx.ne_own h.own jd)
 rcases zds.1 hy with h1 | h1
 · exact h.fit y h1
 simp only [za] at h1
 subst h1
 exact hf
theorem hrdM {w w' : World} {t : TypeId} {x : Mc} (h : Fresh w w' t (Value.agg x.cells.toArray).cells) : Rd w' 6 (some ⟨w.heap.size, 0, none⟩) 1 (MC [x]) := Rd.of_blk (n := 1) (size := 6) h.blk rfl
theorem pF {l : List Mc} {i : Nat} (h : i < l.length) : Ms (l.take (i + 1)) = Ms (l.take i) ++ [(l[i]).m] := by
 simp only [Ms, zdu]
 rw [zan, zcm, zb h]
 rfl
end
section
open Go.RowKit
open Go.Maps (Keyed)
def MpF (P : Program) (k : TypeId) {κ : Type} (enc : κ → Value) (w : World) (g : Nat) (M : κ → Option Value) : Prop :=
 ∃ (es : List MapEntry) (clock : Nat), w.heap[g]? = some (.map es.toArray clock) ∧ (∀ e ∈ es, (∃ l, keyOf P k e.key = some l) ∧ e.born < clock) ∧ es.Pairwise (fun a b => a.born ≠ b.born ∧ a.key ≠ b.key) ∧ ∀ x v, M x = some v ↔ ∃ e ∈ es, e.key = enc x ∧ e.val = v
def MpE (P : Program) (k : TypeId) {κ : Type} (enc : κ → Value) (w : World) (g : Nat) (M : κ → Option Value) (x : κ) (n : Nat) : Prop :=
 ∃ (es : List MapEntry) (clock : Nat), w.heap[g]? = some (.map es.toArray clock) ∧ (∀ e ∈ es, (∃ l, keyOf P k e.key = some l) ∧ e.born < clock) ∧ es.Pairwise (fun a b => a.born ≠ b.born ∧ a.key ≠ b.key) ∧ (∀ x v, M x = some v ↔ ∃ e ∈ es, e.key = enc x ∧ e.val = v) ∧
  ∃ e ∈ es, e.key = enc x ∧ e.born = n
section
variable {P : Program} {k : TypeId} {κ : Type} {enc : κ → Value} {w w' : World} {g : Nat} {M : κ → Option Value} {S : List Nat}
theorem MpE.mp {x : κ} {n : Nat} (h : MpE P k enc w g M x n) : MpF P k enc w g M := by
 obtain ⟨es, clock, h1, h2, h3, h4, _⟩ := h
 exact ⟨es, clock, h1, h2, h3, h4⟩
theorem MpF.lt (h : MpF P k enc w g M) : g < w.heap.size := by
 obtain ⟨es, clock, h1, _⟩ := h
 exact (Array.getElem?_eq_some_iff.1 h1).1
theorem MpF.frm (h : MpF P k enc w g M) (f : Frm S w w') (hS : g ∉ S) : MpF P k enc w' g M := by
 have hl := h.lt
 obtain ⟨es, clock, h1, h2⟩ := h
 exact ⟨es, clock, (f.block g hl hS).trans h1, h2⟩
theorem MpE.frm {x : κ} {n : Nat} (h : MpE P k enc w g M x n) (f : Frm S w w') (hS : g ∉ S) : MpE P k enc w' g M x n := by
 have hl := h.mp.lt
 obtain ⟨es, clock, h1, h2⟩ := h
 exact ⟨es, clock, (f.block g hl hS).trans h1, h2⟩
theorem MpF.drawn (h : MpF P k enc w g M) (hd : qK w w') : MpF P k enc w' g M := by
 obtain ⟨m, rfl⟩ := hd
 exact h
theorem MpF.ne_blk {b : Nat} {t : TypeId} {cs : Array Value} (h : MpF P k enc w g M) (hb : Blk w b t cs) : g ≠ b := by
 rintro rfl
 obtain ⟨es, clock, h1, _⟩ := h
 rw [show w.heap[g]? = _ from hb] at h1
 cases h1
theorem MpF.new : MpF P k enc (w.alloc (.map #[] 0)) w.heap.size (fun _ : κ => none) := by
 refine ⟨[], 0, (MapKept.heap_alloc w _).1, jp, List.Pairwise.nil, fun x v => ?_⟩
 simp
theorem mH (w : World) (g : Nat) (o : Obj) : Frm [g] w (ChangeMaps.setBlock w g o) :=
 ⟨rfl, rfl, rfl, by simp [ChangeMaps.setBlock], fun i _ hi => by
  unfold ChangeMaps.setBlock
  simp only [Array.getElem?_setIfInBounds]
  rw [if_neg (fun e => hi (by rw [e]; simp))]⟩
theorem qZe {t e : TypeId} {z : Value} {x : κ} {kl : Lit} (h : MpF P k enc w g M) (K : Keyed P k) (ht : P.underlying t = some (.map k e)) (hz : (zeroValue e).run P w = .ok z w) (hkey : keyOf P k (enc x) = some kl) :
  (Instr.lookup t (.map (some g)) (enc x) false).run P w = .ok ((M x).getD z) w := by
 obtain ⟨es, clock, hb, h2, h3, h4⟩ := h
 rcases K.find w hkey es (fun e he => (h2 e he).1) with ⟨h5, h6⟩ | ⟨j, e0, h5, h6, h7⟩
 ·
  have hM : M x = none := by
   cases hm : M x with
   | none => rfl
   | some v =>
    obtain ⟨e1, he1, he2, _⟩ := (h4 x v).1 hm
    exact absurd he2 (h6 e1 he1)
  rw [hM]
  simp [Instr.lookup, run_underlying ht, MapKept.run_getObj_map hb, K.check w _ hkey, h5, hz, Result.andThen]
 have hM : M x = some e0.val := (h4 x e0.val).2 ⟨e0, zcr h6, h7, rfl⟩
 rw [hM]
 simp [Instr.lookup, run_underlying ht, MapKept.run_getObj_map hb, K.check w _ hkey, h5, Result.andThen]
end
section
variable {P : Program} {k : TypeId} {κ : Type} {enc : κ → Value} {w : World} {g : Nat} {M : κ → Option Value} {Γ : Env} {dst : Option Tmp} {T : TypeId} {pos : String} {after : Array Edge} {gd : Option (Nat × Bool)}
theorem qV.makeMap {t : TypeId} : qV P ⟨dst, .makeMap t none, T, pos, after, gd⟩ Γ w (fun r w' => r = .map (some w.heap.size) ∧ MpF P k enc w' w.heap.size (fun _ : κ => none) ∧ Frm [] w w' ∧ w'.heap.size = w.heap.size + 1) := fun ρ _ =>
 ⟨_, w.alloc (.map #[] 0), by simp [execOp, run_makeMap], rfl, MpF.new, (Frm.refl [] w).alloc _, jp⟩
theorem Run.lookup {t e : TypeId} {a b : Operand} {z : Value} {x : κ} {kl : Lit} (ha : ev? Γ a = some (.map (some g))) (hb : ev? Γ b = some (enc x)) (h : MpF P k enc w g M) (K : Keyed P k) (ht : P.underlying t = some (.map k e)) (hz : ∀ w, (zeroValue e).run P w = .ok z w) (hkey : keyOf P k (enc x) = some kl) :
  Run P ⟨dst, .lookup t a b false, T, pos, after, gd⟩ Γ w ((M x).getD z) := fun ρ hρ => by
 simp [execOp, hρ _ _ ha, hρ _ _ hb, qZe h K ht (hz w) hkey]
end
end
section
open Go.RowKit
open Go.Maps (Keyed)
section
variable {P : Program} {k : TypeId} {κ : Type} {enc : κ → Value} {w w' : World} {g : Nat} {M : κ → Option Value} {S : List Nat}
theorem qKj [DecidableEq κ] {t e : TypeId} {x : κ} {kl : Lit} {v : Value} (h : MpF P k enc w g M) (K : Keyed P k) (henc : ∀ a b, enc a = enc b → a = b) (ht : P.underlying t = some (.map k e)) (hkey : keyOf P k (enc x) = some kl) :
  ∃ w' : World, (Instr.mapUpdate t (.map (some g)) (enc x) v).run P w = .ok () w' ∧ MpF P k enc w' g (fun y => if y = x then some v else M y) ∧ Frm [g] w w' ∧ w'.heap.size = w.heap.size := by
 have hlt := h.lt
 obtain ⟨es, clock, hb, h2, h3, h4⟩ := h
 rcases K.find w hkey es (fun e he => (h2 e he).1) with ⟨h5, h6⟩ | ⟨j, e0, h5, h6, h7⟩
 ·
  refine ⟨ChangeMaps.setBlock w g (.map (es ++ [(⟨enc x, v, clock⟩ : MapEntry)]).toArray (clock + 1)), ?_, ⟨es ++ [(⟨enc x, v, clock⟩ : MapEntry)], clock + 1, ?_, ?_, ?_, ?_⟩, mH w g _, by simp [ChangeMaps.setBlock]⟩
  · simp [Instr.mapUpdate, run_underlying ht, MapKept.run_getObj_map hb, K.check w _ hkey, h5, MapKept.run_setObj_map _ hb, Result.andThen, ChangeMaps.setBlock]
  · simp [ChangeMaps.setBlock, hlt]
  ·
   intro e1 he1
   rcases zds.1 he1 with he1 | he1
   · exact ⟨(h2 e1 he1).1, by have := (h2 e1 he1).2; omega⟩
   rw [za] at he1
   subst he1
   exact ⟨⟨kl, hkey⟩, Nat.lt_succ_self _⟩
  ·
   refine List.pairwise_append.2 ⟨h3, jp, fun a ha b hb2 => ?_⟩
   rw [za] at hb2
   subst hb2
   exact ⟨by have := (h2 a ha).2; dsimp only; omega, h6 a ha⟩
  intro y u
  dsimp only
  by_cases hy : y = x
  ·
   subst hy
   rw [if_pos rfl]
   constructor
   ·
    intro hv
    simp only [Option.some.injEq] at hv
    exact ⟨⟨enc y, v, clock⟩, jp, rfl, hv⟩
   rintro ⟨e1, he1, he2, he3⟩
   rcases zds.1 he1 with he1 | he1
   · exact absurd he2 (h6 e1 he1)
   rw [za] at he1
   subst he1
   simpa using he3
  rw [if_neg hy]
  constructor
  ·
   intro hv
   obtain ⟨e1, he1, he2⟩ := (h4 y u).1 hv
   exact ⟨e1, by simp [he1], he2⟩
  rintro ⟨e1, he1, he2, he3⟩
  rcases zds.1 he1 with he1 | he1
  · exact (h4 y u).2 ⟨e1, he1, he2, he3⟩
  rw [za] at he1
  subst he1
  exact absurd (henc _ _ he2).symm hy
 have hkey0 : ({ e0 with key := enc x, val := v } : MapEntry) = { e0 with val := v } := by rw [← h7]
 have hmod : es.modify j (fun e => { e with key := enc x, val := v }) = es.set j { e0 with val := v } := by
  rw [ChangeMaps.modify_eq_set _ _ _ _ h6, hkey0]
 have hjl := (List.getElem?_eq_some_iff.1 h6).1
 have ej : es[j] = e0 := by rw [zb hjl] at h6; exact Option.some.inj h6
 have he0 : e0 ∈ es := zcr h6
 have who : ∀ e1 ∈ es.set j { e0 with val := v }, e1 = { e0 with val := v } ∨ (e1 ∈ es ∧ e1.key ≠ e0.key ∧ e1.born ≠ e0.born) := by
  intro e1 he1
  obtain ⟨i, hi, ex⟩ := zag he1
  rw [List.getElem_set] at ex
  split at ex
  · exact .inl ex.symm
  rename_i hne
  have hi' : i < es.length := by simpa using hi
  refine .inr ⟨ex ▸ zaa hi', ?_⟩
  rcases Nat.lt_or_gt_of_ne hne with h5 | h5
  ·
   have := List.pairwise_iff_getElem.1 h3 j i hjl hi' h5
   rw [ej, ex] at this
   exact ⟨this.2.symm, this.1.symm⟩
  have := List.pairwise_iff_getElem.1 h3 i j hi' hjl h5
  rw [ej, ex] at this
  exact ⟨this.2, this.1⟩
 have back : ∀ e1 ∈ es, e1.key ≠ e0.key → e1 ∈ es.set j { e0 with val := v } := by
  intro e1 he1 hne
  obtain ⟨i, hi, ex⟩ := zag he1
  have hij : j ≠ i := by
   rintro rfl
   rw [zb hi, ex] at h6
   exact hne (by rw [Option.some.inj h6])
  have : (es.set j { e0 with val := v })[i]? = some e1 := by rw [zdg hij, zb hi, ex]
  exact zcr this
 have hmem : ({ e0 with val := v } : MapEntry) ∈ es.set j { e0 with val := v } := by
  have : (es.set j { e0 with val := v })[j]? = some { e0 with val := v } := by rw [zck hjl]
  exact zcr this
 have hstay := K.stays w hkey
 refine ⟨ChangeMaps.setBlock w g (.map (es.set j { e0 with val := v }).toArray clock), ?_, ⟨es.set j { e0 with val := v }, clock, by simp [ChangeMaps.setBlock, hlt], ?_, ?_, ?_⟩, mH w g _, by simp [ChangeMaps.setBlock]⟩
 · simp [Instr.mapUpdate, run_underlying ht, MapKept.run_getObj_map hb, K.check w _ hkey, h5, h6, h7, hstay, MapKept.run_setObj_map _ hb, Result.andThen, ChangeMaps.setBlock, hmod]
 ·
  intro e1 he1
  rcases who e1 he1 with rfl | ⟨h5, _⟩
  · exact h2 e0 he0
  exact h2 e1 h5
 ·
  rw [List.pairwise_iff_getElem]
  intro a b ha hb2 hab
  have ha' : a < es.length := by simpa using ha
  have hb' : b < es.length := by simpa using hb2
  have h5 := List.pairwise_iff_getElem.1 h3 a b ha' hb' hab
  rw [List.getElem_set, List.getElem_set]
  by_cases h6 : j = a
  ·
   subst h6
   rw [if_pos rfl, if_neg jo]
   rw [ej] at h5
   exact h5
  rw [if_neg h6]
  by_cases h7 : j = b
  ·
   subst h7
   rw [if_pos rfl]
   rw [ej] at h5
   exact h5
  rw [if_neg h7]
  exact h5
 intro y u
 dsimp only
 by_cases hy : y = x
 ·
  subst hy
  rw [if_pos rfl]
  constructor
  ·
   intro hu
   exact ⟨_, hmem, h7, by simpa using hu⟩
  rintro ⟨e1, he1, he2, he3⟩
  rcases who e1 he1 with rfl | ⟨_, h6, _⟩
  · simpa using he3
  exact absurd (he2.trans h7.symm) h6
 rw [if_neg hy]
 constructor
 ·
  intro hu
  obtain ⟨e1, he1, he2, he3⟩ := (h4 y u).1 hu
  exact ⟨e1, back e1 he1 (fun e => hy (henc _ _ (by rw [← he2, ← h7, e]))), he2, he3⟩
 rintro ⟨e1, he1, he2, he3⟩
 rcases who e1 he1 with rfl | ⟨h5, _, _⟩
 · exact absurd (henc _ _ (h7.symm.trans he2)).symm hy
 exact (h4 y u).2 ⟨e1, h5, he2, he3⟩
end
section
variable {P : Program} {k : TypeId} {κ : Type} {enc : κ → Value} {w : World} {g : Nat} {M : κ → Option Value} {Γ : Env} {dst : Option Tmp} {T : TypeId} {pos : String} {after : Array Edge} {gd : Option (Nat × Bool)}
theorem qP.mapUpd [DecidableEq κ] {t e : TypeId} {a b c : Operand} {x : κ} {kl : Lit} {v : Value} (ha : ev? Γ a = some (.map (some g))) (hb : ev? Γ b = some (enc x)) (hc : ev? Γ c = some v) (h : MpF P k enc w g M) (K : Keyed P k) (henc : ∀ a b, enc a = enc b → a = b) (ht : P.underlying t = some (.map k e)) (hkey : keyOf P k (enc x) = some kl) :
  qP P ⟨dst, .mapUpdate t a b c, T, pos, after, gd⟩ Γ w (fun w' => MpF P k enc w' g (fun y => if y = x then some v else M y) ∧ Frm [g] w w' ∧ w'.heap.size = w.heap.size) := fun ρ hρ => by
 obtain ⟨w', h1, h2⟩ := qKj (t := t) (v := v) h K henc ht hkey
 exact ⟨w', by simp [execOp, hρ _ _ ha, hρ _ _ hb, hρ _ _ hc, h1], h2⟩
end
end
section
open Go.RowKit
section
variable {P : Program} {w : World} {g : Nat} {e : TypeId}
theorem Blk.setCells : ∀ (vs : List Value) (o : Nat) (w : World) (cs : Array Value), Blk w g e cs → o + vs.length ≤ cs.size → Blk (w.setCells g o vs) g e (cs.toList.take o ++ vs ++ cs.toList.drop (o + vs.length)).toArray
 | [], o, w, cs, h, _ => by
  simp only [World.setCells, zbj, Nat.add_zero, zbs, zbu]
  exact h
 | v :: r, o, w, cs, h, hl => by
  have hl' : o + (r.length + 1) ≤ cs.size := hl
  have ih := Blk.setCells r (o + 1) (w.setCell ⟨g, o, none⟩ v) (cs.setIfInBounds o v) (h.set o v) (by rw [Array.size_setIfInBounds]; omega)
  rw [World.setCells]
  have e1 : (cs.setIfInBounds o v).toList = cs.toList.set o v := zdv ..
  have hsz : o < cs.toList.length := by rw [zcd]; omega
  have e2 : (cs.toList.set o v).take (o + 1) = cs.toList.take o ++ [v] := by
   rw [List.take_set, List.set_eq_take_append_cons_drop, if_pos (by rw [zt]; omega), zen, zau jo]
   congr 2
   rw [zbn (by rw [zt]; omega)]
  have e3 : (cs.toList.set o v).drop (o + 1 + r.length) = cs.toList.drop (o + 1 + r.length) := by
   rw [List.drop_set, if_pos jo]
  rw [e1, e2, e3] at ih
  have e4 : cs.toList.take o ++ [v] ++ r ++ cs.toList.drop (o + 1 + r.length) = cs.toList.take o ++ v :: r ++ cs.toList.drop (o + (v :: r).length) := by
   rw [zbi, show o + (r.length + 1) = o + 1 + r.length by omega]
   simp
  rw [e4] at ih
  exact ih
theorem Frm.setCells : ∀ (vs : List Value) (o : Nat) (w : World), Frm [g] w (w.setCells g o vs) ∧ (w.setCells g o vs).heap.size = w.heap.size
 | [], o, w => ⟨Frm.refl _ _, rfl⟩
 | v :: r, o, w => by
  obtain ⟨h1, h2⟩ := Frm.setCells r (o + 1) (w.setCell ⟨g, o, none⟩ v)
  exact ⟨(Frm.set1 w ⟨g, o, none⟩ v).trans h1 (fun x hx => .inl hx), h2.trans jp⟩
theorem uD (vs : List Value) (o : Nat) (w : World) (cs : Array Value) (h : Blk w g e cs) (hl : o + vs.length ≤ cs.size) (h1 : ∀ v ∈ vs, v.oneCell' = true) : (storeCells ⟨g, o, none⟩ vs).run P w = .ok () (w.setCells g o vs) := by
 have := run_storeCells_cells (P := P) g o vs 0 w (fun j hj => by
  rw [h.cell, zdx jo]; rfl) (fun j _ => h.frozen _) h1
 simpa using this
theorem mM {size m c : Nat} {A : Option Addr} {ys : List Value} (hr : Rd w size A m ys) : (Builtin.firstCells size m (.slice A m c)).run P w = .ok ys.toArray w := by
 rcases zch m with hm | hm
 ·
  subst hm
  have hn0 : ys = [] := zai (by simpa using hr.1)
  subst hn0
  cases A <;> simp [Builtin.firstCells, loadCells, loadCellsFrom]
 obtain ⟨ad, rfl, _, hcell⟩ := hr.2 hm
 have hl := run_loadCells_list (P := P) w ad ys hcell
 rw [hr.1] at hl
 simp [Builtin.firstCells, hl]
theorem xI {size m m' c : Nat} {A : Option Addr} {ys : List Value} (hr : Rd w size A m ys) : (Builtin.firstCells size m (.slice A m' c)).run P w = .ok ys.toArray w := by
 have h := mM (P := P) (c := c) hr
 cases A <;> exact h
theorem Own.more {size n N cap : Nat} {xs : List Value} (h : Own w e size (some ⟨g, 0, none⟩) n cap xs) (h1 : n ≤ N) (h2 : N ≤ cap) : ∃ zs, Own w e size (some ⟨g, 0, none⟩) N cap (xs ++ zs) ∧ zs.length = (N - n) * size := by
 have hl := h.len
 rcases h.cases with ⟨h0, _⟩ | ⟨g', cur, hA, hb, hnc, hc, hs, ht⟩
 · cases h0
 cases hA
 have hm1 : n * size ≤ N * size := zaw _ h1
 have hm2 : N * size ≤ cap * size := zaw _ h2
 refine ⟨(cur.toList.take (N * size)).drop (n * size), ⟨?_, .inr ⟨g, cap, cur, rfl, zae _, hb, h2, hc, hs, ?_⟩⟩, ?_⟩
 ·
  rw [zi, hl, zal, zt, zcd, hs]
  omega
 ·
  have e1 : cur.toList.take (n * size) = xs := ht
  have e2 : (cur.toList.take (N * size)).take (n * size) = xs := by rw [zen, zau hm1, e1]
  conv => rhs; rw [← e2]
  rw [zbu]
 rw [zal, zt, zcd, hs, Nat.sub_mul]
 omega
theorem Own.write {size N cap o : Nat} {xs ys : List Value} (h : Own w e size (some ⟨g, 0, none⟩) N cap xs) (hle : o + ys.length ≤ xs.length) (h1 : ∀ v ∈ ys, v.oneCell' = true) :
  (storeCells ⟨g, o, none⟩ ys).run P w = .ok () (w.setCells g o ys) ∧ Own (w.setCells g o ys) e size (some ⟨g, 0, none⟩) N cap (xs.take o ++ ys ++ xs.drop (o + ys.length)) ∧ Frm [g] w (w.setCells g o ys) ∧ (w.setCells g o ys).heap.size = w.heap.size := by
 have hl := h.len
 rcases h.cases with ⟨h0, _⟩ | ⟨g', cur, hA, hb, hnc, hc, hs, ht⟩
 · cases h0
 cases hA
 have hm : N * size ≤ cap * size := zaw _ hnc
 have e1 : cur.toList.take (N * size) = xs := ht
 have hcl : cur.toList.length = cap * size := by rw [zcd, hs]
 refine ⟨uD ys o w cur hb jo h1, ⟨?_, .inr ⟨g, cap, _, rfl, zae _, Blk.setCells ys o w cur hb jo, hnc, hc, ?_, ?_⟩⟩, Frm.setCells ys o w⟩
 ·
  rw [zi, zi, zt, zal]
  omega
 ·
  simp only [zcy, zi, zt, zal]
  omega
 show (cur.toList.take o ++ ys ++ cur.toList.drop (o + ys.length)).take (N * size) = _
 have hAB : (cur.toList.take o ++ ys).length = o + ys.length := by rw [zi, zt]; omega
 rw [← e1, zen, zau jo, List.take_append, zv jo, hAB, List.drop_take]
theorem qV.copyOwn {Γ : Env} {dst : Option Tmp} {T : TypeId} {pos : String} {after : Array Edge} {gd : Option (Nat × Bool)} {x y : Operand} {dT sT : TypeId} {size N cap o dLen dCap sLen sCap : Nat} {A : Option Addr} {xs ys : List Value}
  (hx : ev? Γ x = some (.slice (some ⟨g, o, none⟩) dLen dCap)) (hy : ev? Γ y = some (.slice A sLen sCap)) (ht : P.underlying dT = some (.slice e)) (hz : ∀ w, (sizeOf e).run P w = .ok size w)
  (ho : Own w e size (some ⟨g, 0, none⟩) N cap xs) (n : Nat) (hr : Rd w size A n ys) (hn : Nat.min sLen dLen = n) (hle : o + ys.length ≤ xs.length) (h1 : ∀ v ∈ ys, v.oneCell' = true) :
  qV P ⟨dst, .call ⟨.builtin .copy, #[x, y], #[dT, sT]⟩, T, pos, after, gd⟩ Γ w
   (fun r w' => r = .int .i64 ((n : Nat) : Int) ∧ Own w' e size (some ⟨g, 0, none⟩) N cap (xs.take o ++ ys ++ xs.drop (o + ys.length)) ∧ Frm [g] w w' ∧ w'.heap.size = w.heap.size) := fun ρ hρ => by
 obtain ⟨h2, h3, h4, h5⟩ := ho.write (P := P) hle h1
 refine ⟨_, w.setCells g o ys, ?_, rfl, h3, h4, h5⟩
 have hf := xI (P := P) (m' := sLen) (c := sCap) hr
 simp [execOp, resolve, invoke, builtin, hρ _ _ hx, hρ _ _ hy, Builtin.copy_, run_underlying ht, Builtin.lenOf, hz, hn, hf, h2, goInt]
theorem qV.appIn {Γ : Env} {dst : Option Tmp} {T : TypeId} {pos : String} {after : Array Edge} {gd : Option (Nat × Bool)} {x y : Operand} {t : TypeId} {size N cap n m c2 : Nat} {A : Option Addr} {xs ys : List Value}
  (hx : ev? Γ x = some (.slice (some ⟨g, 0, none⟩) n cap)) (hy : ev? Γ y = some (.slice A m c2)) (ht : P.underlying t = some (.slice e)) (hz : ∀ w, (sizeOf e).run P w = .ok size w)
  (ho : Own w e size (some ⟨g, 0, none⟩) N cap xs) (hr : Rd w size A m ys) (hle : n + m ≤ N) (h1 : ∀ v ∈ ys, v.oneCell' = true) :
  qV P ⟨dst, .call ⟨.builtin .append, #[x, y], #[t, t]⟩, T, pos, after, gd⟩ Γ w
   (fun r w' => r = .slice (some ⟨g, 0, none⟩) (n + m) cap ∧ Own w' e size (some ⟨g, 0, none⟩) N cap (xs.take (n * size) ++ ys ++ xs.drop ((n + m) * size)) ∧ Frm [g] w w' ∧ w'.heap.size = w.heap.size) := fun ρ hρ => by
 have hyl := hr.1
 have hxl := ho.len
 have hm1 : (n + m) * size ≤ N * size := zaw _ hle
 have hm2 : (n + m) * size = n * size + m * size := Nat.add_mul _ _ _
 obtain ⟨h2, h3, h4, h5⟩ := ho.write (P := P) (o := n * size) (ys := ys) jo h1
 rw [hyl, ← hm2] at h3
 have hnc := ho.le
 refine ⟨_, w.setCells g (n * size) ys, ?_, rfl, h3, h4, h5⟩
 have hf := mM (P := P) (c := c2) hr
 have hadd : (⟨g, 0, none⟩ : Addr).add (n * size) = ⟨g, n * size, none⟩ := by unfold Addr.add; split <;> simp_all
 have hroom : n + m ≤ cap := jo
 simp [execOp, resolve, invoke, builtin, hρ _ _ hx, hρ _ _ hy, Builtin.append_, run_underlying ht, Builtin.lenOf, hz, hf, h2, hadd, hroom]
theorem dB (z : Array Value) (n : Nat) : (Builtin.zeroCells z n).size = n * z.size := by simp [Builtin.zeroCells]
theorem Rd.drew {size n : Nat} {A : Option Addr} {xs : List Value} (h : Rd w size A n xs) : Rd w.drew size A n xs := ⟨h.1, fun hn => by
 obtain ⟨ad, h1, h2, h3⟩ := h.2 hn
 exact ⟨ad, h1, h2, h3⟩⟩
theorem qV.appMake {Γ : Env} {dst : Option Tmp} {T : TypeId} {pos : String} {after : Array Edge} {gd : Option (Nat × Bool)} {x y : Operand} {t t2 : TypeId} {kn kq : IntKind} {z : Value} {size bytes cap n k : Nat} {A : Option Addr} {xs : List Value}
    (hx : ev? Γ x = some (.slice A n cap)) (hy : ev? Γ y = some (.int kq (k : Int))) (ht : P.underlying t = some (.slice e)) (ht2 : P.underlying t2 = some (.int kn)) (hi : (P.info? e).map (fun i => (i.zero, i.size, i.bytes)) = some (some z, size, bytes)) (hzs : z.cells.size = size) (hsz : 0 < size)
    (hr : Rd w size A n xs) (hk : 0 < k) (hroom : cap < n + k) (h63 : n + k ≤ 4611686018427387904) (hb : (n + k) * bytes ≤ 140737488355328) (hcn : n ≤ cap) :
    qV P ⟨dst, .call ⟨.builtin .append, #[x, y], #[t, t2]⟩, T, pos, after, gd⟩ Γ w
      (fun r w' => ∃ c' zs, r = .slice (some ⟨w.heap.size, 0, none⟩) (n + k) c' ∧ Own w' e size (some ⟨w.heap.size, 0, none⟩) (n + k) c' (xs ++ zs) ∧ zs.length = k * size ∧ Frm [] w w') := fun ρ hρ => by
  obtain ⟨i0, hi0, hz0, hz1, hz2⟩ := info_parts hi
  have hf : (Builtin.firstCells i0.size n (.slice A n cap)).run P w.drew = .ok xs.toArray w.drew := by
    rw [hz1]; exact mM hr.drew
  have hkb : k * i0.bytes ≤ 281474976710656 := by
    rw [hz2]
    have : k * bytes ≤ (n + k) * bytes := zaw _ jo
    omega
  have hnx : Builtin.nextslicecap (n + k) cap * i0.bytes ≤ 281474976710656 := by
    rw [hz2]
    exact growslice_fits hroom hb
  have hrun := Lib.run_append_grow_zeros (P := P) w t t2 T e i0 z kq kn ht ht2 hi0 hz0 A n cap xs hf k hk jo hroom jo hkb hnx
  have hge := grownCap_ge w (n + k) cap e
  have hle := grownCap_le_maxLen w (n + k) cap e (by show n + k ≤ maxLen; have : (4611686018427387904 : Nat) ≤ maxLen := by decide
                                                     omega)
  have hms : (n + k) * size ≤ grownCap w (n + k) cap e * size := zaw _ hge
  have hdist : (n + k) * size = n * size + k * size := Nat.add_mul _ _ _
  have hsub : (grownCap w (n + k) cap e - (n + k)) * size = grownCap w (n + k) cap e * size - (n + k) * size := Nat.sub_mul _ _ _
  obtain ⟨cur, hcur⟩ : ∃ cur, cur = xs.toArray ++ Builtin.zeroCells z.cells k ++ Builtin.zeroCells z.cells (grownCap w (n + k) cap e - (n + k)) := ⟨_, rfl⟩
  rw [← hcur] at hrun
  refine ⟨_, w.drew.alloc (.cells cur e), ?_, grownCap w (n + k) cap e, (Builtin.zeroCells z.cells k).toList, rfl, ⟨?_, .inr ⟨w.heap.size, grownCap w (n + k) cap e, cur, rfl, zae _, Blk.new w.drew e cur, hge, hle, ?_, ?_⟩⟩, ?_, ?_⟩
  · simp only [execOp, resolve, invoke, builtin, zer, zbw, zdp, hρ _ _ hx, hρ _ _ hy, Sem.run_bind, Sem.run_pure, Result.andThen_ok, hrun]
  · rw [zi, hr.1, zcd, dB, hzs, hdist]
  · rw [hcur]
    simp only [zfg, dB, hzs, zcy, hr.1, hsub]
    omega
  · rw [hcur, Array.toList_append, Array.toList_append, zbb (by simp only [zi, zcd, dB, hzs, zcy, hr.1]; omega), zv (by simp only [zi, zcd, dB, hzs, zcy, hr.1]; omega)]
  · rw [zcd, dB, hzs]
  · exact ((Frm.refl [] w).drew).alloc _
theorem Run.capS {Γ : Env} {dst : Option Tmp} {T : TypeId} {pos : String} {after : Array Edge} {gd : Option (Nat × Bool)} {t : TypeId} {x : Operand} {a : Option Addr} {len cap : Nat} (hx : ev? Γ x = some (.slice a len cap)) (ht : P.underlying t = some (.slice e)) :
  Run P ⟨dst, .call ⟨.builtin .cap, #[x], #[t]⟩, T, pos, after, gd⟩ Γ w (.int .i64 ((cap : Nat) : Int)) := fun ρ hρ => by
 simp [execOp, resolve, invoke, builtin, Builtin.cap_, hρ _ _ hx, run_underlying ht, goInt]
theorem Run.ext2 {Γ : Env} {dst : Option Tmp} {T : TypeId} {pos : String} {after : Array Edge} {gd : Option (Nat × Bool)} {f : FuncId} {x y : Operand} {a b v : Value} {ts : Array TypeId} (hx : ev? Γ x = some a) (hy : ev? Γ y = some b) (h : (callFunc f #[a, b]).run P w = .ok (.value v) w) :
  Run P ⟨dst, .call ⟨.value (.func f), #[x, y], ts⟩, T, pos, after, gd⟩ Γ w v := fun ρ hρ => by
 have e2 : ρ (.func f) = .func (.func f) #[] #[] := hρ _ _ rfl
 simp [execOp, resolve, e2, Deferred.ofValue, invoke, hρ _ _ hx, hρ _ _ hy, h]
theorem kS {cap i sz : Nat} (hi : i < cap) : dP (some (⟨g, 0, none⟩ : Addr)) cap i sz = some ⟨g, i * sz, none⟩ := by
 unfold dP
 rw [if_neg jo, zcz, lA]
theorem Blk.shape {t : TypeId} {cs : Array Value} (h : Blk w g t cs) : w.shape? g = some (t, cs.size) := by
 unfold Blk at h
 simp [World.shape?, h]
theorem Run.geqT {Γ : Env} {dst : Option Tmp} {T : TypeId} {pos : String} {after : Array Edge} {gd : Option (Nat × Bool)} {t yT : TypeId} {x y : Operand} {a b : List UInt8} (hx : ev? Γ x = some (encStr a)) (hy : ev? Γ y = some (encStr b)) : Run P ⟨dst, .binOp .geq t x y yT, T, pos, after, gd⟩ Γ w (.bool (!decide (a < b))) := fun ρ hρ => by
 have e : Op.bytesLess a b = decide (a < b) := Go.Proofs.bytesLess_eq _ _
 have hx2 : ev? Γ x = some (.string ⟨a.toArray⟩) := hx
 have hy2 : ev? Γ y = some (.string ⟨b.toArray⟩) := hy
 rw [← e]
 simp [execOp, hρ _ _ hx2, hρ _ _ hy2, eqGuard, binOp, Op.stringOp, ByteArray.toList_eq]
theorem Run.leqT {Γ : Env} {dst : Option Tmp} {T : TypeId} {pos : String} {after : Array Edge} {gd : Option (Nat × Bool)} {t yT : TypeId} {x y : Operand} {a b : List UInt8} (hx : ev? Γ x = some (encStr a)) (hy : ev? Γ y = some (encStr b)) : Run P ⟨dst, .binOp .leq t x y yT, T, pos, after, gd⟩ Γ w (.bool (!decide (b < a))) := fun ρ hρ => by
 have e : Op.bytesLess a b = decide (a < b) := Go.Proofs.bytesLess_eq _ _
 have e2 : (decide (a < b) || (a == b)) = !decide (b < a) := by
  rw [zbt]
  simp only [Bool.or_eq_true, decide_eq_true_eq, beq_iff_eq, zcv, decide_eq_false_iff_not]
  constructor
  ·
   rintro (h | h) h2
   · exact zem _ (List.lt_trans h h2)
   rw [h] at h2; exact zem _ h2
  intro h
  rcases Classical.em (a < b) with h3 | h3
  · exact .inl h3
  exact .inr (List.le_antisymm (List.not_lt.1 h) (List.not_lt.1 h3))
 have hx2 : ev? Γ x = some (.string ⟨a.toArray⟩) := hx
 have hy2 : ev? Γ y = some (.string ⟨b.toArray⟩) := hy
 rw [← e2, ← e]
 simp [execOp, hρ _ _ hx2, hρ _ _ hy2, eqGuard, binOp, Op.stringOp, ByteArray.toList_eq]
end
end
section
open Go.RowKit
section
variable {P : Program} {n : NF} {ops : Array Oper} {S : World → Prop} {Pn : List PanicEntry → World → Prop} {L fuel : Nat} {listed : Array Bool} {Γ : Env} {w : World} {K : Env → World → Prop}
end
theorem qV.make0 {P : Program} {Γ : Env} {w : World} {dst : Option Nat} {T : TypeId} {pos : String} {after : Array Edge} {g : Option (Nat × Bool)} {t e : TypeId} {x y : Operand} {z : Value} {size bytes c : Nat} {k k' : IntKind} (hx : ev? Γ x = some (.int k ((0 : Nat) : Int))) (hy : ev? Γ y = some (.int k' (c : Int)))
  (ht : P.underlying t = some (.slice e)) (hi : (P.info? e).map (fun i => (i.zero, i.size, i.bytes)) = some (some z, size, bytes)) (hb : bytes * c ≤ 281474976710656) (hc : c ≤ 9223372036854775807) :
  qV P ⟨dst, .makeSlice t x y, T, pos, after, g⟩ Γ w (fun r w' => r = .slice (some ⟨w.heap.size, 0, none⟩) 0 c ∧ Own w' e size (some ⟨w.heap.size, 0, none⟩) 0 c [] ∧ Frm [] w w' ∧ w'.heap.size = w.heap.size + 1) := fun ρ hρ => by
 obtain ⟨i, hi1, hi2⟩ := Option.map_eq_some_iff.1 hi
 simp only [Prod.mk.injEq] at hi2
 obtain ⟨hz, hsz, hbt⟩ := hi2
 have hr := run_make (P := P) w t e i z ht hi1 hz k k' ((0 : Nat) : Int) (c : Int) jo jo (by have h := Int.ofNat_le.2 hb; rw [Int.natCast_mul] at h; rw [hbt]; exact h) jo
 simp only [zdj, hsz] at hr
 refine ⟨_, w.alloc (.cells (madeCells z.cells (c * size)) e), ?_, rfl, ?_, (Frm.refl _ _).alloc _, (Fresh.mk' w e _).size⟩
 · simp only [execOp, hρ _ _ hx, hρ _ _ hy, Sem.run_bind, hr, Result.andThen_ok, Sem.run_pure]
 exact ⟨jp, .inr ⟨w.heap.size, c, _, rfl, zae _, Blk.new w e _, zae _, by simp [maxLen]; omega, by rw [size_madeCells], jp⟩⟩
theorem Run.eqNilS {P : Program} {Γ : Env} {w : World} {dst : Option Nat} {T : TypeId} {pos : String} {after : Array Edge} {g : Option (Nat × Bool)} {t yT e : TypeId} {x y : Operand} {A : Option Addr} {n c : Nat} (hx : ev? Γ x = some (.slice A n c)) (hy : ev? Γ y = some (.slice none 0 0)) (ht : P.underlying t = some (.slice e)) :
  Run P ⟨dst, .binOp .eql t x y yT, T, pos, after, g⟩ Γ w (.bool A.isNone) := fun ρ hρ => by
 have h0 : ∀ d : Nat, (Op.equalIn (d + 1) t (.slice A n c) (.slice none 0 0)).run P w = .ok A.isNone w := fun d => by
  cases A <;> simp [Op.equalIn, run_underlying ht]
 have h1 : (Op.equal t (.slice A n c) (.slice none 0 0)).run P w = .ok A.isNone w := h0 9999
 simp [execOp, hρ _ _ hx, hρ _ _ hy, eqGuard, binOp, h1]
theorem Run.slice3 {P : Program} {Γ : Env} {w : World} {dst : Option Nat} {T : TypeId} {pos : String} {after : Array Edge} {g : Option (Nat × Bool)} {t e : TypeId} {x lo hi mx : Operand} {a : Option Addr} {len cap sz : Nat} {k k' k'' : IntKind} (l h m : Nat) (hx : ev? Γ x = some (.slice a len cap)) (ht : P.underlying t = some (.slice e)) (hz : ∀ w, (sizeOf e).run P w = .ok sz w)
  (hlo : ev? Γ lo = some (.int k (l : Int))) (hhi : ev? Γ hi = some (.int k' (h : Int))) (hmx : ev? Γ mx = some (.int k'' (m : Int))) (h1 : l ≤ h) (h2 : h ≤ m) (h3 : m ≤ cap) :
  Run P ⟨dst, .slice t x (some lo) (some hi) (some mx), T, pos, after, g⟩ Γ w (.slice (dP a m l sz) (h - l) (m - l)) := fun ρ hρ => by
 have hb : ∀ (k : IntKind) (r y : Nat) (code : BoundsCode), r ≤ y → (Instr.sliceBound (.int k (r : Int)) y code).run P w = .ok r w := by
  intro k r y code hry
  have := run_sliceBound (P := P) w k (r : Int) y code jo jo
  simpa using this
 have hbb : (Instr.sliceBounds true len cap (some (.int k (l : Int))) (some (.int k' (h : Int))) (some (.int k'' (m : Int)))).run P w = .ok (l, h, m) w := by
  unfold Instr.sliceBounds
  simp [hb _ _ _ _ h1, hb _ _ _ _ h2, hb _ _ _ _ h3]
 simp only [execOp, Instr.sliceAt, Instr.slice, Sem.run_bind, run_underlying ht, Result.andThen_ok, hρ _ _ hx, hρ _ _ hlo, hρ _ _ hhi, hρ _ _ hmx, zcz, hbb, hz, Sem.run_pure]
 rfl
end
section
open Go.RowKit
structure Nc where
 nm : Tx
 v : Int
 n : Int
 A : Option Addr
 c : Nat
 l : List Mc
def Nc.cells (x : Nc) : List Value := [encStr x.nm, .int .i64 x.v, .int .i64 x.n, .slice x.A x.l.length x.c]
theorem Nc.cells_len (x : Nc) : x.cells.length = 4 := rfl
theorem Nc.cells_one (x : Nc) : ∀ u ∈ x.cells, u.oneCell' = true := by
 intro u hu
 simp only [Nc.cells, zbh, zcj, or_false] at hu
 rcases hu with rfl | rfl | rfl | rfl <;> rfl
def Nc.p (x : Nc) : NmP := (x.nm, ⟨x.v, x.n, Ms x.l⟩)
abbrev NDC (l : List Nc) : List Value := l.flatMap Nc.cells
abbrev Ns (l : List Nc) : List NmP := l.map Nc.p
theorem eV (l : List Nc) : (NDC l).length = l.length * 4 := sP Nc.cells 4 Nc.cells_len l
theorem dJ (a b : List Nc) : NDC (a ++ b) = NDC a ++ NDC b := zeb
theorem fH (l : List Nc) : ∀ u ∈ NDC l, u.oneCell' = true := oQ Nc.cells Nc.cells_one l
theorem gD (l : List Nc) (i : Nat) (hi : i ≤ l.length) : (NDC l).take (i * 4) = NDC (l.take i) := by
 have e1 : NDC l = NDC (l.take i) ++ NDC (l.drop i) := by rw [← dJ, zbu]
 have e2 : (NDC (l.take i)).length = i * 4 := by rw [eV, zt, zau hi]
 rw [e1, zbb jo, zv jo]
theorem tJ (l : List Nc) (i : Nat) (hi : i ≤ l.length) : (NDC l).drop (i * 4) = NDC (l.drop i) := by
 have e1 : NDC l = NDC (l.take i) ++ NDC (l.drop i) := by rw [← dJ, zbu]
 have e2 : (NDC (l.take i)).length = i * 4 := by rw [eV, zt, zau hi]
 rw [e1, zes, zbn jo, e2, zdq]
 rfl
structure Nc.At (w : World) (x : Nc) : Prop where
 rd : RdM w x.A x.l
 n : x.l.length ≤ 900000
 q : x.nm.length ≤ 1000000
theorem Nc.At.frm {w w' : World} {x : Nc} (h : x.At w) (k : Frm [] w w') : x.At w' := ⟨h.rd.frm k, h.n, h.q⟩
theorem Mc.At.lt {w : World} {x : Mc} (h : x.At w) (hn : 0 < x.m.flags.length) : ∀ y ∈ ob x.A, y < w.heap.size := h.rd.lt hn
structure RdN (w : World) (A : Option Addr) (l : List Nc) : Prop where
 rd : Rd w 4 A l.length (NDC l)
 el : ∀ x ∈ l, x.At w
theorem RdN.nil (w : World) (A : Option Addr) : RdN w A [] := ⟨Rd.nil _ _ _, jp⟩
theorem RdN.frm {w w' : World} {A : Option Addr} {l : List Nc} (h : RdN w A l) (k : Frm [] w w') : RdN w' A l := ⟨h.rd.frm k jp, fun x hx => (h.el x hx).frm k⟩
theorem RdN.elem {w : World} {A : Option Addr} {l : List Nc} {k : Nat} (h : RdN w A l) (hk : k < l.length) : ∃ ad, A = some ad ∧ ∀ j v, (l[k]).cells[j]? = some v → w.cell? ((ad.add (k * 4)).add j) = some v := by
 obtain ⟨ad, rfl, hc⟩ := h.rd.elem hk
 refine ⟨ad, rfl, fun j v hj => hc j v ?_⟩
 rw [fY Nc.cells 4 Nc.cells_len l k hk]
 exact hj
structure MlC where
 A : Option Addr
 c : Nat
 l : List Nc
 S : Option Addr
 d : Nat
 ss : List Tx
 v : Int
 b : Int
def MlC.cells (m : MlC) : List Value := [.slice m.A m.l.length m.c, .slice m.S m.ss.length m.d, .int .i64 m.v, .int .i64 m.b]
theorem MlC.cells_one (m : MlC) : ∀ u ∈ m.cells, u.oneCell' = true := by
 intro u hu
 simp only [MlC.cells, zbh, zcj, or_false] at hu
 rcases hu with rfl | rfl | rfl | rfl <;> rfl
abbrev MlC.val (m : MlC) : Value := .agg m.cells.toArray
def MlC.p (m : MlC) : MailP := ⟨Ns m.l, m.ss, m.v, m.b⟩
def qF : MlC := ⟨none, 0, [], none, 0, [], 0, 0⟩
structure RdL (w : World) (m : MlC) : Prop where
 l : RdN w m.A m.l
 s : Rd w 1 m.S m.ss.length (SB m.ss)
 lc : m.l.length ≤ m.c
 sc : m.ss.length ≤ m.d
 ln : m.l.length ≤ 1000000
 sn : m.ss.length ≤ 1000000
 sq : ∀ q ∈ m.ss, q.length ≤ 1000000
theorem RdL.frm {w w' : World} {m : MlC} (h : RdL w m) (k : Frm [] w w') : RdL w' m := ⟨h.l.frm k, h.s.frm k jp, h.lc, h.sc, h.ln, h.sn, h.sq⟩
theorem RdL.zero (w : World) : RdL w qF := ⟨RdN.nil _ _, Rd.nil _ _ _, zw _, zw _, zae _, zae _, by intro q hq; cases hq⟩
def tK (w' : World) (F : Except Nat MailP) (m : MlC) (k : Nat) : Prop := RdL w' m ∧ ((k = 0 ∧ F = .ok m.p) ∨ (k ≠ 0 ∧ F = .error k ∧ m = qF))
theorem tK.err {w' : World} {F : Except Nat MailP} {k : Nat} (hk : k ≠ 0) (h : F = .error k) : tK w' F qF k := ⟨RdL.zero _, .inr ⟨hk, h, rfl⟩⟩
theorem tK.frm {w w' : World} {F : Except Nat MailP} {m : MlC} {k : Nat} (h : tK w F m k) (hf : Frm [] w w') : tK w' F m k := ⟨h.1.frm hf, h.2⟩
structure OwN (w : World) (A : Option Addr) (d : Nat) (l : List Nc) : Prop where
 own : Own w 45 4 A l.length d (NDC l)
 el : ∀ x ∈ l, x.At w
theorem OwN.frm {w w' : World} {A : Option Addr} {d : Nat} {l : List Nc} (h : OwN w A d l) (k : Frm [] w w') : OwN w' A d l := ⟨h.own.frm k jp, fun x hx => (h.el x hx).frm k⟩
theorem OwN.nil (w : World) : OwN w none 0 [] := ⟨Own.nil _ _ _, jp⟩
theorem bP (l : List Nc) : (Ns l).length = l.length := zah _
theorem sG {w w' : World} {t : TypeId} {x : Nc} (h : Fresh w w' t (Value.agg x.cells.toArray).cells) : Rd w' 4 (some ⟨w.heap.size, 0, none⟩) 1 (NDC [x]) := Rd.of_blk (n := 1) (size := 4) h.blk rfl
theorem qQm {l : List Nc} {k : Nat} (hk : k < l.length) : ((NDC l).drop (k * 4)).take 4 = (l[k]).cells := fY Nc.cells 4 Nc.cells_len l k hk
end
section
open Go.RowKit Go.Sort
theorem uE (s : Tx) (c : UInt8) (w : World) : Calls Tryz.prog 160 #[encStr s, encStr [c]] w fun e w' => e = .returned (.int .i64 (Lib.indexByte s c)) ∧ w = w' :=
 (Tryz.stringslite_Index_one ⟨s.toArray⟩ c w).mono fun e w' ⟨h, hw⟩ => ⟨h, hw.symm⟩
theorem qQn (s : Tx) (c : UInt8) (w : World) (hs : s.length ≤ 1000000) : Calls Tryz.prog 163 #[encStr s, encStr [c]] w fun e w' => e = .returned (.tuple #[encStr (bF c s), encStr (gT c s), .bool (decide (c ∈ s))]) ∧ Frm [] w w' := by
 refine VC.calls (nt := 23) (res := #[.tmp 4, .tmp 5, .tmp 6]) Tryz.func163 rfl Tryz.ntmps163 Tryz.results163 rfl ?_
 refine jS (jR (ja rfl (ja rfl (ja rfl (jO (jN (jv2 0 1 ?_)))))))
 refine jS (jS (jR (jm rfl (jM ?_))))
 refine Ops.cl (jE2 Tryz.call160) (uE s c _) rfl ?_
 rintro e _ ⟨rfl, rfl⟩
 refine ⟨_, rfl, ?_⟩
 refine ja rfl (jO (jN (jv3 0 1 7 ?_)))
 refine jS (jR (jm rfl (jb rfl rfl (Bin.geq _ 0) (jO (jN (jv4 0 1 7 12 ?_))))))
 refine jD rfl (fun hc1 => ?_) fun hc1 => ?_
 ·
  obtain ⟨a, b, rfl, hc, hi⟩ := (gV s c).resolve_left (fun h => by rw [h.1] at hc1; omega)
  rw [hi]
  obtain ⟨hb1, hb2⟩ := zA (b := b) hc
  simp only [zi, zbi] at hs
  have e1 : (a ++ c :: b).take a.length = a := jp
  have e2 : (a ++ c :: b).drop (a.length + 1) = b := by rw [zes, zbn jo]; simp
  refine jS ?_
  refine VC.still jK jK ?_
  refine qM ?_
  refine qM ?_
  refine qE (Run.sliceT 0 a.length rfl zj evB.none_ (evB.some_ rfl) jo jp) ?_
  refine qM ?_
  refine qM ?_
  refine qM ?_
  refine qE (Run.lenT rfl zj) ?_
  refine qE (Run.bin rfl rfl (Bin.add_i64 a.length 1 jo)) ?_
  refine qE (Run.sliceT (a.length + 1) _ rfl zj (evB.some_ rfl) evB.none_ (by first | (simp; done) | (simp; omega)) jp) ?_
  refine qA ?_
  refine qA ?_
  refine qA ?_
  refine bZ.nil ?_
  refine jN (jv3 4 5 6 ?_)
  refine jT ?_
  refine qZ (sN rfl rfl rfl ?_)
  refine ⟨?_, (qK.drew _).frm⟩
  rw [hb1, hb2, decide_eq_true jp]
  simp only [zco, zcb, e1, e2]
  rw [zv (l := b) (by simp; omega)]
 have hc : c ∉ s := by
  rcases gV s c with ⟨_, h⟩ | ⟨a, b, _, _, hi⟩
  · exact h
  rw [hi] at hc1; omega
 obtain ⟨hb1, hb2⟩ := zF hc
 refine jQ (jN (jv1 0 ?_))
 refine jS (jR (jm rfl (ja rfl (ja rfl (ja rfl (jO (jN (jv3 4 5 6 ?_))))))))
 refine jT ?_
 refine sN rfl rfl rfl ?_
 refine ⟨?_, Frm.refl _ _⟩
 rw [hb1, hb2, decide_eq_false hc]
theorem qZf (s : Tx) (c : UInt8) (w : World) (hs : s.length ≤ 1000000) : Calls Tryz.prog 136 #[encStr s, encStr [c]] w fun e w' => e = .returned (.tuple #[encStr (bF c s), encStr (gT c s), .bool (decide (c ∈ s))]) ∧ Frm [] w w' := by
 refine VC.calls (nt := 13) (res := #[.tmp 4, .tmp 5, .tmp 6]) Tryz.func136 rfl Tryz.ntmps136 Tryz.results136 rfl ?_
 refine jS (jR (ja rfl (ja rfl (ja rfl (jO (jN (jv2 0 1 ?_)))))))
 refine jS (jR (jm rfl (jM ?_)))
 refine Ops.cl (jE2 Tryz.call163) (qQn s c _ hs) rfl ?_
 rintro e w1 ⟨rfl, hf1⟩
 refine ⟨_, rfl, ?_⟩
 refine je (Run.extract rfl rfl) (je (Run.extract rfl rfl) (je (Run.extract rfl rfl) (ja rfl (ja rfl (ja rfl (jO (jN (jv3 4 5 6 ?_))))))))
 refine jT ?_
 refine sN rfl rfl rfl ?_
 exact ⟨rfl, hf1⟩
end
end Go.Proofs.YtgmbmfpfhcekiaaGreat
