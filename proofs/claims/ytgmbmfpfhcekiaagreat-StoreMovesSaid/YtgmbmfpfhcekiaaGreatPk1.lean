/-
  Lemmas on the way, joined: Shelf, Str, FlagP, FlagW, FlagN, DateP, BoxP, StoP, DateW, DateV, FlagS, BoxW, Eng18, Eng20, Eng21, Eng19, StoM, SeqC, NamW, BoxG, StoA, NamV, StoB.
-/
import Derived.Shelf.Small.Bits
import Derived.Shelf.Small.Strs
import Derived.Shelf.Strconv.Itoa0
import Derived.Shelf.Strings.Search1
import Derived.Shelf.Strings.Search2
import Derived.Shelf.Strings.Search3
import Derived.Shelf.Strings.Cut
import Derived.Shelf.LaysM
import Derived.Shelf.Strings.Shaped
import Derived.Shelf.Sort.Plain
import Derived.Shelf.Strings.LastIndex
import Derived.Shelf.GgClosure.StringsIndexFunc
import Derived.Ground.GgwProg
import Derived.Shelf.GgClosure.StringsIndexFuncTop
import Derived.Shelf.GgClosure.StringsRunes
import Derived.Shelf.Strings.Prefix
import Derived.Shelf.Strings.FuncGrows
import Derived.Shelf.Slices.Turned
import Derived.Shelf.Slices.Equal
import Derived.Ground.Names2Prog
import Derived.Shelf.Slices.ReverseS
import Derived.Shelf.Slices.Clone
import Derived.Shelf.Slices.CompactS
import Derived.Shelf.Slices.Delete
import Derived.Shelf.Slices.Cells
import Derived.Shelf.Slices.In.SortNone
import Derived.Shelf.Slices.Empties2
import Derived.Ground.SlgnProg
import Derived.Shelf.SlicesE.Equal
import Derived.Shelf.SlicesE.Compact
import Derived.Ground.SlgfProg
import Derived.Shelf.SlicesE.IndexFunc
import Derived.Shelf.SlicesE.DeleteFunc
import Derived.Shelf.Bytes.SlEqualAll
import Derived.Shelf.Bytes.Small
import Derived.Test.YtgmbmfpfhcekiaaGreatProg
import Derived.Sort.OwnSorted
import Derived.Lib.DecodeN
import Derived.Maps.Keyed
import Derived.DeepKeys4
import Derived.Carry
import Derived.Laws.IdiomCopy
import Derived.Lib.AppendZerosOnto
import Derived.Lib.Overlaps
import Derived.Test.YtgmbmfpfhcekiaaGreatPk0
set_option maxRecDepth 100000
set_option linter.unusedVariables false
set_option linter.unusedSimpArgs false
namespace Go.Proofs.YtgmbmfpfhcekiaaGreat
section
open Go.Shelf
def Tryz.lays125_ren : Go.Shelf.Ren := ⟨fun | 125 => 115 | 128 => 150 | 129 => 151 | n => n, fun | 46 => 141 | 3 => 3 | 51 => 171 | 53 => 40 | 4 => 4 | 5 => 5 | 9 => 9 | n => n, fun | n => n⟩
theorem Tryz.lays125 : Go.Proofs.Lays.n125 Tryz.prog Tryz.lays125_ren := {
 mixed := by kernel_rfl
 f125 := Tryz.func115.trans (congrArg some (by kernel_rfl))
 f128 := Tryz.func150.trans (congrArg some (by kernel_rfl))
 f129 := Tryz.func151.trans (congrArg some (by kernel_rfl))
 t3 := zad
 a3 := zy
 z3 := zq
 v3 := Tryz.zeroValue3
 t4 := zbn
 a4 := zbp
 z4 := zai
 v4 := Tryz.zeroValue4
 t5 := zcf
 a5 := zec
 z5 := zcp
 v5 := Tryz.zeroValue5
 t9 := zo
 a9 := zac
 z9 := zx
 v9 := Tryz.zeroValue9
 t46 := zce
 a46 := Tryz.isAgg141
 z46 := Tryz.sizeOf141
 v46 := Tryz.zeroValue141
 t51 := zew
 a51 := Tryz.isAgg171
 z51 := Tryz.sizeOf171
 v51 := Tryz.zeroValue171
 t53 := zfa
 a53 := zh
 z53 := zc
 v53 := Tryz.zeroValue40 }
theorem Tryz.bits_Len (x : Int) (w : World) (h0 : 0 ≤ x) (h1 : x ≤ 18446744073709551615) :
  Calls Tryz.prog 115 #[.int .u64 x] w fun e w' => e = .returned (.int .i64 (Lib.bitLen x.toNat)) ∧ w' = w := Any.bits_Len Tryz.lays125 x w h0 h1
def Tryz.lays137_ren : Go.Shelf.Ren := ⟨fun | 137 => 101 | 217 => 134 | 266 => 161 | n => n, fun | 9 => 9 | 5 => 5 | 3 => 3 | n => n, fun | n => n⟩
theorem Tryz.lays137 : Go.Proofs.Lays.n137 Tryz.prog Tryz.lays137_ren := {
 mixed := by kernel_rfl
 f137 := Tryz.func101.trans (congrArg some (by kernel_rfl))
 f217 := Tryz.func134.trans (congrArg some (by kernel_rfl))
 f266 := Tryz.func161.trans (congrArg some (by kernel_rfl))
 t3 := zad
 a3 := zy
 z3 := zq
 v3 := Tryz.zeroValue3
 t5 := zcf
 a5 := zec
 z5 := zcp
 v5 := Tryz.zeroValue5
 t9 := zo
 a9 := zac
 z9 := zx
 v9 := Tryz.zeroValue9 }
open Go.RowKit in
theorem Tryz.strings_IndexByte (s : ByteArray) (c : Int) (w : World) :
  Calls Tryz.prog 101 #[.string s, .int .u8 c] w fun e w' => e = .returned (.int .i64 (Lib.indexByte s.data.toList c.toNat.toUInt8)) ∧ w' = w := Any.strings_IndexByte Tryz.lays137 s c w
def Tryz.lays219_ren : Go.Shelf.Ren := ⟨fun | 219 => 160 | 217 => 134 | 225 => 180 | 224 => 181 | 267 => 182 | 266 => 161 | 314 => 194 | n => n, fun | 9 => 9 | 3 => 3 | 4 => 4 | 5 => 5 | 46 => 141 | 146 => 208 | 51 => 171 | n => n, fun | 1 => 0 | n => n⟩
theorem Tryz.lays219 : Go.Proofs.Lays.n219 Tryz.prog Tryz.lays219_ren := {
 mixed := by kernel_rfl
 f217 := Tryz.func134.trans (congrArg some (by kernel_rfl))
 f219 := Tryz.func160.trans (congrArg some (by kernel_rfl))
 f224 := Tryz.func181.trans (congrArg some (by kernel_rfl))
 f225 := Tryz.func180.trans (congrArg some (by kernel_rfl))
 f266 := Tryz.func161.trans (congrArg some (by kernel_rfl))
 f267 := Tryz.func182.trans (congrArg some (by kernel_rfl))
 f314 := Tryz.func194.trans (congrArg some (by kernel_rfl))
 t3 := zad
 a3 := zy
 z3 := zq
 v3 := Tryz.zeroValue3
 t4 := zbn
 a4 := zbp
 z4 := zai
 v4 := Tryz.zeroValue4
 t5 := zcf
 a5 := zec
 z5 := zcp
 v5 := Tryz.zeroValue5
 t9 := zo
 a9 := zac
 z9 := zx
 v9 := Tryz.zeroValue9
 t46 := zce
 a46 := Tryz.isAgg141
 z46 := Tryz.sizeOf141
 v46 := Tryz.zeroValue141
 t51 := zew
 a51 := Tryz.isAgg171
 z51 := Tryz.sizeOf171
 v51 := Tryz.zeroValue171
 t146 := Tryz.underlying208
 a146 := Tryz.isAgg208
 z146 := Tryz.sizeOf208
 v146 := Tryz.zeroValue208
 g1 := by kernel_rfl }
open Go.RowKit Go.Lib in
theorem Tryz.stringslite_Index_one (s : ByteArray) (c : UInt8) (w : World) :
  Calls Tryz.prog 160 #[.string s, .string ⟨#[c]⟩] w fun e w' => e = .returned (.int .i64 (Lib.indexByte s.data.toList c)) ∧ w' = w := Any.stringslite_Index_one Tryz.lays219 s c w
def Tryz.lays144_ren : Go.Shelf.Ren := ⟨fun | 144 => 100 | 143 => 133 | 219 => 160 | 217 => 134 | 225 => 180 | 224 => 181 | 267 => 182 | 266 => 161 | 314 => 194 | n => n, fun | 9 => 9 | 4 => 4 | 3 => 3 | 5 => 5 | 46 => 141 | 146 => 208 | 51 => 171 | n => n, fun | 1 => 0 | n => n⟩
theorem Tryz.lays144 : Go.Proofs.Lays.n144 Tryz.prog Tryz.lays144_ren := {
 mixed := by kernel_rfl
 f143 := Tryz.func133.trans (congrArg some (by kernel_rfl))
 f144 := Tryz.func100.trans (congrArg some (by kernel_rfl))
 f217 := Tryz.func134.trans (congrArg some (by kernel_rfl))
 f219 := Tryz.func160.trans (congrArg some (by kernel_rfl))
 f224 := Tryz.func181.trans (congrArg some (by kernel_rfl))
 f225 := Tryz.func180.trans (congrArg some (by kernel_rfl))
 f266 := Tryz.func161.trans (congrArg some (by kernel_rfl))
 f267 := Tryz.func182.trans (congrArg some (by kernel_rfl))
 f314 := Tryz.func194.trans (congrArg some (by kernel_rfl))
 t3 := zad
 a3 := zy
 z3 := zq
 v3 := Tryz.zeroValue3
 t4 := zbn
 a4 := zbp
 z4 := zai
 v4 := Tryz.zeroValue4
 t5 := zcf
 a5 := zec
 z5 := zcp
 v5 := Tryz.zeroValue5
 t9 := zo
 a9 := zac
 z9 := zx
 v9 := Tryz.zeroValue9
 t46 := zce
 a46 := Tryz.isAgg141
 z46 := Tryz.sizeOf141
 v46 := Tryz.zeroValue141
 t51 := zew
 a51 := Tryz.isAgg171
 z51 := Tryz.sizeOf171
 v51 := Tryz.zeroValue171
 t146 := Tryz.underlying208
 a146 := Tryz.isAgg208
 z146 := Tryz.sizeOf208
 v146 := Tryz.zeroValue208
 g1 := by kernel_rfl }
open Go.RowKit Go.Lib in
theorem Tryz.strings_Contains (s sub : ByteArray) (m : Int) (w : World) (hs : s.size < 4294967281) (hm : w.cell? ⟨0, 0, none⟩ = some (.int .i64 m)) :
  Calls Tryz.prog 100 #[.string s, .string sub] w fun e w' => e = .returned (.bool (Lib.contains s.data.toList sub.data.toList)) ∧ w' = w := Any.strings_Contains Tryz.lays144 s sub m w hs hm
def Tryz.lays190_ren : Go.Shelf.Ren := ⟨fun | 190 => 188 | 125 => 115 | 258 => 202 | 128 => 150 | 129 => 151 | 302 => 205 | 303 => 206 | 304 => 207 | 305 => 208 | 306 => 209 | 307 => 210 | 308 => 120 | 309 => 211 | 310 => 212 | 333 => 214 | 329 => 168 | 330 => 169 | 334 => 215 | 335 => 216 | 336 => 154 | 344 => 217 | n => n, fun | 31 => 23 | 9 => 9 | 3 => 3 | 46 => 141 | 0 => 0 | 51 => 171 | 53 => 40 | 4 => 4 | 183 => 164 | 182 => 163 | 131 => 85 | 5 => 5 | 218 => 182 | 222 => 186 | 228 => 200 | 229 => 201 | n => n, fun | n => n⟩
theorem Tryz.lays190 : Go.Proofs.Lays.n190 Tryz.prog Tryz.lays190_ren := {
 mixed := by kernel_rfl
 f125 := Tryz.func115.trans (congrArg some (by kernel_rfl))
 f128 := Tryz.func150.trans (congrArg some (by kernel_rfl))
 f129 := Tryz.func151.trans (congrArg some (by kernel_rfl))
 f190 := Tryz.func188.trans (congrArg some (by kernel_rfl))
 f258 := Tryz.func202.trans (congrArg some (by kernel_rfl))
 f302 := Tryz.func205.trans (congrArg some (by kernel_rfl))
 f303 := Tryz.func206.trans (congrArg some (by kernel_rfl))
 f304 := Tryz.func207.trans (congrArg some (by kernel_rfl))
 f305 := Tryz.func208.trans (congrArg some (by kernel_rfl))
 f306 := Tryz.func209.trans (congrArg some (by kernel_rfl))
 f307 := Tryz.func210.trans (congrArg some (by kernel_rfl))
 f308 := Tryz.func120.trans (congrArg some (by kernel_rfl))
 f309 := Tryz.func211.trans (congrArg some (by kernel_rfl))
 f310 := Tryz.func212.trans (congrArg some (by kernel_rfl))
 f329 := Tryz.func168.trans (congrArg some (by kernel_rfl))
 f330 := Tryz.func169.trans (congrArg some (by kernel_rfl))
 f333 := Tryz.func214.trans (congrArg some (by kernel_rfl))
 f334 := Tryz.func215.trans (congrArg some (by kernel_rfl))
 f335 := Tryz.func216.trans (congrArg some (by kernel_rfl))
 f336 := Tryz.func154.trans (congrArg some (by kernel_rfl))
 f344 := Tryz.func217.trans (congrArg some (by kernel_rfl))
 t0 := zdi
 a0 := zeo
 z0 := zei
 v0 := Tryz.zeroValue0
 t3 := zad
 a3 := zy
 z3 := zq
 v3 := Tryz.zeroValue3
 t4 := zbn
 a4 := zbp
 z4 := zai
 v4 := Tryz.zeroValue4
 t5 := zcf
 a5 := zec
 z5 := zcp
 v5 := Tryz.zeroValue5
 t9 := zo
 a9 := zac
 z9 := zx
 v9 := Tryz.zeroValue9
 t31 := zj
 a31 := zbb
 z31 := zam
 v31 := Tryz.zeroValue23
 t46 := zce
 a46 := Tryz.isAgg141
 z46 := Tryz.sizeOf141
 v46 := Tryz.zeroValue141
 t51 := zew
 a51 := Tryz.isAgg171
 z51 := Tryz.sizeOf171
 v51 := Tryz.zeroValue171
 t53 := zfa
 a53 := zh
 z53 := zc
 v53 := Tryz.zeroValue40
 t131 := Tryz.underlying85
 a131 := Tryz.isAgg85
 z131 := Tryz.sizeOf85
 v131 := Tryz.zeroValue85
 t182 := Tryz.underlying163
 a182 := Tryz.isAgg163
 z182 := Tryz.sizeOf163
 v182 := Tryz.zeroValue163
 t183 := Tryz.underlying164
 a183 := Tryz.isAgg164
 z183 := Tryz.sizeOf164
 v183 := Tryz.zeroValue164
 t218 := Tryz.underlying182
 a218 := zdn
 z218 := zex
 v218 := Tryz.zeroValue182
 t222 := Tryz.underlying186
 a222 := Tryz.isAgg186
 z222 := Tryz.sizeOf186
 v222 := Tryz.zeroValue186
 t228 := Tryz.underlying200
 a228 := Tryz.isAgg200
 z228 := Tryz.sizeOf200
 v228 := Tryz.zeroValue200
 t229 := Tryz.underlying201
 a229 := Tryz.isAgg201
 z229 := Tryz.sizeOf201
 v229 := Tryz.zeroValue201 }
open Go.Sort Go.RowKit in
theorem Tryz.slices_Sort_string (blk off cap : Nat) (ss : List (List UInt8)) (w : World) (hH : Holds encStr w blk off ss.toArray) (hblk : blk < w.heap.size) (hsz : ss.length < 4611686018427387904) :
  Calls Tryz.prog 188 #[.slice (some ⟨blk, off, none⟩) ss.length cap] w fun e w' =>
   e = .returned (.tuple #[]) ∧ ∃ n os, w' = grow (putRow encStr (Sort.ahead w n) blk off (ss.mergeSort fun x y => decide (x ≤ y)).toArray) os := Any.slices_Sort_string Tryz.lays190 blk off cap ss w hH hblk hsz
def Tryz.lays149_ren : Go.Shelf.Ren := ⟨fun | 149 => 135 | 222 => 162 | n => n, fun | 9 => 9 | 5 => 5 | 3 => 3 | 4 => 4 | n => n, fun | n => n⟩
theorem Tryz.lays149 : Go.Proofs.Lays.n149 Tryz.prog Tryz.lays149_ren := {
 mixed := by kernel_rfl
 f149 := Tryz.func135.trans (congrArg some (by kernel_rfl))
 f222 := Tryz.func162.trans (congrArg some (by kernel_rfl))
 t3 := zad
 a3 := zy
 z3 := zq
 v3 := Tryz.zeroValue3
 t4 := zbn
 a4 := zbp
 z4 := zai
 v4 := Tryz.zeroValue4
 t5 := zcf
 a5 := zec
 z5 := zcp
 v5 := Tryz.zeroValue5
 t9 := zo
 a9 := zac
 z9 := zx
 v9 := Tryz.zeroValue9 }
open Go.RowKit Go.Lib in
theorem Tryz.strings_LastIndexByte (s : ByteArray) (c : Int) (hs : s.size < 4611686018427387904) (w : World) :
  Calls Tryz.prog 135 #[.string s, .int .u8 c] w fun e w' => e = .returned (.int .i64 (Lib.lastIndexByte s c)) ∧ w' = w := Any.strings_LastIndexByte Tryz.lays149 s c hs w
def Tryz.laysGw17_ren : Go.Shelf.Ren := ⟨fun | 17 => 199 | 15 => 204 | 20 => 213 | n => n, fun | 9 => 9 | 23 => 216 | 4 => 4 | 3 => 3 | 0 => 0 | 21 => 21 | n => n, fun | n => n⟩
theorem Tryz.laysGw17 : Go.Proofs.LaysGw.n17 Tryz.prog Tryz.laysGw17_ren := {
 mixed := by kernel_rfl
 f15 := Tryz.func204.trans (congrArg some (by kernel_rfl))
 f17 := Tryz.func199.trans (congrArg some (by kernel_rfl))
 f20 := Tryz.func213.trans (congrArg some (by kernel_rfl))
 t0 := zdi
 a0 := zeo
 z0 := zei
 v0 := Tryz.zeroValue0
 i0 := by kernel_rfl
 t3 := zad
 a3 := zy
 z3 := zq
 v3 := Tryz.zeroValue3
 i3 := by kernel_rfl
 t4 := zbn
 a4 := zbp
 z4 := zai
 v4 := Tryz.zeroValue4
 i4 := by kernel_rfl
 t9 := zo
 a9 := zac
 z9 := zx
 v9 := Tryz.zeroValue9
 i9 := by kernel_rfl
 t21 := Tryz.underlying21
 a21 := Tryz.isAgg21
 z21 := Tryz.sizeOf21
 v21 := Tryz.zeroValue21
 i21 := by kernel_rfl
 t23 := Tryz.underlying216
 a23 := Tryz.isAgg216
 z23 := Tryz.sizeOf216
 v23 := Tryz.zeroValue216
 i23 := by kernel_rfl }
open Go.RowKit Go.Lib in
theorem Tryz.strings_ContainsFunc_runes (g : Nat) (lb : Array Value) (eg : ∀ args w, (callFunc g args).run Tryz.prog w = .ok (.enter g args) w) (p : Nat → Bool) (s : ByteArray) (w : World) (hp : PredAtRunes Tryz.prog g lb p w) :
  Calls Tryz.prog 199 #[.string s, .func (.func g) #[] lb] w fun e w' => e = .returned (.bool (decide (0 ≤ Lib.idxFunc p true s))) ∧ Below w.heap.size w w' := Any.strings_ContainsFunc_runes Tryz.laysGw17 g lb eg p s w hp
def Tryz.lays99_ren : Go.Shelf.Ren := ⟨fun | 99 => 110 | 206 => 137 | n => n, fun | 9 => 9 | 4 => 4 | 3 => 3 | n => n, fun | n => n⟩
theorem Tryz.lays99 : Go.Proofs.Lays.n99 Tryz.prog Tryz.lays99_ren := {
 mixed := by kernel_rfl
 f99 := Tryz.func110.trans (congrArg some (by kernel_rfl))
 f206 := Tryz.func137.trans (congrArg some (by kernel_rfl))
 t3 := zad
 a3 := zy
 z3 := zq
 v3 := Tryz.zeroValue3
 t4 := zbn
 a4 := zbp
 z4 := zai
 v4 := Tryz.zeroValue4
 t9 := zo
 a9 := zac
 z9 := zx
 v9 := Tryz.zeroValue9 }
open Go.RowKit Go.Lib in
theorem Tryz.strings_HasPrefix (s p : ByteArray) (w : World) :
  Calls Tryz.prog 110 #[.string s, .string p] w fun e w' => e = .returned (.bool (Lib.hasPrefix s.data.toList p.data.toList)) ∧ w' = w := Any.strings_HasPrefix Tryz.lays99 s p w
def Tryz.lays110_ren : Go.Shelf.Ren := ⟨fun | 110 => 67 | 109 => 116 | n => n, fun | 31 => 23 | 9 => 9 | 4 => 4 | 3 => 3 | 0 => 0 | n => n, fun | n => n⟩
theorem Tryz.lays110 : Go.Proofs.Lays.n110 Tryz.prog Tryz.lays110_ren := {
 mixed := by kernel_rfl
 f109 := Tryz.func116.trans (congrArg some (by kernel_rfl))
 f110 := Tryz.func67.trans (congrArg some (by kernel_rfl))
 t0 := zdi
 a0 := zeo
 z0 := zei
 v0 := Tryz.zeroValue0
 t3 := zad
 a3 := zy
 z3 := zq
 v3 := Tryz.zeroValue3
 t4 := zbn
 a4 := zbp
 z4 := zai
 v4 := Tryz.zeroValue4
 t9 := zo
 a9 := zac
 z9 := zx
 v9 := Tryz.zeroValue9
 t31 := zj
 a31 := zbb
 z31 := zam
 v31 := Tryz.zeroValue23 }
open Go.Lib in
theorem Tryz.slices_Contains_string (b off n c : Nat) (zs : List ByteArray) (x : ByteArray) (w : World) (hz : n ≤ zs.length) (hbig : n ≤ 9223372036854775807) (hc : ∀ j, j < zs.length → w.cell? ⟨b, off + j, none⟩ = some (.string (zs.getD j ByteArray.empty))) :
  Calls Tryz.prog 67 #[.slice (some ⟨b, off, none⟩) n c, .string x] w fun e w' => e = .returned (.bool (Lib.containsS (zs.take n) x)) ∧ w' = w := Any.slices_Contains_string Tryz.lays110 b off n c zs x w hz hbig hc
open Go.Lib in
theorem Tryz.slices_Contains_string_empty (a : Option Addr) (c : Nat) (x : ByteArray) (w : World) :
  Calls Tryz.prog 67 #[.slice a 0 c, .string x] w fun e w' => e = .returned (.bool false) ∧ w' = w := Any.slices_Contains_string_empty Tryz.lays110 a c x w
def Tryz.lays193_ren : Go.Shelf.Ren := ⟨fun | 193 => 177 | n => n, fun | 31 => 23 | 9 => 9 | 4 => 4 | 3 => 3 | 0 => 0 | n => n, fun | n => n⟩
theorem Tryz.lays193 : Go.Proofs.Lays.n193 Tryz.prog Tryz.lays193_ren := {
 mixed := by kernel_rfl
 f193 := Tryz.func177.trans (congrArg some (by kernel_rfl))
 t0 := zdi
 a0 := zeo
 z0 := zei
 v0 := Tryz.zeroValue0
 t3 := zad
 a3 := zy
 z3 := zq
 v3 := Tryz.zeroValue3
 t4 := zbn
 a4 := zbp
 z4 := zai
 v4 := Tryz.zeroValue4
 t9 := zo
 a9 := zac
 z9 := zx
 v9 := Tryz.zeroValue9
 t31 := zj
 a31 := zbb
 z31 := zam
 v31 := Tryz.zeroValue23 }
open Go.RowKit Go.Lib in
theorem Tryz.slices_Equal_string (b1 o1 n c b2 o2 m d : Nat) (xs ys : List ByteArray) (w : World) (hx : n ≤ xs.length) (hy : m ≤ ys.length) (hbig : n ≤ 9223372036854775807) (hbig2 : m ≤ 9223372036854775807) (hc1 : ∀ j, j < xs.length → w.cell? ⟨b1, o1 + j, none⟩ = some (.string (xs.getD j ByteArray.empty))) (hc2 : ∀ j, j < ys.length → w.cell? ⟨b2, o2 + j, none⟩ = some (.string (ys.getD j ByteArray.empty))) :
  Calls Tryz.prog 177 #[.slice (some ⟨b1, o1, none⟩) n c, .slice (some ⟨b2, o2, none⟩) m d] w fun e w' => e = .returned (.bool (decide (xs.take n = ys.take m))) ∧ ∃ q, w' = w.drewN q := Any.slices_Equal_string Tryz.lays193 b1 o1 n c b2 o2 m d xs ys w hx hy hbig hbig2 hc1 hc2
open Go.RowKit Go.Lib in
theorem Tryz.slices_Equal_string_empty (a1 a2 : Option Addr) (c m d : Nat) (w : World) (hbig2 : m ≤ 9223372036854775807) :
  Calls Tryz.prog 177 #[.slice a1 0 c, .slice a2 m d] w fun e w' => e = .returned (.bool (decide (m = 0))) ∧ w' = w := Any.slices_Equal_string_empty Tryz.lays193 a1 a2 c m d w hbig2
def Tryz.laysNm217_ren : Go.Shelf.Ren := ⟨fun | 17 => 105 | n => n, fun | 24 => 23 | 9 => 9 | 3 => 3 | 4 => 4 | 0 => 0 | n => n, fun | n => n⟩
theorem Tryz.laysNm217 : Go.Proofs.Lays2.n17 Tryz.prog Tryz.laysNm217_ren := {
 mixed := by kernel_rfl
 f17 := Tryz.func105.trans (congrArg some (by kernel_rfl))
 t0 := zdi
 a0 := zeo
 z0 := zei
 v0 := Tryz.zeroValue0
 t3 := zad
 a3 := zy
 z3 := zq
 v3 := Tryz.zeroValue3
 t4 := zbn
 a4 := zbp
 z4 := zai
 v4 := Tryz.zeroValue4
 t9 := zo
 a9 := zac
 z9 := zx
 v9 := Tryz.zeroValue9
 t24 := zj
 a24 := zbb
 z24 := zam
 v24 := Tryz.zeroValue23 }
open Go.RowKit Go.Lib Go.Sort in
theorem Tryz.slices_Reverse_string (blk off cap : Nat) (zs : List (List UInt8)) (w : World) (hH : Holds encStr w blk off zs.toArray) (hsz : zs.length ≤ 9223372036854775807) :
  Calls Tryz.prog 105 #[.slice (some ⟨blk, off, none⟩) zs.length cap] w fun e w' => e = .returned (.tuple #[]) ∧ ∃ n, w' = putRow encStr (Sort.ahead w n) blk off zs.reverse.toArray := Any.slices_Reverse_string Tryz.laysNm217 blk off cap zs w hH hsz
open Go.RowKit Go.Lib Go.Sort in
theorem Tryz.slices_Reverse_string_empty (a : Option Addr) (cap : Nat) (w : World) :
  Calls Tryz.prog 105 #[.slice a 0 cap] w fun e w' => e = .returned (.tuple #[]) ∧ w' = w := Any.slices_Reverse_string_empty Tryz.laysNm217 a cap w
def Tryz.laysNm216_ren : Go.Shelf.Ren := ⟨fun | 16 => 75 | n => n, fun | 24 => 23 | 9 => 9 | 4 => 4 | n => n, fun | n => n⟩
theorem Tryz.laysNm216 : Go.Proofs.Lays2.n16 Tryz.prog Tryz.laysNm216_ren := {
 mixed := by kernel_rfl
 f16 := Tryz.func75.trans (congrArg some (by kernel_rfl))
 t4 := zbn
 a4 := zbp
 z4 := zai
 v4 := Tryz.zeroValue4
 t9 := zo
 a9 := zac
 z9 := zx
 v9 := Tryz.zeroValue9
 t24 := zj
 a24 := zbb
 z24 := zam
 v24 := Tryz.zeroValue23
 i9 := by kernel_rfl }
open Go.RowKit Go.Lib in
theorem Tryz.slices_Clone_string (b off n c : Nat) (zs : List ByteArray) (w : World) (hz : n ≤ zs.length) (hbig : n * 16 ≤ 140737488355328) (hc : ∀ j, j < zs.length → w.cell? ⟨b, off + j, none⟩ = some (.string (zs.getD j ByteArray.empty))) :
  Calls Tryz.prog 75 #[.slice (some ⟨b, off, none⟩) n c] w fun e w' => ∃ v', e = .returned v' ∧ w'.ownsRow w.heap.size 9 1 v' n ((zs.take n).map (Value.string)) ∧ v' ≠ .slice none 0 0 ∧ Below w.heap.size w w' := Any.slices_Clone_string Tryz.laysNm216 b off n c zs w hz hbig hc
open Go.RowKit Go.Lib in
theorem Tryz.slices_Clone_string_nil (n c : Nat) (w : World) :
  Calls Tryz.prog 75 #[.slice none n c] w fun e w' => e = .returned (.slice none 0 0) ∧ w' = w := Any.slices_Clone_string_nil Tryz.laysNm216 n c w
open Go.RowKit Go.Lib in
theorem Tryz.slices_Clone_string_zero (a : Addr) (c : Nat) (w : World) :
  Calls Tryz.prog 75 #[.slice (some a) 0 c] w fun e w' => ∃ v', e = .returned v' ∧ w'.ownsRow w.heap.size 9 1 v' 0 [] ∧ v' ≠ .slice none 0 0 ∧ Below w.heap.size w w' := Any.slices_Clone_string_zero Tryz.laysNm216 a c w
def Tryz.lays194_ren : Go.Shelf.Ren := ⟨fun | 194 => 189 | n => n, fun | 31 => 23 | 9 => 9 | 3 => 3 | 4 => 4 | 0 => 0 | n => n, fun | n => n⟩
theorem Tryz.lays194 : Go.Proofs.Lays.n194 Tryz.prog Tryz.lays194_ren := {
 mixed := by kernel_rfl
 f194 := Tryz.func189.trans (congrArg some (by kernel_rfl))
 t0 := zdi
 a0 := zeo
 z0 := zei
 v0 := Tryz.zeroValue0
 t3 := zad
 a3 := zy
 z3 := zq
 v3 := Tryz.zeroValue3
 t4 := zbn
 a4 := zbp
 z4 := zai
 v4 := Tryz.zeroValue4
 t9 := zo
 a9 := zac
 z9 := zx
 v9 := Tryz.zeroValue9
 t31 := zj
 a31 := zbb
 z31 := zam
 v31 := Tryz.zeroValue23 }
open Go.RowKit Go.Lib Go.Sort in
theorem Tryz.slices_Compact_string (blk off cap : Nat) (zs : List (List UInt8)) (w : World) (hH : Holds encStr w blk off zs.toArray) (hsz : zs.length ≤ 9223372036854775807) (hcap : zs.length ≤ cap) :
  Calls Tryz.prog 189 #[.slice (some ⟨blk, off, none⟩) zs.length cap] w fun e w' => e = .returned (.slice (some ⟨blk, off, none⟩) (Lib.compact zs).length cap) ∧ ∃ q, w' = putRow encStr (Sort.ahead w q) blk off (Lib.compact zs ++ List.replicate (zs.length - (Lib.compact zs).length) []).toArray := Any.slices_Compact_string Tryz.lays194 blk off cap zs w hH hsz hcap
open Go.RowKit Go.Lib Go.Sort in
theorem Tryz.slices_Compact_string_empty (a : Option Addr) (cap : Nat) (w : World) :
  Calls Tryz.prog 189 #[.slice a 0 cap] w fun e w' => e = .returned (.slice a 0 cap) ∧ w' = w := Any.slices_Compact_string_empty Tryz.lays194 a cap w
open Go.RowKit Go.Sort in
theorem Tryz.slices_Sort_string_none (p : Option Addr) (cap : Nat) (w : World) :
  Calls Tryz.prog 188 #[.slice p 0 cap] w fun e w' => e = .returned (.tuple #[]) ∧ w' = w := Any.slices_Sort_string_none Tryz.lays190 p cap w
open Go.RowKit Go.Lib in
theorem Tryz.slices_Equal_string_lens (a1 a2 : Option Addr) (n c m d : Nat) (w : World) (hnm : n ≠ m) :
  Calls Tryz.prog 177 #[.slice a1 n c, .slice a2 m d] w fun e w' => e = .returned (.bool false) ∧ w' = w := Any.slices_Equal_string_lens Tryz.lays193 a1 a2 n c m d w hnm
def Tryz.laysSlE43_f65_ren : Go.Shelf.Ren := ⟨fun | 43 => 65 | n => n, fun | 22 => 37 | 23 => 40 | 3 => 3 | 4 => 4 | 0 => 0 | n => n, fun | n => n⟩
theorem Tryz.laysSlE43_f65 : Go.Proofs.SlLaysE.n43 Tryz.prog Tryz.laysSlE43_f65_ren := {
 mixed := by kernel_rfl
 f43 := ⟨Tryz.f65.name, jd, Tryz.func65.trans (congrArg some (by kernel_rfl))⟩
 t0 := zdi
 a0 := zeo
 z0 := zei
 v0 := Tryz.zeroValue0
 t3 := zad
 a3 := zy
 z3 := zq
 v3 := Tryz.zeroValue3
 t4 := zbn
 a4 := zbp
 z4 := zai
 v4 := Tryz.zeroValue4
 t22 := zd
 a22 := Tryz.isAgg37
 z22 := Tryz.sizeOf37
 v22 := Tryz.zeroValue37
 a23 := zh
 z23 := zc }
open Go.RowKit Go.Lib Go.Sort in
theorem Tryz.slices_Compact_f65 {α : Type} [Inhabited α] [DecidableEq α] (enc : α → Value) (hO : OneCell enc) (heq : EqlAt Tryz.prog 40 enc (fun x y => decide (x = y))) (hne : NeqAt Tryz.prog 40 enc (fun x y => decide (x = y))) (zr : α) (v23 : ∀ w, (zeroValue 40).run Tryz.prog w = .ok (enc zr) w) (blk off cap : Nat) (d : Array α) (w : World) (hH : Holds enc w blk off d) (hsz : d.size ≤ 9223372036854775807) (hcap : d.size ≤ cap) :
  Calls Tryz.prog 65 #[.slice (some ⟨blk, off, none⟩) d.size cap] w fun e w' => e = .returned (.slice (some ⟨blk, off, none⟩) (compactUpTo d d.size).length cap) ∧ ∃ q, w' = putRow enc (Sort.ahead w q) blk off (compactUpTo d d.size ++ List.replicate (d.size - (compactUpTo d d.size).length) zr).toArray := AnyE.slices_Compact Tryz.laysSlE43_f65 enc hO heq hne zr v23 blk off cap d w hH hsz hcap
end
section
open Go.RowKit Go.Sort
def srt (ss : List Tx) : List Tx := ss.mergeSort fun x y => decide (x ≤ y)
theorem mJ (ss : List Tx) : (srt ss).length = ss.length := by simp [srt]
theorem wL (A : Option Addr) (c : Nat) (ss : List Tx) (w : World) (h : Own w 9 1 A ss.length c (SB ss)) (hs : ss.length < 4611686018427387904) :
  Calls Tryz.prog 188 #[.slice A ss.length c] w fun e w' => e = .returned (.tuple #[]) ∧ Own w' 9 1 A ss.length c (SB (srt ss)) ∧ Frm (ob A) w w' := by
 cases A with
 | none =>
  have h0 : ss = [] := by
   rcases h.cases with ⟨_, h1, _⟩ | ⟨g, cur, h1, _⟩
   · exact zaa h1
   cases h1
  subst h0
  refine (Tryz.slices_Sort_string_none none c w).mono fun e w' ⟨he, hw⟩ => ?_
  subst hw
  exact ⟨he, by simpa [srt] using h, Frm.refl _ _⟩
 | some ad =>
  obtain ⟨g, rfl⟩ : ∃ g, ad = ⟨g, 0, none⟩ := by
   rcases h.cases with ⟨h1, _⟩ | ⟨g, cur, h1, _⟩
   · cases h1
   cases h1; exact ⟨g, rfl⟩
  obtain ⟨h1, h2⟩ := h.holds
  refine (Tryz.slices_Sort_string g 0 c ss w h1 h2 hs).mono fun e w' ⟨he, m, os, hw⟩ => ?_
  subst hw
  obtain ⟨h3, h4⟩ := h.put (m := m) (os := os) (ts := srt ss) (mJ ss)
  exact ⟨he, h3, h4⟩
theorem uV (ss : List Tx) : (Lib.compact ss).length ≤ ss.length := by
 unfold Lib.compact Lib.compactUpTo
 rw [zaj]
 refine zay (zdc _ _) ?_
 simp
theorem pO (A : Option Addr) (c : Nat) (ss : List Tx) (w : World) (h : Own w 9 1 A ss.length c (SB ss)) (hs : ss.length ≤ 9223372036854775807) :
  Calls Tryz.prog 189 #[.slice A ss.length c] w fun e w' => e = .returned (.slice A (Lib.compact ss).length c) ∧ Own w' 9 1 A (Lib.compact ss).length c (SB (Lib.compact ss)) ∧ Frm (ob A) w w' := by
 cases A with
 | none =>
  have h0 : ss = [] := by
   rcases h.cases with ⟨_, h1, _⟩ | ⟨g, cur, h1, _⟩
   · exact zaa h1
   cases h1
  subst h0
  refine (Tryz.slices_Compact_string_empty none c w).mono fun e w' ⟨he, hw⟩ => ?_
  subst hw
  exact ⟨he, by simpa [Lib.compact, Lib.compactUpTo] using h, Frm.refl _ _⟩
 | some ad =>
  obtain ⟨g, rfl⟩ : ∃ g, ad = ⟨g, 0, none⟩ := by
   rcases h.cases with ⟨h1, _⟩ | ⟨g, cur, h1, _⟩
   · cases h1
   cases h1; exact ⟨g, rfl⟩
  obtain ⟨h1, h2⟩ := h.holds
  refine (Tryz.slices_Compact_string g 0 c ss w h1 hs h.le).mono fun e w' ⟨he, m, hw⟩ => ?_
  have hle := uV ss
  obtain ⟨h3, h4⟩ := h.put (m := m) (os := #[]) (ts := Lib.compact ss ++ List.replicate (ss.length - (Lib.compact ss).length) []) (by simp; omega)
  have hg : grow (putRow encStr (Sort.ahead w m) g 0 (Lib.compact ss ++ List.replicate (ss.length - (Lib.compact ss).length) []).toArray) #[] = w' := by rw [hw, pE]
  rw [hg] at h3 h4
  refine ⟨he, ?_, h4⟩
  have h5 := h3.short (k := (Lib.compact ss).length) hle
  simpa [eT, SB, List.take_append] using h5
theorem bas {ss : List Tx} {j : Nat} : (ss.map fun l => (⟨l.toArray⟩ : ByteArray)).getD j ByteArray.empty = ⟨(ss.getD j []).toArray⟩ := by
 simp only [List.getD_eq_getElem?_getD, zca]
 cases ss[j]? <;> rfl
theorem qXh {a b : List Tx} (h : (a.map fun l => (⟨l.toArray⟩ : ByteArray)) = b.map fun l => (⟨l.toArray⟩ : ByteArray)) : a = b := by
 refine (List.map_inj_right fun x y hxy => ?_).1 h
 injection hxy with h1
 simpa using congrArg Array.toList h1
theorem uW (A B : Option Addr) (c d : Nat) (xs ys : List Tx) (w : World) (hx : Rd w 1 A xs.length (SB xs)) (hy : Rd w 1 B ys.length (SB ys)) (h1 : xs.length ≤ 9223372036854775807) (h2 : ys.length ≤ 9223372036854775807) :
  Calls Tryz.prog 177 #[.slice A xs.length c, .slice B ys.length d] w fun e w' => e = .returned (.bool (decide (xs = ys))) ∧ qV w w' := by
 by_cases hl : xs.length = ys.length
 ·
  by_cases h0 : xs.length = 0
  ·
   have e1 : xs = [] := zaa h0
   have e2 : ys = [] := zaa jo
   subst e1 e2
   refine (Tryz.slices_Equal_string_empty A B c 0 d w jo).mono fun e w' ⟨he, hw⟩ => ?_
   subst hw
   exact ⟨by simpa using he, qV.refl _⟩
  obtain ⟨b1, o1, rfl, _, hc1⟩ := Rd.plain hx jo
  obtain ⟨b2, o2, rfl, _, hc2⟩ := Rd.plain hy jo
  refine (Tryz.slices_Equal_string b1 o1 xs.length c b2 o2 ys.length d (xs.map fun l => ⟨l.toArray⟩) (ys.map fun l => ⟨l.toArray⟩) w jp jp h1 h2 (fun j hj => ?_) (fun j hj => ?_)).mono fun e w' ⟨he, q, hw⟩ => ?_
  ·
   rw [bas]
   simp only [zaj] at hj
   exact hc1 j _ (by simp [SB, ze hj, List.getD])
  ·
   rw [bas]
   simp only [zaj] at hj
   exact hc2 j _ (by simp [SB, ze hj, List.getD])
  refine ⟨?_, q, hw⟩
  rw [he, zt jp, zt jp]
  congr 2
  rw [decide_eq_decide]
  exact ⟨qXh, fun h => by rw [h]⟩
 refine (Tryz.slices_Equal_string_lens A B xs.length c ys.length d w hl).mono fun e w' ⟨he, hw⟩ => ?_
 subst hw
 exact ⟨by rw [he, decide_eq_false (fun h => hl (by rw [h]))], qV.refl _⟩
theorem pG (A : Option Addr) (c : Nat) (zs : List Tx) (x : Tx) (w : World) (hz : Rd w 1 A zs.length (SB zs)) (h1 : zs.length ≤ 9223372036854775807) :
  Calls Tryz.prog 67 #[.slice A zs.length c, encStr x] w fun e w' => e = .returned (.bool (decide (x ∈ zs))) ∧ w = w' := by
 by_cases h0 : zs.length = 0
 ·
  have e1 : zs = [] := zaa h0
  subst e1
  refine (Tryz.slices_Contains_string_empty A c ⟨x.toArray⟩ w).mono fun e w' ⟨he, hw⟩ => ⟨by simpa using he, hw.symm⟩
 obtain ⟨b1, o1, rfl, _, hc1⟩ := Rd.plain hz jo
 refine (Tryz.slices_Contains_string b1 o1 zs.length c (zs.map fun l => ⟨l.toArray⟩) ⟨x.toArray⟩ w jp h1 (fun j hj => ?_)).mono fun e w' ⟨he, hw⟩ => ⟨?_, hw.symm⟩
 ·
  rw [bas]
  simp only [zaj] at hj
  exact hc1 j _ (by simp [SB, ze hj, List.getD])
 rw [he, zt jp]
 congr 2
 rw [zck, Lib.containsS_iff, decide_eq_true_eq]
 constructor
 ·
  intro h
  obtain ⟨y, hy, hxy⟩ := List.mem_map.1 h
  injection hxy with h2
  have := congrArg Array.toList h2
  simp at this
  rwa [← this]
 intro h
 exact List.mem_map.2 ⟨x, h, rfl⟩
theorem nC (A : Option Addr) (c : Nat) (zs : List Tx) (w : World) (hz : Rd w 1 A zs.length (SB zs)) (h1 : zs.length * 16 ≤ 140737488355328) :
  Calls Tryz.prog 75 #[.slice A zs.length c] w fun e w' => ∃ B d, e = .returned (.slice B zs.length d) ∧ Own w' 9 1 B zs.length d (SB zs) ∧ (∀ x ∈ ob B, w.heap.size ≤ x) ∧ Frm [] w w' := by
 have own : ∀ v' w', World.ownsRow w' w.heap.size 9 1 v' zs.length (SB zs) → Below w.heap.size w w' → ∃ B d, v' = .slice B zs.length d ∧ Own w' 9 1 B zs.length d (SB zs) ∧ (∀ x ∈ ob B, w.heap.size ≤ x) ∧ Frm [] w w' := by
  intro v' w' ho hb
  rcases ho.2 with ⟨rfl, h2⟩ | ⟨g, cap, cur, rfl, hg, hb1, h4, h5, h6, h7⟩
  · refine ⟨none, 0, by rw [h2], ⟨ho.1, .inl ⟨by rw [h2], h2⟩⟩, by simp [ob], Frm.of_below hb⟩
  exact ⟨some ⟨g, 0, none⟩, cap, rfl, ⟨ho.1, .inr ⟨g, cap, cur, rfl, zah _, hb1, h4, h5, h6, h7⟩⟩, by simp [ob]; exact hg, Frm.of_below hb⟩
 by_cases h0 : zs.length = 0
 ·
  have e1 : zs = [] := zaa h0
  subst e1
  cases A with
  | none =>
   refine (Tryz.slices_Clone_string_nil 0 c w).mono fun e w' ⟨he, hw⟩ => ?_
   subst hw
   exact ⟨none, 0, he, Own.nil _ _ _, by simp [ob], Frm.refl _ _⟩
  | some a =>
   refine (Tryz.slices_Clone_string_zero a c w).mono fun e w' ⟨v', he, ho, _, hb⟩ => ?_
   obtain ⟨B, d, rfl, h2⟩ := own v' w' ho hb
   exact ⟨B, d, he, h2⟩
 obtain ⟨b1, o1, rfl, _, hc1⟩ := Rd.plain hz jo
 refine (Tryz.slices_Clone_string b1 o1 zs.length c (zs.map fun l => ⟨l.toArray⟩) w jp h1 (fun j hj => ?_)).mono fun e w' ⟨v', he, ho, _, hb⟩ => ?_
 ·
  rw [bas]
  simp only [zaj] at hj
  exact hc1 j _ (by simp [SB, ze hj, List.getD])
 rw [zt jp, zdk] at ho
 obtain ⟨B, d, rfl, h2⟩ := own v' w' ho hb
 exact ⟨B, d, he, h2⟩
end
section
open Go.RowKit Go.Sort
def low (c : UInt8) : UInt8 := if 65 ≤ c.toNat ∧ c.toNat ≤ 90 then c + 32 else c
theorem mK (c : UInt8) : (low c).toNat = if 65 ≤ c.toNat ∧ c.toNat ≤ 90 then c.toNat + 32 else c.toNat := by
 unfold low
 split
 ·
  rename_i h
  rw [UInt8.toNat_add]
  have : (32 : UInt8).toNat = 32 := rfl
  omega
 rfl
theorem qXi (c : UInt8) : low (low c) = low c := by
 apply UInt8.toNat_inj.1
 rw [mK, mK]
 by_cases h : 65 ≤ c.toNat ∧ c.toNat ≤ 90
 · rw [if_pos h, if_neg jo]
 rw [if_neg h, if_neg h]
def bW (s : Tx) : Tx := s.map low
theorem dV (s : Tx) : (bW s).length = s.length := by simp [bW]
theorem kL (s : Tx) : bW (bW s) = bW s := by
 unfold bW
 rw [zdk]
 exact List.map_congr_left fun c _ => qXi c
def bG (n : Nat) : Prop := (97 ≤ n ∧ n ≤ 122) ∨ (48 ≤ n ∧ n ≤ 57) ∨ n = 36 ∨ n = 45 ∨ n = 46 ∨ n = 95
instance (n : Nat) : Decidable (bG n) := by unfold bG; exact inferInstance
theorem bG.lt {n : Nat} (h : bG n) : n < 128 := by unfold bG at h; omega
def cY : List Tx := [[92, 65, 110, 115, 119, 101, 114, 101, 100], [92, 68, 101, 108, 101, 116, 101, 100], [92, 68, 114, 97, 102, 116], [92, 70, 108, 97, 103, 103, 101, 100], [92, 83, 101, 101, 110]]
def bR (s : Tx) : Option Tx :=
 if ([92] : Tx).isPrefixOf s = true then cY.find? fun f => decide (bW f = bW s)
 else if bW s = [] ∨ 20 < s.length ∨ ∃ c ∈ bW s, ¬ bG c.toNat then none else some (bW s)
theorem wO {s t : Tx} (h : bR s = some t) : 0 < t.length ∧ t.length ≤ 20 := by
 unfold bR at h
 split at h
 ·
  have := List.mem_of_find?_eq_some h
  have key : ∀ t ∈ cY, 0 < t.length ∧ t.length ≤ 20 := jd
  exact key t this
 split at h
 · cases h
 rename_i h1
 injection h with h
 subst h
 rw [dV]
 refine ⟨?_, jo⟩
 have : bW s ≠ [] := fun e => h1 (.inl e)
 rw [← dV]
 exact List.length_pos_iff.2 this
theorem nD : ∀ f ∈ cY, bR f = some f := by decide +kernel
theorem uY {s t : Tx} (h : bR s = some t) : bR t = some t := by
 unfold bR at h
 split at h
 · exact nD t (List.mem_of_find?_eq_some h)
 split at h
 · cases h
 rename_i h0 h1
 injection h with h
 subst h
 unfold bR
 rw [if_neg, if_neg]
 · rw [kL]
 · rw [kL, dV]; exact h1
 intro h2
 cases hs : bW s with
 | nil => rw [hs] at h2; simp at h2
 | cons c r =>
  rw [hs] at h2
  simp at h2
  subst h2
  refine h1 (.inr (.inr ⟨92, by rw [hs]; simp, jd⟩))
def cK : List Tx → Option (List Tx)
 | [] => some []
 | s :: r => match bR s, cK r with
  | some t, some ts => some (t :: ts)
  | _, _ => none
theorem uG (l : List Tx) (s : Tx) : cK (l ++ [s]) = match cK l, bR s with
  | some ts, some t => some (ts ++ [t])
  | _, _ => none := by
 induction l with
 | nil => simp only [zcd, cK]; cases bR s <;> rfl
 | cons a r ih =>
  simp only [List.cons_append, cK, ih]
  cases bR a <;> cases cK r <;> cases bR s <;> rfl
theorem uH {l : List Tx} {s : Tx} (hs : s ∈ l) (h : bR s = none) : cK l = none := by
 induction l with
 | nil => cases hs
 | cons a r ih =>
  simp only [cK]
  rcases zbc.1 hs with rfl | hs
  · rw [h]
  rw [ih hs]; cases bR a <;> rfl
theorem oF {l : List Tx} (h : ∀ s ∈ l, bR s = some s) : cK l = some l := by
 induction l with
 | nil => rfl
 | cons a r ih =>
  simp only [cK]
  rw [h a jp, ih fun s hs => h s (by simp [hs])]
theorem xQ {l ts : List Tx} (h : cK l = some ts) : ∀ t, t ∈ ts ↔ ∃ s ∈ l, bR s = some t := by
 induction l generalizing ts with
 | nil => simp only [cK, Option.some.injEq] at h; subst h; simp
 | cons a r ih =>
  simp only [cK] at h
  cases ha : bR a with
  | none => rw [ha] at h; cases h
  | some t0 =>
   cases hr : cK r with
   | none => rw [ha, hr] at h; cases h
   | some ts0 =>
    rw [ha, hr] at h
    injection h with h
    subst h
    intro t
    simp only [zbc, ih hr, exists_eq_or_imp, ha, Option.some.injEq]
    constructor
    ·
     rintro (rfl | h)
     · exact .inl rfl
     exact .inr h
    rintro (rfl | h)
    · exact .inl rfl
    exact .inr h
theorem nE {l ts : List Tx} (h : cK l = some ts) : ∀ t ∈ ts, bR t = some t := fun t ht => by
 obtain ⟨s, _, hs⟩ := (xQ h t).1 ht
 exact uY hs
theorem xX {l ts : List Tx} (h : cK l = some ts) : ts.length = l.length := by
 induction l generalizing ts with
 | nil => simp only [cK, Option.some.injEq] at h; subst h; rfl
 | cons a r ih =>
  simp only [cK] at h
  cases ha : bR a with
  | none => rw [ha] at h; cases h
  | some t0 =>
   cases hr : cK r with
   | none => rw [ha, hr] at h; cases h
   | some ts0 => rw [ha, hr] at h; injection h with h; subst h; simp [ih hr]
abbrev SS (l : List Tx) : Prop := l.Pairwise (· < ·)
theorem sV {a b : Tx} (h : a ≤ b) (hne : a ≠ b) : a < b := by
 rcases Classical.em (a < b) with h1 | h1
 · exact h1
 exact absurd (List.le_antisymm h (List.not_lt.1 h1)) hne
theorem rQ (a : Tx) : ¬ a < a := List.lt_irrefl a
theorem qZb {a b : List Tx} (ha : SS a) (hb : SS b) (h : ∀ x, x ∈ a ↔ x ∈ b) : a = b := by
 induction a generalizing b with
 | nil =>
  cases b with
  | nil => rfl
  | cons y r => exact absurd ((h y).2 jp) jp
 | cons x r ih =>
  cases b with
  | nil => exact absurd ((h x).1 jp) jp
  | cons y q =>
   have ha := List.pairwise_cons.1 ha
   have hb := List.pairwise_cons.1 hb
   have hxy : x = y := by
    rcases zbc.1 ((h x).1 jp) with h1 | h1
    · exact h1
    rcases zbc.1 ((h y).2 jp) with h2 | h2
    · exact h2.symm
    exact absurd (List.lt_trans (ha.1 y h2) (hb.1 x h1)) (rQ x)
   subst hxy
   rw [ih ha.2 hb.2]
   intro z
   constructor
   ·
    intro hz
    rcases zbc.1 ((h z).1 (zcg _ hz)) with h1 | h1
    · subst h1; exact absurd (ha.1 z hz) (rQ z)
    exact h1
   intro hz
   rcases zbc.1 ((h z).2 (zcg _ hz)) with h1 | h1
   · subst h1; exact absurd (hb.1 z hz) (rQ z)
   exact h1
def nub (ts : List Tx) : List Tx := Lib.compact (srt ts)
theorem qXj (ts : List Tx) (x : Tx) : x ∈ srt ts ↔ x ∈ ts := (List.mergeSort_perm ts _).mem_iff
theorem uM (ts : List Tx) : (srt ts).Pairwise (· ≤ ·) := by
 have := List.pairwise_mergeSort (le := fun x y : Tx => decide (x ≤ y)) (fun a b c h1 h2 => by
  simp only [decide_eq_true_eq] at *
  exact List.le_trans h1 h2) (fun a b => by
  simp only [Bool.or_eq_true, decide_eq_true_eq]
  exact List.le_total a b) ts
 exact this.imp (by intro a b h; simpa using h)
theorem jZ {d : Array Tx} (hd : ∀ i j, i ≤ j → j < d.size → d[i]! ≤ d[j]!) : ∀ m, m ≤ d.size →
  SS (Lib.compactUpTo d m) ∧ (∀ x, x ∈ Lib.compactUpTo d m ↔ ∃ j, j < m ∧ d[j]! = x)
 | 0, _ => by simp [Lib.compactUpTo]
 | m + 1, hm => by
  obtain ⟨h1, h2⟩ := jZ hd m jo
  rw [Lib.compactUpTo_succ]
  by_cases hk : Lib.keeps d m = true
  ·
   rw [if_pos hk]
   refine ⟨List.pairwise_append.2 ⟨h1, jp, fun x hx y hy => ?_⟩, fun x => ?_⟩
   ·
    simp only [za] at hy
    subst hy
    obtain ⟨j, hj, rfl⟩ := (h2 x).1 hx
    have h3 := hd j (m - 1) jo jo
    have h4 := hd (m - 1) m jo jo
    unfold Lib.keeps at hk
    rw [decide_eq_true_eq] at hk
    have h5 : d[m - 1]! < d[m]! := sV h4 (by rcases hk with h | h; omega; exact fun e => h e.symm)
    exact List.lt_of_le_of_lt h3 h5
   rw [List.mem_append, h2, za]
   constructor
   ·
    rintro (⟨j, hj, rfl⟩ | rfl)
    · exact ⟨j, jo, rfl⟩
    exact ⟨m, jo, rfl⟩
   rintro ⟨j, hj, rfl⟩
   rcases zbs j m with h | h
   · exact .inl ⟨j, h, rfl⟩
   have : j = m := jo
   subst this
   exact .inr rfl
  rw [if_neg hk, zbq]
  refine ⟨h1, fun x => ?_⟩
  rw [h2]
  unfold Lib.keeps at hk
  rw [decide_eq_true_eq] at hk
  constructor
  ·
   rintro ⟨j, hj, rfl⟩
   exact ⟨j, jo, rfl⟩
  rintro ⟨j, hj, rfl⟩
  rcases zbs j m with h | h
  · exact ⟨j, h, rfl⟩
  have : j = m := jo
  subst this
  have hne : j ≠ 0 := fun h => hk (.inl h)
  have heq : d[j]! = d[j - 1]! := Classical.not_not.1 fun h => hk (.inr h)
  exact ⟨j - 1, jo, heq.symm⟩
theorem gZ (ts : List Tx) : SS (nub ts) ∧ ∀ x, x ∈ nub ts ↔ x ∈ ts := by
 have hs := uM ts
 have hd : ∀ i j, i ≤ j → j < (srt ts).toArray.size → (srt ts).toArray[i]! ≤ (srt ts).toArray[j]! := by
  intro i j hij hj
  have hj' : j < (srt ts).length := by simpa using hj
  rw [getElem!_pos _ i (by simp; omega), getElem!_pos _ j (by simpa using hj)]
  simp only [List.getElem_toArray]
  rcases zbs i j with h | h
  · exact zcm.1 hs i j jo hj' h
  have : i = j := jo
  subst this
  exact List.le_refl _
 obtain ⟨h1, h2⟩ := jZ hd (srt ts).length jp
 refine ⟨h1, fun x => ?_⟩
 rw [← qXj ts x]
 unfold nub Lib.compact
 rw [h2]
 constructor
 ·
  rintro ⟨j, hj, rfl⟩
  rw [getElem!_pos _ j (by simpa using hj)]
  simp
 intro hx
 obtain ⟨j, hj, rfl⟩ := zu hx
 exact ⟨j, hj, by rw [getElem!_pos _ j (by simpa using hj)]; simp⟩
theorem zR {l : List Tx} (h : SS l) : nub l = l := qZb (gZ l).1 h (gZ l).2
def eF (l : List Tx) : Except Nat (List Tx) := match cK l with
 | none => .error 18
 | some ts => if 16 < (nub ts).length then .error 5 else .ok (nub ts)
def dX (l : List Tx) : Prop := eF l = .ok l
instance (l : List Tx) : Decidable (dX l) := by
 unfold dX
 cases h : eF l with
 | error k => exact isFalse jp
 | ok x => exact if hx : x = l then isTrue (by rw [hx]) else isFalse (by simp [hx])
theorem lY {l : List Tx} (h : dX l) : SS l ∧ l.length ≤ 16 ∧ cK l = some l ∧ ∀ s ∈ l, bR s = some s := by
 unfold dX eF at h
 cases ht : cK l with
 | none => rw [ht] at h; cases h
 | some ts =>
  rw [ht] at h
  dsimp only at h
  split at h
  · cases h
  rename_i hl
  injection h with h
  have h1 := gZ ts
  rw [h] at h1
  have h2 : ∀ s ∈ l, bR s = some s := fun s hs => nE ht s ((h1.2 s).1 hs)
  refine ⟨h1.1, by rw [h] at hl; omega, ?_, h2⟩
  exact ht.symm.trans (oF h2)
theorem uN {l : List Tx} : dX l ↔ SS l ∧ l.length ≤ 16 ∧ ∀ s ∈ l, bR s = some s := by
 constructor
 ·
  intro h
  obtain ⟨h1, h2, _, h3⟩ := lY h
  exact ⟨h1, h2, h3⟩
 rintro ⟨h1, h2, h3⟩
 unfold dX eF
 rw [oF h3]
 dsimp only
 rw [zR h1, if_neg jo]
theorem sW {l r : List Tx} (h : eF l = .ok r) : dX r := by
 unfold eF at h
 cases ht : cK l with
 | none => rw [ht] at h; cases h
 | some ts =>
  rw [ht] at h
  dsimp only at h
  split at h
  · cases h
  rename_i hl
  injection h with h
  subst h
  exact uN.2 ⟨(gZ ts).1, jo, fun s hs => nE ht s (((gZ ts).2 s).1 hs)⟩
end
section
open Go.RowKit Go.Sort
theorem xZ {n i : Nat} {cs : Array Value} {l : List UInt8} {c : UInt8} (h : cs.toList.take n = U8 l) (hl : l.length = n) (hi : i < n) : (cs.setIfInBounds i (.int .u8 ((c.toNat : Nat) : Int))).toList.take n = U8 (l.set i c) := by
 rw [zdp, List.take_set, h]
 simp [U8, zet]
theorem rX {s : Tx} {i : Nat} (h : i < s.length) : ((s.take i).map low ++ s.drop i).set i (low s[i]) = (s.take (i + 1)).map low ++ s.drop (i + 1) := by
 have e1 : ((s.take i).map low).length = i := by simp; omega
 rw [List.set_append_right _ _ jo, e1, zdd, zaz h, List.set_cons_zero]
 have e2 : s.take (i + 1) = s.take i ++ [s[i]] := by rw [zao, ze h]; rfl
 rw [e2]
 simp only [zbm, zcq, zeh, zci, List.cons_append, zcd]
theorem zS {s : Tx} {i : Nat} (h : i < s.length) (hl : low s[i] = s[i]) : (s.take i).map low ++ s.drop i = (s.take (i + 1)).map low ++ s.drop (i + 1) := by
 rw [← rX h, hl]
 apply zbz
 intro j
 by_cases hj : j = i
 ·
  subst hj
  have e1 : ((s.take j).map low).length = j := by simp; omega
  rw [zby (by simp; omega), zbi jo, e1, zdd, zaz h]
  rfl
 rw [zde (Ne.symm hj)]
theorem kW (q : Tx) (w : World) (hq : q.length ≤ 1000000) : Calls Tryz.prog 198 #[encStr q] w fun e w' => e = .returned (encStr (bW q)) ∧ Frm [] w w' := by
 refine VC.calls (nt := 29) (res := #[.tmp 2]) Tryz.func198 rfl Tryz.ntmps198 Tryz.results198 rfl ?_
 refine jS (jR (ja rfl (jO (jN (jv1 0 ?_)))))
 refine jS (jR (jM ?_))
 refine Ops.m (qH.bytesOfT rfl zo zcb zcf) rfl ?_
 rintro _ w1 ⟨c1, cs1, rfl, hF1, ht1, hf1⟩
 have hge : w.heap.size ≤ w.heap.size := zv _
 generalize hg : w.heap.size = g1 at hF1 hge ⊢
 refine ja rfl (jO (jN (jv1 3 ?_)))
 refine jS (jS (jR (jm rfl (je (Run.lenS rfl zcb) ?_))))
 refine jx .i64 0 ?_
 refine jO (jN (jB ?_))
 refine VC.loop (σ := Nat) (fun s => [(3, .slice (some ⟨g1, 0, none⟩) q.length c1), (8, .slice (some ⟨g1, 0, none⟩) q.length c1), (9, .int .i64 ((q.length : Nat) : Int)), (10, .int .i64 ((s : Nat) : Int))]) (fun s wr => s ≤ q.length ∧ Frm [] w wr ∧ ∃ cs, Fro wr g1 5 cs ∧ cs.toList.take q.length = U8 ((q.take s).map low ++ q.drop s)) (fun s => q.length - s) 0 (js4 rfl rfl rfl rfl) ⟨jo, hf1, cs1, hF1, by simpa using ht1⟩ ?_
 rintro i wr ⟨hi, hfr, cs, hF, ht⟩
 refine jS (jR (jb rfl rfl (Bin.lssN _ _) (jO (jN (jS ?_)))))
 refine jD rfl (fun hc1 => ?_) fun hc1 => ?_
 ·
  have hrd : Rd wr 1 (some ⟨g1, 0, none⟩) q.length (U8 ((q.take i).map low ++ q.drop i)) := by
   have h := hF.rd (l := (q.take i).map low ++ q.drop i) (by simpa [zal hi, zep hi] using ht)
   simpa [zal hi, zep hi] using h
  have hcell : wr.cell? ((⟨g1, 0, none⟩ : Addr).add (i * 1)) = some (.int .u8 ((q[i].toNat : Nat) : Int)) := by
   rw [zbj]
   obtain ⟨ad, u, hA, hu, hc⟩ := hrd.at1 hc1
   cases hA
   rw [hc, ← hu]
   simp [U8, zbi, zal hi, ze, hc1]
  have hll : ((q.take i).map low ++ q.drop i).length = q.length := by simp; omega
  have hsz : i < cs.size := by
   have := congrArg List.length ht
   simp [U8] at this
   omega
  refine jQ (jN (jv4 3 8 9 10 ?_))
  refine jS (jB (jS (jR (jm rfl (je (Run.indexS i rfl rfl zcb zcp hc1) (jl rfl zec hcell (ja rfl (ja rfl (jO (jN (jv6 3 4 5 8 9 10 ?_)))))))))))
  refine jS ?_
  refine VC.split1 [(3, _), (4, _), (5, _), (8, _), (9, _), (10, _)] (js6 rfl rfl rfl rfl rfl rfl) 20 (.bool (decide ((65 ≤ q[i].toNat) ∧ (q[i].toNat ≤ 90)))) ?_ ?_
  ·
   by_cases hs0 : 65 ≤ q[i].toNat
   ·
    refine jR (jm rfl (jb rfl rfl (Bin.geqN _ 65) (jM ?_)))
    refine jG ?_
    refine jk (Run.bin rfl rfl (Bin.leqN _ 90)) ?_
    refine je (Run.pickT rfl rfl au) (jO ?_)
    refine jN ⟨(js7 (by rw [uX hs0]; rfl) rfl rfl rfl rfl rfl rfl), rfl⟩
   refine jR (jm rfl (jb rfl rfl (Bin.geqN _ 65) (jM ?_)))
   refine jU ?_
   refine jU ?_
   refine je (Run.pickF rfl rfl au) (jO ?_)
   refine jN ⟨(js7 (by rw [uZ hs0]; rfl) rfl rfl rfl rfl rfl rfl), rfl⟩
  intro Γ hΓ
  refine jN (VC.sub _ hΓ ?_)
  refine VC.meet (σ := Unit) (fun s => [(3, .slice (some ⟨g1, 0, none⟩) q.length c1), (8, .slice (some ⟨g1, 0, none⟩) q.length c1), (9, .int .i64 ((q.length : Nat) : Int)), (10, .int .i64 ((i : Nat) : Int))]) (fun s wm => Frm [] w wm ∧ ∃ cs, Fro wm g1 5 cs ∧ cs.toList.take q.length = U8 ((q.take (i + 1)).map low ++ q.drop (i + 1))) ?_ ?_
  ·
   refine jD rfl (fun hc2 => ?_) fun hc2 => ?_
   ·
    refine jR (jm rfl (jm rfl (jm rfl (jb rfl rfl (Bin.add_u8 _ 32 jo) ?_))))
    rw [show (q[i].toNat + 32 : Nat) = (low q[i]).toNat by rw [mK, if_pos hc2]]
    refine je (Run.indexS i rfl rfl zcb zcp hc1) ?_
    rw [show (⟨g1, 0, none⟩ : Addr).add (i * 1) = ⟨g1, i, none⟩ by unfold Addr.add; rw [zbj]; split <;> simp_all]
    refine Ops.st (qW.storeFro rfl rfl zcp hF hsz rfl) ?_
    rintro w2 ⟨hF2, hf2, hs2⟩
    refine jO ?_
    refine jN ⟨(), (js4 rfl rfl rfl rfl), ?_⟩
    exact ⟨hfr.own hf2 (fun x hx => by simp at hx; omega), _, hF2, by rw [xZ ht hll hc1, rX hc1]⟩
   refine jQ ?_
   refine jN ⟨(), (js4 rfl rfl rfl rfl), ?_⟩
   exact ⟨hfr, cs, hF, by rw [ht, zS hc1 (UInt8.toNat_inj.1 (by rw [mK, if_neg hc2]))]⟩
  rintro _ wm ⟨hfr2, cs2, hF2, ht2⟩ Γ hΓ
  refine qN (jN (VC.sub _ hΓ ?_))
  refine jR (jb rfl rfl (Bin.add_i64 _ 1 jo) (jm rfl (jO ?_)))
  refine jN ⟨(i + 1), (js4 rfl rfl rfl rfl), ?_, ?_⟩
  · exact ⟨hc1, hfr2, cs2, hF2, ht2⟩
  first | omega | (dsimp only; omega)
 refine jX ?_
 refine qK (qK (qS ?_))
 refine jN (jv1 3 ?_)
 refine jS (jR (jM ?_))
 have hR : Rd wr 1 (some ⟨g1, 0, none⟩) q.length (U8 (bW q)) := by
  have him : i = q.length := jo
  subst him
  have h := hF.rd (l := bW q) (by rw [dV, ht]; simp [bW])
  rwa [dV] at h
 refine je (Run.strOfT rfl zcb zcf zo hR) (ja rfl (jO (jN (jv1 2 ?_))))
 refine jT ?_
 refine qF rfl ?_
 exact ⟨rfl, hfr⟩
theorem xJ (n : Nat) (w : World) : Calls Tryz.prog 201 #[.int .i32 ((n : Nat) : Int)] w fun e w' => e = .returned (.bool (decide (bG n))) ∧ w = w' := by
 refine VC.calls (nt := 33) (res := #[.tmp 2]) Tryz.func201 rfl Tryz.ntmps201 Tryz.results201 rfl ?_
 refine jS (jR (ja rfl (jO (jN (jv1 0 ?_)))))
 refine jS ?_
 refine VC.split1 [] .nil 2 (.bool (decide (bG n))) ?_ ?_
 ·
  refine jR ?_
  refine jm rfl (jb rfl rfl (Bin.geqN _ 97) ?_)
  by_cases hs4 : 97 ≤ n
  ·
   refine jM ?_
   refine jG ?_
   refine jk (Run.bin rfl rfl (Bin.leqN _ 122)) ?_
   by_cases hs7 : n ≤ 122
   ·
    refine je (Run.pickT rfl rfl au) (jM ?_)
    refine jU ?_
    refine jU ?_
    refine jU ?_
    refine Ops.skU rfl rfl ?_
    refine Ops.skU rfl rfl ?_
    refine jU ?_
    refine je (Run.pickT rfl rfl au) (jM ?_)
    refine jU ?_
    refine jU ?_
    refine je (Run.pickT rfl rfl au) (jM ?_)
    refine jU ?_
    refine jU ?_
    refine je (Run.pickT rfl rfl au) (jM ?_)
    refine jU ?_
    refine jU ?_
    refine je (Run.pickT rfl rfl au) (jM ?_)
    refine jU ?_
    refine jU ?_
    refine je (Run.pickT rfl rfl au) (ja rfl (jO ?_))
    refine jN ⟨(js1 (jC (Eq.symm (by unfold bG; grind)))), rfl⟩
   refine je (Run.pickT rfl rfl au) (jM ?_)
   refine jG ?_
   refine jk (Run.bin rfl rfl (Bin.geqN _ 48)) ?_
   by_cases hs11 : 48 ≤ n
   ·
    refine jG ?_
    refine jG ?_
    refine jk (Run.bin rfl rfl (Bin.leqN _ 57)) ?_
    by_cases hs14 : n ≤ 57
    ·
     refine jk (Run.pickT rfl rfl au) ?_
     refine je (Run.pickF rfl rfl au) (jM ?_)
     refine jU ?_
     refine jU ?_
     refine je (Run.pickT rfl rfl au) (jM ?_)
     refine jU ?_
     refine jU ?_
     refine je (Run.pickT rfl rfl au) (jM ?_)
     refine jU ?_
     refine jU ?_
     refine je (Run.pickT rfl rfl au) (jM ?_)
     refine jU ?_
     refine jU ?_
     refine je (Run.pickT rfl rfl au) (ja rfl (jO ?_))
     refine jN ⟨(js1 (jC (Eq.symm (by unfold bG; grind)))), rfl⟩
    refine jk (Run.pickT rfl rfl au) ?_
    refine je (Run.pickF rfl rfl au) (jM ?_)
    refine jG ?_
    refine jk (Run.bin rfl rfl (Bin.eqlN _ 36)) ?_
    by_cases hs19 : n = 36
    ·
     refine je (Run.pickF rfl rfl au) (jM ?_)
     refine jU ?_
     refine jU ?_
     refine je (Run.pickT rfl rfl au) (jM ?_)
     refine jU ?_
     refine jU ?_
     refine je (Run.pickT rfl rfl au) (jM ?_)
     refine jU ?_
     refine jU ?_
     refine je (Run.pickT rfl rfl au) (ja rfl (jO ?_))
     refine jN ⟨(js1 (jC (Eq.symm (by unfold bG; grind)))), rfl⟩
    refine je (Run.pickF rfl rfl au) (jM ?_)
    refine jG ?_
    refine jk (Run.bin rfl rfl (Bin.eqlN _ 45)) ?_
    by_cases hs23 : n = 45
    ·
     refine je (Run.pickF rfl rfl au) (jM ?_)
     refine jU ?_
     refine jU ?_
     refine je (Run.pickT rfl rfl au) (jM ?_)
     refine jU ?_
     refine jU ?_
     refine je (Run.pickT rfl rfl au) (ja rfl (jO ?_))
     refine jN ⟨(js1 (jC (Eq.symm (by unfold bG; grind)))), rfl⟩
    refine je (Run.pickF rfl rfl au) (jM ?_)
    refine jG ?_
    refine jk (Run.bin rfl rfl (Bin.eqlN _ 46)) ?_
    by_cases hs27 : n = 46
    ·
     refine je (Run.pickF rfl rfl au) (jM ?_)
     refine jU ?_
     refine jU ?_
     refine je (Run.pickT rfl rfl au) (ja rfl (jO ?_))
     refine jN ⟨(js1 (jC (Eq.symm (by unfold bG; grind)))), rfl⟩
    refine je (Run.pickF rfl rfl au) (jM ?_)
    refine jG ?_
    refine jk (Run.bin rfl rfl (Bin.eqlN _ 95)) ?_
    by_cases hs31 : n = 95
    ·
     refine je (Run.pickF rfl rfl au) (ja rfl (jO ?_))
     refine jN ⟨(js1 (jC (Eq.symm (by unfold bG; grind)))), rfl⟩
    refine je (Run.pickF rfl rfl au) (ja rfl (jO ?_))
    refine jN ⟨(js1 (jC (Eq.symm (by unfold bG; grind)))), rfl⟩
   refine jG ?_
   refine jU ?_
   refine jU ?_
   refine jk (Run.pickF rfl rfl au) ?_
   refine je (Run.pickF rfl rfl au) (jM ?_)
   refine jG ?_
   refine jk (Run.bin rfl rfl (Bin.eqlN _ 36)) ?_
   by_cases hs19 : n = 36
   ·
    refine je (Run.pickF rfl rfl au) (jM ?_)
    refine jU ?_
    refine jU ?_
    refine je (Run.pickT rfl rfl au) (jM ?_)
    refine jU ?_
    refine jU ?_
    refine je (Run.pickT rfl rfl au) (jM ?_)
    refine jU ?_
    refine jU ?_
    refine je (Run.pickT rfl rfl au) (ja rfl (jO ?_))
    refine jN ⟨(js1 (jC (Eq.symm (by unfold bG; grind)))), rfl⟩
   refine je (Run.pickF rfl rfl au) (jM ?_)
   refine jG ?_
   refine jk (Run.bin rfl rfl (Bin.eqlN _ 45)) ?_
   by_cases hs23 : n = 45
   ·
    refine je (Run.pickF rfl rfl au) (jM ?_)
    refine jU ?_
    refine jU ?_
    refine je (Run.pickT rfl rfl au) (jM ?_)
    refine jU ?_
    refine jU ?_
    refine je (Run.pickT rfl rfl au) (ja rfl (jO ?_))
    refine jN ⟨(js1 (jC (Eq.symm (by unfold bG; grind)))), rfl⟩
   refine je (Run.pickF rfl rfl au) (jM ?_)
   refine jG ?_
   refine jk (Run.bin rfl rfl (Bin.eqlN _ 46)) ?_
   by_cases hs27 : n = 46
   ·
    refine je (Run.pickF rfl rfl au) (jM ?_)
    refine jU ?_
    refine jU ?_
    refine je (Run.pickT rfl rfl au) (ja rfl (jO ?_))
    refine jN ⟨(js1 (jC (Eq.symm (by unfold bG; grind)))), rfl⟩
   refine je (Run.pickF rfl rfl au) (jM ?_)
   refine jG ?_
   refine jk (Run.bin rfl rfl (Bin.eqlN _ 95)) ?_
   by_cases hs31 : n = 95
   ·
    refine je (Run.pickF rfl rfl au) (ja rfl (jO ?_))
    refine jN ⟨(js1 (jC (Eq.symm (by unfold bG; grind)))), rfl⟩
   refine je (Run.pickF rfl rfl au) (ja rfl (jO ?_))
   refine jN ⟨(js1 (jC (Eq.symm (by unfold bG; grind)))), rfl⟩
  refine jM ?_
  refine jU ?_
  refine jU ?_
  refine je (Run.pickF rfl rfl au) (jM ?_)
  refine jG ?_
  refine jk (Run.bin rfl rfl (Bin.geqN _ 48)) ?_
  by_cases hs11 : 48 ≤ n
  ·
   refine jG ?_
   refine jG ?_
   refine jk (Run.bin rfl rfl (Bin.leqN _ 57)) ?_
   by_cases hs14 : n ≤ 57
   ·
    refine jk (Run.pickT rfl rfl au) ?_
    refine je (Run.pickF rfl rfl au) (jM ?_)
    refine jU ?_
    refine jU ?_
    refine je (Run.pickT rfl rfl au) (jM ?_)
    refine jU ?_
    refine jU ?_
    refine je (Run.pickT rfl rfl au) (jM ?_)
    refine jU ?_
    refine jU ?_
    refine je (Run.pickT rfl rfl au) (jM ?_)
    refine jU ?_
    refine jU ?_
    refine je (Run.pickT rfl rfl au) (ja rfl (jO ?_))
    refine jN ⟨(js1 (jC (Eq.symm (by unfold bG; grind)))), rfl⟩
   refine jk (Run.pickT rfl rfl au) ?_
   refine je (Run.pickF rfl rfl au) (jM ?_)
   refine jG ?_
   refine jk (Run.bin rfl rfl (Bin.eqlN _ 36)) ?_
   by_cases hs19 : n = 36
   ·
    refine je (Run.pickF rfl rfl au) (jM ?_)
    refine jU ?_
    refine jU ?_
    refine je (Run.pickT rfl rfl au) (jM ?_)
    refine jU ?_
    refine jU ?_
    refine je (Run.pickT rfl rfl au) (jM ?_)
    refine jU ?_
    refine jU ?_
    refine je (Run.pickT rfl rfl au) (ja rfl (jO ?_))
    refine jN ⟨(js1 (jC (Eq.symm (by unfold bG; grind)))), rfl⟩
   refine je (Run.pickF rfl rfl au) (jM ?_)
   refine jG ?_
   refine jk (Run.bin rfl rfl (Bin.eqlN _ 45)) ?_
   by_cases hs23 : n = 45
   ·
    refine je (Run.pickF rfl rfl au) (jM ?_)
    refine jU ?_
    refine jU ?_
    refine je (Run.pickT rfl rfl au) (jM ?_)
    refine jU ?_
    refine jU ?_
    refine je (Run.pickT rfl rfl au) (ja rfl (jO ?_))
    refine jN ⟨(js1 (jC (Eq.symm (by unfold bG; grind)))), rfl⟩
   refine je (Run.pickF rfl rfl au) (jM ?_)
   refine jG ?_
   refine jk (Run.bin rfl rfl (Bin.eqlN _ 46)) ?_
   by_cases hs27 : n = 46
   ·
    refine je (Run.pickF rfl rfl au) (jM ?_)
    refine jU ?_
    refine jU ?_
    refine je (Run.pickT rfl rfl au) (ja rfl (jO ?_))
    refine jN ⟨(js1 (jC (Eq.symm (by unfold bG; grind)))), rfl⟩
   refine je (Run.pickF rfl rfl au) (jM ?_)
   refine jG ?_
   refine jk (Run.bin rfl rfl (Bin.eqlN _ 95)) ?_
   by_cases hs31 : n = 95
   ·
    refine je (Run.pickF rfl rfl au) (ja rfl (jO ?_))
    refine jN ⟨(js1 (jC (Eq.symm (by unfold bG; grind)))), rfl⟩
   refine je (Run.pickF rfl rfl au) (ja rfl (jO ?_))
   refine jN ⟨(js1 (jC (Eq.symm (by unfold bG; grind)))), rfl⟩
  refine jG ?_
  refine jU ?_
  refine jU ?_
  refine jk (Run.pickF rfl rfl au) ?_
  refine je (Run.pickF rfl rfl au) (jM ?_)
  refine jG ?_
  refine jk (Run.bin rfl rfl (Bin.eqlN _ 36)) ?_
  by_cases hs19 : n = 36
  ·
   refine je (Run.pickF rfl rfl au) (jM ?_)
   refine jU ?_
   refine jU ?_
   refine je (Run.pickT rfl rfl au) (jM ?_)
   refine jU ?_
   refine jU ?_
   refine je (Run.pickT rfl rfl au) (jM ?_)
   refine jU ?_
   refine jU ?_
   refine je (Run.pickT rfl rfl au) (ja rfl (jO ?_))
   refine jN ⟨(js1 (jC (Eq.symm (by unfold bG; grind)))), rfl⟩
  refine je (Run.pickF rfl rfl au) (jM ?_)
  refine jG ?_
  refine jk (Run.bin rfl rfl (Bin.eqlN _ 45)) ?_
  by_cases hs23 : n = 45
  ·
   refine je (Run.pickF rfl rfl au) (jM ?_)
   refine jU ?_
   refine jU ?_
   refine je (Run.pickT rfl rfl au) (jM ?_)
   refine jU ?_
   refine jU ?_
   refine je (Run.pickT rfl rfl au) (ja rfl (jO ?_))
   refine jN ⟨(js1 (jC (Eq.symm (by unfold bG; grind)))), rfl⟩
  refine je (Run.pickF rfl rfl au) (jM ?_)
  refine jG ?_
  refine jk (Run.bin rfl rfl (Bin.eqlN _ 46)) ?_
  by_cases hs27 : n = 46
  ·
   refine je (Run.pickF rfl rfl au) (jM ?_)
   refine jU ?_
   refine jU ?_
   refine je (Run.pickT rfl rfl au) (ja rfl (jO ?_))
   refine jN ⟨(js1 (jC (Eq.symm (by unfold bG; grind)))), rfl⟩
  refine je (Run.pickF rfl rfl au) (jM ?_)
  refine jG ?_
  refine jk (Run.bin rfl rfl (Bin.eqlN _ 95)) ?_
  by_cases hs31 : n = 95
  ·
   refine je (Run.pickF rfl rfl au) (ja rfl (jO ?_))
   refine jN ⟨(js1 (jC (Eq.symm (by unfold bG; grind)))), rfl⟩
  refine je (Run.pickF rfl rfl au) (ja rfl (jO ?_))
  refine jN ⟨(js1 (jC (Eq.symm (by unfold bG; grind)))), rfl⟩
 intro Γ hΓ
 refine jN (VC.sub _ hΓ ?_)
 refine jT ?_
 refine qF rfl ?_
 exact ⟨rfl, rfl⟩
theorem uP (n : Nat) (w : World) : Calls Tryz.prog 200 #[.int .i32 ((n : Nat) : Int)] w fun e w' => e = .returned (.bool (!decide (bG n))) ∧ w = w' := by
 refine VC.calls (nt := 6) (res := #[.tmp 2]) Tryz.func200 rfl Tryz.ntmps200 Tryz.results200 rfl ?_
 refine jS (jR (ja rfl (jO (jN (jv1 0 ?_)))))
 refine jS (jR (jM ?_))
 refine Ops.cl (jE1 Tryz.call201) (xJ n _) rfl ?_
 rintro e _ ⟨rfl, rfl⟩
 refine ⟨_, rfl, ?_⟩
 refine je (Run.not rfl) (ja rfl (jO (jN (jv1 2 ?_))))
 refine jT ?_
 refine qF rfl ?_
 exact ⟨rfl, rfl⟩
theorem uR (s : ByteArray) (i : Nat) (h : (s.get! i).toNat < 128) : Utf8.decode s i = ((s.get! i).toNat, 1) := by
 rw [Lib.decode_at]
 unfold Lib.decodeN
 rw [if_pos h]
theorem sY (s : ByteArray) (i : Nat) (h : ¬ (s.get! i).toNat < 128) : 128 ≤ (Utf8.decode s i).1 := by
 rw [Lib.decode_at]
 unfold Lib.decodeN
 rw [if_neg h]
 repeat' split
 all_goals (dsimp only; omega)
theorem rZ (s : Tx) : ∀ f pos, s.length ≤ pos + f → pos ≤ s.length → (0 ≤ Lib.idxFuncFrom (fun n => !decide (bG n)) true ⟨s.toArray⟩ f pos ↔ ∃ c ∈ s.drop pos, ¬ bG c.toNat)
 | 0, pos, h1, h2 => by
  have : s.drop pos = [] := zas jo
  rw [this]
  simp [Lib.idxFuncFrom]
 | f + 1, pos, h1, h2 => by
  unfold Lib.idxFuncFrom
  have hsz : (⟨s.toArray⟩ : ByteArray).size = s.length := rfl
  rw [hsz]
  by_cases hp : pos < s.length
  ·
   rw [if_pos hp, zaz hp]
   have hget : (⟨s.toArray⟩ : ByteArray).get! pos = s[pos] := by
    show s.toArray[pos]! = _
    rw [getElem!_pos _ pos (by simpa using hp)]
    simp
   by_cases hl : s[pos].toNat < 128
   ·
    rw [uR _ _ (by rw [hget]; exact hl), hget]
    dsimp only
    by_cases hs : bG s[pos].toNat
    ·
     rw [if_neg (by simp [hs]), rZ s f (pos + 1) jo jo]
     simp only [zbc, exists_eq_or_imp, hs, not_true, false_or]
    rw [if_pos (by simp [hs])]
    exact iff_of_true jo ⟨_, zdm, hs⟩
   have hd := sY ⟨s.toArray⟩ pos (by rw [hget]; exact hl)
   rw [if_pos (by simp only [zcv, decide_eq_false_iff_not]; intro h; have := h.lt; omega)]
   have hns : ¬ bG s[pos].toNat := fun h => hl h.lt
   exact iff_of_true jo ⟨_, zdm, hns⟩
  rw [if_neg hp]
  have : s.drop pos = [] := zas jo
  rw [this]
  simp
theorem sG (s : Tx) (w : World) : Calls Tryz.prog 199 #[encStr s, .func (.func 200) #[] #[]] w fun e w' => e = .returned (.bool (decide (∃ c ∈ s, ¬ bG c.toNat))) ∧ Frm [] w w' := by
 refine (Tryz.strings_ContainsFunc_runes 200 #[] Tryz.call200 (fun n => !decide (bG n)) ⟨s.toArray⟩ w ?_).mono fun e w' ⟨he, hb⟩ => ⟨?_, Frm.of_below hb⟩
 ·
  intro W x _ _
  exact (uP x W).mono fun e w' ⟨he, hw⟩ => ⟨he, 0, by rw [← hw]; rfl⟩
 rw [he]
 congr 2
 rw [decide_eq_decide]
 exact rZ s s.length 0 jo jo
theorem xK (w : World) : Calls Tryz.prog 197 #[] w fun e w' => e = .returned (.agg (SB cY).toArray) ∧ Frm [] w w' := by
 refine VC.calls (nt := 2) (res := #[.cell 0 213]) Tryz.func197 rfl Tryz.ntmps197 Tryz.results197 rfl ?_
 refine jS (jR ?_)
 refine Ops.m (qH.alloc tM) rfl ?_
 rintro _ w1 ⟨rfl, hF1⟩
 have hb1 := hF1.blk
 generalize hg0 : w.heap.size = g0 at *
 refine jO (jN (jS (jR (je (Run.buildA (evs.cons rfl (evs.cons rfl (evs.cons rfl (evs.cons rfl (evs.cons rfl evs.nil))))) tM Tryz.underlying213 zx (cells := (SB cY).toArray) jK) ?_))))
 refine Ops.st (qW.storeA rfl rfl Tryz.sizeOf213 hb1 rfl (hZ cY)) ?_
 rintro w5 ⟨hb5, hf5, hs5⟩
 refine jO (jN (jv1 0 ?_))
 refine jT ?_
 refine bM ?_
 refine wC rfl Tryz.isAgg213 Tryz.sizeOf213 (hb5) rfl ?_
 refine qI ?_
 exact ⟨rfl, hF1.frm.own hf5 (fun x hx => by simp at hx; omega)⟩
def cI (s : Tx) : Tx × Nat := match bR s with
 | some t => (t, 0)
 | none => ([], 18)
theorem qXk {q : Tx} {i : Nat} (hi : i < cY.length) (hn : ∀ f ∈ cY.take i, bW f ≠ bW q) (h : bW (cY[i]) = bW q) : cY.find? (fun f => decide (bW f = bW q)) = some cY[i] := by
 rw [List.find?_eq_some_iff_append]
 refine ⟨by simpa using h, cY.take i, cY.drop (i + 1), ?_, fun a ha => by simpa using hn a ha⟩
 rw [← zaz hi, zbf]
theorem xV (q : Tx) (w : World) (hq : q.length ≤ 1000000) : Calls Tryz.prog 187 #[encStr q] w fun e w' => e = .returned (.tuple #[encStr (cI q).1, .int .i64 (((cI q).2 : Nat) : Int)]) ∧ Frm [] w w' := by
 refine VC.calls (nt := 34) (res := #[.tmp 2, .tmp 3]) Tryz.func187 rfl Tryz.ntmps187 Tryz.results187 rfl ?_
 refine jS (jR (ja rfl (jz 0 (jO (jN (jv1 0 ?_))))))
 refine jS (jS (jR (jM ?_)))
 refine Ops.cl (jE2 Tryz.call110) (Tryz.strings_HasPrefix ⟨q.toArray⟩ ⟨#[92]⟩ _) rfl ?_
 rintro e w0 ⟨rfl, hw0⟩
 obtain rfl : w = w0 := hw0.symm
 refine ⟨.bool (([92] : Tx).isPrefixOf q), rfl, ?_⟩
 refine jO (jN (jv2 0 8 ?_))
 refine VC.condB rfl (fun hc1 => ?_) (fun hc1 => ?_)
 ·
  refine jS (jS (jR ?_))
  refine Ops.cl (jE0 Tryz.call197) (xK _) rfl ?_
  rintro e w1 ⟨rfl, hf1⟩
  refine ⟨_, rfl, ?_⟩
  refine jx .i64 0 ?_
  refine jO (jN (jv3 0 9 10 ?_))
  refine jB ?_
  refine VC.loop (σ := Nat) (fun s => [(0, encStr q), (9, .agg (SB cY).toArray), (10, .int .i64 ((s : Nat) : Int))]) (fun s wr => s ≤ 5 ∧ Frm [] w wr ∧ ∀ f ∈ cY.take s, bW f ≠ bW q) (fun s => 5 - s) 0 (js3 rfl rfl rfl) ⟨jo, hf1, jp⟩ ?_
  rintro i wr ⟨hi, hfr, hn⟩
  refine jS (jR (jb rfl rfl (Bin.lssN _ 5) (jO (jN (jS ?_)))))
  refine jD rfl (fun hc2 => ?_) fun hc2 => ?_
  ·
   have hi5 : i < cY.length := hc2
   refine jQ (jN (jv3 0 9 10 ?_))
   refine jS (jB (jS (jR ?_)))
   refine Ops.r (Run.indexArr1 (v := encStr cY[i]) i rfl rfl Tryz.underlying213 zac zx rfl (by simp [SB, hi5])) rfl ?_
   refine ja rfl (jO (jN (jv4 0 5 9 10 ?_)))
   refine jS (jR (jM ?_))
   refine Ops.cl (jE1 Tryz.call198) (kW cY[i] _ (by have := wO (nD _ (zm hi5)); omega)) rfl ?_
   rintro e w2 ⟨rfl, hf2⟩
   refine ⟨_, rfl, ?_⟩
   refine jM ?_
   refine Ops.cl (jE1 Tryz.call198) (kW q _ hq) rfl ?_
   rintro e w3 ⟨rfl, hf3⟩
   refine ⟨_, rfl, ?_⟩
   have hfr3 := (hfr.trans hf2 jp).trans hf3 jp
   refine je (Run.eqlT rfl rfl) (jO (jN (jv5 0 5 9 10 17 ?_)))
   refine jD rfl (fun hc3 => ?_) fun hc3 => ?_
   ·
    refine jS (jR (jm rfl (ja rfl (jz 0 (jO (jN (jv2 2 3 ?_)))))))
    refine jT ?_
    refine qP (qZ (qZ (qP (qZ (qZ (dQ rfl rfl ?_))))))
    have e : cI q = (cY[i], 0) := by
     unfold cI bR
     rw [if_pos hc1, qXk hi5 hn hc3]
    rw [e]
    exact ⟨rfl, hfr3⟩
   refine jQ ?_
   refine qN (jN ?_)
   refine jv3 0 9 10 ?_
   refine jR (jb rfl rfl (Bin.add_i64 _ 1 jo) (jm rfl (jO ?_)))
   refine jN ⟨(i + 1), (js3 rfl rfl rfl), ?_, ?_⟩
   ·
    refine ⟨hc2, hfr3, fun f hf => ?_⟩
    have e : cY.take (i + 1) = cY.take i ++ [cY[i]] := by rw [zao, ze hi5]; rfl
    rw [e] at hf
    rcases List.mem_append.1 hf with h | h
    · exact hn f h
    simp only [za] at h
    rw [h]; exact hc3
   first | omega | (dsimp only; omega)
  refine jX ?_
  refine qK (qK (qS ?_))
  refine jN ?_
  refine VC.sub [] .nil ?_
  refine jS (jR (ja rfl (jz 18 (jO (jN (jT ?_))))))
  refine qZ (dQ rfl rfl ?_)
  have e : cI q = ([], 18) := by
   have hi : i = 5 := jo
   subst hi
   unfold cI bR
   rw [if_pos hc1, List.find?_eq_none.2 (fun f hf => by simpa using hn f hf)]
  rw [e]
  exact ⟨rfl, hfr⟩
 refine jQ (jN (jv1 0 ?_))
 refine jS (jR (jM ?_))
 refine Ops.cl (jE1 Tryz.call198) (kW q _ hq) rfl ?_
 rintro e w3 ⟨rfl, hf3⟩
 refine ⟨_, rfl, ?_⟩
 have hpf : ¬ ([92] : Tx).isPrefixOf q = true := by rw [hc1]; simp
 refine ja rfl (jO (jN (jv1 6 ?_)))
 refine jS (jS ?_)
 refine VC.splitR [(6, encStr (bW q))] (Frm [] w) 32 (.bool (decide (bW q = [] ∨ 20 < (bW q).length ∨ ∃ c ∈ bW q, ¬ bG c.toNat))) ?_ ?_
 ·
  refine jR ?_
  refine jm rfl (je (Run.eqlT rfl rfl) ?_)
  by_cases hs23 : bW q = []
  ·
   refine jM ?_
   refine jU ?_
   refine jU ?_
   refine jU ?_
   refine je (Run.pickT rfl rfl au) (jM ?_)
   refine jU ?_
   refine jU ?_
   refine je (Run.pickT rfl rfl au) (jO ?_)
   refine jN ⟨(js2 (jC (Eq.symm (by simp [*]))) rfl), (by first | exact hf3.trans hf4 jp | exact hf3)⟩
  refine jM ?_
  refine jG ?_
  refine jk (Run.lenT rfl zo) ?_
  refine jk (Run.bin rfl rfl (Bin.gtrN _ 20)) ?_
  by_cases hs27 : 20 < (bW q).length
  ·
   refine je (Run.pickF rfl rfl au) (jM ?_)
   refine jU ?_
   refine jU ?_
   refine je (Run.pickT rfl rfl au) (jO ?_)
   refine jN ⟨(js2 (jC (Eq.symm (by simp [*]))) rfl), (by first | exact hf3.trans hf4 jp | exact hf3)⟩
  refine je (Run.pickF rfl rfl au) (jM ?_)
  refine jG ?_
  refine Ops.clg rfl au (jE2 Tryz.call199) (sG (bW q) _) rfl ?_
  rintro e w4 ⟨rfl, hf4⟩
  refine ⟨_, rfl, ?_⟩
  by_cases hs31 : ∃ c ∈ bW q, ¬ bG c.toNat
  ·
   refine je (Run.pickF rfl rfl au) (jO ?_)
   refine jN ⟨(js2 (jC (Eq.symm (by simp [*]))) rfl), (by first | exact hf3.trans hf4 jp | exact hf3)⟩
  refine je (Run.pickF rfl rfl au) (jO ?_)
  refine jN ⟨(js2 (jC (Eq.symm (by simp [*]))) rfl), (by first | exact hf3.trans hf4 jp | exact hf3)⟩
 intro Γ wR hΓ hR
 refine jN (VC.sub _ hΓ ?_)
 refine jD rfl (fun hc4 => ?_) fun hc4 => ?_
 ·
  refine jS (jR (ja rfl (jz 18 (jO (jN (jv2 2 3 ?_))))))
  refine jT ?_
  refine qZ (dQ rfl rfl ?_)
  have e : cI q = ([], 18) := by
   unfold cI bR
   rw [if_neg hpf, if_pos (by rw [dV] at hc4; exact hc4)]
  rw [e]
  exact ⟨rfl, hR⟩
 refine jQ (jN (jv1 6 ?_))
 refine jS (jR (jm rfl (ja rfl (jz 0 (jO (jN (jv2 2 3 ?_)))))))
 refine jT ?_
 refine dQ rfl rfl ?_
 have e : cI q = (bW q, 0) := by
  unfold cI bR
  rw [if_neg hpf, if_neg (by rw [dV] at hc4; exact hc4)]
 rw [e]
 exact ⟨rfl, hR⟩
end
section
open Go.RowKit Go.Sort
theorem nF (s : Tx) : (∃ t, bR s = some t ∧ cI s = (t, 0)) ∨ (bR s = none ∧ cI s = ([], 18)) := by
 unfold cI
 cases bR s with
 | none => exact .inr ⟨rfl, rfl⟩
 | some t => exact .inl ⟨t, rfl, rfl⟩
def IsN (w0 w' : World) (e : Ending) (F : Except Nat (List Tx)) (B : Option Addr) (d : Nat) (r : List Tx) (k : Nat) : Prop :=
 e = .returned (.tuple #[.slice B r.length d, .int .i64 ((k : Nat) : Int)]) ∧ Own w' 9 1 B r.length d (SB r) ∧ (∀ x ∈ ob B, w0.heap.size ≤ x) ∧ ((k = 0 ∧ F = .ok r) ∨ (k ≠ 0 ∧ r = [] ∧ F = .error k))
theorem gH {α : Type} {l : List α} {i : Nat} (h : i < l.length) : l.take (i + 1) = l.take i ++ [l[i]] := by rw [zao, ze h]; rfl
theorem hrd1 {w w' : World} {t : TypeId} {q : Tx} (h : Fresh w w' t #[encStr q]) : Rd w' 1 (some ⟨w.heap.size, 0, none⟩) 1 (SB [q]) := Rd.of_blk (n := 1) (size := 1) h.blk rfl
theorem uS (A : Option Addr) (c0 : Nat) (l : List Tx) (w : World) (hn : l.length ≤ 1000000) (hq : ∀ q ∈ l, q.length ≤ 1000000) (hr : Rd w 1 A l.length (SB l)) :
  Calls Tryz.prog 176 #[.slice A l.length c0] w fun e w' => Frm [] w w' ∧ ∃ B d r k, IsN w w' e (eF l) B d r k := by
 refine VC.calls (nt := 36) (res := #[.tmp 2, .tmp 3]) Tryz.func176 rfl Tryz.ntmps176 Tryz.results176 rfl ?_
 refine jS (jR (ja rfl (jz 0 (jO (jN (jv1 0 ?_))))))
 refine jS (jR (ja rfl (jO (jN (jS (jS (jR (jm rfl (je (Run.lenS rfl zj) ?_)))))))))
 refine jx .i64 0 ?_
 refine jO (jN (jv4 4 9 10 11 ?_))
 refine jB ?_
 refine VC.loop (σ := Nat × Option Addr × Nat × List Tx) (fun s => [(4, .slice s.2.1 s.2.2.2.length s.2.2.1), (9, .slice A l.length c0), (10, .int .i64 ((l.length : Nat) : Int)), (11, .int .i64 ((s.1 : Nat) : Int))]) (fun s wr => s.1 ≤ l.length ∧ Own wr 9 1 s.2.1 s.2.2.2.length s.2.2.1 (SB s.2.2.2) ∧ (∀ x ∈ ob s.2.1, w.heap.size ≤ x) ∧ Frm [] w wr ∧ cK (l.take s.1) = some s.2.2.2) (fun s => l.length - s.1) (0, none, 0, []) (js4 rfl rfl rfl rfl) ⟨jo, Own.nil _ _ _, by simp [ob], Frm.refl _ _, rfl⟩ ?_
 rintro ⟨i, B, d, ts⟩ wr ⟨hi, hown, hge, hfr, htl⟩
 dsimp only at hi hown hge htl ⊢
 have htsl : ts.length = i := by rw [xX htl]; simp; omega
 refine jS (jR (jb rfl rfl (Bin.lssN _ _) (jO (jN (jS ?_)))))
 refine jD rfl (fun hc1 => ?_) fun hc1 => ?_
 ·
  obtain ⟨ad, rfl, hcell⟩ := mQ (hr.frm hfr jp) hc1
  refine jQ (jN (jv4 4 9 10 11 ?_))
  refine jS (jB (jS (jR (je (Run.index1 i rfl rfl zj zx hc1) (jl rfl zac hcell (ja rfl (jO (jN (jv5 4 6 9 10 11 ?_)))))))))
  refine jS (jR (jM ?_))
  refine Ops.cl (jE1 Tryz.call187) (xV l[i] _ (hq _ (zm hc1))) rfl ?_
  rintro e w1 ⟨rfl, hf1⟩
  refine ⟨_, rfl, ?_⟩
  have hfr1 := hfr.trans hf1 jp
  have hown1 := hown.frm hf1 jp
  have htc := nF l[i]
  generalize hq0 : l[i] = q at *
  refine jm rfl (je (Run.extract rfl rfl) (je (Run.extract rfl rfl) (ja rfl (ja rfl (jO (jN (jv6 4 7 8 9 10 11 ?_)))))))
  refine jS (jS (jR (jm rfl (jb rfl rfl (Bin.neqN _ 0) (jO (jN (jv7 4 7 8 9 10 11 21 ?_)))))))
  refine jD rfl (fun hc2 => ?_) fun hc2 => ?_
  ·
   have ht0 : bR q = none ∧ cI q = ([], 18) := by
    rcases htc with ⟨t, _, h⟩ | h
    · rw [h] at hc2; exact absurd rfl hc2
    exact h
   have hnf : eF l = .error 18 := by
    unfold eF
    rw [uH (hq0 ▸ zm hc1) ht0.1]
   refine jS (jR (jm rfl (ja rfl (ja rfl (jO (jN (jv2 2 3 ?_)))))))
   refine jT ?_
   refine qZ (qP (qZ (qZ (qP (qZ (dQ rfl rfl ?_))))))
   rw [ht0.2]
   exact ⟨hfr1, none, 0, [], 18, rfl, Own.nil _ _ _, by simp [ob], .inr ⟨jd, rfl, hnf⟩⟩
  obtain ⟨t, ht0, hv0⟩ : ∃ t, bR q = some t ∧ cI q = (t, 0) := by
   rcases htc with h | ⟨_, h⟩
   · exact h
   rw [h] at hc2; exact absurd jd hc2
  rw [hv0]
  refine jQ (jN (jv5 4 7 9 10 11 ?_))
  refine jR (jm rfl (jM ?_))
  refine Ops.m (qH.buildS1 rfl zj zx mX jd jd rfl rfl) rfl ?_
  rintro _ w2 ⟨rfl, hF2⟩
  have hfr2 := hfr1.trans hF2.frm jp
  refine Ops.m (qH.app rfl rfl zj (nU) rfl jd (hown1.frm hF2.frm jp) (hrd1 hF2) (hZ _) jo jo) rfl ?_
  rintro _ w3 ⟨A3, c3, rfl, hown3, hfr3, hob3⟩
  rw [← eT] at hown3
  have hge3 := pC hge hob3 hfr2.size
  have hfr3' := hfr2.own hfr3 hge
  refine ja rfl (jO ?_)
  refine qN (jN ?_)
  refine jv4 4 9 10 11 ?_
  refine jR (jb rfl rfl (Bin.add_i64 _ 1 jo) (jm rfl (jO ?_)))
  refine jN ⟨(i + 1, A3, c3, ts ++ [t]), (js4 (by rw [zl]; rfl) rfl rfl rfl), ?_, ?_⟩
  · exact ⟨hc1, by simpa using hown3, hge3, hfr3', by rw [gH hc1, uG, htl, hq0, ht0]⟩
  first | omega | (dsimp only; omega)
 refine jX ?_
 refine qK (qK (qS ?_))
 refine jN (jv1 4 ?_)
 refine jS (jR (jM ?_))
 refine Ops.cl (jE1 Tryz.call188) (wL B d ts _ hown jo) rfl ?_
 rintro e w2 ⟨rfl, hown2, hf2⟩
 refine ⟨_, rfl, ?_⟩
 have hfr2 := hfr.own hf2 hge
 have him : i = l.length := jo
 subst him
 rw [zaw] at htl
 rw [← mJ ts] at hown2
 refine jO (jN (jv1 4 ?_))
 refine jS (jS (jR (jM ?_)))
 refine Ops.cl (jE1 Tryz.call189) ((show Calls _ _ #[.slice B ts.length d] _ _ from mJ ts ▸ pO B d (srt ts) _ hown2 (by rw [mJ]; omega))) rfl ?_
 rintro e w3 ⟨rfl, hown3, hf3⟩
 refine ⟨_, rfl, ?_⟩
 have hfr3 := hfr2.own hf3 hge
 refine ja rfl (jO (jN (jv1 4 ?_)))
 refine jS (jR (jm rfl (je (Run.lenS rfl zj) (jb rfl rfl (Bin.gtrN _ 16) (jO (jN (jv2 4 34 ?_)))))))
 refine jD rfl (fun hc3 => ?_) fun hc3 => ?_
 ·
  refine jS (jR (ja rfl (jz 5 (jO (jN (jv2 2 3 ?_))))))
  refine jT ?_
  refine qZ (dQ rfl rfl ?_)
  exact ⟨hfr3, none, 0, [], 5, rfl, Own.nil _ _ _, by simp [ob], .inr ⟨jd, rfl, by unfold eF; rw [htl]; exact if_pos hc3⟩⟩
 refine jQ (jN (jv1 4 ?_))
 refine jS (jR (jm rfl (ja rfl (jz 0 (jO (jN (jv2 2 3 ?_)))))))
 refine jT ?_
 refine dQ rfl rfl ?_
 exact ⟨hfr3, B, d, nub ts, 0, rfl, hown3, hge, .inl ⟨rfl, by unfold eF; rw [htl]; exact if_neg hc3⟩⟩
theorem sH (A : Option Addr) (c0 : Nat) (l : List Tx) (w : World) (hn : l.length ≤ 1000000) (hq : ∀ q ∈ l, q.length ≤ 1000000) (hr : Rd w 1 A l.length (SB l)) :
  Calls Tryz.prog 153 #[.slice A l.length c0] w fun e w' => e = .returned (.bool (decide (dX l))) ∧ Frm [] w w' := by
 refine VC.calls (nt := 17) (res := #[.tmp 2]) Tryz.func153 rfl Tryz.ntmps153 Tryz.results153 rfl ?_
 refine jS (jR (ja rfl (jO (jN (jv1 0 ?_)))))
 refine jS (jR (jM ?_))
 refine Ops.cl (jE1 Tryz.call176) (uS A c0 l _ hn hq hr) rfl ?_
 rintro e w1 ⟨hf1, B, d, r, k, rfl, ho1, hge1, hN⟩
 refine ⟨_, rfl, ?_⟩
 have hr1 := hr.frm hf1 jp
 have hck : dX l ↔ (k = 0 ∧ r = l) := by
  unfold dX
  rcases hN with ⟨h1, h2⟩ | ⟨h1, _, h2⟩
  · rw [h2]; simp [h1]
  rw [h2]; simp [h1]
 have hrl : r.length ≤ 1000000 := by
  rcases hN with ⟨h1, h2⟩ | ⟨h1, h2, _⟩
  · have := (lY (sW h2)).2.1; omega
  subst h2; simp
 refine jm rfl (je (Run.extract rfl rfl) (je (Run.extract rfl rfl) (ja rfl (ja rfl (jO (jN (jv3 0 3 4 ?_)))))))
 refine jS ?_
 refine VC.splitR [] (Frm [] w) 2 (.bool (decide (dX l))) ?_ ?_
 ·
  refine jR ?_
  refine jm rfl (jb rfl rfl (Bin.eqlN _ 0) ?_)
  by_cases hs11 : k = 0
  ·
   refine jM ?_
   refine jG ?_
   refine jG ?_
   refine Ops.clg rfl au (jE2 Tryz.call177) (uW B A d c0 r l _ ho1.rd hr1 jo jo) rfl ?_
   rintro e w2 ⟨rfl, hd2⟩
   refine ⟨_, rfl, ?_⟩
   by_cases hs15 : r = l
   ·
    refine je (Run.pickT rfl rfl au) (ja rfl (jO ?_))
    refine jN ⟨(js1 (jC (Eq.symm (by simp [hck, *])))), (by first | exact hf1.drawn hd2 | exact hf1)⟩
   refine je (Run.pickT rfl rfl au) (ja rfl (jO ?_))
   refine jN ⟨(js1 (jC (Eq.symm (by simp [hck, *])))), (by first | exact hf1.drawn hd2 | exact hf1)⟩
  refine jM ?_
  refine jU ?_
  refine jU ?_
  refine jU ?_
  refine je (Run.pickF rfl rfl au) (ja rfl (jO ?_))
  refine jN ⟨(js1 (jC (Eq.symm (by simp [hck, *])))), (by first | exact hf1.drawn hd2 | exact hf1)⟩
 intro Γ wR hΓ hR
 refine jN (VC.sub _ hΓ ?_)
 refine jT ?_
 refine qF rfl ?_
 exact ⟨rfl, hR⟩
def uT (l : List Tx) (q : Tx) : Prop := ∃ t, bR q = some t ∧ t ∈ l
theorem zT (l : List Tx) (q : Tx) : uT l q ↔ (cI q).2 = 0 ∧ (cI q).1 ∈ l := by
 unfold uT
 rcases nF q with ⟨t, h1, h2⟩ | ⟨h1, h2⟩ <;> rw [h1, h2] <;> simp
instance (l : List Tx) (q : Tx) : Decidable (uT l q) := decidable_of_iff _ (zT l q).symm
end
section
def dB (y : Nat) : Prop := y % 4 = 0 ∧ y % 100 ≠ 0 ∨ y % 400 = 0
instance (y : Nat) : Decidable (dB y) := by unfold dB; infer_instance
def longN (y m : Nat) : Nat := if m = 2 then (if dB y then 29 else 28) else if m = 4 ∨ m = 6 ∨ m = 9 ∨ m = 11 then 30 else 31
def nA (y : Nat) : Nat := if dB y then 366 else 365
def aheadN (y : Nat) : Nat := 365 * (y - 1) + (y - 1) / 4 - (y - 1) / 100 + (y - 1) / 400
def cC (y : Nat) : Nat → Nat
 | 0 => 0
 | 1 => 0
 | m + 2 => cC y (m + 1) + longN y (m + 1)
theorem uU (y : Nat) (h : 1 ≤ y) : aheadN (y + 1) = aheadN y + nA y := by
 obtain ⟨x, rfl⟩ : ∃ x, y = x + 1 := ⟨y - 1, jo⟩
 have d4 : ((x + 1) % 4 = 0 ∧ (x + 1) / 4 = x / 4 + 1) ∨ ((x + 1) % 4 ≠ 0 ∧ (x + 1) / 4 = x / 4) := jo
 have d100 : ((x + 1) % 100 = 0 ∧ (x + 1) / 100 = x / 100 + 1) ∨ ((x + 1) % 100 ≠ 0 ∧ (x + 1) / 100 = x / 100) := jo
 have d400 : ((x + 1) % 400 = 0 ∧ (x + 1) / 400 = x / 400 + 1) ∨ ((x + 1) % 400 ≠ 0 ∧ (x + 1) / 400 = x / 400) := jo
 have i1 : (x + 1) % 400 = 0 → (x + 1) % 100 = 0 := jo
 have i2 : (x + 1) % 100 = 0 → (x + 1) % 4 = 0 := jo
 have i3 : x / 100 ≤ x / 4 := jo
 have i4 : (x + 1) / 100 ≤ (x + 1) / 4 := jo
 unfold aheadN nA
 by_cases hl : dB (x + 1)
 ·
  rw [if_pos hl]; unfold dB at hl; simp only [Nat.add_sub_cancel]
  generalize (x + 1) % 4 = m4 at *
  generalize (x + 1) % 100 = m100 at *
  generalize (x + 1) % 400 = m400 at *
  generalize (x + 1) / 4 = a4 at *
  generalize (x + 1) / 100 = a100 at *
  generalize (x + 1) / 400 = a400 at *
  generalize x / 4 = b4 at *
  generalize x / 100 = b100 at *
  generalize x / 400 = b400 at *
  omega
 rw [if_neg hl]; unfold dB at hl; simp only [Nat.add_sub_cancel]
 generalize (x + 1) % 4 = m4 at *
 generalize (x + 1) % 100 = m100 at *
 generalize (x + 1) % 400 = m400 at *
 generalize (x + 1) / 4 = a4 at *
 generalize (x + 1) / 100 = a100 at *
 generalize (x + 1) / 400 = a400 at *
 generalize x / 4 = b4 at *
 generalize x / 100 = b100 at *
 generalize x / 400 = b400 at *
 omega
theorem mM (y m : Nat) (h : 1 ≤ m) : cC y (m + 1) = cC y m + longN y m := by
 obtain ⟨x, rfl⟩ : ∃ x, m = x + 1 := ⟨m - 1, jo⟩
 rfl
theorem qZy (f g : Nat → Nat) (h1 : f 1 = 0) (h : ∀ m, 1 ≤ m → f (m + 1) = f m + g m) : f 13 = g 1 + g 2 + g 3 + g 4 + g 5 + g 6 + g 7 + g 8 + g 9 + g 10 + g 11 + g 12 := by
 rw [h 12 jo, h 11 jo, h 10 jo, h 9 jo, h 8 jo, h 7 jo, h 6 jo, h 5 jo, h 4 jo, h 3 jo, h 2 jo, h 1 jo, h1]
 omega
theorem uB (y : Nat) : cC y 13 = nA y := by
 rw [qZy (cC y) (longN y) rfl (mM y)]
 unfold longN nA
 by_cases hl : dB y
 · simp [hl]
 simp [hl]
theorem xW (y : Nat) (h : aheadN y ≤ 3652058) : y ≤ 9999 := by unfold aheadN at h; omega
theorem xY (n : Nat) : n < aheadN (n / 365 + 1 + 1) := by unfold aheadN; omega
theorem xG : aheadN 1 = 0 := rfl
def qQ2 (n : Int) (y m d : Nat) : Prop := 1 ≤ y ∧ y ≤ 9999 ∧ 1 ≤ m ∧ m ≤ 12 ∧ 1 ≤ d ∧ d ≤ longN y m ∧ n + 719162 = ((aheadN y + cC y m + (d - 1) : Nat) : Int)
def eA (sec zone : Int) : Prop := -1439 ≤ zone ∧ zone ≤ 1439 ∧ -719162 * 86400 ≤ sec + 60 * zone ∧ sec + 60 * zone < 2932897 * 86400
instance (a b : Int) : Decidable (eA a b) := by unfold eA; infer_instance
end
section
open Go.RowKit
structure MsgP where
 uid : Int
 sec : Int
 zone : Int
 size : Int
 blob : Nat
 flags : List Tx
deriving DecidableEq
structure Mc where
 m : MsgP
 A : Option Addr
 c : Nat
def Mc.cells (x : Mc) : List Value := [.int .i64 x.m.uid, .int .i64 x.m.sec, .int .i64 x.m.zone, .int .i64 x.m.size, .int .u64 (x.m.blob : Int), .slice x.A x.m.flags.length x.c]
theorem Mc.cells_len (x : Mc) : x.cells.length = 6 := rfl
theorem Mc.cells_one (x : Mc) : ∀ u ∈ x.cells, u.oneCell' = true := by
 intro u hu
 simp only [Mc.cells, zbc, zbt, or_false] at hu
 rcases hu with rfl | rfl | rfl | rfl | rfl | rfl <;> rfl
abbrev MC (l : List Mc) : List Value := l.flatMap Mc.cells
theorem nI (l : List Mc) : (MC l).length = l.length * 6 := pD Mc.cells 6 Mc.cells_len l
theorem oA (a b : List Mc) : MC (a ++ b) = MC a ++ MC b := List.flatMap_append
structure Mc.At (w : World) (x : Mc) : Prop where
 rd : Rd w 1 x.A x.m.flags.length (SB x.m.flags)
 n : x.m.flags.length ≤ 500000
 q : ∀ q ∈ x.m.flags, q.length ≤ 1000000
theorem Mc.At.frm {w w' : World} {S : List Nat} {x : Mc} (h : x.At w) (k : Frm S w w') (hS : ∀ b ∈ S, w.heap.size ≤ b) : x.At w' :=
 ⟨h.rd.frm k (fun hn y hy hyS => by have := h.rd.lt hn y hy; have := hS y hyS; omega), h.n, h.q⟩
structure RdM (w : World) (A : Option Addr) (l : List Mc) : Prop where
 rd : Rd w 6 A l.length (MC l)
 fl : ∀ x ∈ l, x.At w
theorem RdM.nil (w : World) (A : Option Addr) : RdM w A [] := ⟨Rd.nil _ _ _, jp⟩
theorem RdM.frm {w w' : World} {A : Option Addr} {l : List Mc} (h : RdM w A l) (k : Frm [] w w') : RdM w' A l :=
 ⟨h.rd.frm k jp, fun x hx => (h.fl x hx).frm k jp⟩
theorem RdM.elem {w : World} {A : Option Addr} {l : List Mc} {k : Nat} (h : RdM w A l) (hk : k < l.length) : ∃ ad, A = some ad ∧ ∀ j v, (l[k]).cells[j]? = some v → w.cell? ((ad.add (k * 6)).add j) = some v := by
 obtain ⟨ad, rfl, hc⟩ := h.rd.elem hk
 refine ⟨ad, rfl, fun j v hj => hc j v ?_⟩
 rw [fJ Mc.cells 6 Mc.cells_len l k hk]
 exact hj
structure BoxV where
 valid : Int
 next : Int
 l : List MsgP
deriving DecidableEq
abbrev Ms (l : List Mc) : List MsgP := l.map Mc.m
def eI (m : MsgP) : Prop := eA m.sec m.zone ∧ 0 ≤ m.size ∧ m.blob ≠ 0 ∧ dX m.flags
instance (m : MsgP) : Decidable (eI m) := by unfold eI; infer_instance
def nL (l : List MsgP) : Nat → Int
 | 0 => 0
 | j + 1 => (l[j]?.map MsgP.uid).getD 0
def cR (next : Int) (l : List MsgP) (j : Nat) (m : MsgP) : Prop := nL l j < m.uid ∧ m.uid < next ∧ eI m
instance (a : Int) (l : List MsgP) (j : Nat) (m : MsgP) : Decidable (cR a l j m) := by unfold cR; infer_instance
def bE (b : BoxV) : Prop := (1 ≤ b.valid ∧ b.valid ≤ 2147483647 ∧ 1 ≤ b.next ∧ b.next ≤ 2147483648 ∧ b.l.length ≤ 128) ∧ ∀ j (h : j < b.l.length), cR b.next b.l j b.l[j]
instance (b : BoxV) : Decidable (bE b) := by
 unfold bE
 infer_instance
def zU : Tx := [92, 68, 101, 108, 101, 116, 101, 100]
def qQ3 (every : Bool) (only : List Int) (m : MsgP) : Prop := uT m.flags zU ∧ (every = true ∨ m.uid ∈ only)
instance (every : Bool) (only : List Int) (m : MsgP) : Decidable (qQ3 every only m) := by unfold qQ3; infer_instance
abbrev BVc (v n : Int) (A : Option Addr) (m c : Nat) : List Value := [.int .i64 v, .int .i64 n, .slice A m c]
theorem cW (v n : Int) (A : Option Addr) (m c : Nat) : ∀ u ∈ BVc v n A m c, u.oneCell' = true := by
 intro u hu
 simp only [BVc, zbc, zbt, or_false] at hu
 rcases hu with rfl | rfl | rfl <;> rfl
def rJ (w' : World) (F : Except Nat BoxV) (v n : Int) (B : Option Addr) (d : Nat) (l : List Mc) (k : Nat) : Prop :=
 RdM w' B l ∧ ((k = 0 ∧ F = .ok ⟨v, n, Ms l⟩) ∨ (k ≠ 0 ∧ F = .error k ∧ v = 0 ∧ n = 0 ∧ B = none ∧ d = 0 ∧ l = []))
theorem rJ.err {w' : World} {F : Except Nat BoxV} {k : Nat} (hk : k ≠ 0) (h : F = .error k) : rJ w' F 0 0 none 0 [] k := ⟨RdM.nil _ _, .inr ⟨hk, h, rfl, rfl, rfl, rfl, rfl⟩⟩
theorem rJ.frm {w w' : World} {F : Except Nat BoxV} {v n : Int} {B : Option Addr} {d : Nat} {l : List Mc} {k : Nat} (h : rJ w F v n B d l k) (hf : Frm [] w w') : rJ w' F v n B d l k := ⟨h.1.frm hf, h.2⟩
end
section
open Go.RowKit
abbrev NmP := Tx × BoxV
structure MailP where
 l : List NmP
 subs : List Tx
 valid : Int
 blob : Int
deriving DecidableEq
def dG (s : Tx) : Prop := isN s ∧ qJ s = s
instance (s : Tx) : Decidable (dG s) := by unfold dG; infer_instance
def bY (l : List Tx) (i : Nat) (s : Tx) : Prop := dG s ∧ (0 < i → (l[i - 1]?).getD [] < s)
instance (l : List Tx) (i : Nat) (s : Tx) : Decidable (bY l i s) := by unfold bY; infer_instance
def cD (l : List Tx) : Prop := l.length ≤ 24 ∧ ∀ i (h : i < l.length), bY l i l[i]
instance (l : List Tx) : Decidable (cD l) := by unfold cD; infer_instance
abbrev qD (m : MailP) : List Tx := m.l.map Prod.fst
def nO (valid blob : Int) (l : List NmP) (i : Nat) (x : NmP) : Prop := bE x.2 ∧ x.2.valid ≤ valid ∧ (∀ y ∈ l.take i, y.2.valid ≠ x.2.valid) ∧ ∀ y ∈ x.2.l, (y.blob : Int) ≤ blob
instance (v b : Int) (l : List NmP) (i : Nat) (x : NmP) : Decidable (nO v b l i x) := by unfold nO; infer_instance
def cX (m : MailP) : Prop := cD (qD m) ∧ cD m.subs ∧ 1 ≤ m.valid ∧ m.valid ≤ 2147483647 ∧ 0 ≤ m.blob ∧ m.blob ≤ 2147483647 ∧ qT ∈ qD m
instance (m : MailP) : Decidable (cX m) := by unfold cX; infer_instance
def bZ (m : MailP) : Prop := cX m ∧ ∀ i (h : i < m.l.length), nO m.valid m.blob m.l i m.l[i]
instance (m : MailP) : Decidable (bZ m) := by unfold bZ; infer_instance
def bK (l : List NmP) : Prop := (l.map Prod.fst).Pairwise (· < ·)
theorem bN (a : Tx) : ¬ a < a := List.lt_irrefl a
theorem dW {a b c : Tx} (h1 : a < b) (h2 : b < c) : a < c := List.lt_trans h1 h2
theorem lG {a b : Tx} (h1 : ¬ a < b) (h2 : ¬ b < a) : a = b := List.le_antisymm (List.not_lt.1 h2) (List.not_lt.1 h1)
theorem oQ : ∀ {l : List Tx}, (∀ i (h : i < l.length), 0 < i → (l[i - 1]?).getD [] < l[i]) → l.Pairwise (· < ·) := by
 intro l h
 rw [zcm]
 intro i j hi hj hij
 induction j with
 | zero => omega
 | succ j ih =>
  have h1 := h (j + 1) hj jo
  rw [show j + 1 - 1 = j by omega, ze jo] at h1
  by_cases e : i = j
  · subst e; exact h1
  exact dW (ih jo jo) h1
theorem dD {m : MailP} (h : bZ m) : bK m.l := oQ fun i hi h0 => (h.1.1.2 i hi).2 h0
def bV (l : List NmP) (t : Tx) (b : BoxV) : List NmP := l.filter (fun x => decide (x.1 < t)) ++ (t, b) :: l.filter (fun x => decide (t < x.1))
def eX (l : List NmP) (t : Tx) (i : Nat) : Prop := i ≤ l.length ∧ (∀ j (h : j < l.length), j < i → (l[j]).1 < t) ∧ ∀ j (h : j < l.length), i ≤ j → ¬ (l[j]).1 < t
theorem kY {l : List NmP} {t : Tx} {i : Nat} (h : eX l t i) : l.filter (fun x => decide (x.1 < t)) = l.take i := by
 obtain ⟨h1, h2, h3⟩ := h
 conv => lhs; rw [← zbf i l]
 rw [zbv, List.filter_eq_self.2, List.filter_eq_nil_iff.2, zbq]
 ·
  intro x hx
  obtain ⟨j, hj, rfl⟩ := zu hx
  rw [zag] at hj
  rw [zee]
  simpa using h3 (i + j) jo jo
 intro x hx
 obtain ⟨j, hj, rfl⟩ := zu hx
 rw [zk] at hj
 rw [zcw]
 simpa using h2 j jo jo
theorem dE {l : List NmP} (h : bK l) {i j : Nat} (hi : i < l.length) (hj : j < l.length) (hij : i < j) : (l[i]).1 < (l[j]).1 := by
 have := zcm.1 h i j (by simpa using hi) (by simpa using hj) hij
 simpa using this
theorem gM {l : List NmP} {t : Tx} {i : Nat} (hr : bK l) (h : eX l t i) : (∃ hi : i < l.length, (l[i]).1 = t) ↔ t ∈ l.map Prod.fst := by
 constructor
 ·
  rintro ⟨hi, he⟩
  rw [← he]
  exact zaq (zm hi)
 intro hm
 obtain ⟨x, hx, rfl⟩ := List.mem_map.1 hm
 obtain ⟨j, hj, rfl⟩ := zu hx
 have hij : i ≤ j := by
  rcases zbs j i with h4 | h4
  · exact absurd (h.2.1 j hj h4) (bN _)
  exact h4
 have hi : i < l.length := jo
 refine ⟨hi, ?_⟩
 by_cases e : i = j
 · subst e; rfl
 exact absurd (dE hr hi hj jo) (h.2.2 i hi (zv _))
theorem pH {l : List NmP} {t : Tx} {i : Nat} (hr : bK l) (hi : i < l.length) (he : (l[i]).1 = t) : l.filter (fun x => decide (t < x.1)) = l.drop (i + 1) := by
 conv => lhs; rw [← zbf (i + 1) l]
 rw [zbv, List.filter_eq_nil_iff.2, List.filter_eq_self.2, zcd]
 ·
  intro x hx
  obtain ⟨j, hj, rfl⟩ := zu hx
  rw [zag] at hj
  rw [zee, ← he]
  simpa using dE hr hi (j := i + 1 + j) jo jo
 intro x hx
 obtain ⟨j, hj, rfl⟩ := zu hx
 rw [zk] at hj
 rw [zcw]
 simp only [decide_eq_true_eq]
 intro h2
 rw [← he] at h2
 by_cases e : i = j
 · subst e; exact bN _ h2
 exact bN _ (dW h2 (dE hr (i := j) jo hi jo))
theorem uC {l : List NmP} {t : Tx} {i : Nat} (h : eX l t i) (hn : t ∉ l.map Prod.fst) : l.filter (fun x => decide (t < x.1)) = l.drop i := by
 conv => lhs; rw [← zbf i l]
 rw [zbv, List.filter_eq_nil_iff.2, List.filter_eq_self.2, zcd]
 ·
  intro x hx
  have hx2 := zcs hx
  obtain ⟨j, hj, rfl⟩ := zu hx
  rw [zag] at hj
  rw [zee] at hx2 ⊢
  have h1 := h.2.2 (i + j) jo jo
  simp only [decide_eq_true_eq]
  rcases Classical.em (t < (l[i + j]).1) with h2 | h2
  · exact h2
  exact absurd (List.mem_map.2 ⟨_, hx2, lG h1 h2⟩) hn
 intro x hx
 obtain ⟨j, hj, rfl⟩ := zu hx
 rw [zk] at hj
 rw [zcw]
 simp only [decide_eq_true_eq]
 intro h2
 exact bN _ (dW h2 (h.2.1 j jo jo))
theorem zB {l : List NmP} {t : Tx} {i : Nat} {b : BoxV} (h : eX l t i) (hn : t ∉ l.map Prod.fst) : bV l t b = l.take i ++ (t, b) :: l.drop i := by
 unfold bV
 rw [kY h, uC h hn]
theorem zC {l : List NmP} {t : Tx} {i : Nat} {b : BoxV} (hr : bK l) (h : eX l t i) (hi : i < l.length) (he : (l[i]).1 = t) : bV l t b = l.set i (t, b) := by
 unfold bV
 rw [kY h, pH hr hi he, zdv, if_pos hi]
theorem uD {l : List NmP} {t : Tx} {i : Nat} (hr : bK l) (h : eX l t i) (hi : i < l.length) (he : (l[i]).1 = t) : l.filter (fun x => decide (x.1 ≠ t)) = l.take i ++ l.drop (i + 1) := by
 have e1 : l = l.take i ++ l[i] :: l.drop (i + 1) := by
  have h2 := (zbf i l).symm
  rw [zaz hi] at h2
  exact h2
 conv => lhs; rw [e1]
 rw [zbv, zdb, if_neg (by simp [he]), List.filter_eq_self.2, List.filter_eq_self.2]
 ·
  intro x hx
  obtain ⟨j, hj, rfl⟩ := zu hx
  rw [zag] at hj
  rw [zee]
  have h3 := dE hr hi (j := i + 1 + j) jo jo
  simp only [ne_eq, decide_not, zcv, decide_eq_false_iff_not]
  intro e
  rw [e, he] at h3
  exact bN _ h3
 intro x hx
 obtain ⟨j, hj, rfl⟩ := zu hx
 rw [zk] at hj
 rw [zcw]
 have h3 := h.2.1 j jo jo
 simp only [ne_eq, decide_not, zcv, decide_eq_false_iff_not]
 intro e
 rw [e] at h3
 exact bN _ h3
theorem kG {l : List NmP} {t : Tx} {b : BoxV} (hr : bK l) : bK (bV l t b) := by
 unfold bK bV at *
 rw [zbm, zcq]
 refine List.pairwise_append.2 ⟨hr.sublist (zcj.map _), List.pairwise_cons.2 ⟨fun y hy => ?_, hr.sublist (zcj.map _)⟩, fun a ha c hc => ?_⟩
 ·
  obtain ⟨x, hx, rfl⟩ := List.mem_map.1 hy
  simpa using (List.mem_filter.1 hx).2
 obtain ⟨x, hx, rfl⟩ := List.mem_map.1 ha
 have h1 : x.1 < t := by simpa using (List.mem_filter.1 hx).2
 rcases zbc.1 hc with rfl | hc
 · exact h1
 obtain ⟨y, hy, rfl⟩ := List.mem_map.1 hc
 have h2 : t < y.1 := by simpa using (List.mem_filter.1 hy).2
 exact dW h1 h2
theorem fB {l : List NmP} {t : Tx} {b : BoxV} (x : Tx) : x ∈ (bV l t b).map Prod.fst ↔ x = t ∨ x ∈ l.map Prod.fst := by
 unfold bV
 rw [zbm, zcq, List.mem_append, zbc]
 constructor
 ·
  rintro (h | h | h)
  ·
   obtain ⟨y, hy, rfl⟩ := List.mem_map.1 h
   exact .inr (zaq (List.mem_filter.1 hy).1)
  · exact .inl h
  obtain ⟨y, hy, rfl⟩ := List.mem_map.1 h
  exact .inr (zaq (List.mem_filter.1 hy).1)
 rintro (h | h)
 · exact .inr (.inl h)
 obtain ⟨y, hy, rfl⟩ := List.mem_map.1 h
 by_cases h1 : y.1 < t
 · exact .inl (zaq (List.mem_filter.2 ⟨hy, by simpa using h1⟩))
 by_cases h2 : t < y.1
 · exact .inr (.inr (zaq (List.mem_filter.2 ⟨hy, by simpa using h2⟩)))
 exact .inr (.inl (lG h1 h2))
def fC (l : List NmP) (t : Tx) : Option BoxV := (l.find? (fun x => decide (x.1 = t))).map Prod.snd
theorem fV {l : List NmP} {t : Tx} {i : Nat} (hr : bK l) (hi : i < l.length) (he : (l[i]).1 = t) : fC l t = some (l[i]).2 := by
 unfold fC
 have : l.find? (fun x => decide (x.1 = t)) = some l[i] := by
  rw [List.find?_eq_some_iff_getElem]
  refine ⟨by simpa using he, i, hi, rfl, fun j hj => ?_⟩
  have h3 := dE hr (i := j) jo hi hj
  simp only [zcv, decide_eq_false_iff_not]
  intro e
  rw [e, he] at h3
  exact bN _ h3
 rw [this]
 rfl
theorem uE {l : List NmP} {t : Tx} (hn : t ∉ l.map Prod.fst) : fC l t = none := by
 unfold fC
 rw [Option.map_eq_none_iff, List.find?_eq_none]
 intro x hx
 simp only [decide_eq_true_eq]
 intro e
 exact hn (by rw [← e]; exact zaq hx)
def lH : Nat → Tx → List Tx
 | 0, _ => []
 | n + 1, s => if s = [] then [] else s :: lH n (upN s)
def anc (s : Tx) : List Tx := lH s.length s
theorem oI : ∀ (m n : Nat) (s : Tx), s.length ≤ m → s.length ≤ n → lH m s = lH n s
 | 0, n, s, h, _ => by
  obtain rfl : s = [] := zaa jo
  cases n <;> simp [lH]
 | m + 1, 0, s, _, h => by
  obtain rfl : s = [] := zaa jo
  simp [lH]
 | m + 1, n + 1, s, h1, h2 => by
  unfold lH
  split
  · rfl
  rename_i h
  have := eQ h
  rw [oI m n (upN s) jo jo]
theorem anc_nil : anc [] = [] := rfl
theorem eM {s : Tx} (h : s ≠ []) : anc s = s :: anc (upN s) := by
 have h1 := eQ h
 have h2 : 0 < s.length := List.length_pos_iff.2 h
 unfold anc
 rw [show s.length = (s.length - 1) + 1 by omega, lH, if_neg h, oI (s.length - 1) (upN s).length _ jo (zv _)]
theorem qXl (s : Tx) : (anc s).length ≤ s.length := by
 have key : ∀ n (s : Tx), s.length ≤ n → (anc s).length ≤ s.length := by
  intro n
  induction n with
  | zero => intro s h; obtain rfl : s = [] := zaa jo; simp [anc_nil]
  | succ n ih =>
   intro s h
   by_cases h0 : s = []
   · subst h0; simp [anc_nil]
   have h1 := eQ h0
   rw [eM h0, zav]
   have := ih (upN s) jo
   omega
 exact key _ s (zv _)
def qO (l : List NmP) (s : Tx) : List Tx := ((anc s).filter fun x => decide (qJ x ∉ l.map Prod.fst)).reverse
def bU (m : MailP) (x : Tx) : MailP := { m with valid := m.valid + 1, l := bV m.l (qJ x) ⟨m.valid + 1, 1, []⟩ }
def bX (m : MailP) (s : Tx) : MailP := (qO m.l s).foldl bU m
def cV (m : MailP) (more valids : Nat) : Nat := if 24 < m.l.length + more then 5 else if 2147483647 < m.valid + (valids : Int) then 19 else 0
def fW (m : MailP) (s : Tx) : Except Nat MailP :=
 if ¬ bZ m then .error 1 else if ¬ isN s then .error 18 else if qJ s ∈ qD m then .error 15
 else if cV m (qO m.l s).length (qO m.l s).length ≠ 0 then .error (cV m (qO m.l s).length (qO m.l s).length) else .ok (bX m s)
def eZ (m : MailP) (s : Tx) : Except Nat MailP :=
 if ¬ bZ m then .error 1 else if ¬ isN s then .error 18 else if qJ s ∉ qD m then .error 6 else if qJ s = qT then .error 17
 else if ∃ x ∈ qD m, bO x s then .error 16 else .ok { m with l := m.l.filter fun x => decide (x.1 ≠ qJ s) }
def gN (m : MailP) (s : Tx) : Option BoxV := if bZ m then fC m.l (qJ s) else none
end
section
open Go.RowKit
theorem kH (y : Nat) (w : World) (h1 : 1 ≤ y) (h2 : y ≤ 100000) : Calls Tryz.prog 185 #[.int .i64 ((y : Nat) : Int)] w fun e w' => e = .returned (.int .i64 ((aheadN y : Nat) : Int)) ∧ w = w' := by
 refine VC.calls (nt := 17) (res := #[.tmp 2]) Tryz.func185 rfl Tryz.ntmps185 Tryz.results185 rfl ?_
 refine jS (jR (jz 0 (jO (jN (jv1 0 ?_)))))
 refine jS (jR (jm rfl (jb rfl rfl (Bin.sub_i64 _ 1 jo jo) (ja rfl (jO (jN (jv1 3 ?_)))))))
 refine jS (jR (jm rfl (jb rfl rfl (Bin.mul_i64 365 _ jo) (jm rfl (jb rfl rfl (Bin.quo_i64 _ 4 jo jo) (jb rfl rfl (Bin.add_i64 _ _ jo) (jm rfl (jb rfl rfl (Bin.quo_i64 _ 100 jo jo) (jb rfl rfl (Bin.sub_i64 _ _ jo jo) ?_)))))))))
 refine jm rfl (jb rfl rfl (Bin.quo_i64 _ 400 jo jo) (jb rfl rfl (Bin.add_i64 _ _ jo) (ja rfl (jO (jN (jv1 2 ?_))))))
 refine jT ?_
 refine qF rfl ?_
 exact ⟨rfl, rfl⟩
theorem xH (y : Nat) (w : World) : Calls Tryz.prog 196 #[.int .i64 ((y : Nat) : Int)] w fun e w' => e = .returned (.bool (decide (dB y))) ∧ w = w' := by
 refine VC.calls (nt := 16) (res := #[.tmp 2]) Tryz.func196 rfl Tryz.ntmps196 Tryz.results196 rfl ?_
 refine jS (jR (ja rfl (jO (jN (jv1 0 ?_)))))
 refine jS ?_
 refine VC.split1 [] .nil 2 (.bool (decide (dB y))) ?_ ?_
 ·
  refine jR ?_
  refine jm rfl (jb rfl rfl (Bin.remN _ 4 jo) (jb rfl rfl (Bin.eqlN _ 0) ?_))
  by_cases hs5 : y % 4 = 0
  ·
   refine jM ?_
   refine jG ?_
   refine jk (Run.bin rfl rfl (Bin.remN _ 100 jo)) ?_
   refine jk (Run.bin rfl rfl (Bin.neqN _ 0)) ?_
   by_cases hs9 : y % 100 ≠ 0
   ·
    refine je (Run.pickT rfl rfl au) (jM ?_)
    refine jU ?_
    refine jU ?_
    refine jU ?_
    refine je (Run.pickT rfl rfl au) (ja rfl (jO ?_))
    refine jN ⟨(js1 (jC (Eq.symm (by unfold dB; simp [*])))), rfl⟩
   refine je (Run.pickT rfl rfl au) (jM ?_)
   refine jG ?_
   refine jk (Run.bin rfl rfl (Bin.remN _ 400 jo)) ?_
   refine jk (Run.bin rfl rfl (Bin.eqlN _ 0)) ?_
   by_cases hs14 : y % 400 = 0
   ·
    refine je (Run.pickF rfl rfl au) (ja rfl (jO ?_))
    refine jN ⟨(js1 (jC (Eq.symm (by unfold dB; simp [*])))), rfl⟩
   refine je (Run.pickF rfl rfl au) (ja rfl (jO ?_))
   refine jN ⟨(js1 (jC (Eq.symm (by unfold dB; simp [*])))), rfl⟩
  refine jM ?_
  refine jU ?_
  refine jU ?_
  refine jU ?_
  refine je (Run.pickF rfl rfl au) (jM ?_)
  refine jG ?_
  refine jk (Run.bin rfl rfl (Bin.remN _ 400 jo)) ?_
  refine jk (Run.bin rfl rfl (Bin.eqlN _ 0)) ?_
  by_cases hs14 : y % 400 = 0
  ·
   refine je (Run.pickF rfl rfl au) (ja rfl (jO ?_))
   refine jN ⟨(js1 (jC (Eq.symm (by unfold dB; simp [*])))), rfl⟩
  refine je (Run.pickF rfl rfl au) (ja rfl (jO ?_))
  refine jN ⟨(js1 (jC (Eq.symm (by unfold dB; simp [*])))), rfl⟩
 intro Γ hΓ
 refine jN (VC.sub _ hΓ ?_)
 refine jT ?_
 refine qF rfl ?_
 exact ⟨rfl, rfl⟩
def qQ4 : List Nat := [31, 28, 31, 30, 31, 30, 31, 31, 30, 31, 30, 31]
theorem zD {m : Nat} (h1 : 1 ≤ m) (h2 : m ≤ 12) : qQ4[m - 1]? = some (if m = 2 then 28 else if m = 4 ∨ m = 6 ∨ m = 9 ∨ m = 11 then 30 else 31) := by
 have : m = 1 ∨ m = 2 ∨ m = 3 ∨ m = 4 ∨ m = 5 ∨ m = 6 ∨ m = 7 ∨ m = 8 ∨ m = 9 ∨ m = 10 ∨ m = 11 ∨ m = 12 := jo
 rcases this with rfl | rfl | rfl | rfl | rfl | rfl | rfl | rfl | rfl | rfl | rfl | rfl <;> rfl
theorem oL (y m : Nat) (w : World) (h1 : 1 ≤ m) (h2 : m ≤ 12) : Calls Tryz.prog 186 #[.int .i64 ((y : Nat) : Int), .int .i64 ((m : Nat) : Int)] w fun e w' => e = .returned (.int .i64 ((longN y m : Nat) : Int)) ∧ w = w' := by
 refine VC.calls (nt := 17) (res := #[.tmp 4]) Tryz.func186 rfl Tryz.ntmps186 Tryz.results186 rfl ?_
 refine jS (jR (jz 0 (jO (jN (jv2 0 1 ?_)))))
 refine jS (jR (je (Run.buildA (evs.cons rfl (evs.cons rfl (evs.cons rfl (evs.cons rfl (evs.cons rfl (evs.cons rfl (evs.cons rfl (evs.cons rfl (evs.cons rfl (evs.cons rfl (evs.cons rfl (evs.cons rfl evs.nil)))))))))))) qXe Tryz.underlying211 zq (cells := (IB (qQ4.map fun x : Nat => (x : Int))).toArray) jK) (jm rfl (jb rfl rfl (Bin.sub_i64 _ 1 jo jo) ?_))))
 refine Ops.r (Run.indexArr1 (v := .int .i64 (((if m = 2 then 28 else if m = 4 ∨ m = 6 ∨ m = 9 ∨ m = 11 then 30 else 31) : Nat) : Int)) (m - 1) rfl rfl Tryz.underlying211 zy zq rfl (by simp [IB, zD h1 h2])) rfl ?_
 refine ja rfl (jO (jN (jv3 0 1 5 ?_)))
 refine jS (jS ?_)
 refine VC.split1 [(5, _)] (js1 rfl) 15 (.bool (decide (m = 2 ∧ dB y))) ?_ ?_
 ·
  refine jR ?_
  refine jm rfl (jb rfl rfl (Bin.eqlN _ 2) ?_)
  by_cases hs11 : m = 2
  ·
   refine jM ?_
   refine jG ?_
   refine Ops.clg rfl au (jE1 Tryz.call196) (xH y _) rfl ?_
   rintro e _ ⟨rfl, rfl⟩
   refine ⟨_, rfl, ?_⟩
   by_cases hs14 : dB y
   ·
    refine je (Run.pickT rfl rfl au) (jO ?_)
    refine jN ⟨(js2 (jC (Eq.symm (by simp [*]))) rfl), rfl⟩
   refine je (Run.pickT rfl rfl au) (jO ?_)
   refine jN ⟨(js2 (jC (Eq.symm (by simp [*]))) rfl), rfl⟩
  refine jM ?_
  refine jU ?_
  refine jU ?_
  refine je (Run.pickF rfl rfl au) (jO ?_)
  refine jN ⟨(js2 (jC (Eq.symm (by simp [*]))) rfl), rfl⟩
 intro Γ hΓ
 refine jN (VC.sub _ hΓ ?_)
 refine jD rfl (fun hc1 => ?_) fun hc1 => ?_
 ·
  refine jS (jR (jz 29 (jO (jN (jv1 4 ?_)))))
  refine jT ?_
  refine qZ (qF rfl ?_)
  exact ⟨by rw [show longN y m = 29 by unfold longN; rw [if_pos hc1.1, if_pos hc1.2]], rfl⟩
 refine jQ (jN (jv1 5 ?_))
 refine jS (jR (jm rfl (ja rfl (jO (jN (jv1 4 ?_))))))
 refine jT ?_
 refine qF rfl ?_
 refine ⟨?_, rfl⟩
 have e : longN y m = (if m = 2 then 28 else if m = 4 ∨ m = 6 ∨ m = 9 ∨ m = 11 then 30 else 31) := by
  unfold longN
  by_cases h : m = 2
  · rw [if_pos h, if_pos h, if_neg (fun hl => hc1 ⟨h, hl⟩)]
  rw [if_neg h, if_neg h]
 rw [e]
theorem uF (n : Int) (w : World) : Calls Tryz.prog 175 #[.int .i64 n] w fun e w' =>
  w = w' ∧ ∃ y m d k : Nat, e = .returned (.tuple #[.int .i64 ((y : Nat) : Int), .int .i64 ((m : Nat) : Int), .int .i64 ((d : Nat) : Int), .int .i64 ((k : Nat) : Int)]) ∧
   (((n < -719162 ∨ 2932896 < n) ∧ y = 0 ∧ m = 0 ∧ d = 0 ∧ k = 4) ∨ (¬ (n < -719162 ∨ 2932896 < n) ∧ k = 0 ∧ qQ2 n y m d)) := by
 refine VC.calls (nt := 47) (res := #[.tmp 2, .tmp 3, .tmp 4, .tmp 5]) Tryz.func175 rfl Tryz.ntmps175 Tryz.results175 rfl ?_
 refine jS (jR (jz 0 (jz 0 (jz 0 (jz 0 (jO (jN (jv1 0 ?_))))))))
 refine jS (jS ?_)
 refine VC.split1 [(0, _)] (js1 rfl) 15 (.bool (decide (n < -719162 ∨ 2932896 < n))) ?_ ?_
 ·
  refine jR ?_
  refine jm rfl (jb rfl rfl (Bin.lss _ (-719162)) ?_)
  by_cases hs9 : n < -719162
  ·
   refine jM ?_
   refine jU ?_
   refine jU ?_
   refine jU ?_
   refine jU ?_
   refine je (Run.pickT rfl rfl au) (jO ?_)
   refine jN ⟨(js2 (jC (Eq.symm (by first | exact decide_eq_true jo | exact decide_eq_false jo | exact decide_eq_decide.2 jo))) rfl), rfl⟩
  refine jM ?_
  refine jG ?_
  refine Ops.clg rfl au (jE1 Tryz.call185) (kH 10000 _ jo jo) rfl ?_
  rintro e _ ⟨rfl, rfl⟩
  refine ⟨_, rfl, ?_⟩
  rw [show aheadN 10000 = 3652059 from rfl]
  refine jk (Run.bin rfl rfl (Bin.sub_i64 _ 719162 jo jo)) ?_
  refine jk (Run.bin rfl rfl (Bin.geq _ _)) ?_
  by_cases hs14 : ((2932897 : Nat) : Int) ≤ n
  ·
   refine je (Run.pickF rfl rfl au) (jO ?_)
   refine jN ⟨(js2 (jC (Eq.symm (by first | exact decide_eq_true jo | exact decide_eq_false jo | exact decide_eq_decide.2 jo))) rfl), rfl⟩
  refine je (Run.pickF rfl rfl au) (jO ?_)
  refine jN ⟨(js2 (jC (Eq.symm (by first | exact decide_eq_true jo | exact decide_eq_false jo | exact decide_eq_decide.2 jo))) rfl), rfl⟩
 intro Γ hΓ
 refine jN (VC.sub _ hΓ ?_)
 refine jD rfl (fun hc1 => ?_) fun hc1 => ?_
 ·
  refine jS (jR (jz 0 (jz 0 (jz 0 (jz 4 (jO (jN (jv4 2 3 4 5 ?_))))))))
  refine jT ?_
  refine qZ (bM ?_)
  refine qL rfl ?_
  refine qL rfl ?_
  refine qL rfl ?_
  refine qL rfl ?_
  refine qI ?_
  exact ⟨rfl, 0, 0, 0, 4, rfl, .inl ⟨hc1, rfl, rfl, rfl, rfl⟩⟩
 obtain ⟨n1, hn1⟩ : ∃ n1 : Nat, n + 719162 = ((n1 : Nat) : Int) := ⟨(n + 719162).toNat, jo⟩
 have hn1m : n1 ≤ 3652058 := jo
 refine jQ (jN (jv1 0 ?_))
 refine jS (jR (jm rfl (jb rfl rfl (Bin.addZ _ 719162 jo jo) ?_)))
 rw [hn1]
 refine ja rfl (jO (jN (jv1 0 ?_)))
 refine jS (jR (jm rfl (jb rfl rfl (Bin.quo_i64 _ 365 jo jo) (jb rfl rfl (Bin.add_i64 _ 1 jo) (ja rfl (jO (jN (jv2 0 6 ?_))))))))
 refine jS (jB ?_)
 refine VC.loop (σ := Nat) (fun s => [(0, .int .i64 ((n1 : Nat) : Int)), (6, .int .i64 ((s : Nat) : Int))]) (fun s wr => (1 ≤ s ∧ s ≤ 20000 ∧ n1 < aheadN (s + 1)) ∧ w = wr) (fun s => s) (n1 / 365 + 1) (js2 rfl rfl) ⟨⟨jo, jo, xY n1⟩, rfl⟩ ?_
 rintro y _ ⟨⟨hy1, hy2, hy3⟩, rfl⟩
 refine jS (jS (jR (jM ?_)))
 refine Ops.cl (jE1 Tryz.call185) (kH y _ hy1 jo) rfl ?_
 rintro e _ ⟨rfl, rfl⟩
 refine ⟨_, rfl, ?_⟩
 refine jm rfl (jb rfl rfl (Bin.gtrN _ _) (jO (jN (jv3 0 6 24 ?_))))
 refine jD rfl (fun hc2 => ?_) fun hc2 => ?_
 ·
  have hyn : y ≠ 1 := fun h => by subst h; rw [xG] at hc2; omega
  refine jQ (jN (jv2 0 6 ?_))
  refine jB (jR (jm rfl (jb rfl rfl (Bin.sub_i64 _ 1 jo jo) (ja rfl (jO ?_)))))
  refine qN (jN ⟨(y - 1), (js2 rfl rfl), ?_, ?_⟩)
  ·
   have : y - 1 + 1 = y := jo
   exact ⟨⟨jo, jo, by rw [this]; exact hc2⟩, rfl⟩
  first | omega | (dsimp only; omega)
 refine jX ?_
 refine qK (qK (qS ?_))
 refine jN (jv2 0 6 ?_)
 refine jS (jR (jm rfl (jM ?_)))
 refine Ops.cl (jE1 Tryz.call185) (kH y _ hy1 jo) rfl ?_
 rintro e _ ⟨rfl, rfl⟩
 refine ⟨_, rfl, ?_⟩
 have has := uU y hy1
 have hyt := xW y jo
 refine jb rfl rfl (Bin.sub_i64 _ _ jo jo) (ja rfl (jO (jN (jv2 0 6 ?_))))
 refine jS (jR (jz 1 (jO (jN (jS (jB ?_))))))
 refine VC.loop (σ := Nat) (fun s => [(0, .int .i64 ((n1 - aheadN y - cC y s : Nat) : Int)), (6, .int .i64 ((y : Nat) : Int)), (7, .int .i64 ((s : Nat) : Int))]) (fun s wr => (1 ≤ s ∧ s ≤ 12 ∧ cC y s ≤ n1 - aheadN y) ∧ w = wr) (fun s => 13 - s) 1 (js3 rfl rfl rfl) ⟨⟨jo, jo, zah _⟩, rfl⟩ ?_
 rintro m _ ⟨⟨hm1, hm2, hm3⟩, rfl⟩
 have hbs := mM y m hm1
 refine jS (jS (jR (jm rfl (jm rfl (jM ?_)))))
 refine Ops.cl (jE2 Tryz.call186) (oL y m _ hm1 hm2) rfl ?_
 rintro e _ ⟨rfl, rfl⟩
 refine ⟨_, rfl, ?_⟩
 refine jb rfl rfl (Bin.geqN _ _) (jO (jN (jv4 0 6 7 35 ?_)))
 refine jD rfl (fun hc3 => ?_) fun hc3 => ?_
 ·
  refine jQ (jN (jv3 0 6 7 ?_))
  refine jB (jS (jR (jm rfl (jm rfl (jM ?_)))))
  refine Ops.cl (jE2 Tryz.call186) (oL y m _ hm1 hm2) rfl ?_
  rintro e _ ⟨rfl, rfl⟩
  refine ⟨_, rfl, ?_⟩
  refine jb rfl rfl (Bin.sub_i64 _ _ jo jo) (ja rfl (jO (jN (jv3 0 6 7 ?_))))
  refine jR (jm rfl (jb rfl rfl (Bin.add_i64 _ 1 jo) (ja rfl (jO ?_))))
  refine qN (jN ⟨(m + 1), (js3 (congrArg (fun z : Nat => some (Value.int .i64 (z : Int))) (jo : n1 - aheadN y - cC y m - longN y m = n1 - aheadN y - cC y (m + 1))) rfl rfl), ?_, ?_⟩)
  ·
   refine ⟨⟨jo, ?_, jo⟩, rfl⟩
   apply Classical.byContradiction
   intro h
   have h12 : m = 12 := jo
   subst h12
   have hbe := uB y
   have : cC y (12 + 1) = cC y 13 := rfl
   omega
  first | omega | (dsimp only; omega)
 refine jX ?_
 refine qK (qK (qS ?_))
 refine jN (jv3 0 6 7 ?_)
 refine jS (jR (jm rfl (jm rfl (jm rfl (jb rfl rfl (Bin.add_i64 _ 1 jo) (ja rfl (ja rfl (ja rfl (jz 0 (jO (jN (jv4 2 3 4 5 ?_))))))))))))
 refine jT ?_
 refine bM ?_
 refine qL rfl ?_
 refine qL rfl ?_
 refine qL rfl ?_
 refine qL rfl ?_
 refine qI ?_
 refine ⟨rfl, y, m, n1 - aheadN y - cC y m + 1, 0, rfl, .inr ⟨hc1, rfl, ?_⟩⟩
 exact ⟨hy1, hyt, hm1, hm2, jo, jo, jo⟩
theorem uA (x : Int) (w : World) (h1 : -4611686018427387904 ≤ x) (h2 : x ≤ 4611686018427387904) : Calls Tryz.prog 173 #[.int .i64 x] w fun e w' => e = .returned (.tuple #[.int .i64 (x / 86400), .int .i64 (x % 86400)]) ∧ w = w' := by
 have e1 := Int.tmod_add_mul_tdiv x 86400
 have e2 := Int.tmod_lt_of_pos x (b := 86400) jd
 have e3 := Int.lt_tmod_of_pos x (b := 86400) jd
 refine VC.calls (nt := 18) (res := #[.tmp 2, .tmp 3]) Tryz.func173 rfl Tryz.ntmps173 Tryz.results173 rfl ?_
 refine jS (jR (jz 0 (jz 0 (jO (jN (jv1 0 ?_))))))
 refine jS (jR (jm rfl (jb rfl rfl (Bin.quoZ _ 86400 jo jo jo) (jm rfl (jb rfl rfl (Bin.remZ _ 86400 jo) (ja rfl (ja rfl (jO (jN (jv2 4 5 ?_))))))))))
 refine jS (jS (jR (jm rfl (jb rfl rfl (Bin.lss _ 0) (jO (jN (jv3 4 5 11 ?_)))))))
 refine VC.meet (σ := Unit) (fun s => [(4, .int .i64 (x / 86400)), (5, .int .i64 (x % 86400))]) (fun s wm => w = wm) ?_ ?_
 ·
  refine jD rfl (fun hc1 => ?_) fun hc1 => ?_
  ·
   refine jR (jm rfl (jb rfl rfl (Bin.subZ _ 1 jo jo) (jm rfl (jb rfl rfl (Bin.addZ _ 86400 jo jo) (ja rfl (ja rfl (jO ?_)))))))
   refine jN ⟨(), (js2 (congrArg (fun z => some (Value.int .i64 z)) (jo : x.tdiv 86400 - 1 = x / 86400)) (congrArg (fun z => some (Value.int .i64 z)) (jo : x.tmod 86400 + 86400 = x % 86400))), ?_⟩
   rfl
  refine jQ ?_
  refine jN ⟨(), (js2 (congrArg (fun z => some (Value.int .i64 z)) (jo : x.tdiv 86400 = x / 86400)) (congrArg (fun z => some (Value.int .i64 z)) (jo : x.tmod 86400 = x % 86400))), ?_⟩
  rfl
 rintro _ _ rfl Γ hΓ
 refine jN (VC.sub _ hΓ (jS (jR (jm rfl (jm rfl (ja rfl (ja rfl (jO (jN (jv2 2 3 ?_))))))))))
 refine jT ?_
 refine dQ rfl rfl ?_
 exact ⟨rfl, rfl⟩
end
section
open Go.RowKit
theorem qZc {n : Int} {y m d k : Nat} (h : ((n < -719162 ∨ 2932896 < n) ∧ y = 0 ∧ m = 0 ∧ d = 0 ∧ k = 4) ∨ (¬ (n < -719162 ∨ 2932896 < n) ∧ k = 0 ∧ qQ2 n y m d)) : k = 0 ↔ (-719162 ≤ n ∧ n ≤ 2932896) := by
 rcases h with ⟨h1, _, _, _, h2⟩ | ⟨h1, h2, _⟩ <;> omega
theorem sM {a b : Int} (h1 : -1439 ≤ b) (h2 : b ≤ 1439) : (-719162 ≤ (a + 60 * b) / 86400 ∧ (a + 60 * b) / 86400 ≤ 2932896) ↔ eA a b := by
 unfold eA
 omega
theorem uI (a b : Int) (w : World) (h1 : -1439 ≤ b) (h2 : b ≤ 1439) (h3 : -1099511627776 ≤ a) (h4 : a ≤ 1099511627776) : Calls Tryz.prog 174 #[.agg #[.int .i64 a, .int .i64 b]] w fun e w' => e = .returned (.int .i64 (a + 60 * b)) ∧ Frm [] w w' := by
 refine VC.calls (nt := 9) (res := #[.tmp 2]) Tryz.func174 rfl Tryz.ntmps174 Tryz.results174 rfl ?_
 refine jS (jR ?_)
 refine Ops.m (qH.box rfl) rfl ?_
 rintro _ w1 ⟨rfl, hF1⟩
 have hb1 := hF1.blk
 have hf1 := hF1.frm
 generalize hg1 : w.heap.size = g1 at *
 refine jz 0 (jO (jN (jv1 1 ?_)))
 refine jS (jR (jf rfl zcu rfl Tryz.sizeOf2 (jl rfl Tryz.isAgg2 (hb1.cell 0) (jf rfl zcu rfl zq (jl rfl zy (hb1.cell 1) (jb rfl rfl (Bin.mulZ 60 _ jo jo) (jb rfl rfl (Bin.addZ _ _ jo jo) (ja rfl (jO (jN (jv1 2 ?_)))))))))))
 refine jT ?_
 refine qF rfl ?_
 exact ⟨rfl, hf1⟩
theorem xM (a b : Int) (w : World) : Calls Tryz.prog 152 #[.agg #[.int .i64 a, .int .i64 b]] w fun e w' => e = .returned (.bool (decide (eA a b))) ∧ Frm [] w w' := by
 refine VC.calls (nt := 42) (res := #[.tmp 2]) Tryz.func152 rfl Tryz.ntmps152 Tryz.results152 rfl ?_
 refine jS (jR ?_)
 refine Ops.m (qH.box rfl) rfl ?_
 rintro _ w1 ⟨rfl, hF1⟩
 have hb1 := hF1.blk
 have hf1 := hF1.frm
 generalize hg1 : w.heap.size = g1 at *
 refine ja rfl (jO (jN (jv1 1 ?_)))
 refine jS (jS ?_)
 refine VC.split1 [(1, _)] (js1 rfl) 26 (.bool (decide (b < -1439 ∨ 1439 < b ∨ 1099511627776 < a ∨ a < -1099511627776))) ?_ ?_
 ·
  refine jR (jf rfl zcu rfl zq (jl rfl zy (hb1.cell 1) (jb rfl rfl (Bin.lss _ (-1439)) ?_)))
  by_cases hs11 : b < -1439
  ·
   refine jM ?_
   refine jU ?_
   refine jU ?_
   refine jU ?_
   refine je (Run.pickT rfl rfl au) (jM ?_)
   refine jU ?_
   refine jU ?_
   refine jU ?_
   refine je (Run.pickT rfl rfl au) (jM ?_)
   refine jU ?_
   refine jU ?_
   refine jU ?_
   refine je (Run.pickT rfl rfl au) (jO ?_)
   refine jN ⟨(js2 (jC (Eq.symm (by simp [*]))) rfl), rfl⟩
  refine jM ?_
  refine jk (Run.fieldAddr rfl zcu rfl zq jd) ?_
  refine jk (Run.load rfl zy (hb1.cell 1)) ?_
  refine jk (Run.bin rfl rfl (Bin.gtr _ 1439)) ?_
  by_cases hs15 : 1439 < b
  ·
   refine je (Run.pickF rfl rfl au) (jM ?_)
   refine jU ?_
   refine jU ?_
   refine jU ?_
   refine je (Run.pickT rfl rfl au) (jM ?_)
   refine jU ?_
   refine jU ?_
   refine jU ?_
   refine je (Run.pickT rfl rfl au) (jO ?_)
   refine jN ⟨(js2 (jC (Eq.symm (by simp [*]))) rfl), rfl⟩
  refine je (Run.pickF rfl rfl au) (jM ?_)
  refine jk (Run.fieldAddr rfl zcu rfl Tryz.sizeOf2 jd) ?_
  refine jk (Run.load rfl Tryz.isAgg2 (hb1.cell 0)) ?_
  refine jk (Run.bin rfl rfl (Bin.gtr _ 1099511627776)) ?_
  by_cases hs20 : 1099511627776 < a
  ·
   refine je (Run.pickF rfl rfl au) (jM ?_)
   refine jU ?_
   refine jU ?_
   refine jU ?_
   refine je (Run.pickT rfl rfl au) (jO ?_)
   refine jN ⟨(js2 (jC (Eq.symm (by simp [*]))) rfl), rfl⟩
  refine je (Run.pickF rfl rfl au) (jM ?_)
  refine jk (Run.fieldAddr rfl zcu rfl Tryz.sizeOf2 jd) ?_
  refine jk (Run.load rfl Tryz.isAgg2 (hb1.cell 0)) ?_
  refine jk (Run.bin rfl rfl (Bin.lss _ (-1099511627776))) ?_
  by_cases hs25 : a < -1099511627776
  ·
   refine je (Run.pickF rfl rfl au) (jO ?_)
   refine jN ⟨(js2 (jC (Eq.symm (by simp [*]))) rfl), rfl⟩
  refine je (Run.pickF rfl rfl au) (jO ?_)
  refine jN ⟨(js2 (jC (Eq.symm (by simp [*]))) rfl), rfl⟩
 intro Γ hΓ
 refine jN (VC.sub _ hΓ ?_)
 refine jD rfl (fun hc1 => ?_) fun hc1 => ?_
 ·
  refine jS (jR (ja rfl (jO (jN (jv1 2 ?_)))))
  refine jT ?_
  refine qZ (qF rfl ?_)
  exact ⟨by rw [decide_eq_false (by unfold eA; omega)], hf1⟩
 refine jQ (jN (jv1 1 ?_))
 refine jS (jR (je (Run.loadA rfl Tryz.isAgg58 zeb (fun j v hj => hb1.cells j v hj) (by first | rfl | (simp; done))) ?_))
 refine Ops.cl (jE1 Tryz.call174) (uI a b _ jo jo jo jo) rfl ?_
 rintro e w2 ⟨rfl, hf2⟩
 refine ⟨_, rfl, ?_⟩
 have hfr2 := hf1.trans hf2 jp
 refine Ops.cl (jE1 Tryz.call173) (uA (a + 60 * b) _ jo jo) rfl ?_
 rintro e _ ⟨rfl, rfl⟩
 refine ⟨_, rfl, ?_⟩
 refine jm rfl (je (Run.extract rfl rfl) (je (Run.extract rfl rfl) (ja rfl (ja rfl (jO (jN (jv1 3 ?_)))))))
 refine jS (jR (jM ?_))
 refine Ops.cl (jE1 Tryz.call175) (uF ((a + 60 * b) / 86400) _) rfl ?_
 rintro e _ ⟨rfl, y, m, d, k, rfl, hk⟩
 refine ⟨_, rfl, ?_⟩
 refine jm rfl (je (Run.extract rfl rfl) (je (Run.extract rfl rfl) (je (Run.extract rfl rfl) (je (Run.extract rfl rfl) (ja rfl (ja rfl (jA ?_)))))))
 refine ja rfl (jO (jN (jv1 8 ?_)))
 refine jS (jR (jm rfl (jb rfl rfl (Bin.eqlN _ 0) (ja rfl (jO (jN (jv1 2 ?_)))))))
 refine jT ?_
 refine qF rfl ?_
 refine ⟨?_, hfr2⟩
 rw [show (decide (k = 0)) = decide (eA a b) from decide_eq_decide.2 ((qZc hk).trans (sM jo jo))]
end
section
open Go.RowKit Go.Sort
theorem uL (A B : Option Addr) (c d : Nat) (a b : List Tx) (w : World) (hla : a.length ≤ 1000000) (hlb : b.length ≤ 1000000) (ha : Rd w 1 A a.length (SB a)) (hb : Rd w 1 B b.length (SB b)) :
  Calls Tryz.prog 71 #[.slice A a.length c, .slice B b.length d] w fun e w' => e = .returned (.bool (decide (a = b))) ∧ qV w w' := by
 refine VC.calls (nt := 26) (res := #[.tmp 4]) Tryz.func71 rfl Tryz.ntmps71 Tryz.results71 rfl ?_
 refine jS (jR (ja rfl (jO (jN (jv2 0 1 ?_)))))
 refine jS (jS (jR (jm rfl (je (Run.lenS rfl zj) (jm rfl (je (Run.lenS rfl zj) (jb rfl rfl (Bin.neqN _ _) (jO (jN (jv3 0 1 10 ?_))))))))))
 refine jD rfl (fun hc1 => ?_) fun hc1 => ?_
 ·
  have hne : ¬ a = b := fun h => hc1 (by rw [h])
  refine jS (jR (ja rfl (jO (jN (jv1 4 ?_)))))
  refine jT ?_
  refine qZ (qF rfl ?_)
  exact ⟨by simp [hne], qV.refl _⟩
 have hll : a.length = b.length := Classical.not_not.1 hc1
 refine jQ (jN (jv2 0 1 ?_))
 refine jS (jS (jR (jz 0 (jO (jN (jB ?_))))))
 refine VC.loop (σ := Nat) (fun s => [(0, .slice A a.length c), (1, .slice B b.length d), (5, .int .i64 ((s : Nat) : Int))]) (fun s wr => s ≤ a.length ∧ a.take s = b.take s ∧ qV w wr) (fun s => a.length - s) 0 (js3 rfl rfl rfl) ⟨jo, rfl, qV.refl _⟩ ?_
 rintro i wr ⟨hi, htk, hd⟩
 refine jS (jS (jR (jm rfl (jm rfl (je (Run.lenS rfl zj) (jb rfl rfl (Bin.lssN _ _) (jO (jN (jv4 0 1 5 14 ?_)))))))))
 refine jD rfl (fun hc2 => ?_) fun hc2 => ?_
 ·
  have hib : i < b.length := jo
  obtain ⟨ad, rfl, hcell⟩ := mQ (ha.drawn (hd.trans (qV.drew _))) hc2
  obtain ⟨ad2, rfl, hcell2⟩ := mQ (hb.drawn (hd.trans (qV.drew _))) hib
  have hta : a.take (i + 1) = a.take i ++ [a[i]] := gH hc2
  have htb : b.take (i + 1) = b.take i ++ [b[i]] := gH hib
  have hab : a = b → a[i] = b[i] := by rintro rfl; rfl
  generalize a[i] = x at *
  generalize b[i] = y at *
  refine jQ (jN (jv3 0 1 5 ?_))
  refine jS (jB (jS ?_))
  refine VC.still jK jK ?_
  refine qM ?_
  refine qM ?_
  refine qE (Run.index1 i rfl rfl zj zx hc2) ?_
  refine qE (Run.load rfl zac hcell) ?_
  refine qM ?_
  refine qM ?_
  refine qE (Run.index1 i rfl rfl zj zx hib) ?_
  refine qE (Run.load rfl zac hcell2) ?_
  refine qE (Run.neqT rfl rfl) ?_
  refine bJ.nil ?_
  refine jN (jv4 0 1 5 25 ?_)
  refine jD rfl (fun hc3 => ?_) fun hc3 => ?_
  ·
   have hne : ¬ a = b := fun h => hc3 (hab h)
   refine jS (jR (ja rfl (jO (jN (jv1 4 ?_)))))
   refine jT ?_
   refine qP (qZ (qZ (qP (qZ (qF rfl ?_)))))
   exact ⟨by simp [hne], hd.trans (qV.drew _)⟩
  have hxy : x = y := Classical.not_not.1 hc3
  refine jQ ?_
  refine qN (jN ?_)
  refine jv3 0 1 5 ?_
  refine jR (jm rfl (jb rfl rfl (Bin.add_i64 _ 1 jo) (ja rfl (jO ?_))))
  refine jN ⟨(i + 1), (js3 rfl rfl rfl), ?_, ?_⟩
  · exact ⟨hc2, by rw [hta, htb, htk, hxy], hd.trans (qV.drew _)⟩
  first | omega | (dsimp only; omega)
 have hil : i = a.length := jo
 subst hil
 have heq : a = b := by
  rw [zaw, hll, zaw] at htk
  exact htk
 refine jX ?_
 refine qK (qK (qS ?_))
 refine jN ?_
 refine VC.sub [] .nil ?_
 refine jS (jR (ja rfl (jO (jN (jT ?_)))))
 refine qF rfl ?_
 exact ⟨by simp [heq], hd⟩
end
section
open Go.RowKit Go.Sort
theorem Blk.sub {w : World} {g : Nat} {t : TypeId} {cs : Array Value} (h : Blk w g t cs) (i : Nat) (l : List Value) (hl : (cs.toList.drop i).take l.length = l) : ∀ j v, l[j]? = some v → w.cell? ((⟨g, i, none⟩ : Addr).add j) = some v := by
 intro j v hj
 have hlt : j < l.length := (List.getElem?_eq_some_iff.1 hj).1
 rw [show ((⟨g, i, none⟩ : Addr).add j) = ⟨g, i + j, none⟩ by unfold Addr.add; split <;> simp_all, h.cell]
 rw [← hl, zbh hlt, zdl] at hj
 simpa using hj
theorem xN {l : List Mc} {i : Nat} (h : i < l.length) : nL (Ms l) (i + 1) = (l[i]).m.uid := by
 simp [nL, Ms, ze h]
theorem qXm {v n : Int} {l : List Mc} (h1 : 1 ≤ v ∧ v ≤ 2147483647 ∧ 1 ≤ n ∧ n ≤ 2147483648 ∧ l.length ≤ 128) (h2 : ∀ j (hj : j < l.length), cR n (Ms l) j (l[j]).m) : bE ⟨v, n, Ms l⟩ := by
 refine ⟨by simpa [Ms] using h1, fun j hj => ?_⟩
 have hj' : j < l.length := by simpa [Ms] using hj
 have := h2 j hj'
 simpa [Ms] using this
theorem xP {v n : Int} {l : List Mc} (h : bE ⟨v, n, Ms l⟩) : (1 ≤ v ∧ v ≤ 2147483647 ∧ 1 ≤ n ∧ n ≤ 2147483648 ∧ l.length ≤ 128) ∧ ∀ j (hj : j < l.length), cR n (Ms l) j (l[j]).m := by
 obtain ⟨h1, h2⟩ := h
 refine ⟨by simpa [Ms] using h1, fun j hj => ?_⟩
 have := h2 j (by simpa [Ms] using hj)
 simpa [Ms] using this
theorem rK (x : Mc) (w : World) (hx : x.At w) : Calls Tryz.prog 117 #[.agg x.cells.toArray] w fun e w' => e = .returned (.bool (decide (eI x.m))) ∧ Frm [] w w' := by
 refine VC.calls (nt := 21) (res := #[.tmp 2]) Tryz.func117 rfl Tryz.ntmps117 Tryz.results117 rfl ?_
 refine jS (jR ?_)
 refine Ops.m (qH.box rfl) rfl ?_
 rintro _ w1 ⟨rfl, hF1⟩
 have hb1 := hF1.blk
 have hf1 := hF1.frm
 generalize hg1 : w.heap.size = g1 at *
 refine ja rfl (jO (jN (jv1 1 ?_)))
 refine jS ?_
 refine VC.splitR [] (Frm [] w) 2 (.bool (decide (eI x.m))) ?_ ?_
 ·
  refine jR (jf rfl zak rfl zeb (je (Run.loadA rfl Tryz.isAgg58 zeb (hb1.sub 1 [.int .i64 x.m.sec, .int .i64 x.m.zone] rfl) (by first | rfl | (simp; done))) ?_))
  refine Ops.cl (jE1 Tryz.call152) (xM x.m.sec x.m.zone _) rfl ?_
  rintro e w2 ⟨rfl, hf2⟩
  refine ⟨_, rfl, ?_⟩
  have hfr2 := hf1.trans hf2 jp
  have hb1 := hb1.frm hf2 jp
  by_cases hs5 : eA x.m.sec x.m.zone
  ·
   refine jM ?_
   refine jk (Run.fieldAddr rfl zak rfl zq jd) ?_
   refine jk (Run.load rfl zy (hb1.cell 3)) ?_
   refine jk (Run.bin rfl rfl (Bin.geq _ 0)) ?_
   by_cases hs9 : 0 ≤ x.m.size
   ·
    refine je (Run.pickT rfl rfl au) (jM ?_)
    refine jk (Run.fieldAddr rfl zak rfl zc jd) ?_
    refine jk (Run.load rfl zh (hb1.cell 4)) ?_
    refine jk (Run.bin rfl rfl (Bin.neqN _ 0)) ?_
    by_cases hs14 : x.m.blob ≠ 0
    ·
     refine je (Run.pickT rfl rfl au) (jM ?_)
     refine jk (Run.fieldAddr rfl zak rfl zam jd) ?_
     refine jk (Run.load rfl zbb (hb1.cell 5)) ?_
     refine Ops.clg rfl au (jE1 Tryz.call153) (sH x.A x.c x.m.flags _ (by have := hx.n; omega) hx.q (hx.frm hfr2 jp).rd) rfl ?_
     rintro e w3 ⟨rfl, hf3⟩
     refine ⟨_, rfl, ?_⟩
     have hfr3 := hfr2.trans hf3 jp
     by_cases hs19 : dX x.m.flags
     ·
      refine je (Run.pickT rfl rfl au) (ja rfl (jO ?_))
      refine jN ⟨(js1 (jC (Eq.symm (by unfold eI; simp [*])))), (by first | exact hfr3 | exact hfr2)⟩
     refine je (Run.pickT rfl rfl au) (ja rfl (jO ?_))
     refine jN ⟨(js1 (jC (Eq.symm (by unfold eI; simp [*])))), (by first | exact hfr3 | exact hfr2)⟩
    refine je (Run.pickT rfl rfl au) (jM ?_)
    refine jU ?_
    refine jU ?_
    refine jU ?_
    refine je (Run.pickF rfl rfl au) (ja rfl (jO ?_))
    refine jN ⟨(js1 (jC (Eq.symm (by unfold eI; simp [*])))), (by first | exact hfr3 | exact hfr2)⟩
   refine je (Run.pickT rfl rfl au) (jM ?_)
   refine jU ?_
   refine jU ?_
   refine jU ?_
   refine je (Run.pickF rfl rfl au) (jM ?_)
   refine jU ?_
   refine jU ?_
   refine jU ?_
   refine je (Run.pickF rfl rfl au) (ja rfl (jO ?_))
   refine jN ⟨(js1 (jC (Eq.symm (by unfold eI; simp [*])))), (by first | exact hfr3 | exact hfr2)⟩
  refine jM ?_
  refine jU ?_
  refine jU ?_
  refine jU ?_
  refine je (Run.pickF rfl rfl au) (jM ?_)
  refine jU ?_
  refine jU ?_
  refine jU ?_
  refine je (Run.pickF rfl rfl au) (jM ?_)
  refine jU ?_
  refine jU ?_
  refine jU ?_
  refine je (Run.pickF rfl rfl au) (ja rfl (jO ?_))
  refine jN ⟨(js1 (jC (Eq.symm (by unfold eI; simp [*])))), (by first | exact hfr3 | exact hfr2)⟩
 intro Γ wR hΓ hR
 refine jN (VC.sub _ hΓ ?_)
 refine jT ?_
 refine qF rfl ?_
 exact ⟨rfl, hR⟩
theorem rV (v n : Int) (A : Option Addr) (c : Nat) (l : List Mc) (w : World) (hl : RdM w A l) : Calls Tryz.prog 68 #[.agg #[.int .i64 v, .int .i64 n, .slice A l.length c]] w fun e w' => e = .returned (.bool (decide (bE ⟨v, n, Ms l⟩))) ∧ Frm [] w w' := by
 refine VC.calls (nt := 56) (res := #[.tmp 2]) Tryz.func68 rfl Tryz.ntmps68 Tryz.results68 rfl ?_
 refine jS (jR ?_)
 refine Ops.m (qH.box rfl) rfl ?_
 rintro _ w1 ⟨rfl, hF1⟩
 have hb1 := hF1.blk
 have hf1 := hF1.frm
 generalize hg1 : w.heap.size = g1 at *
 refine ja rfl (jO (jN (jv1 1 ?_)))
 refine jS (jS ?_)
 refine VC.split1 [(1, _)] (js1 rfl) 29 (.bool (decide (v < 1 ∨ 2147483647 < v ∨ n < 1 ∨ 2147483648 < n ∨ 128 < l.length))) ?_ ?_
 ·
  refine jR (jf rfl zw rfl zq (jl rfl zy (hb1.cell 0) (jb rfl rfl (Bin.lss _ 1) ?_)))
  by_cases hs8 : v < 1
  ·
   refine jM ?_
   refine jU ?_
   refine jU ?_
   refine jU ?_
   refine je (Run.pickT rfl rfl au) (jM ?_)
   refine jU ?_
   refine jU ?_
   refine jU ?_
   refine je (Run.pickT rfl rfl au) (jM ?_)
   refine jU ?_
   refine jU ?_
   refine jU ?_
   refine je (Run.pickT rfl rfl au) (jM ?_)
   refine jU ?_
   refine jU ?_
   refine jU ?_
   refine jU ?_
   refine je (Run.pickT rfl rfl au) (jO ?_)
   refine jN ⟨(js2 (jC (Eq.symm (by simp [*]))) rfl), rfl⟩
  refine jM ?_
  refine jk (Run.fieldAddr rfl zw rfl zq jd) ?_
  refine jk (Run.load rfl zy (hb1.cell 0)) ?_
  refine jk (Run.bin rfl rfl (Bin.gtr _ 2147483647)) ?_
  by_cases hs12 : 2147483647 < v
  ·
   refine je (Run.pickF rfl rfl au) (jM ?_)
   refine jU ?_
   refine jU ?_
   refine jU ?_
   refine je (Run.pickT rfl rfl au) (jM ?_)
   refine jU ?_
   refine jU ?_
   refine jU ?_
   refine je (Run.pickT rfl rfl au) (jM ?_)
   refine jU ?_
   refine jU ?_
   refine jU ?_
   refine jU ?_
   refine je (Run.pickT rfl rfl au) (jO ?_)
   refine jN ⟨(js2 (jC (Eq.symm (by simp [*]))) rfl), rfl⟩
  refine je (Run.pickF rfl rfl au) (jM ?_)
  refine jk (Run.fieldAddr rfl zw rfl zq jd) ?_
  refine jk (Run.load rfl zy (hb1.cell 1)) ?_
  refine jk (Run.bin rfl rfl (Bin.lss _ 1)) ?_
  by_cases hs17 : n < 1
  ·
   refine je (Run.pickF rfl rfl au) (jM ?_)
   refine jU ?_
   refine jU ?_
   refine jU ?_
   refine je (Run.pickT rfl rfl au) (jM ?_)
   refine jU ?_
   refine jU ?_
   refine jU ?_
   refine jU ?_
   refine je (Run.pickT rfl rfl au) (jO ?_)
   refine jN ⟨(js2 (jC (Eq.symm (by simp [*]))) rfl), rfl⟩
  refine je (Run.pickF rfl rfl au) (jM ?_)
  refine jk (Run.fieldAddr rfl zw rfl zq jd) ?_
  refine jk (Run.load rfl zy (hb1.cell 1)) ?_
  refine jk (Run.bin rfl rfl (Bin.gtr _ 2147483648)) ?_
  by_cases hs22 : 2147483648 < n
  ·
   refine je (Run.pickF rfl rfl au) (jM ?_)
   refine jU ?_
   refine jU ?_
   refine jU ?_
   refine jU ?_
   refine je (Run.pickT rfl rfl au) (jO ?_)
   refine jN ⟨(js2 (jC (Eq.symm (by simp [*]))) rfl), rfl⟩
  refine je (Run.pickF rfl rfl au) (jM ?_)
  refine jk (Run.fieldAddr rfl zw rfl zap jd) ?_
  refine jk (Run.load rfl zbd (hb1.cell 2)) ?_
  refine jk (Run.lenS rfl zaf) ?_
  refine jk (Run.bin rfl rfl (Bin.gtrN _ 128)) ?_
  by_cases hs28 : 128 < l.length
  ·
   refine je (Run.pickF rfl rfl au) (jO ?_)
   refine jN ⟨(js2 (jC (Eq.symm (by simp [*]))) rfl), rfl⟩
  refine je (Run.pickF rfl rfl au) (jO ?_)
  refine jN ⟨(js2 (jC (Eq.symm (by simp [*]))) rfl), rfl⟩
 intro Γ hΓ
 refine jN (VC.sub _ hΓ ?_)
 refine jD rfl (fun hc1 => ?_) fun hc1 => ?_
 ·
  refine jS (jR (ja rfl (jO (jN (jv1 2 ?_)))))
  refine jT ?_
  refine qZ (qF rfl ?_)
  refine ⟨?_, hf1⟩
  rw [decide_eq_false]
  intro h
  have := (xP h).1
  omega
 refine jQ (jN (jv1 1 ?_))
 refine jS (jR (jz 0 (jO (jN (jS (jS (jR (jf rfl zw rfl zap (jl rfl zbd (hb1.cell 2) (je (Run.lenS rfl zaf) ?_))))))))))
 refine jx .i64 0 ?_
 refine jO (jN (jv5 1 3 31 32 33 ?_))
 refine jB ?_
 refine VC.loop (σ := Nat) (fun s => [(1, .pointer (some ⟨g1, 0, none⟩)), (3, .int .i64 (nL (Ms l) s)), (31, .slice A l.length c), (32, .int .i64 ((l.length : Nat) : Int)), (33, .int .i64 ((s : Nat) : Int))]) (fun s wr => s ≤ l.length ∧ Frm [] w wr ∧ Blk wr g1 43 #[.int .i64 v, .int .i64 n, .slice A l.length c] ∧ ∀ j (hj : j < l.length), j < s → cR n (Ms l) j (l[j]).m) (fun s => l.length - s) 0 (js5 rfl rfl rfl rfl rfl) ⟨jo, hf1, hb1, jp⟩ ?_
 rintro i wr ⟨hi, hfr, hbr, hg⟩
 refine jS (jR (jb rfl rfl (Bin.lssN _ _) (jO (jN (jS ?_)))))
 refine jD rfl (fun hc2 => ?_) fun hc2 => ?_
 ·
  obtain ⟨ad, rfl, hcell⟩ := (hl.frm hfr).elem hc2
  have hxa := (hl.frm hfr).fl (l[i]) (zm hc2)
  have hps := xN hc2
  generalize hx : l[i] = x at *
  refine jQ (jN (jv5 1 3 31 32 33 ?_))
  refine jS (jB (jS (jR (je (Run.indexS i rfl rfl zaf zar hc2) (je (Run.loadA rfl zdx zar hcell (by first | rfl | (simp; done))) ?_)))))
  refine Ops.m (qH.alloc fP) rfl ?_
  rintro _ w2 ⟨rfl, hF2⟩
  have hb2 := hF2.blk
  have hf2 := hF2.frm
  have hsz2 : wr.heap.size ≤ wr.heap.size := zv _
  have hfs := hfr.size
  generalize hg2 : wr.heap.size = g2 at hb2 hsz2 hfs ⊢
  refine Ops.st (qW.storeA rfl rfl zar hb2 rfl x.cells_one) ?_
  rintro w3 ⟨hb3, hf3, hs3⟩
  have hfr3 : Frm [] wr w3 := hf2.own hf3 (fun y hy => by simp at hy; omega)
  have hb13 := hbr.frm hfr3 jp
  refine jO (jN (jv6 1 3 5 31 32 33 ?_))
  refine jS (jS ?_)
  refine VC.splitR [(1, .pointer (some ⟨g1, 0, none⟩)), (5, .pointer (some ⟨g2, 0, none⟩)), (31, .slice (some ad) l.length c), (32, .int .i64 ((l.length : Nat) : Int)), (33, .int .i64 ((i : Nat) : Int))] (Frm [] w3) 52 (.bool (decide (¬ cR n (Ms l) i x.m))) ?_ ?_
  ·
   refine jR (jf rfl zak rfl zq (jl rfl zy (hb3.cell 0) (jm rfl (jb rfl rfl (Bin.leq _ _) ?_))))
   by_cases hs40 : x.m.uid ≤ nL (Ms l) i
   ·
    refine jM ?_
    refine jU ?_
    refine jU ?_
    refine jU ?_
    refine jU ?_
    refine jU ?_
    refine je (Run.pickT rfl rfl au) (jM ?_)
    refine jU ?_
    refine jU ?_
    refine jU ?_
    refine je (Run.pickT rfl rfl au) (jO ?_)
    refine jN ⟨(js6 (jC (Eq.symm (by first | exact decide_eq_true (by unfold cR; omega) | (rw [← decide_not]; exact decide_eq_decide.2 ⟨fun h hm => h ⟨jo, jo, hm⟩, fun h hg => h hg.2.2⟩) | exact decide_eq_decide.2 ⟨fun _ => jo, fun _ => by unfold cR; omega⟩))) rfl rfl rfl rfl rfl), (by first | exact hf4 | exact Frm.refl _ _)⟩
   refine jM ?_
   refine jk (Run.fieldAddr rfl zak rfl zq jd) ?_
   refine jk (Run.load rfl zy (hb3.cell 0)) ?_
   refine jk (Run.fieldAddr rfl zw rfl zq jd) ?_
   refine jk (Run.load rfl zy (hb13.cell 1)) ?_
   refine jk (Run.bin rfl rfl (Bin.geq _ _)) ?_
   by_cases hs46 : n ≤ x.m.uid
   ·
    refine je (Run.pickF rfl rfl au) (jM ?_)
    refine jU ?_
    refine jU ?_
    refine jU ?_
    refine je (Run.pickT rfl rfl au) (jO ?_)
    refine jN ⟨(js6 (jC (Eq.symm (by first | exact decide_eq_true (by unfold cR; omega) | (rw [← decide_not]; exact decide_eq_decide.2 ⟨fun h hm => h ⟨jo, jo, hm⟩, fun h hg => h hg.2.2⟩) | exact decide_eq_decide.2 ⟨fun _ => jo, fun _ => by unfold cR; omega⟩))) rfl rfl rfl rfl rfl), (by first | exact hf4 | exact Frm.refl _ _)⟩
   refine je (Run.pickF rfl rfl au) (jM ?_)
   refine jk (Run.loadA rfl zdx zar (fun j v hj => hb3.cells j v hj) (by first | rfl | (simp; done))) ?_
   refine Ops.clg rfl au (jE1 Tryz.call117) (rK x _ (hxa.frm hfr3 jp)) rfl ?_
   rintro e w4 ⟨rfl, hf4⟩
   refine ⟨_, rfl, ?_⟩
   by_cases hs50 : eI x.m
   ·
    refine jk (Run.not rfl) ?_
    refine je (Run.pickF rfl rfl au) (jO ?_)
    refine jN ⟨(js6 (jC (Eq.symm (by first | exact decide_eq_true (by unfold cR; omega) | (rw [← decide_not]; exact decide_eq_decide.2 ⟨fun h hm => h ⟨jo, jo, hm⟩, fun h hg => h hg.2.2⟩) | exact decide_eq_decide.2 ⟨fun _ => jo, fun _ => by unfold cR; omega⟩))) rfl rfl rfl rfl rfl), (by first | exact hf4 | exact Frm.refl _ _)⟩
   refine jk (Run.not rfl) ?_
   refine je (Run.pickF rfl rfl au) (jO ?_)
   refine jN ⟨(js6 (jC (Eq.symm (by first | exact decide_eq_true (by unfold cR; omega) | (rw [← decide_not]; exact decide_eq_decide.2 ⟨fun h hm => h ⟨jo, jo, hm⟩, fun h hg => h hg.2.2⟩) | exact decide_eq_decide.2 ⟨fun _ => jo, fun _ => by unfold cR; omega⟩))) rfl rfl rfl rfl rfl), (by first | exact hf4 | exact Frm.refl _ _)⟩
  intro Γ w4 hΓ hf4
  refine jN (VC.sub _ hΓ ?_)
  refine jD rfl (fun hc3 => ?_) fun hc3 => ?_
  ·
   have hng : ¬ cR n (Ms l) i x.m := hc3
   refine jS (jR (ja rfl (jO (jN (jv1 2 ?_)))))
   refine jT ?_
   refine qZ (qP (qZ (qZ (qP (qZ (qF rfl ?_))))))
   refine ⟨?_, (hfr.trans hfr3 jp).trans hf4 jp⟩
   rw [decide_eq_false]
   intro h
   have := (xP h).2 i hc2
   rw [hx] at this
   exact hng this
  have hgi : cR n (Ms l) i x.m := Classical.not_not.1 hc3
  have hb34 := hb3.frm hf4 jp
  have hb14 := hb13.frm hf4 jp
  have hfr4 := hfr3.trans hf4 jp
  refine jQ (jN (jv5 1 5 31 32 33 ?_))
  refine jR (jf rfl zak rfl zq (jl rfl zy (hb34.cell 0) (ja rfl (jO ?_))))
  refine qN (jN ?_)
  refine jv5 1 3 31 32 33 ?_
  refine jR (jb rfl rfl (Bin.add_i64 _ 1 jo) (jm rfl (jO ?_)))
  refine jN ⟨(i + 1), (js5 rfl (congrArg (fun z => some (Value.int .i64 z)) hps.symm) rfl rfl rfl), ?_, ?_⟩
  ·
   refine ⟨hc2, hfr.trans hfr4 jp, hb14, fun j hj hji => ?_⟩
   rcases zbs j i with h | h
   · exact hg j hj h
   obtain rfl : j = i := jo
   rw [hx]; exact hgi
  first | omega | (dsimp only; omega)
 refine jX ?_
 refine qK (qK (qS ?_))
 refine jN ?_
 refine VC.sub [] .nil ?_
 refine jS (jR (ja rfl (jO (jN (jT ?_)))))
 refine qF rfl ?_
 refine ⟨?_, hfr⟩
 rw [decide_eq_true]
 exact qXm jo (fun j hj => hg j hj jo)
structure OwM (w : World) (A : Option Addr) (d : Nat) (l : List Mc) : Prop where
 own : Own w 60 6 A l.length d (MC l)
 fl : ∀ x ∈ l, Own w 9 1 x.A x.m.flags.length x.c (SB x.m.flags)
 fit : ∀ x ∈ l, x.m.flags.length ≤ 500000 ∧ ∀ q ∈ x.m.flags, q.length ≤ 1000000
theorem OwM.nil (w : World) : OwM w none 0 [] := ⟨Own.nil _ _ _, jp, jp⟩
theorem OwM.rdm {w : World} {A : Option Addr} {d : Nat} {l : List Mc} (h : OwM w A d l) : RdM w A l :=
 ⟨h.own.rd, fun x hx => ⟨(h.fl x hx).rd, (h.fit x hx).1, (h.fit x hx).2⟩⟩
theorem OwM.frm {w w' : World} {A : Option Addr} {d : Nat} {l : List Mc} (h : OwM w A d l) (k : Frm [] w w') : OwM w' A d l :=
 ⟨h.own.frm k jp, fun x hx => (h.fl x hx).frm k jp, h.fit⟩
theorem OwM.blk {w w' : World} {A : Option Addr} {d g : Nat} {l : List Mc} {t : TypeId} {cs : Array Value} (h : OwM w A d l) (k : Frm [g] w w') (hb : Blk w g t cs) (h1 : 60 ≠ t) (h2 : 9 ≠ t) : OwM w' A d l :=
 ⟨h.own.frm k (fun x hx => by simp; rintro rfl; exact h.own.ne_blk hb h1 hx), fun y hy => (h.fl y hy).frm k (fun x hx => by simp; rintro rfl; exact (h.fl y hy).ne_blk hb h2 hx), h.fit⟩
theorem OwM.put {w w' : World} {A B : Option Addr} {d d' : Nat} {l : List Mc} {x : Mc} (h : OwM w A d l) (ho : Own w' 60 6 B (l ++ [x]).length d' (MC (l ++ [x]))) (k : Frm (ob A) w w') (hx : Own w 9 1 x.A x.m.flags.length x.c (SB x.m.flags)) (hf : x.m.flags.length ≤ 500000 ∧ ∀ q ∈ x.m.flags, q.length ≤ 1000000) : OwM w' B d' (l ++ [x]) := by
 refine ⟨ho, fun y hy => ?_, fun y hy => ?_⟩
 ·
  rcases List.mem_append.1 hy with h1 | h1
  · exact (h.fl y h1).frm k ((h.fl y h1).ne_own h.own jd)
  simp only [za] at h1
  subst h1
  exact hx.frm k (hx.ne_own h.own jd)
 rcases List.mem_append.1 hy with h1 | h1
 · exact h.fit y h1
 simp only [za] at h1
 subst h1
 exact hf
theorem hrdM {w w' : World} {t : TypeId} {x : Mc} (h : Fresh w w' t (Value.agg x.cells.toArray).cells) : Rd w' 6 (some ⟨w.heap.size, 0, none⟩) 1 (MC [x]) := Rd.of_blk (n := 1) (size := 6) h.blk rfl
theorem oP {l : List Mc} {i : Nat} (h : i < l.length) : Ms (l.take (i + 1)) = Ms (l.take i) ++ [(l[i]).m] := by
 simp only [Ms, zdo]
 rw [zao, zca, ze h]
 rfl
end
section
open Go.RowKit
open Go.Maps (Keyed)
def MpF (P : Program) (k : TypeId) {κ : Type} (enc : κ → Value) (w : World) (g : Nat) (M : κ → Option Value) : Prop :=
 ∃ (es : List MapEntry) (clock : Nat), w.heap[g]? = some (.map es.toArray clock) ∧ (∀ e ∈ es, (∃ l, keyOf P k e.key = some l) ∧ e.born < clock) ∧ es.Pairwise (fun a b => a.born ≠ b.born ∧ a.key ≠ b.key) ∧ ∀ x v, M x = some v ↔ ∃ e ∈ es, e.key = enc x ∧ e.val = v
def MpE (P : Program) (k : TypeId) {κ : Type} (enc : κ → Value) (w : World) (g : Nat) (M : κ → Option Value) (x : κ) (n : Nat) : Prop :=
 ∃ (es : List MapEntry) (clock : Nat), w.heap[g]? = some (.map es.toArray clock) ∧ (∀ e ∈ es, (∃ l, keyOf P k e.key = some l) ∧ e.born < clock) ∧ es.Pairwise (fun a b => a.born ≠ b.born ∧ a.key ≠ b.key) ∧ (∀ x v, M x = some v ↔ ∃ e ∈ es, e.key = enc x ∧ e.val = v) ∧
  ∃ e ∈ es, e.key = enc x ∧ e.born = n
section
variable {P : Program} {k : TypeId} {κ : Type} {enc : κ → Value} {w w' : World} {g : Nat} {M : κ → Option Value} {S : List Nat}
theorem MpE.mp {x : κ} {n : Nat} (h : MpE P k enc w g M x n) : MpF P k enc w g M := by
 obtain ⟨es, clock, h1, h2, h3, h4, _⟩ := h
 exact ⟨es, clock, h1, h2, h3, h4⟩
theorem MpF.lt (h : MpF P k enc w g M) : g < w.heap.size := by
 obtain ⟨es, clock, h1, _⟩ := h
 exact (Array.getElem?_eq_some_iff.1 h1).1
theorem MpF.frm (h : MpF P k enc w g M) (f : Frm S w w') (hS : g ∉ S) : MpF P k enc w' g M := by
 have hl := h.lt
 obtain ⟨es, clock, h1, h2⟩ := h
 exact ⟨es, clock, (f.block g hl hS).trans h1, h2⟩
theorem MpE.frm {x : κ} {n : Nat} (h : MpE P k enc w g M x n) (f : Frm S w w') (hS : g ∉ S) : MpE P k enc w' g M x n := by
 have hl := h.mp.lt
 obtain ⟨es, clock, h1, h2⟩ := h
 exact ⟨es, clock, (f.block g hl hS).trans h1, h2⟩
theorem MpF.drawn (h : MpF P k enc w g M) (hd : qV w w') : MpF P k enc w' g M := by
 obtain ⟨m, rfl⟩ := hd
 exact h
theorem MpF.ne_blk {b : Nat} {t : TypeId} {cs : Array Value} (h : MpF P k enc w g M) (hb : Blk w b t cs) : g ≠ b := by
 rintro rfl
 obtain ⟨es, clock, h1, _⟩ := h
 rw [show w.heap[g]? = _ from hb] at h1
 cases h1
theorem MpF.new : MpF P k enc (w.alloc (.map #[] 0)) w.heap.size (fun _ : κ => none) := by
 refine ⟨[], 0, (MapKept.heap_alloc w _).1, jp, List.Pairwise.nil, fun x v => ?_⟩
 simp
theorem lM (w : World) (g : Nat) (o : Obj) : Frm [g] w (ChangeMaps.setBlock w g o) :=
 ⟨rfl, rfl, rfl, by simp [ChangeMaps.setBlock], fun i _ hi => by
  unfold ChangeMaps.setBlock
  simp only [Array.getElem?_setIfInBounds]
  rw [if_neg (fun e => hi (by rw [e]; simp))]⟩
theorem zE {t e : TypeId} {z : Value} {x : κ} {kl : Lit} (h : MpF P k enc w g M) (K : Keyed P k) (ht : P.underlying t = some (.map k e)) (hz : (zeroValue e).run P w = .ok z w) (hkey : keyOf P k (enc x) = some kl) :
  (Instr.lookup t (.map (some g)) (enc x) false).run P w = .ok ((M x).getD z) w := by
 obtain ⟨es, clock, hb, h2, h3, h4⟩ := h
 rcases K.find w hkey es (fun e he => (h2 e he).1) with ⟨h5, h6⟩ | ⟨j, e0, h5, h6, h7⟩
 ·
  have hM : M x = none := by
   cases hm : M x with
   | none => rfl
   | some v =>
    obtain ⟨e1, he1, he2, _⟩ := (h4 x v).1 hm
    exact absurd he2 (h6 e1 he1)
  rw [hM]
  simp [Instr.lookup, run_underlying ht, MapKept.run_getObj_map hb, K.check w _ hkey, h5, hz, Result.andThen]
 have hM : M x = some e0.val := (h4 x e0.val).2 ⟨e0, zcr h6, h7, rfl⟩
 rw [hM]
 simp [Instr.lookup, run_underlying ht, MapKept.run_getObj_map hb, K.check w _ hkey, h5, Result.andThen]
end
section
variable {P : Program} {k : TypeId} {κ : Type} {enc : κ → Value} {w : World} {g : Nat} {M : κ → Option Value} {Γ : Env} {dst : Option Tmp} {T : TypeId} {pos : String} {after : Array Edge} {gd : Option (Nat × Bool)}
theorem qH.makeMap {t : TypeId} : qH P ⟨dst, .makeMap t none, T, pos, after, gd⟩ Γ w (fun r w' => r = .map (some w.heap.size) ∧ MpF P k enc w' w.heap.size (fun _ : κ => none) ∧ Frm [] w w' ∧ w'.heap.size = w.heap.size + 1) := fun ρ _ =>
 ⟨_, w.alloc (.map #[] 0), by simp [execOp, run_makeMap], rfl, MpF.new, (Frm.refl [] w).alloc _, jp⟩
theorem Run.lookup {t e : TypeId} {a b : Operand} {z : Value} {x : κ} {kl : Lit} (ha : ev? Γ a = some (.map (some g))) (hb : ev? Γ b = some (enc x)) (h : MpF P k enc w g M) (K : Keyed P k) (ht : P.underlying t = some (.map k e)) (hz : ∀ w, (zeroValue e).run P w = .ok z w) (hkey : keyOf P k (enc x) = some kl) :
  Run P ⟨dst, .lookup t a b false, T, pos, after, gd⟩ Γ w ((M x).getD z) := fun ρ hρ => by
 simp [execOp, hρ _ _ ha, hρ _ _ hb, zE h K ht (hz w) hkey]
end
end
section
open Go.RowKit
open Go.Maps (Keyed)
section
variable {P : Program} {k : TypeId} {κ : Type} {enc : κ → Value} {w w' : World} {g : Nat} {M : κ → Option Value} {S : List Nat}
theorem qXn [DecidableEq κ] {t e : TypeId} {x : κ} {kl : Lit} {v : Value} (h : MpF P k enc w g M) (K : Keyed P k) (henc : ∀ a b, enc a = enc b → a = b) (ht : P.underlying t = some (.map k e)) (hkey : keyOf P k (enc x) = some kl) :
  ∃ w' : World, (Instr.mapUpdate t (.map (some g)) (enc x) v).run P w = .ok () w' ∧ MpF P k enc w' g (fun y => if y = x then some v else M y) ∧ Frm [g] w w' ∧ w'.heap.size = w.heap.size := by
 have hlt := h.lt
 obtain ⟨es, clock, hb, h2, h3, h4⟩ := h
 rcases K.find w hkey es (fun e he => (h2 e he).1) with ⟨h5, h6⟩ | ⟨j, e0, h5, h6, h7⟩
 ·
  refine ⟨ChangeMaps.setBlock w g (.map (es ++ [(⟨enc x, v, clock⟩ : MapEntry)]).toArray (clock + 1)), ?_, ⟨es ++ [(⟨enc x, v, clock⟩ : MapEntry)], clock + 1, ?_, ?_, ?_, ?_⟩, lM w g _, by simp [ChangeMaps.setBlock]⟩
  · simp [Instr.mapUpdate, run_underlying ht, MapKept.run_getObj_map hb, K.check w _ hkey, h5, MapKept.run_setObj_map _ hb, Result.andThen, ChangeMaps.setBlock]
  · simp [ChangeMaps.setBlock, hlt]
  ·
   intro e1 he1
   rcases List.mem_append.1 he1 with he1 | he1
   · exact ⟨(h2 e1 he1).1, by have := (h2 e1 he1).2; omega⟩
   rw [za] at he1
   subst he1
   exact ⟨⟨kl, hkey⟩, Nat.lt_succ_self _⟩
  ·
   refine List.pairwise_append.2 ⟨h3, jp, fun a ha b hb2 => ?_⟩
   rw [za] at hb2
   subst hb2
   exact ⟨by have := (h2 a ha).2; dsimp only; omega, h6 a ha⟩
  intro y u
  dsimp only
  by_cases hy : y = x
  ·
   subst hy
   rw [if_pos rfl]
   constructor
   ·
    intro hv
    simp only [Option.some.injEq] at hv
    exact ⟨⟨enc y, v, clock⟩, jp, rfl, hv⟩
   rintro ⟨e1, he1, he2, he3⟩
   rcases List.mem_append.1 he1 with he1 | he1
   · exact absurd he2 (h6 e1 he1)
   rw [za] at he1
   subst he1
   simpa using he3
  rw [if_neg hy]
  constructor
  ·
   intro hv
   obtain ⟨e1, he1, he2⟩ := (h4 y u).1 hv
   exact ⟨e1, by simp [he1], he2⟩
  rintro ⟨e1, he1, he2, he3⟩
  rcases List.mem_append.1 he1 with he1 | he1
  · exact (h4 y u).2 ⟨e1, he1, he2, he3⟩
  rw [za] at he1
  subst he1
  exact absurd (henc _ _ he2).symm hy
 have hkey0 : ({ e0 with key := enc x, val := v } : MapEntry) = { e0 with val := v } := by rw [← h7]
 have hmod : es.modify j (fun e => { e with key := enc x, val := v }) = es.set j { e0 with val := v } := by
  rw [ChangeMaps.modify_eq_set _ _ _ _ h6, hkey0]
 have hjl := (List.getElem?_eq_some_iff.1 h6).1
 have ej : es[j] = e0 := by rw [ze hjl] at h6; exact Option.some.inj h6
 have he0 : e0 ∈ es := zcr h6
 have who : ∀ e1 ∈ es.set j { e0 with val := v }, e1 = { e0 with val := v } ∨ (e1 ∈ es ∧ e1.key ≠ e0.key ∧ e1.born ≠ e0.born) := by
  intro e1 he1
  obtain ⟨i, hi, ex⟩ := zu he1
  rw [List.getElem_set] at ex
  split at ex
  · exact .inl ex.symm
  rename_i hne
  have hi' : i < es.length := by simpa using hi
  refine .inr ⟨ex ▸ zm hi', ?_⟩
  rcases Nat.lt_or_gt_of_ne hne with h5 | h5
  ·
   have := zcm.1 h3 j i hjl hi' h5
   rw [ej, ex] at this
   exact ⟨this.2.symm, this.1.symm⟩
  have := zcm.1 h3 i j hi' hjl h5
  rw [ej, ex] at this
  exact ⟨this.2, this.1⟩
 have back : ∀ e1 ∈ es, e1.key ≠ e0.key → e1 ∈ es.set j { e0 with val := v } := by
  intro e1 he1 hne
  obtain ⟨i, hi, ex⟩ := zu he1
  have hij : j ≠ i := by
   rintro rfl
   rw [ze hi, ex] at h6
   exact hne (by rw [Option.some.inj h6])
  have : (es.set j { e0 with val := v })[i]? = some e1 := by rw [zde hij, ze hi, ex]
  exact zcr this
 have hmem : ({ e0 with val := v } : MapEntry) ∈ es.set j { e0 with val := v } := by
  have : (es.set j { e0 with val := v })[j]? = some { e0 with val := v } := by rw [zby hjl]
  exact zcr this
 have hstay := K.stays w hkey
 refine ⟨ChangeMaps.setBlock w g (.map (es.set j { e0 with val := v }).toArray clock), ?_, ⟨es.set j { e0 with val := v }, clock, by simp [ChangeMaps.setBlock, hlt], ?_, ?_, ?_⟩, lM w g _, by simp [ChangeMaps.setBlock]⟩
 · simp [Instr.mapUpdate, run_underlying ht, MapKept.run_getObj_map hb, K.check w _ hkey, h5, h6, h7, hstay, MapKept.run_setObj_map _ hb, Result.andThen, ChangeMaps.setBlock, hmod]
 ·
  intro e1 he1
  rcases who e1 he1 with rfl | ⟨h5, _⟩
  · exact h2 e0 he0
  exact h2 e1 h5
 ·
  rw [zcm]
  intro a b ha hb2 hab
  have ha' : a < es.length := by simpa using ha
  have hb' : b < es.length := by simpa using hb2
  have h5 := zcm.1 h3 a b ha' hb' hab
  rw [List.getElem_set, List.getElem_set]
  by_cases h6 : j = a
  ·
   subst h6
   rw [if_pos rfl, if_neg jo]
   rw [ej] at h5
   exact h5
  rw [if_neg h6]
  by_cases h7 : j = b
  ·
   subst h7
   rw [if_pos rfl]
   rw [ej] at h5
   exact h5
  rw [if_neg h7]
  exact h5
 intro y u
 dsimp only
 by_cases hy : y = x
 ·
  subst hy
  rw [if_pos rfl]
  constructor
  ·
   intro hu
   exact ⟨_, hmem, h7, by simpa using hu⟩
  rintro ⟨e1, he1, he2, he3⟩
  rcases who e1 he1 with rfl | ⟨_, h6, _⟩
  · simpa using he3
  exact absurd (he2.trans h7.symm) h6
 rw [if_neg hy]
 constructor
 ·
  intro hu
  obtain ⟨e1, he1, he2, he3⟩ := (h4 y u).1 hu
  exact ⟨e1, back e1 he1 (fun e => hy (henc _ _ (by rw [← he2, ← h7, e]))), he2, he3⟩
 rintro ⟨e1, he1, he2, he3⟩
 rcases who e1 he1 with rfl | ⟨h5, _, _⟩
 · exact absurd (henc _ _ (h7.symm.trans he2)).symm hy
 exact (h4 y u).2 ⟨e1, h5, he2, he3⟩
end
section
variable {P : Program} {k : TypeId} {κ : Type} {enc : κ → Value} {w : World} {g : Nat} {M : κ → Option Value} {Γ : Env} {dst : Option Tmp} {T : TypeId} {pos : String} {after : Array Edge} {gd : Option (Nat × Bool)}
theorem qW.mapUpd [DecidableEq κ] {t e : TypeId} {a b c : Operand} {x : κ} {kl : Lit} {v : Value} (ha : ev? Γ a = some (.map (some g))) (hb : ev? Γ b = some (enc x)) (hc : ev? Γ c = some v) (h : MpF P k enc w g M) (K : Keyed P k) (henc : ∀ a b, enc a = enc b → a = b) (ht : P.underlying t = some (.map k e)) (hkey : keyOf P k (enc x) = some kl) :
  qW P ⟨dst, .mapUpdate t a b c, T, pos, after, gd⟩ Γ w (fun w' => MpF P k enc w' g (fun y => if y = x then some v else M y) ∧ Frm [g] w w' ∧ w'.heap.size = w.heap.size) := fun ρ hρ => by
 obtain ⟨w', h1, h2⟩ := qXn (t := t) (v := v) h K henc ht hkey
 exact ⟨w', by simp [execOp, hρ _ _ ha, hρ _ _ hb, hρ _ _ hc, h1], h2⟩
end
end
section
open Go.RowKit
section
variable {P : Program} {w : World} {g : Nat} {e : TypeId}
theorem Blk.setCells : ∀ (vs : List Value) (o : Nat) (w : World) (cs : Array Value), Blk w g e cs → o + vs.length ≤ cs.size → Blk (w.setCells g o vs) g e (cs.toList.take o ++ vs ++ cs.toList.drop (o + vs.length)).toArray
 | [], o, w, cs, h, _ => by
  simp only [World.setCells, List.length_nil, Nat.add_zero, zbq, zbf]
  exact h
 | v :: r, o, w, cs, h, hl => by
  have hl' : o + (r.length + 1) ≤ cs.size := hl
  have ih := Blk.setCells r (o + 1) (w.setCell ⟨g, o, none⟩ v) (cs.setIfInBounds o v) (h.set o v) (by rw [Array.size_setIfInBounds]; omega)
  rw [World.setCells]
  have e1 : (cs.setIfInBounds o v).toList = cs.toList.set o v := zdp ..
  have hsz : o < cs.toList.length := by rw [zbk]; omega
  have e2 : (cs.toList.set o v).take (o + 1) = cs.toList.take o ++ [v] := by
   rw [List.take_set, zdv, if_pos (by rw [zk]; omega), zej, zal jo]
   congr 2
   rw [zas (by rw [zk]; omega)]
  have e3 : (cs.toList.set o v).drop (o + 1 + r.length) = cs.toList.drop (o + 1 + r.length) := by
   rw [List.drop_set, if_pos jo]
  rw [e1, e2, e3] at ih
  have e4 : cs.toList.take o ++ [v] ++ r ++ cs.toList.drop (o + 1 + r.length) = cs.toList.take o ++ v :: r ++ cs.toList.drop (o + (v :: r).length) := by
   rw [zav, show o + (r.length + 1) = o + 1 + r.length by omega]
   simp
  rw [e4] at ih
  exact ih
theorem Frm.setCells : ∀ (vs : List Value) (o : Nat) (w : World), Frm [g] w (w.setCells g o vs) ∧ (w.setCells g o vs).heap.size = w.heap.size
 | [], o, w => ⟨Frm.refl _ _, rfl⟩
 | v :: r, o, w => by
  obtain ⟨h1, h2⟩ := Frm.setCells r (o + 1) (w.setCell ⟨g, o, none⟩ v)
  exact ⟨(Frm.set1 w ⟨g, o, none⟩ v).trans h1 (fun x hx => .inl hx), h2.trans jp⟩
theorem sN (vs : List Value) (o : Nat) (w : World) (cs : Array Value) (h : Blk w g e cs) (hl : o + vs.length ≤ cs.size) (h1 : ∀ v ∈ vs, v.oneCell' = true) : (storeCells ⟨g, o, none⟩ vs).run P w = .ok () (w.setCells g o vs) := by
 have := run_storeCells_cells (P := P) g o vs 0 w (fun j hj => by
  rw [h.cell, zdt jo]; rfl) (fun j _ => h.frozen _) h1
 simpa using this
theorem lN {size m c : Nat} {A : Option Addr} {ys : List Value} (hr : Rd w size A m ys) : (Builtin.firstCells size m (.slice A m c)).run P w = .ok ys.toArray w := by
 rcases zbu m with hm | hm
 ·
  subst hm
  have hn0 : ys = [] := zaa (by simpa using hr.1)
  subst hn0
  cases A <;> simp [Builtin.firstCells, loadCells, loadCellsFrom]
 obtain ⟨ad, rfl, _, hcell⟩ := hr.2 hm
 have hl := run_loadCells_list (P := P) w ad ys hcell
 rw [hr.1] at hl
 simp [Builtin.firstCells, hl]
theorem uO {size m m' c : Nat} {A : Option Addr} {ys : List Value} (hr : Rd w size A m ys) : (Builtin.firstCells size m (.slice A m' c)).run P w = .ok ys.toArray w := by
 have h := lN (P := P) (c := c) hr
 cases A <;> exact h
theorem Own.more {size n N cap : Nat} {xs : List Value} (h : Own w e size (some ⟨g, 0, none⟩) n cap xs) (h1 : n ≤ N) (h2 : N ≤ cap) : ∃ zs, Own w e size (some ⟨g, 0, none⟩) N cap (xs ++ zs) ∧ zs.length = (N - n) * size := by
 have hl := h.len
 rcases h.cases with ⟨h0, _⟩ | ⟨g', cur, hA, hb, hnc, hc, hs, ht⟩
 · cases h0
 cases hA
 have hm1 : n * size ≤ N * size := zbl _ h1
 have hm2 : N * size ≤ cap * size := zbl _ h2
 refine ⟨(cur.toList.take (N * size)).drop (n * size), ⟨?_, .inr ⟨g, cap, cur, rfl, zah _, hb, h2, hc, hs, ?_⟩⟩, ?_⟩
 ·
  rw [zl, hl, zag, zk, zbk, hs]
  omega
 ·
  have e1 : cur.toList.take (n * size) = xs := ht
  have e2 : (cur.toList.take (N * size)).take (n * size) = xs := by rw [zej, zal hm1, e1]
  conv => rhs; rw [← e2]
  rw [zbf]
 rw [zag, zk, zbk, hs, Nat.sub_mul]
 omega
theorem Own.write {size N cap o : Nat} {xs ys : List Value} (h : Own w e size (some ⟨g, 0, none⟩) N cap xs) (hle : o + ys.length ≤ xs.length) (h1 : ∀ v ∈ ys, v.oneCell' = true) :
  (storeCells ⟨g, o, none⟩ ys).run P w = .ok () (w.setCells g o ys) ∧ Own (w.setCells g o ys) e size (some ⟨g, 0, none⟩) N cap (xs.take o ++ ys ++ xs.drop (o + ys.length)) ∧ Frm [g] w (w.setCells g o ys) ∧ (w.setCells g o ys).heap.size = w.heap.size := by
 have hl := h.len
 rcases h.cases with ⟨h0, _⟩ | ⟨g', cur, hA, hb, hnc, hc, hs, ht⟩
 · cases h0
 cases hA
 have hm : N * size ≤ cap * size := zbl _ hnc
 have e1 : cur.toList.take (N * size) = xs := ht
 have hcl : cur.toList.length = cap * size := by rw [zbk, hs]
 refine ⟨sN ys o w cur hb jo h1, ⟨?_, .inr ⟨g, cap, _, rfl, zah _, Blk.setCells ys o w cur hb jo, hnc, hc, ?_, ?_⟩⟩, Frm.setCells ys o w⟩
 ·
  rw [zl, zl, zk, zag]
  omega
 ·
  simp only [zct, zl, zk, zag]
  omega
 show (cur.toList.take o ++ ys ++ cur.toList.drop (o + ys.length)).take (N * size) = _
 have hAB : (cur.toList.take o ++ ys).length = o + ys.length := by rw [zl, zk]; omega
 rw [← e1, zej, zal jo, List.take_append, zt jo, hAB, List.drop_take]
theorem qH.copyOwn {Γ : Env} {dst : Option Tmp} {T : TypeId} {pos : String} {after : Array Edge} {gd : Option (Nat × Bool)} {x y : Operand} {dT sT : TypeId} {size N cap o dLen dCap sLen sCap : Nat} {A : Option Addr} {xs ys : List Value}
  (hx : ev? Γ x = some (.slice (some ⟨g, o, none⟩) dLen dCap)) (hy : ev? Γ y = some (.slice A sLen sCap)) (ht : P.underlying dT = some (.slice e)) (hz : ∀ w, (sizeOf e).run P w = .ok size w)
  (ho : Own w e size (some ⟨g, 0, none⟩) N cap xs) (n : Nat) (hr : Rd w size A n ys) (hn : Nat.min sLen dLen = n) (hle : o + ys.length ≤ xs.length) (h1 : ∀ v ∈ ys, v.oneCell' = true) :
  qH P ⟨dst, .call ⟨.builtin .copy, #[x, y], #[dT, sT]⟩, T, pos, after, gd⟩ Γ w
   (fun r w' => r = .int .i64 ((n : Nat) : Int) ∧ Own w' e size (some ⟨g, 0, none⟩) N cap (xs.take o ++ ys ++ xs.drop (o + ys.length)) ∧ Frm [g] w w' ∧ w'.heap.size = w.heap.size) := fun ρ hρ => by
 obtain ⟨h2, h3, h4, h5⟩ := ho.write (P := P) hle h1
 refine ⟨_, w.setCells g o ys, ?_, rfl, h3, h4, h5⟩
 have hf := uO (P := P) (m' := sLen) (c := sCap) hr
 simp [execOp, resolve, invoke, builtin, hρ _ _ hx, hρ _ _ hy, Builtin.copy_, run_underlying ht, Builtin.lenOf, hz, hn, hf, h2, goInt]
theorem qH.appIn {Γ : Env} {dst : Option Tmp} {T : TypeId} {pos : String} {after : Array Edge} {gd : Option (Nat × Bool)} {x y : Operand} {t : TypeId} {size N cap n m c2 : Nat} {A : Option Addr} {xs ys : List Value}
  (hx : ev? Γ x = some (.slice (some ⟨g, 0, none⟩) n cap)) (hy : ev? Γ y = some (.slice A m c2)) (ht : P.underlying t = some (.slice e)) (hz : ∀ w, (sizeOf e).run P w = .ok size w)
  (ho : Own w e size (some ⟨g, 0, none⟩) N cap xs) (hr : Rd w size A m ys) (hle : n + m ≤ N) (h1 : ∀ v ∈ ys, v.oneCell' = true) :
  qH P ⟨dst, .call ⟨.builtin .append, #[x, y], #[t, t]⟩, T, pos, after, gd⟩ Γ w
   (fun r w' => r = .slice (some ⟨g, 0, none⟩) (n + m) cap ∧ Own w' e size (some ⟨g, 0, none⟩) N cap (xs.take (n * size) ++ ys ++ xs.drop ((n + m) * size)) ∧ Frm [g] w w' ∧ w'.heap.size = w.heap.size) := fun ρ hρ => by
 have hyl := hr.1
 have hxl := ho.len
 have hm1 : (n + m) * size ≤ N * size := zbl _ hle
 have hm2 : (n + m) * size = n * size + m * size := Nat.add_mul _ _ _
 obtain ⟨h2, h3, h4, h5⟩ := ho.write (P := P) (o := n * size) (ys := ys) jo h1
 rw [hyl, ← hm2] at h3
 have hnc := ho.le
 refine ⟨_, w.setCells g (n * size) ys, ?_, rfl, h3, h4, h5⟩
 have hf := lN (P := P) (c := c2) hr
 have hadd : (⟨g, 0, none⟩ : Addr).add (n * size) = ⟨g, n * size, none⟩ := by unfold Addr.add; split <;> simp_all
 have hroom : n + m ≤ cap := jo
 simp [execOp, resolve, invoke, builtin, hρ _ _ hx, hρ _ _ hy, Builtin.append_, run_underlying ht, Builtin.lenOf, hz, hf, h2, hadd, hroom]
theorem dH (z : Array Value) (n : Nat) : (Builtin.zeroCells z n).size = n * z.size := by simp [Builtin.zeroCells]
theorem Rd.drew {size n : Nat} {A : Option Addr} {xs : List Value} (h : Rd w size A n xs) : Rd w.drew size A n xs := ⟨h.1, fun hn => by
 obtain ⟨ad, h1, h2, h3⟩ := h.2 hn
 exact ⟨ad, h1, h2, h3⟩⟩
theorem qH.appMake {Γ : Env} {dst : Option Tmp} {T : TypeId} {pos : String} {after : Array Edge} {gd : Option (Nat × Bool)} {x y : Operand} {t t2 : TypeId} {kn kq : IntKind} {z : Value} {size bytes cap n k : Nat} {A : Option Addr} {xs : List Value}
    (hx : ev? Γ x = some (.slice A n cap)) (hy : ev? Γ y = some (.int kq (k : Int))) (ht : P.underlying t = some (.slice e)) (ht2 : P.underlying t2 = some (.int kn)) (hi : (P.info? e).map (fun i => (i.zero, i.size, i.bytes)) = some (some z, size, bytes)) (hzs : z.cells.size = size) (hsz : 0 < size)
    (hr : Rd w size A n xs) (hk : 0 < k) (hroom : cap < n + k) (h63 : n + k ≤ 4611686018427387904) (hb : (n + k) * bytes ≤ 140737488355328) (hcn : n ≤ cap) :
    qH P ⟨dst, .call ⟨.builtin .append, #[x, y], #[t, t2]⟩, T, pos, after, gd⟩ Γ w
      (fun r w' => ∃ c' zs, r = .slice (some ⟨w.heap.size, 0, none⟩) (n + k) c' ∧ Own w' e size (some ⟨w.heap.size, 0, none⟩) (n + k) c' (xs ++ zs) ∧ zs.length = k * size ∧ Frm [] w w') := fun ρ hρ => by
  obtain ⟨i0, hi0, hz0, hz1, hz2⟩ := info_parts hi
  have hf : (Builtin.firstCells i0.size n (.slice A n cap)).run P w.drew = .ok xs.toArray w.drew := by
    rw [hz1]; exact lN hr.drew
  have hkb : k * i0.bytes ≤ 281474976710656 := by
    rw [hz2]
    have : k * bytes ≤ (n + k) * bytes := zbl _ jo
    omega
  have hnx : Builtin.nextslicecap (n + k) cap * i0.bytes ≤ 281474976710656 := by
    rw [hz2]
    exact growslice_fits hroom hb
  have hrun := Lib.run_append_grow_zeros (P := P) w t t2 T e i0 z kq kn ht ht2 hi0 hz0 A n cap xs hf k hk jo hroom jo hkb hnx
  have hge := grownCap_ge w (n + k) cap e
  have hle := grownCap_le_maxLen w (n + k) cap e (by show n + k ≤ maxLen; have : (4611686018427387904 : Nat) ≤ maxLen := by decide
                                                     omega)
  have hms : (n + k) * size ≤ grownCap w (n + k) cap e * size := zbl _ hge
  have hdist : (n + k) * size = n * size + k * size := Nat.add_mul _ _ _
  have hsub : (grownCap w (n + k) cap e - (n + k)) * size = grownCap w (n + k) cap e * size - (n + k) * size := Nat.sub_mul _ _ _
  obtain ⟨cur, hcur⟩ : ∃ cur, cur = xs.toArray ++ Builtin.zeroCells z.cells k ++ Builtin.zeroCells z.cells (grownCap w (n + k) cap e - (n + k)) := ⟨_, rfl⟩
  rw [← hcur] at hrun
  refine ⟨_, w.drew.alloc (.cells cur e), ?_, grownCap w (n + k) cap e, (Builtin.zeroCells z.cells k).toList, rfl, ⟨?_, .inr ⟨w.heap.size, grownCap w (n + k) cap e, cur, rfl, zah _, Blk.new w.drew e cur, hge, hle, ?_, ?_⟩⟩, ?_, ?_⟩
  · simp only [execOp, resolve, invoke, builtin, List.map_toArray, zcq, zeh, hρ _ _ hx, hρ _ _ hy, Sem.run_bind, Sem.run_pure, Result.andThen_ok, hrun]
  · rw [zl, hr.1, zbk, dH, hzs, hdist]
  · rw [hcur]
    simp only [zey, dH, hzs, zct, hr.1, hsub]
    omega
  · rw [hcur, Array.toList_append, Array.toList_append, zax (by simp only [zl, zbk, dH, hzs, zct, hr.1]; omega), zt (by simp only [zl, zbk, dH, hzs, zct, hr.1]; omega)]
  · rw [zbk, dH, hzs]
  · exact ((Frm.refl [] w).drew).alloc _
theorem Run.capS {Γ : Env} {dst : Option Tmp} {T : TypeId} {pos : String} {after : Array Edge} {gd : Option (Nat × Bool)} {t : TypeId} {x : Operand} {a : Option Addr} {len cap : Nat} (hx : ev? Γ x = some (.slice a len cap)) (ht : P.underlying t = some (.slice e)) :
  Run P ⟨dst, .call ⟨.builtin .cap, #[x], #[t]⟩, T, pos, after, gd⟩ Γ w (.int .i64 ((cap : Nat) : Int)) := fun ρ hρ => by
 simp [execOp, resolve, invoke, builtin, Builtin.cap_, hρ _ _ hx, run_underlying ht, goInt]
theorem Run.ext2 {Γ : Env} {dst : Option Tmp} {T : TypeId} {pos : String} {after : Array Edge} {gd : Option (Nat × Bool)} {f : FuncId} {x y : Operand} {a b v : Value} {ts : Array TypeId} (hx : ev? Γ x = some a) (hy : ev? Γ y = some b) (h : (callFunc f #[a, b]).run P w = .ok (.value v) w) :
  Run P ⟨dst, .call ⟨.value (.func f), #[x, y], ts⟩, T, pos, after, gd⟩ Γ w v := fun ρ hρ => by
 have e2 : ρ (.func f) = .func (.func f) #[] #[] := hρ _ _ rfl
 simp [execOp, resolve, e2, Deferred.ofValue, invoke, hρ _ _ hx, hρ _ _ hy, h]
theorem jJ {cap i sz : Nat} (hi : i < cap) : dK (some (⟨g, 0, none⟩ : Addr)) cap i sz = some ⟨g, i * sz, none⟩ := by
 unfold dK
 rw [if_neg jo, zcx, hX]
theorem Blk.shape {t : TypeId} {cs : Array Value} (h : Blk w g t cs) : w.shape? g = some (t, cs.size) := by
 unfold Blk at h
 simp [World.shape?, h]
theorem Run.geqT {Γ : Env} {dst : Option Tmp} {T : TypeId} {pos : String} {after : Array Edge} {gd : Option (Nat × Bool)} {t yT : TypeId} {x y : Operand} {a b : List UInt8} (hx : ev? Γ x = some (encStr a)) (hy : ev? Γ y = some (encStr b)) : Run P ⟨dst, .binOp .geq t x y yT, T, pos, after, gd⟩ Γ w (.bool (!decide (a < b))) := fun ρ hρ => by
 have e : Op.bytesLess a b = decide (a < b) := Go.Proofs.bytesLess_eq _ _
 have hx2 : ev? Γ x = some (.string ⟨a.toArray⟩) := hx
 have hy2 : ev? Γ y = some (.string ⟨b.toArray⟩) := hy
 rw [← e]
 simp [execOp, hρ _ _ hx2, hρ _ _ hy2, eqGuard, binOp, Op.stringOp, ByteArray.toList_eq]
theorem Run.leqT {Γ : Env} {dst : Option Tmp} {T : TypeId} {pos : String} {after : Array Edge} {gd : Option (Nat × Bool)} {t yT : TypeId} {x y : Operand} {a b : List UInt8} (hx : ev? Γ x = some (encStr a)) (hy : ev? Γ y = some (encStr b)) : Run P ⟨dst, .binOp .leq t x y yT, T, pos, after, gd⟩ Γ w (.bool (!decide (b < a))) := fun ρ hρ => by
 have e : Op.bytesLess a b = decide (a < b) := Go.Proofs.bytesLess_eq _ _
 have e2 : (decide (a < b) || (a == b)) = !decide (b < a) := by
  rw [zck]
  simp only [Bool.or_eq_true, decide_eq_true_eq, beq_iff_eq, zcv, decide_eq_false_iff_not]
  constructor
  ·
   rintro (h | h) h2
   · exact List.lt_irrefl _ (List.lt_trans h h2)
   rw [h] at h2; exact List.lt_irrefl _ h2
  intro h
  rcases Classical.em (a < b) with h3 | h3
  · exact .inl h3
  exact .inr (List.le_antisymm (List.not_lt.1 h) (List.not_lt.1 h3))
 have hx2 : ev? Γ x = some (.string ⟨a.toArray⟩) := hx
 have hy2 : ev? Γ y = some (.string ⟨b.toArray⟩) := hy
 rw [← e2, ← e]
 simp [execOp, hρ _ _ hx2, hρ _ _ hy2, eqGuard, binOp, Op.stringOp, ByteArray.toList_eq]
end
end
section
open Go.RowKit
section
variable {P : Program} {n : NF} {ops : Array Oper} {S : World → Prop} {Pn : List PanicEntry → World → Prop} {L fuel : Nat} {listed : Array Bool} {Γ : Env} {w : World} {K : Env → World → Prop}
end
theorem Run.eqNilS {P : Program} {Γ : Env} {w : World} {dst : Option Nat} {T : TypeId} {pos : String} {after : Array Edge} {g : Option (Nat × Bool)} {t yT e : TypeId} {x y : Operand} {A : Option Addr} {n c : Nat} (hx : ev? Γ x = some (.slice A n c)) (hy : ev? Γ y = some (.slice none 0 0)) (ht : P.underlying t = some (.slice e)) :
  Run P ⟨dst, .binOp .eql t x y yT, T, pos, after, g⟩ Γ w (.bool A.isNone) := fun ρ hρ => by
 have h0 : ∀ d : Nat, (Op.equalIn (d + 1) t (.slice A n c) (.slice none 0 0)).run P w = .ok A.isNone w := fun d => by
  cases A <;> simp [Op.equalIn, run_underlying ht]
 have h1 : (Op.equal t (.slice A n c) (.slice none 0 0)).run P w = .ok A.isNone w := h0 9999
 simp [execOp, hρ _ _ hx, hρ _ _ hy, eqGuard, binOp, h1]
theorem Run.slice3 {P : Program} {Γ : Env} {w : World} {dst : Option Nat} {T : TypeId} {pos : String} {after : Array Edge} {g : Option (Nat × Bool)} {t e : TypeId} {x lo hi mx : Operand} {a : Option Addr} {len cap sz : Nat} {k k' k'' : IntKind} (l h m : Nat) (hx : ev? Γ x = some (.slice a len cap)) (ht : P.underlying t = some (.slice e)) (hz : ∀ w, (sizeOf e).run P w = .ok sz w)
  (hlo : ev? Γ lo = some (.int k (l : Int))) (hhi : ev? Γ hi = some (.int k' (h : Int))) (hmx : ev? Γ mx = some (.int k'' (m : Int))) (h1 : l ≤ h) (h2 : h ≤ m) (h3 : m ≤ cap) :
  Run P ⟨dst, .slice t x (some lo) (some hi) (some mx), T, pos, after, g⟩ Γ w (.slice (dK a m l sz) (h - l) (m - l)) := fun ρ hρ => by
 have hb : ∀ (k : IntKind) (r y : Nat) (code : BoundsCode), r ≤ y → (Instr.sliceBound (.int k (r : Int)) y code).run P w = .ok r w := by
  intro k r y code hry
  have := run_sliceBound (P := P) w k (r : Int) y code jo jo
  simpa using this
 have hbb : (Instr.sliceBounds true len cap (some (.int k (l : Int))) (some (.int k' (h : Int))) (some (.int k'' (m : Int)))).run P w = .ok (l, h, m) w := by
  unfold Instr.sliceBounds
  simp [hb _ _ _ _ h1, hb _ _ _ _ h2, hb _ _ _ _ h3]
 simp only [execOp, Instr.sliceAt, Instr.slice, Sem.run_bind, run_underlying ht, Result.andThen_ok, hρ _ _ hx, hρ _ _ hlo, hρ _ _ hhi, hρ _ _ hmx, zcx, hbb, hz, Sem.run_pure]
 rfl
end
section
open Go.RowKit
structure Nc where
 nm : Tx
 v : Int
 n : Int
 A : Option Addr
 c : Nat
 l : List Mc
def Nc.cells (x : Nc) : List Value := [encStr x.nm, .int .i64 x.v, .int .i64 x.n, .slice x.A x.l.length x.c]
theorem Nc.cells_len (x : Nc) : x.cells.length = 4 := rfl
theorem Nc.cells_one (x : Nc) : ∀ u ∈ x.cells, u.oneCell' = true := by
 intro u hu
 simp only [Nc.cells, zbc, zbt, or_false] at hu
 rcases hu with rfl | rfl | rfl | rfl <;> rfl
def Nc.p (x : Nc) : NmP := (x.nm, ⟨x.v, x.n, Ms x.l⟩)
abbrev NDC (l : List Nc) : List Value := l.flatMap Nc.cells
abbrev Ns (l : List Nc) : List NmP := l.map Nc.p
theorem dZ (l : List Nc) : (NDC l).length = l.length * 4 := pD Nc.cells 4 Nc.cells_len l
theorem cM (a b : List Nc) : NDC (a ++ b) = NDC a ++ NDC b := List.flatMap_append
theorem fY (l : List Nc) : ∀ u ∈ NDC l, u.oneCell' = true := nZ Nc.cells Nc.cells_one l
theorem gJ (l : List Nc) (i : Nat) (hi : i ≤ l.length) : (NDC l).take (i * 4) = NDC (l.take i) := by
 have e1 : NDC l = NDC (l.take i) ++ NDC (l.drop i) := by rw [← cM, zbf]
 have e2 : (NDC (l.take i)).length = i * 4 := by rw [dZ, zk, zal hi]
 rw [e1, zax jo, zt jo]
theorem nW (l : List Nc) (i : Nat) (hi : i ≤ l.length) : (NDC l).drop (i * 4) = NDC (l.drop i) := by
 have e1 : NDC l = NDC (l.take i) ++ NDC (l.drop i) := by rw [← cM, zbf]
 have e2 : (NDC (l.take i)).length = i * 4 := by rw [dZ, zk, zal hi]
 rw [e1, zdz, zas jo, e2, zdd]
 rfl
structure Nc.At (w : World) (x : Nc) : Prop where
 rd : RdM w x.A x.l
 n : x.l.length ≤ 900000
 q : x.nm.length ≤ 1000000
theorem Nc.At.frm {w w' : World} {x : Nc} (h : x.At w) (k : Frm [] w w') : x.At w' := ⟨h.rd.frm k, h.n, h.q⟩
theorem Mc.At.lt {w : World} {x : Mc} (h : x.At w) (hn : 0 < x.m.flags.length) : ∀ y ∈ ob x.A, y < w.heap.size := h.rd.lt hn
theorem RdM.keep {w w' : World} {A : Option Addr} {l : List Mc} {S : List Nat} {w0 : World} (h : RdM w0 A l) (k0 : Frm [] w0 w) (k : Frm S w w') (hS : ∀ y ∈ S, w0.heap.size ≤ y) : RdM w' A l := h.frm (k0.own k hS)
structure RdN (w : World) (A : Option Addr) (l : List Nc) : Prop where
 rd : Rd w 4 A l.length (NDC l)
 el : ∀ x ∈ l, x.At w
theorem RdN.nil (w : World) (A : Option Addr) : RdN w A [] := ⟨Rd.nil _ _ _, jp⟩
theorem RdN.frm {w w' : World} {A : Option Addr} {l : List Nc} (h : RdN w A l) (k : Frm [] w w') : RdN w' A l := ⟨h.rd.frm k jp, fun x hx => (h.el x hx).frm k⟩
theorem RdN.elem {w : World} {A : Option Addr} {l : List Nc} {k : Nat} (h : RdN w A l) (hk : k < l.length) : ∃ ad, A = some ad ∧ ∀ j v, (l[k]).cells[j]? = some v → w.cell? ((ad.add (k * 4)).add j) = some v := by
 obtain ⟨ad, rfl, hc⟩ := h.rd.elem hk
 refine ⟨ad, rfl, fun j v hj => hc j v ?_⟩
 rw [fJ Nc.cells 4 Nc.cells_len l k hk]
 exact hj
structure MlC where
 A : Option Addr
 c : Nat
 l : List Nc
 S : Option Addr
 d : Nat
 ss : List Tx
 v : Int
 b : Int
def MlC.cells (m : MlC) : List Value := [.slice m.A m.l.length m.c, .slice m.S m.ss.length m.d, .int .i64 m.v, .int .i64 m.b]
theorem MlC.cells_one (m : MlC) : ∀ u ∈ m.cells, u.oneCell' = true := by
 intro u hu
 simp only [MlC.cells, zbc, zbt, or_false] at hu
 rcases hu with rfl | rfl | rfl | rfl <;> rfl
abbrev MlC.val (m : MlC) : Value := .agg m.cells.toArray
def MlC.p (m : MlC) : MailP := ⟨Ns m.l, m.ss, m.v, m.b⟩
def qR : MlC := ⟨none, 0, [], none, 0, [], 0, 0⟩
structure RdL (w : World) (m : MlC) : Prop where
 l : RdN w m.A m.l
 s : Rd w 1 m.S m.ss.length (SB m.ss)
 lc : m.l.length ≤ m.c
 sc : m.ss.length ≤ m.d
 ln : m.l.length ≤ 1000000
 sn : m.ss.length ≤ 1000000
 sq : ∀ q ∈ m.ss, q.length ≤ 1000000
theorem RdL.frm {w w' : World} {m : MlC} (h : RdL w m) (k : Frm [] w w') : RdL w' m := ⟨h.l.frm k, h.s.frm k jp, h.lc, h.sc, h.ln, h.sn, h.sq⟩
theorem RdL.zero (w : World) : RdL w qR := ⟨RdN.nil _ _, Rd.nil _ _ _, zv _, zv _, zah _, zah _, by intro q hq; cases hq⟩
def rW (w' : World) (F : Except Nat MailP) (m : MlC) (k : Nat) : Prop := RdL w' m ∧ ((k = 0 ∧ F = .ok m.p) ∨ (k ≠ 0 ∧ F = .error k ∧ m = qR))
theorem rW.err {w' : World} {F : Except Nat MailP} {k : Nat} (hk : k ≠ 0) (h : F = .error k) : rW w' F qR k := ⟨RdL.zero _, .inr ⟨hk, h, rfl⟩⟩
theorem rW.frm {w w' : World} {F : Except Nat MailP} {m : MlC} {k : Nat} (h : rW w F m k) (hf : Frm [] w w') : rW w' F m k := ⟨h.1.frm hf, h.2⟩
structure OwN (w : World) (A : Option Addr) (d : Nat) (l : List Nc) : Prop where
 own : Own w 45 4 A l.length d (NDC l)
 el : ∀ x ∈ l, x.At w
theorem OwN.frm {w w' : World} {A : Option Addr} {d : Nat} {l : List Nc} (h : OwN w A d l) (k : Frm [] w w') : OwN w' A d l := ⟨h.own.frm k jp, fun x hx => (h.el x hx).frm k⟩
theorem OwN.nil (w : World) : OwN w none 0 [] := ⟨Own.nil _ _ _, jp⟩
theorem bD (l : List Nc) : (Ns l).length = l.length := zaj _
theorem vQ {w w' : World} {t : TypeId} {x : Nc} (h : Fresh w w' t (Value.agg x.cells.toArray).cells) : Rd w' 4 (some ⟨w.heap.size, 0, none⟩) 1 (NDC [x]) := Rd.of_blk (n := 1) (size := 4) h.blk rfl
theorem xR {l : List Nc} {k : Nat} (hk : k < l.length) : ((NDC l).drop (k * 4)).take 4 = (l[k]).cells := fJ Nc.cells 4 Nc.cells_len l k hk
end
section
open Go.RowKit Go.Sort
theorem sP (s : Tx) (c : UInt8) (w : World) : Calls Tryz.prog 160 #[encStr s, encStr [c]] w fun e w' => e = .returned (.int .i64 (Lib.indexByte s c)) ∧ w = w' :=
 (Tryz.stringslite_Index_one ⟨s.toArray⟩ c w).mono fun e w' ⟨h, hw⟩ => ⟨h, hw.symm⟩
theorem xS (s : Tx) (c : UInt8) (w : World) (hs : s.length ≤ 1000000) : Calls Tryz.prog 163 #[encStr s, encStr [c]] w fun e w' => e = .returned (.tuple #[encStr (bB c s), encStr (gQ c s), .bool (decide (c ∈ s))]) ∧ Frm [] w w' := by
 refine VC.calls (nt := 23) (res := #[.tmp 4, .tmp 5, .tmp 6]) Tryz.func163 rfl Tryz.ntmps163 Tryz.results163 rfl ?_
 refine jS (jR (ja rfl (ja rfl (ja rfl (jO (jN (jv2 0 1 ?_)))))))
 refine jS (jS (jR (jm rfl (jM ?_))))
 refine Ops.cl (jE2 Tryz.call160) (sP s c _) rfl ?_
 rintro e _ ⟨rfl, rfl⟩
 refine ⟨_, rfl, ?_⟩
 refine ja rfl (jO (jN (jv3 0 1 7 ?_)))
 refine jS (jR (jm rfl (jb rfl rfl (Bin.geq _ 0) (jO (jN (jv4 0 1 7 12 ?_))))))
 refine jD rfl (fun hc1 => ?_) fun hc1 => ?_
 ·
  obtain ⟨a, b, rfl, hc, hi⟩ := (fU s c).resolve_left (fun h => by rw [h.1] at hc1; omega)
  rw [hi]
  obtain ⟨hb1, hb2⟩ := pA (b := b) hc
  simp only [zl, zav] at hs
  have e1 : (a ++ c :: b).take a.length = a := jp
  have e2 : (a ++ c :: b).drop (a.length + 1) = b := by rw [zdz, zas jo]; simp
  refine jS ?_
  refine VC.still jK jK ?_
  refine qM ?_
  refine qM ?_
  refine qE (Run.sliceT 0 a.length rfl zo evB.none_ (evB.some_ rfl) jo jp) ?_
  refine qM ?_
  refine qM ?_
  refine qM ?_
  refine qE (Run.lenT rfl zo) ?_
  refine qE (Run.bin rfl rfl (Bin.add_i64 a.length 1 jo)) ?_
  refine qE (Run.sliceT (a.length + 1) _ rfl zo (evB.some_ rfl) evB.none_ (by first | (simp; done) | (simp; omega)) jp) ?_
  refine qA ?_
  refine qA ?_
  refine qA ?_
  refine bJ.nil ?_
  refine jN (jv3 4 5 6 ?_)
  refine jT ?_
  refine qZ (zW rfl rfl rfl ?_)
  refine ⟨?_, (qV.drew _).frm⟩
  rw [hb1, hb2, decide_eq_true jp]
  simp only [zch, zbr, e1, e2]
  rw [zt (l := b) (by simp; omega)]
 have hc : c ∉ s := by
  rcases fU s c with ⟨_, h⟩ | ⟨a, b, _, _, hi⟩
  · exact h
  rw [hi] at hc1; omega
 obtain ⟨hb1, hb2⟩ := pF hc
 refine jQ (jN (jv1 0 ?_))
 refine jS (jR (jm rfl (ja rfl (ja rfl (ja rfl (jO (jN (jv3 4 5 6 ?_))))))))
 refine jT ?_
 refine zW rfl rfl rfl ?_
 refine ⟨?_, Frm.refl _ _⟩
 rw [hb1, hb2, decide_eq_false hc]
theorem zF (s : Tx) (c : UInt8) (w : World) (hs : s.length ≤ 1000000) : Calls Tryz.prog 136 #[encStr s, encStr [c]] w fun e w' => e = .returned (.tuple #[encStr (bB c s), encStr (gQ c s), .bool (decide (c ∈ s))]) ∧ Frm [] w w' := by
 refine VC.calls (nt := 13) (res := #[.tmp 4, .tmp 5, .tmp 6]) Tryz.func136 rfl Tryz.ntmps136 Tryz.results136 rfl ?_
 refine jS (jR (ja rfl (ja rfl (ja rfl (jO (jN (jv2 0 1 ?_)))))))
 refine jS (jR (jm rfl (jM ?_)))
 refine Ops.cl (jE2 Tryz.call163) (xS s c _ hs) rfl ?_
 rintro e w1 ⟨rfl, hf1⟩
 refine ⟨_, rfl, ?_⟩
 refine je (Run.extract rfl rfl) (je (Run.extract rfl rfl) (je (Run.extract rfl rfl) (ja rfl (ja rfl (ja rfl (jO (jN (jv3 4 5 6 ?_))))))))
 refine jT ?_
 refine zW rfl rfl rfl ?_
 exact ⟨rfl, hf1⟩
end
section
open Go.RowKit Go.Sort
def cZ (w : World) : Prop := ∃ m, w.cell? ⟨0, 0, none⟩ = some (.int .i64 m)
theorem cZ.frm {w w' : World} (h : cZ w) (k : Frm [] w w') : cZ w' := by
 obtain ⟨m, hm⟩ := h
 exact ⟨m, k.cell hm jp⟩
def kM (o : Option UInt8) : Nat := (o.map UInt8.toNat).getD 0
theorem qQ5 (o : Option UInt8) : kM o = 47 ↔ o = some 47 := by
 cases o with
 | none => simp [kM]
 | some x =>
  simp only [kM, zcx, zem, Option.some.injEq]
  exact ⟨fun h => UInt8.toNat_inj.1 h, fun h => by rw [h]; rfl⟩
def hdC (q : Tx) : Nat := kM q[0]?
def laC (q : Tx) : Nat := kM q[q.length - 1]?
def gB (q : Tx) : Prop := q = [] ∨ 60 < q.length ∨ hdC q = 47 ∨ laC q = 47 ∨ gX q = true
instance (q : Tx) : Decidable (gB q) := by unfold gB; infer_instance
theorem oR (q : Tx) : isN q ↔ ¬ gB q ∧ ∀ c ∈ q, lV c := by
 unfold isN gB hdC laC
 rw [qQ5, qQ5]
 constructor
 ·
  rintro ⟨h1, h2, h3, h4, h5, h6⟩
  exact ⟨by simp [h1, h3, h4, h5]; omega, h6⟩
 rintro ⟨h, h6⟩
 simp only [not_or, Bool.not_eq_true] at h
 exact ⟨h.1, jo, h.2.2.1, h.2.2.2.1, h.2.2.2.2, h6⟩
theorem qXo (c : UInt8) : 0 ≤ Lib.indexByte nK c ↔ c ∈ nK := by
 rcases fU nK c with ⟨h1, h2⟩ | ⟨a, b, h1, h2, h3⟩
 · rw [h1]; simp [h2]
 rw [h3, h1]
 simp
theorem zA (c : UInt8) : lV c ↔ ¬ (c.toNat < 33 ∨ 126 < c.toNat ∨ c ∈ nK) := by
 unfold lV
 constructor
 ·
  rintro ⟨h1, h2, h3⟩ (h | h | h)
  · omega
  · omega
  exact h3 h
 intro h
 simp only [not_or] at h
 exact ⟨jo, jo, h.2.2⟩
theorem xU (s : Tx) (c : UInt8) (w : World) : Calls Tryz.prog 101 #[encStr s, .int .u8 ((c.toNat : Nat) : Int)] w fun e w' => e = .returned (.int .i64 (Lib.indexByte s c)) ∧ w = w' := by
 have h := Tryz.strings_IndexByte ⟨s.toArray⟩ ((c.toNat : Nat) : Int) w
 have e1 : (((c.toNat : Nat) : Int)).toNat.toUInt8 = c := jp
 rw [e1] at h
 exact h.mono fun e w' ⟨h, hw⟩ => ⟨h, hw.symm⟩
theorem xB (s : Tx) (w : World) (hs : s.length ≤ 1000000) (hv : cZ w) : Calls Tryz.prog 100 #[encStr s, encStr [47, 47]] w fun e w' => e = .returned (.bool (gX s)) ∧ w = w' := by
 obtain ⟨m, hm⟩ := hv
 have h := Tryz.strings_Contains ⟨s.toArray⟩ ⟨#[47, 47]⟩ m w (by show s.toArray.size < _; simp; omega) hm
 refine h.mono fun e w' ⟨h, hw⟩ => ⟨?_, hw.symm⟩
 rw [← tP]
 exact h
theorem vX (s : Tx) (w : World) (hs : s.length ≤ 1000000) : Calls Tryz.prog 135 #[encStr s, .int .u8 ((47 : Nat) : Int)] w fun e w' => e = .returned (.int .i64 (Lib.lastIndexByte ⟨s.toArray⟩ 47)) ∧ w = w' := by
 have h := Tryz.strings_LastIndexByte ⟨s.toArray⟩ ((47 : Nat) : Int) (by show s.toArray.size < _; simp; omega) w
 exact h.mono fun e w' ⟨h, hw⟩ => ⟨h, hw.symm⟩
theorem xC (s p : Tx) (w : World) : Calls Tryz.prog 110 #[encStr s, encStr p] w fun e w' => e = .returned (.bool (p.isPrefixOf s)) ∧ w = w' := by
 have h := Tryz.strings_HasPrefix ⟨s.toArray⟩ ⟨p.toArray⟩ w
 exact h.mono fun e w' ⟨h, hw⟩ => ⟨h, hw.symm⟩
theorem jV {q : Tx} {i : Nat} (h : i < q.length) : ∃ x, q[i]? = some x := ⟨_, ze h⟩
theorem vZ {s : Tx} {i : Nat} {x : UInt8} (h : s[i]? = some x) : s.take (i + 1) = s.take i ++ [x] := by rw [zao, h]; rfl
theorem bF (q : Tx) (w : World) (hq : q.length ≤ 1000000) (hv : cZ w) : Calls Tryz.prog 45 #[encStr q] w fun e w' => e = .returned (.bool (decide (isN q))) ∧ w = w' := by
 refine VC.calls (nt := 51) (res := #[.tmp 2]) Tryz.func45 rfl Tryz.ntmps45 Tryz.results45 rfl ?_
 refine jS (jR (ja rfl (jO (jN (jv1 0 ?_)))))
 refine jS (jS ?_)
 refine VC.split1 [(0, _)] (js1 rfl) 27 (.bool (decide (gB q))) ?_ ?_
 ·
  refine jR ?_
  refine jm rfl (je (Run.eqlT rfl rfl) ?_)
  by_cases hs5 : q = []
  ·
   refine jM ?_
   refine jU ?_
   refine jU ?_
   refine jU ?_
   refine je (Run.pickT rfl rfl au) (jM ?_)
   refine jU ?_
   refine jU ?_
   refine jU ?_
   refine je (Run.pickT rfl rfl au) (jM ?_)
   refine jU ?_
   refine jU ?_
   refine jU ?_
   refine jU ?_
   refine jU ?_
   refine jU ?_
   refine je (Run.pickT rfl rfl au) (jM ?_)
   refine jU ?_
   refine jU ?_
   refine je (Run.pickT rfl rfl au) (jO ?_)
   refine jN ⟨(js2 (jC (by simp [gB, *])) rfl), rfl⟩
  refine jM ?_
  refine jG ?_
  refine jk (Run.lenT rfl zo) ?_
  refine jk (Run.bin rfl rfl (Bin.gtrN _ 60)) ?_
  by_cases hs9 : 60 < q.length
  ·
   refine je (Run.pickF rfl rfl au) (jM ?_)
   refine jU ?_
   refine jU ?_
   refine jU ?_
   refine je (Run.pickT rfl rfl au) (jM ?_)
   refine jU ?_
   refine jU ?_
   refine jU ?_
   refine jU ?_
   refine jU ?_
   refine jU ?_
   refine je (Run.pickT rfl rfl au) (jM ?_)
   refine jU ?_
   refine jU ?_
   refine je (Run.pickT rfl rfl au) (jO ?_)
   refine jN ⟨(js2 (jC (by simp [gB, *])) rfl), rfl⟩
  have hpos := List.length_pos_iff.2 hs5
  obtain ⟨x0, hx0⟩ := jV hpos
  obtain ⟨x1, hx1⟩ := jV (jo : q.length - 1 < q.length)
  have e0 : hdC q = x0.toNat := by unfold hdC; rw [hx0]; rfl
  have e1 : laC q = x1.toNat := by unfold laC; rw [hx1]; rfl
  refine je (Run.pickF rfl rfl au) (jM ?_)
  refine jG ?_
  refine jk (Run.indexT 0 rfl rfl zo hx0) ?_
  refine jk (Run.bin rfl rfl (Bin.eqlN _ 47)) ?_
  by_cases hs14 : x0.toNat = 47
  ·
   refine je (Run.pickF rfl rfl au) (jM ?_)
   refine jU ?_
   refine jU ?_
   refine jU ?_
   refine jU ?_
   refine jU ?_
   refine jU ?_
   refine je (Run.pickT rfl rfl au) (jM ?_)
   refine jU ?_
   refine jU ?_
   refine je (Run.pickT rfl rfl au) (jO ?_)
   refine jN ⟨(js2 (jC (by simp [gB, *])) rfl), rfl⟩
  refine je (Run.pickF rfl rfl au) (jM ?_)
  refine jG ?_
  refine jG ?_
  refine jk (Run.lenT rfl zo) ?_
  refine jk (Run.bin rfl rfl (Bin.sub_i64 _ 1 jo jo)) ?_
  refine jk (Run.indexT _ rfl rfl zo hx1) ?_
  refine jk (Run.bin rfl rfl (Bin.eqlN _ 47)) ?_
  by_cases hs22 : x1.toNat = 47
  ·
   refine je (Run.pickF rfl rfl au) (jM ?_)
   refine jU ?_
   refine jU ?_
   refine je (Run.pickT rfl rfl au) (jO ?_)
   refine jN ⟨(js2 (jC (by simp [gB, *])) rfl), rfl⟩
  refine je (Run.pickF rfl rfl au) (jM ?_)
  refine jG ?_
  refine Ops.clg rfl au (jE2 Tryz.call100) (xB q _ hq hv) rfl ?_
  rintro e _ ⟨rfl, rfl⟩
  refine ⟨_, rfl, ?_⟩
  refine je (Run.pickF rfl rfl au) (jO ?_)
  refine jN ⟨(js2 (jC (by simp [gB, *])) rfl), rfl⟩
 intro Γ hΓ
 refine jN (VC.sub _ hΓ ?_)
 refine jD rfl (fun hc1 => ?_) fun hc1 => ?_
 ·
  refine jS (jR (ja rfl (jO (jN (jv1 2 ?_)))))
  refine jT ?_
  refine qZ (qF rfl ?_)
  exact ⟨by rw [decide_eq_false (fun h => ((oR q).1 h).1 hc1)], rfl⟩
 refine jQ (jN (jv1 0 ?_))
 refine jS (jS (jR (jm rfl (je (Run.lenT rfl zo) ?_))))
 refine jx .i64 0 ?_
 refine jO (jN (jv3 0 29 30 ?_))
 refine jB ?_
 refine VC.loop (σ := Nat) (fun s => [(0, encStr q), (29, .int .i64 ((q.length : Nat) : Int)), (30, .int .i64 ((s : Nat) : Int))]) (fun s wr => s ≤ q.length ∧ (∀ c ∈ q.take s, lV c) ∧ w = wr) (fun s => q.length - s) 0 (js3 rfl rfl rfl) ⟨jo, jp, rfl⟩ ?_
 rintro i _ ⟨hi, hd, rfl⟩
 refine jS (jR (jb rfl rfl (Bin.lssN _ _) (jO (jN (jS ?_)))))
 refine jD rfl (fun hc2 => ?_) fun hc2 => ?_
 ·
  obtain ⟨x, hx⟩ := jV hc2
  have hts := vZ hx
  have hxm : x ∈ q := zcr hx
  have hsg := zA x
  have hge := qXo x
  refine jQ (jN (jv3 0 29 30 ?_))
  refine jS (jB (jS (jR (jm rfl (ja rfl (jO (jN (jv4 0 3 29 30 ?_))))))))
  refine jS ?_
  refine VC.split1 [(0, _), (29, _), (30, _)] (js3 rfl rfl rfl) 49 (.bool (decide (x.toNat < 33 ∨ 126 < x.toNat ∨ x ∈ nK))) ?_ ?_
  ·
   refine jR ?_
   refine jm rfl (jm rfl (je (Run.indexT _ rfl rfl zo hx) (jb rfl rfl (Bin.lssN _ 33) ?_)))
   by_cases hs36 : x.toNat < 33
   ·
    refine jM ?_
    refine jU ?_
    refine jU ?_
    refine jU ?_
    refine jU ?_
    refine je (Run.pickT rfl rfl au) (jM ?_)
    refine jU ?_
    refine jU ?_
    refine jU ?_
    refine jU ?_
    refine jU ?_
    refine je (Run.pickT rfl rfl au) (jO ?_)
    refine jN ⟨(js4 (jC (by simp [*])) rfl rfl rfl), rfl⟩
   refine jM ?_
   refine jG ?_
   refine jG ?_
   refine jk (Run.indexT _ rfl rfl zo hx) ?_
   refine jk (Run.bin rfl rfl (Bin.gtrN _ 126)) ?_
   by_cases hs41 : 126 < x.toNat
   ·
    refine je (Run.pickF rfl rfl au) (jM ?_)
    refine jU ?_
    refine jU ?_
    refine jU ?_
    refine jU ?_
    refine jU ?_
    refine je (Run.pickT rfl rfl au) (jO ?_)
    refine jN ⟨(js4 (jC (by simp [*])) rfl rfl rfl), rfl⟩
   refine je (Run.pickF rfl rfl au) (jM ?_)
   refine jG ?_
   refine jG ?_
   refine jk (Run.indexT _ rfl rfl zo hx) ?_
   refine Ops.clg rfl au (jE2 Tryz.call101) (xU nK x _) rfl ?_
   rintro e _ ⟨rfl, rfl⟩
   refine ⟨_, rfl, ?_⟩
   refine jk (Run.bin rfl rfl (Bin.geq _ 0)) ?_
   refine je (Run.pickF rfl rfl au) (jO ?_)
   refine jN ⟨(js4 (jC (by simp [*])) rfl rfl rfl), rfl⟩
  intro Γ hΓ
  refine jN (VC.sub _ hΓ ?_)
  refine jD rfl (fun hc3 => ?_) fun hc3 => ?_
  ·
   refine jS (jR (ja rfl (jO (jN (jv1 2 ?_)))))
   refine jT ?_
   refine qP (qZ (qZ (qP (qZ (qF rfl ?_)))))
   exact ⟨by rw [decide_eq_false (fun h => hsg.1 (((oR q).1 h).2 x hxm) hc3)], rfl⟩
  refine jQ ?_
  refine qN (jN ?_)
  refine jv3 0 29 30 ?_
  refine jR (jb rfl rfl (Bin.add_i64 _ 1 jo) (jm rfl (jO ?_)))
  refine jN ⟨(i + 1), (js3 rfl rfl rfl), ?_, ?_⟩
  ·
   refine ⟨hc2, fun y hy => ?_, rfl⟩
   rw [hts] at hy
   rcases List.mem_append.1 hy with h | h
   · exact hd y h
   rw [za] at h; subst h; exact hsg.2 hc3
  first | omega | (dsimp only; omega)
 refine jX ?_
 refine qK (qK (qS ?_))
 refine jN ?_
 refine VC.sub [] .nil ?_
 refine jS (jR (ja rfl (jO (jN (jT ?_)))))
 refine qF rfl ?_
 have him : i = q.length := jo
 subst him
 rw [zaw] at hd
 exact ⟨by rw [decide_eq_true ((oR q).2 ⟨hc1, hd⟩)], rfl⟩
theorem tT (c : UInt8) : (upC c).toNat = if 97 ≤ c.toNat ∧ c.toNat ≤ 122 then c.toNat - 32 else c.toNat := by
 unfold upC
 split
 ·
  rename_i h
  have h32 : (32 : UInt8).toNat = 32 := rfl
  rw [UInt8.toNat_sub_of_le _ _ (by rw [UInt8.le_iff_toNat_le]; omega), h32]
 rfl
theorem rY {s : Tx} {i : Nat} (h : i < s.length) : ((s.take i).map upC ++ s.drop i).set i (upC s[i]) = (s.take (i + 1)).map upC ++ s.drop (i + 1) := by
 have e1 : ((s.take i).map upC).length = i := by simp; omega
 rw [List.set_append_right _ _ jo, e1, zdd, zaz h, List.set_cons_zero]
 have e2 : s.take (i + 1) = s.take i ++ [s[i]] := by rw [zao, ze h]; rfl
 rw [e2]
 simp only [zbm, zcq, zeh, zci, List.cons_append, zcd]
theorem zI {s : Tx} {i : Nat} (h : i < s.length) (hl : upC s[i] = s[i]) : (s.take i).map upC ++ s.drop i = (s.take (i + 1)).map upC ++ s.drop (i + 1) := by
 rw [← rY h, hl]
 apply zbz
 intro j
 by_cases hj : j = i
 ·
  subst hj
  have e1 : ((s.take j).map upC).length = j := by simp; omega
  rw [zby (by simp; omega), zbi jo, e1, zdd, zaz h]
  rfl
 rw [zde (Ne.symm hj)]
theorem mN (p : Tx) (w : World) (hp : p.length ≤ 1000000) : Calls Tryz.prog 108 #[encStr p] w fun e w' => e = .returned (encStr (cF p)) ∧ Frm [] w w' := by
 obtain ⟨q, hqq⟩ : ∃ q, q = bB 47 p := ⟨_, rfl⟩
 have hq : q.length ≤ p.length := by rw [hqq]; exact (oH 47 p).1
 have hib := eU p
 rw [← hqq] at hib
 refine VC.calls (nt := 47) (res := #[.tmp 2]) Tryz.func108 rfl Tryz.ntmps108 Tryz.results108 rfl ?_
 refine jS (jR (ja rfl (jO (jN (jv1 0 ?_)))))
 refine jS (jR (jM ?_))
 refine Ops.cl (jE2 Tryz.call136) (zF p 47 _ hp) rfl ?_
 rintro e w0 ⟨rfl, K⟩
 refine ⟨_, rfl, ?_⟩
 rw [← hqq]
 refine jm rfl (je (Run.extract rfl rfl) (je (Run.extract rfl rfl) (je (Run.extract rfl rfl) (ja rfl (ja rfl (ja rfl (jO (jN (jv2 0 3 ?_)))))))))
 refine jS (jS (jR (jm rfl (je (Run.lenT rfl zo) (jb rfl rfl (Bin.neqN _ 5) (jO (jN (jv3 0 3 17 ?_))))))))
 refine jD rfl (fun hc1 => ?_) fun hc1 => ?_
 ·
  have he : cF p = p := by
   rcases hib with h | h
   · exact h.1
   have := congrArg List.length h.2.1
   rw [mZ] at this
   exact absurd this hc1
  refine jS (jR (jm rfl (ja rfl (jO (jN (jv1 2 ?_))))))
  refine jT ?_
  refine qZ (qF rfl ?_)
  exact ⟨by rw [he], K⟩
 refine jQ (jN (jv2 0 3 ?_))
 refine jS (jR (jM ?_))
 refine Ops.m (qH.bytesOfT rfl zo zcb zcf) rfl ?_
 rintro _ w1 ⟨c1, cs1, rfl, hF1, ht1, hf1⟩
 have hge : w.heap.size ≤ w0.heap.size := K.size
 have hf1 := K.trans hf1 jp
 generalize hg : w0.heap.size = g1 at hF1 hge ⊢
 refine ja rfl (jO (jN (jv2 0 6 ?_)))
 refine jS (jS (jR (jm rfl (je (Run.lenS rfl zcb) ?_))))
 refine jx .i64 0 ?_
 refine jO (jN (jB ?_))
 refine VC.loop (σ := Nat) (fun s => [(0, encStr p), (6, .slice (some ⟨g1, 0, none⟩) q.length c1), (21, .slice (some ⟨g1, 0, none⟩) q.length c1), (22, .int .i64 ((q.length : Nat) : Int)), (23, .int .i64 ((s : Nat) : Int))]) (fun s wr => s ≤ q.length ∧ Frm [] w wr ∧ ∃ cs, Fro wr g1 5 cs ∧ cs.toList.take q.length = U8 ((q.take s).map upC ++ q.drop s)) (fun s => q.length - s) 0 (js5 rfl rfl rfl rfl rfl) ⟨jo, hf1, cs1, hF1, by simpa using ht1⟩ ?_
 rintro i wr ⟨hi, hfr, cs, hF, ht⟩
 refine jS (jR (jb rfl rfl (Bin.lssN _ _) (jO (jN (jS ?_)))))
 refine jD rfl (fun hc2 => ?_) fun hc2 => ?_
 ·
  have hrd : Rd wr 1 (some ⟨g1, 0, none⟩) q.length (U8 ((q.take i).map upC ++ q.drop i)) := by
   have h := hF.rd (l := (q.take i).map upC ++ q.drop i) (by simpa [zal hi, zep hi] using ht)
   simpa [zal hi, zep hi] using h
  have hcell : wr.cell? ((⟨g1, 0, none⟩ : Addr).add (i * 1)) = some (.int .u8 ((q[i].toNat : Nat) : Int)) := by
   rw [zbj]
   obtain ⟨ad, u, hA, hu, hc⟩ := hrd.at1 hc2
   cases hA
   rw [hc, ← hu]
   simp [U8, zbi, zal hi, ze, hc2]
  have hll : ((q.take i).map upC ++ q.drop i).length = q.length := by simp; omega
  have hsz : i < cs.size := by
   have := congrArg List.length ht
   simp [U8] at this
   omega
  refine jQ (jN (jv5 0 6 21 22 23 ?_))
  refine jS (jB (jS (jR (jm rfl (je (Run.indexS i rfl rfl zcb zcp hc2) (jl rfl zec hcell (ja rfl (ja rfl (jO (jN (jv7 0 6 7 8 21 22 23 ?_)))))))))))
  refine jS ?_
  refine VC.split1 [(0, _), (6, _), (7, _), (8, _), (21, _), (22, _), (23, _)] (js7 rfl rfl rfl rfl rfl rfl rfl) 33 (.bool (decide ((97 ≤ q[i].toNat) ∧ (q[i].toNat ≤ 122)))) ?_ ?_
  ·
   by_cases hs0 : 97 ≤ q[i].toNat
   ·
    refine jR (jm rfl (jb rfl rfl (Bin.geqN _ 97) (jM ?_)))
    refine jG ?_
    refine jk (Run.bin rfl rfl (Bin.leqN _ 122)) ?_
    refine je (Run.pickT rfl rfl au) (jO ?_)
    refine jN ⟨(js8 (by rw [uX hs0]; rfl) rfl rfl rfl rfl rfl rfl rfl), rfl⟩
   refine jR (jm rfl (jb rfl rfl (Bin.geqN _ 97) (jM ?_)))
   refine jU ?_
   refine jU ?_
   refine je (Run.pickF rfl rfl au) (jO ?_)
   refine jN ⟨(js8 (by rw [uZ hs0]; rfl) rfl rfl rfl rfl rfl rfl rfl), rfl⟩
  intro Γ hΓ
  refine jN (VC.sub _ hΓ ?_)
  refine VC.meet (σ := Unit) (fun s => [(0, encStr p), (6, .slice (some ⟨g1, 0, none⟩) q.length c1), (21, .slice (some ⟨g1, 0, none⟩) q.length c1), (22, .int .i64 ((q.length : Nat) : Int)), (23, .int .i64 ((i : Nat) : Int))]) (fun s wm => Frm [] w wm ∧ ∃ cs, Fro wm g1 5 cs ∧ cs.toList.take q.length = U8 ((q.take (i + 1)).map upC ++ q.drop (i + 1))) ?_ ?_
  ·
   refine jD rfl (fun hc3 => ?_) fun hc3 => ?_
   ·
    refine jR (jm rfl (jm rfl (jm rfl (jb rfl rfl (Bin.sub_u8 _ 32 jo jo) ?_))))
    rw [show (q[i].toNat - 32 : Nat) = (upC q[i]).toNat by rw [tT, if_pos hc3]]
    refine je (Run.indexS i rfl rfl zcb zcp hc2) ?_
    rw [show (⟨g1, 0, none⟩ : Addr).add (i * 1) = ⟨g1, i, none⟩ by unfold Addr.add; rw [zbj]; split <;> simp_all]
    refine Ops.st (qW.storeFro rfl rfl zcp hF hsz rfl) ?_
    rintro w2 ⟨hF2, hf2, hs2⟩
    refine jO ?_
    refine jN ⟨(), (js5 rfl rfl rfl rfl rfl), ?_⟩
    exact ⟨hfr.own hf2 (fun x hx => by simp at hx; omega), _, hF2, by rw [xZ ht hll hc2, rY hc2]⟩
   refine jQ ?_
   refine jN ⟨(), (js5 rfl rfl rfl rfl rfl), ?_⟩
   exact ⟨hfr, cs, hF, by rw [ht, zI hc2 (UInt8.toNat_inj.1 (by rw [tT, if_neg hc3]))]⟩
  rintro _ wm ⟨hfr2, cs2, hF2, ht2⟩ Γ hΓ
  refine qN (jN (VC.sub _ hΓ ?_))
  refine jR (jb rfl rfl (Bin.add_i64 _ 1 jo) (jm rfl (jO ?_)))
  refine jN ⟨(i + 1), (js5 rfl rfl rfl rfl rfl), ?_, ?_⟩
  · exact ⟨hc2, hfr2, cs2, hF2, ht2⟩
  first | omega | (dsimp only; omega)
 refine jX ?_
 refine qK (qK (qS ?_))
 refine jN (jv2 0 6 ?_)
 refine jS (jS (jR (jM ?_)))
 have hR : Rd wr 1 (some ⟨g1, 0, none⟩) q.length (U8 (upT q)) := by
  have him : i = q.length := jo
  subst him
  have h := hF.rd (l := upT q) (by rw [mZ, ht]; simp [upT])
  rwa [mZ] at h
 refine je (Run.strOfT rfl zcb zcf zo hR) (je (Run.neqT rfl rfl) (jO (jN (jv2 0 42 ?_))))
 refine jD rfl (fun hc4 => ?_) fun hc4 => ?_
 ·
  have he : cF p = p := by
   rcases hib with h | h
   · exact h.1
   exact absurd h.2.1 hc4
  refine jS (jR (jm rfl (ja rfl (jO (jN (jv1 2 ?_))))))
  refine jT ?_
  refine qZ (qF rfl ?_)
  exact ⟨by rw [he], hfr⟩
 obtain ⟨h1, _, h3, h5⟩ : cF p = qT ++ p.drop 5 ∧ upT q = qT ∧ q = p.take 5 ∧ 5 ≤ p.length := by
  rcases hib with h | h
  · exact absurd (Classical.not_not.1 hc4) h.2
  exact h
 have he : (p.drop 5).take (p.length - 5) = p.drop 5 := zt jp
 refine jQ (jN (jv1 0 ?_))
 refine jS (jR (jm rfl (je (Run.sliceT 5 _ rfl zo (evB.some_ rfl) evB.none_ jo jo) ?_)))
 rw [he]
 refine je (Run.addT rfl rfl (by simp; omega)) (ja rfl (jO (jN (jv1 2 ?_))))
 refine jT ?_
 refine qF rfl ?_
 exact ⟨by rw [h1]; rfl, hfr⟩
theorem bS (q : Tx) (w : World) (hq : q.length ≤ 1000000) (hv : cZ w) : Calls Tryz.prog 53 #[encStr q] w fun e w' => e = .returned (encStr (qJ q)) ∧ Frm [] w w' := by
 refine VC.calls (nt := 9) (res := #[.tmp 2]) Tryz.func53 rfl Tryz.ntmps53 Tryz.results53 rfl ?_
 refine jS (jR (ja rfl (jO (jN (jv1 0 ?_)))))
 refine jS (jS (jR (jM ?_)))
 refine Ops.cl (jE1 zbw) (bF q _ hq hv) rfl ?_
 rintro e _ ⟨rfl, rfl⟩
 refine ⟨_, rfl, ?_⟩
 refine je (Run.not rfl) (jO (jN (jv2 0 5 ?_)))
 refine VC.condB rfl (fun hc1 => ?_) (fun hc1 => ?_)
 ·
  have hn : ¬ isN q := by simpa using hc1
  refine jS (jR (jm rfl (ja rfl (jO (jN (jv1 2 ?_))))))
  refine jT ?_
  refine qZ (qF rfl ?_)
  exact ⟨by unfold qJ; rw [if_neg hn], Frm.refl _ _⟩
 have hn : isN q := by simpa using hc1
 refine jQ (jN (jv1 0 ?_))
 refine jS (jR (jM ?_))
 refine Ops.cl (jE1 Tryz.call108) (mN q _ hq) rfl ?_
 rintro e w1 ⟨rfl, K⟩
 refine ⟨_, rfl, ?_⟩
 refine ja rfl (jO (jN (jv1 2 ?_)))
 refine jT ?_
 refine qF rfl ?_
 exact ⟨by unfold qJ; rw [if_pos hn], K⟩
end
section
open Go.RowKit Go.Sort
def qQ6 (S : List Nat) (w : World) (f : FuncId) (us : List Value) (p : MsgP → Bool) : Prop :=
 (∀ args w, (callFunc f args).run Tryz.prog w = .ok (.enter f args) w) ∧ ∀ W (x : Mc), Frm S w W → x.At W → Calls Tryz.prog f (Value.agg x.cells.toArray :: us).toArray W fun e w' => e = .returned (.bool (p x.m)) ∧ Frm [] W w'
theorem eL (A : Option Addr) (cap sz : Nat) : dK A cap 0 sz = A := by
 unfold dK
 split
 · rfl
 cases A with
 | none => rfl
 | some a => simp [Addr.add]
theorem sR (f : FuncId) (us : List Value) (p : MsgP → Bool) (A : Option Addr) (c : Nat) (l : List Mc) (w : World) (hl : RdM w A l) (hn : l.length ≤ 1000000) (S : List Nat) (hp : qQ6 S w f us p) :
  Calls Tryz.prog 118 #[.slice A l.length c, .func (.func f) #[] us.toArray] w fun e w' => Frm [] w w' ∧ ∃ k, (∀ j (hj : j < l.length), j < k → p (l[j]).m = false) ∧ ((k = l.length ∧ e = .returned (.int .i64 (-1))) ∨ (∃ hk : k < l.length, p (l[k]).m = true ∧ e = .returned (.int .i64 ((k : Nat) : Int)))) := by
 refine VC.calls (nt := 19) (res := #[.tmp 4]) Tryz.func118 rfl Tryz.ntmps118 Tryz.results118 rfl ?_
 refine jS (jR (jz 0 (jO (jN (jv2 0 1 ?_)))))
 refine jS (jS (jR (jm rfl (je (Run.lenS rfl zaf) ?_))))
 refine jx .i64 0 ?_
 refine jO (jN (jv4 0 1 7 8 ?_))
 refine jB ?_
 refine VC.loop (σ := Nat) (fun s => [(0, .slice A l.length c), (1, .func (.func f) #[] us.toArray), (7, .int .i64 ((l.length : Nat) : Int)), (8, .int .i64 ((s : Nat) : Int))]) (fun s wr => s ≤ l.length ∧ Frm [] w wr ∧ ∀ j (hj : j < l.length), j < s → p (l[j]).m = false) (fun s => l.length - s) 0 (js4 rfl rfl rfl rfl) ⟨jo, Frm.refl _ _, jp⟩ ?_
 rintro i wr ⟨hi, hfr, hf⟩
 refine jS (jR (jb rfl rfl (Bin.lssN _ _) (jO (jN (jS ?_)))))
 refine jD rfl (fun hc1 => ?_) fun hc1 => ?_
 ·
  obtain ⟨ad, rfl, hcell⟩ := (hl.frm hfr).elem hc1
  have hxa := (hl.frm hfr).fl (l[i]) (zm hc1)
  refine jQ (jN (jv4 0 1 7 8 ?_))
  refine jS (jB (jS (jR (jm rfl (ja rfl (jO (jN (jv5 0 1 5 7 8 ?_))))))))
  refine jS (jR (jm rfl (jm rfl (jm rfl (je (Run.indexS i rfl rfl zaf zar hc1) (je (Run.loadA rfl zdx zar hcell (by first | rfl | (simp; done))) ?_))))))
  refine Ops.cl (bH.dyn rfl (evs.cons rfl evs.nil) hp.1) (hp.2 _ (l[i]) (hfr.mono jp) hxa) rfl ?_
  rintro e w2 ⟨rfl, hf2⟩
  refine ⟨_, rfl, ?_⟩
  have hfr2 := hfr.trans hf2 jp
  refine jO (jN (jv6 0 1 5 7 8 16 ?_))
  refine VC.condB rfl (fun hc2 => ?_) (fun hc2 => ?_)
  ·
   refine jS (jR (jm rfl (ja rfl (jO (jN (jv1 4 ?_))))))
   refine jT ?_
   refine qP (qZ (qZ (qP (qZ (qF rfl ?_)))))
   exact ⟨hfr2, i, hf, .inr ⟨hc1, hc2, rfl⟩⟩
  refine jQ ?_
  refine qN (jN ?_)
  refine jv4 0 1 7 8 ?_
  refine jR (jb rfl rfl (Bin.add_i64 _ 1 jo) (jm rfl (jO ?_)))
  refine jN ⟨(i + 1), (js4 rfl rfl rfl rfl), ?_, ?_⟩
  ·
   refine ⟨hc1, hfr2, fun j hj hji => ?_⟩
   rcases zbs j i with h | h
   · exact hf j hj h
   obtain rfl : j = i := jo
   simpa using hc2
  first | omega | (dsimp only; omega)
 refine jX ?_
 refine qK (qK (qS ?_))
 refine jN ?_
 refine VC.sub [] .nil ?_
 refine jS (jR ?_)
 refine Ops.r (v := .int .i64 (-1)) (Run.asg rfl) rfl ?_
 refine jO (jN (jT ?_))
 refine qF rfl ?_
 exact ⟨hfr, i, hf, .inl ⟨jo, rfl⟩⟩
end
section
open Go.RowKit Go.Sort
theorem gC (A : Option Addr) (c : Nat) (l : List Nc) (w : World) (hl : RdN w A l) (hn : l.length ≤ 1000000) :
  Calls Tryz.prog 59 #[.slice A l.length c] w fun e w' => ∃ B d, e = .returned (.slice B l.length d) ∧ OwN w' B d l ∧ (∀ b ∈ ob B, w.heap.size ≤ b) ∧ Frm [] w w' := by
 refine VC.calls (nt := 8) (res := #[.tmp 2]) Tryz.func59 rfl Tryz.ntmps59 Tryz.results59 rfl ?_
 refine jS (jR (ja rfl (jO (jN (jv1 0 ?_)))))
 refine jS (jS (jR (jm rfl (je (Run.eqNilS rfl rfl zf) (jO (jN (jv2 0 4 ?_)))))))
 refine VC.condB rfl (fun hc1 => ?_) (fun hc1 => ?_)
 ·
  refine jS (jR (ja rfl (jO (jN (jv1 2 ?_)))))
  refine jT ?_
  refine qZ (qF rfl ?_)
  obtain rfl : A = none := by cases A with | none => rfl | some a => cases hc1
  have hn0 : l.length = 0 := by
   rcases zbu l.length with h | h
   · exact h
   obtain ⟨_, h1, _⟩ := hl.rd.2 h; cases h1
  obtain rfl : l = [] := zaa hn0
  exact ⟨none, 0, rfl, OwN.nil _, by simp [ob], Frm.refl _ _⟩
 refine jQ (jN (jv1 0 ?_))
 refine jS (jR ?_)
 refine Ops.m (qH.buildS0 zf zn) rfl ?_
 rintro _ w1 ⟨rfl, hF1⟩
 have ho1 : Own w1 45 4 (some ⟨w.heap.size, 0, none⟩) 0 0 (NDC []) := Own.of_blk hF1.blk rfl (by simp [maxLen])
 refine jM ?_
 refine Ops.m (qH.app rfl rfl zf (hY) rfl jd ho1 (hl.rd.frm hF1.frm jp) (fY _) jo jo) rfl ?_
 rintro _ w2 ⟨B, d, rfl, ho2, hf2, hob⟩
 rw [zeg] at ho2
 rw [zeg]
 have hs1 := hF1.size
 have hf := hF1.frm.own hf2 (by simp [ob])
 refine ja rfl (jO (jN (jv1 2 ?_)))
 refine jT ?_
 refine qF rfl ?_
 refine ⟨B, d, rfl, ⟨ho2, fun x hx => (hl.el x hx).frm hf⟩, fun x hx => ?_, hf⟩
 rcases hob with h | h
 · rw [h] at hx; simp [ob] at hx; omega
 rw [h, za] at hx; omega
theorem xD (l : List Nc) (i : Nat) (hi : i < l.length) : NDC (l.take i ++ l.drop (i + 1)) = (NDC l).take (i * 4) ++ (NDC l).drop ((i + 1) * 4) := by
 rw [cM, gJ l i jo, nW l (i + 1) jo]
theorem rG (B : Option Addr) (d i : Nat) (l : List Nc) (w : World) (hl : OwN w B d l) (hn : l.length ≤ 1000000) (hi : i < l.length) :
  Calls Tryz.prog 58 #[.slice B l.length d, .int .i64 ((i : Nat) : Int), .int .i64 ((i + 1 : Nat) : Int)] w fun e w' => e = .returned (.slice B (l.length - 1) d) ∧ Own w' 45 4 B (l.length - 1) d (NDC (l.take i ++ l.drop (i + 1))) ∧ Frm (ob B) w w' := by
 obtain ⟨g, rfl⟩ : ∃ g, B = some ⟨g, 0, none⟩ := by
  rcases hl.own.cases with ⟨_, h0, _⟩ | ⟨g, _, h0, _⟩
  · omega
  exact ⟨g, h0⟩
 have hle := hl.own.le
 have hcl := dZ l
 refine VC.calls (nt := 33) (res := #[.tmp 6]) Tryz.func58 rfl Tryz.ntmps58 Tryz.results58 rfl ?_
 refine jS (jR (ja rfl (jO (jN (jv3 0 1 2 ?_)))))
 refine jS (jR (jm rfl (jm rfl (jm rfl (jm rfl (je (Run.lenS rfl zf) (je (Run.slice3 i (i + 1) l.length rfl zf zn rfl rfl rfl jo jo hle) (jO (jN (jv3 0 1 2 ?_))))))))))
 refine jS (jS (jR (jm rfl (jm rfl (jb rfl rfl (Bin.eqlN _ _) (jO (jN (jv4 0 1 2 16 ?_))))))))
 refine VC.condF rfl (decide_eq_false jo) ?_
 refine jQ (jN (jv3 0 1 2 ?_))
 refine jS (jR (jm rfl (je (Run.lenS rfl zf) (ja rfl (jO (jN (jv4 0 1 2 7 ?_)))))))
 refine jS ?_
 refine VC.tail 6 jK jK ?_
 simp only [zcy, zdw, zea, zch]
 refine qM ?_
 refine qM ?_
 refine qE (Run.sliceS 0 _ rfl zf zn evB.none_ (evB.some_ rfl) jo jo) ?_
 rw [eL]
 refine qM ?_
 refine qM ?_
 refine qE (Run.sliceS _ _ rfl zf zn (evB.some_ rfl) evB.none_ jo jo) ?_
 refine bJ.nil ?_
 have hd := qV.drew w
 have hown := hl.own.drawn hd
 have hcut := hown.rd.cut (l := i + 1) (r := l.length) (cap := d) jo (zv _) hle
 rw [zt (by rw [zag, hcl]; omega)] at hcut
 refine Ops.m (qH.appIn (n := i) (cap := d) rfl rfl zf zn hown hcut jo (fun v hv => fY l v (zcs hv))) rfl ?_
 rintro _ w1 ⟨rfl, ho1, hf1, hs1⟩
 rw [show i + (l.length - (i + 1)) = l.length - 1 by omega] at ho1 ⊢
 refine ja rfl (jO (jN (jv2 0 7 ?_)))
 refine jS (jR (jm rfl (jm rfl (je (Run.lenS rfl zf) (jm rfl (je (Run.sliceS _ _ rfl zf zn (evB.some_ rfl) (evB.some_ rfl) jo jo) ?_))))))
 refine Ops.m0 (qH.clearCut (m := l.length) (size := 4) rfl zf cE rfl jd ho1 jo) ?_
 rintro _ w2 ⟨ho2, hf2⟩
 rw [zax (by rw [zl, zk, zag, hcl]; omega), zt (by rw [zl, zk, zag, hcl]; omega), ← xD l i hi] at ho2
 refine jO (jN (jv1 0 ?_))
 refine jS (jR (jm rfl (ja rfl (jO (jN (jv1 6 ?_))))))
 refine jT ?_
 refine qF rfl ?_
 exact ⟨rfl, ho2, (((qV.drew w).frm.mono jp).trans hf1 (fun x hx => .inl hx)).trans hf2 (fun x hx => .inl hx)⟩
theorem oS {w : World} {gv g i : Nat} {cv cs : Array Value} (hv : Blk w gv 45 cv) (hg : Blk w g 45 cs) (hne : gv ≠ g) (h0 : cs.size ≠ 0) (la ca lb cb : Nat) :
  (callFunc 165 #[.slice (some ⟨gv, 0, none⟩) la ca, .slice (some ⟨g, i, none⟩) lb cb]).run Tryz.prog w = .ok (.value (.bool false)) w := by
 rw [run_callFunc_extern Tryz.func165 jK jK jK (e := Extern.SlicesOverlaps.overlaps #[22, 22] #[4]) jK,
  Lib.run_overlaps_apart w 22 4 45 zf 4 zn ⟨gv, 0, none⟩ ⟨g, i, none⟩ la ca lb cb hne 45 45 cv.size cs.size hv.shape hg.shape h0 (hv.frozen 0) (hv.frozen _)]
 rfl
theorem zL (l : List Nc) (x : Nc) (i : Nat) (hi : i ≤ l.length) : NDC (l.take i ++ x :: l.drop i) = (NDC l).take (i * 4) ++ x.cells ++ (NDC l).drop (i * 4) := by
 rw [cM, gJ l i hi, nW l i hi, show NDC (x :: l.drop i) = x.cells ++ NDC (l.drop i) from rfl, zci]
theorem qZd {a zs b x : List Value} {o : Nat} (h1 : o + 4 ≤ (a ++ zs).length) (h2 : o ≤ a.length) : ((a ++ zs).take (o + 4) ++ b).take o ++ x ++ ((a ++ zs).take (o + 4) ++ b).drop (o + 4) = a.take o ++ x ++ b := by
 have hl : ((a ++ zs).take (o + 4)).length = o + 4 := by rw [zk]; omega
 rw [zax jo, zej, zal jo, zax h2, zdz, zas jo, hl, zdd, zch, zcd]
theorem Nc.cells4 (x : Nc) : x.cells.length = 4 := rfl
theorem tU {a b c : List Value} {o k : Nat} (ha : a.length = o) (hk : k ≤ c.length) : (a ++ c).take o ++ b ++ (a ++ c).drop (o + k) = a ++ b ++ c.drop k := by
 rw [zax jo, zt jo, zdz, zas jo, zcd, show o + k - a.length = k by omega]
set_option maxHeartbeats 1000000 in
theorem rH (B : Option Addr) (d i gv : Nat) (l : List Nc) (x : Nc) (w : World) (hl : OwN w B d l) (hn : l.length ≤ 1000000) (hi : i ≤ l.length) (hv : Blk w gv 45 x.cells.toArray) (hne : gv ∉ ob B) :
  Calls Tryz.prog 140 #[.slice B l.length d, .int .i64 ((i : Nat) : Int), .slice (some ⟨gv, 0, none⟩) 1 1] w fun e w' => ∃ C d', e = .returned (.slice C (l.length + 1) d') ∧ Own w' 45 4 C (l.length + 1) d' (NDC (l.take i ++ x :: l.drop i)) ∧ Frm (ob B) w w' ∧ ∀ b ∈ ob C, b ∈ ob B ∨ w.heap.size ≤ b := by
 have hle := hl.own.le
 have hcl := dZ l
 have hil := zL l x i hi
 have hrv : Rd w 4 (some ⟨gv, 0, none⟩) 1 x.cells := Rd.of_blk (n := 1) (size := 4) hv rfl
 refine VC.calls (nt := 95) (res := #[.tmp 6]) Tryz.func140 rfl Tryz.ntmps140 Tryz.results140 rfl ?_
 refine jS (jR (ja rfl (jO (jN (jv3 0 1 2 ?_)))))
 refine jS (jR (jm rfl (jm rfl (je (Run.sliceS _ _ rfl zf zn (evB.some_ rfl) evB.none_ jo jo) (jO (jN (jv3 0 1 2 ?_)))))))
 refine jS (jR (jm rfl (je (Run.lenS rfl zf) (ja rfl (jO (jN (jv4 0 1 2 7 ?_)))))))
 refine jS (jS (jR (jm rfl (jb rfl rfl (Bin.eqlN _ 0) (jO (jN (jv5 0 1 2 7 16 ?_)))))))
 refine VC.condF rfl (rfl) ?_
 refine jQ (jN (jv4 0 1 2 7 ?_))
 refine jS (jR (jm rfl (je (Run.lenS rfl zf) (ja rfl (jO (jN (jv5 0 1 2 7 8 ?_)))))))
 refine jS (jS (jR (jm rfl (jm rfl (jb rfl rfl (Bin.eqlN _ _) (jO (jN (jv6 0 1 2 7 8 22 ?_))))))))
 refine jD rfl (fun hc2 => ?_) fun hc2 => ?_
 ·
  obtain rfl : i = l.length := hc2
  have hend : NDC (l.take l.length ++ x :: l.drop l.length) = NDC l ++ x.cells := by
   rw [zaw, List.drop_length, cM]
   simp
  refine jS (jR (jm rfl (jM ?_)))
  refine Ops.m (qH.app rfl rfl zf (hY) rfl jd hl.own hrv x.cells_one jo jo) rfl ?_
  rintro _ w1 ⟨C, c1, rfl, ho1, hf1, hob1⟩
  refine ja rfl (jO (jN (jv1 6 ?_)))
  refine jT ?_
  refine qZ (qF rfl ?_)
  exact ⟨C, c1, rfl, by rw [hend]; exact ho1, hf1, fun b hb => by rcases hob1 with h | h; exact .inl (h ▸ hb); rw [h, za] at hb; exact .inr jo⟩
 have hin : i < l.length := jo
 obtain ⟨g, rfl⟩ : ∃ g, B = some ⟨g, 0, none⟩ := by
  rcases hl.own.cases with ⟨_, h0, _⟩ | ⟨g, _, h0, _⟩
  · omega
  exact ⟨g, h0⟩
 refine jQ (jN (jv5 0 1 2 7 8 ?_))
 refine jS (jS (jR (jm rfl (jm rfl (jb rfl rfl (Bin.add_i64 _ _ jo) (jm rfl (je (Run.capS rfl zf) (jb rfl rfl (Bin.gtrN _ _) (jO (jN (jv6 0 1 2 7 8 31 ?_)))))))))))
 refine jD rfl (fun hc3 => ?_) fun hc3 => ?_
 ·
  refine jS (jR (jm rfl (jm rfl (je (Run.sliceS 0 _ rfl zf zn evB.none_ (evB.some_ rfl) jo jo) ?_))))
  rw [eL]
  refine jm rfl (jm rfl (jb rfl rfl (Bin.add_i64 _ _ jo) (jm rfl (jb rfl rfl (Bin.sub_i64 _ _ jo jo) ?_))))
  have hpre := (hl.own.short (k := i) hi).rd
  rw [gJ l i hi] at hpre
  refine Ops.m (qH.appMake (n := i) (cap := d) (k := l.length + 1 - i) rfl rfl zf zad (hY) rfl jd hpre jo jo jo jo jo) rfl ?_
  rintro _ w1 ⟨c1, zs, rfl, ho1, hzs, hf1⟩
  have hc1 := ho1.le
  have hpl : (NDC (l.take i)).length = i * 4 := by rw [dZ, zk, zal hi]
  rw [show i + (l.length + 1 - i) = l.length + 1 by omega] at ho1 hc1 ⊢
  generalize hgn : w.heap.size = gn at ho1 ⊢
  refine ja rfl (jO (jN (jv5 0 1 2 7 9 ?_)))
  refine jS (jR (jm rfl (jm rfl (je (Run.sliceS _ _ rfl zf zn (evB.some_ rfl) evB.none_ jo jo) ?_))))
  rw [jJ jo]
  refine jM ?_
  refine Ops.m (qH.copyOwn (g := gn) (o := i * 4) rfl rfl zf zn ho1 1 (hrv.frm hf1 jp) (zal jo) (by rw [zl, hpl, hzs, x.cells4]; omega) x.cells_one) rfl ?_
  rintro _ w2 ⟨rfl, ho2, hf2, hs2⟩
  rw [x.cells4, tU hpl jo] at ho2
  have hf02 : Frm [] w w2 := hf1.trans hf2 (fun y hy => by rw [za] at hy; right; omega)
  have hd2 := qV.drew w2
  have ho2 := ho2.drawn hd2
  have hcut := (hl.own.rd.frm (hf02.drawn hd2) jp).cut (l := i) (r := l.length) (cap := d) hi (zv _) hle
  rw [zt (by rw [zag, hcl]; omega)] at hcut
  refine jO (jN (jv4 0 1 7 9 ?_))
  refine jS ?_
  refine VC.tail 8 jK jK ?_
  simp only [zcy, zdw, zea, zch]
  refine qM ?_
  refine qM ?_
  refine qM ?_
  refine qE (Run.bin rfl rfl (Bin.add_i64 _ _ jo)) ?_
  refine qE (Run.sliceS _ _ rfl zf zn (evB.some_ rfl) evB.none_ jo jo) ?_
  rw [jJ jo]
  refine qM ?_
  refine qM ?_
  refine qE (Run.sliceS _ _ rfl zf zn (evB.some_ rfl) evB.none_ jo jo) ?_
  refine bJ.nil ?_
  refine Ops.m (qH.copyOwn (g := gn) (o := (i + 1) * 4) rfl rfl zf zn ho2 (l.length - i) hcut (zal jo) (by rw [zl, zl, zag, zag, hpl, hzs, hcl, x.cells4]; omega) (fun v hv => fY l v (zcs hv))) rfl ?_
  rintro _ w3 ⟨rfl, ho3, hf3, hs3⟩
  have hal : (NDC (l.take i) ++ x.cells).length = (i + 1) * 4 := by rw [zl, hpl, x.cells4]; omega
  have hz0 : (zs.drop 4).drop ((NDC l).drop (i * 4)).length = [] := zas (by rw [zag, zag, hzs, hcl]; omega)
  rw [tU hal (by rw [zag, zag, hzs, hcl]; omega), hz0, zbq, ← gJ l i hi, ← hil] at ho3
  have hf03 : Frm [] w w3 := (hf02.drawn hd2).trans hf3 (fun y hy => by rw [za] at hy; right; omega)
  refine jO (jN (jv1 9 ?_))
  refine jS (jR (jm rfl (ja rfl (jO (jN (jv1 6 ?_))))))
  refine jT ?_
  refine qZ (qF rfl ?_)
  exact ⟨_, c1, rfl, ho3, hf03.mono jp, fun b hb => by simp only [ob, za] at hb; exact .inr jo⟩
 refine jQ (jN (jv5 0 1 2 7 8 ?_))
 refine jS (jR (jm rfl (jm rfl (jm rfl (jb rfl rfl (Bin.add_i64 _ _ jo) (je (Run.sliceS 0 _ rfl zf zn evB.none_ (evB.some_ rfl) jo jo) ?_))))))
 rw [eL]
 obtain ⟨zs, hmo, hzs⟩ := hl.own.more (N := l.length + 1) jo jo
 obtain ⟨cur, hcur, hcs⟩ : ∃ cur, Blk w g 45 cur ∧ cur.size ≠ 0 := by
  rcases hl.own.cases with ⟨h0, _⟩ | ⟨g', cur, hA, hb, h1, _, h3, _⟩
  · cases h0
  cases hA
  exact ⟨cur, hb, jo⟩
 refine ja rfl (jO (jN (jv5 0 1 2 7 8 ?_)))
 refine jS (jS (jR (jm rfl (jm rfl (jm rfl (jm rfl (jb rfl rfl (Bin.add_i64 _ _ jo) (je (Run.sliceS _ _ rfl zf zn (evB.some_ rfl) evB.none_ jo jo) ?_))))))))
 rw [jJ jo]
 refine je (Run.ext2 rfl rfl (oS hv hcur (by simpa [ob] using hne) hcs _ _ _ _)) (je (Run.not rfl) (jO (jN (jv6 0 1 2 7 8 68 ?_))))
 refine VC.condT rfl (rfl) ?_
 refine jS ?_
 refine VC.tail 8 jK jK ?_
 simp only [zcy, zdw, zea, zch]
 refine qM ?_
 refine qM ?_
 refine qM ?_
 refine qE (Run.bin rfl rfl (Bin.add_i64 _ _ jo)) ?_
 refine qE (Run.sliceS _ _ rfl zf zn (evB.some_ rfl) evB.none_ jo jo) ?_
 rw [jJ jo]
 refine qM ?_
 refine qM ?_
 refine qE (Run.sliceS _ _ rfl zf zn (evB.some_ rfl) evB.none_ jo jo) ?_
 refine bJ.nil ?_
 have hd1 := qV.drew w
 have hmo := hmo.drawn hd1
 have hcut := hmo.rd.cut (l := i) (r := l.length) (cap := d) hi jo jo
 rw [List.drop_append_of_le_length jo, zax (by rw [zag, hcl]; omega), zt (by rw [zag, hcl]; omega), show l.length - i = l.length + 1 - (i + 1) by omega] at hcut
 refine Ops.m (qH.copyOwn (g := g) (o := (i + 1) * 4) rfl rfl zf zn hmo (l.length + 1 - (i + 1)) hcut (Nat.min_eq_right jo) (by rw [zl, zag, hzs, hcl]; omega) (fun v hv => fY l v (zcs hv))) rfl ?_
 rintro _ w2 ⟨rfl, ho2, hf2, hs2⟩
 have hz0 : (NDC l ++ zs).drop ((i + 1) * 4 + ((NDC l).drop (i * 4)).length) = [] := zas (by rw [zl, zag, hzs, hcl]; omega)
 rw [hz0, zbq, show (i + 1) * 4 = i * 4 + 4 by omega] at ho2
 have hf02 : Frm [g] w w2 := (hd1.frm.mono jp).trans hf2 (fun y hy => .inl hy)
 have hv2 : Rd w2 4 (some ⟨gv, 0, none⟩) 1 x.cells := hrv.frm hf02 (by simpa [ob, eq_comm] using hne)
 refine jO (jN (jv3 0 1 2 ?_))
 refine jS (jR (jm rfl (jm rfl (je (Run.sliceS _ _ rfl zf zn (evB.some_ rfl) evB.none_ jo jo) ?_))))
 rw [jJ jo]
 refine jM ?_
 refine Ops.m (qH.copyOwn (g := g) (o := i * 4) rfl rfl zf zn ho2 1 hv2 (zal jo) (by rw [zl, zk, zl, zag, hzs, hcl, x.cells4]; omega) x.cells_one) rfl ?_
 rintro _ w3 ⟨rfl, ho3, hf3, hs3⟩
 rw [x.cells4, qZd (by rw [zl, hzs, hcl]; omega) jo, ← hil] at ho3
 refine jO (jN (jv1 0 ?_))
 refine jS (jR (jm rfl (ja rfl (jO (jN (jv1 6 ?_))))))
 refine jT ?_
 refine qZ (qF rfl ?_)
 exact ⟨_, d, rfl, ho3, hf02.trans hf3 (fun y hy => .inl hy), fun b hb => .inl hb⟩
end
section
open Go.RowKit Go.Sort
theorem kN (q : Tx) (w : World) (hq : q.length ≤ 1000000) (hv : cZ w) : Calls Tryz.prog 104 #[encStr q] w fun e w' => e = .returned (encStr (upN q)) ∧ Frm [] w w' := by
 obtain ⟨k, hk⟩ : ∃ k, Lib.lastIndexByte ⟨q.toArray⟩ 47 = k := ⟨_, rfl⟩
 have hlc := sK q
 rw [hk] at hlc
 refine VC.calls (nt := 17) (res := #[.tmp 2]) Tryz.func104 rfl Tryz.ntmps104 Tryz.results104 rfl ?_
 refine jS (jR (ja rfl (jO (jN (jv1 0 ?_)))))
 refine jS (jR (jM ?_))
 refine Ops.cl (jE2 Tryz.call135) (vX q _ hq) rfl ?_
 rintro e _ ⟨rfl, rfl⟩
 refine ⟨_, rfl, ?_⟩
 rw [hk]
 refine ja rfl (jO (jN (jv2 0 3 ?_)))
 refine jS (jS ?_)
 refine VC.split1 [(0, _), (3, _)] (js2 rfl rfl) 12 (.bool (decide (¬ isN q ∨ k < 0))) ?_ ?_
 ·
  refine jR (jM ?_)
  refine Ops.cl (jE1 zbw) (bF q _ jo (hv)) rfl ?_
  rintro e _ ⟨rfl, rfl⟩
  refine ⟨_, rfl, ?_⟩
  by_cases hs7 : isN q
  ·
   refine je (Run.not rfl) (jM ?_)
   refine jG ?_
   refine jk (Run.bin rfl rfl (Bin.lss _ 0)) ?_
   by_cases hs11 : k < 0
   ·
    refine je (Run.pickF rfl rfl au) (jO ?_)
    refine jN ⟨(js3 (jC (by first | (simp [*]; done) | (simp; omega))) rfl rfl), rfl⟩
   refine je (Run.pickF rfl rfl au) (jO ?_)
   refine jN ⟨(js3 (jC (by first | (simp [*]; done) | (simp; omega))) rfl rfl), rfl⟩
  refine je (Run.not rfl) (jM ?_)
  refine jU ?_
  refine jU ?_
  refine je (Run.pickT rfl rfl au) (jO ?_)
  refine jN ⟨(js3 (jC (by first | (simp [*]; done) | (simp; omega))) rfl rfl), rfl⟩
 intro Γ hΓ
 refine jN (VC.sub _ hΓ ?_)
 refine jD rfl (fun hc1 => ?_) fun hc1 => ?_
 ·
  have hu : upN q = [] := by
   by_cases hn : isN q
   ·
    rcases hlc with ⟨_, h⟩ | ⟨i, _, h, _⟩
    · exact zP h
    rcases hc1 with h1 | h1
    · exact absurd hn h1
    omega
   exact qXg hn
  refine jS (jR (ja rfl (jO (jN (jv1 2 ?_)))))
  refine jT ?_
  refine qZ (qF rfl ?_)
  exact ⟨by rw [hu], Frm.refl _ _⟩
 have hn : isN q := Classical.byContradiction fun h => hc1 (.inl h)
 obtain ⟨i, hi, rfl, h1, h2⟩ := hlc.resolve_left fun h => hc1 (.inr jo)
 have hu := qZa hn h1 h2
 have htl := bT q
 refine jQ (jN (jv2 0 3 ?_))
 refine jS (jR (jM ?_))
 refine Ops.cl (jE1 zbx) (bS q _ jo (hv)) rfl ?_
 rintro e w1 ⟨rfl, hf_w1⟩
 refine ⟨_, rfl, ?_⟩
 refine jm rfl (je (Run.sliceT 0 i rfl zo evB.none_ (evB.some_ rfl) jo jo) (ja rfl (jO (jN (jv1 2 ?_)))))
 refine jT ?_
 refine qF rfl ?_
 exact ⟨by rw [hu]; rfl, hf_w1⟩
theorem kP {q p : Tx} (h1 : isN q) (h2 : isN p) : (qJ p ++ [47]).isPrefixOf (qJ q) = decide (bO q p) := by
 rw [zck, decide_eq_true_iff, List.isPrefixOf_iff_prefix]
 exact ⟨fun h => ⟨h1, h2, h⟩, fun h => h.2.2⟩
theorem eY (q p : Tx) (w : World) (hq : q.length ≤ 1000000) (hp : p.length ≤ 1000000) (hv : cZ w) : Calls Tryz.prog 57 #[encStr q, encStr p] w fun e w' => e = .returned (.bool (decide (bO q p))) ∧ Frm [] w w' := by
 have K := Frm.refl [] w
 have htq := bT q
 have htp := bT p
 refine VC.calls (nt := 19) (res := #[.tmp 4]) Tryz.func57 rfl Tryz.ntmps57 Tryz.results57 rfl ?_
 refine jS (jR (ja rfl (jO (jN (jv2 0 1 ?_)))))
 refine jS ?_
 refine VC.splitR [] (Frm [] w) 4 (.bool (decide (bO q p))) ?_ ?_
 ·
  refine jR (jM ?_)
  refine Ops.cl (jE1 zbw) (bF q _ jo (hv)) rfl ?_
  rintro e _ ⟨rfl, rfl⟩
  refine ⟨_, rfl, ?_⟩
  by_cases hs6 : isN q
  ·
   refine jM ?_
   refine jG ?_
   refine Ops.clg rfl au (jE1 zbw) (bF p _ jo (hv)) rfl ?_
   rintro e _ ⟨rfl, rfl⟩
   refine ⟨_, rfl, ?_⟩
   by_cases hs9 : isN p
   ·
    refine je (Run.pickT rfl rfl au) (jM ?_)
    refine jG ?_
    refine Ops.clg rfl au (jE1 zbx) (bS q _ jo (hv)) rfl ?_
    rintro e w1 ⟨rfl, hf_w1⟩
    refine ⟨_, rfl, ?_⟩
    have K := K.trans hf_w1 jp
    refine jG ?_
    refine Ops.clg rfl au (jE1 zbx) (bS p _ jo (hv.frm K)) rfl ?_
    rintro e w2 ⟨rfl, hf_w2⟩
    refine ⟨_, rfl, ?_⟩
    have K := K.trans hf_w2 jp
    refine jk (Run.addT rfl rfl (by simp; omega)) ?_
    refine Ops.clg rfl au (jE2 Tryz.call110) (xC (qJ q) (qJ p ++ [47]) _) rfl ?_
    rintro e _ ⟨rfl, rfl⟩
    refine ⟨_, rfl, ?_⟩
    refine je (Run.pickT rfl rfl au) (ja rfl (jO ?_))
    refine jN ⟨(js1 (jC (by first | exact kP hs6 hs9 | exact (decide_eq_false (fun h => hs9 h.2.1)).symm | exact (decide_eq_false (fun h => hs6 h.1)).symm))), (K)⟩
   refine je (Run.pickT rfl rfl au) (jM ?_)
   refine jU ?_
   refine jU ?_
   refine jU ?_
   refine jU ?_
   refine jU ?_
   refine jU ?_
   refine je (Run.pickF rfl rfl au) (ja rfl (jO ?_))
   refine jN ⟨(js1 (jC (by first | exact kP hs6 hs9 | exact (decide_eq_false (fun h => hs9 h.2.1)).symm | exact (decide_eq_false (fun h => hs6 h.1)).symm))), (K)⟩
  refine jM ?_
  refine jU ?_
  refine jU ?_
  refine je (Run.pickF rfl rfl au) (jM ?_)
  refine jU ?_
  refine jU ?_
  refine jU ?_
  refine jU ?_
  refine jU ?_
  refine jU ?_
  refine je (Run.pickF rfl rfl au) (ja rfl (jO ?_))
  refine jN ⟨(js1 (jC (by first | exact kP hs6 hs9 | exact (decide_eq_false (fun h => hs9 h.2.1)).symm | exact (decide_eq_false (fun h => hs6 h.1)).symm))), (K)⟩
 intro Γ wz hΓ hRz
 refine jN (VC.sub _ hΓ ?_)
 refine jT ?_
 refine qF rfl ?_
 exact ⟨rfl, hRz⟩
theorem vJ (q f t : Tx) (w : World) (hq : q.length ≤ 1000000) (hf : f.length ≤ 1000000) (ht : t.length ≤ 400000) (hv : cZ w) : Calls Tryz.prog 112 #[encStr q, encStr f, encStr t] w fun e w' => ∃ r k, e = .returned (.tuple #[encStr r, .int .i64 ((k : Nat) : Int)]) ∧ Frm [] w w' ∧ ((k = 0 ∧ cH q f t = .ok r) ∨ (k ≠ 0 ∧ cH q f t = .error k ∧ r = [])) := by
 have K := Frm.refl [] w
 have htq := bT q
 have htf := bT f
 have htt := bT t
 refine VC.calls (nt := 46) (res := #[.tmp 6, .tmp 7]) Tryz.func112 rfl Tryz.ntmps112 Tryz.results112 rfl ?_
 refine jS (jR (ja rfl (jz 0 (jO (jN (jv3 0 1 2 ?_))))))
 refine jS (jS ?_)
 refine VC.split1 [(0, _), (1, _), (2, _)] (js3 rfl rfl rfl) 21 (.bool (decide (¬ isN q ∨ ¬ isN f ∨ ¬ isN t))) ?_ ?_
 ·
  refine jR (jM ?_)
  refine Ops.cl (jE1 zbw) (bF q _ jo (hv)) rfl ?_
  rintro e _ ⟨rfl, rfl⟩
  refine ⟨_, rfl, ?_⟩
  by_cases hs10 : isN q
  ·
   refine je (Run.not rfl) (jM ?_)
   refine jG ?_
   refine Ops.clg rfl au (jE1 zbw) (bF f _ jo (hv)) rfl ?_
   rintro e _ ⟨rfl, rfl⟩
   refine ⟨_, rfl, ?_⟩
   by_cases hs14 : isN f
   ·
    refine jk (Run.not rfl) ?_
    refine je (Run.pickF rfl rfl au) (jM ?_)
    refine jG ?_
    refine Ops.clg rfl au (jE1 zbw) (bF t _ jo (hv)) rfl ?_
    rintro e _ ⟨rfl, rfl⟩
    refine ⟨_, rfl, ?_⟩
    by_cases hs19 : isN t
    ·
     refine jk (Run.not rfl) ?_
     refine je (Run.pickF rfl rfl au) (jO ?_)
     refine jN ⟨(js4 (jC (by first | (simp [*]; done) | (simp; omega))) rfl rfl rfl), rfl⟩
    refine jk (Run.not rfl) ?_
    refine je (Run.pickF rfl rfl au) (jO ?_)
    refine jN ⟨(js4 (jC (by first | (simp [*]; done) | (simp; omega))) rfl rfl rfl), rfl⟩
   refine jk (Run.not rfl) ?_
   refine je (Run.pickF rfl rfl au) (jM ?_)
   refine jU ?_
   refine jU ?_
   refine jU ?_
   refine je (Run.pickT rfl rfl au) (jO ?_)
   refine jN ⟨(js4 (jC (by first | (simp [*]; done) | (simp; omega))) rfl rfl rfl), rfl⟩
  refine je (Run.not rfl) (jM ?_)
  refine jU ?_
  refine jU ?_
  refine jU ?_
  refine je (Run.pickT rfl rfl au) (jM ?_)
  refine jU ?_
  refine jU ?_
  refine jU ?_
  refine je (Run.pickT rfl rfl au) (jO ?_)
  refine jN ⟨(js4 (jC (by first | (simp [*]; done) | (simp; omega))) rfl rfl rfl), rfl⟩
 intro Γ hΓ
 refine jN (VC.sub _ hΓ ?_)
 refine jD rfl (fun hc1 => ?_) fun hc1 => ?_
 ·
  refine jS (jR (ja rfl (jz 18 (jO (jN (jv2 6 7 ?_))))))
  refine jT ?_
  refine qZ (dQ rfl rfl ?_)
  refine ⟨[], 18, rfl, Frm.refl _ _, .inr ⟨jd, ?_, rfl⟩⟩
  unfold cH; rw [if_pos hc1]
 have hm : cH q f t = if qJ q = qJ f then kK (qJ t) else if bO q f then kK (qJ t ++ (qJ q).drop f.length) else .error 6 := by unfold cH; rw [if_neg hc1]
 have hqn : isN q := Classical.byContradiction fun h => hc1 (.inl h)
 have hq60 := hqn.2.1
 refine jQ (jN (jv3 0 1 2 ?_))
 refine jS (jR (ja rfl (jO (jN (jv3 0 1 2 ?_)))))
 refine jS (jB (jS (jR (jM ?_))))
 refine Ops.cl (jE1 zbx) (bS q _ jo (hv)) rfl ?_
 rintro e w1 ⟨rfl, hf_w1⟩
 refine ⟨_, rfl, ?_⟩
 have K := K.trans hf_w1 jp
 refine jM ?_
 refine Ops.cl (jE1 zbx) (bS f _ jo (hv.frm K)) rfl ?_
 rintro e w2 ⟨rfl, hf_w2⟩
 refine ⟨_, rfl, ?_⟩
 have K := K.trans hf_w2 jp
 refine je (Run.eqlT rfl rfl) (ja rfl (jO (jN (jv4 0 1 2 22 ?_))))
 refine VC.meet (σ := Tx) (fun s => [(8, encStr s)]) (fun s wz => s.length ≤ 1000000 ∧ cH q f t = kK s ∧ Frm [] w wz) ?_ ?_
 ·
  refine jD rfl (fun hc2 => ?_) fun hc2 => ?_
  ·
   rw [if_pos hc2] at hm
   refine jR (jM ?_)
   refine Ops.cl (jE1 zbx) (bS t _ jo (hv.frm K)) rfl ?_
   rintro e w3 ⟨rfl, hf_w3⟩
   refine ⟨_, rfl, ?_⟩
   have K := K.trans hf_w3 jp
   refine ja rfl (jO ?_)
   refine jN ⟨(qJ t), (js1 rfl), ?_⟩
   exact ⟨jo, hm, K⟩
  rw [if_neg hc2] at hm
  refine jS (jR (jm rfl (jM ?_)))
  refine Ops.cl (jE2 Tryz.call57) (eY q f _ hq hf (hv.frm K)) rfl ?_
  rintro e w4 ⟨rfl, hf4⟩
  refine ⟨_, rfl, ?_⟩
  have K := K.trans hf4 jp
  refine ja rfl (jO (jN (jv4 0 1 2 30 ?_)))
  refine VC.condB rfl (fun hc3 => ?_) (fun hc3 => ?_)
  ·
   have hc3 : bO q f := by simpa using hc3
   rw [if_pos hc3] at hm
   have hfl : f.length ≤ q.length := by
    have h1 := hc3.2.2.length_le
    rw [zl, htf, htq] at h1
    simp at h1
    omega
   refine jR (jM ?_)
   refine Ops.cl (jE1 zbx) (bS t _ jo (hv.frm K)) rfl ?_
   rintro e w5 ⟨rfl, hf_w5⟩
   refine ⟨_, rfl, ?_⟩
   have K := K.trans hf_w5 jp
   refine jM ?_
   refine Ops.cl (jE1 zbx) (bS q _ jo (hv.frm K)) rfl ?_
   rintro e w6 ⟨rfl, hf_w6⟩
   refine ⟨_, rfl, ?_⟩
   have K := K.trans hf_w6 jp
   refine jm rfl (je (Run.lenT rfl zo) (je (Run.sliceT f.length (qJ q).length rfl zo (evB.some_ rfl) evB.none_ jo jo) ?_))
   rw [zt (by rw [zag]; omega)]
   refine je (Run.addT rfl rfl (by simp; omega)) (ja rfl (jO ?_))
   refine jN ⟨(qJ t ++ (qJ q).drop f.length), (js1 rfl), ?_⟩
   exact ⟨by simp; omega, hm, K⟩
  have hc3 : ¬ bO q f := by simpa using hc3
  rw [if_neg hc3] at hm
  refine jS (jR (ja rfl (jz 6 (jO (jN (jv2 6 7 ?_))))))
  refine jT ?_
  refine qZ (qP (qZ (dQ rfl rfl ?_)))
  exact ⟨[], 6, rfl, K, .inr ⟨jd, hm, rfl⟩⟩
 rintro s wz ⟨hsl, hms, K⟩ Γ hΓ
 refine qN (jN (VC.sub _ hΓ ?_))
 refine jS (jS (jR (jM ?_)))
 refine Ops.cl (jE1 zbw) (bF s _ jo (hv.frm K)) rfl ?_
 rintro e _ ⟨rfl, rfl⟩
 refine ⟨_, rfl, ?_⟩
 refine je (Run.not rfl) (jO (jN (jv2 8 44 ?_)))
 refine VC.condB rfl (fun hc4 => ?_) (fun hc4 => ?_)
 ·
  have hn : ¬ isN s := by simpa using hc4
  refine jS (jR (ja rfl (jz 18 (jO (jN (jv2 6 7 ?_))))))
  refine jT ?_
  refine qZ (dQ rfl rfl ?_)
  refine ⟨[], 18, rfl, K, .inr ⟨jd, ?_, rfl⟩⟩
  rw [hms]; exact if_neg hn
 have hn : isN s := by simpa using hc4
 refine jQ (jN (jv1 8 ?_))
 refine jS (jR (jm rfl (ja rfl (jz 0 (jO (jN (jv2 6 7 ?_)))))))
 refine jT ?_
 refine dQ rfl rfl ?_
 refine ⟨s, 0, rfl, K, .inl ⟨rfl, ?_⟩⟩
 rw [hms]; exact if_pos hn
end
section
open Go.RowKit Go.Sort
theorem qXp {l : List Tx} {i : Nat} (h0 : 0 < i) (hi : i - 1 < l.length) : (l[i - 1]?).getD [] = l[i - 1] := by rw [ze hi]; rfl
theorem bY.iff1 {l : List Tx} {i : Nat} {q : Tx} : bY l i q ↔ (isN q ∧ qJ q = q) ∧ (0 < i → (l[i - 1]?).getD [] < q) := Iff.rfl
theorem mP (A : Option Addr) (c : Nat) (l : List Tx) (w : World) (hr : Rd w 1 A l.length (SB l)) (hn : l.length ≤ 1000000) (hq : ∀ q ∈ l, q.length ≤ 1000000) (hv : cZ w) :
  Calls Tryz.prog 66 #[.slice A l.length c] w fun e w' => e = .returned (.bool (decide (cD l))) ∧ Frm [] w w' := by
 refine VC.calls (nt := 38) (res := #[.tmp 2]) Tryz.func66 rfl Tryz.ntmps66 Tryz.results66 rfl ?_
 refine jS (jR (ja rfl (jO (jN (jv1 0 ?_)))))
 refine jS (jS (jR (jm rfl (je (Run.lenS rfl zj) ?_))))
 refine jx .i64 0 ?_
 refine jO (jN (jB ?_))
 refine VC.loop (σ := Nat) (fun s => [(0, .slice A l.length c), (5, .slice A l.length c), (6, .int .i64 ((l.length : Nat) : Int)), (7, .int .i64 ((s : Nat) : Int))]) (fun s wr => s ≤ l.length ∧ (∀ j (h : j < l.length), j < s → bY l j l[j]) ∧ Frm [] w wr) (fun s => l.length - s) 0 (js4 rfl rfl rfl rfl) ⟨zah _, fun _ _ h => jo, Frm.refl _ _⟩ ?_
 rintro i wr ⟨hi, hd, K⟩
 refine jS (jR (jb rfl rfl (Bin.lssN _ _) (jO (jN (jS ?_)))))
 refine jD rfl (fun hc1 => ?_) fun hc1 => ?_
 ·
  obtain ⟨ad, rfl, hc⟩ := mQ (hr.frm K jp) hc1
  have hql := hq _ (zm hc1)
  have hna := @bY.iff1 l i l[i]
  generalize hx : l[i] = q at *
  refine jQ (jN (jv4 0 5 6 7 ?_))
  refine jS (jB (jS (jR (jm rfl (je (Run.index1 _ rfl rfl zj zx jo) (jl rfl zac hc (ja rfl (ja rfl (jO (jN (jv6 0 3 4 5 6 7 ?_)))))))))))
  refine jS ?_
  refine VC.splitR [(0, .slice (some ad) l.length c), (5, .slice (some ad) l.length c), (6, .int .i64 ((l.length : Nat) : Int)), (7, .int .i64 ((i : Nat) : Int))] (Frm [] w) 33 (.bool (decide (¬ bY l i q))) ?_ ?_
  ·
   refine jR (jM ?_)
   refine Ops.cl (jE1 zbw) (bF q _ jo (hv.frm K)) rfl ?_
   rintro e _ ⟨rfl, rfl⟩
   refine ⟨_, rfl, ?_⟩
   by_cases hs13 : isN q
   ·
    refine je (Run.not rfl) (jM ?_)
    refine jG ?_
    refine Ops.clg rfl au (jE1 zbx) (bS q _ jo (hv.frm K)) rfl ?_
    rintro e w1 ⟨rfl, hf_w1⟩
    refine ⟨_, rfl, ?_⟩
    have K := K.trans hf_w1 jp
    refine jG ?_
    refine jk (Run.neqT rfl rfl) ?_
    by_cases hs19 : qJ q ≠ q
    ·
     refine je (Run.pickF rfl rfl au) (jM ?_)
     refine jU ?_
     refine jU ?_
     refine jU ?_
     refine Ops.skU rfl rfl ?_
     refine Ops.skU rfl rfl ?_
     refine Ops.skU rfl rfl ?_
     refine Ops.skU rfl rfl ?_
     refine Ops.skU rfl rfl ?_
     refine Ops.skU rfl rfl ?_
     refine Ops.skU rfl rfl ?_
     refine jU ?_
     refine je (Run.pickT rfl rfl au) (jO ?_)
     refine jN ⟨(js5 (jC (by first | exact (decide_eq_true (p := ¬ bY l i q) (fun h => hs13 (hna.1 h).1.1)).symm | exact (decide_eq_true (p := ¬ bY l i q) (fun h => hs19 (hna.1 h).1.2)).symm | (rw [decide_eq_false hs31]; exact (decide_eq_true (p := ¬ bY l i q) (fun h => hs31 ((hna.1 h).2 hs23))).symm) | (rw [decide_eq_true (Classical.not_not.1 hs31)]; exact (decide_eq_false (p := ¬ bY l i q) (fun h => h (hna.2 ⟨⟨hs13, Classical.not_not.1 hs19⟩, fun _ => Classical.not_not.1 hs31⟩))).symm) | exact (decide_eq_false (p := ¬ bY l i q) (fun h => h (hna.2 ⟨⟨hs13, Classical.not_not.1 hs19⟩, fun h0 => absurd h0 hs23⟩))).symm)) rfl rfl rfl rfl), (K)⟩
    refine je (Run.pickF rfl rfl au) (jM ?_)
    refine jG ?_
    refine jk (Run.bin rfl rfl (Bin.gtrN _ 0)) ?_
    by_cases hs23 : 0 < i
    ·
     obtain ⟨ad2, e2, hcp⟩ := mQ (hr.frm K jp) (jo : i - 1 < l.length)
     cases e2
     rw [← qXp hs23 (jo : i - 1 < l.length)] at hcp
     refine jG ?_
     refine jG ?_
     refine jG ?_
     refine jG ?_
     refine jk (Run.bin rfl rfl (Bin.sub_i64 _ 1 jo jo)) ?_
     refine jk (Run.index1 _ rfl rfl zj zx jo) ?_
     refine jk (Run.load rfl zac hcp) ?_
     refine jk (Run.leqT rfl rfl) ?_
     by_cases hs31 : ¬ (l[i - 1]?).getD [] < q
     ·
      refine jk (Run.pickT rfl rfl au) ?_
      refine je (Run.pickF rfl rfl au) (jO ?_)
      refine jN ⟨(js5 (jC (by first | exact (decide_eq_true (p := ¬ bY l i q) (fun h => hs13 (hna.1 h).1.1)).symm | exact (decide_eq_true (p := ¬ bY l i q) (fun h => hs19 (hna.1 h).1.2)).symm | (rw [decide_eq_false hs31]; exact (decide_eq_true (p := ¬ bY l i q) (fun h => hs31 ((hna.1 h).2 hs23))).symm) | (rw [decide_eq_true (Classical.not_not.1 hs31)]; exact (decide_eq_false (p := ¬ bY l i q) (fun h => h (hna.2 ⟨⟨hs13, Classical.not_not.1 hs19⟩, fun _ => Classical.not_not.1 hs31⟩))).symm) | exact (decide_eq_false (p := ¬ bY l i q) (fun h => h (hna.2 ⟨⟨hs13, Classical.not_not.1 hs19⟩, fun h0 => absurd h0 hs23⟩))).symm)) rfl rfl rfl rfl), (K)⟩
     refine jk (Run.pickT rfl rfl au) ?_
     refine je (Run.pickF rfl rfl au) (jO ?_)
     refine jN ⟨(js5 (jC (by first | exact (decide_eq_true (p := ¬ bY l i q) (fun h => hs13 (hna.1 h).1.1)).symm | exact (decide_eq_true (p := ¬ bY l i q) (fun h => hs19 (hna.1 h).1.2)).symm | (rw [decide_eq_false hs31]; exact (decide_eq_true (p := ¬ bY l i q) (fun h => hs31 ((hna.1 h).2 hs23))).symm) | (rw [decide_eq_true (Classical.not_not.1 hs31)]; exact (decide_eq_false (p := ¬ bY l i q) (fun h => h (hna.2 ⟨⟨hs13, Classical.not_not.1 hs19⟩, fun _ => Classical.not_not.1 hs31⟩))).symm) | exact (decide_eq_false (p := ¬ bY l i q) (fun h => h (hna.2 ⟨⟨hs13, Classical.not_not.1 hs19⟩, fun h0 => absurd h0 hs23⟩))).symm)) rfl rfl rfl rfl), (K)⟩
    refine jG ?_
    refine jU ?_
    refine jU ?_
    refine jU ?_
    refine jU ?_
    refine jU ?_
    refine jU ?_
    refine jU ?_
    refine jk (Run.pickF rfl rfl au) ?_
    refine je (Run.pickF rfl rfl au) (jO ?_)
    refine jN ⟨(js5 (jC (by first | exact (decide_eq_true (p := ¬ bY l i q) (fun h => hs13 (hna.1 h).1.1)).symm | exact (decide_eq_true (p := ¬ bY l i q) (fun h => hs19 (hna.1 h).1.2)).symm | (rw [decide_eq_false hs31]; exact (decide_eq_true (p := ¬ bY l i q) (fun h => hs31 ((hna.1 h).2 hs23))).symm) | (rw [decide_eq_true (Classical.not_not.1 hs31)]; exact (decide_eq_false (p := ¬ bY l i q) (fun h => h (hna.2 ⟨⟨hs13, Classical.not_not.1 hs19⟩, fun _ => Classical.not_not.1 hs31⟩))).symm) | exact (decide_eq_false (p := ¬ bY l i q) (fun h => h (hna.2 ⟨⟨hs13, Classical.not_not.1 hs19⟩, fun h0 => absurd h0 hs23⟩))).symm)) rfl rfl rfl rfl), (K)⟩
   refine je (Run.not rfl) (jM ?_)
   refine jU ?_
   refine jU ?_
   refine jU ?_
   refine jU ?_
   refine je (Run.pickT rfl rfl au) (jM ?_)
   refine jU ?_
   refine jU ?_
   refine jU ?_
   refine Ops.skU rfl rfl ?_
   refine Ops.skU rfl rfl ?_
   refine Ops.skU rfl rfl ?_
   refine Ops.skU rfl rfl ?_
   refine Ops.skU rfl rfl ?_
   refine Ops.skU rfl rfl ?_
   refine Ops.skU rfl rfl ?_
   refine jU ?_
   refine je (Run.pickT rfl rfl au) (jO ?_)
   refine jN ⟨(js5 (jC (by first | exact (decide_eq_true (p := ¬ bY l i q) (fun h => hs13 (hna.1 h).1.1)).symm | exact (decide_eq_true (p := ¬ bY l i q) (fun h => hs19 (hna.1 h).1.2)).symm | (rw [decide_eq_false hs31]; exact (decide_eq_true (p := ¬ bY l i q) (fun h => hs31 ((hna.1 h).2 hs23))).symm) | (rw [decide_eq_true (Classical.not_not.1 hs31)]; exact (decide_eq_false (p := ¬ bY l i q) (fun h => h (hna.2 ⟨⟨hs13, Classical.not_not.1 hs19⟩, fun _ => Classical.not_not.1 hs31⟩))).symm) | exact (decide_eq_false (p := ¬ bY l i q) (fun h => h (hna.2 ⟨⟨hs13, Classical.not_not.1 hs19⟩, fun h0 => absurd h0 hs23⟩))).symm)) rfl rfl rfl rfl), (K)⟩
  intro Γ wz hΓ K
  refine jN (VC.sub _ hΓ ?_)
  refine jD rfl (fun hc2 => ?_) fun hc2 => ?_
  ·
   have hbad : ¬ cD l := fun h => by
    have := h.2 i hc1
    rw [hx] at this
    exact hc2 this
   refine jS (jR (ja rfl (jO (jN (jv1 2 ?_)))))
   refine jT ?_
   refine qP (qZ (qZ (qP (qZ (qF rfl ?_)))))
   exact ⟨by rw [decide_eq_false hbad], K⟩
  have hc2 := Classical.not_not.1 hc2
  refine jQ ?_
  refine qN (jN ?_)
  refine jv4 0 5 6 7 ?_
  refine jR (jb rfl rfl (Bin.add_i64 _ 1 jo) (jm rfl (jO ?_)))
  refine jN ⟨(i + 1), (js4 rfl rfl rfl rfl), ?_, ?_⟩
  ·
   refine ⟨hc1, fun j hj h => ?_, K⟩
   by_cases e : j = i
   · subst e; rw [hx]; exact hc2
   exact hd j hj jo
  first | omega | (dsimp only; omega)
 refine jX ?_
 refine qK (qK (qS ?_))
 refine jN (jv1 0 ?_)
 refine jS (jR (jm rfl (je (Run.lenS rfl zj) (jb rfl rfl (Bin.leqN _ 24) (ja rfl (jO (jN (jv1 2 ?_))))))))
 refine jT ?_
 refine qF rfl ?_
 exact ⟨by rw [decide_eq_decide.2 (show cD l ↔ l.length ≤ 24 from ⟨fun h => h.1, fun h => ⟨h, fun j hj => hd j hj jo⟩⟩)], K⟩
theorem gP (m : MlC) (w : World) (hm : RdL w m) :
  Calls Tryz.prog 55 #[m.val] w fun e w' => ∃ B d, e = .returned (.slice B m.l.length d) ∧ Own w' 9 1 B m.l.length d (SB (qD m.p)) ∧ (∀ b ∈ ob B, w.heap.size ≤ b) ∧ Frm [] w w' := by
 have hln := hm.ln
 refine VC.calls (nt := 20) (res := #[.tmp 2]) Tryz.func55 rfl Tryz.ntmps55 Tryz.results55 rfl ?_
 refine jS (jR ?_)
 refine Ops.m (qH.box rfl) rfl ?_
 rintro _ w1 ⟨rfl, hF1⟩
 have hb1 : Blk w1 w.heap.size 25 m.cells.toArray := hF1.blk
 have K := hF1.frm
 refine ja rfl (jO (jN (jv1 1 ?_)))
 refine jS (jR (ja rfl (jO (jN (jS (jS (jR (jf rfl zg rfl zab (jl rfl zan (hb1.cell 0) (je (Run.lenS rfl zf) ?_))))))))))
 refine jx .i64 0 ?_
 refine jO (jN (jv4 3 7 8 9 ?_))
 refine jB ?_
 refine VC.loop (σ := Nat × Option Addr × Nat) (fun s => [(3, .slice s.2.1 s.1 s.2.2), (7, .slice m.A m.l.length m.c), (8, .int .i64 ((m.l.length : Nat) : Int)), (9, .int .i64 ((s.1 : Nat) : Int))]) (fun s wr => s.1 ≤ m.l.length ∧ Own wr 9 1 s.2.1 s.1 s.2.2 (SB ((m.l.take s.1).map Nc.nm)) ∧ (∀ b ∈ ob s.2.1, w.heap.size ≤ b) ∧ Frm [] w wr) (fun s => m.l.length - s.1) (0, none, 0) (js4 rfl rfl rfl rfl) ⟨zah _, Own.nil _ _ _, by simp [ob], K⟩ ?_
 rintro ⟨i, B, d⟩ wr ⟨hi, ho, hob, K⟩
 dsimp only at *
 refine jS (jR (jb rfl rfl (Bin.lssN _ _) (jO (jN (jS ?_)))))
 refine jD rfl (fun hc1 => ?_) fun hc1 => ?_
 ·
  obtain ⟨ad, hA, hel⟩ := (hm.l.frm K).elem hc1
  rw [hA]
  have hts : (m.l.take (i + 1)).map Nc.nm = (m.l.take i).map Nc.nm ++ [(m.l[i]).nm] := by rw [zao, ze hc1, zbm]; rfl
  generalize hx : m.l[i] = x at *
  refine jQ (jN (jv4 3 7 8 9 ?_))
  refine jS (jB (jS (jR (je (Run.indexS i rfl rfl zf zn hc1) (je (Run.loadA rfl zdy zn hel (by first | rfl | (simp; done))) ?_)))))
  refine Ops.m (qH.alloc cE) rfl ?_
  rintro _ w2 ⟨rfl, hF2⟩
  refine Ops.st (qW.storeA rfl rfl zn hF2.blk rfl x.cells_one) ?_
  rintro w3 ⟨hb3, hf3, hs3⟩
  have hb3 : Blk w3 wr.heap.size 45 x.cells.toArray := hb3
  have K3 : Frm [] wr w3 := hF2.frm.trans hf3 jp
  refine jO (jN (jv5 3 5 7 8 9 ?_))
  refine jR (jm rfl (jf rfl zae rfl zx (jl rfl zac (hb3.cell 0) ?_)))
  refine Ops.m (qH.buildS1 rfl zj zx mX jd jd rfl rfl) rfl ?_
  rintro _ w4 ⟨rfl, hF4⟩
  have hr4 : Rd w4 1 (some ⟨w3.heap.size, 0, none⟩) 1 (SB [x.nm]) := Rd.of_blk (n := 1) (size := 1) hF4.blk rfl
  have K4 := K3.trans hF4.frm jp
  have ho4 := ho.frm K4 jp
  refine Ops.m (qH.app rfl rfl zj (nU) rfl jd ho4 hr4 (hZ _) jo jo) rfl ?_
  rintro _ w5 ⟨B5, d5, rfl, ho5, hf5, hob5⟩
  rw [← eT, ← hts] at ho5
  have hks := (K.trans K4 jp).size
  have K5 := (K.trans K4 jp).own hf5 hob
  have hob6 : ∀ b ∈ ob B5, w.heap.size ≤ b := fun b hb => by
   rcases hob5 with h | h
   · rw [h] at hb; exact hob b hb
   rw [h, za] at hb; omega
  refine ja rfl (jO ?_)
  refine qN (jN ?_)
  refine jv4 3 7 8 9 ?_
  refine jR (jb rfl rfl (Bin.add_i64 _ 1 jo) (jm rfl (jO ?_)))
  refine jN ⟨(i + 1, B5, d5), (js4 rfl rfl rfl rfl), ?_, ?_⟩
  · exact ⟨hc1, ho5, hob6, K5⟩
  first | omega | (dsimp only; omega)
 refine jX ?_
 refine qK (qK (qS ?_))
 refine jN (jv1 3 ?_)
 refine jS (jR (jm rfl (ja rfl (jO (jN (jv1 2 ?_))))))
 refine jT ?_
 refine qF rfl ?_
 obtain rfl : i = m.l.length := jo
 rw [zaw] at ho
 refine ⟨B, d, rfl, ?_, hob, K⟩
 have e : qD m.p = m.l.map Nc.nm := by simp [qD, MlC.p, Ns, Nc.p]
 rw [e]
 exact ho
end
end Go.Proofs.YtgmbmfpfhcekiaaGreat
