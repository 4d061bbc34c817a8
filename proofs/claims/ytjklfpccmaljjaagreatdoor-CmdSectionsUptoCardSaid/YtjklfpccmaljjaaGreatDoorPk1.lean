/-
  Lemmas on the way, joined: CmdK, Shelf, SeqP, ParV, Sec0, SecV, SecU, SecR, SeqC, SecN, CmdD, SeqN, SeqK, CmdE, CmdF, CmdH, CmdI, Eng27, CmdJ, CmdL, CmdM.
-/
import Derived.Shelf.Strings.Builder1
import Derived.Shelf.Strings.Builder2
import Derived.Shelf.Strings.OnBuilder
import Derived.Shelf.Strings.Trim
import Derived.Shelf.Small.Utf8
import Derived.Shelf.Small.Strs
import Derived.Shelf.Small.Wraps
import Derived.Shelf.Strings.BuilderF
import Derived.Shelf.Strings.BuilderK
import Derived.Shelf.Strconv.Atoi
import Derived.Shelf.Strconv.Itoa0
import Derived.Shelf.Strconv.Itoa1
import Derived.Shelf.LaysM
import Derived.Shelf.Strconv.Itoa2
import Derived.Shelf.Strconv.Itoa3
import Derived.Shelf.Strconv.AtoiErrFast
import Derived.Shelf.Strconv.ParseIntEmpty
import Derived.Shelf.Strconv.AtoiFail
import Derived.Shelf.Strconv.Clone
import Derived.Shelf.Strconv.SyntaxError
import Derived.Shelf.LaysC
import Derived.Shelf.Strconv.ToError
import Derived.Shelf.Strconv.AtoiErr
import Derived.Shelf.Strconv.ErrVar
import Derived.Shelf.Strconv.Lower
import Derived.Shelf.Strconv.ParseUint10
import Derived.Shelf.Strconv.ParseUint10Empty
import Derived.Shelf.Strconv.ParseUint10Any
import Derived.Shelf.Strconv.ParseInt10
import Derived.Shelf.Strconv.AtoiLong
import Derived.Shelf.Strconv.AtoiInnerAll
import Derived.Shelf.Strconv.RangeError
import Derived.Shelf.Strconv.ToErrorRange
import Derived.Shelf.Strconv.AtoiAll
import Derived.Shelf.Strconv.ErrVarAll
import Derived.Shelf.Strings.Search1
import Derived.Shelf.Strings.Search2
import Derived.Shelf.Strings.Search3
import Derived.Shelf.Strings.Cut
import Derived.Shelf.Strings.Count
import Derived.Shelf.Strings.Shaped
import Derived.Shelf.GgClosure.StringsIndexFunc
import Derived.Ground.GgwProg
import Derived.Shelf.GgClosure.StringsIndexFuncTop
import Derived.Shelf.GgClosure.StringsRunes
import Derived.Shelf.Strings.Prefix
import Derived.Shelf.Strings.Split
import Derived.Shelf.Strings.SplitShaped
import Derived.Shelf.Strings.Runes
import Derived.Shelf.Strings.AsciiSet
import Derived.Shelf.Unicode.DecodeSlow
import Derived.Shelf.Unicode.DecodeAny
import Derived.Shelf.Unicode.DecodeLast
import Derived.Shelf.Strings.FuncGrows
import Derived.Test.YtjklfpccmaljjaaGreatDoorProg
import Derived.Lib.Bytealg
import Derived.Lib.SlicesCompact
import Derived.Lib.AtoiBound
import Derived.Lib.ItoaLen
import Derived.Test.YtjklfpccmaljjaaGreatDoorPk0
set_option maxRecDepth 100000
set_option linter.unusedVariables false
set_option linter.unusedSimpArgs false
set_option maxHeartbeats 8000000
namespace Go.Proofs.YtjklfpccmaljjaaGreatDoor
section
open Go.RowKit
theorem bM : ∀ a b : Tx, encStr a = encStr b → a = b := fun a b h => by
 injection h with h
 have := congrArg (fun s => s.data.toList) h
 simpa using this
theorem bP (s : Tx) (h : s.length ≤ 9223372036854775807) : keyOf Tryz.prog 9 (encStr s) = some (.string s) := by
 have h1 : (⟨s.toArray⟩ : ByteArray).size ≤ maxLen := by
  show s.toArray.size ≤ maxLen
  simpa [maxLen] using h
 simp [keyOf, mapKey, za, encStr, h1]
theorem mK (L : List Tx) {i : Nat} (h : i < L.length) : (SB L).toArray[i]? = some (encStr (L.getD i [])) := by
 simp [SB, zo, zb h]
theorem jI {α : Type} {L : List Tx} {i : Nat} (hi : i < L.length) (v M : α) (y : Tx) : (if y = L.getD i [] then v else if y ∈ L.take i then v else M) = if y ∈ L.take (i + 1) then v else M := by
 have e : L.take (i + 1) = L.take i ++ [L.getD i []] := by rw [zba, zb hi, zo, zb hi]; rfl
 rw [e]
 by_cases h1 : y = L.getD i []
 · rw [if_pos h1, if_pos (by rw [h1]; simp)]
 rw [if_neg h1]
 by_cases h2 : y ∈ L.take i
 · rw [if_pos h2, if_pos (by simp [h2])]
 rw [if_neg h2, if_neg (by simp only [List.mem_append, ze]; exact fun h => h.elim h2 h1)]
def cP : List Tx := [[67, 65, 80, 65, 66, 73, 76, 73, 84, 89], [78, 79, 79, 80], [76, 79, 71, 79, 85, 84], [67, 72, 69, 67, 75], [67, 76, 79, 83, 69], [69, 88, 80, 85, 78, 71, 69]]
def eY : List Tx := [[83, 69, 76, 69, 67, 84], [69, 88, 65, 77, 73, 78, 69], [67, 82, 69, 65, 84, 69], [68, 69, 76, 69, 84, 69], [83, 85, 66, 83, 67, 82, 73, 66, 69], [85, 78, 83, 85, 66, 83, 67, 82, 73, 66, 69]]
def eG : List Tx := [[76, 79, 71, 73, 78], [82, 69, 78, 65, 77, 69], [76, 73, 83, 84], [76, 83, 85, 66]]
theorem sE : ∀ x ∈ cP ++ eY ++ eG, x.length ≤ 9223372036854775807 := jd
theorem kO {x : Tx} (h : x ∈ cP ∨ x ∈ eY ∨ x ∈ eG) : x.length ≤ 9223372036854775807 := sE x (by simp only [List.mem_append]; rcases h with h | h | h <;> simp [h])
def oU (y : Tx) : Option Value := if y = [85, 73, 68] then some (.func (.func 38) #[] #[]) else if y = [67, 79, 80, 89] then some (.func (.func 37) #[] #[]) else if y = [83, 84, 79, 82, 69] then some (.func (.func 36) #[] #[]) else if y = [70, 69, 84, 67, 72] then some (.func (.func 35) #[] #[]) else if y = [83, 69, 65, 82, 67, 72] then some (.func (.func 34) #[] #[]) else if y = [65, 80, 80, 69, 78, 68] then some (.func (.func 33) #[] #[]) else if y = [83, 84, 65, 84, 85, 83] then some (.func (.func 32) #[] #[]) else none
def oB (y : Tx) : Option Value := if y ∈ cP then some (.func (.func 39) #[] #[]) else oU y
def oC (y : Tx) : Option Value := if y ∈ eY then some (.func (.func 40) #[] #[]) else oB y
def eS (y : Tx) : Option Value := if y ∈ eG then some (.func (.func 41) #[] #[]) else oC y
theorem nV (w : World) : Calls Tryz.prog 19 #[] w fun e w' => Frm [] w w' ∧ ∃ m, e = .returned (.map (some m)) ∧ w.heap.size ≤ m ∧ MpF Tryz.prog 9 encStr w' m eS := by
 refine jV Tryz.func19 Tryz.ntmps19 Tryz.results19 ?_
 refine jS (jR (ja rfl (jO (jN ?_))))
 refine VC.sub [] .nil ?_
 refine jS (jR ?_)
 refine Ops.m (qV.makeMap (k := 9) (enc := encStr)) rfl ?_
 rintro _ w0 ⟨rfl, hm0, hf0, hs0⟩
 obtain ⟨m, hmm⟩ : ∃ m, m = w.heap.size := ⟨_, rfl⟩
 rw [← hmm] at hm0 ⊢
 refine Ops.st (qZ.mapIns (x := [83, 84, 65, 84, 85, 83]) rfl rfl rfl hm0 (Go.Maps.string_keyed za) bM zu (bP _ jd)) ?_
 rintro w1 ⟨hm1, hf1, hs1⟩
 refine Ops.st (qZ.mapIns (x := [65, 80, 80, 69, 78, 68]) rfl rfl rfl hm1 (Go.Maps.string_keyed za) bM zu (bP _ jd)) ?_
 rintro w2 ⟨hm2, hf2, hs2⟩
 refine Ops.st (qZ.mapIns (x := [83, 69, 65, 82, 67, 72]) rfl rfl rfl hm2 (Go.Maps.string_keyed za) bM zu (bP _ jd)) ?_
 rintro w3 ⟨hm3, hf3, hs3⟩
 refine Ops.st (qZ.mapIns (x := [70, 69, 84, 67, 72]) rfl rfl rfl hm3 (Go.Maps.string_keyed za) bM zu (bP _ jd)) ?_
 rintro w4 ⟨hm4, hf4, hs4⟩
 refine Ops.st (qZ.mapIns (x := [83, 84, 79, 82, 69]) rfl rfl rfl hm4 (Go.Maps.string_keyed za) bM zu (bP _ jd)) ?_
 rintro w5 ⟨hm5, hf5, hs5⟩
 refine Ops.st (qZ.mapIns (x := [67, 79, 80, 89]) rfl rfl rfl hm5 (Go.Maps.string_keyed za) bM zu (bP _ jd)) ?_
 rintro w6 ⟨hm6, hf6, hs6⟩
 refine Ops.st (qZ.mapIns (x := [85, 73, 68]) rfl rfl rfl hm6 (Go.Maps.string_keyed za) bM zu (bP _ jd)) ?_
 rintro w7 ⟨hm7, hf7, hs7⟩
 refine jM ?_
 have hmk : MpF Tryz.prog 9 encStr w7 m oU := hm7
 have Kk : Frm [] w w7 := ((((((hf0.own hf1 (by simp; omega)).own hf2 (by simp; omega)).own hf3 (by simp; omega)).own hf4 (by simp; omega)).own hf5 (by simp; omega)).own hf6 (by simp; omega)).own hf7 (by simp; omega)
 refine ja rfl (jO (jN (jv1 1 ?_)))
 refine jS (jS (jR (je (Run.buildA (evs.cons rfl (evs.cons rfl (evs.cons rfl (evs.cons rfl (evs.cons rfl (evs.cons rfl evs.nil)))))) pE zdn zd (cells := (SB cP).toArray) jK) ?_)))
 refine jx .i64 0 ?_
 refine jO (jN (jB ?_))
 refine VC.loop (σ := Nat) (fun s => [(1, .map (some m)), (10, .agg (SB cP).toArray), (11, jI1 s)]) (fun s wr => s ≤ 6 ∧ Frm [m] w7 wr ∧ MpF Tryz.prog 9 encStr wr m (fun y => if y ∈ cP.take s then some (.func (.func 39) #[] #[]) else oU y)) (fun s => 6 - s) 0 (js3 rfl rfl rfl) ⟨zau _, Frm.refl _ _, hmk.upd_congr fun y => jp⟩ ?_
 rintro i wr1 ⟨hi, K1, hmr⟩
 refine jS (jR (jb rfl rfl (Bin.lssN _ 6) (jO (jN (jS ?_)))))
 refine jD rfl (fun hc1 => ?_) fun hc1 => ?_
 ·
  refine jQ (jN (jv3 1 10 11 ?_))
  refine jS (jB (jS (jR (je (Run.indexArr1 _ rfl rfl zdn zh zd rfl (mK cP hc1)) (ja rfl (jO (jN (jv4 1 3 10 11 ?_))))))))
  refine jR (jm rfl (jM ?_))
  refine Ops.st (qZ.mapUpd (x := cP.getD i []) rfl rfl rfl hmr (Go.Maps.string_keyed za) bM zu (bP _ (kO (by simp [zo, zb (show i < cP.length from hc1)])))) ?_
  rintro w9 ⟨hm9, hf9, hs9⟩
  refine jO ?_
  refine qW (jN ?_)
  refine jv3 1 10 11 ?_
  refine jR (jb rfl rfl (Bin.add_i64 _ 1 jo) (jm rfl (jO ?_)))
  refine jN ⟨i + 1, (js3 rfl rfl rfl), ?_, ?_⟩
  · exact ⟨hc1, K1.trans hf9 (fun x hx => .inl hx), hm9.upd_congr fun y => jI (show i < cP.length from hc1) _ _ y⟩
  exact jq
 have hmk1 : MpF Tryz.prog 9 encStr wr1 m oB := hmr.upd_congr fun y => by rw [zr (show cP.length ≤ i by simp [cP]; omega)]; rfl
 refine jX ?_
 refine qK (qK (qS ?_))
 refine jN (jv1 1 ?_)
 refine jS (jS (jR (je (Run.buildA (evs.cons rfl (evs.cons rfl (evs.cons rfl (evs.cons rfl (evs.cons rfl (evs.cons rfl evs.nil)))))) pE zdn zd (cells := (SB eY).toArray) jK) ?_)))
 refine jx .i64 0 ?_
 refine jO (jN (jB ?_))
 refine VC.loop (σ := Nat) (fun s => [(1, .map (some m)), (17, .agg (SB eY).toArray), (18, jI1 s)]) (fun s wr => s ≤ 6 ∧ Frm [m] wr1 wr ∧ MpF Tryz.prog 9 encStr wr m (fun y => if y ∈ eY.take s then some (.func (.func 40) #[] #[]) else oB y)) (fun s => 6 - s) 0 (js3 rfl rfl rfl) ⟨zau _, Frm.refl _ _, hmk1.upd_congr fun y => jp⟩ ?_
 rintro i wr2 ⟨hi, K2, hmr⟩
 refine jS (jR (jb rfl rfl (Bin.lssN _ 6) (jO (jN (jS ?_)))))
 refine jD rfl (fun hc2 => ?_) fun hc2 => ?_
 ·
  refine jQ (jN (jv3 1 17 18 ?_))
  refine jS (jB (jS (jR (je (Run.indexArr1 _ rfl rfl zdn zh zd rfl (mK eY hc2)) (ja rfl (jO (jN (jv4 1 5 17 18 ?_))))))))
  refine jR (jm rfl (jM ?_))
  refine Ops.st (qZ.mapUpd (x := eY.getD i []) rfl rfl rfl hmr (Go.Maps.string_keyed za) bM zu (bP _ (kO (by simp [zo, zb (show i < eY.length from hc2)])))) ?_
  rintro w9 ⟨hm9, hf9, hs9⟩
  refine jO ?_
  refine qW (jN ?_)
  refine jv3 1 17 18 ?_
  refine jR (jb rfl rfl (Bin.add_i64 _ 1 jo) (jm rfl (jO ?_)))
  refine jN ⟨i + 1, (js3 rfl rfl rfl), ?_, ?_⟩
  · exact ⟨hc2, K2.trans hf9 (fun x hx => .inl hx), hm9.upd_congr fun y => jI (show i < eY.length from hc2) _ _ y⟩
  exact jq
 have hmk2 : MpF Tryz.prog 9 encStr wr2 m oC := hmr.upd_congr fun y => by rw [zr (show eY.length ≤ i by simp [eY]; omega)]; rfl
 refine jX ?_
 refine qK (qK (qS ?_))
 refine jN (jv1 1 ?_)
 refine jS (jS (jR (je (Run.buildA (evs.cons rfl (evs.cons rfl (evs.cons rfl (evs.cons rfl evs.nil)))) uO Tryz.underlying87 zd (cells := (SB eG).toArray) jK) ?_)))
 refine jx .i64 0 ?_
 refine jO (jN (jB ?_))
 refine VC.loop (σ := Nat) (fun s => [(1, .map (some m)), (24, .agg (SB eG).toArray), (25, jI1 s)]) (fun s wr => s ≤ 4 ∧ Frm [m] wr2 wr ∧ MpF Tryz.prog 9 encStr wr m (fun y => if y ∈ eG.take s then some (.func (.func 41) #[] #[]) else oC y)) (fun s => 4 - s) 0 (js3 rfl rfl rfl) ⟨zau _, Frm.refl _ _, hmk2.upd_congr fun y => jp⟩ ?_
 rintro i wr3 ⟨hi, K3, hmr⟩
 refine jS (jR (jb rfl rfl (Bin.lssN _ 4) (jO (jN (jS ?_)))))
 refine jD rfl (fun hc3 => ?_) fun hc3 => ?_
 ·
  refine jQ (jN (jv3 1 24 25 ?_))
  refine jS (jB (jS (jR (je (Run.indexArr1 _ rfl rfl Tryz.underlying87 zh zd rfl (mK eG hc3)) (ja rfl (jO (jN (jv4 1 7 24 25 ?_))))))))
  refine jR (jm rfl (jM ?_))
  refine Ops.st (qZ.mapUpd (x := eG.getD i []) rfl rfl rfl hmr (Go.Maps.string_keyed za) bM zu (bP _ (kO (by simp [zo, zb (show i < eG.length from hc3)])))) ?_
  rintro w9 ⟨hm9, hf9, hs9⟩
  refine jO ?_
  refine qW (jN ?_)
  refine jv3 1 24 25 ?_
  refine jR (jb rfl rfl (Bin.add_i64 _ 1 jo) (jm rfl (jO ?_)))
  refine jN ⟨i + 1, (js3 rfl rfl rfl), ?_, ?_⟩
  · exact ⟨hc3, K3.trans hf9 (fun x hx => .inl hx), hm9.upd_congr fun y => jI (show i < eG.length from hc3) _ _ y⟩
  exact jq
 have hmk3 : MpF Tryz.prog 9 encStr wr3 m eS := hmr.upd_congr fun y => by rw [zr (show eG.length ≤ i by simp [eG]; omega)]; rfl
 refine jX ?_
 refine qK (qK (qS ?_))
 refine jN (jv1 1 ?_)
 refine jS (jR (jm rfl (ja rfl (jO (jN (jv1 0 ?_))))))
 refine jT ?_
 refine qP rfl ?_
 exact ⟨((Kk.own K1 (by simp; omega)).own K2 (by simp; omega)).own K3 (by simp; omega), m, rfl, jo, hmk3⟩
end
section
open Go.Shelf
def Tryz.lays156_ren : Go.Shelf.Ren := ⟨fun | 156 => 28 | 165 => 57 | 166 => 58 | 169 => 59 | 240 => 88 | 241 => 89 | 276 => 126 | 277 => 127 | n => n, fun | 31 => 25 | 9 => 9 | 3 => 3 | 4 => 4 | 0 => 0 | 20 => 20 | 72 => 103 | 76 => 107 | 70 => 101 | 37 => 44 | 75 => 106 | 127 => 132 | 164 => 169 | 5 => 5 | 80 => 65 | n => n, fun | n => n⟩
theorem Tryz.lays156 : Go.Proofs.Lays.n156 Tryz.prog Tryz.lays156_ren := {
 mixed := by kernel_rfl
 f156 := Tryz.func28.trans (congrArg some (by kernel_rfl))
 f165 := Tryz.func57.trans (congrArg some (by kernel_rfl))
 f166 := Tryz.func58.trans (congrArg some (by kernel_rfl))
 f169 := Tryz.func59.trans (congrArg some (by kernel_rfl))
 f240 := Tryz.func88.trans (congrArg some (by kernel_rfl))
 f241 := Tryz.func89.trans (congrArg some (by kernel_rfl))
 f276 := Tryz.func126.trans (congrArg some (by kernel_rfl))
 f277 := Tryz.func127.trans (congrArg some (by kernel_rfl))
 t0 := zcd
 a0 := Tryz.isAgg0
 z0 := zcy
 v0 := Tryz.zeroValue0
 t3 := zt
 a3 := zl
 z3 := zc
 v3 := Tryz.zeroValue3
 t4 := zaa
 a4 := zal
 z4 := zm
 v4 := Tryz.zeroValue4
 t9 := za
 a9 := zh
 z9 := zd
 v9 := Tryz.zeroValue9
 t20 := zbm
 a20 := Tryz.isAgg20
 z20 := Tryz.sizeOf20
 v20 := Tryz.zeroValue20
 t31 := zk
 a31 := zan
 z31 := zv
 v31 := Tryz.zeroValue25
 t37 := zy
 a37 := Tryz.isAgg44
 z37 := Tryz.sizeOf44
 v37 := Tryz.zeroValue44
 t70 := Tryz.underlying101
 a70 := Tryz.isAgg101
 z70 := Tryz.sizeOf101
 v70 := Tryz.zeroValue101
 t72 := Tryz.underlying103
 a72 := Tryz.isAgg103
 z72 := Tryz.sizeOf103
 v72 := Tryz.zeroValue103
 t75 := zdc
 a75 := Tryz.isAgg106
 z75 := Tryz.sizeOf106
 v75 := Tryz.zeroValue106
 t76 := Tryz.underlying107
 a76 := Tryz.isAgg107
 z76 := Tryz.sizeOf107
 v76 := Tryz.zeroValue107
 t127 := Tryz.underlying132
 a127 := Tryz.isAgg132
 z127 := Tryz.sizeOf132
 v127 := Tryz.zeroValue132
 t164 := Tryz.underlying169
 a164 := Tryz.isAgg169
 z164 := Tryz.sizeOf169
 v164 := Tryz.zeroValue169 }
theorem Tryz.Builder_Extra_156 : Builder.Extra Tryz.prog Tryz.lays156_ren := {
 sizeBuilder := by kernel_rfl
 liesBuilder := by kernel_rfl
 t5 := zag
 a5 := zbk
 z5 := zam
 v5 := Tryz.zeroValue5
 infoByte := by kernel_rfl
 cellsByte := by kernel_rfl
 sizeByte := by kernel_rfl
 neB5 := by decide }
open Go.RowKit in
theorem Tryz.strings_Join_none (a : Option Addr) (c : Nat) (sep : ByteArray) (w : World) :
  Calls Tryz.prog 28 #[.slice a 0 c, .string sep] w fun e w' => e = .returned (.string ⟨#[]⟩) ∧ w' = w := Any.strings_Join_none Tryz.lays156 Tryz.Builder_Extra_156 a c sep w
open Go.RowKit in
theorem Tryz.strings_Join (bk o c : Nat) (xs : List ByteArray) (sep : ByteArray) (w : World) (hcells : ∀ (j : Nat) x, xs[j]? = some x → w.cell? ⟨bk, o + j, none⟩ = some (.string x)) (hbk : bk < w.heap.size) (hN : xs.length ≤ 140737488355328) (hcap : xs.length ≤ c) (hlen : (Lib.join (xs.map (·.data.toList)) sep.data.toList).length ≤ 140737488355328) :
  Calls Tryz.prog 28 #[.slice (some ⟨bk, o, none⟩) xs.length c, .string sep] w fun e w' => e = .returned (.string ⟨(Lib.join (xs.map (·.data.toList)) sep.data.toList).toArray⟩) ∧ Below w.heap.size w w' := Any.strings_Join Tryz.lays156 Tryz.Builder_Extra_156 bk o c xs sep w hcells hbk hN hcap hlen
def Tryz.lays137_ren : Go.Shelf.Ren := ⟨fun | 137 => 86 | 217 => 121 | 266 => 159 | n => n, fun | 9 => 9 | 5 => 5 | 3 => 3 | n => n, fun | n => n⟩
theorem Tryz.lays137 : Go.Proofs.Lays.n137 Tryz.prog Tryz.lays137_ren := {
 mixed := by kernel_rfl
 f137 := Tryz.func86.trans (congrArg some (by kernel_rfl))
 f217 := Tryz.func121.trans (congrArg some (by kernel_rfl))
 f266 := Tryz.func159.trans (congrArg some (by kernel_rfl))
 t3 := zt
 a3 := zl
 z3 := zc
 v3 := Tryz.zeroValue3
 t5 := zag
 a5 := zbk
 z5 := zam
 v5 := Tryz.zeroValue5
 t9 := za
 a9 := zh
 z9 := zd
 v9 := Tryz.zeroValue9 }
open Go.RowKit in
theorem Tryz.strings_IndexByte (s : ByteArray) (c : Int) (w : World) :
  Calls Tryz.prog 86 #[.string s, .int .u8 c] w fun e w' => e = .returned (.int .i64 (Lib.indexByte s.data.toList c.toNat.toUInt8)) ∧ w' = w := Any.strings_IndexByte Tryz.lays137 s c w
def Tryz.lays103_ren : Go.Shelf.Ren := ⟨fun | 103 => 147 | 210 => 181 | 206 => 178 | n => n, fun | 9 => 9 | 4 => 4 | 24 => 119 | 3 => 3 | n => n, fun | n => n⟩
theorem Tryz.lays103 : Go.Proofs.Lays.n103 Tryz.prog Tryz.lays103_ren := {
 mixed := by kernel_rfl
 f103 := Tryz.func147.trans (congrArg some (by kernel_rfl))
 f206 := Tryz.func178.trans (congrArg some (by kernel_rfl))
 f210 := Tryz.func181.trans (congrArg some (by kernel_rfl))
 t3 := zt
 a3 := zl
 z3 := zc
 v3 := Tryz.zeroValue3
 t4 := zaa
 a4 := zal
 z4 := zm
 v4 := Tryz.zeroValue4
 t9 := za
 a9 := zh
 z9 := zd
 v9 := Tryz.zeroValue9
 t24 := Tryz.underlying119
 a24 := Tryz.isAgg119
 z24 := Tryz.sizeOf119
 v24 := Tryz.zeroValue119 }
open Go.RowKit in
theorem Tryz.strings_CutPrefix (s p : ByteArray) (w : World) :
  Calls Tryz.prog 147 #[.string s, .string p] w fun e w' => e = .returned (.tuple #[.string ⟨(Lib.trimPrefix s.data.toList p.data.toList).toArray⟩, .bool (Lib.hasPrefix s.data.toList p.data.toList)]) ∧ w' = w := Any.strings_CutPrefix Tryz.lays103 s p w
def Tryz.lays104_ren : Go.Shelf.Ren := ⟨fun | 104 => 74 | 211 => 107 | 207 => 150 | n => n, fun | 9 => 9 | 4 => 4 | 24 => 119 | 3 => 3 | n => n, fun | n => n⟩
theorem Tryz.lays104 : Go.Proofs.Lays.n104 Tryz.prog Tryz.lays104_ren := {
 mixed := by kernel_rfl
 f104 := Tryz.func74.trans (congrArg some (by kernel_rfl))
 f207 := Tryz.func150.trans (congrArg some (by kernel_rfl))
 f211 := Tryz.func107.trans (congrArg some (by kernel_rfl))
 t3 := zt
 a3 := zl
 z3 := zc
 v3 := Tryz.zeroValue3
 t4 := zaa
 a4 := zal
 z4 := zm
 v4 := Tryz.zeroValue4
 t9 := za
 a9 := zh
 z9 := zd
 v9 := Tryz.zeroValue9
 t24 := Tryz.underlying119
 a24 := Tryz.isAgg119
 z24 := Tryz.sizeOf119
 v24 := Tryz.zeroValue119 }
open Go.RowKit in
theorem Tryz.strings_CutSuffix (s p : ByteArray) (w : World) (hs : s.size ≤ 9223372036854775807) :
  Calls Tryz.prog 74 #[.string s, .string p] w fun e w' => e = .returned (.tuple #[.string ⟨(Lib.trimSuffix s.data.toList p.data.toList).toArray⟩, .bool (Lib.hasSuffix s.data.toList p.data.toList)]) ∧ w' = w := Any.strings_CutSuffix Tryz.lays104 s p w hs
def Tryz.lays172_ren : Go.Shelf.Ren := ⟨fun | 172 => 136 | 244 => 174 | 245 => 175 | 247 => 193 | 279 => 194 | 280 => 195 | 281 => 196 | 282 => 197 | 287 => 206 | 316 => 207 | 171 => 27 | 205 => 208 | 321 => 213 | 322 => 214 | 243 => 56 | 246 => 87 | 283 => 122 | 284 => 123 | 285 => 124 | 286 => 125 | 129 => 161 | 317 => 160 | 318 => 162 | 319 => 163 | 320 => 164 | 337 => 184 | 338 => 185 | n => n, fun | 9 => 9 | 3 => 3 | 75 => 106 | 76 => 107 | 4 => 4 | 5 => 5 | 167 => 218 | 37 => 44 | 0 => 0 | 85 => 219 | 2 => 2 | 168 => 221 | 53 => 164 | 175 => 228 | 46 => 197 | 210 => 231 | 127 => 132 | 145 => 239 | 143 => 237 | 21 => 21 | 171 => 163 | 173 => 167 | 212 => 194 | 51 => 195 | 20 => 20 | 213 => 196 | 232 => 225 | 233 => 226 | 80 => 65 | n => n, fun | 15 => 4 | 16 => 5 | 17 => 0 | 18 => 2 | 19 => 3 | n => n⟩
theorem Tryz.lays172 : Go.Proofs.Lays.n172 Tryz.prog Tryz.lays172_ren := {
 mixed := by kernel_rfl
 f129 := Tryz.func161.trans (congrArg some (by kernel_rfl))
 f171 := Tryz.func27.trans (congrArg some (by kernel_rfl))
 f172 := Tryz.func136.trans (congrArg some (by kernel_rfl))
 f205 := Tryz.func208.trans (congrArg some (by kernel_rfl))
 f243 := Tryz.func56.trans (congrArg some (by kernel_rfl))
 f244 := Tryz.func174.trans (congrArg some (by kernel_rfl))
 f245 := Tryz.func175.trans (congrArg some (by kernel_rfl))
 f246 := Tryz.func87.trans (congrArg some (by kernel_rfl))
 f247 := Tryz.func193.trans (congrArg some (by kernel_rfl))
 f279 := Tryz.func194.trans (congrArg some (by kernel_rfl))
 f280 := Tryz.func195.trans (congrArg some (by kernel_rfl))
 f281 := Tryz.func196.trans (congrArg some (by kernel_rfl))
 f282 := Tryz.func197.trans (congrArg some (by kernel_rfl))
 f283 := Tryz.func122.trans (congrArg some (by kernel_rfl))
 f284 := Tryz.func123.trans (congrArg some (by kernel_rfl))
 f285 := Tryz.func124.trans (congrArg some (by kernel_rfl))
 f286 := Tryz.func125.trans (congrArg some (by kernel_rfl))
 f287 := Tryz.func206.trans (congrArg some (by kernel_rfl))
 f316 := Tryz.func207.trans (congrArg some (by kernel_rfl))
 f317 := Tryz.func160.trans (congrArg some (by kernel_rfl))
 f318 := Tryz.func162.trans (congrArg some (by kernel_rfl))
 f319 := Tryz.func163.trans (congrArg some (by kernel_rfl))
 f320 := Tryz.func164.trans (congrArg some (by kernel_rfl))
 f321 := Tryz.func213.trans (congrArg some (by kernel_rfl))
 f322 := Tryz.func214.trans (congrArg some (by kernel_rfl))
 f337 := Tryz.func184.trans (congrArg some (by kernel_rfl))
 f338 := Tryz.func185.trans (congrArg some (by kernel_rfl))
 t0 := zcd
 a0 := Tryz.isAgg0
 z0 := zcy
 v0 := Tryz.zeroValue0
 t2 := Tryz.underlying2
 a2 := Tryz.isAgg2
 z2 := Tryz.sizeOf2
 v2 := Tryz.zeroValue2
 t3 := zt
 a3 := zl
 z3 := zc
 v3 := Tryz.zeroValue3
 t4 := zaa
 a4 := zal
 z4 := zm
 v4 := Tryz.zeroValue4
 t5 := zag
 a5 := zbk
 z5 := zam
 v5 := Tryz.zeroValue5
 t9 := za
 a9 := zh
 z9 := zd
 v9 := Tryz.zeroValue9
 t20 := zbm
 a20 := Tryz.isAgg20
 z20 := Tryz.sizeOf20
 v20 := Tryz.zeroValue20
 t21 := Tryz.underlying21
 a21 := Tryz.isAgg21
 z21 := Tryz.sizeOf21
 v21 := Tryz.zeroValue21
 t37 := zy
 a37 := Tryz.isAgg44
 z37 := Tryz.sizeOf44
 v37 := Tryz.zeroValue44
 t46 := zbf
 a46 := zcf
 z46 := zbz
 v46 := Tryz.zeroValue197
 t51 := zbg
 a51 := zcg
 z51 := zca
 v51 := Tryz.zeroValue195
 t53 := zdd
 a53 := Tryz.isAgg164
 z53 := Tryz.sizeOf164
 v53 := Tryz.zeroValue164
 t75 := zdc
 a75 := Tryz.isAgg106
 z75 := Tryz.sizeOf106
 v75 := Tryz.zeroValue106
 t76 := Tryz.underlying107
 a76 := Tryz.isAgg107
 z76 := Tryz.sizeOf107
 v76 := Tryz.zeroValue107
 t85 := Tryz.underlying219
 a85 := Tryz.isAgg219
 z85 := Tryz.sizeOf219
 v85 := Tryz.zeroValue219
 t127 := Tryz.underlying132
 a127 := Tryz.isAgg132
 z127 := Tryz.sizeOf132
 v127 := Tryz.zeroValue132
 t143 := Tryz.underlying237
 a143 := Tryz.isAgg237
 z143 := Tryz.sizeOf237
 v143 := Tryz.zeroValue237
 t145 := Tryz.underlying239
 a145 := Tryz.isAgg239
 z145 := Tryz.sizeOf239
 v145 := Tryz.zeroValue239
 t167 := Tryz.underlying218
 a167 := Tryz.isAgg218
 z167 := Tryz.sizeOf218
 v167 := Tryz.zeroValue218
 t168 := Tryz.underlying221
 a168 := Tryz.isAgg221
 z168 := Tryz.sizeOf221
 v168 := Tryz.zeroValue221
 t171 := zde
 a171 := Tryz.isAgg163
 z171 := Tryz.sizeOf163
 v171 := Tryz.zeroValue163
 t173 := zdf
 a173 := Tryz.isAgg167
 z173 := Tryz.sizeOf167
 v173 := Tryz.zeroValue167
 t175 := Tryz.underlying228
 a175 := Tryz.isAgg228
 z175 := Tryz.sizeOf228
 v175 := Tryz.zeroValue228
 t210 := Tryz.underlying231
 a210 := Tryz.isAgg231
 z210 := Tryz.sizeOf231
 v210 := Tryz.zeroValue231
 t212 := zdg
 a212 := Tryz.isAgg194
 z212 := Tryz.sizeOf194
 v212 := Tryz.zeroValue194
 t213 := zdh
 a213 := Tryz.isAgg196
 z213 := Tryz.sizeOf196
 t232 := zdi
 a232 := Tryz.isAgg225
 z232 := Tryz.sizeOf225
 v232 := Tryz.zeroValue225
 t233 := zdj
 a233 := Tryz.isAgg226
 z233 := Tryz.sizeOf226
 v233 := Tryz.zeroValue226
 g15 := by kernel_rfl
 g16 := by kernel_rfl
 g17 := by kernel_rfl
 g18 := by kernel_rfl
 g19 := by kernel_rfl }
open Go.RowKit in
theorem Tryz.strconv_Atoi (s : ByteArray) (n : Int) (hl : s.size ≤ 18) (h : Lib.atoi s.data.toList = some n) (w : World) :
  Calls Tryz.prog 136 #[.string s] w fun e w' => e = .returned (.tuple #[.int .i64 n, .nilIface]) ∧ ∃ t, w' = Lib.bytesWorld w 5 t := Any.strconv_Atoi Tryz.lays172 s n hl h w
def Tryz.laysM171_ren : Go.Shelf.Ren := ⟨fun | 171 => 27 | 243 => 56 | 246 => 87 | 283 => 122 | 284 => 123 | 285 => 124 | 286 => 125 | 129 => 161 | 317 => 160 | 318 => 162 | 319 => 163 | 320 => 164 | 337 => 184 | 338 => 185 | n => n, fun | 3 => 3 | 9 => 9 | 2 => 2 | 4 => 4 | 171 => 163 | 0 => 0 | 53 => 164 | 37 => 44 | 5 => 5 | 173 => 167 | 212 => 194 | 51 => 195 | 20 => 20 | 213 => 196 | 46 => 197 | 232 => 225 | 233 => 226 | n => n, fun | 17 => 0 | 18 => 2 | 19 => 3 | n => n⟩
theorem Tryz.laysM171 : Go.Proofs.LaysM.n171 Tryz.prog Tryz.laysM171_ren := {
 mixed := by kernel_rfl
 f129 := Tryz.func161.trans (congrArg some (by kernel_rfl))
 f171 := Tryz.func27.trans (congrArg some (by kernel_rfl))
 f243 := Tryz.func56.trans (congrArg some (by kernel_rfl))
 f246 := Tryz.func87.trans (congrArg some (by kernel_rfl))
 f283 := Tryz.func122.trans (congrArg some (by kernel_rfl))
 f284 := Tryz.func123.trans (congrArg some (by kernel_rfl))
 f285 := Tryz.func124.trans (congrArg some (by kernel_rfl))
 f286 := Tryz.func125.trans (congrArg some (by kernel_rfl))
 f317 := Tryz.func160.trans (congrArg some (by kernel_rfl))
 f318 := Tryz.func162.trans (congrArg some (by kernel_rfl))
 f319 := Tryz.func163.trans (congrArg some (by kernel_rfl))
 f320 := Tryz.func164.trans (congrArg some (by kernel_rfl))
 f337 := Tryz.func184.trans (congrArg some (by kernel_rfl))
 f338 := Tryz.func185.trans (congrArg some (by kernel_rfl))
 t0 := zcd
 a0 := Tryz.isAgg0
 z0 := zcy
 v0 := Tryz.zeroValue0
 t2 := Tryz.underlying2
 a2 := Tryz.isAgg2
 z2 := Tryz.sizeOf2
 v2 := Tryz.zeroValue2
 t3 := zt
 a3 := zl
 z3 := zc
 v3 := Tryz.zeroValue3
 t4 := zaa
 a4 := zal
 z4 := zm
 v4 := Tryz.zeroValue4
 t5 := zag
 a5 := zbk
 z5 := zam
 v5 := Tryz.zeroValue5
 t9 := za
 a9 := zh
 z9 := zd
 v9 := Tryz.zeroValue9
 t20 := zbm
 a20 := Tryz.isAgg20
 z20 := Tryz.sizeOf20
 v20 := Tryz.zeroValue20
 t37 := zy
 a37 := Tryz.isAgg44
 z37 := Tryz.sizeOf44
 v37 := Tryz.zeroValue44
 t46 := zbf
 a46 := zcf
 z46 := zbz
 v46 := Tryz.zeroValue197
 t51 := zbg
 a51 := zcg
 z51 := zca
 v51 := Tryz.zeroValue195
 t53 := zdd
 a53 := Tryz.isAgg164
 z53 := Tryz.sizeOf164
 v53 := Tryz.zeroValue164
 t171 := zde
 a171 := Tryz.isAgg163
 z171 := Tryz.sizeOf163
 v171 := Tryz.zeroValue163
 t173 := zdf
 a173 := Tryz.isAgg167
 z173 := Tryz.sizeOf167
 v173 := Tryz.zeroValue167
 t212 := zdg
 a212 := Tryz.isAgg194
 z212 := Tryz.sizeOf194
 v212 := Tryz.zeroValue194
 t213 := zdh
 a213 := Tryz.isAgg196
 z213 := Tryz.sizeOf196
 t232 := zdi
 a232 := Tryz.isAgg225
 z232 := Tryz.sizeOf225
 v232 := Tryz.zeroValue225
 t233 := zdj
 a233 := Tryz.isAgg226
 z233 := Tryz.sizeOf226
 v233 := Tryz.zeroValue226
 g17 := by kernel_rfl
 g18 := by kernel_rfl
 g19 := by kernel_rfl
 i0 := by kernel_rfl
 i2 := by kernel_rfl
 i3 := by kernel_rfl
 i4 := by kernel_rfl
 i5 := by kernel_rfl
 i9 := by kernel_rfl
 i20 := by kernel_rfl
 i37 := by kernel_rfl
 i46 := by kernel_rfl
 i51 := by kernel_rfl
 i53 := by kernel_rfl
 i171 := by kernel_rfl
 i173 := by kernel_rfl
 i212 := by kernel_rfl
 i232 := by kernel_rfl
 i233 := by kernel_rfl
 m17 := by kernel_rfl
 m18 := by kernel_rfl
 m19 := by kernel_rfl }
open Go.RowKit Go.Sort Go.Lib in
theorem Tryz.strconv_Itoa (n : Int) (h0 : -9223372036854775808 ≤ n) (h1 : n ≤ 9223372036854775807) (w : World) (htab : Lib.TabIs Tryz.prog w "internal/strconv.uint64pow10" .u64 Lib.pow10Tab) :
  Calls Tryz.prog 27 #[.int .i64 n] w fun e w' => e = .returned (.string ⟨(Lib.itoa n).toArray⟩) ∧ ∃ k os, w' = grow (w.drewN k) os := Any.strconv_Itoa Tryz.laysM171 n h0 h1 w htab
def Tryz.lays171_ren : Go.Shelf.Ren := ⟨fun | 171 => 27 | 243 => 56 | 246 => 87 | 283 => 122 | 284 => 123 | 285 => 124 | 286 => 125 | 129 => 161 | 317 => 160 | 318 => 162 | 319 => 163 | 320 => 164 | 337 => 184 | 338 => 185 | n => n, fun | 3 => 3 | 9 => 9 | 2 => 2 | 4 => 4 | 171 => 163 | 0 => 0 | 53 => 164 | 37 => 44 | 5 => 5 | 173 => 167 | 212 => 194 | 51 => 195 | 20 => 20 | 213 => 196 | 46 => 197 | 232 => 225 | 233 => 226 | n => n, fun | 17 => 0 | 18 => 2 | 19 => 3 | n => n⟩
theorem Tryz.lays171 : Go.Proofs.Lays.n171 Tryz.prog Tryz.lays171_ren := {
 mixed := by kernel_rfl
 f129 := Tryz.func161.trans (congrArg some (by kernel_rfl))
 f171 := Tryz.func27.trans (congrArg some (by kernel_rfl))
 f243 := Tryz.func56.trans (congrArg some (by kernel_rfl))
 f246 := Tryz.func87.trans (congrArg some (by kernel_rfl))
 f283 := Tryz.func122.trans (congrArg some (by kernel_rfl))
 f284 := Tryz.func123.trans (congrArg some (by kernel_rfl))
 f285 := Tryz.func124.trans (congrArg some (by kernel_rfl))
 f286 := Tryz.func125.trans (congrArg some (by kernel_rfl))
 f317 := Tryz.func160.trans (congrArg some (by kernel_rfl))
 f318 := Tryz.func162.trans (congrArg some (by kernel_rfl))
 f319 := Tryz.func163.trans (congrArg some (by kernel_rfl))
 f320 := Tryz.func164.trans (congrArg some (by kernel_rfl))
 f337 := Tryz.func184.trans (congrArg some (by kernel_rfl))
 f338 := Tryz.func185.trans (congrArg some (by kernel_rfl))
 t0 := zcd
 a0 := Tryz.isAgg0
 z0 := zcy
 v0 := Tryz.zeroValue0
 t2 := Tryz.underlying2
 a2 := Tryz.isAgg2
 z2 := Tryz.sizeOf2
 v2 := Tryz.zeroValue2
 t3 := zt
 a3 := zl
 z3 := zc
 v3 := Tryz.zeroValue3
 t4 := zaa
 a4 := zal
 z4 := zm
 v4 := Tryz.zeroValue4
 t5 := zag
 a5 := zbk
 z5 := zam
 v5 := Tryz.zeroValue5
 t9 := za
 a9 := zh
 z9 := zd
 v9 := Tryz.zeroValue9
 t20 := zbm
 a20 := Tryz.isAgg20
 z20 := Tryz.sizeOf20
 v20 := Tryz.zeroValue20
 t37 := zy
 a37 := Tryz.isAgg44
 z37 := Tryz.sizeOf44
 v37 := Tryz.zeroValue44
 t46 := zbf
 a46 := zcf
 z46 := zbz
 v46 := Tryz.zeroValue197
 t51 := zbg
 a51 := zcg
 z51 := zca
 v51 := Tryz.zeroValue195
 t53 := zdd
 a53 := Tryz.isAgg164
 z53 := Tryz.sizeOf164
 v53 := Tryz.zeroValue164
 t171 := zde
 a171 := Tryz.isAgg163
 z171 := Tryz.sizeOf163
 v171 := Tryz.zeroValue163
 t173 := zdf
 a173 := Tryz.isAgg167
 z173 := Tryz.sizeOf167
 v173 := Tryz.zeroValue167
 t212 := zdg
 a212 := Tryz.isAgg194
 z212 := Tryz.sizeOf194
 v212 := Tryz.zeroValue194
 t213 := zdh
 a213 := Tryz.isAgg196
 z213 := Tryz.sizeOf196
 t232 := zdi
 a232 := Tryz.isAgg225
 z232 := Tryz.sizeOf225
 v232 := Tryz.zeroValue225
 t233 := zdj
 a233 := Tryz.isAgg226
 z233 := Tryz.sizeOf226
 v233 := Tryz.zeroValue226
 g17 := by kernel_rfl
 g18 := by kernel_rfl
 g19 := by kernel_rfl }
open Go.RowKit Go.Sort Go.Lib in
theorem Tryz.strconv_Itoa_small (i : Nat) (hi : i < 100) (w : World) :
  Calls Tryz.prog 27 #[.int .i64 i] w fun e w' => e = .returned (.string ⟨(Lib.decDigits i).toArray⟩) ∧ w' = w := Any.strconv_Itoa_small Tryz.lays171 i hi w
def Tryz.laysC172_ren : Go.Shelf.Ren := ⟨fun | 172 => 136 | 244 => 174 | 245 => 175 | 247 => 193 | 279 => 194 | 280 => 195 | 281 => 196 | 282 => 197 | 287 => 206 | 316 => 207 | 171 => 27 | 205 => 208 | 321 => 213 | 322 => 214 | 243 => 56 | 246 => 87 | 283 => 122 | 284 => 123 | 285 => 124 | 286 => 125 | 129 => 161 | 317 => 160 | 318 => 162 | 319 => 163 | 320 => 164 | 337 => 184 | 338 => 185 | n => n, fun | 9 => 9 | 3 => 3 | 75 => 106 | 76 => 107 | 4 => 4 | 5 => 5 | 167 => 218 | 37 => 44 | 0 => 0 | 85 => 219 | 2 => 2 | 168 => 221 | 53 => 164 | 175 => 228 | 46 => 197 | 210 => 231 | 127 => 132 | 145 => 239 | 143 => 237 | 21 => 21 | 171 => 163 | 173 => 167 | 212 => 194 | 51 => 195 | 20 => 20 | 213 => 196 | 232 => 225 | 233 => 226 | 80 => 65 | n => n, fun | 15 => 4 | 16 => 5 | 17 => 0 | 18 => 2 | 19 => 3 | n => n⟩
theorem Tryz.laysC172 : Go.Proofs.LaysC.n172 Tryz.prog Tryz.laysC172_ren := {
 mixed := by kernel_rfl
 f129 := Tryz.func161.trans (congrArg some (by kernel_rfl))
 f171 := Tryz.func27.trans (congrArg some (by kernel_rfl))
 f172 := Tryz.func136.trans (congrArg some (by kernel_rfl))
 f205 := Tryz.func208.trans (congrArg some (by kernel_rfl))
 f243 := Tryz.func56.trans (congrArg some (by kernel_rfl))
 f244 := Tryz.func174.trans (congrArg some (by kernel_rfl))
 f245 := Tryz.func175.trans (congrArg some (by kernel_rfl))
 f246 := Tryz.func87.trans (congrArg some (by kernel_rfl))
 f247 := Tryz.func193.trans (congrArg some (by kernel_rfl))
 f279 := Tryz.func194.trans (congrArg some (by kernel_rfl))
 f280 := Tryz.func195.trans (congrArg some (by kernel_rfl))
 f281 := Tryz.func196.trans (congrArg some (by kernel_rfl))
 f282 := Tryz.func197.trans (congrArg some (by kernel_rfl))
 f283 := Tryz.func122.trans (congrArg some (by kernel_rfl))
 f284 := Tryz.func123.trans (congrArg some (by kernel_rfl))
 f285 := Tryz.func124.trans (congrArg some (by kernel_rfl))
 f286 := Tryz.func125.trans (congrArg some (by kernel_rfl))
 f287 := Tryz.func206.trans (congrArg some (by kernel_rfl))
 f316 := Tryz.func207.trans (congrArg some (by kernel_rfl))
 f317 := Tryz.func160.trans (congrArg some (by kernel_rfl))
 f318 := Tryz.func162.trans (congrArg some (by kernel_rfl))
 f319 := Tryz.func163.trans (congrArg some (by kernel_rfl))
 f320 := Tryz.func164.trans (congrArg some (by kernel_rfl))
 f321 := Tryz.func213.trans (congrArg some (by kernel_rfl))
 f322 := Tryz.func214.trans (congrArg some (by kernel_rfl))
 f337 := Tryz.func184.trans (congrArg some (by kernel_rfl))
 f338 := Tryz.func185.trans (congrArg some (by kernel_rfl))
 t0 := zcd
 a0 := Tryz.isAgg0
 z0 := zcy
 v0 := Tryz.zeroValue0
 t2 := Tryz.underlying2
 a2 := Tryz.isAgg2
 z2 := Tryz.sizeOf2
 v2 := Tryz.zeroValue2
 t3 := zt
 a3 := zl
 z3 := zc
 v3 := Tryz.zeroValue3
 t4 := zaa
 a4 := zal
 z4 := zm
 v4 := Tryz.zeroValue4
 t5 := zag
 a5 := zbk
 z5 := zam
 v5 := Tryz.zeroValue5
 t9 := za
 a9 := zh
 z9 := zd
 v9 := Tryz.zeroValue9
 t20 := zbm
 a20 := Tryz.isAgg20
 z20 := Tryz.sizeOf20
 v20 := Tryz.zeroValue20
 t21 := Tryz.underlying21
 a21 := Tryz.isAgg21
 z21 := Tryz.sizeOf21
 v21 := Tryz.zeroValue21
 t37 := zy
 a37 := Tryz.isAgg44
 z37 := Tryz.sizeOf44
 v37 := Tryz.zeroValue44
 t46 := zbf
 a46 := zcf
 z46 := zbz
 v46 := Tryz.zeroValue197
 t51 := zbg
 a51 := zcg
 z51 := zca
 v51 := Tryz.zeroValue195
 t53 := zdd
 a53 := Tryz.isAgg164
 z53 := Tryz.sizeOf164
 v53 := Tryz.zeroValue164
 t75 := zdc
 a75 := Tryz.isAgg106
 z75 := Tryz.sizeOf106
 v75 := Tryz.zeroValue106
 t76 := Tryz.underlying107
 a76 := Tryz.isAgg107
 z76 := Tryz.sizeOf107
 v76 := Tryz.zeroValue107
 t85 := Tryz.underlying219
 a85 := Tryz.isAgg219
 z85 := Tryz.sizeOf219
 v85 := Tryz.zeroValue219
 t127 := Tryz.underlying132
 a127 := Tryz.isAgg132
 z127 := Tryz.sizeOf132
 v127 := Tryz.zeroValue132
 t143 := Tryz.underlying237
 a143 := Tryz.isAgg237
 z143 := Tryz.sizeOf237
 v143 := Tryz.zeroValue237
 t145 := Tryz.underlying239
 a145 := Tryz.isAgg239
 z145 := Tryz.sizeOf239
 v145 := Tryz.zeroValue239
 t167 := Tryz.underlying218
 a167 := Tryz.isAgg218
 z167 := Tryz.sizeOf218
 v167 := Tryz.zeroValue218
 t168 := Tryz.underlying221
 a168 := Tryz.isAgg221
 z168 := Tryz.sizeOf221
 v168 := Tryz.zeroValue221
 t171 := zde
 a171 := Tryz.isAgg163
 z171 := Tryz.sizeOf163
 v171 := Tryz.zeroValue163
 t173 := zdf
 a173 := Tryz.isAgg167
 z173 := Tryz.sizeOf167
 v173 := Tryz.zeroValue167
 t175 := Tryz.underlying228
 a175 := Tryz.isAgg228
 z175 := Tryz.sizeOf228
 v175 := Tryz.zeroValue228
 t210 := Tryz.underlying231
 a210 := Tryz.isAgg231
 z210 := Tryz.sizeOf231
 v210 := Tryz.zeroValue231
 t212 := zdg
 a212 := Tryz.isAgg194
 z212 := Tryz.sizeOf194
 v212 := Tryz.zeroValue194
 t213 := zdh
 a213 := Tryz.isAgg196
 z213 := Tryz.sizeOf196
 t232 := zdi
 a232 := Tryz.isAgg225
 z232 := Tryz.sizeOf225
 v232 := Tryz.zeroValue225
 t233 := zdj
 a233 := Tryz.isAgg226
 z233 := Tryz.sizeOf226
 v233 := Tryz.zeroValue226
 g15 := by kernel_rfl
 g16 := by kernel_rfl
 g17 := by kernel_rfl
 g18 := by kernel_rfl
 g19 := by kernel_rfl
 t80 := Tryz.underlying65
 a80 := Tryz.isAgg65
 z80 := Tryz.sizeOf65
 v80 := Tryz.zeroValue65
 i0 := by kernel_rfl
 i2 := by kernel_rfl
 i3 := by kernel_rfl
 i4 := by kernel_rfl
 i5 := by kernel_rfl
 i9 := by kernel_rfl
 i20 := by kernel_rfl
 i21 := by kernel_rfl
 i37 := by kernel_rfl
 i46 := by kernel_rfl
 i51 := by kernel_rfl
 i53 := by kernel_rfl
 i75 := by kernel_rfl
 i76 := by kernel_rfl
 i80 := by kernel_rfl
 i85 := by kernel_rfl
 i127 := by kernel_rfl
 i143 := by kernel_rfl
 i145 := by kernel_rfl
 i167 := by kernel_rfl
 i168 := by kernel_rfl
 i171 := by kernel_rfl
 i173 := by kernel_rfl
 i175 := by kernel_rfl
 i210 := by kernel_rfl
 i212 := by kernel_rfl
 i232 := by kernel_rfl
 i233 := by kernel_rfl
 m15 := by kernel_rfl
 m16 := by kernel_rfl
 m17 := by kernel_rfl
 m18 := by kernel_rfl
 m19 := by kernel_rfl
 c0 := by kernel_rfl
 c2 := by kernel_rfl
 c3 := by kernel_rfl
 c4 := by kernel_rfl
 c5 := by kernel_rfl
 c9 := by kernel_rfl
 c20 := by kernel_rfl
 c21 := by kernel_rfl
 c37 := by kernel_rfl
 c46 := by kernel_rfl
 c51 := by kernel_rfl
 c53 := by kernel_rfl
 c75 := by kernel_rfl
 c76 := by kernel_rfl
 c80 := by kernel_rfl
 c85 := by kernel_rfl
 c127 := by kernel_rfl
 c143 := by kernel_rfl
 c145 := by kernel_rfl
 c167 := by kernel_rfl
 c168 := by kernel_rfl
 c171 := by kernel_rfl
 c173 := by kernel_rfl
 c175 := by kernel_rfl
 c210 := by kernel_rfl
 c212 := by kernel_rfl
 c213 := by kernel_rfl
 c232 := by kernel_rfl
 c233 := by kernel_rfl }
open Go.RowKit in
theorem Tryz.strconv_Atoi_err (s : ByteArray) (hl : s.size ≤ 18) (h : Lib.atoi s.data.toList = none) (ev : Value) (w : World) (hv : w.cell? ⟨4, 0, none⟩ = some ev) (hev : ev = .nilIface ∨ ∃ te pe, ev = .iface te pe) :
  Calls Tryz.prog 136 #[.string s] w fun e w' => ∃ N, e = .returned (.tuple #[.int .i64 0, .iface 221 (jI0 N)]) ∧ w.heap.size ≤ N ∧ w'.heap[N]? = some (.cells #[.string ⟨#[65, 116, 111, 105]⟩, .string s, ev] 231 (0, 0)) ∧ Below w.heap.size w w' := Any.strconv_Atoi_err Tryz.laysC172 s hl h ev w hv hev
def Tryz.lays219_ren : Go.Shelf.Ren := ⟨fun | 219 => 199 | 217 => 121 | 225 => 209 | 224 => 210 | 267 => 211 | 266 => 159 | 314 => 215 | n => n, fun | 9 => 9 | 3 => 3 | 4 => 4 | 5 => 5 | 46 => 197 | 146 => 240 | 51 => 195 | n => n, fun | 1 => 1 | n => n⟩
theorem Tryz.lays219 : Go.Proofs.Lays.n219 Tryz.prog Tryz.lays219_ren := {
 mixed := by kernel_rfl
 f217 := Tryz.func121.trans (congrArg some (by kernel_rfl))
 f219 := Tryz.func199.trans (congrArg some (by kernel_rfl))
 f224 := Tryz.func210.trans (congrArg some (by kernel_rfl))
 f225 := Tryz.func209.trans (congrArg some (by kernel_rfl))
 f266 := Tryz.func159.trans (congrArg some (by kernel_rfl))
 f267 := Tryz.func211.trans (congrArg some (by kernel_rfl))
 f314 := Tryz.func215.trans (congrArg some (by kernel_rfl))
 t3 := zt
 a3 := zl
 z3 := zc
 v3 := Tryz.zeroValue3
 t4 := zaa
 a4 := zal
 z4 := zm
 v4 := Tryz.zeroValue4
 t5 := zag
 a5 := zbk
 z5 := zam
 v5 := Tryz.zeroValue5
 t9 := za
 a9 := zh
 z9 := zd
 v9 := Tryz.zeroValue9
 t46 := zbf
 a46 := zcf
 z46 := zbz
 v46 := Tryz.zeroValue197
 t51 := zbg
 a51 := zcg
 z51 := zca
 v51 := Tryz.zeroValue195
 t146 := Tryz.underlying240
 a146 := Tryz.isAgg240
 z146 := Tryz.sizeOf240
 v146 := Tryz.zeroValue240
 g1 := by kernel_rfl }
open Go.RowKit Go.Lib in
theorem Tryz.stringslite_Index_one (s : ByteArray) (c : UInt8) (w : World) :
  Calls Tryz.prog 199 #[.string s, .string ⟨#[c]⟩] w fun e w' => e = .returned (.int .i64 (Lib.indexByte s.data.toList c)) ∧ w' = w := Any.stringslite_Index_one Tryz.lays219 s c w
def Tryz.lays143_ren : Go.Shelf.Ren := ⟨fun | 143 => 188 | 219 => 199 | 217 => 121 | 225 => 209 | 224 => 210 | 267 => 211 | 266 => 159 | 314 => 215 | n => n, fun | 9 => 9 | 3 => 3 | 4 => 4 | 5 => 5 | 46 => 197 | 146 => 240 | 51 => 195 | n => n, fun | 1 => 1 | n => n⟩
theorem Tryz.lays143 : Go.Proofs.Lays.n143 Tryz.prog Tryz.lays143_ren := {
 mixed := by kernel_rfl
 f143 := Tryz.func188.trans (congrArg some (by kernel_rfl))
 f217 := Tryz.func121.trans (congrArg some (by kernel_rfl))
 f219 := Tryz.func199.trans (congrArg some (by kernel_rfl))
 f224 := Tryz.func210.trans (congrArg some (by kernel_rfl))
 f225 := Tryz.func209.trans (congrArg some (by kernel_rfl))
 f266 := Tryz.func159.trans (congrArg some (by kernel_rfl))
 f267 := Tryz.func211.trans (congrArg some (by kernel_rfl))
 f314 := Tryz.func215.trans (congrArg some (by kernel_rfl))
 t3 := zt
 a3 := zl
 z3 := zc
 v3 := Tryz.zeroValue3
 t4 := zaa
 a4 := zal
 z4 := zm
 v4 := Tryz.zeroValue4
 t5 := zag
 a5 := zbk
 z5 := zam
 v5 := Tryz.zeroValue5
 t9 := za
 a9 := zh
 z9 := zd
 v9 := Tryz.zeroValue9
 t46 := zbf
 a46 := zcf
 z46 := zbz
 v46 := Tryz.zeroValue197
 t51 := zbg
 a51 := zcg
 z51 := zca
 v51 := Tryz.zeroValue195
 t146 := Tryz.underlying240
 a146 := Tryz.isAgg240
 z146 := Tryz.sizeOf240
 v146 := Tryz.zeroValue240
 g1 := by kernel_rfl }
open Go.RowKit Go.Lib in
theorem Tryz.strings_Index_one (s : ByteArray) (c : UInt8) (w : World) :
  Calls Tryz.prog 188 #[.string s, .string ⟨#[c]⟩] w fun e w' => e = .returned (.int .i64 (Lib.indexByte s.data.toList c)) ∧ w' = w := Any.strings_Index_one Tryz.lays143 s c w
def Tryz.lays101_ren : Go.Shelf.Ren := ⟨fun | 101 => 146 | 208 => 180 | 206 => 178 | n => n, fun | 9 => 9 | 4 => 4 | 3 => 3 | n => n, fun | n => n⟩
theorem Tryz.lays101 : Go.Proofs.Lays.n101 Tryz.prog Tryz.lays101_ren := {
 mixed := by kernel_rfl
 f101 := Tryz.func146.trans (congrArg some (by kernel_rfl))
 f206 := Tryz.func178.trans (congrArg some (by kernel_rfl))
 f208 := Tryz.func180.trans (congrArg some (by kernel_rfl))
 t3 := zt
 a3 := zl
 z3 := zc
 v3 := Tryz.zeroValue3
 t4 := zaa
 a4 := zal
 z4 := zm
 v4 := Tryz.zeroValue4
 t9 := za
 a9 := zh
 z9 := zd
 v9 := Tryz.zeroValue9 }
open Go.RowKit Go.Lib in
theorem Tryz.strings_TrimPrefix (s p : ByteArray) (w : World) :
  Calls Tryz.prog 146 #[.string s, .string p] w fun e w' => e = .returned (.string ⟨(Lib.trimPrefix s.data.toList p.data.toList).toArray⟩) ∧ w' = w := Any.strings_TrimPrefix Tryz.lays101 s p w
def Tryz.lays146_ren : Go.Shelf.Ren := ⟨fun | 146 => 133 | 221 => 166 | 268 => 186 | 138 => 187 | 143 => 188 | 195 => 201 | 197 => 190 | 218 => 202 | 219 => 199 | 260 => 203 | 217 => 121 | 225 => 209 | 224 => 210 | 267 => 211 | 266 => 159 | 314 => 215 | n => n, fun | 9 => 9 | 31 => 25 | 3 => 3 | 4 => 4 | 0 => 0 | 105 => 215 | 21 => 21 | 5 => 5 | 46 => 197 | 119 => 233 | 139 => 236 | 138 => 235 | 146 => 240 | 51 => 195 | n => n, fun | 1 => 1 | 3 => 6 | 4 => 7 | n => n⟩
theorem Tryz.lays146 : Go.Proofs.Lays.n146 Tryz.prog Tryz.lays146_ren := {
 mixed := by kernel_rfl
 f138 := Tryz.func187.trans (congrArg some (by kernel_rfl))
 f143 := Tryz.func188.trans (congrArg some (by kernel_rfl))
 f146 := Tryz.func133.trans (congrArg some (by kernel_rfl))
 f195 := Tryz.func201.trans (congrArg some (by kernel_rfl))
 f197 := Tryz.func190.trans (congrArg some (by kernel_rfl))
 f217 := Tryz.func121.trans (congrArg some (by kernel_rfl))
 f218 := Tryz.func202.trans (congrArg some (by kernel_rfl))
 f219 := Tryz.func199.trans (congrArg some (by kernel_rfl))
 f221 := Tryz.func166.trans (congrArg some (by kernel_rfl))
 f224 := Tryz.func210.trans (congrArg some (by kernel_rfl))
 f225 := Tryz.func209.trans (congrArg some (by kernel_rfl))
 f260 := Tryz.func203.trans (congrArg some (by kernel_rfl))
 f266 := Tryz.func159.trans (congrArg some (by kernel_rfl))
 f267 := Tryz.func211.trans (congrArg some (by kernel_rfl))
 f268 := Tryz.func186.trans (congrArg some (by kernel_rfl))
 f314 := Tryz.func215.trans (congrArg some (by kernel_rfl))
 t0 := zcd
 a0 := Tryz.isAgg0
 z0 := zcy
 v0 := Tryz.zeroValue0
 t3 := zt
 a3 := zl
 z3 := zc
 v3 := Tryz.zeroValue3
 t4 := zaa
 a4 := zal
 z4 := zm
 v4 := Tryz.zeroValue4
 t5 := zag
 a5 := zbk
 z5 := zam
 v5 := Tryz.zeroValue5
 t9 := za
 a9 := zh
 z9 := zd
 v9 := Tryz.zeroValue9
 t21 := Tryz.underlying21
 a21 := Tryz.isAgg21
 z21 := Tryz.sizeOf21
 v21 := Tryz.zeroValue21
 t31 := zk
 a31 := zan
 z31 := zv
 v31 := Tryz.zeroValue25
 t46 := zbf
 a46 := zcf
 z46 := zbz
 v46 := Tryz.zeroValue197
 t51 := zbg
 a51 := zcg
 z51 := zca
 v51 := Tryz.zeroValue195
 t105 := Tryz.underlying215
 a105 := Tryz.isAgg215
 z105 := Tryz.sizeOf215
 v105 := Tryz.zeroValue215
 t119 := Tryz.underlying233
 a119 := Tryz.isAgg233
 z119 := Tryz.sizeOf233
 t138 := Tryz.underlying235
 a138 := Tryz.isAgg235
 z138 := Tryz.sizeOf235
 v138 := Tryz.zeroValue235
 t139 := Tryz.underlying236
 a139 := Tryz.isAgg236
 z139 := Tryz.sizeOf236
 v139 := Tryz.zeroValue236
 t146 := Tryz.underlying240
 a146 := Tryz.isAgg240
 z146 := Tryz.sizeOf240
 v146 := Tryz.zeroValue240
 g1 := by kernel_rfl
 g3 := by kernel_rfl
 g4 := by kernel_rfl }
open Go.RowKit Go.Lib in
theorem Tryz.strings_Split (s sep : ByteArray) (m : Int) (w : World) (hs : s.size < 4294967281) (hm : w.cell? ⟨1, 0, none⟩ = some (.int .i64 m)) (h1 : 1 ≤ sep.size) :
  Calls Tryz.prog 133 #[.string s, .string sep] w fun e w' =>
   e = .returned (.slice (some ⟨w.heap.size, 0, none⟩) (Lib.countB s sep + 1) (Lib.countB s sep + 1)) ∧ w' = w.alloc (.cells ((Lib.splitB sep 0 (Lib.countB s sep) s).map Value.string).toArray 9) := Any.strings_Split Tryz.lays146 (by kernel_rfl) s sep m w hs hm h1
end
section
open Go.RowKit
theorem cZ : ∀ (l : Tx) (c : UInt8), (Lib.indexByte l c = -1 ∧ c ∉ l) ∨ ∃ a b, l = a ++ c :: b ∧ c ∉ a ∧ Lib.indexByte l c = ((a.length : Nat) : Int)
 | [], c => .inl ⟨rfl, jp⟩
 | x :: r, c => by
  unfold Lib.indexByte
  by_cases h : x = c
  ·
   subst h
   exact .inr ⟨[], r, rfl, jp, jp⟩
  have hb : (x == c) = false := by simpa using h
  rw [hb]
  rcases cZ r c with ⟨h1, h2⟩ | ⟨a, b, rfl, h2, h3⟩
  ·
   left
   refine ⟨by simp [h1], ?_⟩
   simp only [zak, not_or]
   exact ⟨fun e => h e.symm, h2⟩
  right
  refine ⟨x :: a, b, rfl, ?_, ?_⟩
  ·
   simp only [zak, not_or]
   exact ⟨fun e => h e.symm, h2⟩
  rw [h3]
  have : ¬ ((a.length : Nat) : Int) = -1 := jo
  simp [this]
def bQ (c : UInt8) : Tx → Tx
 | [] => []
 | x :: r => if x = c then [] else x :: bQ c r
def qB (c : UInt8) : Tx → Tx
 | [] => []
 | x :: r => if x = c then r else qB c r
theorem gU {c : UInt8} : ∀ {s : Tx}, c ∉ s → bQ c s = s ∧ qB c s = []
 | [], _ => ⟨rfl, rfl⟩
 | x :: r, h => by
  simp only [zak, not_or] at h
  have hx : x ≠ c := fun e => h.1 e.symm
  simp [bQ, qB, hx, gU h.2]
theorem eL {c : UInt8} : ∀ {a b : Tx}, c ∉ a → bQ c (a ++ c :: b) = a ∧ qB c (a ++ c :: b) = b
 | [], b, _ => by simp [bQ, qB]
 | x :: r, b, h => by
  simp only [zak, not_or] at h
  have hx : x ≠ c := fun e => h.1 e.symm
  simp [bQ, qB, hx, eL (b := b) h.2]
def bG (c : UInt8) : Tx → List Tx
 | [] => [[]]
 | x :: r => if x = c then [] :: bG c r else match bG c r with
  | [] => [[x]]
  | p :: ps => (x :: p) :: ps
theorem mV {c : UInt8} : ∀ {s : Tx}, c ∉ s → bG c s = [s]
 | [], _ => rfl
 | x :: r, h => by
  simp only [zak, not_or] at h
  have hx : x ≠ c := fun e => h.1 e.symm
  simp [bG, hx, mV h.2]
theorem mW {c : UInt8} : ∀ {a b : Tx}, c ∉ a → bG c (a ++ c :: b) = a :: bG c b
 | [], b, _ => by simp [bG]
 | x :: r, b, h => by
  simp only [zak, not_or] at h
  have hx : x ≠ c := fun e => h.1 e.symm
  simp [bG, hx, mW (b := b) h.2]
theorem lG {c : UInt8} : ∀ (s : Tx), ∀ w ∈ bG c s, w.length ≤ s.length
 | [], w, h => by simp [bG] at h; subst h; simp
 | x :: r, w, h => by
  unfold bG at h
  have ih := lG (c := c) r
  split at h
  ·
   rcases zak.1 h with rfl | h
   · simp
   have := ih w h; simp; omega
  split at h
  · simp at h; subst h; simp
  rename_i p ps hs
  rcases zak.1 h with rfl | h
  · have := ih p (by rw [hs]; simp); simp; omega
  have := ih w (by rw [hs]; simp [h]); simp; omega
theorem dO (c : UInt8) : ∀ s : Tx, (bQ c s).length ≤ s.length ∧ (qB c s).length ≤ s.length
 | [] => ⟨zai _, zai _⟩
 | x :: r => by
  have := dO c r
  unfold bQ qB
  split <;> simp <;> omega
def eQ (n : Nat) (s : Tx) : Nat := s.foldl (fun n x => 10 * n + (x.toNat - 48)) n
abbrev Dig (x : UInt8) : Prop := 48 ≤ x.toNat ∧ x.toNat ≤ 57
def dM (s : Tx) : Int :=
 if s = [42] then 0 else if s = [] ∨ 10 < s.length ∨ s.head? = some 48 then -1
 else if (∀ x ∈ s, Dig x) ∧ eQ 0 s ≤ 2147483647 then ((eQ 0 s : Nat) : Int) else -1
theorem rX (n : Nat) (s : Tx) (x : UInt8) : eQ n (s ++ [x]) = 10 * eQ n s + (x.toNat - 48) := by simp [eQ]
theorem nC : ∀ (s : Tx) (n k : Nat), (∀ x ∈ s, Dig x) → n < 10 ^ k → eQ n s < 10 ^ (k + s.length)
 | [], n, k, _, h => by simpa [eQ] using h
 | x :: r, n, k, hd, h => by
  have hx := hd x jp
  have e : eQ n (x :: r) = eQ (10 * n + (x.toNat - 48)) r := rfl
  rw [e]
  have := nC r (10 * n + (x.toNat - 48)) (k + 1) (fun y hy => hd y (by simp [hy])) (by rw [Nat.pow_succ]; omega)
  have e2 : k + 1 + r.length = k + (x :: r).length := by simp; omega
  rw [e2] at this
  exact this
abbrev Sp := Int × Int
def cB (w : Tx) : Sp := (dM (bQ 58 w), if 58 ∈ w then dM (qB 58 w) else dM (bQ 58 w))
def fI (w : Tx) : Prop := 0 ≤ (cB w).1 ∧ 0 ≤ (cB w).2
instance (w : Tx) : Decidable (fI w) := by unfold fI; infer_instance
def dR (s : Tx) : Prop := (∀ w ∈ bG 44 s, fI w) ∧ (bG 44 s).length ≤ 64
instance (s : Tx) : Decidable (dR s) := by unfold dR; infer_instance
def dK (s : Tx) : List Sp := if dR s then (bG 44 s).map cB else []
def SC1 (x : Sp) : List Value := [.int .i64 x.1, .int .i64 x.2]
abbrev SC (l : List Sp) : List Value := l.flatMap SC1
theorem nD (x : Sp) : ∀ u ∈ SC1 x, u.oneCell' = true := by
 intro u hu
 simp only [SC1, zak, zax, or_false] at hu
 rcases hu with rfl | rfl <;> rfl
end
section
open Go.RowKit Go.Sort
def kQ : Tx := [40, 41, 60, 62, 64, 44, 59, 58, 92, 34, 47, 91, 93, 63, 61]
def lQ (c : UInt8) : Prop := 33 ≤ c.toNat ∧ c.toNat ≤ 126 ∧ c ∉ kQ
instance (c : UInt8) : Decidable (lQ c) := by unfold lQ; infer_instance
def bJ (s : Tx) : Prop := s ≠ [] ∧ ∀ c ∈ s, lQ c
instance (s : Tx) : Decidable (bJ s) := by unfold bJ; infer_instance
theorem vZ (c : UInt8) : 0 ≤ Lib.indexByte kQ c ↔ c ∈ kQ := by
 rcases cZ kQ c with ⟨h1, h2⟩ | ⟨a, b, h1, h2, h3⟩
 · rw [h1]; exact ⟨fun h => jo, fun h => absurd h h2⟩
 rw [h3]; exact ⟨fun _ => by rw [h1]; simp, fun _ => jo⟩
theorem gB (s : Tx) (c : UInt8) (w : World) : Calls Tryz.prog 86 #[encStr s, .int .u8 ((c.toNat : Nat) : Int)] w fun e w' => e = .returned (.int .i64 (Lib.indexByte s c)) ∧ w = w' := by
 have h := Tryz.strings_IndexByte ⟨s.toArray⟩ ((c.toNat : Nat) : Int) w
 have e1 : (((c.toNat : Nat) : Int)).toNat.toUInt8 = c := jp
 rw [e1] at h
 exact h.mono fun e w' ⟨h, hw⟩ => ⟨h, hw.symm⟩
theorem oD (q : Tx) (w : World) (hq : q.length ≤ 2000000) : Calls Tryz.prog 55 #[encStr q] w fun e w' => e = .returned (.bool (decide (bJ q))) ∧ w = w' := by
 refine jV Tryz.func55 Tryz.ntmps55 Tryz.results55 ?_
 refine jS (jR (ja rfl (jO (jN (jv1 0 ?_)))))
 refine jS (jS (jR (jm rfl (je (Run.lenT rfl za) ?_))))
 refine jx .i64 0 ?_
 refine jO (jN (jv3 0 5 6 ?_))
 refine jB ?_
 refine VC.loop (σ := Nat) (fun s => [(0, encStr q), (5, jI1 q.length), (6, jI1 s)]) (fun s wr => s ≤ q.length ∧ (∀ c ∈ q.take s, lQ c) ∧ w = wr) (fun s => q.length - s) 0 (js3 rfl rfl rfl) ⟨jo, jp, rfl⟩ ?_
 rintro i _ ⟨hi, hd, rfl⟩
 refine jS (jR (jb rfl rfl (Bin.lssN _ _) (jO (jN (jS ?_)))))
 refine jD rfl (fun hc1 => ?_) fun hc1 => ?_
 ·
  have hts : q.take (i + 1) = q.take i ++ [q[i]] := by rw [zba, zb hc1]; rfl
  have hxm : q[i] ∈ q := zaq hc1
  have hgx : q[i]? = some q[i] := zb hc1
  generalize hx : q[i] = x at *
  have hsp := vZ x
  have htc : lQ x ↔ (33 ≤ x.toNat ∧ x.toNat ≤ 126 ∧ x ∉ kQ) := Iff.rfl
  refine jQ (jN (jv3 0 5 6 ?_))
  refine jS (jB (jS (jR (jm rfl (ja rfl (jO (jN (jv4 0 3 5 6 ?_))))))))
  refine jS ?_
  refine VC.split1 [(0, _), (5, _), (6, _)] (js3 rfl rfl rfl) 25 (.bool (decide (¬ lQ x))) ?_ ?_
  ·
   refine jR ?_
   refine jm rfl (jm rfl (je (Run.indexT _ rfl rfl za hgx) (jb rfl rfl (Bin.lssN _ 33) ?_)))
   by_cases hs12 : x.toNat < 33
   ·
    refine jM ?_
    refine jU ?_
    refine jU ?_
    refine jU ?_
    refine jU ?_
    refine jW rfl rfl au (jM ?_)
    refine jU ?_
    refine jU ?_
    refine jU ?_
    refine jU ?_
    refine jU ?_
    refine jW rfl rfl au (jO ?_)
    refine jN ⟨(js4 (jC (Eq.symm (by first | exact decide_eq_true (fun h => by have := htc.1 h; omega) | exact decide_eq_decide.2 ⟨fun h => Classical.byContradiction fun h2 => h (htc.2 ⟨jo, jo, fun h3 => h2 (hsp.2 h3)⟩), fun h h2 => (htc.1 h2).2.2 (hsp.1 h)⟩))) rfl rfl rfl), rfl⟩
   refine jM ?_
   refine jG ?_
   refine jG ?_
   refine jk (Run.indexT _ rfl rfl za hgx) ?_
   refine jk (Run.bin rfl rfl (Bin.gtrN _ 126)) ?_
   by_cases hs17 : 126 < x.toNat
   ·
    refine jF rfl rfl au (jM ?_)
    refine jU ?_
    refine jU ?_
    refine jU ?_
    refine jU ?_
    refine jU ?_
    refine jW rfl rfl au (jO ?_)
    refine jN ⟨(js4 (jC (Eq.symm (by first | exact decide_eq_true (fun h => by have := htc.1 h; omega) | exact decide_eq_decide.2 ⟨fun h => Classical.byContradiction fun h2 => h (htc.2 ⟨jo, jo, fun h3 => h2 (hsp.2 h3)⟩), fun h h2 => (htc.1 h2).2.2 (hsp.1 h)⟩))) rfl rfl rfl), rfl⟩
   refine jF rfl rfl au (jM ?_)
   refine jG ?_
   refine jG ?_
   refine jk (Run.indexT _ rfl rfl za hgx) ?_
   refine Ops.clg rfl au (jE2 Tryz.call86) (gB kQ x _) rfl ?_
   rintro e _ ⟨rfl, rfl⟩
   refine ⟨_, rfl, ?_⟩
   refine jk (Run.bin rfl rfl (Bin.geq _ 0)) ?_
   by_cases hs24 : 0 ≤ Lib.indexByte kQ x
   ·
    refine jF rfl rfl au (jO ?_)
    refine jN ⟨(js4 (jC (Eq.symm (by first | exact decide_eq_true (fun h => by have := htc.1 h; omega) | exact decide_eq_decide.2 ⟨fun h => Classical.byContradiction fun h2 => h (htc.2 ⟨jo, jo, fun h3 => h2 (hsp.2 h3)⟩), fun h h2 => (htc.1 h2).2.2 (hsp.1 h)⟩))) rfl rfl rfl), rfl⟩
   refine jF rfl rfl au (jO ?_)
   refine jN ⟨(js4 (jC (Eq.symm (by first | exact decide_eq_true (fun h => by have := htc.1 h; omega) | exact decide_eq_decide.2 ⟨fun h => Classical.byContradiction fun h2 => h (htc.2 ⟨jo, jo, fun h3 => h2 (hsp.2 h3)⟩), fun h h2 => (htc.1 h2).2.2 (hsp.1 h)⟩))) rfl rfl rfl), rfl⟩
  intro Γ hΓ
  refine jN (VC.sub _ hΓ ?_)
  refine jD rfl (fun hc2 => ?_) fun hc2 => ?_
  ·
   refine jS (jR (ja rfl (jO (jN (jv1 2 ?_)))))
   refine jT ?_
   refine qR (qQ (qQ (qR (qQ (qP rfl ?_)))))
   exact ⟨by rw [decide_eq_false (fun h => hc2 (h.2 x hxm))], rfl⟩
  refine jQ ?_
  refine qW (jN ?_)
  refine jv3 0 5 6 ?_
  refine jR (jb rfl rfl (Bin.add_i64 _ 1 jo) (jm rfl (jO ?_)))
  refine jN ⟨(i + 1), (js3 rfl rfl rfl), ?_, ?_⟩
  ·
   refine ⟨hc1, fun y hy => ?_, rfl⟩
   rw [hts] at hy
   rcases List.mem_append.1 hy with h | h
   · exact hd y h
   simp only [ze] at h; subst h; exact Classical.not_not.1 hc2
  exact jq
 have hil : i = q.length := jo
 subst hil
 rw [zar] at hd
 refine jX ?_
 refine qK (qK (qS ?_))
 refine jN (jv1 0 ?_)
 refine jS (jR (jm rfl (je (Run.neqT rfl rfl) (ja rfl (jO (jN (jv1 2 ?_)))))))
 refine jT ?_
 refine qP rfl ?_
 exact ⟨by rw [decide_eq_decide.2 (show bJ q ↔ q ≠ [] from ⟨fun h => h.1, fun h => ⟨h, hd⟩⟩)], rfl⟩
end
section
open Go.RowKit
def PI (l : List Int) : List Value := l.map (Value.int .i64)
theorem lF {w : World} {A : Option Addr} {l : List Int} {k : Nat} (h : Rd w 1 A l.length (PI l)) (hk : k < l.length) : ∃ ad, A = some ad ∧ w.cell? (ad.add (k * 1)) = some (.int .i64 l[k]) := by
 obtain ⟨ad, rfl, hlt, hc⟩ := h.2 jo
 refine ⟨ad, rfl, ?_⟩
 rw [zct]
 exact hc k _ (by simp [PI, zb hk])
theorem dS {α : Type} {l : List α} {i : Nat} (h : i < l.length) : l.take (i + 1) = l.take i ++ [l[i]] := by rw [zba, zb h]; rfl
theorem nE (p : Prop) [Decidable p] : (! decide p) = decide (¬ p) := by by_cases h : p <;> simp [h]
theorem Own.own' {w w' : World} {e size n c e2 size2 n2 c2 : Nat} {A B : Option Addr} {xs ys : List Value} (h : Own w e size A n c xs) (k : Frm (ob B) w w') (ho : Own w e2 size2 B n2 c2 ys) (hne : e ≠ e2) : Own w' e size A n c xs := h.frm k (fun y hy => h.ne_own ho hne y hy)
end
section
open Go.RowKit Go.Sort
theorem kN {w : World} {A : Option Addr} {l : List Tx} {k : Nat} (h : Rd w 1 A l.length (SB l)) (hk : k < l.length) : ∃ ad, A = some ad ∧ w.cell? (ad.add (k * 1)) = some (encStr l[k]) := by
 rw [zct]
 exact vT h hk
def sF : Tx := [72, 69, 65, 68, 69, 82]
def sA : Tx := [84, 69, 88, 84]
def sI : Tx := [77, 73, 77, 69]
def mY : Tx := [72, 69, 65, 68, 69, 82, 46, 70, 73, 69, 76, 68, 83]
def mG : Tx := [72, 69, 65, 68, 69, 82, 46, 70, 73, 69, 76, 68, 83, 46, 78, 79, 84]
structure Wnt where
 path : List Int
 what : Tx
 names : List Tx
def bZ (n : Int) : Prop := n < 1 ∨ 64 < n
instance (n : Int) : Decidable (bZ n) := by unfold bZ; infer_instance
def qN (s : Tx) : Prop := s = mY ∨ s = mG
instance (s : Tx) : Decidable (qN s) := by unfold qN; infer_instance
def fL (v : Wnt) : Prop := v.what = [] ∨ v.what = sF ∨ v.what = sA ∨ v.what = mY ∨ v.what = mG ∨ (v.what = sI ∧ 0 < v.path.length)
instance (v : Wnt) : Decidable (fL v) := by unfold fL; infer_instance
def bS (v : Wnt) : Prop := ¬ (8 < v.path.length ∨ ∃ n ∈ v.path, bZ n) ∧ ¬ ((16 < v.names.length ∨ ¬ (qN v.what ↔ 0 < v.names.length)) ∨ ∃ s ∈ v.names, ¬ bJ s) ∧ fL v
instance (v : Wnt) : Decidable (bS v) := by unfold bS; infer_instance
def WtC (v : Wnt) (A : Option Addr) (c : Nat) (B : Option Addr) (d : Nat) : Array Value := #[.slice A v.path.length c, encStr v.what, .slice B v.names.length d]
theorem rZ (n : Int) (w : World) : Calls Tryz.prog 52 #[.int .i64 n] w fun e w' => e = .returned (.bool (decide (bZ n))) ∧ w = w' := by
 refine jV Tryz.func52 Tryz.ntmps52 Tryz.results52 ?_
 refine jS (jR (ja rfl (jO (jN (jv1 0 ?_)))))
 refine jS ?_
 refine VC.split1 [] .nil 2 (.bool (decide (bZ n))) ?_ ?_
 ·
  refine jR ?_
  refine jm rfl (jb rfl rfl (Bin.lss _ 1) ?_)
  by_cases hs4 : n < 1
  ·
   refine jM ?_
   refine jU ?_
   refine jU ?_
   refine jW rfl rfl au (ja rfl (jO ?_))
   refine jN ⟨(js1 (jC (by first | exact (decide_eq_true (show bZ n from .inl hs4)).symm | exact (decide_eq_true hs7).trans (decide_eq_true (show bZ n from .inr hs7)).symm | exact (decide_eq_false hs7).trans (decide_eq_false (show ¬ bZ n from fun h => h.elim hs4 hs7)).symm))), rfl⟩
  refine jM ?_
  refine jG ?_
  refine jk (Run.bin rfl rfl (Bin.gtr _ 64)) ?_
  by_cases hs7 : 64 < n
  ·
   refine jF rfl rfl au (ja rfl (jO ?_))
   refine jN ⟨(js1 (jC (by first | exact (decide_eq_true (show bZ n from .inl hs4)).symm | exact (decide_eq_true hs7).trans (decide_eq_true (show bZ n from .inr hs7)).symm | exact (decide_eq_false hs7).trans (decide_eq_false (show ¬ bZ n from fun h => h.elim hs4 hs7)).symm))), rfl⟩
  refine jF rfl rfl au (ja rfl (jO ?_))
  refine jN ⟨(js1 (jC (by first | exact (decide_eq_true (show bZ n from .inl hs4)).symm | exact (decide_eq_true hs7).trans (decide_eq_true (show bZ n from .inr hs7)).symm | exact (decide_eq_false hs7).trans (decide_eq_false (show ¬ bZ n from fun h => h.elim hs4 hs7)).symm))), rfl⟩
 intro Γ hΓ
 refine jN (VC.sub _ hΓ ?_)
 refine jT ?_
 refine qP rfl ?_
 exact ⟨rfl, rfl⟩
theorem idxI (A : Option Addr) (c : Nat) (l : List Int) (w : World) (hl : Rd w 1 A l.length (PI l)) (hn : l.length ≤ 2000000) :
  Calls Tryz.prog 84 #[.slice A l.length c, .func (.func 52) #[] #[]] w fun e w' => w = w' ∧ ∃ k : Int, e = .returned (.int .i64 k) ∧ (0 ≤ k ↔ ∃ n ∈ l, bZ n) := by
 refine jV Tryz.func84 Tryz.ntmps84 Tryz.results84 ?_
 refine jS (jR (jz 0 (jO (jN (jv2 0 1 ?_)))))
 refine jS (jS (jR (jm rfl (jL rfl zi ?_))))
 refine jx .i64 0 ?_
 refine jO (jN (jv4 0 1 7 8 ?_))
 refine jB ?_
 refine VC.loop (σ := Nat) (fun s => [(0, .slice A l.length c), (1, .func (.func 52) #[] #[]), (7, jI1 l.length), (8, jI1 s)]) (fun s wr => s ≤ l.length ∧ w = wr ∧ ∀ x ∈ l.take s, ¬ (bZ x)) (fun s => l.length - s) 0 (js4 rfl rfl rfl rfl) ⟨jo, rfl, jp⟩ ?_
 rintro i _ ⟨hi, rfl, hno⟩
 refine jS (jR (jb rfl rfl (Bin.lssN _ _) (jO (jN (jS ?_)))))
 refine jD rfl (fun hc1 => ?_) fun hc1 => ?_
 ·
  obtain ⟨ad, rfl, hcell⟩ := lF hl hc1
  have hts := dS hc1
  have hmem := zaq hc1
  generalize hx : l[i] = x at *
  refine jQ (jN (jv4 0 1 7 8 ?_))
  refine jS (jB (jS (jR (jm rfl (ja rfl (jO (jN (jv5 0 1 5 7 8 ?_))))))))
  refine jS (jR (jm rfl (jm rfl (jm rfl (je (Run.indexS i rfl rfl zi zc hc1) (jl rfl zl hcell ?_))))))
  refine Ops.cl (qD.dyn rfl (evs.cons rfl evs.nil) Tryz.call52) ((rZ x _)) rfl ?_
  rintro e _ ⟨rfl, rfl⟩
  refine ⟨_, rfl, ?_⟩
  refine jO (jN (jv6 0 1 5 7 8 16 ?_))
  refine VC.condB rfl (fun hc2 => ?_) (fun hc2 => ?_)
  ·
   refine jS (jR (jm rfl (ja rfl (jO (jN (jv1 4 ?_))))))
   refine jT ?_
   refine qR (qQ (qQ (qR (qQ (qP rfl ?_)))))
   exact ⟨rfl, _, rfl, ⟨fun _ => ⟨x, hmem, of_decide_eq_true hc2⟩, fun _ => jo⟩⟩
  refine jQ ?_
  refine qW (jN ?_)
  refine jv4 0 1 7 8 ?_
  refine jR (jb rfl rfl (Bin.add_i64 _ 1 jo) (jm rfl (jO ?_)))
  refine jN ⟨(i + 1), (js4 rfl rfl rfl rfl), ?_, ?_⟩
  ·
   refine ⟨hc1, rfl, fun y hy => ?_⟩
   rw [hts] at hy
   rcases List.mem_append.1 hy with h | h
   · exact hno y h
   simp only [ze] at h; subst h; exact of_decide_eq_false hc2
  exact jq
 have hil : i = l.length := jo
 rw [hil, zar] at hno
 refine jX ?_
 refine qK (qK (qS ?_))
 refine jN ?_
 refine VC.sub [] .nil ?_
 refine jS (jR ?_)
 refine Ops.r (v := .int .i64 (-1)) (Run.asg rfl) rfl ?_
 refine jO (jN (jT ?_))
 refine qP rfl ?_
 exact ⟨rfl, _, rfl, ⟨fun h => jo, fun ⟨y, hy, hb⟩ => absurd hb (hno y hy)⟩⟩
theorem sL (A : Option Addr) (c : Nat) (l : List Int) (w : World) (hl : Rd w 1 A l.length (PI l)) (hn : l.length ≤ 2000000) :
  Calls Tryz.prog 51 #[.slice A l.length c, .func (.func 52) #[] #[]] w fun e w' => e = .returned (.bool (decide (∃ n ∈ l, bZ n))) ∧ w = w' := by
 refine jV Tryz.func51 Tryz.ntmps51 Tryz.results51 ?_
 refine jS (jR (ja rfl (jO (jN (jv2 0 1 ?_)))))
 refine jS (jR (jm rfl (jM ?_)))
 refine jc (jE2 Tryz.call84) ((idxI A c l _ hl hn)) ?_
 rintro e _ ⟨rfl, k, rfl, hk⟩
 refine ⟨_, rfl, ?_⟩
 refine jb rfl rfl (Bin.geq _ 0) (ja rfl (jO (jN (jv1 4 ?_))))
 refine jT ?_
 refine qP rfl ?_
 exact ⟨by rw [decide_eq_decide.2 hk], rfl⟩
theorem rJ (q : Tx) (w : World) (hq : q.length ≤ 2000000) : Calls Tryz.prog 54 #[encStr q] w fun e w' => e = .returned (.bool (decide (¬ bJ q))) ∧ w = w' := by
 refine jV Tryz.func54 Tryz.ntmps54 Tryz.results54 ?_
 refine jS (jR (ja rfl (jO (jN (jv1 0 ?_)))))
 refine jS (jR (jM ?_))
 refine jc0 (jE1 Tryz.call55) ((oD q _ hq)) ?_
 refine je (Run.not rfl) (ja rfl (jO (jN (jv1 2 ?_))))
 refine jT ?_
 refine qP rfl ?_
 exact ⟨by by_cases h : bJ q <;> simp [h], rfl⟩
theorem idxS (A : Option Addr) (c : Nat) (l : List Tx) (w : World) (hl : Rd w 1 A l.length (SB l)) (hn : l.length ≤ 2000000) (hs : ∀ s ∈ l, s.length ≤ 2000000) :
  Calls Tryz.prog 85 #[.slice A l.length c, .func (.func 54) #[] #[]] w fun e w' => w = w' ∧ ∃ k : Int, e = .returned (.int .i64 k) ∧ (0 ≤ k ↔ ∃ n ∈ l, ¬ bJ n) := by
 refine jV Tryz.func85 Tryz.ntmps85 Tryz.results85 ?_
 refine jS (jR (jz 0 (jO (jN (jv2 0 1 ?_)))))
 refine jS (jS (jR (jm rfl (jL rfl zk ?_))))
 refine jx .i64 0 ?_
 refine jO (jN (jv4 0 1 7 8 ?_))
 refine jB ?_
 refine VC.loop (σ := Nat) (fun s => [(0, .slice A l.length c), (1, .func (.func 54) #[] #[]), (7, jI1 l.length), (8, jI1 s)]) (fun s wr => s ≤ l.length ∧ w = wr ∧ ∀ x ∈ l.take s, ¬ (¬ bJ x)) (fun s => l.length - s) 0 (js4 rfl rfl rfl rfl) ⟨jo, rfl, jp⟩ ?_
 rintro i _ ⟨hi, rfl, hno⟩
 refine jS (jR (jb rfl rfl (Bin.lssN _ _) (jO (jN (jS ?_)))))
 refine jD rfl (fun hc1 => ?_) fun hc1 => ?_
 ·
  obtain ⟨ad, rfl, hcell⟩ := kN hl hc1
  have hts := dS hc1
  have hmem := zaq hc1
  generalize hx : l[i] = x at *
  refine jQ (jN (jv4 0 1 7 8 ?_))
  refine jS (jB (jS (jR (jm rfl (ja rfl (jO (jN (jv5 0 1 5 7 8 ?_))))))))
  refine jS (jR (jm rfl (jm rfl (jm rfl (je (Run.indexS i rfl rfl zk zd hc1) (jl rfl zh hcell ?_))))))
  refine Ops.cl (qD.dyn rfl (evs.cons rfl evs.nil) Tryz.call54) ((rJ x _ (hs x hmem))) rfl ?_
  rintro e _ ⟨rfl, rfl⟩
  refine ⟨_, rfl, ?_⟩
  refine jO (jN (jv6 0 1 5 7 8 16 ?_))
  refine VC.condB rfl (fun hc2 => ?_) (fun hc2 => ?_)
  ·
   refine jS (jR (jm rfl (ja rfl (jO (jN (jv1 4 ?_))))))
   refine jT ?_
   refine qR (qQ (qQ (qR (qQ (qP rfl ?_)))))
   exact ⟨rfl, _, rfl, ⟨fun _ => ⟨x, hmem, of_decide_eq_true hc2⟩, fun _ => jo⟩⟩
  refine jQ ?_
  refine qW (jN ?_)
  refine jv4 0 1 7 8 ?_
  refine jR (jb rfl rfl (Bin.add_i64 _ 1 jo) (jm rfl (jO ?_)))
  refine jN ⟨(i + 1), (js4 rfl rfl rfl rfl), ?_, ?_⟩
  ·
   refine ⟨hc1, rfl, fun y hy => ?_⟩
   rw [hts] at hy
   rcases List.mem_append.1 hy with h | h
   · exact hno y h
   simp only [ze] at h; subst h; exact of_decide_eq_false hc2
  exact jq
 have hil : i = l.length := jo
 rw [hil, zar] at hno
 refine jX ?_
 refine qK (qK (qS ?_))
 refine jN ?_
 refine VC.sub [] .nil ?_
 refine jS (jR ?_)
 refine Ops.r (v := .int .i64 (-1)) (Run.asg rfl) rfl ?_
 refine jO (jN (jT ?_))
 refine qP rfl ?_
 exact ⟨rfl, _, rfl, ⟨fun h => jo, fun ⟨y, hy, hb⟩ => absurd hb (hno y hy)⟩⟩
theorem sO (A : Option Addr) (c : Nat) (l : List Tx) (w : World) (hl : Rd w 1 A l.length (SB l)) (hn : l.length ≤ 2000000) (hs : ∀ s ∈ l, s.length ≤ 2000000) :
  Calls Tryz.prog 53 #[.slice A l.length c, .func (.func 54) #[] #[]] w fun e w' => e = .returned (.bool (decide (∃ n ∈ l, ¬ bJ n))) ∧ w = w' := by
 refine jV Tryz.func53 Tryz.ntmps53 Tryz.results53 ?_
 refine jS (jR (ja rfl (jO (jN (jv2 0 1 ?_)))))
 refine jS (jR (jm rfl (jM ?_)))
 refine jc (jE2 Tryz.call85) ((idxS A c l _ hl hn hs)) ?_
 rintro e _ ⟨rfl, k, rfl, hk⟩
 refine ⟨_, rfl, ?_⟩
 refine jb rfl rfl (Bin.geq _ 0) (ja rfl (jO (jN (jv1 4 ?_))))
 refine jT ?_
 refine qP rfl ?_
 exact ⟨by rw [decide_eq_decide.2 hk], rfl⟩
end
section
open Go.RowKit Go.Sort
theorem tQ {v : Wnt} (h : 8 < v.path.length ∨ ∃ n ∈ v.path, bZ n) : ¬ bS v := fun k => k.1 h
theorem tX {v : Wnt} (h : (16 < v.names.length ∨ ¬ (qN v.what ↔ 0 < v.names.length)) ∨ ∃ s ∈ v.names, ¬ bJ s) : ¬ bS v := fun k => k.2.1 h
theorem lH {v : Wnt} (h3 : ¬ v.what = []) (h4 : ¬ v.what = sF) (h5 : ¬ v.what = sA) (h6 : ¬ v.what = mY) (h7 : ¬ v.what = mG) (h : fL v) : v.what = sI ∧ 0 < v.path.length := by
 rcases h with h | h | h | h | h | h
 · exact absurd h h3
 · exact absurd h h4
 · exact absurd h h5
 · exact absurd h h6
 · exact absurd h h7
 exact h
theorem uW (p q : Prop) [Decidable p] [Decidable q] : (decide p != decide q) = decide (¬ (p ↔ q)) := by
 by_cases hp : p <;> by_cases hq : q <;> simp [hp, hq]
theorem cL (v : Wnt) (A : Option Addr) (c : Nat) (B : Option Addr) (d : Nat) : ∀ u ∈ (WtC v A c B d).toList, u.oneCell' = true := by
 intro u hu
 simp only [WtC, zak, zax, or_false] at hu
 rcases hu with rfl | rfl | rfl <;> rfl
theorem kX (v : Wnt) (A B : Option Addr) (c d : Nat) (w : World) (hp : Rd w 1 A v.path.length (PI v.path)) (hpl : v.path.length ≤ 2000000) (hn : Rd w 1 B v.names.length (SB v.names)) (hnl : v.names.length ≤ 2000000) (hns : ∀ s ∈ v.names, s.length ≤ 2000000) :
  Calls Tryz.prog 26 #[.agg (WtC v A c B d)] w fun e w' => e = .returned (.bool (decide (bS v))) ∧ Frm [] w w' := by
 refine jV Tryz.func26 Tryz.ntmps26 Tryz.results26 ?_
 refine jS (jR ?_)
 refine Ops.m (qV.box rfl) rfl ?_
 rintro _ w1 ⟨rfl, hF1⟩
 have hb1 : Blk w1 w.heap.size 47 (WtC v A c B d) := hF1.blk
 have K := hF1.frm
 have hp := hp.frm K jp
 have hn := hn.frm K jp
 generalize w.heap.size = g1 at hb1 ⊢
 refine ja rfl (jO (jN (jv1 1 ?_)))
 refine jS ?_
 refine VC.split1 [(1, _)] (js1 rfl) 3 (.bool (decide (qN v.what))) ?_ ?_
 ·
  refine jR (jf rfl zf rfl zd (jl rfl zh (hb1.cell 1) (je (Run.eqlT rfl rfl) ?_)))
  by_cases hs6 : v.what = mY
  ·
   refine jM ?_
   refine jU ?_
   refine jU ?_
   refine jU ?_
   refine jW rfl rfl au (ja rfl (jO ?_))
   refine jN ⟨(js2 (jC (by first | exact (decide_eq_true (show qN v.what from .inl hs6)).symm | exact (decide_eq_true hs6).trans (decide_eq_true (show qN v.what from .inl hs6)).symm | exact (decide_eq_true hs10).trans (decide_eq_true (show qN v.what from .inr hs10)).symm | exact (decide_eq_false hs10).trans (decide_eq_false (show ¬ (qN v.what) from fun h => h.elim hs6 hs10)).symm)) rfl), rfl⟩
  refine jM ?_
  refine jk (Run.fieldAddr rfl zf rfl zd jd) ?_
  refine jk (Run.load rfl zh (hb1.cell 1)) ?_
  refine jk (Run.eqlT rfl rfl) ?_
  by_cases hs10 : v.what = mG
  ·
   refine jF rfl rfl au (ja rfl (jO ?_))
   refine jN ⟨(js2 (jC (by first | exact (decide_eq_true (show qN v.what from .inl hs6)).symm | exact (decide_eq_true hs6).trans (decide_eq_true (show qN v.what from .inl hs6)).symm | exact (decide_eq_true hs10).trans (decide_eq_true (show qN v.what from .inr hs10)).symm | exact (decide_eq_false hs10).trans (decide_eq_false (show ¬ (qN v.what) from fun h => h.elim hs6 hs10)).symm)) rfl), rfl⟩
  refine jF rfl rfl au (ja rfl (jO ?_))
  refine jN ⟨(js2 (jC (by first | exact (decide_eq_true (show qN v.what from .inl hs6)).symm | exact (decide_eq_true hs6).trans (decide_eq_true (show qN v.what from .inl hs6)).symm | exact (decide_eq_true hs10).trans (decide_eq_true (show qN v.what from .inr hs10)).symm | exact (decide_eq_false hs10).trans (decide_eq_false (show ¬ (qN v.what) from fun h => h.elim hs6 hs10)).symm)) rfl), rfl⟩
 intro Γ hΓ
 refine jN (VC.sub _ hΓ (jS (jS ?_)))
 refine VC.split1 [(1, _), (3, _)] (js2 rfl rfl) 20 (.bool (decide (8 < v.path.length ∨ ∃ n ∈ v.path, bZ n))) ?_ ?_
 ·
  refine jR (jf rfl zf rfl zac (jl rfl zas (hb1.cell 0) (jL rfl zi (jb rfl rfl (Bin.gtrN _ 8) ?_))))
  by_cases hs15 : 8 < v.path.length
  ·
   refine jM ?_
   refine jU ?_
   refine jU ?_
   refine jU ?_
   refine jW rfl rfl au (jO ?_)
   refine jN ⟨(js3 (jC (by first | exact (decide_eq_true (show 8 < v.path.length ∨ ∃ n ∈ v.path, bZ n from .inl hs15)).symm | exact (decide_eq_true hs15).trans (decide_eq_true (show 8 < v.path.length ∨ ∃ n ∈ v.path, bZ n from .inl hs15)).symm | exact (decide_eq_true hs19).trans (decide_eq_true (show 8 < v.path.length ∨ ∃ n ∈ v.path, bZ n from .inr hs19)).symm | exact (decide_eq_false hs19).trans (decide_eq_false (show ¬ (8 < v.path.length ∨ ∃ n ∈ v.path, bZ n) from fun h => h.elim hs15 hs19)).symm)) rfl rfl), rfl⟩
  refine jM ?_
  refine jk (Run.fieldAddr rfl zf rfl zac jd) ?_
  refine jk (Run.load rfl zas (hb1.cell 0)) ?_
  refine Ops.clg rfl au (jE2 Tryz.call51) ((sL A c v.path _ hp hpl)) rfl ?_
  rintro e _ ⟨rfl, rfl⟩
  refine ⟨_, rfl, ?_⟩
  by_cases hs19 : ∃ n ∈ v.path, bZ n
  ·
   refine jF rfl rfl au (jO ?_)
   refine jN ⟨(js3 (jC (by first | exact (decide_eq_true (show 8 < v.path.length ∨ ∃ n ∈ v.path, bZ n from .inl hs15)).symm | exact (decide_eq_true hs15).trans (decide_eq_true (show 8 < v.path.length ∨ ∃ n ∈ v.path, bZ n from .inl hs15)).symm | exact (decide_eq_true hs19).trans (decide_eq_true (show 8 < v.path.length ∨ ∃ n ∈ v.path, bZ n from .inr hs19)).symm | exact (decide_eq_false hs19).trans (decide_eq_false (show ¬ (8 < v.path.length ∨ ∃ n ∈ v.path, bZ n) from fun h => h.elim hs15 hs19)).symm)) rfl rfl), rfl⟩
  refine jF rfl rfl au (jO ?_)
  refine jN ⟨(js3 (jC (by first | exact (decide_eq_true (show 8 < v.path.length ∨ ∃ n ∈ v.path, bZ n from .inl hs15)).symm | exact (decide_eq_true hs15).trans (decide_eq_true (show 8 < v.path.length ∨ ∃ n ∈ v.path, bZ n from .inl hs15)).symm | exact (decide_eq_true hs19).trans (decide_eq_true (show 8 < v.path.length ∨ ∃ n ∈ v.path, bZ n from .inr hs19)).symm | exact (decide_eq_false hs19).trans (decide_eq_false (show ¬ (8 < v.path.length ∨ ∃ n ∈ v.path, bZ n) from fun h => h.elim hs15 hs19)).symm)) rfl rfl), rfl⟩
 intro Γ hΓ
 refine jN (VC.sub _ hΓ ?_)
 refine jD rfl (fun hc1 => ?_) fun hc1 => ?_
 ·
  refine jS (jR (ja rfl (jO (jN (jv1 2 ?_)))))
  refine jT ?_
  refine qQ (qP rfl ?_)
  exact ⟨by rw [decide_eq_false (tQ hc1)], K⟩
 refine jQ (jN (jv2 1 3 ?_))
 refine jS (jS ?_)
 refine VC.split1 [(1, _)] (js1 rfl) 37 (.bool (decide ((16 < v.names.length ∨ ¬ (qN v.what ↔ 0 < v.names.length)) ∨ ∃ s ∈ v.names, ¬ bJ s))) ?_ ?_
 ·
  refine jR (jf rfl zf rfl zv (jl rfl zan (hb1.cell 2) (jL rfl zk (jb rfl rfl (Bin.gtrN _ 16) ?_))))
  by_cases hs24 : 16 < v.names.length
  ·
   refine jM ?_
   refine jU ?_
   refine jU ?_
   refine jU ?_
   refine jU ?_
   refine jU ?_
   refine jU ?_
   refine jW rfl rfl au (jM ?_)
   refine jU ?_
   refine jU ?_
   refine jU ?_
   refine jW rfl rfl au (jO ?_)
   refine jN ⟨(js2 (jC (by first | exact (decide_eq_true (show (16 < v.names.length ∨ ¬ (qN v.what ↔ 0 < v.names.length)) ∨ ∃ s ∈ v.names, ¬ bJ s from .inl (.inl hs24))).symm | exact (decide_eq_true hs24).trans (decide_eq_true (show (16 < v.names.length ∨ ¬ (qN v.what ↔ 0 < v.names.length)) ∨ ∃ s ∈ v.names, ¬ bJ s from .inl (.inl hs24))).symm | exact (decide_eq_true (show (16 < v.names.length ∨ ¬ (qN v.what ↔ 0 < v.names.length)) ∨ ∃ s ∈ v.names, ¬ bJ s from .inl (.inr hs31))).symm | exact (decide_eq_true hs31).trans (decide_eq_true (show (16 < v.names.length ∨ ¬ (qN v.what ↔ 0 < v.names.length)) ∨ ∃ s ∈ v.names, ¬ bJ s from .inl (.inr hs31))).symm | exact (decide_eq_true hs36).trans (decide_eq_true (show (16 < v.names.length ∨ ¬ (qN v.what ↔ 0 < v.names.length)) ∨ ∃ s ∈ v.names, ¬ bJ s from .inr hs36)).symm | exact (decide_eq_false hs36).trans (decide_eq_false (show ¬ ((16 < v.names.length ∨ ¬ (qN v.what ↔ 0 < v.names.length)) ∨ ∃ s ∈ v.names, ¬ bJ s) from fun h => h.elim (fun h => h.elim hs24 hs31) hs36)).symm)) rfl), rfl⟩
  refine jM ?_
  refine jG ?_
  refine jk (Run.fieldAddr rfl zf rfl zv jd) ?_
  refine jk (Run.load rfl zan (hb1.cell 2)) ?_
  refine jk (Run.lenS rfl zk) ?_
  refine jk (Run.bin rfl rfl (Bin.gtrN _ 0)) ?_
  refine jk (Run.neqB rfl rfl zaa) ?_
  rw [uW]
  by_cases hs31 : ¬ (qN v.what ↔ 0 < v.names.length)
  ·
   refine jF rfl rfl au (jM ?_)
   refine jU ?_
   refine jU ?_
   refine jU ?_
   refine jW rfl rfl au (jO ?_)
   refine jN ⟨(js2 (jC (by first | exact (decide_eq_true (show (16 < v.names.length ∨ ¬ (qN v.what ↔ 0 < v.names.length)) ∨ ∃ s ∈ v.names, ¬ bJ s from .inl (.inl hs24))).symm | exact (decide_eq_true hs24).trans (decide_eq_true (show (16 < v.names.length ∨ ¬ (qN v.what ↔ 0 < v.names.length)) ∨ ∃ s ∈ v.names, ¬ bJ s from .inl (.inl hs24))).symm | exact (decide_eq_true (show (16 < v.names.length ∨ ¬ (qN v.what ↔ 0 < v.names.length)) ∨ ∃ s ∈ v.names, ¬ bJ s from .inl (.inr hs31))).symm | exact (decide_eq_true hs31).trans (decide_eq_true (show (16 < v.names.length ∨ ¬ (qN v.what ↔ 0 < v.names.length)) ∨ ∃ s ∈ v.names, ¬ bJ s from .inl (.inr hs31))).symm | exact (decide_eq_true hs36).trans (decide_eq_true (show (16 < v.names.length ∨ ¬ (qN v.what ↔ 0 < v.names.length)) ∨ ∃ s ∈ v.names, ¬ bJ s from .inr hs36)).symm | exact (decide_eq_false hs36).trans (decide_eq_false (show ¬ ((16 < v.names.length ∨ ¬ (qN v.what ↔ 0 < v.names.length)) ∨ ∃ s ∈ v.names, ¬ bJ s) from fun h => h.elim (fun h => h.elim hs24 hs31) hs36)).symm)) rfl), rfl⟩
  refine jF rfl rfl au (jM ?_)
  refine jk (Run.fieldAddr rfl zf rfl zv jd) ?_
  refine jk (Run.load rfl zan (hb1.cell 2)) ?_
  refine Ops.clg rfl au (jE2 Tryz.call53) ((sO B d v.names _ hn hnl hns)) rfl ?_
  rintro e _ ⟨rfl, rfl⟩
  refine ⟨_, rfl, ?_⟩
  by_cases hs36 : ∃ s ∈ v.names, ¬ bJ s
  ·
   refine jF rfl rfl au (jO ?_)
   refine jN ⟨(js2 (jC (by first | exact (decide_eq_true (show (16 < v.names.length ∨ ¬ (qN v.what ↔ 0 < v.names.length)) ∨ ∃ s ∈ v.names, ¬ bJ s from .inl (.inl hs24))).symm | exact (decide_eq_true hs24).trans (decide_eq_true (show (16 < v.names.length ∨ ¬ (qN v.what ↔ 0 < v.names.length)) ∨ ∃ s ∈ v.names, ¬ bJ s from .inl (.inl hs24))).symm | exact (decide_eq_true (show (16 < v.names.length ∨ ¬ (qN v.what ↔ 0 < v.names.length)) ∨ ∃ s ∈ v.names, ¬ bJ s from .inl (.inr hs31))).symm | exact (decide_eq_true hs31).trans (decide_eq_true (show (16 < v.names.length ∨ ¬ (qN v.what ↔ 0 < v.names.length)) ∨ ∃ s ∈ v.names, ¬ bJ s from .inl (.inr hs31))).symm | exact (decide_eq_true hs36).trans (decide_eq_true (show (16 < v.names.length ∨ ¬ (qN v.what ↔ 0 < v.names.length)) ∨ ∃ s ∈ v.names, ¬ bJ s from .inr hs36)).symm | exact (decide_eq_false hs36).trans (decide_eq_false (show ¬ ((16 < v.names.length ∨ ¬ (qN v.what ↔ 0 < v.names.length)) ∨ ∃ s ∈ v.names, ¬ bJ s) from fun h => h.elim (fun h => h.elim hs24 hs31) hs36)).symm)) rfl), rfl⟩
  refine jF rfl rfl au (jO ?_)
  refine jN ⟨(js2 (jC (by first | exact (decide_eq_true (show (16 < v.names.length ∨ ¬ (qN v.what ↔ 0 < v.names.length)) ∨ ∃ s ∈ v.names, ¬ bJ s from .inl (.inl hs24))).symm | exact (decide_eq_true hs24).trans (decide_eq_true (show (16 < v.names.length ∨ ¬ (qN v.what ↔ 0 < v.names.length)) ∨ ∃ s ∈ v.names, ¬ bJ s from .inl (.inl hs24))).symm | exact (decide_eq_true (show (16 < v.names.length ∨ ¬ (qN v.what ↔ 0 < v.names.length)) ∨ ∃ s ∈ v.names, ¬ bJ s from .inl (.inr hs31))).symm | exact (decide_eq_true hs31).trans (decide_eq_true (show (16 < v.names.length ∨ ¬ (qN v.what ↔ 0 < v.names.length)) ∨ ∃ s ∈ v.names, ¬ bJ s from .inl (.inr hs31))).symm | exact (decide_eq_true hs36).trans (decide_eq_true (show (16 < v.names.length ∨ ¬ (qN v.what ↔ 0 < v.names.length)) ∨ ∃ s ∈ v.names, ¬ bJ s from .inr hs36)).symm | exact (decide_eq_false hs36).trans (decide_eq_false (show ¬ ((16 < v.names.length ∨ ¬ (qN v.what ↔ 0 < v.names.length)) ∨ ∃ s ∈ v.names, ¬ bJ s) from fun h => h.elim (fun h => h.elim hs24 hs31) hs36)).symm)) rfl), rfl⟩
 intro Γ hΓ
 refine jN (VC.sub _ hΓ ?_)
 refine jD rfl (fun hc2 => ?_) fun hc2 => ?_
 ·
  refine jS (jR (ja rfl (jO (jN (jv1 2 ?_)))))
  refine jT ?_
  refine qQ (qP rfl ?_)
  exact ⟨by rw [decide_eq_false (tX hc2)], K⟩
 refine jQ (jN (jv1 1 ?_))
 refine jS (jS (jR (jf rfl zf rfl zd (jl rfl zh (hb1.cell 1) (jO (jN (jv2 1 39 ?_)))))))
 refine jB (jS (jS (jR (je (Run.eqlT rfl rfl) (ja rfl (jO (jN (jv3 1 39 40 ?_))))))))
 refine jD rfl (fun hc3 => ?_) fun hc3 => ?_
 ·
  refine jQ (jN ?_)
  refine VC.condT rfl (decide_eq_true hc3) ?_
  refine jS (jR (ja rfl (jO (jN (jv1 2 ?_)))))
  refine jT ?_
  refine qR (qQ (qP rfl ?_))
  exact ⟨by rw [decide_eq_true (show bS v from ⟨hc1, hc2, .inl hc3⟩)], K⟩
 refine jS (jR (je (Run.eqlT rfl rfl) (ja rfl (jO (jN (jv3 1 39 40 ?_))))))
 refine jD rfl (fun hc4 => ?_) fun hc4 => ?_
 ·
  refine jQ (jN ?_)
  refine VC.condT rfl (decide_eq_true hc4) ?_
  refine jS (jR (ja rfl (jO (jN (jv1 2 ?_)))))
  refine jT ?_
  refine qR (qQ (qP rfl ?_))
  exact ⟨by rw [decide_eq_true (show bS v from ⟨hc1, hc2, .inr (.inl hc4)⟩)], K⟩
 refine jS (jR (je (Run.eqlT rfl rfl) (ja rfl (jO (jN (jv3 1 39 40 ?_))))))
 refine jD rfl (fun hc5 => ?_) fun hc5 => ?_
 ·
  refine jQ (jN ?_)
  refine VC.condT rfl (decide_eq_true hc5) ?_
  refine jS (jR (ja rfl (jO (jN (jv1 2 ?_)))))
  refine jT ?_
  refine qR (qQ (qP rfl ?_))
  exact ⟨by rw [decide_eq_true (show bS v from ⟨hc1, hc2, .inr (.inr (.inl hc5))⟩)], K⟩
 refine jS (jR (je (Run.eqlT rfl rfl) (ja rfl (jO (jN (jv3 1 39 40 ?_))))))
 refine jD rfl (fun hc6 => ?_) fun hc6 => ?_
 ·
  refine jQ (jN ?_)
  refine VC.condT rfl (decide_eq_true hc6) ?_
  refine jS (jR (ja rfl (jO (jN (jv1 2 ?_)))))
  refine jT ?_
  refine qR (qQ (qP rfl ?_))
  exact ⟨by rw [decide_eq_true (show bS v from ⟨hc1, hc2, .inr (.inr (.inr (.inl hc6)))⟩)], K⟩
 refine jR (je (Run.eqlT rfl rfl) (ja rfl (jO (jN (jv3 1 39 40 ?_)))))
 refine jD rfl (fun hc7 => ?_) fun hc7 => ?_
 ·
  refine jS (jR (ja rfl (jO (jN (jv1 2 ?_)))))
  refine jT ?_
  refine qR (qQ (qP rfl ?_))
  exact ⟨by rw [decide_eq_true (show bS v from ⟨hc1, hc2, .inr (.inr (.inr (.inr (.inl hc7))))⟩)], K⟩
 refine jS (jR (je (Run.eqlT rfl rfl) (ja rfl (jO (jN (jv2 1 46 ?_))))))
 refine jD rfl (fun hc8 => ?_) fun hc8 => ?_
 ·
  refine jS (jR (jf rfl zf rfl zac (jl rfl zas (hb1.cell 0) (jL rfl zi (jb rfl rfl (Bin.gtrN _ 0) (ja rfl (jO (jN (jv1 2 ?_)))))))))
  refine jT ?_
  refine qR (qQ (qP rfl ?_))
  exact ⟨by rw [decide_eq_decide.2 (show 0 < v.path.length ↔ bS v from ⟨fun h => ⟨hc1, hc2, .inr (.inr (.inr (.inr (.inr ⟨hc8, h⟩))))⟩, fun h => (lH hc3 hc4 hc5 hc6 hc7 h.2.2).2⟩)], K⟩
 refine jQ ?_
 refine qW (jN ?_)
 refine VC.sub [] .nil ?_
 refine jS (jR (ja rfl (jO (jN (jT ?_)))))
 refine qP rfl ?_
 exact ⟨by rw [decide_eq_false (show ¬ bS v from fun h => hc8 (lH hc3 hc4 hc5 hc6 hc7 h.2.2).1)], K⟩
end
section
open Go.RowKit Go.Sort
def cN (w : World) : Prop := (∃ m, w.cell? ⟨1, 0, none⟩ = some (.int .i64 m)) ∧ ∃ ev, w.cell? ⟨4, 0, none⟩ = some ev ∧ (ev = .nilIface ∨ ∃ te pe, ev = .iface te pe)
theorem lM {w w' : World} {a : Addr} {v : Value} (h : w.cell? a = some v) (k : Frm [] w w') : w'.cell? a = some v := by
 have hlt : a.block < w.heap.size := by
  apply Classical.byContradiction
  intro hn
  have : w.heap[a.block]? = none := by simp; omega
  simp [World.cell?, this] at h
 have e := k.block a.block hlt jp
 simp only [World.cell?] at h ⊢
 rw [e]
 exact h
theorem cN.frm0 {w w' : World} (h : cN w) (k : Frm [] w w') : cN w' := by
 obtain ⟨⟨m, h1⟩, ev, h2, h3⟩ := h
 exact ⟨⟨m, lM h1 k⟩, ev, lM h2 k, h3⟩
theorem lN (s : Tx) (w : World) (hs : s.length ≤ 18) (hv : cN w) : Calls Tryz.prog 136 #[encStr s] w fun e w' => Frm [] w w' ∧ ∃ (n : Int) (ev : Value) (b : Bool), e = .returned (.tuple #[.int .i64 n, ev]) ∧ ((b = false ∧ Lib.atoi s = some n ∧ ev = .nilIface) ∨ (b = true ∧ Lib.atoi s = none ∧ n = 0 ∧ ∃ t v, ev = .iface t v)) := by
 have hsz : (⟨s.toArray⟩ : ByteArray).size ≤ 18 := by show s.toArray.size ≤ 18; simpa using hs
 have hl : (⟨s.toArray⟩ : ByteArray).data.toList = s := by simp
 cases h : Lib.atoi s with
 | some n => exact (Tryz.strconv_Atoi ⟨s.toArray⟩ n hsz (by rw [hl]; exact h) w).mono fun e w' ⟨he, t, hw⟩ => ⟨Frm.of_below (hw ▸ Lib.bytesWorld_below _ _ _), n, _, false, he, .inl ⟨rfl, rfl, rfl⟩⟩
 | none =>
  obtain ⟨_, ev, h2, h3⟩ := hv
  exact (Tryz.strconv_Atoi_err ⟨s.toArray⟩ hsz (by rw [hl]; exact h) ev w h2 h3).mono fun e w' ⟨N, he, _, _, hb⟩ => ⟨Frm.of_below hb, 0, _, true, he, .inr ⟨rfl, rfl, rfl, _, _, rfl⟩⟩
section
variable {P : Program} {Γ : Env} {w : World} {dst : Option Tmp} {T : TypeId} {pos : String} {after : Array Edge} {g : Option (Nat × Bool)}
theorem Run.neqNilE {t yT : TypeId} {x : Operand} {ev : Value} {b : Bool} {d : TypeDesc} (hx : ev? Γ x = some ev) (hev : (b = false ∧ ev = .nilIface) ∨ (b = true ∧ ∃ u v, ev = .iface u v)) (ht : P.underlying t = some d) (hd : fE d = false) :
  Run P ⟨dst, .binOp .neq t x (.const .nilIface) yT, T, pos, after, g⟩ Γ w (.bool b) := by
 rcases hev with ⟨rfl, rfl⟩ | ⟨rfl, u, v, rfl⟩
 · exact Run.neqNil2 hx ht hd
 exact Run.neqNilI hx rfl ht hd
end
def mH (s : Tx) : UInt8 := s.headD 0
def bA (s : Tx) : Prop := ((s = [] ∨ 2 < s.length) ∨ (mH s).toNat < 49) ∨ 57 < (mH s).toNat
instance (s : Tx) : Decidable (bA s) := by unfold bA; infer_instance
def bI (s : Tx) : Int := if bA s then 0 else match Lib.atoi s with
 | some n => if 64 < n then 0 else n
 | none => 0
theorem nW (s : Tx) (w : World) (hs : s.length ≤ 1000000) (hv : cN w) : Calls Tryz.prog 148 #[encStr s] w fun e w' => e = .returned (.int .i64 (bI s)) ∧ Frm [] w w' := by
 have hgx : ¬ s = [] → s[0]? = some (mH s) := fun h => by cases s with
  | nil => exact absurd rfl h
  | cons x r => rfl
 refine jV Tryz.func148 Tryz.ntmps148 Tryz.results148 ?_
 refine jS (jR (jz 0 (jO (jN (jv1 0 ?_)))))
 refine jS (jS ?_)
 refine VC.split1 [(0, _)] (js1 rfl) 21 (.bool (decide (bA s))) ?_ ?_
 ·
  refine jR ?_
  refine jm rfl (je (Run.eqlT rfl rfl) ?_)
  by_cases hs6 : s = []
  ·
   refine jM ?_
   refine jU ?_
   refine jU ?_
   refine jU ?_
   refine jW rfl rfl au (jM ?_)
   refine jU ?_
   refine jU ?_
   refine jU ?_
   refine jW rfl rfl au (jM ?_)
   refine jU ?_
   refine jU ?_
   refine jU ?_
   refine jW rfl rfl au (jO ?_)
   refine jN ⟨(js2 (jC (by first | (simp [bA, hs6, hs10, hs15, hs20]; done) | (simp [bA, hs6, hs10, hs15]; done) | (simp [bA, hs6, hs10]; done) | (simp [bA, hs6]; done))) rfl), rfl⟩
  refine jM ?_
  refine jG ?_
  refine jk (Run.lenT rfl za) ?_
  refine jk (Run.bin rfl rfl (Bin.gtrN _ 2)) ?_
  by_cases hs10 : 2 < s.length
  ·
   refine jF rfl rfl au (jM ?_)
   refine jU ?_
   refine jU ?_
   refine jU ?_
   refine jW rfl rfl au (jM ?_)
   refine jU ?_
   refine jU ?_
   refine jU ?_
   refine jW rfl rfl au (jO ?_)
   refine jN ⟨(js2 (jC (by first | (simp [bA, hs6, hs10, hs15, hs20]; done) | (simp [bA, hs6, hs10, hs15]; done) | (simp [bA, hs6, hs10]; done) | (simp [bA, hs6]; done))) rfl), rfl⟩
  refine jF rfl rfl au (jM ?_)
  refine jG ?_
  refine jk (Run.indexT 0 rfl rfl za (hgx hs6)) ?_
  refine jk (Run.bin rfl rfl (Bin.lssN _ 49)) ?_
  by_cases hs15 : (mH s).toNat < 49
  ·
   refine jF rfl rfl au (jM ?_)
   refine jU ?_
   refine jU ?_
   refine jU ?_
   refine jW rfl rfl au (jO ?_)
   refine jN ⟨(js2 (jC (by first | (simp [bA, hs6, hs10, hs15, hs20]; done) | (simp [bA, hs6, hs10, hs15]; done) | (simp [bA, hs6, hs10]; done) | (simp [bA, hs6]; done))) rfl), rfl⟩
  refine jF rfl rfl au (jM ?_)
  refine jG ?_
  refine jk (Run.indexT 0 rfl rfl za (hgx hs6)) ?_
  refine jk (Run.bin rfl rfl (Bin.gtrN _ 57)) ?_
  by_cases hs20 : 57 < (mH s).toNat
  ·
   refine jF rfl rfl au (jO ?_)
   refine jN ⟨(js2 (jC (by first | (simp [bA, hs6, hs10, hs15, hs20]; done) | (simp [bA, hs6, hs10, hs15]; done) | (simp [bA, hs6, hs10]; done) | (simp [bA, hs6]; done))) rfl), rfl⟩
  refine jF rfl rfl au (jO ?_)
  refine jN ⟨(js2 (jC (by first | (simp [bA, hs6, hs10, hs15, hs20]; done) | (simp [bA, hs6, hs10, hs15]; done) | (simp [bA, hs6, hs10]; done) | (simp [bA, hs6]; done))) rfl), rfl⟩
 intro Γ hΓ
 refine jN (VC.sub _ hΓ ?_)
 refine jD rfl (fun hc1 => ?_) fun hc1 => ?_
 ·
  have hnq : bI s = 0 := by unfold bI; rw [if_pos hc1]
  refine jS (jR (jz 0 (jO (jN (jv1 2 ?_)))))
  refine jT ?_
  refine qQ (qP rfl ?_)
  exact ⟨by rw [hnq]; rfl, Frm.refl _ _⟩
 have hs2 : s.length ≤ 2 := by
  apply Classical.byContradiction
  intro h
  exact hc1 (.inl (.inl (.inr jo)))
 refine jQ (jN (jv1 0 ?_))
 refine jS (jR (jM ?_))
 refine jc (jE1 Tryz.call136) ((lN s _ jo hv)) ?_
 rintro e w1 ⟨K, n, ev, b, rfl, hab⟩
 refine ⟨_, rfl, ?_⟩
 have hev : (b = false ∧ ev = .nilIface) ∨ (b = true ∧ ∃ u v, ev = .iface u v) := by
  rcases hab with ⟨h1, _, h2⟩ | ⟨h1, _, _, h2⟩
  · exact .inl ⟨h1, h2⟩
  exact .inr ⟨h1, h2⟩
 have hnq : bI s = if b = true ∨ 64 < n then 0 else n := by
  unfold bI
  rw [if_neg hc1]
  rcases hab with ⟨h1, h2, _⟩ | ⟨h1, h2, h3, _⟩
  · rw [h2, h1]; simp
  rw [h2, h1]; simp
 refine jm rfl (jY rfl rfl (jY rfl rfl (ja rfl (ja rfl (jO (jN (jv2 3 4 ?_)))))))
 refine jS (jS ?_)
 refine VC.split1 [(3, _)] (js1 rfl) 32 (.bool (decide (b = true ∨ 64 < n))) ?_ ?_
 ·
  refine jR ?_
  refine jm rfl (je (Run.neqNilE rfl hev zdc rfl) ?_)
  rw [show b = decide (b = true) by simp]
  by_cases hs28 : b = true
  ·
   refine jM ?_
   refine jU ?_
   refine jU ?_
   refine jW rfl rfl au (jO ?_)
   refine jN ⟨(js2 (jC (by first | (simp [hs28, hs31]; done) | (simp [hs28]; done))) rfl), rfl⟩
  refine jM ?_
  refine jG ?_
  refine jk (Run.bin rfl rfl (Bin.gtr _ 64)) ?_
  by_cases hs31 : 64 < n
  ·
   refine jF rfl rfl au (jO ?_)
   refine jN ⟨(js2 (jC (by first | (simp [hs28, hs31]; done) | (simp [hs28]; done))) rfl), rfl⟩
  refine jF rfl rfl au (jO ?_)
  refine jN ⟨(js2 (jC (by first | (simp [hs28, hs31]; done) | (simp [hs28]; done))) rfl), rfl⟩
 intro Γ hΓ
 refine jN (VC.sub _ hΓ ?_)
 refine jD rfl (fun hc2 => ?_) fun hc2 => ?_
 ·
  rw [if_pos hc2] at hnq
  refine jS (jR (jz 0 (jO (jN (jv1 2 ?_)))))
  refine jT ?_
  refine qQ (qP rfl ?_)
  exact ⟨by rw [hnq]; rfl, K⟩
 rw [if_neg hc2] at hnq
 refine jQ (jN (jv1 3 ?_))
 refine jS (jR (jm rfl (ja rfl (jO (jN (jv1 2 ?_))))))
 refine jT ?_
 refine qP rfl ?_
 exact ⟨by rw [hnq]; rfl, K⟩
end
section
open Go.RowKit Go.Sort
theorem nY (s : Tx) (c : UInt8) (w : World) : Calls Tryz.prog 199 #[encStr s, encStr [c]] w fun e w' => e = .returned (.int .i64 (Lib.indexByte s c)) ∧ w = w' :=
 (Tryz.stringslite_Index_one ⟨s.toArray⟩ c w).mono fun e w' ⟨h, hw⟩ => ⟨h, hw.symm⟩
theorem mM (s : Tx) (c : UInt8) (w : World) : Calls Tryz.prog 188 #[encStr s, encStr [c]] w fun e w' => e = .returned (.int .i64 (Lib.indexByte s c)) ∧ w = w' :=
 (Tryz.strings_Index_one ⟨s.toArray⟩ c w).mono fun e w' ⟨h, hw⟩ => ⟨h, hw.symm⟩
theorem rK (s : Tx) (c : UInt8) (w : World) (hs : s.length ≤ 1000000) : Calls Tryz.prog 177 #[encStr s, encStr [c]] w fun e w' => e = .returned (.tuple #[encStr (bQ c s), encStr (qB c s), .bool (decide (c ∈ s))]) ∧ Frm [] w w' := by
 refine jV Tryz.func177 Tryz.ntmps177 Tryz.results177 ?_
 refine jS (jR (ja rfl (ja rfl (ja rfl (jO (jN (jv2 0 1 ?_)))))))
 refine jS (jS (jR (jm rfl (jM ?_))))
 refine jc0 (jE2 Tryz.call199) (nY s c _) ?_
 refine ja rfl (jO (jN (jv3 0 1 7 ?_)))
 refine jS (jR (jm rfl (jb rfl rfl (Bin.geq _ 0) (jO (jN (jv4 0 1 7 12 ?_))))))
 refine jD rfl (fun hc1 => ?_) fun hc1 => ?_
 ·
  obtain ⟨a, b, rfl, hc, hi⟩ := (cZ s c).resolve_left (fun h => by rw [h.1] at hc1; omega)
  rw [hi]
  obtain ⟨hb1, hb2⟩ := eL (b := b) hc
  simp only [zao, zco] at hs
  have e1 : (a ++ c :: b).take a.length = a := jp
  have e2 : (a ++ c :: b).drop (a.length + 1) = b := by rw [List.drop_append, zbo jo]; simp
  refine jS ?_
  refine VC.still jK jK ?_
  refine qM ?_
  refine qM ?_
  refine qE (Run.sliceT 0 a.length rfl za evB.none_ (evB.some_ rfl) jo jp) ?_
  refine qM ?_
  refine qM ?_
  refine qM ?_
  refine qE (Run.lenT rfl za) ?_
  refine qE (Run.bin rfl rfl (Bin.add_i64 a.length 1 jo)) ?_
  refine qE (Run.sliceT (a.length + 1) _ rfl za (evB.some_ rfl) evB.none_ (by first | (simp; done) | (simp; omega)) jp) ?_
  refine qA ?_
  refine qA ?_
  refine qA ?_
  refine qC.nil ?_
  refine jN (jv3 4 5 6 ?_)
  refine jT ?_
  refine qQ (sR rfl rfl rfl ?_)
  refine ⟨?_, (qF.drew _).frm⟩
  rw [hb1, hb2, decide_eq_true jp]
  simp only [List.drop_zero, Nat.sub_zero, e1, e2]
  rw [zr (l := b) (by simp; omega)]
 have hc : c ∉ s := by
  rcases cZ s c with ⟨_, h⟩ | ⟨a, b, _, _, hi⟩
  · exact h
  rw [hi] at hc1; omega
 obtain ⟨hb1, hb2⟩ := gU hc
 refine jQ (jN (jv1 0 ?_))
 refine jS (jR (jm rfl (ja rfl (ja rfl (ja rfl (jO (jN (jv3 4 5 6 ?_))))))))
 refine jT ?_
 refine sR rfl rfl rfl ?_
 refine ⟨?_, Frm.refl _ _⟩
 rw [hb1, hb2, decide_eq_false hc]
theorem fO (s : Tx) (c : UInt8) (w : World) (hs : s.length ≤ 1000000) : Calls Tryz.prog 138 #[encStr s, encStr [c]] w fun e w' => e = .returned (.tuple #[encStr (bQ c s), encStr (qB c s), .bool (decide (c ∈ s))]) ∧ Frm [] w w' := by
 refine jV Tryz.func138 Tryz.ntmps138 Tryz.results138 ?_
 refine jS (jR (ja rfl (ja rfl (ja rfl (jO (jN (jv2 0 1 ?_)))))))
 refine jS (jR (jm rfl (jM ?_)))
 refine jc (jE2 Tryz.call177) (rK s c _ hs) ?_
 rintro e w1 ⟨rfl, hf1⟩
 refine ⟨_, rfl, ?_⟩
 refine jY rfl rfl (jY rfl rfl (jY rfl rfl (ja rfl (ja rfl (ja rfl (jO (jN (jv3 4 5 6 ?_))))))))
 refine jT ?_
 refine sR rfl rfl rfl ?_
 exact ⟨rfl, hf1⟩
def kP (w : World) (c : UInt8) (s : Tx) (ga gb gc : Nat) : Prop := Blk w ga 9 #[encStr [c]] ∧ Blk w gb 9 #[encStr s] ∧ Blk w gc 3 #[.int .i64 0]
theorem lC (s : Tx) (c : UInt8) (w : World) : Calls Tryz.prog 176 #[encStr s, encStr [c], .int .i64 0] w fun e w' => Frm [] w w' ∧ ∃ ga gb gc, e = .returned (.func (.func 198) #[] #[jI0 ga, jI0 gb, jI0 gc]) ∧ kP w' c s ga gb gc ∧ (w.heap.size ≤ ga ∧ w.heap.size ≤ gb ∧ w.heap.size ≤ gc ∧ ga ≠ gb ∧ gc ≠ gb) := by
 refine jV Tryz.func176 Tryz.ntmps176 Tryz.results176 ?_
 refine jS (jR ?_)
 refine Ops.m (qV.box rfl) rfl ?_
 rintro _ w1 ⟨rfl, hF1⟩
 have hb1 := hF1.blk
 refine Ops.m (qV.box rfl) rfl ?_
 rintro _ w2 ⟨rfl, hF2⟩
 have hb2 := hF2.blk
 have hb1 := hb1.frm hF2.frm jp
 refine Ops.m (qV.box rfl) rfl ?_
 rintro _ w3 ⟨rfl, hF3⟩
 have hb3 := hF3.blk
 have hb1 := hb1.frm hF3.frm jp
 have hb2 := hb2.frm hF3.frm jp
 have hs1 := hF1.size
 have hs2 := hF2.size
 refine ja rfl (jO (jN (jv3 3 4 5 ?_)))
 refine jS (jR (je (Run.mkFunc evs.nil (evs.cons rfl (evs.cons rfl (evs.cons rfl evs.nil)))) (ja rfl (jO (jN (jv1 6 ?_))))))
 refine jT ?_
 refine qP rfl ?_
 exact ⟨(hF1.frm.trans hF2.frm jp).trans hF3.frm jp, _, _, _, rfl, ⟨hb2, hb1, hb3⟩, jo, jo, jo, jo, jo⟩
theorem lD (s : Tx) (c : UInt8) (w : World) : Calls Tryz.prog 137 #[encStr s, encStr [c]] w fun e w' => Frm [] w w' ∧ ∃ ga gb gc, e = .returned (.func (.func 198) #[] #[jI0 ga, jI0 gb, jI0 gc]) ∧ kP w' c s ga gb gc ∧ (w.heap.size ≤ ga ∧ w.heap.size ≤ gb ∧ w.heap.size ≤ gc ∧ ga ≠ gb ∧ gc ≠ gb) := by
 refine jV Tryz.func137 Tryz.ntmps137 Tryz.results137 ?_
 refine jS (jR (ja rfl (jO (jN (jv2 0 1 ?_)))))
 refine jS (jR (jm rfl (jM ?_)))
 refine jc (jE3 Tryz.call176) (lC s c _) ?_
 rintro e w1 ⟨hf1, ga, gb, gc, rfl, h1, h2⟩
 refine ⟨_, rfl, ?_⟩
 refine ja rfl (jO (jN (jv1 4 ?_)))
 refine jT ?_
 refine qP rfl ?_
 exact ⟨hf1, ga, gb, gc, rfl, h1, h2⟩
theorem oE (s : Tx) (c : UInt8) (ga gb gc : Nat) (hs : s.length ≤ 1000000) (hne : ga ≠ gb ∧ gc ≠ gb) :
  Iter Tryz.prog 198 #[jI0 ga, jI0 gb, jI0 gc] (fun x => #[encStr x]) [gb] [ga, gb, gc] (fun w => kP w c s ga gb gc) (bG c s) := by
 intro l J Jx w hJ hJx hK hY h0
 obtain ⟨hba, hbb, hbc⟩ := hK
 refine jV Tryz.func198 Tryz.ntmps198 Tryz.results198 ?_
 refine jS (jS (jR (jl rfl zh (hba.cell 0) (je (Run.lenT rfl za) (jb rfl rfl (Bin.eqlN _ 0) (jO (jN (jv5 0 1 2 3 11 ?_))))))))
 refine VC.condF rfl jp ?_
 refine jQ (jN (jv4 0 1 2 3 ?_))
 refine jS (jB ?_)
 refine VC.loop (σ := List Tx × Tx) (fun s1 => [(0, .func (.yield l) #[] #[]), (1, jI0 ga), (2, jI0 gb), (3, jI0 gc)]) (fun s1 wr => bG c s = s1.1 ++ bG c s1.2 ∧ s1.2.length ≤ s.length ∧ kP wr c s1.2 ga gb gc ∧ J s1.1 wr) (fun s1 => s1.2.length) ([], s) (js4 rfl rfl rfl rfl) ⟨rfl, zai _, ⟨hba, hbb, hbc⟩, h0⟩ ?_
 rintro ⟨pre, t⟩ wr ⟨hsp, htl, ⟨hba, hbb, hbc⟩, hj⟩
 dsimp only at hsp htl hbb hj
 refine jB (jS (jR (jl rfl zh (hbb.cell 0) (jl rfl zh (hba.cell 0) ?_))))
 refine jc0 (jE2 Tryz.call188) (mM t c _) ?_
 refine ja rfl (jO (jN (jv5 0 1 2 3 7 ?_)))
 refine jS (jS (jR (jm rfl (jb rfl rfl (Bin.lss _ 0) (jO (jN (jv6 0 1 2 3 7 33 ?_)))))))
 refine jD rfl (fun hc4 => ?_) fun hc4 => ?_
 ·
  have hc : c ∉ t := by
   rcases cZ t c with ⟨_, h⟩ | ⟨a, b, _, _, hi⟩
   · exact h
   rw [hi] at hc4; omega
  rw [mV hc] at hsp
  refine jX ?_
  refine qK (eI rfl (qK (qS ?_)))
  refine jN (jv2 0 2 ?_)
  refine jR (jm rfl (jl rfl zh (hbb.cell 0) ?_))
  refine Ops.yield rfl rfl (evs.cons rfl evs.nil) ((hY pre t wr hj ⟨[], by rw [hsp]; simp⟩)) rfl rfl ?_
  rintro e w1 ⟨hoff, hR0⟩
  obtain ⟨yb, rfl, hR⟩ : ∃ yb : Bool, e = .returned (.bool yb) ∧ ((yb = true ∧ J (pre ++ [t]) w1) ∨ (yb = false ∧ Jx (pre ++ [t]) w1)) := by
   rcases hR0 with ⟨rfl, h⟩ | ⟨rfl, h⟩
   · exact ⟨true, rfl, .inl ⟨rfl, h⟩⟩
   exact ⟨false, rfl, .inr ⟨rfl, h⟩⟩
  refine ⟨_, rfl, ?_⟩
  refine jO ?_
  refine dB ?_
  refine ⟨⟨_, rfl⟩, ?_⟩
  rcases hR with ⟨_, h⟩ | ⟨_, h⟩
  · exact .inl (by rw [hsp]; exact h)
  exact .inr ⟨_, h⟩
 obtain ⟨a, b, rfl, hc, hi⟩ := (cZ t c).resolve_left (fun h => by rw [h.1] at hc4; omega)
 rw [hi]
 rw [mW hc] at hsp
 simp only [zao, zco] at htl
 have e1 : (a ++ c :: b).take a.length = a := jp
 have e2 : (a ++ c :: b).drop (a.length + 1) = b := by rw [List.drop_append, zbo jo]; simp
 have hpre : (pre ++ [a]) <+: bG c s := ⟨bG c b, by rw [hsp]; simp⟩
 refine jQ (jN (jv5 0 1 2 3 7 ?_))
 refine jS (jR (jl rfl zh (hbb.cell 0) (jm rfl (jl rfl zl (hbc.cell 0) (jb rfl rfl (Bin.add_i64 a.length 0 jo) (je (Run.sliceT 0 (a.length + 0) rfl za evB.none_ (evB.some_ rfl) jo jp) (ja rfl (jO (jN (jv6 0 1 2 3 7 8 ?_))))))))))
 refine jS (jS (jR (jm rfl (jM ?_))))
 refine Ops.yield rfl rfl (evs.cons rfl evs.nil) ((by simpa using hY pre a wr hj hpre : jJ Tryz.prog l #[encStr _] wr _)) rfl rfl ?_
 rintro e w1 ⟨hoff, hR0⟩
 obtain ⟨yb, rfl, hR⟩ : ∃ yb : Bool, e = .returned (.bool yb) ∧ ((yb = true ∧ J (pre ++ [a]) w1) ∨ (yb = false ∧ Jx (pre ++ [a]) w1)) := by
  rcases hR0 with ⟨rfl, h⟩ | ⟨rfl, h⟩
  · exact ⟨true, rfl, .inl ⟨rfl, h⟩⟩
  exact ⟨false, rfl, .inr ⟨rfl, h⟩⟩
 refine ⟨_, rfl, ?_⟩
 have hba := hoff.blk hba jp
 have hbb := hoff.blk hbb jp
 have hbc := hoff.blk hbc jp
 refine je (Run.not rfl) (jO (jN (jv6 0 1 2 3 7 42 ?_)))
 refine VC.condB rfl (fun hc5 => ?_) (fun hc5 => ?_)
 ·
  refine jT ?_
  refine qQ (qR (qQ (qR (qQ (sP ?_)))))
  exact ⟨⟨_, rfl⟩, .inr ⟨_, (hR.resolve_left (fun h => by rw [h.1] at hc5; simp at hc5)).2⟩⟩
 refine jQ (jN (jv5 0 1 2 3 7 ?_))
 refine jR (jl rfl zh (hbb.cell 0) (jm rfl (jl rfl zh (hba.cell 0) (je (Run.lenT rfl za) (jb rfl rfl (Bin.add_i64 a.length 1 jo) (je (Run.sliceT (a.length + 1) (a ++ c :: b).length rfl za (evB.some_ rfl) evB.none_ (by first | (simp; done) | (simp; omega)) jp) ?_))))))
 refine Ops.st (qZ.store rfl rfl zd hbb rfl rfl) ?_
 rintro w2 ⟨hbb2, hf2, hs2⟩
 have hbb2 : Blk w2 gb 9 #[encStr b] := by
  have e3 : ((a ++ c :: b).drop (a.length + 1)).take ((a ++ c :: b).length - (a.length + 1)) = b := by rw [e2]; exact zr (by simp; omega)
  rw [← e3]; exact hbb2
 have hba2 := hba.frm hf2 (by simp; exact hne.1)
 have hbc2 := hbc.frm hf2 (by simp; exact hne.2)
 have hj2 := hJ _ _ _ (hR.resolve_right (fun h => by rw [h.1] at hc5; simp at hc5)).2 hf2
 refine jO ?_
 refine qW (jN ⟨(pre ++ [a], b), (js4 rfl rfl rfl rfl), ?_, ?_⟩)
 · exact ⟨by rw [hsp]; simp, by dsimp only; omega, ⟨hba2, hbb2, hbc2⟩, hj2⟩
 simp; omega
end
section
open Go.RowKit Go.Sort
theorem vJ {c : UInt8} {s : Tx} (h : ¬ s = []) : (qB c s).length < s.length := by
 cases s with
 | nil => exact absurd rfl h
 | cons x r =>
  unfold qB
  have := (dO c r).2
  split <;> simp <;> omega
def cC : Nat → Tx → List Int → Option (List Int × Tx)
 | 0, r, p => some (p, r)
 | k + 1, r, p => if r = [] then some (p, r) else if bI (bQ 46 r) = 0 then some (p, r) else if 46 ∈ r ∧ qB 46 r = [] then none else cC k (qB 46 r) (p ++ [bI (bQ 46 r)])
def kR (s : Tx) : Option (List Int × Tx) := cC s.length s []
def fH (l : Tx) : Tx := Lib.trimSuffix (Lib.trimPrefix l [40]) [41]
def cT (t : Tx) : List Tx := (Lib.splitB ⟨#[32]⟩ 0 (Lib.countB ⟨t.toArray⟩ ⟨#[32]⟩) ⟨t.toArray⟩).map fun b => b.data.toList
def cR (s : Tx) : Option (List Tx) := if 32 ∈ s then (if (! Lib.hasPrefix (qB 32 s) [40]) = true ∨ (! Lib.hasSuffix (Lib.trimPrefix (qB 32 s) [40]) [41]) = true then none else some (cT (fH (qB 32 s)))) else some []
def bR (s : Tx) : Option Wnt := match cR s with
 | none => none
 | some l => match kR (bQ 32 s) with
  | none => none
  | some (p, r) => if bS ⟨p, qH r, l⟩ then some ⟨p, qH r, l⟩ else none
def bK : Wnt := ⟨[], [], []⟩
theorem kS {k : Nat} {r : Tx} {p : List Int} (h : ¬ r = []) (hk : r.length ≤ k) : ∃ k', k = k' + 1 ∧ cC k r p = if bI (bQ 46 r) = 0 then some (p, r) else if 46 ∈ r ∧ qB 46 r = [] then none else cC k' (qB 46 r) (p ++ [bI (bQ 46 r)]) := by
 cases k with
 | zero => exact absurd (List.length_eq_zero_iff.1 jo) h
 | succ k => exact ⟨k, rfl, by rw [cC, if_neg h]⟩
theorem rV {k : Nat} {p : List Int} : cC k [] p = some (p, []) := by
 cases k <;> simp [cC]
theorem rW (a b : List Int) : PI (a ++ b) = PI a ++ PI b := by simp [PI]
theorem vK (l : List Int) : ∀ u ∈ PI l, u.oneCell' = true := by
 intro u hu
 obtain ⟨b, _, rfl⟩ := List.mem_map.1 hu
 rfl
theorem lP (a p : Tx) (w : World) : Calls Tryz.prog 147 #[encStr a, encStr p] w fun e w' => e = .returned (.tuple #[encStr (Lib.trimPrefix a p), .bool (Lib.hasPrefix a p)]) ∧ w = w' :=
 (Tryz.strings_CutPrefix ⟨a.toArray⟩ ⟨p.toArray⟩ w).mono fun e w' ⟨h1, h2⟩ => ⟨h1, h2.symm⟩
theorem lR (a p : Tx) (w : World) (ha : a.length ≤ 1000000) : Calls Tryz.prog 74 #[encStr a, encStr p] w fun e w' => e = .returned (.tuple #[encStr (Lib.trimSuffix a p), .bool (Lib.hasSuffix a p)]) ∧ w = w' :=
 (Tryz.strings_CutSuffix ⟨a.toArray⟩ ⟨p.toArray⟩ w (by show a.toArray.size ≤ _; simp; omega)).mono fun e w' ⟨h1, h2⟩ => ⟨h1, h2.symm⟩
theorem rY (t : Tx) : Lib.countB ⟨t.toArray⟩ ⟨#[32]⟩ ≤ t.length := by
 have h := Lib.countB_le ⟨#[32]⟩ jd _ ⟨t.toArray⟩ (zai _)
 have e : (⟨t.toArray⟩ : ByteArray).size = t.length := by show t.toArray.size = _; simp
 omega
theorem mN (sep : ByteArray) : ∀ (k : Nat) (s b : ByteArray), b ∈ Lib.splitB sep 0 k s → b.size ≤ s.size
 | 0, s, b, h => by
  rw [Lib.splitB_zero] at h
  simp only [ze] at h
  subst h
  exact zai _
 | k + 1, s, b, h => by
  rw [Lib.splitB] at h
  split at h
  ·
   simp only [ze] at h
   subst h
   exact zai _
  rcases zak.1 h with h | h
  ·
   subst h
   rw [ByteArray.size_extract]
   omega
  have := mN sep k _ b h
  rw [ByteArray.size_extract] at this
  omega
theorem mP (t : Tx) : (cT t).length ≤ t.length + 1 ∧ ∀ x ∈ cT t, x.length ≤ t.length := by
 have h1 := rY t
 have e : (⟨t.toArray⟩ : ByteArray).size = t.length := by show t.toArray.size = _; simp
 refine ⟨by unfold cT; rw [zbb, Lib.splitB_all _ jd 0 _ _ rfl]; omega, fun x hx => ?_⟩
 obtain ⟨b, hb, rfl⟩ := List.mem_map.1 hx
 have := mN _ _ _ b hb
 have e2 : b.data.toList.length = b.size := by simp
 omega
theorem mR (l : Tx) : (fH l).length ≤ l.length ∧ (Lib.trimPrefix l [40]).length ≤ l.length := by
 have h1 : ∀ (a p : Tx), (Lib.trimPrefix a p).length ≤ a.length := fun a p => by unfold Lib.trimPrefix; split <;> simp
 have h2 : ∀ (a p : Tx), (Lib.trimSuffix a p).length ≤ a.length := fun a p => by unfold Lib.trimSuffix; split <;> simp
 have h3 := h1 l [40]
 have h4 := h2 (Lib.trimPrefix l [40]) [41]
 unfold fH
 omega
theorem tZ (t : Tx) (w : World) (ht : t.length ≤ 1000000) (hv : cN w) : Calls Tryz.prog 133 #[encStr t, encStr [32]] w fun e w' => Frm [] w w' ∧ ∃ A c, e = .returned (.slice A (cT t).length c) ∧ Own w' 9 1 A (cT t).length c (SB (cT t)) ∧ ∀ x ∈ ob A, w.heap.size ≤ x := by
 obtain ⟨⟨m, hm⟩, _⟩ := hv
 refine (Tryz.strings_Split ⟨t.toArray⟩ ⟨#[32]⟩ m w (by show t.toArray.size < _; simp; omega) hm jd).mono fun e w' ⟨h1, h2⟩ => ?_
 have hl : (cT t).length = Lib.countB ⟨t.toArray⟩ ⟨#[32]⟩ + 1 := by unfold cT; rw [zbb, Lib.splitB_all _ jd 0 _ _ rfl]
 have hcs : ((Lib.splitB ⟨#[32]⟩ 0 (Lib.countB ⟨t.toArray⟩ ⟨#[32]⟩) ⟨t.toArray⟩).map Value.string).toArray.toList = SB (cT t) := by
  unfold cT SB
  rw [zcx]
  apply List.map_congr_left
  intro b _
  simp [encStr]
 have hb : Blk w' w.heap.size 9 ((Lib.splitB ⟨#[32]⟩ 0 (Lib.countB ⟨t.toArray⟩ ⟨#[32]⟩) ⟨t.toArray⟩).map Value.string).toArray := by
  rw [h2]
  exact heap_alloc_new w _
 have hcl := rY t
 have hO := Own.of_blk (n := (cT t).length) (size := 1) hb (by rw [zcj, zbb, hl, Lib.splitB_all _ jd 0 _ _ rfl]; omega) (by rw [hl]; unfold maxLen; omega)
 rw [hcs] at hO
 refine ⟨h2 ▸ (Frm.refl [] w).alloc _, _, _, by rw [h1, hl], by rw [← hl]; exact hO, by simp [ob]⟩
theorem oF (q : Tx) (w : World) (hs : q.length ≤ 500000) (hv : cN w) :
  Calls Tryz.prog 105 #[encStr q] w fun e w' => Frm [] w w' ∧ ∃ (PA : Option Addr) (pc : Nat) (NA : Option Addr) (nc : Nat), e = .returned (.tuple #[.agg (WtC ((bR q).getD bK) PA pc NA nc), .int .i64 (if (bR q).isSome then 0 else 3)]) ∧ Own w' 3 1 PA ((bR q).getD bK).path.length pc (PI ((bR q).getD bK).path) ∧ Own w' 9 1 NA ((bR q).getD bK).names.length nc (SB ((bR q).getD bK).names) := by
 have hbl := dO 32 q
 have hil := mR (qB 32 q)
 refine jV Tryz.func105 Tryz.ntmps105 Tryz.results105 ?_
 refine jS (jR ?_)
 refine Ops.m (qV.alloc dC) rfl ?_
 rintro _ w1 ⟨rfl, hF1⟩
 have hb2 : Blk w1 w.heap.size 47 (WtC bK none 0 none 0) := hF1.blk
 have K := hF1.frm
 have l2 := hb2.lt
 generalize hg2e : w.heap.size = g2 at hb2 l2 ⊢
 refine jz 0 (jO (jN (jv2 0 2 ?_)))
 refine jS (jR (je (Run.build evs.nil dC (cK).choose_spec.1 (cK).choose_spec.2 rfl) ?_))
 refine Ops.m (qV.alloc dC) rfl ?_
 rintro _ w2 ⟨rfl, hF2⟩
 have hb4 : Blk w2 w1.heap.size 47 (WtC bK none 0 none 0) := hF2.blk
 have hb2 := hb2.frm hF2.frm jp
 have K1 := K.size
 have K := K.trans hF2.frm jp
 generalize hg4e : w1.heap.size = g4 at hb4 l2 K1 ⊢
 refine Ops.st (qZ.storeA rfl rfl zj hb4 rfl (cL bK none 0 none 0)) ?_
 rintro w3 ⟨hb4n, hf3, _⟩
 have hb4 : Blk w3 g4 47 (WtC bK none 0 none 0) := hb4n
 have hb2 := hb2.frm hf3 (by simp; omega)
 have K := Frm.own K hf3 (fun y hy => by simp at hy; omega)
 refine jO (jN (jv3 0 2 4 ?_))
 refine jS (jR (jM ?_))
 refine jc (jE2 Tryz.call138) ((fO q 32 _ jo)) ?_
 rintro e w4 ⟨rfl, hf4⟩
 refine ⟨_, rfl, ?_⟩
 have hb2 := hb2.frm hf4 jp
 have hb4 := hb4.frm hf4 jp
 have K := K.trans hf4 jp
 refine jm rfl (jY rfl rfl (jY rfl rfl (jY rfl rfl (ja rfl (ja rfl (ja rfl (jO (jN (jv5 0 2 4 5 6 ?_)))))))))
 refine jS (jS (jR (jm rfl (jO (jN (jv5 0 2 4 5 22 ?_))))))
 refine VC.meet (σ := List Tx × Option Addr × Nat) (fun s => [(0, encStr (bQ 32 q)), (2, jI0 g2), (4, jI0 g4)]) (fun s wr => cR q = some s.1 ∧ Blk wr g2 47 (WtC bK none 0 none 0) ∧ Blk wr g4 47 (WtC ⟨[], [], s.1⟩ none 0 s.2.1 s.2.2) ∧ Own wr 9 1 s.2.1 s.1.length s.2.2 (SB s.1) ∧ Frm [] w wr ∧ s.1.length ≤ 1000000 ∧ (∀ x ∈ s.1, x.length ≤ 1000000) ∧ (∀ x ∈ ob s.2.1, w.heap.size ≤ x) ∧ g4 ∉ ob s.2.1 ∧ g2 < g4) ?_ ?_
 ·
  refine VC.condB rfl (fun hc1 => ?_) (fun hc1 => ?_)
  ·
   have hc1 := of_decide_eq_true hc1
   refine jS (jR (jM ?_))
   refine jc0 (jE2 Tryz.call147) ((lP (qB 32 q) [40] _)) ?_
   refine jm rfl (jY rfl rfl (jY rfl rfl (ja rfl (ja rfl (jO (jN (jv5 0 2 4 7 8 ?_)))))))
   refine jS (jR (jM ?_))
   refine jc0 (jE2 Tryz.call74) ((lR (Lib.trimPrefix (qB 32 q) [40]) [41] _ jo)) ?_
   refine jm rfl (jY rfl rfl (jY rfl rfl (ja rfl (ja rfl (jO (jN (jv6 0 2 4 7 8 9 ?_)))))))
   refine jS (jS ?_)
   refine VC.split1 [(0, _), (2, _), (4, _), (7, _)] (js4 rfl rfl rfl rfl) 38 (.bool (decide ((! Lib.hasPrefix (qB 32 q) [40]) = true ∨ (! Lib.hasSuffix (Lib.trimPrefix (qB 32 q) [40]) [41]) = true))) ?_ ?_
   ·
    refine jR ?_
    refine jm rfl (je (Run.not rfl) ?_)
    by_cases hs34 : (! Lib.hasPrefix (qB 32 q) [40]) = true
    ·
     refine jM ?_
     refine jU ?_
     refine jU ?_
     refine jW rfl rfl au (jO ?_)
     refine jN ⟨(js5 (jC (by first | (simp_all; done))) rfl rfl rfl rfl), rfl⟩
    refine jM ?_
    refine jG ?_
    refine jk (Run.not rfl) ?_
    by_cases hs37 : (! Lib.hasSuffix (Lib.trimPrefix (qB 32 q) [40]) [41]) = true
    ·
     refine jF rfl rfl au (jO ?_)
     refine jN ⟨(js5 (jC (by first | (simp_all; done))) rfl rfl rfl rfl), rfl⟩
    refine jF rfl rfl au (jO ?_)
    refine jN ⟨(js5 (jC (by first | (simp_all; done))) rfl rfl rfl rfl), rfl⟩
   intro Γ hΓ
   refine jN (VC.sub _ hΓ ?_)
   refine jD rfl (fun hc2 => ?_) fun hc2 => ?_
   ·
    have hrq : bR q = none := by unfold bR cR; rw [if_pos hc1, if_pos hc2]
    refine jS (jR (je (Run.build evs.nil dC (cK).choose_spec.1 (cK).choose_spec.2 rfl) ?_))
    refine Ops.st (qZ.storeA rfl rfl zj hb2 rfl (cL bK none 0 none 0)) ?_
    rintro Z1 ⟨hb2n, hfz, _⟩
    have hb2 : Blk Z1 g2 47 (WtC bK none 0 none 0) := hb2n
    have K := Frm.own K hfz (fun y hy => by simp at hy; omega)
    refine jz 3 (jO (jN (jv2 2 3 ?_)))
    refine jT ?_
    refine qQ (qQ (qQ (cJ ?_)))
    refine qI rfl zae zj (fun j v hj => hb2.cells j v hj) (by first | rfl | (simp; done)) ?_
    refine bE rfl ?_
    refine bW ?_
    rw [hrq]
    exact ⟨K, none, 0, none, 0, rfl, Own.nil _ _ _, Own.nil _ _ _⟩
   have hnq : cR q = some (cT (fH (qB 32 q))) := by unfold cR; rw [if_pos hc1, if_neg hc2]
   refine jQ (jN (jv4 0 2 4 7 ?_))
   refine jR (jM ?_)
   refine jc (jE2 Tryz.call133) ((tZ (fH (qB 32 q)) _ jo (hv.frm0 K))) ?_
   rintro e w5 ⟨hf5, NA, nc, rfl, hN, hubN⟩
   refine ⟨_, rfl, ?_⟩
   have sK := K.size
   have hb2 := hb2.frm hf5 jp
   have hb4 := hb4.frm hf5 jp
   have K := K.trans hf5 jp
   have hsp := mP (fH (qB 32 q))
   refine jf rfl zf rfl zv ?_
   refine Ops.st (qZ.store rfl rfl zv hb4 rfl rfl) ?_
   rintro w6 ⟨hb4n, hf6, _⟩
   have hb4o := hb4
   have hb4 : Blk w6 g4 47 (WtC ⟨[], [], cT (fH (qB 32 q))⟩ none 0 NA nc) := hb4n
   have hN := hN.frm hf6 (fun y hy => by have := hN.ne_blk hb4o jd; simp; rintro rfl; exact this hy)
   have hb2 := hb2.frm hf6 (by simp; omega)
   have K := Frm.own K hf6 (fun y hy => by simp at hy; omega)
   refine jO ?_
   refine jN ⟨(cT (fH (qB 32 q)), NA, nc), (js3 rfl rfl rfl), ?_⟩
   exact ⟨hnq, hb2, hb4, hN, K, by show (cT (fH (qB 32 q))).length ≤ 1000000; omega, fun x hx => by have := hsp.2 x hx; omega, fun x hx => by have := hubN x hx; omega, hN.ne_blk hb4 jd, by omega⟩
  have hc1 := of_decide_eq_false hc1
  have hnq : cR q = some [] := by unfold cR; rw [if_neg hc1]
  refine jQ ?_
  refine jN ⟨([], none, 0), (js3 rfl rfl rfl), ?_⟩
  exact ⟨hnq, hb2, hb4, Own.nil _ _ _, K, jp, jp, by simp [ob], by simp [ob], jo⟩
 rintro ⟨names, NA, nc⟩ w7 ⟨hnq, hb2, hb4, hN, K, hnl, hns, hubN, hg4N, hg24⟩ Γ hΓ
 dsimp only at hnq hb4 hN hnl hns hubN hg4N
 have lb4 := hb4.lt
 refine jN (VC.sub _ hΓ (jS (jR (jm rfl (ja rfl (jO (jN (jv3 2 4 10 ?_))))))))
 refine jS (jB ?_)
 refine VC.loop (σ := Tx × List Int × Option Addr × Nat) (fun s => [(2, jI0 g2), (4, jI0 g4), (10, encStr s.1)]) (fun s wr => (∃ k, s.1.length ≤ k ∧ cC k s.1 s.2.1 = kR (bQ 32 q)) ∧ s.1.length + s.2.1.length ≤ 1000000 ∧ Blk wr g2 47 (WtC bK none 0 none 0) ∧ Blk wr g4 47 (WtC ⟨s.2.1, [], names⟩ s.2.2.1 s.2.2.2 NA nc) ∧ Own wr 3 1 s.2.2.1 s.2.1.length s.2.2.2 (PI s.2.1) ∧ Own wr 9 1 NA names.length nc (SB names) ∧ Frm [] w wr ∧ (∀ x ∈ ob s.2.2.1, w.heap.size ≤ x ∧ x ≠ g4 ∧ x ≠ g2)) (fun s => s.1.length) (bQ 32 q, [], none, 0) (js3 rfl rfl rfl) ⟨⟨_, zai _, rfl⟩, by simp; omega, hb2, hb4, Own.nil _ _ _, hN, K, by simp [ob]⟩ ?_
 rintro ⟨r, p, PA, pc⟩ W ⟨⟨k, hk, hpq⟩, hrl, hb2, hb4, hPI, hN, K, hubP⟩
 dsimp only at hk hpq hrl hb4 hPI hubP ⊢
 have hbr := dO 46 r
 refine jS (jS (jR (jm rfl (je (Run.neqT rfl rfl) (jO (jN (jv4 2 4 10 45 ?_)))))))
 refine jD rfl (fun hc3 => ?_) fun hc3 => ?_
 ·
  obtain ⟨k2, rfl, hst⟩ := kS hc3 hk
  rw [hpq] at hst
  have halt := vJ (c := 46) hc3
  refine jQ (jN (jv3 2 4 10 ?_))
  refine jB (jS (jR (jM ?_)))
  refine jc (jE2 Tryz.call138) ((fO r 46 _ jo)) ?_
  rintro e W1 ⟨rfl, hf1⟩
  refine ⟨_, rfl, ?_⟩
  have hb2 := hb2.frm hf1 jp
  have hb4 := hb4.frm hf1 jp
  have hPI := hPI.frm hf1 jp
  have hN := hN.frm hf1 jp
  have K := K.trans hf1 jp
  refine jm rfl (jY rfl rfl (jY rfl rfl (jY rfl rfl (ja rfl (ja rfl (ja rfl (jO (jN (jv6 2 4 10 11 12 13 ?_)))))))))
  refine jS (jR (jM ?_))
  refine jc (jE1 Tryz.call148) ((nW (bQ 46 r) _ jo (hv.frm0 K))) ?_
  rintro e W2 ⟨rfl, hf2⟩
  refine ⟨_, rfl, ?_⟩
  have hb2 := hb2.frm hf2 jp
  have hb4 := hb4.frm hf2 jp
  have hPI := hPI.frm hf2 jp
  have hN := hN.frm hf2 jp
  have K := K.trans hf2 jp
  refine ja rfl (jO (jN (jv6 2 4 10 12 13 14 ?_)))
  refine jS (jS (jR (jm rfl (jb rfl rfl (Bin.eql _ 0) (jO (jN (jv7 2 4 10 12 13 14 55 ?_)))))))
  refine jD rfl (fun hc4 => ?_) fun hc4 => ?_
  ·
   have hfin : kR (bQ 32 q) = some (p, r) := by rw [hst, if_pos hc4]
   refine jX ?_
   refine qK (eI rfl (qK (qS ?_)))
   refine jN (jv3 2 4 10 ?_)
   refine jS (jR (jM ?_))
   refine jc (jE1 Tryz.call149) ((kG r _ jo)) ?_
   rintro e V1 ⟨rfl, hf1⟩
   refine ⟨_, rfl, ?_⟩
   have hb2 := hb2.frm hf1 jp
   have hb4 := hb4.frm hf1 jp
   have hPI := hPI.frm hf1 jp
   have hN := hN.frm hf1 jp
   have K := K.trans hf1 jp
   refine jf rfl zf rfl zd ?_
   refine Ops.st (qZ.store rfl rfl zd hb4 rfl rfl) ?_
   rintro V2 ⟨hb4n, hf2, _⟩
   have hb4 : Blk V2 g4 47 (WtC ⟨p, qH r, names⟩ PA pc NA nc) := hb4n
   have hPI := hPI.frm hf2 (fun y hy => by have := hubP y hy; simp; exact this.2.1)
   have hN := hN.frm hf2 (fun y hy => by simp; rintro rfl; exact hg4N hy)
   have hb2 := hb2.frm hf2 (by simp; omega)
   have K := Frm.own K hf2 (fun y hy => by simp at hy; omega)
   obtain ⟨v, hvv⟩ : ∃ v : Wnt, v = ⟨p, qH r, names⟩ := ⟨_, rfl⟩
   have hrq : bR q = if bS v then some v else none := by unfold bR; rw [hnq]; dsimp only; rw [hfin, hvv]
   rw [← hvv] at hb4
   refine jO (jN (jv2 2 4 ?_))
   refine jS (jS (jR (je (Run.loadA rfl zae zj (fun j v hj => hb4.cells j v hj) (by first | rfl | (simp; done))) ?_)))
   refine jc (jE1 Tryz.call26) ((kX v PA NA pc nc _ (by rw [hvv]; exact hPI.rd) (by rw [hvv]; show p.length ≤ 2000000; omega) (by rw [hvv]; exact hN.rd) (by rw [hvv]; exact zq hnl jd) (by rw [hvv]; exact fun x hx => zq (hns x hx) jd))) ?_
   rintro e V3 ⟨rfl, hf3⟩
   refine ⟨_, rfl, ?_⟩
   have hb2 := hb2.frm hf3 jp
   have hb4 := hb4.frm hf3 jp
   have hPI := hPI.frm hf3 jp
   have hN := hN.frm hf3 jp
   have K := K.trans hf3 jp
   refine je (Run.not rfl) ?_
   rw [nE]
   refine jO (jN (jv3 2 4 74 ?_))
   refine VC.condB rfl (fun hc6 => ?_) (fun hc6 => ?_)
   ·
    rw [if_neg (of_decide_eq_true hc6)] at hrq
    refine jS (jR (je (Run.build evs.nil dC (cK).choose_spec.1 (cK).choose_spec.2 rfl) ?_))
    refine Ops.st (qZ.storeA rfl rfl zj hb2 rfl (cL bK none 0 none 0)) ?_
    rintro Z1 ⟨hb2n, hfz, _⟩
    have hb2 : Blk Z1 g2 47 (WtC bK none 0 none 0) := hb2n
    have K := Frm.own K hfz (fun y hy => by simp at hy; omega)
    refine jz 3 (jO (jN (jv2 2 3 ?_)))
    refine jT ?_
    refine qQ (cJ ?_)
    refine qI rfl zae zj (fun j v hj => hb2.cells j v hj) (by first | rfl | (simp; done)) ?_
    refine bE rfl ?_
    refine bW ?_
    rw [hrq]
    exact ⟨K, none, 0, none, 0, rfl, Own.nil _ _ _, Own.nil _ _ _⟩
   rw [if_pos (Classical.byContradiction fun h => of_decide_eq_false hc6 h)] at hrq
   refine jQ (jN (jv2 2 4 ?_))
   refine jS (jR (je (Run.loadA rfl zae zj (fun j v hj => hb4.cells j v hj) (by first | rfl | (simp; done))) ?_))
   have hb2o := hb2
   refine Ops.st (qZ.storeA rfl rfl zj hb2 rfl (cL v PA pc NA nc)) ?_
   rintro V4 ⟨hb2n, hf4, _⟩
   have hb2 : Blk V4 g2 47 (WtC v PA pc NA nc) := hb2n
   have hPI := hPI.frm hf4 (fun y hy => by have := hubP y hy; simp; exact this.2.2)
   have hN := hN.frm hf4 (fun y hy => by have := hN.ne_blk hb2o jd; simp; rintro rfl; exact this hy)
   have K := Frm.own K hf4 (fun y hy => by simp at hy; omega)
   refine jz 0 (jO (jN (jv2 2 3 ?_)))
   refine jT ?_
   refine cJ ?_
   refine qI rfl zae zj (fun j v hj => hb2.cells j v hj) (by first | rfl | (simp; done)) ?_
   refine bE rfl ?_
   refine bW ?_
   rw [hrq]
   exact ⟨K, PA, pc, NA, nc, rfl, by rw [hvv] at hb2 ⊢; exact hPI, by rw [hvv]; exact hN⟩
  rw [if_neg hc4] at hst
  refine jQ (jN (jv5 2 4 12 13 14 ?_))
  refine jS (jR (jf rfl zf rfl zac (jl rfl zas (show _ = some (Value.slice PA p.length pc) from hb4.cell 0) (jM ?_))))
  refine Ops.m (qV.buildS1 rfl zi zc fV jd jd rfl rfl) rfl ?_
  rintro _ W3 ⟨rfl, hF3⟩
  have hrd3 : Rd W3 1 (some ⟨_, 0, none⟩) 1 (PI [bI (bQ 46 r)]) := Rd.of_blk (n := 1) (size := 1) hF3.blk rfl
  have hb2 := hb2.frm hF3.frm jp
  have hb4 := hb4.frm hF3.frm jp
  have hPI := hPI.frm hF3.frm jp
  have hN := hN.frm hF3.frm jp
  have K := K.trans hF3.frm jp
  refine Ops.m (qV.app rfl rfl zi (tO) rfl jd hPI hrd3 (vK _) jo jo) rfl ?_
  rintro _ W4 ⟨PA2, pc2, rfl, hPI2, hf4, hob4⟩
  rw [← rW] at hPI2
  have l43 := hb4.lt
  have hb2 := hb2.frm hf4 (fun hm => (hubP _ hm).2.2 rfl)
  have hb4 := hb4.frm hf4 (fun hm => (hubP _ hm).2.1 rfl)
  have hN := hN.own' hf4 hPI jd
  have sK3 := K.size
  have lb43 := hb4.lt
  have K := Frm.own K hf4 (fun y hy => (hubP y hy).1)
  have hubP2 : ∀ x ∈ ob PA2, w.heap.size ≤ x ∧ x ≠ g4 ∧ x ≠ g2 := fun x hx => by
   rcases hob4 with h | h
   · rw [h] at hx; exact hubP x hx
   rw [h] at hx; simp only [ze] at hx; omega
  refine jf rfl zf rfl zac ?_
  refine Ops.st (qZ.store rfl rfl zac hb4 rfl rfl) ?_
  rintro W5 ⟨hb4n, hf5, _⟩
  have hb4o := hb4
  have hPI := hPI2.frm hf5 (fun y hy => by have := hubP2 y hy; simp; exact this.2.1)
  have hpl : (p ++ [bI (bQ 46 r)]).length = p.length + 1 := jp
  rw [← hpl] at hPI
  have hb4 : Blk W5 g4 47 (WtC ⟨p ++ [bI (bQ 46 r)], [], names⟩ PA2 pc2 NA nc) := by unfold WtC; rw [hpl]; exact hb4n
  have hN := hN.frm hf5 (fun y hy => by simp; rintro rfl; exact hg4N hy)
  have hb2 := hb2.frm hf5 (by simp; omega)
  have K := Frm.own K hf5 (fun y hy => by simp at hy; omega)
  refine jO (jN (jv4 2 4 12 13 ?_))
  refine jS (jR (jm rfl (ja rfl (jO (jN (jv4 2 4 10 13 ?_))))))
  refine jS ?_
  refine VC.split1 [(2, _), (4, _), (10, _)] (js3 rfl rfl rfl) 67 (.bool (decide (46 ∈ r ∧ qB 46 r = []))) ?_ ?_
  ·
   refine jR ?_
   refine jm rfl (jM ?_)
   by_cases hs64 : 46 ∈ r
   ·
    refine jG ?_
    refine jk (Run.eqlT rfl rfl) ?_
    by_cases hs66 : qB 46 r = []
    ·
     refine jW rfl rfl au (jO ?_)
     refine jN ⟨(js4 (jC (by first | exact (decide_eq_true hs66).trans (decide_eq_true ⟨hs64, hs66⟩).symm | exact (decide_eq_false hs66).trans (decide_eq_false (show ¬ (46 ∈ r ∧ qB 46 r = []) from fun h => hs66 h.2)).symm | exact (decide_eq_false (show ¬ (46 ∈ r ∧ qB 46 r = []) from fun h => hs64 h.1)).symm | exact (decide_eq_false hs64).trans (decide_eq_false (show ¬ (46 ∈ r ∧ qB 46 r = []) from fun h => hs64 h.1)).symm)) rfl rfl rfl), rfl⟩
    refine jW rfl rfl au (jO ?_)
    refine jN ⟨(js4 (jC (by first | exact (decide_eq_true hs66).trans (decide_eq_true ⟨hs64, hs66⟩).symm | exact (decide_eq_false hs66).trans (decide_eq_false (show ¬ (46 ∈ r ∧ qB 46 r = []) from fun h => hs66 h.2)).symm | exact (decide_eq_false (show ¬ (46 ∈ r ∧ qB 46 r = []) from fun h => hs64 h.1)).symm | exact (decide_eq_false hs64).trans (decide_eq_false (show ¬ (46 ∈ r ∧ qB 46 r = []) from fun h => hs64 h.1)).symm)) rfl rfl rfl), rfl⟩
   refine jU ?_
   refine jU ?_
   refine jF rfl rfl au (jO ?_)
   refine jN ⟨(js4 (jC (by first | exact (decide_eq_true hs66).trans (decide_eq_true ⟨hs64, hs66⟩).symm | exact (decide_eq_false hs66).trans (decide_eq_false (show ¬ (46 ∈ r ∧ qB 46 r = []) from fun h => hs66 h.2)).symm | exact (decide_eq_false (show ¬ (46 ∈ r ∧ qB 46 r = []) from fun h => hs64 h.1)).symm | exact (decide_eq_false hs64).trans (decide_eq_false (show ¬ (46 ∈ r ∧ qB 46 r = []) from fun h => hs64 h.1)).symm)) rfl rfl rfl), rfl⟩
  intro Γ hΓ
  refine jN (VC.sub _ hΓ ?_)
  refine jD rfl (fun hc5 => ?_) fun hc5 => ?_
  ·
   rw [if_pos hc5] at hst
   have hrq : bR q = none := by unfold bR; rw [hnq]; dsimp only; rw [hst]
   refine jS (jR (je (Run.build evs.nil dC (cK).choose_spec.1 (cK).choose_spec.2 rfl) ?_))
   refine Ops.st (qZ.storeA rfl rfl zj hb2 rfl (cL bK none 0 none 0)) ?_
   rintro Z1 ⟨hb2n, hfz, _⟩
   have hb2 : Blk Z1 g2 47 (WtC bK none 0 none 0) := hb2n
   have K := Frm.own K hfz (fun y hy => by simp at hy; omega)
   refine jz 3 (jO (jN (jv2 2 3 ?_)))
   refine jT ?_
   refine qR (qQ (qR (qQ (cJ ?_))))
   refine qI rfl zae zj (fun j v hj => hb2.cells j v hj) (by first | rfl | (simp; done)) ?_
   refine bE rfl ?_
   refine bW ?_
   rw [hrq]
   exact ⟨K, none, 0, none, 0, rfl, Own.nil _ _ _, Own.nil _ _ _⟩
  rw [if_neg hc5] at hst
  refine jQ ?_
  refine qW (jN ⟨(qB 46 r, p ++ [bI (bQ 46 r)], PA2, pc2), (js3 rfl rfl rfl), ?_, ?_⟩)
  · exact ⟨⟨k2, by show (qB 46 r).length ≤ k2; omega, hst.symm⟩, by show (qB 46 r).length + (p ++ [bI (bQ 46 r)]).length ≤ 1000000; omega, hb2, hb4, hPI, hN, K, hubP2⟩
  exact jq
 have hr0 : r = [] := Classical.byContradiction hc3
 subst hr0
 have hfin : kR (bQ 32 q) = some (p, []) := by rw [← hpq, rV]
 refine jX ?_
 refine qK (qK (qS ?_))
 refine jN (jv3 2 4 10 ?_)
 refine jS (jR (jM ?_))
 refine jc (jE1 Tryz.call149) ((kG [] _ jp)) ?_
 rintro e V1 ⟨rfl, hf1⟩
 refine ⟨_, rfl, ?_⟩
 have hb2 := hb2.frm hf1 jp
 have hb4 := hb4.frm hf1 jp
 have hPI := hPI.frm hf1 jp
 have hN := hN.frm hf1 jp
 have K := K.trans hf1 jp
 refine jf rfl zf rfl zd ?_
 refine Ops.st (qZ.store rfl rfl zd hb4 rfl rfl) ?_
 rintro V2 ⟨hb4n, hf2, _⟩
 have hb4 : Blk V2 g4 47 (WtC ⟨p, qH [], names⟩ PA pc NA nc) := hb4n
 have hPI := hPI.frm hf2 (fun y hy => by have := hubP y hy; simp; exact this.2.1)
 have hN := hN.frm hf2 (fun y hy => by simp; rintro rfl; exact hg4N hy)
 have hb2 := hb2.frm hf2 (by simp; omega)
 have K := Frm.own K hf2 (fun y hy => by simp at hy; omega)
 obtain ⟨v, hvv⟩ : ∃ v : Wnt, v = ⟨p, qH [], names⟩ := ⟨_, rfl⟩
 have hrq : bR q = if bS v then some v else none := by unfold bR; rw [hnq]; dsimp only; rw [hfin, hvv]
 rw [← hvv] at hb4
 refine jO (jN (jv2 2 4 ?_))
 refine jS (jS (jR (je (Run.loadA rfl zae zj (fun j v hj => hb4.cells j v hj) (by first | rfl | (simp; done))) ?_)))
 refine jc (jE1 Tryz.call26) ((kX v PA NA pc nc _ (by rw [hvv]; exact hPI.rd) (by rw [hvv]; show p.length ≤ 2000000; omega) (by rw [hvv]; exact hN.rd) (by rw [hvv]; exact zq hnl jd) (by rw [hvv]; exact fun x hx => zq (hns x hx) jd))) ?_
 rintro e V3 ⟨rfl, hf3⟩
 refine ⟨_, rfl, ?_⟩
 have hb2 := hb2.frm hf3 jp
 have hb4 := hb4.frm hf3 jp
 have hPI := hPI.frm hf3 jp
 have hN := hN.frm hf3 jp
 have K := K.trans hf3 jp
 refine je (Run.not rfl) ?_
 rw [nE]
 refine jO (jN (jv3 2 4 74 ?_))
 refine VC.condB rfl (fun hc6 => ?_) (fun hc6 => ?_)
 ·
  rw [if_neg (of_decide_eq_true hc6)] at hrq
  refine jS (jR (je (Run.build evs.nil dC (cK).choose_spec.1 (cK).choose_spec.2 rfl) ?_))
  refine Ops.st (qZ.storeA rfl rfl zj hb2 rfl (cL bK none 0 none 0)) ?_
  rintro Z1 ⟨hb2n, hfz, _⟩
  have hb2 : Blk Z1 g2 47 (WtC bK none 0 none 0) := hb2n
  have K := Frm.own K hfz (fun y hy => by simp at hy; omega)
  refine jz 3 (jO (jN (jv2 2 3 ?_)))
  refine jT ?_
  refine qQ (cJ ?_)
  refine qI rfl zae zj (fun j v hj => hb2.cells j v hj) (by first | rfl | (simp; done)) ?_
  refine bE rfl ?_
  refine bW ?_
  rw [hrq]
  exact ⟨K, none, 0, none, 0, rfl, Own.nil _ _ _, Own.nil _ _ _⟩
 rw [if_pos (Classical.byContradiction fun h => of_decide_eq_false hc6 h)] at hrq
 refine jQ (jN (jv2 2 4 ?_))
 refine jS (jR (je (Run.loadA rfl zae zj (fun j v hj => hb4.cells j v hj) (by first | rfl | (simp; done))) ?_))
 have hb2o := hb2
 refine Ops.st (qZ.storeA rfl rfl zj hb2 rfl (cL v PA pc NA nc)) ?_
 rintro V4 ⟨hb2n, hf4, _⟩
 have hb2 : Blk V4 g2 47 (WtC v PA pc NA nc) := hb2n
 have hPI := hPI.frm hf4 (fun y hy => by have := hubP y hy; simp; exact this.2.2)
 have hN := hN.frm hf4 (fun y hy => by have := hN.ne_blk hb2o jd; simp; rintro rfl; exact this hy)
 have K := Frm.own K hf4 (fun y hy => by simp at hy; omega)
 refine jz 0 (jO (jN (jv2 2 3 ?_)))
 refine jT ?_
 refine cJ ?_
 refine qI rfl zae zj (fun j v hj => hb2.cells j v hj) (by first | rfl | (simp; done)) ?_
 refine bE rfl ?_
 refine bW ?_
 rw [hrq]
 exact ⟨K, PA, pc, NA, nc, rfl, by rw [hvv] at hb2 ⊢; exact hPI, by rw [hvv]; exact hN⟩
end
section
open Go.RowKit
def asC (U : Nat → Bool) : Array Value := ((List.range 256).map fun i => Value.bool (U i)).toArray
theorem eC (U : Nat → Bool) : (asC U).size = 256 := by simp [asC]
theorem kT (U : Nat → Bool) {i : Nat} (h : i < 256) : (asC U)[i]? = some (.bool (U i)) := by simp [asC, h]
theorem uY (U : Nat → Bool) {i : Nat} (h : i < 256) : (asC U).setIfInBounds i (.bool true) = asC fun j => if j = i then true else U j := by
 apply Array.ext_getElem?
 intro j
 rw [zah]
 by_cases hj : i = j
 ·
  subst hj
  rw [if_pos rfl, if_pos (by rw [eC]; exact h), kT _ h, if_pos rfl]
 rw [if_neg hj]
 by_cases hl : j < 256
 · rw [kT _ hl, kT _ hl, if_neg (fun e => hj e.symm)]
 rw [zci (by rw [eC]; omega), zci (by rw [eC]; omega)]
theorem nF (U : Nat → Bool) : ∀ u ∈ (asC U).toList, u.oneCell' = true := by
 intro u hu
 simp only [asC, List.mem_map] at hu
 obtain ⟨i, _, rfl⟩ := hu
 rfl
def inS (l : Tx) (k : Nat) : Nat → Bool := fun i => decide (∃ x ∈ l.take k, x.toNat = i)
theorem tJ {l : Tx} {k : Nat} (h : k < l.length) : (fun j => if j = l[k].toNat then true else inS l k j) = inS l (k + 1) := by
 funext j
 have e : l.take (k + 1) = l.take k ++ [l[k]] := by rw [zba, zb h]; rfl
 unfold inS
 rw [e]
 by_cases hj : j = l[k].toNat
 · rw [if_pos hj]; subst hj; symm; apply decide_eq_true; exact ⟨l[k], List.mem_append.2 (.inr (ze.2 rfl)), rfl⟩
 rw [if_neg hj]
 apply decide_eq_decide.2
 constructor
 · rintro ⟨x, hx, he⟩; exact ⟨x, List.mem_append.2 (.inl hx), he⟩
 rintro ⟨x, hx, he⟩
 rcases List.mem_append.1 hx with hx | hx
 · exact ⟨x, hx, he⟩
 rw [ze] at hx; subst hx; exact absurd he.symm hj
theorem kU (gs : Nat) (U : Nat → Bool) (x : UInt8) (w : World) (hb : Blk w gs 204 (asC U)) : Calls Tryz.prog 189 #[jI0 gs, .int .u8 ((x.toNat : Nat) : Int)] w fun e w' => e = .returned (.bool (U x.toNat)) ∧ w = w' := by
 have hx : x.toNat < 256 := x.toNat_lt
 refine jV Tryz.func189 Tryz.ntmps189 Tryz.results189 ?_
 refine jS (jR (ja rfl (jO (jN (jv2 0 1 ?_)))))
 refine jS (jR (jm rfl (jm rfl (jZ rfl (je (Run.indexA1 _ rfl rfl Tryz.underlying204 zm jo) (jl rfl zal (show w.cell? ⟨gs, 0 + x.toNat, none⟩ = some (.bool (U x.toNat)) by rw [Nat.zero_add, hb.cell, kT U hx]) (ja rfl (jO (jN (jv1 4 ?_))))))))))
 refine jT ?_
 refine qP rfl ?_
 exact ⟨rfl, rfl⟩
theorem rG (l : Tx) (w : World) (hl : ∀ x ∈ l, x.toNat < 128) (hn : l.length ≤ 1000000) : Calls Tryz.prog 169 #[encStr l] w fun e w' => Frm [] w w' ∧ e = .returned (.tuple #[.agg (asC (inS l l.length)), .bool true]) := by
 refine jV Tryz.func169 Tryz.ntmps169 Tryz.results169 ?_
 refine jS (jR ?_)
 refine Ops.m (qV.alloc nU) rfl ?_
 rintro _ w1 ⟨rfl, hF1⟩
 obtain ⟨gs, hgs⟩ : ∃ gs, gs = w.heap.size := ⟨_, rfl⟩
 have hb1 : Blk w1 gs 204 (asC (inS l 0)) := by
  rw [hgs, show asC (inS l 0) = asC (fun _ => false) from congrArg asC (funext fun i => by simp [inS])]
  exact hF1.blk
 rw [← hgs]
 refine ja rfl (jO (jN (jv2 0 2 ?_)))
 refine jS (jS (jR (jz 0 (jO (jN (jB ?_))))))
 refine VC.loop (σ := Nat) (fun s => [(0, encStr l), (2, jI0 gs), (4, jI1 s)]) (fun s wr => s ≤ l.length ∧ Frm [] w wr ∧ Blk wr gs 204 (asC (inS l s))) (fun s => l.length - s) 0 (js3 rfl rfl rfl) ⟨zau _, hF1.frm, hb1⟩ ?_
 rintro i wr ⟨hi, K, hb⟩
 refine jS (jS (jR (jm rfl (jm rfl (je (Run.lenT rfl za) (jb rfl rfl (Bin.lssN _ _) (jO (jN (jv4 0 2 4 9 ?_)))))))))
 refine jD rfl (fun hc1 => ?_) fun hc1 => ?_
 ·
  have hm := hl _ (zaq hc1)
  refine jQ (jN (jv3 0 2 4 ?_))
  refine jS (jB (jS (jR (jm rfl (jM ?_)))))
  refine je (Run.indexT _ rfl rfl za (zb hc1)) ?_
  refine ja rfl (jO (jN (jv4 0 2 4 5 ?_)))
  refine jS (jS (jR (jm rfl (jb rfl rfl (Bin.geqN _ 128) (jO (jN (jv5 0 2 4 5 16 ?_)))))))
  refine VC.condF rfl jdf ?_
  refine jQ (jN (jv4 0 2 4 5 ?_))
  refine jR (jm rfl (je (Run.indexA1 _ rfl rfl Tryz.underlying204 zm jo) ?_))
  refine Ops.st (qZ.store (i := l[i].toNat) (by first | rfl | (show some _ = some _; rw [Nat.zero_add])) rfl zm hb (by rw [eC, Nat.blt_eq]; omega) rfl) ?_
  rintro w2 ⟨hb2, hf2, hs2⟩
  rw [uY _ jo, tJ hc1] at hb2
  refine jO ?_
  refine qW (jN ?_)
  refine jv3 0 2 4 ?_
  refine jR (jm rfl (jb rfl rfl (Bin.add_i64 _ 1 jo) (ja rfl (jO ?_))))
  refine jN ⟨i + 1, (js3 rfl rfl rfl), ?_, ?_⟩
  · exact ⟨hc1, K.own hf2 (by simp; omega), hb2⟩
  exact jq
 obtain rfl : i = l.length := jo
 refine jX ?_
 refine qK (qK (qS ?_))
 refine jN (jv1 2 ?_)
 refine jS (jR (je (Run.loadB rfl Tryz.isAgg204 Tryz.sizeOf204 hb (eC _)) ?_))
 refine Ops.st (qZ.storeA rfl rfl Tryz.sizeOf204 hb rfl (nF _)) ?_
 rintro w3 ⟨hb3, hf3, hs3⟩
 refine ja rfl (jO (jN (jv2 2 3 ?_)))
 refine jT ?_
 refine cJ ?_
 refine pU rfl Tryz.isAgg204 Tryz.sizeOf204 (hb3) rfl ?_
 refine bE rfl ?_
 refine bW ?_
 exact ⟨K.own hf3 (by simp; omega), rfl⟩
theorem rH (gs : Nat) (U : Nat → Bool) (s : Tx) (w : World) (hb : Blk w gs 204 (asC U)) (hs : s.length ≤ 1000000) : Calls Tryz.prog 170 #[encStr s, jI0 gs] w fun e w' => e = .returned (encStr (s.dropWhile fun x => U x.toNat)) ∧ w = w' := by
 obtain ⟨r, hr⟩ : ∃ r, (s.dropWhile fun x => U x.toNat) = r := ⟨_, rfl⟩
 rw [hr]
 refine jV Tryz.func170 Tryz.ntmps170 Tryz.results170 ?_
 refine jS (jR (ja rfl (jO (jN (jv2 0 1 ?_)))))
 refine jS (jB ?_)
 refine VC.loop (σ := Tx) (fun s => [(0, encStr s), (1, jI0 gs)]) (fun s wr => s.length ≤ 1000000 ∧ (s.dropWhile fun x => U x.toNat) = r ∧ w = wr) (fun s => s.length) s (js2 rfl rfl) ⟨hs, hr, rfl⟩ ?_
 clear hs hr
 rintro s wr ⟨hs, hr, hwr⟩
 subst hwr
 refine jS (jS (jR (jm rfl (je (Run.lenT rfl za) (jb rfl rfl (Bin.gtrN _ 0) (jO (jN (jv3 0 1 7 ?_))))))))
 refine jD rfl (fun hc1 => ?_) fun hc1 => ?_
 ·
  obtain ⟨x, t, rfl⟩ : ∃ x t, s = x :: t := by
   cases s with
   | nil => exact absurd hc1 jp
   | cons x t => exact ⟨x, t, rfl⟩
  refine jQ (jN (jv2 0 1 ?_))
  refine jB (jS (jS (jR (jm rfl (jm rfl (je (Run.indexT 0 rfl rfl za rfl) ?_))))))
  refine jc0 (jE2 Tryz.call189) (kU gs U x w hb) ?_
  refine je (Run.not rfl) (jO (jN (jv3 0 1 12 ?_)))
  refine VC.condB rfl (fun hc2 => ?_) (fun hc2 => ?_)
  ·
   have hu : U x.toNat = false := by simpa using hc2
   rw [zbs (by simp [hu])] at hr
   subst hr
   refine jX ?_
   refine qK (eI rfl (qK (qS ?_)))
   refine jN (jv1 0 ?_)
   refine jS (jR (jm rfl (ja rfl (jO (jN (jv1 4 ?_))))))
   refine jT ?_
   refine qP rfl ?_
   exact ⟨rfl, rfl⟩
  have hu : U x.toNat = true := by simpa using hc2
  rw [zbt (by simp [hu])] at hr
  refine jQ (jN (jv2 0 1 ?_))
  refine jR (jm rfl (je (Run.sliceT 1 _ rfl za (evB.some_ rfl) evB.none_ jo jo) ?_))
  rw [show ((x :: t).drop 1).take ((x :: t).length - 1) = t by simp]
  refine ja rfl (jO ?_)
  refine qW (jN ⟨t, (js2 rfl rfl), ?_, ?_⟩)
  · exact ⟨by simp at hs ⊢; omega, hr, rfl⟩
  simp
 obtain rfl : s = [] := List.length_eq_zero_iff.1 jo
 obtain rfl : [] = r := hr
 refine jX ?_
 refine qK (qK (qS ?_))
 refine jN (jv1 0 ?_)
 refine jS (jR (jm rfl (ja rfl (jO (jN (jv1 4 ?_))))))
 refine jT ?_
 refine qP rfl ?_
 exact ⟨rfl, rfl⟩
theorem rM (gs : Nat) (U : Nat → Bool) (s : Tx) (w : World) (hb : Blk w gs 204 (asC U)) (hs : s.length ≤ 1000000) : Calls Tryz.prog 171 #[encStr s, jI0 gs] w fun e w' => e = .returned (encStr (s.reverse.dropWhile fun x => U x.toNat).reverse) ∧ w = w' := by
 obtain ⟨r, hr⟩ : ∃ r, (s.reverse.dropWhile fun x => U x.toNat).reverse = r := ⟨_, rfl⟩
 rw [hr]
 refine jV Tryz.func171 Tryz.ntmps171 Tryz.results171 ?_
 refine jS (jR (ja rfl (jO (jN (jv2 0 1 ?_)))))
 refine jS (jB ?_)
 refine VC.loop (σ := Tx) (fun s => [(0, encStr s), (1, jI0 gs)]) (fun s wr => s.length ≤ 1000000 ∧ (s.reverse.dropWhile fun x => U x.toNat).reverse = r ∧ w = wr) (fun s => s.length) s (js2 rfl rfl) ⟨hs, hr, rfl⟩ ?_
 clear hs hr
 rintro s wr ⟨hs, hr, hwr⟩
 subst hwr
 refine jS (jS (jR (jm rfl (je (Run.lenT rfl za) (jb rfl rfl (Bin.gtrN _ 0) (jO (jN (jv3 0 1 7 ?_))))))))
 refine jD rfl (fun hc1 => ?_) fun hc1 => ?_
 ·
  obtain ⟨x, t, rfl⟩ : ∃ x t, s = t ++ [x] := by
   have hne : s ≠ [] := fun e => by rw [e] at hc1; exact absurd hc1 jp
   exact ⟨s.getLast hne, s.dropLast, (List.dropLast_concat_getLast hne).symm⟩
  have htl : (t ++ [x]).length = t.length + 1 := jp
  rw [List.reverse_append, List.reverse_singleton, List.singleton_append] at hr
  refine jQ (jN (jv2 0 1 ?_))
  refine jB (jS (jS (jR (jm rfl (jm rfl (jm rfl (je (Run.lenT rfl za) (jb rfl rfl (Bin.sub_i64 _ 1 jo jo) (je (Run.indexT _ rfl rfl za (show (t ++ [x])[(t ++ [x]).length - 1]? = some x by simp)) ?_)))))))))
  refine jc0 (jE2 Tryz.call189) (kU gs U x w hb) ?_
  refine je (Run.not rfl) (jO (jN (jv3 0 1 15 ?_)))
  refine VC.condB rfl (fun hc2 => ?_) (fun hc2 => ?_)
  ·
   have hu : U x.toNat = false := by simpa using hc2
   rw [zbs (by simp [hu])] at hr
   have hr : t ++ [x] = r := by rw [← hr]; simp
   subst hr
   refine jX ?_
   refine qK (eI rfl (qK (qS ?_)))
   refine jN (jv1 0 ?_)
   refine jS (jR (jm rfl (ja rfl (jO (jN (jv1 4 ?_))))))
   refine jT ?_
   refine qP rfl ?_
   exact ⟨rfl, rfl⟩
  have hu : U x.toNat = true := by simpa using hc2
  rw [zbt (by simp [hu])] at hr
  refine jQ (jN (jv2 0 1 ?_))
  refine jR (jm rfl (jm rfl (je (Run.lenT rfl za) (jb rfl rfl (Bin.sub_i64 _ 1 jo jo) (je (Run.sliceT 0 _ rfl za evB.none_ (evB.some_ rfl) jo jo) ?_)))))
  rw [show ((t ++ [x]).drop 0).take ((t ++ [x]).length - 1 - 0) = t by simp]
  refine ja rfl (jO ?_)
  refine qW (jN ⟨t, (js2 rfl rfl), ?_, ?_⟩)
  · exact ⟨by simp at hs ⊢; omega, hr, rfl⟩
  simp
 obtain rfl : s = [] := List.length_eq_zero_iff.1 jo
 obtain rfl : [] = r := hr
 refine jX ?_
 refine qK (qK (qS ?_))
 refine jN (jv1 0 ?_)
 refine jS (jR (jm rfl (ja rfl (jO (jN (jv1 4 ?_))))))
 refine jT ?_
 refine qP rfl ?_
 exact ⟨rfl, rfl⟩
def gA (l s : Tx) : Tx := ((s.reverse.dropWhile fun x => inS l l.length x.toNat).reverse).dropWhile fun x => inS l l.length x.toNat
theorem rN {α : Type} (p : α → Bool) : ∀ (s : List α), s.dropWhile p = [] ↔ ∀ x ∈ s, p x = true
 | [] => jp
 | a :: r => by
  by_cases ha : p a = true
  ·
   rw [zbt ha, rN p r]
   simp [ha]
  rw [zbs ha]
  simp [ha]
theorem rP {α : Type} (p : α → Bool) : ∀ (s : List α), (∀ x ∈ s.dropWhile p, p x = true) → ∀ x ∈ s, p x = true
 | [], _, x, hx => by cases hx
 | a :: r, h, x, hx => by
  by_cases ha : p a = true
  ·
   rw [zbt ha] at h
   rcases zak.1 hx with h1 | h1
   · rw [h1]; exact ha
   exact rP p r h x h1
  rw [zbs ha] at h
  exact h x hx
theorem rR {l s : Tx} : gA l s = [] ↔ ∀ x ∈ s, x ∈ l := by
 have hin : ∀ x : UInt8, inS l l.length x.toNat = true ↔ x ∈ l := fun x => by
  unfold inS
  rw [decide_eq_true_iff, zar]
  constructor
  ·
   rintro ⟨y, hy, he⟩
   rwa [← UInt8.toNat_inj.1 he]
  exact fun h => ⟨x, h, rfl⟩
 unfold gA
 rw [rN]
 constructor
 ·
  intro h x hx
  exact (hin x).1 (rP (fun x : UInt8 => inS l l.length x.toNat) s.reverse (fun y hy => h y (by simpa using hy)) x (by simpa using hx))
 intro h x hx
 have h1 : x ∈ s.reverse := (List.dropWhile_sublist _).subset (by simpa using hx)
 exact (hin x).2 (h x (by simpa using h1))
theorem rS (s l : Tx) (w : World) (hs : s.length ≤ 1000000) (hl : ∀ x ∈ l, x.toNat < 128) (hn : l.length ≤ 1000) (h2 : 2 ≤ l.length) (h1 : 1 ≤ s.length) : Calls Tryz.prog 135 #[encStr s, encStr l] w fun e w' => e = .returned (encStr (gA l s)) ∧ Frm [] w w' := by
 have hse : ¬ s = [] := fun e => by rw [e] at h1; simp at h1
 have hle : ¬ l = [] := fun e => by rw [e] at h2; simp at h2
 refine jV Tryz.func135 Tryz.ntmps135 Tryz.results135 ?_
 refine jS (jR (ja rfl (jO (jN (jv2 0 1 ?_)))))
 refine jS (jS (jR (jm rfl (je (Run.eqlT rfl rfl) (jM ?_)))))
 refine Ops.rg rfl (decide_eq_false hse) (Run.mv rfl) rfl ?_
 refine Ops.rg rfl (decide_eq_false hse) (Run.eqlT rfl rfl) rfl ?_
 refine jF rfl rfl (decide_eq_false hse) (jO (jN (jv3 0 1 12 ?_)))
 refine VC.condF rfl (decide_eq_false hle) ?_
 refine jQ (jN (jv2 0 1 ?_))
 refine jS (jS (jR (jm rfl (je (Run.lenT rfl za) (jb rfl rfl (Bin.eqlN _ 1) (jM ?_))))))
 refine Ops.sk rfl jdf rfl ?_
 refine Ops.sk rfl jdf rfl ?_
 refine Ops.sk rfl jdf rfl ?_
 refine jF rfl rfl jdf (jO (jN (jv3 0 1 21 ?_)))
 refine VC.condF rfl (rfl) ?_
 refine jQ (jN (jv2 0 1 ?_))
 refine jS (jS (jR (jM ?_)))
 refine jc (jE1 Tryz.call169) (rG l w hl jo) ?_
 rintro e w1 ⟨hf1, rfl⟩
 refine ⟨_, rfl, ?_⟩
 refine jm rfl (jY rfl rfl (jY rfl rfl ?_))
 refine Ops.m (qV.alloc nU) rfl ?_
 rintro _ w2 ⟨rfl, hF2⟩
 refine Ops.st (qZ.storeA rfl rfl Tryz.sizeOf204 hF2.blk (by rw [eC]; rfl) (nF _)) ?_
 rintro w3 ⟨hb3, hf3, hs3⟩
 have K := (hf1.trans hF2.frm jp).own hf3 (by simp; exact hf1.size)
 refine ja rfl (jO (jN (jv4 0 1 5 6 ?_)))
 refine jS (jR (jm rfl (jO (jN (jv4 0 1 5 34 ?_)))))
 refine VC.condT rfl (rfl) ?_
 refine jS (jR (jM ?_))
 refine jc0 (jE2 Tryz.call171) (rM w1.heap.size (inS l l.length) s w3 hb3 hs) ?_
 refine jc0 (jE2 Tryz.call170) (rH w1.heap.size (inS l l.length) _ w3 hb3 (by rw [List.length_reverse]; exact zq (List.dropWhile_sublist _).length_le (by rw [List.length_reverse]; exact hs))) ?_
 refine ja rfl (jO (jN (jv1 4 ?_)))
 refine jT ?_
 refine qQ (qP rfl ?_)
 exact ⟨rfl, K⟩
end
section
open Go.RowKit Go.Sort
theorem rT : dM [42] = 0 := jd
theorem tK {s : Tx} (h : s ≠ [42]) (h2 : s = [] ∨ 10 < s.length ∨ s.head? = some 48) : dM s = -1 := by
 unfold dM
 rw [if_neg h, if_pos h2]
theorem uG {s : Tx} (h : s ≠ [42]) (h2 : ¬ (s = [] ∨ 10 < s.length ∨ s.head? = some 48)) : dM s = if (∀ x ∈ s, Dig x) ∧ eQ 0 s ≤ 2147483647 then ((eQ 0 s : Nat) : Int) else -1 := by
 unfold dM
 rw [if_neg h, if_neg h2]
theorem fM (s : Tx) (w : World) (hs : s.length ≤ 1000000) : Calls Tryz.prog 139 #[encStr s] w fun e w' => e = .returned (.int .i64 (dM s)) ∧ w = w' := by
 refine jV Tryz.func139 Tryz.ntmps139 Tryz.results139 ?_
 refine jS (jR (jz 0 (jO (jN (jv1 0 ?_)))))
 refine jS (jS (jR (jm rfl (je (Run.eqlT rfl rfl) (jO (jN (jv2 0 6 ?_)))))))
 refine jD rfl (fun hc1 => ?_) fun hc1 => ?_
 ·
  subst hc1
  refine jS (jR (jz 0 (jO (jN (jv1 2 ?_)))))
  refine jT ?_
  refine qQ (qP rfl ?_)
  exact ⟨by rw [rT]; rfl, rfl⟩
 refine jQ (jN (jv1 0 ?_))
 refine jS (jS ?_)
 refine VC.split1 [(0, _)] (js1 rfl) 18 (.bool (decide (s = [] ∨ 10 < s.length ∨ s.head? = some 48))) ?_ ?_
 ·
  refine jR ?_
  refine jm rfl (je (Run.eqlT rfl rfl) ?_)
  by_cases hs8 : s = []
  ·
   refine jM ?_
   refine jU ?_
   refine jU ?_
   refine jU ?_
   refine jW rfl rfl au (jM ?_)
   refine jU ?_
   refine jU ?_
   refine jU ?_
   refine jW rfl rfl au (jO ?_)
   refine jN ⟨(js2 (jC (Eq.symm (by first | exact decide_eq_true (.inl ‹_›) | exact decide_eq_true (.inr (.inl ‹_›)) | exact decide_eq_true (.inr (.inr (congrArg some (hx48.2 ‹_›)))) | (simp only [List.head?_cons, Option.some.injEq, hx48]; simp_all)))) rfl), rfl⟩
  refine jM ?_
  refine jG ?_
  refine jk (Run.lenT rfl za) ?_
  refine jk (Run.bin rfl rfl (Bin.gtrN _ 10)) ?_
  by_cases hs12 : 10 < s.length
  ·
   refine jF rfl rfl au (jM ?_)
   refine jU ?_
   refine jU ?_
   refine jU ?_
   refine jW rfl rfl au (jO ?_)
   refine jN ⟨(js2 (jC (Eq.symm (by first | exact decide_eq_true (.inl ‹_›) | exact decide_eq_true (.inr (.inl ‹_›)) | exact decide_eq_true (.inr (.inr (congrArg some (hx48.2 ‹_›)))) | (simp only [List.head?_cons, Option.some.injEq, hx48]; simp_all)))) rfl), rfl⟩
  obtain ⟨x0, r0, rfl⟩ : ∃ x0 r0, s = x0 :: r0 := by
   cases s with
   | nil => exact absurd rfl hs8
   | cons a r => exact ⟨a, r, rfl⟩
  have hx48 : x0 = 48 ↔ x0.toNat = 48 := ⟨fun h => by subst h; rfl, fun h => UInt8.toNat_inj.1 h⟩
  refine jF rfl rfl au (jM ?_)
  refine jG ?_
  refine jk (Run.indexT 0 rfl rfl za rfl) ?_
  refine jk (Run.bin rfl rfl (Bin.eqlN _ 48)) ?_
  by_cases hs17 : x0.toNat = 48
  ·
   refine jF rfl rfl au (jO ?_)
   refine jN ⟨(js2 (jC (Eq.symm (by first | exact decide_eq_true (.inl ‹_›) | exact decide_eq_true (.inr (.inl ‹_›)) | exact decide_eq_true (.inr (.inr (congrArg some (hx48.2 ‹_›)))) | (simp only [List.head?_cons, Option.some.injEq, hx48]; simp_all)))) rfl), rfl⟩
  refine jF rfl rfl au (jO ?_)
  refine jN ⟨(js2 (jC (Eq.symm (by first | exact decide_eq_true (.inl ‹_›) | exact decide_eq_true (.inr (.inl ‹_›)) | exact decide_eq_true (.inr (.inr (congrArg some (hx48.2 ‹_›)))) | (simp only [List.head?_cons, Option.some.injEq, hx48]; simp_all)))) rfl), rfl⟩
 intro Γ hΓ
 refine jN (VC.sub _ hΓ ?_)
 refine jD rfl (fun hc2 => ?_) fun hc2 => ?_
 ·
  have hnq := tK hc1 hc2
  refine jS (jR ?_)
  refine Ops.r (v := .int .i64 (-1)) (Run.asg rfl) rfl ?_
  refine jO (jN (jv1 2 ?_))
  refine jT ?_
  refine qQ (qP rfl ?_)
  exact ⟨by rw [hnq], rfl⟩
 have hnq := uG hc1 hc2
 have hl10 : s.length ≤ 10 := Nat.le_of_not_lt fun h => hc2 (.inr (.inl h))
 refine jQ (jN (jv1 0 ?_))
 refine jS (jR (jz 0 (jO (jN (jS (jS (jR (jm rfl (je (Run.lenT rfl za) ?_)))))))))
 refine jx .i64 0 ?_
 refine jO (jN (jv4 0 3 20 21 ?_))
 refine jB ?_
 refine VC.loop (σ := Nat) (fun i => [(0, encStr s), (3, jI1 (eQ 0 (s.take i))), (20, jI1 s.length), (21, jI1 i)]) (fun i wr => i ≤ s.length ∧ (∀ x ∈ s.take i, Dig x) ∧ w = wr) (fun i => s.length - i) 0 (js4 rfl rfl rfl rfl) ⟨jo, jp, rfl⟩ ?_
 rintro i _ ⟨hi, hd, rfl⟩
 refine jS (jR (jb rfl rfl (Bin.lssN _ _) (jO (jN (jS ?_)))))
 refine jD rfl (fun hc3 => ?_) fun hc3 => ?_
 ·
  have hts : s.take (i + 1) = s.take i ++ [s[i]] := by rw [zba, zb hc3]; rfl
  have hxm : s[i] ∈ s := zaq hc3
  have hgx : s[i]? = some s[i] := zb hc3
  have hdl := nC (s.take i) 0 0 hd jd
  have hdl2 : eQ 0 (s.take i) < 10 ^ 10 := Nat.lt_of_lt_of_le hdl (Nat.pow_le_pow_right jd (by simp; omega))
  generalize hx : s[i] = x at *
  have hds := rX 0 (s.take i) x
  refine jQ (jN (jv4 0 3 20 21 ?_))
  refine jS (jB (jS (jR (jm rfl (ja rfl (jO (jN (jv5 0 3 4 20 21 ?_))))))))
  refine jS (jS ?_)
  refine VC.split1 [(0, _), (3, _), (4, _), (20, _), (21, _)] (js5 rfl rfl rfl rfl rfl) 33 (.bool (decide (¬ Dig x))) ?_ ?_
  ·
   refine jR ?_
   refine jm rfl (jm rfl (je (Run.indexT _ rfl rfl za hgx) (jb rfl rfl (Bin.lssN _ 48) ?_)))
   by_cases hs27 : x.toNat < 48
   ·
    refine jM ?_
    refine jU ?_
    refine jU ?_
    refine jU ?_
    refine jU ?_
    refine jW rfl rfl au (jO ?_)
    refine jN ⟨(js6 (jC (Eq.symm (by first | exact decide_eq_true (by unfold Dig; omega) | exact decide_eq_decide.2 (by unfold Dig; omega)))) rfl rfl rfl rfl rfl), rfl⟩
   refine jM ?_
   refine jG ?_
   refine jG ?_
   refine jk (Run.indexT _ rfl rfl za hgx) ?_
   refine jk (Run.bin rfl rfl (Bin.gtrN _ 57)) ?_
   by_cases hs32 : 57 < x.toNat
   ·
    refine jF rfl rfl au (jO ?_)
    refine jN ⟨(js6 (jC (Eq.symm (by first | exact decide_eq_true (by unfold Dig; omega) | exact decide_eq_decide.2 (by unfold Dig; omega)))) rfl rfl rfl rfl rfl), rfl⟩
   refine jF rfl rfl au (jO ?_)
   refine jN ⟨(js6 (jC (Eq.symm (by first | exact decide_eq_true (by unfold Dig; omega) | exact decide_eq_decide.2 (by unfold Dig; omega)))) rfl rfl rfl rfl rfl), rfl⟩
  intro Γ hΓ
  refine jN (VC.sub _ hΓ ?_)
  refine jD rfl (fun hc4 => ?_) fun hc4 => ?_
  ·
   refine jS (jR ?_)
   refine Ops.r (v := .int .i64 (-1)) (Run.asg rfl) rfl ?_
   refine jO (jN (jv1 2 ?_))
   refine jT ?_
   refine qQ (qR (qQ (qQ (qR (qQ (qP rfl ?_))))))
   refine ⟨?_, rfl⟩
   rw [hnq, if_neg (fun h => hc4 (h.1 x hxm))]
  refine jQ (jN (jv5 0 3 4 20 21 ?_))
  refine jR (jm rfl (jb rfl rfl (Bin.mul_i64 10 _ jo) (jm rfl (jm rfl (je (Run.indexT _ rfl rfl za hgx) (jb rfl rfl (Bin.sub_u8 x.toNat 48 (by have := (Classical.not_not.1 hc4).1; omega) (by have := x.toNat_lt; omega)) (je (Run.convN _ rfl zag zt (by simp only [bmax]; omega)) (jb rfl rfl (Bin.add_i64 _ _ jo) ?_))))))))
  refine ja rfl (jO ?_)
  refine qW (jN ?_)
  refine jv4 0 3 20 21 ?_
  refine jR (jb rfl rfl (Bin.add_i64 _ 1 jo) (jm rfl (jO ?_)))
  refine jN ⟨(i + 1), (js4 rfl (by rw [hts, hds]; rfl) rfl rfl), ?_, ?_⟩
  ·
   refine ⟨hc3, fun y hy => ?_, rfl⟩
   rw [hts] at hy
   rcases List.mem_append.1 hy with h | h
   · exact hd y h
   simp only [ze] at h; subst h; exact Classical.not_not.1 hc4
  exact jq
 have hil : i = s.length := jo
 subst hil
 rw [zar] at hd ⊢
 refine jX ?_
 refine qK (qK (qS ?_))
 refine jN (jv1 3 ?_)
 refine jS (jS (jR (jm rfl (jb rfl rfl (Bin.gtrN _ 2147483647) (jO (jN (jv2 3 44 ?_)))))))
 refine jD rfl (fun hc5 => ?_) fun hc5 => ?_
 ·
  refine jS (jR ?_)
  refine Ops.r (v := .int .i64 (-1)) (Run.asg rfl) rfl ?_
  refine jO (jN (jv1 2 ?_))
  refine jT ?_
  refine qQ (qP rfl ?_)
  exact ⟨by rw [hnq, if_neg (fun h => by have := h.2; omega)], rfl⟩
 refine jQ (jN (jv1 3 ?_))
 refine jS (jR (jm rfl (ja rfl (jO (jN (jv1 2 ?_))))))
 refine jT ?_
 refine qP rfl ?_
 exact ⟨by rw [hnq, if_pos ⟨hd, jo⟩], rfl⟩
end
section
open Go.RowKit Go.Sort
theorem nG (pre : List Tx) (x : Tx) : SC (pre.map cB) ++ SC [cB x] = SC ((pre ++ [x]).map cB) := by simp [SC]
theorem hrdS {w w' : World} {t : TypeId} {x : Sp} (h : Fresh w w' t (Value.agg (SC1 x).toArray).cells) : Rd w' 2 (some ⟨w.heap.size, 0, none⟩) 1 (SC [x]) := Rd.of_blk (n := 1) (size := 2) h.blk rfl
theorem vV (l : List Sp) : ∀ u ∈ SC l, u.oneCell' = true := by
 intro u hu
 obtain ⟨x, _, hx⟩ := List.mem_flatMap.1 hu
 exact nD x u hx
def gQ (s : Tx) : Int := if dR s then 0 else 3
def PaI (w : World) (s : Tx) (g2 g3 g4 : Nat) (Bt : List Nat) (pre : List Tx) (W : World) : Prop :=
 (∀ x ∈ pre, fI x) ∧ pre.length ≤ 64 ∧ Frm [] w W ∧ Blk W g2 26 #[.slice none 0 0] ∧ Blk W g3 35 #[.int .i64 0] ∧
  ∃ A q, Blk W g4 26 #[.slice A pre.length q] ∧ Own W 96 2 A pre.length q (SC (pre.map cB)) ∧ ∀ x ∈ ob A, w.heap.size ≤ x ∧ x ∉ Bt
def PaX (w : World) (s : Tx) (g2 g3 : Nat) (e : Exit) (pre : List Tx) (W : World) : Prop :=
 e = .ret ∧ ¬ dR s ∧ Frm [] w W ∧ Blk W g2 26 #[.slice none 0 0] ∧ Blk W g3 35 #[.int .i64 3]
theorem oA {s : Tx} (h : dR s) : dK s = (bG 44 s).map cB ∧ gQ s = 0 := by unfold dK gQ; rw [if_pos h, if_pos h]; exact ⟨rfl, rfl⟩
theorem rU {s : Tx} (h : ¬ dR s) : dK s = [] ∧ gQ s = 3 := by unfold dK gQ; rw [if_neg h, if_neg h]; exact ⟨rfl, rfl⟩
theorem oI (s : Tx) (w : World) (hs : s.length ≤ 1000000) :
  Calls Tryz.prog 100 #[encStr s] w fun e w' => Frm [] w w' ∧ ∃ A q, e = .returned (.tuple #[.slice A (dK s).length q, .int .i64 (gQ s)]) ∧ Own w' 96 2 A (dK s).length q (SC (dK s)) ∧ (∀ x ∈ ob A, w.heap.size ≤ x) := by
 have K := Frm.refl [] w
 refine DV.calls (nt := 46) (res := #[.cell 2 26, .cell 3 35]) Tryz.func100 rfl Tryz.ntmps100 Tryz.results100 rfl ?_
 refine DV.seq ?_
 refine DV.vc ?_
 refine jR ?_
 refine Ops.m (qV.alloc pB) rfl ?_
 rintro _ w1 ⟨rfl, hF_w1⟩
 have hb2 := hF_w1.blk
 have hs2_K := K.size
 have K := Frm.trans K hF_w1.frm jp
 generalize hg2 : w.heap.size = g2 at hb2 hs2_K ⊢
 refine Ops.m (qV.alloc pC) rfl ?_
 rintro _ w2 ⟨rfl, hF_w2⟩
 have hb3 := hF_w2.blk
 have hs3_K := K.size
 have lt_hb2_3 := hb2.lt
 have hb2 := hb2.frm hF_w2.frm jp
 have K := Frm.trans K hF_w2.frm jp
 generalize hg3 : w1.heap.size = g3 at hb3 hs3_K lt_hb2_3 ⊢
 refine jO ?_
 refine fS ?_
 refine DV.seq ?_
 refine DV.vc ?_
 refine jR ?_
 refine Ops.m (qV.alloc pB) rfl ?_
 rintro _ w3 ⟨rfl, hF_w3⟩
 have hb4 := hF_w3.blk
 have hs4_K := K.size
 have lt_hb2_4 := hb2.lt
 have lt_hb3_4 := hb3.lt
 have hb2 := hb2.frm hF_w3.frm jp
 have hb3 := hb3.frm hF_w3.frm jp
 have K := Frm.trans K hF_w3.frm jp
 generalize hg4 : w2.heap.size = g4 at hb4 hs4_K lt_hb2_4 lt_hb3_4 ⊢
 have l2 := hb2.lt
 have l3 := hb3.lt
 have l4 := hb4.lt
 refine jO ?_
 refine fS ?_
 refine DV.seq ?_
 refine DV.seq ?_
 refine DV.vc ?_
 refine jR (jM ?_)
 refine jc (jE2 Tryz.call137) (lD s 44 _) ?_
 rintro e w4 ⟨hf_w4, ga, gb, gc, rfl, ⟨hqa, hqb, hqc⟩, hga, hgb, hgc, hnab, hncb⟩
 refine ⟨_, rfl, ?_⟩
 have hb2 := hb2.frm hf_w4 jp
 have hb3 := hb3.frm hf_w4 jp
 have hb4 := hb4.frm hf_w4 jp
 have K := Frm.trans K hf_w4 jp
 have h34 := hf_w4.size
 refine jO ?_
 refine fS ?_
 refine DV.sub [(2, _), (3, _), (4, _), (11, _)] (js4 rfl rfl rfl rfl) ?_
 refine DV.block ?_
 have hKs := K.size
 refine DV.range (ps := [12]) (fun x => [encStr x]) (oE s 44 ga gb gc hs ⟨hnab, hncb⟩) rfl Tryz.call198 (fun _ => rfl) rfl (PaI w s g2 g3 g4 [ga, gb, gc]) (PaX w s g2 g3) (fun x => [(2, jI0 g2), (3, jI0 g3), (4, jI0 g4), (5, encStr x)]) ?_ ?_ ?_ ?_ ?_ ?_ ?_ ?_ ?_ ?_ ?_
 ·
  rintro pre W W' S ⟨h1, h2, h3, h4, h5, A, q, h6, h7, h8⟩ hf hS
  exact ⟨h1, h2, h3.nc hf hS (by simp; omega) K.size, h4.frm hf (h4.nc hS (by simp; omega)), h5.frm hf (h5.nc hS (by simp; omega)), A, q, h6.frm hf (h6.nc hS (by simp; omega)), h7.frm hf (h7.nc hS (fun x hx hb => (h8 x hx).2 (by simp at hb ⊢; simp [hb]))), h8⟩
 ·
  rintro e pre W W' S ⟨h1, h2, h3, h4, h5⟩ hf hS
  exact ⟨h1, h2, h3.nc hf hS (by simp; omega) K.size, h4.frm hf (h4.nc hS (by simp; omega)), h5.frm hf (h5.nc hS (by simp; omega))⟩
 · exact fun W hf => ⟨hqa.frm hf jp, hqb.frm hf jp, hqc.frm hf jp⟩
 · simp
 ·
  have := hqa.lt
  have := hqb.lt
  have := hqc.lt
  simp; omega
 · exact ⟨jp, jp, K, hb2, hb3, none, 0, hb4, Own.nil _ _ _, by simp [ob]⟩
 ·
  intro l x W
  refine jv4 2 3 4 12 ?_
  refine jR (ja rfl (jO ?_))
  refine jN ⟨rfl, (js4 rfl rfl rfl rfl)⟩
 ·
  rintro l pre x W ⟨hgd, hpl, K, hb2, hb3, A, q, hb4, hA, hAB⟩ hpre hsz hmk
  have hxm : x ∈ bG 44 s := hpre.subset jp
  have hxl := zq (lG s x hxm) hs
  have hxb := dO 58 x
  have KW := Frm.refl [] W
  have hAlt := hA.lt
  have h20 := hb2
  have h30 := hb3
  have h40 := hb4
  have hA0 := hA
  have K0 := K
  have hl2 := hb2.lt
  have hl3 := hb3.lt
  have hl4 := hb4.lt
  have hla := hqa.lt
  have hlb := hqb.lt
  have hlc := hqc.lt
  have hAne : ∀ y ∈ ob A, y ≠ g4 ∧ y ≠ g2 ∧ y ≠ g3 := by
   intro y hy
   refine ⟨?_, ?_, ?_⟩
   · rintro rfl; exact hA.ne_blk hb4 jd hy
   · rintro rfl; exact hA.ne_blk hb2 jd hy
   rintro rfl; exact hA.ne_blk hb3 jd hy
  refine jB (jS (jR (jM ?_)))
  refine jc (jE2 Tryz.call138) (fO x 58 _ hxl) ?_
  rintro e W1 ⟨rfl, hf_W1⟩
  refine ⟨_, rfl, ?_⟩
  have hb2 := hb2.frm hf_W1 jp
  have hb3 := hb3.frm hf_W1 jp
  have hb4 := hb4.frm hf_W1 jp
  have KW := Frm.trans KW hf_W1 jp
  have K := Frm.trans K hf_W1 jp
  have hA := hA.frm hf_W1 jp
  refine jm rfl (jY rfl rfl (jY rfl rfl (jY rfl rfl (ja rfl (ja rfl (ja rfl (jO (jN (jv6 2 3 4 6 7 8 ?_)))))))))
  refine jS (jR (jM ?_))
  refine jc0 (jE1 Tryz.call139) (fM (bQ 58 x) _ jo) ?_
  refine jM ?_
  refine jc0 (jE1 Tryz.call139) (fM (bQ 58 x) _ jo) ?_
  refine je (Run.build (evs.cons rfl (evs.cons rfl evs.nil)) lO (mZ).choose_spec.1 (mZ).choose_spec.2 rfl) ?_
  refine Ops.m (qV.alloc lO) rfl ?_
  rintro _ W2 ⟨rfl, hF_W2⟩
  have hb9 := hF_W2.blk
  have hs9_KW := KW.size
  have hs9_K := K.size
  have lt_hb2_9 := hb2.lt
  have lt_hb3_9 := hb3.lt
  have lt_hb4_9 := hb4.lt
  have hb2 := hb2.frm hF_W2.frm jp
  have hb3 := hb3.frm hF_W2.frm jp
  have hb4 := hb4.frm hF_W2.frm jp
  have KW := Frm.trans KW hF_W2.frm jp
  have K := Frm.trans K hF_W2.frm jp
  generalize hg9 : W1.heap.size = g9 at hb9 hs9_KW hs9_K lt_hb2_9 lt_hb3_9 lt_hb4_9 ⊢
  have hA := hA.frm hF_W2.frm jp
  refine Ops.st (qZ.storeA rfl rfl Tryz.sizeOf96 hb9 rfl (nD (dM (bQ 58 x), dM (bQ 58 x)))) ?_
  rintro W3 ⟨hb9n, hf_W3, hsz_W3⟩
  have hb9 : Blk W3 g9 96 #[.int .i64 (dM (bQ 58 x)), .int .i64 (dM (bQ 58 x))] := hb9n
  have hA := hA.frm hf_W3 (fun y hy => by have := hAlt y hy; simp; omega)
  have hb2 := hb2.frm hf_W3 (by simp; omega)
  have hb3 := hb3.frm hf_W3 (by simp; omega)
  have hb4 := hb4.frm hf_W3 (by simp; omega)
  have KW := Frm.own KW hf_W3 (fun y hy => by simp at hy; omega)
  have K := Frm.own K hf_W3 (fun y hy => by simp at hy; omega)
  refine jO (jN (jv6 2 3 4 7 8 9 ?_))
  refine jS (jS (jR (jm rfl (jO (jN (jv6 2 3 4 7 9 24 ?_))))))
  refine VC.meet (σ := Unit) (fun s => [(2, jI0 g2), (3, jI0 g3), (4, jI0 g4), (9, jI0 g9)]) (fun s wr => Blk wr g9 96 (SC1 (cB x)).toArray ∧ Frm [g9] W3 wr) ?_ ?_
  ·
   refine VC.condB rfl (fun hc1 => ?_) (fun hc1 => ?_)
   ·
    refine jR (jM ?_)
    refine jc0 (jE1 Tryz.call139) (fM (qB 58 x) _ jo) ?_
    refine jf rfl zdm rfl zc ?_
    refine Ops.st (qZ.store rfl rfl zc hb9 rfl rfl) ?_
    rintro W4 ⟨hb9n, hf_W4, hsz_W4⟩
    have hb9n : Blk W4 g9 96 #[.int .i64 (dM (bQ 58 x)), .int .i64 (dM (qB 58 x))] := hb9n
    refine jO ?_
    refine jN ⟨(), (js4 rfl rfl rfl rfl), ?_⟩
    have h58 : 58 ∈ x := of_decide_eq_true hc1
    exact ⟨by unfold cB; rw [if_pos h58]; exact hb9n, hf_W4⟩
   refine jQ ?_
   refine jN ⟨(), (js4 rfl rfl rfl rfl), ?_⟩
   have h58 : ¬ 58 ∈ x := of_decide_eq_false hc1
   exact ⟨by unfold cB; rw [if_neg h58]; exact hb9, Frm.refl _ _⟩
  rintro _ W5 ⟨hb9, hf_W5⟩ Γ hΓ
  have hA := hA.frm hf_W5 (fun y hy => by have := hAlt y hy; simp; omega)
  have hb2 := hb2.frm hf_W5 (by simp; omega)
  have hb3 := hb3.frm hf_W5 (by simp; omega)
  have hb4 := hb4.frm hf_W5 (by simp; omega)
  have KW := Frm.own KW hf_W5 (fun y hy => by simp at hy; omega)
  have K := Frm.own K hf_W5 (fun y hy => by simp at hy; omega)
  have hbadQ : fI x ↔ (0 ≤ (cB x).1 ∧ 0 ≤ (cB x).2) := Iff.rfl
  have hsp : ∃ sp, cB x = sp := ⟨_, rfl⟩
  obtain ⟨sp, hsp⟩ := hsp
  rw [hsp] at hb9 hbadQ
  refine jN (VC.sub _ hΓ (jS (jS ?_)))
  refine VC.split1 [(2, _), (3, _), (4, _), (9, _)] (js4 rfl rfl rfl rfl) 40 (.bool (decide (¬ fI x ∨ pre.length = 64))) ?_ ?_
  ·
   refine jR (jf rfl zdm rfl zc (jl rfl zl (hb9.cell 0) (jb rfl rfl (Bin.lss _ 0) ?_)))
   by_cases hs30 : sp.1 < 0
   ·
    refine jM ?_
    refine jU ?_
    refine jU ?_
    refine jU ?_
    refine jW rfl rfl au (jM ?_)
    refine jU ?_
    refine jU ?_
    refine jU ?_
    refine jW rfl rfl au (jO ?_)
    refine jN ⟨(js5 (jC (Eq.symm (by first | exact decide_eq_true (.inl fun h => by have := (hbadQ.1 h).1; omega) | exact decide_eq_true (.inl fun h => by have := (hbadQ.1 h).2; omega) | exact decide_eq_decide.2 ⟨fun h => h.resolve_left (fun h2 => h2 (hbadQ.2 ⟨jo, jo⟩)), .inr⟩))) rfl rfl rfl rfl), rfl⟩
   refine jM ?_
   refine jk (Run.fieldAddr rfl zdm rfl zc jd) ?_
   refine jk (Run.load rfl zl (hb9.cell 1)) ?_
   refine jk (Run.bin rfl rfl (Bin.lss _ 0)) ?_
   by_cases hs34 : sp.2 < 0
   ·
    refine jF rfl rfl au (jM ?_)
    refine jU ?_
    refine jU ?_
    refine jU ?_
    refine jW rfl rfl au (jO ?_)
    refine jN ⟨(js5 (jC (Eq.symm (by first | exact decide_eq_true (.inl fun h => by have := (hbadQ.1 h).1; omega) | exact decide_eq_true (.inl fun h => by have := (hbadQ.1 h).2; omega) | exact decide_eq_decide.2 ⟨fun h => h.resolve_left (fun h2 => h2 (hbadQ.2 ⟨jo, jo⟩)), .inr⟩))) rfl rfl rfl rfl), rfl⟩
   refine jF rfl rfl au (jM ?_)
   refine jk (Run.load rfl Tryz.isAgg26 (hb4.cell 0)) ?_
   refine jk (Run.lenS rfl Tryz.underlying26) ?_
   refine jk (Run.bin rfl rfl (Bin.eqlN _ 64)) ?_
   by_cases hs39 : pre.length = 64
   ·
    refine jF rfl rfl au (jO ?_)
    refine jN ⟨(js5 (jC (Eq.symm (by first | exact decide_eq_true (.inl fun h => by have := (hbadQ.1 h).1; omega) | exact decide_eq_true (.inl fun h => by have := (hbadQ.1 h).2; omega) | exact decide_eq_decide.2 ⟨fun h => h.resolve_left (fun h2 => h2 (hbadQ.2 ⟨jo, jo⟩)), .inr⟩))) rfl rfl rfl rfl), rfl⟩
   refine jF rfl rfl au (jO ?_)
   refine jN ⟨(js5 (jC (Eq.symm (by first | exact decide_eq_true (.inl fun h => by have := (hbadQ.1 h).1; omega) | exact decide_eq_true (.inl fun h => by have := (hbadQ.1 h).2; omega) | exact decide_eq_decide.2 ⟨fun h => h.resolve_left (fun h2 => h2 (hbadQ.2 ⟨jo, jo⟩)), .inr⟩))) rfl rfl rfl rfl), rfl⟩
  intro Γ hΓ
  refine jN (VC.sub _ hΓ ?_)
  refine jD rfl (fun hc2 => ?_) fun hc2 => ?_
  ·
   refine jS (jR ?_)
   refine Ops.st (qZ.store rfl rfl zcr hb2 rfl rfl) ?_
   rintro W6 ⟨hb2n, hf_W6, hsz_W6⟩
   have hb2n : Blk W6 g2 26 #[.slice none 0 0] := hb2n
   have hb3 := hb3.frm hf_W6 (by simp; omega)
   refine Ops.st (qZ.store rfl rfl Tryz.sizeOf35 hb3 rfl rfl) ?_
   rintro W7 ⟨hb3n, hf_W7, hsz_W7⟩
   have hb3n : Blk W7 g3 35 #[.int .i64 3] := hb3n
   have hb2n := hb2n.frm hf_W7 (by simp; omega)
   refine jO (jN (jv2 2 3 ?_))
   refine jT ?_
   refine qQ (qR (?_))
   refine ⟨⟨[g2, g3], ?_, ?_⟩, rfl, ?_, ?_, hb2n, hb3n⟩
   · exact ((KW.mono (T := [g2, g3]) jp).trans hf_W6 jp).trans hf_W7 jp
   ·
    intro b hb
    simp only [zak, zax, or_false] at hb
    rcases hb with rfl | rfl
    · exact ⟨by simp; omega, h20.isC⟩
    exact ⟨by simp; omega, h30.isC⟩
   ·
    rintro ⟨hall, hlen⟩
    rcases hc2 with h | h
    · exact h (hall x hxm)
    have := hpre.length_le
    simp at this
    omega
   exact Frm.own (Frm.own K hf_W6 (fun y hy => by simp at hy; omega)) hf_W7 (fun y hy => by simp at hy; omega)
  refine jQ (jN (jv2 4 9 ?_))
  refine jR (jl rfl Tryz.isAgg26 (hb4.cell 0) (je (Run.loadA rfl Tryz.isAgg96 Tryz.sizeOf96 (fun j v hj => hb9.cells j v hj) (by first | rfl | (simp; done))) ?_))
  refine Ops.m (qV.buildS1 rfl Tryz.underlying26 Tryz.sizeOf96 lO jd jd rfl rfl) rfl ?_
  rintro _ W6 ⟨rfl, hF_W6⟩
  have hb4 := hb4.frm hF_W6.frm jp
  have hb2 := hb2.frm hF_W6.frm jp
  have hb3 := hb3.frm hF_W6.frm jp
  have KW := KW.trans hF_W6.frm jp
  have K := K.trans hF_W6.frm jp
  refine Ops.m (qV.app rfl rfl Tryz.underlying26 (vQ) rfl jd (hA.frm hF_W6.frm jp) (hrdS hF_W6) (vV _) jo jo) rfl ?_
  rintro _ W7 ⟨A7, c7, rfl, hA7, hf_W7, hob7⟩
  rw [← hsp, nG] at hA7
  have hb4 := hb4.frm hf_W7 (fun hy => (hAne _ hy).1 rfl)
  have hb2 := hb2.frm hf_W7 (fun hy => (hAne _ hy).2.1 rfl)
  have hb3 := hb3.frm hf_W7 (fun hy => (hAne _ hy).2.2 rfl)
  have K := Frm.own K hf_W7 (fun y hy => (hAB y hy).1)
  refine Ops.st (qZ.store rfl rfl zcr hb4 rfl rfl) ?_
  rintro W8 ⟨hb4n, hf_W8, hsz_W8⟩
  refine jO ?_
  refine qW (?_)
  refine ⟨⟨ob A ++ [g4], ?_, ?_⟩, ?_⟩
  · exact ((KW.mono (T := ob A ++ [g4]) jp).trans hf_W7 (fun y hy => .inl (by simp [hy]))).trans hf_W8 (fun y hy => .inl (by simp at hy; simp [hy]))
  ·
   intro b hb
   rcases List.mem_append.1 hb with h | h
   · exact ⟨(hAB b h).2, hA0.isC b h⟩
   simp only [ze] at h
   subst h
   exact ⟨by simp; omega, h40.isC⟩
  have hgx : fI x := Classical.byContradiction fun h => hc2 (.inl h)
  have hne4 : ∀ y ∈ ob A7, y ≠ g4 := by
   intro y hy
   have := hA7.ne_blk hb4 jd
   rintro rfl
   exact this hy
  refine ⟨fun y hy => ?_, ?_, Frm.own K hf_W8 (fun y hy => by simp at hy; omega), hb2.frm hf_W8 (by simp; omega), hb3.frm hf_W8 (by simp; omega), A7, c7, ?_, ?_, ?_⟩
  ·
   rcases List.mem_append.1 hy with h | h
   · exact hgd y h
   simp only [ze] at h; subst h; exact hgx
  ·
   have : pre.length ≠ 64 := fun h => hc2 (.inr h)
   simp; omega
  · rw [zao]; exact hb4n
  · rw [zao]; exact hA7.frm hf_W8 (fun y hy => by have := hne4 y hy; simpa using this)
  intro y hy
  rcases hob7 with h | h
  · rw [h] at hy; exact hAB y hy
  rw [h] at hy
  simp only [ze] at hy
  have := KW.size
  have := hF_W6.size
  have := K0.size
  subst hy
  exact ⟨jo, by simp; omega⟩
 ·
  rintro W ⟨hgd, hpl, K, hb2, hb3, A, q, hb4, hA, hAB⟩ hsz hmk
  refine sB (fS ?_)
  refine DV.sub [(2, _), (3, _), (4, _)] (js3 rfl rfl rfl) ?_
  refine DV.seq ?_
  refine DV.vc ?_
  refine jR (jl rfl Tryz.isAgg26 (hb4.cell 0) ?_)
  refine Ops.st (qZ.store rfl rfl zcr hb2 rfl rfl) ?_
  rintro V1 ⟨hb2n, hf_V1, _⟩
  have hb2n : Blk V1 g2 26 #[.slice A (bG 44 s).length q] := hb2n
  have hmk := hmk.frm hf_V1 (by simp; exact hmk.ne_blk hb2)
  have hA := hA.frm hf_V1 (fun y hy => by have := hA.ne_blk hb2 jd; simp; rintro rfl; exact this hy)
  have hb3 := hb3.frm hf_V1 (by simp; omega)
  have K := Frm.own K hf_V1 (fun y hy => by simp at hy; omega)
  refine Ops.st (qZ.store rfl rfl Tryz.sizeOf35 hb3 rfl rfl) ?_
  rintro V2 ⟨hb3n, hf_V2, _⟩
  have hb3n : Blk V2 g3 35 #[.int .i64 0] := hb3n
  have hmk := hmk.frm hf_V2 (by simp; exact hmk.ne_blk hb3)
  have hA := hA.frm hf_V2 (fun y hy => by have := hA.ne_blk hb3 jd; simp; rintro rfl; exact this hy)
  have hb2n := hb2n.frm hf_V2 (by simp; omega)
  have K := Frm.own K hf_V2 (fun y hy => by simp at hy; omega)
  refine jO ?_
  refine fS ?_
  refine DV.sub [(2, _), (3, _)] (js2 rfl rfl) ?_
  refine DV.vc (jT ?_)
  refine pA jp (fun d hd => by simp only [ze] at hd; subst hd; exact hmk) (fun wz hsh => ?_)
  have hb2n := hb2n.frm hsh (by simp; omega)
  have hb3n := hb3n.frm hsh (by simp; omega)
  have hA := hA.frm hsh (fun y hy => by have := hmk.ne_own hA; simp; rintro rfl; exact this hy)
  have K := Frm.own K hsh (fun y hy => by have := hKs; simp at hy; omega)
  refine cJ ?_
  refine dY rfl Tryz.isAgg26 (hb2n.cell 0) ?_
  refine dY rfl Tryz.isAgg35 (hb3n.cell 0) ?_
  refine bW ?_
  have hok : dR s := ⟨hgd, hpl⟩
  obtain ⟨h1, h2⟩ := oA hok
  rw [h1, h2]
  exact ⟨K, A, q, by rw [zbb]; rfl, by rw [zbb]; exact hA, fun x hx => by have := (hAB x hx).1; omega⟩
 ·
  rintro pre W ⟨_, hno, K, hb2, hb3⟩ hsz hmk
  refine sC (uK (pA jp (fun d hd => by simp only [ze] at hd; subst hd; exact hmk) (fun wz hsh => ?_)))
  have hb2 := hb2.frm hsh (by simp; omega)
  have hb3 := hb3.frm hsh (by simp; omega)
  have K := Frm.own K hsh (fun y hy => by have := hKs; simp at hy; omega)
  refine cJ ?_
  refine dY rfl Tryz.isAgg26 (hb2.cell 0) ?_
  refine dY rfl Tryz.isAgg35 (hb3.cell 0) ?_
  refine bW ?_
  obtain ⟨h1, h2⟩ := rU hno
  rw [h1, h2]
  exact ⟨K, none, 0, rfl, Own.nil _ _ _, by simp [ob]⟩
 exact fun _ _ _ h => absurd h.1 jp
end
section
open Go.RowKit
def lX : Tx := [48, 49, 50, 51, 52, 53, 54, 55, 56, 57]
def gX (s : Tx) : Int := if s.length < 1 ∨ 9 < s.length ∨ ¬ gA lX s = [] then -1 else (Lib.atoi s).getD 0
theorem lS (s : Tx) (w : World) (hs : s.length ≤ 1000000) (hv : cN w) : Calls Tryz.prog 99 #[encStr s] w fun e w' => e = .returned (.int .i64 (gX s)) ∧ Frm [] w w' := by
 refine jV Tryz.func99 Tryz.ntmps99 Tryz.results99 ?_
 refine jS (jR (jz 0 (jO (jN (jv1 0 ?_)))))
 refine jS (jS ?_)
 refine VC.splitR [(0, encStr s)] (fun wz => Frm [] w wz) 17 (.bool (decide (s.length < 1 ∨ 9 < s.length ∨ ¬ gA lX s = []))) ?_ ?_
 ·
  refine jR ?_
  refine jm rfl (je (Run.lenT rfl za) (jb rfl rfl (Bin.lssN _ 1) ?_))
  by_cases hs7 : s.length < 1
  ·
   refine jM ?_
   refine jU ?_
   refine jU ?_
   refine jU ?_
   refine jW rfl rfl au (jM ?_)
   refine jU ?_
   refine jU ?_
   refine jU ?_
   refine jW rfl rfl au (jO ?_)
   refine jN ⟨(js2 (jC (by grind)) rfl), (by first | exact K1 | exact Frm.refl _ _)⟩
  refine jM ?_
  refine jG ?_
  refine jk (Run.lenT rfl za) ?_
  refine jk (Run.bin rfl rfl (Bin.gtrN _ 9)) ?_
  by_cases hs11 : 9 < s.length
  ·
   refine jF rfl rfl au (jM ?_)
   refine jU ?_
   refine jU ?_
   refine jU ?_
   refine jW rfl rfl au (jO ?_)
   refine jN ⟨(js2 (jC (by grind)) rfl), (by first | exact K1 | exact Frm.refl _ _)⟩
  refine jF rfl rfl au (jM ?_)
  refine jG ?_
  refine Ops.clg rfl au (jE2 Tryz.call135) (rS s lX w hs jd jd jd jo) rfl ?_
  rintro e w1 ⟨rfl, K1⟩
  refine ⟨_, rfl, ?_⟩
  refine jk (Run.neqT rfl rfl) ?_
  by_cases hs16 : ¬ gA lX s = []
  ·
   refine jF rfl rfl au (jO ?_)
   refine jN ⟨(js2 (jC (by grind)) rfl), (by first | exact K1 | exact Frm.refl _ _)⟩
  refine jF rfl rfl au (jO ?_)
  refine jN ⟨(js2 (jC (by grind)) rfl), (by first | exact K1 | exact Frm.refl _ _)⟩
 intro Γ wz hΓ Kz
 refine jN (VC.sub _ hΓ ?_)
 refine jD rfl (fun hc1 => ?_) fun hc1 => ?_
 ·
  have hn : gX s = -1 := if_pos hc1
  refine jS (jR ?_)
  refine Ops.r (v := .int .i64 (-1)) (Run.asg rfl) rfl ?_
  refine jO (jN (jv1 2 ?_))
  refine jT ?_
  refine qQ (qP rfl ?_)
  exact ⟨by rw [hn], Kz⟩
 have hn : gX s = (Lib.atoi s).getD 0 := if_neg hc1
 refine jQ (jN (jv1 0 ?_))
 refine jS (jR (jM ?_))
 refine jc (jE1 Tryz.call136) (lN s wz jo (hv.frm0 Kz)) ?_
 rintro e w2 ⟨hf2, n, ev, b, rfl, hb⟩
 refine ⟨_, rfl, ?_⟩
 have hne : n = gX s := by
  rw [hn]
  rcases hb with ⟨_, h, _⟩ | ⟨_, h, h2, _⟩
  · rw [h]; rfl
  rw [h, h2]; rfl
 subst hne
 refine jm rfl (jY rfl rfl (jY rfl rfl (ja rfl (ja rfl (jO (jN (jv1 3 ?_)))))))
 refine jS (jR (jm rfl (ja rfl (jO (jN (jv1 2 ?_))))))
 refine jT ?_
 refine qP rfl ?_
 exact ⟨rfl, Kz.trans hf2 jp⟩
def eX (s : Tx) : Tx := Lib.trimSuffix (Lib.trimPrefix s [60]) [62]
def bB (s : Tx) : Int := gX (bQ 46 (eX s))
def dQ (s : Tx) : Int := gX (qB 46 (eX s))
def dD (s : Tx) : Prop := Lib.hasPrefix s [60] = true ∧ Lib.hasSuffix (Lib.trimPrefix s [60]) [62] = true ∧ 46 ∈ eX s ∧ 0 ≤ bB s ∧ 0 < dQ s
instance (s : Tx) : Decidable (dD s) := by unfold dD; infer_instance
theorem lT (s p : Tx) : (Lib.trimPrefix s p).length ≤ s.length := by unfold Lib.trimPrefix; split <;> simp
theorem rB (s p : Tx) : (Lib.trimSuffix s p).length ≤ s.length := by unfold Lib.trimSuffix; split <;> simp
theorem tV (s : Tx) : (eX s).length ≤ s.length := zq (rB _ _) (lT _ _)
theorem oL (gx : Nat) (cs : Array Value) (s : Tx) (w : World) (hb : Blk w gx 54 cs) (hsz : cs.size = 9) (hs : s.length ≤ 100000) (hv : cN w) : Calls Tryz.prog 106 #[jI0 gx, encStr s] w fun e w' => e = .returned (.bool (decide (dD s))) ∧ Frm [gx] w w' ∧ Blk w' gx 54 (((cs.setIfInBounds 6 (.bool true)).setIfInBounds 7 (.int .i64 (bB s))).setIfInBounds 8 (.int .i64 (dQ s))) := by
 have hP5 : dD s ↔ (Lib.hasPrefix s [60] = true ∧ Lib.hasSuffix (Lib.trimPrefix s [60]) [62] = true ∧ 46 ∈ eX s ∧ 0 ≤ bB s ∧ 0 < dQ s) := Iff.rfl
 refine jV Tryz.func106 Tryz.ntmps106 Tryz.results106 ?_
 refine jS (jR (ja rfl (jO (jN (jv2 0 1 ?_)))))
 refine jS (jR (jM ?_))
 refine jc0 (jE2 Tryz.call147) (lP s [60] w) ?_
 have hl1 : (Lib.trimPrefix s [60]).length ≤ s.length := lT s [60]
 have hl2 := tV s
 refine jm rfl (jY rfl rfl (jY rfl rfl (ja rfl (ja rfl (jO (jN (jv3 0 1 5 ?_)))))))
 refine jS (jR (jM ?_))
 refine jc0 (jE2 Tryz.call74) (lR (Lib.trimPrefix s [60]) [62] w jo) ?_
 refine jm rfl (jY rfl rfl (jY rfl rfl (ja rfl (ja rfl (jO (jN (jv4 0 1 5 6 ?_)))))))
 refine jS (jR (jM ?_))
 refine jc (jE2 Tryz.call138) (fO (eX s) 46 w jo) ?_
 rintro e w1 ⟨rfl, hf1⟩
 refine ⟨_, rfl, ?_⟩
 have hbl := dO 46 (eX s)
 refine jm rfl (jY rfl rfl (jY rfl rfl (jY rfl rfl (ja rfl (ja rfl (ja rfl (jO (jN (jv6 0 5 6 7 8 9 ?_)))))))))
 refine jS (jR (jm rfl (jm rfl (jm rfl (jM ?_)))))
 refine jc (jE1 Tryz.call99) (lS (bQ 46 (eX s)) w1 jo (hv.frm0 hf1)) ?_
 rintro e w2 ⟨rfl, hf2⟩
 refine ⟨_, rfl, ?_⟩
 have k2 := hf1.trans hf2 jp
 refine jM ?_
 refine jc (jE1 Tryz.call99) (lS (qB 46 (eX s)) w2 jo (hv.frm0 k2)) ?_
 rintro e w3 ⟨rfl, hf3⟩
 refine ⟨_, rfl, ?_⟩
 have k3 := k2.trans hf3 jp
 have hb3 := hb.frm k3 jp
 refine jZ rfl (jf rfl zg rfl zm ?_)
 refine Ops.st (qZ.store (i := 6) rfl rfl zm hb3 (by rw [hsz]; rfl) rfl) ?_
 rintro w4 ⟨hb4, hf4, hs4⟩
 refine jZ rfl (jf rfl zg rfl zc ?_)
 refine Ops.st (qZ.store (i := 7) rfl rfl zc hb4 (by simp [hsz]) rfl) ?_
 rintro w5 ⟨hb5, hf5, hs5⟩
 refine jZ rfl (jf rfl zg rfl zc ?_)
 refine Ops.st (qZ.store (i := 8) rfl rfl zc hb5 (by simp [hsz]) rfl) ?_
 rintro w6 ⟨hb6, hf6, hs6⟩
 have K6 : Frm [gx] w w6 := (((k3.mono jp).trans hf4 (fun x hx => .inl hx)).trans hf5 (fun x hx => .inl hx)).trans hf6 (fun x hx => .inl hx)
 have c7 : w6.cell? ⟨gx, 7, none⟩ = some (.int .i64 (bB s)) := by rw [hb6.cell]; simp [hsz]; rfl
 have c8 : w6.cell? ⟨gx, 8, none⟩ = some (.int .i64 (dQ s)) := by rw [hb6.cell]; simp [hsz]; rfl
 refine jO (jN (jv4 0 5 6 9 ?_))
 refine jS ?_
 refine VC.split1 [] .nil 4 (.bool (decide (dD s))) ?_ ?_
 ·
  refine jR (jM ?_)
  by_cases hs39 : Lib.hasPrefix s [60] = true
  ·
   refine jM ?_
   refine jG ?_
   by_cases hs41 : Lib.hasSuffix (Lib.trimPrefix s [60]) [62] = true
   ·
    refine jW rfl rfl au (jM ?_)
    refine jG ?_
    by_cases hs44 : 46 ∈ eX s
    ·
     refine jW rfl rfl au (jM ?_)
     refine jG ?_
     refine jk (Run.nilck rfl) ?_
     refine jk (Run.fieldAddr rfl zg rfl zc jd) ?_
     refine jk (Run.load rfl zl c7) ?_
     refine jk (Run.bin rfl rfl (Bin.geq _ 0)) ?_
     by_cases hs51 : 0 ≤ bB s
     ·
      refine jW rfl rfl au (jM ?_)
      refine jG ?_
      refine jk (Run.nilck rfl) ?_
      refine jk (Run.fieldAddr rfl zg rfl zc jd) ?_
      refine jk (Run.load rfl zl c8) ?_
      refine jk (Run.bin rfl rfl (Bin.gtr _ 0)) ?_
      by_cases hs58 : 0 < dQ s
      ·
       refine jW rfl rfl au (ja rfl (jO ?_))
       refine jN ⟨(js1 (jC (by simp only [hP5]; grind))), rfl⟩
      refine jW rfl rfl au (ja rfl (jO ?_))
      refine jN ⟨(js1 (jC (by simp only [hP5]; grind))), rfl⟩
     refine jW rfl rfl au (jM ?_)
     refine jU ?_
     refine jU ?_
     refine jU ?_
     refine jU ?_
     refine jU ?_
     refine jF rfl rfl au (ja rfl (jO ?_))
     refine jN ⟨(js1 (jC (by simp only [hP5]; grind))), rfl⟩
    refine jW rfl rfl au (jM ?_)
    refine jU ?_
    refine jU ?_
    refine jU ?_
    refine jU ?_
    refine jU ?_
    refine jF rfl rfl au (jM ?_)
    refine jU ?_
    refine jU ?_
    refine jU ?_
    refine jU ?_
    refine jU ?_
    refine jF rfl rfl au (ja rfl (jO ?_))
    refine jN ⟨(js1 (jC (by simp only [hP5]; grind))), rfl⟩
   refine jW rfl rfl au (jM ?_)
   refine jU ?_
   refine jF rfl rfl au (jM ?_)
   refine jU ?_
   refine jU ?_
   refine jU ?_
   refine jU ?_
   refine jU ?_
   refine jF rfl rfl au (jM ?_)
   refine jU ?_
   refine jU ?_
   refine jU ?_
   refine jU ?_
   refine jU ?_
   refine jF rfl rfl au (ja rfl (jO ?_))
   refine jN ⟨(js1 (jC (by simp only [hP5]; grind))), rfl⟩
  refine jM ?_
  refine jU ?_
  refine jF rfl rfl au (jM ?_)
  refine jU ?_
  refine jF rfl rfl au (jM ?_)
  refine jU ?_
  refine jU ?_
  refine jU ?_
  refine jU ?_
  refine jU ?_
  refine jF rfl rfl au (jM ?_)
  refine jU ?_
  refine jU ?_
  refine jU ?_
  refine jU ?_
  refine jU ?_
  refine jF rfl rfl au (ja rfl (jO ?_))
  refine jN ⟨(js1 (jC (by simp only [hP5]; grind))), rfl⟩
 intro Γ hΓ
 refine jN (VC.sub _ hΓ ?_)
 refine jT ?_
 refine qP rfl ?_
 exact ⟨rfl, K6, hb6⟩
theorem kB (A : Option Addr) (n c : Nat) (ws : List Tx) (sep : Tx) (w : World) (hw : ws.length = n) (h : Rd w 1 A n (SB ws)) (hnc : n ≤ c) (hn : n ≤ 1000000) (hl : (Lib.join ws sep).length ≤ 100000000) :
  Calls Tryz.prog 28 #[.slice A n c, encStr sep] w fun e w' => e = .returned (encStr (Lib.join ws sep)) ∧ Frm [] w w' := by
 have hmm : (ws.map fun t : Tx => (⟨t.toArray⟩ : ByteArray)).map (·.data.toList) = ws := by simp [zcx, Function.comp_def]
 subst hw
 by_cases h0 : ws.length = 0
 ·
  have h1 : ws = [] := zad h0
  subst h1
  refine (Tryz.strings_Join_none A c ⟨sep.toArray⟩ w).mono fun e w' ⟨he, hw⟩ => ?_
  subst hw
  exact ⟨he, Frm.refl _ _⟩
 obtain ⟨ad, rfl, hlt, hc⟩ := h.2 jo
 have hsp : ad.spot = none := by
  have h2 := hc 0 (encStr (ws[0]'jo)) (by simp [SB])
  have h3 : w.cell? ad = some (encStr (ws[0]'jo)) := h2
  unfold World.cell? at h3
  cases hs : ad.spot with
  | none => rfl
  | some k =>
   rw [hs] at h3
   split at h3 <;> simp at h3
 have had : ∀ j, ad.add j = ⟨ad.block, ad.off + j, none⟩ := fun j => by
  unfold Addr.add
  split
  · next hj => subst hj; cases ad; simp_all
  rfl
 have had0 : ad = ⟨ad.block, ad.off, none⟩ := by cases ad; simp_all
 have hcc : Calls Tryz.prog 28 #[.slice (some ⟨ad.block, ad.off, none⟩) (ws.map fun t : Tx => (⟨t.toArray⟩ : ByteArray)).length c, .string ⟨sep.toArray⟩] w _ := Tryz.strings_Join ad.block ad.off c (ws.map fun t : Tx => (⟨t.toArray⟩ : ByteArray)) ⟨sep.toArray⟩ w (fun j x hx => by
  rw [zck, Option.map_eq_some_iff] at hx
  obtain ⟨t, ht, rfl⟩ := hx
  have h4 := hc j (encStr t) (by rw [SB, zck, ht]; rfl)
  rw [had j] at h4
  exact h4) hlt (by simp; omega) (by simpa using hnc) (by rw [hmm]; exact zq hl (by decide))
 rw [zbb] at hcc
 rw [had0]
 refine hcc.mono fun e w' ⟨he, hw⟩ => ?_
 rw [hmm] at he
 exact ⟨he, Frm.of_below hw⟩
theorem oO (n : Int) (w : World) (h0 : 0 ≤ n) (h1 : n < 100) : Calls Tryz.prog 27 #[.int .i64 n] w fun e w' => e = .returned (encStr (Lib.decDigits n.toNat)) ∧ w = w' := by
 obtain ⟨k, rfl⟩ : ∃ k : Nat, n = ((k : Nat) : Int) := ⟨n.toNat, jo⟩
 refine (Tryz.strconv_Itoa_small k jo w).mono fun e w' ⟨he, hw⟩ => ⟨?_, hw.symm⟩
 rw [zbu]
 exact he
def bC (v : Wnt) : List Tx := v.path.map (fun n => Lib.decDigits n.toNat) ++ if v.what = [] then [] else [v.what]
def qO (v : Wnt) : Tx := if bS v then Lib.join (bC v) [46] ++ (if v.names = [] then [] else [32, 40] ++ Lib.join v.names [32] ++ [41]) else []
theorem bF {n : Nat} (h : n < 10) : Lib.decDigits n = [UInt8.ofNat (48 + n)] := by rw [Lib.decDigits, dif_pos h]
theorem fT {n : Nat} (h : ¬ n < 10) : Lib.decDigits n = Lib.decDigits (n / 10) ++ Lib.decDigits (n % 10) := by
 conv => lhs; rw [Lib.decDigits, dif_neg h]
 rw [bF (Nat.mod_lt _ jd)]
theorem dec2 (n : Nat) (h : n < 100) : (Lib.decDigits n).length ≤ 2 := by
 by_cases h1 : n < 10
 · rw [bF h1]; simp
 rw [fT jo, bF (n := n / 10) jo, bF (n := n % 10) jo]; simp
theorem dN (sep : Tx) (M : Nat) : ∀ ws : List Tx, (∀ x ∈ ws, x.length ≤ M) → (Lib.join ws sep).length ≤ ws.length * (M + sep.length)
 | [], _ => by simp [Lib.join]
 | [x], h => by
  have := h x jp
  simp [Lib.join]
  omega
 | x :: y :: r, h => by
  have h1 := h x jp
  have h2 := dN sep M (y :: r) (fun z hz => h z (by simp [hz]))
  have e : Lib.join (x :: y :: r) sep = x ++ sep ++ Lib.join (y :: r) sep := by simp [Lib.join]
  rw [e, zao, zao]
  have e2 : (x :: y :: r).length * (M + sep.length) = (y :: r).length * (M + sep.length) + (M + sep.length) := by rw [zco, Nat.succ_mul]
  omega
theorem tW {v : Wnt} (h : fL v) : v.what.length ≤ 100 := by
 rcases h with h | h | h | h | h | ⟨h, _⟩ <;> rw [h] <;> decide
theorem mS {v : Wnt} (h : bS v) : (bC v).length ≤ 9 ∧ ∀ x ∈ bC v, x.length ≤ 100 := by
 have h1 := h.1
 have h2 := tW h.2.2
 unfold bC
 refine ⟨?_, fun x hx => ?_⟩
 ·
  rw [zao, zbb]
  split <;> simp <;> omega
 rcases List.mem_append.1 hx with hx | hx
 ·
  obtain ⟨n, hn, rfl⟩ := List.mem_map.1 hx
  have h3 : ¬ bZ n := fun hb => h1 (.inr ⟨n, hn, hb⟩)
  unfold bZ at h3
  have := dec2 n.toNat jo
  omega
 split at hx
 · cases hx
 rw [ze] at hx; rw [hx]; exact h2
theorem kC (v : Wnt) (A B : Option Addr) (c d : Nat) (w : World) (hp : Rd w 1 A v.path.length (PI v.path)) (hpl : v.path.length ≤ 1000000) (hn : Rd w 1 B v.names.length (SB v.names)) (hnl : v.names.length ≤ 1000000) (hns : ∀ s ∈ v.names, s.length ≤ 1048576) (hd : v.names.length ≤ d) :
  Calls Tryz.prog 13 #[.agg (WtC v A c B d)] w fun e w' => e = .returned (encStr (qO v)) ∧ Frm [] w w' := by
 refine jV Tryz.func13 Tryz.ntmps13 Tryz.results13 ?_
 refine jS (jR ?_)
 refine Ops.m (qV.box rfl) rfl ?_
 rintro _ w1 ⟨rfl, hF1⟩
 have hb : Blk w1 w.heap.size 47 (WtC v A c B d) := hF1.blk
 have hp := hp.frm hF1.frm jp
 have hn := hn.frm hF1.frm jp
 have K := hF1.frm
 obtain ⟨gw, hgw⟩ : ∃ gw, gw = w.heap.size := ⟨_, rfl⟩
 rw [← hgw] at hb ⊢
 refine ja rfl (jO (jN (jv1 1 ?_)))
 refine jS (jS (jR (je (Run.loadA rfl zae zj hb.cells (by first | rfl | (simp; done))) ?_)))
 refine jc (jE1 Tryz.call26) (kX v A B c d w1 hp (zq hpl jd) hn (zq hnl jd) (fun s hs => by have := hns s hs; omega)) ?_
 rintro e w2 ⟨rfl, hf2⟩
 refine ⟨_, rfl, ?_⟩
 have hb := hb.frm hf2 jp
 have hp := hp.frm hf2 jp
 have hn := hn.frm hf2 jp
 have K := K.trans hf2 jp
 refine je (Run.not rfl) (jO (jN (jv2 1 9 ?_)))
 refine VC.condB rfl (fun hc1 => ?_) (fun hc1 => ?_)
 ·
  have hno : ¬ bS v := by simpa using hc1
  refine jS (jR (ja rfl (jO (jN (jv1 2 ?_)))))
  refine jT ?_
  refine qQ (qP rfl ?_)
  exact ⟨by unfold qO; rw [if_neg hno], K⟩
 have hmw : bS v := by simpa using hc1
 have hp8 : v.path.length ≤ 8 ∧ ∀ n ∈ v.path, 1 ≤ n ∧ n ≤ 64 := by
  have h1 := hmw.1
  refine ⟨jo, fun n hn => ?_⟩
  have h2 : ¬ bZ n := fun h => h1 (.inr ⟨n, hn, h⟩)
  unfold bZ at h2
  omega
 refine jQ (jN (jv1 1 ?_))
 refine jS (jR (ja rfl (jO (jN (jS (jS (jR (jf rfl zf rfl zac (jl rfl zas (hb.cell 0) (jL rfl zi ?_))))))))))
 refine jx .i64 0 ?_
 refine jO (jN (jv5 1 3 11 12 13 ?_))
 refine jB ?_
 refine VC.loop (σ := Nat × Option Addr × Nat) (fun s => [(1, jI0 gw), (3, .slice s.2.1 s.1 s.2.2), (11, .slice A v.path.length c), (12, jI1 v.path.length), (13, jI1 s.1)]) (fun s wr => s.1 ≤ v.path.length ∧ Own wr 9 1 s.2.1 s.1 s.2.2 (SB ((v.path.take s.1).map fun n => Lib.decDigits n.toNat)) ∧ Frm [] w2 wr ∧ ∀ x ∈ ob s.2.1, w2.heap.size ≤ x) (fun s => v.path.length - s.1) (0, none, 0) (js5 rfl rfl rfl rfl rfl) ⟨zau _, Own.nil _ _ _, Frm.refl _ _, by simp [ob]⟩ ?_
 rintro ⟨i, B1, d1⟩ wr ⟨hi, hB, Kr, hup⟩
 dsimp only at hi hB hup ⊢
 refine jS (jR (jb rfl rfl (Bin.lssN _ _) (jO (jN (jS ?_)))))
 refine jD rfl (fun hc2 => ?_) fun hc2 => ?_
 ·
  obtain ⟨ad, hA, hel⟩ := oT (hp.frm Kr jp) rfl hc2
  have hpn := hp8.2 _ (show v.path.getD i 0 ∈ v.path by rw [zo, zb hc2]; exact zaq _)
  have htk : v.path.take (i + 1) = v.path.take i ++ [v.path.getD i 0] := by rw [zba, zb hc2, zo, zb hc2]; rfl
  subst hA
  generalize v.path.getD i 0 = n at *
  refine jQ (jN (jv5 1 3 11 12 13 ?_))
  refine jS (jB (jS (jR (je (Run.index1 _ rfl rfl zi zc jo) (jl rfl zl hel (ja rfl (jO (jN (jv6 1 3 5 11 12 13 ?_)))))))))
  refine jR (jm rfl (jM ?_))
  refine jc0 (jE1 Tryz.call27) (oO n wr jo jo) ?_
  refine Ops.m (qV.buildS1 rfl zk zd oN jd jd rfl rfl) rfl ?_
  rintro _ w7 ⟨rfl, hF7⟩
  have hr7 : Rd w7 1 (some ⟨wr.heap.size, 0, none⟩) 1 (SB [Lib.decDigits n.toNat]) := Rd.of_blk (n := 1) (size := 1) hF7.blk rfl
  have K7 := Kr.trans hF7.frm jp
  refine Ops.m (qV.app rfl rfl zk (uQ) rfl jd (hB.frm hF7.frm jp) hr7 (pI _) jo jo) rfl ?_
  rintro _ w8 ⟨B8, d8, rfl, hB8, hf8, hob8⟩
  have e9 : SB ((v.path.take i).map fun n => Lib.decDigits n.toNat) ++ SB [Lib.decDigits n.toNat] = SB ((v.path.take (i + 1)).map fun n => Lib.decDigits n.toNat) := by rw [htk, zcw, lY]; rfl
  rw [e9] at hB8
  have K8 := K7.own hf8 hup
  have hup8 : ∀ x ∈ ob B8, w2.heap.size ≤ x := lI hup hob8 K7.size
  refine ja rfl (jO ?_)
  refine qW (jN ?_)
  refine jv5 1 3 11 12 13 ?_
  refine jR (jb rfl rfl (Bin.add_i64 _ 1 jo) (jm rfl (jO ?_)))
  refine jN ⟨(i + 1, B8, d8), (js5 rfl rfl rfl rfl rfl), ?_, ?_⟩
  · exact ⟨hc2, hB8, K8, hup8⟩
  exact jq
 obtain rfl : i = v.path.length := jo
 rw [zar] at hB
 have hb5 := hb.frm Kr jp
 have hpl9 := mS hmw
 refine jX ?_
 refine qK (qK (qS ?_))
 refine jN (jv2 1 3 ?_)
 refine jS (jS (jR (jf rfl zf rfl zd (jl rfl zh (hb5.cell 1) (je (Run.neqT rfl rfl) (jO (jN (jv3 1 3 25 ?_))))))))
 refine VC.meet (σ := Option Addr × Nat × Nat) (fun s => [(1, jI0 gw), (3, .slice s.1 s.2.2 s.2.1)]) (fun s wm => s.2.2 = (bC v).length ∧ Own wm 9 1 s.1 s.2.2 s.2.1 (SB (bC v)) ∧ Frm [] w2 wm) ?_ ?_
 ·
  refine jD rfl (fun hc3 => ?_) fun hc3 => ?_
  ·
   refine jR (jm rfl (jf rfl zf rfl zd (jl rfl zh (hb5.cell 1) ?_)))
   refine Ops.m (qV.buildS1 rfl zk zd oN jd jd rfl rfl) rfl ?_
   rintro _ w7 ⟨rfl, hF7⟩
   have hr7 : Rd w7 1 (some ⟨wr.heap.size, 0, none⟩) 1 (SB [v.what]) := Rd.of_blk (n := 1) (size := 1) hF7.blk rfl
   refine Ops.m (qV.app rfl rfl zk (uQ) rfl jd (hB.frm hF7.frm jp) hr7 (pI _) jo jo) rfl ?_
   rintro _ w8 ⟨B8, d8, rfl, hB8, hf8, hob8⟩
   have e9 : SB (v.path.map fun n => Lib.decDigits n.toNat) ++ SB [v.what] = SB (bC v) := by unfold bC; rw [if_neg hc3, lY]
   rw [e9] at hB8
   have K8 := (Kr.trans hF7.frm jp).own hf8 hup
   refine ja rfl (jO ?_)
   refine jN ⟨(B8, d8, v.path.length + 1), (js2 rfl rfl), ?_⟩
   exact ⟨by unfold bC; rw [if_neg hc3]; simp, hB8, K8⟩
  refine jQ ?_
  refine jN ⟨(B1, d1, v.path.length), (js2 rfl rfl), ?_⟩
  have hwe : v.what = [] := Classical.not_not.1 hc3
  exact ⟨by unfold bC; rw [if_pos hwe]; simp, by unfold bC; rw [if_pos hwe, List.append_nil]; exact hB, Kr⟩
 rintro ⟨B6, d6, m6⟩ w6 ⟨hm6, hB6, K6⟩ Γ hΓ
 dsimp only at hm6 hB6
 refine jN (VC.sub _ hΓ (jS (jR (jM ?_))))
 refine jc (jE2 Tryz.call28) (kB B6 m6 d6 (bC v) [46] w6 hm6.symm hB6.rd (hB6.le) jo (by have := dN [46] 100 (bC v) hpl9.2; simp at this; omega)) ?_
 rintro e w7 ⟨rfl, hf7⟩
 refine ⟨_, rfl, ?_⟩
 have K7 := K6.trans hf7 jp
 have hb7 := hb.frm K7 jp
 have hn7 := hn.frm K7 jp
 have Kf := K.trans K7 jp
 refine ja rfl (jO (jN (jv2 1 6 ?_)))
 refine jS (jS (jR (jf rfl zf rfl zv (jl rfl zan (hb7.cell 2) (jL rfl zk (jb rfl rfl (Bin.gtrN _ 0) (jO (jN (jv3 1 6 36 ?_)))))))))
 refine jD rfl (fun hc4 => ?_) fun hc4 => ?_
 ·
  have hne : ¬ v.names = [] := fun e => by rw [e] at hc4; simp at hc4
  have hn16 : v.names.length ≤ 16 := by have := hmw.2.1; omega
  refine jR (jm rfl (jf rfl zf rfl zv (jl rfl zan (hb7.cell 2) ?_)))
  refine jc (jE2 Tryz.call28) (kB B v.names.length d v.names [32] w7 rfl hn7 hd jo (by have := dN [32] 1048576 v.names hns; have h2 : v.names.length * (1048576 + [(32 : UInt8)].length) ≤ 16 * 1048577 := zdk hn16 jp; omega)) ?_
  rintro e w8 ⟨rfl, hf8⟩
  refine ⟨_, rfl, ?_⟩
  have Kf := Kf.trans hf8 jp
  have hj1 : (Lib.join v.names [32]).length ≤ 16 * 1048577 := zq (dN [32] 1048576 v.names hns) (zdk hn16 jp)
  have hj2 : (Lib.join (bC v) [46]).length ≤ 9 * 101 := zq (dN [46] 100 (bC v) hpl9.2) (zdk hpl9.1 jp)
  refine je (Run.addT (a := [32, 40]) (b := Lib.join v.names [32]) rfl rfl (by simp; omega)) (je (Run.addT (a := [32, 40] ++ Lib.join v.names [32]) (b := [41]) rfl rfl (by simp; omega)) (je (Run.addT (a := Lib.join (bC v) [46]) (b := [32, 40] ++ Lib.join v.names [32] ++ [41]) rfl rfl (by simp; omega)) (ja rfl (jO (jN (jv1 6 ?_))))))
  refine jS (jR (jm rfl (ja rfl (jO (jN (jv1 2 ?_))))))
  refine jT ?_
  refine qP rfl ?_
  exact ⟨by unfold qO; rw [if_pos hmw, if_neg hne], Kf⟩
 have hne : v.names = [] := zad jo
 refine jQ (jN (jv1 6 ?_))
 refine jS (jR (jm rfl (ja rfl (jO (jN (jv1 2 ?_))))))
 refine jT ?_
 refine qP rfl ?_
 exact ⟨by unfold qO; rw [if_pos hmw, if_pos hne, List.append_nil], Kf⟩
structure ItM where
 kind : Int
 label : Tx
 w : Wnt
 peek : Bool
 part : Bool
 frm : Int
 n : Int
def it0 : ItM := ⟨0, [], bK, false, false, 0, 0⟩
def itC (x : ItM) (PA : Option Addr) (pc : Nat) (NA : Option Addr) (nc : Nat) : Array Value := #[.int .i64 x.kind, encStr x.label, .slice PA x.w.path.length pc, encStr x.w.what, .slice NA x.w.names.length nc, .bool x.peek, .bool x.part, .int .i64 x.frm, .int .i64 x.n]
theorem cO (x : ItM) (PA : Option Addr) (pc : Nat) (NA : Option Addr) (nc : Nat) : ∀ u ∈ (itC x PA pc NA nc).toList, u.oneCell' = true := by
 intro u hu
 simp only [itC, zak, zax, or_false] at hu
 rcases hu with rfl | rfl | rfl | rfl | rfl | rfl | rfl | rfl | rfl <;> rfl
def eH (t : Tx) : Option ItM := if t = [70, 76, 65, 71, 83] then some ⟨0, [70, 76, 65, 71, 83], bK, false, false, 0, 0⟩ else if t = [85, 73, 68] then some ⟨1, [85, 73, 68], bK, false, false, 0, 0⟩ else if t = [73, 78, 84, 69, 82, 78, 65, 76, 68, 65, 84, 69] then some ⟨2, [73, 78, 84, 69, 82, 78, 65, 76, 68, 65, 84, 69], bK, false, false, 0, 0⟩ else if t = [82, 70, 67, 56, 50, 50, 46, 83, 73, 90, 69] then some ⟨3, [82, 70, 67, 56, 50, 50, 46, 83, 73, 90, 69], bK, false, false, 0, 0⟩ else if t = [69, 78, 86, 69, 76, 79, 80, 69] then some ⟨4, [69, 78, 86, 69, 76, 79, 80, 69], bK, false, false, 0, 0⟩ else if t = [66, 79, 68, 89] then some ⟨5, [66, 79, 68, 89], bK, false, false, 0, 0⟩ else if t = [66, 79, 68, 89, 83, 84, 82, 85, 67, 84, 85, 82, 69] then some ⟨5, [66, 79, 68, 89, 83, 84, 82, 85, 67, 84, 85, 82, 69], bK, false, false, 0, 0⟩ else if t = [82, 70, 67, 56, 50, 50] then some ⟨6, [82, 70, 67, 56, 50, 50], ⟨[], [], []⟩, false, false, 0, 0⟩ else if t = [82, 70, 67, 56, 50, 50, 46, 72, 69, 65, 68, 69, 82] then some ⟨6, [82, 70, 67, 56, 50, 50, 46, 72, 69, 65, 68, 69, 82], ⟨[], [72, 69, 65, 68, 69, 82], []⟩, true, false, 0, 0⟩ else if t = [82, 70, 67, 56, 50, 50, 46, 84, 69, 88, 84] then some ⟨6, [82, 70, 67, 56, 50, 50, 46, 84, 69, 88, 84], ⟨[], [84, 69, 88, 84], []⟩, false, false, 0, 0⟩ else none
theorem dT (a p : Tx) (w : World) : Calls Tryz.prog 146 #[encStr a, encStr p] w fun e w' => e = .returned (encStr (Lib.trimPrefix a p)) ∧ w = w' :=
 (Tryz.strings_TrimPrefix ⟨a.toArray⟩ ⟨p.toArray⟩ w).mono fun e w' ⟨h1, h2⟩ => ⟨h1, h2.symm⟩
theorem nH (t : Tx) (w : World) (hs : t.length ≤ 1000000) : Calls Tryz.prog 104 #[encStr t] w fun e w' => e = .returned (.tuple #[.agg (itC ((eH t).getD it0) none 0 none 0), .bool (eH t).isSome]) ∧ Frm [] w w' := by
 refine jV Tryz.func104 Tryz.ntmps104 Tryz.results104 ?_
 refine jS (jR ?_)
 refine Ops.m (qV.alloc dJ) rfl ?_
 rintro _ w1 ⟨rfl, hF1⟩
 obtain ⟨g2, hg2⟩ : ∃ g2, g2 = w.heap.size := ⟨_, rfl⟩
 have hz2 : Blk w1 g2 54 (itC it0 none 0 none 0) := by rw [hg2]; exact hF1.blk
 rw [← hg2]
 refine ja rfl (jO (jN (jv2 0 2 ?_)))
 refine jS (jR (jm rfl (je (Run.build (evs.cons rfl evs.nil) dJ (dI).choose_spec.1 (dI).choose_spec.2 (cells := itC ⟨0, t, bK, false, false, 0, 0⟩ none 0 none 0) rfl) ?_)))
 refine Ops.m (qV.alloc dJ) rfl ?_
 rintro _ w2 ⟨rfl, hF2⟩
 obtain ⟨gx, hgx⟩ : ∃ gx, gx = w1.heap.size := ⟨_, rfl⟩
 have hbx : Blk w2 gx 54 (itC it0 none 0 none 0) := by rw [hgx]; exact hF2.blk
 have hz2 := hz2.frm hF2.frm jp
 have q1 := hF1.frm.size
 have hgg : g2 ≠ gx := by have := hF1.size; omega
 rw [← hgx]
 refine Ops.st (qZ.storeA rfl rfl zz hbx rfl (cO _ _ _ _ _)) ?_
 rintro w3 ⟨hb, hf3, hs3⟩
 have hz2 := hz2.frm hf3 (by simp; exact hgg)
 have K3 : Frm [] w w3 := (hF1.frm.trans hF2.frm jp).own hf3 (by simp; omega)
 refine jO (jN (jv3 0 2 4 ?_))
 refine jS (jS (jR (jm rfl (jO (jN (jB (jS (jR (je (Run.eqlT rfl rfl) (ja rfl (jO (jN (jv5 0 2 4 7 9 ?_)))))))))))))
 refine VC.meet (σ := ItM) (fun s => [(2, jI0 g2), (4, jI0 gx)]) (fun s wm => eH t = some s ∧ Blk wm gx 54 (itC s none 0 none 0) ∧ Blk wm g2 54 (itC it0 none 0 none 0) ∧ Frm [] w wm) ?_ ?_
 ·
  refine jD rfl (fun hc1 => ?_) fun hc1 => ?_
  ·
   subst hc1
   refine jR (jf rfl zg rfl zc ?_)
   refine Ops.st (qZ.store (i := 0) (v := .int .i64 0) rfl rfl zc hb rfl rfl) ?_
   rintro w4 ⟨hb4, hf4, hs4⟩
   have hz4 := hz2.frm hf4 (by simp; exact hgg)
   have K4 := K3.own hf4 (by simp; omega)
   refine jO ?_
   refine jN ⟨⟨0, [70, 76, 65, 71, 83], bK, false, false, 0, 0⟩, (js2 rfl rfl), ?_⟩
   exact ⟨rfl, hb4, hz4, K4⟩
  refine jS (jR (je (Run.eqlT rfl rfl) (ja rfl (jO (jN (jv5 0 2 4 7 12 ?_))))))
  refine jD rfl (fun hc2 => ?_) fun hc2 => ?_
  ·
   subst hc2
   refine jR (jf rfl zg rfl zc ?_)
   refine Ops.st (qZ.store (i := 0) (v := .int .i64 1) rfl rfl zc hb rfl rfl) ?_
   rintro w4 ⟨hb4, hf4, hs4⟩
   have hz4 := hz2.frm hf4 (by simp; exact hgg)
   have K4 := K3.own hf4 (by simp; omega)
   refine jO ?_
   refine jN ⟨⟨1, [85, 73, 68], bK, false, false, 0, 0⟩, (js2 rfl rfl), ?_⟩
   exact ⟨rfl, hb4, hz4, K4⟩
  refine jS (jR (je (Run.eqlT rfl rfl) (ja rfl (jO (jN (jv5 0 2 4 7 15 ?_))))))
  refine jD rfl (fun hc3 => ?_) fun hc3 => ?_
  ·
   subst hc3
   refine jR (jf rfl zg rfl zc ?_)
   refine Ops.st (qZ.store (i := 0) (v := .int .i64 2) rfl rfl zc hb rfl rfl) ?_
   rintro w4 ⟨hb4, hf4, hs4⟩
   have hz4 := hz2.frm hf4 (by simp; exact hgg)
   have K4 := K3.own hf4 (by simp; omega)
   refine jO ?_
   refine jN ⟨⟨2, [73, 78, 84, 69, 82, 78, 65, 76, 68, 65, 84, 69], bK, false, false, 0, 0⟩, (js2 rfl rfl), ?_⟩
   exact ⟨rfl, hb4, hz4, K4⟩
  refine jS (jR (je (Run.eqlT rfl rfl) (ja rfl (jO (jN (jv5 0 2 4 7 18 ?_))))))
  refine jD rfl (fun hc4 => ?_) fun hc4 => ?_
  ·
   subst hc4
   refine jR (jf rfl zg rfl zc ?_)
   refine Ops.st (qZ.store (i := 0) (v := .int .i64 3) rfl rfl zc hb rfl rfl) ?_
   rintro w4 ⟨hb4, hf4, hs4⟩
   have hz4 := hz2.frm hf4 (by simp; exact hgg)
   have K4 := K3.own hf4 (by simp; omega)
   refine jO ?_
   refine jN ⟨⟨3, [82, 70, 67, 56, 50, 50, 46, 83, 73, 90, 69], bK, false, false, 0, 0⟩, (js2 rfl rfl), ?_⟩
   exact ⟨rfl, hb4, hz4, K4⟩
  refine jS (jR (je (Run.eqlT rfl rfl) (ja rfl (jO (jN (jv5 0 2 4 7 21 ?_))))))
  refine jD rfl (fun hc5 => ?_) fun hc5 => ?_
  ·
   subst hc5
   refine jR (jf rfl zg rfl zc ?_)
   refine Ops.st (qZ.store (i := 0) (v := .int .i64 4) rfl rfl zc hb rfl rfl) ?_
   rintro w4 ⟨hb4, hf4, hs4⟩
   have hz4 := hz2.frm hf4 (by simp; exact hgg)
   have K4 := K3.own hf4 (by simp; omega)
   refine jO ?_
   refine jN ⟨⟨4, [69, 78, 86, 69, 76, 79, 80, 69], bK, false, false, 0, 0⟩, (js2 rfl rfl), ?_⟩
   exact ⟨rfl, hb4, hz4, K4⟩
  refine jS (jS (jR (je (Run.eqlT rfl rfl) (ja rfl (jO (jN (jv5 0 2 4 7 24 ?_)))))))
  refine jD rfl (fun hc6 => ?_) fun hc6 => ?_
  ·
   subst hc6
   refine jQ (jN ?_)
   refine VC.condT rfl (rfl) ?_
   refine jR (jf rfl zg rfl zc ?_)
   refine Ops.st (qZ.store (i := 0) (v := .int .i64 5) rfl rfl zc hb rfl rfl) ?_
   rintro w4 ⟨hb4, hf4, hs4⟩
   have hz4 := hz2.frm hf4 (by simp; exact hgg)
   have K4 := K3.own hf4 (by simp; omega)
   refine jO ?_
   refine jN ⟨⟨5, [66, 79, 68, 89], bK, false, false, 0, 0⟩, (js2 rfl rfl), ?_⟩
   exact ⟨rfl, hb4, hz4, K4⟩
  refine jR (je (Run.eqlT rfl rfl) (ja rfl (jO (jN (jv5 0 2 4 7 24 ?_)))))
  refine jD rfl (fun hc7 => ?_) fun hc7 => ?_
  ·
   subst hc7
   refine jR (jf rfl zg rfl zc ?_)
   refine Ops.st (qZ.store (i := 0) (v := .int .i64 5) rfl rfl zc hb rfl rfl) ?_
   rintro w4 ⟨hb4, hf4, hs4⟩
   have hz4 := hz2.frm hf4 (by simp; exact hgg)
   have K4 := K3.own hf4 (by simp; omega)
   refine jO ?_
   refine jN ⟨⟨5, [66, 79, 68, 89, 83, 84, 82, 85, 67, 84, 85, 82, 69], bK, false, false, 0, 0⟩, (js2 rfl rfl), ?_⟩
   exact ⟨rfl, hb4, hz4, K4⟩
  refine jS (jS (jR (je (Run.eqlT rfl rfl) (ja rfl (jO (jN (jv5 0 2 4 7 28 ?_)))))))
  refine jD rfl (fun hc8 => ?_) fun hc8 => ?_
  ·
   subst hc8
   refine jQ (jN (jv4 0 2 4 28 ?_))
   refine VC.condT rfl (rfl) ?_
   refine jS (jR (jf rfl zg rfl zc ?_))
   refine Ops.st (qZ.store (i := 0) (v := .int .i64 6) rfl rfl zc hb rfl rfl) ?_
   rintro w4 ⟨hb4, hf4, hs4⟩
   have hz4 := hz2.frm hf4 (by simp; exact hgg)
   have K4 := K3.own hf4 (by simp; omega)
   refine jO (jN (jv3 0 2 4 ?_))
   refine jS (jR (jM ?_))
   refine jc0 (jE2 zcz) (dT [82, 70, 67, 56, 50, 50] [82, 70, 67, 56, 50, 50] _) ?_
   rw [show Lib.trimPrefix [82, 70, 67, 56, 50, 50] [82, 70, 67, 56, 50, 50] = [] by decide]
   refine jc0 (jE2 zcz) (dT [] [46] _) ?_
   rw [show Lib.trimPrefix [] [46] = [] by decide]
   refine jf rfl zg rfl zj (jf rfl zf rfl zd ?_)
   refine Ops.st (qZ.store (i := 3) (v := encStr []) rfl rfl zd hb4 rfl rfl) ?_
   rintro w5 ⟨hb5, hf5, hs5⟩
   have hf5 : Frm [gx] w4 w5 := hf5
   have hz5 := hz4.frm hf5 (by simp; exact hgg)
   have K5 := K4.own hf5 (by simp; omega)
   refine jO (jN (jv3 0 2 4 ?_))
   refine jR (jm rfl (je (Run.eqlT rfl rfl) (jf rfl zg rfl zm ?_)))
   refine Ops.st (qZ.store (i := 5) (v := .bool false) rfl rfl zm hb5 rfl rfl) ?_
   rintro w6 ⟨hb6, hf6, hs6⟩
   have hz6 := hz5.frm hf6 (by simp; exact hgg)
   have K6 := K5.own hf6 (by simp; omega)
   refine jO ?_
   refine jN ⟨⟨6, [82, 70, 67, 56, 50, 50], ⟨[], [], []⟩, false, false, 0, 0⟩, (js2 rfl rfl), ?_⟩
   exact ⟨rfl, hb6, hz6, K6⟩
  refine jS (jR (je (Run.eqlT rfl rfl) (ja rfl (jO (jN (jv5 0 2 4 7 28 ?_))))))
  refine jD rfl (fun hc9 => ?_) fun hc9 => ?_
  ·
   subst hc9
   refine jQ (jN (jv4 0 2 4 28 ?_))
   refine VC.condT rfl (rfl) ?_
   refine jS (jR (jf rfl zg rfl zc ?_))
   refine Ops.st (qZ.store (i := 0) (v := .int .i64 6) rfl rfl zc hb rfl rfl) ?_
   rintro w4 ⟨hb4, hf4, hs4⟩
   have hz4 := hz2.frm hf4 (by simp; exact hgg)
   have K4 := K3.own hf4 (by simp; omega)
   refine jO (jN (jv3 0 2 4 ?_))
   refine jS (jR (jM ?_))
   refine jc0 (jE2 zcz) (dT [82, 70, 67, 56, 50, 50, 46, 72, 69, 65, 68, 69, 82] [82, 70, 67, 56, 50, 50] _) ?_
   rw [show Lib.trimPrefix [82, 70, 67, 56, 50, 50, 46, 72, 69, 65, 68, 69, 82] [82, 70, 67, 56, 50, 50] = [46, 72, 69, 65, 68, 69, 82] by decide]
   refine jc0 (jE2 zcz) (dT [46, 72, 69, 65, 68, 69, 82] [46] _) ?_
   rw [show Lib.trimPrefix [46, 72, 69, 65, 68, 69, 82] [46] = [72, 69, 65, 68, 69, 82] by decide]
   refine jf rfl zg rfl zj (jf rfl zf rfl zd ?_)
   refine Ops.st (qZ.store (i := 3) (v := encStr [72, 69, 65, 68, 69, 82]) rfl rfl zd hb4 rfl rfl) ?_
   rintro w5 ⟨hb5, hf5, hs5⟩
   have hf5 : Frm [gx] w4 w5 := hf5
   have hz5 := hz4.frm hf5 (by simp; exact hgg)
   have K5 := K4.own hf5 (by simp; omega)
   refine jO (jN (jv3 0 2 4 ?_))
   refine jR (jm rfl (je (Run.eqlT rfl rfl) (jf rfl zg rfl zm ?_)))
   refine Ops.st (qZ.store (i := 5) (v := .bool true) rfl rfl zm hb5 rfl rfl) ?_
   rintro w6 ⟨hb6, hf6, hs6⟩
   have hz6 := hz5.frm hf6 (by simp; exact hgg)
   have K6 := K5.own hf6 (by simp; omega)
   refine jO ?_
   refine jN ⟨⟨6, [82, 70, 67, 56, 50, 50, 46, 72, 69, 65, 68, 69, 82], ⟨[], [72, 69, 65, 68, 69, 82], []⟩, true, false, 0, 0⟩, (js2 rfl rfl), ?_⟩
   exact ⟨rfl, hb6, hz6, K6⟩
  refine jR (je (Run.eqlT rfl rfl) (ja rfl (jO (jN (jv4 0 2 4 28 ?_)))))
  refine jD rfl (fun hc10 => ?_) fun hc10 => ?_
  ·
   subst hc10
   refine jS (jR (jf rfl zg rfl zc ?_))
   refine Ops.st (qZ.store (i := 0) (v := .int .i64 6) rfl rfl zc hb rfl rfl) ?_
   rintro w4 ⟨hb4, hf4, hs4⟩
   have hz4 := hz2.frm hf4 (by simp; exact hgg)
   have K4 := K3.own hf4 (by simp; omega)
   refine jO (jN (jv3 0 2 4 ?_))
   refine jS (jR (jM ?_))
   refine jc0 (jE2 zcz) (dT [82, 70, 67, 56, 50, 50, 46, 84, 69, 88, 84] [82, 70, 67, 56, 50, 50] _) ?_
   rw [show Lib.trimPrefix [82, 70, 67, 56, 50, 50, 46, 84, 69, 88, 84] [82, 70, 67, 56, 50, 50] = [46, 84, 69, 88, 84] by decide]
   refine jc0 (jE2 zcz) (dT [46, 84, 69, 88, 84] [46] _) ?_
   rw [show Lib.trimPrefix [46, 84, 69, 88, 84] [46] = [84, 69, 88, 84] by decide]
   refine jf rfl zg rfl zj (jf rfl zf rfl zd ?_)
   refine Ops.st (qZ.store (i := 3) (v := encStr [84, 69, 88, 84]) rfl rfl zd hb4 rfl rfl) ?_
   rintro w5 ⟨hb5, hf5, hs5⟩
   have hf5 : Frm [gx] w4 w5 := hf5
   have hz5 := hz4.frm hf5 (by simp; exact hgg)
   have K5 := K4.own hf5 (by simp; omega)
   refine jO (jN (jv3 0 2 4 ?_))
   refine jR (jm rfl (je (Run.eqlT rfl rfl) (jf rfl zg rfl zm ?_)))
   refine Ops.st (qZ.store (i := 5) (v := .bool false) rfl rfl zm hb5 rfl rfl) ?_
   rintro w6 ⟨hb6, hf6, hs6⟩
   have hz6 := hz5.frm hf6 (by simp; exact hgg)
   have K6 := K5.own hf6 (by simp; omega)
   refine jO ?_
   refine jN ⟨⟨6, [82, 70, 67, 56, 50, 50, 46, 84, 69, 88, 84], ⟨[], [84, 69, 88, 84], []⟩, false, false, 0, 0⟩, (js2 rfl rfl), ?_⟩
   exact ⟨rfl, hb6, hz6, K6⟩
  refine jS (jR (je (Run.build evs.nil dJ (dI).choose_spec.1 (dI).choose_spec.2 (cells := itC it0 none 0 none 0) rfl) ?_))
  refine Ops.st (qZ.storeA rfl rfl zz hz2 rfl (cO it0 none 0 none 0)) ?_
  rintro w4 ⟨hb4, hf4, hs4⟩
  have K4 := K3.own hf4 (by simp; omega)
  refine ja rfl (jO (jN (jv2 2 3 ?_)))
  refine jT ?_
  refine qQ (qR (qQ (cJ ?_)))
  refine qI rfl zcb zz (hb4.cells) (by first | rfl | (simp; done) | (simp [*]; done)) ?_
  refine bE rfl ?_
  refine bW ?_
  have hno : eH t = none := by unfold eH; rw [if_neg hc1, if_neg hc2, if_neg hc3, if_neg hc4, if_neg hc5, if_neg hc6, if_neg hc7, if_neg hc8, if_neg hc9, if_neg hc10]
  exact ⟨by rw [hno]; rfl, K4⟩
 rintro x wm ⟨hx, hbm, hzm, Km⟩ Γ hΓ
 refine qW (jN (VC.sub _ hΓ ?_))
 refine jS (jR (je (Run.loadA rfl zcb zz hbm.cells (by first | rfl | (simp; done))) ?_))
 refine Ops.st (qZ.storeA rfl rfl zz hzm rfl (cO _ _ _ _ _)) ?_
 rintro w4 ⟨hb4, hf4, hs4⟩
 have K4 := Km.own hf4 (by simp; omega)
 refine ja rfl (jO (jN (jv2 2 3 ?_)))
 refine jT ?_
 refine cJ ?_
 refine qI rfl zcb zz (hb4.cells) (by first | rfl | (simp; done) | (simp [*]; done)) ?_
 refine bE rfl ?_
 refine bW ?_
 exact ⟨by rw [hx]; rfl, K4⟩
noncomputable def gZ (tk : List Tk) (q : Nat) : Option (List Sp) := (qL tk q [0]).bind fun s => if gQ s = 0 then some (dK s) else none
theorem rC (gp gc : Nat) (A : Option Addr) (n c : Nat) (tk : List Tk) (q : Nat) (cs : Array Value) (w : World) (hP : IsCp w gp gc A n c tk q cs) (hl : ∀ x ∈ tk, x.2.length ≤ 1000000) : Calls Tryz.prog 69 #[jI0 gp] w fun e w' => Frm [gp] w w' ∧ match gZ tk q with
   | none => e = .panicked dG
   | some l => ∃ B d, e = .returned (.slice B l.length d) ∧ IsCp w' gp gc A n c tk (q + 1) cs ∧ Own w' 96 2 B l.length d (SC l) ∧ ∀ x ∈ ob B, w.heap.size ≤ x := by
 refine jV Tryz.func69 Tryz.ntmps69 Tryz.results69 ?_
 refine jS (jR (ja rfl (jO (jN (jv1 0 ?_)))))
 refine jS (jR (jM ?_))
 refine Ops.m (qV.buildS1 rfl zi zc fV jd jd rfl rfl) rfl ?_
 rintro _ w1 ⟨rfl, hF1⟩
 have hK1 : Rd w1 1 (some ⟨w.heap.size, 0, none⟩) 1 (IB [0]) := Rd.of_blk (n := 1) (size := 1) hF1.blk rfl
 have hPl := hP.lt
 refine Ops.clp (jE2 Tryz.call31) (cI (some ⟨w.heap.size, 0, none⟩) 1 1 [0] gp gc A n c tk q cs w1 (hP.frm hF1.frm) rfl jo hK1 (fun _ x hx => by simp [ob] at hx; omega)) rfl ?_
 rintro e w2 ⟨hf2, he⟩
 rcases hT2 : qL tk q [0] with _ | s
 ·
  rw [hT2] at he
  exact .inr ⟨_, he, qT (bX ⟨(hF1.frm.mono jp).trans hf2 (fun x hx => .inl hx), by simp [gZ, hT2]⟩)⟩
 rw [hT2] at he
 obtain ⟨rfl, hP2⟩ := he
 refine .inl ⟨_, rfl, ?_⟩
 refine jc (jE1 Tryz.call100) (oI s w2 (eB hT2 hl)) ?_
 rintro e w3 ⟨hf3, B, d, rfl, hoB, hupB⟩
 refine ⟨_, rfl, ?_⟩
 have hP3 := hP2.frm hf3
 have K3 : Frm [gp] w w3 := ((hF1.frm.mono jp).trans hf2 (fun x hx => .inl hx)).trans hf3 jp
 have hsz := hF1.frm.size
 have hsz2 := hf2.size
 refine jm rfl (jY rfl rfl (jY rfl rfl (ja rfl (ja rfl (jO (jN (jv2 3 4 ?_)))))))
 refine jS (jR (jm rfl (jb rfl rfl (Bin.eql _ 0) ?_)))
 refine Ops.clp (jE1 zbc) (bH (decide (gQ s = 0)) w3) rfl ?_
 rintro e _ ⟨rfl, he⟩
 by_cases hpe : gQ s = 0
 rotate_left
 ·
  rw [decide_eq_false hpe] at he
  exact .inr ⟨_, he, qT (bX ⟨K3, by simp [gZ, hT2, hpe]⟩)⟩
 rw [decide_eq_true hpe] at he
 refine .inl ⟨_, he, ?_⟩
 refine jO (jN (jv1 3 ?_))
 refine jS (jR (jm rfl (ja rfl (jO (jN (jv1 2 ?_))))))
 refine jT ?_
 refine qP rfl ?_
 refine ⟨K3, ?_⟩
 rw [show gZ tk q = some (dK s) by simp [gZ, hT2, hpe]]
 exact ⟨B, d, rfl, hP3, hoB, fun x hx => by have := hupB x hx; omega⟩
def gI (tk : List Tk) (R : Nat → Nat → Option Nat) (least most : Nat) : Nat → Nat → Nat → Option (Nat × Nat)
 | 0, _, _ => none
 | k + 1, j, q => if IsT tk q 3 then (if least ≤ j then some (q, j) else none) else if j < most then (R j q).bind fun q2 => gI tk R least most k (j + 1) q2 else none
def fY (tk : List Tk) (R : Nat → Nat → Option Nat) (least most q : Nat) : Option (Nat × Nat) := (qL tk q [2]).bind fun _ => gI tk R least most (most + 1) 0 (q + 1)
theorem pQ (f : Nat) (fs us : List Value) (least most : Nat) (R : Nat → Nat → Option Nat) (X : Nat → World → Nat → Array Value → Prop) (w0 : World) (gp gc : Nat) (A : Option Addr) (n c : Nat) (tk : List Tk) (q : Nat) (cs : Array Value) (w : World) (hP : IsCp w gp gc A n c tk q cs) (hK : Frm [gp, gc] w0 w) (hmo : most ≤ 1000000) (hle : least ≤ 1000000)
  (hf : ∀ args w, (callFunc f args).run Tryz.prog w = .ok (.enter f args) w) (hX0 : ∀ W, Frm [gp] w W → IsCp W gp gc A n c tk (q + 1) cs → X 0 W (q + 1) cs) (hX : ∀ j W q cs, X j W q cs → IsCp W gp gc A n c tk q cs ∧ Frm [gp, gc] w0 W) (hXf : ∀ j W W' q cs, X j W q cs → Frm [] W W' → X j W' q cs)
  (hone : ∀ j W q cs, j < most → ¬ IsT tk q 3 → X j W q cs → Calls Tryz.prog f (fs ++ [] ++ us).toArray W fun e w' => match R j q with
   | none => e = .panicked dG ∧ Frm [gp, gc] w0 w'
   | some q2 => e = .returned (.tuple #[]) ∧ ∃ cs2, X (j + 1) w' q2 cs2) :
  Calls Tryz.prog 62 #[jI0 gp, jI1 least, jI1 most, .func (.func f) fs.toArray us.toArray] w fun e w' => match fY tk R least most q with
   | none => e = .panicked dG ∧ Frm [gp, gc] w0 w'
   | some (q2, j) => e = .returned (.tuple #[]) ∧ ∃ cs2 W1, X j W1 q2 cs2 ∧ Frm [gp] W1 w' ∧ IsCp w' gp gc A n c tk (q2 + 1) cs2 := by
 refine jV Tryz.func62 Tryz.ntmps62 Tryz.results62 ?_
 refine jS (jR (jM ?_))
 refine Ops.m (qV.buildS1 rfl zi zc fV jd jd rfl rfl) rfl ?_
 rintro _ w1 ⟨rfl, hF1⟩
 have hK1 : Rd w1 1 (some ⟨w.heap.size, 0, none⟩) 1 (IB [2]) := Rd.of_blk (n := 1) (size := 1) hF1.blk rfl
 have hPl := hP.lt
 refine Ops.clp (jE2 Tryz.call31) (cI (some ⟨w.heap.size, 0, none⟩) 1 1 [2] gp gc A n c tk q cs w1 (hP.frm hF1.frm) rfl jo hK1 (fun _ x hx => by simp [ob] at hx; omega)) rfl ?_
 rintro e w2 ⟨hf2, he⟩
 rcases hT2 : qL tk q [2] with _ | s
 ·
  rw [hT2] at he
  exact .inr ⟨_, he, qT (bX (by rw [show fY tk R least most q = none by simp [fY, hT2]]; exact ⟨rfl, (hK.trans hF1.frm jp).trans hf2 (fun x hx => .inl (by simp at hx; simp [hx]))⟩))⟩
 rw [hT2] at he
 obtain ⟨rfl, hP2⟩ := he
 refine .inl ⟨_, rfl, ?_⟩
 have hX2 := hX0 w2 ((hF1.frm.mono jp).trans hf2 (fun x hx => .inl hx)) hP2
 obtain ⟨G, hG⟩ : ∃ G, fY tk R least most q = G := ⟨_, rfl⟩
 rw [hG]
 have hG0 : gI tk R least most (most + 1) 0 (q + 1) = G := by rw [← hG]; simp [fY, hT2]
 refine jO (jN (jv4 0 1 2 3 ?_))
 refine jS (jR (jz 0 (jO (jN (jS (jB ?_))))))
 refine VC.loop (σ := Nat × Nat × Array Value) (fun s => [(0, jI0 gp), (1, jI1 least), (2, jI1 most), (3, .func (.func f) fs.toArray us.toArray), (8, jI1 s.1)]) (fun s wr => s.1 ≤ most ∧ gI tk R least most (most + 1 - s.1) s.1 s.2.1 = G ∧ X s.1 wr s.2.1 s.2.2) (fun s => most - s.1) (0, q + 1, cs) (js5 rfl rfl rfl rfl rfl) ⟨zau _, hG0, hX2⟩ ?_
 clear hG0 hX2
 rintro ⟨j, q1, cs1⟩ wr ⟨hj, hGj, hXj⟩
 dsimp only at hj hGj hXj ⊢
 obtain ⟨hPj, hKj⟩ := hX _ _ _ _ hXj
 rw [show most + 1 - j = (most - j) + 1 by omega, gI] at hGj
 refine jS (jS (jR (jM ?_)))
 refine jc (jE3 Tryz.call61) (jP 0 3 gp gc A n c tk q1 cs1 wr hPj jo) ?_
 rintro e w3 ⟨hf3, rfl⟩
 refine ⟨_, rfl, ?_⟩
 have hXj := hXf _ _ _ _ _ hXj hf3
 obtain ⟨hPj, hKj⟩ := hX _ _ _ _ hXj
 rw [Nat.add_zero]
 refine je (Run.not rfl) (jO (jN (jv6 0 1 2 3 8 14 ?_)))
 refine VC.condB rfl (fun hc1 => ?_) (fun hc1 => ?_)
 ·
  have hni : ¬ IsT tk q1 3 := by simpa using hc1
  rw [if_neg hni] at hGj
  refine jQ (jN (jv5 0 1 2 3 8 ?_))
  refine jS (jB (jS (jR (jm rfl (jm rfl (jb rfl rfl (Bin.lssN _ _) ?_))))))
  refine Ops.clp (jE1 zbc) (bH (decide (j < most)) w3) rfl ?_
  rintro e _ ⟨rfl, he⟩
  by_cases hjm : j < most
  rotate_left
  ·
   rw [decide_eq_false hjm] at he
   rw [if_neg hjm] at hGj
   subst hGj
   exact .inr ⟨_, he, qT (eA (qT (qT (eA (qT (bX ⟨rfl, hKj⟩))))))⟩
  rw [decide_eq_true hjm] at he
  rw [if_pos hjm] at hGj
  refine .inl ⟨_, he, ?_⟩
  refine jO (jN (jv5 0 1 2 3 8 ?_))
  refine jR (jM ?_)
  refine Ops.clp (qD.dyn rfl evs.nil hf) (hone j w3 q1 cs1 hjm hni hXj) rfl ?_
  rintro e w4 he
  rcases hR : R j q1 with _ | q2
  ·
   rw [hR] at he hGj
   have hGj : none = G := hGj
   subst hGj
   exact .inr ⟨_, he.1, eA (qT (qT (eA (qT (bX ⟨rfl, he.2⟩)))))⟩
  rw [hR] at he hGj
  obtain ⟨rfl, cs2, hX4⟩ := he
  have hGj : gI tk R least most (most - j) (j + 1) q2 = G := hGj
  refine .inl ⟨_, rfl, ?_⟩
  refine jO ?_
  refine qW (jN ?_)
  refine jv5 0 1 2 3 8 ?_
  refine jR (jm rfl (jb rfl rfl (Bin.add_i64 _ 1 jo) (ja rfl (jO ?_))))
  refine jN ⟨(j + 1, q2, cs2), (js5 rfl rfl rfl rfl rfl), ?_, ?_⟩
  · exact ⟨hjm, by dsimp only; rw [show most + 1 - (j + 1) = most - j by omega]; exact hGj, hX4⟩
  exact jq
 have hni : IsT tk q1 3 := by simpa using hc1
 rw [if_pos hni] at hGj
 have hbg := hPj.big
 have hle1 := hPj.le
 refine jX ?_
 refine qK (qK (qS ?_))
 refine jN (jv3 0 1 8 ?_)
 refine jS (jR (jm rfl (jZ rfl (jf rfl zn rfl zc (jl rfl zl (hPj.p.cell 1) (jb rfl rfl (Bin.add_i64 _ 1 jo) (jZ rfl (jf rfl zn rfl zc ?_))))))))
 refine Ops.st (qZ.store rfl rfl zc hPj.p rfl rfl) ?_
 rintro w4 ⟨hb4, hf4, hs4⟩
 have hf4 : Frm [gp] w3 w4 := hf4
 have hni2 : q1 < n := by have := hni.1; rw [hPj.tk.len] at this; exact this
 have hP4 : IsCp w4 gp gc A n c tk (q1 + 1) cs1 := hPj.step hb4 hf4 jo
 refine jO (jN (jv2 1 8 ?_))
 refine jR (jm rfl (jm rfl (jb rfl rfl (Bin.geqN _ _) ?_)))
 refine Ops.clp (jE1 zbc) (bH (decide (least ≤ j)) w4) rfl ?_
 rintro e _ ⟨rfl, he⟩
 by_cases hlj : least ≤ j
 rotate_left
 ·
  rw [decide_eq_false hlj] at he
  rw [if_neg hlj] at hGj
  subst hGj
  exact .inr ⟨_, he, bX ⟨rfl, hKj.trans hf4 (fun x hx => .inl (by simp at hx; simp [hx]))⟩⟩
 rw [decide_eq_true hlj] at he
 rw [if_pos hlj] at hGj
 subst hGj
 refine .inl ⟨_, he, ?_⟩
 refine jO ?_
 refine dB ?_
 exact ⟨rfl, cs1, w3, hXj, hf4, hP4⟩
end
section
open Go.RowKit Go.Sort
section
variable {P : Program} {Γ : Env} {w : World} {dst : Option Tmp} {T : TypeId} {pos : String} {after : Array Edge} {g : Option (Nat × Bool)}
theorem qZ.storeAt {t e : TypeId} {x y : Operand} {gb i : Nat} {cs vs : Array Value} (hx : ev? Γ x = some (.pointer (some ⟨gb, i, none⟩))) (hy : ev? Γ y = some (.agg vs))
  (hz : ∀ w, (sizeOf t).run P w = .ok vs.size w) (hb : Blk w gb e cs) (hs : i + vs.size ≤ cs.size) (h1 : ∀ v ∈ vs.toList, v.oneCell' = true) :
  qZ P ⟨dst, .store t x y, T, pos, after, g⟩ Γ w (fun w' => Blk w' gb e (cs.toList.take i ++ vs.toList ++ cs.toList.drop (i + vs.toList.length)).toArray ∧ Frm [gb] w w' ∧ w'.heap.size = w.heap.size) := fun ρ hρ => by
 have hr := run_storeCells_at (P := P) gb i e vs.toList 0 cs w hb (by simp; omega) h1
 simp only [Nat.add_zero] at hr
 refine ⟨w.setRow gb (cs.toList.take i ++ vs.toList ++ cs.toList.drop (i + vs.toList.length)).toArray, ?_, setRow_heap w gb cs _ e (0, 0) hb, ⟨rfl, rfl, rfl, by simp [World.setRow], fun k _ hS => setRow_other w gb k _ (by simpa using hS)⟩, by simp [World.setRow]⟩
 simp only [execOp, Instr.storeAt, Instr.sureAddr, storeVar, hρ _ _ hx, hρ _ _ hy, Value.cells, Sem.run_bind, Sem.run_pure, Result.andThen_ok, hz, ne_eq, not_true_eq_false, if_false, Sem.run_ite, hr]
end
end
section
open Go.RowKit Go.Sort
def Tab (w : World) : Prop := Lib.TabIs Tryz.prog w "internal/strconv.uint64pow10" .u64 Lib.pow10Tab
theorem Tab.frm {w w' : World} (h : Tab w) (hf : Frm [] w w') : Tab w' := by
 cases hg : Tryz.prog.globalNamed "internal/strconv.uint64pow10" with
 | none =>
  unfold Tab Lib.TabIs World.var? at h
  rw [hg] at h
  cases h
 | some g =>
  unfold Tab Lib.TabIs World.var? at h ⊢
  rw [hg] at h ⊢
  simp only [zap] at h ⊢
  cases hb : w.heap[g]? with
  | none => rw [hb] at h; cases h
  | some o => rw [(hf.block g (Array.getElem?_eq_some_iff.1 hb).1 jp).trans hb]; rw [hb] at h; exact h
def hdI (s : Tx) : Tx := qH (s.take (Lib.indexByte s 91).toNat)
def inI (s : Tx) : Tx := (s.drop ((Lib.indexByte s 91).toNat + 1)).take ((Lib.indexByte s 93).toNat - ((Lib.indexByte s 91).toNat + 1))
def reI (s : Tx) : Tx := s.drop ((Lib.indexByte s 93).toNat + 1)
def cD (v : Wnt) : Tx := [66, 79, 68, 89, 91] ++ qO v ++ [93]
def fN (s : Tx) : Prop := (0 ≤ Lib.indexByte s 91 ∧ Lib.indexByte s 91 < Lib.indexByte s 93) ∧ (hdI s = [66, 79, 68, 89] ∨ hdI s = [66, 79, 68, 89, 46, 80, 69, 69, 75])
instance (s : Tx) : Decidable (fN s) := by unfold fN; infer_instance
def bU (s : Tx) : Option ItM := match eH (qH s) with
 | some x => some x
 | none => if fN s then (bR (inI s)).bind fun v => if reI s = [] then some ⟨6, cD v, v, decide (hdI s = [66, 79, 68, 89, 46, 80, 69, 69, 75]), false, 0, 0⟩ else if dD (reI s) then some ⟨6, cD v ++ ([60] ++ Lib.itoa (bB (reI s)) ++ [62]), v, decide (hdI s = [66, 79, 68, 89, 46, 80, 69, 69, 75]), true, bB (reI s), dQ (reI s)⟩ else none else none
theorem vW {t : Tx} {x : ItM} (h : eH t = some x) : x.w.path = [] ∧ x.w.names = [] := by
 unfold eH at h
 repeat (split at h; (injection h with h; rw [← h]; exact ⟨rfl, rfl⟩))
 cases h
theorem rD {s : Tx} {v : Wnt} (h : bR s = some v) : bS v := by
 unfold bR at h
 split at h
 · cases h
 split at h
 · cases h
 split at h
 · injection h with h; rw [← h]; assumption
 cases h
theorem tY {v : Wnt} (h : bS v) (hn : ∀ x ∈ v.names, x.length ≤ 50000) : (qO v).length ≤ 1000000 := by
 have h1 := mS h
 have h2 : v.names.length ≤ 16 := by have := h.2.1; omega
 have h3 := zq (dN [46] 100 (bC v) h1.2) (zdk h1.1 (zai _))
 have h4 := zq (dN [32] 50000 v.names hn) (zdk h2 (zai _))
 unfold qO
 rw [if_pos h]
 split <;> simp <;> simp at h3 h4 <;> omega
theorem rE (w : World) (k : Nat) (os : Array Obj) : Frm [] w (grow (w.drewN k) os) := by
 refine ⟨rfl, rfl, rfl, jp, fun i hi _ => ?_⟩
 rw [heap_grow_old _ _ (by simpa using hi)]
 rfl
theorem pX (n : Int) (w : World) (ht : Tab w) (h0 : 0 ≤ n) (h1 : n ≤ 1000000000000000000) : Calls Tryz.prog 27 #[.int .i64 n] w fun e w' => e = .returned (encStr (Lib.itoa n)) ∧ Frm [] w w' := by
 exact (Tryz.strconv_Itoa n jo jo w ht).mono fun e w' ⟨he, k, os, hw⟩ => ⟨he, by rw [hw]; exact rE _ _ _⟩
theorem nA (s : Tx) : bB s ≤ 1000000000000000000 := by
 unfold bB gX
 split
 · omega
 rename_i h
 cases ha : Lib.atoi (bQ 46 (eX s)) with
 | none => show (0 : Int) ≤ _; omega
 | some n =>
  have := (Lib.atoi_bound ha jo).2
  show n ≤ _
  omega
theorem uH (n : Int) (h0 : 0 ≤ n) (h1 : n ≤ 1000000000000000000) : (Lib.itoa n).length ≤ 30 := zq (Lib.itoa_length_le n jo jo) jd
theorem nM {s : Tx} {v : Wnt} (h : bR s = some v) : ∀ x ∈ v.names, x.length ≤ s.length := by
 unfold bR at h
 split at h
 · cases h
 rename_i l hl
 have hb : ∀ x ∈ l, x.length ≤ s.length := by
  unfold cR at hl
  split at hl
  ·
   split at hl
   · cases hl
   injection hl with hl
   subst hl
   intro x hx
   exact zq ((mP _).2 x hx) (zq (mR _).1 (dO 32 s).2)
  injection hl with hl
  subst hl
  intro x hx
  cases hx
 split at h
 · cases h
 split at h
 · injection h with h; rw [← h]; exact hb
 cases h
theorem pZ (t : Tx) (w : World) (hs : t.length ≤ 50000) (hv : cN w) (htb : Tab w) : Calls Tryz.prog 71 #[encStr t] w fun e w' => Frm [] w w' ∧ match bU t with
   | none => e = .panicked dG
   | some x => ∃ PA pc NA nc, e = .returned (.agg (itC x PA pc NA nc)) ∧ Own w' 3 1 PA x.w.path.length pc (PI x.w.path) ∧ Own w' 9 1 NA x.w.names.length nc (SB x.w.names) := by
 refine jV Tryz.func71 Tryz.ntmps71 Tryz.results71 ?_
 refine jS (jR ?_)
 refine Ops.m (qV.alloc dJ) rfl ?_
 rintro _ w1 ⟨rfl, hF1⟩
 obtain ⟨g2, hg2⟩ : ∃ g2, g2 = w.heap.size := ⟨_, rfl⟩
 have hz2 : Blk w1 g2 54 (itC it0 none 0 none 0) := by rw [hg2]; exact hF1.blk
 have q1 := hF1.size
 rw [← hg2]
 refine jO (jN (jS (jS (jR (jM ?_)))))
 refine jc (jE1 Tryz.call30) (eJ t w1 jo) ?_
 rintro e w2 ⟨rfl, hf2⟩
 refine ⟨_, rfl, ?_⟩
 have hz2 := hz2.frm hf2 jp
 have q2 := hf2.size
 refine jc (jE1 Tryz.call104) (nH (qH t) w2 (by rw [dH]; omega)) ?_
 rintro e w3 ⟨rfl, hf3⟩
 refine ⟨_, rfl, ?_⟩
 have hz2 := hz2.frm hf3 jp
 have q3 := hf3.size
 have K3 : Frm [] w w3 := (hF1.frm.trans hf2 jp).trans hf3 jp
 refine jm rfl (jY rfl rfl (jY rfl rfl ?_))
 refine Ops.m (qV.alloc dJ) rfl ?_
 rintro _ w4 ⟨rfl, hF4⟩
 obtain ⟨g3, hg3⟩ : ∃ g3, g3 = w3.heap.size := ⟨_, rfl⟩
 have hbx : Blk w4 g3 54 (itC it0 none 0 none 0) := by rw [hg3]; exact hF4.blk
 have hz2 := hz2.frm hF4.frm jp
 rw [← hg3]
 refine Ops.st (qZ.storeA rfl rfl zz hbx rfl (cO _ _ _ _ _)) ?_
 rintro w5 ⟨hb5, hf5, hs5⟩
 have hf5 : Frm [g3] w4 w5 := hf5
 have hgg : g2 ≠ g3 := jo
 have hz5 := hz2.frm hf5 (by simp; exact hgg)
 have K5 : Frm [] w w5 := (K3.trans hF4.frm jp).own hf5 (by simp; omega)
 have q5 := hF4.size
 refine ja rfl (jO (jN (jv4 0 2 3 4 ?_)))
 refine jS (jR (jm rfl (jO (jN (jv4 0 2 3 17 ?_)))))
 refine VC.condB rfl (fun hc1 => ?_) (fun hc1 => ?_)
 ·
  obtain ⟨x, hx⟩ := Option.isSome_iff_exists.1 hc1
  rw [hx] at hb5
  have him : bU t = some x := by unfold bU; rw [hx]
  have hxw : x.w.path = [] ∧ x.w.names = [] := vW hx
  rw [him]
  refine jS (jR (je (Run.loadA rfl zcb zz hb5.cells (by first | rfl | (simp; done))) ?_))
  refine Ops.st (qZ.storeA rfl rfl zz hz5 rfl (cO _ _ _ _ _)) ?_
  rintro w6 ⟨hb6, hf6, hs6⟩
  have K6 := K5.own hf6 (by simp; omega)
  refine jO (jN (jv1 2 ?_))
  refine jT ?_
  refine qQ (cJ ?_)
  refine qI rfl zcb zz (hb6.cells) (by first | rfl | (simp; done) | (simp [*]; done)) ?_
  refine bW ?_
  exact ⟨K6, none, 0, none, 0, rfl, by rw [hxw.1]; exact Own.nil _ _ _, by rw [hxw.2]; exact Own.nil _ _ _⟩
 have hx : eH (qH t) = none := by simpa using hc1
 have him : bU t = if fN t then (bR (inI t)).bind fun v => if reI t = [] then some ⟨6, cD v, v, decide (hdI t = [66, 79, 68, 89, 46, 80, 69, 69, 75]), false, 0, 0⟩ else if dD (reI t) then some ⟨6, cD v ++ ([60] ++ Lib.itoa (bB (reI t)) ++ [62]), v, decide (hdI t = [66, 79, 68, 89, 46, 80, 69, 69, 75]), true, bB (reI t), dQ (reI t)⟩ else none else none := by unfold bU; rw [hx]
 obtain ⟨G, hG⟩ : ∃ G, bU t = G := ⟨_, rfl⟩
 rw [hG] at him ⊢
 have hb1 := Lib.indexByte_ge t 91
 have hb2 := Lib.indexByte_ge t 93
 have hbl : ∀ c, 0 ≤ Lib.indexByte t c → (Lib.indexByte t c).toNat < t.length := fun c h => by
  have h1 := (Lib.indexByte_some (l := t) (c := c) (o := (Lib.indexByte t c).toNat) jo).1
  exact (List.getElem?_eq_some_iff.1 h1).1
 have hB := hbl 91
 have hE := hbl 93
 have hHd : fN t ↔ ((0 ≤ Lib.indexByte t 91 ∧ Lib.indexByte t 91 < Lib.indexByte t 93) ∧ (hdI t = [66, 79, 68, 89] ∨ hdI t = [66, 79, 68, 89, 46, 80, 69, 69, 75])) := Iff.rfl
 refine jQ (jN (jv2 0 2 ?_))
 refine jS (jR (jM ?_))
 refine jc0 (jE2 Tryz.call86) (gB t 91 w5) ?_
 refine ja rfl (jO (jN (jv3 0 2 5 ?_)))
 refine jS (jR (jM ?_))
 refine jc0 (jE2 Tryz.call86) (gB t 93 w5) ?_
 refine ja rfl (jO (jN (jv4 0 2 5 6 ?_)))
 refine jS (jR (jm rfl (jb rfl rfl (Bin.geq _ 0) ?_)))
 by_cases hs24 : 0 ≤ Lib.indexByte t 91
 rotate_left
 ·
  refine jM ?_
  refine jU ?_
  refine jU ?_
  refine jU ?_
  refine jF rfl rfl (decide_eq_false hs24) ?_
  refine Ops.clp (jE1 zbc) (bH false w5) rfl ?_
  rintro e _ ⟨rfl, he⟩
  have hno : ¬ fN t := fun h => hs24 h.1.1
  rw [if_neg hno] at him
  subst him
  exact .inr ⟨_, he, qT (bX ⟨K5, rfl⟩)⟩
 refine jM ?_
 refine Ops.rg rfl (decide_eq_true hs24) (Run.mv rfl) rfl ?_
 refine Ops.rg rfl (decide_eq_true hs24) (Run.mv rfl) rfl ?_
 refine Ops.rg rfl (decide_eq_true hs24) (Run.bin rfl rfl (Bin.gtr _ _)) rfl ?_
 by_cases hs28 : Lib.indexByte t 91 < Lib.indexByte t 93
 rotate_left
 ·
  refine jW rfl rfl (decide_eq_true hs24) ?_
  refine Ops.clp (jE1 zbc) (bH (decide (Lib.indexByte t 91 < Lib.indexByte t 93)) w5) rfl ?_
  rintro e _ ⟨rfl, he⟩
  rw [decide_eq_false hs28] at he
  have hno : ¬ fN t := fun h => hs28 h.1.2
  rw [if_neg hno] at him
  subst him
  exact .inr ⟨_, he, qT (bX ⟨K5, rfl⟩)⟩
 refine jW rfl rfl (decide_eq_true hs24) ?_
 refine Ops.clp (jE1 zbc) (bH (decide (Lib.indexByte t 91 < Lib.indexByte t 93)) w5) rfl ?_
 rintro e _ ⟨rfl, he⟩
 rw [decide_eq_true hs28] at he
 refine .inl ⟨_, he, ?_⟩
 obtain ⟨bN, hbN⟩ : ∃ b : Nat, Lib.indexByte t 91 = ((b : Nat) : Int) := ⟨_, (Int.toNat_of_nonneg hs24).symm⟩
 obtain ⟨eN, heN⟩ : ∃ b : Nat, Lib.indexByte t 93 = ((b : Nat) : Int) := ⟨_, (Int.toNat_of_nonneg jo).symm⟩
 have hE := hE jo
 have hhd : hdI t = qH (t.take bN) := by unfold hdI; rw [hbN]; rfl
 have hin : inI t = (t.drop (bN + 1)).take (eN - (bN + 1)) := by unfold inI; rw [hbN, heN]; rfl
 have hre : reI t = t.drop (eN + 1) := by unfold reI; rw [heN]; rfl
 rw [hbN, heN] at hs28
 rw [heN] at hE
 rw [hbN, heN]
 rw [zbu] at hE
 refine jO (jN (jv4 0 2 5 6 ?_))
 refine jS (jR (je (Run.build (evs.cons rfl evs.nil) dJ (dI).choose_spec.1 (dI).choose_spec.2 (cells := itC ⟨6, [], bK, false, false, 0, 0⟩ none 0 none 0) rfl) ?_))
 refine Ops.m (qV.alloc dJ) rfl ?_
 rintro _ w6 ⟨rfl, hF6⟩
 obtain ⟨gx, hgx⟩ : ∃ gx, gx = w5.heap.size := ⟨_, rfl⟩
 have hbx6 : Blk w6 gx 54 (itC it0 none 0 none 0) := by rw [hgx]; exact hF6.blk
 have hz6 := hz5.frm hF6.frm jp
 have hgx2 : g2 ≠ gx := jo
 rw [← hgx]
 refine Ops.st (qZ.storeA rfl rfl zz hbx6 rfl (cO _ _ _ _ _)) ?_
 rintro w7 ⟨hb7, hf7, hs7⟩
 have hf7 : Frm [gx] w6 w7 := hf7
 have hz7 := hz6.frm hf7 (by simp; exact hgx2)
 have K7 : Frm [] w w7 := (K5.trans hF6.frm jp).own hf7 (by simp; omega)
 have q7 := hF6.size
 refine jO (jN (jv5 0 2 5 6 7 ?_))
 refine jS (jS (jR (jm rfl (jm rfl (je (Run.sliceT 0 bN rfl za evB.none_ (evB.some_ rfl) jo jo) ?_)))))
 rw [show (t.drop 0).take (bN - 0) = t.take bN by simp]
 refine jc (jE1 Tryz.call30) (eJ (t.take bN) w7 (by rw [zaf]; omega)) ?_
 rintro e w8 ⟨rfl, hf8⟩
 refine ⟨_, rfl, ?_⟩
 rw [← hhd]
 have hb8 := hb7.frm hf8 jp
 have hz8 := hz7.frm hf8 jp
 have K8 := K7.trans hf8 jp
 have q8 := hf8.size
 refine jO (jN (jv6 0 2 5 6 7 35 ?_))
 refine jB (jS (jR (je (Run.eqlT rfl rfl) (ja rfl (jO (jN (jv7 0 2 5 6 7 35 37 ?_)))))))
 refine VC.meet (σ := Bool) (fun s => [(0, encStr t), (2, .pointer (some ⟨g2, 0, none⟩)), (5, .int .i64 ((bN : Nat) : Int)), (6, .int .i64 ((eN : Nat) : Int)), (7, .pointer (some ⟨gx, 0, none⟩))]) (fun s wm => s = decide (hdI t = [66, 79, 68, 89, 46, 80, 69, 69, 75]) ∧ fN t ∧ Blk wm gx 54 (itC ⟨6, [], bK, s, false, 0, 0⟩ none 0 none 0) ∧ Blk wm g2 54 (itC it0 none 0 none 0) ∧ Frm [] w wm) ?_ ?_
 ·
  refine jD rfl (fun hc2 => ?_) fun hc2 => ?_
  ·
   refine jQ ?_
   refine jN ⟨false, (js5 rfl rfl rfl rfl rfl), ?_⟩
   exact ⟨(decide_eq_false (by rw [hc2]; decide)).symm, ⟨⟨hs24, jo⟩, .inl hc2⟩, hb8, hz8, K8⟩
  refine jS (jR (je (Run.eqlT rfl rfl) (ja rfl (jO (jN (jv6 0 2 5 6 7 39 ?_))))))
  refine jD rfl (fun hc3 => ?_) fun hc3 => ?_
  ·
   refine jR (jf rfl zg rfl zm ?_)
   refine Ops.st (qZ.store (i := 5) (v := .bool true) rfl rfl zm hb8 rfl rfl) ?_
   rintro w9 ⟨hb9, hf9, hs9⟩
   have hf9 : Frm [gx] w8 w9 := hf9
   have hz9 := hz8.frm hf9 (by simp; exact hgx2)
   have K9 := K8.own hf9 (by simp; omega)
   refine jO ?_
   refine jN ⟨true, (js5 rfl rfl rfl rfl rfl), ?_⟩
   exact ⟨(decide_eq_true hc3).symm, ⟨⟨hs24, jo⟩, .inr hc3⟩, hb9, hz9, K9⟩
  refine jR ?_
  refine Ops.clp (jE1 zbc) (bH false w8) rfl ?_
  rintro e _ ⟨rfl, he⟩
  have hno : ¬ fN t := fun h => h.2.elim hc2 hc3
  rw [if_neg hno] at him
  subst him
  exact .inr ⟨_, he, qT (eA (qT (bX ⟨K8, rfl⟩)))⟩
 rintro pk wm ⟨hpk, hok, hbm, hzm, Km⟩ Γ hΓ
 rw [if_pos hok, ← hpk, hin, hre] at him
 refine qW (jN (VC.sub _ hΓ ?_))
 refine jS (jR (jm rfl (jm rfl (jb rfl rfl (Bin.addZ _ 1 jo jo) (jm rfl (je (Run.sliceT (bN + 1) eN rfl za (evB.some_ rfl) (evB.some_ rfl) jo jo) ?_))))))
 refine jc (jE1 Tryz.call105) (oF ((t.drop (bN + 1)).take (eN - (bN + 1))) wm (by rw [zaf, zaw]; omega) (hv.frm0 Km)) ?_
 rintro e wa ⟨hfa, PA, pc, NA, nc, rfl, hoP, hoN⟩
 refine ⟨_, rfl, ?_⟩
 have hba := hbm.frm hfa jp
 have hza := hzm.frm hfa jp
 have Ka := Km.trans hfa jp
 have qa := Km.size
 have qa2 := hfa.size
 obtain ⟨ov, hov⟩ : ∃ ov, bR ((t.drop (bN + 1)).take (eN - (bN + 1))) = ov := ⟨_, rfl⟩
 rw [hov] at him hoP hoN ⊢
 refine jm rfl (jY rfl rfl (jY rfl rfl ?_))
 refine Ops.m (qV.alloc dC) rfl ?_
 rintro _ wb ⟨rfl, hFb⟩
 obtain ⟨g8, hg8⟩ : ∃ g8, g8 = wa.heap.size := ⟨_, rfl⟩
 have hb8' : Blk wb g8 47 (WtC bK none 0 none 0) := by rw [hg8]; exact hFb.blk
 have hbb := hba.frm hFb.frm jp
 have hzb := hza.frm hFb.frm jp
 have hoP := hoP.frm hFb.frm jp
 have hoN := hoN.frm hFb.frm jp
 have Kb := Ka.trans hFb.frm jp
 have hgx8 : gx ≠ g8 := by have := hbm.lt; omega
 have hg28 : g2 ≠ g8 := by have := hzm.lt; omega
 rw [← hg8]
 refine Ops.st (qZ.storeA rfl rfl zj hb8' rfl (cL _ _ _ _ _)) ?_
 rintro wc ⟨hb8c, hfc, hsc⟩
 have hfc : Frm [g8] wb wc := hfc
 have hbc := hbb.frm hfc (by simp; exact hgx8)
 have hzc := hzb.frm hfc (by simp; exact hg28)
 have hoP := hoP.frm hfc (fun x hx e => by rw [ze] at e; subst e; exact hoP.ne_blk hb8' jd hx)
 have hoN := hoN.frm hfc (fun x hx e => by rw [ze] at e; subst e; exact hoN.ne_blk hb8' jd hx)
 have Kc := Kb.own hfc (by simp; omega)
 refine ja rfl (jO (jN (jv6 0 2 6 7 8 9 ?_)))
 refine jS (jR (jm rfl (jb rfl rfl (Bin.eql _ 0) ?_)))
 refine Ops.clp (jE1 zbc) (bH (decide (((if ov.isSome then 0 else 3) : Int) = 0)) wc) rfl ?_
 rintro e _ ⟨rfl, he⟩
 rcases ov with _ | v
 ·
  rw [show decide (((if (none : Option Wnt).isSome then 0 else 3) : Int) = 0) = false by decide] at he
  have him : G = none := him
  subst him
  exact .inr ⟨_, he, qT (bX ⟨Kc, rfl⟩)⟩
 rw [show decide (((if (some v).isSome then 0 else 3) : Int) = 0) = true by simp] at he
 refine .inl ⟨_, he, ?_⟩
 have hmv := rD hov
 have hnv := nM hov
 have him : G = if t.drop (eN + 1) = [] then some ⟨6, cD v, v, pk, false, 0, 0⟩ else if dD (t.drop (eN + 1)) then some ⟨6, cD v ++ ([60] ++ Lib.itoa (bB (t.drop (eN + 1))) ++ [62]), v, pk, true, bB (t.drop (eN + 1)), dQ (t.drop (eN + 1))⟩ else none := him
 rw [show ((some v).getD bK) = v from rfl] at hoP hoN hb8c
 refine jO (jN (jv5 0 2 6 7 8 ?_))
 refine jS ?_
 refine VC.heldL 8 (fun V => Blk V g8 47 (WtC v PA pc NA nc)) jK ?_
 have hdc := (qF.drew wc).frm
 have hS : (fun V : World => Blk V g8 47 (WtC v PA pc NA nc)) wc.drew := hb8c.frm hdc jp
 refine jH 0 rfl hS (fun w0 hw0 => Run.loadA rfl zae zj (Blk.cells hw0) (by first | rfl | (simp; done))) ?_
 refine qJ.r1 1 rfl jK hS (Run.loadA rfl zae zj (Blk.cells hS) (by first | rfl | (simp; done))) trivial rfl rfl ?_
 refine qJ.cl 2 rfl jK (jE1 Tryz.call13) (kC v PA NA pc nc wc.drew (hoP.frm hdc jp).rd (by have := hmv.1; omega) (hoN.frm hdc jp).rd (by have := hmv.2.1; omega) (fun x hx => by have h1 := hnv x hx; rw [zaf, zaw] at h1; omega) hoN.le) trivial rfl rfl ?_
 rintro e wd ⟨rfl, hfd⟩
 have hfd := hdc.trans hfd jp
 have hS : (fun V : World => Blk V g8 47 (WtC v PA pc NA nc)) wd := hb8c.frm hfd jp
 refine ⟨_, rfl, hS, ?_⟩
 have hbd := hbc.frm hfd jp
 have hzd := hzc.frm hfd jp
 have hoP := hoP.frm hfd jp
 have hoN := hoN.frm hfd jp
 have Kd := Kc.trans hfd jp
 have htl := tY hmv (fun x hx => by have h1 := hnv x hx; rw [zaf, zaw] at h1; exact (jo : x.length ≤ 50000))
 refine jH 3 rfl hS (fun w0 hw0 => Run.addT (a := [66, 79, 68, 89, 91]) (b := qO v) rfl rfl (by simp; omega)) ?_
 refine jH 4 rfl hS (fun w0 hw0 => Run.addT (a := [66, 79, 68, 89, 91] ++ qO v) (b := [93]) rfl rfl (by simp; omega)) ?_
 refine qJ.r1 5 rfl jK hS (Run.fieldAddr rfl zg rfl zj jd) trivial rfl rfl ?_
 refine qJ.st 6 rfl jK (qZ.storeAt (i := 2) rfl rfl zj hbd (show 2 + 3 ≤ 9 from zbi rfl) (cL _ _ _ _ _)) trivial rfl ?_
 rintro wf ⟨hbf, hff, hsf⟩
 have hff : Frm [gx] wd wf := hff
 have hbf : Blk wf gx 54 (itC ⟨6, [], v, pk, false, 0, 0⟩ PA pc NA nc) := hbf
 have hS : (fun V : World => Blk V g8 47 (WtC v PA pc NA nc)) wf := Blk.frm hS hff (by simp; exact fun e => hgx8 e.symm)
 refine ⟨hS, ?_⟩
 refine qJ.r1 7 rfl jK hS (Run.fieldAddr rfl zg rfl zd jd) trivial rfl rfl ?_
 refine qJ.stL rfl jK (qZ.store (i := 1) rfl rfl zd hbf rfl rfl) trivial rfl ?_
 rintro wg ⟨hbg, hfg, hsg⟩
 have hfg : Frm [gx] wf wg := hfg
 have hbg : Blk wg gx 54 (itC ⟨6, cD v, v, pk, false, 0, 0⟩ PA pc NA nc) := hbg
 have k2g : Frm [gx] wd wg := hff.trans hfg (fun x hx => .inl hx)
 have hzg := hzd.frm k2g (by simp; exact hgx2)
 have hoP := hoP.frm k2g (fun x hx e => by rw [ze] at e; subst e; exact hoP.ne_blk hbd jd hx)
 have hoN := hoN.frm k2g (fun x hx e => by rw [ze] at e; subst e; exact hoN.ne_blk hbd jd hx)
 have Kg := Kd.own k2g (by simp; omega)
 refine qJ.done jK ?_
 refine jN (jv4 0 2 6 7 ?_)
 refine jS (jS (jR (jm rfl (jm rfl (jb rfl rfl (Bin.addZ _ 1 jo jo) (je (Run.sliceT (eN + 1) t.length rfl za (evB.some_ rfl) evB.none_ jo jo) ?_))))))
 rw [show (t.drop (eN + 1)).take (t.length - (eN + 1)) = t.drop (eN + 1) from zr (by rw [zaw]; omega)]
 obtain ⟨re, hrE⟩ : ∃ re, re = t.drop (eN + 1) := ⟨_, rfl⟩
 have hrl : re.length ≤ 50000 := by rw [hrE, zaw]; omega
 rw [← hrE] at him ⊢
 refine ja rfl (jO (jN (jv3 2 7 10 ?_)))
 refine jS (jR (jm rfl (je (Run.neqT rfl rfl) (jO (jN (jv4 2 7 10 66 ?_))))))
 refine VC.meet (σ := ItM) (fun s => [(2, .pointer (some ⟨g2, 0, none⟩)), (7, .pointer (some ⟨gx, 0, none⟩))]) (fun s wm => G = some s ∧ Blk wm gx 54 (itC s PA pc NA nc) ∧ Blk wm g2 54 (itC it0 none 0 none 0) ∧ Frm [] w wm ∧ Own wm 3 1 PA s.w.path.length pc (PI s.w.path) ∧ Own wm 9 1 NA s.w.names.length nc (SB s.w.names)) ?_ ?_
 ·
  refine jD rfl (fun hc4 => ?_) fun hc4 => ?_
  ·
   rw [if_neg hc4] at him
   refine jS (jR (jM ?_))
   refine jc (jE2 Tryz.call106) (oL gx _ re wg hbg rfl jo (hv.frm0 Kg)) ?_
   rintro e wh ⟨rfl, hfh, hbh⟩
   refine ⟨_, rfl, ?_⟩
   have hzh := hzg.frm hfh (by simp; exact hgx2)
   have Kh := Kg.own hfh (by simp; omega)
   refine Ops.clp (jE1 zbc) (bH (decide (dD re)) wh) rfl ?_
   rintro e _ ⟨rfl, he⟩
   by_cases hpo : dD re
   rotate_left
   ·
    rw [decide_eq_false hpo] at he
    rw [if_neg hpo] at him
    subst him
    exact .inr ⟨_, he, qT (qT (qT (bX ⟨Kh, rfl⟩)))⟩
   rw [decide_eq_true hpo] at he
   refine .inl ⟨_, he, ?_⟩
   rw [if_pos hpo] at him
   subst him
   have hbh : Blk wh gx 54 (itC ⟨6, cD v, v, pk, true, bB re, dQ re⟩ PA pc NA nc) := hbh
   have hoP := hoP.frm hfh (fun x hx e => by rw [ze] at e; subst e; exact hoP.ne_blk hbg jd hx)
   have hoN := hoN.frm hfh (fun x hx e => by rw [ze] at e; subst e; exact hoN.ne_blk hbg jd hx)
   refine jO (jN (jv2 2 7 ?_))
   refine VC.heldL 9 (fun V => Blk V gx 54 (itC ⟨6, cD v, v, pk, true, bB re, dQ re⟩ PA pc NA nc)) jK ?_
   have hdh := (qF.drew wh).frm
   have hS : (fun V : World => Blk V gx 54 (itC ⟨6, cD v, v, pk, true, bB re, dQ re⟩ PA pc NA nc)) wh.drew := hbh.frm hdh jp
   refine jH 0 rfl hS (fun w0 hw0 => Run.fieldAddr rfl zg rfl zd jd) ?_
   refine jH 1 rfl hS (fun w0 hw0 => Run.load rfl zh (Blk.cell hw0 1)) ?_
   refine qJ.r1 2 rfl jK hS (Run.fieldAddr rfl zg rfl zc jd) trivial rfl rfl ?_
   refine qJ.r1 3 rfl jK hS (Run.load rfl zl (Blk.cell hS 7)) trivial rfl rfl ?_
   refine qJ.cl 4 rfl jK (jE1 Tryz.call27) (pX (bB re) wh.drew (htb.frm (Kh.trans hdh jp)) hpo.2.2.2.1 (nA re)) trivial rfl rfl ?_
   rintro e wi ⟨rfl, hfi⟩
   have hfi := hdh.trans hfi jp
   have hS : (fun V : World => Blk V gx 54 (itC ⟨6, cD v, v, pk, true, bB re, dQ re⟩ PA pc NA nc)) wi := hbh.frm hfi jp
   refine ⟨_, rfl, hS, ?_⟩
   have hbi : Blk wi gx 54 _ := hS
   have hzi := hzh.frm hfi jp
   have hoP := hoP.frm hfi jp
   have hoN := hoN.frm hfi jp
   have Ki := Kh.trans hfi jp
   have hil := uH (bB re) hpo.2.2.2.1 (nA re)
   have hll : (cD v).length ≤ 10000000 := by unfold cD; simp; omega
   refine qJ.r1 5 rfl jK hS (Run.addT (a := [60]) (b := Lib.itoa (bB re)) rfl rfl (by simp; omega)) trivial rfl rfl ?_
   refine qJ.r1 6 rfl jK hS (Run.addT (a := [60] ++ Lib.itoa (bB re)) (b := [62]) rfl rfl (by simp; omega)) trivial rfl rfl ?_
   refine qJ.r1 7 rfl jK hS (Run.addT (a := cD v) (b := [60] ++ Lib.itoa (bB re) ++ [62]) rfl rfl (by simp; omega)) trivial rfl rfl ?_
   refine qJ.r1 8 rfl jK hS (Run.fieldAddr rfl zg rfl zd jd) trivial rfl rfl ?_
   refine qJ.stL rfl jK (qZ.store (i := 1) rfl rfl zd hbi rfl rfl) trivial rfl ?_
   rintro wj ⟨hbj, hfj, hsj⟩
   have hfj : Frm [gx] wi wj := hfj
   have hzj := hzi.frm hfj (by simp; exact hgx2)
   have hoP := hoP.frm hfj (fun x hx e => by rw [ze] at e; subst e; exact hoP.ne_blk hbi jd hx)
   have hoN := hoN.frm hfj (fun x hx e => by rw [ze] at e; subst e; exact hoN.ne_blk hbi jd hx)
   have Kj := Ki.own hfj (by simp; omega)
   refine qJ.done jK ?_
   refine jN ⟨(⟨6, cD v ++ ([60] ++ Lib.itoa (bB re) ++ [62]), v, pk, true, bB re, dQ re⟩ : ItM), (js2 rfl rfl), ?_⟩
   exact ⟨rfl, hbj, hzj, Kj, hoP, hoN⟩
  have hc4 := Classical.not_not.1 hc4
  rw [if_pos hc4] at him
  subst him
  refine jQ ?_
  refine jN ⟨(⟨6, cD v, v, pk, false, 0, 0⟩ : ItM), (js2 rfl rfl), ?_⟩
  exact ⟨rfl, hbg, hzg, Kg, hoP, hoN⟩
 rintro x wk ⟨rfl, hbk, hzk, Kk, hoPk, hoNk⟩ Γ hΓ
 refine jN (VC.sub _ hΓ (jS (jR (je (Run.loadA rfl zcb zz hbk.cells (by first | rfl | (simp; done))) ?_))))
 refine Ops.st (qZ.storeA rfl rfl zz hzk rfl (cO _ _ _ _ _)) ?_
 rintro wl ⟨hbf, hfl, hsl⟩
 have hfl : Frm [g2] wk wl := hfl
 have Kl := Kk.own hfl (by simp; omega)
 have hoP := hoPk.frm hfl (fun x hx e => by rw [ze] at e; subst e; exact hoPk.ne_blk hzk jd hx)
 have hoN := hoNk.frm hfl (fun x hx e => by rw [ze] at e; subst e; exact hoNk.ne_blk hzk jd hx)
 refine jO (jN (jv1 2 ?_))
 refine jT ?_
 refine cJ ?_
 refine qI rfl zcb zz (hbf.cells) (by first | rfl | (simp; done) | (simp [*]; done)) ?_
 refine bW ?_
 exact ⟨Kl, PA, pc, NA, nc, rfl, hoP, hoN⟩
end
section
open Go.RowKit
def cV : List Tx := [[70, 76, 65, 71, 83], [73, 78, 84, 69, 82, 78, 65, 76, 68, 65, 84, 69], [82, 70, 67, 56, 50, 50, 46, 83, 73, 90, 69], [69, 78, 86, 69, 76, 79, 80, 69], [66, 79, 68, 89]]
def bD (s : Tx) : List Tx := if s = [70, 65, 83, 84] then cV.take 3 else if s = [65, 76, 76] then cV.take 4 else if s = [70, 85, 76, 76] then cV else []
theorem Rd.few {w : World} {A : Option Addr} {n k : Nat} {xs : List Value} (h : Rd w 1 A n xs) (hk : k ≤ n) : Rd w 1 A k (xs.take k) := by
 refine ⟨by rw [zaf]; have := h.1; omega, fun hk0 => ?_⟩
 obtain ⟨ad, h1, h2, h3⟩ := h.2 jo
 refine ⟨ad, h1, h2, fun j u hu => h3 j u ?_⟩
 rw [List.getElem?_take] at hu
 split at hu
 · exact hu
 cases hu
theorem nN (s : Tx) (w : World) : Calls Tryz.prog 73 #[encStr s] w fun e w' => Frm [] w w' ∧ ∃ B d, e = .returned (.slice B (bD s).length d) ∧ Rd w' 1 B (bD s).length (SB (bD s)) ∧ (bD s = [] → B = none ∧ d = 0) ∧ (bD s ≠ [] → ∃ g, B = some ⟨g, 0, none⟩ ∧ Blk w' g 9 (SB cV).toArray) ∧ (bD s).length ≤ d := by
 refine jV Tryz.func73 Tryz.ntmps73 Tryz.results73 ?_
 refine jS (jR (ja rfl (jO (jN (jv1 0 ?_)))))
 refine jS (jR ?_)
 refine Ops.m (qV.buildN (cells := #[encStr [70, 76, 65, 71, 83], encStr [73, 78, 84, 69, 82, 78, 65, 76, 68, 65, 84, 69], encStr [82, 70, 67, 56, 50, 50, 46, 83, 73, 90, 69], encStr [69, 78, 86, 69, 76, 79, 80, 69], encStr [66, 79, 68, 89]]) (evs.cons rfl (evs.cons rfl (evs.cons rfl (evs.cons rfl (evs.cons rfl evs.nil))))) zk zd oN rfl rfl jK) rfl ?_
 rintro _ w1 ⟨rfl, hF1⟩
 have hR1 : Rd w1 1 (some ⟨w.heap.size, 0, none⟩) 5 (SB cV) := Rd.of_blk (n := 5) (size := 1) hF1.blk rfl
 refine ja rfl (jO (jN (jv2 0 3 ?_)))
 refine jS (jS (jR (jm rfl (jO (jN (jv2 3 5 ?_))))))
 refine jB (jS (jR (je (Run.eqlT rfl rfl) (ja rfl (jO (jN (jv3 3 5 6 ?_)))))))
 refine jD rfl (fun hc1 => ?_) fun hc1 => ?_
 ·
  refine jS (jR (jm rfl (je (Run.sliceS 0 3 rfl zk zd evB.none_ (evB.some_ rfl) jo jo) (ja rfl (jO (jN (jv1 2 ?_)))))))
  refine jT ?_
  refine qR (qQ (qP rfl ?_))
  refine ⟨hF1.frm, ?_⟩
  rw [show bD s = cV.take 3 by simp [bD, hc1]]
  exact ⟨some ⟨w.heap.size, 0, none⟩, 5, rfl, hR1.few (k := 3) jo, fun h => absurd h jd, fun _ => ⟨_, rfl, hF1.blk⟩, jd⟩
 refine jS (jR (je (Run.eqlT rfl rfl) (ja rfl (jO (jN (jv3 3 5 10 ?_))))))
 refine jD rfl (fun hc2 => ?_) fun hc2 => ?_
 ·
  refine jS (jR (jm rfl (je (Run.sliceS 0 4 rfl zk zd evB.none_ (evB.some_ rfl) jo jo) (ja rfl (jO (jN (jv1 2 ?_)))))))
  refine jT ?_
  refine qR (qQ (qP rfl ?_))
  refine ⟨hF1.frm, ?_⟩
  rw [show bD s = cV.take 4 by simp [bD, hc1, hc2]]
  exact ⟨some ⟨w.heap.size, 0, none⟩, 5, rfl, hR1.few (k := 4) jo, fun h => absurd h jd, fun _ => ⟨_, rfl, hF1.blk⟩, jd⟩
 refine jS (jR (je (Run.eqlT rfl rfl) (ja rfl (jO (jN (jv2 3 14 ?_))))))
 refine jD rfl (fun hc3 => ?_) fun hc3 => ?_
 ·
  refine jS (jR (jm rfl (ja rfl (jO (jN (jv1 2 ?_))))))
  refine jT ?_
  refine qR (qQ (qP rfl ?_))
  refine ⟨hF1.frm, ?_⟩
  rw [show bD s = cV by simp [bD, hc1, hc2, hc3]]
  exact ⟨some ⟨w.heap.size, 0, none⟩, 5, rfl, hR1, fun h => absurd h jd, fun _ => ⟨_, rfl, hF1.blk⟩, jd⟩
 refine jQ ?_
 refine qW (jN ?_)
 refine VC.sub [] .nil ?_
 refine jS (jR (ja rfl (jO (jN (jT ?_)))))
 refine qP rfl ?_
 refine ⟨hF1.frm, ?_⟩
 rw [show bD s = [] by simp [bD, hc1, hc2, hc3]]
 exact ⟨none, 0, rfl, Rd.nil _ _ _, fun _ => ⟨rfl, rfl⟩, fun h => absurd rfl h, jd⟩
structure ItR where
 x : ItM
 PA : Option Addr
 pc : Nat
 NA : Option Addr
 nc : Nat
def itR (r : ItR) : List Value := (itC r.x r.PA r.pc r.NA r.nc).toList
def IRC (l : List ItR) : List Value := l.flatMap itR
structure ItOk (w : World) (r : ItR) : Prop where
 p : Own w 3 1 r.PA r.x.w.path.length r.pc (PI r.x.w.path)
 n : Own w 9 1 r.NA r.x.w.names.length r.nc (SB r.x.w.names)
structure IsIt (w : World) (B : Nat) (I : Option Addr) (d : Nat) (rs : List ItR) : Prop where
 row : Own w 54 9 I rs.length d (IRC rs)
 ok : ∀ r ∈ rs, ItOk w r
 up : ∀ x ∈ ob I, B ≤ x
theorem Own.one {w w' : World} {e size n d g : Nat} {A : Option Addr} {xs : List Value} {t : TypeId} {cs : Array Value} (h : Own w e size A n d xs) (k : Frm [g] w w') (hb : Blk w g t cs) (h1 : e ≠ t) : Own w' e size A n d xs := h.frm k (fun y hy h2 => by rw [ze] at h2; subst h2; exact h.ne_blk hb h1 hy)
theorem ItOk.frm {w w' : World} {r : ItR} (h : ItOk w r) (k : Frm [] w w') : ItOk w' r := ⟨h.p.frm k jp, h.n.frm k jp⟩
theorem ItOk.blk {w w' : World} {r : ItR} {g : Nat} {t : TypeId} {cs : Array Value} (h : ItOk w r) (hb : Blk w g t cs) (k : Frm [g] w w') (h1 : 3 ≠ t) (h2 : 9 ≠ t) : ItOk w' r := ⟨h.p.one k hb h1, h.n.one k hb h2⟩
theorem ItOk.own {w w' : World} {r : ItR} {e size n d : Nat} {I : Option Addr} {xs : List Value} (h : ItOk w r) (ho : Own w e size I n d xs) (k : Frm (ob I) w w') (h1 : 3 ≠ e) (h2 : 9 ≠ e) : ItOk w' r := ⟨h.p.frm k (fun y hy => h.p.ne_own ho h1 y hy), h.n.frm k (fun y hy => h.n.ne_own ho h2 y hy)⟩
theorem IsIt.frm {w w' : World} {B d : Nat} {I : Option Addr} {rs : List ItR} (h : IsIt w B I d rs) (k : Frm [] w w') : IsIt w' B I d rs := ⟨h.row.frm k jp, fun r hr => (h.ok r hr).frm k, h.up⟩
theorem IsIt.blk {w w' : World} {B d g : Nat} {I : Option Addr} {rs : List ItR} {t : TypeId} {cs : Array Value} (h : IsIt w B I d rs) (hb : Blk w g t cs) (k : Frm [g] w w') (h0 : 54 ≠ t) (h1 : 3 ≠ t) (h2 : 9 ≠ t) : IsIt w' B I d rs := ⟨h.row.one k hb h0, fun r hr => (h.ok r hr).blk hb k h1 h2, h.up⟩
theorem IsIt.nil (w : World) (B : Nat) : IsIt w B none 0 [] := ⟨Own.nil _ _ _, fun _ h => (zax h).elim, fun _ h => absurd h (by simp [ob])⟩
theorem IsCp.frmS {S : List Nat} {w w' : World} {gp gc : Nat} {A : Option Addr} {n c : Nat} {tk : List Tk} {q : Nat} {cs : Array Value} (h : IsCp w gp gc A n c tk q cs) (k : Frm S w w') (h1 : gp ∉ S) (h2 : gc ∉ S) (h3 : 0 < n → ∀ x ∈ ob A, x ∉ S) : IsCp w' gp gc A n c tk q cs := ⟨h.p.frm k (by simpa using h1), h.k.frm k (by simpa using h2), h.sz, h.tk.frm k h3, h.le, h.big, h.off⟩
theorem pJ (l : List ItR) (r : ItR) : IRC (l ++ [r]) = IRC l ++ itR r := by simp [IRC]
theorem gJ (s : Tx) (gb B d : Nat) (I : Option Addr) (rs : List ItR) (gp gc : Nat) (A : Option Addr) (n c : Nat) (tk : List Tk) (q : Nat) (cs : Array Value) (w : World) (hP : IsCp w gp gc A n c tk q cs) (hG : Blk w gb 61 #[jI0 gp]) (hI : IsIt w B I d rs) (hcs : cs[9]? = some (.slice I rs.length d)) (hA : 0 < n → ∀ x ∈ ob A, x < B) (hB : B ≤ w.heap.size) (hrs : rs.length ≤ 1000000) (hs : s.length ≤ 50000) (hv : cN w) (htb : Tab w) : Calls Tryz.prog 70 #[encStr s, jI0 gb] w fun e w' => match bU s with
   | none => e = .panicked dG ∧ Frm [] w w'
   | some x => e = .returned (.tuple #[]) ∧ ∃ I' d' r, r.x = x ∧ IsIt w' B I' d' (rs ++ [r]) ∧ IsCp w' gp gc A n c tk q (cs.setIfInBounds 9 (.slice I' (rs.length + 1) d')) ∧ Frm (gc :: ob I) w w' ∧ ∀ y ∈ ob I', y ∈ ob I ∨ w.heap.size ≤ y := by
 refine jV Tryz.func70 Tryz.ntmps70 Tryz.results70 ?_
 refine VC.heldL 17 (fun V => V.cell? ⟨gb, 0, none⟩ = some (jI0 gp) ∧ V.cell? ⟨gp, 2, none⟩ = some (jI0 gc) ∧ V.cell? ⟨gc, 9, none⟩ = some (.slice I rs.length d)) jK ?_
 have hd := (qF.drew w).frm
 have hPd := hP.frm hd
 have hId := hI.frm hd
 have hGd := hG.frm hd jp
 have mkS : ∀ V, Blk V gb 61 #[jI0 gp] → IsCp V gp gc A n c tk q cs → (V.cell? ⟨gb, 0, none⟩ = some (jI0 gp) ∧ V.cell? ⟨gp, 2, none⟩ = some (jI0 gc) ∧ V.cell? ⟨gc, 9, none⟩ = some (.slice I rs.length d)) := fun V h1 h2 => ⟨h1.cell 0, h2.p.cell 2, by have h3 := h2.k.cells 9 _ (by simpa using hcs); exact h3⟩
 have hS := mkS _ hGd hPd
 refine jH 0 rfl hS (fun w0 hw0 => Run.load rfl zcc hw0.1) ?_
 refine jH 1 rfl hS (fun w0 hw0 => Run.nilck rfl) ?_
 refine jH 2 rfl hS (fun w0 hw0 => Run.fieldAddr rfl zn rfl zat jd) ?_
 refine jH 3 rfl hS (fun w0 hw0 => Run.load rfl zbd hw0.2.1) ?_
 refine jH 4 rfl hS (fun w0 hw0 => Run.load rfl zcc hw0.1) ?_
 refine jH 5 rfl hS (fun w0 hw0 => Run.nilck rfl) ?_
 refine jH 6 rfl hS (fun w0 hw0 => Run.fieldAddr rfl zn rfl zat jd) ?_
 refine jH 7 rfl hS (fun w0 hw0 => Run.load rfl zbd hw0.2.1) ?_
 refine jH 8 rfl hS (fun w0 hw0 => Run.nilck rfl) ?_
 refine jH 9 rfl hS (fun w0 hw0 => Run.fieldAddr rfl zp rfl zbq jd) ?_
 refine jH 10 rfl hS (fun w0 hw0 => Run.load rfl Tryz.isAgg27 hw0.2.2) ?_
 refine qJ.r1 11 rfl jK hS (Run.mv rfl) trivial rfl rfl ?_
 refine qJ.clp 12 rfl jK (jE1 Tryz.call71) (pZ s _ hs (hv.frm0 hd) (htb.frm hd)) trivial rfl rfl ?_
 rintro e w1 ⟨hf1, he⟩
 rcases hT : bU s with _ | x
 ·
  rw [hT] at he
  exact .inr ⟨_, he, bX ⟨rfl, hd.trans hf1 jp⟩⟩
 rw [hT] at he
 obtain ⟨PA, pc, NA, nc, rfl, hoP, hoN⟩ := he
 have hG1 := hGd.frm hf1 jp
 have hP1 := hPd.frm hf1
 have hI1 := hId.frm hf1
 have hok : ItOk w1 ⟨x, PA, pc, NA, nc⟩ := ⟨hoP, hoN⟩
 have hS := mkS _ hG1 hP1
 refine .inl ⟨_, rfl, hS, ?_⟩
 refine qJ.m 13 rfl jK (qV.buildS1 rfl zbv zz dJ jd jd rfl rfl) trivial rfl rfl ?_
 rintro _ w2 ⟨rfl, hF2⟩
 have hG2 := hG1.frm hF2.frm jp
 have hP2 := hP1.frm hF2.frm
 have hI2 := hI1.frm hF2.frm
 have hok := hok.frm hF2.frm
 have hrd : Rd w2 9 (some ⟨w1.heap.size, 0, none⟩) 1 (itC x PA pc NA nc).toList := Rd.of_blk (n := 1) (size := 9) hF2.blk rfl
 have K2 : Frm [] w w2 := (hd.trans hf1 jp).trans hF2.frm jp
 have q2 := K2.size
 have hS := mkS _ hG2 hP2
 refine ⟨hS, ?_⟩
 refine qJ.m 14 rfl jK (qV.app rfl rfl zbv (uI) rfl jd hI2.row hrd (cO _ _ _ _ _) jo jo) trivial rfl rfl ?_
 rintro _ w3 ⟨I3, d3, rfl, hO3, hf3, hob3⟩
 have hgp := hI2.row.ne_blk hP2.p jd
 have hgc := hI2.row.ne_blk hP2.k jd
 have hgb := hI2.row.ne_blk hG2 jd
 have hP3 := hP2.frmS hf3 hgp hgc (fun h0 y hy e => by have h1 := hA h0 y hy; have h2 := hI.up y e; omega)
 have hG3 := hG2.frm hf3 hgb
 have hI3 : IsIt w3 B I3 d3 (rs ++ [⟨x, PA, pc, NA, nc⟩]) := ⟨by rw [pJ, zao]; exact hO3, fun r hr => by
  rcases List.mem_append.1 hr with hr | hr
  · exact (hI2.ok r hr).own hI2.row hf3 jd jd
  ·
   rw [ze] at hr
   subst hr
   exact hok.own hI2.row hf3 jd jd, fun y hy => by
  rcases hob3 with h | h
  · rw [h] at hy; exact hI.up y hy
  rw [h, ze] at hy; omega⟩
 have hS := mkS _ hG3 hP3
 refine ⟨hS, ?_⟩
 refine qJ.r1 15 rfl jK hS (Run.nilck rfl) trivial rfl rfl ?_
 refine qJ.r1 16 rfl jK hS (Run.fieldAddr rfl zp rfl zbq jd) trivial rfl rfl ?_
 refine qJ.stL rfl jK (qZ.store (i := 9) rfl rfl zbq hP3.k (by rw [hP3.sz]; rfl) rfl) trivial rfl ?_
 rintro w4 ⟨hb4, hf4, hs4⟩
 have hP4 := hP3.turn hb4 (by simp [hP3.sz]) hf4
 have hI4 := hI3.blk hP3.k hf4 jd jd jd
 refine qJ.done jK ?_
 refine dB ?_
 refine ⟨rfl, I3, d3, ⟨x, PA, pc, NA, nc⟩, rfl, hI4, hP4, ((K2.mono jp).trans hf3 (fun y hy => .inl (by simp [hy]))).trans hf4 (fun y hy => .inl (by simp at hy; simp [hy])), fun y hy => ?_⟩
 rcases hob3 with h | h
 · rw [h] at hy; exact .inl hy
 rw [h, ze] at hy; exact .inr jo
end
end Go.Proofs.YtjklfpccmaljjaaGreatDoor
