/-
  The zero value and the size of each type of this translation: read off its table.
-/
import Derived.Test.YtenbjndldenkfaaGreatDoorEngA
import Derived.Test.YtenbjndldenkfaaGreatDoorRows
import Derived.KernelRfl
namespace Go.Proofs.YtenbjndldenkfaaGreatDoor
open Go.Proofs
set_option maxRecDepth 100000 in
theorem zero2 (w : World) : (zeroValue 2).run Tryz.prog w = .ok (.int .i64 0) w := by
  simp only [zeroValue, Sem.run_bind, Tryz.typeInfo2, Result.andThen_ok]; rfl
theorem info2 : (Tryz.prog.info? 2).map (fun i => (i.zero, i.size, i.bytes)) = some (some (.int .i64 0), 1, 8) := by kernel_rfl
set_option maxRecDepth 100000 in
theorem zero3 (w : World) : (zeroValue 3).run Tryz.prog w = .ok (.int .i64 0) w := by
  simp only [zeroValue, Sem.run_bind, Tryz.typeInfo3, Result.andThen_ok]; rfl
theorem info3 : (Tryz.prog.info? 3).map (fun i => (i.zero, i.size, i.bytes)) = some (some (.int .i64 0), 1, 8) := by kernel_rfl
set_option maxRecDepth 100000 in
theorem zero4 (w : World) : (zeroValue 4).run Tryz.prog w = .ok (.bool false) w := by
  simp only [zeroValue, Sem.run_bind, Tryz.typeInfo4, Result.andThen_ok]; rfl
theorem info4 : (Tryz.prog.info? 4).map (fun i => (i.zero, i.size, i.bytes)) = some (some (.bool false), 1, 1) := by kernel_rfl
set_option maxRecDepth 100000 in
theorem zero5 (w : World) : (zeroValue 5).run Tryz.prog w = .ok (.int .u8 0) w := by
  simp only [zeroValue, Sem.run_bind, Tryz.typeInfo5, Result.andThen_ok]; rfl
theorem info5 : (Tryz.prog.info? 5).map (fun i => (i.zero, i.size, i.bytes)) = some (some (.int .u8 0), 1, 1) := by kernel_rfl
set_option maxRecDepth 100000 in
theorem zero6 (w : World) : (zeroValue 6).run Tryz.prog w = .ok (.int .u8 0) w := by
  simp only [zeroValue, Sem.run_bind, Tryz.typeInfo6, Result.andThen_ok]; rfl
theorem info6 : (Tryz.prog.info? 6).map (fun i => (i.zero, i.size, i.bytes)) = some (some (.int .u8 0), 1, 1) := by kernel_rfl
set_option maxRecDepth 100000 in
theorem zero7 (w : World) : (zeroValue 7).run Tryz.prog w = .ok (.agg #[.int .i64 0, .int .i64 0, .bool false, .int .u8 0]) w := by
  simp only [zeroValue, Sem.run_bind, Tryz.typeInfo7, Result.andThen_ok]; rfl
theorem info7 : (Tryz.prog.info? 7).map (fun i => (i.zero, i.size, i.bytes)) = some (some (.agg #[.int .i64 0, .int .i64 0, .bool false, .int .u8 0]), 4, 24) := by kernel_rfl
set_option maxRecDepth 100000 in
theorem zero8 (w : World) : (zeroValue 8).run Tryz.prog w = .ok (.agg #[.int .i64 0, .int .i64 0, .bool false, .int .u8 0]) w := by
  simp only [zeroValue, Sem.run_bind, Tryz.typeInfo8, Result.andThen_ok]; rfl
theorem info8 : (Tryz.prog.info? 8).map (fun i => (i.zero, i.size, i.bytes)) = some (some (.agg #[.int .i64 0, .int .i64 0, .bool false, .int .u8 0]), 4, 24) := by kernel_rfl
set_option maxRecDepth 100000 in
theorem zero9 (w : World) : (zeroValue 9).run Tryz.prog w = .ok (.string ⟨#[]⟩) w := by
  simp only [zeroValue, Sem.run_bind, Tryz.typeInfo9, Result.andThen_ok]; rfl
theorem info9 : (Tryz.prog.info? 9).map (fun i => (i.zero, i.size, i.bytes)) = some (some (.string ⟨#[]⟩), 1, 16) := by kernel_rfl
set_option maxRecDepth 100000 in
theorem zero10 (w : World) : (zeroValue 10).run Tryz.prog w = .ok (.string ⟨#[]⟩) w := by
  simp only [zeroValue, Sem.run_bind, Tryz.typeInfo10, Result.andThen_ok]; rfl
theorem info10 : (Tryz.prog.info? 10).map (fun i => (i.zero, i.size, i.bytes)) = some (some (.string ⟨#[]⟩), 1, 16) := by kernel_rfl
set_option maxRecDepth 100000 in
theorem zero11 (w : World) : (zeroValue 11).run Tryz.prog w = .ok (.string ⟨#[]⟩) w := by
  simp only [zeroValue, Sem.run_bind, Tryz.typeInfo11, Result.andThen_ok]; rfl
theorem info11 : (Tryz.prog.info? 11).map (fun i => (i.zero, i.size, i.bytes)) = some (some (.string ⟨#[]⟩), 1, 16) := by kernel_rfl
set_option maxRecDepth 100000 in
theorem zero12 (w : World) : (zeroValue 12).run Tryz.prog w = .ok (.int .u64 0) w := by
  simp only [zeroValue, Sem.run_bind, Tryz.typeInfo12, Result.andThen_ok]; rfl
theorem info12 : (Tryz.prog.info? 12).map (fun i => (i.zero, i.size, i.bytes)) = some (some (.int .u64 0), 1, 8) := by kernel_rfl
set_option maxRecDepth 100000 in
theorem zero13 (w : World) : (zeroValue 13).run Tryz.prog w = .ok (.agg #[.string ⟨#[]⟩, .int .u64 0]) w := by
  simp only [zeroValue, Sem.run_bind, Tryz.typeInfo13, Result.andThen_ok]; rfl
theorem info13 : (Tryz.prog.info? 13).map (fun i => (i.zero, i.size, i.bytes)) = some (some (.agg #[.string ⟨#[]⟩, .int .u64 0]), 2, 24) := by kernel_rfl
set_option maxRecDepth 100000 in
theorem zero14 (w : World) : (zeroValue 14).run Tryz.prog w = .ok (.agg #[.string ⟨#[]⟩, .int .u64 0]) w := by
  simp only [zeroValue, Sem.run_bind, Tryz.typeInfo14, Result.andThen_ok]; rfl
theorem info14 : (Tryz.prog.info? 14).map (fun i => (i.zero, i.size, i.bytes)) = some (some (.agg #[.string ⟨#[]⟩, .int .u64 0]), 2, 24) := by kernel_rfl
set_option maxRecDepth 100000 in
theorem zero15 (w : World) : (zeroValue 15).run Tryz.prog w = .ok (.pointer none) w := by
  simp only [zeroValue, Sem.run_bind, Tryz.typeInfo15, Result.andThen_ok]; rfl
theorem info15 : (Tryz.prog.info? 15).map (fun i => (i.zero, i.size, i.bytes)) = some (some (.pointer none), 1, 8) := by kernel_rfl
set_option maxRecDepth 100000 in
theorem zero16 (w : World) : (zeroValue 16).run Tryz.prog w = .ok (.pointer none) w := by
  simp only [zeroValue, Sem.run_bind, Tryz.typeInfo16, Result.andThen_ok]; rfl
theorem info16 : (Tryz.prog.info? 16).map (fun i => (i.zero, i.size, i.bytes)) = some (some (.pointer none), 1, 8) := by kernel_rfl
set_option maxRecDepth 100000 in
theorem zero17 (w : World) : (zeroValue 17).run Tryz.prog w = .ok (.pointer none) w := by
  simp only [zeroValue, Sem.run_bind, Tryz.typeInfo17, Result.andThen_ok]; rfl
theorem info17 : (Tryz.prog.info? 17).map (fun i => (i.zero, i.size, i.bytes)) = some (some (.pointer none), 1, 8) := by kernel_rfl
set_option maxRecDepth 100000 in
theorem zero18 (w : World) : (zeroValue 18).run Tryz.prog w = .ok (.agg #[.pointer none]) w := by
  simp only [zeroValue, Sem.run_bind, Tryz.typeInfo18, Result.andThen_ok]; rfl
theorem info18 : (Tryz.prog.info? 18).map (fun i => (i.zero, i.size, i.bytes)) = some (some (.agg #[.pointer none]), 1, 8) := by kernel_rfl
set_option maxRecDepth 100000 in
theorem zero19 (w : World) : (zeroValue 19).run Tryz.prog w = .ok (.agg #[.pointer none]) w := by
  simp only [zeroValue, Sem.run_bind, Tryz.typeInfo19, Result.andThen_ok]; rfl
theorem info19 : (Tryz.prog.info? 19).map (fun i => (i.zero, i.size, i.bytes)) = some (some (.agg #[.pointer none]), 1, 8) := by kernel_rfl
set_option maxRecDepth 100000 in
theorem zero21 (w : World) : (zeroValue 21).run Tryz.prog w = .ok (.int .i32 0) w := by
  simp only [zeroValue, Sem.run_bind, Tryz.typeInfo21, Result.andThen_ok]; rfl
theorem info21 : (Tryz.prog.info? 21).map (fun i => (i.zero, i.size, i.bytes)) = some (some (.int .i32 0), 1, 4) := by kernel_rfl
set_option maxRecDepth 100000 in
theorem zero22 (w : World) : (zeroValue 22).run Tryz.prog w = .ok (.slice none 0 0) w := by
  simp only [zeroValue, Sem.run_bind, Tryz.typeInfo22, Result.andThen_ok]; rfl
theorem info22 : (Tryz.prog.info? 22).map (fun i => (i.zero, i.size, i.bytes)) = some (some (.slice none 0 0), 1, 24) := by kernel_rfl
set_option maxRecDepth 100000 in
theorem zero33 (w : World) : (zeroValue 33).run Tryz.prog w = .ok (.slice none 0 0) w := by
  simp only [zeroValue, Sem.run_bind, Tryz.typeInfo33, Result.andThen_ok]; rfl
theorem info33 : (Tryz.prog.info? 33).map (fun i => (i.zero, i.size, i.bytes)) = some (some (.slice none 0 0), 1, 24) := by kernel_rfl
set_option maxRecDepth 100000 in
theorem zero36 (w : World) : (zeroValue 36).run Tryz.prog w = .ok (.slice none 0 0) w := by
  simp only [zeroValue, Sem.run_bind, Tryz.typeInfo36, Result.andThen_ok]; rfl
theorem info36 : (Tryz.prog.info? 36).map (fun i => (i.zero, i.size, i.bytes)) = some (some (.slice none 0 0), 1, 24) := by kernel_rfl
set_option maxRecDepth 100000 in
theorem zero37 (w : World) : (zeroValue 37).run Tryz.prog w = .ok (.agg #[.slice none 0 0, .string ⟨#[]⟩, .slice none 0 0]) w := by
  simp only [zeroValue, Sem.run_bind, Tryz.typeInfo37, Result.andThen_ok]; rfl
theorem info37 : (Tryz.prog.info? 37).map (fun i => (i.zero, i.size, i.bytes)) = some (some (.agg #[.slice none 0 0, .string ⟨#[]⟩, .slice none 0 0]), 3, 64) := by kernel_rfl
set_option maxRecDepth 100000 in
theorem zero38 (w : World) : (zeroValue 38).run Tryz.prog w = .ok (.agg #[.slice none 0 0, .string ⟨#[]⟩, .slice none 0 0]) w := by
  simp only [zeroValue, Sem.run_bind, Tryz.typeInfo38, Result.andThen_ok]; rfl
theorem info38 : (Tryz.prog.info? 38).map (fun i => (i.zero, i.size, i.bytes)) = some (some (.agg #[.slice none 0 0, .string ⟨#[]⟩, .slice none 0 0]), 3, 64) := by kernel_rfl
set_option maxRecDepth 100000 in
theorem zero42 (w : World) : (zeroValue 42).run Tryz.prog w = .ok (.slice none 0 0) w := by
  simp only [zeroValue, Sem.run_bind, Tryz.typeInfo42, Result.andThen_ok]; rfl
theorem info42 : (Tryz.prog.info? 42).map (fun i => (i.zero, i.size, i.bytes)) = some (some (.slice none 0 0), 1, 24) := by kernel_rfl
set_option maxRecDepth 100000 in
theorem zero44 (w : World) : (zeroValue 44).run Tryz.prog w = .ok (.agg #[.string ⟨#[]⟩, .int .i64 0, .int .i64 0, .int .i64 0]) w := by
  simp only [zeroValue, Sem.run_bind, Tryz.typeInfo44, Result.andThen_ok]; rfl
theorem info44 : (Tryz.prog.info? 44).map (fun i => (i.zero, i.size, i.bytes)) = some (some (.agg #[.string ⟨#[]⟩, .int .i64 0, .int .i64 0, .int .i64 0]), 4, 40) := by kernel_rfl
set_option maxRecDepth 100000 in
theorem zero45 (w : World) : (zeroValue 45).run Tryz.prog w = .ok (.agg #[.string ⟨#[]⟩, .int .i64 0, .int .i64 0, .int .i64 0]) w := by
  simp only [zeroValue, Sem.run_bind, Tryz.typeInfo45, Result.andThen_ok]; rfl
theorem info45 : (Tryz.prog.info? 45).map (fun i => (i.zero, i.size, i.bytes)) = some (some (.agg #[.string ⟨#[]⟩, .int .i64 0, .int .i64 0, .int .i64 0]), 4, 40) := by kernel_rfl
set_option maxRecDepth 100000 in
theorem zero48 (w : World) : (zeroValue 48).run Tryz.prog w = .ok (.pointer none) w := by
  simp only [zeroValue, Sem.run_bind, Tryz.typeInfo48, Result.andThen_ok]; rfl
theorem info48 : (Tryz.prog.info? 48).map (fun i => (i.zero, i.size, i.bytes)) = some (some (.pointer none), 1, 8) := by kernel_rfl
set_option maxRecDepth 100000 in
theorem zero49 (w : World) : (zeroValue 49).run Tryz.prog w = .ok (.agg #[.pointer none, .slice none 0 0]) w := by
  simp only [zeroValue, Sem.run_bind, Tryz.typeInfo49, Result.andThen_ok]; rfl
theorem info49 : (Tryz.prog.info? 49).map (fun i => (i.zero, i.size, i.bytes)) = some (some (.agg #[.pointer none, .slice none 0 0]), 2, 32) := by kernel_rfl
set_option maxRecDepth 100000 in
theorem zero50 (w : World) : (zeroValue 50).run Tryz.prog w = .ok (.agg #[.pointer none, .slice none 0 0]) w := by
  simp only [zeroValue, Sem.run_bind, Tryz.typeInfo50, Result.andThen_ok]; rfl
theorem info50 : (Tryz.prog.info? 50).map (fun i => (i.zero, i.size, i.bytes)) = some (some (.agg #[.pointer none, .slice none 0 0]), 2, 32) := by kernel_rfl
set_option maxRecDepth 100000 in
theorem zero60 (w : World) : (zeroValue 60).run Tryz.prog w = .ok (.slice none 0 0) w := by
  simp only [zeroValue, Sem.run_bind, Tryz.typeInfo60, Result.andThen_ok]; rfl
theorem info60 : (Tryz.prog.info? 60).map (fun i => (i.zero, i.size, i.bytes)) = some (some (.slice none 0 0), 1, 24) := by kernel_rfl
set_option maxRecDepth 100000 in
theorem zero65 (w : World) : (zeroValue 65).run Tryz.prog w = .ok (.slice none 0 0) w := by
  simp only [zeroValue, Sem.run_bind, Tryz.typeInfo65, Result.andThen_ok]; rfl
theorem info65 : (Tryz.prog.info? 65).map (fun i => (i.zero, i.size, i.bytes)) = some (some (.slice none 0 0), 1, 24) := by kernel_rfl
set_option maxRecDepth 100000 in
theorem zero66 (w : World) : (zeroValue 66).run Tryz.prog w = .ok (.agg #[.string ⟨#[]⟩, .string ⟨#[]⟩, .slice none 0 0]) w := by
  simp only [zeroValue, Sem.run_bind, Tryz.typeInfo66, Result.andThen_ok]; rfl
theorem info66 : (Tryz.prog.info? 66).map (fun i => (i.zero, i.size, i.bytes)) = some (some (.agg #[.string ⟨#[]⟩, .string ⟨#[]⟩, .slice none 0 0]), 3, 56) := by kernel_rfl
set_option maxRecDepth 100000 in
theorem zero67 (w : World) : (zeroValue 67).run Tryz.prog w = .ok (.agg #[.string ⟨#[]⟩, .string ⟨#[]⟩, .slice none 0 0]) w := by
  simp only [zeroValue, Sem.run_bind, Tryz.typeInfo67, Result.andThen_ok]; rfl
theorem info67 : (Tryz.prog.info? 67).map (fun i => (i.zero, i.size, i.bytes)) = some (some (.agg #[.string ⟨#[]⟩, .string ⟨#[]⟩, .slice none 0 0]), 3, 56) := by kernel_rfl
set_option maxRecDepth 100000 in
theorem zero68 (w : World) : (zeroValue 68).run Tryz.prog w = .ok (.agg #[.int .i64 0, .int .i64 0, .int .i64 0, .int .i64 0, .string ⟨#[]⟩, .string ⟨#[]⟩, .slice none 0 0, .int .i64 0, .int .i64 0]) w := by
  simp only [zeroValue, Sem.run_bind, Tryz.typeInfo68, Result.andThen_ok]; rfl
theorem info68 : (Tryz.prog.info? 68).map (fun i => (i.zero, i.size, i.bytes)) = some (some (.agg #[.int .i64 0, .int .i64 0, .int .i64 0, .int .i64 0, .string ⟨#[]⟩, .string ⟨#[]⟩, .slice none 0 0, .int .i64 0, .int .i64 0]), 9, 104) := by kernel_rfl
set_option maxRecDepth 100000 in
theorem zero69 (w : World) : (zeroValue 69).run Tryz.prog w = .ok (.agg #[.int .i64 0, .int .i64 0, .int .i64 0, .int .i64 0, .string ⟨#[]⟩, .string ⟨#[]⟩, .slice none 0 0, .int .i64 0, .int .i64 0]) w := by
  simp only [zeroValue, Sem.run_bind, Tryz.typeInfo69, Result.andThen_ok]; rfl
theorem info69 : (Tryz.prog.info? 69).map (fun i => (i.zero, i.size, i.bytes)) = some (some (.agg #[.int .i64 0, .int .i64 0, .int .i64 0, .int .i64 0, .string ⟨#[]⟩, .string ⟨#[]⟩, .slice none 0 0, .int .i64 0, .int .i64 0]), 9, 104) := by kernel_rfl
set_option maxRecDepth 100000 in
theorem zero72 (w : World) : (zeroValue 72).run Tryz.prog w = .ok (.int .i64 0) w := by
  simp only [zeroValue, Sem.run_bind, Tryz.typeInfo72, Result.andThen_ok]; rfl
theorem info72 : (Tryz.prog.info? 72).map (fun i => (i.zero, i.size, i.bytes)) = some (some (.int .i64 0), 1, 8) := by kernel_rfl
set_option maxRecDepth 100000 in
theorem zero85 (w : World) : (zeroValue 85).run Tryz.prog w = .ok (.pointer none) w := by
  simp only [zeroValue, Sem.run_bind, Tryz.typeInfo85, Result.andThen_ok]; rfl
theorem info85 : (Tryz.prog.info? 85).map (fun i => (i.zero, i.size, i.bytes)) = some (some (.pointer none), 1, 8) := by kernel_rfl
set_option maxRecDepth 100000 in
theorem zero88 (w : World) : (zeroValue 88).run Tryz.prog w = .ok (.slice none 0 0) w := by
  simp only [zeroValue, Sem.run_bind, Tryz.typeInfo88, Result.andThen_ok]; rfl
theorem info88 : (Tryz.prog.info? 88).map (fun i => (i.zero, i.size, i.bytes)) = some (some (.slice none 0 0), 1, 24) := by kernel_rfl
set_option maxRecDepth 100000 in
theorem zero90 (w : World) : (zeroValue 90).run Tryz.prog w = .ok (.agg #[.string ⟨#[]⟩, .string ⟨#[]⟩, .string ⟨#[]⟩]) w := by
  simp only [zeroValue, Sem.run_bind, Tryz.typeInfo90, Result.andThen_ok]; rfl
theorem info90 : (Tryz.prog.info? 90).map (fun i => (i.zero, i.size, i.bytes)) = some (some (.agg #[.string ⟨#[]⟩, .string ⟨#[]⟩, .string ⟨#[]⟩]), 3, 48) := by kernel_rfl
set_option maxRecDepth 100000 in
theorem zero91 (w : World) : (zeroValue 91).run Tryz.prog w = .ok (.agg #[.string ⟨#[]⟩, .string ⟨#[]⟩, .string ⟨#[]⟩]) w := by
  simp only [zeroValue, Sem.run_bind, Tryz.typeInfo91, Result.andThen_ok]; rfl
theorem info91 : (Tryz.prog.info? 91).map (fun i => (i.zero, i.size, i.bytes)) = some (some (.agg #[.string ⟨#[]⟩, .string ⟨#[]⟩, .string ⟨#[]⟩]), 3, 48) := by kernel_rfl
set_option maxRecDepth 100000 in
theorem zero97 (w : World) : (zeroValue 97).run Tryz.prog w = .ok (.pointer none) w := by
  simp only [zeroValue, Sem.run_bind, Tryz.typeInfo97, Result.andThen_ok]; rfl
theorem info97 : (Tryz.prog.info? 97).map (fun i => (i.zero, i.size, i.bytes)) = some (some (.pointer none), 1, 8) := by kernel_rfl
set_option maxRecDepth 100000 in
theorem zero98 (w : World) : (zeroValue 98).run Tryz.prog w = .ok (.agg #[.slice none 0 0, .slice none 0 0]) w := by
  simp only [zeroValue, Sem.run_bind, Tryz.typeInfo98, Result.andThen_ok]; rfl
theorem info98 : (Tryz.prog.info? 98).map (fun i => (i.zero, i.size, i.bytes)) = some (some (.agg #[.slice none 0 0, .slice none 0 0]), 2, 48) := by kernel_rfl
set_option maxRecDepth 100000 in
theorem zero99 (w : World) : (zeroValue 99).run Tryz.prog w = .ok (.agg #[.slice none 0 0, .slice none 0 0]) w := by
  simp only [zeroValue, Sem.run_bind, Tryz.typeInfo99, Result.andThen_ok]; rfl
theorem info99 : (Tryz.prog.info? 99).map (fun i => (i.zero, i.size, i.bytes)) = some (some (.agg #[.slice none 0 0, .slice none 0 0]), 2, 48) := by kernel_rfl
set_option maxRecDepth 100000 in
theorem zero101 (w : World) : (zeroValue 101).run Tryz.prog w = .ok (.agg #[.string ⟨#[]⟩, .string ⟨#[]⟩]) w := by
  simp only [zeroValue, Sem.run_bind, Tryz.typeInfo101, Result.andThen_ok]; rfl
theorem info101 : (Tryz.prog.info? 101).map (fun i => (i.zero, i.size, i.bytes)) = some (some (.agg #[.string ⟨#[]⟩, .string ⟨#[]⟩]), 2, 32) := by kernel_rfl
set_option maxRecDepth 100000 in
theorem zero102 (w : World) : (zeroValue 102).run Tryz.prog w = .ok (.agg #[.string ⟨#[]⟩, .string ⟨#[]⟩]) w := by
  simp only [zeroValue, Sem.run_bind, Tryz.typeInfo102, Result.andThen_ok]; rfl
theorem info102 : (Tryz.prog.info? 102).map (fun i => (i.zero, i.size, i.bytes)) = some (some (.agg #[.string ⟨#[]⟩, .string ⟨#[]⟩]), 2, 32) := by kernel_rfl
set_option maxRecDepth 100000 in
theorem zero125 (w : World) : (zeroValue 125).run Tryz.prog w = .ok (.slice none 0 0) w := by
  simp only [zeroValue, Sem.run_bind, Tryz.typeInfo125, Result.andThen_ok]; rfl
theorem info125 : (Tryz.prog.info? 125).map (fun i => (i.zero, i.size, i.bytes)) = some (some (.slice none 0 0), 1, 24) := by kernel_rfl
set_option maxRecDepth 100000 in
theorem zero127 (w : World) : (zeroValue 127).run Tryz.prog w = .ok (.slice none 0 0) w := by
  simp only [zeroValue, Sem.run_bind, Tryz.typeInfo127, Result.andThen_ok]; rfl
theorem info127 : (Tryz.prog.info? 127).map (fun i => (i.zero, i.size, i.bytes)) = some (some (.slice none 0 0), 1, 24) := by kernel_rfl
set_option maxRecDepth 100000 in
theorem zero129 (w : World) : (zeroValue 129).run Tryz.prog w = .ok (.agg #[.int .u8 0, .bool false, .bool false, .bool false, .bool false]) w := by
  simp only [zeroValue, Sem.run_bind, Tryz.typeInfo129, Result.andThen_ok]; rfl
theorem info129 : (Tryz.prog.info? 129).map (fun i => (i.zero, i.size, i.bytes)) = some (some (.agg #[.int .u8 0, .bool false, .bool false, .bool false, .bool false]), 5, 5) := by kernel_rfl
set_option maxRecDepth 100000 in
theorem zero130 (w : World) : (zeroValue 130).run Tryz.prog w = .ok (.agg #[.int .u8 0, .bool false, .bool false, .bool false, .bool false]) w := by
  simp only [zeroValue, Sem.run_bind, Tryz.typeInfo130, Result.andThen_ok]; rfl
theorem info130 : (Tryz.prog.info? 130).map (fun i => (i.zero, i.size, i.bytes)) = some (some (.agg #[.int .u8 0, .bool false, .bool false, .bool false, .bool false]), 5, 5) := by kernel_rfl
set_option maxRecDepth 100000 in
theorem zero134 (w : World) : (zeroValue 134).run Tryz.prog w = .ok (.slice none 0 0) w := by
  simp only [zeroValue, Sem.run_bind, Tryz.typeInfo134, Result.andThen_ok]; rfl
theorem info134 : (Tryz.prog.info? 134).map (fun i => (i.zero, i.size, i.bytes)) = some (some (.slice none 0 0), 1, 24) := by kernel_rfl
set_option maxRecDepth 100000 in
theorem zero136 (w : World) : (zeroValue 136).run Tryz.prog w = .ok (.agg #[.int .i64 0, .int .i64 0]) w := by
  simp only [zeroValue, Sem.run_bind, Tryz.typeInfo136, Result.andThen_ok]; rfl
theorem info136 : (Tryz.prog.info? 136).map (fun i => (i.zero, i.size, i.bytes)) = some (some (.agg #[.int .i64 0, .int .i64 0]), 2, 16) := by kernel_rfl
set_option maxRecDepth 100000 in
theorem zero138 (w : World) : (zeroValue 138).run Tryz.prog w = .ok (.slice none 0 0) w := by
  simp only [zeroValue, Sem.run_bind, Tryz.typeInfo138, Result.andThen_ok]; rfl
theorem info138 : (Tryz.prog.info? 138).map (fun i => (i.zero, i.size, i.bytes)) = some (some (.slice none 0 0), 1, 24) := by kernel_rfl
set_option maxRecDepth 100000 in
theorem zero140 (w : World) : (zeroValue 140).run Tryz.prog w = .ok (.agg #[.int .i64 0, .int .i64 0]) w := by
  simp only [zeroValue, Sem.run_bind, Tryz.typeInfo140, Result.andThen_ok]; rfl
theorem info140 : (Tryz.prog.info? 140).map (fun i => (i.zero, i.size, i.bytes)) = some (some (.agg #[.int .i64 0, .int .i64 0]), 2, 16) := by kernel_rfl
set_option maxRecDepth 100000 in
theorem zero141 (w : World) : (zeroValue 141).run Tryz.prog w = .ok (.agg #[.int .i64 0, .int .i64 0]) w := by
  simp only [zeroValue, Sem.run_bind, Tryz.typeInfo141, Result.andThen_ok]; rfl
theorem info141 : (Tryz.prog.info? 141).map (fun i => (i.zero, i.size, i.bytes)) = some (some (.agg #[.int .i64 0, .int .i64 0]), 2, 16) := by kernel_rfl
set_option maxRecDepth 100000 in
theorem zero146 (w : World) : (zeroValue 146).run Tryz.prog w = .ok (.agg #[.int .u8 0, .int .u8 0, .int .u8 0, .int .u8 0, .int .u8 0, .int .u8 0, .int .u8 0, .int .u8 0, .int .u8 0, .int .u8 0, .int .u8 0, .int .u8 0, .int .u8 0, .int .u8 0, .int .u8 0, .int .u8 0, .int .u8 0, .int .u8 0, .int .u8 0, .int .u8 0, .int .u8 0, .int .u8 0, .int .u8 0, .int .u8 0]) w := by
  simp only [zeroValue, Sem.run_bind, Tryz.typeInfo146, Result.andThen_ok]; rfl
theorem info146 : (Tryz.prog.info? 146).map (fun i => (i.zero, i.size, i.bytes)) = some (some (.agg #[.int .u8 0, .int .u8 0, .int .u8 0, .int .u8 0, .int .u8 0, .int .u8 0, .int .u8 0, .int .u8 0, .int .u8 0, .int .u8 0, .int .u8 0, .int .u8 0, .int .u8 0, .int .u8 0, .int .u8 0, .int .u8 0, .int .u8 0, .int .u8 0, .int .u8 0, .int .u8 0, .int .u8 0, .int .u8 0, .int .u8 0, .int .u8 0]), 24, 24) := by kernel_rfl
set_option maxRecDepth 100000 in
theorem zero147 (w : World) : (zeroValue 147).run Tryz.prog w = .ok (.int .u64 0) w := by
  simp only [zeroValue, Sem.run_bind, Tryz.typeInfo147, Result.andThen_ok]; rfl
theorem info147 : (Tryz.prog.info? 147).map (fun i => (i.zero, i.size, i.bytes)) = some (some (.int .u64 0), 1, 8) := by kernel_rfl
set_option maxRecDepth 100000 in
theorem zero152 (w : World) : (zeroValue 152).run Tryz.prog w = .ok (.slice none 0 0) w := by
  simp only [zeroValue, Sem.run_bind, Tryz.typeInfo152, Result.andThen_ok]; rfl
theorem info152 : (Tryz.prog.info? 152).map (fun i => (i.zero, i.size, i.bytes)) = some (some (.slice none 0 0), 1, 24) := by kernel_rfl
set_option maxRecDepth 100000 in
theorem zero154 (w : World) : (zeroValue 154).run Tryz.prog w = .ok (.int .i64 0) w := by
  simp only [zeroValue, Sem.run_bind, Tryz.typeInfo154, Result.andThen_ok]; rfl
theorem info154 : (Tryz.prog.info? 154).map (fun i => (i.zero, i.size, i.bytes)) = some (some (.int .i64 0), 1, 8) := by kernel_rfl
set_option maxRecDepth 100000 in
theorem zero171 (w : World) : (zeroValue 171).run Tryz.prog w = .ok (.agg #[.int .u64 0, .int .u64 0, .int .u64 0, .int .u64 0, .int .u64 0, .int .u64 0, .int .u64 0, .int .u64 0, .int .u64 0, .int .u64 0, .int .u64 0, .int .u64 0, .int .u64 0, .int .u64 0, .int .u64 0, .int .u64 0, .int .u64 0, .int .u64 0, .int .u64 0, .int .u64 0]) w := by
  simp only [zeroValue, Sem.run_bind, Tryz.typeInfo171, Result.andThen_ok]; rfl
theorem info171 : (Tryz.prog.info? 171).map (fun i => (i.zero, i.size, i.bytes)) = some (some (.agg #[.int .u64 0, .int .u64 0, .int .u64 0, .int .u64 0, .int .u64 0, .int .u64 0, .int .u64 0, .int .u64 0, .int .u64 0, .int .u64 0, .int .u64 0, .int .u64 0, .int .u64 0, .int .u64 0, .int .u64 0, .int .u64 0, .int .u64 0, .int .u64 0, .int .u64 0, .int .u64 0]), 20, 160) := by kernel_rfl
set_option maxRecDepth 100000 in
theorem zero172 (w : World) : (zeroValue 172).run Tryz.prog w = .ok (.int .u32 0) w := by
  simp only [zeroValue, Sem.run_bind, Tryz.typeInfo172, Result.andThen_ok]; rfl
theorem info172 : (Tryz.prog.info? 172).map (fun i => (i.zero, i.size, i.bytes)) = some (some (.int .u32 0), 1, 4) := by kernel_rfl
set_option maxRecDepth 100000 in
theorem zero173 (w : World) : (zeroValue 173).run Tryz.prog w = .ok (.agg #[.int .u8 0, .int .u8 0, .int .u8 0, .int .u8 0, .int .u8 0, .int .u8 0, .int .u8 0, .int .u8 0, .int .u8 0, .int .u8 0, .int .u8 0, .int .u8 0, .int .u8 0, .int .u8 0, .int .u8 0, .int .u8 0, .int .u8 0, .int .u8 0, .int .u8 0, .int .u8 0, .int .u8 0, .int .u8 0, .int .u8 0, .int .u8 0, .int .u8 0, .int .u8 0, .int .u8 0, .int .u8 0, .int .u8 0, .int .u8 0, .int .u8 0, .int .u8 0, .int .u8 0, .int .u8 0, .int .u8 0, .int .u8 0, .int .u8 0, .int .u8 0, .int .u8 0, .int .u8 0, .int .u8 0, .int .u8 0, .int .u8 0, .int .u8 0, .int .u8 0, .int .u8 0, .int .u8 0, .int .u8 0, .int .u8 0, .int .u8 0, .int .u8 0, .int .u8 0, .int .u8 0, .int .u8 0, .int .u8 0, .int .u8 0, .int .u8 0, .int .u8 0, .int .u8 0, .int .u8 0, .int .u8 0, .int .u8 0, .int .u8 0, .int .u8 0, .int .u8 0]) w := by
  simp only [zeroValue, Sem.run_bind, Tryz.typeInfo173, Result.andThen_ok]; rfl
theorem info173 : (Tryz.prog.info? 173).map (fun i => (i.zero, i.size, i.bytes)) = some (some (.agg #[.int .u8 0, .int .u8 0, .int .u8 0, .int .u8 0, .int .u8 0, .int .u8 0, .int .u8 0, .int .u8 0, .int .u8 0, .int .u8 0, .int .u8 0, .int .u8 0, .int .u8 0, .int .u8 0, .int .u8 0, .int .u8 0, .int .u8 0, .int .u8 0, .int .u8 0, .int .u8 0, .int .u8 0, .int .u8 0, .int .u8 0, .int .u8 0, .int .u8 0, .int .u8 0, .int .u8 0, .int .u8 0, .int .u8 0, .int .u8 0, .int .u8 0, .int .u8 0, .int .u8 0, .int .u8 0, .int .u8 0, .int .u8 0, .int .u8 0, .int .u8 0, .int .u8 0, .int .u8 0, .int .u8 0, .int .u8 0, .int .u8 0, .int .u8 0, .int .u8 0, .int .u8 0, .int .u8 0, .int .u8 0, .int .u8 0, .int .u8 0, .int .u8 0, .int .u8 0, .int .u8 0, .int .u8 0, .int .u8 0, .int .u8 0, .int .u8 0, .int .u8 0, .int .u8 0, .int .u8 0, .int .u8 0, .int .u8 0, .int .u8 0, .int .u8 0, .int .u8 0]), 65, 65) := by kernel_rfl
set_option maxRecDepth 100000 in
theorem zero174 (w : World) : (zeroValue 174).run Tryz.prog w = .ok (.int .u64 0) w := by
  simp only [zeroValue, Sem.run_bind, Tryz.typeInfo174, Result.andThen_ok]; rfl
theorem info174 : (Tryz.prog.info? 174).map (fun i => (i.zero, i.size, i.bytes)) = some (some (.int .u64 0), 1, 8) := by kernel_rfl
set_option maxRecDepth 100000 in
theorem zero177 (w : World) : (zeroValue 177).run Tryz.prog w = .ok (.agg #[.bool false, .bool false, .bool false, .bool false, .bool false, .bool false, .bool false, .bool false, .bool false, .bool false, .bool false, .bool false, .bool false, .bool false, .bool false, .bool false, .bool false, .bool false, .bool false, .bool false, .bool false, .bool false, .bool false, .bool false, .bool false, .bool false, .bool false, .bool false, .bool false, .bool false, .bool false, .bool false, .bool false, .bool false, .bool false, .bool false, .bool false, .bool false, .bool false, .bool false, .bool false, .bool false, .bool false, .bool false, .bool false, .bool false, .bool false, .bool false, .bool false, .bool false, .bool false, .bool false, .bool false, .bool false, .bool false, .bool false, .bool false, .bool false, .bool false, .bool false, .bool false, .bool false, .bool false, .bool false, .bool false, .bool false, .bool false, .bool false, .bool false, .bool false, .bool false, .bool false, .bool false, .bool false, .bool false, .bool false, .bool false, .bool false, .bool false, .bool false, .bool false, .bool false, .bool false, .bool false, .bool false, .bool false, .bool false, .bool false, .bool false, .bool false, .bool false, .bool false, .bool false, .bool false, .bool false, .bool false, .bool false, .bool false, .bool false, .bool false, .bool false, .bool false, .bool false, .bool false, .bool false, .bool false, .bool false, .bool false, .bool false, .bool false, .bool false, .bool false, .bool false, .bool false, .bool false, .bool false, .bool false, .bool false, .bool false, .bool false, .bool false, .bool false, .bool false, .bool false, .bool false, .bool false, .bool false, .bool false, .bool false, .bool false, .bool false, .bool false, .bool false, .bool false, .bool false, .bool false, .bool false, .bool false, .bool false, .bool false, .bool false, .bool false, .bool false, .bool false, .bool false, .bool false, .bool false, .bool false, .bool false, .bool false, .bool false, .bool false, .bool false, .bool false, .bool false, .bool false, .bool false, .bool false, .bool false, .bool false, .bool false, .bool false, .bool false, .bool false, .bool false, .bool false, .bool false, .bool false, .bool false, .bool false, .bool false, .bool false, .bool false, .bool false, .bool false, .bool false, .bool false, .bool false, .bool false, .bool false, .bool false, .bool false, .bool false, .bool false, .bool false, .bool false, .bool false, .bool false, .bool false, .bool false, .bool false, .bool false, .bool false, .bool false, .bool false, .bool false, .bool false, .bool false, .bool false, .bool false, .bool false, .bool false, .bool false, .bool false, .bool false, .bool false, .bool false, .bool false, .bool false, .bool false, .bool false, .bool false, .bool false, .bool false, .bool false, .bool false, .bool false, .bool false, .bool false, .bool false, .bool false, .bool false, .bool false, .bool false, .bool false, .bool false, .bool false, .bool false, .bool false, .bool false, .bool false, .bool false, .bool false, .bool false, .bool false, .bool false, .bool false, .bool false, .bool false, .bool false, .bool false, .bool false, .bool false, .bool false, .bool false, .bool false, .bool false, .bool false, .bool false, .bool false, .bool false, .bool false, .bool false, .bool false, .bool false, .bool false]) w := by
  simp only [zeroValue, Sem.run_bind, Tryz.typeInfo177, Result.andThen_ok]; rfl
theorem info177 : (Tryz.prog.info? 177).map (fun i => (i.zero, i.size, i.bytes)) = some (some (.agg #[.bool false, .bool false, .bool false, .bool false, .bool false, .bool false, .bool false, .bool false, .bool false, .bool false, .bool false, .bool false, .bool false, .bool false, .bool false, .bool false, .bool false, .bool false, .bool false, .bool false, .bool false, .bool false, .bool false, .bool false, .bool false, .bool false, .bool false, .bool false, .bool false, .bool false, .bool false, .bool false, .bool false, .bool false, .bool false, .bool false, .bool false, .bool false, .bool false, .bool false, .bool false, .bool false, .bool false, .bool false, .bool false, .bool false, .bool false, .bool false, .bool false, .bool false, .bool false, .bool false, .bool false, .bool false, .bool false, .bool false, .bool false, .bool false, .bool false, .bool false, .bool false, .bool false, .bool false, .bool false, .bool false, .bool false, .bool false, .bool false, .bool false, .bool false, .bool false, .bool false, .bool false, .bool false, .bool false, .bool false, .bool false, .bool false, .bool false, .bool false, .bool false, .bool false, .bool false, .bool false, .bool false, .bool false, .bool false, .bool false, .bool false, .bool false, .bool false, .bool false, .bool false, .bool false, .bool false, .bool false, .bool false, .bool false, .bool false, .bool false, .bool false, .bool false, .bool false, .bool false, .bool false, .bool false, .bool false, .bool false, .bool false, .bool false, .bool false, .bool false, .bool false, .bool false, .bool false, .bool false, .bool false, .bool false, .bool false, .bool false, .bool false, .bool false, .bool false, .bool false, .bool false, .bool false, .bool false, .bool false, .bool false, .bool false, .bool false, .bool false, .bool false, .bool false, .bool false, .bool false, .bool false, .bool false, .bool false, .bool false, .bool false, .bool false, .bool false, .bool false, .bool false, .bool false, .bool false, .bool false, .bool false, .bool false, .bool false, .bool false, .bool false, .bool false, .bool false, .bool false, .bool false, .bool false, .bool false, .bool false, .bool false, .bool false, .bool false, .bool false, .bool false, .bool false, .bool false, .bool false, .bool false, .bool false, .bool false, .bool false, .bool false, .bool false, .bool false, .bool false, .bool false, .bool false, .bool false, .bool false, .bool false, .bool false, .bool false, .bool false, .bool false, .bool false, .bool false, .bool false, .bool false, .bool false, .bool false, .bool false, .bool false, .bool false, .bool false, .bool false, .bool false, .bool false, .bool false, .bool false, .bool false, .bool false, .bool false, .bool false, .bool false, .bool false, .bool false, .bool false, .bool false, .bool false, .bool false, .bool false, .bool false, .bool false, .bool false, .bool false, .bool false, .bool false, .bool false, .bool false, .bool false, .bool false, .bool false, .bool false, .bool false, .bool false, .bool false, .bool false, .bool false, .bool false, .bool false, .bool false, .bool false, .bool false, .bool false, .bool false, .bool false, .bool false, .bool false, .bool false, .bool false, .bool false, .bool false, .bool false, .bool false, .bool false, .bool false, .bool false, .bool false, .bool false, .bool false, .bool false, .bool false, .bool false, .bool false, .bool false]), 256, 256) := by kernel_rfl
set_option maxRecDepth 100000 in
theorem zero178 (w : World) : (zeroValue 178).run Tryz.prog w = .ok (.agg #[.bool false, .bool false, .bool false, .bool false, .bool false, .bool false, .bool false, .bool false, .bool false, .bool false, .bool false, .bool false, .bool false, .bool false, .bool false, .bool false, .bool false, .bool false, .bool false, .bool false, .bool false, .bool false, .bool false, .bool false, .bool false, .bool false, .bool false, .bool false, .bool false, .bool false, .bool false, .bool false, .bool false, .bool false, .bool false, .bool false, .bool false, .bool false, .bool false, .bool false, .bool false, .bool false, .bool false, .bool false, .bool false, .bool false, .bool false, .bool false, .bool false, .bool false, .bool false, .bool false, .bool false, .bool false, .bool false, .bool false, .bool false, .bool false, .bool false, .bool false, .bool false, .bool false, .bool false, .bool false, .bool false, .bool false, .bool false, .bool false, .bool false, .bool false, .bool false, .bool false, .bool false, .bool false, .bool false, .bool false, .bool false, .bool false, .bool false, .bool false, .bool false, .bool false, .bool false, .bool false, .bool false, .bool false, .bool false, .bool false, .bool false, .bool false, .bool false, .bool false, .bool false, .bool false, .bool false, .bool false, .bool false, .bool false, .bool false, .bool false, .bool false, .bool false, .bool false, .bool false, .bool false, .bool false, .bool false, .bool false, .bool false, .bool false, .bool false, .bool false, .bool false, .bool false, .bool false, .bool false, .bool false, .bool false, .bool false, .bool false, .bool false, .bool false, .bool false, .bool false, .bool false, .bool false, .bool false, .bool false, .bool false, .bool false, .bool false, .bool false, .bool false, .bool false, .bool false, .bool false, .bool false, .bool false, .bool false, .bool false, .bool false, .bool false, .bool false, .bool false, .bool false, .bool false, .bool false, .bool false, .bool false, .bool false, .bool false, .bool false, .bool false, .bool false, .bool false, .bool false, .bool false, .bool false, .bool false, .bool false, .bool false, .bool false, .bool false, .bool false, .bool false, .bool false, .bool false, .bool false, .bool false, .bool false, .bool false, .bool false, .bool false, .bool false, .bool false, .bool false, .bool false, .bool false, .bool false, .bool false, .bool false, .bool false, .bool false, .bool false, .bool false, .bool false, .bool false, .bool false, .bool false, .bool false, .bool false, .bool false, .bool false, .bool false, .bool false, .bool false, .bool false, .bool false, .bool false, .bool false, .bool false, .bool false, .bool false, .bool false, .bool false, .bool false, .bool false, .bool false, .bool false, .bool false, .bool false, .bool false, .bool false, .bool false, .bool false, .bool false, .bool false, .bool false, .bool false, .bool false, .bool false, .bool false, .bool false, .bool false, .bool false, .bool false, .bool false, .bool false, .bool false, .bool false, .bool false, .bool false, .bool false, .bool false, .bool false, .bool false, .bool false, .bool false, .bool false, .bool false, .bool false, .bool false, .bool false, .bool false, .bool false, .bool false, .bool false, .bool false, .bool false, .bool false, .bool false, .bool false, .bool false, .bool false, .bool false, .bool false]) w := by
  simp only [zeroValue, Sem.run_bind, Tryz.typeInfo178, Result.andThen_ok]; rfl
theorem info178 : (Tryz.prog.info? 178).map (fun i => (i.zero, i.size, i.bytes)) = some (some (.agg #[.bool false, .bool false, .bool false, .bool false, .bool false, .bool false, .bool false, .bool false, .bool false, .bool false, .bool false, .bool false, .bool false, .bool false, .bool false, .bool false, .bool false, .bool false, .bool false, .bool false, .bool false, .bool false, .bool false, .bool false, .bool false, .bool false, .bool false, .bool false, .bool false, .bool false, .bool false, .bool false, .bool false, .bool false, .bool false, .bool false, .bool false, .bool false, .bool false, .bool false, .bool false, .bool false, .bool false, .bool false, .bool false, .bool false, .bool false, .bool false, .bool false, .bool false, .bool false, .bool false, .bool false, .bool false, .bool false, .bool false, .bool false, .bool false, .bool false, .bool false, .bool false, .bool false, .bool false, .bool false, .bool false, .bool false, .bool false, .bool false, .bool false, .bool false, .bool false, .bool false, .bool false, .bool false, .bool false, .bool false, .bool false, .bool false, .bool false, .bool false, .bool false, .bool false, .bool false, .bool false, .bool false, .bool false, .bool false, .bool false, .bool false, .bool false, .bool false, .bool false, .bool false, .bool false, .bool false, .bool false, .bool false, .bool false, .bool false, .bool false, .bool false, .bool false, .bool false, .bool false, .bool false, .bool false, .bool false, .bool false, .bool false, .bool false, .bool false, .bool false, .bool false, .bool false, .bool false, .bool false, .bool false, .bool false, .bool false, .bool false, .bool false, .bool false, .bool false, .bool false, .bool false, .bool false, .bool false, .bool false, .bool false, .bool false, .bool false, .bool false, .bool false, .bool false, .bool false, .bool false, .bool false, .bool false, .bool false, .bool false, .bool false, .bool false, .bool false, .bool false, .bool false, .bool false, .bool false, .bool false, .bool false, .bool false, .bool false, .bool false, .bool false, .bool false, .bool false, .bool false, .bool false, .bool false, .bool false, .bool false, .bool false, .bool false, .bool false, .bool false, .bool false, .bool false, .bool false, .bool false, .bool false, .bool false, .bool false, .bool false, .bool false, .bool false, .bool false, .bool false, .bool false, .bool false, .bool false, .bool false, .bool false, .bool false, .bool false, .bool false, .bool false, .bool false, .bool false, .bool false, .bool false, .bool false, .bool false, .bool false, .bool false, .bool false, .bool false, .bool false, .bool false, .bool false, .bool false, .bool false, .bool false, .bool false, .bool false, .bool false, .bool false, .bool false, .bool false, .bool false, .bool false, .bool false, .bool false, .bool false, .bool false, .bool false, .bool false, .bool false, .bool false, .bool false, .bool false, .bool false, .bool false, .bool false, .bool false, .bool false, .bool false, .bool false, .bool false, .bool false, .bool false, .bool false, .bool false, .bool false, .bool false, .bool false, .bool false, .bool false, .bool false, .bool false, .bool false, .bool false, .bool false, .bool false, .bool false, .bool false, .bool false, .bool false, .bool false, .bool false, .bool false, .bool false, .bool false, .bool false, .bool false, .bool false, .bool false, .bool false]), 256, 256) := by kernel_rfl
set_option maxRecDepth 100000 in
theorem zero182 (w : World) : (zeroValue 182).run Tryz.prog w = .ok (.pointer none) w := by
  simp only [zeroValue, Sem.run_bind, Tryz.typeInfo182, Result.andThen_ok]; rfl
theorem info182 : (Tryz.prog.info? 182).map (fun i => (i.zero, i.size, i.bytes)) = some (some (.pointer none), 1, 8) := by kernel_rfl
set_option maxRecDepth 100000 in
theorem zero190 (w : World) : (zeroValue 190).run Tryz.prog w = .ok (.int .i64 0) w := by
  simp only [zeroValue, Sem.run_bind, Tryz.typeInfo190, Result.andThen_ok]; rfl
theorem info190 : (Tryz.prog.info? 190).map (fun i => (i.zero, i.size, i.bytes)) = some (some (.int .i64 0), 1, 8) := by kernel_rfl
set_option maxRecDepth 100000 in
theorem zero193 (w : World) : (zeroValue 193).run Tryz.prog w = .ok (.pointer none) w := by
  simp only [zeroValue, Sem.run_bind, Tryz.typeInfo193, Result.andThen_ok]; rfl
theorem info193 : (Tryz.prog.info? 193).map (fun i => (i.zero, i.size, i.bytes)) = some (some (.pointer none), 1, 8) := by kernel_rfl
set_option maxRecDepth 100000 in
theorem zero203 (w : World) : (zeroValue 203).run Tryz.prog w = .ok (.agg #[.string ⟨#[]⟩, .string ⟨#[]⟩, .nilIface]) w := by
  simp only [zeroValue, Sem.run_bind, Tryz.typeInfo203, Result.andThen_ok]; rfl
theorem info203 : (Tryz.prog.info? 203).map (fun i => (i.zero, i.size, i.bytes)) = some (some (.agg #[.string ⟨#[]⟩, .string ⟨#[]⟩, .nilIface]), 3, 48) := by kernel_rfl
set_option maxRecDepth 100000 in
theorem zero204 (w : World) : (zeroValue 204).run Tryz.prog w = .ok (.agg #[.string ⟨#[]⟩, .string ⟨#[]⟩, .nilIface]) w := by
  simp only [zeroValue, Sem.run_bind, Tryz.typeInfo204, Result.andThen_ok]; rfl
theorem info204 : (Tryz.prog.info? 204).map (fun i => (i.zero, i.size, i.bytes)) = some (some (.agg #[.string ⟨#[]⟩, .string ⟨#[]⟩, .nilIface]), 3, 48) := by kernel_rfl
set_option maxRecDepth 100000 in
theorem zero206 (w : World) : (zeroValue 206).run Tryz.prog w = .ok (.agg #[.int .u8 0, .int .u8 0, .int .u8 0, .int .u8 0, .int .u8 0, .int .u8 0, .int .u8 0, .int .u8 0, .int .u8 0, .int .u8 0, .int .u8 0, .int .u8 0, .int .u8 0, .int .u8 0, .int .u8 0, .int .u8 0, .int .u8 0, .int .u8 0, .int .u8 0, .int .u8 0, .int .u8 0, .int .u8 0, .int .u8 0, .int .u8 0, .int .u8 0, .int .u8 0, .int .u8 0, .int .u8 0, .int .u8 0, .int .u8 0, .int .u8 0, .int .u8 0]) w := by
  simp only [zeroValue, Sem.run_bind, Tryz.typeInfo206, Result.andThen_ok]; rfl
theorem info206 : (Tryz.prog.info? 206).map (fun i => (i.zero, i.size, i.bytes)) = some (some (.agg #[.int .u8 0, .int .u8 0, .int .u8 0, .int .u8 0, .int .u8 0, .int .u8 0, .int .u8 0, .int .u8 0, .int .u8 0, .int .u8 0, .int .u8 0, .int .u8 0, .int .u8 0, .int .u8 0, .int .u8 0, .int .u8 0, .int .u8 0, .int .u8 0, .int .u8 0, .int .u8 0, .int .u8 0, .int .u8 0, .int .u8 0, .int .u8 0, .int .u8 0, .int .u8 0, .int .u8 0, .int .u8 0, .int .u8 0, .int .u8 0, .int .u8 0, .int .u8 0]), 32, 32) := by kernel_rfl
set_option maxRecDepth 100000 in
theorem zero207 (w : World) : (zeroValue 207).run Tryz.prog w = .ok (.agg #[.int .u8 0, .int .u8 0, .int .u8 0, .int .u8 0, .int .u8 0, .int .u8 0, .int .u8 0, .int .u8 0, .int .u8 0, .int .u8 0, .int .u8 0, .int .u8 0, .int .u8 0, .int .u8 0, .int .u8 0, .int .u8 0, .int .u8 0, .int .u8 0, .int .u8 0, .int .u8 0, .int .u8 0, .int .u8 0, .int .u8 0, .int .u8 0, .int .u8 0, .int .u8 0, .int .u8 0, .int .u8 0, .int .u8 0, .int .u8 0, .int .u8 0, .int .u8 0, .int .u8 0, .int .u8 0, .int .u8 0, .int .u8 0, .int .u8 0, .int .u8 0, .int .u8 0, .int .u8 0, .int .u8 0, .int .u8 0, .int .u8 0, .int .u8 0, .int .u8 0, .int .u8 0, .int .u8 0, .int .u8 0, .int .u8 0, .int .u8 0, .int .u8 0, .int .u8 0, .int .u8 0, .int .u8 0, .int .u8 0, .int .u8 0, .int .u8 0, .int .u8 0, .int .u8 0, .int .u8 0, .int .u8 0, .int .u8 0, .int .u8 0, .int .u8 0]) w := by
  simp only [zeroValue, Sem.run_bind, Tryz.typeInfo207, Result.andThen_ok]; rfl
theorem info207 : (Tryz.prog.info? 207).map (fun i => (i.zero, i.size, i.bytes)) = some (some (.agg #[.int .u8 0, .int .u8 0, .int .u8 0, .int .u8 0, .int .u8 0, .int .u8 0, .int .u8 0, .int .u8 0, .int .u8 0, .int .u8 0, .int .u8 0, .int .u8 0, .int .u8 0, .int .u8 0, .int .u8 0, .int .u8 0, .int .u8 0, .int .u8 0, .int .u8 0, .int .u8 0, .int .u8 0, .int .u8 0, .int .u8 0, .int .u8 0, .int .u8 0, .int .u8 0, .int .u8 0, .int .u8 0, .int .u8 0, .int .u8 0, .int .u8 0, .int .u8 0, .int .u8 0, .int .u8 0, .int .u8 0, .int .u8 0, .int .u8 0, .int .u8 0, .int .u8 0, .int .u8 0, .int .u8 0, .int .u8 0, .int .u8 0, .int .u8 0, .int .u8 0, .int .u8 0, .int .u8 0, .int .u8 0, .int .u8 0, .int .u8 0, .int .u8 0, .int .u8 0, .int .u8 0, .int .u8 0, .int .u8 0, .int .u8 0, .int .u8 0, .int .u8 0, .int .u8 0, .int .u8 0, .int .u8 0, .int .u8 0, .int .u8 0, .int .u8 0]), 64, 64) := by kernel_rfl
set_option maxRecDepth 100000 in
theorem zero210 (w : World) : (zeroValue 210).run Tryz.prog w = .ok (.agg #[.int .u8 0, .int .u8 0, .int .u8 0, .int .u8 0, .int .u8 0, .int .u8 0, .int .u8 0, .int .u8 0, .int .u8 0, .int .u8 0, .int .u8 0, .int .u8 0, .int .u8 0, .int .u8 0, .int .u8 0, .int .u8 0, .int .u8 0, .int .u8 0, .int .u8 0, .int .u8 0, .int .u8 0, .int .u8 0, .int .u8 0, .int .u8 0, .int .u8 0, .int .u8 0, .int .u8 0, .int .u8 0, .int .u8 0, .int .u8 0, .int .u8 0, .int .u8 0, .int .u8 0, .int .u8 0, .int .u8 0, .int .u8 0, .int .u8 0, .int .u8 0, .int .u8 0, .int .u8 0, .int .u8 0, .int .u8 0, .int .u8 0, .int .u8 0, .int .u8 0, .int .u8 0, .int .u8 0, .int .u8 0, .int .u8 0, .int .u8 0, .int .u8 0, .int .u8 0, .int .u8 0, .int .u8 0, .int .u8 0, .int .u8 0, .int .u8 0, .int .u8 0, .int .u8 0, .int .u8 0, .int .u8 0, .int .u8 0, .int .u8 0, .int .u8 0, .int .u8 0, .int .u8 0, .int .u8 0, .int .u8 0, .int .u8 0, .int .u8 0, .int .u8 0, .int .u8 0, .int .u8 0, .int .u8 0, .int .u8 0, .int .u8 0, .int .u8 0, .int .u8 0, .int .u8 0, .int .u8 0, .int .u8 0, .int .u8 0, .int .u8 0, .int .u8 0, .int .u8 0, .int .u8 0, .int .u8 0, .int .u8 0, .int .u8 0, .int .u8 0, .int .u8 0, .int .u8 0, .int .u8 0, .int .u8 0, .int .u8 0, .int .u8 0, .int .u8 0, .int .u8 0, .int .u8 0, .int .u8 0, .int .u8 0, .int .u8 0, .int .u8 0, .int .u8 0, .int .u8 0, .int .u8 0, .int .u8 0, .int .u8 0, .int .u8 0, .int .u8 0, .int .u8 0, .int .u8 0, .int .u8 0, .int .u8 0, .int .u8 0, .int .u8 0, .int .u8 0, .int .u8 0, .int .u8 0, .int .u8 0, .int .u8 0, .int .u8 0, .int .u8 0, .int .u8 0, .int .u8 0, .int .u8 0, .int .u8 0, .int .u8 0, .int .u8 0, .int .u8 0, .int .u8 0, .int .u8 0, .int .u8 0, .int .u8 0, .int .u8 0, .int .u8 0, .int .u8 0, .int .u8 0, .int .u8 0, .int .u8 0, .int .u8 0, .int .u8 0, .int .u8 0, .int .u8 0, .int .u8 0, .int .u8 0, .int .u8 0, .int .u8 0, .int .u8 0, .int .u8 0, .int .u8 0, .int .u8 0, .int .u8 0, .int .u8 0, .int .u8 0, .int .u8 0, .int .u8 0, .int .u8 0, .int .u8 0, .int .u8 0, .int .u8 0, .int .u8 0, .int .u8 0, .int .u8 0, .int .u8 0, .int .u8 0, .int .u8 0, .int .u8 0, .int .u8 0, .int .u8 0, .int .u8 0, .int .u8 0, .int .u8 0, .int .u8 0, .int .u8 0, .int .u8 0, .int .u8 0, .int .u8 0, .int .u8 0, .int .u8 0, .int .u8 0, .int .u8 0, .int .u8 0, .int .u8 0, .int .u8 0, .int .u8 0, .int .u8 0, .int .u8 0, .int .u8 0, .int .u8 0, .int .u8 0, .int .u8 0, .int .u8 0, .int .u8 0, .int .u8 0, .int .u8 0, .int .u8 0, .int .u8 0, .int .u8 0, .int .u8 0, .int .u8 0, .int .u8 0, .int .u8 0, .int .u8 0, .int .u8 0, .int .u8 0, .int .u8 0, .int .u8 0, .int .u8 0, .int .u8 0, .int .u8 0, .int .u8 0, .int .u8 0, .int .u8 0, .int .u8 0, .int .u8 0, .int .u8 0, .int .u8 0, .int .u8 0, .int .u8 0, .int .u8 0, .int .u8 0, .int .u8 0, .int .u8 0, .int .u8 0, .int .u8 0, .int .u8 0, .int .u8 0, .int .u8 0, .int .u8 0, .int .u8 0, .int .u8 0, .int .u8 0, .int .u8 0, .int .u8 0, .int .u8 0, .int .u8 0, .int .u8 0, .int .u8 0, .int .u8 0, .int .u8 0, .int .u8 0, .int .u8 0, .int .u8 0, .int .u8 0, .int .u8 0, .int .u8 0, .int .u8 0, .int .u8 0, .int .u8 0, .int .u8 0, .int .u8 0, .int .u8 0, .int .u8 0, .int .u8 0, .int .u8 0]) w := by
  simp only [zeroValue, Sem.run_bind, Tryz.typeInfo210, Result.andThen_ok]; rfl
theorem info210 : (Tryz.prog.info? 210).map (fun i => (i.zero, i.size, i.bytes)) = some (some (.agg #[.int .u8 0, .int .u8 0, .int .u8 0, .int .u8 0, .int .u8 0, .int .u8 0, .int .u8 0, .int .u8 0, .int .u8 0, .int .u8 0, .int .u8 0, .int .u8 0, .int .u8 0, .int .u8 0, .int .u8 0, .int .u8 0, .int .u8 0, .int .u8 0, .int .u8 0, .int .u8 0, .int .u8 0, .int .u8 0, .int .u8 0, .int .u8 0, .int .u8 0, .int .u8 0, .int .u8 0, .int .u8 0, .int .u8 0, .int .u8 0, .int .u8 0, .int .u8 0, .int .u8 0, .int .u8 0, .int .u8 0, .int .u8 0, .int .u8 0, .int .u8 0, .int .u8 0, .int .u8 0, .int .u8 0, .int .u8 0, .int .u8 0, .int .u8 0, .int .u8 0, .int .u8 0, .int .u8 0, .int .u8 0, .int .u8 0, .int .u8 0, .int .u8 0, .int .u8 0, .int .u8 0, .int .u8 0, .int .u8 0, .int .u8 0, .int .u8 0, .int .u8 0, .int .u8 0, .int .u8 0, .int .u8 0, .int .u8 0, .int .u8 0, .int .u8 0, .int .u8 0, .int .u8 0, .int .u8 0, .int .u8 0, .int .u8 0, .int .u8 0, .int .u8 0, .int .u8 0, .int .u8 0, .int .u8 0, .int .u8 0, .int .u8 0, .int .u8 0, .int .u8 0, .int .u8 0, .int .u8 0, .int .u8 0, .int .u8 0, .int .u8 0, .int .u8 0, .int .u8 0, .int .u8 0, .int .u8 0, .int .u8 0, .int .u8 0, .int .u8 0, .int .u8 0, .int .u8 0, .int .u8 0, .int .u8 0, .int .u8 0, .int .u8 0, .int .u8 0, .int .u8 0, .int .u8 0, .int .u8 0, .int .u8 0, .int .u8 0, .int .u8 0, .int .u8 0, .int .u8 0, .int .u8 0, .int .u8 0, .int .u8 0, .int .u8 0, .int .u8 0, .int .u8 0, .int .u8 0, .int .u8 0, .int .u8 0, .int .u8 0, .int .u8 0, .int .u8 0, .int .u8 0, .int .u8 0, .int .u8 0, .int .u8 0, .int .u8 0, .int .u8 0, .int .u8 0, .int .u8 0, .int .u8 0, .int .u8 0, .int .u8 0, .int .u8 0, .int .u8 0, .int .u8 0, .int .u8 0, .int .u8 0, .int .u8 0, .int .u8 0, .int .u8 0, .int .u8 0, .int .u8 0, .int .u8 0, .int .u8 0, .int .u8 0, .int .u8 0, .int .u8 0, .int .u8 0, .int .u8 0, .int .u8 0, .int .u8 0, .int .u8 0, .int .u8 0, .int .u8 0, .int .u8 0, .int .u8 0, .int .u8 0, .int .u8 0, .int .u8 0, .int .u8 0, .int .u8 0, .int .u8 0, .int .u8 0, .int .u8 0, .int .u8 0, .int .u8 0, .int .u8 0, .int .u8 0, .int .u8 0, .int .u8 0, .int .u8 0, .int .u8 0, .int .u8 0, .int .u8 0, .int .u8 0, .int .u8 0, .int .u8 0, .int .u8 0, .int .u8 0, .int .u8 0, .int .u8 0, .int .u8 0, .int .u8 0, .int .u8 0, .int .u8 0, .int .u8 0, .int .u8 0, .int .u8 0, .int .u8 0, .int .u8 0, .int .u8 0, .int .u8 0, .int .u8 0, .int .u8 0, .int .u8 0, .int .u8 0, .int .u8 0, .int .u8 0, .int .u8 0, .int .u8 0, .int .u8 0, .int .u8 0, .int .u8 0, .int .u8 0, .int .u8 0, .int .u8 0, .int .u8 0, .int .u8 0, .int .u8 0, .int .u8 0, .int .u8 0, .int .u8 0, .int .u8 0, .int .u8 0, .int .u8 0, .int .u8 0, .int .u8 0, .int .u8 0, .int .u8 0, .int .u8 0, .int .u8 0, .int .u8 0, .int .u8 0, .int .u8 0, .int .u8 0, .int .u8 0, .int .u8 0, .int .u8 0, .int .u8 0, .int .u8 0, .int .u8 0, .int .u8 0, .int .u8 0, .int .u8 0, .int .u8 0, .int .u8 0, .int .u8 0, .int .u8 0, .int .u8 0, .int .u8 0, .int .u8 0, .int .u8 0, .int .u8 0, .int .u8 0, .int .u8 0, .int .u8 0, .int .u8 0, .int .u8 0, .int .u8 0, .int .u8 0, .int .u8 0, .int .u8 0, .int .u8 0, .int .u8 0, .int .u8 0, .int .u8 0, .int .u8 0, .int .u8 0, .int .u8 0, .int .u8 0]), 256, 256) := by kernel_rfl
set_option maxRecDepth 100000 in
theorem zero211 (w : World) : (zeroValue 211).run Tryz.prog w = .ok (.agg #[.int .u8 0, .int .u8 0]) w := by
  simp only [zeroValue, Sem.run_bind, Tryz.typeInfo211, Result.andThen_ok]; rfl
theorem info211 : (Tryz.prog.info? 211).map (fun i => (i.zero, i.size, i.bytes)) = some (some (.agg #[.int .u8 0, .int .u8 0]), 2, 2) := by kernel_rfl
set_option maxRecDepth 100000 in
theorem zero212 (w : World) : (zeroValue 212).run Tryz.prog w = .ok (.agg #[.int .u8 0, .int .u8 0]) w := by
  simp only [zeroValue, Sem.run_bind, Tryz.typeInfo212, Result.andThen_ok]; rfl
theorem info212 : (Tryz.prog.info? 212).map (fun i => (i.zero, i.size, i.bytes)) = some (some (.agg #[.int .u8 0, .int .u8 0]), 2, 2) := by kernel_rfl
set_option maxRecDepth 100000 in
theorem zero213 (w : World) : (zeroValue 213).run Tryz.prog w = .ok (.agg #[.int .u8 0, .int .u8 0, .int .u8 0, .int .u8 0, .int .u8 0, .int .u8 0, .int .u8 0, .int .u8 0, .int .u8 0, .int .u8 0, .int .u8 0, .int .u8 0, .int .u8 0, .int .u8 0, .int .u8 0, .int .u8 0, .int .u8 0, .int .u8 0, .int .u8 0, .int .u8 0, .int .u8 0, .int .u8 0, .int .u8 0, .int .u8 0, .int .u8 0, .int .u8 0, .int .u8 0, .int .u8 0, .int .u8 0, .int .u8 0, .int .u8 0, .int .u8 0]) w := by
  simp only [zeroValue, Sem.run_bind, Tryz.typeInfo213, Result.andThen_ok]; rfl
theorem info213 : (Tryz.prog.info? 213).map (fun i => (i.zero, i.size, i.bytes)) = some (some (.agg #[.int .u8 0, .int .u8 0, .int .u8 0, .int .u8 0, .int .u8 0, .int .u8 0, .int .u8 0, .int .u8 0, .int .u8 0, .int .u8 0, .int .u8 0, .int .u8 0, .int .u8 0, .int .u8 0, .int .u8 0, .int .u8 0, .int .u8 0, .int .u8 0, .int .u8 0, .int .u8 0, .int .u8 0, .int .u8 0, .int .u8 0, .int .u8 0, .int .u8 0, .int .u8 0, .int .u8 0, .int .u8 0, .int .u8 0, .int .u8 0, .int .u8 0, .int .u8 0]), 32, 32) := by kernel_rfl
set_option maxRecDepth 100000 in
theorem zero214 (w : World) : (zeroValue 214).run Tryz.prog w = .ok (.pointer none) w := by
  simp only [zeroValue, Sem.run_bind, Tryz.typeInfo214, Result.andThen_ok]; rfl
theorem info214 : (Tryz.prog.info? 214).map (fun i => (i.zero, i.size, i.bytes)) = some (some (.pointer none), 1, 8) := by kernel_rfl
set_option maxRecDepth 100000 in
theorem zero215 (w : World) : (zeroValue 215).run Tryz.prog w = .ok (.agg #[.string ⟨#[]⟩]) w := by
  simp only [zeroValue, Sem.run_bind, Tryz.typeInfo215, Result.andThen_ok]; rfl
theorem info215 : (Tryz.prog.info? 215).map (fun i => (i.zero, i.size, i.bytes)) = some (some (.agg #[.string ⟨#[]⟩]), 1, 16) := by kernel_rfl
set_option maxRecDepth 100000 in
theorem zero216 (w : World) : (zeroValue 216).run Tryz.prog w = .ok (.agg #[.string ⟨#[]⟩]) w := by
  simp only [zeroValue, Sem.run_bind, Tryz.typeInfo216, Result.andThen_ok]; rfl
theorem info216 : (Tryz.prog.info? 216).map (fun i => (i.zero, i.size, i.bytes)) = some (some (.agg #[.string ⟨#[]⟩]), 1, 16) := by kernel_rfl
set_option maxRecDepth 100000 in
theorem zero218 (w : World) : (zeroValue 218).run Tryz.prog w = .ok (.agg #[.pointer none, .pointer none, .pointer none, .string ⟨#[]⟩]) w := by
  simp only [zeroValue, Sem.run_bind, Tryz.typeInfo218, Result.andThen_ok]; rfl
theorem info218 : (Tryz.prog.info? 218).map (fun i => (i.zero, i.size, i.bytes)) = some (some (.agg #[.pointer none, .pointer none, .pointer none, .string ⟨#[]⟩]), 4, 40) := by kernel_rfl
set_option maxRecDepth 100000 in
theorem zero219 (w : World) : (zeroValue 219).run Tryz.prog w = .ok (.agg #[.pointer none, .pointer none, .pointer none, .string ⟨#[]⟩]) w := by
  simp only [zeroValue, Sem.run_bind, Tryz.typeInfo219, Result.andThen_ok]; rfl
theorem info219 : (Tryz.prog.info? 219).map (fun i => (i.zero, i.size, i.bytes)) = some (some (.agg #[.pointer none, .pointer none, .pointer none, .string ⟨#[]⟩]), 4, 40) := by kernel_rfl
set_option maxRecDepth 100000 in
theorem zero220 (w : World) : (zeroValue 220).run Tryz.prog w = .ok (.agg #[]) w := by
  simp only [zeroValue, Sem.run_bind, Tryz.typeInfo220, Result.andThen_ok]; rfl
theorem info220 : (Tryz.prog.info? 220).map (fun i => (i.zero, i.size, i.bytes)) = some (some (.agg #[]), 0, 0) := by kernel_rfl
set_option maxRecDepth 100000 in
theorem zero221 (w : World) : (zeroValue 221).run Tryz.prog w = .ok (.agg #[]) w := by
  simp only [zeroValue, Sem.run_bind, Tryz.typeInfo221, Result.andThen_ok]; rfl
theorem info221 : (Tryz.prog.info? 221).map (fun i => (i.zero, i.size, i.bytes)) = some (some (.agg #[]), 0, 0) := by kernel_rfl
set_option maxRecDepth 100000 in
theorem zero222 (w : World) : (zeroValue 222).run Tryz.prog w = .ok (.agg #[]) w := by
  simp only [zeroValue, Sem.run_bind, Tryz.typeInfo222, Result.andThen_ok]; rfl
theorem info222 : (Tryz.prog.info? 222).map (fun i => (i.zero, i.size, i.bytes)) = some (some (.agg #[]), 0, 0) := by kernel_rfl
set_option maxRecDepth 100000 in
theorem zero223 (w : World) : (zeroValue 223).run Tryz.prog w = .ok (.int .u8 0) w := by
  simp only [zeroValue, Sem.run_bind, Tryz.typeInfo223, Result.andThen_ok]; rfl
theorem info223 : (Tryz.prog.info? 223).map (fun i => (i.zero, i.size, i.bytes)) = some (some (.int .u8 0), 1, 1) := by kernel_rfl
set_option maxRecDepth 100000 in
theorem zero224 (w : World) : (zeroValue 224).run Tryz.prog w = .ok (.int .u8 0) w := by
  simp only [zeroValue, Sem.run_bind, Tryz.typeInfo224, Result.andThen_ok]; rfl
theorem info224 : (Tryz.prog.info? 224).map (fun i => (i.zero, i.size, i.bytes)) = some (some (.int .u8 0), 1, 1) := by kernel_rfl
set_option maxRecDepth 100000 in
theorem zero226 (w : World) : (zeroValue 226).run Tryz.prog w = .ok (.int .i32 0) w := by
  simp only [zeroValue, Sem.run_bind, Tryz.typeInfo226, Result.andThen_ok]; rfl
theorem info226 : (Tryz.prog.info? 226).map (fun i => (i.zero, i.size, i.bytes)) = some (some (.int .i32 0), 1, 4) := by kernel_rfl
set_option maxRecDepth 100000 in
theorem zero227 (w : World) : (zeroValue 227).run Tryz.prog w = .ok (.int .i32 0) w := by
  simp only [zeroValue, Sem.run_bind, Tryz.typeInfo227, Result.andThen_ok]; rfl
theorem info227 : (Tryz.prog.info? 227).map (fun i => (i.zero, i.size, i.bytes)) = some (some (.int .i32 0), 1, 4) := by kernel_rfl
set_option maxRecDepth 100000 in
theorem zero228 (w : World) : (zeroValue 228).run Tryz.prog w = .ok (.agg #[.int .u64 0, .int .u64 0, .int .u32 0, .int .u8 0, .int .u8 0, .int .u8 0, .int .u8 0, .nilFunc, .pointer none, .int .i32 0, .int .i32 0]) w := by
  simp only [zeroValue, Sem.run_bind, Tryz.typeInfo228, Result.andThen_ok]; rfl
theorem info228 : (Tryz.prog.info? 228).map (fun i => (i.zero, i.size, i.bytes)) = some (some (.agg #[.int .u64 0, .int .u64 0, .int .u32 0, .int .u8 0, .int .u8 0, .int .u8 0, .int .u8 0, .nilFunc, .pointer none, .int .i32 0, .int .i32 0]), 11, 48) := by kernel_rfl
set_option maxRecDepth 100000 in
theorem zero229 (w : World) : (zeroValue 229).run Tryz.prog w = .ok (.agg #[.int .u64 0, .int .u64 0, .int .u32 0, .int .u8 0, .int .u8 0, .int .u8 0, .int .u8 0, .nilFunc, .pointer none, .int .i32 0, .int .i32 0]) w := by
  simp only [zeroValue, Sem.run_bind, Tryz.typeInfo229, Result.andThen_ok]; rfl
theorem info229 : (Tryz.prog.info? 229).map (fun i => (i.zero, i.size, i.bytes)) = some (some (.agg #[.int .u64 0, .int .u64 0, .int .u32 0, .int .u8 0, .int .u8 0, .int .u8 0, .int .u8 0, .nilFunc, .pointer none, .int .i32 0, .int .i32 0]), 11, 48) := by kernel_rfl
theorem places7 : ∃ fs, Tryz.prog.underlying 7 = some (.struct fs) ∧ ∀ w, (fs.mapM fun f => do pure (f.offset, ← sizeOf f.type) : Sem (Array (Nat × Nat))).run Tryz.prog w = .ok #[(0, 1), (1, 1), (2, 1), (3, 1)] w :=
  ⟨_, Tryz.underlying7, fun w => by simp [Tryz.sizeOf2, Tryz.sizeOf3, Tryz.sizeOf4, Tryz.sizeOf6]⟩
theorem places8 : ∃ fs, Tryz.prog.underlying 8 = some (.struct fs) ∧ ∀ w, (fs.mapM fun f => do pure (f.offset, ← sizeOf f.type) : Sem (Array (Nat × Nat))).run Tryz.prog w = .ok #[(0, 1), (1, 1), (2, 1), (3, 1)] w :=
  ⟨_, Tryz.underlying8, fun w => by simp [Tryz.sizeOf2, Tryz.sizeOf3, Tryz.sizeOf4, Tryz.sizeOf6]⟩
theorem places13 : ∃ fs, Tryz.prog.underlying 13 = some (.struct fs) ∧ ∀ w, (fs.mapM fun f => do pure (f.offset, ← sizeOf f.type) : Sem (Array (Nat × Nat))).run Tryz.prog w = .ok #[(0, 1), (1, 1)] w :=
  ⟨_, Tryz.underlying13, fun w => by simp [Tryz.sizeOf12, Tryz.sizeOf9]⟩
theorem places14 : ∃ fs, Tryz.prog.underlying 14 = some (.struct fs) ∧ ∀ w, (fs.mapM fun f => do pure (f.offset, ← sizeOf f.type) : Sem (Array (Nat × Nat))).run Tryz.prog w = .ok #[(0, 1), (1, 1)] w :=
  ⟨_, Tryz.underlying14, fun w => by simp [Tryz.sizeOf12, Tryz.sizeOf9]⟩
theorem places18 : ∃ fs, Tryz.prog.underlying 18 = some (.struct fs) ∧ ∀ w, (fs.mapM fun f => do pure (f.offset, ← sizeOf f.type) : Sem (Array (Nat × Nat))).run Tryz.prog w = .ok #[(0, 1)] w :=
  ⟨_, Tryz.underlying18, fun w => by simp [Tryz.sizeOf17]⟩
theorem places19 : ∃ fs, Tryz.prog.underlying 19 = some (.struct fs) ∧ ∀ w, (fs.mapM fun f => do pure (f.offset, ← sizeOf f.type) : Sem (Array (Nat × Nat))).run Tryz.prog w = .ok #[(0, 1)] w :=
  ⟨_, Tryz.underlying19, fun w => by simp [Tryz.sizeOf17]⟩
theorem places37 : ∃ fs, Tryz.prog.underlying 37 = some (.struct fs) ∧ ∀ w, (fs.mapM fun f => do pure (f.offset, ← sizeOf f.type) : Sem (Array (Nat × Nat))).run Tryz.prog w = .ok #[(0, 1), (1, 1), (2, 1)] w :=
  ⟨_, Tryz.underlying37, fun w => by simp [Tryz.sizeOf33, Tryz.sizeOf36, Tryz.sizeOf9]⟩
theorem places38 : ∃ fs, Tryz.prog.underlying 38 = some (.struct fs) ∧ ∀ w, (fs.mapM fun f => do pure (f.offset, ← sizeOf f.type) : Sem (Array (Nat × Nat))).run Tryz.prog w = .ok #[(0, 1), (1, 1), (2, 1)] w :=
  ⟨_, Tryz.underlying38, fun w => by simp [Tryz.sizeOf33, Tryz.sizeOf36, Tryz.sizeOf9]⟩
theorem places44 : ∃ fs, Tryz.prog.underlying 44 = some (.struct fs) ∧ ∀ w, (fs.mapM fun f => do pure (f.offset, ← sizeOf f.type) : Sem (Array (Nat × Nat))).run Tryz.prog w = .ok #[(0, 1), (1, 1), (2, 1), (3, 1)] w :=
  ⟨_, Tryz.underlying44, fun w => by simp [Tryz.sizeOf3, Tryz.sizeOf9]⟩
theorem places45 : ∃ fs, Tryz.prog.underlying 45 = some (.struct fs) ∧ ∀ w, (fs.mapM fun f => do pure (f.offset, ← sizeOf f.type) : Sem (Array (Nat × Nat))).run Tryz.prog w = .ok #[(0, 1), (1, 1), (2, 1), (3, 1)] w :=
  ⟨_, Tryz.underlying45, fun w => by simp [Tryz.sizeOf3, Tryz.sizeOf9]⟩
theorem places49 : ∃ fs, Tryz.prog.underlying 49 = some (.struct fs) ∧ ∀ w, (fs.mapM fun f => do pure (f.offset, ← sizeOf f.type) : Sem (Array (Nat × Nat))).run Tryz.prog w = .ok #[(0, 1), (1, 1)] w :=
  ⟨_, Tryz.underlying49, fun w => by simp [Tryz.sizeOf22, Tryz.sizeOf48]⟩
theorem places50 : ∃ fs, Tryz.prog.underlying 50 = some (.struct fs) ∧ ∀ w, (fs.mapM fun f => do pure (f.offset, ← sizeOf f.type) : Sem (Array (Nat × Nat))).run Tryz.prog w = .ok #[(0, 1), (1, 1)] w :=
  ⟨_, Tryz.underlying50, fun w => by simp [Tryz.sizeOf22, Tryz.sizeOf48]⟩
theorem places66 : ∃ fs, Tryz.prog.underlying 66 = some (.struct fs) ∧ ∀ w, (fs.mapM fun f => do pure (f.offset, ← sizeOf f.type) : Sem (Array (Nat × Nat))).run Tryz.prog w = .ok #[(0, 1), (1, 1), (2, 1)] w :=
  ⟨_, Tryz.underlying66, fun w => by simp [Tryz.sizeOf65, Tryz.sizeOf9]⟩
theorem places67 : ∃ fs, Tryz.prog.underlying 67 = some (.struct fs) ∧ ∀ w, (fs.mapM fun f => do pure (f.offset, ← sizeOf f.type) : Sem (Array (Nat × Nat))).run Tryz.prog w = .ok #[(0, 1), (1, 1), (2, 1)] w :=
  ⟨_, Tryz.underlying67, fun w => by simp [Tryz.sizeOf65, Tryz.sizeOf9]⟩
theorem places68 : ∃ fs, Tryz.prog.underlying 68 = some (.struct fs) ∧ ∀ w, (fs.mapM fun f => do pure (f.offset, ← sizeOf f.type) : Sem (Array (Nat × Nat))).run Tryz.prog w = .ok #[(0, 1), (1, 1), (2, 1), (3, 1), (4, 3), (7, 1), (8, 1)] w :=
  ⟨_, Tryz.underlying68, fun w => by simp [Tryz.sizeOf3, Tryz.sizeOf67]⟩
theorem places69 : ∃ fs, Tryz.prog.underlying 69 = some (.struct fs) ∧ ∀ w, (fs.mapM fun f => do pure (f.offset, ← sizeOf f.type) : Sem (Array (Nat × Nat))).run Tryz.prog w = .ok #[(0, 1), (1, 1), (2, 1), (3, 1), (4, 3), (7, 1), (8, 1)] w :=
  ⟨_, Tryz.underlying69, fun w => by simp [Tryz.sizeOf3, Tryz.sizeOf67]⟩
theorem places90 : ∃ fs, Tryz.prog.underlying 90 = some (.struct fs) ∧ ∀ w, (fs.mapM fun f => do pure (f.offset, ← sizeOf f.type) : Sem (Array (Nat × Nat))).run Tryz.prog w = .ok #[(0, 1), (1, 1), (2, 1)] w :=
  ⟨_, Tryz.underlying90, fun w => by simp [Tryz.sizeOf9]⟩
theorem places91 : ∃ fs, Tryz.prog.underlying 91 = some (.struct fs) ∧ ∀ w, (fs.mapM fun f => do pure (f.offset, ← sizeOf f.type) : Sem (Array (Nat × Nat))).run Tryz.prog w = .ok #[(0, 1), (1, 1), (2, 1)] w :=
  ⟨_, Tryz.underlying91, fun w => by simp [Tryz.sizeOf9]⟩
theorem places98 : ∃ fs, Tryz.prog.underlying 98 = some (.struct fs) ∧ ∀ w, (fs.mapM fun f => do pure (f.offset, ← sizeOf f.type) : Sem (Array (Nat × Nat))).run Tryz.prog w = .ok #[(0, 1), (1, 1)] w :=
  ⟨_, Tryz.underlying98, fun w => by simp [Tryz.sizeOf22, Tryz.sizeOf60]⟩
theorem places99 : ∃ fs, Tryz.prog.underlying 99 = some (.struct fs) ∧ ∀ w, (fs.mapM fun f => do pure (f.offset, ← sizeOf f.type) : Sem (Array (Nat × Nat))).run Tryz.prog w = .ok #[(0, 1), (1, 1)] w :=
  ⟨_, Tryz.underlying99, fun w => by simp [Tryz.sizeOf22, Tryz.sizeOf60]⟩
theorem places101 : ∃ fs, Tryz.prog.underlying 101 = some (.struct fs) ∧ ∀ w, (fs.mapM fun f => do pure (f.offset, ← sizeOf f.type) : Sem (Array (Nat × Nat))).run Tryz.prog w = .ok #[(0, 1), (1, 1)] w :=
  ⟨_, Tryz.underlying101, fun w => by simp [Tryz.sizeOf9]⟩
theorem places102 : ∃ fs, Tryz.prog.underlying 102 = some (.struct fs) ∧ ∀ w, (fs.mapM fun f => do pure (f.offset, ← sizeOf f.type) : Sem (Array (Nat × Nat))).run Tryz.prog w = .ok #[(0, 1), (1, 1)] w :=
  ⟨_, Tryz.underlying102, fun w => by simp [Tryz.sizeOf9]⟩
theorem places129 : ∃ fs, Tryz.prog.underlying 129 = some (.struct fs) ∧ ∀ w, (fs.mapM fun f => do pure (f.offset, ← sizeOf f.type) : Sem (Array (Nat × Nat))).run Tryz.prog w = .ok #[(0, 1), (1, 1), (2, 1), (3, 1), (4, 1)] w :=
  ⟨_, Tryz.underlying129, fun w => by simp [Tryz.sizeOf4, Tryz.sizeOf5]⟩
theorem places130 : ∃ fs, Tryz.prog.underlying 130 = some (.struct fs) ∧ ∀ w, (fs.mapM fun f => do pure (f.offset, ← sizeOf f.type) : Sem (Array (Nat × Nat))).run Tryz.prog w = .ok #[(0, 1), (1, 1), (2, 1), (3, 1), (4, 1)] w :=
  ⟨_, Tryz.underlying130, fun w => by simp [Tryz.sizeOf4, Tryz.sizeOf5]⟩
theorem places140 : ∃ fs, Tryz.prog.underlying 140 = some (.struct fs) ∧ ∀ w, (fs.mapM fun f => do pure (f.offset, ← sizeOf f.type) : Sem (Array (Nat × Nat))).run Tryz.prog w = .ok #[(0, 1), (1, 1)] w :=
  ⟨_, Tryz.underlying140, fun w => by simp [Tryz.sizeOf3]⟩
theorem places141 : ∃ fs, Tryz.prog.underlying 141 = some (.struct fs) ∧ ∀ w, (fs.mapM fun f => do pure (f.offset, ← sizeOf f.type) : Sem (Array (Nat × Nat))).run Tryz.prog w = .ok #[(0, 1), (1, 1)] w :=
  ⟨_, Tryz.underlying141, fun w => by simp [Tryz.sizeOf3]⟩
theorem places203 : ∃ fs, Tryz.prog.underlying 203 = some (.struct fs) ∧ ∀ w, (fs.mapM fun f => do pure (f.offset, ← sizeOf f.type) : Sem (Array (Nat × Nat))).run Tryz.prog w = .ok #[(0, 1), (1, 1), (2, 1)] w :=
  ⟨_, Tryz.underlying203, fun w => by simp [Tryz.sizeOf52, Tryz.sizeOf9]⟩
theorem places204 : ∃ fs, Tryz.prog.underlying 204 = some (.struct fs) ∧ ∀ w, (fs.mapM fun f => do pure (f.offset, ← sizeOf f.type) : Sem (Array (Nat × Nat))).run Tryz.prog w = .ok #[(0, 1), (1, 1), (2, 1)] w :=
  ⟨_, Tryz.underlying204, fun w => by simp [Tryz.sizeOf52, Tryz.sizeOf9]⟩
theorem places211 : ∃ fs, Tryz.prog.underlying 211 = some (.struct fs) ∧ ∀ w, (fs.mapM fun f => do pure (f.offset, ← sizeOf f.type) : Sem (Array (Nat × Nat))).run Tryz.prog w = .ok #[(0, 1), (1, 1)] w :=
  ⟨_, Tryz.underlying211, fun w => by simp [Tryz.sizeOf5]⟩
theorem places212 : ∃ fs, Tryz.prog.underlying 212 = some (.struct fs) ∧ ∀ w, (fs.mapM fun f => do pure (f.offset, ← sizeOf f.type) : Sem (Array (Nat × Nat))).run Tryz.prog w = .ok #[(0, 1), (1, 1)] w :=
  ⟨_, Tryz.underlying212, fun w => by simp [Tryz.sizeOf5]⟩
theorem places215 : ∃ fs, Tryz.prog.underlying 215 = some (.struct fs) ∧ ∀ w, (fs.mapM fun f => do pure (f.offset, ← sizeOf f.type) : Sem (Array (Nat × Nat))).run Tryz.prog w = .ok #[(0, 1)] w :=
  ⟨_, Tryz.underlying215, fun w => by simp [Tryz.sizeOf9]⟩
theorem places216 : ∃ fs, Tryz.prog.underlying 216 = some (.struct fs) ∧ ∀ w, (fs.mapM fun f => do pure (f.offset, ← sizeOf f.type) : Sem (Array (Nat × Nat))).run Tryz.prog w = .ok #[(0, 1)] w :=
  ⟨_, Tryz.underlying216, fun w => by simp [Tryz.sizeOf9]⟩
theorem places218 : ∃ fs, Tryz.prog.underlying 218 = some (.struct fs) ∧ ∀ w, (fs.mapM fun f => do pure (f.offset, ← sizeOf f.type) : Sem (Array (Nat × Nat))).run Tryz.prog w = .ok #[(0, 1), (1, 1), (2, 1), (3, 1)] w :=
  ⟨_, Tryz.underlying218, fun w => by simp [Tryz.sizeOf17, Tryz.sizeOf9]⟩
theorem places219 : ∃ fs, Tryz.prog.underlying 219 = some (.struct fs) ∧ ∀ w, (fs.mapM fun f => do pure (f.offset, ← sizeOf f.type) : Sem (Array (Nat × Nat))).run Tryz.prog w = .ok #[(0, 1), (1, 1), (2, 1), (3, 1)] w :=
  ⟨_, Tryz.underlying219, fun w => by simp [Tryz.sizeOf17, Tryz.sizeOf9]⟩
theorem places221 : ∃ fs, Tryz.prog.underlying 221 = some (.struct fs) ∧ ∀ w, (fs.mapM fun f => do pure (f.offset, ← sizeOf f.type) : Sem (Array (Nat × Nat))).run Tryz.prog w = .ok #[(0, 0)] w :=
  ⟨_, Tryz.underlying221, fun w => by simp [Tryz.sizeOf220]⟩
theorem places222 : ∃ fs, Tryz.prog.underlying 222 = some (.struct fs) ∧ ∀ w, (fs.mapM fun f => do pure (f.offset, ← sizeOf f.type) : Sem (Array (Nat × Nat))).run Tryz.prog w = .ok #[(0, 0)] w :=
  ⟨_, Tryz.underlying222, fun w => by simp [Tryz.sizeOf220]⟩
theorem places228 : ∃ fs, Tryz.prog.underlying 228 = some (.struct fs) ∧ ∀ w, (fs.mapM fun f => do pure (f.offset, ← sizeOf f.type) : Sem (Array (Nat × Nat))).run Tryz.prog w = .ok #[(0, 1), (1, 1), (2, 1), (3, 1), (4, 1), (5, 1), (6, 1), (7, 1), (8, 1), (9, 1), (10, 1)] w :=
  ⟨_, Tryz.underlying228, fun w => by simp [Tryz.sizeOf12, Tryz.sizeOf172, Tryz.sizeOf223, Tryz.sizeOf224, Tryz.sizeOf225, Tryz.sizeOf226, Tryz.sizeOf227, Tryz.sizeOf5, Tryz.sizeOf85]⟩
theorem places229 : ∃ fs, Tryz.prog.underlying 229 = some (.struct fs) ∧ ∀ w, (fs.mapM fun f => do pure (f.offset, ← sizeOf f.type) : Sem (Array (Nat × Nat))).run Tryz.prog w = .ok #[(0, 1), (1, 1), (2, 1), (3, 1), (4, 1), (5, 1), (6, 1), (7, 1), (8, 1), (9, 1), (10, 1)] w :=
  ⟨_, Tryz.underlying229, fun w => by simp [Tryz.sizeOf12, Tryz.sizeOf172, Tryz.sizeOf223, Tryz.sizeOf224, Tryz.sizeOf225, Tryz.sizeOf226, Tryz.sizeOf227, Tryz.sizeOf5, Tryz.sizeOf85]⟩
theorem fields7 : ∃ f0 f1 f2 f3, (Tryz.prog.fieldsOf 7).toList = [f0, f1, f2, f3] ∧ (f0.name = "x" ∧ f0.type = 2 ∧ f0.offset = 0) ∧ (f1.name = "y" ∧ f1.type = 3 ∧ f1.offset = 1) ∧ (f2.name = "signed" ∧ f2.type = 4 ∧ f2.offset = 2) ∧ (f3.name = "code" ∧ f3.type = 6 ∧ f3.offset = 3) := by
  unfold Program.fieldsOf
  rw [Tryz.underlying7]
  exact ⟨_, _, _, _, rfl, ⟨rfl, rfl, rfl⟩, ⟨rfl, rfl, rfl⟩, ⟨rfl, rfl, rfl⟩, ⟨rfl, rfl, rfl⟩⟩
theorem fields8 : ∃ f0 f1 f2 f3, (Tryz.prog.fieldsOf 8).toList = [f0, f1, f2, f3] ∧ (f0.name = "x" ∧ f0.type = 2 ∧ f0.offset = 0) ∧ (f1.name = "y" ∧ f1.type = 3 ∧ f1.offset = 1) ∧ (f2.name = "signed" ∧ f2.type = 4 ∧ f2.offset = 2) ∧ (f3.name = "code" ∧ f3.type = 6 ∧ f3.offset = 3) := by
  unfold Program.fieldsOf
  rw [Tryz.underlying8]
  exact ⟨_, _, _, _, rfl, ⟨rfl, rfl, rfl⟩, ⟨rfl, rfl, rfl⟩, ⟨rfl, rfl, rfl⟩, ⟨rfl, rfl, rfl⟩⟩
theorem fields13 : ∃ f0 f1, (Tryz.prog.fieldsOf 13).toList = [f0, f1] ∧ (f0.name = "msg" ∧ f0.type = 9 ∧ f0.offset = 0) ∧ (f1.name = "addr" ∧ f1.type = 12 ∧ f1.offset = 1) := by
  unfold Program.fieldsOf
  rw [Tryz.underlying13]
  exact ⟨_, _, rfl, ⟨rfl, rfl, rfl⟩, ⟨rfl, rfl, rfl⟩⟩
theorem fields14 : ∃ f0 f1, (Tryz.prog.fieldsOf 14).toList = [f0, f1] ∧ (f0.name = "msg" ∧ f0.type = 9 ∧ f0.offset = 0) ∧ (f1.name = "addr" ∧ f1.type = 12 ∧ f1.offset = 1) := by
  unfold Program.fieldsOf
  rw [Tryz.underlying14]
  exact ⟨_, _, rfl, ⟨rfl, rfl, rfl⟩, ⟨rfl, rfl, rfl⟩⟩
theorem fields18 : ∃ f0, (Tryz.prog.fieldsOf 18).toList = [f0] ∧ (f0.name = "typ" ∧ f0.type = 17 ∧ f0.offset = 0) := by
  unfold Program.fieldsOf
  rw [Tryz.underlying18]
  exact ⟨_, rfl, ⟨rfl, rfl, rfl⟩⟩
theorem fields19 : ∃ f0, (Tryz.prog.fieldsOf 19).toList = [f0] ∧ (f0.name = "typ" ∧ f0.type = 17 ∧ f0.offset = 0) := by
  unfold Program.fieldsOf
  rw [Tryz.underlying19]
  exact ⟨_, rfl, ⟨rfl, rfl, rfl⟩⟩
theorem fields37 : ∃ f0 f1 f2, (Tryz.prog.fieldsOf 37).toList = [f0, f1, f2] ∧ (f0.name = "Path" ∧ f0.type = 33 ∧ f0.offset = 0) ∧ (f1.name = "What" ∧ f1.type = 9 ∧ f1.offset = 1) ∧ (f2.name = "Names" ∧ f2.type = 36 ∧ f2.offset = 2) := by
  unfold Program.fieldsOf
  rw [Tryz.underlying37]
  exact ⟨_, _, _, rfl, ⟨rfl, rfl, rfl⟩, ⟨rfl, rfl, rfl⟩, ⟨rfl, rfl, rfl⟩⟩
theorem fields38 : ∃ f0 f1 f2, (Tryz.prog.fieldsOf 38).toList = [f0, f1, f2] ∧ (f0.name = "Path" ∧ f0.type = 33 ∧ f0.offset = 0) ∧ (f1.name = "What" ∧ f1.type = 9 ∧ f1.offset = 1) ∧ (f2.name = "Names" ∧ f2.type = 36 ∧ f2.offset = 2) := by
  unfold Program.fieldsOf
  rw [Tryz.underlying38]
  exact ⟨_, _, _, rfl, ⟨rfl, rfl, rfl⟩, ⟨rfl, rfl, rfl⟩, ⟨rfl, rfl, rfl⟩⟩
theorem fields44 : ∃ f0 f1 f2 f3, (Tryz.prog.fieldsOf 44).toList = [f0, f1, f2, f3] ∧ (f0.name = "Name" ∧ f0.type = 9 ∧ f0.offset = 0) ∧ (f1.name = "From" ∧ f1.type = 3 ∧ f1.offset = 1) ∧ (f2.name = "To" ∧ f2.type = 3 ∧ f2.offset = 2) ∧ (f3.name = "At" ∧ f3.type = 3 ∧ f3.offset = 3) := by
  unfold Program.fieldsOf
  rw [Tryz.underlying44]
  exact ⟨_, _, _, _, rfl, ⟨rfl, rfl, rfl⟩, ⟨rfl, rfl, rfl⟩, ⟨rfl, rfl, rfl⟩, ⟨rfl, rfl, rfl⟩⟩
theorem fields45 : ∃ f0 f1 f2 f3, (Tryz.prog.fieldsOf 45).toList = [f0, f1, f2, f3] ∧ (f0.name = "Name" ∧ f0.type = 9 ∧ f0.offset = 0) ∧ (f1.name = "From" ∧ f1.type = 3 ∧ f1.offset = 1) ∧ (f2.name = "To" ∧ f2.type = 3 ∧ f2.offset = 2) ∧ (f3.name = "At" ∧ f3.type = 3 ∧ f3.offset = 3) := by
  unfold Program.fieldsOf
  rw [Tryz.underlying45]
  exact ⟨_, _, _, _, rfl, ⟨rfl, rfl, rfl⟩, ⟨rfl, rfl, rfl⟩, ⟨rfl, rfl, rfl⟩, ⟨rfl, rfl, rfl⟩⟩
theorem fields49 : ∃ f0 f1, (Tryz.prog.fieldsOf 49).toList = [f0, f1] ∧ (f0.name = "addr" ∧ f0.type = 48 ∧ f0.offset = 0) ∧ (f1.name = "buf" ∧ f1.type = 22 ∧ f1.offset = 1) := by
  unfold Program.fieldsOf
  rw [Tryz.underlying49]
  exact ⟨_, _, rfl, ⟨rfl, rfl, rfl⟩, ⟨rfl, rfl, rfl⟩⟩
theorem fields50 : ∃ f0 f1, (Tryz.prog.fieldsOf 50).toList = [f0, f1] ∧ (f0.name = "addr" ∧ f0.type = 48 ∧ f0.offset = 0) ∧ (f1.name = "buf" ∧ f1.type = 22 ∧ f1.offset = 1) := by
  unfold Program.fieldsOf
  rw [Tryz.underlying50]
  exact ⟨_, _, rfl, ⟨rfl, rfl, rfl⟩, ⟨rfl, rfl, rfl⟩⟩
theorem fields66 : ∃ f0 f1 f2, (Tryz.prog.fieldsOf 66).toList = [f0, f1, f2] ∧ (f0.name = "Type" ∧ f0.type = 9 ∧ f0.offset = 0) ∧ (f1.name = "Sub" ∧ f1.type = 9 ∧ f1.offset = 1) ∧ (f2.name = "Params" ∧ f2.type = 65 ∧ f2.offset = 2) := by
  unfold Program.fieldsOf
  rw [Tryz.underlying66]
  exact ⟨_, _, _, rfl, ⟨rfl, rfl, rfl⟩, ⟨rfl, rfl, rfl⟩, ⟨rfl, rfl, rfl⟩⟩
theorem fields67 : ∃ f0 f1 f2, (Tryz.prog.fieldsOf 67).toList = [f0, f1, f2] ∧ (f0.name = "Type" ∧ f0.type = 9 ∧ f0.offset = 0) ∧ (f1.name = "Sub" ∧ f1.type = 9 ∧ f1.offset = 1) ∧ (f2.name = "Params" ∧ f2.type = 65 ∧ f2.offset = 2) := by
  unfold Program.fieldsOf
  rw [Tryz.underlying67]
  exact ⟨_, _, _, rfl, ⟨rfl, rfl, rfl⟩, ⟨rfl, rfl, rfl⟩, ⟨rfl, rfl, rfl⟩⟩
theorem fields68 : ∃ f0 f1 f2 f3 f4 f5 f6, (Tryz.prog.fieldsOf 68).toList = [f0, f1, f2, f3, f4, f5, f6] ∧ (f0.name = "Kind" ∧ f0.type = 3 ∧ f0.offset = 0) ∧ (f1.name = "From" ∧ f1.type = 3 ∧ f1.offset = 1) ∧ (f2.name = "Body" ∧ f2.type = 3 ∧ f2.offset = 2) ∧ (f3.name = "To" ∧ f3.type = 3 ∧ f3.offset = 3) ∧ (f4.name = "M" ∧ f4.type = 67 ∧ f4.offset = 4) ∧ (f5.name = "Up" ∧ f5.type = 3 ∧ f5.offset = 7) ∧ (f6.name = "Kids" ∧ f6.type = 3 ∧ f6.offset = 8) := by
  unfold Program.fieldsOf
  rw [Tryz.underlying68]
  exact ⟨_, _, _, _, _, _, _, rfl, ⟨rfl, rfl, rfl⟩, ⟨rfl, rfl, rfl⟩, ⟨rfl, rfl, rfl⟩, ⟨rfl, rfl, rfl⟩, ⟨rfl, rfl, rfl⟩, ⟨rfl, rfl, rfl⟩, ⟨rfl, rfl, rfl⟩⟩
theorem fields69 : ∃ f0 f1 f2 f3 f4 f5 f6, (Tryz.prog.fieldsOf 69).toList = [f0, f1, f2, f3, f4, f5, f6] ∧ (f0.name = "Kind" ∧ f0.type = 3 ∧ f0.offset = 0) ∧ (f1.name = "From" ∧ f1.type = 3 ∧ f1.offset = 1) ∧ (f2.name = "Body" ∧ f2.type = 3 ∧ f2.offset = 2) ∧ (f3.name = "To" ∧ f3.type = 3 ∧ f3.offset = 3) ∧ (f4.name = "M" ∧ f4.type = 67 ∧ f4.offset = 4) ∧ (f5.name = "Up" ∧ f5.type = 3 ∧ f5.offset = 7) ∧ (f6.name = "Kids" ∧ f6.type = 3 ∧ f6.offset = 8) := by
  unfold Program.fieldsOf
  rw [Tryz.underlying69]
  exact ⟨_, _, _, _, _, _, _, rfl, ⟨rfl, rfl, rfl⟩, ⟨rfl, rfl, rfl⟩, ⟨rfl, rfl, rfl⟩, ⟨rfl, rfl, rfl⟩, ⟨rfl, rfl, rfl⟩, ⟨rfl, rfl, rfl⟩, ⟨rfl, rfl, rfl⟩⟩
theorem fields90 : ∃ f0 f1 f2, (Tryz.prog.fieldsOf 90).toList = [f0, f1, f2] ∧ (f0.name = "Name" ∧ f0.type = 9 ∧ f0.offset = 0) ∧ (f1.name = "Box" ∧ f1.type = 9 ∧ f1.offset = 1) ∧ (f2.name = "Host" ∧ f2.type = 9 ∧ f2.offset = 2) := by
  unfold Program.fieldsOf
  rw [Tryz.underlying90]
  exact ⟨_, _, _, rfl, ⟨rfl, rfl, rfl⟩, ⟨rfl, rfl, rfl⟩, ⟨rfl, rfl, rfl⟩⟩
theorem fields91 : ∃ f0 f1 f2, (Tryz.prog.fieldsOf 91).toList = [f0, f1, f2] ∧ (f0.name = "Name" ∧ f0.type = 9 ∧ f0.offset = 0) ∧ (f1.name = "Box" ∧ f1.type = 9 ∧ f1.offset = 1) ∧ (f2.name = "Host" ∧ f2.type = 9 ∧ f2.offset = 2) := by
  unfold Program.fieldsOf
  rw [Tryz.underlying91]
  exact ⟨_, _, _, rfl, ⟨rfl, rfl, rfl⟩, ⟨rfl, rfl, rfl⟩, ⟨rfl, rfl, rfl⟩⟩
theorem fields98 : ∃ f0 f1, (Tryz.prog.fieldsOf 98).toList = [f0, f1] ∧ (f0.name = "b" ∧ f0.type = 22 ∧ f0.offset = 0) ∧ (f1.name = "l" ∧ f1.type = 60 ∧ f1.offset = 1) := by
  unfold Program.fieldsOf
  rw [Tryz.underlying98]
  exact ⟨_, _, rfl, ⟨rfl, rfl, rfl⟩, ⟨rfl, rfl, rfl⟩⟩
theorem fields99 : ∃ f0 f1, (Tryz.prog.fieldsOf 99).toList = [f0, f1] ∧ (f0.name = "b" ∧ f0.type = 22 ∧ f0.offset = 0) ∧ (f1.name = "l" ∧ f1.type = 60 ∧ f1.offset = 1) := by
  unfold Program.fieldsOf
  rw [Tryz.underlying99]
  exact ⟨_, _, rfl, ⟨rfl, rfl, rfl⟩, ⟨rfl, rfl, rfl⟩⟩
theorem fields101 : ∃ f0 f1, (Tryz.prog.fieldsOf 101).toList = [f0, f1] ∧ (f0.name = "Name" ∧ f0.type = 9 ∧ f0.offset = 0) ∧ (f1.name = "Value" ∧ f1.type = 9 ∧ f1.offset = 1) := by
  unfold Program.fieldsOf
  rw [Tryz.underlying101]
  exact ⟨_, _, rfl, ⟨rfl, rfl, rfl⟩, ⟨rfl, rfl, rfl⟩⟩
theorem fields102 : ∃ f0 f1, (Tryz.prog.fieldsOf 102).toList = [f0, f1] ∧ (f0.name = "Name" ∧ f0.type = 9 ∧ f0.offset = 0) ∧ (f1.name = "Value" ∧ f1.type = 9 ∧ f1.offset = 1) := by
  unfold Program.fieldsOf
  rw [Tryz.underlying102]
  exact ⟨_, _, rfl, ⟨rfl, rfl, rfl⟩, ⟨rfl, rfl, rfl⟩⟩
theorem fields129 : ∃ f0 f1 f2 f3 f4, (Tryz.prog.fieldsOf 129).toList = [f0, f1, f2, f3, f4] ∧ (f0.name = "C" ∧ f0.type = 5 ∧ f0.offset = 0) ∧ (f1.name = "Q" ∧ f1.type = 4 ∧ f1.offset = 1) ∧ (f2.name = "R" ∧ f2.type = 4 ∧ f2.offset = 2) ∧ (f3.name = "Open" ∧ f3.type = 4 ∧ f3.offset = 3) ∧ (f4.name = "Shut" ∧ f4.type = 4 ∧ f4.offset = 4) := by
  unfold Program.fieldsOf
  rw [Tryz.underlying129]
  exact ⟨_, _, _, _, _, rfl, ⟨rfl, rfl, rfl⟩, ⟨rfl, rfl, rfl⟩, ⟨rfl, rfl, rfl⟩, ⟨rfl, rfl, rfl⟩, ⟨rfl, rfl, rfl⟩⟩
theorem fields130 : ∃ f0 f1 f2 f3 f4, (Tryz.prog.fieldsOf 130).toList = [f0, f1, f2, f3, f4] ∧ (f0.name = "C" ∧ f0.type = 5 ∧ f0.offset = 0) ∧ (f1.name = "Q" ∧ f1.type = 4 ∧ f1.offset = 1) ∧ (f2.name = "R" ∧ f2.type = 4 ∧ f2.offset = 2) ∧ (f3.name = "Open" ∧ f3.type = 4 ∧ f3.offset = 3) ∧ (f4.name = "Shut" ∧ f4.type = 4 ∧ f4.offset = 4) := by
  unfold Program.fieldsOf
  rw [Tryz.underlying130]
  exact ⟨_, _, _, _, _, rfl, ⟨rfl, rfl, rfl⟩, ⟨rfl, rfl, rfl⟩, ⟨rfl, rfl, rfl⟩, ⟨rfl, rfl, rfl⟩, ⟨rfl, rfl, rfl⟩⟩
theorem fields140 : ∃ f0 f1, (Tryz.prog.fieldsOf 140).toList = [f0, f1] ∧ (f0.name = "From" ∧ f0.type = 3 ∧ f0.offset = 0) ∧ (f1.name = "To" ∧ f1.type = 3 ∧ f1.offset = 1) := by
  unfold Program.fieldsOf
  rw [Tryz.underlying140]
  exact ⟨_, _, rfl, ⟨rfl, rfl, rfl⟩, ⟨rfl, rfl, rfl⟩⟩
theorem fields141 : ∃ f0 f1, (Tryz.prog.fieldsOf 141).toList = [f0, f1] ∧ (f0.name = "From" ∧ f0.type = 3 ∧ f0.offset = 0) ∧ (f1.name = "To" ∧ f1.type = 3 ∧ f1.offset = 1) := by
  unfold Program.fieldsOf
  rw [Tryz.underlying141]
  exact ⟨_, _, rfl, ⟨rfl, rfl, rfl⟩, ⟨rfl, rfl, rfl⟩⟩
theorem fields203 : ∃ f0 f1 f2, (Tryz.prog.fieldsOf 203).toList = [f0, f1, f2] ∧ (f0.name = "Func" ∧ f0.type = 9 ∧ f0.offset = 0) ∧ (f1.name = "Num" ∧ f1.type = 9 ∧ f1.offset = 1) ∧ (f2.name = "Err" ∧ f2.type = 52 ∧ f2.offset = 2) := by
  unfold Program.fieldsOf
  rw [Tryz.underlying203]
  exact ⟨_, _, _, rfl, ⟨rfl, rfl, rfl⟩, ⟨rfl, rfl, rfl⟩, ⟨rfl, rfl, rfl⟩⟩
theorem fields204 : ∃ f0 f1 f2, (Tryz.prog.fieldsOf 204).toList = [f0, f1, f2] ∧ (f0.name = "Func" ∧ f0.type = 9 ∧ f0.offset = 0) ∧ (f1.name = "Num" ∧ f1.type = 9 ∧ f1.offset = 1) ∧ (f2.name = "Err" ∧ f2.type = 52 ∧ f2.offset = 2) := by
  unfold Program.fieldsOf
  rw [Tryz.underlying204]
  exact ⟨_, _, _, rfl, ⟨rfl, rfl, rfl⟩, ⟨rfl, rfl, rfl⟩, ⟨rfl, rfl, rfl⟩⟩
theorem fields211 : ∃ f0 f1, (Tryz.prog.fieldsOf 211).toList = [f0, f1] ∧ (f0.name = "lo" ∧ f0.type = 5 ∧ f0.offset = 0) ∧ (f1.name = "hi" ∧ f1.type = 5 ∧ f1.offset = 1) := by
  unfold Program.fieldsOf
  rw [Tryz.underlying211]
  exact ⟨_, _, rfl, ⟨rfl, rfl, rfl⟩, ⟨rfl, rfl, rfl⟩⟩
theorem fields212 : ∃ f0 f1, (Tryz.prog.fieldsOf 212).toList = [f0, f1] ∧ (f0.name = "lo" ∧ f0.type = 5 ∧ f0.offset = 0) ∧ (f1.name = "hi" ∧ f1.type = 5 ∧ f1.offset = 1) := by
  unfold Program.fieldsOf
  rw [Tryz.underlying212]
  exact ⟨_, _, rfl, ⟨rfl, rfl, rfl⟩, ⟨rfl, rfl, rfl⟩⟩
theorem fields215 : ∃ f0, (Tryz.prog.fieldsOf 215).toList = [f0] ∧ (f0.name = "s" ∧ f0.type = 9 ∧ f0.offset = 0) := by
  unfold Program.fieldsOf
  rw [Tryz.underlying215]
  exact ⟨_, rfl, ⟨rfl, rfl, rfl⟩⟩
theorem fields216 : ∃ f0, (Tryz.prog.fieldsOf 216).toList = [f0] ∧ (f0.name = "s" ∧ f0.type = 9 ∧ f0.offset = 0) := by
  unfold Program.fieldsOf
  rw [Tryz.underlying216]
  exact ⟨_, rfl, ⟨rfl, rfl, rfl⟩⟩
theorem fields218 : ∃ f0 f1 f2 f3, (Tryz.prog.fieldsOf 218).toList = [f0, f1, f2, f3] ∧ (f0.name = "_interface" ∧ f0.type = 17 ∧ f0.offset = 0) ∧ (f1.name = "concrete" ∧ f1.type = 17 ∧ f1.offset = 1) ∧ (f2.name = "asserted" ∧ f2.type = 17 ∧ f2.offset = 2) ∧ (f3.name = "missingMethod" ∧ f3.type = 9 ∧ f3.offset = 3) := by
  unfold Program.fieldsOf
  rw [Tryz.underlying218]
  exact ⟨_, _, _, _, rfl, ⟨rfl, rfl, rfl⟩, ⟨rfl, rfl, rfl⟩, ⟨rfl, rfl, rfl⟩, ⟨rfl, rfl, rfl⟩⟩
theorem fields219 : ∃ f0 f1 f2 f3, (Tryz.prog.fieldsOf 219).toList = [f0, f1, f2, f3] ∧ (f0.name = "_interface" ∧ f0.type = 17 ∧ f0.offset = 0) ∧ (f1.name = "concrete" ∧ f1.type = 17 ∧ f1.offset = 1) ∧ (f2.name = "asserted" ∧ f2.type = 17 ∧ f2.offset = 2) ∧ (f3.name = "missingMethod" ∧ f3.type = 9 ∧ f3.offset = 3) := by
  unfold Program.fieldsOf
  rw [Tryz.underlying219]
  exact ⟨_, _, _, _, rfl, ⟨rfl, rfl, rfl⟩, ⟨rfl, rfl, rfl⟩, ⟨rfl, rfl, rfl⟩, ⟨rfl, rfl, rfl⟩⟩
theorem fields221 : ∃ f0, (Tryz.prog.fieldsOf 221).toList = [f0] ∧ (f0.name = "_" ∧ f0.type = 220 ∧ f0.offset = 0) := by
  unfold Program.fieldsOf
  rw [Tryz.underlying221]
  exact ⟨_, rfl, ⟨rfl, rfl, rfl⟩⟩
theorem fields222 : ∃ f0, (Tryz.prog.fieldsOf 222).toList = [f0] ∧ (f0.name = "_" ∧ f0.type = 220 ∧ f0.offset = 0) := by
  unfold Program.fieldsOf
  rw [Tryz.underlying222]
  exact ⟨_, rfl, ⟨rfl, rfl, rfl⟩⟩
theorem fields228 : ∃ f0 f1 f2 f3 f4 f5 f6 f7 f8 f9 f10, (Tryz.prog.fieldsOf 228).toList = [f0, f1, f2, f3, f4, f5, f6, f7, f8, f9, f10] ∧ (f0.name = "Size_" ∧ f0.type = 12 ∧ f0.offset = 0) ∧ (f1.name = "PtrBytes" ∧ f1.type = 12 ∧ f1.offset = 1) ∧ (f2.name = "Hash" ∧ f2.type = 172 ∧ f2.offset = 2) ∧ (f3.name = "TFlag" ∧ f3.type = 223 ∧ f3.offset = 3) ∧ (f4.name = "Align_" ∧ f4.type = 5 ∧ f4.offset = 4) ∧ (f5.name = "FieldAlign_" ∧ f5.type = 5 ∧ f5.offset = 5) ∧ (f6.name = "Kind_" ∧ f6.type = 224 ∧ f6.offset = 6) ∧ (f7.name = "Equal" ∧ f7.type = 225 ∧ f7.offset = 7) ∧ (f8.name = "GCData" ∧ f8.type = 85 ∧ f8.offset = 8) ∧ (f9.name = "Str" ∧ f9.type = 226 ∧ f9.offset = 9) ∧ (f10.name = "PtrToThis" ∧ f10.type = 227 ∧ f10.offset = 10) := by
  unfold Program.fieldsOf
  rw [Tryz.underlying228]
  exact ⟨_, _, _, _, _, _, _, _, _, _, _, rfl, ⟨rfl, rfl, rfl⟩, ⟨rfl, rfl, rfl⟩, ⟨rfl, rfl, rfl⟩, ⟨rfl, rfl, rfl⟩, ⟨rfl, rfl, rfl⟩, ⟨rfl, rfl, rfl⟩, ⟨rfl, rfl, rfl⟩, ⟨rfl, rfl, rfl⟩, ⟨rfl, rfl, rfl⟩, ⟨rfl, rfl, rfl⟩, ⟨rfl, rfl, rfl⟩⟩
theorem fields229 : ∃ f0 f1 f2 f3 f4 f5 f6 f7 f8 f9 f10, (Tryz.prog.fieldsOf 229).toList = [f0, f1, f2, f3, f4, f5, f6, f7, f8, f9, f10] ∧ (f0.name = "Size_" ∧ f0.type = 12 ∧ f0.offset = 0) ∧ (f1.name = "PtrBytes" ∧ f1.type = 12 ∧ f1.offset = 1) ∧ (f2.name = "Hash" ∧ f2.type = 172 ∧ f2.offset = 2) ∧ (f3.name = "TFlag" ∧ f3.type = 223 ∧ f3.offset = 3) ∧ (f4.name = "Align_" ∧ f4.type = 5 ∧ f4.offset = 4) ∧ (f5.name = "FieldAlign_" ∧ f5.type = 5 ∧ f5.offset = 5) ∧ (f6.name = "Kind_" ∧ f6.type = 224 ∧ f6.offset = 6) ∧ (f7.name = "Equal" ∧ f7.type = 225 ∧ f7.offset = 7) ∧ (f8.name = "GCData" ∧ f8.type = 85 ∧ f8.offset = 8) ∧ (f9.name = "Str" ∧ f9.type = 226 ∧ f9.offset = 9) ∧ (f10.name = "PtrToThis" ∧ f10.type = 227 ∧ f10.offset = 10) := by
  unfold Program.fieldsOf
  rw [Tryz.underlying229]
  exact ⟨_, _, _, _, _, _, _, _, _, _, _, rfl, ⟨rfl, rfl, rfl⟩, ⟨rfl, rfl, rfl⟩, ⟨rfl, rfl, rfl⟩, ⟨rfl, rfl, rfl⟩, ⟨rfl, rfl, rfl⟩, ⟨rfl, rfl, rfl⟩, ⟨rfl, rfl, rfl⟩, ⟨rfl, rfl, rfl⟩, ⟨rfl, rfl, rfl⟩, ⟨rfl, rfl, rfl⟩, ⟨rfl, rfl, rfl⟩⟩
end Go.Proofs.YtenbjndldenkfaaGreatDoor
