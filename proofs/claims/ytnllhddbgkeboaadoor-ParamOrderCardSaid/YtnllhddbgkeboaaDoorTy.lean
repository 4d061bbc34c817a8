/-
  The zero value and the size of each type of this translation: read off its table.
-/
import Derived.Test.YtnllhddbgkeboaaDoorEngA
import Derived.Test.YtnllhddbgkeboaaDoorRows
import Derived.KernelRfl
namespace Go.Proofs.YtnllhddbgkeboaaDoor
open Go.Proofs
set_option maxRecDepth 100000 in
theorem zero2 (w : World) : (zeroValue 2).run Tryd.prog w = .ok (.int .i64 0) w := by
  simp only [zeroValue, Sem.run_bind, Tryd.typeInfo2, Result.andThen_ok]; rfl
theorem info2 : (Tryd.prog.info? 2).map (fun i => (i.zero, i.size, i.bytes)) = some (some (.int .i64 0), 1, 8) := by kernel_rfl
set_option maxRecDepth 100000 in
theorem zero3 (w : World) : (zeroValue 3).run Tryd.prog w = .ok (.int .i64 0) w := by
  simp only [zeroValue, Sem.run_bind, Tryd.typeInfo3, Result.andThen_ok]; rfl
theorem info3 : (Tryd.prog.info? 3).map (fun i => (i.zero, i.size, i.bytes)) = some (some (.int .i64 0), 1, 8) := by kernel_rfl
set_option maxRecDepth 100000 in
theorem zero4 (w : World) : (zeroValue 4).run Tryd.prog w = .ok (.bool false) w := by
  simp only [zeroValue, Sem.run_bind, Tryd.typeInfo4, Result.andThen_ok]; rfl
theorem info4 : (Tryd.prog.info? 4).map (fun i => (i.zero, i.size, i.bytes)) = some (some (.bool false), 1, 1) := by kernel_rfl
set_option maxRecDepth 100000 in
theorem zero5 (w : World) : (zeroValue 5).run Tryd.prog w = .ok (.int .u8 0) w := by
  simp only [zeroValue, Sem.run_bind, Tryd.typeInfo5, Result.andThen_ok]; rfl
theorem info5 : (Tryd.prog.info? 5).map (fun i => (i.zero, i.size, i.bytes)) = some (some (.int .u8 0), 1, 1) := by kernel_rfl
set_option maxRecDepth 100000 in
theorem zero6 (w : World) : (zeroValue 6).run Tryd.prog w = .ok (.int .u8 0) w := by
  simp only [zeroValue, Sem.run_bind, Tryd.typeInfo6, Result.andThen_ok]; rfl
theorem info6 : (Tryd.prog.info? 6).map (fun i => (i.zero, i.size, i.bytes)) = some (some (.int .u8 0), 1, 1) := by kernel_rfl
set_option maxRecDepth 100000 in
theorem zero7 (w : World) : (zeroValue 7).run Tryd.prog w = .ok (.agg #[.int .i64 0, .int .i64 0, .bool false, .int .u8 0]) w := by
  simp only [zeroValue, Sem.run_bind, Tryd.typeInfo7, Result.andThen_ok]; rfl
theorem info7 : (Tryd.prog.info? 7).map (fun i => (i.zero, i.size, i.bytes)) = some (some (.agg #[.int .i64 0, .int .i64 0, .bool false, .int .u8 0]), 4, 24) := by kernel_rfl
set_option maxRecDepth 100000 in
theorem zero8 (w : World) : (zeroValue 8).run Tryd.prog w = .ok (.agg #[.int .i64 0, .int .i64 0, .bool false, .int .u8 0]) w := by
  simp only [zeroValue, Sem.run_bind, Tryd.typeInfo8, Result.andThen_ok]; rfl
theorem info8 : (Tryd.prog.info? 8).map (fun i => (i.zero, i.size, i.bytes)) = some (some (.agg #[.int .i64 0, .int .i64 0, .bool false, .int .u8 0]), 4, 24) := by kernel_rfl
set_option maxRecDepth 100000 in
theorem zero9 (w : World) : (zeroValue 9).run Tryd.prog w = .ok (.string ⟨#[]⟩) w := by
  simp only [zeroValue, Sem.run_bind, Tryd.typeInfo9, Result.andThen_ok]; rfl
theorem info9 : (Tryd.prog.info? 9).map (fun i => (i.zero, i.size, i.bytes)) = some (some (.string ⟨#[]⟩), 1, 16) := by kernel_rfl
set_option maxRecDepth 100000 in
theorem zero10 (w : World) : (zeroValue 10).run Tryd.prog w = .ok (.string ⟨#[]⟩) w := by
  simp only [zeroValue, Sem.run_bind, Tryd.typeInfo10, Result.andThen_ok]; rfl
theorem info10 : (Tryd.prog.info? 10).map (fun i => (i.zero, i.size, i.bytes)) = some (some (.string ⟨#[]⟩), 1, 16) := by kernel_rfl
set_option maxRecDepth 100000 in
theorem zero11 (w : World) : (zeroValue 11).run Tryd.prog w = .ok (.string ⟨#[]⟩) w := by
  simp only [zeroValue, Sem.run_bind, Tryd.typeInfo11, Result.andThen_ok]; rfl
theorem info11 : (Tryd.prog.info? 11).map (fun i => (i.zero, i.size, i.bytes)) = some (some (.string ⟨#[]⟩), 1, 16) := by kernel_rfl
set_option maxRecDepth 100000 in
theorem zero12 (w : World) : (zeroValue 12).run Tryd.prog w = .ok (.int .u64 0) w := by
  simp only [zeroValue, Sem.run_bind, Tryd.typeInfo12, Result.andThen_ok]; rfl
theorem info12 : (Tryd.prog.info? 12).map (fun i => (i.zero, i.size, i.bytes)) = some (some (.int .u64 0), 1, 8) := by kernel_rfl
set_option maxRecDepth 100000 in
theorem zero13 (w : World) : (zeroValue 13).run Tryd.prog w = .ok (.agg #[.string ⟨#[]⟩, .int .u64 0]) w := by
  simp only [zeroValue, Sem.run_bind, Tryd.typeInfo13, Result.andThen_ok]; rfl
theorem info13 : (Tryd.prog.info? 13).map (fun i => (i.zero, i.size, i.bytes)) = some (some (.agg #[.string ⟨#[]⟩, .int .u64 0]), 2, 24) := by kernel_rfl
set_option maxRecDepth 100000 in
theorem zero14 (w : World) : (zeroValue 14).run Tryd.prog w = .ok (.agg #[.string ⟨#[]⟩, .int .u64 0]) w := by
  simp only [zeroValue, Sem.run_bind, Tryd.typeInfo14, Result.andThen_ok]; rfl
theorem info14 : (Tryd.prog.info? 14).map (fun i => (i.zero, i.size, i.bytes)) = some (some (.agg #[.string ⟨#[]⟩, .int .u64 0]), 2, 24) := by kernel_rfl
set_option maxRecDepth 100000 in
theorem zero15 (w : World) : (zeroValue 15).run Tryd.prog w = .ok (.pointer none) w := by
  simp only [zeroValue, Sem.run_bind, Tryd.typeInfo15, Result.andThen_ok]; rfl
theorem info15 : (Tryd.prog.info? 15).map (fun i => (i.zero, i.size, i.bytes)) = some (some (.pointer none), 1, 8) := by kernel_rfl
set_option maxRecDepth 100000 in
theorem zero16 (w : World) : (zeroValue 16).run Tryd.prog w = .ok (.pointer none) w := by
  simp only [zeroValue, Sem.run_bind, Tryd.typeInfo16, Result.andThen_ok]; rfl
theorem info16 : (Tryd.prog.info? 16).map (fun i => (i.zero, i.size, i.bytes)) = some (some (.pointer none), 1, 8) := by kernel_rfl
set_option maxRecDepth 100000 in
theorem zero17 (w : World) : (zeroValue 17).run Tryd.prog w = .ok (.pointer none) w := by
  simp only [zeroValue, Sem.run_bind, Tryd.typeInfo17, Result.andThen_ok]; rfl
theorem info17 : (Tryd.prog.info? 17).map (fun i => (i.zero, i.size, i.bytes)) = some (some (.pointer none), 1, 8) := by kernel_rfl
set_option maxRecDepth 100000 in
theorem zero18 (w : World) : (zeroValue 18).run Tryd.prog w = .ok (.agg #[.pointer none]) w := by
  simp only [zeroValue, Sem.run_bind, Tryd.typeInfo18, Result.andThen_ok]; rfl
theorem info18 : (Tryd.prog.info? 18).map (fun i => (i.zero, i.size, i.bytes)) = some (some (.agg #[.pointer none]), 1, 8) := by kernel_rfl
set_option maxRecDepth 100000 in
theorem zero19 (w : World) : (zeroValue 19).run Tryd.prog w = .ok (.agg #[.pointer none]) w := by
  simp only [zeroValue, Sem.run_bind, Tryd.typeInfo19, Result.andThen_ok]; rfl
theorem info19 : (Tryd.prog.info? 19).map (fun i => (i.zero, i.size, i.bytes)) = some (some (.agg #[.pointer none]), 1, 8) := by kernel_rfl
set_option maxRecDepth 100000 in
theorem zero21 (w : World) : (zeroValue 21).run Tryd.prog w = .ok (.int .i32 0) w := by
  simp only [zeroValue, Sem.run_bind, Tryd.typeInfo21, Result.andThen_ok]; rfl
theorem info21 : (Tryd.prog.info? 21).map (fun i => (i.zero, i.size, i.bytes)) = some (some (.int .i32 0), 1, 4) := by kernel_rfl
set_option maxRecDepth 100000 in
theorem zero24 (w : World) : (zeroValue 24).run Tryd.prog w = .ok (.slice none 0 0) w := by
  simp only [zeroValue, Sem.run_bind, Tryd.typeInfo24, Result.andThen_ok]; rfl
theorem info24 : (Tryd.prog.info? 24).map (fun i => (i.zero, i.size, i.bytes)) = some (some (.slice none 0 0), 1, 24) := by kernel_rfl
set_option maxRecDepth 100000 in
theorem zero25 (w : World) : (zeroValue 25).run Tryd.prog w = .ok (.agg #[.string ⟨#[]⟩, .string ⟨#[]⟩, .slice none 0 0]) w := by
  simp only [zeroValue, Sem.run_bind, Tryd.typeInfo25, Result.andThen_ok]; rfl
theorem info25 : (Tryd.prog.info? 25).map (fun i => (i.zero, i.size, i.bytes)) = some (some (.agg #[.string ⟨#[]⟩, .string ⟨#[]⟩, .slice none 0 0]), 3, 56) := by kernel_rfl
set_option maxRecDepth 100000 in
theorem zero26 (w : World) : (zeroValue 26).run Tryd.prog w = .ok (.agg #[.string ⟨#[]⟩, .string ⟨#[]⟩, .slice none 0 0]) w := by
  simp only [zeroValue, Sem.run_bind, Tryd.typeInfo26, Result.andThen_ok]; rfl
theorem info26 : (Tryd.prog.info? 26).map (fun i => (i.zero, i.size, i.bytes)) = some (some (.agg #[.string ⟨#[]⟩, .string ⟨#[]⟩, .slice none 0 0]), 3, 56) := by kernel_rfl
set_option maxRecDepth 100000 in
theorem zero34 (w : World) : (zeroValue 34).run Tryd.prog w = .ok (.slice none 0 0) w := by
  simp only [zeroValue, Sem.run_bind, Tryd.typeInfo34, Result.andThen_ok]; rfl
theorem info34 : (Tryd.prog.info? 34).map (fun i => (i.zero, i.size, i.bytes)) = some (some (.slice none 0 0), 1, 24) := by kernel_rfl
set_option maxRecDepth 100000 in
theorem zero35 (w : World) : (zeroValue 35).run Tryd.prog w = .ok (.agg #[.string ⟨#[]⟩, .string ⟨#[]⟩]) w := by
  simp only [zeroValue, Sem.run_bind, Tryd.typeInfo35, Result.andThen_ok]; rfl
theorem info35 : (Tryd.prog.info? 35).map (fun i => (i.zero, i.size, i.bytes)) = some (some (.agg #[.string ⟨#[]⟩, .string ⟨#[]⟩]), 2, 32) := by kernel_rfl
set_option maxRecDepth 100000 in
theorem zero36 (w : World) : (zeroValue 36).run Tryd.prog w = .ok (.agg #[.string ⟨#[]⟩, .string ⟨#[]⟩]) w := by
  simp only [zeroValue, Sem.run_bind, Tryd.typeInfo36, Result.andThen_ok]; rfl
theorem info36 : (Tryd.prog.info? 36).map (fun i => (i.zero, i.size, i.bytes)) = some (some (.agg #[.string ⟨#[]⟩, .string ⟨#[]⟩]), 2, 32) := by kernel_rfl
set_option maxRecDepth 100000 in
theorem zero37 (w : World) : (zeroValue 37).run Tryd.prog w = .ok (.slice none 0 0) w := by
  simp only [zeroValue, Sem.run_bind, Tryd.typeInfo37, Result.andThen_ok]; rfl
theorem info37 : (Tryd.prog.info? 37).map (fun i => (i.zero, i.size, i.bytes)) = some (some (.slice none 0 0), 1, 24) := by kernel_rfl
set_option maxRecDepth 100000 in
theorem zero38 (w : World) : (zeroValue 38).run Tryd.prog w = .ok (.slice none 0 0) w := by
  simp only [zeroValue, Sem.run_bind, Tryd.typeInfo38, Result.andThen_ok]; rfl
theorem info38 : (Tryd.prog.info? 38).map (fun i => (i.zero, i.size, i.bytes)) = some (some (.slice none 0 0), 1, 24) := by kernel_rfl
set_option maxRecDepth 100000 in
theorem zero43 (w : World) : (zeroValue 43).run Tryd.prog w = .ok (.agg #[.slice none 0 0, .slice none 0 0, .int .i64 0, .int .i64 0]) w := by
  simp only [zeroValue, Sem.run_bind, Tryd.typeInfo43, Result.andThen_ok]; rfl
theorem info43 : (Tryd.prog.info? 43).map (fun i => (i.zero, i.size, i.bytes)) = some (some (.agg #[.slice none 0 0, .slice none 0 0, .int .i64 0, .int .i64 0]), 4, 64) := by kernel_rfl
set_option maxRecDepth 100000 in
theorem zero44 (w : World) : (zeroValue 44).run Tryd.prog w = .ok (.agg #[.slice none 0 0, .slice none 0 0, .int .i64 0, .int .i64 0]) w := by
  simp only [zeroValue, Sem.run_bind, Tryd.typeInfo44, Result.andThen_ok]; rfl
theorem info44 : (Tryd.prog.info? 44).map (fun i => (i.zero, i.size, i.bytes)) = some (some (.agg #[.slice none 0 0, .slice none 0 0, .int .i64 0, .int .i64 0]), 4, 64) := by kernel_rfl
set_option maxRecDepth 100000 in
theorem zero45 (w : World) : (zeroValue 45).run Tryd.prog w = .ok (.agg #[.int .i64 0, .int .i64 0]) w := by
  simp only [zeroValue, Sem.run_bind, Tryd.typeInfo45, Result.andThen_ok]; rfl
theorem info45 : (Tryd.prog.info? 45).map (fun i => (i.zero, i.size, i.bytes)) = some (some (.agg #[.int .i64 0, .int .i64 0]), 2, 16) := by kernel_rfl
set_option maxRecDepth 100000 in
theorem zero46 (w : World) : (zeroValue 46).run Tryd.prog w = .ok (.agg #[.int .i64 0, .int .i64 0]) w := by
  simp only [zeroValue, Sem.run_bind, Tryd.typeInfo46, Result.andThen_ok]; rfl
theorem info46 : (Tryd.prog.info? 46).map (fun i => (i.zero, i.size, i.bytes)) = some (some (.agg #[.int .i64 0, .int .i64 0]), 2, 16) := by kernel_rfl
set_option maxRecDepth 100000 in
theorem zero49 (w : World) : (zeroValue 49).run Tryd.prog w = .ok (.int .i64 0) w := by
  simp only [zeroValue, Sem.run_bind, Tryd.typeInfo49, Result.andThen_ok]; rfl
theorem info49 : (Tryd.prog.info? 49).map (fun i => (i.zero, i.size, i.bytes)) = some (some (.int .i64 0), 1, 8) := by kernel_rfl
set_option maxRecDepth 100000 in
theorem zero65 (w : World) : (zeroValue 65).run Tryd.prog w = .ok (.slice none 0 0) w := by
  simp only [zeroValue, Sem.run_bind, Tryd.typeInfo65, Result.andThen_ok]; rfl
theorem info65 : (Tryd.prog.info? 65).map (fun i => (i.zero, i.size, i.bytes)) = some (some (.slice none 0 0), 1, 24) := by kernel_rfl
set_option maxRecDepth 100000 in
theorem zero84 (w : World) : (zeroValue 84).run Tryd.prog w = .ok (.pointer none) w := by
  simp only [zeroValue, Sem.run_bind, Tryd.typeInfo84, Result.andThen_ok]; rfl
theorem info84 : (Tryd.prog.info? 84).map (fun i => (i.zero, i.size, i.bytes)) = some (some (.pointer none), 1, 8) := by kernel_rfl
set_option maxRecDepth 100000 in
theorem zero85 (w : World) : (zeroValue 85).run Tryd.prog w = .ok (.agg #[.pointer none, .slice none 0 0]) w := by
  simp only [zeroValue, Sem.run_bind, Tryd.typeInfo85, Result.andThen_ok]; rfl
theorem info85 : (Tryd.prog.info? 85).map (fun i => (i.zero, i.size, i.bytes)) = some (some (.agg #[.pointer none, .slice none 0 0]), 2, 32) := by kernel_rfl
set_option maxRecDepth 100000 in
theorem zero86 (w : World) : (zeroValue 86).run Tryd.prog w = .ok (.agg #[.pointer none, .slice none 0 0]) w := by
  simp only [zeroValue, Sem.run_bind, Tryd.typeInfo86, Result.andThen_ok]; rfl
theorem info86 : (Tryd.prog.info? 86).map (fun i => (i.zero, i.size, i.bytes)) = some (some (.agg #[.pointer none, .slice none 0 0]), 2, 32) := by kernel_rfl
set_option maxRecDepth 100000 in
theorem zero94 (w : World) : (zeroValue 94).run Tryd.prog w = .ok (.int .u64 0) w := by
  simp only [zeroValue, Sem.run_bind, Tryd.typeInfo94, Result.andThen_ok]; rfl
theorem info94 : (Tryd.prog.info? 94).map (fun i => (i.zero, i.size, i.bytes)) = some (some (.int .u64 0), 1, 8) := by kernel_rfl
set_option maxRecDepth 100000 in
theorem zero100 (w : World) : (zeroValue 100).run Tryd.prog w = .ok (.agg #[.bool false, .bool false, .bool false, .bool false, .bool false, .bool false, .bool false, .bool false, .bool false, .bool false, .bool false, .bool false, .bool false, .bool false, .bool false, .bool false, .bool false, .bool false, .bool false, .bool false, .bool false, .bool false, .bool false, .bool false, .bool false, .bool false, .bool false, .bool false, .bool false, .bool false, .bool false, .bool false, .bool false, .bool false, .bool false, .bool false, .bool false, .bool false, .bool false, .bool false, .bool false, .bool false, .bool false, .bool false, .bool false, .bool false, .bool false, .bool false, .bool false, .bool false, .bool false, .bool false, .bool false, .bool false, .bool false, .bool false, .bool false, .bool false, .bool false, .bool false, .bool false, .bool false, .bool false, .bool false, .bool false, .bool false, .bool false, .bool false, .bool false, .bool false, .bool false, .bool false, .bool false, .bool false, .bool false, .bool false, .bool false, .bool false, .bool false, .bool false, .bool false, .bool false, .bool false, .bool false, .bool false, .bool false, .bool false, .bool false, .bool false, .bool false, .bool false, .bool false, .bool false, .bool false, .bool false, .bool false, .bool false, .bool false, .bool false, .bool false, .bool false, .bool false, .bool false, .bool false, .bool false, .bool false, .bool false, .bool false, .bool false, .bool false, .bool false, .bool false, .bool false, .bool false, .bool false, .bool false, .bool false, .bool false, .bool false, .bool false, .bool false, .bool false, .bool false, .bool false, .bool false, .bool false, .bool false, .bool false, .bool false, .bool false, .bool false, .bool false, .bool false, .bool false, .bool false, .bool false, .bool false, .bool false, .bool false, .bool false, .bool false, .bool false, .bool false, .bool false, .bool false, .bool false, .bool false, .bool false, .bool false, .bool false, .bool false, .bool false, .bool false, .bool false, .bool false, .bool false, .bool false, .bool false, .bool false, .bool false, .bool false, .bool false, .bool false, .bool false, .bool false, .bool false, .bool false, .bool false, .bool false, .bool false, .bool false, .bool false, .bool false, .bool false, .bool false, .bool false, .bool false, .bool false, .bool false, .bool false, .bool false, .bool false, .bool false, .bool false, .bool false, .bool false, .bool false, .bool false, .bool false, .bool false, .bool false, .bool false, .bool false, .bool false, .bool false, .bool false, .bool false, .bool false, .bool false, .bool false, .bool false, .bool false, .bool false, .bool false, .bool false, .bool false, .bool false, .bool false, .bool false, .bool false, .bool false, .bool false, .bool false, .bool false, .bool false, .bool false, .bool false, .bool false, .bool false, .bool false, .bool false, .bool false, .bool false, .bool false, .bool false, .bool false, .bool false, .bool false, .bool false, .bool false, .bool false, .bool false, .bool false, .bool false, .bool false, .bool false, .bool false, .bool false, .bool false, .bool false, .bool false, .bool false, .bool false, .bool false, .bool false, .bool false, .bool false, .bool false, .bool false, .bool false, .bool false, .bool false, .bool false, .bool false, .bool false, .bool false]) w := by
  simp only [zeroValue, Sem.run_bind, Tryd.typeInfo100, Result.andThen_ok]; rfl
theorem info100 : (Tryd.prog.info? 100).map (fun i => (i.zero, i.size, i.bytes)) = some (some (.agg #[.bool false, .bool false, .bool false, .bool false, .bool false, .bool false, .bool false, .bool false, .bool false, .bool false, .bool false, .bool false, .bool false, .bool false, .bool false, .bool false, .bool false, .bool false, .bool false, .bool false, .bool false, .bool false, .bool false, .bool false, .bool false, .bool false, .bool false, .bool false, .bool false, .bool false, .bool false, .bool false, .bool false, .bool false, .bool false, .bool false, .bool false, .bool false, .bool false, .bool false, .bool false, .bool false, .bool false, .bool false, .bool false, .bool false, .bool false, .bool false, .bool false, .bool false, .bool false, .bool false, .bool false, .bool false, .bool false, .bool false, .bool false, .bool false, .bool false, .bool false, .bool false, .bool false, .bool false, .bool false, .bool false, .bool false, .bool false, .bool false, .bool false, .bool false, .bool false, .bool false, .bool false, .bool false, .bool false, .bool false, .bool false, .bool false, .bool false, .bool false, .bool false, .bool false, .bool false, .bool false, .bool false, .bool false, .bool false, .bool false, .bool false, .bool false, .bool false, .bool false, .bool false, .bool false, .bool false, .bool false, .bool false, .bool false, .bool false, .bool false, .bool false, .bool false, .bool false, .bool false, .bool false, .bool false, .bool false, .bool false, .bool false, .bool false, .bool false, .bool false, .bool false, .bool false, .bool false, .bool false, .bool false, .bool false, .bool false, .bool false, .bool false, .bool false, .bool false, .bool false, .bool false, .bool false, .bool false, .bool false, .bool false, .bool false, .bool false, .bool false, .bool false, .bool false, .bool false, .bool false, .bool false, .bool false, .bool false, .bool false, .bool false, .bool false, .bool false, .bool false, .bool false, .bool false, .bool false, .bool false, .bool false, .bool false, .bool false, .bool false, .bool false, .bool false, .bool false, .bool false, .bool false, .bool false, .bool false, .bool false, .bool false, .bool false, .bool false, .bool false, .bool false, .bool false, .bool false, .bool false, .bool false, .bool false, .bool false, .bool false, .bool false, .bool false, .bool false, .bool false, .bool false, .bool false, .bool false, .bool false, .bool false, .bool false, .bool false, .bool false, .bool false, .bool false, .bool false, .bool false, .bool false, .bool false, .bool false, .bool false, .bool false, .bool false, .bool false, .bool false, .bool false, .bool false, .bool false, .bool false, .bool false, .bool false, .bool false, .bool false, .bool false, .bool false, .bool false, .bool false, .bool false, .bool false, .bool false, .bool false, .bool false, .bool false, .bool false, .bool false, .bool false, .bool false, .bool false, .bool false, .bool false, .bool false, .bool false, .bool false, .bool false, .bool false, .bool false, .bool false, .bool false, .bool false, .bool false, .bool false, .bool false, .bool false, .bool false, .bool false, .bool false, .bool false, .bool false, .bool false, .bool false, .bool false, .bool false, .bool false, .bool false, .bool false, .bool false, .bool false, .bool false, .bool false, .bool false, .bool false, .bool false, .bool false, .bool false, .bool false]), 256, 256) := by kernel_rfl
set_option maxRecDepth 100000 in
theorem zero101 (w : World) : (zeroValue 101).run Tryd.prog w = .ok (.agg #[.bool false, .bool false, .bool false, .bool false, .bool false, .bool false, .bool false, .bool false, .bool false, .bool false, .bool false, .bool false, .bool false, .bool false, .bool false, .bool false, .bool false, .bool false, .bool false, .bool false, .bool false, .bool false, .bool false, .bool false, .bool false, .bool false, .bool false, .bool false, .bool false, .bool false, .bool false, .bool false, .bool false, .bool false, .bool false, .bool false, .bool false, .bool false, .bool false, .bool false, .bool false, .bool false, .bool false, .bool false, .bool false, .bool false, .bool false, .bool false, .bool false, .bool false, .bool false, .bool false, .bool false, .bool false, .bool false, .bool false, .bool false, .bool false, .bool false, .bool false, .bool false, .bool false, .bool false, .bool false, .bool false, .bool false, .bool false, .bool false, .bool false, .bool false, .bool false, .bool false, .bool false, .bool false, .bool false, .bool false, .bool false, .bool false, .bool false, .bool false, .bool false, .bool false, .bool false, .bool false, .bool false, .bool false, .bool false, .bool false, .bool false, .bool false, .bool false, .bool false, .bool false, .bool false, .bool false, .bool false, .bool false, .bool false, .bool false, .bool false, .bool false, .bool false, .bool false, .bool false, .bool false, .bool false, .bool false, .bool false, .bool false, .bool false, .bool false, .bool false, .bool false, .bool false, .bool false, .bool false, .bool false, .bool false, .bool false, .bool false, .bool false, .bool false, .bool false, .bool false, .bool false, .bool false, .bool false, .bool false, .bool false, .bool false, .bool false, .bool false, .bool false, .bool false, .bool false, .bool false, .bool false, .bool false, .bool false, .bool false, .bool false, .bool false, .bool false, .bool false, .bool false, .bool false, .bool false, .bool false, .bool false, .bool false, .bool false, .bool false, .bool false, .bool false, .bool false, .bool false, .bool false, .bool false, .bool false, .bool false, .bool false, .bool false, .bool false, .bool false, .bool false, .bool false, .bool false, .bool false, .bool false, .bool false, .bool false, .bool false, .bool false, .bool false, .bool false, .bool false, .bool false, .bool false, .bool false, .bool false, .bool false, .bool false, .bool false, .bool false, .bool false, .bool false, .bool false, .bool false, .bool false, .bool false, .bool false, .bool false, .bool false, .bool false, .bool false, .bool false, .bool false, .bool false, .bool false, .bool false, .bool false, .bool false, .bool false, .bool false, .bool false, .bool false, .bool false, .bool false, .bool false, .bool false, .bool false, .bool false, .bool false, .bool false, .bool false, .bool false, .bool false, .bool false, .bool false, .bool false, .bool false, .bool false, .bool false, .bool false, .bool false, .bool false, .bool false, .bool false, .bool false, .bool false, .bool false, .bool false, .bool false, .bool false, .bool false, .bool false, .bool false, .bool false, .bool false, .bool false, .bool false, .bool false, .bool false, .bool false, .bool false, .bool false, .bool false, .bool false, .bool false, .bool false, .bool false, .bool false, .bool false, .bool false, .bool false, .bool false]) w := by
  simp only [zeroValue, Sem.run_bind, Tryd.typeInfo101, Result.andThen_ok]; rfl
theorem info101 : (Tryd.prog.info? 101).map (fun i => (i.zero, i.size, i.bytes)) = some (some (.agg #[.bool false, .bool false, .bool false, .bool false, .bool false, .bool false, .bool false, .bool false, .bool false, .bool false, .bool false, .bool false, .bool false, .bool false, .bool false, .bool false, .bool false, .bool false, .bool false, .bool false, .bool false, .bool false, .bool false, .bool false, .bool false, .bool false, .bool false, .bool false, .bool false, .bool false, .bool false, .bool false, .bool false, .bool false, .bool false, .bool false, .bool false, .bool false, .bool false, .bool false, .bool false, .bool false, .bool false, .bool false, .bool false, .bool false, .bool false, .bool false, .bool false, .bool false, .bool false, .bool false, .bool false, .bool false, .bool false, .bool false, .bool false, .bool false, .bool false, .bool false, .bool false, .bool false, .bool false, .bool false, .bool false, .bool false, .bool false, .bool false, .bool false, .bool false, .bool false, .bool false, .bool false, .bool false, .bool false, .bool false, .bool false, .bool false, .bool false, .bool false, .bool false, .bool false, .bool false, .bool false, .bool false, .bool false, .bool false, .bool false, .bool false, .bool false, .bool false, .bool false, .bool false, .bool false, .bool false, .bool false, .bool false, .bool false, .bool false, .bool false, .bool false, .bool false, .bool false, .bool false, .bool false, .bool false, .bool false, .bool false, .bool false, .bool false, .bool false, .bool false, .bool false, .bool false, .bool false, .bool false, .bool false, .bool false, .bool false, .bool false, .bool false, .bool false, .bool false, .bool false, .bool false, .bool false, .bool false, .bool false, .bool false, .bool false, .bool false, .bool false, .bool false, .bool false, .bool false, .bool false, .bool false, .bool false, .bool false, .bool false, .bool false, .bool false, .bool false, .bool false, .bool false, .bool false, .bool false, .bool false, .bool false, .bool false, .bool false, .bool false, .bool false, .bool false, .bool false, .bool false, .bool false, .bool false, .bool false, .bool false, .bool false, .bool false, .bool false, .bool false, .bool false, .bool false, .bool false, .bool false, .bool false, .bool false, .bool false, .bool false, .bool false, .bool false, .bool false, .bool false, .bool false, .bool false, .bool false, .bool false, .bool false, .bool false, .bool false, .bool false, .bool false, .bool false, .bool false, .bool false, .bool false, .bool false, .bool false, .bool false, .bool false, .bool false, .bool false, .bool false, .bool false, .bool false, .bool false, .bool false, .bool false, .bool false, .bool false, .bool false, .bool false, .bool false, .bool false, .bool false, .bool false, .bool false, .bool false, .bool false, .bool false, .bool false, .bool false, .bool false, .bool false, .bool false, .bool false, .bool false, .bool false, .bool false, .bool false, .bool false, .bool false, .bool false, .bool false, .bool false, .bool false, .bool false, .bool false, .bool false, .bool false, .bool false, .bool false, .bool false, .bool false, .bool false, .bool false, .bool false, .bool false, .bool false, .bool false, .bool false, .bool false, .bool false, .bool false, .bool false, .bool false, .bool false, .bool false, .bool false, .bool false, .bool false, .bool false, .bool false]), 256, 256) := by kernel_rfl
set_option maxRecDepth 100000 in
theorem zero105 (w : World) : (zeroValue 105).run Tryd.prog w = .ok (.pointer none) w := by
  simp only [zeroValue, Sem.run_bind, Tryd.typeInfo105, Result.andThen_ok]; rfl
theorem info105 : (Tryd.prog.info? 105).map (fun i => (i.zero, i.size, i.bytes)) = some (some (.pointer none), 1, 8) := by kernel_rfl
set_option maxRecDepth 100000 in
theorem zero109 (w : World) : (zeroValue 109).run Tryd.prog w = .ok (.pointer none) w := by
  simp only [zeroValue, Sem.run_bind, Tryd.typeInfo109, Result.andThen_ok]; rfl
theorem info109 : (Tryd.prog.info? 109).map (fun i => (i.zero, i.size, i.bytes)) = some (some (.pointer none), 1, 8) := by kernel_rfl
set_option maxRecDepth 100000 in
theorem zero111 (w : World) : (zeroValue 111).run Tryd.prog w = .ok (.int .i64 0) w := by
  simp only [zeroValue, Sem.run_bind, Tryd.typeInfo111, Result.andThen_ok]; rfl
theorem info111 : (Tryd.prog.info? 111).map (fun i => (i.zero, i.size, i.bytes)) = some (some (.int .i64 0), 1, 8) := by kernel_rfl
set_option maxRecDepth 100000 in
theorem zero120 (w : World) : (zeroValue 120).run Tryd.prog w = .ok (.int .u32 0) w := by
  simp only [zeroValue, Sem.run_bind, Tryd.typeInfo120, Result.andThen_ok]; rfl
theorem info120 : (Tryd.prog.info? 120).map (fun i => (i.zero, i.size, i.bytes)) = some (some (.int .u32 0), 1, 4) := by kernel_rfl
set_option maxRecDepth 100000 in
theorem zero122 (w : World) : (zeroValue 122).run Tryd.prog w = .ok (.int .u64 0) w := by
  simp only [zeroValue, Sem.run_bind, Tryd.typeInfo122, Result.andThen_ok]; rfl
theorem info122 : (Tryd.prog.info? 122).map (fun i => (i.zero, i.size, i.bytes)) = some (some (.int .u64 0), 1, 8) := by kernel_rfl
set_option maxRecDepth 100000 in
theorem zero130 (w : World) : (zeroValue 130).run Tryd.prog w = .ok (.int .u64 0) w := by
  simp only [zeroValue, Sem.run_bind, Tryd.typeInfo130, Result.andThen_ok]; rfl
theorem info130 : (Tryd.prog.info? 130).map (fun i => (i.zero, i.size, i.bytes)) = some (some (.int .u64 0), 1, 8) := by kernel_rfl
set_option maxRecDepth 100000 in
theorem zero134 (w : World) : (zeroValue 134).run Tryd.prog w = .ok (.pointer none) w := by
  simp only [zeroValue, Sem.run_bind, Tryd.typeInfo134, Result.andThen_ok]; rfl
theorem info134 : (Tryd.prog.info? 134).map (fun i => (i.zero, i.size, i.bytes)) = some (some (.pointer none), 1, 8) := by kernel_rfl
set_option maxRecDepth 100000 in
theorem zero140 (w : World) : (zeroValue 140).run Tryd.prog w = .ok (.pointer none) w := by
  simp only [zeroValue, Sem.run_bind, Tryd.typeInfo140, Result.andThen_ok]; rfl
theorem info140 : (Tryd.prog.info? 140).map (fun i => (i.zero, i.size, i.bytes)) = some (some (.pointer none), 1, 8) := by kernel_rfl
set_option maxRecDepth 100000 in
theorem zero142 (w : World) : (zeroValue 142).run Tryd.prog w = .ok (.agg #[.int .u8 0, .int .u8 0, .int .u8 0, .int .u8 0, .int .u8 0, .int .u8 0, .int .u8 0, .int .u8 0, .int .u8 0, .int .u8 0, .int .u8 0, .int .u8 0, .int .u8 0, .int .u8 0, .int .u8 0, .int .u8 0, .int .u8 0, .int .u8 0, .int .u8 0, .int .u8 0, .int .u8 0, .int .u8 0, .int .u8 0, .int .u8 0, .int .u8 0, .int .u8 0, .int .u8 0, .int .u8 0, .int .u8 0, .int .u8 0, .int .u8 0, .int .u8 0, .int .u8 0, .int .u8 0, .int .u8 0, .int .u8 0, .int .u8 0, .int .u8 0, .int .u8 0, .int .u8 0, .int .u8 0, .int .u8 0, .int .u8 0, .int .u8 0, .int .u8 0, .int .u8 0, .int .u8 0, .int .u8 0, .int .u8 0, .int .u8 0, .int .u8 0, .int .u8 0, .int .u8 0, .int .u8 0, .int .u8 0, .int .u8 0, .int .u8 0, .int .u8 0, .int .u8 0, .int .u8 0, .int .u8 0, .int .u8 0, .int .u8 0, .int .u8 0, .int .u8 0, .int .u8 0, .int .u8 0, .int .u8 0, .int .u8 0, .int .u8 0, .int .u8 0, .int .u8 0, .int .u8 0, .int .u8 0, .int .u8 0, .int .u8 0, .int .u8 0, .int .u8 0, .int .u8 0, .int .u8 0, .int .u8 0, .int .u8 0, .int .u8 0, .int .u8 0, .int .u8 0, .int .u8 0, .int .u8 0, .int .u8 0, .int .u8 0, .int .u8 0, .int .u8 0, .int .u8 0, .int .u8 0, .int .u8 0, .int .u8 0, .int .u8 0, .int .u8 0, .int .u8 0, .int .u8 0, .int .u8 0, .int .u8 0, .int .u8 0, .int .u8 0, .int .u8 0, .int .u8 0, .int .u8 0, .int .u8 0, .int .u8 0, .int .u8 0, .int .u8 0, .int .u8 0, .int .u8 0, .int .u8 0, .int .u8 0, .int .u8 0, .int .u8 0, .int .u8 0, .int .u8 0, .int .u8 0, .int .u8 0, .int .u8 0, .int .u8 0, .int .u8 0, .int .u8 0, .int .u8 0, .int .u8 0, .int .u8 0, .int .u8 0, .int .u8 0, .int .u8 0, .int .u8 0, .int .u8 0, .int .u8 0, .int .u8 0, .int .u8 0, .int .u8 0, .int .u8 0, .int .u8 0, .int .u8 0, .int .u8 0, .int .u8 0, .int .u8 0, .int .u8 0, .int .u8 0, .int .u8 0, .int .u8 0, .int .u8 0, .int .u8 0, .int .u8 0, .int .u8 0, .int .u8 0, .int .u8 0, .int .u8 0, .int .u8 0, .int .u8 0, .int .u8 0, .int .u8 0, .int .u8 0, .int .u8 0, .int .u8 0, .int .u8 0, .int .u8 0, .int .u8 0, .int .u8 0, .int .u8 0, .int .u8 0, .int .u8 0, .int .u8 0, .int .u8 0, .int .u8 0, .int .u8 0, .int .u8 0, .int .u8 0, .int .u8 0, .int .u8 0, .int .u8 0, .int .u8 0, .int .u8 0, .int .u8 0, .int .u8 0, .int .u8 0, .int .u8 0, .int .u8 0, .int .u8 0, .int .u8 0, .int .u8 0, .int .u8 0, .int .u8 0, .int .u8 0, .int .u8 0, .int .u8 0, .int .u8 0, .int .u8 0, .int .u8 0, .int .u8 0, .int .u8 0, .int .u8 0, .int .u8 0, .int .u8 0, .int .u8 0, .int .u8 0, .int .u8 0, .int .u8 0, .int .u8 0, .int .u8 0, .int .u8 0, .int .u8 0, .int .u8 0, .int .u8 0, .int .u8 0, .int .u8 0, .int .u8 0, .int .u8 0, .int .u8 0, .int .u8 0, .int .u8 0, .int .u8 0, .int .u8 0, .int .u8 0, .int .u8 0, .int .u8 0, .int .u8 0, .int .u8 0, .int .u8 0, .int .u8 0, .int .u8 0, .int .u8 0, .int .u8 0, .int .u8 0, .int .u8 0, .int .u8 0, .int .u8 0, .int .u8 0, .int .u8 0, .int .u8 0, .int .u8 0, .int .u8 0, .int .u8 0, .int .u8 0, .int .u8 0, .int .u8 0, .int .u8 0, .int .u8 0, .int .u8 0, .int .u8 0, .int .u8 0, .int .u8 0, .int .u8 0, .int .u8 0, .int .u8 0, .int .u8 0, .int .u8 0, .int .u8 0, .int .u8 0, .int .u8 0, .int .u8 0]) w := by
  simp only [zeroValue, Sem.run_bind, Tryd.typeInfo142, Result.andThen_ok]; rfl
theorem info142 : (Tryd.prog.info? 142).map (fun i => (i.zero, i.size, i.bytes)) = some (some (.agg #[.int .u8 0, .int .u8 0, .int .u8 0, .int .u8 0, .int .u8 0, .int .u8 0, .int .u8 0, .int .u8 0, .int .u8 0, .int .u8 0, .int .u8 0, .int .u8 0, .int .u8 0, .int .u8 0, .int .u8 0, .int .u8 0, .int .u8 0, .int .u8 0, .int .u8 0, .int .u8 0, .int .u8 0, .int .u8 0, .int .u8 0, .int .u8 0, .int .u8 0, .int .u8 0, .int .u8 0, .int .u8 0, .int .u8 0, .int .u8 0, .int .u8 0, .int .u8 0, .int .u8 0, .int .u8 0, .int .u8 0, .int .u8 0, .int .u8 0, .int .u8 0, .int .u8 0, .int .u8 0, .int .u8 0, .int .u8 0, .int .u8 0, .int .u8 0, .int .u8 0, .int .u8 0, .int .u8 0, .int .u8 0, .int .u8 0, .int .u8 0, .int .u8 0, .int .u8 0, .int .u8 0, .int .u8 0, .int .u8 0, .int .u8 0, .int .u8 0, .int .u8 0, .int .u8 0, .int .u8 0, .int .u8 0, .int .u8 0, .int .u8 0, .int .u8 0, .int .u8 0, .int .u8 0, .int .u8 0, .int .u8 0, .int .u8 0, .int .u8 0, .int .u8 0, .int .u8 0, .int .u8 0, .int .u8 0, .int .u8 0, .int .u8 0, .int .u8 0, .int .u8 0, .int .u8 0, .int .u8 0, .int .u8 0, .int .u8 0, .int .u8 0, .int .u8 0, .int .u8 0, .int .u8 0, .int .u8 0, .int .u8 0, .int .u8 0, .int .u8 0, .int .u8 0, .int .u8 0, .int .u8 0, .int .u8 0, .int .u8 0, .int .u8 0, .int .u8 0, .int .u8 0, .int .u8 0, .int .u8 0, .int .u8 0, .int .u8 0, .int .u8 0, .int .u8 0, .int .u8 0, .int .u8 0, .int .u8 0, .int .u8 0, .int .u8 0, .int .u8 0, .int .u8 0, .int .u8 0, .int .u8 0, .int .u8 0, .int .u8 0, .int .u8 0, .int .u8 0, .int .u8 0, .int .u8 0, .int .u8 0, .int .u8 0, .int .u8 0, .int .u8 0, .int .u8 0, .int .u8 0, .int .u8 0, .int .u8 0, .int .u8 0, .int .u8 0, .int .u8 0, .int .u8 0, .int .u8 0, .int .u8 0, .int .u8 0, .int .u8 0, .int .u8 0, .int .u8 0, .int .u8 0, .int .u8 0, .int .u8 0, .int .u8 0, .int .u8 0, .int .u8 0, .int .u8 0, .int .u8 0, .int .u8 0, .int .u8 0, .int .u8 0, .int .u8 0, .int .u8 0, .int .u8 0, .int .u8 0, .int .u8 0, .int .u8 0, .int .u8 0, .int .u8 0, .int .u8 0, .int .u8 0, .int .u8 0, .int .u8 0, .int .u8 0, .int .u8 0, .int .u8 0, .int .u8 0, .int .u8 0, .int .u8 0, .int .u8 0, .int .u8 0, .int .u8 0, .int .u8 0, .int .u8 0, .int .u8 0, .int .u8 0, .int .u8 0, .int .u8 0, .int .u8 0, .int .u8 0, .int .u8 0, .int .u8 0, .int .u8 0, .int .u8 0, .int .u8 0, .int .u8 0, .int .u8 0, .int .u8 0, .int .u8 0, .int .u8 0, .int .u8 0, .int .u8 0, .int .u8 0, .int .u8 0, .int .u8 0, .int .u8 0, .int .u8 0, .int .u8 0, .int .u8 0, .int .u8 0, .int .u8 0, .int .u8 0, .int .u8 0, .int .u8 0, .int .u8 0, .int .u8 0, .int .u8 0, .int .u8 0, .int .u8 0, .int .u8 0, .int .u8 0, .int .u8 0, .int .u8 0, .int .u8 0, .int .u8 0, .int .u8 0, .int .u8 0, .int .u8 0, .int .u8 0, .int .u8 0, .int .u8 0, .int .u8 0, .int .u8 0, .int .u8 0, .int .u8 0, .int .u8 0, .int .u8 0, .int .u8 0, .int .u8 0, .int .u8 0, .int .u8 0, .int .u8 0, .int .u8 0, .int .u8 0, .int .u8 0, .int .u8 0, .int .u8 0, .int .u8 0, .int .u8 0, .int .u8 0, .int .u8 0, .int .u8 0, .int .u8 0, .int .u8 0, .int .u8 0, .int .u8 0, .int .u8 0, .int .u8 0, .int .u8 0, .int .u8 0, .int .u8 0, .int .u8 0, .int .u8 0, .int .u8 0, .int .u8 0, .int .u8 0, .int .u8 0, .int .u8 0, .int .u8 0]), 256, 256) := by kernel_rfl
set_option maxRecDepth 100000 in
theorem zero143 (w : World) : (zeroValue 143).run Tryd.prog w = .ok (.agg #[.int .u8 0, .int .u8 0]) w := by
  simp only [zeroValue, Sem.run_bind, Tryd.typeInfo143, Result.andThen_ok]; rfl
theorem info143 : (Tryd.prog.info? 143).map (fun i => (i.zero, i.size, i.bytes)) = some (some (.agg #[.int .u8 0, .int .u8 0]), 2, 2) := by kernel_rfl
set_option maxRecDepth 100000 in
theorem zero144 (w : World) : (zeroValue 144).run Tryd.prog w = .ok (.agg #[.int .u8 0, .int .u8 0]) w := by
  simp only [zeroValue, Sem.run_bind, Tryd.typeInfo144, Result.andThen_ok]; rfl
theorem info144 : (Tryd.prog.info? 144).map (fun i => (i.zero, i.size, i.bytes)) = some (some (.agg #[.int .u8 0, .int .u8 0]), 2, 2) := by kernel_rfl
set_option maxRecDepth 100000 in
theorem zero145 (w : World) : (zeroValue 145).run Tryd.prog w = .ok (.agg #[.int .u8 0, .int .u8 0, .int .u8 0, .int .u8 0, .int .u8 0, .int .u8 0, .int .u8 0, .int .u8 0, .int .u8 0, .int .u8 0, .int .u8 0, .int .u8 0, .int .u8 0, .int .u8 0, .int .u8 0, .int .u8 0, .int .u8 0, .int .u8 0, .int .u8 0, .int .u8 0, .int .u8 0, .int .u8 0, .int .u8 0, .int .u8 0, .int .u8 0, .int .u8 0, .int .u8 0, .int .u8 0, .int .u8 0, .int .u8 0, .int .u8 0, .int .u8 0]) w := by
  simp only [zeroValue, Sem.run_bind, Tryd.typeInfo145, Result.andThen_ok]; rfl
theorem info145 : (Tryd.prog.info? 145).map (fun i => (i.zero, i.size, i.bytes)) = some (some (.agg #[.int .u8 0, .int .u8 0, .int .u8 0, .int .u8 0, .int .u8 0, .int .u8 0, .int .u8 0, .int .u8 0, .int .u8 0, .int .u8 0, .int .u8 0, .int .u8 0, .int .u8 0, .int .u8 0, .int .u8 0, .int .u8 0, .int .u8 0, .int .u8 0, .int .u8 0, .int .u8 0, .int .u8 0, .int .u8 0, .int .u8 0, .int .u8 0, .int .u8 0, .int .u8 0, .int .u8 0, .int .u8 0, .int .u8 0, .int .u8 0, .int .u8 0, .int .u8 0]), 32, 32) := by kernel_rfl
set_option maxRecDepth 100000 in
theorem zero146 (w : World) : (zeroValue 146).run Tryd.prog w = .ok (.agg #[.int .u8 0, .int .u8 0, .int .u8 0, .int .u8 0, .int .u8 0, .int .u8 0, .int .u8 0, .int .u8 0, .int .u8 0, .int .u8 0, .int .u8 0, .int .u8 0, .int .u8 0, .int .u8 0, .int .u8 0, .int .u8 0, .int .u8 0, .int .u8 0, .int .u8 0, .int .u8 0, .int .u8 0, .int .u8 0, .int .u8 0, .int .u8 0]) w := by
  simp only [zeroValue, Sem.run_bind, Tryd.typeInfo146, Result.andThen_ok]; rfl
theorem info146 : (Tryd.prog.info? 146).map (fun i => (i.zero, i.size, i.bytes)) = some (some (.agg #[.int .u8 0, .int .u8 0, .int .u8 0, .int .u8 0, .int .u8 0, .int .u8 0, .int .u8 0, .int .u8 0, .int .u8 0, .int .u8 0, .int .u8 0, .int .u8 0, .int .u8 0, .int .u8 0, .int .u8 0, .int .u8 0, .int .u8 0, .int .u8 0, .int .u8 0, .int .u8 0, .int .u8 0, .int .u8 0, .int .u8 0, .int .u8 0]), 24, 24) := by kernel_rfl
set_option maxRecDepth 100000 in
theorem zero151 (w : World) : (zeroValue 151).run Tryd.prog w = .ok (.agg #[.int .u64 0, .int .u64 0, .int .u64 0, .int .u64 0, .int .u64 0, .int .u64 0, .int .u64 0, .int .u64 0, .int .u64 0, .int .u64 0, .int .u64 0, .int .u64 0, .int .u64 0, .int .u64 0, .int .u64 0, .int .u64 0, .int .u64 0, .int .u64 0, .int .u64 0, .int .u64 0]) w := by
  simp only [zeroValue, Sem.run_bind, Tryd.typeInfo151, Result.andThen_ok]; rfl
theorem info151 : (Tryd.prog.info? 151).map (fun i => (i.zero, i.size, i.bytes)) = some (some (.agg #[.int .u64 0, .int .u64 0, .int .u64 0, .int .u64 0, .int .u64 0, .int .u64 0, .int .u64 0, .int .u64 0, .int .u64 0, .int .u64 0, .int .u64 0, .int .u64 0, .int .u64 0, .int .u64 0, .int .u64 0, .int .u64 0, .int .u64 0, .int .u64 0, .int .u64 0, .int .u64 0]), 20, 160) := by kernel_rfl
set_option maxRecDepth 100000 in
theorem zero152 (w : World) : (zeroValue 152).run Tryd.prog w = .ok (.agg #[.int .u8 0, .int .u8 0, .int .u8 0, .int .u8 0, .int .u8 0, .int .u8 0, .int .u8 0, .int .u8 0, .int .u8 0, .int .u8 0, .int .u8 0, .int .u8 0, .int .u8 0, .int .u8 0, .int .u8 0, .int .u8 0, .int .u8 0, .int .u8 0, .int .u8 0, .int .u8 0, .int .u8 0, .int .u8 0, .int .u8 0, .int .u8 0, .int .u8 0, .int .u8 0, .int .u8 0, .int .u8 0, .int .u8 0, .int .u8 0, .int .u8 0, .int .u8 0, .int .u8 0, .int .u8 0, .int .u8 0, .int .u8 0, .int .u8 0, .int .u8 0, .int .u8 0, .int .u8 0, .int .u8 0, .int .u8 0, .int .u8 0, .int .u8 0, .int .u8 0, .int .u8 0, .int .u8 0, .int .u8 0, .int .u8 0, .int .u8 0, .int .u8 0, .int .u8 0, .int .u8 0, .int .u8 0, .int .u8 0, .int .u8 0, .int .u8 0, .int .u8 0, .int .u8 0, .int .u8 0, .int .u8 0, .int .u8 0, .int .u8 0, .int .u8 0, .int .u8 0]) w := by
  simp only [zeroValue, Sem.run_bind, Tryd.typeInfo152, Result.andThen_ok]; rfl
theorem info152 : (Tryd.prog.info? 152).map (fun i => (i.zero, i.size, i.bytes)) = some (some (.agg #[.int .u8 0, .int .u8 0, .int .u8 0, .int .u8 0, .int .u8 0, .int .u8 0, .int .u8 0, .int .u8 0, .int .u8 0, .int .u8 0, .int .u8 0, .int .u8 0, .int .u8 0, .int .u8 0, .int .u8 0, .int .u8 0, .int .u8 0, .int .u8 0, .int .u8 0, .int .u8 0, .int .u8 0, .int .u8 0, .int .u8 0, .int .u8 0, .int .u8 0, .int .u8 0, .int .u8 0, .int .u8 0, .int .u8 0, .int .u8 0, .int .u8 0, .int .u8 0, .int .u8 0, .int .u8 0, .int .u8 0, .int .u8 0, .int .u8 0, .int .u8 0, .int .u8 0, .int .u8 0, .int .u8 0, .int .u8 0, .int .u8 0, .int .u8 0, .int .u8 0, .int .u8 0, .int .u8 0, .int .u8 0, .int .u8 0, .int .u8 0, .int .u8 0, .int .u8 0, .int .u8 0, .int .u8 0, .int .u8 0, .int .u8 0, .int .u8 0, .int .u8 0, .int .u8 0, .int .u8 0, .int .u8 0, .int .u8 0, .int .u8 0, .int .u8 0, .int .u8 0]), 65, 65) := by kernel_rfl
set_option maxRecDepth 100000 in
theorem zero153 (w : World) : (zeroValue 153).run Tryd.prog w = .ok (.agg #[.int .u8 0, .int .u8 0, .int .u8 0, .int .u8 0, .int .u8 0, .int .u8 0, .int .u8 0, .int .u8 0, .int .u8 0, .int .u8 0, .int .u8 0, .int .u8 0, .int .u8 0, .int .u8 0, .int .u8 0, .int .u8 0, .int .u8 0, .int .u8 0, .int .u8 0, .int .u8 0, .int .u8 0, .int .u8 0, .int .u8 0, .int .u8 0, .int .u8 0, .int .u8 0, .int .u8 0, .int .u8 0, .int .u8 0, .int .u8 0, .int .u8 0, .int .u8 0]) w := by
  simp only [zeroValue, Sem.run_bind, Tryd.typeInfo153, Result.andThen_ok]; rfl
theorem info153 : (Tryd.prog.info? 153).map (fun i => (i.zero, i.size, i.bytes)) = some (some (.agg #[.int .u8 0, .int .u8 0, .int .u8 0, .int .u8 0, .int .u8 0, .int .u8 0, .int .u8 0, .int .u8 0, .int .u8 0, .int .u8 0, .int .u8 0, .int .u8 0, .int .u8 0, .int .u8 0, .int .u8 0, .int .u8 0, .int .u8 0, .int .u8 0, .int .u8 0, .int .u8 0, .int .u8 0, .int .u8 0, .int .u8 0, .int .u8 0, .int .u8 0, .int .u8 0, .int .u8 0, .int .u8 0, .int .u8 0, .int .u8 0, .int .u8 0, .int .u8 0]), 32, 32) := by kernel_rfl
set_option maxRecDepth 100000 in
theorem zero154 (w : World) : (zeroValue 154).run Tryd.prog w = .ok (.agg #[.int .u8 0, .int .u8 0, .int .u8 0, .int .u8 0, .int .u8 0, .int .u8 0, .int .u8 0, .int .u8 0, .int .u8 0, .int .u8 0, .int .u8 0, .int .u8 0, .int .u8 0, .int .u8 0, .int .u8 0, .int .u8 0, .int .u8 0, .int .u8 0, .int .u8 0, .int .u8 0, .int .u8 0, .int .u8 0, .int .u8 0, .int .u8 0, .int .u8 0, .int .u8 0, .int .u8 0, .int .u8 0, .int .u8 0, .int .u8 0, .int .u8 0, .int .u8 0, .int .u8 0, .int .u8 0, .int .u8 0, .int .u8 0, .int .u8 0, .int .u8 0, .int .u8 0, .int .u8 0, .int .u8 0, .int .u8 0, .int .u8 0, .int .u8 0, .int .u8 0, .int .u8 0, .int .u8 0, .int .u8 0, .int .u8 0, .int .u8 0, .int .u8 0, .int .u8 0, .int .u8 0, .int .u8 0, .int .u8 0, .int .u8 0, .int .u8 0, .int .u8 0, .int .u8 0, .int .u8 0, .int .u8 0, .int .u8 0, .int .u8 0, .int .u8 0]) w := by
  simp only [zeroValue, Sem.run_bind, Tryd.typeInfo154, Result.andThen_ok]; rfl
theorem info154 : (Tryd.prog.info? 154).map (fun i => (i.zero, i.size, i.bytes)) = some (some (.agg #[.int .u8 0, .int .u8 0, .int .u8 0, .int .u8 0, .int .u8 0, .int .u8 0, .int .u8 0, .int .u8 0, .int .u8 0, .int .u8 0, .int .u8 0, .int .u8 0, .int .u8 0, .int .u8 0, .int .u8 0, .int .u8 0, .int .u8 0, .int .u8 0, .int .u8 0, .int .u8 0, .int .u8 0, .int .u8 0, .int .u8 0, .int .u8 0, .int .u8 0, .int .u8 0, .int .u8 0, .int .u8 0, .int .u8 0, .int .u8 0, .int .u8 0, .int .u8 0, .int .u8 0, .int .u8 0, .int .u8 0, .int .u8 0, .int .u8 0, .int .u8 0, .int .u8 0, .int .u8 0, .int .u8 0, .int .u8 0, .int .u8 0, .int .u8 0, .int .u8 0, .int .u8 0, .int .u8 0, .int .u8 0, .int .u8 0, .int .u8 0, .int .u8 0, .int .u8 0, .int .u8 0, .int .u8 0, .int .u8 0, .int .u8 0, .int .u8 0, .int .u8 0, .int .u8 0, .int .u8 0, .int .u8 0, .int .u8 0, .int .u8 0, .int .u8 0]), 64, 64) := by kernel_rfl
set_option maxRecDepth 100000 in
theorem zero155 (w : World) : (zeroValue 155).run Tryd.prog w = .ok (.agg #[.pointer none, .pointer none, .pointer none, .string ⟨#[]⟩]) w := by
  simp only [zeroValue, Sem.run_bind, Tryd.typeInfo155, Result.andThen_ok]; rfl
theorem info155 : (Tryd.prog.info? 155).map (fun i => (i.zero, i.size, i.bytes)) = some (some (.agg #[.pointer none, .pointer none, .pointer none, .string ⟨#[]⟩]), 4, 40) := by kernel_rfl
set_option maxRecDepth 100000 in
theorem zero156 (w : World) : (zeroValue 156).run Tryd.prog w = .ok (.agg #[.pointer none, .pointer none, .pointer none, .string ⟨#[]⟩]) w := by
  simp only [zeroValue, Sem.run_bind, Tryd.typeInfo156, Result.andThen_ok]; rfl
theorem info156 : (Tryd.prog.info? 156).map (fun i => (i.zero, i.size, i.bytes)) = some (some (.agg #[.pointer none, .pointer none, .pointer none, .string ⟨#[]⟩]), 4, 40) := by kernel_rfl
set_option maxRecDepth 100000 in
theorem zero157 (w : World) : (zeroValue 157).run Tryd.prog w = .ok (.agg #[]) w := by
  simp only [zeroValue, Sem.run_bind, Tryd.typeInfo157, Result.andThen_ok]; rfl
theorem info157 : (Tryd.prog.info? 157).map (fun i => (i.zero, i.size, i.bytes)) = some (some (.agg #[]), 0, 0) := by kernel_rfl
set_option maxRecDepth 100000 in
theorem zero158 (w : World) : (zeroValue 158).run Tryd.prog w = .ok (.agg #[]) w := by
  simp only [zeroValue, Sem.run_bind, Tryd.typeInfo158, Result.andThen_ok]; rfl
theorem info158 : (Tryd.prog.info? 158).map (fun i => (i.zero, i.size, i.bytes)) = some (some (.agg #[]), 0, 0) := by kernel_rfl
set_option maxRecDepth 100000 in
theorem zero159 (w : World) : (zeroValue 159).run Tryd.prog w = .ok (.agg #[]) w := by
  simp only [zeroValue, Sem.run_bind, Tryd.typeInfo159, Result.andThen_ok]; rfl
theorem info159 : (Tryd.prog.info? 159).map (fun i => (i.zero, i.size, i.bytes)) = some (some (.agg #[]), 0, 0) := by kernel_rfl
set_option maxRecDepth 100000 in
theorem zero161 (w : World) : (zeroValue 161).run Tryd.prog w = .ok (.int .u8 0) w := by
  simp only [zeroValue, Sem.run_bind, Tryd.typeInfo161, Result.andThen_ok]; rfl
theorem info161 : (Tryd.prog.info? 161).map (fun i => (i.zero, i.size, i.bytes)) = some (some (.int .u8 0), 1, 1) := by kernel_rfl
set_option maxRecDepth 100000 in
theorem zero162 (w : World) : (zeroValue 162).run Tryd.prog w = .ok (.int .u8 0) w := by
  simp only [zeroValue, Sem.run_bind, Tryd.typeInfo162, Result.andThen_ok]; rfl
theorem info162 : (Tryd.prog.info? 162).map (fun i => (i.zero, i.size, i.bytes)) = some (some (.int .u8 0), 1, 1) := by kernel_rfl
set_option maxRecDepth 100000 in
theorem zero164 (w : World) : (zeroValue 164).run Tryd.prog w = .ok (.int .i32 0) w := by
  simp only [zeroValue, Sem.run_bind, Tryd.typeInfo164, Result.andThen_ok]; rfl
theorem info164 : (Tryd.prog.info? 164).map (fun i => (i.zero, i.size, i.bytes)) = some (some (.int .i32 0), 1, 4) := by kernel_rfl
set_option maxRecDepth 100000 in
theorem zero165 (w : World) : (zeroValue 165).run Tryd.prog w = .ok (.int .i32 0) w := by
  simp only [zeroValue, Sem.run_bind, Tryd.typeInfo165, Result.andThen_ok]; rfl
theorem info165 : (Tryd.prog.info? 165).map (fun i => (i.zero, i.size, i.bytes)) = some (some (.int .i32 0), 1, 4) := by kernel_rfl
set_option maxRecDepth 100000 in
theorem zero166 (w : World) : (zeroValue 166).run Tryd.prog w = .ok (.agg #[.int .u64 0, .int .u64 0, .int .u32 0, .int .u8 0, .int .u8 0, .int .u8 0, .int .u8 0, .nilFunc, .pointer none, .int .i32 0, .int .i32 0]) w := by
  simp only [zeroValue, Sem.run_bind, Tryd.typeInfo166, Result.andThen_ok]; rfl
theorem info166 : (Tryd.prog.info? 166).map (fun i => (i.zero, i.size, i.bytes)) = some (some (.agg #[.int .u64 0, .int .u64 0, .int .u32 0, .int .u8 0, .int .u8 0, .int .u8 0, .int .u8 0, .nilFunc, .pointer none, .int .i32 0, .int .i32 0]), 11, 48) := by kernel_rfl
set_option maxRecDepth 100000 in
theorem zero167 (w : World) : (zeroValue 167).run Tryd.prog w = .ok (.agg #[.int .u64 0, .int .u64 0, .int .u32 0, .int .u8 0, .int .u8 0, .int .u8 0, .int .u8 0, .nilFunc, .pointer none, .int .i32 0, .int .i32 0]) w := by
  simp only [zeroValue, Sem.run_bind, Tryd.typeInfo167, Result.andThen_ok]; rfl
theorem info167 : (Tryd.prog.info? 167).map (fun i => (i.zero, i.size, i.bytes)) = some (some (.agg #[.int .u64 0, .int .u64 0, .int .u32 0, .int .u8 0, .int .u8 0, .int .u8 0, .int .u8 0, .nilFunc, .pointer none, .int .i32 0, .int .i32 0]), 11, 48) := by kernel_rfl
theorem places7 : ∃ fs, Tryd.prog.underlying 7 = some (.struct fs) ∧ ∀ w, (fs.mapM fun f => do pure (f.offset, ← sizeOf f.type) : Sem (Array (Nat × Nat))).run Tryd.prog w = .ok #[(0, 1), (1, 1), (2, 1), (3, 1)] w :=
  ⟨_, Tryd.underlying7, fun w => by simp [Tryd.sizeOf2, Tryd.sizeOf3, Tryd.sizeOf4, Tryd.sizeOf6]⟩
theorem places8 : ∃ fs, Tryd.prog.underlying 8 = some (.struct fs) ∧ ∀ w, (fs.mapM fun f => do pure (f.offset, ← sizeOf f.type) : Sem (Array (Nat × Nat))).run Tryd.prog w = .ok #[(0, 1), (1, 1), (2, 1), (3, 1)] w :=
  ⟨_, Tryd.underlying8, fun w => by simp [Tryd.sizeOf2, Tryd.sizeOf3, Tryd.sizeOf4, Tryd.sizeOf6]⟩
theorem places13 : ∃ fs, Tryd.prog.underlying 13 = some (.struct fs) ∧ ∀ w, (fs.mapM fun f => do pure (f.offset, ← sizeOf f.type) : Sem (Array (Nat × Nat))).run Tryd.prog w = .ok #[(0, 1), (1, 1)] w :=
  ⟨_, Tryd.underlying13, fun w => by simp [Tryd.sizeOf12, Tryd.sizeOf9]⟩
theorem places14 : ∃ fs, Tryd.prog.underlying 14 = some (.struct fs) ∧ ∀ w, (fs.mapM fun f => do pure (f.offset, ← sizeOf f.type) : Sem (Array (Nat × Nat))).run Tryd.prog w = .ok #[(0, 1), (1, 1)] w :=
  ⟨_, Tryd.underlying14, fun w => by simp [Tryd.sizeOf12, Tryd.sizeOf9]⟩
theorem places18 : ∃ fs, Tryd.prog.underlying 18 = some (.struct fs) ∧ ∀ w, (fs.mapM fun f => do pure (f.offset, ← sizeOf f.type) : Sem (Array (Nat × Nat))).run Tryd.prog w = .ok #[(0, 1)] w :=
  ⟨_, Tryd.underlying18, fun w => by simp [Tryd.sizeOf17]⟩
theorem places19 : ∃ fs, Tryd.prog.underlying 19 = some (.struct fs) ∧ ∀ w, (fs.mapM fun f => do pure (f.offset, ← sizeOf f.type) : Sem (Array (Nat × Nat))).run Tryd.prog w = .ok #[(0, 1)] w :=
  ⟨_, Tryd.underlying19, fun w => by simp [Tryd.sizeOf17]⟩
theorem places25 : ∃ fs, Tryd.prog.underlying 25 = some (.struct fs) ∧ ∀ w, (fs.mapM fun f => do pure (f.offset, ← sizeOf f.type) : Sem (Array (Nat × Nat))).run Tryd.prog w = .ok #[(0, 1), (1, 1), (2, 1)] w :=
  ⟨_, Tryd.underlying25, fun w => by simp [Tryd.sizeOf24, Tryd.sizeOf9]⟩
theorem places26 : ∃ fs, Tryd.prog.underlying 26 = some (.struct fs) ∧ ∀ w, (fs.mapM fun f => do pure (f.offset, ← sizeOf f.type) : Sem (Array (Nat × Nat))).run Tryd.prog w = .ok #[(0, 1), (1, 1), (2, 1)] w :=
  ⟨_, Tryd.underlying26, fun w => by simp [Tryd.sizeOf24, Tryd.sizeOf9]⟩
theorem places35 : ∃ fs, Tryd.prog.underlying 35 = some (.struct fs) ∧ ∀ w, (fs.mapM fun f => do pure (f.offset, ← sizeOf f.type) : Sem (Array (Nat × Nat))).run Tryd.prog w = .ok #[(0, 1), (1, 1)] w :=
  ⟨_, Tryd.underlying35, fun w => by simp [Tryd.sizeOf9]⟩
theorem places36 : ∃ fs, Tryd.prog.underlying 36 = some (.struct fs) ∧ ∀ w, (fs.mapM fun f => do pure (f.offset, ← sizeOf f.type) : Sem (Array (Nat × Nat))).run Tryd.prog w = .ok #[(0, 1), (1, 1)] w :=
  ⟨_, Tryd.underlying36, fun w => by simp [Tryd.sizeOf9]⟩
theorem places43 : ∃ fs, Tryd.prog.underlying 43 = some (.struct fs) ∧ ∀ w, (fs.mapM fun f => do pure (f.offset, ← sizeOf f.type) : Sem (Array (Nat × Nat))).run Tryd.prog w = .ok #[(0, 1), (1, 1), (2, 1), (3, 1)] w :=
  ⟨_, Tryd.underlying43, fun w => by simp [Tryd.sizeOf3, Tryd.sizeOf37]⟩
theorem places44 : ∃ fs, Tryd.prog.underlying 44 = some (.struct fs) ∧ ∀ w, (fs.mapM fun f => do pure (f.offset, ← sizeOf f.type) : Sem (Array (Nat × Nat))).run Tryd.prog w = .ok #[(0, 1), (1, 1), (2, 1), (3, 1)] w :=
  ⟨_, Tryd.underlying44, fun w => by simp [Tryd.sizeOf3, Tryd.sizeOf37]⟩
theorem places45 : ∃ fs, Tryd.prog.underlying 45 = some (.struct fs) ∧ ∀ w, (fs.mapM fun f => do pure (f.offset, ← sizeOf f.type) : Sem (Array (Nat × Nat))).run Tryd.prog w = .ok #[(0, 1), (1, 1)] w :=
  ⟨_, Tryd.underlying45, fun w => by simp [Tryd.sizeOf3]⟩
theorem places46 : ∃ fs, Tryd.prog.underlying 46 = some (.struct fs) ∧ ∀ w, (fs.mapM fun f => do pure (f.offset, ← sizeOf f.type) : Sem (Array (Nat × Nat))).run Tryd.prog w = .ok #[(0, 1), (1, 1)] w :=
  ⟨_, Tryd.underlying46, fun w => by simp [Tryd.sizeOf3]⟩
theorem places85 : ∃ fs, Tryd.prog.underlying 85 = some (.struct fs) ∧ ∀ w, (fs.mapM fun f => do pure (f.offset, ← sizeOf f.type) : Sem (Array (Nat × Nat))).run Tryd.prog w = .ok #[(0, 1), (1, 1)] w :=
  ⟨_, Tryd.underlying85, fun w => by simp [Tryd.sizeOf34, Tryd.sizeOf84]⟩
theorem places86 : ∃ fs, Tryd.prog.underlying 86 = some (.struct fs) ∧ ∀ w, (fs.mapM fun f => do pure (f.offset, ← sizeOf f.type) : Sem (Array (Nat × Nat))).run Tryd.prog w = .ok #[(0, 1), (1, 1)] w :=
  ⟨_, Tryd.underlying86, fun w => by simp [Tryd.sizeOf34, Tryd.sizeOf84]⟩
theorem places143 : ∃ fs, Tryd.prog.underlying 143 = some (.struct fs) ∧ ∀ w, (fs.mapM fun f => do pure (f.offset, ← sizeOf f.type) : Sem (Array (Nat × Nat))).run Tryd.prog w = .ok #[(0, 1), (1, 1)] w :=
  ⟨_, Tryd.underlying143, fun w => by simp [Tryd.sizeOf5]⟩
theorem places144 : ∃ fs, Tryd.prog.underlying 144 = some (.struct fs) ∧ ∀ w, (fs.mapM fun f => do pure (f.offset, ← sizeOf f.type) : Sem (Array (Nat × Nat))).run Tryd.prog w = .ok #[(0, 1), (1, 1)] w :=
  ⟨_, Tryd.underlying144, fun w => by simp [Tryd.sizeOf5]⟩
theorem places155 : ∃ fs, Tryd.prog.underlying 155 = some (.struct fs) ∧ ∀ w, (fs.mapM fun f => do pure (f.offset, ← sizeOf f.type) : Sem (Array (Nat × Nat))).run Tryd.prog w = .ok #[(0, 1), (1, 1), (2, 1), (3, 1)] w :=
  ⟨_, Tryd.underlying155, fun w => by simp [Tryd.sizeOf17, Tryd.sizeOf9]⟩
theorem places156 : ∃ fs, Tryd.prog.underlying 156 = some (.struct fs) ∧ ∀ w, (fs.mapM fun f => do pure (f.offset, ← sizeOf f.type) : Sem (Array (Nat × Nat))).run Tryd.prog w = .ok #[(0, 1), (1, 1), (2, 1), (3, 1)] w :=
  ⟨_, Tryd.underlying156, fun w => by simp [Tryd.sizeOf17, Tryd.sizeOf9]⟩
theorem places158 : ∃ fs, Tryd.prog.underlying 158 = some (.struct fs) ∧ ∀ w, (fs.mapM fun f => do pure (f.offset, ← sizeOf f.type) : Sem (Array (Nat × Nat))).run Tryd.prog w = .ok #[(0, 0)] w :=
  ⟨_, Tryd.underlying158, fun w => by simp [Tryd.sizeOf157]⟩
theorem places159 : ∃ fs, Tryd.prog.underlying 159 = some (.struct fs) ∧ ∀ w, (fs.mapM fun f => do pure (f.offset, ← sizeOf f.type) : Sem (Array (Nat × Nat))).run Tryd.prog w = .ok #[(0, 0)] w :=
  ⟨_, Tryd.underlying159, fun w => by simp [Tryd.sizeOf157]⟩
theorem places166 : ∃ fs, Tryd.prog.underlying 166 = some (.struct fs) ∧ ∀ w, (fs.mapM fun f => do pure (f.offset, ← sizeOf f.type) : Sem (Array (Nat × Nat))).run Tryd.prog w = .ok #[(0, 1), (1, 1), (2, 1), (3, 1), (4, 1), (5, 1), (6, 1), (7, 1), (8, 1), (9, 1), (10, 1)] w :=
  ⟨_, Tryd.underlying166, fun w => by simp [Tryd.sizeOf109, Tryd.sizeOf12, Tryd.sizeOf120, Tryd.sizeOf161, Tryd.sizeOf162, Tryd.sizeOf163, Tryd.sizeOf164, Tryd.sizeOf165, Tryd.sizeOf5]⟩
theorem places167 : ∃ fs, Tryd.prog.underlying 167 = some (.struct fs) ∧ ∀ w, (fs.mapM fun f => do pure (f.offset, ← sizeOf f.type) : Sem (Array (Nat × Nat))).run Tryd.prog w = .ok #[(0, 1), (1, 1), (2, 1), (3, 1), (4, 1), (5, 1), (6, 1), (7, 1), (8, 1), (9, 1), (10, 1)] w :=
  ⟨_, Tryd.underlying167, fun w => by simp [Tryd.sizeOf109, Tryd.sizeOf12, Tryd.sizeOf120, Tryd.sizeOf161, Tryd.sizeOf162, Tryd.sizeOf163, Tryd.sizeOf164, Tryd.sizeOf165, Tryd.sizeOf5]⟩
theorem fields7 : ∃ f0 f1 f2 f3, (Tryd.prog.fieldsOf 7).toList = [f0, f1, f2, f3] ∧ (f0.name = "x" ∧ f0.type = 2 ∧ f0.offset = 0) ∧ (f1.name = "y" ∧ f1.type = 3 ∧ f1.offset = 1) ∧ (f2.name = "signed" ∧ f2.type = 4 ∧ f2.offset = 2) ∧ (f3.name = "code" ∧ f3.type = 6 ∧ f3.offset = 3) := by
  unfold Program.fieldsOf
  rw [Tryd.underlying7]
  exact ⟨_, _, _, _, rfl, ⟨rfl, rfl, rfl⟩, ⟨rfl, rfl, rfl⟩, ⟨rfl, rfl, rfl⟩, ⟨rfl, rfl, rfl⟩⟩
theorem fields8 : ∃ f0 f1 f2 f3, (Tryd.prog.fieldsOf 8).toList = [f0, f1, f2, f3] ∧ (f0.name = "x" ∧ f0.type = 2 ∧ f0.offset = 0) ∧ (f1.name = "y" ∧ f1.type = 3 ∧ f1.offset = 1) ∧ (f2.name = "signed" ∧ f2.type = 4 ∧ f2.offset = 2) ∧ (f3.name = "code" ∧ f3.type = 6 ∧ f3.offset = 3) := by
  unfold Program.fieldsOf
  rw [Tryd.underlying8]
  exact ⟨_, _, _, _, rfl, ⟨rfl, rfl, rfl⟩, ⟨rfl, rfl, rfl⟩, ⟨rfl, rfl, rfl⟩, ⟨rfl, rfl, rfl⟩⟩
theorem fields13 : ∃ f0 f1, (Tryd.prog.fieldsOf 13).toList = [f0, f1] ∧ (f0.name = "msg" ∧ f0.type = 9 ∧ f0.offset = 0) ∧ (f1.name = "addr" ∧ f1.type = 12 ∧ f1.offset = 1) := by
  unfold Program.fieldsOf
  rw [Tryd.underlying13]
  exact ⟨_, _, rfl, ⟨rfl, rfl, rfl⟩, ⟨rfl, rfl, rfl⟩⟩
theorem fields14 : ∃ f0 f1, (Tryd.prog.fieldsOf 14).toList = [f0, f1] ∧ (f0.name = "msg" ∧ f0.type = 9 ∧ f0.offset = 0) ∧ (f1.name = "addr" ∧ f1.type = 12 ∧ f1.offset = 1) := by
  unfold Program.fieldsOf
  rw [Tryd.underlying14]
  exact ⟨_, _, rfl, ⟨rfl, rfl, rfl⟩, ⟨rfl, rfl, rfl⟩⟩
theorem fields18 : ∃ f0, (Tryd.prog.fieldsOf 18).toList = [f0] ∧ (f0.name = "typ" ∧ f0.type = 17 ∧ f0.offset = 0) := by
  unfold Program.fieldsOf
  rw [Tryd.underlying18]
  exact ⟨_, rfl, ⟨rfl, rfl, rfl⟩⟩
theorem fields19 : ∃ f0, (Tryd.prog.fieldsOf 19).toList = [f0] ∧ (f0.name = "typ" ∧ f0.type = 17 ∧ f0.offset = 0) := by
  unfold Program.fieldsOf
  rw [Tryd.underlying19]
  exact ⟨_, rfl, ⟨rfl, rfl, rfl⟩⟩
theorem fields25 : ∃ f0 f1 f2, (Tryd.prog.fieldsOf 25).toList = [f0, f1, f2] ∧ (f0.name = "Type" ∧ f0.type = 9 ∧ f0.offset = 0) ∧ (f1.name = "Sub" ∧ f1.type = 9 ∧ f1.offset = 1) ∧ (f2.name = "Params" ∧ f2.type = 24 ∧ f2.offset = 2) := by
  unfold Program.fieldsOf
  rw [Tryd.underlying25]
  exact ⟨_, _, _, rfl, ⟨rfl, rfl, rfl⟩, ⟨rfl, rfl, rfl⟩, ⟨rfl, rfl, rfl⟩⟩
theorem fields26 : ∃ f0 f1 f2, (Tryd.prog.fieldsOf 26).toList = [f0, f1, f2] ∧ (f0.name = "Type" ∧ f0.type = 9 ∧ f0.offset = 0) ∧ (f1.name = "Sub" ∧ f1.type = 9 ∧ f1.offset = 1) ∧ (f2.name = "Params" ∧ f2.type = 24 ∧ f2.offset = 2) := by
  unfold Program.fieldsOf
  rw [Tryd.underlying26]
  exact ⟨_, _, _, rfl, ⟨rfl, rfl, rfl⟩, ⟨rfl, rfl, rfl⟩, ⟨rfl, rfl, rfl⟩⟩
theorem fields35 : ∃ f0 f1, (Tryd.prog.fieldsOf 35).toList = [f0, f1] ∧ (f0.name = "Name" ∧ f0.type = 9 ∧ f0.offset = 0) ∧ (f1.name = "Value" ∧ f1.type = 9 ∧ f1.offset = 1) := by
  unfold Program.fieldsOf
  rw [Tryd.underlying35]
  exact ⟨_, _, rfl, ⟨rfl, rfl, rfl⟩, ⟨rfl, rfl, rfl⟩⟩
theorem fields36 : ∃ f0 f1, (Tryd.prog.fieldsOf 36).toList = [f0, f1] ∧ (f0.name = "Name" ∧ f0.type = 9 ∧ f0.offset = 0) ∧ (f1.name = "Value" ∧ f1.type = 9 ∧ f1.offset = 1) := by
  unfold Program.fieldsOf
  rw [Tryd.underlying36]
  exact ⟨_, _, rfl, ⟨rfl, rfl, rfl⟩, ⟨rfl, rfl, rfl⟩⟩
theorem fields43 : ∃ f0 f1 f2 f3, (Tryd.prog.fieldsOf 43).toList = [f0, f1, f2, f3] ∧ (f0.name = "A" ∧ f0.type = 37 ∧ f0.offset = 0) ∧ (f1.name = "B" ∧ f1.type = 37 ∧ f1.offset = 1) ∧ (f2.name = "N" ∧ f2.type = 3 ∧ f2.offset = 2) ∧ (f3.name = "Greatest" ∧ f3.type = 3 ∧ f3.offset = 3) := by
  unfold Program.fieldsOf
  rw [Tryd.underlying43]
  exact ⟨_, _, _, _, rfl, ⟨rfl, rfl, rfl⟩, ⟨rfl, rfl, rfl⟩, ⟨rfl, rfl, rfl⟩, ⟨rfl, rfl, rfl⟩⟩
theorem fields44 : ∃ f0 f1 f2 f3, (Tryd.prog.fieldsOf 44).toList = [f0, f1, f2, f3] ∧ (f0.name = "A" ∧ f0.type = 37 ∧ f0.offset = 0) ∧ (f1.name = "B" ∧ f1.type = 37 ∧ f1.offset = 1) ∧ (f2.name = "N" ∧ f2.type = 3 ∧ f2.offset = 2) ∧ (f3.name = "Greatest" ∧ f3.type = 3 ∧ f3.offset = 3) := by
  unfold Program.fieldsOf
  rw [Tryd.underlying44]
  exact ⟨_, _, _, _, rfl, ⟨rfl, rfl, rfl⟩, ⟨rfl, rfl, rfl⟩, ⟨rfl, rfl, rfl⟩, ⟨rfl, rfl, rfl⟩⟩
theorem fields45 : ∃ f0 f1, (Tryd.prog.fieldsOf 45).toList = [f0, f1] ∧ (f0.name = "From" ∧ f0.type = 3 ∧ f0.offset = 0) ∧ (f1.name = "To" ∧ f1.type = 3 ∧ f1.offset = 1) := by
  unfold Program.fieldsOf
  rw [Tryd.underlying45]
  exact ⟨_, _, rfl, ⟨rfl, rfl, rfl⟩, ⟨rfl, rfl, rfl⟩⟩
theorem fields46 : ∃ f0 f1, (Tryd.prog.fieldsOf 46).toList = [f0, f1] ∧ (f0.name = "From" ∧ f0.type = 3 ∧ f0.offset = 0) ∧ (f1.name = "To" ∧ f1.type = 3 ∧ f1.offset = 1) := by
  unfold Program.fieldsOf
  rw [Tryd.underlying46]
  exact ⟨_, _, rfl, ⟨rfl, rfl, rfl⟩, ⟨rfl, rfl, rfl⟩⟩
theorem fields85 : ∃ f0 f1, (Tryd.prog.fieldsOf 85).toList = [f0, f1] ∧ (f0.name = "addr" ∧ f0.type = 84 ∧ f0.offset = 0) ∧ (f1.name = "buf" ∧ f1.type = 34 ∧ f1.offset = 1) := by
  unfold Program.fieldsOf
  rw [Tryd.underlying85]
  exact ⟨_, _, rfl, ⟨rfl, rfl, rfl⟩, ⟨rfl, rfl, rfl⟩⟩
theorem fields86 : ∃ f0 f1, (Tryd.prog.fieldsOf 86).toList = [f0, f1] ∧ (f0.name = "addr" ∧ f0.type = 84 ∧ f0.offset = 0) ∧ (f1.name = "buf" ∧ f1.type = 34 ∧ f1.offset = 1) := by
  unfold Program.fieldsOf
  rw [Tryd.underlying86]
  exact ⟨_, _, rfl, ⟨rfl, rfl, rfl⟩, ⟨rfl, rfl, rfl⟩⟩
theorem fields143 : ∃ f0 f1, (Tryd.prog.fieldsOf 143).toList = [f0, f1] ∧ (f0.name = "lo" ∧ f0.type = 5 ∧ f0.offset = 0) ∧ (f1.name = "hi" ∧ f1.type = 5 ∧ f1.offset = 1) := by
  unfold Program.fieldsOf
  rw [Tryd.underlying143]
  exact ⟨_, _, rfl, ⟨rfl, rfl, rfl⟩, ⟨rfl, rfl, rfl⟩⟩
theorem fields144 : ∃ f0 f1, (Tryd.prog.fieldsOf 144).toList = [f0, f1] ∧ (f0.name = "lo" ∧ f0.type = 5 ∧ f0.offset = 0) ∧ (f1.name = "hi" ∧ f1.type = 5 ∧ f1.offset = 1) := by
  unfold Program.fieldsOf
  rw [Tryd.underlying144]
  exact ⟨_, _, rfl, ⟨rfl, rfl, rfl⟩, ⟨rfl, rfl, rfl⟩⟩
theorem fields155 : ∃ f0 f1 f2 f3, (Tryd.prog.fieldsOf 155).toList = [f0, f1, f2, f3] ∧ (f0.name = "_interface" ∧ f0.type = 17 ∧ f0.offset = 0) ∧ (f1.name = "concrete" ∧ f1.type = 17 ∧ f1.offset = 1) ∧ (f2.name = "asserted" ∧ f2.type = 17 ∧ f2.offset = 2) ∧ (f3.name = "missingMethod" ∧ f3.type = 9 ∧ f3.offset = 3) := by
  unfold Program.fieldsOf
  rw [Tryd.underlying155]
  exact ⟨_, _, _, _, rfl, ⟨rfl, rfl, rfl⟩, ⟨rfl, rfl, rfl⟩, ⟨rfl, rfl, rfl⟩, ⟨rfl, rfl, rfl⟩⟩
theorem fields156 : ∃ f0 f1 f2 f3, (Tryd.prog.fieldsOf 156).toList = [f0, f1, f2, f3] ∧ (f0.name = "_interface" ∧ f0.type = 17 ∧ f0.offset = 0) ∧ (f1.name = "concrete" ∧ f1.type = 17 ∧ f1.offset = 1) ∧ (f2.name = "asserted" ∧ f2.type = 17 ∧ f2.offset = 2) ∧ (f3.name = "missingMethod" ∧ f3.type = 9 ∧ f3.offset = 3) := by
  unfold Program.fieldsOf
  rw [Tryd.underlying156]
  exact ⟨_, _, _, _, rfl, ⟨rfl, rfl, rfl⟩, ⟨rfl, rfl, rfl⟩, ⟨rfl, rfl, rfl⟩, ⟨rfl, rfl, rfl⟩⟩
theorem fields158 : ∃ f0, (Tryd.prog.fieldsOf 158).toList = [f0] ∧ (f0.name = "_" ∧ f0.type = 157 ∧ f0.offset = 0) := by
  unfold Program.fieldsOf
  rw [Tryd.underlying158]
  exact ⟨_, rfl, ⟨rfl, rfl, rfl⟩⟩
theorem fields159 : ∃ f0, (Tryd.prog.fieldsOf 159).toList = [f0] ∧ (f0.name = "_" ∧ f0.type = 157 ∧ f0.offset = 0) := by
  unfold Program.fieldsOf
  rw [Tryd.underlying159]
  exact ⟨_, rfl, ⟨rfl, rfl, rfl⟩⟩
theorem fields166 : ∃ f0 f1 f2 f3 f4 f5 f6 f7 f8 f9 f10, (Tryd.prog.fieldsOf 166).toList = [f0, f1, f2, f3, f4, f5, f6, f7, f8, f9, f10] ∧ (f0.name = "Size_" ∧ f0.type = 12 ∧ f0.offset = 0) ∧ (f1.name = "PtrBytes" ∧ f1.type = 12 ∧ f1.offset = 1) ∧ (f2.name = "Hash" ∧ f2.type = 120 ∧ f2.offset = 2) ∧ (f3.name = "TFlag" ∧ f3.type = 161 ∧ f3.offset = 3) ∧ (f4.name = "Align_" ∧ f4.type = 5 ∧ f4.offset = 4) ∧ (f5.name = "FieldAlign_" ∧ f5.type = 5 ∧ f5.offset = 5) ∧ (f6.name = "Kind_" ∧ f6.type = 162 ∧ f6.offset = 6) ∧ (f7.name = "Equal" ∧ f7.type = 163 ∧ f7.offset = 7) ∧ (f8.name = "GCData" ∧ f8.type = 109 ∧ f8.offset = 8) ∧ (f9.name = "Str" ∧ f9.type = 164 ∧ f9.offset = 9) ∧ (f10.name = "PtrToThis" ∧ f10.type = 165 ∧ f10.offset = 10) := by
  unfold Program.fieldsOf
  rw [Tryd.underlying166]
  exact ⟨_, _, _, _, _, _, _, _, _, _, _, rfl, ⟨rfl, rfl, rfl⟩, ⟨rfl, rfl, rfl⟩, ⟨rfl, rfl, rfl⟩, ⟨rfl, rfl, rfl⟩, ⟨rfl, rfl, rfl⟩, ⟨rfl, rfl, rfl⟩, ⟨rfl, rfl, rfl⟩, ⟨rfl, rfl, rfl⟩, ⟨rfl, rfl, rfl⟩, ⟨rfl, rfl, rfl⟩, ⟨rfl, rfl, rfl⟩⟩
theorem fields167 : ∃ f0 f1 f2 f3 f4 f5 f6 f7 f8 f9 f10, (Tryd.prog.fieldsOf 167).toList = [f0, f1, f2, f3, f4, f5, f6, f7, f8, f9, f10] ∧ (f0.name = "Size_" ∧ f0.type = 12 ∧ f0.offset = 0) ∧ (f1.name = "PtrBytes" ∧ f1.type = 12 ∧ f1.offset = 1) ∧ (f2.name = "Hash" ∧ f2.type = 120 ∧ f2.offset = 2) ∧ (f3.name = "TFlag" ∧ f3.type = 161 ∧ f3.offset = 3) ∧ (f4.name = "Align_" ∧ f4.type = 5 ∧ f4.offset = 4) ∧ (f5.name = "FieldAlign_" ∧ f5.type = 5 ∧ f5.offset = 5) ∧ (f6.name = "Kind_" ∧ f6.type = 162 ∧ f6.offset = 6) ∧ (f7.name = "Equal" ∧ f7.type = 163 ∧ f7.offset = 7) ∧ (f8.name = "GCData" ∧ f8.type = 109 ∧ f8.offset = 8) ∧ (f9.name = "Str" ∧ f9.type = 164 ∧ f9.offset = 9) ∧ (f10.name = "PtrToThis" ∧ f10.type = 165 ∧ f10.offset = 10) := by
  unfold Program.fieldsOf
  rw [Tryd.underlying167]
  exact ⟨_, _, _, _, _, _, _, _, _, _, _, rfl, ⟨rfl, rfl, rfl⟩, ⟨rfl, rfl, rfl⟩, ⟨rfl, rfl, rfl⟩, ⟨rfl, rfl, rfl⟩, ⟨rfl, rfl, rfl⟩, ⟨rfl, rfl, rfl⟩, ⟨rfl, rfl, rfl⟩, ⟨rfl, rfl, rfl⟩, ⟨rfl, rfl, rfl⟩, ⟨rfl, rfl, rfl⟩, ⟨rfl, rfl, rfl⟩⟩
end Go.Proofs.YtnllhddbgkeboaaDoor
