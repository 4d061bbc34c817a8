/-
  The zero value and the size of each type of this translation: read off its table.
-/
import Derived.Test.YtenbjndldenkfaaDoorEngA
import Derived.Test.YtenbjndldenkfaaDoorRows
import Derived.KernelRfl
namespace Go.Proofs.YtenbjndldenkfaaDoor
open Go.Proofs
set_option maxRecDepth 100000 in
theorem zero2 (w : World) : (zeroValue 2).run Tryd.prog w = .ok (.int .i64 0) w := by
  simp only [zeroValue, Sem.run_bind, Tryd.typeInfo2, Result.andThen_ok]; rfl
theorem info2 : (Tryd.prog.info? 2).map (fun i => (i.zero, i.size, i.bytes)) = some (some (.int .i64 0), 1, 8) := by kernel_rfl
set_option maxRecDepth 100000 in
theorem zero3 (w : World) : (zeroValue 3).run Tryd.prog w = .ok (.int .i64 0) w := by
  simp only [zeroValue, Sem.run_bind, Tryd.typeInfo3, Result.andThen_ok]; rfl
theorem info3 : (Tryd.prog.info? 3).map (fun i => (i.zero, i.size, i.bytes)) = some (some (.int .i64 0), 1, 8) := by kernel_rfl
set_option maxRecDepth 100000 in
theorem zero4 (w : World) : (zeroValue 4).run Tryd.prog w = .ok (.bool false) w := by
  simp only [zeroValue, Sem.run_bind, Tryd.typeInfo4, Result.andThen_ok]; rfl
theorem info4 : (Tryd.prog.info? 4).map (fun i => (i.zero, i.size, i.bytes)) = some (some (.bool false), 1, 1) := by kernel_rfl
set_option maxRecDepth 100000 in
theorem zero5 (w : World) : (zeroValue 5).run Tryd.prog w = .ok (.int .u8 0) w := by
  simp only [zeroValue, Sem.run_bind, Tryd.typeInfo5, Result.andThen_ok]; rfl
theorem info5 : (Tryd.prog.info? 5).map (fun i => (i.zero, i.size, i.bytes)) = some (some (.int .u8 0), 1, 1) := by kernel_rfl
set_option maxRecDepth 100000 in
theorem zero6 (w : World) : (zeroValue 6).run Tryd.prog w = .ok (.int .u8 0) w := by
  simp only [zeroValue, Sem.run_bind, Tryd.typeInfo6, Result.andThen_ok]; rfl
theorem info6 : (Tryd.prog.info? 6).map (fun i => (i.zero, i.size, i.bytes)) = some (some (.int .u8 0), 1, 1) := by kernel_rfl
set_option maxRecDepth 100000 in
theorem zero7 (w : World) : (zeroValue 7).run Tryd.prog w = .ok (.agg #[.int .i64 0, .int .i64 0, .bool false, .int .u8 0]) w := by
  simp only [zeroValue, Sem.run_bind, Tryd.typeInfo7, Result.andThen_ok]; rfl
theorem info7 : (Tryd.prog.info? 7).map (fun i => (i.zero, i.size, i.bytes)) = some (some (.agg #[.int .i64 0, .int .i64 0, .bool false, .int .u8 0]), 4, 24) := by kernel_rfl
set_option maxRecDepth 100000 in
theorem zero8 (w : World) : (zeroValue 8).run Tryd.prog w = .ok (.agg #[.int .i64 0, .int .i64 0, .bool false, .int .u8 0]) w := by
  simp only [zeroValue, Sem.run_bind, Tryd.typeInfo8, Result.andThen_ok]; rfl
theorem info8 : (Tryd.prog.info? 8).map (fun i => (i.zero, i.size, i.bytes)) = some (some (.agg #[.int .i64 0, .int .i64 0, .bool false, .int .u8 0]), 4, 24) := by kernel_rfl
set_option maxRecDepth 100000 in
theorem zero9 (w : World) : (zeroValue 9).run Tryd.prog w = .ok (.string ⟨#[]⟩) w := by
  simp only [zeroValue, Sem.run_bind, Tryd.typeInfo9, Result.andThen_ok]; rfl
theorem info9 : (Tryd.prog.info? 9).map (fun i => (i.zero, i.size, i.bytes)) = some (some (.string ⟨#[]⟩), 1, 16) := by kernel_rfl
set_option maxRecDepth 100000 in
theorem zero10 (w : World) : (zeroValue 10).run Tryd.prog w = .ok (.string ⟨#[]⟩) w := by
  simp only [zeroValue, Sem.run_bind, Tryd.typeInfo10, Result.andThen_ok]; rfl
theorem info10 : (Tryd.prog.info? 10).map (fun i => (i.zero, i.size, i.bytes)) = some (some (.string ⟨#[]⟩), 1, 16) := by kernel_rfl
set_option maxRecDepth 100000 in
theorem zero11 (w : World) : (zeroValue 11).run Tryd.prog w = .ok (.string ⟨#[]⟩) w := by
  simp only [zeroValue, Sem.run_bind, Tryd.typeInfo11, Result.andThen_ok]; rfl
theorem info11 : (Tryd.prog.info? 11).map (fun i => (i.zero, i.size, i.bytes)) = some (some (.string ⟨#[]⟩), 1, 16) := by kernel_rfl
set_option maxRecDepth 100000 in
theorem zero12 (w : World) : (zeroValue 12).run Tryd.prog w = .ok (.int .u64 0) w := by
  simp only [zeroValue, Sem.run_bind, Tryd.typeInfo12, Result.andThen_ok]; rfl
theorem info12 : (Tryd.prog.info? 12).map (fun i => (i.zero, i.size, i.bytes)) = some (some (.int .u64 0), 1, 8) := by kernel_rfl
set_option maxRecDepth 100000 in
theorem zero13 (w : World) : (zeroValue 13).run Tryd.prog w = .ok (.agg #[.string ⟨#[]⟩, .int .u64 0]) w := by
  simp only [zeroValue, Sem.run_bind, Tryd.typeInfo13, Result.andThen_ok]; rfl
theorem info13 : (Tryd.prog.info? 13).map (fun i => (i.zero, i.size, i.bytes)) = some (some (.agg #[.string ⟨#[]⟩, .int .u64 0]), 2, 24) := by kernel_rfl
set_option maxRecDepth 100000 in
theorem zero14 (w : World) : (zeroValue 14).run Tryd.prog w = .ok (.agg #[.string ⟨#[]⟩, .int .u64 0]) w := by
  simp only [zeroValue, Sem.run_bind, Tryd.typeInfo14, Result.andThen_ok]; rfl
theorem info14 : (Tryd.prog.info? 14).map (fun i => (i.zero, i.size, i.bytes)) = some (some (.agg #[.string ⟨#[]⟩, .int .u64 0]), 2, 24) := by kernel_rfl
set_option maxRecDepth 100000 in
theorem zero15 (w : World) : (zeroValue 15).run Tryd.prog w = .ok (.pointer none) w := by
  simp only [zeroValue, Sem.run_bind, Tryd.typeInfo15, Result.andThen_ok]; rfl
theorem info15 : (Tryd.prog.info? 15).map (fun i => (i.zero, i.size, i.bytes)) = some (some (.pointer none), 1, 8) := by kernel_rfl
set_option maxRecDepth 100000 in
theorem zero16 (w : World) : (zeroValue 16).run Tryd.prog w = .ok (.pointer none) w := by
  simp only [zeroValue, Sem.run_bind, Tryd.typeInfo16, Result.andThen_ok]; rfl
theorem info16 : (Tryd.prog.info? 16).map (fun i => (i.zero, i.size, i.bytes)) = some (some (.pointer none), 1, 8) := by kernel_rfl
set_option maxRecDepth 100000 in
theorem zero17 (w : World) : (zeroValue 17).run Tryd.prog w = .ok (.pointer none) w := by
  simp only [zeroValue, Sem.run_bind, Tryd.typeInfo17, Result.andThen_ok]; rfl
theorem info17 : (Tryd.prog.info? 17).map (fun i => (i.zero, i.size, i.bytes)) = some (some (.pointer none), 1, 8) := by kernel_rfl
set_option maxRecDepth 100000 in
theorem zero18 (w : World) : (zeroValue 18).run Tryd.prog w = .ok (.agg #[.pointer none]) w := by
  simp only [zeroValue, Sem.run_bind, Tryd.typeInfo18, Result.andThen_ok]; rfl
theorem info18 : (Tryd.prog.info? 18).map (fun i => (i.zero, i.size, i.bytes)) = some (some (.agg #[.pointer none]), 1, 8) := by kernel_rfl
set_option maxRecDepth 100000 in
theorem zero19 (w : World) : (zeroValue 19).run Tryd.prog w = .ok (.agg #[.pointer none]) w := by
  simp only [zeroValue, Sem.run_bind, Tryd.typeInfo19, Result.andThen_ok]; rfl
theorem info19 : (Tryd.prog.info? 19).map (fun i => (i.zero, i.size, i.bytes)) = some (some (.agg #[.pointer none]), 1, 8) := by kernel_rfl
set_option maxRecDepth 100000 in
theorem zero21 (w : World) : (zeroValue 21).run Tryd.prog w = .ok (.int .i32 0) w := by
  simp only [zeroValue, Sem.run_bind, Tryd.typeInfo21, Result.andThen_ok]; rfl
theorem info21 : (Tryd.prog.info? 21).map (fun i => (i.zero, i.size, i.bytes)) = some (some (.int .i32 0), 1, 4) := by kernel_rfl
set_option maxRecDepth 100000 in
theorem zero23 (w : World) : (zeroValue 23).run Tryd.prog w = .ok (.slice none 0 0) w := by
  simp only [zeroValue, Sem.run_bind, Tryd.typeInfo23, Result.andThen_ok]; rfl
theorem info23 : (Tryd.prog.info? 23).map (fun i => (i.zero, i.size, i.bytes)) = some (some (.slice none 0 0), 1, 24) := by kernel_rfl
set_option maxRecDepth 100000 in
theorem zero24 (w : World) : (zeroValue 24).run Tryd.prog w = .ok (.slice none 0 0) w := by
  simp only [zeroValue, Sem.run_bind, Tryd.typeInfo24, Result.andThen_ok]; rfl
theorem info24 : (Tryd.prog.info? 24).map (fun i => (i.zero, i.size, i.bytes)) = some (some (.slice none 0 0), 1, 24) := by kernel_rfl
set_option maxRecDepth 100000 in
theorem zero25 (w : World) : (zeroValue 25).run Tryd.prog w = .ok (.slice none 0 0) w := by
  simp only [zeroValue, Sem.run_bind, Tryd.typeInfo25, Result.andThen_ok]; rfl
theorem info25 : (Tryd.prog.info? 25).map (fun i => (i.zero, i.size, i.bytes)) = some (some (.slice none 0 0), 1, 24) := by kernel_rfl
set_option maxRecDepth 100000 in
theorem zero26 (w : World) : (zeroValue 26).run Tryd.prog w = .ok (.slice none 0 0) w := by
  simp only [zeroValue, Sem.run_bind, Tryd.typeInfo26, Result.andThen_ok]; rfl
theorem info26 : (Tryd.prog.info? 26).map (fun i => (i.zero, i.size, i.bytes)) = some (some (.slice none 0 0), 1, 24) := by kernel_rfl
set_option maxRecDepth 100000 in
theorem zero28 (w : World) : (zeroValue 28).run Tryd.prog w = .ok (.slice none 0 0) w := by
  simp only [zeroValue, Sem.run_bind, Tryd.typeInfo28, Result.andThen_ok]; rfl
theorem info28 : (Tryd.prog.info? 28).map (fun i => (i.zero, i.size, i.bytes)) = some (some (.slice none 0 0), 1, 24) := by kernel_rfl
set_option maxRecDepth 100000 in
theorem zero29 (w : World) : (zeroValue 29).run Tryd.prog w = .ok (.agg #[.string ⟨#[]⟩, .string ⟨#[]⟩, .slice none 0 0]) w := by
  simp only [zeroValue, Sem.run_bind, Tryd.typeInfo29, Result.andThen_ok]; rfl
theorem info29 : (Tryd.prog.info? 29).map (fun i => (i.zero, i.size, i.bytes)) = some (some (.agg #[.string ⟨#[]⟩, .string ⟨#[]⟩, .slice none 0 0]), 3, 56) := by kernel_rfl
set_option maxRecDepth 100000 in
theorem zero30 (w : World) : (zeroValue 30).run Tryd.prog w = .ok (.agg #[.string ⟨#[]⟩, .string ⟨#[]⟩, .slice none 0 0]) w := by
  simp only [zeroValue, Sem.run_bind, Tryd.typeInfo30, Result.andThen_ok]; rfl
theorem info30 : (Tryd.prog.info? 30).map (fun i => (i.zero, i.size, i.bytes)) = some (some (.agg #[.string ⟨#[]⟩, .string ⟨#[]⟩, .slice none 0 0]), 3, 56) := by kernel_rfl
set_option maxRecDepth 100000 in
theorem zero31 (w : World) : (zeroValue 31).run Tryd.prog w = .ok (.agg #[.int .i64 0, .int .i64 0, .int .i64 0, .int .i64 0, .string ⟨#[]⟩, .string ⟨#[]⟩, .slice none 0 0, .int .i64 0, .int .i64 0]) w := by
  simp only [zeroValue, Sem.run_bind, Tryd.typeInfo31, Result.andThen_ok]; rfl
theorem info31 : (Tryd.prog.info? 31).map (fun i => (i.zero, i.size, i.bytes)) = some (some (.agg #[.int .i64 0, .int .i64 0, .int .i64 0, .int .i64 0, .string ⟨#[]⟩, .string ⟨#[]⟩, .slice none 0 0, .int .i64 0, .int .i64 0]), 9, 104) := by kernel_rfl
set_option maxRecDepth 100000 in
theorem zero32 (w : World) : (zeroValue 32).run Tryd.prog w = .ok (.agg #[.int .i64 0, .int .i64 0, .int .i64 0, .int .i64 0, .string ⟨#[]⟩, .string ⟨#[]⟩, .slice none 0 0, .int .i64 0, .int .i64 0]) w := by
  simp only [zeroValue, Sem.run_bind, Tryd.typeInfo32, Result.andThen_ok]; rfl
theorem info32 : (Tryd.prog.info? 32).map (fun i => (i.zero, i.size, i.bytes)) = some (some (.agg #[.int .i64 0, .int .i64 0, .int .i64 0, .int .i64 0, .string ⟨#[]⟩, .string ⟨#[]⟩, .slice none 0 0, .int .i64 0, .int .i64 0]), 9, 104) := by kernel_rfl
set_option maxRecDepth 100000 in
theorem zero35 (w : World) : (zeroValue 35).run Tryd.prog w = .ok (.pointer none) w := by
  simp only [zeroValue, Sem.run_bind, Tryd.typeInfo35, Result.andThen_ok]; rfl
theorem info35 : (Tryd.prog.info? 35).map (fun i => (i.zero, i.size, i.bytes)) = some (some (.pointer none), 1, 8) := by kernel_rfl
set_option maxRecDepth 100000 in
theorem zero36 (w : World) : (zeroValue 36).run Tryd.prog w = .ok (.agg #[.slice none 0 0, .slice none 0 0]) w := by
  simp only [zeroValue, Sem.run_bind, Tryd.typeInfo36, Result.andThen_ok]; rfl
theorem info36 : (Tryd.prog.info? 36).map (fun i => (i.zero, i.size, i.bytes)) = some (some (.agg #[.slice none 0 0, .slice none 0 0]), 2, 48) := by kernel_rfl
set_option maxRecDepth 100000 in
theorem zero37 (w : World) : (zeroValue 37).run Tryd.prog w = .ok (.agg #[.slice none 0 0, .slice none 0 0]) w := by
  simp only [zeroValue, Sem.run_bind, Tryd.typeInfo37, Result.andThen_ok]; rfl
theorem info37 : (Tryd.prog.info? 37).map (fun i => (i.zero, i.size, i.bytes)) = some (some (.agg #[.slice none 0 0, .slice none 0 0]), 2, 48) := by kernel_rfl
set_option maxRecDepth 100000 in
theorem zero43 (w : World) : (zeroValue 43).run Tryd.prog w = .ok (.slice none 0 0) w := by
  simp only [zeroValue, Sem.run_bind, Tryd.typeInfo43, Result.andThen_ok]; rfl
theorem info43 : (Tryd.prog.info? 43).map (fun i => (i.zero, i.size, i.bytes)) = some (some (.slice none 0 0), 1, 24) := by kernel_rfl
set_option maxRecDepth 100000 in
theorem zero45 (w : World) : (zeroValue 45).run Tryd.prog w = .ok (.agg #[.int .i64 0, .int .i64 0]) w := by
  simp only [zeroValue, Sem.run_bind, Tryd.typeInfo45, Result.andThen_ok]; rfl
theorem info45 : (Tryd.prog.info? 45).map (fun i => (i.zero, i.size, i.bytes)) = some (some (.agg #[.int .i64 0, .int .i64 0]), 2, 16) := by kernel_rfl
set_option maxRecDepth 100000 in
theorem zero53 (w : World) : (zeroValue 53).run Tryd.prog w = .ok (.agg #[.string ⟨#[]⟩, .string ⟨#[]⟩]) w := by
  simp only [zeroValue, Sem.run_bind, Tryd.typeInfo53, Result.andThen_ok]; rfl
theorem info53 : (Tryd.prog.info? 53).map (fun i => (i.zero, i.size, i.bytes)) = some (some (.agg #[.string ⟨#[]⟩, .string ⟨#[]⟩]), 2, 32) := by kernel_rfl
set_option maxRecDepth 100000 in
theorem zero54 (w : World) : (zeroValue 54).run Tryd.prog w = .ok (.agg #[.string ⟨#[]⟩, .string ⟨#[]⟩]) w := by
  simp only [zeroValue, Sem.run_bind, Tryd.typeInfo54, Result.andThen_ok]; rfl
theorem info54 : (Tryd.prog.info? 54).map (fun i => (i.zero, i.size, i.bytes)) = some (some (.agg #[.string ⟨#[]⟩, .string ⟨#[]⟩]), 2, 32) := by kernel_rfl
set_option maxRecDepth 100000 in
theorem zero62 (w : World) : (zeroValue 62).run Tryd.prog w = .ok (.slice none 0 0) w := by
  simp only [zeroValue, Sem.run_bind, Tryd.typeInfo62, Result.andThen_ok]; rfl
theorem info62 : (Tryd.prog.info? 62).map (fun i => (i.zero, i.size, i.bytes)) = some (some (.slice none 0 0), 1, 24) := by kernel_rfl
set_option maxRecDepth 100000 in
theorem zero64 (w : World) : (zeroValue 64).run Tryd.prog w = .ok (.agg #[.string ⟨#[]⟩, .int .i64 0, .int .i64 0, .int .i64 0]) w := by
  simp only [zeroValue, Sem.run_bind, Tryd.typeInfo64, Result.andThen_ok]; rfl
theorem info64 : (Tryd.prog.info? 64).map (fun i => (i.zero, i.size, i.bytes)) = some (some (.agg #[.string ⟨#[]⟩, .int .i64 0, .int .i64 0, .int .i64 0]), 4, 40) := by kernel_rfl
set_option maxRecDepth 100000 in
theorem zero65 (w : World) : (zeroValue 65).run Tryd.prog w = .ok (.agg #[.string ⟨#[]⟩, .int .i64 0, .int .i64 0, .int .i64 0]) w := by
  simp only [zeroValue, Sem.run_bind, Tryd.typeInfo65, Result.andThen_ok]; rfl
theorem info65 : (Tryd.prog.info? 65).map (fun i => (i.zero, i.size, i.bytes)) = some (some (.agg #[.string ⟨#[]⟩, .int .i64 0, .int .i64 0, .int .i64 0]), 4, 40) := by kernel_rfl
set_option maxRecDepth 100000 in
theorem zero82 (w : World) : (zeroValue 82).run Tryd.prog w = .ok (.pointer none) w := by
  simp only [zeroValue, Sem.run_bind, Tryd.typeInfo82, Result.andThen_ok]; rfl
theorem info82 : (Tryd.prog.info? 82).map (fun i => (i.zero, i.size, i.bytes)) = some (some (.pointer none), 1, 8) := by kernel_rfl
set_option maxRecDepth 100000 in
theorem zero83 (w : World) : (zeroValue 83).run Tryd.prog w = .ok (.agg #[.pointer none, .slice none 0 0]) w := by
  simp only [zeroValue, Sem.run_bind, Tryd.typeInfo83, Result.andThen_ok]; rfl
theorem info83 : (Tryd.prog.info? 83).map (fun i => (i.zero, i.size, i.bytes)) = some (some (.agg #[.pointer none, .slice none 0 0]), 2, 32) := by kernel_rfl
set_option maxRecDepth 100000 in
theorem zero84 (w : World) : (zeroValue 84).run Tryd.prog w = .ok (.agg #[.pointer none, .slice none 0 0]) w := by
  simp only [zeroValue, Sem.run_bind, Tryd.typeInfo84, Result.andThen_ok]; rfl
theorem info84 : (Tryd.prog.info? 84).map (fun i => (i.zero, i.size, i.bytes)) = some (some (.agg #[.pointer none, .slice none 0 0]), 2, 32) := by kernel_rfl
set_option maxRecDepth 100000 in
theorem zero94 (w : World) : (zeroValue 94).run Tryd.prog w = .ok (.agg #[.bool false, .bool false, .bool false, .bool false, .bool false, .bool false, .bool false, .bool false, .bool false, .bool false, .bool false, .bool false, .bool false, .bool false, .bool false, .bool false, .bool false, .bool false, .bool false, .bool false, .bool false, .bool false, .bool false, .bool false, .bool false, .bool false, .bool false, .bool false, .bool false, .bool false, .bool false, .bool false, .bool false, .bool false, .bool false, .bool false, .bool false, .bool false, .bool false, .bool false, .bool false, .bool false, .bool false, .bool false, .bool false, .bool false, .bool false, .bool false, .bool false, .bool false, .bool false, .bool false, .bool false, .bool false, .bool false, .bool false, .bool false, .bool false, .bool false, .bool false, .bool false, .bool false, .bool false, .bool false, .bool false, .bool false, .bool false, .bool false, .bool false, .bool false, .bool false, .bool false, .bool false, .bool false, .bool false, .bool false, .bool false, .bool false, .bool false, .bool false, .bool false, .bool false, .bool false, .bool false, .bool false, .bool false, .bool false, .bool false, .bool false, .bool false, .bool false, .bool false, .bool false, .bool false, .bool false, .bool false, .bool false, .bool false, .bool false, .bool false, .bool false, .bool false, .bool false, .bool false, .bool false, .bool false, .bool false, .bool false, .bool false, .bool false, .bool false, .bool false, .bool false, .bool false, .bool false, .bool false, .bool false, .bool false, .bool false, .bool false, .bool false, .bool false, .bool false, .bool false, .bool false, .bool false, .bool false, .bool false, .bool false, .bool false, .bool false, .bool false, .bool false, .bool false, .bool false, .bool false, .bool false, .bool false, .bool false, .bool false, .bool false, .bool false, .bool false, .bool false, .bool false, .bool false, .bool false, .bool false, .bool false, .bool false, .bool false, .bool false, .bool false, .bool false, .bool false, .bool false, .bool false, .bool false, .bool false, .bool false, .bool false, .bool false, .bool false, .bool false, .bool false, .bool false, .bool false, .bool false, .bool false, .bool false, .bool false, .bool false, .bool false, .bool false, .bool false, .bool false, .bool false, .bool false, .bool false, .bool false, .bool false, .bool false, .bool false, .bool false, .bool false, .bool false, .bool false, .bool false, .bool false, .bool false, .bool false, .bool false, .bool false, .bool false, .bool false, .bool false, .bool false, .bool false, .bool false, .bool false, .bool false, .bool false, .bool false, .bool false, .bool false, .bool false, .bool false, .bool false, .bool false, .bool false, .bool false, .bool false, .bool false, .bool false, .bool false, .bool false, .bool false, .bool false, .bool false, .bool false, .bool false, .bool false, .bool false, .bool false, .bool false, .bool false, .bool false, .bool false, .bool false, .bool false, .bool false, .bool false, .bool false, .bool false, .bool false, .bool false, .bool false, .bool false, .bool false, .bool false, .bool false, .bool false, .bool false, .bool false, .bool false, .bool false, .bool false, .bool false, .bool false, .bool false, .bool false, .bool false, .bool false, .bool false, .bool false, .bool false]) w := by
  simp only [zeroValue, Sem.run_bind, Tryd.typeInfo94, Result.andThen_ok]; rfl
theorem info94 : (Tryd.prog.info? 94).map (fun i => (i.zero, i.size, i.bytes)) = some (some (.agg #[.bool false, .bool false, .bool false, .bool false, .bool false, .bool false, .bool false, .bool false, .bool false, .bool false, .bool false, .bool false, .bool false, .bool false, .bool false, .bool false, .bool false, .bool false, .bool false, .bool false, .bool false, .bool false, .bool false, .bool false, .bool false, .bool false, .bool false, .bool false, .bool false, .bool false, .bool false, .bool false, .bool false, .bool false, .bool false, .bool false, .bool false, .bool false, .bool false, .bool false, .bool false, .bool false, .bool false, .bool false, .bool false, .bool false, .bool false, .bool false, .bool false, .bool false, .bool false, .bool false, .bool false, .bool false, .bool false, .bool false, .bool false, .bool false, .bool false, .bool false, .bool false, .bool false, .bool false, .bool false, .bool false, .bool false, .bool false, .bool false, .bool false, .bool false, .bool false, .bool false, .bool false, .bool false, .bool false, .bool false, .bool false, .bool false, .bool false, .bool false, .bool false, .bool false, .bool false, .bool false, .bool false, .bool false, .bool false, .bool false, .bool false, .bool false, .bool false, .bool false, .bool false, .bool false, .bool false, .bool false, .bool false, .bool false, .bool false, .bool false, .bool false, .bool false, .bool false, .bool false, .bool false, .bool false, .bool false, .bool false, .bool false, .bool false, .bool false, .bool false, .bool false, .bool false, .bool false, .bool false, .bool false, .bool false, .bool false, .bool false, .bool false, .bool false, .bool false, .bool false, .bool false, .bool false, .bool false, .bool false, .bool false, .bool false, .bool false, .bool false, .bool false, .bool false, .bool false, .bool false, .bool false, .bool false, .bool false, .bool false, .bool false, .bool false, .bool false, .bool false, .bool false, .bool false, .bool false, .bool false, .bool false, .bool false, .bool false, .bool false, .bool false, .bool false, .bool false, .bool false, .bool false, .bool false, .bool false, .bool false, .bool false, .bool false, .bool false, .bool false, .bool false, .bool false, .bool false, .bool false, .bool false, .bool false, .bool false, .bool false, .bool false, .bool false, .bool false, .bool false, .bool false, .bool false, .bool false, .bool false, .bool false, .bool false, .bool false, .bool false, .bool false, .bool false, .bool false, .bool false, .bool false, .bool false, .bool false, .bool false, .bool false, .bool false, .bool false, .bool false, .bool false, .bool false, .bool false, .bool false, .bool false, .bool false, .bool false, .bool false, .bool false, .bool false, .bool false, .bool false, .bool false, .bool false, .bool false, .bool false, .bool false, .bool false, .bool false, .bool false, .bool false, .bool false, .bool false, .bool false, .bool false, .bool false, .bool false, .bool false, .bool false, .bool false, .bool false, .bool false, .bool false, .bool false, .bool false, .bool false, .bool false, .bool false, .bool false, .bool false, .bool false, .bool false, .bool false, .bool false, .bool false, .bool false, .bool false, .bool false, .bool false, .bool false, .bool false, .bool false, .bool false, .bool false, .bool false, .bool false, .bool false, .bool false, .bool false, .bool false]), 256, 256) := by kernel_rfl
set_option maxRecDepth 100000 in
theorem zero95 (w : World) : (zeroValue 95).run Tryd.prog w = .ok (.agg #[.bool false, .bool false, .bool false, .bool false, .bool false, .bool false, .bool false, .bool false, .bool false, .bool false, .bool false, .bool false, .bool false, .bool false, .bool false, .bool false, .bool false, .bool false, .bool false, .bool false, .bool false, .bool false, .bool false, .bool false, .bool false, .bool false, .bool false, .bool false, .bool false, .bool false, .bool false, .bool false, .bool false, .bool false, .bool false, .bool false, .bool false, .bool false, .bool false, .bool false, .bool false, .bool false, .bool false, .bool false, .bool false, .bool false, .bool false, .bool false, .bool false, .bool false, .bool false, .bool false, .bool false, .bool false, .bool false, .bool false, .bool false, .bool false, .bool false, .bool false, .bool false, .bool false, .bool false, .bool false, .bool false, .bool false, .bool false, .bool false, .bool false, .bool false, .bool false, .bool false, .bool false, .bool false, .bool false, .bool false, .bool false, .bool false, .bool false, .bool false, .bool false, .bool false, .bool false, .bool false, .bool false, .bool false, .bool false, .bool false, .bool false, .bool false, .bool false, .bool false, .bool false, .bool false, .bool false, .bool false, .bool false, .bool false, .bool false, .bool false, .bool false, .bool false, .bool false, .bool false, .bool false, .bool false, .bool false, .bool false, .bool false, .bool false, .bool false, .bool false, .bool false, .bool false, .bool false, .bool false, .bool false, .bool false, .bool false, .bool false, .bool false, .bool false, .bool false, .bool false, .bool false, .bool false, .bool false, .bool false, .bool false, .bool false, .bool false, .bool false, .bool false, .bool false, .bool false, .bool false, .bool false, .bool false, .bool false, .bool false, .bool false, .bool false, .bool false, .bool false, .bool false, .bool false, .bool false, .bool false, .bool false, .bool false, .bool false, .bool false, .bool false, .bool false, .bool false, .bool false, .bool false, .bool false, .bool false, .bool false, .bool false, .bool false, .bool false, .bool false, .bool false, .bool false, .bool false, .bool false, .bool false, .bool false, .bool false, .bool false, .bool false, .bool false, .bool false, .bool false, .bool false, .bool false, .bool false, .bool false, .bool false, .bool false, .bool false, .bool false, .bool false, .bool false, .bool false, .bool false, .bool false, .bool false, .bool false, .bool false, .bool false, .bool false, .bool false, .bool false, .bool false, .bool false, .bool false, .bool false, .bool false, .bool false, .bool false, .bool false, .bool false, .bool false, .bool false, .bool false, .bool false, .bool false, .bool false, .bool false, .bool false, .bool false, .bool false, .bool false, .bool false, .bool false, .bool false, .bool false, .bool false, .bool false, .bool false, .bool false, .bool false, .bool false, .bool false, .bool false, .bool false, .bool false, .bool false, .bool false, .bool false, .bool false, .bool false, .bool false, .bool false, .bool false, .bool false, .bool false, .bool false, .bool false, .bool false, .bool false, .bool false, .bool false, .bool false, .bool false, .bool false, .bool false, .bool false, .bool false, .bool false, .bool false, .bool false, .bool false]) w := by
  simp only [zeroValue, Sem.run_bind, Tryd.typeInfo95, Result.andThen_ok]; rfl
theorem info95 : (Tryd.prog.info? 95).map (fun i => (i.zero, i.size, i.bytes)) = some (some (.agg #[.bool false, .bool false, .bool false, .bool false, .bool false, .bool false, .bool false, .bool false, .bool false, .bool false, .bool false, .bool false, .bool false, .bool false, .bool false, .bool false, .bool false, .bool false, .bool false, .bool false, .bool false, .bool false, .bool false, .bool false, .bool false, .bool false, .bool false, .bool false, .bool false, .bool false, .bool false, .bool false, .bool false, .bool false, .bool false, .bool false, .bool false, .bool false, .bool false, .bool false, .bool false, .bool false, .bool false, .bool false, .bool false, .bool false, .bool false, .bool false, .bool false, .bool false, .bool false, .bool false, .bool false, .bool false, .bool false, .bool false, .bool false, .bool false, .bool false, .bool false, .bool false, .bool false, .bool false, .bool false, .bool false, .bool false, .bool false, .bool false, .bool false, .bool false, .bool false, .bool false, .bool false, .bool false, .bool false, .bool false, .bool false, .bool false, .bool false, .bool false, .bool false, .bool false, .bool false, .bool false, .bool false, .bool false, .bool false, .bool false, .bool false, .bool false, .bool false, .bool false, .bool false, .bool false, .bool false, .bool false, .bool false, .bool false, .bool false, .bool false, .bool false, .bool false, .bool false, .bool false, .bool false, .bool false, .bool false, .bool false, .bool false, .bool false, .bool false, .bool false, .bool false, .bool false, .bool false, .bool false, .bool false, .bool false, .bool false, .bool false, .bool false, .bool false, .bool false, .bool false, .bool false, .bool false, .bool false, .bool false, .bool false, .bool false, .bool false, .bool false, .bool false, .bool false, .bool false, .bool false, .bool false, .bool false, .bool false, .bool false, .bool false, .bool false, .bool false, .bool false, .bool false, .bool false, .bool false, .bool false, .bool false, .bool false, .bool false, .bool false, .bool false, .bool false, .bool false, .bool false, .bool false, .bool false, .bool false, .bool false, .bool false, .bool false, .bool false, .bool false, .bool false, .bool false, .bool false, .bool false, .bool false, .bool false, .bool false, .bool false, .bool false, .bool false, .bool false, .bool false, .bool false, .bool false, .bool false, .bool false, .bool false, .bool false, .bool false, .bool false, .bool false, .bool false, .bool false, .bool false, .bool false, .bool false, .bool false, .bool false, .bool false, .bool false, .bool false, .bool false, .bool false, .bool false, .bool false, .bool false, .bool false, .bool false, .bool false, .bool false, .bool false, .bool false, .bool false, .bool false, .bool false, .bool false, .bool false, .bool false, .bool false, .bool false, .bool false, .bool false, .bool false, .bool false, .bool false, .bool false, .bool false, .bool false, .bool false, .bool false, .bool false, .bool false, .bool false, .bool false, .bool false, .bool false, .bool false, .bool false, .bool false, .bool false, .bool false, .bool false, .bool false, .bool false, .bool false, .bool false, .bool false, .bool false, .bool false, .bool false, .bool false, .bool false, .bool false, .bool false, .bool false, .bool false, .bool false, .bool false, .bool false, .bool false, .bool false, .bool false]), 256, 256) := by kernel_rfl
set_option maxRecDepth 100000 in
theorem zero99 (w : World) : (zeroValue 99).run Tryd.prog w = .ok (.pointer none) w := by
  simp only [zeroValue, Sem.run_bind, Tryd.typeInfo99, Result.andThen_ok]; rfl
theorem info99 : (Tryd.prog.info? 99).map (fun i => (i.zero, i.size, i.bytes)) = some (some (.pointer none), 1, 8) := by kernel_rfl
set_option maxRecDepth 100000 in
theorem zero100 (w : World) : (zeroValue 100).run Tryd.prog w = .ok (.pointer none) w := by
  simp only [zeroValue, Sem.run_bind, Tryd.typeInfo100, Result.andThen_ok]; rfl
theorem info100 : (Tryd.prog.info? 100).map (fun i => (i.zero, i.size, i.bytes)) = some (some (.pointer none), 1, 8) := by kernel_rfl
set_option maxRecDepth 100000 in
theorem zero109 (w : World) : (zeroValue 109).run Tryd.prog w = .ok (.int .u64 0) w := by
  simp only [zeroValue, Sem.run_bind, Tryd.typeInfo109, Result.andThen_ok]; rfl
theorem info109 : (Tryd.prog.info? 109).map (fun i => (i.zero, i.size, i.bytes)) = some (some (.int .u64 0), 1, 8) := by kernel_rfl
set_option maxRecDepth 100000 in
theorem zero111 (w : World) : (zeroValue 111).run Tryd.prog w = .ok (.int .u32 0) w := by
  simp only [zeroValue, Sem.run_bind, Tryd.typeInfo111, Result.andThen_ok]; rfl
theorem info111 : (Tryd.prog.info? 111).map (fun i => (i.zero, i.size, i.bytes)) = some (some (.int .u32 0), 1, 4) := by kernel_rfl
set_option maxRecDepth 100000 in
theorem zero114 (w : World) : (zeroValue 114).run Tryd.prog w = .ok (.agg #[.int .u8 0, .int .u8 0, .int .u8 0, .int .u8 0, .int .u8 0, .int .u8 0, .int .u8 0, .int .u8 0, .int .u8 0, .int .u8 0, .int .u8 0, .int .u8 0, .int .u8 0, .int .u8 0, .int .u8 0, .int .u8 0, .int .u8 0, .int .u8 0, .int .u8 0, .int .u8 0, .int .u8 0, .int .u8 0, .int .u8 0, .int .u8 0, .int .u8 0, .int .u8 0, .int .u8 0, .int .u8 0, .int .u8 0, .int .u8 0, .int .u8 0, .int .u8 0, .int .u8 0, .int .u8 0, .int .u8 0, .int .u8 0, .int .u8 0, .int .u8 0, .int .u8 0, .int .u8 0, .int .u8 0, .int .u8 0, .int .u8 0, .int .u8 0, .int .u8 0, .int .u8 0, .int .u8 0, .int .u8 0, .int .u8 0, .int .u8 0, .int .u8 0, .int .u8 0, .int .u8 0, .int .u8 0, .int .u8 0, .int .u8 0, .int .u8 0, .int .u8 0, .int .u8 0, .int .u8 0, .int .u8 0, .int .u8 0, .int .u8 0, .int .u8 0, .int .u8 0, .int .u8 0, .int .u8 0, .int .u8 0, .int .u8 0, .int .u8 0, .int .u8 0, .int .u8 0, .int .u8 0, .int .u8 0, .int .u8 0, .int .u8 0, .int .u8 0, .int .u8 0, .int .u8 0, .int .u8 0, .int .u8 0, .int .u8 0, .int .u8 0, .int .u8 0, .int .u8 0, .int .u8 0, .int .u8 0, .int .u8 0, .int .u8 0, .int .u8 0, .int .u8 0, .int .u8 0, .int .u8 0, .int .u8 0, .int .u8 0, .int .u8 0, .int .u8 0, .int .u8 0, .int .u8 0, .int .u8 0, .int .u8 0, .int .u8 0, .int .u8 0, .int .u8 0, .int .u8 0, .int .u8 0, .int .u8 0, .int .u8 0, .int .u8 0, .int .u8 0, .int .u8 0, .int .u8 0, .int .u8 0, .int .u8 0, .int .u8 0, .int .u8 0, .int .u8 0, .int .u8 0, .int .u8 0, .int .u8 0, .int .u8 0, .int .u8 0, .int .u8 0, .int .u8 0, .int .u8 0, .int .u8 0, .int .u8 0, .int .u8 0, .int .u8 0, .int .u8 0, .int .u8 0, .int .u8 0, .int .u8 0, .int .u8 0, .int .u8 0, .int .u8 0, .int .u8 0, .int .u8 0, .int .u8 0, .int .u8 0, .int .u8 0, .int .u8 0, .int .u8 0, .int .u8 0, .int .u8 0, .int .u8 0, .int .u8 0, .int .u8 0, .int .u8 0, .int .u8 0, .int .u8 0, .int .u8 0, .int .u8 0, .int .u8 0, .int .u8 0, .int .u8 0, .int .u8 0, .int .u8 0, .int .u8 0, .int .u8 0, .int .u8 0, .int .u8 0, .int .u8 0, .int .u8 0, .int .u8 0, .int .u8 0, .int .u8 0, .int .u8 0, .int .u8 0, .int .u8 0, .int .u8 0, .int .u8 0, .int .u8 0, .int .u8 0, .int .u8 0, .int .u8 0, .int .u8 0, .int .u8 0, .int .u8 0, .int .u8 0, .int .u8 0, .int .u8 0, .int .u8 0, .int .u8 0, .int .u8 0, .int .u8 0, .int .u8 0, .int .u8 0, .int .u8 0, .int .u8 0, .int .u8 0, .int .u8 0, .int .u8 0, .int .u8 0, .int .u8 0, .int .u8 0, .int .u8 0, .int .u8 0, .int .u8 0, .int .u8 0, .int .u8 0, .int .u8 0, .int .u8 0, .int .u8 0, .int .u8 0, .int .u8 0, .int .u8 0, .int .u8 0, .int .u8 0, .int .u8 0, .int .u8 0, .int .u8 0, .int .u8 0, .int .u8 0, .int .u8 0, .int .u8 0, .int .u8 0, .int .u8 0, .int .u8 0, .int .u8 0, .int .u8 0, .int .u8 0, .int .u8 0, .int .u8 0, .int .u8 0, .int .u8 0, .int .u8 0, .int .u8 0, .int .u8 0, .int .u8 0, .int .u8 0, .int .u8 0, .int .u8 0, .int .u8 0, .int .u8 0, .int .u8 0, .int .u8 0, .int .u8 0, .int .u8 0, .int .u8 0, .int .u8 0, .int .u8 0, .int .u8 0, .int .u8 0, .int .u8 0, .int .u8 0, .int .u8 0, .int .u8 0, .int .u8 0, .int .u8 0, .int .u8 0, .int .u8 0, .int .u8 0, .int .u8 0, .int .u8 0, .int .u8 0]) w := by
  simp only [zeroValue, Sem.run_bind, Tryd.typeInfo114, Result.andThen_ok]; rfl
theorem info114 : (Tryd.prog.info? 114).map (fun i => (i.zero, i.size, i.bytes)) = some (some (.agg #[.int .u8 0, .int .u8 0, .int .u8 0, .int .u8 0, .int .u8 0, .int .u8 0, .int .u8 0, .int .u8 0, .int .u8 0, .int .u8 0, .int .u8 0, .int .u8 0, .int .u8 0, .int .u8 0, .int .u8 0, .int .u8 0, .int .u8 0, .int .u8 0, .int .u8 0, .int .u8 0, .int .u8 0, .int .u8 0, .int .u8 0, .int .u8 0, .int .u8 0, .int .u8 0, .int .u8 0, .int .u8 0, .int .u8 0, .int .u8 0, .int .u8 0, .int .u8 0, .int .u8 0, .int .u8 0, .int .u8 0, .int .u8 0, .int .u8 0, .int .u8 0, .int .u8 0, .int .u8 0, .int .u8 0, .int .u8 0, .int .u8 0, .int .u8 0, .int .u8 0, .int .u8 0, .int .u8 0, .int .u8 0, .int .u8 0, .int .u8 0, .int .u8 0, .int .u8 0, .int .u8 0, .int .u8 0, .int .u8 0, .int .u8 0, .int .u8 0, .int .u8 0, .int .u8 0, .int .u8 0, .int .u8 0, .int .u8 0, .int .u8 0, .int .u8 0, .int .u8 0, .int .u8 0, .int .u8 0, .int .u8 0, .int .u8 0, .int .u8 0, .int .u8 0, .int .u8 0, .int .u8 0, .int .u8 0, .int .u8 0, .int .u8 0, .int .u8 0, .int .u8 0, .int .u8 0, .int .u8 0, .int .u8 0, .int .u8 0, .int .u8 0, .int .u8 0, .int .u8 0, .int .u8 0, .int .u8 0, .int .u8 0, .int .u8 0, .int .u8 0, .int .u8 0, .int .u8 0, .int .u8 0, .int .u8 0, .int .u8 0, .int .u8 0, .int .u8 0, .int .u8 0, .int .u8 0, .int .u8 0, .int .u8 0, .int .u8 0, .int .u8 0, .int .u8 0, .int .u8 0, .int .u8 0, .int .u8 0, .int .u8 0, .int .u8 0, .int .u8 0, .int .u8 0, .int .u8 0, .int .u8 0, .int .u8 0, .int .u8 0, .int .u8 0, .int .u8 0, .int .u8 0, .int .u8 0, .int .u8 0, .int .u8 0, .int .u8 0, .int .u8 0, .int .u8 0, .int .u8 0, .int .u8 0, .int .u8 0, .int .u8 0, .int .u8 0, .int .u8 0, .int .u8 0, .int .u8 0, .int .u8 0, .int .u8 0, .int .u8 0, .int .u8 0, .int .u8 0, .int .u8 0, .int .u8 0, .int .u8 0, .int .u8 0, .int .u8 0, .int .u8 0, .int .u8 0, .int .u8 0, .int .u8 0, .int .u8 0, .int .u8 0, .int .u8 0, .int .u8 0, .int .u8 0, .int .u8 0, .int .u8 0, .int .u8 0, .int .u8 0, .int .u8 0, .int .u8 0, .int .u8 0, .int .u8 0, .int .u8 0, .int .u8 0, .int .u8 0, .int .u8 0, .int .u8 0, .int .u8 0, .int .u8 0, .int .u8 0, .int .u8 0, .int .u8 0, .int .u8 0, .int .u8 0, .int .u8 0, .int .u8 0, .int .u8 0, .int .u8 0, .int .u8 0, .int .u8 0, .int .u8 0, .int .u8 0, .int .u8 0, .int .u8 0, .int .u8 0, .int .u8 0, .int .u8 0, .int .u8 0, .int .u8 0, .int .u8 0, .int .u8 0, .int .u8 0, .int .u8 0, .int .u8 0, .int .u8 0, .int .u8 0, .int .u8 0, .int .u8 0, .int .u8 0, .int .u8 0, .int .u8 0, .int .u8 0, .int .u8 0, .int .u8 0, .int .u8 0, .int .u8 0, .int .u8 0, .int .u8 0, .int .u8 0, .int .u8 0, .int .u8 0, .int .u8 0, .int .u8 0, .int .u8 0, .int .u8 0, .int .u8 0, .int .u8 0, .int .u8 0, .int .u8 0, .int .u8 0, .int .u8 0, .int .u8 0, .int .u8 0, .int .u8 0, .int .u8 0, .int .u8 0, .int .u8 0, .int .u8 0, .int .u8 0, .int .u8 0, .int .u8 0, .int .u8 0, .int .u8 0, .int .u8 0, .int .u8 0, .int .u8 0, .int .u8 0, .int .u8 0, .int .u8 0, .int .u8 0, .int .u8 0, .int .u8 0, .int .u8 0, .int .u8 0, .int .u8 0, .int .u8 0, .int .u8 0, .int .u8 0, .int .u8 0, .int .u8 0, .int .u8 0, .int .u8 0, .int .u8 0, .int .u8 0, .int .u8 0, .int .u8 0, .int .u8 0, .int .u8 0, .int .u8 0]), 256, 256) := by kernel_rfl
set_option maxRecDepth 100000 in
theorem zero115 (w : World) : (zeroValue 115).run Tryd.prog w = .ok (.agg #[.int .u8 0, .int .u8 0]) w := by
  simp only [zeroValue, Sem.run_bind, Tryd.typeInfo115, Result.andThen_ok]; rfl
theorem info115 : (Tryd.prog.info? 115).map (fun i => (i.zero, i.size, i.bytes)) = some (some (.agg #[.int .u8 0, .int .u8 0]), 2, 2) := by kernel_rfl
set_option maxRecDepth 100000 in
theorem zero116 (w : World) : (zeroValue 116).run Tryd.prog w = .ok (.agg #[.int .u8 0, .int .u8 0]) w := by
  simp only [zeroValue, Sem.run_bind, Tryd.typeInfo116, Result.andThen_ok]; rfl
theorem info116 : (Tryd.prog.info? 116).map (fun i => (i.zero, i.size, i.bytes)) = some (some (.agg #[.int .u8 0, .int .u8 0]), 2, 2) := by kernel_rfl
set_option maxRecDepth 100000 in
theorem zero117 (w : World) : (zeroValue 117).run Tryd.prog w = .ok (.agg #[.int .u8 0, .int .u8 0, .int .u8 0, .int .u8 0, .int .u8 0, .int .u8 0, .int .u8 0, .int .u8 0, .int .u8 0, .int .u8 0, .int .u8 0, .int .u8 0, .int .u8 0, .int .u8 0, .int .u8 0, .int .u8 0, .int .u8 0, .int .u8 0, .int .u8 0, .int .u8 0, .int .u8 0, .int .u8 0, .int .u8 0, .int .u8 0, .int .u8 0, .int .u8 0, .int .u8 0, .int .u8 0, .int .u8 0, .int .u8 0, .int .u8 0, .int .u8 0]) w := by
  simp only [zeroValue, Sem.run_bind, Tryd.typeInfo117, Result.andThen_ok]; rfl
theorem info117 : (Tryd.prog.info? 117).map (fun i => (i.zero, i.size, i.bytes)) = some (some (.agg #[.int .u8 0, .int .u8 0, .int .u8 0, .int .u8 0, .int .u8 0, .int .u8 0, .int .u8 0, .int .u8 0, .int .u8 0, .int .u8 0, .int .u8 0, .int .u8 0, .int .u8 0, .int .u8 0, .int .u8 0, .int .u8 0, .int .u8 0, .int .u8 0, .int .u8 0, .int .u8 0, .int .u8 0, .int .u8 0, .int .u8 0, .int .u8 0, .int .u8 0, .int .u8 0, .int .u8 0, .int .u8 0, .int .u8 0, .int .u8 0, .int .u8 0, .int .u8 0]), 32, 32) := by kernel_rfl
set_option maxRecDepth 100000 in
theorem zero118 (w : World) : (zeroValue 118).run Tryd.prog w = .ok (.agg #[.pointer none, .pointer none, .pointer none, .string ⟨#[]⟩]) w := by
  simp only [zeroValue, Sem.run_bind, Tryd.typeInfo118, Result.andThen_ok]; rfl
theorem info118 : (Tryd.prog.info? 118).map (fun i => (i.zero, i.size, i.bytes)) = some (some (.agg #[.pointer none, .pointer none, .pointer none, .string ⟨#[]⟩]), 4, 40) := by kernel_rfl
set_option maxRecDepth 100000 in
theorem zero119 (w : World) : (zeroValue 119).run Tryd.prog w = .ok (.agg #[.pointer none, .pointer none, .pointer none, .string ⟨#[]⟩]) w := by
  simp only [zeroValue, Sem.run_bind, Tryd.typeInfo119, Result.andThen_ok]; rfl
theorem info119 : (Tryd.prog.info? 119).map (fun i => (i.zero, i.size, i.bytes)) = some (some (.agg #[.pointer none, .pointer none, .pointer none, .string ⟨#[]⟩]), 4, 40) := by kernel_rfl
set_option maxRecDepth 100000 in
theorem zero120 (w : World) : (zeroValue 120).run Tryd.prog w = .ok (.agg #[]) w := by
  simp only [zeroValue, Sem.run_bind, Tryd.typeInfo120, Result.andThen_ok]; rfl
theorem info120 : (Tryd.prog.info? 120).map (fun i => (i.zero, i.size, i.bytes)) = some (some (.agg #[]), 0, 0) := by kernel_rfl
set_option maxRecDepth 100000 in
theorem zero121 (w : World) : (zeroValue 121).run Tryd.prog w = .ok (.agg #[]) w := by
  simp only [zeroValue, Sem.run_bind, Tryd.typeInfo121, Result.andThen_ok]; rfl
theorem info121 : (Tryd.prog.info? 121).map (fun i => (i.zero, i.size, i.bytes)) = some (some (.agg #[]), 0, 0) := by kernel_rfl
set_option maxRecDepth 100000 in
theorem zero122 (w : World) : (zeroValue 122).run Tryd.prog w = .ok (.agg #[]) w := by
  simp only [zeroValue, Sem.run_bind, Tryd.typeInfo122, Result.andThen_ok]; rfl
theorem info122 : (Tryd.prog.info? 122).map (fun i => (i.zero, i.size, i.bytes)) = some (some (.agg #[]), 0, 0) := by kernel_rfl
set_option maxRecDepth 100000 in
theorem zero124 (w : World) : (zeroValue 124).run Tryd.prog w = .ok (.int .u8 0) w := by
  simp only [zeroValue, Sem.run_bind, Tryd.typeInfo124, Result.andThen_ok]; rfl
theorem info124 : (Tryd.prog.info? 124).map (fun i => (i.zero, i.size, i.bytes)) = some (some (.int .u8 0), 1, 1) := by kernel_rfl
set_option maxRecDepth 100000 in
theorem zero125 (w : World) : (zeroValue 125).run Tryd.prog w = .ok (.int .u8 0) w := by
  simp only [zeroValue, Sem.run_bind, Tryd.typeInfo125, Result.andThen_ok]; rfl
theorem info125 : (Tryd.prog.info? 125).map (fun i => (i.zero, i.size, i.bytes)) = some (some (.int .u8 0), 1, 1) := by kernel_rfl
set_option maxRecDepth 100000 in
theorem zero127 (w : World) : (zeroValue 127).run Tryd.prog w = .ok (.int .i32 0) w := by
  simp only [zeroValue, Sem.run_bind, Tryd.typeInfo127, Result.andThen_ok]; rfl
theorem info127 : (Tryd.prog.info? 127).map (fun i => (i.zero, i.size, i.bytes)) = some (some (.int .i32 0), 1, 4) := by kernel_rfl
set_option maxRecDepth 100000 in
theorem zero128 (w : World) : (zeroValue 128).run Tryd.prog w = .ok (.int .i32 0) w := by
  simp only [zeroValue, Sem.run_bind, Tryd.typeInfo128, Result.andThen_ok]; rfl
theorem info128 : (Tryd.prog.info? 128).map (fun i => (i.zero, i.size, i.bytes)) = some (some (.int .i32 0), 1, 4) := by kernel_rfl
set_option maxRecDepth 100000 in
theorem zero129 (w : World) : (zeroValue 129).run Tryd.prog w = .ok (.agg #[.int .u64 0, .int .u64 0, .int .u32 0, .int .u8 0, .int .u8 0, .int .u8 0, .int .u8 0, .nilFunc, .pointer none, .int .i32 0, .int .i32 0]) w := by
  simp only [zeroValue, Sem.run_bind, Tryd.typeInfo129, Result.andThen_ok]; rfl
theorem info129 : (Tryd.prog.info? 129).map (fun i => (i.zero, i.size, i.bytes)) = some (some (.agg #[.int .u64 0, .int .u64 0, .int .u32 0, .int .u8 0, .int .u8 0, .int .u8 0, .int .u8 0, .nilFunc, .pointer none, .int .i32 0, .int .i32 0]), 11, 48) := by kernel_rfl
set_option maxRecDepth 100000 in
theorem zero130 (w : World) : (zeroValue 130).run Tryd.prog w = .ok (.agg #[.int .u64 0, .int .u64 0, .int .u32 0, .int .u8 0, .int .u8 0, .int .u8 0, .int .u8 0, .nilFunc, .pointer none, .int .i32 0, .int .i32 0]) w := by
  simp only [zeroValue, Sem.run_bind, Tryd.typeInfo130, Result.andThen_ok]; rfl
theorem info130 : (Tryd.prog.info? 130).map (fun i => (i.zero, i.size, i.bytes)) = some (some (.agg #[.int .u64 0, .int .u64 0, .int .u32 0, .int .u8 0, .int .u8 0, .int .u8 0, .int .u8 0, .nilFunc, .pointer none, .int .i32 0, .int .i32 0]), 11, 48) := by kernel_rfl
theorem places7 : ∃ fs, Tryd.prog.underlying 7 = some (.struct fs) ∧ ∀ w, (fs.mapM fun f => do pure (f.offset, ← sizeOf f.type) : Sem (Array (Nat × Nat))).run Tryd.prog w = .ok #[(0, 1), (1, 1), (2, 1), (3, 1)] w :=
  ⟨_, Tryd.underlying7, fun w => by simp [Tryd.sizeOf2, Tryd.sizeOf3, Tryd.sizeOf4, Tryd.sizeOf6]⟩
theorem places8 : ∃ fs, Tryd.prog.underlying 8 = some (.struct fs) ∧ ∀ w, (fs.mapM fun f => do pure (f.offset, ← sizeOf f.type) : Sem (Array (Nat × Nat))).run Tryd.prog w = .ok #[(0, 1), (1, 1), (2, 1), (3, 1)] w :=
  ⟨_, Tryd.underlying8, fun w => by simp [Tryd.sizeOf2, Tryd.sizeOf3, Tryd.sizeOf4, Tryd.sizeOf6]⟩
theorem places13 : ∃ fs, Tryd.prog.underlying 13 = some (.struct fs) ∧ ∀ w, (fs.mapM fun f => do pure (f.offset, ← sizeOf f.type) : Sem (Array (Nat × Nat))).run Tryd.prog w = .ok #[(0, 1), (1, 1)] w :=
  ⟨_, Tryd.underlying13, fun w => by simp [Tryd.sizeOf12, Tryd.sizeOf9]⟩
theorem places14 : ∃ fs, Tryd.prog.underlying 14 = some (.struct fs) ∧ ∀ w, (fs.mapM fun f => do pure (f.offset, ← sizeOf f.type) : Sem (Array (Nat × Nat))).run Tryd.prog w = .ok #[(0, 1), (1, 1)] w :=
  ⟨_, Tryd.underlying14, fun w => by simp [Tryd.sizeOf12, Tryd.sizeOf9]⟩
theorem places18 : ∃ fs, Tryd.prog.underlying 18 = some (.struct fs) ∧ ∀ w, (fs.mapM fun f => do pure (f.offset, ← sizeOf f.type) : Sem (Array (Nat × Nat))).run Tryd.prog w = .ok #[(0, 1)] w :=
  ⟨_, Tryd.underlying18, fun w => by simp [Tryd.sizeOf17]⟩
theorem places19 : ∃ fs, Tryd.prog.underlying 19 = some (.struct fs) ∧ ∀ w, (fs.mapM fun f => do pure (f.offset, ← sizeOf f.type) : Sem (Array (Nat × Nat))).run Tryd.prog w = .ok #[(0, 1)] w :=
  ⟨_, Tryd.underlying19, fun w => by simp [Tryd.sizeOf17]⟩
theorem places29 : ∃ fs, Tryd.prog.underlying 29 = some (.struct fs) ∧ ∀ w, (fs.mapM fun f => do pure (f.offset, ← sizeOf f.type) : Sem (Array (Nat × Nat))).run Tryd.prog w = .ok #[(0, 1), (1, 1), (2, 1)] w :=
  ⟨_, Tryd.underlying29, fun w => by simp [Tryd.sizeOf28, Tryd.sizeOf9]⟩
theorem places30 : ∃ fs, Tryd.prog.underlying 30 = some (.struct fs) ∧ ∀ w, (fs.mapM fun f => do pure (f.offset, ← sizeOf f.type) : Sem (Array (Nat × Nat))).run Tryd.prog w = .ok #[(0, 1), (1, 1), (2, 1)] w :=
  ⟨_, Tryd.underlying30, fun w => by simp [Tryd.sizeOf28, Tryd.sizeOf9]⟩
theorem places31 : ∃ fs, Tryd.prog.underlying 31 = some (.struct fs) ∧ ∀ w, (fs.mapM fun f => do pure (f.offset, ← sizeOf f.type) : Sem (Array (Nat × Nat))).run Tryd.prog w = .ok #[(0, 1), (1, 1), (2, 1), (3, 1), (4, 3), (7, 1), (8, 1)] w :=
  ⟨_, Tryd.underlying31, fun w => by simp [Tryd.sizeOf3, Tryd.sizeOf30]⟩
theorem places32 : ∃ fs, Tryd.prog.underlying 32 = some (.struct fs) ∧ ∀ w, (fs.mapM fun f => do pure (f.offset, ← sizeOf f.type) : Sem (Array (Nat × Nat))).run Tryd.prog w = .ok #[(0, 1), (1, 1), (2, 1), (3, 1), (4, 3), (7, 1), (8, 1)] w :=
  ⟨_, Tryd.underlying32, fun w => by simp [Tryd.sizeOf3, Tryd.sizeOf30]⟩
theorem places36 : ∃ fs, Tryd.prog.underlying 36 = some (.struct fs) ∧ ∀ w, (fs.mapM fun f => do pure (f.offset, ← sizeOf f.type) : Sem (Array (Nat × Nat))).run Tryd.prog w = .ok #[(0, 1), (1, 1)] w :=
  ⟨_, Tryd.underlying36, fun w => by simp [Tryd.sizeOf24, Tryd.sizeOf26]⟩
theorem places37 : ∃ fs, Tryd.prog.underlying 37 = some (.struct fs) ∧ ∀ w, (fs.mapM fun f => do pure (f.offset, ← sizeOf f.type) : Sem (Array (Nat × Nat))).run Tryd.prog w = .ok #[(0, 1), (1, 1)] w :=
  ⟨_, Tryd.underlying37, fun w => by simp [Tryd.sizeOf24, Tryd.sizeOf26]⟩
theorem places53 : ∃ fs, Tryd.prog.underlying 53 = some (.struct fs) ∧ ∀ w, (fs.mapM fun f => do pure (f.offset, ← sizeOf f.type) : Sem (Array (Nat × Nat))).run Tryd.prog w = .ok #[(0, 1), (1, 1)] w :=
  ⟨_, Tryd.underlying53, fun w => by simp [Tryd.sizeOf9]⟩
theorem places54 : ∃ fs, Tryd.prog.underlying 54 = some (.struct fs) ∧ ∀ w, (fs.mapM fun f => do pure (f.offset, ← sizeOf f.type) : Sem (Array (Nat × Nat))).run Tryd.prog w = .ok #[(0, 1), (1, 1)] w :=
  ⟨_, Tryd.underlying54, fun w => by simp [Tryd.sizeOf9]⟩
theorem places64 : ∃ fs, Tryd.prog.underlying 64 = some (.struct fs) ∧ ∀ w, (fs.mapM fun f => do pure (f.offset, ← sizeOf f.type) : Sem (Array (Nat × Nat))).run Tryd.prog w = .ok #[(0, 1), (1, 1), (2, 1), (3, 1)] w :=
  ⟨_, Tryd.underlying64, fun w => by simp [Tryd.sizeOf3, Tryd.sizeOf9]⟩
theorem places65 : ∃ fs, Tryd.prog.underlying 65 = some (.struct fs) ∧ ∀ w, (fs.mapM fun f => do pure (f.offset, ← sizeOf f.type) : Sem (Array (Nat × Nat))).run Tryd.prog w = .ok #[(0, 1), (1, 1), (2, 1), (3, 1)] w :=
  ⟨_, Tryd.underlying65, fun w => by simp [Tryd.sizeOf3, Tryd.sizeOf9]⟩
theorem places83 : ∃ fs, Tryd.prog.underlying 83 = some (.struct fs) ∧ ∀ w, (fs.mapM fun f => do pure (f.offset, ← sizeOf f.type) : Sem (Array (Nat × Nat))).run Tryd.prog w = .ok #[(0, 1), (1, 1)] w :=
  ⟨_, Tryd.underlying83, fun w => by simp [Tryd.sizeOf24, Tryd.sizeOf82]⟩
theorem places84 : ∃ fs, Tryd.prog.underlying 84 = some (.struct fs) ∧ ∀ w, (fs.mapM fun f => do pure (f.offset, ← sizeOf f.type) : Sem (Array (Nat × Nat))).run Tryd.prog w = .ok #[(0, 1), (1, 1)] w :=
  ⟨_, Tryd.underlying84, fun w => by simp [Tryd.sizeOf24, Tryd.sizeOf82]⟩
theorem places115 : ∃ fs, Tryd.prog.underlying 115 = some (.struct fs) ∧ ∀ w, (fs.mapM fun f => do pure (f.offset, ← sizeOf f.type) : Sem (Array (Nat × Nat))).run Tryd.prog w = .ok #[(0, 1), (1, 1)] w :=
  ⟨_, Tryd.underlying115, fun w => by simp [Tryd.sizeOf5]⟩
theorem places116 : ∃ fs, Tryd.prog.underlying 116 = some (.struct fs) ∧ ∀ w, (fs.mapM fun f => do pure (f.offset, ← sizeOf f.type) : Sem (Array (Nat × Nat))).run Tryd.prog w = .ok #[(0, 1), (1, 1)] w :=
  ⟨_, Tryd.underlying116, fun w => by simp [Tryd.sizeOf5]⟩
theorem places118 : ∃ fs, Tryd.prog.underlying 118 = some (.struct fs) ∧ ∀ w, (fs.mapM fun f => do pure (f.offset, ← sizeOf f.type) : Sem (Array (Nat × Nat))).run Tryd.prog w = .ok #[(0, 1), (1, 1), (2, 1), (3, 1)] w :=
  ⟨_, Tryd.underlying118, fun w => by simp [Tryd.sizeOf17, Tryd.sizeOf9]⟩
theorem places119 : ∃ fs, Tryd.prog.underlying 119 = some (.struct fs) ∧ ∀ w, (fs.mapM fun f => do pure (f.offset, ← sizeOf f.type) : Sem (Array (Nat × Nat))).run Tryd.prog w = .ok #[(0, 1), (1, 1), (2, 1), (3, 1)] w :=
  ⟨_, Tryd.underlying119, fun w => by simp [Tryd.sizeOf17, Tryd.sizeOf9]⟩
theorem places121 : ∃ fs, Tryd.prog.underlying 121 = some (.struct fs) ∧ ∀ w, (fs.mapM fun f => do pure (f.offset, ← sizeOf f.type) : Sem (Array (Nat × Nat))).run Tryd.prog w = .ok #[(0, 0)] w :=
  ⟨_, Tryd.underlying121, fun w => by simp [Tryd.sizeOf120]⟩
theorem places122 : ∃ fs, Tryd.prog.underlying 122 = some (.struct fs) ∧ ∀ w, (fs.mapM fun f => do pure (f.offset, ← sizeOf f.type) : Sem (Array (Nat × Nat))).run Tryd.prog w = .ok #[(0, 0)] w :=
  ⟨_, Tryd.underlying122, fun w => by simp [Tryd.sizeOf120]⟩
theorem places129 : ∃ fs, Tryd.prog.underlying 129 = some (.struct fs) ∧ ∀ w, (fs.mapM fun f => do pure (f.offset, ← sizeOf f.type) : Sem (Array (Nat × Nat))).run Tryd.prog w = .ok #[(0, 1), (1, 1), (2, 1), (3, 1), (4, 1), (5, 1), (6, 1), (7, 1), (8, 1), (9, 1), (10, 1)] w :=
  ⟨_, Tryd.underlying129, fun w => by simp [Tryd.sizeOf100, Tryd.sizeOf111, Tryd.sizeOf12, Tryd.sizeOf124, Tryd.sizeOf125, Tryd.sizeOf126, Tryd.sizeOf127, Tryd.sizeOf128, Tryd.sizeOf5]⟩
theorem places130 : ∃ fs, Tryd.prog.underlying 130 = some (.struct fs) ∧ ∀ w, (fs.mapM fun f => do pure (f.offset, ← sizeOf f.type) : Sem (Array (Nat × Nat))).run Tryd.prog w = .ok #[(0, 1), (1, 1), (2, 1), (3, 1), (4, 1), (5, 1), (6, 1), (7, 1), (8, 1), (9, 1), (10, 1)] w :=
  ⟨_, Tryd.underlying130, fun w => by simp [Tryd.sizeOf100, Tryd.sizeOf111, Tryd.sizeOf12, Tryd.sizeOf124, Tryd.sizeOf125, Tryd.sizeOf126, Tryd.sizeOf127, Tryd.sizeOf128, Tryd.sizeOf5]⟩
theorem fields7 : ∃ f0 f1 f2 f3, (Tryd.prog.fieldsOf 7).toList = [f0, f1, f2, f3] ∧ (f0.name = "x" ∧ f0.type = 2 ∧ f0.offset = 0) ∧ (f1.name = "y" ∧ f1.type = 3 ∧ f1.offset = 1) ∧ (f2.name = "signed" ∧ f2.type = 4 ∧ f2.offset = 2) ∧ (f3.name = "code" ∧ f3.type = 6 ∧ f3.offset = 3) := by
  unfold Program.fieldsOf
  rw [Tryd.underlying7]
  exact ⟨_, _, _, _, rfl, ⟨rfl, rfl, rfl⟩, ⟨rfl, rfl, rfl⟩, ⟨rfl, rfl, rfl⟩, ⟨rfl, rfl, rfl⟩⟩
theorem fields8 : ∃ f0 f1 f2 f3, (Tryd.prog.fieldsOf 8).toList = [f0, f1, f2, f3] ∧ (f0.name = "x" ∧ f0.type = 2 ∧ f0.offset = 0) ∧ (f1.name = "y" ∧ f1.type = 3 ∧ f1.offset = 1) ∧ (f2.name = "signed" ∧ f2.type = 4 ∧ f2.offset = 2) ∧ (f3.name = "code" ∧ f3.type = 6 ∧ f3.offset = 3) := by
  unfold Program.fieldsOf
  rw [Tryd.underlying8]
  exact ⟨_, _, _, _, rfl, ⟨rfl, rfl, rfl⟩, ⟨rfl, rfl, rfl⟩, ⟨rfl, rfl, rfl⟩, ⟨rfl, rfl, rfl⟩⟩
theorem fields13 : ∃ f0 f1, (Tryd.prog.fieldsOf 13).toList = [f0, f1] ∧ (f0.name = "msg" ∧ f0.type = 9 ∧ f0.offset = 0) ∧ (f1.name = "addr" ∧ f1.type = 12 ∧ f1.offset = 1) := by
  unfold Program.fieldsOf
  rw [Tryd.underlying13]
  exact ⟨_, _, rfl, ⟨rfl, rfl, rfl⟩, ⟨rfl, rfl, rfl⟩⟩
theorem fields14 : ∃ f0 f1, (Tryd.prog.fieldsOf 14).toList = [f0, f1] ∧ (f0.name = "msg" ∧ f0.type = 9 ∧ f0.offset = 0) ∧ (f1.name = "addr" ∧ f1.type = 12 ∧ f1.offset = 1) := by
  unfold Program.fieldsOf
  rw [Tryd.underlying14]
  exact ⟨_, _, rfl, ⟨rfl, rfl, rfl⟩, ⟨rfl, rfl, rfl⟩⟩
theorem fields18 : ∃ f0, (Tryd.prog.fieldsOf 18).toList = [f0] ∧ (f0.name = "typ" ∧ f0.type = 17 ∧ f0.offset = 0) := by
  unfold Program.fieldsOf
  rw [Tryd.underlying18]
  exact ⟨_, rfl, ⟨rfl, rfl, rfl⟩⟩
theorem fields19 : ∃ f0, (Tryd.prog.fieldsOf 19).toList = [f0] ∧ (f0.name = "typ" ∧ f0.type = 17 ∧ f0.offset = 0) := by
  unfold Program.fieldsOf
  rw [Tryd.underlying19]
  exact ⟨_, rfl, ⟨rfl, rfl, rfl⟩⟩
theorem fields29 : ∃ f0 f1 f2, (Tryd.prog.fieldsOf 29).toList = [f0, f1, f2] ∧ (f0.name = "Type" ∧ f0.type = 9 ∧ f0.offset = 0) ∧ (f1.name = "Sub" ∧ f1.type = 9 ∧ f1.offset = 1) ∧ (f2.name = "Params" ∧ f2.type = 28 ∧ f2.offset = 2) := by
  unfold Program.fieldsOf
  rw [Tryd.underlying29]
  exact ⟨_, _, _, rfl, ⟨rfl, rfl, rfl⟩, ⟨rfl, rfl, rfl⟩, ⟨rfl, rfl, rfl⟩⟩
theorem fields30 : ∃ f0 f1 f2, (Tryd.prog.fieldsOf 30).toList = [f0, f1, f2] ∧ (f0.name = "Type" ∧ f0.type = 9 ∧ f0.offset = 0) ∧ (f1.name = "Sub" ∧ f1.type = 9 ∧ f1.offset = 1) ∧ (f2.name = "Params" ∧ f2.type = 28 ∧ f2.offset = 2) := by
  unfold Program.fieldsOf
  rw [Tryd.underlying30]
  exact ⟨_, _, _, rfl, ⟨rfl, rfl, rfl⟩, ⟨rfl, rfl, rfl⟩, ⟨rfl, rfl, rfl⟩⟩
theorem fields31 : ∃ f0 f1 f2 f3 f4 f5 f6, (Tryd.prog.fieldsOf 31).toList = [f0, f1, f2, f3, f4, f5, f6] ∧ (f0.name = "Kind" ∧ f0.type = 3 ∧ f0.offset = 0) ∧ (f1.name = "From" ∧ f1.type = 3 ∧ f1.offset = 1) ∧ (f2.name = "Body" ∧ f2.type = 3 ∧ f2.offset = 2) ∧ (f3.name = "To" ∧ f3.type = 3 ∧ f3.offset = 3) ∧ (f4.name = "M" ∧ f4.type = 30 ∧ f4.offset = 4) ∧ (f5.name = "Up" ∧ f5.type = 3 ∧ f5.offset = 7) ∧ (f6.name = "Kids" ∧ f6.type = 3 ∧ f6.offset = 8) := by
  unfold Program.fieldsOf
  rw [Tryd.underlying31]
  exact ⟨_, _, _, _, _, _, _, rfl, ⟨rfl, rfl, rfl⟩, ⟨rfl, rfl, rfl⟩, ⟨rfl, rfl, rfl⟩, ⟨rfl, rfl, rfl⟩, ⟨rfl, rfl, rfl⟩, ⟨rfl, rfl, rfl⟩, ⟨rfl, rfl, rfl⟩⟩
theorem fields32 : ∃ f0 f1 f2 f3 f4 f5 f6, (Tryd.prog.fieldsOf 32).toList = [f0, f1, f2, f3, f4, f5, f6] ∧ (f0.name = "Kind" ∧ f0.type = 3 ∧ f0.offset = 0) ∧ (f1.name = "From" ∧ f1.type = 3 ∧ f1.offset = 1) ∧ (f2.name = "Body" ∧ f2.type = 3 ∧ f2.offset = 2) ∧ (f3.name = "To" ∧ f3.type = 3 ∧ f3.offset = 3) ∧ (f4.name = "M" ∧ f4.type = 30 ∧ f4.offset = 4) ∧ (f5.name = "Up" ∧ f5.type = 3 ∧ f5.offset = 7) ∧ (f6.name = "Kids" ∧ f6.type = 3 ∧ f6.offset = 8) := by
  unfold Program.fieldsOf
  rw [Tryd.underlying32]
  exact ⟨_, _, _, _, _, _, _, rfl, ⟨rfl, rfl, rfl⟩, ⟨rfl, rfl, rfl⟩, ⟨rfl, rfl, rfl⟩, ⟨rfl, rfl, rfl⟩, ⟨rfl, rfl, rfl⟩, ⟨rfl, rfl, rfl⟩, ⟨rfl, rfl, rfl⟩⟩
theorem fields36 : ∃ f0 f1, (Tryd.prog.fieldsOf 36).toList = [f0, f1] ∧ (f0.name = "b" ∧ f0.type = 24 ∧ f0.offset = 0) ∧ (f1.name = "l" ∧ f1.type = 26 ∧ f1.offset = 1) := by
  unfold Program.fieldsOf
  rw [Tryd.underlying36]
  exact ⟨_, _, rfl, ⟨rfl, rfl, rfl⟩, ⟨rfl, rfl, rfl⟩⟩
theorem fields37 : ∃ f0 f1, (Tryd.prog.fieldsOf 37).toList = [f0, f1] ∧ (f0.name = "b" ∧ f0.type = 24 ∧ f0.offset = 0) ∧ (f1.name = "l" ∧ f1.type = 26 ∧ f1.offset = 1) := by
  unfold Program.fieldsOf
  rw [Tryd.underlying37]
  exact ⟨_, _, rfl, ⟨rfl, rfl, rfl⟩, ⟨rfl, rfl, rfl⟩⟩
theorem fields53 : ∃ f0 f1, (Tryd.prog.fieldsOf 53).toList = [f0, f1] ∧ (f0.name = "Name" ∧ f0.type = 9 ∧ f0.offset = 0) ∧ (f1.name = "Value" ∧ f1.type = 9 ∧ f1.offset = 1) := by
  unfold Program.fieldsOf
  rw [Tryd.underlying53]
  exact ⟨_, _, rfl, ⟨rfl, rfl, rfl⟩, ⟨rfl, rfl, rfl⟩⟩
theorem fields54 : ∃ f0 f1, (Tryd.prog.fieldsOf 54).toList = [f0, f1] ∧ (f0.name = "Name" ∧ f0.type = 9 ∧ f0.offset = 0) ∧ (f1.name = "Value" ∧ f1.type = 9 ∧ f1.offset = 1) := by
  unfold Program.fieldsOf
  rw [Tryd.underlying54]
  exact ⟨_, _, rfl, ⟨rfl, rfl, rfl⟩, ⟨rfl, rfl, rfl⟩⟩
theorem fields64 : ∃ f0 f1 f2 f3, (Tryd.prog.fieldsOf 64).toList = [f0, f1, f2, f3] ∧ (f0.name = "Name" ∧ f0.type = 9 ∧ f0.offset = 0) ∧ (f1.name = "From" ∧ f1.type = 3 ∧ f1.offset = 1) ∧ (f2.name = "To" ∧ f2.type = 3 ∧ f2.offset = 2) ∧ (f3.name = "At" ∧ f3.type = 3 ∧ f3.offset = 3) := by
  unfold Program.fieldsOf
  rw [Tryd.underlying64]
  exact ⟨_, _, _, _, rfl, ⟨rfl, rfl, rfl⟩, ⟨rfl, rfl, rfl⟩, ⟨rfl, rfl, rfl⟩, ⟨rfl, rfl, rfl⟩⟩
theorem fields65 : ∃ f0 f1 f2 f3, (Tryd.prog.fieldsOf 65).toList = [f0, f1, f2, f3] ∧ (f0.name = "Name" ∧ f0.type = 9 ∧ f0.offset = 0) ∧ (f1.name = "From" ∧ f1.type = 3 ∧ f1.offset = 1) ∧ (f2.name = "To" ∧ f2.type = 3 ∧ f2.offset = 2) ∧ (f3.name = "At" ∧ f3.type = 3 ∧ f3.offset = 3) := by
  unfold Program.fieldsOf
  rw [Tryd.underlying65]
  exact ⟨_, _, _, _, rfl, ⟨rfl, rfl, rfl⟩, ⟨rfl, rfl, rfl⟩, ⟨rfl, rfl, rfl⟩, ⟨rfl, rfl, rfl⟩⟩
theorem fields83 : ∃ f0 f1, (Tryd.prog.fieldsOf 83).toList = [f0, f1] ∧ (f0.name = "addr" ∧ f0.type = 82 ∧ f0.offset = 0) ∧ (f1.name = "buf" ∧ f1.type = 24 ∧ f1.offset = 1) := by
  unfold Program.fieldsOf
  rw [Tryd.underlying83]
  exact ⟨_, _, rfl, ⟨rfl, rfl, rfl⟩, ⟨rfl, rfl, rfl⟩⟩
theorem fields84 : ∃ f0 f1, (Tryd.prog.fieldsOf 84).toList = [f0, f1] ∧ (f0.name = "addr" ∧ f0.type = 82 ∧ f0.offset = 0) ∧ (f1.name = "buf" ∧ f1.type = 24 ∧ f1.offset = 1) := by
  unfold Program.fieldsOf
  rw [Tryd.underlying84]
  exact ⟨_, _, rfl, ⟨rfl, rfl, rfl⟩, ⟨rfl, rfl, rfl⟩⟩
theorem fields115 : ∃ f0 f1, (Tryd.prog.fieldsOf 115).toList = [f0, f1] ∧ (f0.name = "lo" ∧ f0.type = 5 ∧ f0.offset = 0) ∧ (f1.name = "hi" ∧ f1.type = 5 ∧ f1.offset = 1) := by
  unfold Program.fieldsOf
  rw [Tryd.underlying115]
  exact ⟨_, _, rfl, ⟨rfl, rfl, rfl⟩, ⟨rfl, rfl, rfl⟩⟩
theorem fields116 : ∃ f0 f1, (Tryd.prog.fieldsOf 116).toList = [f0, f1] ∧ (f0.name = "lo" ∧ f0.type = 5 ∧ f0.offset = 0) ∧ (f1.name = "hi" ∧ f1.type = 5 ∧ f1.offset = 1) := by
  unfold Program.fieldsOf
  rw [Tryd.underlying116]
  exact ⟨_, _, rfl, ⟨rfl, rfl, rfl⟩, ⟨rfl, rfl, rfl⟩⟩
theorem fields118 : ∃ f0 f1 f2 f3, (Tryd.prog.fieldsOf 118).toList = [f0, f1, f2, f3] ∧ (f0.name = "_interface" ∧ f0.type = 17 ∧ f0.offset = 0) ∧ (f1.name = "concrete" ∧ f1.type = 17 ∧ f1.offset = 1) ∧ (f2.name = "asserted" ∧ f2.type = 17 ∧ f2.offset = 2) ∧ (f3.name = "missingMethod" ∧ f3.type = 9 ∧ f3.offset = 3) := by
  unfold Program.fieldsOf
  rw [Tryd.underlying118]
  exact ⟨_, _, _, _, rfl, ⟨rfl, rfl, rfl⟩, ⟨rfl, rfl, rfl⟩, ⟨rfl, rfl, rfl⟩, ⟨rfl, rfl, rfl⟩⟩
theorem fields119 : ∃ f0 f1 f2 f3, (Tryd.prog.fieldsOf 119).toList = [f0, f1, f2, f3] ∧ (f0.name = "_interface" ∧ f0.type = 17 ∧ f0.offset = 0) ∧ (f1.name = "concrete" ∧ f1.type = 17 ∧ f1.offset = 1) ∧ (f2.name = "asserted" ∧ f2.type = 17 ∧ f2.offset = 2) ∧ (f3.name = "missingMethod" ∧ f3.type = 9 ∧ f3.offset = 3) := by
  unfold Program.fieldsOf
  rw [Tryd.underlying119]
  exact ⟨_, _, _, _, rfl, ⟨rfl, rfl, rfl⟩, ⟨rfl, rfl, rfl⟩, ⟨rfl, rfl, rfl⟩, ⟨rfl, rfl, rfl⟩⟩
theorem fields121 : ∃ f0, (Tryd.prog.fieldsOf 121).toList = [f0] ∧ (f0.name = "_" ∧ f0.type = 120 ∧ f0.offset = 0) := by
  unfold Program.fieldsOf
  rw [Tryd.underlying121]
  exact ⟨_, rfl, ⟨rfl, rfl, rfl⟩⟩
theorem fields122 : ∃ f0, (Tryd.prog.fieldsOf 122).toList = [f0] ∧ (f0.name = "_" ∧ f0.type = 120 ∧ f0.offset = 0) := by
  unfold Program.fieldsOf
  rw [Tryd.underlying122]
  exact ⟨_, rfl, ⟨rfl, rfl, rfl⟩⟩
theorem fields129 : ∃ f0 f1 f2 f3 f4 f5 f6 f7 f8 f9 f10, (Tryd.prog.fieldsOf 129).toList = [f0, f1, f2, f3, f4, f5, f6, f7, f8, f9, f10] ∧ (f0.name = "Size_" ∧ f0.type = 12 ∧ f0.offset = 0) ∧ (f1.name = "PtrBytes" ∧ f1.type = 12 ∧ f1.offset = 1) ∧ (f2.name = "Hash" ∧ f2.type = 111 ∧ f2.offset = 2) ∧ (f3.name = "TFlag" ∧ f3.type = 124 ∧ f3.offset = 3) ∧ (f4.name = "Align_" ∧ f4.type = 5 ∧ f4.offset = 4) ∧ (f5.name = "FieldAlign_" ∧ f5.type = 5 ∧ f5.offset = 5) ∧ (f6.name = "Kind_" ∧ f6.type = 125 ∧ f6.offset = 6) ∧ (f7.name = "Equal" ∧ f7.type = 126 ∧ f7.offset = 7) ∧ (f8.name = "GCData" ∧ f8.type = 100 ∧ f8.offset = 8) ∧ (f9.name = "Str" ∧ f9.type = 127 ∧ f9.offset = 9) ∧ (f10.name = "PtrToThis" ∧ f10.type = 128 ∧ f10.offset = 10) := by
  unfold Program.fieldsOf
  rw [Tryd.underlying129]
  exact ⟨_, _, _, _, _, _, _, _, _, _, _, rfl, ⟨rfl, rfl, rfl⟩, ⟨rfl, rfl, rfl⟩, ⟨rfl, rfl, rfl⟩, ⟨rfl, rfl, rfl⟩, ⟨rfl, rfl, rfl⟩, ⟨rfl, rfl, rfl⟩, ⟨rfl, rfl, rfl⟩, ⟨rfl, rfl, rfl⟩, ⟨rfl, rfl, rfl⟩, ⟨rfl, rfl, rfl⟩, ⟨rfl, rfl, rfl⟩⟩
theorem fields130 : ∃ f0 f1 f2 f3 f4 f5 f6 f7 f8 f9 f10, (Tryd.prog.fieldsOf 130).toList = [f0, f1, f2, f3, f4, f5, f6, f7, f8, f9, f10] ∧ (f0.name = "Size_" ∧ f0.type = 12 ∧ f0.offset = 0) ∧ (f1.name = "PtrBytes" ∧ f1.type = 12 ∧ f1.offset = 1) ∧ (f2.name = "Hash" ∧ f2.type = 111 ∧ f2.offset = 2) ∧ (f3.name = "TFlag" ∧ f3.type = 124 ∧ f3.offset = 3) ∧ (f4.name = "Align_" ∧ f4.type = 5 ∧ f4.offset = 4) ∧ (f5.name = "FieldAlign_" ∧ f5.type = 5 ∧ f5.offset = 5) ∧ (f6.name = "Kind_" ∧ f6.type = 125 ∧ f6.offset = 6) ∧ (f7.name = "Equal" ∧ f7.type = 126 ∧ f7.offset = 7) ∧ (f8.name = "GCData" ∧ f8.type = 100 ∧ f8.offset = 8) ∧ (f9.name = "Str" ∧ f9.type = 127 ∧ f9.offset = 9) ∧ (f10.name = "PtrToThis" ∧ f10.type = 128 ∧ f10.offset = 10) := by
  unfold Program.fieldsOf
  rw [Tryd.underlying130]
  exact ⟨_, _, _, _, _, _, _, _, _, _, _, rfl, ⟨rfl, rfl, rfl⟩, ⟨rfl, rfl, rfl⟩, ⟨rfl, rfl, rfl⟩, ⟨rfl, rfl, rfl⟩, ⟨rfl, rfl, rfl⟩, ⟨rfl, rfl, rfl⟩, ⟨rfl, rfl, rfl⟩, ⟨rfl, rfl, rfl⟩, ⟨rfl, rfl, rfl⟩, ⟨rfl, rfl, rfl⟩, ⟨rfl, rfl, rfl⟩⟩
end Go.Proofs.YtenbjndldenkfaaDoor
