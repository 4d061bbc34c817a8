/-
  The zero value and the size of each type of this translation: read off its table.
-/
import Derived.Test.YtndelocgmcilkaaEng7
import Derived.Test.YtndelocgmcilkaaRows
import Derived.KernelRfl
namespace Go.Proofs.Ytndelocgmcilkaa
open Go.Proofs
theorem zero2 (w : World) : (zeroValue 2).run Try.prog w = .ok (.int .i64 0) w := by
  simp only [zeroValue, Sem.run_bind, Try.typeInfo2, Result.andThen_ok]; rfl
theorem info2 : (Try.prog.info? 2).map (fun i => (i.zero, i.size, i.bytes)) = some (some (.int .i64 0), 1, 8) := by kernel_rfl
theorem zero3 (w : World) : (zeroValue 3).run Try.prog w = .ok (.int .i64 0) w := by
  simp only [zeroValue, Sem.run_bind, Try.typeInfo3, Result.andThen_ok]; rfl
theorem info3 : (Try.prog.info? 3).map (fun i => (i.zero, i.size, i.bytes)) = some (some (.int .i64 0), 1, 8) := by kernel_rfl
theorem zero4 (w : World) : (zeroValue 4).run Try.prog w = .ok (.bool false) w := by
  simp only [zeroValue, Sem.run_bind, Try.typeInfo4, Result.andThen_ok]; rfl
theorem info4 : (Try.prog.info? 4).map (fun i => (i.zero, i.size, i.bytes)) = some (some (.bool false), 1, 1) := by kernel_rfl
theorem zero5 (w : World) : (zeroValue 5).run Try.prog w = .ok (.int .u8 0) w := by
  simp only [zeroValue, Sem.run_bind, Try.typeInfo5, Result.andThen_ok]; rfl
theorem info5 : (Try.prog.info? 5).map (fun i => (i.zero, i.size, i.bytes)) = some (some (.int .u8 0), 1, 1) := by kernel_rfl
theorem zero6 (w : World) : (zeroValue 6).run Try.prog w = .ok (.int .u8 0) w := by
  simp only [zeroValue, Sem.run_bind, Try.typeInfo6, Result.andThen_ok]; rfl
theorem info6 : (Try.prog.info? 6).map (fun i => (i.zero, i.size, i.bytes)) = some (some (.int .u8 0), 1, 1) := by kernel_rfl
theorem zero7 (w : World) : (zeroValue 7).run Try.prog w = .ok (.agg #[.int .i64 0, .int .i64 0, .bool false, .int .u8 0]) w := by
  simp only [zeroValue, Sem.run_bind, Try.typeInfo7, Result.andThen_ok]; rfl
theorem info7 : (Try.prog.info? 7).map (fun i => (i.zero, i.size, i.bytes)) = some (some (.agg #[.int .i64 0, .int .i64 0, .bool false, .int .u8 0]), 4, 24) := by kernel_rfl
theorem zero8 (w : World) : (zeroValue 8).run Try.prog w = .ok (.agg #[.int .i64 0, .int .i64 0, .bool false, .int .u8 0]) w := by
  simp only [zeroValue, Sem.run_bind, Try.typeInfo8, Result.andThen_ok]; rfl
theorem info8 : (Try.prog.info? 8).map (fun i => (i.zero, i.size, i.bytes)) = some (some (.agg #[.int .i64 0, .int .i64 0, .bool false, .int .u8 0]), 4, 24) := by kernel_rfl
theorem zero9 (w : World) : (zeroValue 9).run Try.prog w = .ok (.string ⟨#[]⟩) w := by
  simp only [zeroValue, Sem.run_bind, Try.typeInfo9, Result.andThen_ok]; rfl
theorem info9 : (Try.prog.info? 9).map (fun i => (i.zero, i.size, i.bytes)) = some (some (.string ⟨#[]⟩), 1, 16) := by kernel_rfl
theorem zero10 (w : World) : (zeroValue 10).run Try.prog w = .ok (.string ⟨#[]⟩) w := by
  simp only [zeroValue, Sem.run_bind, Try.typeInfo10, Result.andThen_ok]; rfl
theorem info10 : (Try.prog.info? 10).map (fun i => (i.zero, i.size, i.bytes)) = some (some (.string ⟨#[]⟩), 1, 16) := by kernel_rfl
theorem zero11 (w : World) : (zeroValue 11).run Try.prog w = .ok (.string ⟨#[]⟩) w := by
  simp only [zeroValue, Sem.run_bind, Try.typeInfo11, Result.andThen_ok]; rfl
theorem info11 : (Try.prog.info? 11).map (fun i => (i.zero, i.size, i.bytes)) = some (some (.string ⟨#[]⟩), 1, 16) := by kernel_rfl
theorem zero12 (w : World) : (zeroValue 12).run Try.prog w = .ok (.int .u64 0) w := by
  simp only [zeroValue, Sem.run_bind, Try.typeInfo12, Result.andThen_ok]; rfl
theorem info12 : (Try.prog.info? 12).map (fun i => (i.zero, i.size, i.bytes)) = some (some (.int .u64 0), 1, 8) := by kernel_rfl
theorem zero13 (w : World) : (zeroValue 13).run Try.prog w = .ok (.agg #[.string ⟨#[]⟩, .int .u64 0]) w := by
  simp only [zeroValue, Sem.run_bind, Try.typeInfo13, Result.andThen_ok]; rfl
theorem info13 : (Try.prog.info? 13).map (fun i => (i.zero, i.size, i.bytes)) = some (some (.agg #[.string ⟨#[]⟩, .int .u64 0]), 2, 24) := by kernel_rfl
theorem zero14 (w : World) : (zeroValue 14).run Try.prog w = .ok (.agg #[.string ⟨#[]⟩, .int .u64 0]) w := by
  simp only [zeroValue, Sem.run_bind, Try.typeInfo14, Result.andThen_ok]; rfl
theorem info14 : (Try.prog.info? 14).map (fun i => (i.zero, i.size, i.bytes)) = some (some (.agg #[.string ⟨#[]⟩, .int .u64 0]), 2, 24) := by kernel_rfl
theorem zero15 (w : World) : (zeroValue 15).run Try.prog w = .ok (.pointer none) w := by
  simp only [zeroValue, Sem.run_bind, Try.typeInfo15, Result.andThen_ok]; rfl
theorem info15 : (Try.prog.info? 15).map (fun i => (i.zero, i.size, i.bytes)) = some (some (.pointer none), 1, 8) := by kernel_rfl
theorem zero16 (w : World) : (zeroValue 16).run Try.prog w = .ok (.pointer none) w := by
  simp only [zeroValue, Sem.run_bind, Try.typeInfo16, Result.andThen_ok]; rfl
theorem info16 : (Try.prog.info? 16).map (fun i => (i.zero, i.size, i.bytes)) = some (some (.pointer none), 1, 8) := by kernel_rfl
theorem zero17 (w : World) : (zeroValue 17).run Try.prog w = .ok (.pointer none) w := by
  simp only [zeroValue, Sem.run_bind, Try.typeInfo17, Result.andThen_ok]; rfl
theorem info17 : (Try.prog.info? 17).map (fun i => (i.zero, i.size, i.bytes)) = some (some (.pointer none), 1, 8) := by kernel_rfl
theorem zero18 (w : World) : (zeroValue 18).run Try.prog w = .ok (.agg #[.pointer none]) w := by
  simp only [zeroValue, Sem.run_bind, Try.typeInfo18, Result.andThen_ok]; rfl
theorem info18 : (Try.prog.info? 18).map (fun i => (i.zero, i.size, i.bytes)) = some (some (.agg #[.pointer none]), 1, 8) := by kernel_rfl
theorem zero19 (w : World) : (zeroValue 19).run Try.prog w = .ok (.agg #[.pointer none]) w := by
  simp only [zeroValue, Sem.run_bind, Try.typeInfo19, Result.andThen_ok]; rfl
theorem info19 : (Try.prog.info? 19).map (fun i => (i.zero, i.size, i.bytes)) = some (some (.agg #[.pointer none]), 1, 8) := by kernel_rfl
theorem zero21 (w : World) : (zeroValue 21).run Try.prog w = .ok (.int .i32 0) w := by
  simp only [zeroValue, Sem.run_bind, Try.typeInfo21, Result.andThen_ok]; rfl
theorem info21 : (Try.prog.info? 21).map (fun i => (i.zero, i.size, i.bytes)) = some (some (.int .i32 0), 1, 4) := by kernel_rfl
theorem zero22 (w : World) : (zeroValue 22).run Try.prog w = .ok (.slice none 0 0) w := by
  simp only [zeroValue, Sem.run_bind, Try.typeInfo22, Result.andThen_ok]; rfl
theorem info22 : (Try.prog.info? 22).map (fun i => (i.zero, i.size, i.bytes)) = some (some (.slice none 0 0), 1, 24) := by kernel_rfl
theorem zero24 (w : World) : (zeroValue 24).run Try.prog w = .ok (.int .i64 0) w := by
  simp only [zeroValue, Sem.run_bind, Try.typeInfo24, Result.andThen_ok]; rfl
theorem info24 : (Try.prog.info? 24).map (fun i => (i.zero, i.size, i.bytes)) = some (some (.int .i64 0), 1, 8) := by kernel_rfl
theorem zero33 (w : World) : (zeroValue 33).run Try.prog w = .ok (.slice none 0 0) w := by
  simp only [zeroValue, Sem.run_bind, Try.typeInfo33, Result.andThen_ok]; rfl
theorem info33 : (Try.prog.info? 33).map (fun i => (i.zero, i.size, i.bytes)) = some (some (.slice none 0 0), 1, 24) := by kernel_rfl
theorem zero48 (w : World) : (zeroValue 48).run Try.prog w = .ok (.agg #[.string ⟨#[]⟩, .string ⟨#[]⟩, .string ⟨#[]⟩, .string ⟨#[]⟩, .string ⟨#[]⟩]) w := by
  simp only [zeroValue, Sem.run_bind, Try.typeInfo48, Result.andThen_ok]; rfl
theorem info48 : (Try.prog.info? 48).map (fun i => (i.zero, i.size, i.bytes)) = some (some (.agg #[.string ⟨#[]⟩, .string ⟨#[]⟩, .string ⟨#[]⟩, .string ⟨#[]⟩, .string ⟨#[]⟩]), 5, 80) := by kernel_rfl
theorem zero57 (w : World) : (zeroValue 57).run Try.prog w = .ok (.int .u64 0) w := by
  simp only [zeroValue, Sem.run_bind, Try.typeInfo57, Result.andThen_ok]; rfl
theorem info57 : (Try.prog.info? 57).map (fun i => (i.zero, i.size, i.bytes)) = some (some (.int .u64 0), 1, 8) := by kernel_rfl
theorem zero60 (w : World) : (zeroValue 60).run Try.prog w = .ok (.pointer none) w := by
  simp only [zeroValue, Sem.run_bind, Try.typeInfo60, Result.andThen_ok]; rfl
theorem info60 : (Try.prog.info? 60).map (fun i => (i.zero, i.size, i.bytes)) = some (some (.pointer none), 1, 8) := by kernel_rfl
theorem zero61 (w : World) : (zeroValue 61).run Try.prog w = .ok (.agg #[.pointer none, .slice none 0 0]) w := by
  simp only [zeroValue, Sem.run_bind, Try.typeInfo61, Result.andThen_ok]; rfl
theorem info61 : (Try.prog.info? 61).map (fun i => (i.zero, i.size, i.bytes)) = some (some (.agg #[.pointer none, .slice none 0 0]), 2, 32) := by kernel_rfl
theorem zero62 (w : World) : (zeroValue 62).run Try.prog w = .ok (.agg #[.pointer none, .slice none 0 0]) w := by
  simp only [zeroValue, Sem.run_bind, Try.typeInfo62, Result.andThen_ok]; rfl
theorem info62 : (Try.prog.info? 62).map (fun i => (i.zero, i.size, i.bytes)) = some (some (.agg #[.pointer none, .slice none 0 0]), 2, 32) := by kernel_rfl
theorem zero70 (w : World) : (zeroValue 70).run Try.prog w = .ok (.int .i64 0) w := by
  simp only [zeroValue, Sem.run_bind, Try.typeInfo70, Result.andThen_ok]; rfl
theorem info70 : (Try.prog.info? 70).map (fun i => (i.zero, i.size, i.bytes)) = some (some (.int .i64 0), 1, 8) := by kernel_rfl
theorem zero78 (w : World) : (zeroValue 78).run Try.prog w = .ok (.int .u32 0) w := by
  simp only [zeroValue, Sem.run_bind, Try.typeInfo78, Result.andThen_ok]; rfl
theorem info78 : (Try.prog.info? 78).map (fun i => (i.zero, i.size, i.bytes)) = some (some (.int .u32 0), 1, 4) := by kernel_rfl
theorem zero80 (w : World) : (zeroValue 80).run Try.prog w = .ok (.int .u64 0) w := by
  simp only [zeroValue, Sem.run_bind, Try.typeInfo80, Result.andThen_ok]; rfl
theorem info80 : (Try.prog.info? 80).map (fun i => (i.zero, i.size, i.bytes)) = some (some (.int .u64 0), 1, 8) := by kernel_rfl
theorem zero82 (w : World) : (zeroValue 82).run Try.prog w = .ok (.pointer none) w := by
  simp only [zeroValue, Sem.run_bind, Try.typeInfo82, Result.andThen_ok]; rfl
theorem info82 : (Try.prog.info? 82).map (fun i => (i.zero, i.size, i.bytes)) = some (some (.pointer none), 1, 8) := by kernel_rfl
theorem zero83 (w : World) : (zeroValue 83).run Try.prog w = .ok (.int .u64 0) w := by
  simp only [zeroValue, Sem.run_bind, Try.typeInfo83, Result.andThen_ok]; rfl
theorem info83 : (Try.prog.info? 83).map (fun i => (i.zero, i.size, i.bytes)) = some (some (.int .u64 0), 1, 8) := by kernel_rfl
theorem zero87 (w : World) : (zeroValue 87).run Try.prog w = .ok (.pointer none) w := by
  simp only [zeroValue, Sem.run_bind, Try.typeInfo87, Result.andThen_ok]; rfl
theorem info87 : (Try.prog.info? 87).map (fun i => (i.zero, i.size, i.bytes)) = some (some (.pointer none), 1, 8) := by kernel_rfl
theorem zero92 (w : World) : (zeroValue 92).run Try.prog w = .ok (.pointer none) w := by
  simp only [zeroValue, Sem.run_bind, Try.typeInfo92, Result.andThen_ok]; rfl
theorem info92 : (Try.prog.info? 92).map (fun i => (i.zero, i.size, i.bytes)) = some (some (.pointer none), 1, 8) := by kernel_rfl
theorem zero95 (w : World) : (zeroValue 95).run Try.prog w = .ok (.agg #[.pointer none, .pointer none, .pointer none, .string ⟨#[]⟩]) w := by
  simp only [zeroValue, Sem.run_bind, Try.typeInfo95, Result.andThen_ok]; rfl
theorem info95 : (Try.prog.info? 95).map (fun i => (i.zero, i.size, i.bytes)) = some (some (.agg #[.pointer none, .pointer none, .pointer none, .string ⟨#[]⟩]), 4, 40) := by kernel_rfl
theorem zero96 (w : World) : (zeroValue 96).run Try.prog w = .ok (.agg #[.pointer none, .pointer none, .pointer none, .string ⟨#[]⟩]) w := by
  simp only [zeroValue, Sem.run_bind, Try.typeInfo96, Result.andThen_ok]; rfl
theorem info96 : (Try.prog.info? 96).map (fun i => (i.zero, i.size, i.bytes)) = some (some (.agg #[.pointer none, .pointer none, .pointer none, .string ⟨#[]⟩]), 4, 40) := by kernel_rfl
theorem zero97 (w : World) : (zeroValue 97).run Try.prog w = .ok (.agg #[]) w := by
  simp only [zeroValue, Sem.run_bind, Try.typeInfo97, Result.andThen_ok]; rfl
theorem info97 : (Try.prog.info? 97).map (fun i => (i.zero, i.size, i.bytes)) = some (some (.agg #[]), 0, 0) := by kernel_rfl
theorem zero98 (w : World) : (zeroValue 98).run Try.prog w = .ok (.agg #[]) w := by
  simp only [zeroValue, Sem.run_bind, Try.typeInfo98, Result.andThen_ok]; rfl
theorem info98 : (Try.prog.info? 98).map (fun i => (i.zero, i.size, i.bytes)) = some (some (.agg #[]), 0, 0) := by kernel_rfl
theorem zero99 (w : World) : (zeroValue 99).run Try.prog w = .ok (.agg #[]) w := by
  simp only [zeroValue, Sem.run_bind, Try.typeInfo99, Result.andThen_ok]; rfl
theorem info99 : (Try.prog.info? 99).map (fun i => (i.zero, i.size, i.bytes)) = some (some (.agg #[]), 0, 0) := by kernel_rfl
theorem zero101 (w : World) : (zeroValue 101).run Try.prog w = .ok (.int .u8 0) w := by
  simp only [zeroValue, Sem.run_bind, Try.typeInfo101, Result.andThen_ok]; rfl
theorem info101 : (Try.prog.info? 101).map (fun i => (i.zero, i.size, i.bytes)) = some (some (.int .u8 0), 1, 1) := by kernel_rfl
theorem zero102 (w : World) : (zeroValue 102).run Try.prog w = .ok (.int .u8 0) w := by
  simp only [zeroValue, Sem.run_bind, Try.typeInfo102, Result.andThen_ok]; rfl
theorem info102 : (Try.prog.info? 102).map (fun i => (i.zero, i.size, i.bytes)) = some (some (.int .u8 0), 1, 1) := by kernel_rfl
theorem zero104 (w : World) : (zeroValue 104).run Try.prog w = .ok (.int .i32 0) w := by
  simp only [zeroValue, Sem.run_bind, Try.typeInfo104, Result.andThen_ok]; rfl
theorem info104 : (Try.prog.info? 104).map (fun i => (i.zero, i.size, i.bytes)) = some (some (.int .i32 0), 1, 4) := by kernel_rfl
theorem zero105 (w : World) : (zeroValue 105).run Try.prog w = .ok (.int .i32 0) w := by
  simp only [zeroValue, Sem.run_bind, Try.typeInfo105, Result.andThen_ok]; rfl
theorem info105 : (Try.prog.info? 105).map (fun i => (i.zero, i.size, i.bytes)) = some (some (.int .i32 0), 1, 4) := by kernel_rfl
theorem zero106 (w : World) : (zeroValue 106).run Try.prog w = .ok (.agg #[.int .u64 0, .int .u64 0, .int .u32 0, .int .u8 0, .int .u8 0, .int .u8 0, .int .u8 0, .nilFunc, .pointer none, .int .i32 0, .int .i32 0]) w := by
  simp only [zeroValue, Sem.run_bind, Try.typeInfo106, Result.andThen_ok]; rfl
theorem info106 : (Try.prog.info? 106).map (fun i => (i.zero, i.size, i.bytes)) = some (some (.agg #[.int .u64 0, .int .u64 0, .int .u32 0, .int .u8 0, .int .u8 0, .int .u8 0, .int .u8 0, .nilFunc, .pointer none, .int .i32 0, .int .i32 0]), 11, 48) := by kernel_rfl
theorem zero107 (w : World) : (zeroValue 107).run Try.prog w = .ok (.agg #[.int .u64 0, .int .u64 0, .int .u32 0, .int .u8 0, .int .u8 0, .int .u8 0, .int .u8 0, .nilFunc, .pointer none, .int .i32 0, .int .i32 0]) w := by
  simp only [zeroValue, Sem.run_bind, Try.typeInfo107, Result.andThen_ok]; rfl
theorem info107 : (Try.prog.info? 107).map (fun i => (i.zero, i.size, i.bytes)) = some (some (.agg #[.int .u64 0, .int .u64 0, .int .u32 0, .int .u8 0, .int .u8 0, .int .u8 0, .int .u8 0, .nilFunc, .pointer none, .int .i32 0, .int .i32 0]), 11, 48) := by kernel_rfl
theorem places7 : ∃ fs, Try.prog.underlying 7 = some (.struct fs) ∧ ∀ w, (fs.mapM fun f => do pure (f.offset, ← sizeOf f.type) : Sem (Array (Nat × Nat))).run Try.prog w = .ok #[(0, 1), (1, 1), (2, 1), (3, 1)] w :=
  ⟨_, Try.underlying7, fun w => by simp [Try.sizeOf2, Try.sizeOf3, Try.sizeOf4, Try.sizeOf6]⟩
theorem places8 : ∃ fs, Try.prog.underlying 8 = some (.struct fs) ∧ ∀ w, (fs.mapM fun f => do pure (f.offset, ← sizeOf f.type) : Sem (Array (Nat × Nat))).run Try.prog w = .ok #[(0, 1), (1, 1), (2, 1), (3, 1)] w :=
  ⟨_, Try.underlying8, fun w => by simp [Try.sizeOf2, Try.sizeOf3, Try.sizeOf4, Try.sizeOf6]⟩
theorem places13 : ∃ fs, Try.prog.underlying 13 = some (.struct fs) ∧ ∀ w, (fs.mapM fun f => do pure (f.offset, ← sizeOf f.type) : Sem (Array (Nat × Nat))).run Try.prog w = .ok #[(0, 1), (1, 1)] w :=
  ⟨_, Try.underlying13, fun w => by simp [Try.sizeOf12, Try.sizeOf9]⟩
theorem places14 : ∃ fs, Try.prog.underlying 14 = some (.struct fs) ∧ ∀ w, (fs.mapM fun f => do pure (f.offset, ← sizeOf f.type) : Sem (Array (Nat × Nat))).run Try.prog w = .ok #[(0, 1), (1, 1)] w :=
  ⟨_, Try.underlying14, fun w => by simp [Try.sizeOf12, Try.sizeOf9]⟩
theorem places18 : ∃ fs, Try.prog.underlying 18 = some (.struct fs) ∧ ∀ w, (fs.mapM fun f => do pure (f.offset, ← sizeOf f.type) : Sem (Array (Nat × Nat))).run Try.prog w = .ok #[(0, 1)] w :=
  ⟨_, Try.underlying18, fun w => by simp [Try.sizeOf17]⟩
theorem places19 : ∃ fs, Try.prog.underlying 19 = some (.struct fs) ∧ ∀ w, (fs.mapM fun f => do pure (f.offset, ← sizeOf f.type) : Sem (Array (Nat × Nat))).run Try.prog w = .ok #[(0, 1)] w :=
  ⟨_, Try.underlying19, fun w => by simp [Try.sizeOf17]⟩
theorem places61 : ∃ fs, Try.prog.underlying 61 = some (.struct fs) ∧ ∀ w, (fs.mapM fun f => do pure (f.offset, ← sizeOf f.type) : Sem (Array (Nat × Nat))).run Try.prog w = .ok #[(0, 1), (1, 1)] w :=
  ⟨_, Try.underlying61, fun w => by simp [Try.sizeOf33, Try.sizeOf60]⟩
theorem places62 : ∃ fs, Try.prog.underlying 62 = some (.struct fs) ∧ ∀ w, (fs.mapM fun f => do pure (f.offset, ← sizeOf f.type) : Sem (Array (Nat × Nat))).run Try.prog w = .ok #[(0, 1), (1, 1)] w :=
  ⟨_, Try.underlying62, fun w => by simp [Try.sizeOf33, Try.sizeOf60]⟩
theorem places95 : ∃ fs, Try.prog.underlying 95 = some (.struct fs) ∧ ∀ w, (fs.mapM fun f => do pure (f.offset, ← sizeOf f.type) : Sem (Array (Nat × Nat))).run Try.prog w = .ok #[(0, 1), (1, 1), (2, 1), (3, 1)] w :=
  ⟨_, Try.underlying95, fun w => by simp [Try.sizeOf17, Try.sizeOf9]⟩
theorem places96 : ∃ fs, Try.prog.underlying 96 = some (.struct fs) ∧ ∀ w, (fs.mapM fun f => do pure (f.offset, ← sizeOf f.type) : Sem (Array (Nat × Nat))).run Try.prog w = .ok #[(0, 1), (1, 1), (2, 1), (3, 1)] w :=
  ⟨_, Try.underlying96, fun w => by simp [Try.sizeOf17, Try.sizeOf9]⟩
theorem places98 : ∃ fs, Try.prog.underlying 98 = some (.struct fs) ∧ ∀ w, (fs.mapM fun f => do pure (f.offset, ← sizeOf f.type) : Sem (Array (Nat × Nat))).run Try.prog w = .ok #[(0, 0)] w :=
  ⟨_, Try.underlying98, fun w => by simp [Try.sizeOf97]⟩
theorem places99 : ∃ fs, Try.prog.underlying 99 = some (.struct fs) ∧ ∀ w, (fs.mapM fun f => do pure (f.offset, ← sizeOf f.type) : Sem (Array (Nat × Nat))).run Try.prog w = .ok #[(0, 0)] w :=
  ⟨_, Try.underlying99, fun w => by simp [Try.sizeOf97]⟩
theorem places106 : ∃ fs, Try.prog.underlying 106 = some (.struct fs) ∧ ∀ w, (fs.mapM fun f => do pure (f.offset, ← sizeOf f.type) : Sem (Array (Nat × Nat))).run Try.prog w = .ok #[(0, 1), (1, 1), (2, 1), (3, 1), (4, 1), (5, 1), (6, 1), (7, 1), (8, 1), (9, 1), (10, 1)] w :=
  ⟨_, Try.underlying106, fun w => by simp [Try.sizeOf101, Try.sizeOf102, Try.sizeOf103, Try.sizeOf104, Try.sizeOf105, Try.sizeOf12, Try.sizeOf5, Try.sizeOf78, Try.sizeOf82]⟩
theorem places107 : ∃ fs, Try.prog.underlying 107 = some (.struct fs) ∧ ∀ w, (fs.mapM fun f => do pure (f.offset, ← sizeOf f.type) : Sem (Array (Nat × Nat))).run Try.prog w = .ok #[(0, 1), (1, 1), (2, 1), (3, 1), (4, 1), (5, 1), (6, 1), (7, 1), (8, 1), (9, 1), (10, 1)] w :=
  ⟨_, Try.underlying107, fun w => by simp [Try.sizeOf101, Try.sizeOf102, Try.sizeOf103, Try.sizeOf104, Try.sizeOf105, Try.sizeOf12, Try.sizeOf5, Try.sizeOf78, Try.sizeOf82]⟩
theorem fields7 : ∃ f0 f1 f2 f3, (Try.prog.fieldsOf 7).toList = [f0, f1, f2, f3] ∧ (f0.name = "x" ∧ f0.type = 2 ∧ f0.offset = 0) ∧ (f1.name = "y" ∧ f1.type = 3 ∧ f1.offset = 1) ∧ (f2.name = "signed" ∧ f2.type = 4 ∧ f2.offset = 2) ∧ (f3.name = "code" ∧ f3.type = 6 ∧ f3.offset = 3) := by
  unfold Program.fieldsOf
  rw [Try.underlying7]
  exact ⟨_, _, _, _, rfl, ⟨rfl, rfl, rfl⟩, ⟨rfl, rfl, rfl⟩, ⟨rfl, rfl, rfl⟩, ⟨rfl, rfl, rfl⟩⟩
theorem fields8 : ∃ f0 f1 f2 f3, (Try.prog.fieldsOf 8).toList = [f0, f1, f2, f3] ∧ (f0.name = "x" ∧ f0.type = 2 ∧ f0.offset = 0) ∧ (f1.name = "y" ∧ f1.type = 3 ∧ f1.offset = 1) ∧ (f2.name = "signed" ∧ f2.type = 4 ∧ f2.offset = 2) ∧ (f3.name = "code" ∧ f3.type = 6 ∧ f3.offset = 3) := by
  unfold Program.fieldsOf
  rw [Try.underlying8]
  exact ⟨_, _, _, _, rfl, ⟨rfl, rfl, rfl⟩, ⟨rfl, rfl, rfl⟩, ⟨rfl, rfl, rfl⟩, ⟨rfl, rfl, rfl⟩⟩
theorem fields13 : ∃ f0 f1, (Try.prog.fieldsOf 13).toList = [f0, f1] ∧ (f0.name = "msg" ∧ f0.type = 9 ∧ f0.offset = 0) ∧ (f1.name = "addr" ∧ f1.type = 12 ∧ f1.offset = 1) := by
  unfold Program.fieldsOf
  rw [Try.underlying13]
  exact ⟨_, _, rfl, ⟨rfl, rfl, rfl⟩, ⟨rfl, rfl, rfl⟩⟩
theorem fields14 : ∃ f0 f1, (Try.prog.fieldsOf 14).toList = [f0, f1] ∧ (f0.name = "msg" ∧ f0.type = 9 ∧ f0.offset = 0) ∧ (f1.name = "addr" ∧ f1.type = 12 ∧ f1.offset = 1) := by
  unfold Program.fieldsOf
  rw [Try.underlying14]
  exact ⟨_, _, rfl, ⟨rfl, rfl, rfl⟩, ⟨rfl, rfl, rfl⟩⟩
theorem fields18 : ∃ f0, (Try.prog.fieldsOf 18).toList = [f0] ∧ (f0.name = "typ" ∧ f0.type = 17 ∧ f0.offset = 0) := by
  unfold Program.fieldsOf
  rw [Try.underlying18]
  exact ⟨_, rfl, ⟨rfl, rfl, rfl⟩⟩
theorem fields19 : ∃ f0, (Try.prog.fieldsOf 19).toList = [f0] ∧ (f0.name = "typ" ∧ f0.type = 17 ∧ f0.offset = 0) := by
  unfold Program.fieldsOf
  rw [Try.underlying19]
  exact ⟨_, rfl, ⟨rfl, rfl, rfl⟩⟩
theorem fields61 : ∃ f0 f1, (Try.prog.fieldsOf 61).toList = [f0, f1] ∧ (f0.name = "addr" ∧ f0.type = 60 ∧ f0.offset = 0) ∧ (f1.name = "buf" ∧ f1.type = 33 ∧ f1.offset = 1) := by
  unfold Program.fieldsOf
  rw [Try.underlying61]
  exact ⟨_, _, rfl, ⟨rfl, rfl, rfl⟩, ⟨rfl, rfl, rfl⟩⟩
theorem fields62 : ∃ f0 f1, (Try.prog.fieldsOf 62).toList = [f0, f1] ∧ (f0.name = "addr" ∧ f0.type = 60 ∧ f0.offset = 0) ∧ (f1.name = "buf" ∧ f1.type = 33 ∧ f1.offset = 1) := by
  unfold Program.fieldsOf
  rw [Try.underlying62]
  exact ⟨_, _, rfl, ⟨rfl, rfl, rfl⟩, ⟨rfl, rfl, rfl⟩⟩
theorem fields95 : ∃ f0 f1 f2 f3, (Try.prog.fieldsOf 95).toList = [f0, f1, f2, f3] ∧ (f0.name = "_interface" ∧ f0.type = 17 ∧ f0.offset = 0) ∧ (f1.name = "concrete" ∧ f1.type = 17 ∧ f1.offset = 1) ∧ (f2.name = "asserted" ∧ f2.type = 17 ∧ f2.offset = 2) ∧ (f3.name = "missingMethod" ∧ f3.type = 9 ∧ f3.offset = 3) := by
  unfold Program.fieldsOf
  rw [Try.underlying95]
  exact ⟨_, _, _, _, rfl, ⟨rfl, rfl, rfl⟩, ⟨rfl, rfl, rfl⟩, ⟨rfl, rfl, rfl⟩, ⟨rfl, rfl, rfl⟩⟩
theorem fields96 : ∃ f0 f1 f2 f3, (Try.prog.fieldsOf 96).toList = [f0, f1, f2, f3] ∧ (f0.name = "_interface" ∧ f0.type = 17 ∧ f0.offset = 0) ∧ (f1.name = "concrete" ∧ f1.type = 17 ∧ f1.offset = 1) ∧ (f2.name = "asserted" ∧ f2.type = 17 ∧ f2.offset = 2) ∧ (f3.name = "missingMethod" ∧ f3.type = 9 ∧ f3.offset = 3) := by
  unfold Program.fieldsOf
  rw [Try.underlying96]
  exact ⟨_, _, _, _, rfl, ⟨rfl, rfl, rfl⟩, ⟨rfl, rfl, rfl⟩, ⟨rfl, rfl, rfl⟩, ⟨rfl, rfl, rfl⟩⟩
theorem fields98 : ∃ f0, (Try.prog.fieldsOf 98).toList = [f0] ∧ (f0.name = "_" ∧ f0.type = 97 ∧ f0.offset = 0) := by
  unfold Program.fieldsOf
  rw [Try.underlying98]
  exact ⟨_, rfl, ⟨rfl, rfl, rfl⟩⟩
theorem fields99 : ∃ f0, (Try.prog.fieldsOf 99).toList = [f0] ∧ (f0.name = "_" ∧ f0.type = 97 ∧ f0.offset = 0) := by
  unfold Program.fieldsOf
  rw [Try.underlying99]
  exact ⟨_, rfl, ⟨rfl, rfl, rfl⟩⟩
theorem fields106 : ∃ f0 f1 f2 f3 f4 f5 f6 f7 f8 f9 f10, (Try.prog.fieldsOf 106).toList = [f0, f1, f2, f3, f4, f5, f6, f7, f8, f9, f10] ∧ (f0.name = "Size_" ∧ f0.type = 12 ∧ f0.offset = 0) ∧ (f1.name = "PtrBytes" ∧ f1.type = 12 ∧ f1.offset = 1) ∧ (f2.name = "Hash" ∧ f2.type = 78 ∧ f2.offset = 2) ∧ (f3.name = "TFlag" ∧ f3.type = 101 ∧ f3.offset = 3) ∧ (f4.name = "Align_" ∧ f4.type = 5 ∧ f4.offset = 4) ∧ (f5.name = "FieldAlign_" ∧ f5.type = 5 ∧ f5.offset = 5) ∧ (f6.name = "Kind_" ∧ f6.type = 102 ∧ f6.offset = 6) ∧ (f7.name = "Equal" ∧ f7.type = 103 ∧ f7.offset = 7) ∧ (f8.name = "GCData" ∧ f8.type = 82 ∧ f8.offset = 8) ∧ (f9.name = "Str" ∧ f9.type = 104 ∧ f9.offset = 9) ∧ (f10.name = "PtrToThis" ∧ f10.type = 105 ∧ f10.offset = 10) := by
  unfold Program.fieldsOf
  rw [Try.underlying106]
  exact ⟨_, _, _, _, _, _, _, _, _, _, _, rfl, ⟨rfl, rfl, rfl⟩, ⟨rfl, rfl, rfl⟩, ⟨rfl, rfl, rfl⟩, ⟨rfl, rfl, rfl⟩, ⟨rfl, rfl, rfl⟩, ⟨rfl, rfl, rfl⟩, ⟨rfl, rfl, rfl⟩, ⟨rfl, rfl, rfl⟩, ⟨rfl, rfl, rfl⟩, ⟨rfl, rfl, rfl⟩, ⟨rfl, rfl, rfl⟩⟩
theorem fields107 : ∃ f0 f1 f2 f3 f4 f5 f6 f7 f8 f9 f10, (Try.prog.fieldsOf 107).toList = [f0, f1, f2, f3, f4, f5, f6, f7, f8, f9, f10] ∧ (f0.name = "Size_" ∧ f0.type = 12 ∧ f0.offset = 0) ∧ (f1.name = "PtrBytes" ∧ f1.type = 12 ∧ f1.offset = 1) ∧ (f2.name = "Hash" ∧ f2.type = 78 ∧ f2.offset = 2) ∧ (f3.name = "TFlag" ∧ f3.type = 101 ∧ f3.offset = 3) ∧ (f4.name = "Align_" ∧ f4.type = 5 ∧ f4.offset = 4) ∧ (f5.name = "FieldAlign_" ∧ f5.type = 5 ∧ f5.offset = 5) ∧ (f6.name = "Kind_" ∧ f6.type = 102 ∧ f6.offset = 6) ∧ (f7.name = "Equal" ∧ f7.type = 103 ∧ f7.offset = 7) ∧ (f8.name = "GCData" ∧ f8.type = 82 ∧ f8.offset = 8) ∧ (f9.name = "Str" ∧ f9.type = 104 ∧ f9.offset = 9) ∧ (f10.name = "PtrToThis" ∧ f10.type = 105 ∧ f10.offset = 10) := by
  unfold Program.fieldsOf
  rw [Try.underlying107]
  exact ⟨_, _, _, _, _, _, _, _, _, _, _, rfl, ⟨rfl, rfl, rfl⟩, ⟨rfl, rfl, rfl⟩, ⟨rfl, rfl, rfl⟩, ⟨rfl, rfl, rfl⟩, ⟨rfl, rfl, rfl⟩, ⟨rfl, rfl, rfl⟩, ⟨rfl, rfl, rfl⟩, ⟨rfl, rfl, rfl⟩, ⟨rfl, rfl, rfl⟩, ⟨rfl, rfl, rfl⟩, ⟨rfl, rfl, rfl⟩⟩
end Go.Proofs.Ytndelocgmcilkaa
