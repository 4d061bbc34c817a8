/-
  The zero value and the size of each type of this translation: read off its table.
-/
import Derived.Test.YtfjhmbgckmhdaaaEng7
import Derived.Test.YtfjhmbgckmhdaaaRows
import Derived.KernelRfl
namespace Go.Proofs.Ytfjhmbgckmhdaaa
open Go.Proofs
theorem zero2 (w : World) : (zeroValue 2).run Try.prog w = .ok (.int .i64 0) w := by
  simp only [zeroValue, Sem.run_bind, Try.typeInfo2, Result.andThen_ok]; rfl
theorem info2 : (Try.prog.info? 2).map (fun i => (i.zero, i.size, i.bytes)) = some (some (.int .i64 0), 1, 8) := by kernel_rfl
theorem zero3 (w : World) : (zeroValue 3).run Try.prog w = .ok (.int .i64 0) w := by
  simp only [zeroValue, Sem.run_bind, Try.typeInfo3, Result.andThen_ok]; rfl
theorem info3 : (Try.prog.info? 3).map (fun i => (i.zero, i.size, i.bytes)) = some (some (.int .i64 0), 1, 8) := by kernel_rfl
theorem zero4 (w : World) : (zeroValue 4).run Try.prog w = .ok (.bool false) w := by
  simp only [zeroValue, Sem.run_bind, Try.typeInfo4, Result.andThen_ok]; rfl
theorem info4 : (Try.prog.info? 4).map (fun i => (i.zero, i.size, i.bytes)) = some (some (.bool false), 1, 1) := by kernel_rfl
theorem zero5 (w : World) : (zeroValue 5).run Try.prog w = .ok (.int .u8 0) w := by
  simp only [zeroValue, Sem.run_bind, Try.typeInfo5, Result.andThen_ok]; rfl
theorem info5 : (Try.prog.info? 5).map (fun i => (i.zero, i.size, i.bytes)) = some (some (.int .u8 0), 1, 1) := by kernel_rfl
theorem zero6 (w : World) : (zeroValue 6).run Try.prog w = .ok (.int .u8 0) w := by
  simp only [zeroValue, Sem.run_bind, Try.typeInfo6, Result.andThen_ok]; rfl
theorem info6 : (Try.prog.info? 6).map (fun i => (i.zero, i.size, i.bytes)) = some (some (.int .u8 0), 1, 1) := by kernel_rfl
theorem zero7 (w : World) : (zeroValue 7).run Try.prog w = .ok (.agg #[.int .i64 0, .int .i64 0, .bool false, .int .u8 0]) w := by
  simp only [zeroValue, Sem.run_bind, Try.typeInfo7, Result.andThen_ok]; rfl
theorem info7 : (Try.prog.info? 7).map (fun i => (i.zero, i.size, i.bytes)) = some (some (.agg #[.int .i64 0, .int .i64 0, .bool false, .int .u8 0]), 4, 24) := by kernel_rfl
theorem zero8 (w : World) : (zeroValue 8).run Try.prog w = .ok (.agg #[.int .i64 0, .int .i64 0, .bool false, .int .u8 0]) w := by
  simp only [zeroValue, Sem.run_bind, Try.typeInfo8, Result.andThen_ok]; rfl
theorem info8 : (Try.prog.info? 8).map (fun i => (i.zero, i.size, i.bytes)) = some (some (.agg #[.int .i64 0, .int .i64 0, .bool false, .int .u8 0]), 4, 24) := by kernel_rfl
theorem zero9 (w : World) : (zeroValue 9).run Try.prog w = .ok (.string ⟨#[]⟩) w := by
  simp only [zeroValue, Sem.run_bind, Try.typeInfo9, Result.andThen_ok]; rfl
theorem info9 : (Try.prog.info? 9).map (fun i => (i.zero, i.size, i.bytes)) = some (some (.string ⟨#[]⟩), 1, 16) := by kernel_rfl
theorem zero10 (w : World) : (zeroValue 10).run Try.prog w = .ok (.string ⟨#[]⟩) w := by
  simp only [zeroValue, Sem.run_bind, Try.typeInfo10, Result.andThen_ok]; rfl
theorem info10 : (Try.prog.info? 10).map (fun i => (i.zero, i.size, i.bytes)) = some (some (.string ⟨#[]⟩), 1, 16) := by kernel_rfl
theorem zero11 (w : World) : (zeroValue 11).run Try.prog w = .ok (.string ⟨#[]⟩) w := by
  simp only [zeroValue, Sem.run_bind, Try.typeInfo11, Result.andThen_ok]; rfl
theorem info11 : (Try.prog.info? 11).map (fun i => (i.zero, i.size, i.bytes)) = some (some (.string ⟨#[]⟩), 1, 16) := by kernel_rfl
theorem zero12 (w : World) : (zeroValue 12).run Try.prog w = .ok (.int .u64 0) w := by
  simp only [zeroValue, Sem.run_bind, Try.typeInfo12, Result.andThen_ok]; rfl
theorem info12 : (Try.prog.info? 12).map (fun i => (i.zero, i.size, i.bytes)) = some (some (.int .u64 0), 1, 8) := by kernel_rfl
theorem zero13 (w : World) : (zeroValue 13).run Try.prog w = .ok (.agg #[.string ⟨#[]⟩, .int .u64 0]) w := by
  simp only [zeroValue, Sem.run_bind, Try.typeInfo13, Result.andThen_ok]; rfl
theorem info13 : (Try.prog.info? 13).map (fun i => (i.zero, i.size, i.bytes)) = some (some (.agg #[.string ⟨#[]⟩, .int .u64 0]), 2, 24) := by kernel_rfl
theorem zero14 (w : World) : (zeroValue 14).run Try.prog w = .ok (.agg #[.string ⟨#[]⟩, .int .u64 0]) w := by
  simp only [zeroValue, Sem.run_bind, Try.typeInfo14, Result.andThen_ok]; rfl
theorem info14 : (Try.prog.info? 14).map (fun i => (i.zero, i.size, i.bytes)) = some (some (.agg #[.string ⟨#[]⟩, .int .u64 0]), 2, 24) := by kernel_rfl
theorem zero15 (w : World) : (zeroValue 15).run Try.prog w = .ok (.pointer none) w := by
  simp only [zeroValue, Sem.run_bind, Try.typeInfo15, Result.andThen_ok]; rfl
theorem info15 : (Try.prog.info? 15).map (fun i => (i.zero, i.size, i.bytes)) = some (some (.pointer none), 1, 8) := by kernel_rfl
theorem zero16 (w : World) : (zeroValue 16).run Try.prog w = .ok (.pointer none) w := by
  simp only [zeroValue, Sem.run_bind, Try.typeInfo16, Result.andThen_ok]; rfl
theorem info16 : (Try.prog.info? 16).map (fun i => (i.zero, i.size, i.bytes)) = some (some (.pointer none), 1, 8) := by kernel_rfl
theorem zero17 (w : World) : (zeroValue 17).run Try.prog w = .ok (.pointer none) w := by
  simp only [zeroValue, Sem.run_bind, Try.typeInfo17, Result.andThen_ok]; rfl
theorem info17 : (Try.prog.info? 17).map (fun i => (i.zero, i.size, i.bytes)) = some (some (.pointer none), 1, 8) := by kernel_rfl
theorem zero18 (w : World) : (zeroValue 18).run Try.prog w = .ok (.agg #[.pointer none]) w := by
  simp only [zeroValue, Sem.run_bind, Try.typeInfo18, Result.andThen_ok]; rfl
theorem info18 : (Try.prog.info? 18).map (fun i => (i.zero, i.size, i.bytes)) = some (some (.agg #[.pointer none]), 1, 8) := by kernel_rfl
theorem zero19 (w : World) : (zeroValue 19).run Try.prog w = .ok (.agg #[.pointer none]) w := by
  simp only [zeroValue, Sem.run_bind, Try.typeInfo19, Result.andThen_ok]; rfl
theorem info19 : (Try.prog.info? 19).map (fun i => (i.zero, i.size, i.bytes)) = some (some (.agg #[.pointer none]), 1, 8) := by kernel_rfl
theorem zero21 (w : World) : (zeroValue 21).run Try.prog w = .ok (.int .i32 0) w := by
  simp only [zeroValue, Sem.run_bind, Try.typeInfo21, Result.andThen_ok]; rfl
theorem info21 : (Try.prog.info? 21).map (fun i => (i.zero, i.size, i.bytes)) = some (some (.int .i32 0), 1, 4) := by kernel_rfl
theorem zero22 (w : World) : (zeroValue 22).run Try.prog w = .ok (.slice none 0 0) w := by
  simp only [zeroValue, Sem.run_bind, Try.typeInfo22, Result.andThen_ok]; rfl
theorem info22 : (Try.prog.info? 22).map (fun i => (i.zero, i.size, i.bytes)) = some (some (.slice none 0 0), 1, 24) := by kernel_rfl
theorem zero25 (w : World) : (zeroValue 25).run Try.prog w = .ok (.int .i64 0) w := by
  simp only [zeroValue, Sem.run_bind, Try.typeInfo25, Result.andThen_ok]; rfl
theorem info25 : (Try.prog.info? 25).map (fun i => (i.zero, i.size, i.bytes)) = some (some (.int .i64 0), 1, 8) := by kernel_rfl
theorem zero33 (w : World) : (zeroValue 33).run Try.prog w = .ok (.slice none 0 0) w := by
  simp only [zeroValue, Sem.run_bind, Try.typeInfo33, Result.andThen_ok]; rfl
theorem info33 : (Try.prog.info? 33).map (fun i => (i.zero, i.size, i.bytes)) = some (some (.slice none 0 0), 1, 24) := by kernel_rfl
theorem zero35 (w : World) : (zeroValue 35).run Try.prog w = .ok (.int .u16 0) w := by
  simp only [zeroValue, Sem.run_bind, Try.typeInfo35, Result.andThen_ok]; rfl
theorem info35 : (Try.prog.info? 35).map (fun i => (i.zero, i.size, i.bytes)) = some (some (.int .u16 0), 1, 2) := by kernel_rfl
theorem zero37 (w : World) : (zeroValue 37).run Try.prog w = .ok (.slice none 0 0) w := by
  simp only [zeroValue, Sem.run_bind, Try.typeInfo37, Result.andThen_ok]; rfl
theorem info37 : (Try.prog.info? 37).map (fun i => (i.zero, i.size, i.bytes)) = some (some (.slice none 0 0), 1, 24) := by kernel_rfl
theorem zero43 (w : World) : (zeroValue 43).run Try.prog w = .ok (.int .u64 0) w := by
  simp only [zeroValue, Sem.run_bind, Try.typeInfo43, Result.andThen_ok]; rfl
theorem info43 : (Try.prog.info? 43).map (fun i => (i.zero, i.size, i.bytes)) = some (some (.int .u64 0), 1, 8) := by kernel_rfl
theorem zero46 (w : World) : (zeroValue 46).run Try.prog w = .ok (.pointer none) w := by
  simp only [zeroValue, Sem.run_bind, Try.typeInfo46, Result.andThen_ok]; rfl
theorem info46 : (Try.prog.info? 46).map (fun i => (i.zero, i.size, i.bytes)) = some (some (.pointer none), 1, 8) := by kernel_rfl
theorem zero47 (w : World) : (zeroValue 47).run Try.prog w = .ok (.pointer none) w := by
  simp only [zeroValue, Sem.run_bind, Try.typeInfo47, Result.andThen_ok]; rfl
theorem info47 : (Try.prog.info? 47).map (fun i => (i.zero, i.size, i.bytes)) = some (some (.pointer none), 1, 8) := by kernel_rfl
theorem zero49 (w : World) : (zeroValue 49).run Try.prog w = .ok (.agg #[.pointer none, .slice none 0 0, .int .i64 0]) w := by
  simp only [zeroValue, Sem.run_bind, Try.typeInfo49, Result.andThen_ok]; rfl
theorem info49 : (Try.prog.info? 49).map (fun i => (i.zero, i.size, i.bytes)) = some (some (.agg #[.pointer none, .slice none 0 0, .int .i64 0]), 3, 40) := by kernel_rfl
theorem zero50 (w : World) : (zeroValue 50).run Try.prog w = .ok (.agg #[.pointer none, .slice none 0 0, .int .i64 0]) w := by
  simp only [zeroValue, Sem.run_bind, Try.typeInfo50, Result.andThen_ok]; rfl
theorem info50 : (Try.prog.info? 50).map (fun i => (i.zero, i.size, i.bytes)) = some (some (.agg #[.pointer none, .slice none 0 0, .int .i64 0]), 3, 40) := by kernel_rfl
theorem zero52 (w : World) : (zeroValue 52).run Try.prog w = .ok (.pointer none) w := by
  simp only [zeroValue, Sem.run_bind, Try.typeInfo52, Result.andThen_ok]; rfl
theorem info52 : (Try.prog.info? 52).map (fun i => (i.zero, i.size, i.bytes)) = some (some (.pointer none), 1, 8) := by kernel_rfl
theorem zero53 (w : World) : (zeroValue 53).run Try.prog w = .ok (.slice none 0 0) w := by
  simp only [zeroValue, Sem.run_bind, Try.typeInfo53, Result.andThen_ok]; rfl
theorem info53 : (Try.prog.info? 53).map (fun i => (i.zero, i.size, i.bytes)) = some (some (.slice none 0 0), 1, 24) := by kernel_rfl
theorem zero55 (w : World) : (zeroValue 55).run Try.prog w = .ok (.agg #[.slice none 0 0, .int .i64 0, .slice none 0 0, .int .i64 0, .int .i64 0]) w := by
  simp only [zeroValue, Sem.run_bind, Try.typeInfo55, Result.andThen_ok]; rfl
theorem info55 : (Try.prog.info? 55).map (fun i => (i.zero, i.size, i.bytes)) = some (some (.agg #[.slice none 0 0, .int .i64 0, .slice none 0 0, .int .i64 0, .int .i64 0]), 5, 72) := by kernel_rfl
theorem zero56 (w : World) : (zeroValue 56).run Try.prog w = .ok (.agg #[.slice none 0 0, .int .i64 0, .slice none 0 0, .int .i64 0, .int .i64 0]) w := by
  simp only [zeroValue, Sem.run_bind, Try.typeInfo56, Result.andThen_ok]; rfl
theorem info56 : (Try.prog.info? 56).map (fun i => (i.zero, i.size, i.bytes)) = some (some (.agg #[.slice none 0 0, .int .i64 0, .slice none 0 0, .int .i64 0, .int .i64 0]), 5, 72) := by kernel_rfl
theorem zero59 (w : World) : (zeroValue 59).run Try.prog w = .ok (.agg #[.int .i64 0, .int .i64 0]) w := by
  simp only [zeroValue, Sem.run_bind, Try.typeInfo59, Result.andThen_ok]; rfl
theorem info59 : (Try.prog.info? 59).map (fun i => (i.zero, i.size, i.bytes)) = some (some (.agg #[.int .i64 0, .int .i64 0]), 2, 16) := by kernel_rfl
theorem zero60 (w : World) : (zeroValue 60).run Try.prog w = .ok (.agg #[.int .i64 0, .int .i64 0]) w := by
  simp only [zeroValue, Sem.run_bind, Try.typeInfo60, Result.andThen_ok]; rfl
theorem info60 : (Try.prog.info? 60).map (fun i => (i.zero, i.size, i.bytes)) = some (some (.agg #[.int .i64 0, .int .i64 0]), 2, 16) := by kernel_rfl
theorem zero61 (w : World) : (zeroValue 61).run Try.prog w = .ok (.agg #[.int .i64 0, .int .i64 0, .int .i64 0, .int .i64 0, .int .i64 0, .int .i64 0, .int .i64 0, .int .i64 0, .int .i64 0, .int .i64 0, .int .i64 0, .int .i64 0, .int .i64 0, .int .i64 0, .int .i64 0, .int .i64 0, .int .i64 0, .int .i64 0, .int .i64 0, .int .i64 0, .int .i64 0, .int .i64 0, .int .i64 0, .int .i64 0, .int .i64 0, .int .i64 0, .int .i64 0, .int .i64 0, .int .i64 0, .int .i64 0, .int .i64 0, .int .i64 0, .int .i64 0, .int .i64 0, .int .i64 0, .int .i64 0, .int .i64 0, .int .i64 0, .int .i64 0, .int .i64 0, .int .i64 0, .int .i64 0, .int .i64 0, .int .i64 0, .int .i64 0, .int .i64 0, .int .i64 0, .int .i64 0, .int .i64 0, .int .i64 0, .int .i64 0, .int .i64 0, .int .i64 0, .int .i64 0, .int .i64 0, .int .i64 0, .int .i64 0, .int .i64 0]) w := by
  simp only [zeroValue, Sem.run_bind, Try.typeInfo61, Result.andThen_ok]; rfl
theorem info61 : (Try.prog.info? 61).map (fun i => (i.zero, i.size, i.bytes)) = some (some (.agg #[.int .i64 0, .int .i64 0, .int .i64 0, .int .i64 0, .int .i64 0, .int .i64 0, .int .i64 0, .int .i64 0, .int .i64 0, .int .i64 0, .int .i64 0, .int .i64 0, .int .i64 0, .int .i64 0, .int .i64 0, .int .i64 0, .int .i64 0, .int .i64 0, .int .i64 0, .int .i64 0, .int .i64 0, .int .i64 0, .int .i64 0, .int .i64 0, .int .i64 0, .int .i64 0, .int .i64 0, .int .i64 0, .int .i64 0, .int .i64 0, .int .i64 0, .int .i64 0, .int .i64 0, .int .i64 0, .int .i64 0, .int .i64 0, .int .i64 0, .int .i64 0, .int .i64 0, .int .i64 0, .int .i64 0, .int .i64 0, .int .i64 0, .int .i64 0, .int .i64 0, .int .i64 0, .int .i64 0, .int .i64 0, .int .i64 0, .int .i64 0, .int .i64 0, .int .i64 0, .int .i64 0, .int .i64 0, .int .i64 0, .int .i64 0, .int .i64 0, .int .i64 0]), 58, 464) := by kernel_rfl
theorem zero63 (w : World) : (zeroValue 63).run Try.prog w = .ok (.agg #[.int .i64 0, .int .i64 0, .int .i64 0, .int .i64 0, .int .i64 0, .int .i64 0, .int .i64 0, .int .i64 0, .int .i64 0, .int .i64 0, .int .i64 0, .int .i64 0, .int .i64 0, .int .i64 0, .int .i64 0, .int .i64 0, .int .i64 0, .int .i64 0, .int .i64 0, .int .i64 0, .int .i64 0, .int .i64 0, .int .i64 0, .int .i64 0, .int .i64 0, .int .i64 0, .int .i64 0, .int .i64 0, .int .i64 0, .int .i64 0, .int .i64 0, .int .i64 0, .int .i64 0, .int .i64 0, .int .i64 0, .int .i64 0, .int .i64 0, .int .i64 0, .int .i64 0, .int .i64 0, .int .i64 0, .int .i64 0, .int .i64 0, .int .i64 0, .int .i64 0, .int .i64 0, .int .i64 0, .int .i64 0, .int .i64 0, .int .i64 0, .int .i64 0, .int .i64 0, .int .i64 0, .int .i64 0, .int .i64 0, .int .i64 0, .int .i64 0, .int .i64 0, .int .i64 0, .int .i64 0]) w := by
  simp only [zeroValue, Sem.run_bind, Try.typeInfo63, Result.andThen_ok]; rfl
theorem info63 : (Try.prog.info? 63).map (fun i => (i.zero, i.size, i.bytes)) = some (some (.agg #[.int .i64 0, .int .i64 0, .int .i64 0, .int .i64 0, .int .i64 0, .int .i64 0, .int .i64 0, .int .i64 0, .int .i64 0, .int .i64 0, .int .i64 0, .int .i64 0, .int .i64 0, .int .i64 0, .int .i64 0, .int .i64 0, .int .i64 0, .int .i64 0, .int .i64 0, .int .i64 0, .int .i64 0, .int .i64 0, .int .i64 0, .int .i64 0, .int .i64 0, .int .i64 0, .int .i64 0, .int .i64 0, .int .i64 0, .int .i64 0, .int .i64 0, .int .i64 0, .int .i64 0, .int .i64 0, .int .i64 0, .int .i64 0, .int .i64 0, .int .i64 0, .int .i64 0, .int .i64 0, .int .i64 0, .int .i64 0, .int .i64 0, .int .i64 0, .int .i64 0, .int .i64 0, .int .i64 0, .int .i64 0, .int .i64 0, .int .i64 0, .int .i64 0, .int .i64 0, .int .i64 0, .int .i64 0, .int .i64 0, .int .i64 0, .int .i64 0, .int .i64 0, .int .i64 0, .int .i64 0]), 60, 480) := by kernel_rfl
theorem zero65 (w : World) : (zeroValue 65).run Try.prog w = .ok (.agg #[.slice none 0 0, .int .i64 0]) w := by
  simp only [zeroValue, Sem.run_bind, Try.typeInfo65, Result.andThen_ok]; rfl
theorem info65 : (Try.prog.info? 65).map (fun i => (i.zero, i.size, i.bytes)) = some (some (.agg #[.slice none 0 0, .int .i64 0]), 2, 32) := by kernel_rfl
theorem zero66 (w : World) : (zeroValue 66).run Try.prog w = .ok (.agg #[.slice none 0 0, .int .i64 0]) w := by
  simp only [zeroValue, Sem.run_bind, Try.typeInfo66, Result.andThen_ok]; rfl
theorem info66 : (Try.prog.info? 66).map (fun i => (i.zero, i.size, i.bytes)) = some (some (.agg #[.slice none 0 0, .int .i64 0]), 2, 32) := by kernel_rfl
theorem zero69 (w : World) : (zeroValue 69).run Try.prog w = .ok (.pointer none) w := by
  simp only [zeroValue, Sem.run_bind, Try.typeInfo69, Result.andThen_ok]; rfl
theorem info69 : (Try.prog.info? 69).map (fun i => (i.zero, i.size, i.bytes)) = some (some (.pointer none), 1, 8) := by kernel_rfl
theorem zero74 (w : World) : (zeroValue 74).run Try.prog w = .ok (.int .u64 0) w := by
  simp only [zeroValue, Sem.run_bind, Try.typeInfo74, Result.andThen_ok]; rfl
theorem info74 : (Try.prog.info? 74).map (fun i => (i.zero, i.size, i.bytes)) = some (some (.int .u64 0), 1, 8) := by kernel_rfl
theorem zero86 (w : World) : (zeroValue 86).run Try.prog w = .ok (.agg #[.int .i64 0, .int .i64 0, .int .i64 0, .int .i64 0, .int .i64 0, .int .i64 0, .int .i64 0, .int .i64 0, .int .i64 0, .int .i64 0, .int .i64 0, .int .i64 0, .int .i64 0, .int .i64 0, .int .i64 0, .int .i64 0, .int .i64 0, .int .i64 0, .int .i64 0]) w := by
  simp only [zeroValue, Sem.run_bind, Try.typeInfo86, Result.andThen_ok]; rfl
theorem info86 : (Try.prog.info? 86).map (fun i => (i.zero, i.size, i.bytes)) = some (some (.agg #[.int .i64 0, .int .i64 0, .int .i64 0, .int .i64 0, .int .i64 0, .int .i64 0, .int .i64 0, .int .i64 0, .int .i64 0, .int .i64 0, .int .i64 0, .int .i64 0, .int .i64 0, .int .i64 0, .int .i64 0, .int .i64 0, .int .i64 0, .int .i64 0, .int .i64 0]), 19, 152) := by kernel_rfl
theorem zero93 (w : World) : (zeroValue 93).run Try.prog w = .ok (.agg #[.int .i64 0, .int .i64 0, .int .i64 0, .int .i64 0, .int .i64 0, .int .i64 0, .int .i64 0, .int .i64 0, .int .i64 0, .int .i64 0, .int .i64 0, .int .i64 0, .int .i64 0, .int .i64 0, .int .i64 0, .int .i64 0]) w := by
  simp only [zeroValue, Sem.run_bind, Try.typeInfo93, Result.andThen_ok]; rfl
theorem info93 : (Try.prog.info? 93).map (fun i => (i.zero, i.size, i.bytes)) = some (some (.agg #[.int .i64 0, .int .i64 0, .int .i64 0, .int .i64 0, .int .i64 0, .int .i64 0, .int .i64 0, .int .i64 0, .int .i64 0, .int .i64 0, .int .i64 0, .int .i64 0, .int .i64 0, .int .i64 0, .int .i64 0, .int .i64 0]), 16, 128) := by kernel_rfl
theorem zero94 (w : World) : (zeroValue 94).run Try.prog w = .ok (.agg #[.int .i64 0, .int .i64 0, .int .i64 0, .int .i64 0, .int .i64 0, .int .i64 0, .int .i64 0, .int .i64 0, .int .i64 0, .int .i64 0, .int .i64 0, .int .i64 0, .int .i64 0, .int .i64 0, .int .i64 0, .int .i64 0]) w := by
  simp only [zeroValue, Sem.run_bind, Try.typeInfo94, Result.andThen_ok]; rfl
theorem info94 : (Try.prog.info? 94).map (fun i => (i.zero, i.size, i.bytes)) = some (some (.agg #[.int .i64 0, .int .i64 0, .int .i64 0, .int .i64 0, .int .i64 0, .int .i64 0, .int .i64 0, .int .i64 0, .int .i64 0, .int .i64 0, .int .i64 0, .int .i64 0, .int .i64 0, .int .i64 0, .int .i64 0, .int .i64 0]), 16, 128) := by kernel_rfl
theorem zero97 (w : World) : (zeroValue 97).run Try.prog w = .ok (.agg #[.int .u64 0, .int .u64 0, .int .u64 0, .int .u64 0, .int .u64 0, .int .u64 0, .int .u64 0, .int .u64 0, .int .u64 0, .int .u64 0, .int .u64 0, .int .u64 0, .int .u64 0, .int .u64 0, .int .u64 0, .int .u64 0]) w := by
  simp only [zeroValue, Sem.run_bind, Try.typeInfo97, Result.andThen_ok]; rfl
theorem info97 : (Try.prog.info? 97).map (fun i => (i.zero, i.size, i.bytes)) = some (some (.agg #[.int .u64 0, .int .u64 0, .int .u64 0, .int .u64 0, .int .u64 0, .int .u64 0, .int .u64 0, .int .u64 0, .int .u64 0, .int .u64 0, .int .u64 0, .int .u64 0, .int .u64 0, .int .u64 0, .int .u64 0, .int .u64 0]), 16, 128) := by kernel_rfl
theorem zero99 (w : World) : (zeroValue 99).run Try.prog w = .ok (.agg #[.int .i64 0, .int .i64 0, .int .i64 0, .int .i64 0, .int .i64 0, .int .i64 0, .int .i64 0, .int .i64 0, .int .i64 0, .int .i64 0, .int .i64 0, .int .i64 0, .int .i64 0, .int .i64 0, .int .i64 0, .int .i64 0, .int .u64 0, .int .u64 0, .int .u64 0, .int .u64 0, .int .u64 0, .int .u64 0, .int .u64 0, .int .u64 0, .int .u64 0, .int .u64 0, .int .u64 0, .int .u64 0, .int .u64 0, .int .u64 0, .int .u64 0, .int .u64 0, .slice none 0 0, .int .i64 0]) w := by
  simp only [zeroValue, Sem.run_bind, Try.typeInfo99, Result.andThen_ok]; rfl
theorem info99 : (Try.prog.info? 99).map (fun i => (i.zero, i.size, i.bytes)) = some (some (.agg #[.int .i64 0, .int .i64 0, .int .i64 0, .int .i64 0, .int .i64 0, .int .i64 0, .int .i64 0, .int .i64 0, .int .i64 0, .int .i64 0, .int .i64 0, .int .i64 0, .int .i64 0, .int .i64 0, .int .i64 0, .int .i64 0, .int .u64 0, .int .u64 0, .int .u64 0, .int .u64 0, .int .u64 0, .int .u64 0, .int .u64 0, .int .u64 0, .int .u64 0, .int .u64 0, .int .u64 0, .int .u64 0, .int .u64 0, .int .u64 0, .int .u64 0, .int .u64 0, .slice none 0 0, .int .i64 0]), 34, 288) := by kernel_rfl
theorem zero100 (w : World) : (zeroValue 100).run Try.prog w = .ok (.agg #[.int .i64 0, .int .i64 0, .int .i64 0, .int .i64 0, .int .i64 0, .int .i64 0, .int .i64 0, .int .i64 0, .int .i64 0, .int .i64 0, .int .i64 0, .int .i64 0, .int .i64 0, .int .i64 0, .int .i64 0, .int .i64 0, .int .u64 0, .int .u64 0, .int .u64 0, .int .u64 0, .int .u64 0, .int .u64 0, .int .u64 0, .int .u64 0, .int .u64 0, .int .u64 0, .int .u64 0, .int .u64 0, .int .u64 0, .int .u64 0, .int .u64 0, .int .u64 0, .slice none 0 0, .int .i64 0]) w := by
  simp only [zeroValue, Sem.run_bind, Try.typeInfo100, Result.andThen_ok]; rfl
theorem info100 : (Try.prog.info? 100).map (fun i => (i.zero, i.size, i.bytes)) = some (some (.agg #[.int .i64 0, .int .i64 0, .int .i64 0, .int .i64 0, .int .i64 0, .int .i64 0, .int .i64 0, .int .i64 0, .int .i64 0, .int .i64 0, .int .i64 0, .int .i64 0, .int .i64 0, .int .i64 0, .int .i64 0, .int .i64 0, .int .u64 0, .int .u64 0, .int .u64 0, .int .u64 0, .int .u64 0, .int .u64 0, .int .u64 0, .int .u64 0, .int .u64 0, .int .u64 0, .int .u64 0, .int .u64 0, .int .u64 0, .int .u64 0, .int .u64 0, .int .u64 0, .slice none 0 0, .int .i64 0]), 34, 288) := by kernel_rfl
theorem zero101 (w : World) : (zeroValue 101).run Try.prog w = .ok (.slice none 0 0) w := by
  simp only [zeroValue, Sem.run_bind, Try.typeInfo101, Result.andThen_ok]; rfl
theorem info101 : (Try.prog.info? 101).map (fun i => (i.zero, i.size, i.bytes)) = some (some (.slice none 0 0), 1, 24) := by kernel_rfl
theorem zero103 (w : World) : (zeroValue 103).run Try.prog w = .ok (.agg #[.int .u64 0, .int .i64 0]) w := by
  simp only [zeroValue, Sem.run_bind, Try.typeInfo103, Result.andThen_ok]; rfl
theorem info103 : (Try.prog.info? 103).map (fun i => (i.zero, i.size, i.bytes)) = some (some (.agg #[.int .u64 0, .int .i64 0]), 2, 16) := by kernel_rfl
theorem zero104 (w : World) : (zeroValue 104).run Try.prog w = .ok (.agg #[.int .u64 0, .int .i64 0]) w := by
  simp only [zeroValue, Sem.run_bind, Try.typeInfo104, Result.andThen_ok]; rfl
theorem info104 : (Try.prog.info? 104).map (fun i => (i.zero, i.size, i.bytes)) = some (some (.agg #[.int .u64 0, .int .i64 0]), 2, 16) := by kernel_rfl
theorem zero109 (w : World) : (zeroValue 109).run Try.prog w = .ok (.agg #[.pointer none, .pointer none, .pointer none, .string ⟨#[]⟩]) w := by
  simp only [zeroValue, Sem.run_bind, Try.typeInfo109, Result.andThen_ok]; rfl
theorem info109 : (Try.prog.info? 109).map (fun i => (i.zero, i.size, i.bytes)) = some (some (.agg #[.pointer none, .pointer none, .pointer none, .string ⟨#[]⟩]), 4, 40) := by kernel_rfl
theorem zero110 (w : World) : (zeroValue 110).run Try.prog w = .ok (.agg #[.pointer none, .pointer none, .pointer none, .string ⟨#[]⟩]) w := by
  simp only [zeroValue, Sem.run_bind, Try.typeInfo110, Result.andThen_ok]; rfl
theorem info110 : (Try.prog.info? 110).map (fun i => (i.zero, i.size, i.bytes)) = some (some (.agg #[.pointer none, .pointer none, .pointer none, .string ⟨#[]⟩]), 4, 40) := by kernel_rfl
theorem zero111 (w : World) : (zeroValue 111).run Try.prog w = .ok (.agg #[]) w := by
  simp only [zeroValue, Sem.run_bind, Try.typeInfo111, Result.andThen_ok]; rfl
theorem info111 : (Try.prog.info? 111).map (fun i => (i.zero, i.size, i.bytes)) = some (some (.agg #[]), 0, 0) := by kernel_rfl
theorem zero112 (w : World) : (zeroValue 112).run Try.prog w = .ok (.agg #[]) w := by
  simp only [zeroValue, Sem.run_bind, Try.typeInfo112, Result.andThen_ok]; rfl
theorem info112 : (Try.prog.info? 112).map (fun i => (i.zero, i.size, i.bytes)) = some (some (.agg #[]), 0, 0) := by kernel_rfl
theorem zero113 (w : World) : (zeroValue 113).run Try.prog w = .ok (.agg #[]) w := by
  simp only [zeroValue, Sem.run_bind, Try.typeInfo113, Result.andThen_ok]; rfl
theorem info113 : (Try.prog.info? 113).map (fun i => (i.zero, i.size, i.bytes)) = some (some (.agg #[]), 0, 0) := by kernel_rfl
theorem zero114 (w : World) : (zeroValue 114).run Try.prog w = .ok (.int .u32 0) w := by
  simp only [zeroValue, Sem.run_bind, Try.typeInfo114, Result.andThen_ok]; rfl
theorem info114 : (Try.prog.info? 114).map (fun i => (i.zero, i.size, i.bytes)) = some (some (.int .u32 0), 1, 4) := by kernel_rfl
theorem zero115 (w : World) : (zeroValue 115).run Try.prog w = .ok (.int .u8 0) w := by
  simp only [zeroValue, Sem.run_bind, Try.typeInfo115, Result.andThen_ok]; rfl
theorem info115 : (Try.prog.info? 115).map (fun i => (i.zero, i.size, i.bytes)) = some (some (.int .u8 0), 1, 1) := by kernel_rfl
theorem zero116 (w : World) : (zeroValue 116).run Try.prog w = .ok (.int .u8 0) w := by
  simp only [zeroValue, Sem.run_bind, Try.typeInfo116, Result.andThen_ok]; rfl
theorem info116 : (Try.prog.info? 116).map (fun i => (i.zero, i.size, i.bytes)) = some (some (.int .u8 0), 1, 1) := by kernel_rfl
theorem zero118 (w : World) : (zeroValue 118).run Try.prog w = .ok (.pointer none) w := by
  simp only [zeroValue, Sem.run_bind, Try.typeInfo118, Result.andThen_ok]; rfl
theorem info118 : (Try.prog.info? 118).map (fun i => (i.zero, i.size, i.bytes)) = some (some (.pointer none), 1, 8) := by kernel_rfl
theorem zero119 (w : World) : (zeroValue 119).run Try.prog w = .ok (.int .i32 0) w := by
  simp only [zeroValue, Sem.run_bind, Try.typeInfo119, Result.andThen_ok]; rfl
theorem info119 : (Try.prog.info? 119).map (fun i => (i.zero, i.size, i.bytes)) = some (some (.int .i32 0), 1, 4) := by kernel_rfl
theorem zero120 (w : World) : (zeroValue 120).run Try.prog w = .ok (.int .i32 0) w := by
  simp only [zeroValue, Sem.run_bind, Try.typeInfo120, Result.andThen_ok]; rfl
theorem info120 : (Try.prog.info? 120).map (fun i => (i.zero, i.size, i.bytes)) = some (some (.int .i32 0), 1, 4) := by kernel_rfl
theorem zero121 (w : World) : (zeroValue 121).run Try.prog w = .ok (.agg #[.int .u64 0, .int .u64 0, .int .u32 0, .int .u8 0, .int .u8 0, .int .u8 0, .int .u8 0, .nilFunc, .pointer none, .int .i32 0, .int .i32 0]) w := by
  simp only [zeroValue, Sem.run_bind, Try.typeInfo121, Result.andThen_ok]; rfl
theorem info121 : (Try.prog.info? 121).map (fun i => (i.zero, i.size, i.bytes)) = some (some (.agg #[.int .u64 0, .int .u64 0, .int .u32 0, .int .u8 0, .int .u8 0, .int .u8 0, .int .u8 0, .nilFunc, .pointer none, .int .i32 0, .int .i32 0]), 11, 48) := by kernel_rfl
theorem zero122 (w : World) : (zeroValue 122).run Try.prog w = .ok (.agg #[.int .u64 0, .int .u64 0, .int .u32 0, .int .u8 0, .int .u8 0, .int .u8 0, .int .u8 0, .nilFunc, .pointer none, .int .i32 0, .int .i32 0]) w := by
  simp only [zeroValue, Sem.run_bind, Try.typeInfo122, Result.andThen_ok]; rfl
theorem info122 : (Try.prog.info? 122).map (fun i => (i.zero, i.size, i.bytes)) = some (some (.agg #[.int .u64 0, .int .u64 0, .int .u32 0, .int .u8 0, .int .u8 0, .int .u8 0, .int .u8 0, .nilFunc, .pointer none, .int .i32 0, .int .i32 0]), 11, 48) := by kernel_rfl
theorem places7 : ∃ fs, Try.prog.underlying 7 = some (.struct fs) ∧ ∀ w, (fs.mapM fun f => do pure (f.offset, ← sizeOf f.type) : Sem (Array (Nat × Nat))).run Try.prog w = .ok #[(0, 1), (1, 1), (2, 1), (3, 1)] w :=
  ⟨_, Try.underlying7, fun w => by simp [Try.sizeOf2, Try.sizeOf3, Try.sizeOf4, Try.sizeOf6]⟩
theorem places8 : ∃ fs, Try.prog.underlying 8 = some (.struct fs) ∧ ∀ w, (fs.mapM fun f => do pure (f.offset, ← sizeOf f.type) : Sem (Array (Nat × Nat))).run Try.prog w = .ok #[(0, 1), (1, 1), (2, 1), (3, 1)] w :=
  ⟨_, Try.underlying8, fun w => by simp [Try.sizeOf2, Try.sizeOf3, Try.sizeOf4, Try.sizeOf6]⟩
theorem places13 : ∃ fs, Try.prog.underlying 13 = some (.struct fs) ∧ ∀ w, (fs.mapM fun f => do pure (f.offset, ← sizeOf f.type) : Sem (Array (Nat × Nat))).run Try.prog w = .ok #[(0, 1), (1, 1)] w :=
  ⟨_, Try.underlying13, fun w => by simp [Try.sizeOf12, Try.sizeOf9]⟩
theorem places14 : ∃ fs, Try.prog.underlying 14 = some (.struct fs) ∧ ∀ w, (fs.mapM fun f => do pure (f.offset, ← sizeOf f.type) : Sem (Array (Nat × Nat))).run Try.prog w = .ok #[(0, 1), (1, 1)] w :=
  ⟨_, Try.underlying14, fun w => by simp [Try.sizeOf12, Try.sizeOf9]⟩
theorem places18 : ∃ fs, Try.prog.underlying 18 = some (.struct fs) ∧ ∀ w, (fs.mapM fun f => do pure (f.offset, ← sizeOf f.type) : Sem (Array (Nat × Nat))).run Try.prog w = .ok #[(0, 1)] w :=
  ⟨_, Try.underlying18, fun w => by simp [Try.sizeOf17]⟩
theorem places19 : ∃ fs, Try.prog.underlying 19 = some (.struct fs) ∧ ∀ w, (fs.mapM fun f => do pure (f.offset, ← sizeOf f.type) : Sem (Array (Nat × Nat))).run Try.prog w = .ok #[(0, 1)] w :=
  ⟨_, Try.underlying19, fun w => by simp [Try.sizeOf17]⟩
theorem places49 : ∃ fs, Try.prog.underlying 49 = some (.struct fs) ∧ ∀ w, (fs.mapM fun f => do pure (f.offset, ← sizeOf f.type) : Sem (Array (Nat × Nat))).run Try.prog w = .ok #[(0, 1), (1, 1), (2, 1)] w :=
  ⟨_, Try.underlying49, fun w => by simp [Try.sizeOf22, Try.sizeOf3, Try.sizeOf47]⟩
theorem places50 : ∃ fs, Try.prog.underlying 50 = some (.struct fs) ∧ ∀ w, (fs.mapM fun f => do pure (f.offset, ← sizeOf f.type) : Sem (Array (Nat × Nat))).run Try.prog w = .ok #[(0, 1), (1, 1), (2, 1)] w :=
  ⟨_, Try.underlying50, fun w => by simp [Try.sizeOf22, Try.sizeOf3, Try.sizeOf47]⟩
theorem places55 : ∃ fs, Try.prog.underlying 55 = some (.struct fs) ∧ ∀ w, (fs.mapM fun f => do pure (f.offset, ← sizeOf f.type) : Sem (Array (Nat × Nat))).run Try.prog w = .ok #[(0, 1), (1, 1), (2, 1), (3, 1), (4, 1)] w :=
  ⟨_, Try.underlying55, fun w => by simp [Try.sizeOf22, Try.sizeOf3, Try.sizeOf53]⟩
theorem places56 : ∃ fs, Try.prog.underlying 56 = some (.struct fs) ∧ ∀ w, (fs.mapM fun f => do pure (f.offset, ← sizeOf f.type) : Sem (Array (Nat × Nat))).run Try.prog w = .ok #[(0, 1), (1, 1), (2, 1), (3, 1), (4, 1)] w :=
  ⟨_, Try.underlying56, fun w => by simp [Try.sizeOf22, Try.sizeOf3, Try.sizeOf53]⟩
theorem places59 : ∃ fs, Try.prog.underlying 59 = some (.struct fs) ∧ ∀ w, (fs.mapM fun f => do pure (f.offset, ← sizeOf f.type) : Sem (Array (Nat × Nat))).run Try.prog w = .ok #[(0, 1), (1, 1)] w :=
  ⟨_, Try.underlying59, fun w => by simp [Try.sizeOf3]⟩
theorem places60 : ∃ fs, Try.prog.underlying 60 = some (.struct fs) ∧ ∀ w, (fs.mapM fun f => do pure (f.offset, ← sizeOf f.type) : Sem (Array (Nat × Nat))).run Try.prog w = .ok #[(0, 1), (1, 1)] w :=
  ⟨_, Try.underlying60, fun w => by simp [Try.sizeOf3]⟩
theorem places65 : ∃ fs, Try.prog.underlying 65 = some (.struct fs) ∧ ∀ w, (fs.mapM fun f => do pure (f.offset, ← sizeOf f.type) : Sem (Array (Nat × Nat))).run Try.prog w = .ok #[(0, 1), (1, 1)] w :=
  ⟨_, Try.underlying65, fun w => by simp [Try.sizeOf22, Try.sizeOf3]⟩
theorem places66 : ∃ fs, Try.prog.underlying 66 = some (.struct fs) ∧ ∀ w, (fs.mapM fun f => do pure (f.offset, ← sizeOf f.type) : Sem (Array (Nat × Nat))).run Try.prog w = .ok #[(0, 1), (1, 1)] w :=
  ⟨_, Try.underlying66, fun w => by simp [Try.sizeOf22, Try.sizeOf3]⟩
theorem places99 : ∃ fs, Try.prog.underlying 99 = some (.struct fs) ∧ ∀ w, (fs.mapM fun f => do pure (f.offset, ← sizeOf f.type) : Sem (Array (Nat × Nat))).run Try.prog w = .ok #[(0, 16), (16, 16), (32, 1), (33, 1)] w :=
  ⟨_, Try.underlying99, fun w => by simp [Try.sizeOf3, Try.sizeOf37, Try.sizeOf94, Try.sizeOf97]⟩
theorem places100 : ∃ fs, Try.prog.underlying 100 = some (.struct fs) ∧ ∀ w, (fs.mapM fun f => do pure (f.offset, ← sizeOf f.type) : Sem (Array (Nat × Nat))).run Try.prog w = .ok #[(0, 16), (16, 16), (32, 1), (33, 1)] w :=
  ⟨_, Try.underlying100, fun w => by simp [Try.sizeOf3, Try.sizeOf37, Try.sizeOf94, Try.sizeOf97]⟩
theorem places103 : ∃ fs, Try.prog.underlying 103 = some (.struct fs) ∧ ∀ w, (fs.mapM fun f => do pure (f.offset, ← sizeOf f.type) : Sem (Array (Nat × Nat))).run Try.prog w = .ok #[(0, 1), (1, 1)] w :=
  ⟨_, Try.underlying103, fun w => by simp [Try.sizeOf3, Try.sizeOf74]⟩
theorem places104 : ∃ fs, Try.prog.underlying 104 = some (.struct fs) ∧ ∀ w, (fs.mapM fun f => do pure (f.offset, ← sizeOf f.type) : Sem (Array (Nat × Nat))).run Try.prog w = .ok #[(0, 1), (1, 1)] w :=
  ⟨_, Try.underlying104, fun w => by simp [Try.sizeOf3, Try.sizeOf74]⟩
theorem places109 : ∃ fs, Try.prog.underlying 109 = some (.struct fs) ∧ ∀ w, (fs.mapM fun f => do pure (f.offset, ← sizeOf f.type) : Sem (Array (Nat × Nat))).run Try.prog w = .ok #[(0, 1), (1, 1), (2, 1), (3, 1)] w :=
  ⟨_, Try.underlying109, fun w => by simp [Try.sizeOf17, Try.sizeOf9]⟩
theorem places110 : ∃ fs, Try.prog.underlying 110 = some (.struct fs) ∧ ∀ w, (fs.mapM fun f => do pure (f.offset, ← sizeOf f.type) : Sem (Array (Nat × Nat))).run Try.prog w = .ok #[(0, 1), (1, 1), (2, 1), (3, 1)] w :=
  ⟨_, Try.underlying110, fun w => by simp [Try.sizeOf17, Try.sizeOf9]⟩
theorem places112 : ∃ fs, Try.prog.underlying 112 = some (.struct fs) ∧ ∀ w, (fs.mapM fun f => do pure (f.offset, ← sizeOf f.type) : Sem (Array (Nat × Nat))).run Try.prog w = .ok #[(0, 0)] w :=
  ⟨_, Try.underlying112, fun w => by simp [Try.sizeOf111]⟩
theorem places113 : ∃ fs, Try.prog.underlying 113 = some (.struct fs) ∧ ∀ w, (fs.mapM fun f => do pure (f.offset, ← sizeOf f.type) : Sem (Array (Nat × Nat))).run Try.prog w = .ok #[(0, 0)] w :=
  ⟨_, Try.underlying113, fun w => by simp [Try.sizeOf111]⟩
theorem places121 : ∃ fs, Try.prog.underlying 121 = some (.struct fs) ∧ ∀ w, (fs.mapM fun f => do pure (f.offset, ← sizeOf f.type) : Sem (Array (Nat × Nat))).run Try.prog w = .ok #[(0, 1), (1, 1), (2, 1), (3, 1), (4, 1), (5, 1), (6, 1), (7, 1), (8, 1), (9, 1), (10, 1)] w :=
  ⟨_, Try.underlying121, fun w => by simp [Try.sizeOf114, Try.sizeOf115, Try.sizeOf116, Try.sizeOf117, Try.sizeOf118, Try.sizeOf119, Try.sizeOf12, Try.sizeOf120, Try.sizeOf5]⟩
theorem places122 : ∃ fs, Try.prog.underlying 122 = some (.struct fs) ∧ ∀ w, (fs.mapM fun f => do pure (f.offset, ← sizeOf f.type) : Sem (Array (Nat × Nat))).run Try.prog w = .ok #[(0, 1), (1, 1), (2, 1), (3, 1), (4, 1), (5, 1), (6, 1), (7, 1), (8, 1), (9, 1), (10, 1)] w :=
  ⟨_, Try.underlying122, fun w => by simp [Try.sizeOf114, Try.sizeOf115, Try.sizeOf116, Try.sizeOf117, Try.sizeOf118, Try.sizeOf119, Try.sizeOf12, Try.sizeOf120, Try.sizeOf5]⟩
theorem fields7 : ∃ f0 f1 f2 f3, (Try.prog.fieldsOf 7).toList = [f0, f1, f2, f3] ∧ (f0.name = "x" ∧ f0.type = 2 ∧ f0.offset = 0) ∧ (f1.name = "y" ∧ f1.type = 3 ∧ f1.offset = 1) ∧ (f2.name = "signed" ∧ f2.type = 4 ∧ f2.offset = 2) ∧ (f3.name = "code" ∧ f3.type = 6 ∧ f3.offset = 3) := by
  unfold Program.fieldsOf
  rw [Try.underlying7]
  exact ⟨_, _, _, _, rfl, ⟨rfl, rfl, rfl⟩, ⟨rfl, rfl, rfl⟩, ⟨rfl, rfl, rfl⟩, ⟨rfl, rfl, rfl⟩⟩
theorem fields8 : ∃ f0 f1 f2 f3, (Try.prog.fieldsOf 8).toList = [f0, f1, f2, f3] ∧ (f0.name = "x" ∧ f0.type = 2 ∧ f0.offset = 0) ∧ (f1.name = "y" ∧ f1.type = 3 ∧ f1.offset = 1) ∧ (f2.name = "signed" ∧ f2.type = 4 ∧ f2.offset = 2) ∧ (f3.name = "code" ∧ f3.type = 6 ∧ f3.offset = 3) := by
  unfold Program.fieldsOf
  rw [Try.underlying8]
  exact ⟨_, _, _, _, rfl, ⟨rfl, rfl, rfl⟩, ⟨rfl, rfl, rfl⟩, ⟨rfl, rfl, rfl⟩, ⟨rfl, rfl, rfl⟩⟩
theorem fields13 : ∃ f0 f1, (Try.prog.fieldsOf 13).toList = [f0, f1] ∧ (f0.name = "msg" ∧ f0.type = 9 ∧ f0.offset = 0) ∧ (f1.name = "addr" ∧ f1.type = 12 ∧ f1.offset = 1) := by
  unfold Program.fieldsOf
  rw [Try.underlying13]
  exact ⟨_, _, rfl, ⟨rfl, rfl, rfl⟩, ⟨rfl, rfl, rfl⟩⟩
theorem fields14 : ∃ f0 f1, (Try.prog.fieldsOf 14).toList = [f0, f1] ∧ (f0.name = "msg" ∧ f0.type = 9 ∧ f0.offset = 0) ∧ (f1.name = "addr" ∧ f1.type = 12 ∧ f1.offset = 1) := by
  unfold Program.fieldsOf
  rw [Try.underlying14]
  exact ⟨_, _, rfl, ⟨rfl, rfl, rfl⟩, ⟨rfl, rfl, rfl⟩⟩
theorem fields18 : ∃ f0, (Try.prog.fieldsOf 18).toList = [f0] ∧ (f0.name = "typ" ∧ f0.type = 17 ∧ f0.offset = 0) := by
  unfold Program.fieldsOf
  rw [Try.underlying18]
  exact ⟨_, rfl, ⟨rfl, rfl, rfl⟩⟩
theorem fields19 : ∃ f0, (Try.prog.fieldsOf 19).toList = [f0] ∧ (f0.name = "typ" ∧ f0.type = 17 ∧ f0.offset = 0) := by
  unfold Program.fieldsOf
  rw [Try.underlying19]
  exact ⟨_, rfl, ⟨rfl, rfl, rfl⟩⟩
theorem fields49 : ∃ f0 f1 f2, (Try.prog.fieldsOf 49).toList = [f0, f1, f2] ∧ (f0.name = "r" ∧ f0.type = 47 ∧ f0.offset = 0) ∧ (f1.name = "out" ∧ f1.type = 22 ∧ f1.offset = 1) ∧ (f2.name = "most" ∧ f2.type = 3 ∧ f2.offset = 2) := by
  unfold Program.fieldsOf
  rw [Try.underlying49]
  exact ⟨_, _, _, rfl, ⟨rfl, rfl, rfl⟩, ⟨rfl, rfl, rfl⟩, ⟨rfl, rfl, rfl⟩⟩
theorem fields50 : ∃ f0 f1 f2, (Try.prog.fieldsOf 50).toList = [f0, f1, f2] ∧ (f0.name = "r" ∧ f0.type = 47 ∧ f0.offset = 0) ∧ (f1.name = "out" ∧ f1.type = 22 ∧ f1.offset = 1) ∧ (f2.name = "most" ∧ f2.type = 3 ∧ f2.offset = 2) := by
  unfold Program.fieldsOf
  rw [Try.underlying50]
  exact ⟨_, _, _, rfl, ⟨rfl, rfl, rfl⟩, ⟨rfl, rfl, rfl⟩, ⟨rfl, rfl, rfl⟩⟩
theorem fields55 : ∃ f0 f1 f2 f3 f4, (Try.prog.fieldsOf 55).toList = [f0, f1, f2, f3, f4] ∧ (f0.name = "B" ∧ f0.type = 53 ∧ f0.offset = 0) ∧ (f1.name = "At" ∧ f1.type = 3 ∧ f1.offset = 1) ∧ (f2.name = "Out" ∧ f2.type = 22 ∧ f2.offset = 2) ∧ (f3.name = "Most" ∧ f3.type = 3 ∧ f3.offset = 3) ∧ (f4.name = "E" ∧ f4.type = 3 ∧ f4.offset = 4) := by
  unfold Program.fieldsOf
  rw [Try.underlying55]
  exact ⟨_, _, _, _, _, rfl, ⟨rfl, rfl, rfl⟩, ⟨rfl, rfl, rfl⟩, ⟨rfl, rfl, rfl⟩, ⟨rfl, rfl, rfl⟩, ⟨rfl, rfl, rfl⟩⟩
theorem fields56 : ∃ f0 f1 f2 f3 f4, (Try.prog.fieldsOf 56).toList = [f0, f1, f2, f3, f4] ∧ (f0.name = "B" ∧ f0.type = 53 ∧ f0.offset = 0) ∧ (f1.name = "At" ∧ f1.type = 3 ∧ f1.offset = 1) ∧ (f2.name = "Out" ∧ f2.type = 22 ∧ f2.offset = 2) ∧ (f3.name = "Most" ∧ f3.type = 3 ∧ f3.offset = 3) ∧ (f4.name = "E" ∧ f4.type = 3 ∧ f4.offset = 4) := by
  unfold Program.fieldsOf
  rw [Try.underlying56]
  exact ⟨_, _, _, _, _, rfl, ⟨rfl, rfl, rfl⟩, ⟨rfl, rfl, rfl⟩, ⟨rfl, rfl, rfl⟩, ⟨rfl, rfl, rfl⟩, ⟨rfl, rfl, rfl⟩⟩
theorem fields59 : ∃ f0 f1, (Try.prog.fieldsOf 59).toList = [f0, f1] ∧ (f0.name = "least" ∧ f0.type = 3 ∧ f0.offset = 0) ∧ (f1.name = "bits" ∧ f1.type = 3 ∧ f1.offset = 1) := by
  unfold Program.fieldsOf
  rw [Try.underlying59]
  exact ⟨_, _, rfl, ⟨rfl, rfl, rfl⟩, ⟨rfl, rfl, rfl⟩⟩
theorem fields60 : ∃ f0 f1, (Try.prog.fieldsOf 60).toList = [f0, f1] ∧ (f0.name = "least" ∧ f0.type = 3 ∧ f0.offset = 0) ∧ (f1.name = "bits" ∧ f1.type = 3 ∧ f1.offset = 1) := by
  unfold Program.fieldsOf
  rw [Try.underlying60]
  exact ⟨_, _, rfl, ⟨rfl, rfl, rfl⟩, ⟨rfl, rfl, rfl⟩⟩
theorem fields65 : ∃ f0 f1, (Try.prog.fieldsOf 65).toList = [f0, f1] ∧ (f0.name = "b" ∧ f0.type = 22 ∧ f0.offset = 0) ∧ (f1.name = "at" ∧ f1.type = 3 ∧ f1.offset = 1) := by
  unfold Program.fieldsOf
  rw [Try.underlying65]
  exact ⟨_, _, rfl, ⟨rfl, rfl, rfl⟩, ⟨rfl, rfl, rfl⟩⟩
theorem fields66 : ∃ f0 f1, (Try.prog.fieldsOf 66).toList = [f0, f1] ∧ (f0.name = "b" ∧ f0.type = 22 ∧ f0.offset = 0) ∧ (f1.name = "at" ∧ f1.type = 3 ∧ f1.offset = 1) := by
  unfold Program.fieldsOf
  rw [Try.underlying66]
  exact ⟨_, _, rfl, ⟨rfl, rfl, rfl⟩, ⟨rfl, rfl, rfl⟩⟩
theorem fields99 : ∃ f0 f1 f2 f3, (Try.prog.fieldsOf 99).toList = [f0, f1, f2, f3] ∧ (f0.name = "c" ∧ f0.type = 94 ∧ f0.offset = 0) ∧ (f1.name = "first" ∧ f1.type = 97 ∧ f1.offset = 16) ∧ (f2.name = "symbols" ∧ f2.type = 37 ∧ f2.offset = 32) ∧ (f3.name = "most" ∧ f3.type = 3 ∧ f3.offset = 33) := by
  unfold Program.fieldsOf
  rw [Try.underlying99]
  exact ⟨_, _, _, _, rfl, ⟨rfl, rfl, rfl⟩, ⟨rfl, rfl, rfl⟩, ⟨rfl, rfl, rfl⟩, ⟨rfl, rfl, rfl⟩⟩
theorem fields100 : ∃ f0 f1 f2 f3, (Try.prog.fieldsOf 100).toList = [f0, f1, f2, f3] ∧ (f0.name = "c" ∧ f0.type = 94 ∧ f0.offset = 0) ∧ (f1.name = "first" ∧ f1.type = 97 ∧ f1.offset = 16) ∧ (f2.name = "symbols" ∧ f2.type = 37 ∧ f2.offset = 32) ∧ (f3.name = "most" ∧ f3.type = 3 ∧ f3.offset = 33) := by
  unfold Program.fieldsOf
  rw [Try.underlying100]
  exact ⟨_, _, _, _, rfl, ⟨rfl, rfl, rfl⟩, ⟨rfl, rfl, rfl⟩, ⟨rfl, rfl, rfl⟩, ⟨rfl, rfl, rfl⟩⟩
theorem fields103 : ∃ f0 f1, (Try.prog.fieldsOf 103).toList = [f0, f1] ∧ (f0.name = "Bits" ∧ f0.type = 74 ∧ f0.offset = 0) ∧ (f1.name = "Len" ∧ f1.type = 3 ∧ f1.offset = 1) := by
  unfold Program.fieldsOf
  rw [Try.underlying103]
  exact ⟨_, _, rfl, ⟨rfl, rfl, rfl⟩, ⟨rfl, rfl, rfl⟩⟩
theorem fields104 : ∃ f0 f1, (Try.prog.fieldsOf 104).toList = [f0, f1] ∧ (f0.name = "Bits" ∧ f0.type = 74 ∧ f0.offset = 0) ∧ (f1.name = "Len" ∧ f1.type = 3 ∧ f1.offset = 1) := by
  unfold Program.fieldsOf
  rw [Try.underlying104]
  exact ⟨_, _, rfl, ⟨rfl, rfl, rfl⟩, ⟨rfl, rfl, rfl⟩⟩
theorem fields109 : ∃ f0 f1 f2 f3, (Try.prog.fieldsOf 109).toList = [f0, f1, f2, f3] ∧ (f0.name = "_interface" ∧ f0.type = 17 ∧ f0.offset = 0) ∧ (f1.name = "concrete" ∧ f1.type = 17 ∧ f1.offset = 1) ∧ (f2.name = "asserted" ∧ f2.type = 17 ∧ f2.offset = 2) ∧ (f3.name = "missingMethod" ∧ f3.type = 9 ∧ f3.offset = 3) := by
  unfold Program.fieldsOf
  rw [Try.underlying109]
  exact ⟨_, _, _, _, rfl, ⟨rfl, rfl, rfl⟩, ⟨rfl, rfl, rfl⟩, ⟨rfl, rfl, rfl⟩, ⟨rfl, rfl, rfl⟩⟩
theorem fields110 : ∃ f0 f1 f2 f3, (Try.prog.fieldsOf 110).toList = [f0, f1, f2, f3] ∧ (f0.name = "_interface" ∧ f0.type = 17 ∧ f0.offset = 0) ∧ (f1.name = "concrete" ∧ f1.type = 17 ∧ f1.offset = 1) ∧ (f2.name = "asserted" ∧ f2.type = 17 ∧ f2.offset = 2) ∧ (f3.name = "missingMethod" ∧ f3.type = 9 ∧ f3.offset = 3) := by
  unfold Program.fieldsOf
  rw [Try.underlying110]
  exact ⟨_, _, _, _, rfl, ⟨rfl, rfl, rfl⟩, ⟨rfl, rfl, rfl⟩, ⟨rfl, rfl, rfl⟩, ⟨rfl, rfl, rfl⟩⟩
theorem fields112 : ∃ f0, (Try.prog.fieldsOf 112).toList = [f0] ∧ (f0.name = "_" ∧ f0.type = 111 ∧ f0.offset = 0) := by
  unfold Program.fieldsOf
  rw [Try.underlying112]
  exact ⟨_, rfl, ⟨rfl, rfl, rfl⟩⟩
theorem fields113 : ∃ f0, (Try.prog.fieldsOf 113).toList = [f0] ∧ (f0.name = "_" ∧ f0.type = 111 ∧ f0.offset = 0) := by
  unfold Program.fieldsOf
  rw [Try.underlying113]
  exact ⟨_, rfl, ⟨rfl, rfl, rfl⟩⟩
theorem fields121 : ∃ f0 f1 f2 f3 f4 f5 f6 f7 f8 f9 f10, (Try.prog.fieldsOf 121).toList = [f0, f1, f2, f3, f4, f5, f6, f7, f8, f9, f10] ∧ (f0.name = "Size_" ∧ f0.type = 12 ∧ f0.offset = 0) ∧ (f1.name = "PtrBytes" ∧ f1.type = 12 ∧ f1.offset = 1) ∧ (f2.name = "Hash" ∧ f2.type = 114 ∧ f2.offset = 2) ∧ (f3.name = "TFlag" ∧ f3.type = 115 ∧ f3.offset = 3) ∧ (f4.name = "Align_" ∧ f4.type = 5 ∧ f4.offset = 4) ∧ (f5.name = "FieldAlign_" ∧ f5.type = 5 ∧ f5.offset = 5) ∧ (f6.name = "Kind_" ∧ f6.type = 116 ∧ f6.offset = 6) ∧ (f7.name = "Equal" ∧ f7.type = 117 ∧ f7.offset = 7) ∧ (f8.name = "GCData" ∧ f8.type = 118 ∧ f8.offset = 8) ∧ (f9.name = "Str" ∧ f9.type = 119 ∧ f9.offset = 9) ∧ (f10.name = "PtrToThis" ∧ f10.type = 120 ∧ f10.offset = 10) := by
  unfold Program.fieldsOf
  rw [Try.underlying121]
  exact ⟨_, _, _, _, _, _, _, _, _, _, _, rfl, ⟨rfl, rfl, rfl⟩, ⟨rfl, rfl, rfl⟩, ⟨rfl, rfl, rfl⟩, ⟨rfl, rfl, rfl⟩, ⟨rfl, rfl, rfl⟩, ⟨rfl, rfl, rfl⟩, ⟨rfl, rfl, rfl⟩, ⟨rfl, rfl, rfl⟩, ⟨rfl, rfl, rfl⟩, ⟨rfl, rfl, rfl⟩, ⟨rfl, rfl, rfl⟩⟩
theorem fields122 : ∃ f0 f1 f2 f3 f4 f5 f6 f7 f8 f9 f10, (Try.prog.fieldsOf 122).toList = [f0, f1, f2, f3, f4, f5, f6, f7, f8, f9, f10] ∧ (f0.name = "Size_" ∧ f0.type = 12 ∧ f0.offset = 0) ∧ (f1.name = "PtrBytes" ∧ f1.type = 12 ∧ f1.offset = 1) ∧ (f2.name = "Hash" ∧ f2.type = 114 ∧ f2.offset = 2) ∧ (f3.name = "TFlag" ∧ f3.type = 115 ∧ f3.offset = 3) ∧ (f4.name = "Align_" ∧ f4.type = 5 ∧ f4.offset = 4) ∧ (f5.name = "FieldAlign_" ∧ f5.type = 5 ∧ f5.offset = 5) ∧ (f6.name = "Kind_" ∧ f6.type = 116 ∧ f6.offset = 6) ∧ (f7.name = "Equal" ∧ f7.type = 117 ∧ f7.offset = 7) ∧ (f8.name = "GCData" ∧ f8.type = 118 ∧ f8.offset = 8) ∧ (f9.name = "Str" ∧ f9.type = 119 ∧ f9.offset = 9) ∧ (f10.name = "PtrToThis" ∧ f10.type = 120 ∧ f10.offset = 10) := by
  unfold Program.fieldsOf
  rw [Try.underlying122]
  exact ⟨_, _, _, _, _, _, _, _, _, _, _, rfl, ⟨rfl, rfl, rfl⟩, ⟨rfl, rfl, rfl⟩, ⟨rfl, rfl, rfl⟩, ⟨rfl, rfl, rfl⟩, ⟨rfl, rfl, rfl⟩, ⟨rfl, rfl, rfl⟩, ⟨rfl, rfl, rfl⟩, ⟨rfl, rfl, rfl⟩, ⟨rfl, rfl, rfl⟩, ⟨rfl, rfl, rfl⟩, ⟨rfl, rfl, rfl⟩⟩
end Go.Proofs.Ytfjhmbgckmhdaaa
