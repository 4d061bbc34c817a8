/-
  The zero value and the size of each type of this translation: read off its table.
-/
import Derived.Test.YtebaojedpnnliaaEng7
import Derived.Test.YtebaojedpnnliaaRows
import Derived.KernelRfl
namespace Go.Proofs.Ytebaojedpnnliaa
open Go.Proofs
theorem zero2 (w : World) : (zeroValue 2).run Try.prog w = .ok (.int .i64 0) w := by
  simp only [zeroValue, Sem.run_bind, Try.typeInfo2, Result.andThen_ok]; rfl
theorem info2 : (Try.prog.info? 2).map (fun i => (i.zero, i.size, i.bytes)) = some (some (.int .i64 0), 1, 8) := by kernel_rfl
theorem zero3 (w : World) : (zeroValue 3).run Try.prog w = .ok (.int .i64 0) w := by
  simp only [zeroValue, Sem.run_bind, Try.typeInfo3, Result.andThen_ok]; rfl
theorem info3 : (Try.prog.info? 3).map (fun i => (i.zero, i.size, i.bytes)) = some (some (.int .i64 0), 1, 8) := by kernel_rfl
theorem zero4 (w : World) : (zeroValue 4).run Try.prog w = .ok (.bool false) w := by
  simp only [zeroValue, Sem.run_bind, Try.typeInfo4, Result.andThen_ok]; rfl
theorem info4 : (Try.prog.info? 4).map (fun i => (i.zero, i.size, i.bytes)) = some (some (.bool false), 1, 1) := by kernel_rfl
theorem zero5 (w : World) : (zeroValue 5).run Try.prog w = .ok (.int .u8 0) w := by
  simp only [zeroValue, Sem.run_bind, Try.typeInfo5, Result.andThen_ok]; rfl
theorem info5 : (Try.prog.info? 5).map (fun i => (i.zero, i.size, i.bytes)) = some (some (.int .u8 0), 1, 1) := by kernel_rfl
theorem zero6 (w : World) : (zeroValue 6).run Try.prog w = .ok (.int .u8 0) w := by
  simp only [zeroValue, Sem.run_bind, Try.typeInfo6, Result.andThen_ok]; rfl
theorem info6 : (Try.prog.info? 6).map (fun i => (i.zero, i.size, i.bytes)) = some (some (.int .u8 0), 1, 1) := by kernel_rfl
theorem zero7 (w : World) : (zeroValue 7).run Try.prog w = .ok (.agg #[.int .i64 0, .int .i64 0, .bool false, .int .u8 0]) w := by
  simp only [zeroValue, Sem.run_bind, Try.typeInfo7, Result.andThen_ok]; rfl
theorem info7 : (Try.prog.info? 7).map (fun i => (i.zero, i.size, i.bytes)) = some (some (.agg #[.int .i64 0, .int .i64 0, .bool false, .int .u8 0]), 4, 24) := by kernel_rfl
theorem zero8 (w : World) : (zeroValue 8).run Try.prog w = .ok (.agg #[.int .i64 0, .int .i64 0, .bool false, .int .u8 0]) w := by
  simp only [zeroValue, Sem.run_bind, Try.typeInfo8, Result.andThen_ok]; rfl
theorem info8 : (Try.prog.info? 8).map (fun i => (i.zero, i.size, i.bytes)) = some (some (.agg #[.int .i64 0, .int .i64 0, .bool false, .int .u8 0]), 4, 24) := by kernel_rfl
theorem zero9 (w : World) : (zeroValue 9).run Try.prog w = .ok (.string ⟨#[]⟩) w := by
  simp only [zeroValue, Sem.run_bind, Try.typeInfo9, Result.andThen_ok]; rfl
theorem info9 : (Try.prog.info? 9).map (fun i => (i.zero, i.size, i.bytes)) = some (some (.string ⟨#[]⟩), 1, 16) := by kernel_rfl
theorem zero10 (w : World) : (zeroValue 10).run Try.prog w = .ok (.string ⟨#[]⟩) w := by
  simp only [zeroValue, Sem.run_bind, Try.typeInfo10, Result.andThen_ok]; rfl
theorem info10 : (Try.prog.info? 10).map (fun i => (i.zero, i.size, i.bytes)) = some (some (.string ⟨#[]⟩), 1, 16) := by kernel_rfl
theorem zero11 (w : World) : (zeroValue 11).run Try.prog w = .ok (.string ⟨#[]⟩) w := by
  simp only [zeroValue, Sem.run_bind, Try.typeInfo11, Result.andThen_ok]; rfl
theorem info11 : (Try.prog.info? 11).map (fun i => (i.zero, i.size, i.bytes)) = some (some (.string ⟨#[]⟩), 1, 16) := by kernel_rfl
theorem zero12 (w : World) : (zeroValue 12).run Try.prog w = .ok (.int .u64 0) w := by
  simp only [zeroValue, Sem.run_bind, Try.typeInfo12, Result.andThen_ok]; rfl
theorem info12 : (Try.prog.info? 12).map (fun i => (i.zero, i.size, i.bytes)) = some (some (.int .u64 0), 1, 8) := by kernel_rfl
theorem zero13 (w : World) : (zeroValue 13).run Try.prog w = .ok (.agg #[.string ⟨#[]⟩, .int .u64 0]) w := by
  simp only [zeroValue, Sem.run_bind, Try.typeInfo13, Result.andThen_ok]; rfl
theorem info13 : (Try.prog.info? 13).map (fun i => (i.zero, i.size, i.bytes)) = some (some (.agg #[.string ⟨#[]⟩, .int .u64 0]), 2, 24) := by kernel_rfl
theorem zero14 (w : World) : (zeroValue 14).run Try.prog w = .ok (.agg #[.string ⟨#[]⟩, .int .u64 0]) w := by
  simp only [zeroValue, Sem.run_bind, Try.typeInfo14, Result.andThen_ok]; rfl
theorem info14 : (Try.prog.info? 14).map (fun i => (i.zero, i.size, i.bytes)) = some (some (.agg #[.string ⟨#[]⟩, .int .u64 0]), 2, 24) := by kernel_rfl
theorem zero15 (w : World) : (zeroValue 15).run Try.prog w = .ok (.pointer none) w := by
  simp only [zeroValue, Sem.run_bind, Try.typeInfo15, Result.andThen_ok]; rfl
theorem info15 : (Try.prog.info? 15).map (fun i => (i.zero, i.size, i.bytes)) = some (some (.pointer none), 1, 8) := by kernel_rfl
theorem zero16 (w : World) : (zeroValue 16).run Try.prog w = .ok (.pointer none) w := by
  simp only [zeroValue, Sem.run_bind, Try.typeInfo16, Result.andThen_ok]; rfl
theorem info16 : (Try.prog.info? 16).map (fun i => (i.zero, i.size, i.bytes)) = some (some (.pointer none), 1, 8) := by kernel_rfl
theorem zero17 (w : World) : (zeroValue 17).run Try.prog w = .ok (.pointer none) w := by
  simp only [zeroValue, Sem.run_bind, Try.typeInfo17, Result.andThen_ok]; rfl
theorem info17 : (Try.prog.info? 17).map (fun i => (i.zero, i.size, i.bytes)) = some (some (.pointer none), 1, 8) := by kernel_rfl
theorem zero18 (w : World) : (zeroValue 18).run Try.prog w = .ok (.agg #[.pointer none]) w := by
  simp only [zeroValue, Sem.run_bind, Try.typeInfo18, Result.andThen_ok]; rfl
theorem info18 : (Try.prog.info? 18).map (fun i => (i.zero, i.size, i.bytes)) = some (some (.agg #[.pointer none]), 1, 8) := by kernel_rfl
theorem zero19 (w : World) : (zeroValue 19).run Try.prog w = .ok (.agg #[.pointer none]) w := by
  simp only [zeroValue, Sem.run_bind, Try.typeInfo19, Result.andThen_ok]; rfl
theorem info19 : (Try.prog.info? 19).map (fun i => (i.zero, i.size, i.bytes)) = some (some (.agg #[.pointer none]), 1, 8) := by kernel_rfl
theorem zero21 (w : World) : (zeroValue 21).run Try.prog w = .ok (.int .i32 0) w := by
  simp only [zeroValue, Sem.run_bind, Try.typeInfo21, Result.andThen_ok]; rfl
theorem info21 : (Try.prog.info? 21).map (fun i => (i.zero, i.size, i.bytes)) = some (some (.int .i32 0), 1, 4) := by kernel_rfl
theorem zero22 (w : World) : (zeroValue 22).run Try.prog w = .ok (.slice none 0 0) w := by
  simp only [zeroValue, Sem.run_bind, Try.typeInfo22, Result.andThen_ok]; rfl
theorem info22 : (Try.prog.info? 22).map (fun i => (i.zero, i.size, i.bytes)) = some (some (.slice none 0 0), 1, 24) := by kernel_rfl
theorem zero23 (w : World) : (zeroValue 23).run Try.prog w = .ok (.pointer none) w := by
  simp only [zeroValue, Sem.run_bind, Try.typeInfo23, Result.andThen_ok]; rfl
theorem info23 : (Try.prog.info? 23).map (fun i => (i.zero, i.size, i.bytes)) = some (some (.pointer none), 1, 8) := by kernel_rfl
theorem zero25 (w : World) : (zeroValue 25).run Try.prog w = .ok (.int .u64 0) w := by
  simp only [zeroValue, Sem.run_bind, Try.typeInfo25, Result.andThen_ok]; rfl
theorem info25 : (Try.prog.info? 25).map (fun i => (i.zero, i.size, i.bytes)) = some (some (.int .u64 0), 1, 8) := by kernel_rfl
theorem zero26 (w : World) : (zeroValue 26).run Try.prog w = .ok (.slice none 0 0) w := by
  simp only [zeroValue, Sem.run_bind, Try.typeInfo26, Result.andThen_ok]; rfl
theorem info26 : (Try.prog.info? 26).map (fun i => (i.zero, i.size, i.bytes)) = some (some (.slice none 0 0), 1, 24) := by kernel_rfl
theorem zero27 (w : World) : (zeroValue 27).run Try.prog w = .ok (.agg #[.int .i64 0, .int .i64 0, .int .u64 0, .slice none 0 0]) w := by
  simp only [zeroValue, Sem.run_bind, Try.typeInfo27, Result.andThen_ok]; rfl
theorem info27 : (Try.prog.info? 27).map (fun i => (i.zero, i.size, i.bytes)) = some (some (.agg #[.int .i64 0, .int .i64 0, .int .u64 0, .slice none 0 0]), 4, 48) := by kernel_rfl
theorem zero28 (w : World) : (zeroValue 28).run Try.prog w = .ok (.agg #[.int .i64 0, .int .i64 0, .int .u64 0, .slice none 0 0]) w := by
  simp only [zeroValue, Sem.run_bind, Try.typeInfo28, Result.andThen_ok]; rfl
theorem info28 : (Try.prog.info? 28).map (fun i => (i.zero, i.size, i.bytes)) = some (some (.agg #[.int .i64 0, .int .i64 0, .int .u64 0, .slice none 0 0]), 4, 48) := by kernel_rfl
theorem zero29 (w : World) : (zeroValue 29).run Try.prog w = .ok (.int .i64 0) w := by
  simp only [zeroValue, Sem.run_bind, Try.typeInfo29, Result.andThen_ok]; rfl
theorem info29 : (Try.prog.info? 29).map (fun i => (i.zero, i.size, i.bytes)) = some (some (.int .i64 0), 1, 8) := by kernel_rfl
theorem zero31 (w : World) : (zeroValue 31).run Try.prog w = .ok (.pointer none) w := by
  simp only [zeroValue, Sem.run_bind, Try.typeInfo31, Result.andThen_ok]; rfl
theorem info31 : (Try.prog.info? 31).map (fun i => (i.zero, i.size, i.bytes)) = some (some (.pointer none), 1, 8) := by kernel_rfl
theorem zero39 (w : World) : (zeroValue 39).run Try.prog w = .ok (.slice none 0 0) w := by
  simp only [zeroValue, Sem.run_bind, Try.typeInfo39, Result.andThen_ok]; rfl
theorem info39 : (Try.prog.info? 39).map (fun i => (i.zero, i.size, i.bytes)) = some (some (.slice none 0 0), 1, 24) := by kernel_rfl
theorem zero46 (w : World) : (zeroValue 46).run Try.prog w = .ok (.slice none 0 0) w := by
  simp only [zeroValue, Sem.run_bind, Try.typeInfo46, Result.andThen_ok]; rfl
theorem info46 : (Try.prog.info? 46).map (fun i => (i.zero, i.size, i.bytes)) = some (some (.slice none 0 0), 1, 24) := by kernel_rfl
theorem zero47 (w : World) : (zeroValue 47).run Try.prog w = .ok (.agg #[.int .i64 0, .int .i64 0]) w := by
  simp only [zeroValue, Sem.run_bind, Try.typeInfo47, Result.andThen_ok]; rfl
theorem info47 : (Try.prog.info? 47).map (fun i => (i.zero, i.size, i.bytes)) = some (some (.agg #[.int .i64 0, .int .i64 0]), 2, 16) := by kernel_rfl
theorem zero48 (w : World) : (zeroValue 48).run Try.prog w = .ok (.agg #[.int .i64 0, .int .i64 0]) w := by
  simp only [zeroValue, Sem.run_bind, Try.typeInfo48, Result.andThen_ok]; rfl
theorem info48 : (Try.prog.info? 48).map (fun i => (i.zero, i.size, i.bytes)) = some (some (.agg #[.int .i64 0, .int .i64 0]), 2, 16) := by kernel_rfl
theorem zero54 (w : World) : (zeroValue 54).run Try.prog w = .ok (.slice none 0 0) w := by
  simp only [zeroValue, Sem.run_bind, Try.typeInfo54, Result.andThen_ok]; rfl
theorem info54 : (Try.prog.info? 54).map (fun i => (i.zero, i.size, i.bytes)) = some (some (.slice none 0 0), 1, 24) := by kernel_rfl
theorem zero57 (w : World) : (zeroValue 57).run Try.prog w = .ok (.slice none 0 0) w := by
  simp only [zeroValue, Sem.run_bind, Try.typeInfo57, Result.andThen_ok]; rfl
theorem info57 : (Try.prog.info? 57).map (fun i => (i.zero, i.size, i.bytes)) = some (some (.slice none 0 0), 1, 24) := by kernel_rfl
theorem zero62 (w : World) : (zeroValue 62).run Try.prog w = .ok (.agg #[.int .u64 0, .int .i64 0]) w := by
  simp only [zeroValue, Sem.run_bind, Try.typeInfo62, Result.andThen_ok]; rfl
theorem info62 : (Try.prog.info? 62).map (fun i => (i.zero, i.size, i.bytes)) = some (some (.agg #[.int .u64 0, .int .i64 0]), 2, 16) := by kernel_rfl
theorem zero63 (w : World) : (zeroValue 63).run Try.prog w = .ok (.agg #[.int .u64 0, .int .i64 0]) w := by
  simp only [zeroValue, Sem.run_bind, Try.typeInfo63, Result.andThen_ok]; rfl
theorem info63 : (Try.prog.info? 63).map (fun i => (i.zero, i.size, i.bytes)) = some (some (.agg #[.int .u64 0, .int .i64 0]), 2, 16) := by kernel_rfl
theorem zero65 (w : World) : (zeroValue 65).run Try.prog w = .ok (.pointer none) w := by
  simp only [zeroValue, Sem.run_bind, Try.typeInfo65, Result.andThen_ok]; rfl
theorem info65 : (Try.prog.info? 65).map (fun i => (i.zero, i.size, i.bytes)) = some (some (.pointer none), 1, 8) := by kernel_rfl
theorem zero81 (w : World) : (zeroValue 81).run Try.prog w = .ok (.agg #[.slice none 0 0, .int .i64 0]) w := by
  simp only [zeroValue, Sem.run_bind, Try.typeInfo81, Result.andThen_ok]; rfl
theorem info81 : (Try.prog.info? 81).map (fun i => (i.zero, i.size, i.bytes)) = some (some (.agg #[.slice none 0 0, .int .i64 0]), 2, 32) := by kernel_rfl
theorem zero82 (w : World) : (zeroValue 82).run Try.prog w = .ok (.agg #[.slice none 0 0, .int .i64 0]) w := by
  simp only [zeroValue, Sem.run_bind, Try.typeInfo82, Result.andThen_ok]; rfl
theorem info82 : (Try.prog.info? 82).map (fun i => (i.zero, i.size, i.bytes)) = some (some (.agg #[.slice none 0 0, .int .i64 0]), 2, 32) := by kernel_rfl
theorem zero85 (w : World) : (zeroValue 85).run Try.prog w = .ok (.agg #[.slice none 0 0, .int .i64 0]) w := by
  simp only [zeroValue, Sem.run_bind, Try.typeInfo85, Result.andThen_ok]; rfl
theorem info85 : (Try.prog.info? 85).map (fun i => (i.zero, i.size, i.bytes)) = some (some (.agg #[.slice none 0 0, .int .i64 0]), 2, 32) := by kernel_rfl
theorem zero86 (w : World) : (zeroValue 86).run Try.prog w = .ok (.agg #[.slice none 0 0, .int .i64 0]) w := by
  simp only [zeroValue, Sem.run_bind, Try.typeInfo86, Result.andThen_ok]; rfl
theorem info86 : (Try.prog.info? 86).map (fun i => (i.zero, i.size, i.bytes)) = some (some (.agg #[.slice none 0 0, .int .i64 0]), 2, 32) := by kernel_rfl
theorem zero87 (w : World) : (zeroValue 87).run Try.prog w = .ok (.agg #[.int .i64 0, .int .i64 0, .int .i64 0, .int .i64 0, .int .i64 0, .int .i64 0, .int .i64 0, .int .i64 0, .int .i64 0, .int .i64 0, .int .i64 0, .int .i64 0, .int .i64 0, .int .i64 0, .int .i64 0, .int .i64 0]) w := by
  simp only [zeroValue, Sem.run_bind, Try.typeInfo87, Result.andThen_ok]; rfl
theorem info87 : (Try.prog.info? 87).map (fun i => (i.zero, i.size, i.bytes)) = some (some (.agg #[.int .i64 0, .int .i64 0, .int .i64 0, .int .i64 0, .int .i64 0, .int .i64 0, .int .i64 0, .int .i64 0, .int .i64 0, .int .i64 0, .int .i64 0, .int .i64 0, .int .i64 0, .int .i64 0, .int .i64 0, .int .i64 0]), 16, 128) := by kernel_rfl
theorem zero88 (w : World) : (zeroValue 88).run Try.prog w = .ok (.agg #[.int .i64 0, .int .i64 0, .int .i64 0, .int .i64 0, .int .i64 0, .int .i64 0, .int .i64 0, .int .i64 0, .int .i64 0, .int .i64 0, .int .i64 0, .int .i64 0, .int .i64 0, .int .i64 0, .int .i64 0, .int .i64 0]) w := by
  simp only [zeroValue, Sem.run_bind, Try.typeInfo88, Result.andThen_ok]; rfl
theorem info88 : (Try.prog.info? 88).map (fun i => (i.zero, i.size, i.bytes)) = some (some (.agg #[.int .i64 0, .int .i64 0, .int .i64 0, .int .i64 0, .int .i64 0, .int .i64 0, .int .i64 0, .int .i64 0, .int .i64 0, .int .i64 0, .int .i64 0, .int .i64 0, .int .i64 0, .int .i64 0, .int .i64 0, .int .i64 0]), 16, 128) := by kernel_rfl
theorem zero91 (w : World) : (zeroValue 91).run Try.prog w = .ok (.agg #[.int .u64 0, .int .u64 0, .int .u64 0, .int .u64 0, .int .u64 0, .int .u64 0, .int .u64 0, .int .u64 0, .int .u64 0, .int .u64 0, .int .u64 0, .int .u64 0, .int .u64 0, .int .u64 0, .int .u64 0, .int .u64 0]) w := by
  simp only [zeroValue, Sem.run_bind, Try.typeInfo91, Result.andThen_ok]; rfl
theorem info91 : (Try.prog.info? 91).map (fun i => (i.zero, i.size, i.bytes)) = some (some (.agg #[.int .u64 0, .int .u64 0, .int .u64 0, .int .u64 0, .int .u64 0, .int .u64 0, .int .u64 0, .int .u64 0, .int .u64 0, .int .u64 0, .int .u64 0, .int .u64 0, .int .u64 0, .int .u64 0, .int .u64 0, .int .u64 0]), 16, 128) := by kernel_rfl
theorem zero94 (w : World) : (zeroValue 94).run Try.prog w = .ok (.agg #[.int .i64 0, .int .i64 0, .int .i64 0, .int .i64 0, .int .i64 0, .int .i64 0, .int .i64 0, .int .i64 0, .int .i64 0, .int .i64 0, .int .i64 0, .int .i64 0, .int .i64 0, .int .i64 0, .int .i64 0, .int .i64 0, .int .u64 0, .int .u64 0, .int .u64 0, .int .u64 0, .int .u64 0, .int .u64 0, .int .u64 0, .int .u64 0, .int .u64 0, .int .u64 0, .int .u64 0, .int .u64 0, .int .u64 0, .int .u64 0, .int .u64 0, .int .u64 0, .slice none 0 0, .int .i64 0]) w := by
  simp only [zeroValue, Sem.run_bind, Try.typeInfo94, Result.andThen_ok]; rfl
theorem info94 : (Try.prog.info? 94).map (fun i => (i.zero, i.size, i.bytes)) = some (some (.agg #[.int .i64 0, .int .i64 0, .int .i64 0, .int .i64 0, .int .i64 0, .int .i64 0, .int .i64 0, .int .i64 0, .int .i64 0, .int .i64 0, .int .i64 0, .int .i64 0, .int .i64 0, .int .i64 0, .int .i64 0, .int .i64 0, .int .u64 0, .int .u64 0, .int .u64 0, .int .u64 0, .int .u64 0, .int .u64 0, .int .u64 0, .int .u64 0, .int .u64 0, .int .u64 0, .int .u64 0, .int .u64 0, .int .u64 0, .int .u64 0, .int .u64 0, .int .u64 0, .slice none 0 0, .int .i64 0]), 34, 288) := by kernel_rfl
theorem zero95 (w : World) : (zeroValue 95).run Try.prog w = .ok (.agg #[.int .i64 0, .int .i64 0, .int .i64 0, .int .i64 0, .int .i64 0, .int .i64 0, .int .i64 0, .int .i64 0, .int .i64 0, .int .i64 0, .int .i64 0, .int .i64 0, .int .i64 0, .int .i64 0, .int .i64 0, .int .i64 0, .int .u64 0, .int .u64 0, .int .u64 0, .int .u64 0, .int .u64 0, .int .u64 0, .int .u64 0, .int .u64 0, .int .u64 0, .int .u64 0, .int .u64 0, .int .u64 0, .int .u64 0, .int .u64 0, .int .u64 0, .int .u64 0, .slice none 0 0, .int .i64 0]) w := by
  simp only [zeroValue, Sem.run_bind, Try.typeInfo95, Result.andThen_ok]; rfl
theorem info95 : (Try.prog.info? 95).map (fun i => (i.zero, i.size, i.bytes)) = some (some (.agg #[.int .i64 0, .int .i64 0, .int .i64 0, .int .i64 0, .int .i64 0, .int .i64 0, .int .i64 0, .int .i64 0, .int .i64 0, .int .i64 0, .int .i64 0, .int .i64 0, .int .i64 0, .int .i64 0, .int .i64 0, .int .i64 0, .int .u64 0, .int .u64 0, .int .u64 0, .int .u64 0, .int .u64 0, .int .u64 0, .int .u64 0, .int .u64 0, .int .u64 0, .int .u64 0, .int .u64 0, .int .u64 0, .int .u64 0, .int .u64 0, .int .u64 0, .int .u64 0, .slice none 0 0, .int .i64 0]), 34, 288) := by kernel_rfl
theorem zero96 (w : World) : (zeroValue 96).run Try.prog w = .ok (.int .u64 0) w := by
  simp only [zeroValue, Sem.run_bind, Try.typeInfo96, Result.andThen_ok]; rfl
theorem info96 : (Try.prog.info? 96).map (fun i => (i.zero, i.size, i.bytes)) = some (some (.int .u64 0), 1, 8) := by kernel_rfl
theorem zero97 (w : World) : (zeroValue 97).run Try.prog w = .ok (.slice none 0 0) w := by
  simp only [zeroValue, Sem.run_bind, Try.typeInfo97, Result.andThen_ok]; rfl
theorem info97 : (Try.prog.info? 97).map (fun i => (i.zero, i.size, i.bytes)) = some (some (.slice none 0 0), 1, 24) := by kernel_rfl
theorem zero99 (w : World) : (zeroValue 99).run Try.prog w = .ok (.agg #[.int .i64 0, .slice none 0 0]) w := by
  simp only [zeroValue, Sem.run_bind, Try.typeInfo99, Result.andThen_ok]; rfl
theorem info99 : (Try.prog.info? 99).map (fun i => (i.zero, i.size, i.bytes)) = some (some (.agg #[.int .i64 0, .slice none 0 0]), 2, 32) := by kernel_rfl
theorem zero100 (w : World) : (zeroValue 100).run Try.prog w = .ok (.agg #[.int .i64 0, .slice none 0 0]) w := by
  simp only [zeroValue, Sem.run_bind, Try.typeInfo100, Result.andThen_ok]; rfl
theorem info100 : (Try.prog.info? 100).map (fun i => (i.zero, i.size, i.bytes)) = some (some (.agg #[.int .i64 0, .slice none 0 0]), 2, 32) := by kernel_rfl
theorem zero102 (w : World) : (zeroValue 102).run Try.prog w = .ok (.slice none 0 0) w := by
  simp only [zeroValue, Sem.run_bind, Try.typeInfo102, Result.andThen_ok]; rfl
theorem info102 : (Try.prog.info? 102).map (fun i => (i.zero, i.size, i.bytes)) = some (some (.slice none 0 0), 1, 24) := by kernel_rfl
theorem zero104 (w : World) : (zeroValue 104).run Try.prog w = .ok (.agg #[.int .i64 0, .slice none 0 0]) w := by
  simp only [zeroValue, Sem.run_bind, Try.typeInfo104, Result.andThen_ok]; rfl
theorem info104 : (Try.prog.info? 104).map (fun i => (i.zero, i.size, i.bytes)) = some (some (.agg #[.int .i64 0, .slice none 0 0]), 2, 32) := by kernel_rfl
theorem zero105 (w : World) : (zeroValue 105).run Try.prog w = .ok (.agg #[.int .i64 0, .slice none 0 0]) w := by
  simp only [zeroValue, Sem.run_bind, Try.typeInfo105, Result.andThen_ok]; rfl
theorem info105 : (Try.prog.info? 105).map (fun i => (i.zero, i.size, i.bytes)) = some (some (.agg #[.int .i64 0, .slice none 0 0]), 2, 32) := by kernel_rfl
theorem zero107 (w : World) : (zeroValue 107).run Try.prog w = .ok (.pointer none) w := by
  simp only [zeroValue, Sem.run_bind, Try.typeInfo107, Result.andThen_ok]; rfl
theorem info107 : (Try.prog.info? 107).map (fun i => (i.zero, i.size, i.bytes)) = some (some (.pointer none), 1, 8) := by kernel_rfl
theorem zero108 (w : World) : (zeroValue 108).run Try.prog w = .ok (.slice none 0 0) w := by
  simp only [zeroValue, Sem.run_bind, Try.typeInfo108, Result.andThen_ok]; rfl
theorem info108 : (Try.prog.info? 108).map (fun i => (i.zero, i.size, i.bytes)) = some (some (.slice none 0 0), 1, 24) := by kernel_rfl
theorem zero122 (w : World) : (zeroValue 122).run Try.prog w = .ok (.agg #[.pointer none, .pointer none, .pointer none, .string ⟨#[]⟩]) w := by
  simp only [zeroValue, Sem.run_bind, Try.typeInfo122, Result.andThen_ok]; rfl
theorem info122 : (Try.prog.info? 122).map (fun i => (i.zero, i.size, i.bytes)) = some (some (.agg #[.pointer none, .pointer none, .pointer none, .string ⟨#[]⟩]), 4, 40) := by kernel_rfl
theorem zero123 (w : World) : (zeroValue 123).run Try.prog w = .ok (.agg #[.pointer none, .pointer none, .pointer none, .string ⟨#[]⟩]) w := by
  simp only [zeroValue, Sem.run_bind, Try.typeInfo123, Result.andThen_ok]; rfl
theorem info123 : (Try.prog.info? 123).map (fun i => (i.zero, i.size, i.bytes)) = some (some (.agg #[.pointer none, .pointer none, .pointer none, .string ⟨#[]⟩]), 4, 40) := by kernel_rfl
theorem zero124 (w : World) : (zeroValue 124).run Try.prog w = .ok (.agg #[]) w := by
  simp only [zeroValue, Sem.run_bind, Try.typeInfo124, Result.andThen_ok]; rfl
theorem info124 : (Try.prog.info? 124).map (fun i => (i.zero, i.size, i.bytes)) = some (some (.agg #[]), 0, 0) := by kernel_rfl
theorem zero125 (w : World) : (zeroValue 125).run Try.prog w = .ok (.agg #[]) w := by
  simp only [zeroValue, Sem.run_bind, Try.typeInfo125, Result.andThen_ok]; rfl
theorem info125 : (Try.prog.info? 125).map (fun i => (i.zero, i.size, i.bytes)) = some (some (.agg #[]), 0, 0) := by kernel_rfl
theorem zero126 (w : World) : (zeroValue 126).run Try.prog w = .ok (.agg #[]) w := by
  simp only [zeroValue, Sem.run_bind, Try.typeInfo126, Result.andThen_ok]; rfl
theorem info126 : (Try.prog.info? 126).map (fun i => (i.zero, i.size, i.bytes)) = some (some (.agg #[]), 0, 0) := by kernel_rfl
theorem zero127 (w : World) : (zeroValue 127).run Try.prog w = .ok (.int .u32 0) w := by
  simp only [zeroValue, Sem.run_bind, Try.typeInfo127, Result.andThen_ok]; rfl
theorem info127 : (Try.prog.info? 127).map (fun i => (i.zero, i.size, i.bytes)) = some (some (.int .u32 0), 1, 4) := by kernel_rfl
theorem zero128 (w : World) : (zeroValue 128).run Try.prog w = .ok (.int .u8 0) w := by
  simp only [zeroValue, Sem.run_bind, Try.typeInfo128, Result.andThen_ok]; rfl
theorem info128 : (Try.prog.info? 128).map (fun i => (i.zero, i.size, i.bytes)) = some (some (.int .u8 0), 1, 1) := by kernel_rfl
theorem zero129 (w : World) : (zeroValue 129).run Try.prog w = .ok (.int .u8 0) w := by
  simp only [zeroValue, Sem.run_bind, Try.typeInfo129, Result.andThen_ok]; rfl
theorem info129 : (Try.prog.info? 129).map (fun i => (i.zero, i.size, i.bytes)) = some (some (.int .u8 0), 1, 1) := by kernel_rfl
theorem zero131 (w : World) : (zeroValue 131).run Try.prog w = .ok (.pointer none) w := by
  simp only [zeroValue, Sem.run_bind, Try.typeInfo131, Result.andThen_ok]; rfl
theorem info131 : (Try.prog.info? 131).map (fun i => (i.zero, i.size, i.bytes)) = some (some (.pointer none), 1, 8) := by kernel_rfl
theorem zero132 (w : World) : (zeroValue 132).run Try.prog w = .ok (.int .i32 0) w := by
  simp only [zeroValue, Sem.run_bind, Try.typeInfo132, Result.andThen_ok]; rfl
theorem info132 : (Try.prog.info? 132).map (fun i => (i.zero, i.size, i.bytes)) = some (some (.int .i32 0), 1, 4) := by kernel_rfl
theorem zero133 (w : World) : (zeroValue 133).run Try.prog w = .ok (.int .i32 0) w := by
  simp only [zeroValue, Sem.run_bind, Try.typeInfo133, Result.andThen_ok]; rfl
theorem info133 : (Try.prog.info? 133).map (fun i => (i.zero, i.size, i.bytes)) = some (some (.int .i32 0), 1, 4) := by kernel_rfl
theorem zero134 (w : World) : (zeroValue 134).run Try.prog w = .ok (.agg #[.int .u64 0, .int .u64 0, .int .u32 0, .int .u8 0, .int .u8 0, .int .u8 0, .int .u8 0, .nilFunc, .pointer none, .int .i32 0, .int .i32 0]) w := by
  simp only [zeroValue, Sem.run_bind, Try.typeInfo134, Result.andThen_ok]; rfl
theorem info134 : (Try.prog.info? 134).map (fun i => (i.zero, i.size, i.bytes)) = some (some (.agg #[.int .u64 0, .int .u64 0, .int .u32 0, .int .u8 0, .int .u8 0, .int .u8 0, .int .u8 0, .nilFunc, .pointer none, .int .i32 0, .int .i32 0]), 11, 48) := by kernel_rfl
theorem zero135 (w : World) : (zeroValue 135).run Try.prog w = .ok (.agg #[.int .u64 0, .int .u64 0, .int .u32 0, .int .u8 0, .int .u8 0, .int .u8 0, .int .u8 0, .nilFunc, .pointer none, .int .i32 0, .int .i32 0]) w := by
  simp only [zeroValue, Sem.run_bind, Try.typeInfo135, Result.andThen_ok]; rfl
theorem info135 : (Try.prog.info? 135).map (fun i => (i.zero, i.size, i.bytes)) = some (some (.agg #[.int .u64 0, .int .u64 0, .int .u32 0, .int .u8 0, .int .u8 0, .int .u8 0, .int .u8 0, .nilFunc, .pointer none, .int .i32 0, .int .i32 0]), 11, 48) := by kernel_rfl
theorem places7 : ∃ fs, Try.prog.underlying 7 = some (.struct fs) ∧ ∀ w, (fs.mapM fun f => do pure (f.offset, ← sizeOf f.type) : Sem (Array (Nat × Nat))).run Try.prog w = .ok #[(0, 1), (1, 1), (2, 1), (3, 1)] w :=
  ⟨_, Try.underlying7, fun w => by simp [Try.sizeOf2, Try.sizeOf3, Try.sizeOf4, Try.sizeOf6]⟩
theorem places8 : ∃ fs, Try.prog.underlying 8 = some (.struct fs) ∧ ∀ w, (fs.mapM fun f => do pure (f.offset, ← sizeOf f.type) : Sem (Array (Nat × Nat))).run Try.prog w = .ok #[(0, 1), (1, 1), (2, 1), (3, 1)] w :=
  ⟨_, Try.underlying8, fun w => by simp [Try.sizeOf2, Try.sizeOf3, Try.sizeOf4, Try.sizeOf6]⟩
theorem places13 : ∃ fs, Try.prog.underlying 13 = some (.struct fs) ∧ ∀ w, (fs.mapM fun f => do pure (f.offset, ← sizeOf f.type) : Sem (Array (Nat × Nat))).run Try.prog w = .ok #[(0, 1), (1, 1)] w :=
  ⟨_, Try.underlying13, fun w => by simp [Try.sizeOf12, Try.sizeOf9]⟩
theorem places14 : ∃ fs, Try.prog.underlying 14 = some (.struct fs) ∧ ∀ w, (fs.mapM fun f => do pure (f.offset, ← sizeOf f.type) : Sem (Array (Nat × Nat))).run Try.prog w = .ok #[(0, 1), (1, 1)] w :=
  ⟨_, Try.underlying14, fun w => by simp [Try.sizeOf12, Try.sizeOf9]⟩
theorem places18 : ∃ fs, Try.prog.underlying 18 = some (.struct fs) ∧ ∀ w, (fs.mapM fun f => do pure (f.offset, ← sizeOf f.type) : Sem (Array (Nat × Nat))).run Try.prog w = .ok #[(0, 1)] w :=
  ⟨_, Try.underlying18, fun w => by simp [Try.sizeOf17]⟩
theorem places19 : ∃ fs, Try.prog.underlying 19 = some (.struct fs) ∧ ∀ w, (fs.mapM fun f => do pure (f.offset, ← sizeOf f.type) : Sem (Array (Nat × Nat))).run Try.prog w = .ok #[(0, 1)] w :=
  ⟨_, Try.underlying19, fun w => by simp [Try.sizeOf17]⟩
theorem places27 : ∃ fs, Try.prog.underlying 27 = some (.struct fs) ∧ ∀ w, (fs.mapM fun f => do pure (f.offset, ← sizeOf f.type) : Sem (Array (Nat × Nat))).run Try.prog w = .ok #[(0, 1), (1, 1), (2, 1), (3, 1)] w :=
  ⟨_, Try.underlying27, fun w => by simp [Try.sizeOf25, Try.sizeOf26, Try.sizeOf3]⟩
theorem places28 : ∃ fs, Try.prog.underlying 28 = some (.struct fs) ∧ ∀ w, (fs.mapM fun f => do pure (f.offset, ← sizeOf f.type) : Sem (Array (Nat × Nat))).run Try.prog w = .ok #[(0, 1), (1, 1), (2, 1), (3, 1)] w :=
  ⟨_, Try.underlying28, fun w => by simp [Try.sizeOf25, Try.sizeOf26, Try.sizeOf3]⟩
theorem places47 : ∃ fs, Try.prog.underlying 47 = some (.struct fs) ∧ ∀ w, (fs.mapM fun f => do pure (f.offset, ← sizeOf f.type) : Sem (Array (Nat × Nat))).run Try.prog w = .ok #[(0, 1), (1, 1)] w :=
  ⟨_, Try.underlying47, fun w => by simp [Try.sizeOf3]⟩
theorem places48 : ∃ fs, Try.prog.underlying 48 = some (.struct fs) ∧ ∀ w, (fs.mapM fun f => do pure (f.offset, ← sizeOf f.type) : Sem (Array (Nat × Nat))).run Try.prog w = .ok #[(0, 1), (1, 1)] w :=
  ⟨_, Try.underlying48, fun w => by simp [Try.sizeOf3]⟩
theorem places62 : ∃ fs, Try.prog.underlying 62 = some (.struct fs) ∧ ∀ w, (fs.mapM fun f => do pure (f.offset, ← sizeOf f.type) : Sem (Array (Nat × Nat))).run Try.prog w = .ok #[(0, 1), (1, 1)] w :=
  ⟨_, Try.underlying62, fun w => by simp [Try.sizeOf25, Try.sizeOf3]⟩
theorem places63 : ∃ fs, Try.prog.underlying 63 = some (.struct fs) ∧ ∀ w, (fs.mapM fun f => do pure (f.offset, ← sizeOf f.type) : Sem (Array (Nat × Nat))).run Try.prog w = .ok #[(0, 1), (1, 1)] w :=
  ⟨_, Try.underlying63, fun w => by simp [Try.sizeOf25, Try.sizeOf3]⟩
theorem places81 : ∃ fs, Try.prog.underlying 81 = some (.struct fs) ∧ ∀ w, (fs.mapM fun f => do pure (f.offset, ← sizeOf f.type) : Sem (Array (Nat × Nat))).run Try.prog w = .ok #[(0, 1), (1, 1)] w :=
  ⟨_, Try.underlying81, fun w => by simp [Try.sizeOf26, Try.sizeOf3]⟩
theorem places82 : ∃ fs, Try.prog.underlying 82 = some (.struct fs) ∧ ∀ w, (fs.mapM fun f => do pure (f.offset, ← sizeOf f.type) : Sem (Array (Nat × Nat))).run Try.prog w = .ok #[(0, 1), (1, 1)] w :=
  ⟨_, Try.underlying82, fun w => by simp [Try.sizeOf26, Try.sizeOf3]⟩
theorem places85 : ∃ fs, Try.prog.underlying 85 = some (.struct fs) ∧ ∀ w, (fs.mapM fun f => do pure (f.offset, ← sizeOf f.type) : Sem (Array (Nat × Nat))).run Try.prog w = .ok #[(0, 1), (1, 1)] w :=
  ⟨_, Try.underlying85, fun w => by simp [Try.sizeOf26, Try.sizeOf3]⟩
theorem places86 : ∃ fs, Try.prog.underlying 86 = some (.struct fs) ∧ ∀ w, (fs.mapM fun f => do pure (f.offset, ← sizeOf f.type) : Sem (Array (Nat × Nat))).run Try.prog w = .ok #[(0, 1), (1, 1)] w :=
  ⟨_, Try.underlying86, fun w => by simp [Try.sizeOf26, Try.sizeOf3]⟩
theorem places94 : ∃ fs, Try.prog.underlying 94 = some (.struct fs) ∧ ∀ w, (fs.mapM fun f => do pure (f.offset, ← sizeOf f.type) : Sem (Array (Nat × Nat))).run Try.prog w = .ok #[(0, 16), (16, 16), (32, 1), (33, 1)] w :=
  ⟨_, Try.underlying94, fun w => by simp [Try.sizeOf3, Try.sizeOf54, Try.sizeOf88, Try.sizeOf91]⟩
theorem places95 : ∃ fs, Try.prog.underlying 95 = some (.struct fs) ∧ ∀ w, (fs.mapM fun f => do pure (f.offset, ← sizeOf f.type) : Sem (Array (Nat × Nat))).run Try.prog w = .ok #[(0, 16), (16, 16), (32, 1), (33, 1)] w :=
  ⟨_, Try.underlying95, fun w => by simp [Try.sizeOf3, Try.sizeOf54, Try.sizeOf88, Try.sizeOf91]⟩
theorem places99 : ∃ fs, Try.prog.underlying 99 = some (.struct fs) ∧ ∀ w, (fs.mapM fun f => do pure (f.offset, ← sizeOf f.type) : Sem (Array (Nat × Nat))).run Try.prog w = .ok #[(0, 1), (1, 1)] w :=
  ⟨_, Try.underlying99, fun w => by simp [Try.sizeOf3, Try.sizeOf54]⟩
theorem places100 : ∃ fs, Try.prog.underlying 100 = some (.struct fs) ∧ ∀ w, (fs.mapM fun f => do pure (f.offset, ← sizeOf f.type) : Sem (Array (Nat × Nat))).run Try.prog w = .ok #[(0, 1), (1, 1)] w :=
  ⟨_, Try.underlying100, fun w => by simp [Try.sizeOf3, Try.sizeOf54]⟩
theorem places104 : ∃ fs, Try.prog.underlying 104 = some (.struct fs) ∧ ∀ w, (fs.mapM fun f => do pure (f.offset, ← sizeOf f.type) : Sem (Array (Nat × Nat))).run Try.prog w = .ok #[(0, 1), (1, 1)] w :=
  ⟨_, Try.underlying104, fun w => by simp [Try.sizeOf3, Try.sizeOf54]⟩
theorem places105 : ∃ fs, Try.prog.underlying 105 = some (.struct fs) ∧ ∀ w, (fs.mapM fun f => do pure (f.offset, ← sizeOf f.type) : Sem (Array (Nat × Nat))).run Try.prog w = .ok #[(0, 1), (1, 1)] w :=
  ⟨_, Try.underlying105, fun w => by simp [Try.sizeOf3, Try.sizeOf54]⟩
theorem places122 : ∃ fs, Try.prog.underlying 122 = some (.struct fs) ∧ ∀ w, (fs.mapM fun f => do pure (f.offset, ← sizeOf f.type) : Sem (Array (Nat × Nat))).run Try.prog w = .ok #[(0, 1), (1, 1), (2, 1), (3, 1)] w :=
  ⟨_, Try.underlying122, fun w => by simp [Try.sizeOf17, Try.sizeOf9]⟩
theorem places123 : ∃ fs, Try.prog.underlying 123 = some (.struct fs) ∧ ∀ w, (fs.mapM fun f => do pure (f.offset, ← sizeOf f.type) : Sem (Array (Nat × Nat))).run Try.prog w = .ok #[(0, 1), (1, 1), (2, 1), (3, 1)] w :=
  ⟨_, Try.underlying123, fun w => by simp [Try.sizeOf17, Try.sizeOf9]⟩
theorem places125 : ∃ fs, Try.prog.underlying 125 = some (.struct fs) ∧ ∀ w, (fs.mapM fun f => do pure (f.offset, ← sizeOf f.type) : Sem (Array (Nat × Nat))).run Try.prog w = .ok #[(0, 0)] w :=
  ⟨_, Try.underlying125, fun w => by simp [Try.sizeOf124]⟩
theorem places126 : ∃ fs, Try.prog.underlying 126 = some (.struct fs) ∧ ∀ w, (fs.mapM fun f => do pure (f.offset, ← sizeOf f.type) : Sem (Array (Nat × Nat))).run Try.prog w = .ok #[(0, 0)] w :=
  ⟨_, Try.underlying126, fun w => by simp [Try.sizeOf124]⟩
theorem places134 : ∃ fs, Try.prog.underlying 134 = some (.struct fs) ∧ ∀ w, (fs.mapM fun f => do pure (f.offset, ← sizeOf f.type) : Sem (Array (Nat × Nat))).run Try.prog w = .ok #[(0, 1), (1, 1), (2, 1), (3, 1), (4, 1), (5, 1), (6, 1), (7, 1), (8, 1), (9, 1), (10, 1)] w :=
  ⟨_, Try.underlying134, fun w => by simp [Try.sizeOf12, Try.sizeOf127, Try.sizeOf128, Try.sizeOf129, Try.sizeOf130, Try.sizeOf131, Try.sizeOf132, Try.sizeOf133, Try.sizeOf5]⟩
theorem places135 : ∃ fs, Try.prog.underlying 135 = some (.struct fs) ∧ ∀ w, (fs.mapM fun f => do pure (f.offset, ← sizeOf f.type) : Sem (Array (Nat × Nat))).run Try.prog w = .ok #[(0, 1), (1, 1), (2, 1), (3, 1), (4, 1), (5, 1), (6, 1), (7, 1), (8, 1), (9, 1), (10, 1)] w :=
  ⟨_, Try.underlying135, fun w => by simp [Try.sizeOf12, Try.sizeOf127, Try.sizeOf128, Try.sizeOf129, Try.sizeOf130, Try.sizeOf131, Try.sizeOf132, Try.sizeOf133, Try.sizeOf5]⟩
theorem fields7 : ∃ f0 f1 f2 f3, (Try.prog.fieldsOf 7).toList = [f0, f1, f2, f3] ∧ (f0.name = "x" ∧ f0.type = 2 ∧ f0.offset = 0) ∧ (f1.name = "y" ∧ f1.type = 3 ∧ f1.offset = 1) ∧ (f2.name = "signed" ∧ f2.type = 4 ∧ f2.offset = 2) ∧ (f3.name = "code" ∧ f3.type = 6 ∧ f3.offset = 3) := by
  unfold Program.fieldsOf
  rw [Try.underlying7]
  exact ⟨_, _, _, _, rfl, ⟨rfl, rfl, rfl⟩, ⟨rfl, rfl, rfl⟩, ⟨rfl, rfl, rfl⟩, ⟨rfl, rfl, rfl⟩⟩
theorem fields8 : ∃ f0 f1 f2 f3, (Try.prog.fieldsOf 8).toList = [f0, f1, f2, f3] ∧ (f0.name = "x" ∧ f0.type = 2 ∧ f0.offset = 0) ∧ (f1.name = "y" ∧ f1.type = 3 ∧ f1.offset = 1) ∧ (f2.name = "signed" ∧ f2.type = 4 ∧ f2.offset = 2) ∧ (f3.name = "code" ∧ f3.type = 6 ∧ f3.offset = 3) := by
  unfold Program.fieldsOf
  rw [Try.underlying8]
  exact ⟨_, _, _, _, rfl, ⟨rfl, rfl, rfl⟩, ⟨rfl, rfl, rfl⟩, ⟨rfl, rfl, rfl⟩, ⟨rfl, rfl, rfl⟩⟩
theorem fields13 : ∃ f0 f1, (Try.prog.fieldsOf 13).toList = [f0, f1] ∧ (f0.name = "msg" ∧ f0.type = 9 ∧ f0.offset = 0) ∧ (f1.name = "addr" ∧ f1.type = 12 ∧ f1.offset = 1) := by
  unfold Program.fieldsOf
  rw [Try.underlying13]
  exact ⟨_, _, rfl, ⟨rfl, rfl, rfl⟩, ⟨rfl, rfl, rfl⟩⟩
theorem fields14 : ∃ f0 f1, (Try.prog.fieldsOf 14).toList = [f0, f1] ∧ (f0.name = "msg" ∧ f0.type = 9 ∧ f0.offset = 0) ∧ (f1.name = "addr" ∧ f1.type = 12 ∧ f1.offset = 1) := by
  unfold Program.fieldsOf
  rw [Try.underlying14]
  exact ⟨_, _, rfl, ⟨rfl, rfl, rfl⟩, ⟨rfl, rfl, rfl⟩⟩
theorem fields18 : ∃ f0, (Try.prog.fieldsOf 18).toList = [f0] ∧ (f0.name = "typ" ∧ f0.type = 17 ∧ f0.offset = 0) := by
  unfold Program.fieldsOf
  rw [Try.underlying18]
  exact ⟨_, rfl, ⟨rfl, rfl, rfl⟩⟩
theorem fields19 : ∃ f0, (Try.prog.fieldsOf 19).toList = [f0] ∧ (f0.name = "typ" ∧ f0.type = 17 ∧ f0.offset = 0) := by
  unfold Program.fieldsOf
  rw [Try.underlying19]
  exact ⟨_, rfl, ⟨rfl, rfl, rfl⟩⟩
theorem fields27 : ∃ f0 f1 f2 f3, (Try.prog.fieldsOf 27).toList = [f0, f1, f2, f3] ∧ (f0.name = "Do" ∧ f0.type = 3 ∧ f0.offset = 0) ∧ (f1.name = "N" ∧ f1.type = 3 ∧ f1.offset = 1) ∧ (f2.name = "V" ∧ f2.type = 25 ∧ f2.offset = 2) ∧ (f3.name = "B" ∧ f3.type = 26 ∧ f3.offset = 3) := by
  unfold Program.fieldsOf
  rw [Try.underlying27]
  exact ⟨_, _, _, _, rfl, ⟨rfl, rfl, rfl⟩, ⟨rfl, rfl, rfl⟩, ⟨rfl, rfl, rfl⟩, ⟨rfl, rfl, rfl⟩⟩
theorem fields28 : ∃ f0 f1 f2 f3, (Try.prog.fieldsOf 28).toList = [f0, f1, f2, f3] ∧ (f0.name = "Do" ∧ f0.type = 3 ∧ f0.offset = 0) ∧ (f1.name = "N" ∧ f1.type = 3 ∧ f1.offset = 1) ∧ (f2.name = "V" ∧ f2.type = 25 ∧ f2.offset = 2) ∧ (f3.name = "B" ∧ f3.type = 26 ∧ f3.offset = 3) := by
  unfold Program.fieldsOf
  rw [Try.underlying28]
  exact ⟨_, _, _, _, rfl, ⟨rfl, rfl, rfl⟩, ⟨rfl, rfl, rfl⟩, ⟨rfl, rfl, rfl⟩, ⟨rfl, rfl, rfl⟩⟩
theorem fields47 : ∃ f0 f1, (Try.prog.fieldsOf 47).toList = [f0, f1] ∧ (f0.name = "Do" ∧ f0.type = 3 ∧ f0.offset = 0) ∧ (f1.name = "N" ∧ f1.type = 3 ∧ f1.offset = 1) := by
  unfold Program.fieldsOf
  rw [Try.underlying47]
  exact ⟨_, _, rfl, ⟨rfl, rfl, rfl⟩, ⟨rfl, rfl, rfl⟩⟩
theorem fields48 : ∃ f0 f1, (Try.prog.fieldsOf 48).toList = [f0, f1] ∧ (f0.name = "Do" ∧ f0.type = 3 ∧ f0.offset = 0) ∧ (f1.name = "N" ∧ f1.type = 3 ∧ f1.offset = 1) := by
  unfold Program.fieldsOf
  rw [Try.underlying48]
  exact ⟨_, _, rfl, ⟨rfl, rfl, rfl⟩, ⟨rfl, rfl, rfl⟩⟩
theorem fields62 : ∃ f0 f1, (Try.prog.fieldsOf 62).toList = [f0, f1] ∧ (f0.name = "Bits" ∧ f0.type = 25 ∧ f0.offset = 0) ∧ (f1.name = "Len" ∧ f1.type = 3 ∧ f1.offset = 1) := by
  unfold Program.fieldsOf
  rw [Try.underlying62]
  exact ⟨_, _, rfl, ⟨rfl, rfl, rfl⟩, ⟨rfl, rfl, rfl⟩⟩
theorem fields63 : ∃ f0 f1, (Try.prog.fieldsOf 63).toList = [f0, f1] ∧ (f0.name = "Bits" ∧ f0.type = 25 ∧ f0.offset = 0) ∧ (f1.name = "Len" ∧ f1.type = 3 ∧ f1.offset = 1) := by
  unfold Program.fieldsOf
  rw [Try.underlying63]
  exact ⟨_, _, rfl, ⟨rfl, rfl, rfl⟩, ⟨rfl, rfl, rfl⟩⟩
theorem fields81 : ∃ f0 f1, (Try.prog.fieldsOf 81).toList = [f0, f1] ∧ (f0.name = "b" ∧ f0.type = 26 ∧ f0.offset = 0) ∧ (f1.name = "count" ∧ f1.type = 3 ∧ f1.offset = 1) := by
  unfold Program.fieldsOf
  rw [Try.underlying81]
  exact ⟨_, _, rfl, ⟨rfl, rfl, rfl⟩, ⟨rfl, rfl, rfl⟩⟩
theorem fields82 : ∃ f0 f1, (Try.prog.fieldsOf 82).toList = [f0, f1] ∧ (f0.name = "b" ∧ f0.type = 26 ∧ f0.offset = 0) ∧ (f1.name = "count" ∧ f1.type = 3 ∧ f1.offset = 1) := by
  unfold Program.fieldsOf
  rw [Try.underlying82]
  exact ⟨_, _, rfl, ⟨rfl, rfl, rfl⟩, ⟨rfl, rfl, rfl⟩⟩
theorem fields85 : ∃ f0 f1, (Try.prog.fieldsOf 85).toList = [f0, f1] ∧ (f0.name = "b" ∧ f0.type = 26 ∧ f0.offset = 0) ∧ (f1.name = "at" ∧ f1.type = 3 ∧ f1.offset = 1) := by
  unfold Program.fieldsOf
  rw [Try.underlying85]
  exact ⟨_, _, rfl, ⟨rfl, rfl, rfl⟩, ⟨rfl, rfl, rfl⟩⟩
theorem fields86 : ∃ f0 f1, (Try.prog.fieldsOf 86).toList = [f0, f1] ∧ (f0.name = "b" ∧ f0.type = 26 ∧ f0.offset = 0) ∧ (f1.name = "at" ∧ f1.type = 3 ∧ f1.offset = 1) := by
  unfold Program.fieldsOf
  rw [Try.underlying86]
  exact ⟨_, _, rfl, ⟨rfl, rfl, rfl⟩, ⟨rfl, rfl, rfl⟩⟩
theorem fields94 : ∃ f0 f1 f2 f3, (Try.prog.fieldsOf 94).toList = [f0, f1, f2, f3] ∧ (f0.name = "c" ∧ f0.type = 88 ∧ f0.offset = 0) ∧ (f1.name = "first" ∧ f1.type = 91 ∧ f1.offset = 16) ∧ (f2.name = "symbols" ∧ f2.type = 54 ∧ f2.offset = 32) ∧ (f3.name = "most" ∧ f3.type = 3 ∧ f3.offset = 33) := by
  unfold Program.fieldsOf
  rw [Try.underlying94]
  exact ⟨_, _, _, _, rfl, ⟨rfl, rfl, rfl⟩, ⟨rfl, rfl, rfl⟩, ⟨rfl, rfl, rfl⟩, ⟨rfl, rfl, rfl⟩⟩
theorem fields95 : ∃ f0 f1 f2 f3, (Try.prog.fieldsOf 95).toList = [f0, f1, f2, f3] ∧ (f0.name = "c" ∧ f0.type = 88 ∧ f0.offset = 0) ∧ (f1.name = "first" ∧ f1.type = 91 ∧ f1.offset = 16) ∧ (f2.name = "symbols" ∧ f2.type = 54 ∧ f2.offset = 32) ∧ (f3.name = "most" ∧ f3.type = 3 ∧ f3.offset = 33) := by
  unfold Program.fieldsOf
  rw [Try.underlying95]
  exact ⟨_, _, _, _, rfl, ⟨rfl, rfl, rfl⟩, ⟨rfl, rfl, rfl⟩, ⟨rfl, rfl, rfl⟩, ⟨rfl, rfl, rfl⟩⟩
theorem fields99 : ∃ f0 f1, (Try.prog.fieldsOf 99).toList = [f0, f1] ∧ (f0.name = "count" ∧ f0.type = 3 ∧ f0.offset = 0) ∧ (f1.name = "symbols" ∧ f1.type = 54 ∧ f1.offset = 1) := by
  unfold Program.fieldsOf
  rw [Try.underlying99]
  exact ⟨_, _, rfl, ⟨rfl, rfl, rfl⟩, ⟨rfl, rfl, rfl⟩⟩
theorem fields100 : ∃ f0 f1, (Try.prog.fieldsOf 100).toList = [f0, f1] ∧ (f0.name = "count" ∧ f0.type = 3 ∧ f0.offset = 0) ∧ (f1.name = "symbols" ∧ f1.type = 54 ∧ f1.offset = 1) := by
  unfold Program.fieldsOf
  rw [Try.underlying100]
  exact ⟨_, _, rfl, ⟨rfl, rfl, rfl⟩, ⟨rfl, rfl, rfl⟩⟩
theorem fields104 : ∃ f0 f1, (Try.prog.fieldsOf 104).toList = [f0, f1] ∧ (f0.name = "Count" ∧ f0.type = 3 ∧ f0.offset = 0) ∧ (f1.name = "Times" ∧ f1.type = 54 ∧ f1.offset = 1) := by
  unfold Program.fieldsOf
  rw [Try.underlying104]
  exact ⟨_, _, rfl, ⟨rfl, rfl, rfl⟩, ⟨rfl, rfl, rfl⟩⟩
theorem fields105 : ∃ f0 f1, (Try.prog.fieldsOf 105).toList = [f0, f1] ∧ (f0.name = "Count" ∧ f0.type = 3 ∧ f0.offset = 0) ∧ (f1.name = "Times" ∧ f1.type = 54 ∧ f1.offset = 1) := by
  unfold Program.fieldsOf
  rw [Try.underlying105]
  exact ⟨_, _, rfl, ⟨rfl, rfl, rfl⟩, ⟨rfl, rfl, rfl⟩⟩
theorem fields122 : ∃ f0 f1 f2 f3, (Try.prog.fieldsOf 122).toList = [f0, f1, f2, f3] ∧ (f0.name = "_interface" ∧ f0.type = 17 ∧ f0.offset = 0) ∧ (f1.name = "concrete" ∧ f1.type = 17 ∧ f1.offset = 1) ∧ (f2.name = "asserted" ∧ f2.type = 17 ∧ f2.offset = 2) ∧ (f3.name = "missingMethod" ∧ f3.type = 9 ∧ f3.offset = 3) := by
  unfold Program.fieldsOf
  rw [Try.underlying122]
  exact ⟨_, _, _, _, rfl, ⟨rfl, rfl, rfl⟩, ⟨rfl, rfl, rfl⟩, ⟨rfl, rfl, rfl⟩, ⟨rfl, rfl, rfl⟩⟩
theorem fields123 : ∃ f0 f1 f2 f3, (Try.prog.fieldsOf 123).toList = [f0, f1, f2, f3] ∧ (f0.name = "_interface" ∧ f0.type = 17 ∧ f0.offset = 0) ∧ (f1.name = "concrete" ∧ f1.type = 17 ∧ f1.offset = 1) ∧ (f2.name = "asserted" ∧ f2.type = 17 ∧ f2.offset = 2) ∧ (f3.name = "missingMethod" ∧ f3.type = 9 ∧ f3.offset = 3) := by
  unfold Program.fieldsOf
  rw [Try.underlying123]
  exact ⟨_, _, _, _, rfl, ⟨rfl, rfl, rfl⟩, ⟨rfl, rfl, rfl⟩, ⟨rfl, rfl, rfl⟩, ⟨rfl, rfl, rfl⟩⟩
theorem fields125 : ∃ f0, (Try.prog.fieldsOf 125).toList = [f0] ∧ (f0.name = "_" ∧ f0.type = 124 ∧ f0.offset = 0) := by
  unfold Program.fieldsOf
  rw [Try.underlying125]
  exact ⟨_, rfl, ⟨rfl, rfl, rfl⟩⟩
theorem fields126 : ∃ f0, (Try.prog.fieldsOf 126).toList = [f0] ∧ (f0.name = "_" ∧ f0.type = 124 ∧ f0.offset = 0) := by
  unfold Program.fieldsOf
  rw [Try.underlying126]
  exact ⟨_, rfl, ⟨rfl, rfl, rfl⟩⟩
theorem fields134 : ∃ f0 f1 f2 f3 f4 f5 f6 f7 f8 f9 f10, (Try.prog.fieldsOf 134).toList = [f0, f1, f2, f3, f4, f5, f6, f7, f8, f9, f10] ∧ (f0.name = "Size_" ∧ f0.type = 12 ∧ f0.offset = 0) ∧ (f1.name = "PtrBytes" ∧ f1.type = 12 ∧ f1.offset = 1) ∧ (f2.name = "Hash" ∧ f2.type = 127 ∧ f2.offset = 2) ∧ (f3.name = "TFlag" ∧ f3.type = 128 ∧ f3.offset = 3) ∧ (f4.name = "Align_" ∧ f4.type = 5 ∧ f4.offset = 4) ∧ (f5.name = "FieldAlign_" ∧ f5.type = 5 ∧ f5.offset = 5) ∧ (f6.name = "Kind_" ∧ f6.type = 129 ∧ f6.offset = 6) ∧ (f7.name = "Equal" ∧ f7.type = 130 ∧ f7.offset = 7) ∧ (f8.name = "GCData" ∧ f8.type = 131 ∧ f8.offset = 8) ∧ (f9.name = "Str" ∧ f9.type = 132 ∧ f9.offset = 9) ∧ (f10.name = "PtrToThis" ∧ f10.type = 133 ∧ f10.offset = 10) := by
  unfold Program.fieldsOf
  rw [Try.underlying134]
  exact ⟨_, _, _, _, _, _, _, _, _, _, _, rfl, ⟨rfl, rfl, rfl⟩, ⟨rfl, rfl, rfl⟩, ⟨rfl, rfl, rfl⟩, ⟨rfl, rfl, rfl⟩, ⟨rfl, rfl, rfl⟩, ⟨rfl, rfl, rfl⟩, ⟨rfl, rfl, rfl⟩, ⟨rfl, rfl, rfl⟩, ⟨rfl, rfl, rfl⟩, ⟨rfl, rfl, rfl⟩, ⟨rfl, rfl, rfl⟩⟩
theorem fields135 : ∃ f0 f1 f2 f3 f4 f5 f6 f7 f8 f9 f10, (Try.prog.fieldsOf 135).toList = [f0, f1, f2, f3, f4, f5, f6, f7, f8, f9, f10] ∧ (f0.name = "Size_" ∧ f0.type = 12 ∧ f0.offset = 0) ∧ (f1.name = "PtrBytes" ∧ f1.type = 12 ∧ f1.offset = 1) ∧ (f2.name = "Hash" ∧ f2.type = 127 ∧ f2.offset = 2) ∧ (f3.name = "TFlag" ∧ f3.type = 128 ∧ f3.offset = 3) ∧ (f4.name = "Align_" ∧ f4.type = 5 ∧ f4.offset = 4) ∧ (f5.name = "FieldAlign_" ∧ f5.type = 5 ∧ f5.offset = 5) ∧ (f6.name = "Kind_" ∧ f6.type = 129 ∧ f6.offset = 6) ∧ (f7.name = "Equal" ∧ f7.type = 130 ∧ f7.offset = 7) ∧ (f8.name = "GCData" ∧ f8.type = 131 ∧ f8.offset = 8) ∧ (f9.name = "Str" ∧ f9.type = 132 ∧ f9.offset = 9) ∧ (f10.name = "PtrToThis" ∧ f10.type = 133 ∧ f10.offset = 10) := by
  unfold Program.fieldsOf
  rw [Try.underlying135]
  exact ⟨_, _, _, _, _, _, _, _, _, _, _, rfl, ⟨rfl, rfl, rfl⟩, ⟨rfl, rfl, rfl⟩, ⟨rfl, rfl, rfl⟩, ⟨rfl, rfl, rfl⟩, ⟨rfl, rfl, rfl⟩, ⟨rfl, rfl, rfl⟩, ⟨rfl, rfl, rfl⟩, ⟨rfl, rfl, rfl⟩, ⟨rfl, rfl, rfl⟩, ⟨rfl, rfl, rfl⟩, ⟨rfl, rfl, rfl⟩⟩
end Go.Proofs.Ytebaojedpnnliaa
