/-
  The zero value and the size of each type of this translation: read off its table.
-/
import Derived.Test.YtmfglifjnoilnaaEngA
import Derived.Test.YtmfglifjnoilnaaRows
import Derived.KernelRfl
namespace Go.Proofs.Ytmfglifjnoilnaa
open Go.Proofs
theorem zero2 (w : World) : (zeroValue 2).run Try.prog w = .ok (.int .i64 0) w := by
  simp only [zeroValue, Sem.run_bind, Try.typeInfo2, Result.andThen_ok]; rfl
theorem info2 : (Try.prog.info? 2).map (fun i => (i.zero, i.size, i.bytes)) = some (some (.int .i64 0), 1, 8) := by kernel_rfl
theorem zero3 (w : World) : (zeroValue 3).run Try.prog w = .ok (.int .i64 0) w := by
  simp only [zeroValue, Sem.run_bind, Try.typeInfo3, Result.andThen_ok]; rfl
theorem info3 : (Try.prog.info? 3).map (fun i => (i.zero, i.size, i.bytes)) = some (some (.int .i64 0), 1, 8) := by kernel_rfl
theorem zero4 (w : World) : (zeroValue 4).run Try.prog w = .ok (.bool false) w := by
  simp only [zeroValue, Sem.run_bind, Try.typeInfo4, Result.andThen_ok]; rfl
theorem info4 : (Try.prog.info? 4).map (fun i => (i.zero, i.size, i.bytes)) = some (some (.bool false), 1, 1) := by kernel_rfl
theorem zero5 (w : World) : (zeroValue 5).run Try.prog w = .ok (.int .u8 0) w := by
  simp only [zeroValue, Sem.run_bind, Try.typeInfo5, Result.andThen_ok]; rfl
theorem info5 : (Try.prog.info? 5).map (fun i => (i.zero, i.size, i.bytes)) = some (some (.int .u8 0), 1, 1) := by kernel_rfl
theorem zero6 (w : World) : (zeroValue 6).run Try.prog w = .ok (.int .u8 0) w := by
  simp only [zeroValue, Sem.run_bind, Try.typeInfo6, Result.andThen_ok]; rfl
theorem info6 : (Try.prog.info? 6).map (fun i => (i.zero, i.size, i.bytes)) = some (some (.int .u8 0), 1, 1) := by kernel_rfl
theorem zero7 (w : World) : (zeroValue 7).run Try.prog w = .ok (.agg #[.int .i64 0, .int .i64 0, .bool false, .int .u8 0]) w := by
  simp only [zeroValue, Sem.run_bind, Try.typeInfo7, Result.andThen_ok]; rfl
theorem info7 : (Try.prog.info? 7).map (fun i => (i.zero, i.size, i.bytes)) = some (some (.agg #[.int .i64 0, .int .i64 0, .bool false, .int .u8 0]), 4, 24) := by kernel_rfl
theorem zero8 (w : World) : (zeroValue 8).run Try.prog w = .ok (.agg #[.int .i64 0, .int .i64 0, .bool false, .int .u8 0]) w := by
  simp only [zeroValue, Sem.run_bind, Try.typeInfo8, Result.andThen_ok]; rfl
theorem info8 : (Try.prog.info? 8).map (fun i => (i.zero, i.size, i.bytes)) = some (some (.agg #[.int .i64 0, .int .i64 0, .bool false, .int .u8 0]), 4, 24) := by kernel_rfl
theorem zero9 (w : World) : (zeroValue 9).run Try.prog w = .ok (.string ⟨#[]⟩) w := by
  simp only [zeroValue, Sem.run_bind, Try.typeInfo9, Result.andThen_ok]; rfl
theorem info9 : (Try.prog.info? 9).map (fun i => (i.zero, i.size, i.bytes)) = some (some (.string ⟨#[]⟩), 1, 16) := by kernel_rfl
theorem zero10 (w : World) : (zeroValue 10).run Try.prog w = .ok (.string ⟨#[]⟩) w := by
  simp only [zeroValue, Sem.run_bind, Try.typeInfo10, Result.andThen_ok]; rfl
theorem info10 : (Try.prog.info? 10).map (fun i => (i.zero, i.size, i.bytes)) = some (some (.string ⟨#[]⟩), 1, 16) := by kernel_rfl
theorem zero11 (w : World) : (zeroValue 11).run Try.prog w = .ok (.string ⟨#[]⟩) w := by
  simp only [zeroValue, Sem.run_bind, Try.typeInfo11, Result.andThen_ok]; rfl
theorem info11 : (Try.prog.info? 11).map (fun i => (i.zero, i.size, i.bytes)) = some (some (.string ⟨#[]⟩), 1, 16) := by kernel_rfl
theorem zero12 (w : World) : (zeroValue 12).run Try.prog w = .ok (.int .u64 0) w := by
  simp only [zeroValue, Sem.run_bind, Try.typeInfo12, Result.andThen_ok]; rfl
theorem info12 : (Try.prog.info? 12).map (fun i => (i.zero, i.size, i.bytes)) = some (some (.int .u64 0), 1, 8) := by kernel_rfl
theorem zero13 (w : World) : (zeroValue 13).run Try.prog w = .ok (.agg #[.string ⟨#[]⟩, .int .u64 0]) w := by
  simp only [zeroValue, Sem.run_bind, Try.typeInfo13, Result.andThen_ok]; rfl
theorem info13 : (Try.prog.info? 13).map (fun i => (i.zero, i.size, i.bytes)) = some (some (.agg #[.string ⟨#[]⟩, .int .u64 0]), 2, 24) := by kernel_rfl
theorem zero14 (w : World) : (zeroValue 14).run Try.prog w = .ok (.agg #[.string ⟨#[]⟩, .int .u64 0]) w := by
  simp only [zeroValue, Sem.run_bind, Try.typeInfo14, Result.andThen_ok]; rfl
theorem info14 : (Try.prog.info? 14).map (fun i => (i.zero, i.size, i.bytes)) = some (some (.agg #[.string ⟨#[]⟩, .int .u64 0]), 2, 24) := by kernel_rfl
theorem zero15 (w : World) : (zeroValue 15).run Try.prog w = .ok (.pointer none) w := by
  simp only [zeroValue, Sem.run_bind, Try.typeInfo15, Result.andThen_ok]; rfl
theorem info15 : (Try.prog.info? 15).map (fun i => (i.zero, i.size, i.bytes)) = some (some (.pointer none), 1, 8) := by kernel_rfl
theorem zero16 (w : World) : (zeroValue 16).run Try.prog w = .ok (.pointer none) w := by
  simp only [zeroValue, Sem.run_bind, Try.typeInfo16, Result.andThen_ok]; rfl
theorem info16 : (Try.prog.info? 16).map (fun i => (i.zero, i.size, i.bytes)) = some (some (.pointer none), 1, 8) := by kernel_rfl
theorem zero17 (w : World) : (zeroValue 17).run Try.prog w = .ok (.pointer none) w := by
  simp only [zeroValue, Sem.run_bind, Try.typeInfo17, Result.andThen_ok]; rfl
theorem info17 : (Try.prog.info? 17).map (fun i => (i.zero, i.size, i.bytes)) = some (some (.pointer none), 1, 8) := by kernel_rfl
theorem zero18 (w : World) : (zeroValue 18).run Try.prog w = .ok (.agg #[.pointer none]) w := by
  simp only [zeroValue, Sem.run_bind, Try.typeInfo18, Result.andThen_ok]; rfl
theorem info18 : (Try.prog.info? 18).map (fun i => (i.zero, i.size, i.bytes)) = some (some (.agg #[.pointer none]), 1, 8) := by kernel_rfl
theorem zero19 (w : World) : (zeroValue 19).run Try.prog w = .ok (.agg #[.pointer none]) w := by
  simp only [zeroValue, Sem.run_bind, Try.typeInfo19, Result.andThen_ok]; rfl
theorem info19 : (Try.prog.info? 19).map (fun i => (i.zero, i.size, i.bytes)) = some (some (.agg #[.pointer none]), 1, 8) := by kernel_rfl
theorem zero21 (w : World) : (zeroValue 21).run Try.prog w = .ok (.int .i32 0) w := by
  simp only [zeroValue, Sem.run_bind, Try.typeInfo21, Result.andThen_ok]; rfl
theorem info21 : (Try.prog.info? 21).map (fun i => (i.zero, i.size, i.bytes)) = some (some (.int .i32 0), 1, 4) := by kernel_rfl
theorem zero22 (w : World) : (zeroValue 22).run Try.prog w = .ok (.slice none 0 0) w := by
  simp only [zeroValue, Sem.run_bind, Try.typeInfo22, Result.andThen_ok]; rfl
theorem info22 : (Try.prog.info? 22).map (fun i => (i.zero, i.size, i.bytes)) = some (some (.slice none 0 0), 1, 24) := by kernel_rfl
theorem zero23 (w : World) : (zeroValue 23).run Try.prog w = .ok (.agg #[.int .i64 0, .int .i64 0, .slice none 0 0]) w := by
  simp only [zeroValue, Sem.run_bind, Try.typeInfo23, Result.andThen_ok]; rfl
theorem info23 : (Try.prog.info? 23).map (fun i => (i.zero, i.size, i.bytes)) = some (some (.agg #[.int .i64 0, .int .i64 0, .slice none 0 0]), 3, 40) := by kernel_rfl
theorem zero24 (w : World) : (zeroValue 24).run Try.prog w = .ok (.agg #[.int .i64 0, .int .i64 0, .slice none 0 0]) w := by
  simp only [zeroValue, Sem.run_bind, Try.typeInfo24, Result.andThen_ok]; rfl
theorem info24 : (Try.prog.info? 24).map (fun i => (i.zero, i.size, i.bytes)) = some (some (.agg #[.int .i64 0, .int .i64 0, .slice none 0 0]), 3, 40) := by kernel_rfl
theorem zero25 (w : World) : (zeroValue 25).run Try.prog w = .ok (.slice none 0 0) w := by
  simp only [zeroValue, Sem.run_bind, Try.typeInfo25, Result.andThen_ok]; rfl
theorem info25 : (Try.prog.info? 25).map (fun i => (i.zero, i.size, i.bytes)) = some (some (.slice none 0 0), 1, 24) := by kernel_rfl
theorem zero27 (w : World) : (zeroValue 27).run Try.prog w = .ok (.slice none 0 0) w := by
  simp only [zeroValue, Sem.run_bind, Try.typeInfo27, Result.andThen_ok]; rfl
theorem info27 : (Try.prog.info? 27).map (fun i => (i.zero, i.size, i.bytes)) = some (some (.slice none 0 0), 1, 24) := by kernel_rfl
theorem zero28 (w : World) : (zeroValue 28).run Try.prog w = .ok (.int .i64 0) w := by
  simp only [zeroValue, Sem.run_bind, Try.typeInfo28, Result.andThen_ok]; rfl
theorem info28 : (Try.prog.info? 28).map (fun i => (i.zero, i.size, i.bytes)) = some (some (.int .i64 0), 1, 8) := by kernel_rfl
theorem zero38 (w : World) : (zeroValue 38).run Try.prog w = .ok (.int .u64 0) w := by
  simp only [zeroValue, Sem.run_bind, Try.typeInfo38, Result.andThen_ok]; rfl
theorem info38 : (Try.prog.info? 38).map (fun i => (i.zero, i.size, i.bytes)) = some (some (.int .u64 0), 1, 8) := by kernel_rfl
theorem zero40 (w : World) : (zeroValue 40).run Try.prog w = .ok (.slice none 0 0) w := by
  simp only [zeroValue, Sem.run_bind, Try.typeInfo40, Result.andThen_ok]; rfl
theorem info40 : (Try.prog.info? 40).map (fun i => (i.zero, i.size, i.bytes)) = some (some (.slice none 0 0), 1, 24) := by kernel_rfl
theorem zero41 (w : World) : (zeroValue 41).run Try.prog w = .ok (.agg #[.int .i64 0, .int .i64 0]) w := by
  simp only [zeroValue, Sem.run_bind, Try.typeInfo41, Result.andThen_ok]; rfl
theorem info41 : (Try.prog.info? 41).map (fun i => (i.zero, i.size, i.bytes)) = some (some (.agg #[.int .i64 0, .int .i64 0]), 2, 16) := by kernel_rfl
theorem zero42 (w : World) : (zeroValue 42).run Try.prog w = .ok (.agg #[.int .i64 0, .int .i64 0]) w := by
  simp only [zeroValue, Sem.run_bind, Try.typeInfo42, Result.andThen_ok]; rfl
theorem info42 : (Try.prog.info? 42).map (fun i => (i.zero, i.size, i.bytes)) = some (some (.agg #[.int .i64 0, .int .i64 0]), 2, 16) := by kernel_rfl
theorem zero43 (w : World) : (zeroValue 43).run Try.prog w = .ok (.slice none 0 0) w := by
  simp only [zeroValue, Sem.run_bind, Try.typeInfo43, Result.andThen_ok]; rfl
theorem info43 : (Try.prog.info? 43).map (fun i => (i.zero, i.size, i.bytes)) = some (some (.slice none 0 0), 1, 24) := by kernel_rfl
theorem zero44 (w : World) : (zeroValue 44).run Try.prog w = .ok (.agg #[.int .i64 0, .int .i64 0, .int .i64 0, .int .i64 0, .int .u64 0, .slice none 0 0]) w := by
  simp only [zeroValue, Sem.run_bind, Try.typeInfo44, Result.andThen_ok]; rfl
theorem info44 : (Try.prog.info? 44).map (fun i => (i.zero, i.size, i.bytes)) = some (some (.agg #[.int .i64 0, .int .i64 0, .int .i64 0, .int .i64 0, .int .u64 0, .slice none 0 0]), 6, 64) := by kernel_rfl
theorem zero45 (w : World) : (zeroValue 45).run Try.prog w = .ok (.agg #[.int .i64 0, .int .i64 0, .int .i64 0, .int .i64 0, .int .u64 0, .slice none 0 0]) w := by
  simp only [zeroValue, Sem.run_bind, Try.typeInfo45, Result.andThen_ok]; rfl
theorem info45 : (Try.prog.info? 45).map (fun i => (i.zero, i.size, i.bytes)) = some (some (.agg #[.int .i64 0, .int .i64 0, .int .i64 0, .int .i64 0, .int .u64 0, .slice none 0 0]), 6, 64) := by kernel_rfl
theorem zero51 (w : World) : (zeroValue 51).run Try.prog w = .ok (.agg #[.int .i64 0, .int .i64 0, .slice none 0 0, .int .i64 0, .int .i64 0, .int .i64 0, .int .i64 0, .int .u64 0, .slice none 0 0, .int .i64 0, .int .i64 0]) w := by
  simp only [zeroValue, Sem.run_bind, Try.typeInfo51, Result.andThen_ok]; rfl
theorem info51 : (Try.prog.info? 51).map (fun i => (i.zero, i.size, i.bytes)) = some (some (.agg #[.int .i64 0, .int .i64 0, .slice none 0 0, .int .i64 0, .int .i64 0, .int .i64 0, .int .i64 0, .int .u64 0, .slice none 0 0, .int .i64 0, .int .i64 0]), 11, 120) := by kernel_rfl
theorem zero52 (w : World) : (zeroValue 52).run Try.prog w = .ok (.agg #[.int .i64 0, .int .i64 0, .slice none 0 0, .int .i64 0, .int .i64 0, .int .i64 0, .int .i64 0, .int .u64 0, .slice none 0 0, .int .i64 0, .int .i64 0]) w := by
  simp only [zeroValue, Sem.run_bind, Try.typeInfo52, Result.andThen_ok]; rfl
theorem info52 : (Try.prog.info? 52).map (fun i => (i.zero, i.size, i.bytes)) = some (some (.agg #[.int .i64 0, .int .i64 0, .slice none 0 0, .int .i64 0, .int .i64 0, .int .i64 0, .int .i64 0, .int .u64 0, .slice none 0 0, .int .i64 0, .int .i64 0]), 11, 120) := by kernel_rfl
theorem zero59 (w : World) : (zeroValue 59).run Try.prog w = .ok (.agg #[.int .i64 0, .int .i64 0, .slice none 0 0, .int .i64 0, .int .i64 0, .string ⟨#[]⟩]) w := by
  simp only [zeroValue, Sem.run_bind, Try.typeInfo59, Result.andThen_ok]; rfl
theorem info59 : (Try.prog.info? 59).map (fun i => (i.zero, i.size, i.bytes)) = some (some (.agg #[.int .i64 0, .int .i64 0, .slice none 0 0, .int .i64 0, .int .i64 0, .string ⟨#[]⟩]), 6, 72) := by kernel_rfl
theorem zero60 (w : World) : (zeroValue 60).run Try.prog w = .ok (.agg #[.int .i64 0, .int .i64 0, .slice none 0 0, .int .i64 0, .int .i64 0, .string ⟨#[]⟩]) w := by
  simp only [zeroValue, Sem.run_bind, Try.typeInfo60, Result.andThen_ok]; rfl
theorem info60 : (Try.prog.info? 60).map (fun i => (i.zero, i.size, i.bytes)) = some (some (.agg #[.int .i64 0, .int .i64 0, .slice none 0 0, .int .i64 0, .int .i64 0, .string ⟨#[]⟩]), 6, 72) := by kernel_rfl
theorem zero104 (w : World) : (zeroValue 104).run Try.prog w = .ok (.agg #[.string ⟨#[]⟩, .string ⟨#[]⟩, .string ⟨#[]⟩, .string ⟨#[]⟩, .string ⟨#[]⟩]) w := by
  simp only [zeroValue, Sem.run_bind, Try.typeInfo104, Result.andThen_ok]; rfl
theorem info104 : (Try.prog.info? 104).map (fun i => (i.zero, i.size, i.bytes)) = some (some (.agg #[.string ⟨#[]⟩, .string ⟨#[]⟩, .string ⟨#[]⟩, .string ⟨#[]⟩, .string ⟨#[]⟩]), 5, 80) := by kernel_rfl
theorem zero112 (w : World) : (zeroValue 112).run Try.prog w = .ok (.int .u64 0) w := by
  simp only [zeroValue, Sem.run_bind, Try.typeInfo112, Result.andThen_ok]; rfl
theorem info112 : (Try.prog.info? 112).map (fun i => (i.zero, i.size, i.bytes)) = some (some (.int .u64 0), 1, 8) := by kernel_rfl
theorem zero115 (w : World) : (zeroValue 115).run Try.prog w = .ok (.int .i64 0) w := by
  simp only [zeroValue, Sem.run_bind, Try.typeInfo115, Result.andThen_ok]; rfl
theorem info115 : (Try.prog.info? 115).map (fun i => (i.zero, i.size, i.bytes)) = some (some (.int .i64 0), 1, 8) := by kernel_rfl
theorem zero120 (w : World) : (zeroValue 120).run Try.prog w = .ok (.agg #[.int .i64 0, .int .i64 0, .int .i64 0, .int .i64 0, .int .i64 0, .int .i64 0, .int .i64 0, .int .i64 0, .int .i64 0, .int .i64 0, .int .i64 0, .int .i64 0]) w := by
  simp only [zeroValue, Sem.run_bind, Try.typeInfo120, Result.andThen_ok]; rfl
theorem info120 : (Try.prog.info? 120).map (fun i => (i.zero, i.size, i.bytes)) = some (some (.agg #[.int .i64 0, .int .i64 0, .int .i64 0, .int .i64 0, .int .i64 0, .int .i64 0, .int .i64 0, .int .i64 0, .int .i64 0, .int .i64 0, .int .i64 0, .int .i64 0]), 12, 96) := by kernel_rfl
theorem zero124 (w : World) : (zeroValue 124).run Try.prog w = .ok (.int .i64 0) w := by
  simp only [zeroValue, Sem.run_bind, Try.typeInfo124, Result.andThen_ok]; rfl
theorem info124 : (Try.prog.info? 124).map (fun i => (i.zero, i.size, i.bytes)) = some (some (.int .i64 0), 1, 8) := by kernel_rfl
theorem zero132 (w : World) : (zeroValue 132).run Try.prog w = .ok (.int .u32 0) w := by
  simp only [zeroValue, Sem.run_bind, Try.typeInfo132, Result.andThen_ok]; rfl
theorem info132 : (Try.prog.info? 132).map (fun i => (i.zero, i.size, i.bytes)) = some (some (.int .u32 0), 1, 4) := by kernel_rfl
theorem zero134 (w : World) : (zeroValue 134).run Try.prog w = .ok (.int .u64 0) w := by
  simp only [zeroValue, Sem.run_bind, Try.typeInfo134, Result.andThen_ok]; rfl
theorem info134 : (Try.prog.info? 134).map (fun i => (i.zero, i.size, i.bytes)) = some (some (.int .u64 0), 1, 8) := by kernel_rfl
theorem zero138 (w : World) : (zeroValue 138).run Try.prog w = .ok (.pointer none) w := by
  simp only [zeroValue, Sem.run_bind, Try.typeInfo138, Result.andThen_ok]; rfl
theorem info138 : (Try.prog.info? 138).map (fun i => (i.zero, i.size, i.bytes)) = some (some (.pointer none), 1, 8) := by kernel_rfl
theorem zero140 (w : World) : (zeroValue 140).run Try.prog w = .ok (.pointer none) w := by
  simp only [zeroValue, Sem.run_bind, Try.typeInfo140, Result.andThen_ok]; rfl
theorem info140 : (Try.prog.info? 140).map (fun i => (i.zero, i.size, i.bytes)) = some (some (.pointer none), 1, 8) := by kernel_rfl
theorem zero144 (w : World) : (zeroValue 144).run Try.prog w = .ok (.agg #[.pointer none, .pointer none, .pointer none, .string ⟨#[]⟩]) w := by
  simp only [zeroValue, Sem.run_bind, Try.typeInfo144, Result.andThen_ok]; rfl
theorem info144 : (Try.prog.info? 144).map (fun i => (i.zero, i.size, i.bytes)) = some (some (.agg #[.pointer none, .pointer none, .pointer none, .string ⟨#[]⟩]), 4, 40) := by kernel_rfl
theorem zero145 (w : World) : (zeroValue 145).run Try.prog w = .ok (.agg #[.pointer none, .pointer none, .pointer none, .string ⟨#[]⟩]) w := by
  simp only [zeroValue, Sem.run_bind, Try.typeInfo145, Result.andThen_ok]; rfl
theorem info145 : (Try.prog.info? 145).map (fun i => (i.zero, i.size, i.bytes)) = some (some (.agg #[.pointer none, .pointer none, .pointer none, .string ⟨#[]⟩]), 4, 40) := by kernel_rfl
theorem zero146 (w : World) : (zeroValue 146).run Try.prog w = .ok (.agg #[]) w := by
  simp only [zeroValue, Sem.run_bind, Try.typeInfo146, Result.andThen_ok]; rfl
theorem info146 : (Try.prog.info? 146).map (fun i => (i.zero, i.size, i.bytes)) = some (some (.agg #[]), 0, 0) := by kernel_rfl
theorem zero147 (w : World) : (zeroValue 147).run Try.prog w = .ok (.agg #[]) w := by
  simp only [zeroValue, Sem.run_bind, Try.typeInfo147, Result.andThen_ok]; rfl
theorem info147 : (Try.prog.info? 147).map (fun i => (i.zero, i.size, i.bytes)) = some (some (.agg #[]), 0, 0) := by kernel_rfl
theorem zero148 (w : World) : (zeroValue 148).run Try.prog w = .ok (.agg #[]) w := by
  simp only [zeroValue, Sem.run_bind, Try.typeInfo148, Result.andThen_ok]; rfl
theorem info148 : (Try.prog.info? 148).map (fun i => (i.zero, i.size, i.bytes)) = some (some (.agg #[]), 0, 0) := by kernel_rfl
theorem zero149 (w : World) : (zeroValue 149).run Try.prog w = .ok (.int .u8 0) w := by
  simp only [zeroValue, Sem.run_bind, Try.typeInfo149, Result.andThen_ok]; rfl
theorem info149 : (Try.prog.info? 149).map (fun i => (i.zero, i.size, i.bytes)) = some (some (.int .u8 0), 1, 1) := by kernel_rfl
theorem zero150 (w : World) : (zeroValue 150).run Try.prog w = .ok (.int .u8 0) w := by
  simp only [zeroValue, Sem.run_bind, Try.typeInfo150, Result.andThen_ok]; rfl
theorem info150 : (Try.prog.info? 150).map (fun i => (i.zero, i.size, i.bytes)) = some (some (.int .u8 0), 1, 1) := by kernel_rfl
theorem zero152 (w : World) : (zeroValue 152).run Try.prog w = .ok (.pointer none) w := by
  simp only [zeroValue, Sem.run_bind, Try.typeInfo152, Result.andThen_ok]; rfl
theorem info152 : (Try.prog.info? 152).map (fun i => (i.zero, i.size, i.bytes)) = some (some (.pointer none), 1, 8) := by kernel_rfl
theorem zero153 (w : World) : (zeroValue 153).run Try.prog w = .ok (.int .i32 0) w := by
  simp only [zeroValue, Sem.run_bind, Try.typeInfo153, Result.andThen_ok]; rfl
theorem info153 : (Try.prog.info? 153).map (fun i => (i.zero, i.size, i.bytes)) = some (some (.int .i32 0), 1, 4) := by kernel_rfl
theorem zero154 (w : World) : (zeroValue 154).run Try.prog w = .ok (.int .i32 0) w := by
  simp only [zeroValue, Sem.run_bind, Try.typeInfo154, Result.andThen_ok]; rfl
theorem info154 : (Try.prog.info? 154).map (fun i => (i.zero, i.size, i.bytes)) = some (some (.int .i32 0), 1, 4) := by kernel_rfl
theorem zero155 (w : World) : (zeroValue 155).run Try.prog w = .ok (.agg #[.int .u64 0, .int .u64 0, .int .u32 0, .int .u8 0, .int .u8 0, .int .u8 0, .int .u8 0, .nilFunc, .pointer none, .int .i32 0, .int .i32 0]) w := by
  simp only [zeroValue, Sem.run_bind, Try.typeInfo155, Result.andThen_ok]; rfl
theorem info155 : (Try.prog.info? 155).map (fun i => (i.zero, i.size, i.bytes)) = some (some (.agg #[.int .u64 0, .int .u64 0, .int .u32 0, .int .u8 0, .int .u8 0, .int .u8 0, .int .u8 0, .nilFunc, .pointer none, .int .i32 0, .int .i32 0]), 11, 48) := by kernel_rfl
theorem zero156 (w : World) : (zeroValue 156).run Try.prog w = .ok (.agg #[.int .u64 0, .int .u64 0, .int .u32 0, .int .u8 0, .int .u8 0, .int .u8 0, .int .u8 0, .nilFunc, .pointer none, .int .i32 0, .int .i32 0]) w := by
  simp only [zeroValue, Sem.run_bind, Try.typeInfo156, Result.andThen_ok]; rfl
theorem info156 : (Try.prog.info? 156).map (fun i => (i.zero, i.size, i.bytes)) = some (some (.agg #[.int .u64 0, .int .u64 0, .int .u32 0, .int .u8 0, .int .u8 0, .int .u8 0, .int .u8 0, .nilFunc, .pointer none, .int .i32 0, .int .i32 0]), 11, 48) := by kernel_rfl
theorem places7 : ∃ fs, Try.prog.underlying 7 = some (.struct fs) ∧ ∀ w, (fs.mapM fun f => do pure (f.offset, ← sizeOf f.type) : Sem (Array (Nat × Nat))).run Try.prog w = .ok #[(0, 1), (1, 1), (2, 1), (3, 1)] w :=
  ⟨_, Try.underlying7, fun w => by simp [Try.sizeOf2, Try.sizeOf3, Try.sizeOf4, Try.sizeOf6]⟩
theorem places8 : ∃ fs, Try.prog.underlying 8 = some (.struct fs) ∧ ∀ w, (fs.mapM fun f => do pure (f.offset, ← sizeOf f.type) : Sem (Array (Nat × Nat))).run Try.prog w = .ok #[(0, 1), (1, 1), (2, 1), (3, 1)] w :=
  ⟨_, Try.underlying8, fun w => by simp [Try.sizeOf2, Try.sizeOf3, Try.sizeOf4, Try.sizeOf6]⟩
theorem places13 : ∃ fs, Try.prog.underlying 13 = some (.struct fs) ∧ ∀ w, (fs.mapM fun f => do pure (f.offset, ← sizeOf f.type) : Sem (Array (Nat × Nat))).run Try.prog w = .ok #[(0, 1), (1, 1)] w :=
  ⟨_, Try.underlying13, fun w => by simp [Try.sizeOf12, Try.sizeOf9]⟩
theorem places14 : ∃ fs, Try.prog.underlying 14 = some (.struct fs) ∧ ∀ w, (fs.mapM fun f => do pure (f.offset, ← sizeOf f.type) : Sem (Array (Nat × Nat))).run Try.prog w = .ok #[(0, 1), (1, 1)] w :=
  ⟨_, Try.underlying14, fun w => by simp [Try.sizeOf12, Try.sizeOf9]⟩
theorem places18 : ∃ fs, Try.prog.underlying 18 = some (.struct fs) ∧ ∀ w, (fs.mapM fun f => do pure (f.offset, ← sizeOf f.type) : Sem (Array (Nat × Nat))).run Try.prog w = .ok #[(0, 1)] w :=
  ⟨_, Try.underlying18, fun w => by simp [Try.sizeOf17]⟩
theorem places19 : ∃ fs, Try.prog.underlying 19 = some (.struct fs) ∧ ∀ w, (fs.mapM fun f => do pure (f.offset, ← sizeOf f.type) : Sem (Array (Nat × Nat))).run Try.prog w = .ok #[(0, 1)] w :=
  ⟨_, Try.underlying19, fun w => by simp [Try.sizeOf17]⟩
theorem places23 : ∃ fs, Try.prog.underlying 23 = some (.struct fs) ∧ ∀ w, (fs.mapM fun f => do pure (f.offset, ← sizeOf f.type) : Sem (Array (Nat × Nat))).run Try.prog w = .ok #[(0, 1), (1, 1), (2, 1)] w :=
  ⟨_, Try.underlying23, fun w => by simp [Try.sizeOf22, Try.sizeOf3]⟩
theorem places24 : ∃ fs, Try.prog.underlying 24 = some (.struct fs) ∧ ∀ w, (fs.mapM fun f => do pure (f.offset, ← sizeOf f.type) : Sem (Array (Nat × Nat))).run Try.prog w = .ok #[(0, 1), (1, 1), (2, 1)] w :=
  ⟨_, Try.underlying24, fun w => by simp [Try.sizeOf22, Try.sizeOf3]⟩
theorem places41 : ∃ fs, Try.prog.underlying 41 = some (.struct fs) ∧ ∀ w, (fs.mapM fun f => do pure (f.offset, ← sizeOf f.type) : Sem (Array (Nat × Nat))).run Try.prog w = .ok #[(0, 1), (1, 1)] w :=
  ⟨_, Try.underlying41, fun w => by simp [Try.sizeOf2, Try.sizeOf3]⟩
theorem places42 : ∃ fs, Try.prog.underlying 42 = some (.struct fs) ∧ ∀ w, (fs.mapM fun f => do pure (f.offset, ← sizeOf f.type) : Sem (Array (Nat × Nat))).run Try.prog w = .ok #[(0, 1), (1, 1)] w :=
  ⟨_, Try.underlying42, fun w => by simp [Try.sizeOf2, Try.sizeOf3]⟩
theorem places44 : ∃ fs, Try.prog.underlying 44 = some (.struct fs) ∧ ∀ w, (fs.mapM fun f => do pure (f.offset, ← sizeOf f.type) : Sem (Array (Nat × Nat))).run Try.prog w = .ok #[(0, 1), (1, 2), (3, 1), (4, 1), (5, 1)] w :=
  ⟨_, Try.underlying44, fun w => by simp [Try.sizeOf3, Try.sizeOf38, Try.sizeOf42, Try.sizeOf43]⟩
theorem places45 : ∃ fs, Try.prog.underlying 45 = some (.struct fs) ∧ ∀ w, (fs.mapM fun f => do pure (f.offset, ← sizeOf f.type) : Sem (Array (Nat × Nat))).run Try.prog w = .ok #[(0, 1), (1, 2), (3, 1), (4, 1), (5, 1)] w :=
  ⟨_, Try.underlying45, fun w => by simp [Try.sizeOf3, Try.sizeOf38, Try.sizeOf42, Try.sizeOf43]⟩
theorem places51 : ∃ fs, Try.prog.underlying 51 = some (.struct fs) ∧ ∀ w, (fs.mapM fun f => do pure (f.offset, ← sizeOf f.type) : Sem (Array (Nat × Nat))).run Try.prog w = .ok #[(0, 3), (3, 6), (9, 1), (10, 1)] w :=
  ⟨_, Try.underlying51, fun w => by simp [Try.sizeOf24, Try.sizeOf3, Try.sizeOf45]⟩
theorem places52 : ∃ fs, Try.prog.underlying 52 = some (.struct fs) ∧ ∀ w, (fs.mapM fun f => do pure (f.offset, ← sizeOf f.type) : Sem (Array (Nat × Nat))).run Try.prog w = .ok #[(0, 3), (3, 6), (9, 1), (10, 1)] w :=
  ⟨_, Try.underlying52, fun w => by simp [Try.sizeOf24, Try.sizeOf3, Try.sizeOf45]⟩
theorem places59 : ∃ fs, Try.prog.underlying 59 = some (.struct fs) ∧ ∀ w, (fs.mapM fun f => do pure (f.offset, ← sizeOf f.type) : Sem (Array (Nat × Nat))).run Try.prog w = .ok #[(0, 3), (3, 1), (4, 1), (5, 1)] w :=
  ⟨_, Try.underlying59, fun w => by simp [Try.sizeOf24, Try.sizeOf3, Try.sizeOf9]⟩
theorem places60 : ∃ fs, Try.prog.underlying 60 = some (.struct fs) ∧ ∀ w, (fs.mapM fun f => do pure (f.offset, ← sizeOf f.type) : Sem (Array (Nat × Nat))).run Try.prog w = .ok #[(0, 3), (3, 1), (4, 1), (5, 1)] w :=
  ⟨_, Try.underlying60, fun w => by simp [Try.sizeOf24, Try.sizeOf3, Try.sizeOf9]⟩
theorem places144 : ∃ fs, Try.prog.underlying 144 = some (.struct fs) ∧ ∀ w, (fs.mapM fun f => do pure (f.offset, ← sizeOf f.type) : Sem (Array (Nat × Nat))).run Try.prog w = .ok #[(0, 1), (1, 1), (2, 1), (3, 1)] w :=
  ⟨_, Try.underlying144, fun w => by simp [Try.sizeOf17, Try.sizeOf9]⟩
theorem places145 : ∃ fs, Try.prog.underlying 145 = some (.struct fs) ∧ ∀ w, (fs.mapM fun f => do pure (f.offset, ← sizeOf f.type) : Sem (Array (Nat × Nat))).run Try.prog w = .ok #[(0, 1), (1, 1), (2, 1), (3, 1)] w :=
  ⟨_, Try.underlying145, fun w => by simp [Try.sizeOf17, Try.sizeOf9]⟩
theorem places147 : ∃ fs, Try.prog.underlying 147 = some (.struct fs) ∧ ∀ w, (fs.mapM fun f => do pure (f.offset, ← sizeOf f.type) : Sem (Array (Nat × Nat))).run Try.prog w = .ok #[(0, 0)] w :=
  ⟨_, Try.underlying147, fun w => by simp [Try.sizeOf146]⟩
theorem places148 : ∃ fs, Try.prog.underlying 148 = some (.struct fs) ∧ ∀ w, (fs.mapM fun f => do pure (f.offset, ← sizeOf f.type) : Sem (Array (Nat × Nat))).run Try.prog w = .ok #[(0, 0)] w :=
  ⟨_, Try.underlying148, fun w => by simp [Try.sizeOf146]⟩
theorem places155 : ∃ fs, Try.prog.underlying 155 = some (.struct fs) ∧ ∀ w, (fs.mapM fun f => do pure (f.offset, ← sizeOf f.type) : Sem (Array (Nat × Nat))).run Try.prog w = .ok #[(0, 1), (1, 1), (2, 1), (3, 1), (4, 1), (5, 1), (6, 1), (7, 1), (8, 1), (9, 1), (10, 1)] w :=
  ⟨_, Try.underlying155, fun w => by simp [Try.sizeOf12, Try.sizeOf132, Try.sizeOf149, Try.sizeOf150, Try.sizeOf151, Try.sizeOf152, Try.sizeOf153, Try.sizeOf154, Try.sizeOf5]⟩
theorem places156 : ∃ fs, Try.prog.underlying 156 = some (.struct fs) ∧ ∀ w, (fs.mapM fun f => do pure (f.offset, ← sizeOf f.type) : Sem (Array (Nat × Nat))).run Try.prog w = .ok #[(0, 1), (1, 1), (2, 1), (3, 1), (4, 1), (5, 1), (6, 1), (7, 1), (8, 1), (9, 1), (10, 1)] w :=
  ⟨_, Try.underlying156, fun w => by simp [Try.sizeOf12, Try.sizeOf132, Try.sizeOf149, Try.sizeOf150, Try.sizeOf151, Try.sizeOf152, Try.sizeOf153, Try.sizeOf154, Try.sizeOf5]⟩
theorem fields7 : ∃ f0 f1 f2 f3, (Try.prog.fieldsOf 7).toList = [f0, f1, f2, f3] ∧ (f0.name = "x" ∧ f0.type = 2 ∧ f0.offset = 0) ∧ (f1.name = "y" ∧ f1.type = 3 ∧ f1.offset = 1) ∧ (f2.name = "signed" ∧ f2.type = 4 ∧ f2.offset = 2) ∧ (f3.name = "code" ∧ f3.type = 6 ∧ f3.offset = 3) := by
  unfold Program.fieldsOf
  rw [Try.underlying7]
  exact ⟨_, _, _, _, rfl, ⟨rfl, rfl, rfl⟩, ⟨rfl, rfl, rfl⟩, ⟨rfl, rfl, rfl⟩, ⟨rfl, rfl, rfl⟩⟩
theorem fields8 : ∃ f0 f1 f2 f3, (Try.prog.fieldsOf 8).toList = [f0, f1, f2, f3] ∧ (f0.name = "x" ∧ f0.type = 2 ∧ f0.offset = 0) ∧ (f1.name = "y" ∧ f1.type = 3 ∧ f1.offset = 1) ∧ (f2.name = "signed" ∧ f2.type = 4 ∧ f2.offset = 2) ∧ (f3.name = "code" ∧ f3.type = 6 ∧ f3.offset = 3) := by
  unfold Program.fieldsOf
  rw [Try.underlying8]
  exact ⟨_, _, _, _, rfl, ⟨rfl, rfl, rfl⟩, ⟨rfl, rfl, rfl⟩, ⟨rfl, rfl, rfl⟩, ⟨rfl, rfl, rfl⟩⟩
theorem fields13 : ∃ f0 f1, (Try.prog.fieldsOf 13).toList = [f0, f1] ∧ (f0.name = "msg" ∧ f0.type = 9 ∧ f0.offset = 0) ∧ (f1.name = "addr" ∧ f1.type = 12 ∧ f1.offset = 1) := by
  unfold Program.fieldsOf
  rw [Try.underlying13]
  exact ⟨_, _, rfl, ⟨rfl, rfl, rfl⟩, ⟨rfl, rfl, rfl⟩⟩
theorem fields14 : ∃ f0 f1, (Try.prog.fieldsOf 14).toList = [f0, f1] ∧ (f0.name = "msg" ∧ f0.type = 9 ∧ f0.offset = 0) ∧ (f1.name = "addr" ∧ f1.type = 12 ∧ f1.offset = 1) := by
  unfold Program.fieldsOf
  rw [Try.underlying14]
  exact ⟨_, _, rfl, ⟨rfl, rfl, rfl⟩, ⟨rfl, rfl, rfl⟩⟩
theorem fields18 : ∃ f0, (Try.prog.fieldsOf 18).toList = [f0] ∧ (f0.name = "typ" ∧ f0.type = 17 ∧ f0.offset = 0) := by
  unfold Program.fieldsOf
  rw [Try.underlying18]
  exact ⟨_, rfl, ⟨rfl, rfl, rfl⟩⟩
theorem fields19 : ∃ f0, (Try.prog.fieldsOf 19).toList = [f0] ∧ (f0.name = "typ" ∧ f0.type = 17 ∧ f0.offset = 0) := by
  unfold Program.fieldsOf
  rw [Try.underlying19]
  exact ⟨_, rfl, ⟨rfl, rfl, rfl⟩⟩
theorem fields23 : ∃ f0 f1 f2, (Try.prog.fieldsOf 23).toList = [f0, f1, f2] ∧ (f0.name = "Valid" ∧ f0.type = 3 ∧ f0.offset = 0) ∧ (f1.name = "Next" ∧ f1.type = 3 ∧ f1.offset = 1) ∧ (f2.name = "L" ∧ f2.type = 22 ∧ f2.offset = 2) := by
  unfold Program.fieldsOf
  rw [Try.underlying23]
  exact ⟨_, _, _, rfl, ⟨rfl, rfl, rfl⟩, ⟨rfl, rfl, rfl⟩, ⟨rfl, rfl, rfl⟩⟩
theorem fields24 : ∃ f0 f1 f2, (Try.prog.fieldsOf 24).toList = [f0, f1, f2] ∧ (f0.name = "Valid" ∧ f0.type = 3 ∧ f0.offset = 0) ∧ (f1.name = "Next" ∧ f1.type = 3 ∧ f1.offset = 1) ∧ (f2.name = "L" ∧ f2.type = 22 ∧ f2.offset = 2) := by
  unfold Program.fieldsOf
  rw [Try.underlying24]
  exact ⟨_, _, _, rfl, ⟨rfl, rfl, rfl⟩, ⟨rfl, rfl, rfl⟩, ⟨rfl, rfl, rfl⟩⟩
theorem fields41 : ∃ f0 f1, (Try.prog.fieldsOf 41).toList = [f0, f1] ∧ (f0.name = "Sec" ∧ f0.type = 2 ∧ f0.offset = 0) ∧ (f1.name = "Zone" ∧ f1.type = 3 ∧ f1.offset = 1) := by
  unfold Program.fieldsOf
  rw [Try.underlying41]
  exact ⟨_, _, rfl, ⟨rfl, rfl, rfl⟩, ⟨rfl, rfl, rfl⟩⟩
theorem fields42 : ∃ f0 f1, (Try.prog.fieldsOf 42).toList = [f0, f1] ∧ (f0.name = "Sec" ∧ f0.type = 2 ∧ f0.offset = 0) ∧ (f1.name = "Zone" ∧ f1.type = 3 ∧ f1.offset = 1) := by
  unfold Program.fieldsOf
  rw [Try.underlying42]
  exact ⟨_, _, rfl, ⟨rfl, rfl, rfl⟩, ⟨rfl, rfl, rfl⟩⟩
theorem fields44 : ∃ f0 f1 f2 f3 f4, (Try.prog.fieldsOf 44).toList = [f0, f1, f2, f3, f4] ∧ (f0.name = "UID" ∧ f0.type = 3 ∧ f0.offset = 0) ∧ (f1.name = "At" ∧ f1.type = 42 ∧ f1.offset = 1) ∧ (f2.name = "Size" ∧ f2.type = 3 ∧ f2.offset = 3) ∧ (f3.name = "Blob" ∧ f3.type = 38 ∧ f3.offset = 4) ∧ (f4.name = "Flags" ∧ f4.type = 43 ∧ f4.offset = 5) := by
  unfold Program.fieldsOf
  rw [Try.underlying44]
  exact ⟨_, _, _, _, _, rfl, ⟨rfl, rfl, rfl⟩, ⟨rfl, rfl, rfl⟩, ⟨rfl, rfl, rfl⟩, ⟨rfl, rfl, rfl⟩, ⟨rfl, rfl, rfl⟩⟩
theorem fields45 : ∃ f0 f1 f2 f3 f4, (Try.prog.fieldsOf 45).toList = [f0, f1, f2, f3, f4] ∧ (f0.name = "UID" ∧ f0.type = 3 ∧ f0.offset = 0) ∧ (f1.name = "At" ∧ f1.type = 42 ∧ f1.offset = 1) ∧ (f2.name = "Size" ∧ f2.type = 3 ∧ f2.offset = 3) ∧ (f3.name = "Blob" ∧ f3.type = 38 ∧ f3.offset = 4) ∧ (f4.name = "Flags" ∧ f4.type = 43 ∧ f4.offset = 5) := by
  unfold Program.fieldsOf
  rw [Try.underlying45]
  exact ⟨_, _, _, _, _, rfl, ⟨rfl, rfl, rfl⟩, ⟨rfl, rfl, rfl⟩, ⟨rfl, rfl, rfl⟩, ⟨rfl, rfl, rfl⟩, ⟨rfl, rfl, rfl⟩⟩
theorem fields51 : ∃ f0 f1 f2 f3, (Try.prog.fieldsOf 51).toList = [f0, f1, f2, f3] ∧ (f0.name = "B" ∧ f0.type = 24 ∧ f0.offset = 0) ∧ (f1.name = "M" ∧ f1.type = 45 ∧ f1.offset = 3) ∧ (f2.name = "Place" ∧ f2.type = 3 ∧ f2.offset = 9) ∧ (f3.name = "Op" ∧ f3.type = 3 ∧ f3.offset = 10) := by
  unfold Program.fieldsOf
  rw [Try.underlying51]
  exact ⟨_, _, _, _, rfl, ⟨rfl, rfl, rfl⟩, ⟨rfl, rfl, rfl⟩, ⟨rfl, rfl, rfl⟩, ⟨rfl, rfl, rfl⟩⟩
theorem fields52 : ∃ f0 f1 f2 f3, (Try.prog.fieldsOf 52).toList = [f0, f1, f2, f3] ∧ (f0.name = "B" ∧ f0.type = 24 ∧ f0.offset = 0) ∧ (f1.name = "M" ∧ f1.type = 45 ∧ f1.offset = 3) ∧ (f2.name = "Place" ∧ f2.type = 3 ∧ f2.offset = 9) ∧ (f3.name = "Op" ∧ f3.type = 3 ∧ f3.offset = 10) := by
  unfold Program.fieldsOf
  rw [Try.underlying52]
  exact ⟨_, _, _, _, rfl, ⟨rfl, rfl, rfl⟩, ⟨rfl, rfl, rfl⟩, ⟨rfl, rfl, rfl⟩, ⟨rfl, rfl, rfl⟩⟩
theorem fields59 : ∃ f0 f1 f2 f3, (Try.prog.fieldsOf 59).toList = [f0, f1, f2, f3] ∧ (f0.name = "B" ∧ f0.type = 24 ∧ f0.offset = 0) ∧ (f1.name = "Valid" ∧ f1.type = 3 ∧ f1.offset = 3) ∧ (f2.name = "UID" ∧ f2.type = 3 ∧ f2.offset = 4) ∧ (f3.name = "S" ∧ f3.type = 9 ∧ f3.offset = 5) := by
  unfold Program.fieldsOf
  rw [Try.underlying59]
  exact ⟨_, _, _, _, rfl, ⟨rfl, rfl, rfl⟩, ⟨rfl, rfl, rfl⟩, ⟨rfl, rfl, rfl⟩, ⟨rfl, rfl, rfl⟩⟩
theorem fields60 : ∃ f0 f1 f2 f3, (Try.prog.fieldsOf 60).toList = [f0, f1, f2, f3] ∧ (f0.name = "B" ∧ f0.type = 24 ∧ f0.offset = 0) ∧ (f1.name = "Valid" ∧ f1.type = 3 ∧ f1.offset = 3) ∧ (f2.name = "UID" ∧ f2.type = 3 ∧ f2.offset = 4) ∧ (f3.name = "S" ∧ f3.type = 9 ∧ f3.offset = 5) := by
  unfold Program.fieldsOf
  rw [Try.underlying60]
  exact ⟨_, _, _, _, rfl, ⟨rfl, rfl, rfl⟩, ⟨rfl, rfl, rfl⟩, ⟨rfl, rfl, rfl⟩, ⟨rfl, rfl, rfl⟩⟩
theorem fields144 : ∃ f0 f1 f2 f3, (Try.prog.fieldsOf 144).toList = [f0, f1, f2, f3] ∧ (f0.name = "_interface" ∧ f0.type = 17 ∧ f0.offset = 0) ∧ (f1.name = "concrete" ∧ f1.type = 17 ∧ f1.offset = 1) ∧ (f2.name = "asserted" ∧ f2.type = 17 ∧ f2.offset = 2) ∧ (f3.name = "missingMethod" ∧ f3.type = 9 ∧ f3.offset = 3) := by
  unfold Program.fieldsOf
  rw [Try.underlying144]
  exact ⟨_, _, _, _, rfl, ⟨rfl, rfl, rfl⟩, ⟨rfl, rfl, rfl⟩, ⟨rfl, rfl, rfl⟩, ⟨rfl, rfl, rfl⟩⟩
theorem fields145 : ∃ f0 f1 f2 f3, (Try.prog.fieldsOf 145).toList = [f0, f1, f2, f3] ∧ (f0.name = "_interface" ∧ f0.type = 17 ∧ f0.offset = 0) ∧ (f1.name = "concrete" ∧ f1.type = 17 ∧ f1.offset = 1) ∧ (f2.name = "asserted" ∧ f2.type = 17 ∧ f2.offset = 2) ∧ (f3.name = "missingMethod" ∧ f3.type = 9 ∧ f3.offset = 3) := by
  unfold Program.fieldsOf
  rw [Try.underlying145]
  exact ⟨_, _, _, _, rfl, ⟨rfl, rfl, rfl⟩, ⟨rfl, rfl, rfl⟩, ⟨rfl, rfl, rfl⟩, ⟨rfl, rfl, rfl⟩⟩
theorem fields147 : ∃ f0, (Try.prog.fieldsOf 147).toList = [f0] ∧ (f0.name = "_" ∧ f0.type = 146 ∧ f0.offset = 0) := by
  unfold Program.fieldsOf
  rw [Try.underlying147]
  exact ⟨_, rfl, ⟨rfl, rfl, rfl⟩⟩
theorem fields148 : ∃ f0, (Try.prog.fieldsOf 148).toList = [f0] ∧ (f0.name = "_" ∧ f0.type = 146 ∧ f0.offset = 0) := by
  unfold Program.fieldsOf
  rw [Try.underlying148]
  exact ⟨_, rfl, ⟨rfl, rfl, rfl⟩⟩
theorem fields155 : ∃ f0 f1 f2 f3 f4 f5 f6 f7 f8 f9 f10, (Try.prog.fieldsOf 155).toList = [f0, f1, f2, f3, f4, f5, f6, f7, f8, f9, f10] ∧ (f0.name = "Size_" ∧ f0.type = 12 ∧ f0.offset = 0) ∧ (f1.name = "PtrBytes" ∧ f1.type = 12 ∧ f1.offset = 1) ∧ (f2.name = "Hash" ∧ f2.type = 132 ∧ f2.offset = 2) ∧ (f3.name = "TFlag" ∧ f3.type = 149 ∧ f3.offset = 3) ∧ (f4.name = "Align_" ∧ f4.type = 5 ∧ f4.offset = 4) ∧ (f5.name = "FieldAlign_" ∧ f5.type = 5 ∧ f5.offset = 5) ∧ (f6.name = "Kind_" ∧ f6.type = 150 ∧ f6.offset = 6) ∧ (f7.name = "Equal" ∧ f7.type = 151 ∧ f7.offset = 7) ∧ (f8.name = "GCData" ∧ f8.type = 152 ∧ f8.offset = 8) ∧ (f9.name = "Str" ∧ f9.type = 153 ∧ f9.offset = 9) ∧ (f10.name = "PtrToThis" ∧ f10.type = 154 ∧ f10.offset = 10) := by
  unfold Program.fieldsOf
  rw [Try.underlying155]
  exact ⟨_, _, _, _, _, _, _, _, _, _, _, rfl, ⟨rfl, rfl, rfl⟩, ⟨rfl, rfl, rfl⟩, ⟨rfl, rfl, rfl⟩, ⟨rfl, rfl, rfl⟩, ⟨rfl, rfl, rfl⟩, ⟨rfl, rfl, rfl⟩, ⟨rfl, rfl, rfl⟩, ⟨rfl, rfl, rfl⟩, ⟨rfl, rfl, rfl⟩, ⟨rfl, rfl, rfl⟩, ⟨rfl, rfl, rfl⟩⟩
theorem fields156 : ∃ f0 f1 f2 f3 f4 f5 f6 f7 f8 f9 f10, (Try.prog.fieldsOf 156).toList = [f0, f1, f2, f3, f4, f5, f6, f7, f8, f9, f10] ∧ (f0.name = "Size_" ∧ f0.type = 12 ∧ f0.offset = 0) ∧ (f1.name = "PtrBytes" ∧ f1.type = 12 ∧ f1.offset = 1) ∧ (f2.name = "Hash" ∧ f2.type = 132 ∧ f2.offset = 2) ∧ (f3.name = "TFlag" ∧ f3.type = 149 ∧ f3.offset = 3) ∧ (f4.name = "Align_" ∧ f4.type = 5 ∧ f4.offset = 4) ∧ (f5.name = "FieldAlign_" ∧ f5.type = 5 ∧ f5.offset = 5) ∧ (f6.name = "Kind_" ∧ f6.type = 150 ∧ f6.offset = 6) ∧ (f7.name = "Equal" ∧ f7.type = 151 ∧ f7.offset = 7) ∧ (f8.name = "GCData" ∧ f8.type = 152 ∧ f8.offset = 8) ∧ (f9.name = "Str" ∧ f9.type = 153 ∧ f9.offset = 9) ∧ (f10.name = "PtrToThis" ∧ f10.type = 154 ∧ f10.offset = 10) := by
  unfold Program.fieldsOf
  rw [Try.underlying156]
  exact ⟨_, _, _, _, _, _, _, _, _, _, _, rfl, ⟨rfl, rfl, rfl⟩, ⟨rfl, rfl, rfl⟩, ⟨rfl, rfl, rfl⟩, ⟨rfl, rfl, rfl⟩, ⟨rfl, rfl, rfl⟩, ⟨rfl, rfl, rfl⟩, ⟨rfl, rfl, rfl⟩, ⟨rfl, rfl, rfl⟩, ⟨rfl, rfl, rfl⟩, ⟨rfl, rfl, rfl⟩, ⟨rfl, rfl, rfl⟩⟩
end Go.Proofs.Ytmfglifjnoilnaa
