/- The table of this program's types, with its proof. -/
import Derived.Test.YtoiolofgcgkgiaaProg
import Derived.Test.YtoiolofgcgkgiaaVStep
import Derived.KernelRfl
namespace Go.Proofs.Ytoiolofgcgkgiaa.V
open Go
def ti2 : TI := ⟨.int .i64, 1, 8, [.int .i64 0]⟩
theorem tiok2 : ti2.ok Try.prog 2 := ⟨by kernel_rfl, TI.mk_info (by kernel_rfl) (by decide) (by decide)⟩
theorem tiz2 : ti2.zv.cells = ti2.zero.toArray := rfl
def ti3 : TI := ⟨.int .i64, 1, 8, [.int .i64 0]⟩
theorem tiok3 : ti3.ok Try.prog 3 := ⟨by kernel_rfl, TI.mk_info (by kernel_rfl) (by decide) (by decide)⟩
theorem tiz3 : ti3.zv.cells = ti3.zero.toArray := rfl
def ti4 : TI := ⟨.bool, 1, 1, [.bool false]⟩
theorem tiok4 : ti4.ok Try.prog 4 := ⟨by kernel_rfl, TI.mk_info (by kernel_rfl) (by decide) (by decide)⟩
theorem tiz4 : ti4.zv.cells = ti4.zero.toArray := rfl
def ti5 : TI := ⟨.int .u8, 1, 1, [.int .u8 0]⟩
theorem tiok5 : ti5.ok Try.prog 5 := ⟨by kernel_rfl, TI.mk_info (by kernel_rfl) (by decide) (by decide)⟩
theorem tiz5 : ti5.zv.cells = ti5.zero.toArray := rfl
def ti9 : TI := ⟨.str, 1, 16, [.string ⟨#[]⟩]⟩
theorem tiok9 : ti9.ok Try.prog 9 := ⟨by kernel_rfl, TI.mk_info (by kernel_rfl) (by decide) (by decide)⟩
theorem tiz9 : ti9.zv.cells = ti9.zero.toArray := rfl
def ti12 : TI := ⟨.int .u64, 1, 8, [.int .u64 0]⟩
theorem tiok12 : ti12.ok Try.prog 12 := ⟨by kernel_rfl, TI.mk_info (by kernel_rfl) (by decide) (by decide)⟩
theorem tiz12 : ti12.zv.cells = ti12.zero.toArray := rfl
def ti21 : TI := ⟨.int .i32, 1, 4, [.int .i32 0]⟩
theorem tiok21 : ti21.ok Try.prog 21 := ⟨by kernel_rfl, TI.mk_info (by kernel_rfl) (by decide) (by decide)⟩
theorem tiz21 : ti21.zv.cells = ti21.zero.toArray := rfl
def ti23 : TI := ⟨.slice 31, 1, 24, [.slice none 0 0]⟩
theorem tiok23 : ti23.ok Try.prog 23 := ⟨by kernel_rfl, TI.mk_info (by kernel_rfl) (by decide) (by decide)⟩
theorem tiz23 : ti23.zv.cells = ti23.zero.toArray := rfl
def ti24 : TI := ⟨.int .i64, 1, 8, [.int .i64 0]⟩
theorem tiok24 : ti24.ok Try.prog 24 := ⟨by kernel_rfl, TI.mk_info (by kernel_rfl) (by decide) (by decide)⟩
theorem tiz24 : ti24.zv.cells = ti24.zero.toArray := rfl
def ti27 : TI := ⟨.slice 32, 1, 24, [.slice none 0 0]⟩
theorem tiok27 : ti27.ok Try.prog 27 := ⟨by kernel_rfl, TI.mk_info (by kernel_rfl) (by decide) (by decide)⟩
theorem tiz27 : ti27.zv.cells = ti27.zero.toArray := rfl
def ti30 : TI := ⟨.struct [(0, 3), (1, 9), (2, 3)], 3, 32, [.int .i64 0, .string ⟨#[]⟩, .int .i64 0]⟩
theorem tiok30 : ti30.ok Try.prog 30 := TI.mk_struct (fs := [(0, 3), (1, 9), (2, 3)]) rfl (by kernel_rfl) (by kernel_rfl) (by decide) (by decide)
theorem tiz30 : ti30.zv.cells = ti30.zero.toArray := rfl
def ti31 : TI := ⟨.struct [(0, 3), (1, 9), (2, 3)], 3, 32, [.int .i64 0, .string ⟨#[]⟩, .int .i64 0]⟩
theorem tiok31 : ti31.ok Try.prog 31 := TI.mk_struct (fs := [(0, 3), (1, 9), (2, 3)]) rfl (by kernel_rfl) (by kernel_rfl) (by decide) (by decide)
theorem tiz31 : ti31.zv.cells = ti31.zero.toArray := rfl
def ti32 : TI := ⟨.struct [(0, 3), (1, 9), (2, 3)], 3, 32, [.int .i64 0, .string ⟨#[]⟩, .int .i64 0]⟩
theorem tiok32 : ti32.ok Try.prog 32 := TI.mk_struct (fs := [(0, 3), (1, 9), (2, 3)]) rfl (by kernel_rfl) (by kernel_rfl) (by decide) (by decide)
theorem tiz32 : ti32.zv.cells = ti32.zero.toArray := rfl
def ti34 : TI := ⟨.slice 9, 1, 24, [.slice none 0 0]⟩
theorem tiok34 : ti34.ok Try.prog 34 := ⟨by kernel_rfl, TI.mk_info (by kernel_rfl) (by decide) (by decide)⟩
theorem tiz34 : ti34.zv.cells = ti34.zero.toArray := rfl
def ti51 : TI := ⟨.int .u32, 1, 4, [.int .u32 0]⟩
theorem tiok51 : ti51.ok Try.prog 51 := ⟨by kernel_rfl, TI.mk_info (by kernel_rfl) (by decide) (by decide)⟩
theorem tiz51 : ti51.zv.cells = ti51.zero.toArray := rfl
def ti55 : TI := ⟨.ptr 5, 1, 8, [.pointer none]⟩
theorem tiok55 : ti55.ok Try.prog 55 := ⟨by kernel_rfl, TI.mk_info (by kernel_rfl) (by decide) (by decide)⟩
theorem tiz55 : ti55.zv.cells = ti55.zero.toArray := rfl
def ti0 : TI := ⟨.none, 0, 0, []⟩
def td : Tab := fun t => match t with
  | 2 => ti2
  | 3 => ti3
  | 4 => ti4
  | 5 => ti5
  | 9 => ti9
  | 12 => ti12
  | 21 => ti21
  | 23 => ti23
  | 24 => ti24
  | 27 => ti27
  | 30 => ti30
  | 31 => ti31
  | 32 => ti32
  | 34 => ti34
  | 51 => ti51
  | 55 => ti55
  | _ => ti0
theorem tds2 : (td 2).size = 1 := rfl
theorem tds3 : (td 3).size = 1 := rfl
theorem tds4 : (td 4).size = 1 := rfl
theorem tds5 : (td 5).size = 1 := rfl
theorem tds9 : (td 9).size = 1 := rfl
theorem tds12 : (td 12).size = 1 := rfl
theorem tds21 : (td 21).size = 1 := rfl
theorem tds23 : (td 23).size = 1 := rfl
theorem tds24 : (td 24).size = 1 := rfl
theorem tds27 : (td 27).size = 1 := rfl
theorem tds30 : (td 30).size = 3 := rfl
theorem tds31 : (td 31).size = 3 := rfl
theorem tds32 : (td 32).size = 3 := rfl
theorem tds34 : (td 34).size = 1 := rfl
theorem tds51 : (td 51).size = 1 := rfl
theorem tds55 : (td 55).size = 1 := rfl
theorem td_ok : td.ok Try.prog := by
  refine ⟨fun t => ?_, fun t h => ?_⟩
  · unfold td; split <;> first | exact tiok2 | exact tiok3 | exact tiok4 | exact tiok5 | exact tiok9 | exact tiok12 | exact tiok21 | exact tiok23 | exact tiok24 | exact tiok27 | exact tiok30 | exact tiok31 | exact tiok32 | exact tiok34 | exact tiok51 | exact tiok55 | trivial
  · unfold td at h ⊢; split <;> first | exact tiz2 | exact tiz3 | exact tiz4 | exact tiz5 | exact tiz9 | exact tiz12 | exact tiz21 | exact tiz23 | exact tiz24 | exact tiz27 | exact tiz30 | exact tiz31 | exact tiz32 | exact tiz34 | exact tiz51 | exact tiz55 | (simp [ti0, TD.known] at h)
end Go.Proofs.Ytoiolofgcgkgiaa.V
