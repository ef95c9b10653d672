/- The table of this program's types, with its proof. -/
import Derived.Test.YtgnfjahkhhkmoaaDoorProg
import Derived.Test.YtgnfjahkhhkmoaaDoorVStep
import Derived.KernelRfl
namespace Go.Proofs.YtgnfjahkhhkmoaaDoor.V
open Go
def ti2 : TI := ⟨.int .i64, 1, 8, [.int .i64 0]⟩
theorem tiok2 : ti2.ok Tryd.prog 2 := ⟨by kernel_rfl, TI.mk_info (by kernel_rfl) (by decide) (by decide)⟩
theorem tiz2 : ti2.zv.cells = ti2.zero.toArray := rfl
def ti3 : TI := ⟨.int .i64, 1, 8, [.int .i64 0]⟩
theorem tiok3 : ti3.ok Tryd.prog 3 := ⟨by kernel_rfl, TI.mk_info (by kernel_rfl) (by decide) (by decide)⟩
theorem tiz3 : ti3.zv.cells = ti3.zero.toArray := rfl
def ti4 : TI := ⟨.bool, 1, 1, [.bool false]⟩
theorem tiok4 : ti4.ok Tryd.prog 4 := ⟨by kernel_rfl, TI.mk_info (by kernel_rfl) (by decide) (by decide)⟩
theorem tiz4 : ti4.zv.cells = ti4.zero.toArray := rfl
def ti5 : TI := ⟨.int .u8, 1, 1, [.int .u8 0]⟩
theorem tiok5 : ti5.ok Tryd.prog 5 := ⟨by kernel_rfl, TI.mk_info (by kernel_rfl) (by decide) (by decide)⟩
theorem tiz5 : ti5.zv.cells = ti5.zero.toArray := rfl
def ti9 : TI := ⟨.str, 1, 16, [.string ⟨#[]⟩]⟩
theorem tiok9 : ti9.ok Tryd.prog 9 := ⟨by kernel_rfl, TI.mk_info (by kernel_rfl) (by decide) (by decide)⟩
theorem tiz9 : ti9.zv.cells = ti9.zero.toArray := rfl
def ti12 : TI := ⟨.int .u64, 1, 8, [.int .u64 0]⟩
theorem tiok12 : ti12.ok Tryd.prog 12 := ⟨by kernel_rfl, TI.mk_info (by kernel_rfl) (by decide) (by decide)⟩
theorem tiz12 : ti12.zv.cells = ti12.zero.toArray := rfl
def ti21 : TI := ⟨.int .i32, 1, 4, [.int .i32 0]⟩
theorem tiok21 : ti21.ok Tryd.prog 21 := ⟨by kernel_rfl, TI.mk_info (by kernel_rfl) (by decide) (by decide)⟩
theorem tiz21 : ti21.zv.cells = ti21.zero.toArray := rfl
def ti22 : TI := ⟨.slice 32, 1, 24, [.slice none 0 0]⟩
theorem tiok22 : ti22.ok Tryd.prog 22 := ⟨by kernel_rfl, TI.mk_info (by kernel_rfl) (by decide) (by decide)⟩
theorem tiz22 : ti22.zv.cells = ti22.zero.toArray := rfl
def ti23 : TI := ⟨.slice 25, 1, 24, [.slice none 0 0]⟩
theorem tiok23 : ti23.ok Tryd.prog 23 := ⟨by kernel_rfl, TI.mk_info (by kernel_rfl) (by decide) (by decide)⟩
theorem tiz23 : ti23.zv.cells = ti23.zero.toArray := rfl
def ti24 : TI := ⟨.struct [(0, 3), (1, 3), (2, 23)], 3, 40, [.int .i64 0, .int .i64 0, .slice none 0 0]⟩
theorem tiok24 : ti24.ok Tryd.prog 24 := TI.mk_struct (fs := [(0, 3), (1, 3), (2, 23)]) rfl (by kernel_rfl) (by kernel_rfl) (by decide) (by decide)
theorem tiz24 : ti24.zv.cells = ti24.zero.toArray := rfl
def ti25 : TI := ⟨.struct [(0, 3), (1, 3), (2, 23)], 3, 40, [.int .i64 0, .int .i64 0, .slice none 0 0]⟩
theorem tiok25 : ti25.ok Tryd.prog 25 := TI.mk_struct (fs := [(0, 3), (1, 3), (2, 23)]) rfl (by kernel_rfl) (by kernel_rfl) (by decide) (by decide)
theorem tiz25 : ti25.zv.cells = ti25.zero.toArray := rfl
def ti30 : TI := ⟨.slice 34, 1, 24, [.slice none 0 0]⟩
theorem tiok30 : ti30.ok Tryd.prog 30 := ⟨by kernel_rfl, TI.mk_info (by kernel_rfl) (by decide) (by decide)⟩
theorem tiz30 : ti30.zv.cells = ti30.zero.toArray := rfl
def ti31 : TI := ⟨.struct [(0, 9), (1, 3), (2, 30)], 3, 48, [.string ⟨#[]⟩, .int .i64 0, .slice none 0 0]⟩
theorem tiok31 : ti31.ok Tryd.prog 31 := TI.mk_struct (fs := [(0, 9), (1, 3), (2, 30)]) rfl (by kernel_rfl) (by kernel_rfl) (by decide) (by decide)
theorem tiz31 : ti31.zv.cells = ti31.zero.toArray := rfl
def ti32 : TI := ⟨.struct [(0, 9), (1, 3), (2, 30)], 3, 48, [.string ⟨#[]⟩, .int .i64 0, .slice none 0 0]⟩
theorem tiok32 : ti32.ok Tryd.prog 32 := TI.mk_struct (fs := [(0, 9), (1, 3), (2, 30)]) rfl (by kernel_rfl) (by kernel_rfl) (by decide) (by decide)
theorem tiz32 : ti32.zv.cells = ti32.zero.toArray := rfl
def ti33 : TI := ⟨.struct [(0, 9), (1, 23)], 2, 40, [.string ⟨#[]⟩, .slice none 0 0]⟩
theorem tiok33 : ti33.ok Tryd.prog 33 := TI.mk_struct (fs := [(0, 9), (1, 23)]) rfl (by kernel_rfl) (by kernel_rfl) (by decide) (by decide)
theorem tiz33 : ti33.zv.cells = ti33.zero.toArray := rfl
def ti34 : TI := ⟨.struct [(0, 9), (1, 23)], 2, 40, [.string ⟨#[]⟩, .slice none 0 0]⟩
theorem tiok34 : ti34.ok Tryd.prog 34 := TI.mk_struct (fs := [(0, 9), (1, 23)]) rfl (by kernel_rfl) (by kernel_rfl) (by decide) (by decide)
theorem tiz34 : ti34.zv.cells = ti34.zero.toArray := rfl
def ti36 : TI := ⟨.ptr 3, 1, 8, [.pointer none]⟩
theorem tiok36 : ti36.ok Tryd.prog 36 := ⟨by kernel_rfl, TI.mk_info (by kernel_rfl) (by decide) (by decide)⟩
theorem tiz36 : ti36.zv.cells = ti36.zero.toArray := rfl
def ti43 : TI := ⟨.slice 9, 1, 24, [.slice none 0 0]⟩
theorem tiok43 : ti43.ok Tryd.prog 43 := ⟨by kernel_rfl, TI.mk_info (by kernel_rfl) (by decide) (by decide)⟩
theorem tiz43 : ti43.zv.cells = ti43.zero.toArray := rfl
def ti45 : TI := ⟨.slice 5, 1, 24, [.slice none 0 0]⟩
theorem tiok45 : ti45.ok Tryd.prog 45 := ⟨by kernel_rfl, TI.mk_info (by kernel_rfl) (by decide) (by decide)⟩
theorem tiz45 : ti45.zv.cells = ti45.zero.toArray := rfl
def ti47 : TI := ⟨.ptr 49, 1, 8, [.pointer none]⟩
theorem tiok47 : ti47.ok Tryd.prog 47 := ⟨by kernel_rfl, TI.mk_info (by kernel_rfl) (by decide) (by decide)⟩
theorem tiz47 : ti47.zv.cells = ti47.zero.toArray := rfl
def ti57 : TI := ⟨.int .u64, 1, 8, [.int .u64 0]⟩
theorem tiok57 : ti57.ok Tryd.prog 57 := ⟨by kernel_rfl, TI.mk_info (by kernel_rfl) (by decide) (by decide)⟩
theorem tiz57 : ti57.zv.cells = ti57.zero.toArray := rfl
def ti62 : TI := ⟨.ptr 5, 1, 8, [.pointer none]⟩
theorem tiok62 : ti62.ok Tryd.prog 62 := ⟨by kernel_rfl, TI.mk_info (by kernel_rfl) (by decide) (by decide)⟩
theorem tiz62 : ti62.zv.cells = ti62.zero.toArray := rfl
def ti66 : TI := ⟨.int .u32, 1, 4, [.int .u32 0]⟩
theorem tiok66 : ti66.ok Tryd.prog 66 := ⟨by kernel_rfl, TI.mk_info (by kernel_rfl) (by decide) (by decide)⟩
theorem tiz66 : ti66.zv.cells = ti66.zero.toArray := rfl
def ti69 : TI := ⟨.int .u64, 1, 8, [.int .u64 0]⟩
theorem tiok69 : ti69.ok Tryd.prog 69 := ⟨by kernel_rfl, TI.mk_info (by kernel_rfl) (by decide) (by decide)⟩
theorem tiz69 : ti69.zv.cells = ti69.zero.toArray := rfl
def ti0 : TI := ⟨.none, 0, 0, []⟩
def td : Tab := fun t => match t with
  | 2 => ti2
  | 3 => ti3
  | 4 => ti4
  | 5 => ti5
  | 9 => ti9
  | 12 => ti12
  | 21 => ti21
  | 22 => ti22
  | 23 => ti23
  | 24 => ti24
  | 25 => ti25
  | 30 => ti30
  | 31 => ti31
  | 32 => ti32
  | 33 => ti33
  | 34 => ti34
  | 36 => ti36
  | 43 => ti43
  | 45 => ti45
  | 47 => ti47
  | 57 => ti57
  | 62 => ti62
  | 66 => ti66
  | 69 => ti69
  | _ => ti0
theorem tds2 : (td 2).size = 1 := rfl
theorem tds3 : (td 3).size = 1 := rfl
theorem tds4 : (td 4).size = 1 := rfl
theorem tds5 : (td 5).size = 1 := rfl
theorem tds9 : (td 9).size = 1 := rfl
theorem tds12 : (td 12).size = 1 := rfl
theorem tds21 : (td 21).size = 1 := rfl
theorem tds22 : (td 22).size = 1 := rfl
theorem tds23 : (td 23).size = 1 := rfl
theorem tds24 : (td 24).size = 3 := rfl
theorem tds25 : (td 25).size = 3 := rfl
theorem tds30 : (td 30).size = 1 := rfl
theorem tds31 : (td 31).size = 3 := rfl
theorem tds32 : (td 32).size = 3 := rfl
theorem tds33 : (td 33).size = 2 := rfl
theorem tds34 : (td 34).size = 2 := rfl
theorem tds36 : (td 36).size = 1 := rfl
theorem tds43 : (td 43).size = 1 := rfl
theorem tds45 : (td 45).size = 1 := rfl
theorem tds47 : (td 47).size = 1 := rfl
theorem tds57 : (td 57).size = 1 := rfl
theorem tds62 : (td 62).size = 1 := rfl
theorem tds66 : (td 66).size = 1 := rfl
theorem tds69 : (td 69).size = 1 := rfl
set_option maxRecDepth 100000 in
theorem td_ok : td.ok Tryd.prog := by
  refine ⟨fun t => ?_, fun t h => ?_⟩
  · unfold td; split <;> first | exact tiok2 | exact tiok3 | exact tiok4 | exact tiok5 | exact tiok9 | exact tiok12 | exact tiok21 | exact tiok22 | exact tiok23 | exact tiok24 | exact tiok25 | exact tiok30 | exact tiok31 | exact tiok32 | exact tiok33 | exact tiok34 | exact tiok36 | exact tiok43 | exact tiok45 | exact tiok47 | exact tiok57 | exact tiok62 | exact tiok66 | exact tiok69 | trivial
  · unfold td at h ⊢; split <;> first | exact tiz2 | exact tiz3 | exact tiz4 | exact tiz5 | exact tiz9 | exact tiz12 | exact tiz21 | exact tiz22 | exact tiz23 | exact tiz24 | exact tiz25 | exact tiz30 | exact tiz31 | exact tiz32 | exact tiz33 | exact tiz34 | exact tiz36 | exact tiz43 | exact tiz45 | exact tiz47 | exact tiz57 | exact tiz62 | exact tiz66 | exact tiz69 | (simp [ti0, TD.known] at h)
end Go.Proofs.YtgnfjahkhhkmoaaDoor.V
