/-
  THE TYPES OF THIS SEAT's PROGRAM, as the engine reads them: printed by gen_types2.py off the seat's translation.
-/
import Derived.Test.YtbpchamlhblddaaChecked
import Derived.Test.YtbpchamlhblddaaK13
set_option linter.all false
namespace Go.Proofs.Ytbpchamlhblddaa
open Go Go.K

/-- func() -/
def e1 : TI := { kind := 8, flds := [], el := 0, len := 0, int := none, zero := [.nilFunc], z := [.nilf], sz := 1, bytes := 8, flat := false }
theorem f1 : TI.Facts Try.prog 1 e1 ∧ e1.Own := ⟨⟨by kernel_rfl, by kernel_rfl, fun h => by cases h⟩, ⟨rfl, rfl, rfl, fun _ => by decide⟩⟩
/-- int64 -/
def e2 : TI := { kind := 6, flds := [], el := 0, len := 0, int := some .i64, zero := [.int .i64 0], z := [.int .i64 0], sz := 1, bytes := 8, flat := false }
theorem f2 : TI.Facts Try.prog 2 e2 ∧ e2.Own := ⟨⟨by kernel_rfl, by kernel_rfl, fun h => by cases h⟩, ⟨rfl, rfl, rfl, fun _ => by decide⟩⟩
/-- int -/
def e3 : TI := { kind := 6, flds := [], el := 0, len := 0, int := some .i64, zero := [.int .i64 0], z := [.int .i64 0], sz := 1, bytes := 8, flat := false }
theorem f3 : TI.Facts Try.prog 3 e3 ∧ e3.Own := ⟨⟨by kernel_rfl, by kernel_rfl, fun h => by cases h⟩, ⟨rfl, rfl, rfl, fun _ => by decide⟩⟩
/-- bool -/
def e4 : TI := { kind := 5, flds := [], el := 0, len := 0, int := none, zero := [.bool false], z := [.bool false], sz := 1, bytes := 1, flat := false }
theorem f4 : TI.Facts Try.prog 4 e4 ∧ e4.Own := ⟨⟨by kernel_rfl, by kernel_rfl, fun h => by cases h⟩, ⟨rfl, rfl, rfl, fun _ => by decide⟩⟩
/-- uint8 -/
def e5 : TI := { kind := 6, flds := [], el := 0, len := 0, int := some .u8, zero := [.int .u8 0], z := [.int .u8 0], sz := 1, bytes := 1, flat := false }
theorem f5 : TI.Facts Try.prog 5 e5 ∧ e5.Own := ⟨⟨by kernel_rfl, by kernel_rfl, fun h => by cases h⟩, ⟨rfl, rfl, rfl, fun _ => by decide⟩⟩
/-- abi.BoundsErrorCode -/
def e6 : TI := { kind := 6, flds := [], el := 0, len := 0, int := some .u8, zero := [.int .u8 0], z := [.int .u8 0], sz := 1, bytes := 1, flat := false }
theorem f6 : TI.Facts Try.prog 6 e6 ∧ e6.Own := ⟨⟨by kernel_rfl, by kernel_rfl, fun h => by cases h⟩, ⟨rfl, rfl, rfl, fun _ => by decide⟩⟩
/-- struct { x int64; y int; signed bool; code abi.BoundsErrorCode } -/
def e7 : TI := { kind := 1, flds := [(0, 2), (1, 3), (2, 4), (3, 6)], el := 0, len := 0, int := none, zero := [.int .i64 0, .int .i64 0, .bool false, .int .u8 0], z := [.int .i64 0, .int .i64 0, .bool false, .int .u8 0], sz := 4, bytes := 24, flat := true }
theorem f7 : TI.Facts Try.prog 7 e7 ∧ e7.Own := ⟨⟨by kernel_rfl, by kernel_rfl, fun _ => by kernel_rfl⟩, ⟨rfl, rfl, rfl, fun _ => by decide⟩⟩
/-- runtime.boundsError -/
def e8 : TI := { kind := 1, flds := [(0, 2), (1, 3), (2, 4), (3, 6)], el := 0, len := 0, int := none, zero := [.int .i64 0, .int .i64 0, .bool false, .int .u8 0], z := [.int .i64 0, .int .i64 0, .bool false, .int .u8 0], sz := 4, bytes := 24, flat := true }
theorem f8 : TI.Facts Try.prog 8 e8 ∧ e8.Own := ⟨⟨by kernel_rfl, by kernel_rfl, fun _ => by kernel_rfl⟩, ⟨rfl, rfl, rfl, fun _ => by decide⟩⟩
/-- string -/
def e9 : TI := { kind := 7, flds := [], el := 0, len := 0, int := none, zero := [.string ByteArray.empty], z := [.str ByteArray.empty], sz := 1, bytes := 16, flat := false }
theorem f9 : TI.Facts Try.prog 9 e9 ∧ e9.Own := ⟨⟨by kernel_rfl, by kernel_rfl, fun h => by cases h⟩, ⟨rfl, rfl, rfl, fun _ => by decide⟩⟩
/-- runtime.errorString -/
def e10 : TI := { kind := 7, flds := [], el := 0, len := 0, int := none, zero := [.string ByteArray.empty], z := [.str ByteArray.empty], sz := 1, bytes := 16, flat := false }
theorem f10 : TI.Facts Try.prog 10 e10 ∧ e10.Own := ⟨⟨by kernel_rfl, by kernel_rfl, fun h => by cases h⟩, ⟨rfl, rfl, rfl, fun _ => by decide⟩⟩
/-- runtime.plainError -/
def e11 : TI := { kind := 7, flds := [], el := 0, len := 0, int := none, zero := [.string ByteArray.empty], z := [.str ByteArray.empty], sz := 1, bytes := 16, flat := false }
theorem f11 : TI.Facts Try.prog 11 e11 ∧ e11.Own := ⟨⟨by kernel_rfl, by kernel_rfl, fun h => by cases h⟩, ⟨rfl, rfl, rfl, fun _ => by decide⟩⟩
/-- uintptr -/
def e12 : TI := { kind := 6, flds := [], el := 0, len := 0, int := some .u64, zero := [.int .u64 0], z := [.int .u64 0], sz := 1, bytes := 8, flat := false }
theorem f12 : TI.Facts Try.prog 12 e12 ∧ e12.Own := ⟨⟨by kernel_rfl, by kernel_rfl, fun h => by cases h⟩, ⟨rfl, rfl, rfl, fun _ => by decide⟩⟩
/-- struct { msg string; addr uintptr } -/
def e13 : TI := { kind := 1, flds := [(0, 9), (1, 12)], el := 0, len := 0, int := none, zero := [.string ByteArray.empty, .int .u64 0], z := [.str ByteArray.empty, .int .u64 0], sz := 2, bytes := 24, flat := false }
theorem f13 : TI.Facts Try.prog 13 e13 ∧ e13.Own := ⟨⟨by kernel_rfl, by kernel_rfl, fun h => by cases h⟩, ⟨rfl, rfl, rfl, fun _ => by decide⟩⟩
/-- runtime.errorAddressString -/
def e14 : TI := { kind := 1, flds := [(0, 9), (1, 12)], el := 0, len := 0, int := none, zero := [.string ByteArray.empty, .int .u64 0], z := [.str ByteArray.empty, .int .u64 0], sz := 2, bytes := 24, flat := false }
theorem f14 : TI.Facts Try.prog 14 e14 ∧ e14.Own := ⟨⟨by kernel_rfl, by kernel_rfl, fun h => by cases h⟩, ⟨rfl, rfl, rfl, fun _ => by decide⟩⟩
/-- *runtime.TypeAssertionError -/
def e15 : TI := { kind := 4, flds := [], el := 67, len := 0, int := none, zero := [.pointer none], z := [.nilp], sz := 1, bytes := 8, flat := false }
theorem f15 : TI.Facts Try.prog 15 e15 ∧ e15.Own := ⟨⟨by kernel_rfl, by kernel_rfl, fun h => by cases h⟩, ⟨rfl, rfl, rfl, fun _ => by decide⟩⟩
/-- *runtime.PanicNilError -/
def e16 : TI := { kind := 4, flds := [], el := 70, len := 0, int := none, zero := [.pointer none], z := [.nilp], sz := 1, bytes := 8, flat := false }
theorem f16 : TI.Facts Try.prog 16 e16 ∧ e16.Own := ⟨⟨by kernel_rfl, by kernel_rfl, fun h => by cases h⟩, ⟨rfl, rfl, rfl, fun _ => by decide⟩⟩
/-- *abi.Type -/
def e17 : TI := { kind := 4, flds := [], el := 80, len := 0, int := none, zero := [.pointer none], z := [.nilp], sz := 1, bytes := 8, flat := false }
theorem f17 : TI.Facts Try.prog 17 e17 ∧ e17.Own := ⟨⟨by kernel_rfl, by kernel_rfl, fun h => by cases h⟩, ⟨rfl, rfl, rfl, fun _ => by decide⟩⟩
/-- struct { typ *abi.Type } -/
def e18 : TI := { kind := 1, flds := [(0, 17)], el := 0, len := 0, int := none, zero := [.pointer none], z := [.nilp], sz := 1, bytes := 8, flat := false }
theorem f18 : TI.Facts Try.prog 18 e18 ∧ e18.Own := ⟨⟨by kernel_rfl, by kernel_rfl, fun h => by cases h⟩, ⟨rfl, rfl, rfl, fun _ => by decide⟩⟩
/-- maps.unhashableTypeError -/
def e19 : TI := { kind := 1, flds := [(0, 17)], el := 0, len := 0, int := none, zero := [.pointer none], z := [.nilp], sz := 1, bytes := 8, flat := false }
theorem f19 : TI.Facts Try.prog 19 e19 ∧ e19.Own := ⟨⟨by kernel_rfl, by kernel_rfl, fun h => by cases h⟩, ⟨rfl, rfl, rfl, fun _ => by decide⟩⟩
/-- int32 -/
def e21 : TI := { kind := 6, flds := [], el := 0, len := 0, int := some .i32, zero := [.int .i32 0], z := [.int .i32 0], sz := 1, bytes := 4, flat := false }
theorem f21 : TI.Facts Try.prog 21 e21 ∧ e21.Own := ⟨⟨by kernel_rfl, by kernel_rfl, fun h => by cases h⟩, ⟨rfl, rfl, rfl, fun _ => by decide⟩⟩
/-- []uint8 -/
def e22 : TI := { kind := 3, flds := [], el := 5, len := 0, int := none, zero := [.slice none 0 0], z := [.emp], sz := 1, bytes := 24, flat := false }
theorem f22 : TI.Facts Try.prog 22 e22 ∧ e22.Own := ⟨⟨by kernel_rfl, by kernel_rfl, fun h => by cases h⟩, ⟨rfl, rfl, rfl, fun _ => by decide⟩⟩
/-- struct { X int; Y int; W int; H int; Values []uint8 } -/
def e23 : TI := { kind := 1, flds := [(0, 3), (1, 3), (2, 3), (3, 3), (4, 22)], el := 0, len := 0, int := none, zero := [.int .i64 0, .int .i64 0, .int .i64 0, .int .i64 0, .slice none 0 0], z := [.int .i64 0, .int .i64 0, .int .i64 0, .int .i64 0, .emp], sz := 5, bytes := 56, flat := false }
theorem f23 : TI.Facts Try.prog 23 e23 ∧ e23.Own := ⟨⟨by kernel_rfl, by kernel_rfl, fun h => by cases h⟩, ⟨rfl, rfl, rfl, fun _ => by decide⟩⟩
/-- api.Field -/
def e24 : TI := { kind := 1, flds := [(0, 3), (1, 3), (2, 3), (3, 3), (4, 22)], el := 0, len := 0, int := none, zero := [.int .i64 0, .int .i64 0, .int .i64 0, .int .i64 0, .slice none 0 0], z := [.int .i64 0, .int .i64 0, .int .i64 0, .int .i64 0, .emp], sz := 5, bytes := 56, flat := false }
theorem f24 : TI.Facts Try.prog 24 e24 ∧ e24.Own := ⟨⟨by kernel_rfl, by kernel_rfl, fun h => by cases h⟩, ⟨rfl, rfl, rfl, fun _ => by decide⟩⟩
/-- struct { X0 int; Y0 int; X1 int; Y1 int } -/
def e25 : TI := { kind := 1, flds := [(0, 3), (1, 3), (2, 3), (3, 3)], el := 0, len := 0, int := none, zero := [.int .i64 0, .int .i64 0, .int .i64 0, .int .i64 0], z := [.int .i64 0, .int .i64 0, .int .i64 0, .int .i64 0], sz := 4, bytes := 32, flat := true }
theorem f25 : TI.Facts Try.prog 25 e25 ∧ e25.Own := ⟨⟨by kernel_rfl, by kernel_rfl, fun _ => by kernel_rfl⟩, ⟨rfl, rfl, rfl, fun _ => by decide⟩⟩
/-- api.Rect -/
def e26 : TI := { kind := 1, flds := [(0, 3), (1, 3), (2, 3), (3, 3)], el := 0, len := 0, int := none, zero := [.int .i64 0, .int .i64 0, .int .i64 0, .int .i64 0], z := [.int .i64 0, .int .i64 0, .int .i64 0, .int .i64 0], sz := 4, bytes := 32, flat := true }
theorem f26 : TI.Facts Try.prog 26 e26 ∧ e26.Own := ⟨⟨by kernel_rfl, by kernel_rfl, fun _ => by kernel_rfl⟩, ⟨rfl, rfl, rfl, fun _ => by decide⟩⟩
/-- func() bool -/
def e27 : TI := { kind := 8, flds := [], el := 0, len := 0, int := none, zero := [.nilFunc], z := [.nilf], sz := 1, bytes := 8, flat := false }
theorem f27 : TI.Facts Try.prog 27 e27 ∧ e27.Own := ⟨⟨by kernel_rfl, by kernel_rfl, fun h => by cases h⟩, ⟨rfl, rfl, rfl, fun _ => by decide⟩⟩
/-- func(api.Field) bool -/
def e28 : TI := { kind := 8, flds := [], el := 0, len := 0, int := none, zero := [.nilFunc], z := [.nilf], sz := 1, bytes := 8, flat := false }
theorem f28 : TI.Facts Try.prog 28 e28 ∧ e28.Own := ⟨⟨by kernel_rfl, by kernel_rfl, fun h => by cases h⟩, ⟨rfl, rfl, rfl, fun _ => by decide⟩⟩
/-- *pyramid.Pyramid -/
def e29 : TI := { kind := 4, flds := [], el := 58, len := 0, int := none, zero := [.pointer none], z := [.nilp], sz := 1, bytes := 8, flat := false }
theorem f29 : TI.Facts Try.prog 29 e29 ∧ e29.Own := ⟨⟨by kernel_rfl, by kernel_rfl, fun h => by cases h⟩, ⟨rfl, rfl, rfl, fun _ => by decide⟩⟩
/-- api.Errno -/
def e30 : TI := { kind := 6, flds := [], el := 0, len := 0, int := some .i64, zero := [.int .i64 0], z := [.int .i64 0], sz := 1, bytes := 8, flat := false }
theorem f30 : TI.Facts Try.prog 30 e30 ∧ e30.Own := ⟨⟨by kernel_rfl, by kernel_rfl, fun h => by cases h⟩, ⟨rfl, rfl, rfl, fun _ => by decide⟩⟩
/-- func(api.Field) (*pyramid.Pyramid, api.Errno) -/
def e32 : TI := { kind := 8, flds := [], el := 0, len := 0, int := none, zero := [.nilFunc], z := [.nilf], sz := 1, bytes := 8, flat := false }
theorem f32 : TI.Facts Try.prog 32 e32 ∧ e32.Own := ⟨⟨by kernel_rfl, by kernel_rfl, fun h => by cases h⟩, ⟨rfl, rfl, rfl, fun _ => by decide⟩⟩
/-- func(api.Rect) int -/
def e33 : TI := { kind := 8, flds := [], el := 0, len := 0, int := none, zero := [.nilFunc], z := [.nilf], sz := 1, bytes := 8, flat := false }
theorem f33 : TI.Facts Try.prog 33 e33 ∧ e33.Own := ⟨⟨by kernel_rfl, by kernel_rfl, fun h => by cases h⟩, ⟨rfl, rfl, rfl, fun _ => by decide⟩⟩
/-- func(api.Field, api.Rect) int -/
def e34 : TI := { kind := 8, flds := [], el := 0, len := 0, int := none, zero := [.nilFunc], z := [.nilf], sz := 1, bytes := 8, flat := false }
theorem f34 : TI.Facts Try.prog 34 e34 ∧ e34.Own := ⟨⟨by kernel_rfl, by kernel_rfl, fun h => by cases h⟩, ⟨rfl, rfl, rfl, fun _ => by decide⟩⟩
/-- func(api.Field, api.Rect) bool -/
def e35 : TI := { kind := 8, flds := [], el := 0, len := 0, int := none, zero := [.nilFunc], z := [.nilf], sz := 1, bytes := 8, flat := false }
theorem f35 : TI.Facts Try.prog 35 e35 ∧ e35.Own := ⟨⟨by kernel_rfl, by kernel_rfl, fun h => by cases h⟩, ⟨rfl, rfl, rfl, fun _ => by decide⟩⟩
/-- struct { X int; Y int } -/
def e36 : TI := { kind := 1, flds := [(0, 3), (1, 3)], el := 0, len := 0, int := none, zero := [.int .i64 0, .int .i64 0], z := [.int .i64 0, .int .i64 0], sz := 2, bytes := 16, flat := true }
theorem f36 : TI.Facts Try.prog 36 e36 ∧ e36.Own := ⟨⟨by kernel_rfl, by kernel_rfl, fun _ => by kernel_rfl⟩, ⟨rfl, rfl, rfl, fun _ => by decide⟩⟩
/-- api.Cell -/
def e37 : TI := { kind := 1, flds := [(0, 3), (1, 3)], el := 0, len := 0, int := none, zero := [.int .i64 0, .int .i64 0], z := [.int .i64 0, .int .i64 0], sz := 2, bytes := 16, flat := true }
theorem f37 : TI.Facts Try.prog 37 e37 ∧ e37.Own := ⟨⟨by kernel_rfl, by kernel_rfl, fun _ => by kernel_rfl⟩, ⟨rfl, rfl, rfl, fun _ => by decide⟩⟩
/-- func(int, int) int -/
def e38 : TI := { kind := 8, flds := [], el := 0, len := 0, int := none, zero := [.nilFunc], z := [.nilf], sz := 1, bytes := 8, flat := false }
theorem f38 : TI.Facts Try.prog 38 e38 ∧ e38.Own := ⟨⟨by kernel_rfl, by kernel_rfl, fun h => by cases h⟩, ⟨rfl, rfl, rfl, fun _ => by decide⟩⟩
/-- func(int, int, int) int -/
def e39 : TI := { kind := 8, flds := [], el := 0, len := 0, int := none, zero := [.nilFunc], z := [.nilf], sz := 1, bytes := 8, flat := false }
theorem f39 : TI.Facts Try.prog 39 e39 ∧ e39.Own := ⟨⟨by kernel_rfl, by kernel_rfl, fun h => by cases h⟩, ⟨rfl, rfl, rfl, fun _ => by decide⟩⟩
/-- func(int, int, int) uint8 -/
def e40 : TI := { kind := 8, flds := [], el := 0, len := 0, int := none, zero := [.nilFunc], z := [.nilf], sz := 1, bytes := 8, flat := false }
theorem f40 : TI.Facts Try.prog 40 e40 ∧ e40.Own := ⟨⟨by kernel_rfl, by kernel_rfl, fun h => by cases h⟩, ⟨rfl, rfl, rfl, fun _ => by decide⟩⟩
/-- func(api.Field, int, api.Cell) bool -/
def e41 : TI := { kind := 8, flds := [], el := 0, len := 0, int := none, zero := [.nilFunc], z := [.nilf], sz := 1, bytes := 8, flat := false }
theorem f41 : TI.Facts Try.prog 41 e41 ∧ e41.Own := ⟨⟨by kernel_rfl, by kernel_rfl, fun h => by cases h⟩, ⟨rfl, rfl, rfl, fun _ => by decide⟩⟩
/-- func(api.Field, api.Rect, int) bool -/
def e42 : TI := { kind := 8, flds := [], el := 0, len := 0, int := none, zero := [.nilFunc], z := [.nilf], sz := 1, bytes := 8, flat := false }
theorem f42 : TI.Facts Try.prog 42 e42 ∧ e42.Own := ⟨⟨by kernel_rfl, by kernel_rfl, fun h => by cases h⟩, ⟨rfl, rfl, rfl, fun _ => by decide⟩⟩
/-- func(api.Field) api.Field -/
def e43 : TI := { kind := 8, flds := [], el := 0, len := 0, int := none, zero := [.nilFunc], z := [.nilf], sz := 1, bytes := 8, flat := false }
theorem f43 : TI.Facts Try.prog 43 e43 ∧ e43.Own := ⟨⟨by kernel_rfl, by kernel_rfl, fun h => by cases h⟩, ⟨rfl, rfl, rfl, fun _ => by decide⟩⟩
/-- func() (api.Cell, uint8) -/
def e45 : TI := { kind := 8, flds := [], el := 0, len := 0, int := none, zero := [.nilFunc], z := [.nilf], sz := 1, bytes := 8, flat := false }
theorem f45 : TI.Facts Try.prog 45 e45 ∧ e45.Own := ⟨⟨by kernel_rfl, by kernel_rfl, fun h => by cases h⟩, ⟨rfl, rfl, rfl, fun _ => by decide⟩⟩
/-- func(api.Field, api.Cell) uint8 -/
def e46 : TI := { kind := 8, flds := [], el := 0, len := 0, int := none, zero := [.nilFunc], z := [.nilf], sz := 1, bytes := 8, flat := false }
theorem f46 : TI.Facts Try.prog 46 e46 ∧ e46.Own := ⟨⟨by kernel_rfl, by kernel_rfl, fun h => by cases h⟩, ⟨rfl, rfl, rfl, fun _ => by decide⟩⟩
/-- func([]uint8, []uint8) bool -/
def e47 : TI := { kind := 8, flds := [], el := 0, len := 0, int := none, zero := [.nilFunc], z := [.nilf], sz := 1, bytes := 8, flat := false }
theorem f47 : TI.Facts Try.prog 47 e47 ∧ e47.Own := ⟨⟨by kernel_rfl, by kernel_rfl, fun h => by cases h⟩, ⟨rfl, rfl, rfl, fun _ => by decide⟩⟩
/-- func(api.Field, int, int, int) uint8 -/
def e48 : TI := { kind := 8, flds := [], el := 0, len := 0, int := none, zero := [.nilFunc], z := [.nilf], sz := 1, bytes := 8, flat := false }
theorem f48 : TI.Facts Try.prog 48 e48 ∧ e48.Own := ⟨⟨by kernel_rfl, by kernel_rfl, fun h => by cases h⟩, ⟨rfl, rfl, rfl, fun _ => by decide⟩⟩
/-- func(uint8) int -/
def e49 : TI := { kind := 8, flds := [], el := 0, len := 0, int := none, zero := [.nilFunc], z := [.nilf], sz := 1, bytes := 8, flat := false }
theorem f49 : TI.Facts Try.prog 49 e49 ∧ e49.Own := ⟨⟨by kernel_rfl, by kernel_rfl, fun h => by cases h⟩, ⟨rfl, rfl, rfl, fun _ => by decide⟩⟩
/-- func(api.Field) (api.Cell, uint8) -/
def e50 : TI := { kind := 8, flds := [], el := 0, len := 0, int := none, zero := [.nilFunc], z := [.nilf], sz := 1, bytes := 8, flat := false }
theorem f50 : TI.Facts Try.prog 50 e50 ∧ e50.Own := ⟨⟨by kernel_rfl, by kernel_rfl, fun h => by cases h⟩, ⟨rfl, rfl, rfl, fun _ => by decide⟩⟩
/-- func(api.Field, uint8) int -/
def e51 : TI := { kind := 8, flds := [], el := 0, len := 0, int := none, zero := [.nilFunc], z := [.nilf], sz := 1, bytes := 8, flat := false }
theorem f51 : TI.Facts Try.prog 51 e51 ∧ e51.Own := ⟨⟨by kernel_rfl, by kernel_rfl, fun h => by cases h⟩, ⟨rfl, rfl, rfl, fun _ => by decide⟩⟩
/-- func(api.Field, uint8) bool -/
def e52 : TI := { kind := 8, flds := [], el := 0, len := 0, int := none, zero := [.nilFunc], z := [.nilf], sz := 1, bytes := 8, flat := false }
theorem f52 : TI.Facts Try.prog 52 e52 ∧ e52.Own := ⟨⟨by kernel_rfl, by kernel_rfl, fun h => by cases h⟩, ⟨rfl, rfl, rfl, fun _ => by decide⟩⟩
/-- func(api.Field, int, api.Rect) bool -/
def e53 : TI := { kind := 8, flds := [], el := 0, len := 0, int := none, zero := [.nilFunc], z := [.nilf], sz := 1, bytes := 8, flat := false }
theorem f53 : TI.Facts Try.prog 53 e53 ∧ e53.Own := ⟨⟨by kernel_rfl, by kernel_rfl, fun h => by cases h⟩, ⟨rfl, rfl, rfl, fun _ => by decide⟩⟩
/-- func([]uint8) []uint8 -/
def e54 : TI := { kind := 8, flds := [], el := 0, len := 0, int := none, zero := [.nilFunc], z := [.nilf], sz := 1, bytes := 8, flat := false }
theorem f54 : TI.Facts Try.prog 54 e54 ∧ e54.Own := ⟨⟨by kernel_rfl, by kernel_rfl, fun h => by cases h⟩, ⟨rfl, rfl, rfl, fun _ => by decide⟩⟩
/-- []int -/
def e55 : TI := { kind := 3, flds := [], el := 3, len := 0, int := none, zero := [.slice none 0 0], z := [.emp], sz := 1, bytes := 24, flat := false }
theorem f55 : TI.Facts Try.prog 55 e55 ∧ e55.Own := ⟨⟨by kernel_rfl, by kernel_rfl, fun h => by cases h⟩, ⟨rfl, rfl, rfl, fun _ => by decide⟩⟩
/-- [7]api.Field -/
def e56 : TI := { kind := 2, flds := [], el := 24, len := 7, int := none, zero := [.int .i64 0, .int .i64 0, .int .i64 0, .int .i64 0, .slice none 0 0, .int .i64 0, .int .i64 0, .int .i64 0, .int .i64 0, .slice none 0 0, .int .i64 0, .int .i64 0, .int .i64 0, .int .i64 0, .slice none 0 0, .int .i64 0, .int .i64 0, .int .i64 0, .int .i64 0, .slice none 0 0, .int .i64 0, .int .i64 0, .int .i64 0, .int .i64 0, .slice none 0 0, .int .i64 0, .int .i64 0, .int .i64 0, .int .i64 0, .slice none 0 0, .int .i64 0, .int .i64 0, .int .i64 0, .int .i64 0, .slice none 0 0], z := [.int .i64 0, .int .i64 0, .int .i64 0, .int .i64 0, .emp, .int .i64 0, .int .i64 0, .int .i64 0, .int .i64 0, .emp, .int .i64 0, .int .i64 0, .int .i64 0, .int .i64 0, .emp, .int .i64 0, .int .i64 0, .int .i64 0, .int .i64 0, .emp, .int .i64 0, .int .i64 0, .int .i64 0, .int .i64 0, .emp, .int .i64 0, .int .i64 0, .int .i64 0, .int .i64 0, .emp, .int .i64 0, .int .i64 0, .int .i64 0, .int .i64 0, .emp], sz := 35, bytes := 392, flat := false }
theorem f56 : TI.Facts Try.prog 56 e56 ∧ e56.Own := ⟨⟨by kernel_rfl, by kernel_rfl, fun h => by cases h⟩, ⟨rfl, rfl, rfl, fun _ => by decide⟩⟩
/-- struct { field api.Field; levels [7]api.Field; sums []int } -/
def e57 : TI := { kind := 1, flds := [(0, 24), (5, 56), (40, 55)], el := 0, len := 0, int := none, zero := [.int .i64 0, .int .i64 0, .int .i64 0, .int .i64 0, .slice none 0 0, .int .i64 0, .int .i64 0, .int .i64 0, .int .i64 0, .slice none 0 0, .int .i64 0, .int .i64 0, .int .i64 0, .int .i64 0, .slice none 0 0, .int .i64 0, .int .i64 0, .int .i64 0, .int .i64 0, .slice none 0 0, .int .i64 0, .int .i64 0, .int .i64 0, .int .i64 0, .slice none 0 0, .int .i64 0, .int .i64 0, .int .i64 0, .int .i64 0, .slice none 0 0, .int .i64 0, .int .i64 0, .int .i64 0, .int .i64 0, .slice none 0 0, .int .i64 0, .int .i64 0, .int .i64 0, .int .i64 0, .slice none 0 0, .slice none 0 0], z := [.int .i64 0, .int .i64 0, .int .i64 0, .int .i64 0, .emp, .int .i64 0, .int .i64 0, .int .i64 0, .int .i64 0, .emp, .int .i64 0, .int .i64 0, .int .i64 0, .int .i64 0, .emp, .int .i64 0, .int .i64 0, .int .i64 0, .int .i64 0, .emp, .int .i64 0, .int .i64 0, .int .i64 0, .int .i64 0, .emp, .int .i64 0, .int .i64 0, .int .i64 0, .int .i64 0, .emp, .int .i64 0, .int .i64 0, .int .i64 0, .int .i64 0, .emp, .int .i64 0, .int .i64 0, .int .i64 0, .int .i64 0, .emp, .emp], sz := 41, bytes := 472, flat := false }
theorem f57 : TI.Facts Try.prog 57 e57 ∧ e57.Own := ⟨⟨by kernel_rfl, by kernel_rfl, fun h => by cases h⟩, ⟨rfl, rfl, rfl, fun _ => by decide⟩⟩
/-- pyramid.Pyramid -/
def e58 : TI := { kind := 1, flds := [(0, 24), (5, 56), (40, 55)], el := 0, len := 0, int := none, zero := [.int .i64 0, .int .i64 0, .int .i64 0, .int .i64 0, .slice none 0 0, .int .i64 0, .int .i64 0, .int .i64 0, .int .i64 0, .slice none 0 0, .int .i64 0, .int .i64 0, .int .i64 0, .int .i64 0, .slice none 0 0, .int .i64 0, .int .i64 0, .int .i64 0, .int .i64 0, .slice none 0 0, .int .i64 0, .int .i64 0, .int .i64 0, .int .i64 0, .slice none 0 0, .int .i64 0, .int .i64 0, .int .i64 0, .int .i64 0, .slice none 0 0, .int .i64 0, .int .i64 0, .int .i64 0, .int .i64 0, .slice none 0 0, .int .i64 0, .int .i64 0, .int .i64 0, .int .i64 0, .slice none 0 0, .slice none 0 0], z := [.int .i64 0, .int .i64 0, .int .i64 0, .int .i64 0, .emp, .int .i64 0, .int .i64 0, .int .i64 0, .int .i64 0, .emp, .int .i64 0, .int .i64 0, .int .i64 0, .int .i64 0, .emp, .int .i64 0, .int .i64 0, .int .i64 0, .int .i64 0, .emp, .int .i64 0, .int .i64 0, .int .i64 0, .int .i64 0, .emp, .int .i64 0, .int .i64 0, .int .i64 0, .int .i64 0, .emp, .int .i64 0, .int .i64 0, .int .i64 0, .int .i64 0, .emp, .int .i64 0, .int .i64 0, .int .i64 0, .int .i64 0, .emp, .emp], sz := 41, bytes := 472, flat := false }
theorem f58 : TI.Facts Try.prog 58 e58 ∧ e58.Own := ⟨⟨by kernel_rfl, by kernel_rfl, fun h => by cases h⟩, ⟨rfl, rfl, rfl, fun _ => by decide⟩⟩
/-- func(api.Field, int) api.Field -/
def e59 : TI := { kind := 8, flds := [], el := 0, len := 0, int := none, zero := [.nilFunc], z := [.nilf], sz := 1, bytes := 8, flat := false }
theorem f59 : TI.Facts Try.prog 59 e59 ∧ e59.Own := ⟨⟨by kernel_rfl, by kernel_rfl, fun h => by cases h⟩, ⟨rfl, rfl, rfl, fun _ => by decide⟩⟩
/-- func(int, int) bool -/
def e60 : TI := { kind := 8, flds := [], el := 0, len := 0, int := none, zero := [.nilFunc], z := [.nilf], sz := 1, bytes := 8, flat := false }
theorem f60 : TI.Facts Try.prog 60 e60 ∧ e60.Own := ⟨⟨by kernel_rfl, by kernel_rfl, fun h => by cases h⟩, ⟨rfl, rfl, rfl, fun _ => by decide⟩⟩
/-- func(int) bool -/
def e61 : TI := { kind := 8, flds := [], el := 0, len := 0, int := none, zero := [.nilFunc], z := [.nilf], sz := 1, bytes := 8, flat := false }
theorem f61 : TI.Facts Try.prog 61 e61 ∧ e61.Own := ⟨⟨by kernel_rfl, by kernel_rfl, fun h => by cases h⟩, ⟨rfl, rfl, rfl, fun _ => by decide⟩⟩
/-- func(api.Field, int, int) uint8 -/
def e62 : TI := { kind := 8, flds := [], el := 0, len := 0, int := none, zero := [.nilFunc], z := [.nilf], sz := 1, bytes := 8, flat := false }
theorem f62 : TI.Facts Try.prog 62 e62 ∧ e62.Own := ⟨⟨by kernel_rfl, by kernel_rfl, fun h => by cases h⟩, ⟨rfl, rfl, rfl, fun _ => by decide⟩⟩
/-- func([]uint8) uint8 -/
def e63 : TI := { kind := 8, flds := [], el := 0, len := 0, int := none, zero := [.nilFunc], z := [.nilf], sz := 1, bytes := 8, flat := false }
theorem f63 : TI.Facts Try.prog 63 e63 ∧ e63.Own := ⟨⟨by kernel_rfl, by kernel_rfl, fun h => by cases h⟩, ⟨rfl, rfl, rfl, fun _ => by decide⟩⟩
/-- func([]uint8, uint8) int -/
def e64 : TI := { kind := 8, flds := [], el := 0, len := 0, int := none, zero := [.nilFunc], z := [.nilf], sz := 1, bytes := 8, flat := false }
theorem f64 : TI.Facts Try.prog 64 e64 ∧ e64.Own := ⟨⟨by kernel_rfl, by kernel_rfl, fun h => by cases h⟩, ⟨rfl, rfl, rfl, fun _ => by decide⟩⟩
/-- func() string -/
def e65 : TI := { kind := 8, flds := [], el := 0, len := 0, int := none, zero := [.nilFunc], z := [.nilf], sz := 1, bytes := 8, flat := false }
theorem f65 : TI.Facts Try.prog 65 e65 ∧ e65.Own := ⟨⟨by kernel_rfl, by kernel_rfl, fun h => by cases h⟩, ⟨rfl, rfl, rfl, fun _ => by decide⟩⟩
/-- struct { _interface *abi.Type; concrete *abi.Type; asserted *abi.Type; missingMethod string } -/
def e66 : TI := { kind := 1, flds := [(0, 17), (1, 17), (2, 17), (3, 9)], el := 0, len := 0, int := none, zero := [.pointer none, .pointer none, .pointer none, .string ByteArray.empty], z := [.nilp, .nilp, .nilp, .str ByteArray.empty], sz := 4, bytes := 40, flat := false }
theorem f66 : TI.Facts Try.prog 66 e66 ∧ e66.Own := ⟨⟨by kernel_rfl, by kernel_rfl, fun h => by cases h⟩, ⟨rfl, rfl, rfl, fun _ => by decide⟩⟩
/-- runtime.TypeAssertionError -/
def e67 : TI := { kind := 1, flds := [(0, 17), (1, 17), (2, 17), (3, 9)], el := 0, len := 0, int := none, zero := [.pointer none, .pointer none, .pointer none, .string ByteArray.empty], z := [.nilp, .nilp, .nilp, .str ByteArray.empty], sz := 4, bytes := 40, flat := false }
theorem f67 : TI.Facts Try.prog 67 e67 ∧ e67.Own := ⟨⟨by kernel_rfl, by kernel_rfl, fun h => by cases h⟩, ⟨rfl, rfl, rfl, fun _ => by decide⟩⟩
/-- [0]*runtime.PanicNilError -/
def e68 : TI := { kind := 2, flds := [], el := 16, len := 0, int := none, zero := [], z := [], sz := 0, bytes := 0, flat := false }
theorem f68 : TI.Facts Try.prog 68 e68 ∧ e68.Own := ⟨⟨by kernel_rfl, by kernel_rfl, fun h => by cases h⟩, ⟨rfl, rfl, rfl, fun _ => by decide⟩⟩
/-- struct { _ [0]*runtime.PanicNilError } -/
def e69 : TI := { kind := 1, flds := [(0, 68)], el := 0, len := 0, int := none, zero := [], z := [], sz := 0, bytes := 0, flat := false }
theorem f69 : TI.Facts Try.prog 69 e69 ∧ e69.Own := ⟨⟨by kernel_rfl, by kernel_rfl, fun h => by cases h⟩, ⟨rfl, rfl, rfl, fun _ => by decide⟩⟩
/-- runtime.PanicNilError -/
def e70 : TI := { kind := 1, flds := [(0, 68)], el := 0, len := 0, int := none, zero := [], z := [], sz := 0, bytes := 0, flat := false }
theorem f70 : TI.Facts Try.prog 70 e70 ∧ e70.Own := ⟨⟨by kernel_rfl, by kernel_rfl, fun h => by cases h⟩, ⟨rfl, rfl, rfl, fun _ => by decide⟩⟩
/-- func() int -/
def e71 : TI := { kind := 8, flds := [], el := 0, len := 0, int := none, zero := [.nilFunc], z := [.nilf], sz := 1, bytes := 8, flat := false }
theorem f71 : TI.Facts Try.prog 71 e71 ∧ e71.Own := ⟨⟨by kernel_rfl, by kernel_rfl, fun h => by cases h⟩, ⟨rfl, rfl, rfl, fun _ => by decide⟩⟩
/-- uint32 -/
def e72 : TI := { kind := 6, flds := [], el := 0, len := 0, int := some .u32, zero := [.int .u32 0], z := [.int .u32 0], sz := 1, bytes := 4, flat := false }
theorem f72 : TI.Facts Try.prog 72 e72 ∧ e72.Own := ⟨⟨by kernel_rfl, by kernel_rfl, fun h => by cases h⟩, ⟨rfl, rfl, rfl, fun _ => by decide⟩⟩
/-- abi.TFlag -/
def e73 : TI := { kind := 6, flds := [], el := 0, len := 0, int := some .u8, zero := [.int .u8 0], z := [.int .u8 0], sz := 1, bytes := 1, flat := false }
theorem f73 : TI.Facts Try.prog 73 e73 ∧ e73.Own := ⟨⟨by kernel_rfl, by kernel_rfl, fun h => by cases h⟩, ⟨rfl, rfl, rfl, fun _ => by decide⟩⟩
/-- abi.Kind -/
def e74 : TI := { kind := 6, flds := [], el := 0, len := 0, int := some .u8, zero := [.int .u8 0], z := [.int .u8 0], sz := 1, bytes := 1, flat := false }
theorem f74 : TI.Facts Try.prog 74 e74 ∧ e74.Own := ⟨⟨by kernel_rfl, by kernel_rfl, fun h => by cases h⟩, ⟨rfl, rfl, rfl, fun _ => by decide⟩⟩
/-- func(unsafe.Pointer, unsafe.Pointer) bool -/
def e75 : TI := { kind := 8, flds := [], el := 0, len := 0, int := none, zero := [.nilFunc], z := [.nilf], sz := 1, bytes := 8, flat := false }
theorem f75 : TI.Facts Try.prog 75 e75 ∧ e75.Own := ⟨⟨by kernel_rfl, by kernel_rfl, fun h => by cases h⟩, ⟨rfl, rfl, rfl, fun _ => by decide⟩⟩
/-- *uint8 -/
def e76 : TI := { kind := 4, flds := [], el := 5, len := 0, int := none, zero := [.pointer none], z := [.nilp], sz := 1, bytes := 8, flat := false }
theorem f76 : TI.Facts Try.prog 76 e76 ∧ e76.Own := ⟨⟨by kernel_rfl, by kernel_rfl, fun h => by cases h⟩, ⟨rfl, rfl, rfl, fun _ => by decide⟩⟩
/-- abi.NameOff -/
def e77 : TI := { kind := 6, flds := [], el := 0, len := 0, int := some .i32, zero := [.int .i32 0], z := [.int .i32 0], sz := 1, bytes := 4, flat := false }
theorem f77 : TI.Facts Try.prog 77 e77 ∧ e77.Own := ⟨⟨by kernel_rfl, by kernel_rfl, fun h => by cases h⟩, ⟨rfl, rfl, rfl, fun _ => by decide⟩⟩
/-- abi.TypeOff -/
def e78 : TI := { kind := 6, flds := [], el := 0, len := 0, int := some .i32, zero := [.int .i32 0], z := [.int .i32 0], sz := 1, bytes := 4, flat := false }
theorem f78 : TI.Facts Try.prog 78 e78 ∧ e78.Own := ⟨⟨by kernel_rfl, by kernel_rfl, fun h => by cases h⟩, ⟨rfl, rfl, rfl, fun _ => by decide⟩⟩
/-- struct { Size_ uintptr; PtrBytes uintptr; Hash uint32; TFlag abi.TFlag; Align_ uint8; FieldAlign_ uint8; Kind_ abi.Kind; Equal func(unsafe.Pointer, unsafe.Pointer) bool; GCData *uint8; Str abi.NameOff; PtrToThis abi.TypeOff } -/
def e79 : TI := { kind := 1, flds := [(0, 12), (1, 12), (2, 72), (3, 73), (4, 5), (5, 5), (6, 74), (7, 75), (8, 76), (9, 77), (10, 78)], el := 0, len := 0, int := none, zero := [.int .u64 0, .int .u64 0, .int .u32 0, .int .u8 0, .int .u8 0, .int .u8 0, .int .u8 0, .nilFunc, .pointer none, .int .i32 0, .int .i32 0], z := [.int .u64 0, .int .u64 0, .int .u32 0, .int .u8 0, .int .u8 0, .int .u8 0, .int .u8 0, .nilf, .nilp, .int .i32 0, .int .i32 0], sz := 11, bytes := 48, flat := false }
theorem f79 : TI.Facts Try.prog 79 e79 ∧ e79.Own := ⟨⟨by kernel_rfl, by kernel_rfl, fun h => by cases h⟩, ⟨rfl, rfl, rfl, fun _ => by decide⟩⟩
/-- abi.Type -/
def e80 : TI := { kind := 1, flds := [(0, 12), (1, 12), (2, 72), (3, 73), (4, 5), (5, 5), (6, 74), (7, 75), (8, 76), (9, 77), (10, 78)], el := 0, len := 0, int := none, zero := [.int .u64 0, .int .u64 0, .int .u32 0, .int .u8 0, .int .u8 0, .int .u8 0, .int .u8 0, .nilFunc, .pointer none, .int .i32 0, .int .i32 0], z := [.int .u64 0, .int .u64 0, .int .u32 0, .int .u8 0, .int .u8 0, .int .u8 0, .int .u8 0, .nilf, .nilp, .int .i32 0, .int .i32 0], sz := 11, bytes := 48, flat := false }
theorem f80 : TI.Facts Try.prog 80 e80 ∧ e80.Own := ⟨⟨by kernel_rfl, by kernel_rfl, fun h => by cases h⟩, ⟨rfl, rfl, rfl, fun _ => by decide⟩⟩
def ttL : List (TypeId × TI) := [(1, e1), (2, e2), (3, e3), (4, e4), (5, e5), (6, e6), (7, e7), (8, e8), (9, e9), (10, e10), (11, e11), (12, e12), (13, e13), (14, e14), (15, e15), (16, e16), (17, e17), (18, e18), (19, e19), (21, e21), (22, e22), (23, e23), (24, e24), (25, e25), (26, e26), (27, e27), (28, e28), (29, e29), (30, e30), (32, e32), (33, e33), (34, e34), (35, e35), (36, e36), (37, e37), (38, e38), (39, e39), (40, e40), (41, e41), (42, e42), (43, e43), (45, e45), (46, e46), (47, e47), (48, e48), (49, e49), (50, e50), (51, e51), (52, e52), (53, e53), (54, e54), (55, e55), (56, e56), (57, e57), (58, e58), (59, e59), (60, e60), (61, e61), (62, e62), (63, e63), (64, e64), (65, e65), (66, e66), (67, e67), (68, e68), (69, e69), (70, e70), (71, e71), (72, e72), (73, e73), (74, e74), (75, e75), (76, e76), (77, e77), (78, e78), (79, e79), (80, e80)]
def tt : TT := lkT ttL
theorem ttF : ∀ p ∈ ttL, TI.Facts Try.prog p.1 p.2 ∧ p.2.Own :=
  List.forall_mem_cons.2 ⟨f1, List.forall_mem_cons.2 ⟨f2, List.forall_mem_cons.2 ⟨f3, List.forall_mem_cons.2 ⟨f4, List.forall_mem_cons.2 ⟨f5, List.forall_mem_cons.2 ⟨f6, List.forall_mem_cons.2 ⟨f7, List.forall_mem_cons.2 ⟨f8, List.forall_mem_cons.2 ⟨f9, List.forall_mem_cons.2 ⟨f10, List.forall_mem_cons.2 ⟨f11, List.forall_mem_cons.2 ⟨f12, List.forall_mem_cons.2 ⟨f13, List.forall_mem_cons.2 ⟨f14, List.forall_mem_cons.2 ⟨f15, List.forall_mem_cons.2 ⟨f16, List.forall_mem_cons.2 ⟨f17, List.forall_mem_cons.2 ⟨f18, List.forall_mem_cons.2 ⟨f19, List.forall_mem_cons.2 ⟨f21, List.forall_mem_cons.2 ⟨f22, List.forall_mem_cons.2 ⟨f23, List.forall_mem_cons.2 ⟨f24, List.forall_mem_cons.2 ⟨f25, List.forall_mem_cons.2 ⟨f26, List.forall_mem_cons.2 ⟨f27, List.forall_mem_cons.2 ⟨f28, List.forall_mem_cons.2 ⟨f29, List.forall_mem_cons.2 ⟨f30, List.forall_mem_cons.2 ⟨f32, List.forall_mem_cons.2 ⟨f33, List.forall_mem_cons.2 ⟨f34, List.forall_mem_cons.2 ⟨f35, List.forall_mem_cons.2 ⟨f36, List.forall_mem_cons.2 ⟨f37, List.forall_mem_cons.2 ⟨f38, List.forall_mem_cons.2 ⟨f39, List.forall_mem_cons.2 ⟨f40, List.forall_mem_cons.2 ⟨f41, List.forall_mem_cons.2 ⟨f42, List.forall_mem_cons.2 ⟨f43, List.forall_mem_cons.2 ⟨f45, List.forall_mem_cons.2 ⟨f46, List.forall_mem_cons.2 ⟨f47, List.forall_mem_cons.2 ⟨f48, List.forall_mem_cons.2 ⟨f49, List.forall_mem_cons.2 ⟨f50, List.forall_mem_cons.2 ⟨f51, List.forall_mem_cons.2 ⟨f52, List.forall_mem_cons.2 ⟨f53, List.forall_mem_cons.2 ⟨f54, List.forall_mem_cons.2 ⟨f55, List.forall_mem_cons.2 ⟨f56, List.forall_mem_cons.2 ⟨f57, List.forall_mem_cons.2 ⟨f58, List.forall_mem_cons.2 ⟨f59, List.forall_mem_cons.2 ⟨f60, List.forall_mem_cons.2 ⟨f61, List.forall_mem_cons.2 ⟨f62, List.forall_mem_cons.2 ⟨f63, List.forall_mem_cons.2 ⟨f64, List.forall_mem_cons.2 ⟨f65, List.forall_mem_cons.2 ⟨f66, List.forall_mem_cons.2 ⟨f67, List.forall_mem_cons.2 ⟨f68, List.forall_mem_cons.2 ⟨f69, List.forall_mem_cons.2 ⟨f70, List.forall_mem_cons.2 ⟨f71, List.forall_mem_cons.2 ⟨f72, List.forall_mem_cons.2 ⟨f73, List.forall_mem_cons.2 ⟨f74, List.forall_mem_cons.2 ⟨f75, List.forall_mem_cons.2 ⟨f76, List.forall_mem_cons.2 ⟨f77, List.forall_mem_cons.2 ⟨f78, List.forall_mem_cons.2 ⟨f79, List.forall_mem_cons.2 ⟨f80, List.forall_mem_nil _⟩⟩⟩⟩⟩⟩⟩⟩⟩⟩⟩⟩⟩⟩⟩⟩⟩⟩⟩⟩⟩⟩⟩⟩⟩⟩⟩⟩⟩⟩⟩⟩⟩⟩⟩⟩⟩⟩⟩⟩⟩⟩⟩⟩⟩⟩⟩⟩⟩⟩⟩⟩⟩⟩⟩⟩⟩⟩⟩⟩⟩⟩⟩⟩⟩⟩⟩⟩⟩⟩⟩⟩⟩⟩⟩⟩⟩
theorem tt_ok : tt.Ok Try.prog := lkT_ok ttF
theorem tt1 : tt 1 = { kind := 8, flds := [], el := 0, len := 0, int := none, zero := [.nilFunc], z := [.nilf], sz := 1, bytes := 8, flat := false } := by kernel_rfl
theorem tt2 : tt 2 = { kind := 6, flds := [], el := 0, len := 0, int := some .i64, zero := [.int .i64 0], z := [.int .i64 0], sz := 1, bytes := 8, flat := false } := by kernel_rfl
theorem tt3 : tt 3 = { kind := 6, flds := [], el := 0, len := 0, int := some .i64, zero := [.int .i64 0], z := [.int .i64 0], sz := 1, bytes := 8, flat := false } := by kernel_rfl
theorem tt4 : tt 4 = { kind := 5, flds := [], el := 0, len := 0, int := none, zero := [.bool false], z := [.bool false], sz := 1, bytes := 1, flat := false } := by kernel_rfl
theorem tt5 : tt 5 = { kind := 6, flds := [], el := 0, len := 0, int := some .u8, zero := [.int .u8 0], z := [.int .u8 0], sz := 1, bytes := 1, flat := false } := by kernel_rfl
theorem tt6 : tt 6 = { kind := 6, flds := [], el := 0, len := 0, int := some .u8, zero := [.int .u8 0], z := [.int .u8 0], sz := 1, bytes := 1, flat := false } := by kernel_rfl
theorem tt7 : tt 7 = { kind := 1, flds := [(0, 2), (1, 3), (2, 4), (3, 6)], el := 0, len := 0, int := none, zero := [.int .i64 0, .int .i64 0, .bool false, .int .u8 0], z := [.int .i64 0, .int .i64 0, .bool false, .int .u8 0], sz := 4, bytes := 24, flat := true } := by kernel_rfl
theorem tt8 : tt 8 = { kind := 1, flds := [(0, 2), (1, 3), (2, 4), (3, 6)], el := 0, len := 0, int := none, zero := [.int .i64 0, .int .i64 0, .bool false, .int .u8 0], z := [.int .i64 0, .int .i64 0, .bool false, .int .u8 0], sz := 4, bytes := 24, flat := true } := by kernel_rfl
theorem tt9 : tt 9 = { kind := 7, flds := [], el := 0, len := 0, int := none, zero := [.string ByteArray.empty], z := [.str ByteArray.empty], sz := 1, bytes := 16, flat := false } := by kernel_rfl
theorem tt10 : tt 10 = { kind := 7, flds := [], el := 0, len := 0, int := none, zero := [.string ByteArray.empty], z := [.str ByteArray.empty], sz := 1, bytes := 16, flat := false } := by kernel_rfl
theorem tt11 : tt 11 = { kind := 7, flds := [], el := 0, len := 0, int := none, zero := [.string ByteArray.empty], z := [.str ByteArray.empty], sz := 1, bytes := 16, flat := false } := by kernel_rfl
theorem tt12 : tt 12 = { kind := 6, flds := [], el := 0, len := 0, int := some .u64, zero := [.int .u64 0], z := [.int .u64 0], sz := 1, bytes := 8, flat := false } := by kernel_rfl
theorem tt13 : tt 13 = { kind := 1, flds := [(0, 9), (1, 12)], el := 0, len := 0, int := none, zero := [.string ByteArray.empty, .int .u64 0], z := [.str ByteArray.empty, .int .u64 0], sz := 2, bytes := 24, flat := false } := by kernel_rfl
theorem tt14 : tt 14 = { kind := 1, flds := [(0, 9), (1, 12)], el := 0, len := 0, int := none, zero := [.string ByteArray.empty, .int .u64 0], z := [.str ByteArray.empty, .int .u64 0], sz := 2, bytes := 24, flat := false } := by kernel_rfl
theorem tt15 : tt 15 = { kind := 4, flds := [], el := 67, len := 0, int := none, zero := [.pointer none], z := [.nilp], sz := 1, bytes := 8, flat := false } := by kernel_rfl
theorem tt16 : tt 16 = { kind := 4, flds := [], el := 70, len := 0, int := none, zero := [.pointer none], z := [.nilp], sz := 1, bytes := 8, flat := false } := by kernel_rfl
theorem tt17 : tt 17 = { kind := 4, flds := [], el := 80, len := 0, int := none, zero := [.pointer none], z := [.nilp], sz := 1, bytes := 8, flat := false } := by kernel_rfl
theorem tt18 : tt 18 = { kind := 1, flds := [(0, 17)], el := 0, len := 0, int := none, zero := [.pointer none], z := [.nilp], sz := 1, bytes := 8, flat := false } := by kernel_rfl
theorem tt19 : tt 19 = { kind := 1, flds := [(0, 17)], el := 0, len := 0, int := none, zero := [.pointer none], z := [.nilp], sz := 1, bytes := 8, flat := false } := by kernel_rfl
theorem tt21 : tt 21 = { kind := 6, flds := [], el := 0, len := 0, int := some .i32, zero := [.int .i32 0], z := [.int .i32 0], sz := 1, bytes := 4, flat := false } := by kernel_rfl
theorem tt22 : tt 22 = { kind := 3, flds := [], el := 5, len := 0, int := none, zero := [.slice none 0 0], z := [.emp], sz := 1, bytes := 24, flat := false } := by kernel_rfl
theorem tt23 : tt 23 = { kind := 1, flds := [(0, 3), (1, 3), (2, 3), (3, 3), (4, 22)], el := 0, len := 0, int := none, zero := [.int .i64 0, .int .i64 0, .int .i64 0, .int .i64 0, .slice none 0 0], z := [.int .i64 0, .int .i64 0, .int .i64 0, .int .i64 0, .emp], sz := 5, bytes := 56, flat := false } := by kernel_rfl
theorem tt24 : tt 24 = { kind := 1, flds := [(0, 3), (1, 3), (2, 3), (3, 3), (4, 22)], el := 0, len := 0, int := none, zero := [.int .i64 0, .int .i64 0, .int .i64 0, .int .i64 0, .slice none 0 0], z := [.int .i64 0, .int .i64 0, .int .i64 0, .int .i64 0, .emp], sz := 5, bytes := 56, flat := false } := by kernel_rfl
theorem tt25 : tt 25 = { kind := 1, flds := [(0, 3), (1, 3), (2, 3), (3, 3)], el := 0, len := 0, int := none, zero := [.int .i64 0, .int .i64 0, .int .i64 0, .int .i64 0], z := [.int .i64 0, .int .i64 0, .int .i64 0, .int .i64 0], sz := 4, bytes := 32, flat := true } := by kernel_rfl
theorem tt26 : tt 26 = { kind := 1, flds := [(0, 3), (1, 3), (2, 3), (3, 3)], el := 0, len := 0, int := none, zero := [.int .i64 0, .int .i64 0, .int .i64 0, .int .i64 0], z := [.int .i64 0, .int .i64 0, .int .i64 0, .int .i64 0], sz := 4, bytes := 32, flat := true } := by kernel_rfl
theorem tt27 : tt 27 = { kind := 8, flds := [], el := 0, len := 0, int := none, zero := [.nilFunc], z := [.nilf], sz := 1, bytes := 8, flat := false } := by kernel_rfl
theorem tt28 : tt 28 = { kind := 8, flds := [], el := 0, len := 0, int := none, zero := [.nilFunc], z := [.nilf], sz := 1, bytes := 8, flat := false } := by kernel_rfl
theorem tt29 : tt 29 = { kind := 4, flds := [], el := 58, len := 0, int := none, zero := [.pointer none], z := [.nilp], sz := 1, bytes := 8, flat := false } := by kernel_rfl
theorem tt30 : tt 30 = { kind := 6, flds := [], el := 0, len := 0, int := some .i64, zero := [.int .i64 0], z := [.int .i64 0], sz := 1, bytes := 8, flat := false } := by kernel_rfl
theorem tt32 : tt 32 = { kind := 8, flds := [], el := 0, len := 0, int := none, zero := [.nilFunc], z := [.nilf], sz := 1, bytes := 8, flat := false } := by kernel_rfl
theorem tt33 : tt 33 = { kind := 8, flds := [], el := 0, len := 0, int := none, zero := [.nilFunc], z := [.nilf], sz := 1, bytes := 8, flat := false } := by kernel_rfl
theorem tt34 : tt 34 = { kind := 8, flds := [], el := 0, len := 0, int := none, zero := [.nilFunc], z := [.nilf], sz := 1, bytes := 8, flat := false } := by kernel_rfl
theorem tt35 : tt 35 = { kind := 8, flds := [], el := 0, len := 0, int := none, zero := [.nilFunc], z := [.nilf], sz := 1, bytes := 8, flat := false } := by kernel_rfl
theorem tt36 : tt 36 = { kind := 1, flds := [(0, 3), (1, 3)], el := 0, len := 0, int := none, zero := [.int .i64 0, .int .i64 0], z := [.int .i64 0, .int .i64 0], sz := 2, bytes := 16, flat := true } := by kernel_rfl
theorem tt37 : tt 37 = { kind := 1, flds := [(0, 3), (1, 3)], el := 0, len := 0, int := none, zero := [.int .i64 0, .int .i64 0], z := [.int .i64 0, .int .i64 0], sz := 2, bytes := 16, flat := true } := by kernel_rfl
theorem tt38 : tt 38 = { kind := 8, flds := [], el := 0, len := 0, int := none, zero := [.nilFunc], z := [.nilf], sz := 1, bytes := 8, flat := false } := by kernel_rfl
theorem tt39 : tt 39 = { kind := 8, flds := [], el := 0, len := 0, int := none, zero := [.nilFunc], z := [.nilf], sz := 1, bytes := 8, flat := false } := by kernel_rfl
theorem tt40 : tt 40 = { kind := 8, flds := [], el := 0, len := 0, int := none, zero := [.nilFunc], z := [.nilf], sz := 1, bytes := 8, flat := false } := by kernel_rfl
theorem tt41 : tt 41 = { kind := 8, flds := [], el := 0, len := 0, int := none, zero := [.nilFunc], z := [.nilf], sz := 1, bytes := 8, flat := false } := by kernel_rfl
theorem tt42 : tt 42 = { kind := 8, flds := [], el := 0, len := 0, int := none, zero := [.nilFunc], z := [.nilf], sz := 1, bytes := 8, flat := false } := by kernel_rfl
theorem tt43 : tt 43 = { kind := 8, flds := [], el := 0, len := 0, int := none, zero := [.nilFunc], z := [.nilf], sz := 1, bytes := 8, flat := false } := by kernel_rfl
theorem tt45 : tt 45 = { kind := 8, flds := [], el := 0, len := 0, int := none, zero := [.nilFunc], z := [.nilf], sz := 1, bytes := 8, flat := false } := by kernel_rfl
theorem tt46 : tt 46 = { kind := 8, flds := [], el := 0, len := 0, int := none, zero := [.nilFunc], z := [.nilf], sz := 1, bytes := 8, flat := false } := by kernel_rfl
theorem tt47 : tt 47 = { kind := 8, flds := [], el := 0, len := 0, int := none, zero := [.nilFunc], z := [.nilf], sz := 1, bytes := 8, flat := false } := by kernel_rfl
theorem tt48 : tt 48 = { kind := 8, flds := [], el := 0, len := 0, int := none, zero := [.nilFunc], z := [.nilf], sz := 1, bytes := 8, flat := false } := by kernel_rfl
theorem tt49 : tt 49 = { kind := 8, flds := [], el := 0, len := 0, int := none, zero := [.nilFunc], z := [.nilf], sz := 1, bytes := 8, flat := false } := by kernel_rfl
theorem tt50 : tt 50 = { kind := 8, flds := [], el := 0, len := 0, int := none, zero := [.nilFunc], z := [.nilf], sz := 1, bytes := 8, flat := false } := by kernel_rfl
theorem tt51 : tt 51 = { kind := 8, flds := [], el := 0, len := 0, int := none, zero := [.nilFunc], z := [.nilf], sz := 1, bytes := 8, flat := false } := by kernel_rfl
theorem tt52 : tt 52 = { kind := 8, flds := [], el := 0, len := 0, int := none, zero := [.nilFunc], z := [.nilf], sz := 1, bytes := 8, flat := false } := by kernel_rfl
theorem tt53 : tt 53 = { kind := 8, flds := [], el := 0, len := 0, int := none, zero := [.nilFunc], z := [.nilf], sz := 1, bytes := 8, flat := false } := by kernel_rfl
theorem tt54 : tt 54 = { kind := 8, flds := [], el := 0, len := 0, int := none, zero := [.nilFunc], z := [.nilf], sz := 1, bytes := 8, flat := false } := by kernel_rfl
theorem tt55 : tt 55 = { kind := 3, flds := [], el := 3, len := 0, int := none, zero := [.slice none 0 0], z := [.emp], sz := 1, bytes := 24, flat := false } := by kernel_rfl
theorem tt56 : tt 56 = { kind := 2, flds := [], el := 24, len := 7, int := none, zero := [.int .i64 0, .int .i64 0, .int .i64 0, .int .i64 0, .slice none 0 0, .int .i64 0, .int .i64 0, .int .i64 0, .int .i64 0, .slice none 0 0, .int .i64 0, .int .i64 0, .int .i64 0, .int .i64 0, .slice none 0 0, .int .i64 0, .int .i64 0, .int .i64 0, .int .i64 0, .slice none 0 0, .int .i64 0, .int .i64 0, .int .i64 0, .int .i64 0, .slice none 0 0, .int .i64 0, .int .i64 0, .int .i64 0, .int .i64 0, .slice none 0 0, .int .i64 0, .int .i64 0, .int .i64 0, .int .i64 0, .slice none 0 0], z := [.int .i64 0, .int .i64 0, .int .i64 0, .int .i64 0, .emp, .int .i64 0, .int .i64 0, .int .i64 0, .int .i64 0, .emp, .int .i64 0, .int .i64 0, .int .i64 0, .int .i64 0, .emp, .int .i64 0, .int .i64 0, .int .i64 0, .int .i64 0, .emp, .int .i64 0, .int .i64 0, .int .i64 0, .int .i64 0, .emp, .int .i64 0, .int .i64 0, .int .i64 0, .int .i64 0, .emp, .int .i64 0, .int .i64 0, .int .i64 0, .int .i64 0, .emp], sz := 35, bytes := 392, flat := false } := by kernel_rfl
theorem tt57 : tt 57 = { kind := 1, flds := [(0, 24), (5, 56), (40, 55)], el := 0, len := 0, int := none, zero := [.int .i64 0, .int .i64 0, .int .i64 0, .int .i64 0, .slice none 0 0, .int .i64 0, .int .i64 0, .int .i64 0, .int .i64 0, .slice none 0 0, .int .i64 0, .int .i64 0, .int .i64 0, .int .i64 0, .slice none 0 0, .int .i64 0, .int .i64 0, .int .i64 0, .int .i64 0, .slice none 0 0, .int .i64 0, .int .i64 0, .int .i64 0, .int .i64 0, .slice none 0 0, .int .i64 0, .int .i64 0, .int .i64 0, .int .i64 0, .slice none 0 0, .int .i64 0, .int .i64 0, .int .i64 0, .int .i64 0, .slice none 0 0, .int .i64 0, .int .i64 0, .int .i64 0, .int .i64 0, .slice none 0 0, .slice none 0 0], z := [.int .i64 0, .int .i64 0, .int .i64 0, .int .i64 0, .emp, .int .i64 0, .int .i64 0, .int .i64 0, .int .i64 0, .emp, .int .i64 0, .int .i64 0, .int .i64 0, .int .i64 0, .emp, .int .i64 0, .int .i64 0, .int .i64 0, .int .i64 0, .emp, .int .i64 0, .int .i64 0, .int .i64 0, .int .i64 0, .emp, .int .i64 0, .int .i64 0, .int .i64 0, .int .i64 0, .emp, .int .i64 0, .int .i64 0, .int .i64 0, .int .i64 0, .emp, .int .i64 0, .int .i64 0, .int .i64 0, .int .i64 0, .emp, .emp], sz := 41, bytes := 472, flat := false } := by kernel_rfl
theorem tt58 : tt 58 = { kind := 1, flds := [(0, 24), (5, 56), (40, 55)], el := 0, len := 0, int := none, zero := [.int .i64 0, .int .i64 0, .int .i64 0, .int .i64 0, .slice none 0 0, .int .i64 0, .int .i64 0, .int .i64 0, .int .i64 0, .slice none 0 0, .int .i64 0, .int .i64 0, .int .i64 0, .int .i64 0, .slice none 0 0, .int .i64 0, .int .i64 0, .int .i64 0, .int .i64 0, .slice none 0 0, .int .i64 0, .int .i64 0, .int .i64 0, .int .i64 0, .slice none 0 0, .int .i64 0, .int .i64 0, .int .i64 0, .int .i64 0, .slice none 0 0, .int .i64 0, .int .i64 0, .int .i64 0, .int .i64 0, .slice none 0 0, .int .i64 0, .int .i64 0, .int .i64 0, .int .i64 0, .slice none 0 0, .slice none 0 0], z := [.int .i64 0, .int .i64 0, .int .i64 0, .int .i64 0, .emp, .int .i64 0, .int .i64 0, .int .i64 0, .int .i64 0, .emp, .int .i64 0, .int .i64 0, .int .i64 0, .int .i64 0, .emp, .int .i64 0, .int .i64 0, .int .i64 0, .int .i64 0, .emp, .int .i64 0, .int .i64 0, .int .i64 0, .int .i64 0, .emp, .int .i64 0, .int .i64 0, .int .i64 0, .int .i64 0, .emp, .int .i64 0, .int .i64 0, .int .i64 0, .int .i64 0, .emp, .int .i64 0, .int .i64 0, .int .i64 0, .int .i64 0, .emp, .emp], sz := 41, bytes := 472, flat := false } := by kernel_rfl
theorem tt59 : tt 59 = { kind := 8, flds := [], el := 0, len := 0, int := none, zero := [.nilFunc], z := [.nilf], sz := 1, bytes := 8, flat := false } := by kernel_rfl
theorem tt60 : tt 60 = { kind := 8, flds := [], el := 0, len := 0, int := none, zero := [.nilFunc], z := [.nilf], sz := 1, bytes := 8, flat := false } := by kernel_rfl
theorem tt61 : tt 61 = { kind := 8, flds := [], el := 0, len := 0, int := none, zero := [.nilFunc], z := [.nilf], sz := 1, bytes := 8, flat := false } := by kernel_rfl
theorem tt62 : tt 62 = { kind := 8, flds := [], el := 0, len := 0, int := none, zero := [.nilFunc], z := [.nilf], sz := 1, bytes := 8, flat := false } := by kernel_rfl
theorem tt63 : tt 63 = { kind := 8, flds := [], el := 0, len := 0, int := none, zero := [.nilFunc], z := [.nilf], sz := 1, bytes := 8, flat := false } := by kernel_rfl
theorem tt64 : tt 64 = { kind := 8, flds := [], el := 0, len := 0, int := none, zero := [.nilFunc], z := [.nilf], sz := 1, bytes := 8, flat := false } := by kernel_rfl
theorem tt65 : tt 65 = { kind := 8, flds := [], el := 0, len := 0, int := none, zero := [.nilFunc], z := [.nilf], sz := 1, bytes := 8, flat := false } := by kernel_rfl
theorem tt66 : tt 66 = { kind := 1, flds := [(0, 17), (1, 17), (2, 17), (3, 9)], el := 0, len := 0, int := none, zero := [.pointer none, .pointer none, .pointer none, .string ByteArray.empty], z := [.nilp, .nilp, .nilp, .str ByteArray.empty], sz := 4, bytes := 40, flat := false } := by kernel_rfl
theorem tt67 : tt 67 = { kind := 1, flds := [(0, 17), (1, 17), (2, 17), (3, 9)], el := 0, len := 0, int := none, zero := [.pointer none, .pointer none, .pointer none, .string ByteArray.empty], z := [.nilp, .nilp, .nilp, .str ByteArray.empty], sz := 4, bytes := 40, flat := false } := by kernel_rfl
theorem tt68 : tt 68 = { kind := 2, flds := [], el := 16, len := 0, int := none, zero := [], z := [], sz := 0, bytes := 0, flat := false } := by kernel_rfl
theorem tt69 : tt 69 = { kind := 1, flds := [(0, 68)], el := 0, len := 0, int := none, zero := [], z := [], sz := 0, bytes := 0, flat := false } := by kernel_rfl
theorem tt70 : tt 70 = { kind := 1, flds := [(0, 68)], el := 0, len := 0, int := none, zero := [], z := [], sz := 0, bytes := 0, flat := false } := by kernel_rfl
theorem tt71 : tt 71 = { kind := 8, flds := [], el := 0, len := 0, int := none, zero := [.nilFunc], z := [.nilf], sz := 1, bytes := 8, flat := false } := by kernel_rfl
theorem tt72 : tt 72 = { kind := 6, flds := [], el := 0, len := 0, int := some .u32, zero := [.int .u32 0], z := [.int .u32 0], sz := 1, bytes := 4, flat := false } := by kernel_rfl
theorem tt73 : tt 73 = { kind := 6, flds := [], el := 0, len := 0, int := some .u8, zero := [.int .u8 0], z := [.int .u8 0], sz := 1, bytes := 1, flat := false } := by kernel_rfl
theorem tt74 : tt 74 = { kind := 6, flds := [], el := 0, len := 0, int := some .u8, zero := [.int .u8 0], z := [.int .u8 0], sz := 1, bytes := 1, flat := false } := by kernel_rfl
theorem tt75 : tt 75 = { kind := 8, flds := [], el := 0, len := 0, int := none, zero := [.nilFunc], z := [.nilf], sz := 1, bytes := 8, flat := false } := by kernel_rfl
theorem tt76 : tt 76 = { kind := 4, flds := [], el := 5, len := 0, int := none, zero := [.pointer none], z := [.nilp], sz := 1, bytes := 8, flat := false } := by kernel_rfl
theorem tt77 : tt 77 = { kind := 6, flds := [], el := 0, len := 0, int := some .i32, zero := [.int .i32 0], z := [.int .i32 0], sz := 1, bytes := 4, flat := false } := by kernel_rfl
theorem tt78 : tt 78 = { kind := 6, flds := [], el := 0, len := 0, int := some .i32, zero := [.int .i32 0], z := [.int .i32 0], sz := 1, bytes := 4, flat := false } := by kernel_rfl
theorem tt79 : tt 79 = { kind := 1, flds := [(0, 12), (1, 12), (2, 72), (3, 73), (4, 5), (5, 5), (6, 74), (7, 75), (8, 76), (9, 77), (10, 78)], el := 0, len := 0, int := none, zero := [.int .u64 0, .int .u64 0, .int .u32 0, .int .u8 0, .int .u8 0, .int .u8 0, .int .u8 0, .nilFunc, .pointer none, .int .i32 0, .int .i32 0], z := [.int .u64 0, .int .u64 0, .int .u32 0, .int .u8 0, .int .u8 0, .int .u8 0, .int .u8 0, .nilf, .nilp, .int .i32 0, .int .i32 0], sz := 11, bytes := 48, flat := false } := by kernel_rfl
theorem tt80 : tt 80 = { kind := 1, flds := [(0, 12), (1, 12), (2, 72), (3, 73), (4, 5), (5, 5), (6, 74), (7, 75), (8, 76), (9, 77), (10, 78)], el := 0, len := 0, int := none, zero := [.int .u64 0, .int .u64 0, .int .u32 0, .int .u8 0, .int .u8 0, .int .u8 0, .int .u8 0, .nilFunc, .pointer none, .int .i32 0, .int .i32 0], z := [.int .u64 0, .int .u64 0, .int .u32 0, .int .u8 0, .int .u8 0, .int .u8 0, .int .u8 0, .nilf, .nilp, .int .i32 0, .int .i32 0], sz := 11, bytes := 48, flat := false } := by kernel_rfl
attribute [go_sem] tt1 tt2 tt3 tt4 tt5 tt6 tt7 tt8 tt9 tt10 tt11 tt12 tt13 tt14 tt15 tt16 tt17 tt18 tt19 tt21 tt22 tt23 tt24 tt25 tt26 tt27 tt28 tt29 tt30 tt32 tt33 tt34 tt35 tt36 tt37 tt38 tt39 tt40 tt41 tt42 tt43 tt45 tt46 tt47 tt48 tt49 tt50 tt51 tt52 tt53 tt54 tt55 tt56 tt57 tt58 tt59 tt60 tt61 tt62 tt63 tt64 tt65 tt66 tt67 tt68 tt69 tt70 tt71 tt72 tt73 tt74 tt75 tt76 tt77 tt78 tt79 tt80
end Go.Proofs.Ytbpchamlhblddaa
