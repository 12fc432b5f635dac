/-
  THE TYPES OF THIS SEAT's PROGRAM, as the engine reads them: printed by gen_types2.py off the seat's translation.
-/
import Derived.Test.YtmpmggbcmioipaaChecked
import Derived.Test.YtmpmggbcmioipaaK13
set_option linter.all false
namespace Go.Proofs.Ytmpmggbcmioipaa
open Go Go.K

/-- func() -/
def e1 : TI := { kind := 8, flds := [], el := 0, len := 0, int := none, zero := [.nilFunc], z := [.nilf], sz := 1, bytes := 8, flat := false }
theorem f1 : TI.Facts Try.prog 1 e1 ∧ e1.Own := ⟨⟨by kernel_rfl, by kernel_rfl, fun h => by cases h⟩, ⟨rfl, rfl, rfl, fun _ => by decide⟩⟩
/-- int64 -/
def e2 : TI := { kind := 6, flds := [], el := 0, len := 0, int := some .i64, zero := [.int .i64 0], z := [.int .i64 0], sz := 1, bytes := 8, flat := false }
theorem f2 : TI.Facts Try.prog 2 e2 ∧ e2.Own := ⟨⟨by kernel_rfl, by kernel_rfl, fun h => by cases h⟩, ⟨rfl, rfl, rfl, fun _ => by decide⟩⟩
/-- int -/
def e3 : TI := { kind := 6, flds := [], el := 0, len := 0, int := some .i64, zero := [.int .i64 0], z := [.int .i64 0], sz := 1, bytes := 8, flat := false }
theorem f3 : TI.Facts Try.prog 3 e3 ∧ e3.Own := ⟨⟨by kernel_rfl, by kernel_rfl, fun h => by cases h⟩, ⟨rfl, rfl, rfl, fun _ => by decide⟩⟩
/-- bool -/
def e4 : TI := { kind := 5, flds := [], el := 0, len := 0, int := none, zero := [.bool false], z := [.bool false], sz := 1, bytes := 1, flat := false }
theorem f4 : TI.Facts Try.prog 4 e4 ∧ e4.Own := ⟨⟨by kernel_rfl, by kernel_rfl, fun h => by cases h⟩, ⟨rfl, rfl, rfl, fun _ => by decide⟩⟩
/-- uint8 -/
def e5 : TI := { kind := 6, flds := [], el := 0, len := 0, int := some .u8, zero := [.int .u8 0], z := [.int .u8 0], sz := 1, bytes := 1, flat := false }
theorem f5 : TI.Facts Try.prog 5 e5 ∧ e5.Own := ⟨⟨by kernel_rfl, by kernel_rfl, fun h => by cases h⟩, ⟨rfl, rfl, rfl, fun _ => by decide⟩⟩
/-- abi.BoundsErrorCode -/
def e6 : TI := { kind := 6, flds := [], el := 0, len := 0, int := some .u8, zero := [.int .u8 0], z := [.int .u8 0], sz := 1, bytes := 1, flat := false }
theorem f6 : TI.Facts Try.prog 6 e6 ∧ e6.Own := ⟨⟨by kernel_rfl, by kernel_rfl, fun h => by cases h⟩, ⟨rfl, rfl, rfl, fun _ => by decide⟩⟩
/-- struct { x int64; y int; signed bool; code abi.BoundsErrorCode } -/
def e7 : TI := { kind := 1, flds := [(0, 2), (1, 3), (2, 4), (3, 6)], el := 0, len := 0, int := none, zero := [.int .i64 0, .int .i64 0, .bool false, .int .u8 0], z := [.int .i64 0, .int .i64 0, .bool false, .int .u8 0], sz := 4, bytes := 24, flat := true }
theorem f7 : TI.Facts Try.prog 7 e7 ∧ e7.Own := ⟨⟨by kernel_rfl, by kernel_rfl, fun _ => by kernel_rfl⟩, ⟨rfl, rfl, rfl, fun _ => by decide⟩⟩
/-- runtime.boundsError -/
def e8 : TI := { kind := 1, flds := [(0, 2), (1, 3), (2, 4), (3, 6)], el := 0, len := 0, int := none, zero := [.int .i64 0, .int .i64 0, .bool false, .int .u8 0], z := [.int .i64 0, .int .i64 0, .bool false, .int .u8 0], sz := 4, bytes := 24, flat := true }
theorem f8 : TI.Facts Try.prog 8 e8 ∧ e8.Own := ⟨⟨by kernel_rfl, by kernel_rfl, fun _ => by kernel_rfl⟩, ⟨rfl, rfl, rfl, fun _ => by decide⟩⟩
/-- string -/
def e9 : TI := { kind := 7, flds := [], el := 0, len := 0, int := none, zero := [.string ByteArray.empty], z := [.str ByteArray.empty], sz := 1, bytes := 16, flat := false }
theorem f9 : TI.Facts Try.prog 9 e9 ∧ e9.Own := ⟨⟨by kernel_rfl, by kernel_rfl, fun h => by cases h⟩, ⟨rfl, rfl, rfl, fun _ => by decide⟩⟩
/-- runtime.errorString -/
def e10 : TI := { kind := 7, flds := [], el := 0, len := 0, int := none, zero := [.string ByteArray.empty], z := [.str ByteArray.empty], sz := 1, bytes := 16, flat := false }
theorem f10 : TI.Facts Try.prog 10 e10 ∧ e10.Own := ⟨⟨by kernel_rfl, by kernel_rfl, fun h => by cases h⟩, ⟨rfl, rfl, rfl, fun _ => by decide⟩⟩
/-- runtime.plainError -/
def e11 : TI := { kind := 7, flds := [], el := 0, len := 0, int := none, zero := [.string ByteArray.empty], z := [.str ByteArray.empty], sz := 1, bytes := 16, flat := false }
theorem f11 : TI.Facts Try.prog 11 e11 ∧ e11.Own := ⟨⟨by kernel_rfl, by kernel_rfl, fun h => by cases h⟩, ⟨rfl, rfl, rfl, fun _ => by decide⟩⟩
/-- uintptr -/
def e12 : TI := { kind := 6, flds := [], el := 0, len := 0, int := some .u64, zero := [.int .u64 0], z := [.int .u64 0], sz := 1, bytes := 8, flat := false }
theorem f12 : TI.Facts Try.prog 12 e12 ∧ e12.Own := ⟨⟨by kernel_rfl, by kernel_rfl, fun h => by cases h⟩, ⟨rfl, rfl, rfl, fun _ => by decide⟩⟩
/-- struct { msg string; addr uintptr } -/
def e13 : TI := { kind := 1, flds := [(0, 9), (1, 12)], el := 0, len := 0, int := none, zero := [.string ByteArray.empty, .int .u64 0], z := [.str ByteArray.empty, .int .u64 0], sz := 2, bytes := 24, flat := false }
theorem f13 : TI.Facts Try.prog 13 e13 ∧ e13.Own := ⟨⟨by kernel_rfl, by kernel_rfl, fun h => by cases h⟩, ⟨rfl, rfl, rfl, fun _ => by decide⟩⟩
/-- runtime.errorAddressString -/
def e14 : TI := { kind := 1, flds := [(0, 9), (1, 12)], el := 0, len := 0, int := none, zero := [.string ByteArray.empty, .int .u64 0], z := [.str ByteArray.empty, .int .u64 0], sz := 2, bytes := 24, flat := false }
theorem f14 : TI.Facts Try.prog 14 e14 ∧ e14.Own := ⟨⟨by kernel_rfl, by kernel_rfl, fun h => by cases h⟩, ⟨rfl, rfl, rfl, fun _ => by decide⟩⟩
/-- *runtime.TypeAssertionError -/
def e15 : TI := { kind := 4, flds := [], el := 123, len := 0, int := none, zero := [.pointer none], z := [.nilp], sz := 1, bytes := 8, flat := false }
theorem f15 : TI.Facts Try.prog 15 e15 ∧ e15.Own := ⟨⟨by kernel_rfl, by kernel_rfl, fun h => by cases h⟩, ⟨rfl, rfl, rfl, fun _ => by decide⟩⟩
/-- *runtime.PanicNilError -/
def e16 : TI := { kind := 4, flds := [], el := 126, len := 0, int := none, zero := [.pointer none], z := [.nilp], sz := 1, bytes := 8, flat := false }
theorem f16 : TI.Facts Try.prog 16 e16 ∧ e16.Own := ⟨⟨by kernel_rfl, by kernel_rfl, fun h => by cases h⟩, ⟨rfl, rfl, rfl, fun _ => by decide⟩⟩
/-- *abi.Type -/
def e17 : TI := { kind := 4, flds := [], el := 136, len := 0, int := none, zero := [.pointer none], z := [.nilp], sz := 1, bytes := 8, flat := false }
theorem f17 : TI.Facts Try.prog 17 e17 ∧ e17.Own := ⟨⟨by kernel_rfl, by kernel_rfl, fun h => by cases h⟩, ⟨rfl, rfl, rfl, fun _ => by decide⟩⟩
/-- struct { typ *abi.Type } -/
def e18 : TI := { kind := 1, flds := [(0, 17)], el := 0, len := 0, int := none, zero := [.pointer none], z := [.nilp], sz := 1, bytes := 8, flat := false }
theorem f18 : TI.Facts Try.prog 18 e18 ∧ e18.Own := ⟨⟨by kernel_rfl, by kernel_rfl, fun h => by cases h⟩, ⟨rfl, rfl, rfl, fun _ => by decide⟩⟩
/-- maps.unhashableTypeError -/
def e19 : TI := { kind := 1, flds := [(0, 17)], el := 0, len := 0, int := none, zero := [.pointer none], z := [.nilp], sz := 1, bytes := 8, flat := false }
theorem f19 : TI.Facts Try.prog 19 e19 ∧ e19.Own := ⟨⟨by kernel_rfl, by kernel_rfl, fun h => by cases h⟩, ⟨rfl, rfl, rfl, fun _ => by decide⟩⟩
/-- int32 -/
def e21 : TI := { kind := 6, flds := [], el := 0, len := 0, int := some .i32, zero := [.int .i32 0], z := [.int .i32 0], sz := 1, bytes := 4, flat := false }
theorem f21 : TI.Facts Try.prog 21 e21 ∧ e21.Own := ⟨⟨by kernel_rfl, by kernel_rfl, fun h => by cases h⟩, ⟨rfl, rfl, rfl, fun _ => by decide⟩⟩
/-- []api.Box -/
def e22 : TI := { kind := 3, flds := [], el := 33, len := 0, int := none, zero := [.slice none 0 0], z := [.emp], sz := 1, bytes := 24, flat := false }
theorem f22 : TI.Facts Try.prog 22 e22 ∧ e22.Own := ⟨⟨by kernel_rfl, by kernel_rfl, fun h => by cases h⟩, ⟨rfl, rfl, rfl, fun _ => by decide⟩⟩
/-- struct { X int; Y int; H int } -/
def e23 : TI := { kind := 1, flds := [(0, 3), (1, 3), (2, 3)], el := 0, len := 0, int := none, zero := [.int .i64 0, .int .i64 0, .int .i64 0], z := [.int .i64 0, .int .i64 0, .int .i64 0], sz := 3, bytes := 24, flat := true }
theorem f23 : TI.Facts Try.prog 23 e23 ∧ e23.Own := ⟨⟨by kernel_rfl, by kernel_rfl, fun _ => by kernel_rfl⟩, ⟨rfl, rfl, rfl, fun _ => by decide⟩⟩
/-- api.Pose -/
def e24 : TI := { kind := 1, flds := [(0, 3), (1, 3), (2, 3)], el := 0, len := 0, int := none, zero := [.int .i64 0, .int .i64 0, .int .i64 0], z := [.int .i64 0, .int .i64 0, .int .i64 0], sz := 3, bytes := 24, flat := true }
theorem f24 : TI.Facts Try.prog 24 e24 ∧ e24.Own := ⟨⟨by kernel_rfl, by kernel_rfl, fun _ => by kernel_rfl⟩, ⟨rfl, rfl, rfl, fun _ => by decide⟩⟩
/-- func() bool -/
def e25 : TI := { kind := 8, flds := [], el := 0, len := 0, int := none, zero := [.nilFunc], z := [.nilf], sz := 1, bytes := 8, flat := false }
theorem f25 : TI.Facts Try.prog 25 e25 ∧ e25.Own := ⟨⟨by kernel_rfl, by kernel_rfl, fun h => by cases h⟩, ⟨rfl, rfl, rfl, fun _ => by decide⟩⟩
/-- api.Errno -/
def e26 : TI := { kind := 6, flds := [], el := 0, len := 0, int := some .i64, zero := [.int .i64 0], z := [.int .i64 0], sz := 1, bytes := 8, flat := false }
theorem f26 : TI.Facts Try.prog 26 e26 ∧ e26.Own := ⟨⟨by kernel_rfl, by kernel_rfl, fun h => by cases h⟩, ⟨rfl, rfl, rfl, fun _ => by decide⟩⟩
/-- func([]api.Box, int) ([]api.Box, api.Errno) -/
def e28 : TI := { kind := 8, flds := [], el := 0, len := 0, int := none, zero := [.nilFunc], z := [.nilf], sz := 1, bytes := 8, flat := false }
theorem f28 : TI.Facts Try.prog 28 e28 ∧ e28.Own := ⟨⟨by kernel_rfl, by kernel_rfl, fun h => by cases h⟩, ⟨rfl, rfl, rfl, fun _ => by decide⟩⟩
/-- func([]api.Box, []api.Box) bool -/
def e29 : TI := { kind := 8, flds := [], el := 0, len := 0, int := none, zero := [.nilFunc], z := [.nilf], sz := 1, bytes := 8, flat := false }
theorem f29 : TI.Facts Try.prog 29 e29 ∧ e29.Own := ⟨⟨by kernel_rfl, by kernel_rfl, fun h => by cases h⟩, ⟨rfl, rfl, rfl, fun _ => by decide⟩⟩
/-- func([]api.Box, api.Pose) bool -/
def e30 : TI := { kind := 8, flds := [], el := 0, len := 0, int := none, zero := [.nilFunc], z := [.nilf], sz := 1, bytes := 8, flat := false }
theorem f30 : TI.Facts Try.prog 30 e30 ∧ e30.Own := ⟨⟨by kernel_rfl, by kernel_rfl, fun h => by cases h⟩, ⟨rfl, rfl, rfl, fun _ => by decide⟩⟩
/-- func([]api.Box, int, api.Pose) bool -/
def e31 : TI := { kind := 8, flds := [], el := 0, len := 0, int := none, zero := [.nilFunc], z := [.nilf], sz := 1, bytes := 8, flat := false }
theorem f31 : TI.Facts Try.prog 31 e31 ∧ e31.Own := ⟨⟨by kernel_rfl, by kernel_rfl, fun h => by cases h⟩, ⟨rfl, rfl, rfl, fun _ => by decide⟩⟩
/-- struct { X0 int; Y0 int; X1 int; Y1 int; From int; Count int } -/
def e32 : TI := { kind := 1, flds := [(0, 3), (1, 3), (2, 3), (3, 3), (4, 3), (5, 3)], el := 0, len := 0, int := none, zero := [.int .i64 0, .int .i64 0, .int .i64 0, .int .i64 0, .int .i64 0, .int .i64 0], z := [.int .i64 0, .int .i64 0, .int .i64 0, .int .i64 0, .int .i64 0, .int .i64 0], sz := 6, bytes := 48, flat := true }
theorem f32 : TI.Facts Try.prog 32 e32 ∧ e32.Own := ⟨⟨by kernel_rfl, by kernel_rfl, fun _ => by kernel_rfl⟩, ⟨rfl, rfl, rfl, fun _ => by decide⟩⟩
/-- api.Box -/
def e33 : TI := { kind := 1, flds := [(0, 3), (1, 3), (2, 3), (3, 3), (4, 3), (5, 3)], el := 0, len := 0, int := none, zero := [.int .i64 0, .int .i64 0, .int .i64 0, .int .i64 0, .int .i64 0, .int .i64 0], z := [.int .i64 0, .int .i64 0, .int .i64 0, .int .i64 0, .int .i64 0, .int .i64 0], sz := 6, bytes := 48, flat := true }
theorem f33 : TI.Facts Try.prog 33 e33 ∧ e33.Own := ⟨⟨by kernel_rfl, by kernel_rfl, fun _ => by kernel_rfl⟩, ⟨rfl, rfl, rfl, fun _ => by decide⟩⟩
/-- struct { Turn int; Forward int } -/
def e34 : TI := { kind := 1, flds := [(0, 3), (1, 3)], el := 0, len := 0, int := none, zero := [.int .i64 0, .int .i64 0], z := [.int .i64 0, .int .i64 0], sz := 2, bytes := 16, flat := true }
theorem f34 : TI.Facts Try.prog 34 e34 ∧ e34.Own := ⟨⟨by kernel_rfl, by kernel_rfl, fun _ => by kernel_rfl⟩, ⟨rfl, rfl, rfl, fun _ => by decide⟩⟩
/-- api.Command -/
def e35 : TI := { kind := 1, flds := [(0, 3), (1, 3)], el := 0, len := 0, int := none, zero := [.int .i64 0, .int .i64 0], z := [.int .i64 0, .int .i64 0], sz := 2, bytes := 16, flat := true }
theorem f35 : TI.Facts Try.prog 35 e35 ∧ e35.Own := ⟨⟨by kernel_rfl, by kernel_rfl, fun _ => by kernel_rfl⟩, ⟨rfl, rfl, rfl, fun _ => by decide⟩⟩
/-- struct { Turn int; Length int; Slip int; Range int } -/
def e36 : TI := { kind := 1, flds := [(0, 3), (1, 3), (2, 3), (3, 3)], el := 0, len := 0, int := none, zero := [.int .i64 0, .int .i64 0, .int .i64 0, .int .i64 0], z := [.int .i64 0, .int .i64 0, .int .i64 0, .int .i64 0], sz := 4, bytes := 32, flat := true }
theorem f36 : TI.Facts Try.prog 36 e36 ∧ e36.Own := ⟨⟨by kernel_rfl, by kernel_rfl, fun _ => by kernel_rfl⟩, ⟨rfl, rfl, rfl, fun _ => by decide⟩⟩
/-- api.Bounds -/
def e37 : TI := { kind := 1, flds := [(0, 3), (1, 3), (2, 3), (3, 3)], el := 0, len := 0, int := none, zero := [.int .i64 0, .int .i64 0, .int .i64 0, .int .i64 0], z := [.int .i64 0, .int .i64 0, .int .i64 0, .int .i64 0], sz := 4, bytes := 32, flat := true }
theorem f37 : TI.Facts Try.prog 37 e37 ∧ e37.Own := ⟨⟨by kernel_rfl, by kernel_rfl, fun _ => by kernel_rfl⟩, ⟨rfl, rfl, rfl, fun _ => by decide⟩⟩
/-- struct { C api.Command; B api.Bounds } -/
def e38 : TI := { kind := 1, flds := [(0, 35), (2, 37)], el := 0, len := 0, int := none, zero := [.int .i64 0, .int .i64 0, .int .i64 0, .int .i64 0, .int .i64 0, .int .i64 0], z := [.int .i64 0, .int .i64 0, .int .i64 0, .int .i64 0, .int .i64 0, .int .i64 0], sz := 6, bytes := 48, flat := false }
theorem f38 : TI.Facts Try.prog 38 e38 ∧ e38.Own := ⟨⟨by kernel_rfl, by kernel_rfl, fun h => by cases h⟩, ⟨rfl, rfl, rfl, fun _ => by decide⟩⟩
/-- wayfinderlaw23.Go -/
def e39 : TI := { kind := 1, flds := [(0, 35), (2, 37)], el := 0, len := 0, int := none, zero := [.int .i64 0, .int .i64 0, .int .i64 0, .int .i64 0, .int .i64 0, .int .i64 0], z := [.int .i64 0, .int .i64 0, .int .i64 0, .int .i64 0, .int .i64 0, .int .i64 0], sz := 6, bytes := 48, flat := false }
theorem f39 : TI.Facts Try.prog 39 e39 ∧ e39.Own := ⟨⟨by kernel_rfl, by kernel_rfl, fun h => by cases h⟩, ⟨rfl, rfl, rfl, fun _ => by decide⟩⟩
/-- struct { Turn int; Length int; X int; Y int } -/
def e40 : TI := { kind := 1, flds := [(0, 3), (1, 3), (2, 3), (3, 3)], el := 0, len := 0, int := none, zero := [.int .i64 0, .int .i64 0, .int .i64 0, .int .i64 0], z := [.int .i64 0, .int .i64 0, .int .i64 0, .int .i64 0], sz := 4, bytes := 32, flat := true }
theorem f40 : TI.Facts Try.prog 40 e40 ∧ e40.Own := ⟨⟨by kernel_rfl, by kernel_rfl, fun _ => by kernel_rfl⟩, ⟨rfl, rfl, rfl, fun _ => by decide⟩⟩
/-- api.Slip -/
def e41 : TI := { kind := 1, flds := [(0, 3), (1, 3), (2, 3), (3, 3)], el := 0, len := 0, int := none, zero := [.int .i64 0, .int .i64 0, .int .i64 0, .int .i64 0], z := [.int .i64 0, .int .i64 0, .int .i64 0, .int .i64 0], sz := 4, bytes := 32, flat := true }
theorem f41 : TI.Facts Try.prog 41 e41 ∧ e41.Own := ⟨⟨by kernel_rfl, by kernel_rfl, fun _ => by kernel_rfl⟩, ⟨rfl, rfl, rfl, fun _ => by decide⟩⟩
/-- struct { K uint8; H uint8; E api.Slip } -/
def e42 : TI := { kind := 1, flds := [(0, 5), (1, 5), (2, 41)], el := 0, len := 0, int := none, zero := [.int .u8 0, .int .u8 0, .int .i64 0, .int .i64 0, .int .i64 0, .int .i64 0], z := [.int .u8 0, .int .u8 0, .int .i64 0, .int .i64 0, .int .i64 0, .int .i64 0], sz := 6, bytes := 40, flat := false }
theorem f42 : TI.Facts Try.prog 42 e42 ∧ e42.Own := ⟨⟨by kernel_rfl, by kernel_rfl, fun h => by cases h⟩, ⟨rfl, rfl, rfl, fun _ => by decide⟩⟩
/-- wayfinderlaw23.Try -/
def e43 : TI := { kind := 1, flds := [(0, 5), (1, 5), (2, 41)], el := 0, len := 0, int := none, zero := [.int .u8 0, .int .u8 0, .int .i64 0, .int .i64 0, .int .i64 0, .int .i64 0], z := [.int .u8 0, .int .u8 0, .int .i64 0, .int .i64 0, .int .i64 0, .int .i64 0], sz := 6, bytes := 40, flat := false }
theorem f43 : TI.Facts Try.prog 43 e43 ∧ e43.Own := ⟨⟨by kernel_rfl, by kernel_rfl, fun h => by cases h⟩, ⟨rfl, rfl, rfl, fun _ => by decide⟩⟩
/-- func(api.Box) bool -/
def e44 : TI := { kind := 8, flds := [], el := 0, len := 0, int := none, zero := [.nilFunc], z := [.nilf], sz := 1, bytes := 8, flat := false }
theorem f44 : TI.Facts Try.prog 44 e44 ∧ e44.Own := ⟨⟨by kernel_rfl, by kernel_rfl, fun h => by cases h⟩, ⟨rfl, rfl, rfl, fun _ => by decide⟩⟩
/-- func(api.Command) bool -/
def e45 : TI := { kind := 8, flds := [], el := 0, len := 0, int := none, zero := [.nilFunc], z := [.nilf], sz := 1, bytes := 8, flat := false }
theorem f45 : TI.Facts Try.prog 45 e45 ∧ e45.Own := ⟨⟨by kernel_rfl, by kernel_rfl, fun h => by cases h⟩, ⟨rfl, rfl, rfl, fun _ => by decide⟩⟩
/-- func(api.Bounds) bool -/
def e46 : TI := { kind := 8, flds := [], el := 0, len := 0, int := none, zero := [.nilFunc], z := [.nilf], sz := 1, bytes := 8, flat := false }
theorem f46 : TI.Facts Try.prog 46 e46 ∧ e46.Own := ⟨⟨by kernel_rfl, by kernel_rfl, fun h => by cases h⟩, ⟨rfl, rfl, rfl, fun _ => by decide⟩⟩
/-- func(api.Box, api.Command, api.Bounds) (api.Box, api.Errno) -/
def e48 : TI := { kind := 8, flds := [], el := 0, len := 0, int := none, zero := [.nilFunc], z := [.nilf], sz := 1, bytes := 8, flat := false }
theorem f48 : TI.Facts Try.prog 48 e48 ∧ e48.Own := ⟨⟨by kernel_rfl, by kernel_rfl, fun h => by cases h⟩, ⟨rfl, rfl, rfl, fun _ => by decide⟩⟩
/-- func(api.Bounds, api.Slip) (api.Slip, api.Errno) -/
def e50 : TI := { kind := 8, flds := [], el := 0, len := 0, int := none, zero := [.nilFunc], z := [.nilf], sz := 1, bytes := 8, flat := false }
theorem f50 : TI.Facts Try.prog 50 e50 ∧ e50.Own := ⟨⟨by kernel_rfl, by kernel_rfl, fun h => by cases h⟩, ⟨rfl, rfl, rfl, fun _ => by decide⟩⟩
/-- func(api.Box, uint8, uint8) api.Pose -/
def e51 : TI := { kind := 8, flds := [], el := 0, len := 0, int := none, zero := [.nilFunc], z := [.nilf], sz := 1, bytes := 8, flat := false }
theorem f51 : TI.Facts Try.prog 51 e51 ∧ e51.Own := ⟨⟨by kernel_rfl, by kernel_rfl, fun h => by cases h⟩, ⟨rfl, rfl, rfl, fun _ => by decide⟩⟩
/-- func(int, int) int -/
def e52 : TI := { kind := 8, flds := [], el := 0, len := 0, int := none, zero := [.nilFunc], z := [.nilf], sz := 1, bytes := 8, flat := false }
theorem f52 : TI.Facts Try.prog 52 e52 ∧ e52.Own := ⟨⟨by kernel_rfl, by kernel_rfl, fun h => by cases h⟩, ⟨rfl, rfl, rfl, fun _ => by decide⟩⟩
/-- func(api.Pose, api.Command, api.Slip) (api.Pose, api.Errno) -/
def e54 : TI := { kind := 8, flds := [], el := 0, len := 0, int := none, zero := [.nilFunc], z := [.nilf], sz := 1, bytes := 8, flat := false }
theorem f54 : TI.Facts Try.prog 54 e54 ∧ e54.Own := ⟨⟨by kernel_rfl, by kernel_rfl, fun h => by cases h⟩, ⟨rfl, rfl, rfl, fun _ => by decide⟩⟩
/-- func(api.Box, api.Pose) bool -/
def e55 : TI := { kind := 8, flds := [], el := 0, len := 0, int := none, zero := [.nilFunc], z := [.nilf], sz := 1, bytes := 8, flat := false }
theorem f55 : TI.Facts Try.prog 55 e55 ∧ e55.Own := ⟨⟨by kernel_rfl, by kernel_rfl, fun h => by cases h⟩, ⟨rfl, rfl, rfl, fun _ => by decide⟩⟩
/-- func(api.Box, wayfinderlaw23.Go, wayfinderlaw23.Try) bool -/
def e56 : TI := { kind := 8, flds := [], el := 0, len := 0, int := none, zero := [.nilFunc], z := [.nilf], sz := 1, bytes := 8, flat := false }
theorem f56 : TI.Facts Try.prog 56 e56 ∧ e56.Own := ⟨⟨by kernel_rfl, by kernel_rfl, fun h => by cases h⟩, ⟨rfl, rfl, rfl, fun _ => by decide⟩⟩
/-- struct { Bounds api.Bounds; Bump bool } -/
def e57 : TI := { kind := 1, flds := [(0, 37), (4, 4)], el := 0, len := 0, int := none, zero := [.int .i64 0, .int .i64 0, .int .i64 0, .int .i64 0, .bool false], z := [.int .i64 0, .int .i64 0, .int .i64 0, .int .i64 0, .bool false], sz := 5, bytes := 40, flat := false }
theorem f57 : TI.Facts Try.prog 57 e57 ∧ e57.Own := ⟨⟨by kernel_rfl, by kernel_rfl, fun h => by cases h⟩, ⟨rfl, rfl, rfl, fun _ => by decide⟩⟩
/-- wayfinderlaw23.Bounds -/
def e58 : TI := { kind := 1, flds := [(0, 37), (4, 4)], el := 0, len := 0, int := none, zero := [.int .i64 0, .int .i64 0, .int .i64 0, .int .i64 0, .bool false], z := [.int .i64 0, .int .i64 0, .int .i64 0, .int .i64 0, .bool false], sz := 5, bytes := 40, flat := false }
theorem f58 : TI.Facts Try.prog 58 e58 ∧ e58.Own := ⟨⟨by kernel_rfl, by kernel_rfl, fun h => by cases h⟩, ⟨rfl, rfl, rfl, fun _ => by decide⟩⟩
/-- func([]api.Box, api.Command, api.Bounds, bool) ([]api.Box, api.Errno) -/
def e59 : TI := { kind := 8, flds := [], el := 0, len := 0, int := none, zero := [.nilFunc], z := [.nilf], sz := 1, bytes := 8, flat := false }
theorem f59 : TI.Facts Try.prog 59 e59 ∧ e59.Own := ⟨⟨by kernel_rfl, by kernel_rfl, fun h => by cases h⟩, ⟨rfl, rfl, rfl, fun _ => by decide⟩⟩
/-- func([]api.Box, api.Command, wayfinderlaw23.Bounds) bool -/
def e60 : TI := { kind := 8, flds := [], el := 0, len := 0, int := none, zero := [.nilFunc], z := [.nilf], sz := 1, bytes := 8, flat := false }
theorem f60 : TI.Facts Try.prog 60 e60 ∧ e60.Own := ⟨⟨by kernel_rfl, by kernel_rfl, fun h => by cases h⟩, ⟨rfl, rfl, rfl, fun _ => by decide⟩⟩
/-- func(api.Box, api.Box) bool -/
def e61 : TI := { kind := 8, flds := [], el := 0, len := 0, int := none, zero := [.nilFunc], z := [.nilf], sz := 1, bytes := 8, flat := false }
theorem f61 : TI.Facts Try.prog 61 e61 ∧ e61.Own := ⟨⟨by kernel_rfl, by kernel_rfl, fun h => by cases h⟩, ⟨rfl, rfl, rfl, fun _ => by decide⟩⟩
/-- func(api.Box, api.Command, api.Bounds) ([]api.Box, api.Errno) -/
def e62 : TI := { kind := 8, flds := [], el := 0, len := 0, int := none, zero := [.nilFunc], z := [.nilf], sz := 1, bytes := 8, flat := false }
theorem f62 : TI.Facts Try.prog 62 e62 ∧ e62.Own := ⟨⟨by kernel_rfl, by kernel_rfl, fun h => by cases h⟩, ⟨rfl, rfl, rfl, fun _ => by decide⟩⟩
/-- func(api.Box) (api.Box, api.Box, bool) -/
def e64 : TI := { kind := 8, flds := [], el := 0, len := 0, int := none, zero := [.nilFunc], z := [.nilf], sz := 1, bytes := 8, flat := false }
theorem f64 : TI.Facts Try.prog 64 e64 ∧ e64.Own := ⟨⟨by kernel_rfl, by kernel_rfl, fun h => by cases h⟩, ⟨rfl, rfl, rfl, fun _ => by decide⟩⟩
/-- func(api.Box, api.Box) (api.Box, api.Errno) -/
def e65 : TI := { kind := 8, flds := [], el := 0, len := 0, int := none, zero := [.nilFunc], z := [.nilf], sz := 1, bytes := 8, flat := false }
theorem f65 : TI.Facts Try.prog 65 e65 ∧ e65.Own := ⟨⟨by kernel_rfl, by kernel_rfl, fun h => by cases h⟩, ⟨rfl, rfl, rfl, fun _ => by decide⟩⟩
/-- func(api.Box) int -/
def e66 : TI := { kind := 8, flds := [], el := 0, len := 0, int := none, zero := [.nilFunc], z := [.nilf], sz := 1, bytes := 8, flat := false }
theorem f66 : TI.Facts Try.prog 66 e66 ∧ e66.Own := ⟨⟨by kernel_rfl, by kernel_rfl, fun h => by cases h⟩, ⟨rfl, rfl, rfl, fun _ => by decide⟩⟩
/-- func([]api.Box, func(api.Box) bool) bool -/
def e67 : TI := { kind := 8, flds := [], el := 0, len := 0, int := none, zero := [.nilFunc], z := [.nilf], sz := 1, bytes := 8, flat := false }
theorem f67 : TI.Facts Try.prog 67 e67 ∧ e67.Own := ⟨⟨by kernel_rfl, by kernel_rfl, fun h => by cases h⟩, ⟨rfl, rfl, rfl, fun _ => by decide⟩⟩
/-- func([]api.Box) []api.Box -/
def e68 : TI := { kind := 8, flds := [], el := 0, len := 0, int := none, zero := [.nilFunc], z := [.nilf], sz := 1, bytes := 8, flat := false }
theorem f68 : TI.Facts Try.prog 68 e68 ∧ e68.Own := ⟨⟨by kernel_rfl, by kernel_rfl, fun h => by cases h⟩, ⟨rfl, rfl, rfl, fun _ => by decide⟩⟩
/-- func([]api.Box) (int, int, api.Box) -/
def e70 : TI := { kind := 8, flds := [], el := 0, len := 0, int := none, zero := [.nilFunc], z := [.nilf], sz := 1, bytes := 8, flat := false }
theorem f70 : TI.Facts Try.prog 70 e70 ∧ e70.Own := ⟨⟨by kernel_rfl, by kernel_rfl, fun h => by cases h⟩, ⟨rfl, rfl, rfl, fun _ => by decide⟩⟩
/-- func([]api.Box, int, int) []api.Box -/
def e71 : TI := { kind := 8, flds := [], el := 0, len := 0, int := none, zero := [.nilFunc], z := [.nilf], sz := 1, bytes := 8, flat := false }
theorem f71 : TI.Facts Try.prog 71 e71 ∧ e71.Own := ⟨⟨by kernel_rfl, by kernel_rfl, fun h => by cases h⟩, ⟨rfl, rfl, rfl, fun _ => by decide⟩⟩
/-- func(api.Arc) bool -/
def e72 : TI := { kind := 8, flds := [], el := 0, len := 0, int := none, zero := [.nilFunc], z := [.nilf], sz := 1, bytes := 8, flat := false }
theorem f72 : TI.Facts Try.prog 72 e72 ∧ e72.Own := ⟨⟨by kernel_rfl, by kernel_rfl, fun h => by cases h⟩, ⟨rfl, rfl, rfl, fun _ => by decide⟩⟩
/-- struct { From int; Count int } -/
def e73 : TI := { kind := 1, flds := [(0, 3), (1, 3)], el := 0, len := 0, int := none, zero := [.int .i64 0, .int .i64 0], z := [.int .i64 0, .int .i64 0], sz := 2, bytes := 16, flat := true }
theorem f73 : TI.Facts Try.prog 73 e73 ∧ e73.Own := ⟨⟨by kernel_rfl, by kernel_rfl, fun _ => by kernel_rfl⟩, ⟨rfl, rfl, rfl, fun _ => by decide⟩⟩
/-- api.Arc -/
def e74 : TI := { kind := 1, flds := [(0, 3), (1, 3)], el := 0, len := 0, int := none, zero := [.int .i64 0, .int .i64 0], z := [.int .i64 0, .int .i64 0], sz := 2, bytes := 16, flat := true }
theorem f74 : TI.Facts Try.prog 74 e74 ∧ e74.Own := ⟨⟨by kernel_rfl, by kernel_rfl, fun _ => by kernel_rfl⟩, ⟨rfl, rfl, rfl, fun _ => by decide⟩⟩
/-- func(int, int) bool -/
def e75 : TI := { kind := 8, flds := [], el := 0, len := 0, int := none, zero := [.nilFunc], z := [.nilf], sz := 1, bytes := 8, flat := false }
theorem f75 : TI.Facts Try.prog 75 e75 ∧ e75.Own := ⟨⟨by kernel_rfl, by kernel_rfl, fun h => by cases h⟩, ⟨rfl, rfl, rfl, fun _ => by decide⟩⟩
/-- func(api.Box, api.Command, api.Bounds) bool -/
def e76 : TI := { kind := 8, flds := [], el := 0, len := 0, int := none, zero := [.nilFunc], z := [.nilf], sz := 1, bytes := 8, flat := false }
theorem f76 : TI.Facts Try.prog 76 e76 ∧ e76.Own := ⟨⟨by kernel_rfl, by kernel_rfl, fun h => by cases h⟩, ⟨rfl, rfl, rfl, fun _ => by decide⟩⟩
/-- struct { X0 int; Y0 int; X1 int; Y1 int } -/
def e77 : TI := { kind := 1, flds := [(0, 3), (1, 3), (2, 3), (3, 3)], el := 0, len := 0, int := none, zero := [.int .i64 0, .int .i64 0, .int .i64 0, .int .i64 0], z := [.int .i64 0, .int .i64 0, .int .i64 0, .int .i64 0], sz := 4, bytes := 32, flat := true }
theorem f77 : TI.Facts Try.prog 77 e77 ∧ e77.Own := ⟨⟨by kernel_rfl, by kernel_rfl, fun _ => by kernel_rfl⟩, ⟨rfl, rfl, rfl, fun _ => by decide⟩⟩
/-- api.Rect -/
def e78 : TI := { kind := 1, flds := [(0, 3), (1, 3), (2, 3), (3, 3)], el := 0, len := 0, int := none, zero := [.int .i64 0, .int .i64 0, .int .i64 0, .int .i64 0], z := [.int .i64 0, .int .i64 0, .int .i64 0, .int .i64 0], sz := 4, bytes := 32, flat := true }
theorem f78 : TI.Facts Try.prog 78 e78 ∧ e78.Own := ⟨⟨by kernel_rfl, by kernel_rfl, fun _ => by kernel_rfl⟩, ⟨rfl, rfl, rfl, fun _ => by decide⟩⟩
/-- func(api.Command, api.Bounds, api.Arc) api.Rect -/
def e79 : TI := { kind := 8, flds := [], el := 0, len := 0, int := none, zero := [.nilFunc], z := [.nilf], sz := 1, bytes := 8, flat := false }
theorem f79 : TI.Facts Try.prog 79 e79 ∧ e79.Own := ⟨⟨by kernel_rfl, by kernel_rfl, fun h => by cases h⟩, ⟨rfl, rfl, rfl, fun _ => by decide⟩⟩
/-- func(api.Box) api.Arc -/
def e80 : TI := { kind := 8, flds := [], el := 0, len := 0, int := none, zero := [.nilFunc], z := [.nilf], sz := 1, bytes := 8, flat := false }
theorem f80 : TI.Facts Try.prog 80 e80 ∧ e80.Own := ⟨⟨by kernel_rfl, by kernel_rfl, fun h => by cases h⟩, ⟨rfl, rfl, rfl, fun _ => by decide⟩⟩
/-- func(api.Box, api.Arc, api.Rect) (api.Box, api.Errno) -/
def e81 : TI := { kind := 8, flds := [], el := 0, len := 0, int := none, zero := [.nilFunc], z := [.nilf], sz := 1, bytes := 8, flat := false }
theorem f81 : TI.Facts Try.prog 81 e81 ∧ e81.Own := ⟨⟨by kernel_rfl, by kernel_rfl, fun h => by cases h⟩, ⟨rfl, rfl, rfl, fun _ => by decide⟩⟩
/-- func(api.Box, int, int) api.Arc -/
def e82 : TI := { kind := 8, flds := [], el := 0, len := 0, int := none, zero := [.nilFunc], z := [.nilf], sz := 1, bytes := 8, flat := false }
theorem f82 : TI.Facts Try.prog 82 e82 ∧ e82.Own := ⟨⟨by kernel_rfl, by kernel_rfl, fun h => by cases h⟩, ⟨rfl, rfl, rfl, fun _ => by decide⟩⟩
/-- func(int, int, int) int -/
def e83 : TI := { kind := 8, flds := [], el := 0, len := 0, int := none, zero := [.nilFunc], z := [.nilf], sz := 1, bytes := 8, flat := false }
theorem f83 : TI.Facts Try.prog 83 e83 ∧ e83.Own := ⟨⟨by kernel_rfl, by kernel_rfl, fun h => by cases h⟩, ⟨rfl, rfl, rfl, fun _ => by decide⟩⟩
/-- func(api.Pose) bool -/
def e84 : TI := { kind := 8, flds := [], el := 0, len := 0, int := none, zero := [.nilFunc], z := [.nilf], sz := 1, bytes := 8, flat := false }
theorem f84 : TI.Facts Try.prog 84 e84 ∧ e84.Own := ⟨⟨by kernel_rfl, by kernel_rfl, fun h => by cases h⟩, ⟨rfl, rfl, rfl, fun _ => by decide⟩⟩
/-- struct { X int; Y int } -/
def e85 : TI := { kind := 1, flds := [(0, 3), (1, 3)], el := 0, len := 0, int := none, zero := [.int .i64 0, .int .i64 0], z := [.int .i64 0, .int .i64 0], sz := 2, bytes := 16, flat := true }
theorem f85 : TI.Facts Try.prog 85 e85 ∧ e85.Own := ⟨⟨by kernel_rfl, by kernel_rfl, fun _ => by kernel_rfl⟩, ⟨rfl, rfl, rfl, fun _ => by decide⟩⟩
/-- api.Point -/
def e86 : TI := { kind := 1, flds := [(0, 3), (1, 3)], el := 0, len := 0, int := none, zero := [.int .i64 0, .int .i64 0], z := [.int .i64 0, .int .i64 0], sz := 2, bytes := 16, flat := true }
theorem f86 : TI.Facts Try.prog 86 e86 ∧ e86.Own := ⟨⟨by kernel_rfl, by kernel_rfl, fun _ => by kernel_rfl⟩, ⟨rfl, rfl, rfl, fun _ => by decide⟩⟩
/-- func(int, int) api.Point -/
def e87 : TI := { kind := 8, flds := [], el := 0, len := 0, int := none, zero := [.nilFunc], z := [.nilf], sz := 1, bytes := 8, flat := false }
theorem f87 : TI.Facts Try.prog 87 e87 ∧ e87.Own := ⟨⟨by kernel_rfl, by kernel_rfl, fun h => by cases h⟩, ⟨rfl, rfl, rfl, fun _ => by decide⟩⟩
/-- func(api.Arc, int) bool -/
def e88 : TI := { kind := 8, flds := [], el := 0, len := 0, int := none, zero := [.nilFunc], z := [.nilf], sz := 1, bytes := 8, flat := false }
theorem f88 : TI.Facts Try.prog 88 e88 ∧ e88.Own := ⟨⟨by kernel_rfl, by kernel_rfl, fun h => by cases h⟩, ⟨rfl, rfl, rfl, fun _ => by decide⟩⟩
/-- func([]api.Box) bool -/
def e89 : TI := { kind := 8, flds := [], el := 0, len := 0, int := none, zero := [.nilFunc], z := [.nilf], sz := 1, bytes := 8, flat := false }
theorem f89 : TI.Facts Try.prog 89 e89 ∧ e89.Own := ⟨⟨by kernel_rfl, by kernel_rfl, fun h => by cases h⟩, ⟨rfl, rfl, rfl, fun _ => by decide⟩⟩
/-- []api.Arc -/
def e90 : TI := { kind := 3, flds := [], el := 74, len := 0, int := none, zero := [.slice none 0 0], z := [.emp], sz := 1, bytes := 24, flat := false }
theorem f90 : TI.Facts Try.prog 90 e90 ∧ e90.Own := ⟨⟨by kernel_rfl, by kernel_rfl, fun h => by cases h⟩, ⟨rfl, rfl, rfl, fun _ => by decide⟩⟩
/-- func(api.Arc, api.Arc) []api.Arc -/
def e91 : TI := { kind := 8, flds := [], el := 0, len := 0, int := none, zero := [.nilFunc], z := [.nilf], sz := 1, bytes := 8, flat := false }
theorem f91 : TI.Facts Try.prog 91 e91 ∧ e91.Own := ⟨⟨by kernel_rfl, by kernel_rfl, fun h => by cases h⟩, ⟨rfl, rfl, rfl, fun _ => by decide⟩⟩
/-- []int -/
def e92 : TI := { kind := 3, flds := [], el := 3, len := 0, int := none, zero := [.slice none 0 0], z := [.emp], sz := 1, bytes := 24, flat := false }
theorem f92 : TI.Facts Try.prog 92 e92 ∧ e92.Own := ⟨⟨by kernel_rfl, by kernel_rfl, fun h => by cases h⟩, ⟨rfl, rfl, rfl, fun _ => by decide⟩⟩
/-- func(api.Arc) []int -/
def e93 : TI := { kind := 8, flds := [], el := 0, len := 0, int := none, zero := [.nilFunc], z := [.nilf], sz := 1, bytes := 8, flat := false }
theorem f93 : TI.Facts Try.prog 93 e93 ∧ e93.Own := ⟨⟨by kernel_rfl, by kernel_rfl, fun h => by cases h⟩, ⟨rfl, rfl, rfl, fun _ => by decide⟩⟩
/-- func(api.Arc, api.Arc) (api.Arc, api.Errno) -/
def e95 : TI := { kind := 8, flds := [], el := 0, len := 0, int := none, zero := [.nilFunc], z := [.nilf], sz := 1, bytes := 8, flat := false }
theorem f95 : TI.Facts Try.prog 95 e95 ∧ e95.Own := ⟨⟨by kernel_rfl, by kernel_rfl, fun h => by cases h⟩, ⟨rfl, rfl, rfl, fun _ => by decide⟩⟩
/-- func(api.Rect, api.Arc) api.Box -/
def e96 : TI := { kind := 8, flds := [], el := 0, len := 0, int := none, zero := [.nilFunc], z := [.nilf], sz := 1, bytes := 8, flat := false }
theorem f96 : TI.Facts Try.prog 96 e96 ∧ e96.Own := ⟨⟨by kernel_rfl, by kernel_rfl, fun h => by cases h⟩, ⟨rfl, rfl, rfl, fun _ => by decide⟩⟩
/-- func([]api.Box, func(api.Box) bool) int -/
def e97 : TI := { kind := 8, flds := [], el := 0, len := 0, int := none, zero := [.nilFunc], z := [.nilf], sz := 1, bytes := 8, flat := false }
theorem f97 : TI.Facts Try.prog 97 e97 ∧ e97.Own := ⟨⟨by kernel_rfl, by kernel_rfl, fun h => by cases h⟩, ⟨rfl, rfl, rfl, fun _ => by decide⟩⟩
/-- func(...int) bool -/
def e98 : TI := { kind := 8, flds := [], el := 0, len := 0, int := none, zero := [.nilFunc], z := [.nilf], sz := 1, bytes := 8, flat := false }
theorem f98 : TI.Facts Try.prog 98 e98 ∧ e98.Own := ⟨⟨by kernel_rfl, by kernel_rfl, fun h => by cases h⟩, ⟨rfl, rfl, rfl, fun _ => by decide⟩⟩
/-- func(api.Command, api.Bounds, int) (api.Rect, api.Errno) -/
def e100 : TI := { kind := 8, flds := [], el := 0, len := 0, int := none, zero := [.nilFunc], z := [.nilf], sz := 1, bytes := 8, flat := false }
theorem f100 : TI.Facts Try.prog 100 e100 ∧ e100.Own := ⟨⟨by kernel_rfl, by kernel_rfl, fun h => by cases h⟩, ⟨rfl, rfl, rfl, fun _ => by decide⟩⟩
/-- func(api.Box, int, int, int, int) (api.Box, api.Errno) -/
def e101 : TI := { kind := 8, flds := [], el := 0, len := 0, int := none, zero := [.nilFunc], z := [.nilf], sz := 1, bytes := 8, flat := false }
theorem f101 : TI.Facts Try.prog 101 e101 ∧ e101.Own := ⟨⟨by kernel_rfl, by kernel_rfl, fun h => by cases h⟩, ⟨rfl, rfl, rfl, fun _ => by decide⟩⟩
/-- func(api.Arc, int) (api.Arc, api.Errno) -/
def e102 : TI := { kind := 8, flds := [], el := 0, len := 0, int := none, zero := [.nilFunc], z := [.nilf], sz := 1, bytes := 8, flat := false }
theorem f102 : TI.Facts Try.prog 102 e102 ∧ e102.Own := ⟨⟨by kernel_rfl, by kernel_rfl, fun h => by cases h⟩, ⟨rfl, rfl, rfl, fun _ => by decide⟩⟩
/-- struct { X int; Y int; D int } -/
def e103 : TI := { kind := 1, flds := [(0, 3), (1, 3), (2, 3)], el := 0, len := 0, int := none, zero := [.int .i64 0, .int .i64 0, .int .i64 0], z := [.int .i64 0, .int .i64 0, .int .i64 0], sz := 3, bytes := 24, flat := true }
theorem f103 : TI.Facts Try.prog 103 e103 ∧ e103.Own := ⟨⟨by kernel_rfl, by kernel_rfl, fun _ => by kernel_rfl⟩, ⟨rfl, rfl, rfl, fun _ => by decide⟩⟩
/-- api.Vector -/
def e104 : TI := { kind := 1, flds := [(0, 3), (1, 3), (2, 3)], el := 0, len := 0, int := none, zero := [.int .i64 0, .int .i64 0, .int .i64 0], z := [.int .i64 0, .int .i64 0, .int .i64 0], sz := 3, bytes := 24, flat := true }
theorem f104 : TI.Facts Try.prog 104 e104 ∧ e104.Own := ⟨⟨by kernel_rfl, by kernel_rfl, fun _ => by kernel_rfl⟩, ⟨rfl, rfl, rfl, fun _ => by decide⟩⟩
/-- func(int) api.Vector -/
def e105 : TI := { kind := 8, flds := [], el := 0, len := 0, int := none, zero := [.nilFunc], z := [.nilf], sz := 1, bytes := 8, flat := false }
theorem f105 : TI.Facts Try.prog 105 e105 ∧ e105.Own := ⟨⟨by kernel_rfl, by kernel_rfl, fun h => by cases h⟩, ⟨rfl, rfl, rfl, fun _ => by decide⟩⟩
/-- func(int, int, int) bool -/
def e106 : TI := { kind := 8, flds := [], el := 0, len := 0, int := none, zero := [.nilFunc], z := [.nilf], sz := 1, bytes := 8, flat := false }
theorem f106 : TI.Facts Try.prog 106 e106 ∧ e106.Own := ⟨⟨by kernel_rfl, by kernel_rfl, fun h => by cases h⟩, ⟨rfl, rfl, rfl, fun _ => by decide⟩⟩
/-- func(api.Arc, int, int) api.Arc -/
def e107 : TI := { kind := 8, flds := [], el := 0, len := 0, int := none, zero := [.nilFunc], z := [.nilf], sz := 1, bytes := 8, flat := false }
theorem f107 : TI.Facts Try.prog 107 e107 ∧ e107.Own := ⟨⟨by kernel_rfl, by kernel_rfl, fun h => by cases h⟩, ⟨rfl, rfl, rfl, fun _ => by decide⟩⟩
/-- func(api.Box, api.Rect, api.Arc) (api.Box, bool) -/
def e109 : TI := { kind := 8, flds := [], el := 0, len := 0, int := none, zero := [.nilFunc], z := [.nilf], sz := 1, bytes := 8, flat := false }
theorem f109 : TI.Facts Try.prog 109 e109 ∧ e109.Own := ⟨⟨by kernel_rfl, by kernel_rfl, fun h => by cases h⟩, ⟨rfl, rfl, rfl, fun _ => by decide⟩⟩
/-- func(int) bool -/
def e110 : TI := { kind := 8, flds := [], el := 0, len := 0, int := none, zero := [.nilFunc], z := [.nilf], sz := 1, bytes := 8, flat := false }
theorem f110 : TI.Facts Try.prog 110 e110 ∧ e110.Own := ⟨⟨by kernel_rfl, by kernel_rfl, fun h => by cases h⟩, ⟨rfl, rfl, rfl, fun _ => by decide⟩⟩
/-- func() []int -/
def e111 : TI := { kind := 8, flds := [], el := 0, len := 0, int := none, zero := [.nilFunc], z := [.nilf], sz := 1, bytes := 8, flat := false }
theorem f111 : TI.Facts Try.prog 111 e111 ∧ e111.Own := ⟨⟨by kernel_rfl, by kernel_rfl, fun h => by cases h⟩, ⟨rfl, rfl, rfl, fun _ => by decide⟩⟩
/-- func(int) int -/
def e112 : TI := { kind := 8, flds := [], el := 0, len := 0, int := none, zero := [.nilFunc], z := [.nilf], sz := 1, bytes := 8, flat := false }
theorem f112 : TI.Facts Try.prog 112 e112 ∧ e112.Own := ⟨⟨by kernel_rfl, by kernel_rfl, fun h => by cases h⟩, ⟨rfl, rfl, rfl, fun _ => by decide⟩⟩
/-- [2]int -/
def e113 : TI := { kind := 2, flds := [], el := 3, len := 2, int := none, zero := [.int .i64 0, .int .i64 0], z := [.int .i64 0, .int .i64 0], sz := 2, bytes := 16, flat := false }
theorem f113 : TI.Facts Try.prog 113 e113 ∧ e113.Own := ⟨⟨by kernel_rfl, by kernel_rfl, fun h => by cases h⟩, ⟨rfl, rfl, rfl, fun _ => by decide⟩⟩
/-- func(int, api.Arc) int -/
def e114 : TI := { kind := 8, flds := [], el := 0, len := 0, int := none, zero := [.nilFunc], z := [.nilf], sz := 1, bytes := 8, flat := false }
theorem f114 : TI.Facts Try.prog 114 e114 ∧ e114.Own := ⟨⟨by kernel_rfl, by kernel_rfl, fun h => by cases h⟩, ⟨rfl, rfl, rfl, fun _ => by decide⟩⟩
/-- func([]int, func(int) bool) bool -/
def e115 : TI := { kind := 8, flds := [], el := 0, len := 0, int := none, zero := [.nilFunc], z := [.nilf], sz := 1, bytes := 8, flat := false }
theorem f115 : TI.Facts Try.prog 115 e115 ∧ e115.Own := ⟨⟨by kernel_rfl, by kernel_rfl, fun h => by cases h⟩, ⟨rfl, rfl, rfl, fun _ => by decide⟩⟩
/-- []bool -/
def e116 : TI := { kind := 3, flds := [], el := 4, len := 0, int := none, zero := [.slice none 0 0], z := [.emp], sz := 1, bytes := 24, flat := false }
theorem f116 : TI.Facts Try.prog 116 e116 ∧ e116.Own := ⟨⟨by kernel_rfl, by kernel_rfl, fun h => by cases h⟩, ⟨rfl, rfl, rfl, fun _ => by decide⟩⟩
/-- func(api.Arc) []bool -/
def e117 : TI := { kind := 8, flds := [], el := 0, len := 0, int := none, zero := [.nilFunc], z := [.nilf], sz := 1, bytes := 8, flat := false }
theorem f117 : TI.Facts Try.prog 117 e117 ∧ e117.Own := ⟨⟨by kernel_rfl, by kernel_rfl, fun h => by cases h⟩, ⟨rfl, rfl, rfl, fun _ => by decide⟩⟩
/-- func(int, int) api.Arc -/
def e118 : TI := { kind := 8, flds := [], el := 0, len := 0, int := none, zero := [.nilFunc], z := [.nilf], sz := 1, bytes := 8, flat := false }
theorem f118 : TI.Facts Try.prog 118 e118 ∧ e118.Own := ⟨⟨by kernel_rfl, by kernel_rfl, fun h => by cases h⟩, ⟨rfl, rfl, rfl, fun _ => by decide⟩⟩
/-- func(int, int, int) api.Vector -/
def e119 : TI := { kind := 8, flds := [], el := 0, len := 0, int := none, zero := [.nilFunc], z := [.nilf], sz := 1, bytes := 8, flat := false }
theorem f119 : TI.Facts Try.prog 119 e119 ∧ e119.Own := ⟨⟨by kernel_rfl, by kernel_rfl, fun h => by cases h⟩, ⟨rfl, rfl, rfl, fun _ => by decide⟩⟩
/-- func([]int, func(int) bool) int -/
def e120 : TI := { kind := 8, flds := [], el := 0, len := 0, int := none, zero := [.nilFunc], z := [.nilf], sz := 1, bytes := 8, flat := false }
theorem f120 : TI.Facts Try.prog 120 e120 ∧ e120.Own := ⟨⟨by kernel_rfl, by kernel_rfl, fun h => by cases h⟩, ⟨rfl, rfl, rfl, fun _ => by decide⟩⟩
/-- func() string -/
def e121 : TI := { kind := 8, flds := [], el := 0, len := 0, int := none, zero := [.nilFunc], z := [.nilf], sz := 1, bytes := 8, flat := false }
theorem f121 : TI.Facts Try.prog 121 e121 ∧ e121.Own := ⟨⟨by kernel_rfl, by kernel_rfl, fun h => by cases h⟩, ⟨rfl, rfl, rfl, fun _ => by decide⟩⟩
/-- struct { _interface *abi.Type; concrete *abi.Type; asserted *abi.Type; missingMethod string } -/
def e122 : TI := { kind := 1, flds := [(0, 17), (1, 17), (2, 17), (3, 9)], el := 0, len := 0, int := none, zero := [.pointer none, .pointer none, .pointer none, .string ByteArray.empty], z := [.nilp, .nilp, .nilp, .str ByteArray.empty], sz := 4, bytes := 40, flat := false }
theorem f122 : TI.Facts Try.prog 122 e122 ∧ e122.Own := ⟨⟨by kernel_rfl, by kernel_rfl, fun h => by cases h⟩, ⟨rfl, rfl, rfl, fun _ => by decide⟩⟩
/-- runtime.TypeAssertionError -/
def e123 : TI := { kind := 1, flds := [(0, 17), (1, 17), (2, 17), (3, 9)], el := 0, len := 0, int := none, zero := [.pointer none, .pointer none, .pointer none, .string ByteArray.empty], z := [.nilp, .nilp, .nilp, .str ByteArray.empty], sz := 4, bytes := 40, flat := false }
theorem f123 : TI.Facts Try.prog 123 e123 ∧ e123.Own := ⟨⟨by kernel_rfl, by kernel_rfl, fun h => by cases h⟩, ⟨rfl, rfl, rfl, fun _ => by decide⟩⟩
/-- [0]*runtime.PanicNilError -/
def e124 : TI := { kind := 2, flds := [], el := 16, len := 0, int := none, zero := [], z := [], sz := 0, bytes := 0, flat := false }
theorem f124 : TI.Facts Try.prog 124 e124 ∧ e124.Own := ⟨⟨by kernel_rfl, by kernel_rfl, fun h => by cases h⟩, ⟨rfl, rfl, rfl, fun _ => by decide⟩⟩
/-- struct { _ [0]*runtime.PanicNilError } -/
def e125 : TI := { kind := 1, flds := [(0, 124)], el := 0, len := 0, int := none, zero := [], z := [], sz := 0, bytes := 0, flat := false }
theorem f125 : TI.Facts Try.prog 125 e125 ∧ e125.Own := ⟨⟨by kernel_rfl, by kernel_rfl, fun h => by cases h⟩, ⟨rfl, rfl, rfl, fun _ => by decide⟩⟩
/-- runtime.PanicNilError -/
def e126 : TI := { kind := 1, flds := [(0, 124)], el := 0, len := 0, int := none, zero := [], z := [], sz := 0, bytes := 0, flat := false }
theorem f126 : TI.Facts Try.prog 126 e126 ∧ e126.Own := ⟨⟨by kernel_rfl, by kernel_rfl, fun h => by cases h⟩, ⟨rfl, rfl, rfl, fun _ => by decide⟩⟩
/-- func() int -/
def e127 : TI := { kind := 8, flds := [], el := 0, len := 0, int := none, zero := [.nilFunc], z := [.nilf], sz := 1, bytes := 8, flat := false }
theorem f127 : TI.Facts Try.prog 127 e127 ∧ e127.Own := ⟨⟨by kernel_rfl, by kernel_rfl, fun h => by cases h⟩, ⟨rfl, rfl, rfl, fun _ => by decide⟩⟩
/-- uint32 -/
def e128 : TI := { kind := 6, flds := [], el := 0, len := 0, int := some .u32, zero := [.int .u32 0], z := [.int .u32 0], sz := 1, bytes := 4, flat := false }
theorem f128 : TI.Facts Try.prog 128 e128 ∧ e128.Own := ⟨⟨by kernel_rfl, by kernel_rfl, fun h => by cases h⟩, ⟨rfl, rfl, rfl, fun _ => by decide⟩⟩
/-- abi.TFlag -/
def e129 : TI := { kind := 6, flds := [], el := 0, len := 0, int := some .u8, zero := [.int .u8 0], z := [.int .u8 0], sz := 1, bytes := 1, flat := false }
theorem f129 : TI.Facts Try.prog 129 e129 ∧ e129.Own := ⟨⟨by kernel_rfl, by kernel_rfl, fun h => by cases h⟩, ⟨rfl, rfl, rfl, fun _ => by decide⟩⟩
/-- abi.Kind -/
def e130 : TI := { kind := 6, flds := [], el := 0, len := 0, int := some .u8, zero := [.int .u8 0], z := [.int .u8 0], sz := 1, bytes := 1, flat := false }
theorem f130 : TI.Facts Try.prog 130 e130 ∧ e130.Own := ⟨⟨by kernel_rfl, by kernel_rfl, fun h => by cases h⟩, ⟨rfl, rfl, rfl, fun _ => by decide⟩⟩
/-- func(unsafe.Pointer, unsafe.Pointer) bool -/
def e131 : TI := { kind := 8, flds := [], el := 0, len := 0, int := none, zero := [.nilFunc], z := [.nilf], sz := 1, bytes := 8, flat := false }
theorem f131 : TI.Facts Try.prog 131 e131 ∧ e131.Own := ⟨⟨by kernel_rfl, by kernel_rfl, fun h => by cases h⟩, ⟨rfl, rfl, rfl, fun _ => by decide⟩⟩
/-- *uint8 -/
def e132 : TI := { kind := 4, flds := [], el := 5, len := 0, int := none, zero := [.pointer none], z := [.nilp], sz := 1, bytes := 8, flat := false }
theorem f132 : TI.Facts Try.prog 132 e132 ∧ e132.Own := ⟨⟨by kernel_rfl, by kernel_rfl, fun h => by cases h⟩, ⟨rfl, rfl, rfl, fun _ => by decide⟩⟩
/-- abi.NameOff -/
def e133 : TI := { kind := 6, flds := [], el := 0, len := 0, int := some .i32, zero := [.int .i32 0], z := [.int .i32 0], sz := 1, bytes := 4, flat := false }
theorem f133 : TI.Facts Try.prog 133 e133 ∧ e133.Own := ⟨⟨by kernel_rfl, by kernel_rfl, fun h => by cases h⟩, ⟨rfl, rfl, rfl, fun _ => by decide⟩⟩
/-- abi.TypeOff -/
def e134 : TI := { kind := 6, flds := [], el := 0, len := 0, int := some .i32, zero := [.int .i32 0], z := [.int .i32 0], sz := 1, bytes := 4, flat := false }
theorem f134 : TI.Facts Try.prog 134 e134 ∧ e134.Own := ⟨⟨by kernel_rfl, by kernel_rfl, fun h => by cases h⟩, ⟨rfl, rfl, rfl, fun _ => by decide⟩⟩
/-- struct { Size_ uintptr; PtrBytes uintptr; Hash uint32; TFlag abi.TFlag; Align_ uint8; FieldAlign_ uint8; Kind_ abi.Kind; Equal func(unsafe.Pointer, unsafe.Pointer) bool; GCData *uint8; Str abi.NameOff; PtrToThis abi.TypeOff } -/
def e135 : TI := { kind := 1, flds := [(0, 12), (1, 12), (2, 128), (3, 129), (4, 5), (5, 5), (6, 130), (7, 131), (8, 132), (9, 133), (10, 134)], el := 0, len := 0, int := none, zero := [.int .u64 0, .int .u64 0, .int .u32 0, .int .u8 0, .int .u8 0, .int .u8 0, .int .u8 0, .nilFunc, .pointer none, .int .i32 0, .int .i32 0], z := [.int .u64 0, .int .u64 0, .int .u32 0, .int .u8 0, .int .u8 0, .int .u8 0, .int .u8 0, .nilf, .nilp, .int .i32 0, .int .i32 0], sz := 11, bytes := 48, flat := false }
theorem f135 : TI.Facts Try.prog 135 e135 ∧ e135.Own := ⟨⟨by kernel_rfl, by kernel_rfl, fun h => by cases h⟩, ⟨rfl, rfl, rfl, fun _ => by decide⟩⟩
/-- abi.Type -/
def e136 : TI := { kind := 1, flds := [(0, 12), (1, 12), (2, 128), (3, 129), (4, 5), (5, 5), (6, 130), (7, 131), (8, 132), (9, 133), (10, 134)], el := 0, len := 0, int := none, zero := [.int .u64 0, .int .u64 0, .int .u32 0, .int .u8 0, .int .u8 0, .int .u8 0, .int .u8 0, .nilFunc, .pointer none, .int .i32 0, .int .i32 0], z := [.int .u64 0, .int .u64 0, .int .u32 0, .int .u8 0, .int .u8 0, .int .u8 0, .int .u8 0, .nilf, .nilp, .int .i32 0, .int .i32 0], sz := 11, bytes := 48, flat := false }
theorem f136 : TI.Facts Try.prog 136 e136 ∧ e136.Own := ⟨⟨by kernel_rfl, by kernel_rfl, fun h => by cases h⟩, ⟨rfl, rfl, rfl, fun _ => by decide⟩⟩
def ttL : List (TypeId × TI) := [(1, e1), (2, e2), (3, e3), (4, e4), (5, e5), (6, e6), (7, e7), (8, e8), (9, e9), (10, e10), (11, e11), (12, e12), (13, e13), (14, e14), (15, e15), (16, e16), (17, e17), (18, e18), (19, e19), (21, e21), (22, e22), (23, e23), (24, e24), (25, e25), (26, e26), (28, e28), (29, e29), (30, e30), (31, e31), (32, e32), (33, e33), (34, e34), (35, e35), (36, e36), (37, e37), (38, e38), (39, e39), (40, e40), (41, e41), (42, e42), (43, e43), (44, e44), (45, e45), (46, e46), (48, e48), (50, e50), (51, e51), (52, e52), (54, e54), (55, e55), (56, e56), (57, e57), (58, e58), (59, e59), (60, e60), (61, e61), (62, e62), (64, e64), (65, e65), (66, e66), (67, e67), (68, e68), (70, e70), (71, e71), (72, e72), (73, e73), (74, e74), (75, e75), (76, e76), (77, e77), (78, e78), (79, e79), (80, e80), (81, e81), (82, e82), (83, e83), (84, e84), (85, e85), (86, e86), (87, e87), (88, e88), (89, e89), (90, e90), (91, e91), (92, e92), (93, e93), (95, e95), (96, e96), (97, e97), (98, e98), (100, e100), (101, e101), (102, e102), (103, e103), (104, e104), (105, e105), (106, e106), (107, e107), (109, e109), (110, e110), (111, e111), (112, e112), (113, e113), (114, e114), (115, e115), (116, e116), (117, e117), (118, e118), (119, e119), (120, e120), (121, e121), (122, e122), (123, e123), (124, e124), (125, e125), (126, e126), (127, e127), (128, e128), (129, e129), (130, e130), (131, e131), (132, e132), (133, e133), (134, e134), (135, e135), (136, e136)]
def tt : TT := lkT ttL
theorem ttF : ∀ p ∈ ttL, TI.Facts Try.prog p.1 p.2 ∧ p.2.Own :=
  List.forall_mem_cons.2 ⟨f1, List.forall_mem_cons.2 ⟨f2, List.forall_mem_cons.2 ⟨f3, List.forall_mem_cons.2 ⟨f4, List.forall_mem_cons.2 ⟨f5, List.forall_mem_cons.2 ⟨f6, List.forall_mem_cons.2 ⟨f7, List.forall_mem_cons.2 ⟨f8, List.forall_mem_cons.2 ⟨f9, List.forall_mem_cons.2 ⟨f10, List.forall_mem_cons.2 ⟨f11, List.forall_mem_cons.2 ⟨f12, List.forall_mem_cons.2 ⟨f13, List.forall_mem_cons.2 ⟨f14, List.forall_mem_cons.2 ⟨f15, List.forall_mem_cons.2 ⟨f16, List.forall_mem_cons.2 ⟨f17, List.forall_mem_cons.2 ⟨f18, List.forall_mem_cons.2 ⟨f19, List.forall_mem_cons.2 ⟨f21, List.forall_mem_cons.2 ⟨f22, List.forall_mem_cons.2 ⟨f23, List.forall_mem_cons.2 ⟨f24, List.forall_mem_cons.2 ⟨f25, List.forall_mem_cons.2 ⟨f26, List.forall_mem_cons.2 ⟨f28, List.forall_mem_cons.2 ⟨f29, List.forall_mem_cons.2 ⟨f30, List.forall_mem_cons.2 ⟨f31, List.forall_mem_cons.2 ⟨f32, List.forall_mem_cons.2 ⟨f33, List.forall_mem_cons.2 ⟨f34, List.forall_mem_cons.2 ⟨f35, List.forall_mem_cons.2 ⟨f36, List.forall_mem_cons.2 ⟨f37, List.forall_mem_cons.2 ⟨f38, List.forall_mem_cons.2 ⟨f39, List.forall_mem_cons.2 ⟨f40, List.forall_mem_cons.2 ⟨f41, List.forall_mem_cons.2 ⟨f42, List.forall_mem_cons.2 ⟨f43, List.forall_mem_cons.2 ⟨f44, List.forall_mem_cons.2 ⟨f45, List.forall_mem_cons.2 ⟨f46, List.forall_mem_cons.2 ⟨f48, List.forall_mem_cons.2 ⟨f50, List.forall_mem_cons.2 ⟨f51, List.forall_mem_cons.2 ⟨f52, List.forall_mem_cons.2 ⟨f54, List.forall_mem_cons.2 ⟨f55, List.forall_mem_cons.2 ⟨f56, List.forall_mem_cons.2 ⟨f57, List.forall_mem_cons.2 ⟨f58, List.forall_mem_cons.2 ⟨f59, List.forall_mem_cons.2 ⟨f60, List.forall_mem_cons.2 ⟨f61, List.forall_mem_cons.2 ⟨f62, List.forall_mem_cons.2 ⟨f64, List.forall_mem_cons.2 ⟨f65, List.forall_mem_cons.2 ⟨f66, List.forall_mem_cons.2 ⟨f67, List.forall_mem_cons.2 ⟨f68, List.forall_mem_cons.2 ⟨f70, List.forall_mem_cons.2 ⟨f71, List.forall_mem_cons.2 ⟨f72, List.forall_mem_cons.2 ⟨f73, List.forall_mem_cons.2 ⟨f74, List.forall_mem_cons.2 ⟨f75, List.forall_mem_cons.2 ⟨f76, List.forall_mem_cons.2 ⟨f77, List.forall_mem_cons.2 ⟨f78, List.forall_mem_cons.2 ⟨f79, List.forall_mem_cons.2 ⟨f80, List.forall_mem_cons.2 ⟨f81, List.forall_mem_cons.2 ⟨f82, List.forall_mem_cons.2 ⟨f83, List.forall_mem_cons.2 ⟨f84, List.forall_mem_cons.2 ⟨f85, List.forall_mem_cons.2 ⟨f86, List.forall_mem_cons.2 ⟨f87, List.forall_mem_cons.2 ⟨f88, List.forall_mem_cons.2 ⟨f89, List.forall_mem_cons.2 ⟨f90, List.forall_mem_cons.2 ⟨f91, List.forall_mem_cons.2 ⟨f92, List.forall_mem_cons.2 ⟨f93, List.forall_mem_cons.2 ⟨f95, List.forall_mem_cons.2 ⟨f96, List.forall_mem_cons.2 ⟨f97, List.forall_mem_cons.2 ⟨f98, List.forall_mem_cons.2 ⟨f100, List.forall_mem_cons.2 ⟨f101, List.forall_mem_cons.2 ⟨f102, List.forall_mem_cons.2 ⟨f103, List.forall_mem_cons.2 ⟨f104, List.forall_mem_cons.2 ⟨f105, List.forall_mem_cons.2 ⟨f106, List.forall_mem_cons.2 ⟨f107, List.forall_mem_cons.2 ⟨f109, List.forall_mem_cons.2 ⟨f110, List.forall_mem_cons.2 ⟨f111, List.forall_mem_cons.2 ⟨f112, List.forall_mem_cons.2 ⟨f113, List.forall_mem_cons.2 ⟨f114, List.forall_mem_cons.2 ⟨f115, List.forall_mem_cons.2 ⟨f116, List.forall_mem_cons.2 ⟨f117, List.forall_mem_cons.2 ⟨f118, List.forall_mem_cons.2 ⟨f119, List.forall_mem_cons.2 ⟨f120, List.forall_mem_cons.2 ⟨f121, List.forall_mem_cons.2 ⟨f122, List.forall_mem_cons.2 ⟨f123, List.forall_mem_cons.2 ⟨f124, List.forall_mem_cons.2 ⟨f125, List.forall_mem_cons.2 ⟨f126, List.forall_mem_cons.2 ⟨f127, List.forall_mem_cons.2 ⟨f128, List.forall_mem_cons.2 ⟨f129, List.forall_mem_cons.2 ⟨f130, List.forall_mem_cons.2 ⟨f131, List.forall_mem_cons.2 ⟨f132, List.forall_mem_cons.2 ⟨f133, List.forall_mem_cons.2 ⟨f134, List.forall_mem_cons.2 ⟨f135, List.forall_mem_cons.2 ⟨f136, List.forall_mem_nil _⟩⟩⟩⟩⟩⟩⟩⟩⟩⟩⟩⟩⟩⟩⟩⟩⟩⟩⟩⟩⟩⟩⟩⟩⟩⟩⟩⟩⟩⟩⟩⟩⟩⟩⟩⟩⟩⟩⟩⟩⟩⟩⟩⟩⟩⟩⟩⟩⟩⟩⟩⟩⟩⟩⟩⟩⟩⟩⟩⟩⟩⟩⟩⟩⟩⟩⟩⟩⟩⟩⟩⟩⟩⟩⟩⟩⟩⟩⟩⟩⟩⟩⟩⟩⟩⟩⟩⟩⟩⟩⟩⟩⟩⟩⟩⟩⟩⟩⟩⟩⟩⟩⟩⟩⟩⟩⟩⟩⟩⟩⟩⟩⟩⟩⟩⟩⟩⟩⟩⟩⟩⟩⟩⟩⟩⟩
theorem tt_ok : tt.Ok Try.prog := lkT_ok ttF
theorem tt1 : tt 1 = { kind := 8, flds := [], el := 0, len := 0, int := none, zero := [.nilFunc], z := [.nilf], sz := 1, bytes := 8, flat := false } := by kernel_rfl
theorem tt2 : tt 2 = { kind := 6, flds := [], el := 0, len := 0, int := some .i64, zero := [.int .i64 0], z := [.int .i64 0], sz := 1, bytes := 8, flat := false } := by kernel_rfl
theorem tt3 : tt 3 = { kind := 6, flds := [], el := 0, len := 0, int := some .i64, zero := [.int .i64 0], z := [.int .i64 0], sz := 1, bytes := 8, flat := false } := by kernel_rfl
theorem tt4 : tt 4 = { kind := 5, flds := [], el := 0, len := 0, int := none, zero := [.bool false], z := [.bool false], sz := 1, bytes := 1, flat := false } := by kernel_rfl
theorem tt5 : tt 5 = { kind := 6, flds := [], el := 0, len := 0, int := some .u8, zero := [.int .u8 0], z := [.int .u8 0], sz := 1, bytes := 1, flat := false } := by kernel_rfl
theorem tt6 : tt 6 = { kind := 6, flds := [], el := 0, len := 0, int := some .u8, zero := [.int .u8 0], z := [.int .u8 0], sz := 1, bytes := 1, flat := false } := by kernel_rfl
theorem tt7 : tt 7 = { kind := 1, flds := [(0, 2), (1, 3), (2, 4), (3, 6)], el := 0, len := 0, int := none, zero := [.int .i64 0, .int .i64 0, .bool false, .int .u8 0], z := [.int .i64 0, .int .i64 0, .bool false, .int .u8 0], sz := 4, bytes := 24, flat := true } := by kernel_rfl
theorem tt8 : tt 8 = { kind := 1, flds := [(0, 2), (1, 3), (2, 4), (3, 6)], el := 0, len := 0, int := none, zero := [.int .i64 0, .int .i64 0, .bool false, .int .u8 0], z := [.int .i64 0, .int .i64 0, .bool false, .int .u8 0], sz := 4, bytes := 24, flat := true } := by kernel_rfl
theorem tt9 : tt 9 = { kind := 7, flds := [], el := 0, len := 0, int := none, zero := [.string ByteArray.empty], z := [.str ByteArray.empty], sz := 1, bytes := 16, flat := false } := by kernel_rfl
theorem tt10 : tt 10 = { kind := 7, flds := [], el := 0, len := 0, int := none, zero := [.string ByteArray.empty], z := [.str ByteArray.empty], sz := 1, bytes := 16, flat := false } := by kernel_rfl
theorem tt11 : tt 11 = { kind := 7, flds := [], el := 0, len := 0, int := none, zero := [.string ByteArray.empty], z := [.str ByteArray.empty], sz := 1, bytes := 16, flat := false } := by kernel_rfl
theorem tt12 : tt 12 = { kind := 6, flds := [], el := 0, len := 0, int := some .u64, zero := [.int .u64 0], z := [.int .u64 0], sz := 1, bytes := 8, flat := false } := by kernel_rfl
theorem tt13 : tt 13 = { kind := 1, flds := [(0, 9), (1, 12)], el := 0, len := 0, int := none, zero := [.string ByteArray.empty, .int .u64 0], z := [.str ByteArray.empty, .int .u64 0], sz := 2, bytes := 24, flat := false } := by kernel_rfl
theorem tt14 : tt 14 = { kind := 1, flds := [(0, 9), (1, 12)], el := 0, len := 0, int := none, zero := [.string ByteArray.empty, .int .u64 0], z := [.str ByteArray.empty, .int .u64 0], sz := 2, bytes := 24, flat := false } := by kernel_rfl
theorem tt15 : tt 15 = { kind := 4, flds := [], el := 123, len := 0, int := none, zero := [.pointer none], z := [.nilp], sz := 1, bytes := 8, flat := false } := by kernel_rfl
theorem tt16 : tt 16 = { kind := 4, flds := [], el := 126, len := 0, int := none, zero := [.pointer none], z := [.nilp], sz := 1, bytes := 8, flat := false } := by kernel_rfl
theorem tt17 : tt 17 = { kind := 4, flds := [], el := 136, len := 0, int := none, zero := [.pointer none], z := [.nilp], sz := 1, bytes := 8, flat := false } := by kernel_rfl
theorem tt18 : tt 18 = { kind := 1, flds := [(0, 17)], el := 0, len := 0, int := none, zero := [.pointer none], z := [.nilp], sz := 1, bytes := 8, flat := false } := by kernel_rfl
theorem tt19 : tt 19 = { kind := 1, flds := [(0, 17)], el := 0, len := 0, int := none, zero := [.pointer none], z := [.nilp], sz := 1, bytes := 8, flat := false } := by kernel_rfl
theorem tt21 : tt 21 = { kind := 6, flds := [], el := 0, len := 0, int := some .i32, zero := [.int .i32 0], z := [.int .i32 0], sz := 1, bytes := 4, flat := false } := by kernel_rfl
theorem tt22 : tt 22 = { kind := 3, flds := [], el := 33, len := 0, int := none, zero := [.slice none 0 0], z := [.emp], sz := 1, bytes := 24, flat := false } := by kernel_rfl
theorem tt23 : tt 23 = { kind := 1, flds := [(0, 3), (1, 3), (2, 3)], el := 0, len := 0, int := none, zero := [.int .i64 0, .int .i64 0, .int .i64 0], z := [.int .i64 0, .int .i64 0, .int .i64 0], sz := 3, bytes := 24, flat := true } := by kernel_rfl
theorem tt24 : tt 24 = { kind := 1, flds := [(0, 3), (1, 3), (2, 3)], el := 0, len := 0, int := none, zero := [.int .i64 0, .int .i64 0, .int .i64 0], z := [.int .i64 0, .int .i64 0, .int .i64 0], sz := 3, bytes := 24, flat := true } := by kernel_rfl
theorem tt25 : tt 25 = { kind := 8, flds := [], el := 0, len := 0, int := none, zero := [.nilFunc], z := [.nilf], sz := 1, bytes := 8, flat := false } := by kernel_rfl
theorem tt26 : tt 26 = { kind := 6, flds := [], el := 0, len := 0, int := some .i64, zero := [.int .i64 0], z := [.int .i64 0], sz := 1, bytes := 8, flat := false } := by kernel_rfl
theorem tt28 : tt 28 = { kind := 8, flds := [], el := 0, len := 0, int := none, zero := [.nilFunc], z := [.nilf], sz := 1, bytes := 8, flat := false } := by kernel_rfl
theorem tt29 : tt 29 = { kind := 8, flds := [], el := 0, len := 0, int := none, zero := [.nilFunc], z := [.nilf], sz := 1, bytes := 8, flat := false } := by kernel_rfl
theorem tt30 : tt 30 = { kind := 8, flds := [], el := 0, len := 0, int := none, zero := [.nilFunc], z := [.nilf], sz := 1, bytes := 8, flat := false } := by kernel_rfl
theorem tt31 : tt 31 = { kind := 8, flds := [], el := 0, len := 0, int := none, zero := [.nilFunc], z := [.nilf], sz := 1, bytes := 8, flat := false } := by kernel_rfl
theorem tt32 : tt 32 = { kind := 1, flds := [(0, 3), (1, 3), (2, 3), (3, 3), (4, 3), (5, 3)], el := 0, len := 0, int := none, zero := [.int .i64 0, .int .i64 0, .int .i64 0, .int .i64 0, .int .i64 0, .int .i64 0], z := [.int .i64 0, .int .i64 0, .int .i64 0, .int .i64 0, .int .i64 0, .int .i64 0], sz := 6, bytes := 48, flat := true } := by kernel_rfl
theorem tt33 : tt 33 = { kind := 1, flds := [(0, 3), (1, 3), (2, 3), (3, 3), (4, 3), (5, 3)], el := 0, len := 0, int := none, zero := [.int .i64 0, .int .i64 0, .int .i64 0, .int .i64 0, .int .i64 0, .int .i64 0], z := [.int .i64 0, .int .i64 0, .int .i64 0, .int .i64 0, .int .i64 0, .int .i64 0], sz := 6, bytes := 48, flat := true } := by kernel_rfl
theorem tt34 : tt 34 = { kind := 1, flds := [(0, 3), (1, 3)], el := 0, len := 0, int := none, zero := [.int .i64 0, .int .i64 0], z := [.int .i64 0, .int .i64 0], sz := 2, bytes := 16, flat := true } := by kernel_rfl
theorem tt35 : tt 35 = { kind := 1, flds := [(0, 3), (1, 3)], el := 0, len := 0, int := none, zero := [.int .i64 0, .int .i64 0], z := [.int .i64 0, .int .i64 0], sz := 2, bytes := 16, flat := true } := by kernel_rfl
theorem tt36 : tt 36 = { kind := 1, flds := [(0, 3), (1, 3), (2, 3), (3, 3)], el := 0, len := 0, int := none, zero := [.int .i64 0, .int .i64 0, .int .i64 0, .int .i64 0], z := [.int .i64 0, .int .i64 0, .int .i64 0, .int .i64 0], sz := 4, bytes := 32, flat := true } := by kernel_rfl
theorem tt37 : tt 37 = { kind := 1, flds := [(0, 3), (1, 3), (2, 3), (3, 3)], el := 0, len := 0, int := none, zero := [.int .i64 0, .int .i64 0, .int .i64 0, .int .i64 0], z := [.int .i64 0, .int .i64 0, .int .i64 0, .int .i64 0], sz := 4, bytes := 32, flat := true } := by kernel_rfl
theorem tt38 : tt 38 = { kind := 1, flds := [(0, 35), (2, 37)], el := 0, len := 0, int := none, zero := [.int .i64 0, .int .i64 0, .int .i64 0, .int .i64 0, .int .i64 0, .int .i64 0], z := [.int .i64 0, .int .i64 0, .int .i64 0, .int .i64 0, .int .i64 0, .int .i64 0], sz := 6, bytes := 48, flat := false } := by kernel_rfl
theorem tt39 : tt 39 = { kind := 1, flds := [(0, 35), (2, 37)], el := 0, len := 0, int := none, zero := [.int .i64 0, .int .i64 0, .int .i64 0, .int .i64 0, .int .i64 0, .int .i64 0], z := [.int .i64 0, .int .i64 0, .int .i64 0, .int .i64 0, .int .i64 0, .int .i64 0], sz := 6, bytes := 48, flat := false } := by kernel_rfl
theorem tt40 : tt 40 = { kind := 1, flds := [(0, 3), (1, 3), (2, 3), (3, 3)], el := 0, len := 0, int := none, zero := [.int .i64 0, .int .i64 0, .int .i64 0, .int .i64 0], z := [.int .i64 0, .int .i64 0, .int .i64 0, .int .i64 0], sz := 4, bytes := 32, flat := true } := by kernel_rfl
theorem tt41 : tt 41 = { kind := 1, flds := [(0, 3), (1, 3), (2, 3), (3, 3)], el := 0, len := 0, int := none, zero := [.int .i64 0, .int .i64 0, .int .i64 0, .int .i64 0], z := [.int .i64 0, .int .i64 0, .int .i64 0, .int .i64 0], sz := 4, bytes := 32, flat := true } := by kernel_rfl
theorem tt42 : tt 42 = { kind := 1, flds := [(0, 5), (1, 5), (2, 41)], el := 0, len := 0, int := none, zero := [.int .u8 0, .int .u8 0, .int .i64 0, .int .i64 0, .int .i64 0, .int .i64 0], z := [.int .u8 0, .int .u8 0, .int .i64 0, .int .i64 0, .int .i64 0, .int .i64 0], sz := 6, bytes := 40, flat := false } := by kernel_rfl
theorem tt43 : tt 43 = { kind := 1, flds := [(0, 5), (1, 5), (2, 41)], el := 0, len := 0, int := none, zero := [.int .u8 0, .int .u8 0, .int .i64 0, .int .i64 0, .int .i64 0, .int .i64 0], z := [.int .u8 0, .int .u8 0, .int .i64 0, .int .i64 0, .int .i64 0, .int .i64 0], sz := 6, bytes := 40, flat := false } := by kernel_rfl
theorem tt44 : tt 44 = { kind := 8, flds := [], el := 0, len := 0, int := none, zero := [.nilFunc], z := [.nilf], sz := 1, bytes := 8, flat := false } := by kernel_rfl
theorem tt45 : tt 45 = { kind := 8, flds := [], el := 0, len := 0, int := none, zero := [.nilFunc], z := [.nilf], sz := 1, bytes := 8, flat := false } := by kernel_rfl
theorem tt46 : tt 46 = { kind := 8, flds := [], el := 0, len := 0, int := none, zero := [.nilFunc], z := [.nilf], sz := 1, bytes := 8, flat := false } := by kernel_rfl
theorem tt48 : tt 48 = { kind := 8, flds := [], el := 0, len := 0, int := none, zero := [.nilFunc], z := [.nilf], sz := 1, bytes := 8, flat := false } := by kernel_rfl
theorem tt50 : tt 50 = { kind := 8, flds := [], el := 0, len := 0, int := none, zero := [.nilFunc], z := [.nilf], sz := 1, bytes := 8, flat := false } := by kernel_rfl
theorem tt51 : tt 51 = { kind := 8, flds := [], el := 0, len := 0, int := none, zero := [.nilFunc], z := [.nilf], sz := 1, bytes := 8, flat := false } := by kernel_rfl
theorem tt52 : tt 52 = { kind := 8, flds := [], el := 0, len := 0, int := none, zero := [.nilFunc], z := [.nilf], sz := 1, bytes := 8, flat := false } := by kernel_rfl
theorem tt54 : tt 54 = { kind := 8, flds := [], el := 0, len := 0, int := none, zero := [.nilFunc], z := [.nilf], sz := 1, bytes := 8, flat := false } := by kernel_rfl
theorem tt55 : tt 55 = { kind := 8, flds := [], el := 0, len := 0, int := none, zero := [.nilFunc], z := [.nilf], sz := 1, bytes := 8, flat := false } := by kernel_rfl
theorem tt56 : tt 56 = { kind := 8, flds := [], el := 0, len := 0, int := none, zero := [.nilFunc], z := [.nilf], sz := 1, bytes := 8, flat := false } := by kernel_rfl
theorem tt57 : tt 57 = { kind := 1, flds := [(0, 37), (4, 4)], el := 0, len := 0, int := none, zero := [.int .i64 0, .int .i64 0, .int .i64 0, .int .i64 0, .bool false], z := [.int .i64 0, .int .i64 0, .int .i64 0, .int .i64 0, .bool false], sz := 5, bytes := 40, flat := false } := by kernel_rfl
theorem tt58 : tt 58 = { kind := 1, flds := [(0, 37), (4, 4)], el := 0, len := 0, int := none, zero := [.int .i64 0, .int .i64 0, .int .i64 0, .int .i64 0, .bool false], z := [.int .i64 0, .int .i64 0, .int .i64 0, .int .i64 0, .bool false], sz := 5, bytes := 40, flat := false } := by kernel_rfl
theorem tt59 : tt 59 = { kind := 8, flds := [], el := 0, len := 0, int := none, zero := [.nilFunc], z := [.nilf], sz := 1, bytes := 8, flat := false } := by kernel_rfl
theorem tt60 : tt 60 = { kind := 8, flds := [], el := 0, len := 0, int := none, zero := [.nilFunc], z := [.nilf], sz := 1, bytes := 8, flat := false } := by kernel_rfl
theorem tt61 : tt 61 = { kind := 8, flds := [], el := 0, len := 0, int := none, zero := [.nilFunc], z := [.nilf], sz := 1, bytes := 8, flat := false } := by kernel_rfl
theorem tt62 : tt 62 = { kind := 8, flds := [], el := 0, len := 0, int := none, zero := [.nilFunc], z := [.nilf], sz := 1, bytes := 8, flat := false } := by kernel_rfl
theorem tt64 : tt 64 = { kind := 8, flds := [], el := 0, len := 0, int := none, zero := [.nilFunc], z := [.nilf], sz := 1, bytes := 8, flat := false } := by kernel_rfl
theorem tt65 : tt 65 = { kind := 8, flds := [], el := 0, len := 0, int := none, zero := [.nilFunc], z := [.nilf], sz := 1, bytes := 8, flat := false } := by kernel_rfl
theorem tt66 : tt 66 = { kind := 8, flds := [], el := 0, len := 0, int := none, zero := [.nilFunc], z := [.nilf], sz := 1, bytes := 8, flat := false } := by kernel_rfl
theorem tt67 : tt 67 = { kind := 8, flds := [], el := 0, len := 0, int := none, zero := [.nilFunc], z := [.nilf], sz := 1, bytes := 8, flat := false } := by kernel_rfl
theorem tt68 : tt 68 = { kind := 8, flds := [], el := 0, len := 0, int := none, zero := [.nilFunc], z := [.nilf], sz := 1, bytes := 8, flat := false } := by kernel_rfl
theorem tt70 : tt 70 = { kind := 8, flds := [], el := 0, len := 0, int := none, zero := [.nilFunc], z := [.nilf], sz := 1, bytes := 8, flat := false } := by kernel_rfl
theorem tt71 : tt 71 = { kind := 8, flds := [], el := 0, len := 0, int := none, zero := [.nilFunc], z := [.nilf], sz := 1, bytes := 8, flat := false } := by kernel_rfl
theorem tt72 : tt 72 = { kind := 8, flds := [], el := 0, len := 0, int := none, zero := [.nilFunc], z := [.nilf], sz := 1, bytes := 8, flat := false } := by kernel_rfl
theorem tt73 : tt 73 = { kind := 1, flds := [(0, 3), (1, 3)], el := 0, len := 0, int := none, zero := [.int .i64 0, .int .i64 0], z := [.int .i64 0, .int .i64 0], sz := 2, bytes := 16, flat := true } := by kernel_rfl
theorem tt74 : tt 74 = { kind := 1, flds := [(0, 3), (1, 3)], el := 0, len := 0, int := none, zero := [.int .i64 0, .int .i64 0], z := [.int .i64 0, .int .i64 0], sz := 2, bytes := 16, flat := true } := by kernel_rfl
theorem tt75 : tt 75 = { kind := 8, flds := [], el := 0, len := 0, int := none, zero := [.nilFunc], z := [.nilf], sz := 1, bytes := 8, flat := false } := by kernel_rfl
theorem tt76 : tt 76 = { kind := 8, flds := [], el := 0, len := 0, int := none, zero := [.nilFunc], z := [.nilf], sz := 1, bytes := 8, flat := false } := by kernel_rfl
theorem tt77 : tt 77 = { kind := 1, flds := [(0, 3), (1, 3), (2, 3), (3, 3)], el := 0, len := 0, int := none, zero := [.int .i64 0, .int .i64 0, .int .i64 0, .int .i64 0], z := [.int .i64 0, .int .i64 0, .int .i64 0, .int .i64 0], sz := 4, bytes := 32, flat := true } := by kernel_rfl
theorem tt78 : tt 78 = { kind := 1, flds := [(0, 3), (1, 3), (2, 3), (3, 3)], el := 0, len := 0, int := none, zero := [.int .i64 0, .int .i64 0, .int .i64 0, .int .i64 0], z := [.int .i64 0, .int .i64 0, .int .i64 0, .int .i64 0], sz := 4, bytes := 32, flat := true } := by kernel_rfl
theorem tt79 : tt 79 = { kind := 8, flds := [], el := 0, len := 0, int := none, zero := [.nilFunc], z := [.nilf], sz := 1, bytes := 8, flat := false } := by kernel_rfl
theorem tt80 : tt 80 = { kind := 8, flds := [], el := 0, len := 0, int := none, zero := [.nilFunc], z := [.nilf], sz := 1, bytes := 8, flat := false } := by kernel_rfl
theorem tt81 : tt 81 = { kind := 8, flds := [], el := 0, len := 0, int := none, zero := [.nilFunc], z := [.nilf], sz := 1, bytes := 8, flat := false } := by kernel_rfl
theorem tt82 : tt 82 = { kind := 8, flds := [], el := 0, len := 0, int := none, zero := [.nilFunc], z := [.nilf], sz := 1, bytes := 8, flat := false } := by kernel_rfl
theorem tt83 : tt 83 = { kind := 8, flds := [], el := 0, len := 0, int := none, zero := [.nilFunc], z := [.nilf], sz := 1, bytes := 8, flat := false } := by kernel_rfl
theorem tt84 : tt 84 = { kind := 8, flds := [], el := 0, len := 0, int := none, zero := [.nilFunc], z := [.nilf], sz := 1, bytes := 8, flat := false } := by kernel_rfl
theorem tt85 : tt 85 = { kind := 1, flds := [(0, 3), (1, 3)], el := 0, len := 0, int := none, zero := [.int .i64 0, .int .i64 0], z := [.int .i64 0, .int .i64 0], sz := 2, bytes := 16, flat := true } := by kernel_rfl
theorem tt86 : tt 86 = { kind := 1, flds := [(0, 3), (1, 3)], el := 0, len := 0, int := none, zero := [.int .i64 0, .int .i64 0], z := [.int .i64 0, .int .i64 0], sz := 2, bytes := 16, flat := true } := by kernel_rfl
theorem tt87 : tt 87 = { kind := 8, flds := [], el := 0, len := 0, int := none, zero := [.nilFunc], z := [.nilf], sz := 1, bytes := 8, flat := false } := by kernel_rfl
theorem tt88 : tt 88 = { kind := 8, flds := [], el := 0, len := 0, int := none, zero := [.nilFunc], z := [.nilf], sz := 1, bytes := 8, flat := false } := by kernel_rfl
theorem tt89 : tt 89 = { kind := 8, flds := [], el := 0, len := 0, int := none, zero := [.nilFunc], z := [.nilf], sz := 1, bytes := 8, flat := false } := by kernel_rfl
theorem tt90 : tt 90 = { kind := 3, flds := [], el := 74, len := 0, int := none, zero := [.slice none 0 0], z := [.emp], sz := 1, bytes := 24, flat := false } := by kernel_rfl
theorem tt91 : tt 91 = { kind := 8, flds := [], el := 0, len := 0, int := none, zero := [.nilFunc], z := [.nilf], sz := 1, bytes := 8, flat := false } := by kernel_rfl
theorem tt92 : tt 92 = { kind := 3, flds := [], el := 3, len := 0, int := none, zero := [.slice none 0 0], z := [.emp], sz := 1, bytes := 24, flat := false } := by kernel_rfl
theorem tt93 : tt 93 = { kind := 8, flds := [], el := 0, len := 0, int := none, zero := [.nilFunc], z := [.nilf], sz := 1, bytes := 8, flat := false } := by kernel_rfl
theorem tt95 : tt 95 = { kind := 8, flds := [], el := 0, len := 0, int := none, zero := [.nilFunc], z := [.nilf], sz := 1, bytes := 8, flat := false } := by kernel_rfl
theorem tt96 : tt 96 = { kind := 8, flds := [], el := 0, len := 0, int := none, zero := [.nilFunc], z := [.nilf], sz := 1, bytes := 8, flat := false } := by kernel_rfl
theorem tt97 : tt 97 = { kind := 8, flds := [], el := 0, len := 0, int := none, zero := [.nilFunc], z := [.nilf], sz := 1, bytes := 8, flat := false } := by kernel_rfl
theorem tt98 : tt 98 = { kind := 8, flds := [], el := 0, len := 0, int := none, zero := [.nilFunc], z := [.nilf], sz := 1, bytes := 8, flat := false } := by kernel_rfl
theorem tt100 : tt 100 = { kind := 8, flds := [], el := 0, len := 0, int := none, zero := [.nilFunc], z := [.nilf], sz := 1, bytes := 8, flat := false } := by kernel_rfl
theorem tt101 : tt 101 = { kind := 8, flds := [], el := 0, len := 0, int := none, zero := [.nilFunc], z := [.nilf], sz := 1, bytes := 8, flat := false } := by kernel_rfl
theorem tt102 : tt 102 = { kind := 8, flds := [], el := 0, len := 0, int := none, zero := [.nilFunc], z := [.nilf], sz := 1, bytes := 8, flat := false } := by kernel_rfl
theorem tt103 : tt 103 = { kind := 1, flds := [(0, 3), (1, 3), (2, 3)], el := 0, len := 0, int := none, zero := [.int .i64 0, .int .i64 0, .int .i64 0], z := [.int .i64 0, .int .i64 0, .int .i64 0], sz := 3, bytes := 24, flat := true } := by kernel_rfl
theorem tt104 : tt 104 = { kind := 1, flds := [(0, 3), (1, 3), (2, 3)], el := 0, len := 0, int := none, zero := [.int .i64 0, .int .i64 0, .int .i64 0], z := [.int .i64 0, .int .i64 0, .int .i64 0], sz := 3, bytes := 24, flat := true } := by kernel_rfl
theorem tt105 : tt 105 = { kind := 8, flds := [], el := 0, len := 0, int := none, zero := [.nilFunc], z := [.nilf], sz := 1, bytes := 8, flat := false } := by kernel_rfl
theorem tt106 : tt 106 = { kind := 8, flds := [], el := 0, len := 0, int := none, zero := [.nilFunc], z := [.nilf], sz := 1, bytes := 8, flat := false } := by kernel_rfl
theorem tt107 : tt 107 = { kind := 8, flds := [], el := 0, len := 0, int := none, zero := [.nilFunc], z := [.nilf], sz := 1, bytes := 8, flat := false } := by kernel_rfl
theorem tt109 : tt 109 = { kind := 8, flds := [], el := 0, len := 0, int := none, zero := [.nilFunc], z := [.nilf], sz := 1, bytes := 8, flat := false } := by kernel_rfl
theorem tt110 : tt 110 = { kind := 8, flds := [], el := 0, len := 0, int := none, zero := [.nilFunc], z := [.nilf], sz := 1, bytes := 8, flat := false } := by kernel_rfl
theorem tt111 : tt 111 = { kind := 8, flds := [], el := 0, len := 0, int := none, zero := [.nilFunc], z := [.nilf], sz := 1, bytes := 8, flat := false } := by kernel_rfl
theorem tt112 : tt 112 = { kind := 8, flds := [], el := 0, len := 0, int := none, zero := [.nilFunc], z := [.nilf], sz := 1, bytes := 8, flat := false } := by kernel_rfl
theorem tt113 : tt 113 = { kind := 2, flds := [], el := 3, len := 2, int := none, zero := [.int .i64 0, .int .i64 0], z := [.int .i64 0, .int .i64 0], sz := 2, bytes := 16, flat := false } := by kernel_rfl
theorem tt114 : tt 114 = { kind := 8, flds := [], el := 0, len := 0, int := none, zero := [.nilFunc], z := [.nilf], sz := 1, bytes := 8, flat := false } := by kernel_rfl
theorem tt115 : tt 115 = { kind := 8, flds := [], el := 0, len := 0, int := none, zero := [.nilFunc], z := [.nilf], sz := 1, bytes := 8, flat := false } := by kernel_rfl
theorem tt116 : tt 116 = { kind := 3, flds := [], el := 4, len := 0, int := none, zero := [.slice none 0 0], z := [.emp], sz := 1, bytes := 24, flat := false } := by kernel_rfl
theorem tt117 : tt 117 = { kind := 8, flds := [], el := 0, len := 0, int := none, zero := [.nilFunc], z := [.nilf], sz := 1, bytes := 8, flat := false } := by kernel_rfl
theorem tt118 : tt 118 = { kind := 8, flds := [], el := 0, len := 0, int := none, zero := [.nilFunc], z := [.nilf], sz := 1, bytes := 8, flat := false } := by kernel_rfl
theorem tt119 : tt 119 = { kind := 8, flds := [], el := 0, len := 0, int := none, zero := [.nilFunc], z := [.nilf], sz := 1, bytes := 8, flat := false } := by kernel_rfl
theorem tt120 : tt 120 = { kind := 8, flds := [], el := 0, len := 0, int := none, zero := [.nilFunc], z := [.nilf], sz := 1, bytes := 8, flat := false } := by kernel_rfl
theorem tt121 : tt 121 = { kind := 8, flds := [], el := 0, len := 0, int := none, zero := [.nilFunc], z := [.nilf], sz := 1, bytes := 8, flat := false } := by kernel_rfl
theorem tt122 : tt 122 = { kind := 1, flds := [(0, 17), (1, 17), (2, 17), (3, 9)], el := 0, len := 0, int := none, zero := [.pointer none, .pointer none, .pointer none, .string ByteArray.empty], z := [.nilp, .nilp, .nilp, .str ByteArray.empty], sz := 4, bytes := 40, flat := false } := by kernel_rfl
theorem tt123 : tt 123 = { kind := 1, flds := [(0, 17), (1, 17), (2, 17), (3, 9)], el := 0, len := 0, int := none, zero := [.pointer none, .pointer none, .pointer none, .string ByteArray.empty], z := [.nilp, .nilp, .nilp, .str ByteArray.empty], sz := 4, bytes := 40, flat := false } := by kernel_rfl
theorem tt124 : tt 124 = { kind := 2, flds := [], el := 16, len := 0, int := none, zero := [], z := [], sz := 0, bytes := 0, flat := false } := by kernel_rfl
theorem tt125 : tt 125 = { kind := 1, flds := [(0, 124)], el := 0, len := 0, int := none, zero := [], z := [], sz := 0, bytes := 0, flat := false } := by kernel_rfl
theorem tt126 : tt 126 = { kind := 1, flds := [(0, 124)], el := 0, len := 0, int := none, zero := [], z := [], sz := 0, bytes := 0, flat := false } := by kernel_rfl
theorem tt127 : tt 127 = { kind := 8, flds := [], el := 0, len := 0, int := none, zero := [.nilFunc], z := [.nilf], sz := 1, bytes := 8, flat := false } := by kernel_rfl
theorem tt128 : tt 128 = { kind := 6, flds := [], el := 0, len := 0, int := some .u32, zero := [.int .u32 0], z := [.int .u32 0], sz := 1, bytes := 4, flat := false } := by kernel_rfl
theorem tt129 : tt 129 = { kind := 6, flds := [], el := 0, len := 0, int := some .u8, zero := [.int .u8 0], z := [.int .u8 0], sz := 1, bytes := 1, flat := false } := by kernel_rfl
theorem tt130 : tt 130 = { kind := 6, flds := [], el := 0, len := 0, int := some .u8, zero := [.int .u8 0], z := [.int .u8 0], sz := 1, bytes := 1, flat := false } := by kernel_rfl
theorem tt131 : tt 131 = { kind := 8, flds := [], el := 0, len := 0, int := none, zero := [.nilFunc], z := [.nilf], sz := 1, bytes := 8, flat := false } := by kernel_rfl
theorem tt132 : tt 132 = { kind := 4, flds := [], el := 5, len := 0, int := none, zero := [.pointer none], z := [.nilp], sz := 1, bytes := 8, flat := false } := by kernel_rfl
theorem tt133 : tt 133 = { kind := 6, flds := [], el := 0, len := 0, int := some .i32, zero := [.int .i32 0], z := [.int .i32 0], sz := 1, bytes := 4, flat := false } := by kernel_rfl
theorem tt134 : tt 134 = { kind := 6, flds := [], el := 0, len := 0, int := some .i32, zero := [.int .i32 0], z := [.int .i32 0], sz := 1, bytes := 4, flat := false } := by kernel_rfl
theorem tt135 : tt 135 = { kind := 1, flds := [(0, 12), (1, 12), (2, 128), (3, 129), (4, 5), (5, 5), (6, 130), (7, 131), (8, 132), (9, 133), (10, 134)], el := 0, len := 0, int := none, zero := [.int .u64 0, .int .u64 0, .int .u32 0, .int .u8 0, .int .u8 0, .int .u8 0, .int .u8 0, .nilFunc, .pointer none, .int .i32 0, .int .i32 0], z := [.int .u64 0, .int .u64 0, .int .u32 0, .int .u8 0, .int .u8 0, .int .u8 0, .int .u8 0, .nilf, .nilp, .int .i32 0, .int .i32 0], sz := 11, bytes := 48, flat := false } := by kernel_rfl
theorem tt136 : tt 136 = { kind := 1, flds := [(0, 12), (1, 12), (2, 128), (3, 129), (4, 5), (5, 5), (6, 130), (7, 131), (8, 132), (9, 133), (10, 134)], el := 0, len := 0, int := none, zero := [.int .u64 0, .int .u64 0, .int .u32 0, .int .u8 0, .int .u8 0, .int .u8 0, .int .u8 0, .nilFunc, .pointer none, .int .i32 0, .int .i32 0], z := [.int .u64 0, .int .u64 0, .int .u32 0, .int .u8 0, .int .u8 0, .int .u8 0, .int .u8 0, .nilf, .nilp, .int .i32 0, .int .i32 0], sz := 11, bytes := 48, flat := false } := by kernel_rfl
attribute [go_sem] tt1 tt2 tt3 tt4 tt5 tt6 tt7 tt8 tt9 tt10 tt11 tt12 tt13 tt14 tt15 tt16 tt17 tt18 tt19 tt21 tt22 tt23 tt24 tt25 tt26 tt28 tt29 tt30 tt31 tt32 tt33 tt34 tt35 tt36 tt37 tt38 tt39 tt40 tt41 tt42 tt43 tt44 tt45 tt46 tt48 tt50 tt51 tt52 tt54 tt55 tt56 tt57 tt58 tt59 tt60 tt61 tt62 tt64 tt65 tt66 tt67 tt68 tt70 tt71 tt72 tt73 tt74 tt75 tt76 tt77 tt78 tt79 tt80 tt81 tt82 tt83 tt84 tt85 tt86 tt87 tt88 tt89 tt90 tt91 tt92 tt93 tt95 tt96 tt97 tt98 tt100 tt101 tt102 tt103 tt104 tt105 tt106 tt107 tt109 tt110 tt111 tt112 tt113 tt114 tt115 tt116 tt117 tt118 tt119 tt120 tt121 tt122 tt123 tt124 tt125 tt126 tt127 tt128 tt129 tt130 tt131 tt132 tt133 tt134 tt135 tt136
end Go.Proofs.Ytmpmggbcmioipaa
