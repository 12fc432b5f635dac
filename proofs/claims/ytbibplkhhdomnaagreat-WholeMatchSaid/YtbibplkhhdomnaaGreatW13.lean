import Derived.Test.YtbibplkhhdomnaaGreatChecked
import Derived.Test.YtbibplkhhdomnaaGreatW11
import Derived.Test.YtbibplkhhdomnaaGreatW12
import Derived.Laws.BytesArg
set_option linter.all false
set_option maxRecDepth 20000
namespace Go.Proofs.YtbibplkhhdomnaaGreat
open Go Go.K
def e3 : TI := { kind := 6, int := some .i64, zero := [.int .i64 0], z := [.int .i64 0], sz := 1, bytes := 8 }
theorem f3 : TI.Facts Tryz.prog 3 e3 ∧ e3.Own := ⟨⟨by kernel_rfl, by kernel_rfl, fun h => by cases h⟩, ⟨rfl, rfl, rfl, fun _ => by decide⟩⟩
def e4 : TI := { kind := 5, zero := [.bool false], z := [.bool false], sz := 1, bytes := 1 }
theorem f4 : TI.Facts Tryz.prog 4 e4 ∧ e4.Own := ⟨⟨by kernel_rfl, by kernel_rfl, fun h => by cases h⟩, ⟨rfl, rfl, rfl, fun _ => by decide⟩⟩
def e5 : TI := { kind := 6, int := some .u8, zero := [.int .u8 0], z := [.int .u8 0], sz := 1, bytes := 1 }
theorem f5 : TI.Facts Tryz.prog 5 e5 ∧ e5.Own := ⟨⟨by kernel_rfl, by kernel_rfl, fun h => by cases h⟩, ⟨rfl, rfl, rfl, fun _ => by decide⟩⟩
def e9 : TI := { kind := 7, zero := [.string ByteArray.empty], z := [.str ByteArray.empty], sz := 1, bytes := 16 }
theorem f9 : TI.Facts Tryz.prog 9 e9 ∧ e9.Own := ⟨⟨by kernel_rfl, by kernel_rfl, fun h => by cases h⟩, ⟨rfl, rfl, rfl, fun _ => by decide⟩⟩
def e22 : TI := { kind := 3, el := 43, zero := [.slice none 0 0], z := [.emp], sz := 1, bytes := 24 }
theorem f22 : TI.Facts Tryz.prog 22 e22 ∧ e22.Own := ⟨⟨by kernel_rfl, by kernel_rfl, fun h => by cases h⟩, ⟨rfl, rfl, rfl, fun _ => by decide⟩⟩
def e23 : TI := { kind := 3, el := 24, zero := [.slice none 0 0], z := [.emp], sz := 1, bytes := 24 }
theorem f23 : TI.Facts Tryz.prog 23 e23 ∧ e23.Own := ⟨⟨by kernel_rfl, by kernel_rfl, fun h => by cases h⟩, ⟨rfl, rfl, rfl, fun _ => by decide⟩⟩
def e24 : TI := { kind := 3, el := 54, zero := [.slice none 0 0], z := [.emp], sz := 1, bytes := 24 }
theorem f24 : TI.Facts Tryz.prog 24 e24 ∧ e24.Own := ⟨⟨by kernel_rfl, by kernel_rfl, fun h => by cases h⟩, ⟨rfl, rfl, rfl, fun _ => by decide⟩⟩
def e26 : TI := { kind := 1, flds := [(0, 3), (1, 3)], zero := [.int .i64 0, .int .i64 0], z := [.int .i64 0, .int .i64 0], sz := 2, bytes := 16, flat := true }
theorem f26 : TI.Facts Tryz.prog 26 e26 ∧ e26.Own := ⟨⟨by kernel_rfl, by kernel_rfl, fun _ => by kernel_rfl⟩, ⟨rfl, rfl, rfl, fun _ => by decide⟩⟩
def e28 : TI := { kind := 1, flds := [(0, 3), (1, 3)], zero := [.int .i64 0, .int .i64 0], z := [.int .i64 0, .int .i64 0], sz := 2, bytes := 16, flat := true }
theorem f28 : TI.Facts Tryz.prog 28 e28 ∧ e28.Own := ⟨⟨by kernel_rfl, by kernel_rfl, fun _ => by kernel_rfl⟩, ⟨rfl, rfl, rfl, fun _ => by decide⟩⟩
def e30 : TI := { kind := 1, flds := [(0, 24), (1, 26), (3, 28), (5, 3)], zero := [.slice none 0 0, .int .i64 0, .int .i64 0, .int .i64 0, .int .i64 0, .int .i64 0], z := [.emp, .int .i64 0, .int .i64 0, .int .i64 0, .int .i64 0, .int .i64 0], sz := 6, bytes := 64 }
theorem f30 : TI.Facts Tryz.prog 30 e30 ∧ e30.Own := ⟨⟨by kernel_rfl, by kernel_rfl, fun h => by cases h⟩, ⟨rfl, rfl, rfl, fun _ => by decide⟩⟩
def e33 : TI := { kind := 3, el := 5, zero := [.slice none 0 0], z := [.emp], sz := 1, bytes := 24 }
theorem f33 : TI.Facts Tryz.prog 33 e33 ∧ e33.Own := ⟨⟨by kernel_rfl, by kernel_rfl, fun h => by cases h⟩, ⟨rfl, rfl, rfl, fun _ => by decide⟩⟩
def e35 : TI := { kind := 1, flds := [(0, 3), (1, 3), (2, 3), (3, 3), (4, 33)], zero := [.int .i64 0, .int .i64 0, .int .i64 0, .int .i64 0, .slice none 0 0], z := [.int .i64 0, .int .i64 0, .int .i64 0, .int .i64 0, .emp], sz := 5, bytes := 56 }
theorem f35 : TI.Facts Tryz.prog 35 e35 ∧ e35.Own := ⟨⟨by kernel_rfl, by kernel_rfl, fun h => by cases h⟩, ⟨rfl, rfl, rfl, fun _ => by decide⟩⟩
def e37 : TI := { kind := 1, flds := [(0, 35), (5, 24), (6, 26), (8, 28), (10, 3)], zero := [.int .i64 0, .int .i64 0, .int .i64 0, .int .i64 0, .slice none 0 0, .slice none 0 0, .int .i64 0, .int .i64 0, .int .i64 0, .int .i64 0, .int .i64 0], z := [.int .i64 0, .int .i64 0, .int .i64 0, .int .i64 0, .emp, .emp, .int .i64 0, .int .i64 0, .int .i64 0, .int .i64 0, .int .i64 0], sz := 11, bytes := 120 }
theorem f37 : TI.Facts Tryz.prog 37 e37 ∧ e37.Own := ⟨⟨by kernel_rfl, by kernel_rfl, fun h => by cases h⟩, ⟨rfl, rfl, rfl, fun _ => by decide⟩⟩
def e41 : TI := { kind := 1, flds := [(0, 3), (1, 3), (2, 3)], zero := [.int .i64 0, .int .i64 0, .int .i64 0], z := [.int .i64 0, .int .i64 0, .int .i64 0], sz := 3, bytes := 24, flat := true }
theorem f41 : TI.Facts Tryz.prog 41 e41 ∧ e41.Own := ⟨⟨by kernel_rfl, by kernel_rfl, fun _ => by kernel_rfl⟩, ⟨rfl, rfl, rfl, fun _ => by decide⟩⟩
def e43 : TI := { kind := 1, flds := [(0, 3), (1, 3), (2, 3)], zero := [.int .i64 0, .int .i64 0, .int .i64 0], z := [.int .i64 0, .int .i64 0, .int .i64 0], sz := 3, bytes := 24, flat := true }
theorem f43 : TI.Facts Tryz.prog 43 e43 ∧ e43.Own := ⟨⟨by kernel_rfl, by kernel_rfl, fun _ => by kernel_rfl⟩, ⟨rfl, rfl, rfl, fun _ => by decide⟩⟩
def e44 : TI := { kind := 3, el := 68, zero := [.slice none 0 0], z := [.emp], sz := 1, bytes := 24 }
theorem f44 : TI.Facts Tryz.prog 44 e44 ∧ e44.Own := ⟨⟨by kernel_rfl, by kernel_rfl, fun h => by cases h⟩, ⟨rfl, rfl, rfl, fun _ => by decide⟩⟩
def e46 : TI := { kind := 1, flds := [(0, 41), (3, 43), (6, 3), (7, 44)], zero := [.int .i64 0, .int .i64 0, .int .i64 0, .int .i64 0, .int .i64 0, .int .i64 0, .int .i64 0, .slice none 0 0], z := [.int .i64 0, .int .i64 0, .int .i64 0, .int .i64 0, .int .i64 0, .int .i64 0, .int .i64 0, .emp], sz := 8, bytes := 80 }
theorem f46 : TI.Facts Tryz.prog 46 e46 ∧ e46.Own := ⟨⟨by kernel_rfl, by kernel_rfl, fun h => by cases h⟩, ⟨rfl, rfl, rfl, fun _ => by decide⟩⟩
def e47 : TI := { kind := 6, int := some .i64, zero := [.int .i64 0], z := [.int .i64 0], sz := 1, bytes := 8 }
theorem f47 : TI.Facts Tryz.prog 47 e47 ∧ e47.Own := ⟨⟨by kernel_rfl, by kernel_rfl, fun h => by cases h⟩, ⟨rfl, rfl, rfl, fun _ => by decide⟩⟩
def e54 : TI := { kind := 1, flds := [(0, 3), (1, 3)], zero := [.int .i64 0, .int .i64 0], z := [.int .i64 0, .int .i64 0], sz := 2, bytes := 16, flat := true }
theorem f54 : TI.Facts Tryz.prog 54 e54 ∧ e54.Own := ⟨⟨by kernel_rfl, by kernel_rfl, fun _ => by kernel_rfl⟩, ⟨rfl, rfl, rfl, fun _ => by decide⟩⟩
def e55 : TI := { kind := 3, el := 95, zero := [.slice none 0 0], z := [.emp], sz := 1, bytes := 24 }
theorem f55 : TI.Facts Tryz.prog 55 e55 ∧ e55.Own := ⟨⟨by kernel_rfl, by kernel_rfl, fun h => by cases h⟩, ⟨rfl, rfl, rfl, fun _ => by decide⟩⟩
def e63 : TI := { kind := 3, el := 3, zero := [.slice none 0 0], z := [.emp], sz := 1, bytes := 24 }
theorem f63 : TI.Facts Tryz.prog 63 e63 ∧ e63.Own := ⟨⟨by kernel_rfl, by kernel_rfl, fun h => by cases h⟩, ⟨rfl, rfl, rfl, fun _ => by decide⟩⟩
def e64 : TI := { kind := 4, el := 105, zero := [.pointer none], z := [.nilp], sz := 1, bytes := 8 }
theorem f64 : TI.Facts Tryz.prog 64 e64 ∧ e64.Own := ⟨⟨by kernel_rfl, by kernel_rfl, fun h => by cases h⟩, ⟨rfl, rfl, rfl, fun _ => by decide⟩⟩
def e68 : TI := { kind := 1, flds := [(0, 3), (1, 3), (2, 3), (3, 3)], zero := [.int .i64 0, .int .i64 0, .int .i64 0, .int .i64 0], z := [.int .i64 0, .int .i64 0, .int .i64 0, .int .i64 0], sz := 4, bytes := 32, flat := true }
theorem f68 : TI.Facts Tryz.prog 68 e68 ∧ e68.Own := ⟨⟨by kernel_rfl, by kernel_rfl, fun _ => by kernel_rfl⟩, ⟨rfl, rfl, rfl, fun _ => by decide⟩⟩
def e69 : TI := { kind := 4, el := 46, zero := [.pointer none], z := [.nilp], sz := 1, bytes := 8 }
theorem f69 : TI.Facts Tryz.prog 69 e69 ∧ e69.Own := ⟨⟨by kernel_rfl, by kernel_rfl, fun h => by cases h⟩, ⟨rfl, rfl, rfl, fun _ => by decide⟩⟩
def e83 : TI := { kind := 1, flds := [(0, 3), (1, 3), (2, 3)], zero := [.int .i64 0, .int .i64 0, .int .i64 0], z := [.int .i64 0, .int .i64 0, .int .i64 0], sz := 3, bytes := 24, flat := true }
theorem f83 : TI.Facts Tryz.prog 83 e83 ∧ e83.Own := ⟨⟨by kernel_rfl, by kernel_rfl, fun _ => by kernel_rfl⟩, ⟨rfl, rfl, rfl, fun _ => by decide⟩⟩
def e85 : TI := { kind := 3, el := 88, zero := [.slice none 0 0], z := [.emp], sz := 1, bytes := 24 }
theorem f85 : TI.Facts Tryz.prog 85 e85 ∧ e85.Own := ⟨⟨by kernel_rfl, by kernel_rfl, fun h => by cases h⟩, ⟨rfl, rfl, rfl, fun _ => by decide⟩⟩
def e88 : TI := { kind := 1, flds := [(0, 3), (1, 3)], zero := [.int .i64 0, .int .i64 0], z := [.int .i64 0, .int .i64 0], sz := 2, bytes := 16, flat := true }
theorem f88 : TI.Facts Tryz.prog 88 e88 ∧ e88.Own := ⟨⟨by kernel_rfl, by kernel_rfl, fun _ => by kernel_rfl⟩, ⟨rfl, rfl, rfl, fun _ => by decide⟩⟩
def e95 : TI := { kind := 1, flds := [(0, 88), (2, 3), (3, 3)], zero := [.int .i64 0, .int .i64 0, .int .i64 0, .int .i64 0], z := [.int .i64 0, .int .i64 0, .int .i64 0, .int .i64 0], sz := 4, bytes := 32 }
theorem f95 : TI.Facts Tryz.prog 95 e95 ∧ e95.Own := ⟨⟨by kernel_rfl, by kernel_rfl, fun h => by cases h⟩, ⟨rfl, rfl, rfl, fun _ => by decide⟩⟩
def e100 : TI := { kind := 4, el := 139, zero := [.pointer none], z := [.nilp], sz := 1, bytes := 8 }
theorem f100 : TI.Facts Tryz.prog 100 e100 ∧ e100.Own := ⟨⟨by kernel_rfl, by kernel_rfl, fun h => by cases h⟩, ⟨rfl, rfl, rfl, fun _ => by decide⟩⟩
def e103 : TI := { kind := 3, el := 85, zero := [.slice none 0 0], z := [.emp], sz := 1, bytes := 24 }
theorem f103 : TI.Facts Tryz.prog 103 e103 ∧ e103.Own := ⟨⟨by kernel_rfl, by kernel_rfl, fun h => by cases h⟩, ⟨rfl, rfl, rfl, fun _ => by decide⟩⟩
def e105 : TI := { kind := 1, flds := [(0, 37), (11, 100), (12, 103)], zero := [.int .i64 0, .int .i64 0, .int .i64 0, .int .i64 0, .slice none 0 0, .slice none 0 0, .int .i64 0, .int .i64 0, .int .i64 0, .int .i64 0, .int .i64 0, .pointer none, .slice none 0 0], z := [.int .i64 0, .int .i64 0, .int .i64 0, .int .i64 0, .emp, .emp, .int .i64 0, .int .i64 0, .int .i64 0, .int .i64 0, .int .i64 0, .nilp, .emp], sz := 13, bytes := 152 }
theorem f105 : TI.Facts Tryz.prog 105 e105 ∧ e105.Own := ⟨⟨by kernel_rfl, by kernel_rfl, fun h => by cases h⟩, ⟨rfl, rfl, rfl, fun _ => by decide⟩⟩
def e110 : TI := { kind := 8, zero := [.nilFunc], z := [.nilf], sz := 1, bytes := 8 }
theorem f110 : TI.Facts Tryz.prog 110 e110 ∧ e110.Own := ⟨⟨by kernel_rfl, by kernel_rfl, fun h => by cases h⟩, ⟨rfl, rfl, rfl, fun _ => by decide⟩⟩
def e112 : TI := { kind := 3, el := 4, zero := [.slice none 0 0], z := [.emp], sz := 1, bytes := 24 }
theorem f112 : TI.Facts Tryz.prog 112 e112 ∧ e112.Own := ⟨⟨by kernel_rfl, by kernel_rfl, fun h => by cases h⟩, ⟨rfl, rfl, rfl, fun _ => by decide⟩⟩
def e115 : TI := { kind := 8, zero := [.nilFunc], z := [.nilf], sz := 1, bytes := 8 }
theorem f115 : TI.Facts Tryz.prog 115 e115 ∧ e115.Own := ⟨⟨by kernel_rfl, by kernel_rfl, fun h => by cases h⟩, ⟨rfl, rfl, rfl, fun _ => by decide⟩⟩
def e124 : TI := { kind := 1, flds := [(0, 3), (1, 3), (2, 3), (3, 3)], zero := [.int .i64 0, .int .i64 0, .int .i64 0, .int .i64 0], z := [.int .i64 0, .int .i64 0, .int .i64 0, .int .i64 0], sz := 4, bytes := 32, flat := true }
theorem f124 : TI.Facts Tryz.prog 124 e124 ∧ e124.Own := ⟨⟨by kernel_rfl, by kernel_rfl, fun _ => by kernel_rfl⟩, ⟨rfl, rfl, rfl, fun _ => by decide⟩⟩
def e131 : TI := { kind := 8, zero := [.nilFunc], z := [.nilf], sz := 1, bytes := 8 }
theorem f131 : TI.Facts Tryz.prog 131 e131 ∧ e131.Own := ⟨⟨by kernel_rfl, by kernel_rfl, fun h => by cases h⟩, ⟨rfl, rfl, rfl, fun _ => by decide⟩⟩
def e134 : TI := { kind := 8, zero := [.nilFunc], z := [.nilf], sz := 1, bytes := 8 }
theorem f134 : TI.Facts Tryz.prog 134 e134 ∧ e134.Own := ⟨⟨by kernel_rfl, by kernel_rfl, fun h => by cases h⟩, ⟨rfl, rfl, rfl, fun _ => by decide⟩⟩
def e137 : TI := { kind := 2, el := 35, len := 7, zero := [.int .i64 0, .int .i64 0, .int .i64 0, .int .i64 0, .slice none 0 0, .int .i64 0, .int .i64 0, .int .i64 0, .int .i64 0, .slice none 0 0, .int .i64 0, .int .i64 0, .int .i64 0, .int .i64 0, .slice none 0 0, .int .i64 0, .int .i64 0, .int .i64 0, .int .i64 0, .slice none 0 0, .int .i64 0, .int .i64 0, .int .i64 0, .int .i64 0, .slice none 0 0, .int .i64 0, .int .i64 0, .int .i64 0, .int .i64 0, .slice none 0 0, .int .i64 0, .int .i64 0, .int .i64 0, .int .i64 0, .slice none 0 0], z := [.int .i64 0, .int .i64 0, .int .i64 0, .int .i64 0, .emp, .int .i64 0, .int .i64 0, .int .i64 0, .int .i64 0, .emp, .int .i64 0, .int .i64 0, .int .i64 0, .int .i64 0, .emp, .int .i64 0, .int .i64 0, .int .i64 0, .int .i64 0, .emp, .int .i64 0, .int .i64 0, .int .i64 0, .int .i64 0, .emp, .int .i64 0, .int .i64 0, .int .i64 0, .int .i64 0, .emp, .int .i64 0, .int .i64 0, .int .i64 0, .int .i64 0, .emp], sz := 35, bytes := 392 }
theorem f137 : TI.Facts Tryz.prog 137 e137 ∧ e137.Own := ⟨⟨by kernel_rfl, by kernel_rfl, fun h => by cases h⟩, ⟨rfl, rfl, rfl, fun _ => by decide⟩⟩
def e139 : TI := { kind := 1, flds := [(0, 35), (5, 137), (40, 63)], zero := [.int .i64 0, .int .i64 0, .int .i64 0, .int .i64 0, .slice none 0 0, .int .i64 0, .int .i64 0, .int .i64 0, .int .i64 0, .slice none 0 0, .int .i64 0, .int .i64 0, .int .i64 0, .int .i64 0, .slice none 0 0, .int .i64 0, .int .i64 0, .int .i64 0, .int .i64 0, .slice none 0 0, .int .i64 0, .int .i64 0, .int .i64 0, .int .i64 0, .slice none 0 0, .int .i64 0, .int .i64 0, .int .i64 0, .int .i64 0, .slice none 0 0, .int .i64 0, .int .i64 0, .int .i64 0, .int .i64 0, .slice none 0 0, .int .i64 0, .int .i64 0, .int .i64 0, .int .i64 0, .slice none 0 0, .slice none 0 0], z := [.int .i64 0, .int .i64 0, .int .i64 0, .int .i64 0, .emp, .int .i64 0, .int .i64 0, .int .i64 0, .int .i64 0, .emp, .int .i64 0, .int .i64 0, .int .i64 0, .int .i64 0, .emp, .int .i64 0, .int .i64 0, .int .i64 0, .int .i64 0, .emp, .int .i64 0, .int .i64 0, .int .i64 0, .int .i64 0, .emp, .int .i64 0, .int .i64 0, .int .i64 0, .int .i64 0, .emp, .int .i64 0, .int .i64 0, .int .i64 0, .int .i64 0, .emp, .int .i64 0, .int .i64 0, .int .i64 0, .int .i64 0, .emp, .emp], sz := 41, bytes := 472 }
theorem f139 : TI.Facts Tryz.prog 139 e139 ∧ e139.Own := ⟨⟨by kernel_rfl, by kernel_rfl, fun h => by cases h⟩, ⟨rfl, rfl, rfl, fun _ => by decide⟩⟩
def e143 : TI := { kind := 2, el := 3, len := 2, zero := [.int .i64 0, .int .i64 0], z := [.int .i64 0, .int .i64 0], sz := 2, bytes := 16 }
theorem f143 : TI.Facts Tryz.prog 143 e143 ∧ e143.Own := ⟨⟨by kernel_rfl, by kernel_rfl, fun h => by cases h⟩, ⟨rfl, rfl, rfl, fun _ => by decide⟩⟩
def e157 : TI := { kind := 6, int := some .u64, zero := [.int .u64 0], z := [.int .u64 0], sz := 1, bytes := 8 }
theorem f157 : TI.Facts Tryz.prog 157 e157 ∧ e157.Own := ⟨⟨by kernel_rfl, by kernel_rfl, fun h => by cases h⟩, ⟨rfl, rfl, rfl, fun _ => by decide⟩⟩
def e163 : TI := { kind := 1, flds := [(0, 3), (1, 3)], zero := [.int .i64 0, .int .i64 0], z := [.int .i64 0, .int .i64 0], sz := 2, bytes := 16, flat := true }
theorem f163 : TI.Facts Tryz.prog 163 e163 ∧ e163.Own := ⟨⟨by kernel_rfl, by kernel_rfl, fun _ => by kernel_rfl⟩, ⟨rfl, rfl, rfl, fun _ => by decide⟩⟩
def e165 : TI := { kind := 1, flds := [(0, 163), (2, 163)], zero := [.int .i64 0, .int .i64 0, .int .i64 0, .int .i64 0], z := [.int .i64 0, .int .i64 0, .int .i64 0, .int .i64 0], sz := 4, bytes := 32 }
theorem f165 : TI.Facts Tryz.prog 165 e165 ∧ e165.Own := ⟨⟨by kernel_rfl, by kernel_rfl, fun h => by cases h⟩, ⟨rfl, rfl, rfl, fun _ => by decide⟩⟩
def e169 : TI := { kind := 6, int := some .i64, zero := [.int .i64 0], z := [.int .i64 0], sz := 1, bytes := 8 }
theorem f169 : TI.Facts Tryz.prog 169 e169 ∧ e169.Own := ⟨⟨by kernel_rfl, by kernel_rfl, fun h => by cases h⟩, ⟨rfl, rfl, rfl, fun _ => by decide⟩⟩
def e177 : TI := { kind := 6, int := some .u32, zero := [.int .u32 0], z := [.int .u32 0], sz := 1, bytes := 4 }
theorem f177 : TI.Facts Tryz.prog 177 e177 ∧ e177.Own := ⟨⟨by kernel_rfl, by kernel_rfl, fun h => by cases h⟩, ⟨rfl, rfl, rfl, fun _ => by decide⟩⟩
def e179 : TI := { kind := 6, int := some .u64, zero := [.int .u64 0], z := [.int .u64 0], sz := 1, bytes := 8 }
theorem f179 : TI.Facts Tryz.prog 179 e179 ∧ e179.Own := ⟨⟨by kernel_rfl, by kernel_rfl, fun h => by cases h⟩, ⟨rfl, rfl, rfl, fun _ => by decide⟩⟩
def e181 : TI := { kind := 6, int := some .u64, zero := [.int .u64 0], z := [.int .u64 0], sz := 1, bytes := 8 }
theorem f181 : TI.Facts Tryz.prog 181 e181 ∧ e181.Own := ⟨⟨by kernel_rfl, by kernel_rfl, fun h => by cases h⟩, ⟨rfl, rfl, rfl, fun _ => by decide⟩⟩
def e185 : TI := { kind := 4, el := 3, zero := [.pointer none], z := [.nilp], sz := 1, bytes := 8 }
theorem f185 : TI.Facts Tryz.prog 185 e185 ∧ e185.Own := ⟨⟨by kernel_rfl, by kernel_rfl, fun h => by cases h⟩, ⟨rfl, rfl, rfl, fun _ => by decide⟩⟩
def e187 : TI := { kind := 4, el := 165, zero := [.pointer none], z := [.nilp], sz := 1, bytes := 8 }
theorem f187 : TI.Facts Tryz.prog 187 e187 ∧ e187.Own := ⟨⟨by kernel_rfl, by kernel_rfl, fun h => by cases h⟩, ⟨rfl, rfl, rfl, fun _ => by decide⟩⟩
def e189 : TI := { kind := 4, el := 181, zero := [.pointer none], z := [.nilp], sz := 1, bytes := 8 }
theorem f189 : TI.Facts Tryz.prog 189 e189 ∧ e189.Own := ⟨⟨by kernel_rfl, by kernel_rfl, fun h => by cases h⟩, ⟨rfl, rfl, rfl, fun _ => by decide⟩⟩
def ttL : List (TypeId × TI) := [(3, e3), (4, e4), (5, e5), (9, e9), (22, e22), (23, e23), (24, e24), (26, e26), (28, e28), (30, e30), (33, e33), (35, e35), (37, e37), (41, e41), (43, e43), (44, e44), (46, e46), (47, e47), (54, e54), (55, e55), (63, e63), (64, e64), (68, e68), (69, e69), (83, e83), (85, e85), (88, e88), (95, e95), (100, e100), (103, e103), (105, e105), (110, e110), (112, e112), (115, e115), (124, e124), (131, e131), (134, e134), (137, e137), (139, e139), (143, e143), (157, e157), (163, e163), (165, e165), (169, e169), (177, e177), (179, e179), (181, e181), (185, e185), (187, e187), (189, e189)]
def tt : TT := lkT ttL
theorem ttF : ∀ p ∈ ttL, TI.Facts Tryz.prog p.1 p.2 ∧ p.2.Own :=
  List.forall_mem_cons.2 ⟨f3, List.forall_mem_cons.2 ⟨f4, List.forall_mem_cons.2 ⟨f5, List.forall_mem_cons.2 ⟨f9, List.forall_mem_cons.2 ⟨f22, List.forall_mem_cons.2 ⟨f23, List.forall_mem_cons.2 ⟨f24, List.forall_mem_cons.2 ⟨f26, List.forall_mem_cons.2 ⟨f28, List.forall_mem_cons.2 ⟨f30, List.forall_mem_cons.2 ⟨f33, List.forall_mem_cons.2 ⟨f35, List.forall_mem_cons.2 ⟨f37, List.forall_mem_cons.2 ⟨f41, List.forall_mem_cons.2 ⟨f43, List.forall_mem_cons.2 ⟨f44, List.forall_mem_cons.2 ⟨f46, List.forall_mem_cons.2 ⟨f47, List.forall_mem_cons.2 ⟨f54, List.forall_mem_cons.2 ⟨f55, List.forall_mem_cons.2 ⟨f63, List.forall_mem_cons.2 ⟨f64, List.forall_mem_cons.2 ⟨f68, List.forall_mem_cons.2 ⟨f69, List.forall_mem_cons.2 ⟨f83, List.forall_mem_cons.2 ⟨f85, List.forall_mem_cons.2 ⟨f88, List.forall_mem_cons.2 ⟨f95, List.forall_mem_cons.2 ⟨f100, List.forall_mem_cons.2 ⟨f103, List.forall_mem_cons.2 ⟨f105, List.forall_mem_cons.2 ⟨f110, List.forall_mem_cons.2 ⟨f112, List.forall_mem_cons.2 ⟨f115, List.forall_mem_cons.2 ⟨f124, List.forall_mem_cons.2 ⟨f131, List.forall_mem_cons.2 ⟨f134, List.forall_mem_cons.2 ⟨f137, List.forall_mem_cons.2 ⟨f139, List.forall_mem_cons.2 ⟨f143, List.forall_mem_cons.2 ⟨f157, List.forall_mem_cons.2 ⟨f163, List.forall_mem_cons.2 ⟨f165, List.forall_mem_cons.2 ⟨f169, List.forall_mem_cons.2 ⟨f177, List.forall_mem_cons.2 ⟨f179, List.forall_mem_cons.2 ⟨f181, List.forall_mem_cons.2 ⟨f185, List.forall_mem_cons.2 ⟨f187, List.forall_mem_cons.2 ⟨f189, List.forall_mem_nil _⟩⟩⟩⟩⟩⟩⟩⟩⟩⟩⟩⟩⟩⟩⟩⟩⟩⟩⟩⟩⟩⟩⟩⟩⟩⟩⟩⟩⟩⟩⟩⟩⟩⟩⟩⟩⟩⟩⟩⟩⟩⟩⟩⟩⟩⟩⟩⟩⟩⟩
theorem tt_ok : tt.Ok Tryz.prog := lkT_ok ttF
theorem tt3 : tt 3 = e3 := by kernel_rfl
theorem tt4 : tt 4 = e4 := by kernel_rfl
theorem tt5 : tt 5 = e5 := by kernel_rfl
theorem tt9 : tt 9 = e9 := by kernel_rfl
theorem tt22 : tt 22 = e22 := by kernel_rfl
theorem tt23 : tt 23 = e23 := by kernel_rfl
theorem tt24 : tt 24 = e24 := by kernel_rfl
theorem tt26 : tt 26 = e26 := by kernel_rfl
theorem tt28 : tt 28 = e28 := by kernel_rfl
theorem tt30 : tt 30 = e30 := by kernel_rfl
theorem tt33 : tt 33 = e33 := by kernel_rfl
theorem tt35 : tt 35 = e35 := by kernel_rfl
theorem tt37 : tt 37 = e37 := by kernel_rfl
theorem tt41 : tt 41 = e41 := by kernel_rfl
theorem tt43 : tt 43 = e43 := by kernel_rfl
theorem tt44 : tt 44 = e44 := by kernel_rfl
theorem tt46 : tt 46 = e46 := by kernel_rfl
theorem tt47 : tt 47 = e47 := by kernel_rfl
theorem tt54 : tt 54 = e54 := by kernel_rfl
theorem tt55 : tt 55 = e55 := by kernel_rfl
theorem tt63 : tt 63 = e63 := by kernel_rfl
theorem tt64 : tt 64 = e64 := by kernel_rfl
theorem tt68 : tt 68 = e68 := by kernel_rfl
theorem tt69 : tt 69 = e69 := by kernel_rfl
theorem tt83 : tt 83 = e83 := by kernel_rfl
theorem tt85 : tt 85 = e85 := by kernel_rfl
theorem tt88 : tt 88 = e88 := by kernel_rfl
theorem tt95 : tt 95 = e95 := by kernel_rfl
theorem tt100 : tt 100 = e100 := by kernel_rfl
theorem tt103 : tt 103 = e103 := by kernel_rfl
theorem tt105 : tt 105 = e105 := by kernel_rfl
theorem tt110 : tt 110 = e110 := by kernel_rfl
theorem tt112 : tt 112 = e112 := by kernel_rfl
theorem tt115 : tt 115 = e115 := by kernel_rfl
theorem tt124 : tt 124 = e124 := by kernel_rfl
theorem tt131 : tt 131 = e131 := by kernel_rfl
theorem tt134 : tt 134 = e134 := by kernel_rfl
theorem tt137 : tt 137 = e137 := by kernel_rfl
theorem tt139 : tt 139 = e139 := by kernel_rfl
theorem tt143 : tt 143 = e143 := by kernel_rfl
theorem tt157 : tt 157 = e157 := by kernel_rfl
theorem tt163 : tt 163 = e163 := by kernel_rfl
theorem tt165 : tt 165 = e165 := by kernel_rfl
theorem tt169 : tt 169 = e169 := by kernel_rfl
theorem tt177 : tt 177 = e177 := by kernel_rfl
theorem tt179 : tt 179 = e179 := by kernel_rfl
theorem tt181 : tt 181 = e181 := by kernel_rfl
theorem tt185 : tt 185 = e185 := by kernel_rfl
theorem tt187 : tt 187 = e187 := by kernel_rfl
theorem tt189 : tt 189 = e189 := by kernel_rfl
attribute [go_sem] tt3 e3 tt4 e4 tt5 e5 tt9 e9 tt22 e22 tt23 e23 tt24 e24 tt26 e26 tt28 e28 tt30 e30 tt33 e33 tt35 e35 tt37 e37 tt41 e41 tt43 e43 tt44 e44 tt46 e46 tt47 e47 tt54 e54 tt55 e55 tt63 e63 tt64 e64 tt68 e68 tt69 e69 tt83 e83 tt85 e85 tt88 e88 tt95 e95 tt100 e100 tt103 e103 tt105 e105 tt110 e110 tt112 e112 tt115 e115 tt124 e124 tt131 e131 tt134 e134 tt137 e137 tt139 e139 tt143 e143 tt157 e157 tt163 e163 tt165 e165 tt169 e169 tt177 e177 tt179 e179 tt181 e181 tt185 e185 tt187 e187 tt189 e189
end Go.Proofs.YtbibplkhhdomnaaGreat
namespace Go.K
open Go Go.RowKit
section
variable {P : Program} {B : Nat} {w0 : World} {E0 E : Ext} {L0 L : List Loc} {s : St} {a : Act} {w : World} {m : Nat}
theorem ownRows_put {cur : Array Value} {sz k j : Nat} {rows : List (List V)} {row : List V} {c : V} (h : OwnRows E L cur sz rows) (hr : rows[k]? = some row) (hc : c.one = true) (hx : ∀ x, cur[k * sz + j]? = some x → c.Is E L x) (hj : j < row.length) : OwnRows E L cur sz (rows.set k (row.set j c)) := by
  intro k' row' hk'
  by_cases e : k = k'
  · subst e
    rw [List.getElem?_set_self (get_lt hr)] at hk'
    obtain rfl := Option.some.inj hk'
    obtain ⟨q1, q2⟩ := h k row hr
    refine ⟨by rw [List.length_set]; exact q1, fun j' c' hj' => ?_⟩
    by_cases e2 : j = j'
    · subst e2
      rw [List.getElem?_set_self hj] at hj'
      obtain rfl := Option.some.inj hj'
      obtain ⟨q3, x, q4, q5⟩ := q2 j (row[j]'hj) (List.getElem?_eq_getElem hj)
      exact ⟨hc, x, q4, hx x q4⟩
    · rw [List.getElem?_set_ne e2] at hj'
      exact q2 j' c' hj'
  · rw [List.getElem?_set_ne e] at hk'
    exact h k' row' hk'
theorem ev_adoptC {c : Code} {Q : Exit → St → Prop} (id k j : Nat) (ty : TypeId) (sz : Nat) (h0 : 0 < sz) {tb : TypeId} {ver sz0 : Nat} {rows : List (List V)} {row : List V} (ho : s.ow[id]? = some (.blk tb ver sz0 rows)) (hr : rows[k]? = some row) (hj : row[j]? = some .emp)
    (h : EV P m c Q ⟨s.n, s.tm, (s.ow ++ [Own.blk ty 0 sz []]).set id (Own.blk tb ver sz0 (rows.set k (row.set j (.rs s.ow.length 0 0 0))))⟩) : EV P m c Q s := by
  rintro B w0 E0 L0 a w hm ⟨E, L, R⟩
  have R' := R.more (ty := ty) h0
  have hid := get_lt ho
  have hil : id < L.length := by rw [R.len]; exact hid
  obtain ⟨l0, hl0⟩ : ∃ l, L[id]? = some l := ⟨_, List.getElem?_eq_getElem hil⟩
  have ho' : (s.ow ++ [Own.blk ty 0 sz []])[id]? = some (.blk tb ver sz0 rows) := by rw [List.getElem?_append_left hid]; exact ho
  have hl' : (L ++ [Loc.nil 0])[id]? = some l0 := by rw [List.getElem?_append_left hil]; exact hl0
  have hok := R'.owns id _ l0 ho' hl'
  have hnew : (L ++ [Loc.nil 0])[s.ow.length]? = some (.nil 0) := by rw [List.getElem?_append_right (by rw [R.len]; exact Nat.le_refl _), R.len]; simp
  have hset : (L ++ [Loc.nil 0]).set id l0 = L ++ [Loc.nil 0] := locs_same hl'
  refine h B w0 E0 L0 a w hm ⟨E, _, R'.setOwn (o1 := .blk tb ver sz0 (rows.set k (row.set j (.rs s.ow.length 0 0 0)))) (l1 := l0) ho' hl' (Below.refl B w) (Loc.to_refl _) (fun g _ _ => rfl) ?_ (fun g hg => .inl ?_)⟩
  · rw [hset]
    cases l0 with
    | lies v g sz' cap =>
      obtain ⟨a1, a2, a3, a4, a5, a6, a7, a8, cur, a9, a10, a11⟩ := hok
      refine ⟨a1, a2, a3, a4, a5, a6, by rw [List.length_set]; exact a7, a8, cur, a9, a10, ownRows_put a11 hr rfl (fun x hx => ?_) (get_lt hj)⟩
      obtain ⟨_, q2⟩ := a11 k row hr
      obtain ⟨_, y, q4, q5⟩ := q2 j _ hj
      obtain rfl := Option.some.inj (hx.symm.trans q4)
      unfold V.Is at q5
      obtain ⟨A, hA⟩ := q5
      rw [hA]
      exact nil_sl hnew A
    | nil v =>
      obtain ⟨_, a2, _⟩ := hok
      rw [a2] at hr
      simp at hr
    | free => exact hok.elim
  · cases l0 <;> exact hg
end
end Go.K
namespace Go.K
open Go Go.RowKit
section
variable {P : Program} {B : Nat} {w0 : World} {E0 E : Ext} {L0 L : List Loc} {s : St} {a : Act} {w : World} {o : Oper} {m : Nat}
def SpecS (P : Program) (s : St) (op : Op) (X : Out → Prop) : Prop :=
  ∀ (B : Nat) (w0 : World) (E0 E : Ext) (L0 L : List Loc) (a : Act) (w : World) (o : Oper), o.op = op → RepE B w0 E0 E L0 L s a w →
    ∀ (next : Act → World → Prop) (Q : Exit → Act → World → Prop),
      (∀ x v w' E' L', X x → RepE B w0 E0 E' L0 L' ⟨s.n, s.tm, app s.ow x.upd⟩ a w' → x.r.Is E' L' v → next (a.put o.dst v) w') → o.wp P a w next Q
def evOps3 (P : Program) (tt : TT) (ds : List (Option Tmp)) : List (Nat × Oper) → St → (St → Prop) → Prop
  | [], s, K => K s
  | io :: r, s, K => (∃ x, Step P tt ds io.1 io.2 s x ∧ evOps3 P tt ds r (s.app io.2.dst x) K) ∨
      (∃ X, (io.2.guard = none ∨ ∃ j want, io.2.guard = some (j, want) ∧ gOf want (s.gv (ds.getD j none)) = some (some true)) ∧ dlt s.n io.2.dst ∧ SpecS P s io.2.op X ∧ ∀ x, X x → evOps3 P tt ds r (s.app io.2.dst x) K)
theorem evOps3_sound {tt : TT} (ht : tt.Ok P) {ops : Array Oper} {ds : List (Option Tmp)} (hds : ds = ops.toList.map (·.dst)) {K : St → Prop} {Q : Exit → Act → World → Prop}
    (hK : ∀ s' a' w' E' L', K s' → RepE B w0 E0 E' L0 L' s' a' w' → Q .normal a' w') (tg : Nat → Nat) :
    ∀ (l : List Nat) (s : St) (a : Act) (w : World) (E : Ext) (L : List Loc), (∀ i ∈ l, i < ops.size) → RepE B w0 E0 E L0 L s a w → evOps3 P tt ds (l.map fun i => (tg i, ops.getD i default)) s K → wpOps P ops Q l a w
  | [], s, a, w, E, L, _, R, h => hK s a w E L h R
  | i :: l, s, a, w, E, L, hL, R, h => by
    have hi : i < ops.size := hL i (List.mem_cons_self ..)
    have hget : ops[i]? = some (ops.getD i default) := by simp [hi]
    simp only [wpOps, hget]
    rcases h with ⟨x, hx, h⟩ | ⟨X, hg, hd, hsp, h⟩
    · have := step_sound (o := ops.getD i default) ht R hds hx (Q := Q) (next := wpOps P ops Q l) (ops := ops) fun a' w' E' L' R' =>
        evOps3_sound ht hds hK tg l _ a' w' E' L' (fun j hj => hL j (List.mem_cons_of_mem _ hj)) R' h
      by_cases hw : Region.wanted (ops.getD i default) (yielded ops a.tmps) = true
      · rw [if_pos hw] at this ⊢
        exact .inl this
      · rw [if_neg hw] at this ⊢
        exact this
    · have hw : Region.wanted (ops.getD i default) (yielded ops a.tmps) = true := by
        rcases hg with hg | ⟨j, want, hgd, hgv⟩
        · have hg' : (ops.getD i default).guard = none := hg
          unfold Region.wanted; rw [hg']
        · have hd : (ops[j]?).bind (·.dst) = ds.getD j none := by
            subst hds
            simp only [List.getD_eq_getElem?_getD, List.getElem?_map, Array.getElem?_toList]
            cases ops[j]? <;> rfl
          exact (gOf_wanted R hgd hd).1 hgv
      rw [if_pos hw]
      refine .inl (hsp B w0 E0 E L0 L a w (ops.getD i default) rfl R (wpOps P ops Q l) Q fun x v w' E' L' hx R' hi' => ?_)
      exact evOps3_sound ht hds hK tg l _ _ w' E' L' (fun j hj => hL j (List.mem_cons_of_mem _ hj)) (R'.put hd hi') (h x hx)
theorem ev_region3 {tt : TT} (ht : tt.Ok P) (nw : Bool) {id : Nat} {l : List Oper} {Q : Exit → St → Prop} (h : evOps3 P tt (dsts l) (tag nw l s.ow.length) ⟨s.n, s.tm, s.ow ++ frees nw l⟩ fun s' => Q .normal s') :
    EV P m (.region id l.toArray false) Q s := by
  rintro B w0 E0 L0 a w _ ⟨E, L, R⟩
  refine wp_region ?_
  have hsz : l.toArray.size = l.length := by simp
  rw [hsz]
  refine evOps3_sound (ds := dsts l) ht (by rw [dsts_eq]) (fun s' a' w' E' L' hk R' => ⟨s', hk, E', L', R'⟩) (tagAt nw l s.ow.length) (List.range l.length) _ a w E _ (by simp) (R.free (frees_free nw l)) ?_
  rw [tag_eq] at h
  have : (fun i => (tagAt nw l s.ow.length i, l.toArray.getD i default)) = fun i => (tagAt nw l s.ow.length i, l.getD i default) := by
    funext i; simp [List.getD_eq_getElem?_getD, Array.getD_eq_getD_getElem?]
  rw [this]; exact h
theorem ev3_step {tt : TT} {ds : List (Option Tmp)} {io : Nat × Oper} {r : List (Nat × Oper)} {K : St → Prop} (h : okF (fun x => evOps3 P tt ds r (s.app io.2.dst x) K) (stepF tt ds io.1 io.2 s)) : evOps3 P tt ds (io :: r) s K := by
  unfold okF at h
  split at h
  · rename_i p x hs
    exact .inl ⟨x, .inl (by unfold Main; rw [hs]; exact ⟨h.1, rfl⟩), h.2⟩
  · exact h.elim
theorem ev3_spec {tt : TT} {ds : List (Option Tmp)} {io : Nat × Oper} {r : List (Nat × Oper)} {K : St → Prop} {X : Out → Prop} (hg : io.2.guard = none) (hd : dlt s.n io.2.dst) (hs : SpecS P s io.2.op X) (h : ∀ x, X x → evOps3 P tt ds r (s.app io.2.dst x) K) : evOps3 P tt ds (io :: r) s K :=
  .inr ⟨X, .inl hg, hd, hs, h⟩
theorem ev3_specG {tt : TT} {ds : List (Option Tmp)} {io : Nat × Oper} {r : List (Nat × Oper)} {K : St → Prop} {X : Out → Prop} {j : Nat} {want : Bool} (hg : io.2.guard = some (j, want)) (hv : gOf want (s.gv (ds.getD j none)) = some (some true)) (hd : dlt s.n io.2.dst) (hs : SpecS P s io.2.op X) (h : ∀ x, X x → evOps3 P tt ds r (s.app io.2.dst x) K) : evOps3 P tt ds (io :: r) s K :=
  .inr ⟨X, .inr ⟨j, want, hg, hv⟩, hd, hs, h⟩
theorem ev3_skip {tt : TT} {ds : List (Option Tmp)} {io : Nat × Oper} {r : List (Nat × Oper)} {K : St → Prop} {x : Out} (h : SkipStep ds io.2 s x) (k : evOps3 P tt ds r (s.app io.2.dst x) K) : evOps3 P tt ds (io :: r) s K :=
  .inl ⟨x, .inr h, k⟩
theorem ev3_nil {tt : TT} {ds : List (Option Tmp)} {K : St → Prop} (h : K s) : evOps3 P tt ds [] s K := h
structure Held (p : Prop) : Prop where
  h : p
theorem ev_held {id : Nat} {ops : Array Oper} {d : Bool} {Q : Exit → St → Prop} (h : Held (EV P m (.region id ops d) Q s)) : EV P m (.region id ops d) Q s := h.h
end
end Go.K
namespace Go.K
open Go Go.RowKit
section
variable {P : Program} {B : Nat} {w0 : World} {E0 E : Ext} {L0 L : List Loc} {s : St} {a : Act} {w : World} {m : Nat}
def Hid (p : Prop) : Prop := p
def FzSee (Q : Exit → St → Prop) (s : St) : Prop := ∃ id ty v sz rows rs t y, s.ow[id]? = some (.blk ty v sz rows) ∧ vrows (fv s.ow) rows = some rs ∧
  fv (s.ow.set id (.froz ty v sz rs)) (lk s.tm t) = some y ∧ Q .normal ⟨s.n, (t, y) :: s.tm, s.ow.set id (.froz ty v sz rs)⟩
end
end Go.K
namespace Go.K
open Go Go.RowKit
mutual
theorem under_mono {n k : Nat} (hk : n ≤ k) : ∀ {x : V}, x.under n → x.under k
  | .own _ _ _ _, h => by unfold V.under at *; omega
  | .rs _ _ _ _, h => by unfold V.under at *; omega
  | .mp _, h => by unfold V.under at *; omega
  | .fn _ _, h => by unfold V.under at *; exact unders_mono hk h
  | .agg _, h => by unfold V.under at *; exact unders_mono hk h
  | .tup _, h => by unfold V.under at *; exact unders_mono hk h
  | .cnd _ _, h => by unfold V.under at *; exact fun e => under_mono hk (h e)
  | .bool _, _ => by unfold V.under; trivial
  | .int _ _, _ => by unfold V.under; trivial
  | .str _, _ => by unfold V.under; trivial
  | .nilp, _ => by unfold V.under; trivial
  | .nilf, _ => by unfold V.under; trivial
  | .emp, _ => by unfold V.under; trivial
  | .sl _, _ => by unfold V.under; trivial
  | .pi _ _, _ => by unfold V.under; trivial
  | .un, _ => by unfold V.under; trivial
theorem unders_mono {n k : Nat} (hk : n ≤ k) : ∀ {xs : List V}, unders n xs → unders k xs
  | [], _ => by unfold unders; trivial
  | _ :: _, h => by unfold unders at *; exact ⟨under_mono hk h.1, unders_mono hk h.2⟩
end
theorem ownUnder_mono {n k : Nat} (hk : n ≤ k) {o : Own} (h : ownUnder n o) : ownUnder k o := by
  cases o with
  | blk ty v sz rows => exact rowsUnder_iff.2 fun r hr => unders_mono hk (rowsUnder_iff.1 h r hr)
  | free => trivial
  | gone => trivial
  | froz _ _ _ _ => trivial
  | mp _ => trivial
def allU (n : Nat) (F : List Own) : Prop := ∀ o ∈ F, ownUnder n o
theorem allU_mono {n k : Nat} (hk : n ≤ k) {F : List Own} (h : allU n F) : allU k F := fun o ho => ownUnder_mono hk (h o ho)
theorem allU_set {n : Nat} {F : List Own} (h : allU n F) (i : Nat) {o : Own} (ho : ownUnder n o) : allU n (F.set i o) := fun x hx => by
  rcases List.mem_or_eq_of_mem_set hx with hx | rfl
  · exact h x hx
  · exact ho
theorem fitOs_pre {n : Nat} {k l : List Own} (h : fitOs n k l) : ∀ {F : List Own}, allU n F → fitOs n (F ++ k) (F ++ l)
  | [], _ => h
  | x :: xs, hF => by
    rw [List.cons_append, List.cons_append]
    unfold fitOs
    exact ⟨fitO_refl (hF x (List.mem_cons_self ..)), fitOs_pre h fun o ho => hF o (List.mem_cons_of_mem _ ho)⟩
theorem run_of_evU {P : Program} {tt : TT} (ht : tt.Ok P) {f : FuncId} {fn : Func} {c : Code} (hf : P.funcs[f]? = some fn) (hb : fn.body = some c) (hn : (fn.name == "runtime.NumGoroutine") = false) {args : List V} {fp : List Nat} {ow : List Own} {r : V} {upd : List (Nat × Own)}
    (hl : args.length ≤ fn.ntmps) (hk : ∀ p ∈ upd, p.1 ∈ fp) (h : ∀ F, agree fp ow F → allU F.length F → upds F.length upd ∧ EV P F.length c (bodyR tt fn.results.toList F.length r (app F upd)) ⟨fn.ntmps, number 0 args, F⟩) : Run P f args fp ow r upd := by
  refine ⟨enters_of hf hb hn, hk, fun F hF B w0 E0 E L0 L n tm a w vs R hargs => ?_⟩
  have hlen : L.length = F.length := R.len
  have hU : allU F.length F := fun o ho => by
    obtain ⟨k, hk, rfl⟩ := List.mem_iff_getElem.1 ho
    obtain ⟨l, hl⟩ := R.loc (List.getElem?_eq_getElem hk)
    rw [← hlen]
    exact own_under (R.owns k _ l (List.getElem?_eq_getElem hk) hl)
  refine (run_of_ev (fp := List.range (F.length + 1) ++ fp) (ow := F) ht hf hb hn hl (fun p hp => List.mem_append_right _ (hk p hp)) fun G hG => ?_).run F (fun _ _ => rfl) B w0 E0 E L0 L n tm a w vs R hargs
  have e : G = F := by
    have hall : ∀ k, k ≤ F.length → F[k]? = G[k]? := fun k hk' => hG k (List.mem_append_left _ (List.mem_range.2 (by omega)))
    have hle : G.length ≤ F.length := by
      have := hall F.length (Nat.le_refl _)
      rw [List.getElem?_eq_none (Nat.le_refl _)] at this
      exact List.getElem?_eq_none_iff.1 this.symm
    refine List.ext_getElem? fun k => ?_
    by_cases hk' : k ≤ F.length
    · exact (hall k hk').symm
    · rw [List.getElem?_eq_none (by omega), List.getElem?_eq_none (by omega)]
  subst e
  exact h G hF hU
theorem set_same {F : List Own} {i : Nat} {o : Own} (h : F[i]? = some o) : F.set i o = F := by
  refine List.ext_getElem? fun k => ?_
  by_cases e : i = k
  · subst e; rw [List.getElem?_set_self (get_lt h), h]
  · rw [List.getElem?_set_ne e]
def set2 (F : List Own) (i : Nat) (a : Own) (j : Nat) (b : Own) : List Own := (F.set i a).set j b
theorem set2_len (F : List Own) (i : Nat) (a : Own) (j : Nat) (b : Own) : (set2 F i a j b).length = F.length := by simp [set2]
theorem set2_i {F : List Own} {i j : Nat} {a b : Own} (hij : i ≠ j) (hi : i < F.length) : (set2 F i a j b)[i]? = some a := by
  unfold set2
  rw [List.getElem?_set_ne (Ne.symm hij), List.getElem?_set_self hi]
theorem set2_j {F : List Own} {i j : Nat} {a b : Own} (hj : j < F.length) : (set2 F i a j b)[j]? = some b := by
  unfold set2
  rw [List.getElem?_set_self (by simpa using hj)]
theorem set2_k {F : List Own} {i j k : Nat} {a b : Own} (hi : i ≠ k) (hj : j ≠ k) : (set2 F i a j b)[k]? = F[k]? := by
  unfold set2
  rw [List.getElem?_set_ne hj, List.getElem?_set_ne hi]
theorem set2_same {F : List Own} {i j : Nat} {a b : Own} (hi : F[i]? = some a) (hj : F[j]? = some b) : set2 F i a j b = F := by
  unfold set2
  rw [set_same hi, set_same hj]
theorem set2_set2 {F : List Own} {i j : Nat} (hij : i ≠ j) (a b c d : Own) : ((set2 F i a j b).set i c).set j d = set2 F i c j d := by
  unfold set2
  rw [List.set_comm (i := j) (j := i) _ _ (Ne.symm hij), List.set_set, List.set_set]
theorem set2_app {F l : List Own} {i j : Nat} (hi : i < F.length) (hj : j < F.length) (a b : Own) : ((F ++ l).set i a).set j b = set2 F i a j b ++ l := by
  unfold set2
  rw [List.set_append_left _ _ hi, List.set_append_left _ _ (by simpa using hj)]
theorem set2_under {n : Nat} {F : List Own} (h : allU n F) {i j : Nat} {a b : Own} (ha : ownUnder n a) (hb : ownUnder n b) : allU n (set2 F i a j b) := allU_set (allU_set h i ha) j hb
end Go.K
