/-
  What the translation knows of its types.
-/
import Derived.Test.YtbknblppjhfkmaaA0
namespace Go.Proofs.Try
open Go Go.Pm
theorem ag100 : aggT prog 100 = some false := by kernel_rfl
theorem ag2 : aggT prog 2 = some false := by kernel_rfl
theorem ag25 : aggT prog 25 = some false := by kernel_rfl
theorem ag28 : aggT prog 28 = some false := by kernel_rfl
theorem ag3 : aggT prog 3 = some false := by kernel_rfl
theorem ag30 : aggT prog 30 = some false := by kernel_rfl
theorem ag36 : aggT prog 36 = some true := by kernel_rfl
theorem ag37 : aggT prog 37 = some true := by kernel_rfl
theorem ag4 : aggT prog 4 = some false := by kernel_rfl
theorem ag41 : aggT prog 41 = some false := by kernel_rfl
theorem ag44 : aggT prog 44 = some false := by kernel_rfl
theorem ag49 : aggT prog 49 = some false := by kernel_rfl
theorem ag5 : aggT prog 5 = some false := by kernel_rfl
theorem ag51 : aggT prog 51 = some true := by kernel_rfl
theorem ag53 : aggT prog 53 = some true := by kernel_rfl
theorem ag57 : aggT prog 57 = some true := by kernel_rfl
theorem ag59 : aggT prog 59 = some true := by kernel_rfl
theorem ag63 : aggT prog 63 = some true := by kernel_rfl
theorem ag65 : aggT prog 65 = some true := by kernel_rfl
theorem ag69 : aggT prog 69 = some false := by kernel_rfl
theorem ag83 : aggT prog 83 = some false := by kernel_rfl
theorem by2 : bytesOf prog 2 = some 8 := by kernel_rfl
theorem by3 : bytesOf prog 3 = some 8 := by kernel_rfl
theorem by36 : bytesOf prog 36 = some 32 := by kernel_rfl
theorem by37 : bytesOf prog 37 = some 32 := by kernel_rfl
theorem by4 : bytesOf prog 4 = some 1 := by kernel_rfl
theorem by44 : bytesOf prog 44 = some 24 := by kernel_rfl
theorem by49 : bytesOf prog 49 = some 24 := by kernel_rfl
theorem by53 : bytesOf prog 53 = some 128 := by kernel_rfl
theorem el100 : elemOfSlice prog 100 = some 83 := by kernel_rfl
theorem el22 : elemOfSlice prog 22 = some 59 := by kernel_rfl
theorem el25 : elemOfSlice prog 25 = some 37 := by kernel_rfl
theorem el28 : elemOfSlice prog 28 = some 36 := by kernel_rfl
theorem el30 : elemOfSlice prog 30 = some 53 := by kernel_rfl
theorem el41 : elemOfSlice prog 41 = some 44 := by kernel_rfl
theorem el44 : elemOfSlice prog 44 = some 2 := by kernel_rfl
theorem el49 : elemOfSlice prog 49 = some 3 := by kernel_rfl
theorem el69 : elemOfSlice prog 69 = some 4 := by kernel_rfl
theorem el89 : elemOfSlice prog 89 = some 49 := by kernel_rfl
theorem fo36_0 : fieldOff prog 36 0 = some 0 := by kernel_rfl
theorem fo36_1 : fieldOff prog 36 1 = some 1 := by kernel_rfl
theorem fo36_2 : fieldOff prog 36 2 = some 2 := by kernel_rfl
theorem fo36_3 : fieldOff prog 36 3 = some 3 := by kernel_rfl
theorem fo37_0 : fieldOff prog 37 0 = some 0 := by kernel_rfl
theorem fo37_1 : fieldOff prog 37 1 = some 1 := by kernel_rfl
theorem fo37_2 : fieldOff prog 37 2 = some 2 := by kernel_rfl
theorem fo37_3 : fieldOff prog 37 3 = some 3 := by kernel_rfl
theorem fo51_0 : fieldOff prog 51 0 = some 0 := by kernel_rfl
theorem fo51_1 : fieldOff prog 51 1 = some 1 := by kernel_rfl
theorem fo51_2 : fieldOff prog 51 2 = some 2 := by kernel_rfl
theorem fo51_3 : fieldOff prog 51 3 = some 3 := by kernel_rfl
theorem fo51_4 : fieldOff prog 51 4 = some 4 := by kernel_rfl
theorem fo51_5 : fieldOff prog 51 5 = some 5 := by kernel_rfl
theorem fo51_6 : fieldOff prog 51 6 = some 6 := by kernel_rfl
theorem fo53_0 : fieldOff prog 53 0 = some 0 := by kernel_rfl
theorem fo53_1 : fieldOff prog 53 1 = some 1 := by kernel_rfl
theorem fo53_2 : fieldOff prog 53 2 = some 2 := by kernel_rfl
theorem fo53_3 : fieldOff prog 53 3 = some 3 := by kernel_rfl
theorem fo57_0 : fieldOff prog 57 0 = some 0 := by kernel_rfl
theorem fo57_1 : fieldOff prog 57 1 = some 1 := by kernel_rfl
theorem fo57_2 : fieldOff prog 57 2 = some 2 := by kernel_rfl
theorem fo57_3 : fieldOff prog 57 3 = some 3 := by kernel_rfl
theorem fo57_4 : fieldOff prog 57 4 = some 4 := by kernel_rfl
theorem fo57_5 : fieldOff prog 57 5 = some 5 := by kernel_rfl
theorem fo57_6 : fieldOff prog 57 6 = some 6 := by kernel_rfl
theorem fo59_0 : fieldOff prog 59 0 = some 0 := by kernel_rfl
theorem fo59_1 : fieldOff prog 59 1 = some 1 := by kernel_rfl
theorem fo59_2 : fieldOff prog 59 2 = some 2 := by kernel_rfl
theorem fo59_3 : fieldOff prog 59 3 = some 3 := by kernel_rfl
theorem fo63_2 : fieldOff prog 63 2 = some 2 := by kernel_rfl
theorem fo63_3 : fieldOff prog 63 3 = some 3 := by kernel_rfl
theorem fo65_0 : fieldOff prog 65 0 = some 0 := by kernel_rfl
theorem fo65_1 : fieldOff prog 65 1 = some 1 := by kernel_rfl
theorem fo65_2 : fieldOff prog 65 2 = some 2 := by kernel_rfl
theorem fo65_3 : fieldOff prog 65 3 = some 3 := by kernel_rfl
theorem fo95_0 : fieldOff prog 95 0 = some 0 := by kernel_rfl
theorem fo95_1 : fieldOff prog 95 1 = some 1 := by kernel_rfl
theorem fo97_0 : fieldOff prog 97 0 = some 0 := by kernel_rfl
theorem fo97_1 : fieldOff prog 97 1 = some 2 := by kernel_rfl
theorem fo97_2 : fieldOff prog 97 2 = some 12 := by kernel_rfl
theorem fo97_3 : fieldOff prog 97 3 = some 13 := by kernel_rfl
theorem pl36 : placesL prog 36 = some [(0, 1), (1, 1), (2, 1), (3, 1)] := by kernel_rfl
theorem pl37 : placesL prog 37 = some [(0, 1), (1, 1), (2, 1), (3, 1)] := by kernel_rfl
theorem pl51 : placesL prog 51 = some [(0, 1), (1, 1), (2, 1), (3, 1), (4, 1), (5, 1), (6, 1)] := by kernel_rfl
theorem pl53 : placesL prog 53 = some [(0, 1), (1, 1), (2, 1), (3, 7)] := by kernel_rfl
theorem pl63 : placesL prog 63 = some [(0, 1), (1, 1), (2, 1), (3, 1)] := by kernel_rfl
theorem pl65 : placesL prog 65 = some [(0, 1), (1, 1), (2, 1), (3, 1)] := by kernel_rfl
theorem pl95 : placesL prog 95 = some [(0, 1), (1, 1)] := by kernel_rfl
theorem pl97 : placesL prog 97 = some [(0, 2), (2, 10), (12, 1), (13, 1)] := by kernel_rfl
theorem sz100 : szOf prog 100 = some 1 := by kernel_rfl
theorem sz2 : szOf prog 2 = some 1 := by kernel_rfl
theorem sz25 : szOf prog 25 = some 1 := by kernel_rfl
theorem sz28 : szOf prog 28 = some 1 := by kernel_rfl
theorem sz3 : szOf prog 3 = some 1 := by kernel_rfl
theorem sz30 : szOf prog 30 = some 1 := by kernel_rfl
theorem sz36 : szOf prog 36 = some 4 := by kernel_rfl
theorem sz37 : szOf prog 37 = some 4 := by kernel_rfl
theorem sz4 : szOf prog 4 = some 1 := by kernel_rfl
theorem sz41 : szOf prog 41 = some 1 := by kernel_rfl
theorem sz44 : szOf prog 44 = some 1 := by kernel_rfl
theorem sz49 : szOf prog 49 = some 1 := by kernel_rfl
theorem sz5 : szOf prog 5 = some 1 := by kernel_rfl
theorem sz51 : szOf prog 51 = some 7 := by kernel_rfl
theorem sz53 : szOf prog 53 = some 10 := by kernel_rfl
theorem sz57 : szOf prog 57 = some 7 := by kernel_rfl
theorem sz59 : szOf prog 59 = some 10 := by kernel_rfl
theorem sz63 : szOf prog 63 = some 4 := by kernel_rfl
theorem sz65 : szOf prog 65 = some 4 := by kernel_rfl
theorem sz69 : szOf prog 69 = some 1 := by kernel_rfl
theorem sz83 : szOf prog 83 = some 1 := by kernel_rfl
theorem un100 : prog.underlying 100 = some (TypeDesc.slice 83) := by kernel_rfl
theorem un2 : prog.underlying 2 = some (TypeDesc.int IntKind.i64) := by kernel_rfl
theorem un22 : prog.underlying 22 = some (TypeDesc.slice 59) := by kernel_rfl
theorem un25 : prog.underlying 25 = some (TypeDesc.slice 37) := by kernel_rfl
theorem un28 : prog.underlying 28 = some (TypeDesc.slice 36) := by kernel_rfl
theorem un3 : prog.underlying 3 = some (TypeDesc.int IntKind.i64) := by kernel_rfl
theorem un30 : prog.underlying 30 = some (TypeDesc.slice 53) := by kernel_rfl
theorem un4 : prog.underlying 4 = some TypeDesc.bool := by kernel_rfl
theorem un41 : prog.underlying 41 = some (TypeDesc.slice 44) := by kernel_rfl
theorem un42 : prog.underlying 42 = some (TypeDesc.int IntKind.u16) := by kernel_rfl
theorem un44 : prog.underlying 44 = some (TypeDesc.slice 2) := by kernel_rfl
theorem un49 : prog.underlying 49 = some (TypeDesc.slice 3) := by kernel_rfl
theorem un5 : prog.underlying 5 = some (TypeDesc.int IntKind.u8) := by kernel_rfl
theorem un57 : prog.underlying 57 = some (TypeDesc.struct { toList := [{ name := "Kind", type := 3, offset := 0, embedded := false, tag := "", pkgPath := "", byteOffset := 0 }, { name := "Buffer", type := 3, offset := 1, embedded := false, tag := "", pkgPath := "", byteOffset := 8 }, { name := "Base", type := 3, offset := 2, embedded := false, tag := "", pkgPath := "", byteOffset := 16 }, { name := "Strides", type := 49, offset := 3, embedded := false, tag := "", pkgPath := "", byteOffset := 24 }, { name := "Start", type := 3, offset := 4, embedded := false, tag := "", pkgPath := "", byteOffset := 48 }, { name := "Step", type := 3, offset := 5, embedded := false, tag := "", pkgPath := "", byteOffset := 56 }, { name := "Mod", type := 3, offset := 6, embedded := false, tag := "", pkgPath := "", byteOffset := 64 }] }) := by kernel_rfl
theorem un59 : prog.underlying 59 = some (TypeDesc.struct { toList := [{ name := "Dims", type := 49, offset := 0, embedded := false, tag := "", pkgPath := "", byteOffset := 0 }, { name := "Write", type := 3, offset := 1, embedded := false, tag := "", pkgPath := "", byteOffset := 24 }, { name := "Steps", type := 49, offset := 2, embedded := false, tag := "", pkgPath := "", byteOffset := 32 }, { name := "Read", type := 57, offset := 3, embedded := false, tag := "", pkgPath := "", byteOffset := 56 }] }) := by kernel_rfl
theorem un69 : prog.underlying 69 = some (TypeDesc.slice 4) := by kernel_rfl
theorem un89 : prog.underlying 89 = some (TypeDesc.slice 49) := by kernel_rfl
theorem ze2 : zeroOf prog 2 = some (Dat.raw (Value.int IntKind.i64 (0))) := by kernel_rfl
theorem ze25 : zeroOf prog 25 = some (Dat.lst []) := by kernel_rfl
theorem ze28 : zeroOf prog 28 = some (Dat.lst []) := by kernel_rfl
theorem ze3 : zeroOf prog 3 = some (Dat.raw (Value.int IntKind.i64 (0))) := by kernel_rfl
theorem ze36 : zeroOf prog 36 = some (Dat.agg [Dat.raw (Value.int IntKind.i64 (0)), Dat.raw (Value.bool false), Dat.raw (Value.int IntKind.i64 (0)), Dat.raw (Value.int IntKind.i64 (0))]) := by kernel_rfl
theorem ze37 : zeroOf prog 37 = some (Dat.agg [Dat.raw (Value.int IntKind.i64 (0)), Dat.raw (Value.bool false), Dat.raw (Value.int IntKind.i64 (0)), Dat.raw (Value.int IntKind.i64 (0))]) := by kernel_rfl
theorem ze4 : zeroOf prog 4 = some (Dat.raw (Value.bool false)) := by kernel_rfl
theorem ze44 : zeroOf prog 44 = some (Dat.lst []) := by kernel_rfl
theorem ze51 : zeroOf prog 51 = some (Dat.agg [Dat.raw (Value.int IntKind.i64 (0)), Dat.raw (Value.int IntKind.i64 (0)), Dat.raw (Value.int IntKind.i64 (0)), Dat.lst [], Dat.raw (Value.int IntKind.i64 (0)), Dat.raw (Value.int IntKind.i64 (0)), Dat.raw (Value.int IntKind.i64 (0))]) := by kernel_rfl
theorem ze53 : zeroOf prog 53 = some (Dat.agg [Dat.lst [], Dat.raw (Value.int IntKind.i64 (0)), Dat.lst [], Dat.raw (Value.int IntKind.i64 (0)), Dat.raw (Value.int IntKind.i64 (0)), Dat.raw (Value.int IntKind.i64 (0)), Dat.lst [], Dat.raw (Value.int IntKind.i64 (0)), Dat.raw (Value.int IntKind.i64 (0)), Dat.raw (Value.int IntKind.i64 (0))]) := by kernel_rfl
theorem ze63 : zeroOf prog 63 = some (Dat.agg [Dat.raw (Value.int IntKind.i64 (0)), Dat.raw (Value.int IntKind.i64 (0)), Dat.raw (Value.int IntKind.i64 (0)), Dat.raw (Value.int IntKind.i64 (0))]) := by kernel_rfl
theorem ze65 : zeroOf prog 65 = some (Dat.agg [Dat.raw (Value.int IntKind.i64 (0)), Dat.raw (Value.int IntKind.i64 (0)), Dat.raw (Value.int IntKind.i64 (0)), Dat.raw (Value.int IntKind.i64 (0))]) := by kernel_rfl
theorem ze69 : zeroOf prog 69 = some (Dat.lst []) := by kernel_rfl
theorem ze95 : zeroOf prog 95 = some (Dat.agg [Dat.lst [], Dat.lst []]) := by kernel_rfl
theorem ze97 : zeroOf prog 97 = some (Dat.agg [Dat.lst [], Dat.lst [], Dat.lst [], Dat.raw (Value.int IntKind.i64 (0)), Dat.lst [], Dat.raw (Value.int IntKind.i64 (0)), Dat.raw (Value.int IntKind.i64 (0)), Dat.raw (Value.int IntKind.i64 (0)), Dat.lst [], Dat.raw (Value.int IntKind.i64 (0)), Dat.raw (Value.int IntKind.i64 (0)), Dat.raw (Value.int IntKind.i64 (0)), Dat.raw (Value.int IntKind.i64 (0)), Dat.raw (Value.int IntKind.i64 (0))]) := by kernel_rfl
theorem zi2 : (zeroOf prog 2).isSome = true := by kernel_rfl
theorem zi3 : (zeroOf prog 3).isSome = true := by kernel_rfl
theorem zi36 : (zeroOf prog 36).isSome = true := by kernel_rfl
theorem zi37 : (zeroOf prog 37).isSome = true := by kernel_rfl
theorem zi44 : (zeroOf prog 44).isSome = true := by kernel_rfl
theorem zi49 : (zeroOf prog 49).isSome = true := by kernel_rfl
theorem zi53 : (zeroOf prog 53).isSome = true := by kernel_rfl
theorem zi83 : (zeroOf prog 83).isSome = true := by kernel_rfl
theorem zn2 : (zeroOf prog 2).map Dat.num = some 1 := by kernel_rfl
theorem zn3 : (zeroOf prog 3).map Dat.num = some 1 := by kernel_rfl
theorem zn36 : (zeroOf prog 36).map Dat.num = some 4 := by kernel_rfl
theorem zn37 : (zeroOf prog 37).map Dat.num = some 4 := by kernel_rfl
theorem zn44 : (zeroOf prog 44).map Dat.num = some 1 := by kernel_rfl
theorem zn49 : (zeroOf prog 49).map Dat.num = some 1 := by kernel_rfl
theorem zn53 : (zeroOf prog 53).map Dat.num = some 10 := by kernel_rfl
end Go.Proofs.Try
