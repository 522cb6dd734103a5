/-
  What the types of the seat's program say: closed facts, each told by the kernel.
-/
import Derived.Test.YtoanhpaipfgnfaaDsZ
import Derived.Test.YtoanhpaipfgnfaaProg
import Derived.KernelRfl
set_option linter.unusedVariables false
set_option linter.unusedSimpArgs false
namespace Go.Ds
open Go.Proofs
theorem tA3 : aggP Try.prog 3 = some false := by kernel_rfl
theorem tS3 : sizeP Try.prog 3 = some 1 := by kernel_rfl
theorem tA4 : aggP Try.prog 4 = some false := by kernel_rfl
theorem tS4 : sizeP Try.prog 4 = some 1 := by kernel_rfl
theorem tA5 : aggP Try.prog 5 = some false := by kernel_rfl
theorem tS5 : sizeP Try.prog 5 = some 1 := by kernel_rfl
theorem tA22 : aggP Try.prog 22 = some false := by kernel_rfl
theorem tS22 : sizeP Try.prog 22 = some 1 := by kernel_rfl
theorem tE22 : sliceSz Try.prog 22 = some 2 := by kernel_rfl
theorem tP22 : appOk Try.prog 22 = some (2, 2) := by kernel_rfl
theorem tN22 : notIntT Try.prog 22 = true := by kernel_rfl
theorem tF22 : ((sliceElem Try.prog 22).bind (zeroP Try.prog)).any flat1 = true := by kernel_rfl
theorem tA25 : aggP Try.prog 25 = some false := by kernel_rfl
theorem tS25 : sizeP Try.prog 25 = some 1 := by kernel_rfl
theorem tE25 : sliceSz Try.prog 25 = some 2 := by kernel_rfl
theorem tP25 : appOk Try.prog 25 = some (2, 16) := by kernel_rfl
theorem tN25 : notIntT Try.prog 25 = true := by kernel_rfl
theorem tF25 : ((sliceElem Try.prog 25).bind (zeroP Try.prog)).any flat1 = true := by kernel_rfl
theorem tA27 : aggP Try.prog 27 = some true := by kernel_rfl
theorem tS27 : sizeP Try.prog 27 = some 2 := by kernel_rfl
theorem tA29 : aggP Try.prog 29 = some false := by kernel_rfl
theorem tS29 : sizeP Try.prog 29 = some 1 := by kernel_rfl
theorem tE29 : sliceSz Try.prog 29 = some 1 := by kernel_rfl
theorem tP29 : appOk Try.prog 29 = some (1, 8) := by kernel_rfl
theorem tN29 : notIntT Try.prog 29 = true := by kernel_rfl
theorem tF29 : ((sliceElem Try.prog 29).bind (zeroP Try.prog)).any flat1 = true := by kernel_rfl
theorem tA30 : aggP Try.prog 30 = some false := by kernel_rfl
theorem tS30 : sizeP Try.prog 30 = some 1 := by kernel_rfl
theorem tA33 : aggP Try.prog 33 = some false := by kernel_rfl
theorem tS33 : sizeP Try.prog 33 = some 1 := by kernel_rfl
theorem tE33 : sliceSz Try.prog 33 = some 1 := by kernel_rfl
theorem tP33 : appOk Try.prog 33 = some (1, 24) := by kernel_rfl
theorem tN33 : notIntT Try.prog 33 = true := by kernel_rfl
theorem tF33 : ((sliceElem Try.prog 33).bind (zeroP Try.prog)).any flat1 = true := by kernel_rfl
theorem tA35 : aggP Try.prog 35 = some false := by kernel_rfl
theorem tS35 : sizeP Try.prog 35 = some 1 := by kernel_rfl
theorem tE35 : sliceSz Try.prog 35 = some 2 := by kernel_rfl
theorem tP35 : appOk Try.prog 35 = some (2, 16) := by kernel_rfl
theorem tN35 : notIntT Try.prog 35 = true := by kernel_rfl
theorem tF35 : ((sliceElem Try.prog 35).bind (zeroP Try.prog)).any flat1 = true := by kernel_rfl
theorem tA48 : aggP Try.prog 48 = some true := by kernel_rfl
theorem tS48 : sizeP Try.prog 48 = some 2 := by kernel_rfl
theorem tA60 : aggP Try.prog 60 = some true := by kernel_rfl
theorem tS60 : sizeP Try.prog 60 = some 2 := by kernel_rfl
theorem tA64 : aggP Try.prog 64 = some true := by kernel_rfl
theorem tS64 : sizeP Try.prog 64 = some 2 := by kernel_rfl
theorem tA69 : aggP Try.prog 69 = some false := by kernel_rfl
theorem tS69 : sizeP Try.prog 69 = some 1 := by kernel_rfl
theorem tE69 : sliceSz Try.prog 69 = some 1 := by kernel_rfl
theorem tP69 : appOk Try.prog 69 = some (1, 1) := by kernel_rfl
theorem tN69 : notIntT Try.prog 69 = true := by kernel_rfl
theorem tF69 : ((sliceElem Try.prog 69).bind (zeroP Try.prog)).any flat1 = true := by kernel_rfl
theorem tA71 : aggP Try.prog 71 = some false := by kernel_rfl
theorem tS71 : sizeP Try.prog 71 = some 1 := by kernel_rfl
theorem tE71 : sliceSz Try.prog 71 = some 1 := by kernel_rfl
theorem tP71 : appOk Try.prog 71 = some (1, 24) := by kernel_rfl
theorem tN71 : notIntT Try.prog 71 = true := by kernel_rfl
theorem tF71 : ((sliceElem Try.prog 71).bind (zeroP Try.prog)).any flat1 = true := by kernel_rfl
theorem tO27_0 : fldOff Try.prog 27 0 = some 0 := by kernel_rfl
theorem tO27_1 : fldOff Try.prog 27 1 = some 1 := by kernel_rfl
theorem tO48_0 : fldOff Try.prog 48 0 = some 0 := by kernel_rfl
theorem tO48_1 : fldOff Try.prog 48 1 = some 1 := by kernel_rfl
theorem tO60_0 : fldOff Try.prog 60 0 = some 0 := by kernel_rfl
theorem tO60_1 : fldOff Try.prog 60 1 = some 1 := by kernel_rfl
theorem tO64_0 : fldOff Try.prog 64 0 = some 0 := by kernel_rfl
theorem tO64_1 : fldOff Try.prog 64 1 = some 1 := by kernel_rfl
theorem tZ3 : zeroP Try.prog 3 = some (.int .i64 0) := by kernel_rfl
theorem tZ4 : zeroP Try.prog 4 = some (.bool false) := by kernel_rfl
theorem tZ27 : zeroP Try.prog 27 = some (.agg #[.int .i64 0, .slice none 0 0]) := by kernel_rfl
theorem tZ29 : zeroP Try.prog 29 = some (.slice none 0 0) := by kernel_rfl
theorem tZ48 : zeroP Try.prog 48 = some (.agg #[.int .i64 0, .int .i64 0]) := by kernel_rfl
theorem tZ33 : zeroP Try.prog 33 = some (.slice none 0 0) := by kernel_rfl
theorem tM29 : mkOk Try.prog 29 = some (8, .int .i64 0) := by kernel_rfl
theorem tM33 : mkOk Try.prog 33 = some (24, .slice none 0 0) := by kernel_rfl
theorem tM69 : mkOk Try.prog 69 = some (1, .bool false) := by kernel_rfl
theorem tM71 : mkOk Try.prog 71 = some (24, .slice none 0 0) := by kernel_rfl
theorem hmix : Try.prog.follows .mixedOrders = true := by kernel_rfl
theorem tC5_3 (n : Int) : convV Try.prog 5 3 (.int .u8 n) = some (.int .i64 (IntKind.i64.wrap n)) := by kernel_rfl
theorem tC3_85 (n : Int) : convV Try.prog 3 85 (.int .i64 n) = some (.int .u64 (IntKind.u64.wrap n)) := by kernel_rfl
theorem tC85_3 (n : Int) : convV Try.prog 85 3 (.int .u64 n) = some (.int .i64 (IntKind.i64.wrap n)) := by kernel_rfl
theorem tB27 (a : Int) : builtV Try.prog 27 [(0, .int .i64 a)] = some (.agg #[.int .i64 a, .slice none 0 0]) := by kernel_rfl
theorem tB48 (a b : Int) : builtV Try.prog 48 [(0, .int .i64 a), (1, .int .i64 b)] = some (.agg #[.int .i64 a, .int .i64 b]) := by kernel_rfl
theorem tB64 (a b : Int) : builtV Try.prog 64 [(0, .int .i64 a), (1, .int .i64 b)] = some (.agg #[.int .i64 a, .int .i64 b]) := by kernel_rfl
theorem tR3 (l : List Value) (H : Heap) : resultsD Try.prog Try.f3 l H = some (get l 6) := rfl
theorem tR4 (l : List Value) (H : Heap) : resultsD Try.prog Try.f4 l H = some (get l 4) := rfl
theorem tR5 (l : List Value) (H : Heap) : resultsD Try.prog Try.f5 l H = some (get l 4) := rfl
theorem tR6 (l : List Value) (H : Heap) : resultsD Try.prog Try.f6 l H = some (get l 6) := rfl
theorem tR7 (l : List Value) (H : Heap) : resultsD Try.prog Try.f7 l H = some (get l 2) := rfl
theorem tR8 (l : List Value) (H : Heap) : resultsD Try.prog Try.f8 l H = some (get l 4) := rfl
theorem tR9 (l : List Value) (H : Heap) : resultsD Try.prog Try.f9 l H = some (get l 4) := rfl
theorem tR10 (l : List Value) (H : Heap) : resultsD Try.prog Try.f10 l H = some (get l 4) := rfl
theorem tR11 (l : List Value) (H : Heap) : resultsD Try.prog Try.f11 l H = some (get l 4) := rfl
theorem tR12 (l : List Value) (H : Heap) : resultsD Try.prog Try.f12 l H = some (get l 0) := rfl
theorem tR13 (l : List Value) (H : Heap) : resultsD Try.prog Try.f13 l H = ldW (aggP Try.prog 27) (sizeP Try.prog 27) H (get l 4) := by
  show (Option.bind (Option.bind (loadD Try.prog H 27 (get l 4)) fun v => some [v]) fun vs => _) = _
  rw [loadD_eq]
  cases ldW _ _ H (get l 4) <;> rfl
theorem tR14 (l : List Value) (H : Heap) : resultsD Try.prog Try.f14 l H = if (noTuple (get l 6) && (noTuple (get l 7) && (noTuple (get l 8) && true))) = true then some (.tuple #[get l 6, get l 7, get l 8]) else none := rfl
theorem tR15 (l : List Value) (H : Heap) : resultsD Try.prog Try.f15 l H = some (get l 4) := rfl
theorem tR16 (l : List Value) (H : Heap) : resultsD Try.prog Try.f16 l H = some (get l 2) := rfl
theorem tR17 (l : List Value) (H : Heap) : resultsD Try.prog Try.f17 l H = some (get l 4) := rfl
theorem tR18 (l : List Value) (H : Heap) : resultsD Try.prog Try.f18 l H = some (get l 8) := rfl
theorem tR19 (l : List Value) (H : Heap) : resultsD Try.prog Try.f19 l H = if (noTuple (get l 2) && (noTuple (get l 3) && (noTuple (get l 4) && true))) = true then some (.tuple #[get l 2, get l 3, get l 4]) else none := rfl
theorem tR20 (l : List Value) (H : Heap) : resultsD Try.prog Try.f20 l H = some (get l 4) := rfl
theorem tR21 (l : List Value) (H : Heap) : resultsD Try.prog Try.f21 l H = if (noTuple (get l 2) && (noTuple (get l 3) && true)) = true then some (.tuple #[get l 2, get l 3]) else none := rfl
theorem tR22 (l : List Value) (H : Heap) : resultsD Try.prog Try.f22 l H = if (noTuple (get l 2) && (noTuple (get l 3) && true)) = true then some (.tuple #[get l 2, get l 3]) else none := rfl
theorem tR23 (l : List Value) (H : Heap) : resultsD Try.prog Try.f23 l H = some (get l 4) := rfl
theorem tR24 (l : List Value) (H : Heap) : resultsD Try.prog Try.f24 l H = some (get l 4) := rfl
theorem tR25 (l : List Value) (H : Heap) : resultsD Try.prog Try.f25 l H = if (noTuple (get l 4) && (noTuple (get l 5) && true)) = true then some (.tuple #[get l 4, get l 5]) else none := rfl
theorem tR26 (l : List Value) (H : Heap) : resultsD Try.prog Try.f26 l H = if (noTuple (get l 4) && (noTuple (get l 5) && true)) = true then some (.tuple #[get l 4, get l 5]) else none := rfl
theorem tR29 (l : List Value) (H : Heap) : resultsD Try.prog Try.f29 l H = if (noTuple (get l 2) && (noTuple (get l 3) && true)) = true then some (.tuple #[get l 2, get l 3]) else none := rfl
theorem tR30 (l : List Value) (H : Heap) : resultsD Try.prog Try.f30 l H = some (get l 4) := rfl
theorem tR31 (l : List Value) (H : Heap) : resultsD Try.prog Try.f31 l H = some (get l 4) := rfl
theorem tR32 (l : List Value) (H : Heap) : resultsD Try.prog Try.f32 l H = if (noTuple (get l 2) && (noTuple (get l 3) && true)) = true then some (.tuple #[get l 2, get l 3]) else none := rfl
theorem tR34 (l : List Value) (H : Heap) : resultsD Try.prog Try.f34 l H = some (get l 2) := rfl
theorem tR35 (l : List Value) (H : Heap) : resultsD Try.prog Try.f35 l H = some (get l 2) := rfl
theorem tR36 (l : List Value) (H : Heap) : resultsD Try.prog Try.f36 l H = ldW (aggP Try.prog 27) (sizeP Try.prog 27) H (get l 4) := by
  show (Option.bind (Option.bind (loadD Try.prog H 27 (get l 4)) fun v => some [v]) fun vs => _) = _
  rw [loadD_eq]
  cases ldW _ _ H (get l 4) <;> rfl
theorem tR37 (l : List Value) (H : Heap) : resultsD Try.prog Try.f37 l H = some (get l 4) := rfl
theorem tR38 (l : List Value) (H : Heap) : resultsD Try.prog Try.f38 l H = if (noTuple (get l 8) && (noTuple (get l 9) && true)) = true then some (.tuple #[get l 8, get l 9]) else none := rfl
theorem tR39 (l : List Value) (H : Heap) : resultsD Try.prog Try.f39 l H = some (get l 4) := rfl
theorem tR40 (l : List Value) (H : Heap) : resultsD Try.prog Try.f40 l H = some (get l 4) := rfl
theorem tR41 (l : List Value) (H : Heap) : resultsD Try.prog Try.f41 l H = some (get l 4) := rfl
theorem tR42 (l : List Value) (H : Heap) : resultsD Try.prog Try.f42 l H = some (get l 6) := rfl
theorem tR43 (l : List Value) (H : Heap) : resultsD Try.prog Try.f43 l H = some (get l 2) := rfl
theorem tR44 (l : List Value) (H : Heap) : resultsD Try.prog Try.f44 l H = ldW (aggP Try.prog 27) (sizeP Try.prog 27) H (get l 2) := by
  show (Option.bind (Option.bind (loadD Try.prog H 27 (get l 2)) fun v => some [v]) fun vs => _) = _
  rw [loadD_eq]
  cases ldW _ _ H (get l 2) <;> rfl
theorem tR45 (l : List Value) (H : Heap) : resultsD Try.prog Try.f45 l H = if (noTuple (get l 2) && (noTuple (get l 3) && true)) = true then some (.tuple #[get l 2, get l 3]) else none := rfl
theorem tR46 (l : List Value) (H : Heap) : resultsD Try.prog Try.f46 l H = ldW (aggP Try.prog 27) (sizeP Try.prog 27) H (get l 4) := by
  show (Option.bind (Option.bind (loadD Try.prog H 27 (get l 4)) fun v => some [v]) fun vs => _) = _
  rw [loadD_eq]
  cases ldW _ _ H (get l 4) <;> rfl
theorem tR47 (l : List Value) (H : Heap) : resultsD Try.prog Try.f47 l H = some (get l 4) := rfl
theorem tR48 (l : List Value) (H : Heap) : resultsD Try.prog Try.f48 l H = some (get l 4) := rfl
theorem tR49 (l : List Value) (H : Heap) : resultsD Try.prog Try.f49 l H = some (get l 3) := rfl
theorem tR50 (l : List Value) (H : Heap) : resultsD Try.prog Try.f50 l H = some (.tuple #[]) := rfl
theorem tR51 (l : List Value) (H : Heap) : resultsD Try.prog Try.f51 l H = some (get l 4) := rfl
theorem tR52 (l : List Value) (H : Heap) : resultsD Try.prog Try.f52 l H = some (.tuple #[]) := rfl
theorem tR53 (l : List Value) (H : Heap) : resultsD Try.prog Try.f53 l H = some (get l 4) := rfl
theorem tR54 (l : List Value) (H : Heap) : resultsD Try.prog Try.f54 l H = some (get l 2) := rfl
theorem tR55 (l : List Value) (H : Heap) : resultsD Try.prog Try.f55 l H = some (get l 4) := rfl
theorem tR56 (l : List Value) (H : Heap) : resultsD Try.prog Try.f56 l H = if (noTuple (get l 4) && (noTuple (get l 5) && true)) = true then some (.tuple #[get l 4, get l 5]) else none := rfl
theorem tR57 (l : List Value) (H : Heap) : resultsD Try.prog Try.f57 l H = some (.tuple #[]) := rfl
theorem tR58 (l : List Value) (H : Heap) : resultsD Try.prog Try.f58 l H = some (get l 2) := rfl
theorem tR59 (l : List Value) (H : Heap) : resultsD Try.prog Try.f59 l H = if (noTuple (get l 4) && (noTuple (get l 5) && true)) = true then some (.tuple #[get l 4, get l 5]) else none := rfl
theorem tR60 (l : List Value) (H : Heap) : resultsD Try.prog Try.f60 l H = if (noTuple (get l 4) && (noTuple (get l 5) && true)) = true then some (.tuple #[get l 4, get l 5]) else none := rfl
theorem tR61 (l : List Value) (H : Heap) : resultsD Try.prog Try.f61 l H = some (.tuple #[]) := rfl
theorem tR62 (l : List Value) (H : Heap) : resultsD Try.prog Try.f62 l H = some (.tuple #[]) := rfl
theorem tR63 (l : List Value) (H : Heap) : resultsD Try.prog Try.f63 l H = some (.tuple #[]) := rfl
theorem tR64 (l : List Value) (H : Heap) : resultsD Try.prog Try.f64 l H = if (noTuple (get l 8) && (noTuple (get l 9) && true)) = true then some (.tuple #[get l 8, get l 9]) else none := rfl
theorem tR65 (l : List Value) (H : Heap) : resultsD Try.prog Try.f65 l H = some (.tuple #[]) := rfl
theorem tR66 (l : List Value) (H : Heap) : resultsD Try.prog Try.f66 l H = some (get l 8) := rfl
theorem tR67 (l : List Value) (H : Heap) : resultsD Try.prog Try.f67 l H = some (get l 10) := rfl
theorem tR68 (l : List Value) (H : Heap) : resultsD Try.prog Try.f68 l H = if (noTuple (get l 10) && (noTuple (get l 11) && true)) = true then some (.tuple #[get l 10, get l 11]) else none := rfl
theorem tR69 (l : List Value) (H : Heap) : resultsD Try.prog Try.f69 l H = some (get l 2) := rfl
theorem tR70 (l : List Value) (H : Heap) : resultsD Try.prog Try.f70 l H = some (get l 2) := rfl
theorem tR71 (l : List Value) (H : Heap) : resultsD Try.prog Try.f71 l H = some (.tuple #[]) := rfl
theorem tR72 (l : List Value) (H : Heap) : resultsD Try.prog Try.f72 l H = some (get l 2) := rfl
theorem tR73 (l : List Value) (H : Heap) : resultsD Try.prog Try.f73 l H = some (get l 2) := rfl
theorem tR74 (l : List Value) (H : Heap) : resultsD Try.prog Try.f74 l H = some (get l 8) := rfl
theorem tR75 (l : List Value) (H : Heap) : resultsD Try.prog Try.f75 l H = some (get l 12) := rfl
theorem tR76 (l : List Value) (H : Heap) : resultsD Try.prog Try.f76 l H = if (noTuple (get l 10) && (noTuple (get l 11) && true)) = true then some (.tuple #[get l 10, get l 11]) else none := rfl
theorem TS :
    (∀ (n : Int), convV Try.prog 5 3 (.int .u8 n) = some (.int .i64 (IntKind.i64.wrap n))) ∧
    (∀ (n : Int), convV Try.prog 3 85 (.int .i64 n) = some (.int .u64 (IntKind.u64.wrap n))) ∧
    (∀ (n : Int), convV Try.prog 85 3 (.int .u64 n) = some (.int .i64 (IntKind.i64.wrap n))) ∧
    (∀ (a : Int), builtV Try.prog 27 [(0, .int .i64 a)] = some (.agg #[.int .i64 a, .slice none 0 0])) ∧
    (∀ (a b : Int), builtV Try.prog 48 [(0, .int .i64 a), (1, .int .i64 b)] = some (.agg #[.int .i64 a, .int .i64 b])) ∧
    (∀ (a b : Int), builtV Try.prog 64 [(0, .int .i64 a), (1, .int .i64 b)] = some (.agg #[.int .i64 a, .int .i64 b])) ∧
    (aggP Try.prog 3 = some false) ∧
    (sizeP Try.prog 3 = some 1) ∧
    (aggP Try.prog 4 = some false) ∧
    (sizeP Try.prog 4 = some 1) ∧
    (aggP Try.prog 5 = some false) ∧
    (sizeP Try.prog 5 = some 1) ∧
    (aggP Try.prog 22 = some false) ∧
    (sizeP Try.prog 22 = some 1) ∧
    (sliceSz Try.prog 22 = some 2) ∧
    (notIntT Try.prog 22 = true) ∧
    (aggP Try.prog 25 = some false) ∧
    (sizeP Try.prog 25 = some 1) ∧
    (sliceSz Try.prog 25 = some 2) ∧
    (notIntT Try.prog 25 = true) ∧
    (aggP Try.prog 27 = some true) ∧
    (sizeP Try.prog 27 = some 2) ∧
    (aggP Try.prog 29 = some false) ∧
    (sizeP Try.prog 29 = some 1) ∧
    (sliceSz Try.prog 29 = some 1) ∧
    (notIntT Try.prog 29 = true) ∧
    (aggP Try.prog 30 = some false) ∧
    (sizeP Try.prog 30 = some 1) ∧
    (aggP Try.prog 33 = some false) ∧
    (sizeP Try.prog 33 = some 1) ∧
    (sliceSz Try.prog 33 = some 1) ∧
    (notIntT Try.prog 33 = true) ∧
    (aggP Try.prog 35 = some false) ∧
    (sizeP Try.prog 35 = some 1) ∧
    (sliceSz Try.prog 35 = some 2) ∧
    (notIntT Try.prog 35 = true) ∧
    (aggP Try.prog 48 = some true) ∧
    (sizeP Try.prog 48 = some 2) ∧
    (aggP Try.prog 60 = some true) ∧
    (sizeP Try.prog 60 = some 2) ∧
    (aggP Try.prog 64 = some true) ∧
    (sizeP Try.prog 64 = some 2) ∧
    (aggP Try.prog 69 = some false) ∧
    (sizeP Try.prog 69 = some 1) ∧
    (sliceSz Try.prog 69 = some 1) ∧
    (notIntT Try.prog 69 = true) ∧
    (aggP Try.prog 71 = some false) ∧
    (sizeP Try.prog 71 = some 1) ∧
    (sliceSz Try.prog 71 = some 1) ∧
    (notIntT Try.prog 71 = true) ∧
    (fldOff Try.prog 27 0 = some 0) ∧
    (fldOff Try.prog 27 1 = some 1) ∧
    (fldOff Try.prog 48 0 = some 0) ∧
    (fldOff Try.prog 48 1 = some 1) ∧
    (fldOff Try.prog 60 0 = some 0) ∧
    (fldOff Try.prog 60 1 = some 1) ∧
    (fldOff Try.prog 64 0 = some 0) ∧
    (fldOff Try.prog 64 1 = some 1) ∧
    (zeroP Try.prog 3 = some (.int .i64 0)) ∧
    (zeroP Try.prog 4 = some (.bool false)) ∧
    (zeroP Try.prog 27 = some (.agg #[.int .i64 0, .slice none 0 0])) ∧
    (zeroP Try.prog 29 = some (.slice none 0 0)) ∧
    (zeroP Try.prog 48 = some (.agg #[.int .i64 0, .int .i64 0])) ∧
    (zeroP Try.prog 33 = some (.slice none 0 0)) :=
  ⟨@tC5_3, @tC3_85, @tC85_3, @tB27, @tB48, @tB64, @tA3, @tS3, @tA4, @tS4, @tA5, @tS5, @tA22, @tS22, @tE22, @tN22, @tA25, @tS25, @tE25, @tN25, @tA27, @tS27, @tA29, @tS29, @tE29, @tN29, @tA30, @tS30, @tA33, @tS33, @tE33, @tN33, @tA35, @tS35, @tE35, @tN35, @tA48, @tS48, @tA60, @tS60, @tA64, @tS64, @tA69, @tS69, @tE69, @tN69, @tA71, @tS71, @tE71, @tN71, @tO27_0, @tO27_1, @tO48_0, @tO48_1, @tO60_0, @tO60_1, @tO64_0, @tO64_1, @tZ3, @tZ4, @tZ27, @tZ29, @tZ48, @tZ33⟩
theorem TR :
    (∀ (l : List Value) (H : Heap), resultsD Try.prog Try.f3 l H = some (get l 6)) ∧
    (∀ (l : List Value) (H : Heap), resultsD Try.prog Try.f4 l H = some (get l 4)) ∧
    (∀ (l : List Value) (H : Heap), resultsD Try.prog Try.f5 l H = some (get l 4)) ∧
    (∀ (l : List Value) (H : Heap), resultsD Try.prog Try.f6 l H = some (get l 6)) ∧
    (∀ (l : List Value) (H : Heap), resultsD Try.prog Try.f7 l H = some (get l 2)) ∧
    (∀ (l : List Value) (H : Heap), resultsD Try.prog Try.f8 l H = some (get l 4)) ∧
    (∀ (l : List Value) (H : Heap), resultsD Try.prog Try.f9 l H = some (get l 4)) ∧
    (∀ (l : List Value) (H : Heap), resultsD Try.prog Try.f10 l H = some (get l 4)) ∧
    (∀ (l : List Value) (H : Heap), resultsD Try.prog Try.f11 l H = some (get l 4)) ∧
    (∀ (l : List Value) (H : Heap), resultsD Try.prog Try.f12 l H = some (get l 0)) ∧
    (∀ (l : List Value) (H : Heap), resultsD Try.prog Try.f13 l H = ldW (aggP Try.prog 27) (sizeP Try.prog 27) H (get l 4)) ∧
    (∀ (l : List Value) (H : Heap), resultsD Try.prog Try.f14 l H = if (noTuple (get l 6) && (noTuple (get l 7) && (noTuple (get l 8) && true))) = true then some (.tuple #[get l 6, get l 7, get l 8]) else none) ∧
    (∀ (l : List Value) (H : Heap), resultsD Try.prog Try.f15 l H = some (get l 4)) ∧
    (∀ (l : List Value) (H : Heap), resultsD Try.prog Try.f16 l H = some (get l 2)) ∧
    (∀ (l : List Value) (H : Heap), resultsD Try.prog Try.f17 l H = some (get l 4)) ∧
    (∀ (l : List Value) (H : Heap), resultsD Try.prog Try.f18 l H = some (get l 8)) ∧
    (∀ (l : List Value) (H : Heap), resultsD Try.prog Try.f19 l H = if (noTuple (get l 2) && (noTuple (get l 3) && (noTuple (get l 4) && true))) = true then some (.tuple #[get l 2, get l 3, get l 4]) else none) ∧
    (∀ (l : List Value) (H : Heap), resultsD Try.prog Try.f20 l H = some (get l 4)) ∧
    (∀ (l : List Value) (H : Heap), resultsD Try.prog Try.f21 l H = if (noTuple (get l 2) && (noTuple (get l 3) && true)) = true then some (.tuple #[get l 2, get l 3]) else none) ∧
    (∀ (l : List Value) (H : Heap), resultsD Try.prog Try.f22 l H = if (noTuple (get l 2) && (noTuple (get l 3) && true)) = true then some (.tuple #[get l 2, get l 3]) else none) ∧
    (∀ (l : List Value) (H : Heap), resultsD Try.prog Try.f23 l H = some (get l 4)) ∧
    (∀ (l : List Value) (H : Heap), resultsD Try.prog Try.f24 l H = some (get l 4)) ∧
    (∀ (l : List Value) (H : Heap), resultsD Try.prog Try.f25 l H = if (noTuple (get l 4) && (noTuple (get l 5) && true)) = true then some (.tuple #[get l 4, get l 5]) else none) ∧
    (∀ (l : List Value) (H : Heap), resultsD Try.prog Try.f26 l H = if (noTuple (get l 4) && (noTuple (get l 5) && true)) = true then some (.tuple #[get l 4, get l 5]) else none) ∧
    (∀ (l : List Value) (H : Heap), resultsD Try.prog Try.f29 l H = if (noTuple (get l 2) && (noTuple (get l 3) && true)) = true then some (.tuple #[get l 2, get l 3]) else none) ∧
    (∀ (l : List Value) (H : Heap), resultsD Try.prog Try.f30 l H = some (get l 4)) ∧
    (∀ (l : List Value) (H : Heap), resultsD Try.prog Try.f31 l H = some (get l 4)) ∧
    (∀ (l : List Value) (H : Heap), resultsD Try.prog Try.f32 l H = if (noTuple (get l 2) && (noTuple (get l 3) && true)) = true then some (.tuple #[get l 2, get l 3]) else none) ∧
    (∀ (l : List Value) (H : Heap), resultsD Try.prog Try.f34 l H = some (get l 2)) ∧
    (∀ (l : List Value) (H : Heap), resultsD Try.prog Try.f35 l H = some (get l 2)) ∧
    (∀ (l : List Value) (H : Heap), resultsD Try.prog Try.f36 l H = ldW (aggP Try.prog 27) (sizeP Try.prog 27) H (get l 4)) ∧
    (∀ (l : List Value) (H : Heap), resultsD Try.prog Try.f37 l H = some (get l 4)) ∧
    (∀ (l : List Value) (H : Heap), resultsD Try.prog Try.f38 l H = if (noTuple (get l 8) && (noTuple (get l 9) && true)) = true then some (.tuple #[get l 8, get l 9]) else none) ∧
    (∀ (l : List Value) (H : Heap), resultsD Try.prog Try.f39 l H = some (get l 4)) ∧
    (∀ (l : List Value) (H : Heap), resultsD Try.prog Try.f40 l H = some (get l 4)) ∧
    (∀ (l : List Value) (H : Heap), resultsD Try.prog Try.f41 l H = some (get l 4)) ∧
    (∀ (l : List Value) (H : Heap), resultsD Try.prog Try.f42 l H = some (get l 6)) ∧
    (∀ (l : List Value) (H : Heap), resultsD Try.prog Try.f43 l H = some (get l 2)) ∧
    (∀ (l : List Value) (H : Heap), resultsD Try.prog Try.f44 l H = ldW (aggP Try.prog 27) (sizeP Try.prog 27) H (get l 2)) ∧
    (∀ (l : List Value) (H : Heap), resultsD Try.prog Try.f45 l H = if (noTuple (get l 2) && (noTuple (get l 3) && true)) = true then some (.tuple #[get l 2, get l 3]) else none) ∧
    (∀ (l : List Value) (H : Heap), resultsD Try.prog Try.f46 l H = ldW (aggP Try.prog 27) (sizeP Try.prog 27) H (get l 4)) ∧
    (∀ (l : List Value) (H : Heap), resultsD Try.prog Try.f47 l H = some (get l 4)) ∧
    (∀ (l : List Value) (H : Heap), resultsD Try.prog Try.f48 l H = some (get l 4)) ∧
    (∀ (l : List Value) (H : Heap), resultsD Try.prog Try.f49 l H = some (get l 3)) ∧
    (∀ (l : List Value) (H : Heap), resultsD Try.prog Try.f50 l H = some (.tuple #[])) ∧
    (∀ (l : List Value) (H : Heap), resultsD Try.prog Try.f51 l H = some (get l 4)) ∧
    (∀ (l : List Value) (H : Heap), resultsD Try.prog Try.f52 l H = some (.tuple #[])) ∧
    (∀ (l : List Value) (H : Heap), resultsD Try.prog Try.f53 l H = some (get l 4)) ∧
    (∀ (l : List Value) (H : Heap), resultsD Try.prog Try.f54 l H = some (get l 2)) ∧
    (∀ (l : List Value) (H : Heap), resultsD Try.prog Try.f55 l H = some (get l 4)) ∧
    (∀ (l : List Value) (H : Heap), resultsD Try.prog Try.f56 l H = if (noTuple (get l 4) && (noTuple (get l 5) && true)) = true then some (.tuple #[get l 4, get l 5]) else none) ∧
    (∀ (l : List Value) (H : Heap), resultsD Try.prog Try.f57 l H = some (.tuple #[])) ∧
    (∀ (l : List Value) (H : Heap), resultsD Try.prog Try.f58 l H = some (get l 2)) ∧
    (∀ (l : List Value) (H : Heap), resultsD Try.prog Try.f59 l H = if (noTuple (get l 4) && (noTuple (get l 5) && true)) = true then some (.tuple #[get l 4, get l 5]) else none) ∧
    (∀ (l : List Value) (H : Heap), resultsD Try.prog Try.f60 l H = if (noTuple (get l 4) && (noTuple (get l 5) && true)) = true then some (.tuple #[get l 4, get l 5]) else none) ∧
    (∀ (l : List Value) (H : Heap), resultsD Try.prog Try.f61 l H = some (.tuple #[])) ∧
    (∀ (l : List Value) (H : Heap), resultsD Try.prog Try.f62 l H = some (.tuple #[])) ∧
    (∀ (l : List Value) (H : Heap), resultsD Try.prog Try.f63 l H = some (.tuple #[])) ∧
    (∀ (l : List Value) (H : Heap), resultsD Try.prog Try.f64 l H = if (noTuple (get l 8) && (noTuple (get l 9) && true)) = true then some (.tuple #[get l 8, get l 9]) else none) ∧
    (∀ (l : List Value) (H : Heap), resultsD Try.prog Try.f65 l H = some (.tuple #[])) ∧
    (∀ (l : List Value) (H : Heap), resultsD Try.prog Try.f66 l H = some (get l 8)) ∧
    (∀ (l : List Value) (H : Heap), resultsD Try.prog Try.f67 l H = some (get l 10)) ∧
    (∀ (l : List Value) (H : Heap), resultsD Try.prog Try.f68 l H = if (noTuple (get l 10) && (noTuple (get l 11) && true)) = true then some (.tuple #[get l 10, get l 11]) else none) ∧
    (∀ (l : List Value) (H : Heap), resultsD Try.prog Try.f69 l H = some (get l 2)) ∧
    (∀ (l : List Value) (H : Heap), resultsD Try.prog Try.f70 l H = some (get l 2)) ∧
    (∀ (l : List Value) (H : Heap), resultsD Try.prog Try.f71 l H = some (.tuple #[])) ∧
    (∀ (l : List Value) (H : Heap), resultsD Try.prog Try.f72 l H = some (get l 2)) ∧
    (∀ (l : List Value) (H : Heap), resultsD Try.prog Try.f73 l H = some (get l 2)) ∧
    (∀ (l : List Value) (H : Heap), resultsD Try.prog Try.f74 l H = some (get l 8)) ∧
    (∀ (l : List Value) (H : Heap), resultsD Try.prog Try.f75 l H = some (get l 12)) ∧
    (∀ (l : List Value) (H : Heap), resultsD Try.prog Try.f76 l H = if (noTuple (get l 10) && (noTuple (get l 11) && true)) = true then some (.tuple #[get l 10, get l 11]) else none) :=
  ⟨@tR3, @tR4, @tR5, @tR6, @tR7, @tR8, @tR9, @tR10, @tR11, @tR12, @tR13, @tR14, @tR15, @tR16, @tR17, @tR18, @tR19, @tR20, @tR21, @tR22, @tR23, @tR24, @tR25, @tR26, @tR29, @tR30, @tR31, @tR32, @tR34, @tR35, @tR36, @tR37, @tR38, @tR39, @tR40, @tR41, @tR42, @tR43, @tR44, @tR45, @tR46, @tR47, @tR48, @tR49, @tR50, @tR51, @tR52, @tR53, @tR54, @tR55, @tR56, @tR57, @tR58, @tR59, @tR60, @tR61, @tR62, @tR63, @tR64, @tR65, @tR66, @tR67, @tR68, @tR69, @tR70, @tR71, @tR72, @tR73, @tR74, @tR75, @tR76⟩
end Go.Ds
