/- The tables of the three sets and of the short forms; find by a literal name. -/
import Derived.Test.YtbfdooplkdofeaaGreatDoorAsBase
import Derived.Test.YtbfdooplkdofeaaGreatDoorVaiH
import Derived.Test.YtbfdooplkdofeaaGreatDoorVaiG
import Derived.KernelRfl
namespace Go.Proofs.YtbfdooplkdofeaaGreatDoor
open Go Go.Vai
noncomputable section
set_option maxRecDepth 100000
def nmOf : List AV → List UInt8
  | .str m :: _ => m
  | _ => []
def amR (x0 : List UInt8) (x1 : Int) (x2 : Int) (x3 : Int) (x4 : Int) (x5 : Bool) (x6 : Int) (x7 : Int) (x8 : List UInt8) : List AV := .str x0 :: .int .i64 x1 :: .int .u16 x2 :: .int .i64 x3 :: .int .u8 x4 :: .bool x5 :: .int .i64 x6 :: .int .i64 x7 :: .str x8 :: []
def amRows : List (List AV) :=
  amR [109, 111, 118, 46, 114, 114] (.ofNat 1) (.ofNat 137) (.ofNat 7) (.ofNat 0) false (.ofNat 0) (.ofNat 0) [65, 66] ::
  amR [109, 111, 118, 46, 114, 105] (.ofNat 1) (.ofNat 184) (.ofNat 2) (.ofNat 0) false (.negSucc 9223372036854775807) (.ofNat 9223372036854775807) [65, 105] ::
  amR [109, 111, 118, 46, 114, 115] (.ofNat 1) (.ofNat 199) (.ofNat 4) (.ofNat 0) false (.negSucc 2147483647) (.ofNat 2147483647) [65, 105] ::
  amR [109, 111, 118, 46, 114, 109] (.ofNat 1) (.ofNat 139) (.ofNat 9) (.ofNat 0) false (.negSucc 2147483647) (.ofNat 2147483647) [65, 109] ::
  amR [109, 111, 118, 108, 46, 114, 109] (.ofNat 0) (.ofNat 139) (.ofNat 9) (.ofNat 0) false (.negSucc 2147483647) (.ofNat 2147483647) [65, 109] ::
  amR [109, 111, 118, 115, 108, 46, 114, 109] (.ofNat 1) (.ofNat 99) (.ofNat 9) (.ofNat 0) false (.negSucc 2147483647) (.ofNat 2147483647) [65, 109] ::
  amR [109, 111, 118, 122, 98, 46, 114, 109] (.ofNat 1) (.ofNat 4022) (.ofNat 9) (.ofNat 0) false (.negSucc 2147483647) (.ofNat 2147483647) [65, 109] ::
  amR [108, 101, 97] (.ofNat 1) (.ofNat 141) (.ofNat 9) (.ofNat 0) false (.negSucc 2147483647) (.ofNat 2147483647) [65, 109] ::
  amR [109, 111, 118, 46, 109, 114] (.ofNat 1) (.ofNat 137) (.ofNat 9) (.ofNat 0) false (.negSucc 2147483647) (.ofNat 2147483647) [65, 109] ::
  amR [109, 111, 118, 108, 46, 109, 114] (.ofNat 0) (.ofNat 137) (.ofNat 9) (.ofNat 0) false (.negSucc 2147483647) (.ofNat 2147483647) [65, 109] ::
  amR [109, 111, 118, 98, 46, 109, 114] (.ofNat 2) (.ofNat 136) (.ofNat 9) (.ofNat 0) false (.negSucc 2147483647) (.ofNat 2147483647) [65, 109] ::
  amR [109, 111, 118, 46, 102, 115] (.ofNat 1) (.ofNat 139) (.ofNat 10) (.ofNat 0) false (.negSucc 2147483647) (.ofNat 2147483647) [65, 105] ::
  amR [97, 100, 100, 46, 114, 114] (.ofNat 1) (.ofNat 1) (.ofNat 7) (.ofNat 0) false (.ofNat 0) (.ofNat 0) [65, 66] ::
  amR [111, 114, 46, 114, 114] (.ofNat 1) (.ofNat 9) (.ofNat 7) (.ofNat 0) false (.ofNat 0) (.ofNat 0) [65, 66] ::
  amR [97, 110, 100, 46, 114, 114] (.ofNat 1) (.ofNat 33) (.ofNat 7) (.ofNat 0) false (.ofNat 0) (.ofNat 0) [65, 66] ::
  amR [115, 117, 98, 46, 114, 114] (.ofNat 1) (.ofNat 41) (.ofNat 7) (.ofNat 0) false (.ofNat 0) (.ofNat 0) [65, 66] ::
  amR [120, 111, 114, 46, 114, 114] (.ofNat 1) (.ofNat 49) (.ofNat 7) (.ofNat 0) false (.ofNat 0) (.ofNat 0) [65, 66] ::
  amR [99, 109, 112, 46, 114, 114] (.ofNat 1) (.ofNat 57) (.ofNat 7) (.ofNat 0) false (.ofNat 0) (.ofNat 0) [65, 66] ::
  amR [97, 100, 100, 46, 114, 109] (.ofNat 1) (.ofNat 3) (.ofNat 9) (.ofNat 0) false (.negSucc 2147483647) (.ofNat 2147483647) [65, 109] ::
  amR [111, 114, 46, 114, 109] (.ofNat 1) (.ofNat 11) (.ofNat 9) (.ofNat 0) false (.negSucc 2147483647) (.ofNat 2147483647) [65, 109] ::
  amR [97, 110, 100, 46, 114, 109] (.ofNat 1) (.ofNat 35) (.ofNat 9) (.ofNat 0) false (.negSucc 2147483647) (.ofNat 2147483647) [65, 109] ::
  amR [115, 117, 98, 46, 114, 109] (.ofNat 1) (.ofNat 43) (.ofNat 9) (.ofNat 0) false (.negSucc 2147483647) (.ofNat 2147483647) [65, 109] ::
  amR [120, 111, 114, 46, 114, 109] (.ofNat 1) (.ofNat 51) (.ofNat 9) (.ofNat 0) false (.negSucc 2147483647) (.ofNat 2147483647) [65, 109] ::
  amR [99, 109, 112, 46, 114, 109] (.ofNat 1) (.ofNat 59) (.ofNat 9) (.ofNat 0) false (.negSucc 2147483647) (.ofNat 2147483647) [65, 109] ::
  amR [97, 100, 100, 46, 114, 105] (.ofNat 1) (.ofNat 131) (.ofNat 6) (.ofNat 0) false (.negSucc 2147483647) (.ofNat 2147483647) [65, 105] ::
  amR [111, 114, 46, 114, 105] (.ofNat 1) (.ofNat 131) (.ofNat 6) (.ofNat 1) false (.negSucc 2147483647) (.ofNat 2147483647) [65, 105] ::
  amR [97, 110, 100, 46, 114, 105] (.ofNat 1) (.ofNat 131) (.ofNat 6) (.ofNat 4) false (.negSucc 2147483647) (.ofNat 2147483647) [65, 105] ::
  amR [115, 117, 98, 46, 114, 105] (.ofNat 1) (.ofNat 131) (.ofNat 6) (.ofNat 5) false (.negSucc 2147483647) (.ofNat 2147483647) [65, 105] ::
  amR [120, 111, 114, 46, 114, 105] (.ofNat 1) (.ofNat 131) (.ofNat 6) (.ofNat 6) false (.negSucc 2147483647) (.ofNat 2147483647) [65, 105] ::
  amR [99, 109, 112, 46, 114, 105] (.ofNat 1) (.ofNat 131) (.ofNat 6) (.ofNat 7) false (.negSucc 2147483647) (.ofNat 2147483647) [65, 105] ::
  amR [116, 101, 115, 116, 46, 114, 114] (.ofNat 1) (.ofNat 133) (.ofNat 7) (.ofNat 0) false (.ofNat 0) (.ofNat 0) [65, 66] ::
  amR [105, 109, 117, 108, 46, 114, 114] (.ofNat 1) (.ofNat 4015) (.ofNat 8) (.ofNat 0) false (.ofNat 0) (.ofNat 0) [65, 66] ::
  amR [110, 111, 116] (.ofNat 1) (.ofNat 247) (.ofNat 3) (.ofNat 2) false (.ofNat 0) (.ofNat 0) [65] ::
  amR [110, 101, 103] (.ofNat 1) (.ofNat 247) (.ofNat 3) (.ofNat 3) false (.ofNat 0) (.ofNat 0) [65] ::
  amR [109, 117, 108] (.ofNat 1) (.ofNat 247) (.ofNat 3) (.ofNat 4) false (.ofNat 0) (.ofNat 0) [65] ::
  amR [100, 105, 118] (.ofNat 1) (.ofNat 247) (.ofNat 3) (.ofNat 6) false (.ofNat 0) (.ofNat 0) [65] ::
  amR [105, 100, 105, 118] (.ofNat 1) (.ofNat 247) (.ofNat 3) (.ofNat 7) false (.ofNat 0) (.ofNat 0) [65] ::
  amR [99, 113, 111] (.ofNat 1) (.ofNat 153) (.ofNat 0) (.ofNat 0) false (.ofNat 0) (.ofNat 0) [] ::
  amR [115, 104, 108, 46, 114, 105] (.ofNat 1) (.ofNat 193) (.ofNat 5) (.ofNat 4) false (.ofNat 0) (.ofNat 63) [65, 105] ::
  amR [115, 104, 114, 46, 114, 105] (.ofNat 1) (.ofNat 193) (.ofNat 5) (.ofNat 5) false (.ofNat 0) (.ofNat 63) [65, 105] ::
  amR [115, 97, 114, 46, 114, 105] (.ofNat 1) (.ofNat 193) (.ofNat 5) (.ofNat 7) false (.ofNat 0) (.ofNat 63) [65, 105] ::
  amR [115, 104, 108, 46, 114, 99] (.ofNat 1) (.ofNat 211) (.ofNat 3) (.ofNat 4) false (.ofNat 0) (.ofNat 0) [65] ::
  amR [115, 104, 114, 46, 114, 99] (.ofNat 1) (.ofNat 211) (.ofNat 3) (.ofNat 5) false (.ofNat 0) (.ofNat 0) [65] ::
  amR [115, 97, 114, 46, 114, 99] (.ofNat 1) (.ofNat 211) (.ofNat 3) (.ofNat 7) false (.ofNat 0) (.ofNat 0) [65] ::
  amR [99, 109, 111, 118] (.ofNat 1) (.ofNat 3904) (.ofNat 8) (.ofNat 0) true (.ofNat 0) (.ofNat 0) [65, 66, 99] ::
  amR [112, 117, 115, 104] (.ofNat 0) (.ofNat 80) (.ofNat 1) (.ofNat 0) false (.ofNat 0) (.ofNat 0) [65] ::
  amR [112, 111, 112] (.ofNat 0) (.ofNat 88) (.ofNat 1) (.ofNat 0) false (.ofNat 0) (.ofNat 0) [65] ::
  amR [99, 97, 108, 108] (.ofNat 0) (.ofNat 232) (.ofNat 11) (.ofNat 0) false (.negSucc 2147483647) (.ofNat 2147483647) [106] ::
  amR [106, 109, 112] (.ofNat 0) (.ofNat 233) (.ofNat 11) (.ofNat 0) false (.negSucc 2147483647) (.ofNat 2147483647) [106] ::
  amR [106, 109, 112, 46, 115] (.ofNat 0) (.ofNat 235) (.ofNat 12) (.ofNat 0) false (.negSucc 127) (.ofNat 127) [106] ::
  amR [99, 97, 108, 108, 46, 114] (.ofNat 0) (.ofNat 255) (.ofNat 3) (.ofNat 2) false (.ofNat 0) (.ofNat 0) [65] ::
  amR [106, 109, 112, 46, 114] (.ofNat 0) (.ofNat 255) (.ofNat 3) (.ofNat 4) false (.ofNat 0) (.ofNat 0) [65] ::
  amR [106, 99, 99] (.ofNat 0) (.ofNat 3968) (.ofNat 11) (.ofNat 0) true (.negSucc 2147483647) (.ofNat 2147483647) [99, 106] ::
  amR [106, 99, 99, 46, 115] (.ofNat 0) (.ofNat 112) (.ofNat 12) (.ofNat 0) true (.negSucc 127) (.ofNat 127) [99, 106] ::
  amR [114, 101, 116] (.ofNat 0) (.ofNat 195) (.ofNat 0) (.ofNat 0) false (.ofNat 0) (.ofNat 0) [] ::
  amR [115, 121, 115, 99, 97, 108, 108] (.ofNat 0) (.ofNat 3845) (.ofNat 0) (.ofNat 0) false (.ofNat 0) (.ofNat 0) [] ::
  amR [110, 111, 112] (.ofNat 0) (.ofNat 144) (.ofNat 0) (.ofNat 0) false (.ofNat 0) (.ofNat 0) [] ::
  amR [117, 100, 50] (.ofNat 0) (.ofNat 3851) (.ofNat 0) (.ofNat 0) false (.ofNat 0) (.ofNat 0) [] :: []
def amZero : AV := .tup [.agg (amR [] (.ofNat 0) (.ofNat 0) (.ofNat 0) (.ofNat 0) false (.ofNat 0) (.ofNat 0) []), .bool false]
def amDone : Done := ⟨96, [], [12], .sl 12 0 58 (some 64), [⟨576, 127, none, 0, false, false, (amRows ++ List.replicate 6 (amR [] (.ofNat 0) (.ofNat 0) (.ofNat 0) (.ofNat 0) false (.ofNat 0) (.ofNat 0) [])).flatten.map some⟩]⟩
theorem amDone_run : pack amDone.keep (runR E1 100000 (.call 96 amDone.args (Zap 12 gl))) = some (amDone.v, amDone.os.map some) := by kernel_rfl
theorem amDone_ok : SmOk Tryz.prog gl (Zbc amDone) := Zc1 (E := E1) (n := 100000) Zbf Za3 (by kernel_rfl) (Zac rfl) (by have := amDone_run; rw [Zat] at this; exact this) (by decide) (by kernel_rfl)
def arR (x0 : List UInt8) (x1 : Int) (x2 : Int) (x3 : Int) (x4 : Int) (x5 : Int) (x6 : Int) (x7 : Int) (x8 : Int) (x9 : Int) (x10 : Int) (x11 : Int) (x12 : Int) (x13 : Int) (x14 : Int) (x15 : Int) (x16 : Int) (x17 : Int) (x18 : Int) (x19 : Int) (x20 : Int) (x21 : Int) (x22 : Int) (x23 : Int) (x24 : Int) (x25 : Int) (x26 : Int) (x27 : Int) (x28 : Int) (x29 : Int) (x30 : Int) (x31 : Int) (x32 : List UInt8) : List AV := .str x0 :: .int .u32 x1 :: .int .i8 x2 :: .int .i8 x3 :: .int .i8 x4 :: .int .i8 x5 :: .int .i32 x6 :: .int .i32 x7 :: .int .i8 x8 :: .int .i8 x9 :: .int .i8 x10 :: .int .i8 x11 :: .int .i32 x12 :: .int .i32 x13 :: .int .i8 x14 :: .int .i8 x15 :: .int .i8 x16 :: .int .i8 x17 :: .int .i32 x18 :: .int .i32 x19 :: .int .i8 x20 :: .int .i8 x21 :: .int .i8 x22 :: .int .i8 x23 :: .int .i32 x24 :: .int .i32 x25 :: .int .i8 x26 :: .int .i8 x27 :: .int .i8 x28 :: .int .i8 x29 :: .int .i32 x30 :: .int .i32 x31 :: .str x32 :: []
def Zea : List (List AV) :=
  arR [109, 111, 118, 110] (.ofNat 2457862144) (.ofNat 0) (.ofNat 5) (.ofNat 1) (.ofNat 1) (.ofNat 0) (.ofNat 31) (.ofNat 0) (.ofNat 0) (.ofNat 0) (.ofNat 0) (.ofNat 0) (.ofNat 0) (.ofNat 0) (.ofNat 0) (.ofNat 0) (.ofNat 0) (.ofNat 0) (.ofNat 0) (.ofNat 21) (.ofNat 2) (.ofNat 1) (.ofNat 1) (.ofNat 0) (.ofNat 3) (.ofNat 5) (.ofNat 16) (.ofNat 1) (.ofNat 1) (.ofNat 0) (.ofNat 65535) [65, 105, 115] ::
  arR [109, 111, 118, 122] (.ofNat 3531603968) (.ofNat 0) (.ofNat 5) (.ofNat 1) (.ofNat 1) (.ofNat 0) (.ofNat 31) (.ofNat 0) (.ofNat 0) (.ofNat 0) (.ofNat 0) (.ofNat 0) (.ofNat 0) (.ofNat 0) (.ofNat 0) (.ofNat 0) (.ofNat 0) (.ofNat 0) (.ofNat 0) (.ofNat 21) (.ofNat 2) (.ofNat 1) (.ofNat 1) (.ofNat 0) (.ofNat 3) (.ofNat 5) (.ofNat 16) (.ofNat 1) (.ofNat 1) (.ofNat 0) (.ofNat 65535) [65, 105, 115] ::
  arR [109, 111, 118, 107] (.ofNat 4068474880) (.ofNat 0) (.ofNat 5) (.ofNat 1) (.ofNat 1) (.ofNat 0) (.ofNat 31) (.ofNat 0) (.ofNat 0) (.ofNat 0) (.ofNat 0) (.ofNat 0) (.ofNat 0) (.ofNat 0) (.ofNat 0) (.ofNat 0) (.ofNat 0) (.ofNat 0) (.ofNat 0) (.ofNat 21) (.ofNat 2) (.ofNat 1) (.ofNat 1) (.ofNat 0) (.ofNat 3) (.ofNat 5) (.ofNat 16) (.ofNat 1) (.ofNat 1) (.ofNat 0) (.ofNat 65535) [65, 105, 115] ::
  arR [97, 100, 100, 46, 105] (.ofNat 2432696320) (.ofNat 0) (.ofNat 5) (.ofNat 1) (.ofNat 1) (.ofNat 0) (.ofNat 31) (.ofNat 5) (.ofNat 5) (.ofNat 1) (.ofNat 1) (.ofNat 0) (.ofNat 31) (.ofNat 0) (.ofNat 0) (.ofNat 0) (.ofNat 0) (.ofNat 0) (.ofNat 0) (.ofNat 22) (.ofNat 1) (.ofNat 1) (.ofNat 1) (.ofNat 0) (.ofNat 1) (.ofNat 10) (.ofNat 12) (.ofNat 1) (.ofNat 1) (.ofNat 0) (.ofNat 4095) [65, 66, 105, 115] ::
  arR [97, 100, 100, 115, 46, 105] (.ofNat 2969567232) (.ofNat 0) (.ofNat 5) (.ofNat 1) (.ofNat 1) (.ofNat 0) (.ofNat 31) (.ofNat 5) (.ofNat 5) (.ofNat 1) (.ofNat 1) (.ofNat 0) (.ofNat 31) (.ofNat 0) (.ofNat 0) (.ofNat 0) (.ofNat 0) (.ofNat 0) (.ofNat 0) (.ofNat 22) (.ofNat 1) (.ofNat 1) (.ofNat 1) (.ofNat 0) (.ofNat 1) (.ofNat 10) (.ofNat 12) (.ofNat 1) (.ofNat 1) (.ofNat 0) (.ofNat 4095) [65, 66, 105, 115] ::
  arR [115, 117, 98, 46, 105] (.ofNat 3506438144) (.ofNat 0) (.ofNat 5) (.ofNat 1) (.ofNat 1) (.ofNat 0) (.ofNat 31) (.ofNat 5) (.ofNat 5) (.ofNat 1) (.ofNat 1) (.ofNat 0) (.ofNat 31) (.ofNat 0) (.ofNat 0) (.ofNat 0) (.ofNat 0) (.ofNat 0) (.ofNat 0) (.ofNat 22) (.ofNat 1) (.ofNat 1) (.ofNat 1) (.ofNat 0) (.ofNat 1) (.ofNat 10) (.ofNat 12) (.ofNat 1) (.ofNat 1) (.ofNat 0) (.ofNat 4095) [65, 66, 105, 115] ::
  arR [115, 117, 98, 115, 46, 105] (.ofNat 4043309056) (.ofNat 0) (.ofNat 5) (.ofNat 1) (.ofNat 1) (.ofNat 0) (.ofNat 31) (.ofNat 5) (.ofNat 5) (.ofNat 1) (.ofNat 1) (.ofNat 0) (.ofNat 31) (.ofNat 0) (.ofNat 0) (.ofNat 0) (.ofNat 0) (.ofNat 0) (.ofNat 0) (.ofNat 22) (.ofNat 1) (.ofNat 1) (.ofNat 1) (.ofNat 0) (.ofNat 1) (.ofNat 10) (.ofNat 12) (.ofNat 1) (.ofNat 1) (.ofNat 0) (.ofNat 4095) [65, 66, 105, 115] ::
  arR [97, 100, 100] (.ofNat 2332033024) (.ofNat 0) (.ofNat 5) (.ofNat 1) (.ofNat 1) (.ofNat 0) (.ofNat 31) (.ofNat 5) (.ofNat 5) (.ofNat 1) (.ofNat 1) (.ofNat 0) (.ofNat 31) (.ofNat 16) (.ofNat 5) (.ofNat 1) (.ofNat 1) (.ofNat 0) (.ofNat 31) (.ofNat 10) (.ofNat 6) (.ofNat 1) (.ofNat 1) (.ofNat 0) (.ofNat 63) (.ofNat 0) (.ofNat 0) (.ofNat 0) (.ofNat 0) (.ofNat 0) (.ofNat 0) [65, 66, 67, 115] ::
  arR [97, 100, 100, 115] (.ofNat 2868903936) (.ofNat 0) (.ofNat 5) (.ofNat 1) (.ofNat 1) (.ofNat 0) (.ofNat 31) (.ofNat 5) (.ofNat 5) (.ofNat 1) (.ofNat 1) (.ofNat 0) (.ofNat 31) (.ofNat 16) (.ofNat 5) (.ofNat 1) (.ofNat 1) (.ofNat 0) (.ofNat 31) (.ofNat 10) (.ofNat 6) (.ofNat 1) (.ofNat 1) (.ofNat 0) (.ofNat 63) (.ofNat 0) (.ofNat 0) (.ofNat 0) (.ofNat 0) (.ofNat 0) (.ofNat 0) [65, 66, 67, 115] ::
  arR [115, 117, 98] (.ofNat 3405774848) (.ofNat 0) (.ofNat 5) (.ofNat 1) (.ofNat 1) (.ofNat 0) (.ofNat 31) (.ofNat 5) (.ofNat 5) (.ofNat 1) (.ofNat 1) (.ofNat 0) (.ofNat 31) (.ofNat 16) (.ofNat 5) (.ofNat 1) (.ofNat 1) (.ofNat 0) (.ofNat 31) (.ofNat 10) (.ofNat 6) (.ofNat 1) (.ofNat 1) (.ofNat 0) (.ofNat 63) (.ofNat 0) (.ofNat 0) (.ofNat 0) (.ofNat 0) (.ofNat 0) (.ofNat 0) [65, 66, 67, 115] ::
  arR [115, 117, 98, 115] (.ofNat 3942645760) (.ofNat 0) (.ofNat 5) (.ofNat 1) (.ofNat 1) (.ofNat 0) (.ofNat 31) (.ofNat 5) (.ofNat 5) (.ofNat 1) (.ofNat 1) (.ofNat 0) (.ofNat 31) (.ofNat 16) (.ofNat 5) (.ofNat 1) (.ofNat 1) (.ofNat 0) (.ofNat 31) (.ofNat 10) (.ofNat 6) (.ofNat 1) (.ofNat 1) (.ofNat 0) (.ofNat 63) (.ofNat 0) (.ofNat 0) (.ofNat 0) (.ofNat 0) (.ofNat 0) (.ofNat 0) [65, 66, 67, 115] ::
  arR [97, 110, 100] (.ofNat 2315255808) (.ofNat 0) (.ofNat 5) (.ofNat 1) (.ofNat 1) (.ofNat 0) (.ofNat 31) (.ofNat 5) (.ofNat 5) (.ofNat 1) (.ofNat 1) (.ofNat 0) (.ofNat 31) (.ofNat 16) (.ofNat 5) (.ofNat 1) (.ofNat 1) (.ofNat 0) (.ofNat 31) (.ofNat 10) (.ofNat 6) (.ofNat 1) (.ofNat 1) (.ofNat 0) (.ofNat 63) (.ofNat 0) (.ofNat 0) (.ofNat 0) (.ofNat 0) (.ofNat 0) (.ofNat 0) [65, 66, 67, 115] ::
  arR [111, 114, 114] (.ofNat 2852126720) (.ofNat 0) (.ofNat 5) (.ofNat 1) (.ofNat 1) (.ofNat 0) (.ofNat 31) (.ofNat 5) (.ofNat 5) (.ofNat 1) (.ofNat 1) (.ofNat 0) (.ofNat 31) (.ofNat 16) (.ofNat 5) (.ofNat 1) (.ofNat 1) (.ofNat 0) (.ofNat 31) (.ofNat 10) (.ofNat 6) (.ofNat 1) (.ofNat 1) (.ofNat 0) (.ofNat 63) (.ofNat 0) (.ofNat 0) (.ofNat 0) (.ofNat 0) (.ofNat 0) (.ofNat 0) [65, 66, 67, 115] ::
  arR [101, 111, 114] (.ofNat 3388997632) (.ofNat 0) (.ofNat 5) (.ofNat 1) (.ofNat 1) (.ofNat 0) (.ofNat 31) (.ofNat 5) (.ofNat 5) (.ofNat 1) (.ofNat 1) (.ofNat 0) (.ofNat 31) (.ofNat 16) (.ofNat 5) (.ofNat 1) (.ofNat 1) (.ofNat 0) (.ofNat 31) (.ofNat 10) (.ofNat 6) (.ofNat 1) (.ofNat 1) (.ofNat 0) (.ofNat 63) (.ofNat 0) (.ofNat 0) (.ofNat 0) (.ofNat 0) (.ofNat 0) (.ofNat 0) [65, 66, 67, 115] ::
  arR [97, 110, 100, 115] (.ofNat 3925868544) (.ofNat 0) (.ofNat 5) (.ofNat 1) (.ofNat 1) (.ofNat 0) (.ofNat 31) (.ofNat 5) (.ofNat 5) (.ofNat 1) (.ofNat 1) (.ofNat 0) (.ofNat 31) (.ofNat 16) (.ofNat 5) (.ofNat 1) (.ofNat 1) (.ofNat 0) (.ofNat 31) (.ofNat 10) (.ofNat 6) (.ofNat 1) (.ofNat 1) (.ofNat 0) (.ofNat 63) (.ofNat 0) (.ofNat 0) (.ofNat 0) (.ofNat 0) (.ofNat 0) (.ofNat 0) [65, 66, 67, 115] ::
  arR [97, 110, 100, 46, 105] (.ofNat 2449473536) (.ofNat 0) (.ofNat 5) (.ofNat 1) (.ofNat 1) (.ofNat 0) (.ofNat 31) (.ofNat 5) (.ofNat 5) (.ofNat 1) (.ofNat 1) (.ofNat 0) (.ofNat 31) (.ofNat 0) (.ofNat 0) (.ofNat 0) (.ofNat 0) (.ofNat 0) (.ofNat 0) (.ofNat 0) (.ofNat 0) (.ofNat 0) (.ofNat 0) (.ofNat 0) (.ofNat 0) (.ofNat 0) (.ofNat 0) (.ofNat 3) (.ofNat 0) (.ofNat 0) (.ofNat 0) [65, 66, 105] ::
  arR [111, 114, 114, 46, 105] (.ofNat 2986344448) (.ofNat 0) (.ofNat 5) (.ofNat 1) (.ofNat 1) (.ofNat 0) (.ofNat 31) (.ofNat 5) (.ofNat 5) (.ofNat 1) (.ofNat 1) (.ofNat 0) (.ofNat 31) (.ofNat 0) (.ofNat 0) (.ofNat 0) (.ofNat 0) (.ofNat 0) (.ofNat 0) (.ofNat 0) (.ofNat 0) (.ofNat 0) (.ofNat 0) (.ofNat 0) (.ofNat 0) (.ofNat 0) (.ofNat 0) (.ofNat 3) (.ofNat 0) (.ofNat 0) (.ofNat 0) [65, 66, 105] ::
  arR [101, 111, 114, 46, 105] (.ofNat 3523215360) (.ofNat 0) (.ofNat 5) (.ofNat 1) (.ofNat 1) (.ofNat 0) (.ofNat 31) (.ofNat 5) (.ofNat 5) (.ofNat 1) (.ofNat 1) (.ofNat 0) (.ofNat 31) (.ofNat 0) (.ofNat 0) (.ofNat 0) (.ofNat 0) (.ofNat 0) (.ofNat 0) (.ofNat 0) (.ofNat 0) (.ofNat 0) (.ofNat 0) (.ofNat 0) (.ofNat 0) (.ofNat 0) (.ofNat 0) (.ofNat 3) (.ofNat 0) (.ofNat 0) (.ofNat 0) [65, 66, 105] ::
  arR [97, 110, 100, 115, 46, 105] (.ofNat 4060086272) (.ofNat 0) (.ofNat 5) (.ofNat 1) (.ofNat 1) (.ofNat 0) (.ofNat 31) (.ofNat 5) (.ofNat 5) (.ofNat 1) (.ofNat 1) (.ofNat 0) (.ofNat 31) (.ofNat 0) (.ofNat 0) (.ofNat 0) (.ofNat 0) (.ofNat 0) (.ofNat 0) (.ofNat 0) (.ofNat 0) (.ofNat 0) (.ofNat 0) (.ofNat 0) (.ofNat 0) (.ofNat 0) (.ofNat 0) (.ofNat 3) (.ofNat 0) (.ofNat 0) (.ofNat 0) [65, 66, 105] ::
  arR [109, 97, 100, 100] (.ofNat 2600468480) (.ofNat 0) (.ofNat 5) (.ofNat 1) (.ofNat 1) (.ofNat 0) (.ofNat 31) (.ofNat 5) (.ofNat 5) (.ofNat 1) (.ofNat 1) (.ofNat 0) (.ofNat 31) (.ofNat 16) (.ofNat 5) (.ofNat 1) (.ofNat 1) (.ofNat 0) (.ofNat 31) (.ofNat 10) (.ofNat 5) (.ofNat 1) (.ofNat 1) (.ofNat 0) (.ofNat 31) (.ofNat 0) (.ofNat 0) (.ofNat 0) (.ofNat 0) (.ofNat 0) (.ofNat 0) [65, 66, 67, 68] ::
  arR [109, 115, 117, 98] (.ofNat 2600501248) (.ofNat 0) (.ofNat 5) (.ofNat 1) (.ofNat 1) (.ofNat 0) (.ofNat 31) (.ofNat 5) (.ofNat 5) (.ofNat 1) (.ofNat 1) (.ofNat 0) (.ofNat 31) (.ofNat 16) (.ofNat 5) (.ofNat 1) (.ofNat 1) (.ofNat 0) (.ofNat 31) (.ofNat 10) (.ofNat 5) (.ofNat 1) (.ofNat 1) (.ofNat 0) (.ofNat 31) (.ofNat 0) (.ofNat 0) (.ofNat 0) (.ofNat 0) (.ofNat 0) (.ofNat 0) [65, 66, 67, 68] ::
  arR [117, 100, 105, 118] (.ofNat 2596276224) (.ofNat 0) (.ofNat 5) (.ofNat 1) (.ofNat 1) (.ofNat 0) (.ofNat 31) (.ofNat 5) (.ofNat 5) (.ofNat 1) (.ofNat 1) (.ofNat 0) (.ofNat 31) (.ofNat 16) (.ofNat 5) (.ofNat 1) (.ofNat 1) (.ofNat 0) (.ofNat 31) (.ofNat 0) (.ofNat 0) (.ofNat 0) (.ofNat 0) (.ofNat 0) (.ofNat 0) (.ofNat 0) (.ofNat 0) (.ofNat 0) (.ofNat 0) (.ofNat 0) (.ofNat 0) [65, 66, 67] ::
  arR [115, 100, 105, 118] (.ofNat 2596277248) (.ofNat 0) (.ofNat 5) (.ofNat 1) (.ofNat 1) (.ofNat 0) (.ofNat 31) (.ofNat 5) (.ofNat 5) (.ofNat 1) (.ofNat 1) (.ofNat 0) (.ofNat 31) (.ofNat 16) (.ofNat 5) (.ofNat 1) (.ofNat 1) (.ofNat 0) (.ofNat 31) (.ofNat 0) (.ofNat 0) (.ofNat 0) (.ofNat 0) (.ofNat 0) (.ofNat 0) (.ofNat 0) (.ofNat 0) (.ofNat 0) (.ofNat 0) (.ofNat 0) (.ofNat 0) [65, 66, 67] ::
  arR [108, 115, 108, 118] (.ofNat 2596282368) (.ofNat 0) (.ofNat 5) (.ofNat 1) (.ofNat 1) (.ofNat 0) (.ofNat 31) (.ofNat 5) (.ofNat 5) (.ofNat 1) (.ofNat 1) (.ofNat 0) (.ofNat 31) (.ofNat 16) (.ofNat 5) (.ofNat 1) (.ofNat 1) (.ofNat 0) (.ofNat 31) (.ofNat 0) (.ofNat 0) (.ofNat 0) (.ofNat 0) (.ofNat 0) (.ofNat 0) (.ofNat 0) (.ofNat 0) (.ofNat 0) (.ofNat 0) (.ofNat 0) (.ofNat 0) [65, 66, 67] ::
  arR [108, 115, 114, 118] (.ofNat 2596283392) (.ofNat 0) (.ofNat 5) (.ofNat 1) (.ofNat 1) (.ofNat 0) (.ofNat 31) (.ofNat 5) (.ofNat 5) (.ofNat 1) (.ofNat 1) (.ofNat 0) (.ofNat 31) (.ofNat 16) (.ofNat 5) (.ofNat 1) (.ofNat 1) (.ofNat 0) (.ofNat 31) (.ofNat 0) (.ofNat 0) (.ofNat 0) (.ofNat 0) (.ofNat 0) (.ofNat 0) (.ofNat 0) (.ofNat 0) (.ofNat 0) (.ofNat 0) (.ofNat 0) (.ofNat 0) [65, 66, 67] ::
  arR [97, 115, 114, 118] (.ofNat 2596284416) (.ofNat 0) (.ofNat 5) (.ofNat 1) (.ofNat 1) (.ofNat 0) (.ofNat 31) (.ofNat 5) (.ofNat 5) (.ofNat 1) (.ofNat 1) (.ofNat 0) (.ofNat 31) (.ofNat 16) (.ofNat 5) (.ofNat 1) (.ofNat 1) (.ofNat 0) (.ofNat 31) (.ofNat 0) (.ofNat 0) (.ofNat 0) (.ofNat 0) (.ofNat 0) (.ofNat 0) (.ofNat 0) (.ofNat 0) (.ofNat 0) (.ofNat 0) (.ofNat 0) (.ofNat 0) [65, 66, 67] ::
  arR [115, 98, 102, 109] (.ofNat 2470445056) (.ofNat 0) (.ofNat 5) (.ofNat 1) (.ofNat 1) (.ofNat 0) (.ofNat 31) (.ofNat 5) (.ofNat 5) (.ofNat 1) (.ofNat 1) (.ofNat 0) (.ofNat 31) (.ofNat 16) (.ofNat 6) (.ofNat 1) (.ofNat 1) (.ofNat 0) (.ofNat 63) (.ofNat 10) (.ofNat 6) (.ofNat 1) (.ofNat 1) (.ofNat 0) (.ofNat 63) (.ofNat 0) (.ofNat 0) (.ofNat 0) (.ofNat 0) (.ofNat 0) (.ofNat 0) [65, 66, 116, 115] ::
  arR [117, 98, 102, 109] (.ofNat 3544186880) (.ofNat 0) (.ofNat 5) (.ofNat 1) (.ofNat 1) (.ofNat 0) (.ofNat 31) (.ofNat 5) (.ofNat 5) (.ofNat 1) (.ofNat 1) (.ofNat 0) (.ofNat 31) (.ofNat 16) (.ofNat 6) (.ofNat 1) (.ofNat 1) (.ofNat 0) (.ofNat 63) (.ofNat 10) (.ofNat 6) (.ofNat 1) (.ofNat 1) (.ofNat 0) (.ofNat 63) (.ofNat 0) (.ofNat 0) (.ofNat 0) (.ofNat 0) (.ofNat 0) (.ofNat 0) [65, 66, 116, 115] ::
  arR [99, 115, 101, 108] (.ofNat 2592079872) (.ofNat 0) (.ofNat 5) (.ofNat 1) (.ofNat 1) (.ofNat 0) (.ofNat 31) (.ofNat 5) (.ofNat 5) (.ofNat 1) (.ofNat 1) (.ofNat 0) (.ofNat 31) (.ofNat 16) (.ofNat 5) (.ofNat 1) (.ofNat 1) (.ofNat 0) (.ofNat 31) (.ofNat 12) (.ofNat 4) (.ofNat 1) (.ofNat 1) (.ofNat 0) (.ofNat 13) (.ofNat 0) (.ofNat 0) (.ofNat 0) (.ofNat 0) (.ofNat 0) (.ofNat 0) [65, 66, 67, 99] ::
  arR [99, 115, 105, 110, 99] (.ofNat 2592080896) (.ofNat 0) (.ofNat 5) (.ofNat 1) (.ofNat 1) (.ofNat 0) (.ofNat 31) (.ofNat 5) (.ofNat 5) (.ofNat 1) (.ofNat 1) (.ofNat 0) (.ofNat 31) (.ofNat 16) (.ofNat 5) (.ofNat 1) (.ofNat 1) (.ofNat 0) (.ofNat 31) (.ofNat 12) (.ofNat 4) (.ofNat 1) (.ofNat 1) (.ofNat 0) (.ofNat 13) (.ofNat 0) (.ofNat 0) (.ofNat 0) (.ofNat 0) (.ofNat 0) (.ofNat 0) [65, 66, 67, 99] ::
  arR [97, 100, 114] (.ofNat 268435456) (.ofNat 0) (.ofNat 5) (.ofNat 1) (.ofNat 1) (.ofNat 0) (.ofNat 31) (.ofNat 0) (.ofNat 0) (.ofNat 0) (.ofNat 0) (.ofNat 0) (.ofNat 0) (.ofNat 0) (.ofNat 0) (.ofNat 0) (.ofNat 0) (.ofNat 0) (.ofNat 0) (.ofNat 0) (.ofNat 0) (.ofNat 0) (.ofNat 0) (.ofNat 0) (.ofNat 0) (.ofNat 0) (.ofNat 0) (.ofNat 2) (.ofNat 1) (.negSucc 1048575) (.ofNat 1048575) [65, 106] ::
  arR [97, 100, 114, 112] (.ofNat 2415919104) (.ofNat 0) (.ofNat 5) (.ofNat 1) (.ofNat 1) (.ofNat 0) (.ofNat 31) (.ofNat 0) (.ofNat 0) (.ofNat 0) (.ofNat 0) (.ofNat 0) (.ofNat 0) (.ofNat 0) (.ofNat 0) (.ofNat 0) (.ofNat 0) (.ofNat 0) (.ofNat 0) (.ofNat 0) (.ofNat 0) (.ofNat 0) (.ofNat 0) (.ofNat 0) (.ofNat 0) (.ofNat 0) (.ofNat 0) (.ofNat 2) (.ofNat 1) (.negSucc 1048575) (.ofNat 1048575) [65, 106] ::
  arR [108, 100, 114, 98] (.ofNat 960495616) (.ofNat 0) (.ofNat 5) (.ofNat 1) (.ofNat 1) (.ofNat 0) (.ofNat 31) (.ofNat 5) (.ofNat 5) (.ofNat 1) (.ofNat 1) (.ofNat 0) (.ofNat 31) (.ofNat 0) (.ofNat 0) (.ofNat 0) (.ofNat 0) (.ofNat 0) (.ofNat 0) (.ofNat 0) (.ofNat 0) (.ofNat 0) (.ofNat 0) (.ofNat 0) (.ofNat 0) (.ofNat 10) (.ofNat 12) (.ofNat 1) (.ofNat 1) (.ofNat 0) (.ofNat 4095) [65, 66, 105] ::
  arR [115, 116, 114, 98] (.ofNat 956301312) (.ofNat 0) (.ofNat 5) (.ofNat 1) (.ofNat 1) (.ofNat 0) (.ofNat 31) (.ofNat 5) (.ofNat 5) (.ofNat 1) (.ofNat 1) (.ofNat 0) (.ofNat 31) (.ofNat 0) (.ofNat 0) (.ofNat 0) (.ofNat 0) (.ofNat 0) (.ofNat 0) (.ofNat 0) (.ofNat 0) (.ofNat 0) (.ofNat 0) (.ofNat 0) (.ofNat 0) (.ofNat 10) (.ofNat 12) (.ofNat 1) (.ofNat 1) (.ofNat 0) (.ofNat 4095) [65, 66, 105] ::
  arR [108, 100, 114, 104] (.ofNat 2034237440) (.ofNat 0) (.ofNat 5) (.ofNat 1) (.ofNat 1) (.ofNat 0) (.ofNat 31) (.ofNat 5) (.ofNat 5) (.ofNat 1) (.ofNat 1) (.ofNat 0) (.ofNat 31) (.ofNat 0) (.ofNat 0) (.ofNat 0) (.ofNat 0) (.ofNat 0) (.ofNat 0) (.ofNat 0) (.ofNat 0) (.ofNat 0) (.ofNat 0) (.ofNat 0) (.ofNat 0) (.ofNat 10) (.ofNat 12) (.ofNat 1) (.ofNat 2) (.ofNat 0) (.ofNat 8190) [65, 66, 105] ::
  arR [115, 116, 114, 104] (.ofNat 2030043136) (.ofNat 0) (.ofNat 5) (.ofNat 1) (.ofNat 1) (.ofNat 0) (.ofNat 31) (.ofNat 5) (.ofNat 5) (.ofNat 1) (.ofNat 1) (.ofNat 0) (.ofNat 31) (.ofNat 0) (.ofNat 0) (.ofNat 0) (.ofNat 0) (.ofNat 0) (.ofNat 0) (.ofNat 0) (.ofNat 0) (.ofNat 0) (.ofNat 0) (.ofNat 0) (.ofNat 0) (.ofNat 10) (.ofNat 12) (.ofNat 1) (.ofNat 2) (.ofNat 0) (.ofNat 8190) [65, 66, 105] ::
  arR [108, 100, 114, 46, 119] (.ofNat 3107979264) (.ofNat 0) (.ofNat 5) (.ofNat 1) (.ofNat 1) (.ofNat 0) (.ofNat 31) (.ofNat 5) (.ofNat 5) (.ofNat 1) (.ofNat 1) (.ofNat 0) (.ofNat 31) (.ofNat 0) (.ofNat 0) (.ofNat 0) (.ofNat 0) (.ofNat 0) (.ofNat 0) (.ofNat 0) (.ofNat 0) (.ofNat 0) (.ofNat 0) (.ofNat 0) (.ofNat 0) (.ofNat 10) (.ofNat 12) (.ofNat 1) (.ofNat 4) (.ofNat 0) (.ofNat 16380) [65, 66, 105] ::
  arR [115, 116, 114, 46, 119] (.ofNat 3103784960) (.ofNat 0) (.ofNat 5) (.ofNat 1) (.ofNat 1) (.ofNat 0) (.ofNat 31) (.ofNat 5) (.ofNat 5) (.ofNat 1) (.ofNat 1) (.ofNat 0) (.ofNat 31) (.ofNat 0) (.ofNat 0) (.ofNat 0) (.ofNat 0) (.ofNat 0) (.ofNat 0) (.ofNat 0) (.ofNat 0) (.ofNat 0) (.ofNat 0) (.ofNat 0) (.ofNat 0) (.ofNat 10) (.ofNat 12) (.ofNat 1) (.ofNat 4) (.ofNat 0) (.ofNat 16380) [65, 66, 105] ::
  arR [108, 100, 114, 115, 119] (.ofNat 3112173568) (.ofNat 0) (.ofNat 5) (.ofNat 1) (.ofNat 1) (.ofNat 0) (.ofNat 31) (.ofNat 5) (.ofNat 5) (.ofNat 1) (.ofNat 1) (.ofNat 0) (.ofNat 31) (.ofNat 0) (.ofNat 0) (.ofNat 0) (.ofNat 0) (.ofNat 0) (.ofNat 0) (.ofNat 0) (.ofNat 0) (.ofNat 0) (.ofNat 0) (.ofNat 0) (.ofNat 0) (.ofNat 10) (.ofNat 12) (.ofNat 1) (.ofNat 4) (.ofNat 0) (.ofNat 16380) [65, 66, 105] ::
  arR [108, 100, 114] (.ofNat 4181721088) (.ofNat 0) (.ofNat 5) (.ofNat 1) (.ofNat 1) (.ofNat 0) (.ofNat 31) (.ofNat 5) (.ofNat 5) (.ofNat 1) (.ofNat 1) (.ofNat 0) (.ofNat 31) (.ofNat 0) (.ofNat 0) (.ofNat 0) (.ofNat 0) (.ofNat 0) (.ofNat 0) (.ofNat 0) (.ofNat 0) (.ofNat 0) (.ofNat 0) (.ofNat 0) (.ofNat 0) (.ofNat 10) (.ofNat 12) (.ofNat 1) (.ofNat 8) (.ofNat 0) (.ofNat 32760) [65, 66, 105] ::
  arR [115, 116, 114] (.ofNat 4177526784) (.ofNat 0) (.ofNat 5) (.ofNat 1) (.ofNat 1) (.ofNat 0) (.ofNat 31) (.ofNat 5) (.ofNat 5) (.ofNat 1) (.ofNat 1) (.ofNat 0) (.ofNat 31) (.ofNat 0) (.ofNat 0) (.ofNat 0) (.ofNat 0) (.ofNat 0) (.ofNat 0) (.ofNat 0) (.ofNat 0) (.ofNat 0) (.ofNat 0) (.ofNat 0) (.ofNat 0) (.ofNat 10) (.ofNat 12) (.ofNat 1) (.ofNat 8) (.ofNat 0) (.ofNat 32760) [65, 66, 105] ::
  arR [108, 100, 112] (.ofNat 2839543808) (.ofNat 0) (.ofNat 5) (.ofNat 1) (.ofNat 1) (.ofNat 0) (.ofNat 31) (.ofNat 5) (.ofNat 5) (.ofNat 1) (.ofNat 1) (.ofNat 0) (.ofNat 31) (.ofNat 10) (.ofNat 5) (.ofNat 1) (.ofNat 1) (.ofNat 0) (.ofNat 31) (.ofNat 0) (.ofNat 0) (.ofNat 0) (.ofNat 0) (.ofNat 0) (.ofNat 0) (.ofNat 15) (.ofNat 7) (.ofNat 1) (.ofNat 8) (.negSucc 511) (.ofNat 504) [65, 67, 66, 105] ::
  arR [115, 116, 112] (.ofNat 2835349504) (.ofNat 0) (.ofNat 5) (.ofNat 1) (.ofNat 1) (.ofNat 0) (.ofNat 31) (.ofNat 5) (.ofNat 5) (.ofNat 1) (.ofNat 1) (.ofNat 0) (.ofNat 31) (.ofNat 10) (.ofNat 5) (.ofNat 1) (.ofNat 1) (.ofNat 0) (.ofNat 31) (.ofNat 0) (.ofNat 0) (.ofNat 0) (.ofNat 0) (.ofNat 0) (.ofNat 0) (.ofNat 15) (.ofNat 7) (.ofNat 1) (.ofNat 8) (.negSucc 511) (.ofNat 504) [65, 67, 66, 105] ::
  arR [98] (.ofNat 335544320) (.ofNat 0) (.ofNat 0) (.ofNat 0) (.ofNat 0) (.ofNat 0) (.ofNat 0) (.ofNat 0) (.ofNat 0) (.ofNat 0) (.ofNat 0) (.ofNat 0) (.ofNat 0) (.ofNat 0) (.ofNat 0) (.ofNat 0) (.ofNat 0) (.ofNat 0) (.ofNat 0) (.ofNat 0) (.ofNat 0) (.ofNat 0) (.ofNat 0) (.ofNat 0) (.ofNat 0) (.ofNat 0) (.ofNat 26) (.ofNat 1) (.ofNat 4) (.negSucc 134217727) (.ofNat 134217724) [106] ::
  arR [98, 108] (.ofNat 2483027968) (.ofNat 0) (.ofNat 0) (.ofNat 0) (.ofNat 0) (.ofNat 0) (.ofNat 0) (.ofNat 0) (.ofNat 0) (.ofNat 0) (.ofNat 0) (.ofNat 0) (.ofNat 0) (.ofNat 0) (.ofNat 0) (.ofNat 0) (.ofNat 0) (.ofNat 0) (.ofNat 0) (.ofNat 0) (.ofNat 0) (.ofNat 0) (.ofNat 0) (.ofNat 0) (.ofNat 0) (.ofNat 0) (.ofNat 26) (.ofNat 1) (.ofNat 4) (.negSucc 134217727) (.ofNat 134217724) [106] ::
  arR [98, 46, 99] (.ofNat 1409286144) (.ofNat 0) (.ofNat 0) (.ofNat 0) (.ofNat 0) (.ofNat 0) (.ofNat 0) (.ofNat 0) (.ofNat 0) (.ofNat 0) (.ofNat 0) (.ofNat 0) (.ofNat 0) (.ofNat 0) (.ofNat 0) (.ofNat 0) (.ofNat 0) (.ofNat 0) (.ofNat 0) (.ofNat 0) (.ofNat 4) (.ofNat 1) (.ofNat 1) (.ofNat 0) (.ofNat 13) (.ofNat 5) (.ofNat 19) (.ofNat 1) (.ofNat 4) (.negSucc 1048575) (.ofNat 1048572) [99, 106] ::
  arR [99, 98, 122] (.ofNat 3019898880) (.ofNat 0) (.ofNat 5) (.ofNat 1) (.ofNat 1) (.ofNat 0) (.ofNat 31) (.ofNat 0) (.ofNat 0) (.ofNat 0) (.ofNat 0) (.ofNat 0) (.ofNat 0) (.ofNat 0) (.ofNat 0) (.ofNat 0) (.ofNat 0) (.ofNat 0) (.ofNat 0) (.ofNat 0) (.ofNat 0) (.ofNat 0) (.ofNat 0) (.ofNat 0) (.ofNat 0) (.ofNat 5) (.ofNat 19) (.ofNat 1) (.ofNat 4) (.negSucc 1048575) (.ofNat 1048572) [65, 106] ::
  arR [99, 98, 110, 122] (.ofNat 3036676096) (.ofNat 0) (.ofNat 5) (.ofNat 1) (.ofNat 1) (.ofNat 0) (.ofNat 31) (.ofNat 0) (.ofNat 0) (.ofNat 0) (.ofNat 0) (.ofNat 0) (.ofNat 0) (.ofNat 0) (.ofNat 0) (.ofNat 0) (.ofNat 0) (.ofNat 0) (.ofNat 0) (.ofNat 0) (.ofNat 0) (.ofNat 0) (.ofNat 0) (.ofNat 0) (.ofNat 0) (.ofNat 5) (.ofNat 19) (.ofNat 1) (.ofNat 4) (.negSucc 1048575) (.ofNat 1048572) [65, 106] ::
  arR [98, 114] (.ofNat 3592355840) (.ofNat 0) (.ofNat 0) (.ofNat 0) (.ofNat 0) (.ofNat 0) (.ofNat 0) (.ofNat 5) (.ofNat 5) (.ofNat 1) (.ofNat 1) (.ofNat 0) (.ofNat 31) (.ofNat 0) (.ofNat 0) (.ofNat 0) (.ofNat 0) (.ofNat 0) (.ofNat 0) (.ofNat 0) (.ofNat 0) (.ofNat 0) (.ofNat 0) (.ofNat 0) (.ofNat 0) (.ofNat 0) (.ofNat 0) (.ofNat 0) (.ofNat 0) (.ofNat 0) (.ofNat 0) [66] ::
  arR [98, 108, 114] (.ofNat 3594452992) (.ofNat 0) (.ofNat 0) (.ofNat 0) (.ofNat 0) (.ofNat 0) (.ofNat 0) (.ofNat 5) (.ofNat 5) (.ofNat 1) (.ofNat 1) (.ofNat 0) (.ofNat 31) (.ofNat 0) (.ofNat 0) (.ofNat 0) (.ofNat 0) (.ofNat 0) (.ofNat 0) (.ofNat 0) (.ofNat 0) (.ofNat 0) (.ofNat 0) (.ofNat 0) (.ofNat 0) (.ofNat 0) (.ofNat 0) (.ofNat 0) (.ofNat 0) (.ofNat 0) (.ofNat 0) [66] ::
  arR [114, 101, 116] (.ofNat 3596550144) (.ofNat 0) (.ofNat 0) (.ofNat 0) (.ofNat 0) (.ofNat 0) (.ofNat 0) (.ofNat 5) (.ofNat 5) (.ofNat 1) (.ofNat 1) (.ofNat 0) (.ofNat 31) (.ofNat 0) (.ofNat 0) (.ofNat 0) (.ofNat 0) (.ofNat 0) (.ofNat 0) (.ofNat 0) (.ofNat 0) (.ofNat 0) (.ofNat 0) (.ofNat 0) (.ofNat 0) (.ofNat 0) (.ofNat 0) (.ofNat 0) (.ofNat 0) (.ofNat 0) (.ofNat 0) [66] ::
  arR [115, 118, 99] (.ofNat 3556769793) (.ofNat 0) (.ofNat 0) (.ofNat 0) (.ofNat 0) (.ofNat 0) (.ofNat 0) (.ofNat 0) (.ofNat 0) (.ofNat 0) (.ofNat 0) (.ofNat 0) (.ofNat 0) (.ofNat 0) (.ofNat 0) (.ofNat 0) (.ofNat 0) (.ofNat 0) (.ofNat 0) (.ofNat 0) (.ofNat 0) (.ofNat 0) (.ofNat 0) (.ofNat 0) (.ofNat 0) (.ofNat 5) (.ofNat 16) (.ofNat 1) (.ofNat 1) (.ofNat 0) (.ofNat 65535) [105] ::
  arR [98, 114, 107] (.ofNat 3558866944) (.ofNat 0) (.ofNat 0) (.ofNat 0) (.ofNat 0) (.ofNat 0) (.ofNat 0) (.ofNat 0) (.ofNat 0) (.ofNat 0) (.ofNat 0) (.ofNat 0) (.ofNat 0) (.ofNat 0) (.ofNat 0) (.ofNat 0) (.ofNat 0) (.ofNat 0) (.ofNat 0) (.ofNat 0) (.ofNat 0) (.ofNat 0) (.ofNat 0) (.ofNat 0) (.ofNat 0) (.ofNat 5) (.ofNat 16) (.ofNat 1) (.ofNat 1) (.ofNat 0) (.ofNat 65535) [105] ::
  arR [110, 111, 112] (.ofNat 3573751839) (.ofNat 0) (.ofNat 0) (.ofNat 0) (.ofNat 0) (.ofNat 0) (.ofNat 0) (.ofNat 0) (.ofNat 0) (.ofNat 0) (.ofNat 0) (.ofNat 0) (.ofNat 0) (.ofNat 0) (.ofNat 0) (.ofNat 0) (.ofNat 0) (.ofNat 0) (.ofNat 0) (.ofNat 0) (.ofNat 0) (.ofNat 0) (.ofNat 0) (.ofNat 0) (.ofNat 0) (.ofNat 0) (.ofNat 0) (.ofNat 0) (.ofNat 0) (.ofNat 0) (.ofNat 0) [] :: []
def arZero : AV := .tup [.agg (arR [] (.ofNat 0) (.ofNat 0) (.ofNat 0) (.ofNat 0) (.ofNat 0) (.ofNat 0) (.ofNat 0) (.ofNat 0) (.ofNat 0) (.ofNat 0) (.ofNat 0) (.ofNat 0) (.ofNat 0) (.ofNat 0) (.ofNat 0) (.ofNat 0) (.ofNat 0) (.ofNat 0) (.ofNat 0) (.ofNat 0) (.ofNat 0) (.ofNat 0) (.ofNat 0) (.ofNat 0) (.ofNat 0) (.ofNat 0) (.ofNat 0) (.ofNat 0) (.ofNat 0) (.ofNat 0) (.ofNat 0) []), .bool false]
def arDone : Done := ⟨100, [], [12], .sl 12 0 54 (some 64), [⟨2112, 143, none, 0, false, false, (Zea ++ List.replicate 10 (arR [] (.ofNat 0) (.ofNat 0) (.ofNat 0) (.ofNat 0) (.ofNat 0) (.ofNat 0) (.ofNat 0) (.ofNat 0) (.ofNat 0) (.ofNat 0) (.ofNat 0) (.ofNat 0) (.ofNat 0) (.ofNat 0) (.ofNat 0) (.ofNat 0) (.ofNat 0) (.ofNat 0) (.ofNat 0) (.ofNat 0) (.ofNat 0) (.ofNat 0) (.ofNat 0) (.ofNat 0) (.ofNat 0) (.ofNat 0) (.ofNat 0) (.ofNat 0) (.ofNat 0) (.ofNat 0) (.ofNat 0) [])).flatten.map some⟩]⟩
theorem arDone_run : pack arDone.keep (runR E1 100000 (.call 100 arDone.args (Zap 12 gl))) = some (arDone.v, arDone.os.map some) := by kernel_rfl
theorem arDone_ok : SmOk Tryz.prog gl (Zbc arDone) := Zc1 (E := E1) (n := 100000) Zbf Za3 (by kernel_rfl) (Zac rfl) (by have := arDone_run; rw [Zat] at this; exact this) (by decide) (by kernel_rfl)
def rvR (x0 : List UInt8) (x1 : Int) (x2 : Int) : List AV := .str x0 :: .int .i64 x1 :: .int .u32 x2 :: []
def Zdv : List (List AV) :=
  rvR [97, 100, 100] (.ofNat 0) (.ofNat 51) ::
  rvR [115, 117, 98] (.ofNat 0) (.ofNat 1073741875) ::
  rvR [115, 108, 108] (.ofNat 0) (.ofNat 4147) ::
  rvR [115, 108, 116] (.ofNat 0) (.ofNat 8243) ::
  rvR [115, 108, 116, 117] (.ofNat 0) (.ofNat 12339) ::
  rvR [120, 111, 114] (.ofNat 0) (.ofNat 16435) ::
  rvR [115, 114, 108] (.ofNat 0) (.ofNat 20531) ::
  rvR [115, 114, 97] (.ofNat 0) (.ofNat 1073762355) ::
  rvR [111, 114] (.ofNat 0) (.ofNat 24627) ::
  rvR [97, 110, 100] (.ofNat 0) (.ofNat 28723) ::
  rvR [109, 117, 108] (.ofNat 0) (.ofNat 33554483) ::
  rvR [109, 117, 108, 104] (.ofNat 0) (.ofNat 33558579) ::
  rvR [109, 117, 108, 104, 115, 117] (.ofNat 0) (.ofNat 33562675) ::
  rvR [109, 117, 108, 104, 117] (.ofNat 0) (.ofNat 33566771) ::
  rvR [100, 105, 118] (.ofNat 0) (.ofNat 33570867) ::
  rvR [100, 105, 118, 117] (.ofNat 0) (.ofNat 33574963) ::
  rvR [114, 101, 109] (.ofNat 0) (.ofNat 33579059) ::
  rvR [114, 101, 109, 117] (.ofNat 0) (.ofNat 33583155) ::
  rvR [97, 100, 100, 119] (.ofNat 0) (.ofNat 59) ::
  rvR [115, 117, 98, 119] (.ofNat 0) (.ofNat 1073741883) ::
  rvR [115, 108, 108, 119] (.ofNat 0) (.ofNat 4155) ::
  rvR [115, 114, 108, 119] (.ofNat 0) (.ofNat 20539) ::
  rvR [115, 114, 97, 119] (.ofNat 0) (.ofNat 1073762363) ::
  rvR [109, 117, 108, 119] (.ofNat 0) (.ofNat 33554491) ::
  rvR [100, 105, 118, 119] (.ofNat 0) (.ofNat 33570875) ::
  rvR [100, 105, 118, 117, 119] (.ofNat 0) (.ofNat 33574971) ::
  rvR [114, 101, 109, 119] (.ofNat 0) (.ofNat 33579067) ::
  rvR [114, 101, 109, 117, 119] (.ofNat 0) (.ofNat 33583163) ::
  rvR [97, 100, 100, 105] (.ofNat 1) (.ofNat 19) ::
  rvR [115, 108, 116, 105] (.ofNat 1) (.ofNat 8211) ::
  rvR [115, 108, 116, 105, 117] (.ofNat 1) (.ofNat 12307) ::
  rvR [120, 111, 114, 105] (.ofNat 1) (.ofNat 16403) ::
  rvR [111, 114, 105] (.ofNat 1) (.ofNat 24595) ::
  rvR [97, 110, 100, 105] (.ofNat 1) (.ofNat 28691) ::
  rvR [97, 100, 100, 105, 119] (.ofNat 1) (.ofNat 27) ::
  rvR [108, 98] (.ofNat 1) (.ofNat 3) ::
  rvR [108, 104] (.ofNat 1) (.ofNat 4099) ::
  rvR [108, 119] (.ofNat 1) (.ofNat 8195) ::
  rvR [108, 100] (.ofNat 1) (.ofNat 12291) ::
  rvR [108, 98, 117] (.ofNat 1) (.ofNat 16387) ::
  rvR [108, 104, 117] (.ofNat 1) (.ofNat 20483) ::
  rvR [108, 119, 117] (.ofNat 1) (.ofNat 24579) ::
  rvR [106, 97, 108, 114] (.ofNat 1) (.ofNat 103) ::
  rvR [115, 108, 108, 105] (.ofNat 2) (.ofNat 4115) ::
  rvR [115, 114, 108, 105] (.ofNat 2) (.ofNat 20499) ::
  rvR [115, 114, 97, 105] (.ofNat 2) (.ofNat 1073762323) ::
  rvR [115, 108, 108, 105, 119] (.ofNat 3) (.ofNat 4123) ::
  rvR [115, 114, 108, 105, 119] (.ofNat 3) (.ofNat 20507) ::
  rvR [115, 114, 97, 105, 119] (.ofNat 3) (.ofNat 1073762331) ::
  rvR [115, 98] (.ofNat 4) (.ofNat 35) ::
  rvR [115, 104] (.ofNat 4) (.ofNat 4131) ::
  rvR [115, 119] (.ofNat 4) (.ofNat 8227) ::
  rvR [115, 100] (.ofNat 4) (.ofNat 12323) ::
  rvR [98, 101, 113] (.ofNat 5) (.ofNat 99) ::
  rvR [98, 110, 101] (.ofNat 5) (.ofNat 4195) ::
  rvR [98, 108, 116] (.ofNat 5) (.ofNat 16483) ::
  rvR [98, 103, 101] (.ofNat 5) (.ofNat 20579) ::
  rvR [98, 108, 116, 117] (.ofNat 5) (.ofNat 24675) ::
  rvR [98, 103, 101, 117] (.ofNat 5) (.ofNat 28771) ::
  rvR [108, 117, 105] (.ofNat 6) (.ofNat 55) ::
  rvR [97, 117, 105, 112, 99] (.ofNat 6) (.ofNat 23) ::
  rvR [106, 97, 108] (.ofNat 7) (.ofNat 111) ::
  rvR [101, 99, 97, 108, 108] (.ofNat 8) (.ofNat 115) ::
  rvR [101, 98, 114, 101, 97, 107] (.ofNat 8) (.ofNat 1048691) :: []
def rvZero : AV := .tup [.agg (rvR [] (.ofNat 0) (.ofNat 0)), .bool false]
def rvDone : Done := ⟨164, [], [12], .sl 12 0 64 (some 64), [⟨192, 205, none, 0, false, false, (Zdv ++ List.replicate 0 ([])).flatten.map some⟩]⟩
theorem rvDone_run : pack rvDone.keep (runR E1 100000 (.call 164 rvDone.args (Zap 12 gl))) = some (rvDone.v, rvDone.os.map some) := by kernel_rfl
theorem rvDone_ok : SmOk Tryz.prog gl (Zbc rvDone) := Zc1 (E := E1) (n := 100000) Zbf Za3 (by kernel_rfl) (Zac rfl) (by have := rvDone_run; rw [Zat] at this; exact this) (by decide) (by kernel_rfl)
def coR (x0 : List UInt8) (x1 : List UInt8) (x2 : Int) (x3 : Int) (x4 : Int) (x5 : List UInt8) (x6 : List UInt8) : List AV := .str x0 :: .str x1 :: .int .i64 x2 :: .int .i64 x3 :: .int .i64 x4 :: .str x5 :: .str x6 :: []
def Zd4 : List (List AV) :=
  coR [99, 46, 97, 100, 100, 105, 52, 115, 112, 110] [48, 48, 48, 32, 115, 91, 53, 58, 52, 93, 32, 115, 91, 57, 58, 54, 93, 32, 115, 91, 50, 93, 32, 115, 91, 51, 93, 32, 97, 39, 32, 48, 48] (.ofNat 4) (.ofNat 1020) (.ofNat 4) [] [97, 100, 100, 105, 32, 65, 32, 50, 32, 48, 32, 115] ::
  coR [99, 46, 108, 119] [48, 49, 48, 32, 115, 91, 53, 58, 51, 93, 32, 98, 39, 32, 115, 91, 50, 93, 32, 115, 91, 54, 93, 32, 97, 39, 32, 48, 48] (.ofNat 0) (.ofNat 124) (.ofNat 4) [] [108, 119, 32, 65, 32, 66, 32, 48, 32, 115] ::
  coR [99, 46, 108, 100] [48, 49, 49, 32, 115, 91, 53, 58, 51, 93, 32, 98, 39, 32, 115, 91, 55, 58, 54, 93, 32, 97, 39, 32, 48, 48] (.ofNat 0) (.ofNat 248) (.ofNat 8) [] [108, 100, 32, 65, 32, 66, 32, 48, 32, 115] ::
  coR [99, 46, 115, 119] [49, 49, 48, 32, 115, 91, 53, 58, 51, 93, 32, 98, 39, 32, 115, 91, 50, 93, 32, 115, 91, 54, 93, 32, 99, 39, 32, 48, 48] (.ofNat 0) (.ofNat 124) (.ofNat 4) [] [115, 119, 32, 48, 32, 66, 32, 67, 32, 115] ::
  coR [99, 46, 115, 100] [49, 49, 49, 32, 115, 91, 53, 58, 51, 93, 32, 98, 39, 32, 115, 91, 55, 58, 54, 93, 32, 99, 39, 32, 48, 48] (.ofNat 0) (.ofNat 248) (.ofNat 8) [] [115, 100, 32, 48, 32, 66, 32, 67, 32, 115] ::
  coR [99, 46, 110, 111, 112] [48, 48, 48, 32, 48, 32, 48, 48, 48, 48, 48, 32, 48, 48, 48, 48, 48, 32, 48, 49] (.ofNat 0) (.ofNat 0) (.ofNat 1) [] [97, 100, 100, 105, 32, 48, 32, 48, 32, 48, 32, 48] ::
  coR [99, 46, 97, 100, 100, 105] [48, 48, 48, 32, 115, 91, 53, 93, 32, 97, 32, 115, 91, 52, 58, 48, 93, 32, 48, 49] (.negSucc 31) (.ofNat 31) (.ofNat 1) [115, 65] [97, 100, 100, 105, 32, 65, 32, 65, 32, 48, 32, 115] ::
  coR [99, 46, 97, 100, 100, 105, 119] [48, 48, 49, 32, 115, 91, 53, 93, 32, 97, 32, 115, 91, 52, 58, 48, 93, 32, 48, 49] (.negSucc 31) (.ofNat 31) (.ofNat 1) [65] [97, 100, 100, 105, 119, 32, 65, 32, 65, 32, 48, 32, 115] ::
  coR [99, 46, 108, 105] [48, 49, 48, 32, 115, 91, 53, 93, 32, 97, 32, 115, 91, 52, 58, 48, 93, 32, 48, 49] (.negSucc 31) (.ofNat 31) (.ofNat 1) [65] [97, 100, 100, 105, 32, 65, 32, 48, 32, 48, 32, 115] ::
  coR [99, 46, 97, 100, 100, 105, 49, 54, 115, 112] [48, 49, 49, 32, 115, 91, 57, 93, 32, 48, 48, 48, 49, 48, 32, 115, 91, 52, 93, 32, 115, 91, 54, 93, 32, 115, 91, 56, 58, 55, 93, 32, 115, 91, 53, 93, 32, 48, 49] (.negSucc 511) (.ofNat 496) (.ofNat 16) [115] [97, 100, 100, 105, 32, 50, 32, 50, 32, 48, 32, 115] ::
  coR [99, 46, 108, 117, 105] [48, 49, 49, 32, 115, 91, 53, 93, 32, 97, 32, 115, 91, 52, 58, 48, 93, 32, 48, 49] (.negSucc 31) (.ofNat 31) (.ofNat 1) [115, 65, 50] [108, 117, 105, 32, 65, 32, 48, 32, 48, 32, 115] ::
  coR [99, 46, 115, 114, 108, 105] [49, 48, 48, 32, 115, 91, 53, 93, 32, 48, 48, 32, 97, 39, 32, 115, 91, 52, 58, 48, 93, 32, 48, 49] (.ofNat 1) (.ofNat 63) (.ofNat 1) [] [115, 114, 108, 105, 32, 65, 32, 65, 32, 48, 32, 115] ::
  coR [99, 46, 115, 114, 97, 105] [49, 48, 48, 32, 115, 91, 53, 93, 32, 48, 49, 32, 97, 39, 32, 115, 91, 52, 58, 48, 93, 32, 48, 49] (.ofNat 1) (.ofNat 63) (.ofNat 1) [] [115, 114, 97, 105, 32, 65, 32, 65, 32, 48, 32, 115] ::
  coR [99, 46, 97, 110, 100, 105] [49, 48, 48, 32, 115, 91, 53, 93, 32, 49, 48, 32, 97, 39, 32, 115, 91, 52, 58, 48, 93, 32, 48, 49] (.negSucc 31) (.ofNat 31) (.ofNat 1) [] [97, 110, 100, 105, 32, 65, 32, 65, 32, 48, 32, 115] ::
  coR [99, 46, 115, 117, 98] [49, 48, 48, 32, 48, 32, 49, 49, 32, 97, 39, 32, 48, 48, 32, 99, 39, 32, 48, 49] (.ofNat 0) (.ofNat 0) (.ofNat 1) [] [115, 117, 98, 32, 65, 32, 65, 32, 67, 32, 48] ::
  coR [99, 46, 120, 111, 114] [49, 48, 48, 32, 48, 32, 49, 49, 32, 97, 39, 32, 48, 49, 32, 99, 39, 32, 48, 49] (.ofNat 0) (.ofNat 0) (.ofNat 1) [] [120, 111, 114, 32, 65, 32, 65, 32, 67, 32, 48] ::
  coR [99, 46, 111, 114] [49, 48, 48, 32, 48, 32, 49, 49, 32, 97, 39, 32, 49, 48, 32, 99, 39, 32, 48, 49] (.ofNat 0) (.ofNat 0) (.ofNat 1) [] [111, 114, 32, 65, 32, 65, 32, 67, 32, 48] ::
  coR [99, 46, 97, 110, 100] [49, 48, 48, 32, 48, 32, 49, 49, 32, 97, 39, 32, 49, 49, 32, 99, 39, 32, 48, 49] (.ofNat 0) (.ofNat 0) (.ofNat 1) [] [97, 110, 100, 32, 65, 32, 65, 32, 67, 32, 48] ::
  coR [99, 46, 115, 117, 98, 119] [49, 48, 48, 32, 49, 32, 49, 49, 32, 97, 39, 32, 48, 48, 32, 99, 39, 32, 48, 49] (.ofNat 0) (.ofNat 0) (.ofNat 1) [] [115, 117, 98, 119, 32, 65, 32, 65, 32, 67, 32, 48] ::
  coR [99, 46, 97, 100, 100, 119] [49, 48, 48, 32, 49, 32, 49, 49, 32, 97, 39, 32, 48, 49, 32, 99, 39, 32, 48, 49] (.ofNat 0) (.ofNat 0) (.ofNat 1) [] [97, 100, 100, 119, 32, 65, 32, 65, 32, 67, 32, 48] ::
  coR [99, 46, 106] [49, 48, 49, 32, 115, 91, 49, 49, 93, 32, 115, 91, 52, 93, 32, 115, 91, 57, 58, 56, 93, 32, 115, 91, 49, 48, 93, 32, 115, 91, 54, 93, 32, 115, 91, 55, 93, 32, 115, 91, 51, 58, 49, 93, 32, 115, 91, 53, 93, 32, 48, 49] (.negSucc 2047) (.ofNat 2046) (.ofNat 2) [] [106, 97, 108, 32, 48, 32, 48, 32, 48, 32, 115] ::
  coR [99, 46, 98, 101, 113, 122] [49, 49, 48, 32, 115, 91, 56, 93, 32, 115, 91, 52, 58, 51, 93, 32, 98, 39, 32, 115, 91, 55, 58, 54, 93, 32, 115, 91, 50, 58, 49, 93, 32, 115, 91, 53, 93, 32, 48, 49] (.negSucc 255) (.ofNat 254) (.ofNat 2) [] [98, 101, 113, 32, 48, 32, 66, 32, 48, 32, 115] ::
  coR [99, 46, 98, 110, 101, 122] [49, 49, 49, 32, 115, 91, 56, 93, 32, 115, 91, 52, 58, 51, 93, 32, 98, 39, 32, 115, 91, 55, 58, 54, 93, 32, 115, 91, 50, 58, 49, 93, 32, 115, 91, 53, 93, 32, 48, 49] (.negSucc 255) (.ofNat 254) (.ofNat 2) [] [98, 110, 101, 32, 48, 32, 66, 32, 48, 32, 115] ::
  coR [99, 46, 115, 108, 108, 105] [48, 48, 48, 32, 115, 91, 53, 93, 32, 97, 32, 115, 91, 52, 58, 48, 93, 32, 49, 48] (.ofNat 1) (.ofNat 63) (.ofNat 1) [65] [115, 108, 108, 105, 32, 65, 32, 65, 32, 48, 32, 115] ::
  coR [99, 46, 108, 119, 115, 112] [48, 49, 48, 32, 115, 91, 53, 93, 32, 97, 32, 115, 91, 52, 58, 50, 93, 32, 115, 91, 55, 58, 54, 93, 32, 49, 48] (.ofNat 0) (.ofNat 252) (.ofNat 4) [65] [108, 119, 32, 65, 32, 50, 32, 48, 32, 115] ::
  coR [99, 46, 108, 100, 115, 112] [48, 49, 49, 32, 115, 91, 53, 93, 32, 97, 32, 115, 91, 52, 58, 51, 93, 32, 115, 91, 56, 58, 54, 93, 32, 49, 48] (.ofNat 0) (.ofNat 504) (.ofNat 8) [65] [108, 100, 32, 65, 32, 50, 32, 48, 32, 115] ::
  coR [99, 46, 106, 114] [49, 48, 48, 32, 48, 32, 98, 32, 48, 48, 48, 48, 48, 32, 49, 48] (.ofNat 0) (.ofNat 0) (.ofNat 1) [66] [106, 97, 108, 114, 32, 48, 32, 66, 32, 48, 32, 48] ::
  coR [99, 46, 106, 97, 108, 114] [49, 48, 48, 32, 49, 32, 98, 32, 48, 48, 48, 48, 48, 32, 49, 48] (.ofNat 0) (.ofNat 0) (.ofNat 1) [66] [106, 97, 108, 114, 32, 49, 32, 66, 32, 48, 32, 48] ::
  coR [99, 46, 109, 118] [49, 48, 48, 32, 48, 32, 97, 32, 99, 32, 49, 48] (.ofNat 0) (.ofNat 0) (.ofNat 1) [65, 67] [97, 100, 100, 32, 65, 32, 48, 32, 67, 32, 48] ::
  coR [99, 46, 97, 100, 100] [49, 48, 48, 32, 49, 32, 97, 32, 99, 32, 49, 48] (.ofNat 0) (.ofNat 0) (.ofNat 1) [65, 67] [97, 100, 100, 32, 65, 32, 65, 32, 67, 32, 48] ::
  coR [99, 46, 101, 98, 114, 101, 97, 107] [49, 48, 48, 32, 49, 32, 48, 48, 48, 48, 48, 32, 48, 48, 48, 48, 48, 32, 49, 48] (.ofNat 0) (.ofNat 0) (.ofNat 1) [] [101, 98, 114, 101, 97, 107, 32, 48, 32, 48, 32, 48, 32, 48] ::
  coR [99, 46, 115, 119, 115, 112] [49, 49, 48, 32, 115, 91, 53, 58, 50, 93, 32, 115, 91, 55, 58, 54, 93, 32, 99, 32, 49, 48] (.ofNat 0) (.ofNat 252) (.ofNat 4) [] [115, 119, 32, 48, 32, 50, 32, 67, 32, 115] ::
  coR [99, 46, 115, 100, 115, 112] [49, 49, 49, 32, 115, 91, 53, 58, 51, 93, 32, 115, 91, 56, 58, 54, 93, 32, 99, 32, 49, 48] (.ofNat 0) (.ofNat 504) (.ofNat 8) [] [115, 100, 32, 48, 32, 50, 32, 67, 32, 115] :: []
def coZero : AV := .tup [.agg (coR [] [] (.ofNat 0) (.ofNat 0) (.ofNat 0) [] []), .bool false]
def coDone : Done := ⟨161, [], [12], .sl 12 0 33 (some 33), [⟨231, 195, none, 0, false, false, (Zd4 ++ List.replicate 0 ([])).flatten.map some⟩]⟩
theorem coDone_run : pack coDone.keep (runR E1 100000 (.call 161 coDone.args (Zap 12 gl))) = some (coDone.v, coDone.os.map some) := by kernel_rfl
theorem coDone_ok : SmOk Tryz.prog gl (Zbc coDone) := Zc1 (E := E1) (n := 100000) Zbf Za3 (by kernel_rfl) (Zac rfl) (by have := coDone_run; rw [Zat] at this; exact this) (by decide) (by kernel_rfl)
def rowsSm : Sm := orSm (Zbc amDone) (orSm (Zbc arDone) (orSm (Zbc rvDone) (Zbc coDone)))
theorem rows_ok : SmOk Tryz.prog gl rowsSm := amDone_ok.or (arDone_ok.or (rvDone_ok.or coDone_ok))
noncomputable def E2 : Env := Zdn Tryz.prog 12 [15, 96, 100, 164, 161] (orSm (Zd2 kinds) (orSm (Zb7 15) rowsSm))
theorem e2_ok (w : World) (hw : Zay gl w) : EnvOk E2 Tryz.prog (Kept gl w) := Zb9 (by kernel_rfl) ((Zcc ext_ok).or (Zca.or rows_ok)) Zcb (fun _ _ _ h => h.1) (Zau hw).ext
end
end Go.Proofs.YtbfdooplkdofeaaGreatDoor
