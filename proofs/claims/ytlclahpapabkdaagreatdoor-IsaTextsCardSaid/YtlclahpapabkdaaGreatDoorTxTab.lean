/- The three tables: names, operands, faults. -/
import Derived.Test.YtlclahpapabkdaaGreatDoorTxK
import Derived.Test.YtlclahpapabkdaaGreatDoorTxV
import Derived.Test.YtlclahpapabkdaaGreatDoorTxV0
import Derived.Test.YtlclahpapabkdaaGreatDoorTxC0
import Derived.Test.YtlclahpapabkdaaGreatDoorTxR0
import Derived.Test.YtlclahpapabkdaaGreatDoorTxR1
import Derived.Test.YtlclahpapabkdaaGreatDoorTxR2
import Derived.Test.YtlclahpapabkdaaGreatDoorTxR3
import Derived.KernelRfl
namespace Go.Proofs.YtlclahpapabkdaaGreatDoor
open Go Go.Vai
noncomputable section
set_option maxRecDepth 100000
abbrev Fn5 := Int → Int → Int → Int → Int → Int
abbrev Ent := List UInt8 × Nat × Fn5
def Row (t : Int) (x : Ent) : Prop := (∀ A B C D I, Ans9 t x.1 A B C D I (x.2.2 A B C D I)) ∧ (∀ A B C D I, x.2.2 A B C D I = 0 → okC x.2.1 A B C D I) ∧ RowT t x.1 x.2.1
def AllR (t : Int) : List Ent → Prop
  | [] => True
  | x :: l => Row t x ∧ AllR t l
theorem allR_mem {t : Int} : ∀ {l : List Ent}, AllR t l → ∀ x ∈ l, Row t x
  | _ :: _, h, x, hx => by
    rcases List.mem_cons.1 hx with rfl | hx
    · exact h.1
    · exact allR_mem h.2 x hx
def tab1 : List Ent :=
  ([109, 111, 118, 46, 114, 114], 2, fun A B C D I => ee0 A B C D I) ::
  ([109, 111, 118, 46, 114, 105], 4, fun A B C D I => ee1 9223372036854775807 A B C D I) ::
  ([109, 111, 118, 46, 114, 115], 4, fun A B C D I => ee1 2147483647 A B C D I) ::
  ([109, 111, 118, 46, 114, 109], 5, fun A B C D I => em0 A B C D I) ::
  ([109, 111, 118, 108, 46, 114, 109], 5, fun A B C D I => em1 A B C D I) ::
  ([109, 111, 118, 115, 108, 46, 114, 109], 5, fun A B C D I => em0 A B C D I) ::
  ([109, 111, 118, 122, 98, 46, 114, 109], 5, fun A B C D I => em0 A B C D I) ::
  ([108, 101, 97], 5, fun A B C D I => em0 A B C D I) ::
  ([109, 111, 118, 46, 109, 114], 5, fun A B C D I => em0 A B C D I) ::
  ([109, 111, 118, 108, 46, 109, 114], 5, fun A B C D I => em1 A B C D I) ::
  ([109, 111, 118, 98, 46, 109, 114], 5, fun A B C D I => em0 A B C D I) ::
  ([109, 111, 118, 46, 102, 115], 4, fun A B C D I => ee1 2147483647 A B C D I) ::
  ([97, 100, 100, 46, 114, 114], 2, fun A B C D I => ee0 A B C D I) ::
  ([111, 114, 46, 114, 114], 2, fun A B C D I => ee0 A B C D I) ::
  ([97, 110, 100, 46, 114, 114], 2, fun A B C D I => ee0 A B C D I) ::
  ([115, 117, 98, 46, 114, 114], 2, fun A B C D I => ee0 A B C D I) ::
  ([120, 111, 114, 46, 114, 114], 2, fun A B C D I => ee0 A B C D I) ::
  ([99, 109, 112, 46, 114, 114], 2, fun A B C D I => ee0 A B C D I) ::
  ([97, 100, 100, 46, 114, 109], 5, fun A B C D I => em0 A B C D I) ::
  ([111, 114, 46, 114, 109], 5, fun A B C D I => em0 A B C D I) ::
  ([97, 110, 100, 46, 114, 109], 5, fun A B C D I => em0 A B C D I) ::
  ([115, 117, 98, 46, 114, 109], 5, fun A B C D I => em0 A B C D I) ::
  ([120, 111, 114, 46, 114, 109], 5, fun A B C D I => em0 A B C D I) ::
  ([99, 109, 112, 46, 114, 109], 5, fun A B C D I => em0 A B C D I) ::
  ([97, 100, 100, 46, 114, 105], 4, fun A B C D I => ee2 A B C D I) ::
  ([111, 114, 46, 114, 105], 4, fun A B C D I => ee2 A B C D I) ::
  ([97, 110, 100, 46, 114, 105], 4, fun A B C D I => ee2 A B C D I) ::
  ([115, 117, 98, 46, 114, 105], 4, fun A B C D I => ee2 A B C D I) ::
  ([120, 111, 114, 46, 114, 105], 4, fun A B C D I => ee2 A B C D I) ::
  ([99, 109, 112, 46, 114, 105], 4, fun A B C D I => ee2 A B C D I) ::
  ([116, 101, 115, 116, 46, 114, 114], 2, fun A B C D I => ee0 A B C D I) ::
  ([105, 109, 117, 108, 46, 114, 114], 2, fun A B C D I => ee0 A B C D I) ::
  ([110, 111, 116], 1, fun A B C D I => ee3 A B C D I) ::
  ([110, 101, 103], 1, fun A B C D I => ee3 A B C D I) ::
  ([109, 117, 108], 1, fun A B C D I => ee3 A B C D I) ::
  ([100, 105, 118], 1, fun A B C D I => ee3 A B C D I) ::
  ([105, 100, 105, 118], 1, fun A B C D I => ee3 A B C D I) ::
  ([99, 113, 111], 0, fun A B C D I => ee4 A B C D I) ::
  ([115, 104, 108, 46, 114, 105], 4, fun A B C D I => ee5 A B C D I) ::
  ([115, 104, 114, 46, 114, 105], 4, fun A B C D I => ee5 A B C D I) ::
  ([115, 97, 114, 46, 114, 105], 4, fun A B C D I => ee5 A B C D I) ::
  ([115, 104, 108, 46, 114, 99], 1, fun A B C D I => ee3 A B C D I) ::
  ([115, 104, 114, 46, 114, 99], 1, fun A B C D I => ee3 A B C D I) ::
  ([115, 97, 114, 46, 114, 99], 1, fun A B C D I => ee3 A B C D I) ::
  ([99, 109, 111, 118], 3, fun A B C D I => ee6 A B C D I) ::
  ([112, 117, 115, 104], 1, fun A B C D I => ee7 A B C D I) ::
  ([112, 111, 112], 1, fun A B C D I => ee7 A B C D I) ::
  ([99, 97, 108, 108], 7, fun A B C D I => ee8 2147483647 A B C D I) ::
  ([106, 109, 112], 7, fun A B C D I => ee8 2147483647 A B C D I) ::
  ([106, 109, 112, 46, 115], 7, fun A B C D I => ee8 127 A B C D I) ::
  ([99, 97, 108, 108, 46, 114], 1, fun A B C D I => ee9 A B C D I) ::
  ([106, 109, 112, 46, 114], 1, fun A B C D I => ee9 A B C D I) ::
  ([106, 99, 99], 6, fun A B C D I => ee10 2147483647 A B C D I) ::
  ([106, 99, 99, 46, 115], 6, fun A B C D I => ee10 127 A B C D I) ::
  ([114, 101, 116], 0, fun A B C D I => ee4 A B C D I) ::
  ([115, 121, 115, 99, 97, 108, 108], 0, fun A B C D I => ee4 A B C D I) ::
  ([110, 111, 112], 0, fun A B C D I => ee4 A B C D I) ::
  ([117, 100, 50], 0, fun A B C D I => ee4 A B C D I) :: []
def tab2 : List Ent :=
  ([109, 111, 118, 110], 18, fun A B C D I => ee11 2457862144 A B C D I) ::
  ([109, 111, 118, 122], 18, fun A B C D I => ee11 3531603968 A B C D I) ::
  ([109, 111, 118, 107], 18, fun A B C D I => ee11 4068474880 A B C D I) ::
  ([97, 100, 100, 46, 105], 14, fun A B C D I => ee12 2432696320 A B C D I) ::
  ([97, 100, 100, 115, 46, 105], 14, fun A B C D I => ee12 2969567232 A B C D I) ::
  ([115, 117, 98, 46, 105], 14, fun A B C D I => ee12 3506438144 A B C D I) ::
  ([115, 117, 98, 115, 46, 105], 14, fun A B C D I => ee12 4043309056 A B C D I) ::
  ([97, 100, 100], 12, fun A B C D I => ee13 31 63 2332033024 63 10 A B C D I) ::
  ([97, 100, 100, 115], 12, fun A B C D I => ee13 31 63 2868903936 63 10 A B C D I) ::
  ([115, 117, 98], 12, fun A B C D I => ee13 31 63 3405774848 63 10 A B C D I) ::
  ([115, 117, 98, 115], 12, fun A B C D I => ee13 31 63 3942645760 63 10 A B C D I) ::
  ([97, 110, 100], 12, fun A B C D I => ee13 31 63 2315255808 63 10 A B C D I) ::
  ([111, 114, 114], 12, fun A B C D I => ee13 31 63 2852126720 63 10 A B C D I) ::
  ([101, 111, 114], 12, fun A B C D I => ee13 31 63 3388997632 63 10 A B C D I) ::
  ([97, 110, 100, 115], 12, fun A B C D I => ee13 31 63 3925868544 63 10 A B C D I) ::
  ([97, 110, 100, 46, 105], 13, fun A B C D I => ee14 2449473536 A B C D I) ::
  ([111, 114, 114, 46, 105], 13, fun A B C D I => ee14 2986344448 A B C D I) ::
  ([101, 111, 114, 46, 105], 13, fun A B C D I => ee14 3523215360 A B C D I) ::
  ([97, 110, 100, 115, 46, 105], 13, fun A B C D I => ee14 4060086272 A B C D I) ::
  ([109, 97, 100, 100], 10, fun A B C D I => ee13 31 31 2600468480 31 10 A B C D I) ::
  ([109, 115, 117, 98], 10, fun A B C D I => ee13 31 31 2600501248 31 10 A B C D I) ::
  ([117, 100, 105, 118], 9, fun A B C D I => ee15 2596276224 A B C D I) ::
  ([115, 100, 105, 118], 9, fun A B C D I => ee15 2596277248 A B C D I) ::
  ([108, 115, 108, 118], 9, fun A B C D I => ee15 2596282368 A B C D I) ::
  ([108, 115, 114, 118], 9, fun A B C D I => ee15 2596283392 A B C D I) ::
  ([97, 115, 114, 118], 9, fun A B C D I => ee15 2596284416 A B C D I) ::
  ([115, 98, 102, 109], 15, fun A B C D I => ee13 63 63 2470445056 63 10 A B C D I) ::
  ([117, 98, 102, 109], 15, fun A B C D I => ee13 63 63 3544186880 63 10 A B C D I) ::
  ([99, 115, 101, 108], 11, fun A B C D I => ee13 31 13 2592079872 15 12 A B C D I) ::
  ([99, 115, 105, 110, 99], 11, fun A B C D I => ee13 31 13 2592080896 15 12 A B C D I) ::
  ([97, 100, 114], 17, fun A B C D I => ee16 1048575 1 268435456 A B C D I) ::
  ([97, 100, 114, 112], 17, fun A B C D I => ee16 1048575 1 2415919104 A B C D I) ::
  ([108, 100, 114, 98], 13, fun A B C D I => ee17 4095 1 960495616 A B C D I) ::
  ([115, 116, 114, 98], 13, fun A B C D I => ee17 4095 1 956301312 A B C D I) ::
  ([108, 100, 114, 104], 13, fun A B C D I => ee17 8190 2 2034237440 A B C D I) ::
  ([115, 116, 114, 104], 13, fun A B C D I => ee17 8190 2 2030043136 A B C D I) ::
  ([108, 100, 114, 46, 119], 13, fun A B C D I => ee17 16380 4 3107979264 A B C D I) ::
  ([115, 116, 114, 46, 119], 13, fun A B C D I => ee17 16380 4 3103784960 A B C D I) ::
  ([108, 100, 114, 115, 119], 13, fun A B C D I => ee17 16380 4 3112173568 A B C D I) ::
  ([108, 100, 114], 13, fun A B C D I => ee17 32760 8 4181721088 A B C D I) ::
  ([115, 116, 114], 13, fun A B C D I => ee17 32760 8 4177526784 A B C D I) ::
  ([108, 100, 112], 16, fun A B C D I => ee18 2839543808 A B C D I) ::
  ([115, 116, 112], 16, fun A B C D I => ee18 2835349504 A B C D I) ::
  ([98], 21, fun A B C D I => ee19 A B C D I) ::
  ([98, 108], 21, fun A B C D I => ee19 A B C D I) ::
  ([98, 46, 99], 20, fun A B C D I => ee20 A B C D I) ::
  ([99, 98, 122], 17, fun A B C D I => ee16 1048572 4 3019898880 A B C D I) ::
  ([99, 98, 110, 122], 17, fun A B C D I => ee16 1048572 4 3036676096 A B C D I) ::
  ([98, 114], 19, fun A B C D I => ee21 3592355840 A B C D I) ::
  ([98, 108, 114], 19, fun A B C D I => ee21 3594452992 A B C D I) ::
  ([114, 101, 116], 19, fun A B C D I => ee21 3596550144 A B C D I) ::
  ([115, 118, 99], 21, fun A B C D I => ee22 A B C D I) ::
  ([98, 114, 107], 21, fun A B C D I => ee22 A B C D I) ::
  ([110, 111, 112], 8, fun A B C D I => ee23 A B C D I) :: []
def tab3 : List Ent :=
  ([97, 100, 100], 23, fun A B C D I => ee24 51 A B C D I) ::
  ([115, 117, 98], 23, fun A B C D I => ee24 1073741875 A B C D I) ::
  ([115, 108, 108], 23, fun A B C D I => ee24 4147 A B C D I) ::
  ([115, 108, 116], 23, fun A B C D I => ee24 8243 A B C D I) ::
  ([115, 108, 116, 117], 23, fun A B C D I => ee24 12339 A B C D I) ::
  ([120, 111, 114], 23, fun A B C D I => ee24 16435 A B C D I) ::
  ([115, 114, 108], 23, fun A B C D I => ee24 20531 A B C D I) ::
  ([115, 114, 97], 23, fun A B C D I => ee24 1073762355 A B C D I) ::
  ([111, 114], 23, fun A B C D I => ee24 24627 A B C D I) ::
  ([97, 110, 100], 23, fun A B C D I => ee24 28723 A B C D I) ::
  ([109, 117, 108], 23, fun A B C D I => ee24 33554483 A B C D I) ::
  ([109, 117, 108, 104], 23, fun A B C D I => ee24 33558579 A B C D I) ::
  ([109, 117, 108, 104, 115, 117], 23, fun A B C D I => ee24 33562675 A B C D I) ::
  ([109, 117, 108, 104, 117], 23, fun A B C D I => ee24 33566771 A B C D I) ::
  ([100, 105, 118], 23, fun A B C D I => ee24 33570867 A B C D I) ::
  ([100, 105, 118, 117], 23, fun A B C D I => ee24 33574963 A B C D I) ::
  ([114, 101, 109], 23, fun A B C D I => ee24 33579059 A B C D I) ::
  ([114, 101, 109, 117], 23, fun A B C D I => ee24 33583155 A B C D I) ::
  ([97, 100, 100, 119], 23, fun A B C D I => ee24 59 A B C D I) ::
  ([115, 117, 98, 119], 23, fun A B C D I => ee24 1073741883 A B C D I) ::
  ([115, 108, 108, 119], 23, fun A B C D I => ee24 4155 A B C D I) ::
  ([115, 114, 108, 119], 23, fun A B C D I => ee24 20539 A B C D I) ::
  ([115, 114, 97, 119], 23, fun A B C D I => ee24 1073762363 A B C D I) ::
  ([109, 117, 108, 119], 23, fun A B C D I => ee24 33554491 A B C D I) ::
  ([100, 105, 118, 119], 23, fun A B C D I => ee24 33570875 A B C D I) ::
  ([100, 105, 118, 117, 119], 23, fun A B C D I => ee24 33574971 A B C D I) ::
  ([114, 101, 109, 119], 23, fun A B C D I => ee24 33579067 A B C D I) ::
  ([114, 101, 109, 117, 119], 23, fun A B C D I => ee24 33583163 A B C D I) ::
  ([97, 100, 100, 105], 24, fun A B C D I => ee25 19 A B C D I) ::
  ([115, 108, 116, 105], 24, fun A B C D I => ee25 8211 A B C D I) ::
  ([115, 108, 116, 105, 117], 24, fun A B C D I => ee25 12307 A B C D I) ::
  ([120, 111, 114, 105], 24, fun A B C D I => ee25 16403 A B C D I) ::
  ([111, 114, 105], 24, fun A B C D I => ee25 24595 A B C D I) ::
  ([97, 110, 100, 105], 24, fun A B C D I => ee25 28691 A B C D I) ::
  ([97, 100, 100, 105, 119], 24, fun A B C D I => ee25 27 A B C D I) ::
  ([108, 98], 24, fun A B C D I => ee25 3 A B C D I) ::
  ([108, 104], 24, fun A B C D I => ee25 4099 A B C D I) ::
  ([108, 119], 24, fun A B C D I => ee25 8195 A B C D I) ::
  ([108, 100], 24, fun A B C D I => ee25 12291 A B C D I) ::
  ([108, 98, 117], 24, fun A B C D I => ee25 16387 A B C D I) ::
  ([108, 104, 117], 24, fun A B C D I => ee25 20483 A B C D I) ::
  ([108, 119, 117], 24, fun A B C D I => ee25 24579 A B C D I) ::
  ([106, 97, 108, 114], 24, fun A B C D I => ee25 103 A B C D I) ::
  ([115, 108, 108, 105], 24, fun A B C D I => ee26 63 4115 A B C D I) ::
  ([115, 114, 108, 105], 24, fun A B C D I => ee26 63 20499 A B C D I) ::
  ([115, 114, 97, 105], 24, fun A B C D I => ee26 63 1073762323 A B C D I) ::
  ([115, 108, 108, 105, 119], 24, fun A B C D I => ee26 31 4123 A B C D I) ::
  ([115, 114, 108, 105, 119], 24, fun A B C D I => ee26 31 20507 A B C D I) ::
  ([115, 114, 97, 105, 119], 24, fun A B C D I => ee26 31 1073762331 A B C D I) ::
  ([115, 98], 30, fun A B C D I => ee27 2047 2047 1 35 A B C D I) ::
  ([115, 104], 30, fun A B C D I => ee27 2047 2047 1 4131 A B C D I) ::
  ([115, 119], 30, fun A B C D I => ee27 2047 2047 1 8227 A B C D I) ::
  ([115, 100], 30, fun A B C D I => ee27 2047 2047 1 12323 A B C D I) ::
  ([98, 101, 113], 28, fun A B C D I => ee27 4095 4094 2 99 A B C D I) ::
  ([98, 110, 101], 28, fun A B C D I => ee27 4095 4094 2 4195 A B C D I) ::
  ([98, 108, 116], 28, fun A B C D I => ee27 4095 4094 2 16483 A B C D I) ::
  ([98, 103, 101], 28, fun A B C D I => ee27 4095 4094 2 20579 A B C D I) ::
  ([98, 108, 116, 117], 28, fun A B C D I => ee27 4095 4094 2 24675 A B C D I) ::
  ([98, 103, 101, 117], 28, fun A B C D I => ee27 4095 4094 2 28771 A B C D I) ::
  ([108, 117, 105], 26, fun A B C D I => ee28 524287 524287 1 55 A B C D I) ::
  ([97, 117, 105, 112, 99], 26, fun A B C D I => ee28 524287 524287 1 23 A B C D I) ::
  ([106, 97, 108], 26, fun A B C D I => ee28 1048575 1048574 2 111 A B C D I) ::
  ([101, 99, 97, 108, 108], 22, fun A B C D I => ee29 115 A B C D I) ::
  ([101, 98, 114, 101, 97, 107], 22, fun A B C D I => ee29 1048691 A B C D I) ::
  ([99, 46, 97, 100, 100, 105, 52, 115, 112, 110], 26, fun A B C D I => ee30 A B C D I) ::
  ([99, 46, 108, 119], 24, fun A B C D I => ee31 A B C D I) ::
  ([99, 46, 108, 100], 24, fun A B C D I => ee32 A B C D I) ::
  ([99, 46, 115, 119], 30, fun A B C D I => ee33 A B C D I) ::
  ([99, 46, 115, 100], 30, fun A B C D I => ee34 A B C D I) ::
  ([99, 46, 110, 111, 112], 22, fun A B C D I => ee35 A B C D I) ::
  ([99, 46, 97, 100, 100, 105], 26, fun A B C D I => ee36 A B C D I) ::
  ([99, 46, 97, 100, 100, 105, 119], 26, fun A B C D I => ee37 2 A B C D I) ::
  ([99, 46, 108, 105], 26, fun A B C D I => ee37 4 A B C D I) ::
  ([99, 46, 97, 100, 100, 105, 49, 54, 115, 112], 32, fun A B C D I => ee38 A B C D I) ::
  ([99, 46, 108, 117, 105], 26, fun A B C D I => ee39 A B C D I) ::
  ([99, 46, 115, 114, 108, 105], 26, fun A B C D I => ee40 0 A B C D I) ::
  ([99, 46, 115, 114, 97, 105], 26, fun A B C D I => ee40 1 A B C D I) ::
  ([99, 46, 97, 110, 100, 105], 26, fun A B C D I => ee41 A B C D I) ::
  ([99, 46, 115, 117, 98], 25, fun A B C D I => ee42 280 0 A B C D I) ::
  ([99, 46, 120, 111, 114], 25, fun A B C D I => ee42 280 1 A B C D I) ::
  ([99, 46, 111, 114], 25, fun A B C D I => ee42 280 2 A B C D I) ::
  ([99, 46, 97, 110, 100], 25, fun A B C D I => ee42 280 3 A B C D I) ::
  ([99, 46, 115, 117, 98, 119], 25, fun A B C D I => ee42 312 0 A B C D I) ::
  ([99, 46, 97, 100, 100, 119], 25, fun A B C D I => ee42 312 1 A B C D I) ::
  ([99, 46, 106], 32, fun A B C D I => ee43 A B C D I) ::
  ([99, 46, 98, 101, 113, 122], 29, fun A B C D I => ee44 12 A B C D I) ::
  ([99, 46, 98, 110, 101, 122], 29, fun A B C D I => ee44 14 A B C D I) ::
  ([99, 46, 115, 108, 108, 105], 26, fun A B C D I => ee45 A B C D I) ::
  ([99, 46, 108, 119, 115, 112], 26, fun A B C D I => ee46 252 4 4 3 2 7 3 A B C D I) ::
  ([99, 46, 108, 100, 115, 112], 26, fun A B C D I => ee46 504 8 6 2 3 3 7 A B C D I) ::
  ([99, 46, 106, 114], 27, fun A B C D I => ee47 256 A B C D I) ::
  ([99, 46, 106, 97, 108, 114], 27, fun A B C D I => ee47 288 A B C D I) ::
  ([99, 46, 109, 118], 25, fun A B C D I => ee48 256 A B C D I) ::
  ([99, 46, 97, 100, 100], 25, fun A B C D I => ee48 288 A B C D I) ::
  ([99, 46, 101, 98, 114, 101, 97, 107], 22, fun A B C D I => ee35 A B C D I) ::
  ([99, 46, 115, 119, 115, 112], 31, fun A B C D I => ee49 252 4 96 2 15 3 A B C D I) ::
  ([99, 46, 115, 100, 115, 112], 31, fun A B C D I => ee49 504 8 56 3 7 7 A B C D I) :: []
theorem tab1_ok : AllR (.ofNat 1) tab1 := ⟨⟨fun A B C D I => ans3 (er_1_mov_rr A B C D I) (ev0  A B C D I), fun _ _ _ _ _ h => ec0 h, tt_1_mov_rr⟩,
  ⟨fun A B C D I => ans3 (er_1_mov_ri A B C D I) (ev1 9223372036854775807 A B C D I), fun _ _ _ _ _ h => ec1 h, tt_1_mov_ri⟩,
  ⟨fun A B C D I => ans3 (er_1_mov_rs A B C D I) (ev1 2147483647 A B C D I), fun _ _ _ _ _ h => ec2 h, tt_1_mov_rs⟩,
  ⟨mem_ans er_1_mov_rm_0 ev50 er_1_mov_rm_1 er_1_mov_rm_2 er_1_mov_rm_4 er_1_mov_rm_8 ev51 er_1_mov_rmE, fun _ _ _ _ _ h => ec3 h, tt_1_mov_rm⟩,
  ⟨mem_ans er_1_movl_rm_0 ev52 er_1_movl_rm_1 er_1_movl_rm_2 er_1_movl_rm_4 er_1_movl_rm_8 ev53 er_1_movl_rmE, fun _ _ _ _ _ h => ec4 h, tt_1_movl_rm⟩,
  ⟨mem_ans er_1_movsl_rm_0 ev50 er_1_movsl_rm_1 er_1_movsl_rm_2 er_1_movsl_rm_4 er_1_movsl_rm_8 ev51 er_1_movsl_rmE, fun _ _ _ _ _ h => ec3 h, tt_1_movsl_rm⟩,
  ⟨mem_ans er_1_movzb_rm_0 ev50 er_1_movzb_rm_1 er_1_movzb_rm_2 er_1_movzb_rm_4 er_1_movzb_rm_8 ev51 er_1_movzb_rmE, fun _ _ _ _ _ h => ec3 h, tt_1_movzb_rm⟩,
  ⟨mem_ans er_1_lea_0 ev50 er_1_lea_1 er_1_lea_2 er_1_lea_4 er_1_lea_8 ev51 er_1_leaE, fun _ _ _ _ _ h => ec3 h, tt_1_lea⟩,
  ⟨mem_ans er_1_mov_mr_0 ev50 er_1_mov_mr_1 er_1_mov_mr_2 er_1_mov_mr_4 er_1_mov_mr_8 ev51 er_1_mov_mrE, fun _ _ _ _ _ h => ec3 h, tt_1_mov_mr⟩,
  ⟨mem_ans er_1_movl_mr_0 ev52 er_1_movl_mr_1 er_1_movl_mr_2 er_1_movl_mr_4 er_1_movl_mr_8 ev53 er_1_movl_mrE, fun _ _ _ _ _ h => ec4 h, tt_1_movl_mr⟩,
  ⟨mem_ans er_1_movb_mr_0 ev50 er_1_movb_mr_1 er_1_movb_mr_2 er_1_movb_mr_4 er_1_movb_mr_8 ev51 er_1_movb_mrE, fun _ _ _ _ _ h => ec3 h, tt_1_movb_mr⟩,
  ⟨fun A B C D I => ans3 (er_1_mov_fs A B C D I) (ev1 2147483647 A B C D I), fun _ _ _ _ _ h => ec2 h, tt_1_mov_fs⟩,
  ⟨fun A B C D I => ans3 (er_1_add_rr A B C D I) (ev0  A B C D I), fun _ _ _ _ _ h => ec0 h, tt_1_add_rr⟩,
  ⟨fun A B C D I => ans3 (er_1_or_rr A B C D I) (ev0  A B C D I), fun _ _ _ _ _ h => ec0 h, tt_1_or_rr⟩,
  ⟨fun A B C D I => ans3 (er_1_and_rr A B C D I) (ev0  A B C D I), fun _ _ _ _ _ h => ec0 h, tt_1_and_rr⟩,
  ⟨fun A B C D I => ans3 (er_1_sub_rr A B C D I) (ev0  A B C D I), fun _ _ _ _ _ h => ec0 h, tt_1_sub_rr⟩,
  ⟨fun A B C D I => ans3 (er_1_xor_rr A B C D I) (ev0  A B C D I), fun _ _ _ _ _ h => ec0 h, tt_1_xor_rr⟩,
  ⟨fun A B C D I => ans3 (er_1_cmp_rr A B C D I) (ev0  A B C D I), fun _ _ _ _ _ h => ec0 h, tt_1_cmp_rr⟩,
  ⟨mem_ans er_1_add_rm_0 ev50 er_1_add_rm_1 er_1_add_rm_2 er_1_add_rm_4 er_1_add_rm_8 ev51 er_1_add_rmE, fun _ _ _ _ _ h => ec3 h, tt_1_add_rm⟩,
  ⟨mem_ans er_1_or_rm_0 ev50 er_1_or_rm_1 er_1_or_rm_2 er_1_or_rm_4 er_1_or_rm_8 ev51 er_1_or_rmE, fun _ _ _ _ _ h => ec3 h, tt_1_or_rm⟩,
  ⟨mem_ans er_1_and_rm_0 ev50 er_1_and_rm_1 er_1_and_rm_2 er_1_and_rm_4 er_1_and_rm_8 ev51 er_1_and_rmE, fun _ _ _ _ _ h => ec3 h, tt_1_and_rm⟩,
  ⟨mem_ans er_1_sub_rm_0 ev50 er_1_sub_rm_1 er_1_sub_rm_2 er_1_sub_rm_4 er_1_sub_rm_8 ev51 er_1_sub_rmE, fun _ _ _ _ _ h => ec3 h, tt_1_sub_rm⟩,
  ⟨mem_ans er_1_xor_rm_0 ev50 er_1_xor_rm_1 er_1_xor_rm_2 er_1_xor_rm_4 er_1_xor_rm_8 ev51 er_1_xor_rmE, fun _ _ _ _ _ h => ec3 h, tt_1_xor_rm⟩,
  ⟨mem_ans er_1_cmp_rm_0 ev50 er_1_cmp_rm_1 er_1_cmp_rm_2 er_1_cmp_rm_4 er_1_cmp_rm_8 ev51 er_1_cmp_rmE, fun _ _ _ _ _ h => ec3 h, tt_1_cmp_rm⟩,
  ⟨fun A B C D I => ans3 (er_1_add_ri A B C D I) (ev2  A B C D I), fun _ _ _ _ _ h => ec5 h, tt_1_add_ri⟩,
  ⟨fun A B C D I => ans3 (er_1_or_ri A B C D I) (ev2  A B C D I), fun _ _ _ _ _ h => ec5 h, tt_1_or_ri⟩,
  ⟨fun A B C D I => ans3 (er_1_and_ri A B C D I) (ev2  A B C D I), fun _ _ _ _ _ h => ec5 h, tt_1_and_ri⟩,
  ⟨fun A B C D I => ans3 (er_1_sub_ri A B C D I) (ev2  A B C D I), fun _ _ _ _ _ h => ec5 h, tt_1_sub_ri⟩,
  ⟨fun A B C D I => ans3 (er_1_xor_ri A B C D I) (ev2  A B C D I), fun _ _ _ _ _ h => ec5 h, tt_1_xor_ri⟩,
  ⟨fun A B C D I => ans3 (er_1_cmp_ri A B C D I) (ev2  A B C D I), fun _ _ _ _ _ h => ec5 h, tt_1_cmp_ri⟩,
  ⟨fun A B C D I => ans3 (er_1_test_rr A B C D I) (ev0  A B C D I), fun _ _ _ _ _ h => ec0 h, tt_1_test_rr⟩,
  ⟨fun A B C D I => ans3 (er_1_imul_rr A B C D I) (ev0  A B C D I), fun _ _ _ _ _ h => ec0 h, tt_1_imul_rr⟩,
  ⟨fun A B C D I => ans3 (er_1_not A B C D I) (ev3  A B C D I), fun _ _ _ _ _ h => ec6 h, tt_1_not⟩,
  ⟨fun A B C D I => ans3 (er_1_neg A B C D I) (ev3  A B C D I), fun _ _ _ _ _ h => ec6 h, tt_1_neg⟩,
  ⟨fun A B C D I => ans3 (er_1_mul A B C D I) (ev3  A B C D I), fun _ _ _ _ _ h => ec6 h, tt_1_mul⟩,
  ⟨fun A B C D I => ans3 (er_1_div A B C D I) (ev3  A B C D I), fun _ _ _ _ _ h => ec6 h, tt_1_div⟩,
  ⟨fun A B C D I => ans3 (er_1_idiv A B C D I) (ev3  A B C D I), fun _ _ _ _ _ h => ec6 h, tt_1_idiv⟩,
  ⟨fun A B C D I => ans3 (er_1_cqo A B C D I) (ev4  A B C D I), fun _ _ _ _ _ h => ec7 h, tt_1_cqo⟩,
  ⟨fun A B C D I => ans3 (er_1_shl_ri A B C D I) (ev5  A B C D I), fun _ _ _ _ _ h => ec8 h, tt_1_shl_ri⟩,
  ⟨fun A B C D I => ans3 (er_1_shr_ri A B C D I) (ev5  A B C D I), fun _ _ _ _ _ h => ec8 h, tt_1_shr_ri⟩,
  ⟨fun A B C D I => ans3 (er_1_sar_ri A B C D I) (ev5  A B C D I), fun _ _ _ _ _ h => ec8 h, tt_1_sar_ri⟩,
  ⟨fun A B C D I => ans3 (er_1_shl_rc A B C D I) (ev3  A B C D I), fun _ _ _ _ _ h => ec6 h, tt_1_shl_rc⟩,
  ⟨fun A B C D I => ans3 (er_1_shr_rc A B C D I) (ev3  A B C D I), fun _ _ _ _ _ h => ec6 h, tt_1_shr_rc⟩,
  ⟨fun A B C D I => ans3 (er_1_sar_rc A B C D I) (ev3  A B C D I), fun _ _ _ _ _ h => ec6 h, tt_1_sar_rc⟩,
  ⟨fun A B C D I => ans3 (er_1_cmov A B C D I) (ev6  A B C D I), fun _ _ _ _ _ h => ec9 h, tt_1_cmov⟩,
  ⟨fun A B C D I => ans3 (er_1_push A B C D I) (ev7  A B C D I), fun _ _ _ _ _ h => ec10 h, tt_1_push⟩,
  ⟨fun A B C D I => ans3 (er_1_pop A B C D I) (ev7  A B C D I), fun _ _ _ _ _ h => ec10 h, tt_1_pop⟩,
  ⟨fun A B C D I => ans3 (er_1_call A B C D I) (ev8 2147483647 A B C D I), fun _ _ _ _ _ h => ec11 h, tt_1_call⟩,
  ⟨fun A B C D I => ans3 (er_1_jmp A B C D I) (ev8 2147483647 A B C D I), fun _ _ _ _ _ h => ec11 h, tt_1_jmp⟩,
  ⟨fun A B C D I => ans3 (er_1_jmp_s A B C D I) (ev8 127 A B C D I), fun _ _ _ _ _ h => ec12 h, tt_1_jmp_s⟩,
  ⟨fun A B C D I => ans3 (er_1_call_r A B C D I) (ev9  A B C D I), fun _ _ _ _ _ h => ec13 h, tt_1_call_r⟩,
  ⟨fun A B C D I => ans3 (er_1_jmp_r A B C D I) (ev9  A B C D I), fun _ _ _ _ _ h => ec13 h, tt_1_jmp_r⟩,
  ⟨fun A B C D I => ans3 (er_1_jcc A B C D I) (ev10 2147483647 A B C D I), fun _ _ _ _ _ h => ec14 h, tt_1_jcc⟩,
  ⟨fun A B C D I => ans3 (er_1_jcc_s A B C D I) (ev10 127 A B C D I), fun _ _ _ _ _ h => ec15 h, tt_1_jcc_s⟩,
  ⟨fun A B C D I => ans3 (er_1_ret A B C D I) (ev4  A B C D I), fun _ _ _ _ _ h => ec7 h, tt_1_ret⟩,
  ⟨fun A B C D I => ans3 (er_1_syscall A B C D I) (ev4  A B C D I), fun _ _ _ _ _ h => ec7 h, tt_1_syscall⟩,
  ⟨fun A B C D I => ans3 (er_1_nop A B C D I) (ev4  A B C D I), fun _ _ _ _ _ h => ec7 h, tt_1_nop⟩,
  ⟨fun A B C D I => ans3 (er_1_ud2 A B C D I) (ev4  A B C D I), fun _ _ _ _ _ h => ec7 h, tt_1_ud2⟩, trivial⟩
theorem tab2_ok : AllR (.ofNat 2) tab2 := ⟨⟨fun A B C D I => ans3 (er_2_movn A B C D I) (ev11 2457862144 A B C D I), fun _ _ _ _ _ h => ec16 h, tt_2_movn⟩,
  ⟨fun A B C D I => ans3 (er_2_movz A B C D I) (ev11 3531603968 A B C D I), fun _ _ _ _ _ h => ec17 h, tt_2_movz⟩,
  ⟨fun A B C D I => ans3 (er_2_movk A B C D I) (ev11 4068474880 A B C D I), fun _ _ _ _ _ h => ec18 h, tt_2_movk⟩,
  ⟨fun A B C D I => ans3 (er_2_add_i A B C D I) (ev12 2432696320 A B C D I), fun _ _ _ _ _ h => ec19 h, tt_2_add_i⟩,
  ⟨fun A B C D I => ans3 (er_2_adds_i A B C D I) (ev12 2969567232 A B C D I), fun _ _ _ _ _ h => ec20 h, tt_2_adds_i⟩,
  ⟨fun A B C D I => ans3 (er_2_sub_i A B C D I) (ev12 3506438144 A B C D I), fun _ _ _ _ _ h => ec21 h, tt_2_sub_i⟩,
  ⟨fun A B C D I => ans3 (er_2_subs_i A B C D I) (ev12 4043309056 A B C D I), fun _ _ _ _ _ h => ec22 h, tt_2_subs_i⟩,
  ⟨fun A B C D I => ans3 (er_2_add A B C D I) (ev13 31 63 2332033024 63 10 A B C D I), fun _ _ _ _ _ h => ec23 h, tt_2_add⟩,
  ⟨fun A B C D I => ans3 (er_2_adds A B C D I) (ev13 31 63 2868903936 63 10 A B C D I), fun _ _ _ _ _ h => ec24 h, tt_2_adds⟩,
  ⟨fun A B C D I => ans3 (er_2_sub A B C D I) (ev13 31 63 3405774848 63 10 A B C D I), fun _ _ _ _ _ h => ec25 h, tt_2_sub⟩,
  ⟨fun A B C D I => ans3 (er_2_subs A B C D I) (ev13 31 63 3942645760 63 10 A B C D I), fun _ _ _ _ _ h => ec26 h, tt_2_subs⟩,
  ⟨fun A B C D I => ans3 (er_2_and A B C D I) (ev13 31 63 2315255808 63 10 A B C D I), fun _ _ _ _ _ h => ec27 h, tt_2_and⟩,
  ⟨fun A B C D I => ans3 (er_2_orr A B C D I) (ev13 31 63 2852126720 63 10 A B C D I), fun _ _ _ _ _ h => ec28 h, tt_2_orr⟩,
  ⟨fun A B C D I => ans3 (er_2_eor A B C D I) (ev13 31 63 3388997632 63 10 A B C D I), fun _ _ _ _ _ h => ec29 h, tt_2_eor⟩,
  ⟨fun A B C D I => ans3 (er_2_ands A B C D I) (ev13 31 63 3925868544 63 10 A B C D I), fun _ _ _ _ _ h => ec30 h, tt_2_ands⟩,
  ⟨fun A B C D I => ans3 (er_2_and_i A B C D I) (ev14 2449473536 A B C D I), fun _ _ _ _ _ h => ec31 h, tt_2_and_i⟩,
  ⟨fun A B C D I => ans3 (er_2_orr_i A B C D I) (ev14 2986344448 A B C D I), fun _ _ _ _ _ h => ec32 h, tt_2_orr_i⟩,
  ⟨fun A B C D I => ans3 (er_2_eor_i A B C D I) (ev14 3523215360 A B C D I), fun _ _ _ _ _ h => ec33 h, tt_2_eor_i⟩,
  ⟨fun A B C D I => ans3 (er_2_ands_i A B C D I) (ev14 4060086272 A B C D I), fun _ _ _ _ _ h => ec34 h, tt_2_ands_i⟩,
  ⟨fun A B C D I => ans3 (er_2_madd A B C D I) (ev13 31 31 2600468480 31 10 A B C D I), fun _ _ _ _ _ h => ec35 h, tt_2_madd⟩,
  ⟨fun A B C D I => ans3 (er_2_msub A B C D I) (ev13 31 31 2600501248 31 10 A B C D I), fun _ _ _ _ _ h => ec36 h, tt_2_msub⟩,
  ⟨fun A B C D I => ans3 (er_2_udiv A B C D I) (ev15 2596276224 A B C D I), fun _ _ _ _ _ h => ec37 h, tt_2_udiv⟩,
  ⟨fun A B C D I => ans3 (er_2_sdiv A B C D I) (ev15 2596277248 A B C D I), fun _ _ _ _ _ h => ec38 h, tt_2_sdiv⟩,
  ⟨fun A B C D I => ans3 (er_2_lslv A B C D I) (ev15 2596282368 A B C D I), fun _ _ _ _ _ h => ec39 h, tt_2_lslv⟩,
  ⟨fun A B C D I => ans3 (er_2_lsrv A B C D I) (ev15 2596283392 A B C D I), fun _ _ _ _ _ h => ec40 h, tt_2_lsrv⟩,
  ⟨fun A B C D I => ans3 (er_2_asrv A B C D I) (ev15 2596284416 A B C D I), fun _ _ _ _ _ h => ec41 h, tt_2_asrv⟩,
  ⟨fun A B C D I => ans3 (er_2_sbfm A B C D I) (ev13 63 63 2470445056 63 10 A B C D I), fun _ _ _ _ _ h => ec42 h, tt_2_sbfm⟩,
  ⟨fun A B C D I => ans3 (er_2_ubfm A B C D I) (ev13 63 63 3544186880 63 10 A B C D I), fun _ _ _ _ _ h => ec43 h, tt_2_ubfm⟩,
  ⟨fun A B C D I => ans3 (er_2_csel A B C D I) (ev13 31 13 2592079872 15 12 A B C D I), fun _ _ _ _ _ h => ec44 h, tt_2_csel⟩,
  ⟨fun A B C D I => ans3 (er_2_csinc A B C D I) (ev13 31 13 2592080896 15 12 A B C D I), fun _ _ _ _ _ h => ec45 h, tt_2_csinc⟩,
  ⟨fun A B C D I => ans3 (er_2_adr A B C D I) (ev16 1048575 1 268435456 A B C D I), fun _ _ _ _ _ h => ec46 h, tt_2_adr⟩,
  ⟨fun A B C D I => ans3 (er_2_adrp A B C D I) (ev16 1048575 1 2415919104 A B C D I), fun _ _ _ _ _ h => ec47 h, tt_2_adrp⟩,
  ⟨fun A B C D I => ans3 (er_2_ldrb A B C D I) (ev17 4095 1 960495616 A B C D I), fun _ _ _ _ _ h => ec48 h, tt_2_ldrb⟩,
  ⟨fun A B C D I => ans3 (er_2_strb A B C D I) (ev17 4095 1 956301312 A B C D I), fun _ _ _ _ _ h => ec49 h, tt_2_strb⟩,
  ⟨fun A B C D I => ans3 (er_2_ldrh A B C D I) (ev17 8190 2 2034237440 A B C D I), fun _ _ _ _ _ h => ec50 h, tt_2_ldrh⟩,
  ⟨fun A B C D I => ans3 (er_2_strh A B C D I) (ev17 8190 2 2030043136 A B C D I), fun _ _ _ _ _ h => ec51 h, tt_2_strh⟩,
  ⟨fun A B C D I => ans3 (er_2_ldr_w A B C D I) (ev17 16380 4 3107979264 A B C D I), fun _ _ _ _ _ h => ec52 h, tt_2_ldr_w⟩,
  ⟨fun A B C D I => ans3 (er_2_str_w A B C D I) (ev17 16380 4 3103784960 A B C D I), fun _ _ _ _ _ h => ec53 h, tt_2_str_w⟩,
  ⟨fun A B C D I => ans3 (er_2_ldrsw A B C D I) (ev17 16380 4 3112173568 A B C D I), fun _ _ _ _ _ h => ec54 h, tt_2_ldrsw⟩,
  ⟨fun A B C D I => ans3 (er_2_ldr A B C D I) (ev17 32760 8 4181721088 A B C D I), fun _ _ _ _ _ h => ec55 h, tt_2_ldr⟩,
  ⟨fun A B C D I => ans3 (er_2_str A B C D I) (ev17 32760 8 4177526784 A B C D I), fun _ _ _ _ _ h => ec56 h, tt_2_str⟩,
  ⟨fun A B C D I => ans3 (er_2_ldp A B C D I) (ev18 2839543808 A B C D I), fun _ _ _ _ _ h => ec57 h, tt_2_ldp⟩,
  ⟨fun A B C D I => ans3 (er_2_stp A B C D I) (ev18 2835349504 A B C D I), fun _ _ _ _ _ h => ec58 h, tt_2_stp⟩,
  ⟨fun A B C D I => ans3 (er_2_b A B C D I) (ev19  A B C D I), fun _ _ _ _ _ h => ec59 h, tt_2_b⟩,
  ⟨fun A B C D I => ans3 (er_2_bl A B C D I) (ev19  A B C D I), fun _ _ _ _ _ h => ec59 h, tt_2_bl⟩,
  ⟨fun A B C D I => ans3 (er_2_b_c A B C D I) (ev20  A B C D I), fun _ _ _ _ _ h => ec60 h, tt_2_b_c⟩,
  ⟨fun A B C D I => ans3 (er_2_cbz A B C D I) (ev16 1048572 4 3019898880 A B C D I), fun _ _ _ _ _ h => ec61 h, tt_2_cbz⟩,
  ⟨fun A B C D I => ans3 (er_2_cbnz A B C D I) (ev16 1048572 4 3036676096 A B C D I), fun _ _ _ _ _ h => ec62 h, tt_2_cbnz⟩,
  ⟨fun A B C D I => ans3 (er_2_br A B C D I) (ev21 3592355840 A B C D I), fun _ _ _ _ _ h => ec63 h, tt_2_br⟩,
  ⟨fun A B C D I => ans3 (er_2_blr A B C D I) (ev21 3594452992 A B C D I), fun _ _ _ _ _ h => ec64 h, tt_2_blr⟩,
  ⟨fun A B C D I => ans3 (er_2_ret A B C D I) (ev21 3596550144 A B C D I), fun _ _ _ _ _ h => ec65 h, tt_2_ret⟩,
  ⟨fun A B C D I => ans3 (er_2_svc A B C D I) (ev22  A B C D I), fun _ _ _ _ _ h => ec66 h, tt_2_svc⟩,
  ⟨fun A B C D I => ans3 (er_2_brk A B C D I) (ev22  A B C D I), fun _ _ _ _ _ h => ec66 h, tt_2_brk⟩,
  ⟨fun A B C D I => ans3 (er_2_nop A B C D I) (ev23  A B C D I), fun _ _ _ _ _ h => ec67 h, tt_2_nop⟩, trivial⟩
theorem tab3_ok : AllR (.ofNat 3) tab3 := ⟨⟨fun A B C D I => ans3 (er_3_add A B C D I) (ev24 51 A B C D I), fun _ _ _ _ _ h => ec68 h, tt_3_add⟩,
  ⟨fun A B C D I => ans3 (er_3_sub A B C D I) (ev24 1073741875 A B C D I), fun _ _ _ _ _ h => ec69 h, tt_3_sub⟩,
  ⟨fun A B C D I => ans3 (er_3_sll A B C D I) (ev24 4147 A B C D I), fun _ _ _ _ _ h => ec70 h, tt_3_sll⟩,
  ⟨fun A B C D I => ans3 (er_3_slt A B C D I) (ev24 8243 A B C D I), fun _ _ _ _ _ h => ec71 h, tt_3_slt⟩,
  ⟨fun A B C D I => ans3 (er_3_sltu A B C D I) (ev24 12339 A B C D I), fun _ _ _ _ _ h => ec72 h, tt_3_sltu⟩,
  ⟨fun A B C D I => ans3 (er_3_xor A B C D I) (ev24 16435 A B C D I), fun _ _ _ _ _ h => ec73 h, tt_3_xor⟩,
  ⟨fun A B C D I => ans3 (er_3_srl A B C D I) (ev24 20531 A B C D I), fun _ _ _ _ _ h => ec74 h, tt_3_srl⟩,
  ⟨fun A B C D I => ans3 (er_3_sra A B C D I) (ev24 1073762355 A B C D I), fun _ _ _ _ _ h => ec75 h, tt_3_sra⟩,
  ⟨fun A B C D I => ans3 (er_3_or A B C D I) (ev24 24627 A B C D I), fun _ _ _ _ _ h => ec76 h, tt_3_or⟩,
  ⟨fun A B C D I => ans3 (er_3_and A B C D I) (ev24 28723 A B C D I), fun _ _ _ _ _ h => ec77 h, tt_3_and⟩,
  ⟨fun A B C D I => ans3 (er_3_mul A B C D I) (ev24 33554483 A B C D I), fun _ _ _ _ _ h => ec78 h, tt_3_mul⟩,
  ⟨fun A B C D I => ans3 (er_3_mulh A B C D I) (ev24 33558579 A B C D I), fun _ _ _ _ _ h => ec79 h, tt_3_mulh⟩,
  ⟨fun A B C D I => ans3 (er_3_mulhsu A B C D I) (ev24 33562675 A B C D I), fun _ _ _ _ _ h => ec80 h, tt_3_mulhsu⟩,
  ⟨fun A B C D I => ans3 (er_3_mulhu A B C D I) (ev24 33566771 A B C D I), fun _ _ _ _ _ h => ec81 h, tt_3_mulhu⟩,
  ⟨fun A B C D I => ans3 (er_3_div A B C D I) (ev24 33570867 A B C D I), fun _ _ _ _ _ h => ec82 h, tt_3_div⟩,
  ⟨fun A B C D I => ans3 (er_3_divu A B C D I) (ev24 33574963 A B C D I), fun _ _ _ _ _ h => ec83 h, tt_3_divu⟩,
  ⟨fun A B C D I => ans3 (er_3_rem A B C D I) (ev24 33579059 A B C D I), fun _ _ _ _ _ h => ec84 h, tt_3_rem⟩,
  ⟨fun A B C D I => ans3 (er_3_remu A B C D I) (ev24 33583155 A B C D I), fun _ _ _ _ _ h => ec85 h, tt_3_remu⟩,
  ⟨fun A B C D I => ans3 (er_3_addw A B C D I) (ev24 59 A B C D I), fun _ _ _ _ _ h => ec86 h, tt_3_addw⟩,
  ⟨fun A B C D I => ans3 (er_3_subw A B C D I) (ev24 1073741883 A B C D I), fun _ _ _ _ _ h => ec87 h, tt_3_subw⟩,
  ⟨fun A B C D I => ans3 (er_3_sllw A B C D I) (ev24 4155 A B C D I), fun _ _ _ _ _ h => ec88 h, tt_3_sllw⟩,
  ⟨fun A B C D I => ans3 (er_3_srlw A B C D I) (ev24 20539 A B C D I), fun _ _ _ _ _ h => ec89 h, tt_3_srlw⟩,
  ⟨fun A B C D I => ans3 (er_3_sraw A B C D I) (ev24 1073762363 A B C D I), fun _ _ _ _ _ h => ec90 h, tt_3_sraw⟩,
  ⟨fun A B C D I => ans3 (er_3_mulw A B C D I) (ev24 33554491 A B C D I), fun _ _ _ _ _ h => ec91 h, tt_3_mulw⟩,
  ⟨fun A B C D I => ans3 (er_3_divw A B C D I) (ev24 33570875 A B C D I), fun _ _ _ _ _ h => ec92 h, tt_3_divw⟩,
  ⟨fun A B C D I => ans3 (er_3_divuw A B C D I) (ev24 33574971 A B C D I), fun _ _ _ _ _ h => ec93 h, tt_3_divuw⟩,
  ⟨fun A B C D I => ans3 (er_3_remw A B C D I) (ev24 33579067 A B C D I), fun _ _ _ _ _ h => ec94 h, tt_3_remw⟩,
  ⟨fun A B C D I => ans3 (er_3_remuw A B C D I) (ev24 33583163 A B C D I), fun _ _ _ _ _ h => ec95 h, tt_3_remuw⟩,
  ⟨fun A B C D I => ans3 (er_3_addi A B C D I) (ev25 19 A B C D I), fun _ _ _ _ _ h => ec96 h, tt_3_addi⟩,
  ⟨fun A B C D I => ans3 (er_3_slti A B C D I) (ev25 8211 A B C D I), fun _ _ _ _ _ h => ec97 h, tt_3_slti⟩,
  ⟨fun A B C D I => ans3 (er_3_sltiu A B C D I) (ev25 12307 A B C D I), fun _ _ _ _ _ h => ec98 h, tt_3_sltiu⟩,
  ⟨fun A B C D I => ans3 (er_3_xori A B C D I) (ev25 16403 A B C D I), fun _ _ _ _ _ h => ec99 h, tt_3_xori⟩,
  ⟨fun A B C D I => ans3 (er_3_ori A B C D I) (ev25 24595 A B C D I), fun _ _ _ _ _ h => ec100 h, tt_3_ori⟩,
  ⟨fun A B C D I => ans3 (er_3_andi A B C D I) (ev25 28691 A B C D I), fun _ _ _ _ _ h => ec101 h, tt_3_andi⟩,
  ⟨fun A B C D I => ans3 (er_3_addiw A B C D I) (ev25 27 A B C D I), fun _ _ _ _ _ h => ec102 h, tt_3_addiw⟩,
  ⟨fun A B C D I => ans3 (er_3_lb A B C D I) (ev25 3 A B C D I), fun _ _ _ _ _ h => ec103 h, tt_3_lb⟩,
  ⟨fun A B C D I => ans3 (er_3_lh A B C D I) (ev25 4099 A B C D I), fun _ _ _ _ _ h => ec104 h, tt_3_lh⟩,
  ⟨fun A B C D I => ans3 (er_3_lw A B C D I) (ev25 8195 A B C D I), fun _ _ _ _ _ h => ec105 h, tt_3_lw⟩,
  ⟨fun A B C D I => ans3 (er_3_ld A B C D I) (ev25 12291 A B C D I), fun _ _ _ _ _ h => ec106 h, tt_3_ld⟩,
  ⟨fun A B C D I => ans3 (er_3_lbu A B C D I) (ev25 16387 A B C D I), fun _ _ _ _ _ h => ec107 h, tt_3_lbu⟩,
  ⟨fun A B C D I => ans3 (er_3_lhu A B C D I) (ev25 20483 A B C D I), fun _ _ _ _ _ h => ec108 h, tt_3_lhu⟩,
  ⟨fun A B C D I => ans3 (er_3_lwu A B C D I) (ev25 24579 A B C D I), fun _ _ _ _ _ h => ec109 h, tt_3_lwu⟩,
  ⟨fun A B C D I => ans3 (er_3_jalr A B C D I) (ev25 103 A B C D I), fun _ _ _ _ _ h => ec110 h, tt_3_jalr⟩,
  ⟨fun A B C D I => ans3 (er_3_slli A B C D I) (ev26 63 4115 A B C D I), fun _ _ _ _ _ h => ec111 h, tt_3_slli⟩,
  ⟨fun A B C D I => ans3 (er_3_srli A B C D I) (ev26 63 20499 A B C D I), fun _ _ _ _ _ h => ec112 h, tt_3_srli⟩,
  ⟨fun A B C D I => ans3 (er_3_srai A B C D I) (ev26 63 1073762323 A B C D I), fun _ _ _ _ _ h => ec113 h, tt_3_srai⟩,
  ⟨fun A B C D I => ans3 (er_3_slliw A B C D I) (ev26 31 4123 A B C D I), fun _ _ _ _ _ h => ec114 h, tt_3_slliw⟩,
  ⟨fun A B C D I => ans3 (er_3_srliw A B C D I) (ev26 31 20507 A B C D I), fun _ _ _ _ _ h => ec115 h, tt_3_srliw⟩,
  ⟨fun A B C D I => ans3 (er_3_sraiw A B C D I) (ev26 31 1073762331 A B C D I), fun _ _ _ _ _ h => ec116 h, tt_3_sraiw⟩,
  ⟨fun A B C D I => ans3 (er_3_sb A B C D I) (ev27 2047 2047 1 35 A B C D I), fun _ _ _ _ _ h => ec117 h, tt_3_sb⟩,
  ⟨fun A B C D I => ans3 (er_3_sh A B C D I) (ev27 2047 2047 1 4131 A B C D I), fun _ _ _ _ _ h => ec118 h, tt_3_sh⟩,
  ⟨fun A B C D I => ans3 (er_3_sw A B C D I) (ev27 2047 2047 1 8227 A B C D I), fun _ _ _ _ _ h => ec119 h, tt_3_sw⟩,
  ⟨fun A B C D I => ans3 (er_3_sd A B C D I) (ev27 2047 2047 1 12323 A B C D I), fun _ _ _ _ _ h => ec120 h, tt_3_sd⟩,
  ⟨fun A B C D I => ans3 (er_3_beq A B C D I) (ev27 4095 4094 2 99 A B C D I), fun _ _ _ _ _ h => ec121 h, tt_3_beq⟩,
  ⟨fun A B C D I => ans3 (er_3_bne A B C D I) (ev27 4095 4094 2 4195 A B C D I), fun _ _ _ _ _ h => ec122 h, tt_3_bne⟩,
  ⟨fun A B C D I => ans3 (er_3_blt A B C D I) (ev27 4095 4094 2 16483 A B C D I), fun _ _ _ _ _ h => ec123 h, tt_3_blt⟩,
  ⟨fun A B C D I => ans3 (er_3_bge A B C D I) (ev27 4095 4094 2 20579 A B C D I), fun _ _ _ _ _ h => ec124 h, tt_3_bge⟩,
  ⟨fun A B C D I => ans3 (er_3_bltu A B C D I) (ev27 4095 4094 2 24675 A B C D I), fun _ _ _ _ _ h => ec125 h, tt_3_bltu⟩,
  ⟨fun A B C D I => ans3 (er_3_bgeu A B C D I) (ev27 4095 4094 2 28771 A B C D I), fun _ _ _ _ _ h => ec126 h, tt_3_bgeu⟩,
  ⟨fun A B C D I => ans3 (er_3_lui A B C D I) (ev28 524287 524287 1 55 A B C D I), fun _ _ _ _ _ h => ec127 h, tt_3_lui⟩,
  ⟨fun A B C D I => ans3 (er_3_auipc A B C D I) (ev28 524287 524287 1 23 A B C D I), fun _ _ _ _ _ h => ec128 h, tt_3_auipc⟩,
  ⟨fun A B C D I => ans3 (er_3_jal A B C D I) (ev28 1048575 1048574 2 111 A B C D I), fun _ _ _ _ _ h => ec129 h, tt_3_jal⟩,
  ⟨fun A B C D I => ans3 (er_3_ecall A B C D I) (ev29 115 A B C D I), fun _ _ _ _ _ h => ec130 h, tt_3_ecall⟩,
  ⟨fun A B C D I => ans3 (er_3_ebreak A B C D I) (ev29 1048691 A B C D I), fun _ _ _ _ _ h => ec131 h, tt_3_ebreak⟩,
  ⟨fun A B C D I => ans3 (er_3_c_addi4spn A B C D I) (ev30  A B C D I), fun _ _ _ _ _ h => ec132 h, tt_3_c_addi4spn⟩,
  ⟨fun A B C D I => ans3 (er_3_c_lw A B C D I) (ev31  A B C D I), fun _ _ _ _ _ h => ec133 h, tt_3_c_lw⟩,
  ⟨fun A B C D I => ans3 (er_3_c_ld A B C D I) (ev32  A B C D I), fun _ _ _ _ _ h => ec134 h, tt_3_c_ld⟩,
  ⟨fun A B C D I => ans3 (er_3_c_sw A B C D I) (ev33  A B C D I), fun _ _ _ _ _ h => ec135 h, tt_3_c_sw⟩,
  ⟨fun A B C D I => ans3 (er_3_c_sd A B C D I) (ev34  A B C D I), fun _ _ _ _ _ h => ec136 h, tt_3_c_sd⟩,
  ⟨fun A B C D I => ans3 (er_3_c_nop A B C D I) (ev35  A B C D I), fun _ _ _ _ _ h => ec137 h, tt_3_c_nop⟩,
  ⟨fun A B C D I => ans3 (er_3_c_addi A B C D I) (ev36  A B C D I), fun _ _ _ _ _ h => ec138 h, tt_3_c_addi⟩,
  ⟨fun A B C D I => ans3 (er_3_c_addiw A B C D I) (ev37 2 A B C D I), fun _ _ _ _ _ h => ec139 h, tt_3_c_addiw⟩,
  ⟨fun A B C D I => ans3 (er_3_c_li A B C D I) (ev37 4 A B C D I), fun _ _ _ _ _ h => ec140 h, tt_3_c_li⟩,
  ⟨fun A B C D I => ans3 (er_3_c_addi16sp A B C D I) (ev38  A B C D I), fun _ _ _ _ _ h => ec141 h, tt_3_c_addi16sp⟩,
  ⟨fun A B C D I => ans3 (er_3_c_lui A B C D I) (ev39  A B C D I), fun _ _ _ _ _ h => ec142 h, tt_3_c_lui⟩,
  ⟨fun A B C D I => ans3 (er_3_c_srli A B C D I) (ev40 0 A B C D I), fun _ _ _ _ _ h => ec143 h, tt_3_c_srli⟩,
  ⟨fun A B C D I => ans3 (er_3_c_srai A B C D I) (ev40 1 A B C D I), fun _ _ _ _ _ h => ec144 h, tt_3_c_srai⟩,
  ⟨fun A B C D I => ans3 (er_3_c_andi A B C D I) (ev41  A B C D I), fun _ _ _ _ _ h => ec145 h, tt_3_c_andi⟩,
  ⟨fun A B C D I => ans3 (er_3_c_sub A B C D I) (ev42 280 0 A B C D I), fun _ _ _ _ _ h => ec146 h, tt_3_c_sub⟩,
  ⟨fun A B C D I => ans3 (er_3_c_xor A B C D I) (ev42 280 1 A B C D I), fun _ _ _ _ _ h => ec147 h, tt_3_c_xor⟩,
  ⟨fun A B C D I => ans3 (er_3_c_or A B C D I) (ev42 280 2 A B C D I), fun _ _ _ _ _ h => ec148 h, tt_3_c_or⟩,
  ⟨fun A B C D I => ans3 (er_3_c_and A B C D I) (ev42 280 3 A B C D I), fun _ _ _ _ _ h => ec149 h, tt_3_c_and⟩,
  ⟨fun A B C D I => ans3 (er_3_c_subw A B C D I) (ev42 312 0 A B C D I), fun _ _ _ _ _ h => ec150 h, tt_3_c_subw⟩,
  ⟨fun A B C D I => ans3 (er_3_c_addw A B C D I) (ev42 312 1 A B C D I), fun _ _ _ _ _ h => ec151 h, tt_3_c_addw⟩,
  ⟨fun A B C D I => ans3 (er_3_c_j A B C D I) (ev43  A B C D I), fun _ _ _ _ _ h => ec152 h, tt_3_c_j⟩,
  ⟨fun A B C D I => ans3 (er_3_c_beqz A B C D I) (ev44 12 A B C D I), fun _ _ _ _ _ h => ec153 h, tt_3_c_beqz⟩,
  ⟨fun A B C D I => ans3 (er_3_c_bnez A B C D I) (ev44 14 A B C D I), fun _ _ _ _ _ h => ec154 h, tt_3_c_bnez⟩,
  ⟨fun A B C D I => ans3 (er_3_c_slli A B C D I) (ev45  A B C D I), fun _ _ _ _ _ h => ec155 h, tt_3_c_slli⟩,
  ⟨fun A B C D I => ans3 (er_3_c_lwsp A B C D I) (ev46 252 4 4 3 2 7 3 A B C D I), fun _ _ _ _ _ h => ec156 h, tt_3_c_lwsp⟩,
  ⟨fun A B C D I => ans3 (er_3_c_ldsp A B C D I) (ev46 504 8 6 2 3 3 7 A B C D I), fun _ _ _ _ _ h => ec157 h, tt_3_c_ldsp⟩,
  ⟨fun A B C D I => ans3 (er_3_c_jr A B C D I) (ev47 256 A B C D I), fun _ _ _ _ _ h => ec158 h, tt_3_c_jr⟩,
  ⟨fun A B C D I => ans3 (er_3_c_jalr A B C D I) (ev47 288 A B C D I), fun _ _ _ _ _ h => ec159 h, tt_3_c_jalr⟩,
  ⟨fun A B C D I => ans3 (er_3_c_mv A B C D I) (ev48 256 A B C D I), fun _ _ _ _ _ h => ec160 h, tt_3_c_mv⟩,
  ⟨fun A B C D I => ans3 (er_3_c_add A B C D I) (ev48 288 A B C D I), fun _ _ _ _ _ h => ec161 h, tt_3_c_add⟩,
  ⟨fun A B C D I => ans3 (er_3_c_ebreak A B C D I) (ev35  A B C D I), fun _ _ _ _ _ h => ec137 h, tt_3_c_ebreak⟩,
  ⟨fun A B C D I => ans3 (er_3_c_swsp A B C D I) (ev49 252 4 96 2 15 3 A B C D I), fun _ _ _ _ _ h => ec162 h, tt_3_c_swsp⟩,
  ⟨fun A B C D I => ans3 (er_3_c_sdsp A B C D I) (ev49 504 8 56 3 7 7 A B C D I), fun _ _ _ _ _ h => ec163 h, tt_3_c_sdsp⟩, trivial⟩
end
end Go.Proofs.YtlclahpapabkdaaGreatDoor
