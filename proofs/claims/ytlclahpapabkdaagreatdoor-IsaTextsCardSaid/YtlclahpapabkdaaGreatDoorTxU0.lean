/- Texts of instructions by their names. -/
import Derived.Test.YtlclahpapabkdaaGreatDoorTxT
import Derived.KernelRfl
namespace Go.Proofs.YtlclahpapabkdaaGreatDoor
open Go Go.Vai
noncomputable section
set_option maxRecDepth 100000
variable (ev : EvT) (nv : Int → Int → List UInt8) (A B C D I : Int)
theorem tx_1_mov_rr : go5 ev nv 1 [109, 111, 118, 46, 114, 114] A B C D I = tr2 ev nv [109, 111, 118, 46, 114, 114] A B C D I := by kernel_rfl
theorem tx_1_mov_rm : go5 ev nv 1 [109, 111, 118, 46, 114, 109] A B C D I = txE (ev (.ofNat 1) [109, 111, 118, 46, 114, 109] A B C D I) (bc (AV.eqb (.int .i64 C) (.int .i64 C)) (bc (ieq B (.ofNat 17)) (bc (ieq C (.ofNat 16)) (txB [109, 111, 118, 46, 114, 109, 32] [(nv (.ofNat 1) A), [114, 105, 112], [110, 111, 110, 101], (Lib.itoa D), (Lib.itoa I)] [i64In D, AV.eqb (.int .i64 I) (.int .i64 I), i64In I]) (txB [109, 111, 118, 46, 114, 109, 32] [(nv (.ofNat 1) A), [114, 105, 112], (nv (.ofNat 1) C), (Lib.itoa D), (Lib.itoa I)] [i64In D, AV.eqb (.str (nv (.ofNat 1) C)) (.str (nv (.ofNat 1) C)), AV.eqb (.int .i64 I) (.int .i64 I), i64In I, AV.eqb (.str (nv (.ofNat 1) C)) (.str (nv (.ofNat 1) C))])) (bc (ieq C (.ofNat 16)) (txB [109, 111, 118, 46, 114, 109, 32] [(nv (.ofNat 1) A), (nv (.ofNat 1) B), [110, 111, 110, 101], (Lib.itoa D), (Lib.itoa I)] [i64In D, AV.eqb (.str (nv (.ofNat 1) B)) (.str (nv (.ofNat 1) B)), AV.eqb (.int .i64 I) (.int .i64 I), i64In I, AV.eqb (.str (nv (.ofNat 1) B)) (.str (nv (.ofNat 1) B))]) (txB [109, 111, 118, 46, 114, 109, 32] [(nv (.ofNat 1) A), (nv (.ofNat 1) B), (nv (.ofNat 1) C), (Lib.itoa D), (Lib.itoa I)] [i64In D, AV.eqb (.str (nv (.ofNat 1) C)) (.str (nv (.ofNat 1) C)), AV.eqb (.str (nv (.ofNat 1) B)) (.str (nv (.ofNat 1) B)), AV.eqb (.int .i64 I) (.int .i64 I), i64In I, AV.eqb (.str (nv (.ofNat 1) C)) (.str (nv (.ofNat 1) C)), AV.eqb (.str (nv (.ofNat 1) B)) (.str (nv (.ofNat 1) B))]))) none) := by kernel_rfl
theorem tx_1_movzb_rm : go5 ev nv 1 [109, 111, 118, 122, 98, 46, 114, 109] A B C D I = txE (ev (.ofNat 1) [109, 111, 118, 122, 98, 46, 114, 109] A B C D I) (bc (AV.eqb (.int .i64 C) (.int .i64 C)) (bc (ieq B (.ofNat 17)) (bc (ieq C (.ofNat 16)) (txB [109, 111, 118, 122, 98, 46, 114, 109, 32] [(nv (.ofNat 1) A), [114, 105, 112], [110, 111, 110, 101], (Lib.itoa D), (Lib.itoa I)] [i64In D, AV.eqb (.int .i64 I) (.int .i64 I), i64In I]) (txB [109, 111, 118, 122, 98, 46, 114, 109, 32] [(nv (.ofNat 1) A), [114, 105, 112], (nv (.ofNat 1) C), (Lib.itoa D), (Lib.itoa I)] [i64In D, AV.eqb (.str (nv (.ofNat 1) C)) (.str (nv (.ofNat 1) C)), AV.eqb (.int .i64 I) (.int .i64 I), i64In I, AV.eqb (.str (nv (.ofNat 1) C)) (.str (nv (.ofNat 1) C))])) (bc (ieq C (.ofNat 16)) (txB [109, 111, 118, 122, 98, 46, 114, 109, 32] [(nv (.ofNat 1) A), (nv (.ofNat 1) B), [110, 111, 110, 101], (Lib.itoa D), (Lib.itoa I)] [i64In D, AV.eqb (.str (nv (.ofNat 1) B)) (.str (nv (.ofNat 1) B)), AV.eqb (.int .i64 I) (.int .i64 I), i64In I, AV.eqb (.str (nv (.ofNat 1) B)) (.str (nv (.ofNat 1) B))]) (txB [109, 111, 118, 122, 98, 46, 114, 109, 32] [(nv (.ofNat 1) A), (nv (.ofNat 1) B), (nv (.ofNat 1) C), (Lib.itoa D), (Lib.itoa I)] [i64In D, AV.eqb (.str (nv (.ofNat 1) C)) (.str (nv (.ofNat 1) C)), AV.eqb (.str (nv (.ofNat 1) B)) (.str (nv (.ofNat 1) B)), AV.eqb (.int .i64 I) (.int .i64 I), i64In I, AV.eqb (.str (nv (.ofNat 1) C)) (.str (nv (.ofNat 1) C)), AV.eqb (.str (nv (.ofNat 1) B)) (.str (nv (.ofNat 1) B))]))) none) := by kernel_rfl
theorem tx_1_movl_mr : go5 ev nv 1 [109, 111, 118, 108, 46, 109, 114] A B C D I = txE (ev (.ofNat 1) [109, 111, 118, 108, 46, 109, 114] A B C D I) (bc (AV.eqb (.int .i64 C) (.int .i64 C)) (bc (ieq B (.ofNat 17)) (bc (ieq C (.ofNat 16)) (txB [109, 111, 118, 108, 46, 109, 114, 32] [(nv (.ofNat 1) A), [114, 105, 112], [110, 111, 110, 101], (Lib.itoa D), (Lib.itoa I)] [i64In D, AV.eqb (.int .i64 I) (.int .i64 I), i64In I]) (txB [109, 111, 118, 108, 46, 109, 114, 32] [(nv (.ofNat 1) A), [114, 105, 112], (nv (.ofNat 1) C), (Lib.itoa D), (Lib.itoa I)] [i64In D, AV.eqb (.str (nv (.ofNat 1) C)) (.str (nv (.ofNat 1) C)), AV.eqb (.int .i64 I) (.int .i64 I), i64In I, AV.eqb (.str (nv (.ofNat 1) C)) (.str (nv (.ofNat 1) C))])) (bc (ieq C (.ofNat 16)) (txB [109, 111, 118, 108, 46, 109, 114, 32] [(nv (.ofNat 1) A), (nv (.ofNat 1) B), [110, 111, 110, 101], (Lib.itoa D), (Lib.itoa I)] [i64In D, AV.eqb (.str (nv (.ofNat 1) B)) (.str (nv (.ofNat 1) B)), AV.eqb (.int .i64 I) (.int .i64 I), i64In I, AV.eqb (.str (nv (.ofNat 1) B)) (.str (nv (.ofNat 1) B))]) (txB [109, 111, 118, 108, 46, 109, 114, 32] [(nv (.ofNat 1) A), (nv (.ofNat 1) B), (nv (.ofNat 1) C), (Lib.itoa D), (Lib.itoa I)] [i64In D, AV.eqb (.str (nv (.ofNat 1) C)) (.str (nv (.ofNat 1) C)), AV.eqb (.str (nv (.ofNat 1) B)) (.str (nv (.ofNat 1) B)), AV.eqb (.int .i64 I) (.int .i64 I), i64In I, AV.eqb (.str (nv (.ofNat 1) C)) (.str (nv (.ofNat 1) C)), AV.eqb (.str (nv (.ofNat 1) B)) (.str (nv (.ofNat 1) B))]))) none) := by kernel_rfl
theorem tx_1_add_rr : go5 ev nv 1 [97, 100, 100, 46, 114, 114] A B C D I = tr2 ev nv [97, 100, 100, 46, 114, 114] A B C D I := by kernel_rfl
theorem tx_1_sub_rr : go5 ev nv 1 [115, 117, 98, 46, 114, 114] A B C D I = tr2 ev nv [115, 117, 98, 46, 114, 114] A B C D I := by kernel_rfl
theorem tx_1_add_rm : go5 ev nv 1 [97, 100, 100, 46, 114, 109] A B C D I = txE (ev (.ofNat 1) [97, 100, 100, 46, 114, 109] A B C D I) (bc (AV.eqb (.int .i64 C) (.int .i64 C)) (bc (ieq B (.ofNat 17)) (bc (ieq C (.ofNat 16)) (txB [97, 100, 100, 46, 114, 109, 32] [(nv (.ofNat 1) A), [114, 105, 112], [110, 111, 110, 101], (Lib.itoa D), (Lib.itoa I)] [i64In D, AV.eqb (.int .i64 I) (.int .i64 I), i64In I]) (txB [97, 100, 100, 46, 114, 109, 32] [(nv (.ofNat 1) A), [114, 105, 112], (nv (.ofNat 1) C), (Lib.itoa D), (Lib.itoa I)] [i64In D, AV.eqb (.str (nv (.ofNat 1) C)) (.str (nv (.ofNat 1) C)), AV.eqb (.int .i64 I) (.int .i64 I), i64In I, AV.eqb (.str (nv (.ofNat 1) C)) (.str (nv (.ofNat 1) C))])) (bc (ieq C (.ofNat 16)) (txB [97, 100, 100, 46, 114, 109, 32] [(nv (.ofNat 1) A), (nv (.ofNat 1) B), [110, 111, 110, 101], (Lib.itoa D), (Lib.itoa I)] [i64In D, AV.eqb (.str (nv (.ofNat 1) B)) (.str (nv (.ofNat 1) B)), AV.eqb (.int .i64 I) (.int .i64 I), i64In I, AV.eqb (.str (nv (.ofNat 1) B)) (.str (nv (.ofNat 1) B))]) (txB [97, 100, 100, 46, 114, 109, 32] [(nv (.ofNat 1) A), (nv (.ofNat 1) B), (nv (.ofNat 1) C), (Lib.itoa D), (Lib.itoa I)] [i64In D, AV.eqb (.str (nv (.ofNat 1) C)) (.str (nv (.ofNat 1) C)), AV.eqb (.str (nv (.ofNat 1) B)) (.str (nv (.ofNat 1) B)), AV.eqb (.int .i64 I) (.int .i64 I), i64In I, AV.eqb (.str (nv (.ofNat 1) C)) (.str (nv (.ofNat 1) C)), AV.eqb (.str (nv (.ofNat 1) B)) (.str (nv (.ofNat 1) B))]))) none) := by kernel_rfl
theorem tx_1_sub_rm : go5 ev nv 1 [115, 117, 98, 46, 114, 109] A B C D I = txE (ev (.ofNat 1) [115, 117, 98, 46, 114, 109] A B C D I) (bc (AV.eqb (.int .i64 C) (.int .i64 C)) (bc (ieq B (.ofNat 17)) (bc (ieq C (.ofNat 16)) (txB [115, 117, 98, 46, 114, 109, 32] [(nv (.ofNat 1) A), [114, 105, 112], [110, 111, 110, 101], (Lib.itoa D), (Lib.itoa I)] [i64In D, AV.eqb (.int .i64 I) (.int .i64 I), i64In I]) (txB [115, 117, 98, 46, 114, 109, 32] [(nv (.ofNat 1) A), [114, 105, 112], (nv (.ofNat 1) C), (Lib.itoa D), (Lib.itoa I)] [i64In D, AV.eqb (.str (nv (.ofNat 1) C)) (.str (nv (.ofNat 1) C)), AV.eqb (.int .i64 I) (.int .i64 I), i64In I, AV.eqb (.str (nv (.ofNat 1) C)) (.str (nv (.ofNat 1) C))])) (bc (ieq C (.ofNat 16)) (txB [115, 117, 98, 46, 114, 109, 32] [(nv (.ofNat 1) A), (nv (.ofNat 1) B), [110, 111, 110, 101], (Lib.itoa D), (Lib.itoa I)] [i64In D, AV.eqb (.str (nv (.ofNat 1) B)) (.str (nv (.ofNat 1) B)), AV.eqb (.int .i64 I) (.int .i64 I), i64In I, AV.eqb (.str (nv (.ofNat 1) B)) (.str (nv (.ofNat 1) B))]) (txB [115, 117, 98, 46, 114, 109, 32] [(nv (.ofNat 1) A), (nv (.ofNat 1) B), (nv (.ofNat 1) C), (Lib.itoa D), (Lib.itoa I)] [i64In D, AV.eqb (.str (nv (.ofNat 1) C)) (.str (nv (.ofNat 1) C)), AV.eqb (.str (nv (.ofNat 1) B)) (.str (nv (.ofNat 1) B)), AV.eqb (.int .i64 I) (.int .i64 I), i64In I, AV.eqb (.str (nv (.ofNat 1) C)) (.str (nv (.ofNat 1) C)), AV.eqb (.str (nv (.ofNat 1) B)) (.str (nv (.ofNat 1) B))]))) none) := by kernel_rfl
theorem tx_1_add_ri : go5 ev nv 1 [97, 100, 100, 46, 114, 105] A B C D I = tr4 ev nv [97, 100, 100, 46, 114, 105] A B C D I := by kernel_rfl
theorem tx_1_sub_ri : go5 ev nv 1 [115, 117, 98, 46, 114, 105] A B C D I = tr4 ev nv [115, 117, 98, 46, 114, 105] A B C D I := by kernel_rfl
theorem tx_1_test_rr : go5 ev nv 1 [116, 101, 115, 116, 46, 114, 114] A B C D I = tr2 ev nv [116, 101, 115, 116, 46, 114, 114] A B C D I := by kernel_rfl
theorem tx_1_neg : go5 ev nv 1 [110, 101, 103] A B C D I = tr1 ev nv [110, 101, 103] A B C D I := by kernel_rfl
theorem tx_1_idiv : go5 ev nv 1 [105, 100, 105, 118] A B C D I = tr1 ev nv [105, 100, 105, 118] A B C D I := by kernel_rfl
theorem tx_1_shr_ri : go5 ev nv 1 [115, 104, 114, 46, 114, 105] A B C D I = tr4 ev nv [115, 104, 114, 46, 114, 105] A B C D I := by kernel_rfl
theorem tx_1_shr_rc : go5 ev nv 1 [115, 104, 114, 46, 114, 99] A B C D I = tr1 ev nv [115, 104, 114, 46, 114, 99] A B C D I := by kernel_rfl
theorem tx_1_cmov_1 : go5 ev nv 1 [99, 109, 111, 118] A B C (.ofNat 1) I = tr3 ev nv [99, 109, 111, 118] A B C (.ofNat 1) I := by kernel_rfl
theorem tx_1_cmov_4 : go5 ev nv 1 [99, 109, 111, 118] A B C (.ofNat 4) I = tr3 ev nv [99, 109, 111, 118] A B C (.ofNat 4) I := by kernel_rfl
theorem tx_1_cmov_7 : go5 ev nv 1 [99, 109, 111, 118] A B C (.ofNat 7) I = tr3 ev nv [99, 109, 111, 118] A B C (.ofNat 7) I := by kernel_rfl
theorem tx_1_cmov_12 : go5 ev nv 1 [99, 109, 111, 118] A B C (.ofNat 12) I = tr3 ev nv [99, 109, 111, 118] A B C (.ofNat 12) I := by kernel_rfl
theorem tx_1_cmov_15 : go5 ev nv 1 [99, 109, 111, 118] A B C (.ofNat 15) I = tr3 ev nv [99, 109, 111, 118] A B C (.ofNat 15) I := by kernel_rfl
theorem tx_1_call : go5 ev nv 1 [99, 97, 108, 108] A B C D I = tr7 ev nv [99, 97, 108, 108] A B C D I := by kernel_rfl
theorem tx_1_call_r : go5 ev nv 1 [99, 97, 108, 108, 46, 114] A B C D I = tr1 ev nv [99, 97, 108, 108, 46, 114] A B C D I := by kernel_rfl
theorem tx_1_jcc_1 : go5 ev nv 1 [106, 99, 99] A B C (.ofNat 1) I = tr6 ev nv [106, 99, 99] A B C (.ofNat 1) I := by kernel_rfl
theorem tx_1_jcc_4 : go5 ev nv 1 [106, 99, 99] A B C (.ofNat 4) I = tr6 ev nv [106, 99, 99] A B C (.ofNat 4) I := by kernel_rfl
theorem tx_1_jcc_7 : go5 ev nv 1 [106, 99, 99] A B C (.ofNat 7) I = tr6 ev nv [106, 99, 99] A B C (.ofNat 7) I := by kernel_rfl
theorem tx_1_jcc_12 : go5 ev nv 1 [106, 99, 99] A B C (.ofNat 12) I = tr6 ev nv [106, 99, 99] A B C (.ofNat 12) I := by kernel_rfl
theorem tx_1_jcc_15 : go5 ev nv 1 [106, 99, 99] A B C (.ofNat 15) I = tr6 ev nv [106, 99, 99] A B C (.ofNat 15) I := by kernel_rfl
theorem tx_1_jcc_s_2 : go5 ev nv 1 [106, 99, 99, 46, 115] A B C (.ofNat 2) I = tr6 ev nv [106, 99, 99, 46, 115] A B C (.ofNat 2) I := by kernel_rfl
theorem tx_1_jcc_s_5 : go5 ev nv 1 [106, 99, 99, 46, 115] A B C (.ofNat 5) I = tr6 ev nv [106, 99, 99, 46, 115] A B C (.ofNat 5) I := by kernel_rfl
theorem tx_1_jcc_s_8 : go5 ev nv 1 [106, 99, 99, 46, 115] A B C (.ofNat 8) I = tr6 ev nv [106, 99, 99, 46, 115] A B C (.ofNat 8) I := by kernel_rfl
theorem tx_1_jcc_s_13 : go5 ev nv 1 [106, 99, 99, 46, 115] A B C (.ofNat 13) I = tr6 ev nv [106, 99, 99, 46, 115] A B C (.ofNat 13) I := by kernel_rfl
theorem tx_1_ret : go5 ev nv 1 [114, 101, 116] A B C D I = txE (ev (.ofNat 1) [114, 101, 116] A B C D I) (some (.tup [.str [114, 101, 116], .int .i64 (.ofNat 0)])) := by kernel_rfl
theorem tx_1_ud2 : go5 ev nv 1 [117, 100, 50] A B C D I = txE (ev (.ofNat 1) [117, 100, 50] A B C D I) (some (.tup [.str [117, 100, 50], .int .i64 (.ofNat 0)])) := by kernel_rfl
theorem tx_2_movk : go5 ev nv 2 [109, 111, 118, 107] A B C D I = tr18 ev nv [109, 111, 118, 107] A B C D I := by kernel_rfl
theorem tx_2_sub_i : go5 ev nv 2 [115, 117, 98, 46, 105] A B C D I = tr14 ev nv [115, 117, 98, 46, 105] A B C D I := by kernel_rfl
theorem tx_2_adds : go5 ev nv 2 [97, 100, 100, 115] A B C D I = tr12 ev nv [97, 100, 100, 115] A B C D I := by kernel_rfl
theorem tx_2_and : go5 ev nv 2 [97, 110, 100] A B C D I = tr12 ev nv [97, 110, 100] A B C D I := by kernel_rfl
theorem tx_2_ands : go5 ev nv 2 [97, 110, 100, 115] A B C D I = tr12 ev nv [97, 110, 100, 115] A B C D I := by kernel_rfl
theorem tx_2_eor_i : go5 ev nv 2 [101, 111, 114, 46, 105] A B C D I = tr13 ev nv [101, 111, 114, 46, 105] A B C D I := by kernel_rfl
theorem tx_2_msub : go5 ev nv 2 [109, 115, 117, 98] A B C D I = tr10 ev nv [109, 115, 117, 98] A B C D I := by kernel_rfl
theorem tx_2_lslv : go5 ev nv 2 [108, 115, 108, 118] A B C D I = tr9 ev nv [108, 115, 108, 118] A B C D I := by kernel_rfl
theorem tx_2_sbfm : go5 ev nv 2 [115, 98, 102, 109] A B C D I = tr15 ev nv [115, 98, 102, 109] A B C D I := by kernel_rfl
theorem tx_2_csel_1 : go5 ev nv 2 [99, 115, 101, 108] A B C (.ofNat 1) I = tr11 ev nv [99, 115, 101, 108] A B C (.ofNat 1) I := by kernel_rfl
theorem tx_2_csel_4 : go5 ev nv 2 [99, 115, 101, 108] A B C (.ofNat 4) I = tr11 ev nv [99, 115, 101, 108] A B C (.ofNat 4) I := by kernel_rfl
theorem tx_2_csel_7 : go5 ev nv 2 [99, 115, 101, 108] A B C (.ofNat 7) I = tr11 ev nv [99, 115, 101, 108] A B C (.ofNat 7) I := by kernel_rfl
theorem tx_2_csel_10 : go5 ev nv 2 [99, 115, 101, 108] A B C (.ofNat 10) I = tr11 ev nv [99, 115, 101, 108] A B C (.ofNat 10) I := by kernel_rfl
theorem tx_2_csel_13 : go5 ev nv 2 [99, 115, 101, 108] A B C (.ofNat 13) I = tr11 ev nv [99, 115, 101, 108] A B C (.ofNat 13) I := by kernel_rfl
theorem tx_2_csinc_2 : go5 ev nv 2 [99, 115, 105, 110, 99] A B C (.ofNat 2) I = tr11 ev nv [99, 115, 105, 110, 99] A B C (.ofNat 2) I := by kernel_rfl
theorem tx_2_csinc_5 : go5 ev nv 2 [99, 115, 105, 110, 99] A B C (.ofNat 5) I = tr11 ev nv [99, 115, 105, 110, 99] A B C (.ofNat 5) I := by kernel_rfl
theorem tx_2_csinc_8 : go5 ev nv 2 [99, 115, 105, 110, 99] A B C (.ofNat 8) I = tr11 ev nv [99, 115, 105, 110, 99] A B C (.ofNat 8) I := by kernel_rfl
theorem tx_2_csinc_11 : go5 ev nv 2 [99, 115, 105, 110, 99] A B C (.ofNat 11) I = tr11 ev nv [99, 115, 105, 110, 99] A B C (.ofNat 11) I := by kernel_rfl
theorem tx_2_adr : go5 ev nv 2 [97, 100, 114] A B C D I = tr17 ev nv [97, 100, 114] A B C D I := by kernel_rfl
theorem tx_2_strb : go5 ev nv 2 [115, 116, 114, 98] A B C D I = tr13 ev nv [115, 116, 114, 98] A B C D I := by kernel_rfl
theorem tx_2_ldr_w : go5 ev nv 2 [108, 100, 114, 46, 119] A B C D I = tr13 ev nv [108, 100, 114, 46, 119] A B C D I := by kernel_rfl
theorem tx_2_ldr : go5 ev nv 2 [108, 100, 114] A B C D I = tr13 ev nv [108, 100, 114] A B C D I := by kernel_rfl
theorem tx_2_stp : go5 ev nv 2 [115, 116, 112] A B C D I = tr16 ev nv [115, 116, 112] A B C D I := by kernel_rfl
theorem tx_2_b_c_0 : go5 ev nv 2 [98, 46, 99] A B C (.ofNat 0) I = tr20 ev nv [98, 46, 99] A B C (.ofNat 0) I := by kernel_rfl
theorem tx_2_b_c_3 : go5 ev nv 2 [98, 46, 99] A B C (.ofNat 3) I = tr20 ev nv [98, 46, 99] A B C (.ofNat 3) I := by kernel_rfl
theorem tx_2_b_c_6 : go5 ev nv 2 [98, 46, 99] A B C (.ofNat 6) I = tr20 ev nv [98, 46, 99] A B C (.ofNat 6) I := by kernel_rfl
theorem tx_2_b_c_9 : go5 ev nv 2 [98, 46, 99] A B C (.ofNat 9) I = tr20 ev nv [98, 46, 99] A B C (.ofNat 9) I := by kernel_rfl
theorem tx_2_b_c_12 : go5 ev nv 2 [98, 46, 99] A B C (.ofNat 12) I = tr20 ev nv [98, 46, 99] A B C (.ofNat 12) I := by kernel_rfl
theorem tx_2_cbnz : go5 ev nv 2 [99, 98, 110, 122] A B C D I = tr17 ev nv [99, 98, 110, 122] A B C D I := by kernel_rfl
theorem tx_2_ret : go5 ev nv 2 [114, 101, 116] A B C D I = tr19 ev nv [114, 101, 116] A B C D I := by kernel_rfl
theorem tx_2_nop : go5 ev nv 2 [110, 111, 112] A B C D I = txE (ev (.ofNat 2) [110, 111, 112] A B C D I) (some (.tup [.str [110, 111, 112], .int .i64 (.ofNat 0)])) := by kernel_rfl
theorem tx_3_sll : go5 ev nv 3 [115, 108, 108] A B C D I = tr23 ev nv [115, 108, 108] A B C D I := by kernel_rfl
theorem tx_3_xor : go5 ev nv 3 [120, 111, 114] A B C D I = tr23 ev nv [120, 111, 114] A B C D I := by kernel_rfl
theorem tx_3_or : go5 ev nv 3 [111, 114] A B C D I = tr23 ev nv [111, 114] A B C D I := by kernel_rfl
theorem tx_3_mulh : go5 ev nv 3 [109, 117, 108, 104] A B C D I = tr23 ev nv [109, 117, 108, 104] A B C D I := by kernel_rfl
theorem tx_3_div : go5 ev nv 3 [100, 105, 118] A B C D I = tr23 ev nv [100, 105, 118] A B C D I := by kernel_rfl
theorem tx_3_remu : go5 ev nv 3 [114, 101, 109, 117] A B C D I = tr23 ev nv [114, 101, 109, 117] A B C D I := by kernel_rfl
theorem tx_3_sllw : go5 ev nv 3 [115, 108, 108, 119] A B C D I = tr23 ev nv [115, 108, 108, 119] A B C D I := by kernel_rfl
theorem tx_3_mulw : go5 ev nv 3 [109, 117, 108, 119] A B C D I = tr23 ev nv [109, 117, 108, 119] A B C D I := by kernel_rfl
theorem tx_3_remw : go5 ev nv 3 [114, 101, 109, 119] A B C D I = tr23 ev nv [114, 101, 109, 119] A B C D I := by kernel_rfl
theorem tx_3_slti : go5 ev nv 3 [115, 108, 116, 105] A B C D I = tr24 ev nv [115, 108, 116, 105] A B C D I := by kernel_rfl
theorem tx_3_ori : go5 ev nv 3 [111, 114, 105] A B C D I = tr24 ev nv [111, 114, 105] A B C D I := by kernel_rfl
theorem tx_3_lb : go5 ev nv 3 [108, 98] A B C D I = tr24 ev nv [108, 98] A B C D I := by kernel_rfl
theorem tx_3_ld : go5 ev nv 3 [108, 100] A B C D I = tr24 ev nv [108, 100] A B C D I := by kernel_rfl
theorem tx_3_lwu : go5 ev nv 3 [108, 119, 117] A B C D I = tr24 ev nv [108, 119, 117] A B C D I := by kernel_rfl
theorem tx_3_srli : go5 ev nv 3 [115, 114, 108, 105] A B C D I = tr24 ev nv [115, 114, 108, 105] A B C D I := by kernel_rfl
theorem tx_3_srliw : go5 ev nv 3 [115, 114, 108, 105, 119] A B C D I = tr24 ev nv [115, 114, 108, 105, 119] A B C D I := by kernel_rfl
theorem tx_3_sh : go5 ev nv 3 [115, 104] A B C D I = tr30 ev nv [115, 104] A B C D I := by kernel_rfl
theorem tx_3_beq : go5 ev nv 3 [98, 101, 113] A B C D I = tr28 ev nv [98, 101, 113] A B C D I := by kernel_rfl
theorem tx_3_bge : go5 ev nv 3 [98, 103, 101] A B C D I = tr28 ev nv [98, 103, 101] A B C D I := by kernel_rfl
theorem tx_3_lui : go5 ev nv 3 [108, 117, 105] A B C D I = tr26 ev nv [108, 117, 105] A B C D I := by kernel_rfl
theorem tx_3_ecall : go5 ev nv 3 [101, 99, 97, 108, 108] A B C D I = txE (ev (.ofNat 3) [101, 99, 97, 108, 108] A B C D I) (some (.tup [.str [101, 99, 97, 108, 108], .int .i64 (.ofNat 0)])) := by kernel_rfl
theorem tx_3_c_lw : go5 ev nv 3 [99, 46, 108, 119] A B C D I = tr24 ev nv [99, 46, 108, 119] A B C D I := by kernel_rfl
theorem tx_3_c_sd : go5 ev nv 3 [99, 46, 115, 100] A B C D I = tr30 ev nv [99, 46, 115, 100] A B C D I := by kernel_rfl
theorem tx_3_c_addiw : go5 ev nv 3 [99, 46, 97, 100, 100, 105, 119] A B C D I = tr26 ev nv [99, 46, 97, 100, 100, 105, 119] A B C D I := by kernel_rfl
theorem tx_3_c_lui : go5 ev nv 3 [99, 46, 108, 117, 105] A B C D I = tr26 ev nv [99, 46, 108, 117, 105] A B C D I := by kernel_rfl
theorem tx_3_c_andi : go5 ev nv 3 [99, 46, 97, 110, 100, 105] A B C D I = tr26 ev nv [99, 46, 97, 110, 100, 105] A B C D I := by kernel_rfl
theorem tx_3_c_or : go5 ev nv 3 [99, 46, 111, 114] A B C D I = tr25 ev nv [99, 46, 111, 114] A B C D I := by kernel_rfl
theorem tx_3_c_addw : go5 ev nv 3 [99, 46, 97, 100, 100, 119] A B C D I = tr25 ev nv [99, 46, 97, 100, 100, 119] A B C D I := by kernel_rfl
theorem tx_3_c_bnez : go5 ev nv 3 [99, 46, 98, 110, 101, 122] A B C D I = tr29 ev nv [99, 46, 98, 110, 101, 122] A B C D I := by kernel_rfl
theorem tx_3_c_ldsp : go5 ev nv 3 [99, 46, 108, 100, 115, 112] A B C D I = tr26 ev nv [99, 46, 108, 100, 115, 112] A B C D I := by kernel_rfl
theorem tx_3_c_mv : go5 ev nv 3 [99, 46, 109, 118] A B C D I = tr25 ev nv [99, 46, 109, 118] A B C D I := by kernel_rfl
theorem tx_3_c_swsp : go5 ev nv 3 [99, 46, 115, 119, 115, 112] A B C D I = tr31 ev nv [99, 46, 115, 119, 115, 112] A B C D I := by kernel_rfl
end
end Go.Proofs.YtlclahpapabkdaaGreatDoor
