/- Texts of instructions by their names. -/
import Derived.Test.YtlclahpapabkdaaGreatDoorTxT
import Derived.KernelRfl
namespace Go.Proofs.YtlclahpapabkdaaGreatDoor
open Go Go.Vai
noncomputable section
set_option maxRecDepth 100000
variable (ev : EvT) (nv : Int → Int → List UInt8) (A B C D I : Int)
theorem tx_1_mov_ri : go5 ev nv 1 [109, 111, 118, 46, 114, 105] A B C D I = tr4 ev nv [109, 111, 118, 46, 114, 105] A B C D I := by kernel_rfl
theorem tx_1_movl_rm : go5 ev nv 1 [109, 111, 118, 108, 46, 114, 109] A B C D I = txE (ev (.ofNat 1) [109, 111, 118, 108, 46, 114, 109] A B C D I) (bc (AV.eqb (.int .i64 C) (.int .i64 C)) (bc (ieq B (.ofNat 17)) (bc (ieq C (.ofNat 16)) (txB [109, 111, 118, 108, 46, 114, 109, 32] [(nv (.ofNat 1) A), [114, 105, 112], [110, 111, 110, 101], (Lib.itoa D), (Lib.itoa I)] [i64In D, AV.eqb (.int .i64 I) (.int .i64 I), i64In I]) (txB [109, 111, 118, 108, 46, 114, 109, 32] [(nv (.ofNat 1) A), [114, 105, 112], (nv (.ofNat 1) C), (Lib.itoa D), (Lib.itoa I)] [i64In D, AV.eqb (.str (nv (.ofNat 1) C)) (.str (nv (.ofNat 1) C)), AV.eqb (.int .i64 I) (.int .i64 I), i64In I, AV.eqb (.str (nv (.ofNat 1) C)) (.str (nv (.ofNat 1) C))])) (bc (ieq C (.ofNat 16)) (txB [109, 111, 118, 108, 46, 114, 109, 32] [(nv (.ofNat 1) A), (nv (.ofNat 1) B), [110, 111, 110, 101], (Lib.itoa D), (Lib.itoa I)] [i64In D, AV.eqb (.str (nv (.ofNat 1) B)) (.str (nv (.ofNat 1) B)), AV.eqb (.int .i64 I) (.int .i64 I), i64In I, AV.eqb (.str (nv (.ofNat 1) B)) (.str (nv (.ofNat 1) B))]) (txB [109, 111, 118, 108, 46, 114, 109, 32] [(nv (.ofNat 1) A), (nv (.ofNat 1) B), (nv (.ofNat 1) C), (Lib.itoa D), (Lib.itoa I)] [i64In D, AV.eqb (.str (nv (.ofNat 1) C)) (.str (nv (.ofNat 1) C)), AV.eqb (.str (nv (.ofNat 1) B)) (.str (nv (.ofNat 1) B)), AV.eqb (.int .i64 I) (.int .i64 I), i64In I, AV.eqb (.str (nv (.ofNat 1) C)) (.str (nv (.ofNat 1) C)), AV.eqb (.str (nv (.ofNat 1) B)) (.str (nv (.ofNat 1) B))]))) none) := by kernel_rfl
theorem tx_1_lea : go5 ev nv 1 [108, 101, 97] A B C D I = txE (ev (.ofNat 1) [108, 101, 97] A B C D I) (bc (AV.eqb (.int .i64 C) (.int .i64 C)) (bc (ieq B (.ofNat 17)) (bc (ieq C (.ofNat 16)) (txB [108, 101, 97, 32] [(nv (.ofNat 1) A), [114, 105, 112], [110, 111, 110, 101], (Lib.itoa D), (Lib.itoa I)] [i64In D, AV.eqb (.int .i64 I) (.int .i64 I), i64In I]) (txB [108, 101, 97, 32] [(nv (.ofNat 1) A), [114, 105, 112], (nv (.ofNat 1) C), (Lib.itoa D), (Lib.itoa I)] [i64In D, AV.eqb (.str (nv (.ofNat 1) C)) (.str (nv (.ofNat 1) C)), AV.eqb (.int .i64 I) (.int .i64 I), i64In I, AV.eqb (.str (nv (.ofNat 1) C)) (.str (nv (.ofNat 1) C))])) (bc (ieq C (.ofNat 16)) (txB [108, 101, 97, 32] [(nv (.ofNat 1) A), (nv (.ofNat 1) B), [110, 111, 110, 101], (Lib.itoa D), (Lib.itoa I)] [i64In D, AV.eqb (.str (nv (.ofNat 1) B)) (.str (nv (.ofNat 1) B)), AV.eqb (.int .i64 I) (.int .i64 I), i64In I, AV.eqb (.str (nv (.ofNat 1) B)) (.str (nv (.ofNat 1) B))]) (txB [108, 101, 97, 32] [(nv (.ofNat 1) A), (nv (.ofNat 1) B), (nv (.ofNat 1) C), (Lib.itoa D), (Lib.itoa I)] [i64In D, AV.eqb (.str (nv (.ofNat 1) C)) (.str (nv (.ofNat 1) C)), AV.eqb (.str (nv (.ofNat 1) B)) (.str (nv (.ofNat 1) B)), AV.eqb (.int .i64 I) (.int .i64 I), i64In I, AV.eqb (.str (nv (.ofNat 1) C)) (.str (nv (.ofNat 1) C)), AV.eqb (.str (nv (.ofNat 1) B)) (.str (nv (.ofNat 1) B))]))) none) := by kernel_rfl
theorem tx_1_movb_mr : go5 ev nv 1 [109, 111, 118, 98, 46, 109, 114] A B C D I = txE (ev (.ofNat 1) [109, 111, 118, 98, 46, 109, 114] A B C D I) (bc (AV.eqb (.int .i64 C) (.int .i64 C)) (bc (ieq B (.ofNat 17)) (bc (ieq C (.ofNat 16)) (txB [109, 111, 118, 98, 46, 109, 114, 32] [(nv (.ofNat 1) A), [114, 105, 112], [110, 111, 110, 101], (Lib.itoa D), (Lib.itoa I)] [i64In D, AV.eqb (.int .i64 I) (.int .i64 I), i64In I]) (txB [109, 111, 118, 98, 46, 109, 114, 32] [(nv (.ofNat 1) A), [114, 105, 112], (nv (.ofNat 1) C), (Lib.itoa D), (Lib.itoa I)] [i64In D, AV.eqb (.str (nv (.ofNat 1) C)) (.str (nv (.ofNat 1) C)), AV.eqb (.int .i64 I) (.int .i64 I), i64In I, AV.eqb (.str (nv (.ofNat 1) C)) (.str (nv (.ofNat 1) C))])) (bc (ieq C (.ofNat 16)) (txB [109, 111, 118, 98, 46, 109, 114, 32] [(nv (.ofNat 1) A), (nv (.ofNat 1) B), [110, 111, 110, 101], (Lib.itoa D), (Lib.itoa I)] [i64In D, AV.eqb (.str (nv (.ofNat 1) B)) (.str (nv (.ofNat 1) B)), AV.eqb (.int .i64 I) (.int .i64 I), i64In I, AV.eqb (.str (nv (.ofNat 1) B)) (.str (nv (.ofNat 1) B))]) (txB [109, 111, 118, 98, 46, 109, 114, 32] [(nv (.ofNat 1) A), (nv (.ofNat 1) B), (nv (.ofNat 1) C), (Lib.itoa D), (Lib.itoa I)] [i64In D, AV.eqb (.str (nv (.ofNat 1) C)) (.str (nv (.ofNat 1) C)), AV.eqb (.str (nv (.ofNat 1) B)) (.str (nv (.ofNat 1) B)), AV.eqb (.int .i64 I) (.int .i64 I), i64In I, AV.eqb (.str (nv (.ofNat 1) C)) (.str (nv (.ofNat 1) C)), AV.eqb (.str (nv (.ofNat 1) B)) (.str (nv (.ofNat 1) B))]))) none) := by kernel_rfl
theorem tx_1_or_rr : go5 ev nv 1 [111, 114, 46, 114, 114] A B C D I = tr2 ev nv [111, 114, 46, 114, 114] A B C D I := by kernel_rfl
theorem tx_1_xor_rr : go5 ev nv 1 [120, 111, 114, 46, 114, 114] A B C D I = tr2 ev nv [120, 111, 114, 46, 114, 114] A B C D I := by kernel_rfl
theorem tx_1_or_rm : go5 ev nv 1 [111, 114, 46, 114, 109] A B C D I = txE (ev (.ofNat 1) [111, 114, 46, 114, 109] A B C D I) (bc (AV.eqb (.int .i64 C) (.int .i64 C)) (bc (ieq B (.ofNat 17)) (bc (ieq C (.ofNat 16)) (txB [111, 114, 46, 114, 109, 32] [(nv (.ofNat 1) A), [114, 105, 112], [110, 111, 110, 101], (Lib.itoa D), (Lib.itoa I)] [i64In D, AV.eqb (.int .i64 I) (.int .i64 I), i64In I]) (txB [111, 114, 46, 114, 109, 32] [(nv (.ofNat 1) A), [114, 105, 112], (nv (.ofNat 1) C), (Lib.itoa D), (Lib.itoa I)] [i64In D, AV.eqb (.str (nv (.ofNat 1) C)) (.str (nv (.ofNat 1) C)), AV.eqb (.int .i64 I) (.int .i64 I), i64In I, AV.eqb (.str (nv (.ofNat 1) C)) (.str (nv (.ofNat 1) C))])) (bc (ieq C (.ofNat 16)) (txB [111, 114, 46, 114, 109, 32] [(nv (.ofNat 1) A), (nv (.ofNat 1) B), [110, 111, 110, 101], (Lib.itoa D), (Lib.itoa I)] [i64In D, AV.eqb (.str (nv (.ofNat 1) B)) (.str (nv (.ofNat 1) B)), AV.eqb (.int .i64 I) (.int .i64 I), i64In I, AV.eqb (.str (nv (.ofNat 1) B)) (.str (nv (.ofNat 1) B))]) (txB [111, 114, 46, 114, 109, 32] [(nv (.ofNat 1) A), (nv (.ofNat 1) B), (nv (.ofNat 1) C), (Lib.itoa D), (Lib.itoa I)] [i64In D, AV.eqb (.str (nv (.ofNat 1) C)) (.str (nv (.ofNat 1) C)), AV.eqb (.str (nv (.ofNat 1) B)) (.str (nv (.ofNat 1) B)), AV.eqb (.int .i64 I) (.int .i64 I), i64In I, AV.eqb (.str (nv (.ofNat 1) C)) (.str (nv (.ofNat 1) C)), AV.eqb (.str (nv (.ofNat 1) B)) (.str (nv (.ofNat 1) B))]))) none) := by kernel_rfl
theorem tx_1_xor_rm : go5 ev nv 1 [120, 111, 114, 46, 114, 109] A B C D I = txE (ev (.ofNat 1) [120, 111, 114, 46, 114, 109] A B C D I) (bc (AV.eqb (.int .i64 C) (.int .i64 C)) (bc (ieq B (.ofNat 17)) (bc (ieq C (.ofNat 16)) (txB [120, 111, 114, 46, 114, 109, 32] [(nv (.ofNat 1) A), [114, 105, 112], [110, 111, 110, 101], (Lib.itoa D), (Lib.itoa I)] [i64In D, AV.eqb (.int .i64 I) (.int .i64 I), i64In I]) (txB [120, 111, 114, 46, 114, 109, 32] [(nv (.ofNat 1) A), [114, 105, 112], (nv (.ofNat 1) C), (Lib.itoa D), (Lib.itoa I)] [i64In D, AV.eqb (.str (nv (.ofNat 1) C)) (.str (nv (.ofNat 1) C)), AV.eqb (.int .i64 I) (.int .i64 I), i64In I, AV.eqb (.str (nv (.ofNat 1) C)) (.str (nv (.ofNat 1) C))])) (bc (ieq C (.ofNat 16)) (txB [120, 111, 114, 46, 114, 109, 32] [(nv (.ofNat 1) A), (nv (.ofNat 1) B), [110, 111, 110, 101], (Lib.itoa D), (Lib.itoa I)] [i64In D, AV.eqb (.str (nv (.ofNat 1) B)) (.str (nv (.ofNat 1) B)), AV.eqb (.int .i64 I) (.int .i64 I), i64In I, AV.eqb (.str (nv (.ofNat 1) B)) (.str (nv (.ofNat 1) B))]) (txB [120, 111, 114, 46, 114, 109, 32] [(nv (.ofNat 1) A), (nv (.ofNat 1) B), (nv (.ofNat 1) C), (Lib.itoa D), (Lib.itoa I)] [i64In D, AV.eqb (.str (nv (.ofNat 1) C)) (.str (nv (.ofNat 1) C)), AV.eqb (.str (nv (.ofNat 1) B)) (.str (nv (.ofNat 1) B)), AV.eqb (.int .i64 I) (.int .i64 I), i64In I, AV.eqb (.str (nv (.ofNat 1) C)) (.str (nv (.ofNat 1) C)), AV.eqb (.str (nv (.ofNat 1) B)) (.str (nv (.ofNat 1) B))]))) none) := by kernel_rfl
theorem tx_1_or_ri : go5 ev nv 1 [111, 114, 46, 114, 105] A B C D I = tr4 ev nv [111, 114, 46, 114, 105] A B C D I := by kernel_rfl
theorem tx_1_xor_ri : go5 ev nv 1 [120, 111, 114, 46, 114, 105] A B C D I = tr4 ev nv [120, 111, 114, 46, 114, 105] A B C D I := by kernel_rfl
theorem tx_1_imul_rr : go5 ev nv 1 [105, 109, 117, 108, 46, 114, 114] A B C D I = tr2 ev nv [105, 109, 117, 108, 46, 114, 114] A B C D I := by kernel_rfl
theorem tx_1_mul : go5 ev nv 1 [109, 117, 108] A B C D I = tr1 ev nv [109, 117, 108] A B C D I := by kernel_rfl
theorem tx_1_cqo : go5 ev nv 1 [99, 113, 111] A B C D I = txE (ev (.ofNat 1) [99, 113, 111] A B C D I) (some (.tup [.str [99, 113, 111], .int .i64 (.ofNat 0)])) := by kernel_rfl
theorem tx_1_sar_ri : go5 ev nv 1 [115, 97, 114, 46, 114, 105] A B C D I = tr4 ev nv [115, 97, 114, 46, 114, 105] A B C D I := by kernel_rfl
theorem tx_1_sar_rc : go5 ev nv 1 [115, 97, 114, 46, 114, 99] A B C D I = tr1 ev nv [115, 97, 114, 46, 114, 99] A B C D I := by kernel_rfl
theorem tx_1_cmov_2 : go5 ev nv 1 [99, 109, 111, 118] A B C (.ofNat 2) I = tr3 ev nv [99, 109, 111, 118] A B C (.ofNat 2) I := by kernel_rfl
theorem tx_1_cmov_5 : go5 ev nv 1 [99, 109, 111, 118] A B C (.ofNat 5) I = tr3 ev nv [99, 109, 111, 118] A B C (.ofNat 5) I := by kernel_rfl
theorem tx_1_cmov_8 : go5 ev nv 1 [99, 109, 111, 118] A B C (.ofNat 8) I = tr3 ev nv [99, 109, 111, 118] A B C (.ofNat 8) I := by kernel_rfl
theorem tx_1_cmov_13 : go5 ev nv 1 [99, 109, 111, 118] A B C (.ofNat 13) I = tr3 ev nv [99, 109, 111, 118] A B C (.ofNat 13) I := by kernel_rfl
theorem tx_1_push : go5 ev nv 1 [112, 117, 115, 104] A B C D I = tr1 ev nv [112, 117, 115, 104] A B C D I := by kernel_rfl
theorem tx_1_jmp : go5 ev nv 1 [106, 109, 112] A B C D I = tr7 ev nv [106, 109, 112] A B C D I := by kernel_rfl
theorem tx_1_jmp_r : go5 ev nv 1 [106, 109, 112, 46, 114] A B C D I = tr1 ev nv [106, 109, 112, 46, 114] A B C D I := by kernel_rfl
theorem tx_1_jcc_2 : go5 ev nv 1 [106, 99, 99] A B C (.ofNat 2) I = tr6 ev nv [106, 99, 99] A B C (.ofNat 2) I := by kernel_rfl
theorem tx_1_jcc_5 : go5 ev nv 1 [106, 99, 99] A B C (.ofNat 5) I = tr6 ev nv [106, 99, 99] A B C (.ofNat 5) I := by kernel_rfl
theorem tx_1_jcc_8 : go5 ev nv 1 [106, 99, 99] A B C (.ofNat 8) I = tr6 ev nv [106, 99, 99] A B C (.ofNat 8) I := by kernel_rfl
theorem tx_1_jcc_13 : go5 ev nv 1 [106, 99, 99] A B C (.ofNat 13) I = tr6 ev nv [106, 99, 99] A B C (.ofNat 13) I := by kernel_rfl
theorem tx_1_jcc_s_0 : go5 ev nv 1 [106, 99, 99, 46, 115] A B C (.ofNat 0) I = tr6 ev nv [106, 99, 99, 46, 115] A B C (.ofNat 0) I := by kernel_rfl
theorem tx_1_jcc_s_3 : go5 ev nv 1 [106, 99, 99, 46, 115] A B C (.ofNat 3) I = tr6 ev nv [106, 99, 99, 46, 115] A B C (.ofNat 3) I := by kernel_rfl
theorem tx_1_jcc_s_6 : go5 ev nv 1 [106, 99, 99, 46, 115] A B C (.ofNat 6) I = tr6 ev nv [106, 99, 99, 46, 115] A B C (.ofNat 6) I := by kernel_rfl
theorem tx_1_jcc_s_9 : go5 ev nv 1 [106, 99, 99, 46, 115] A B C (.ofNat 9) I = tr6 ev nv [106, 99, 99, 46, 115] A B C (.ofNat 9) I := by kernel_rfl
theorem tx_1_jcc_s_14 : go5 ev nv 1 [106, 99, 99, 46, 115] A B C (.ofNat 14) I = tr6 ev nv [106, 99, 99, 46, 115] A B C (.ofNat 14) I := by kernel_rfl
theorem tx_1_syscall : go5 ev nv 1 [115, 121, 115, 99, 97, 108, 108] A B C D I = txE (ev (.ofNat 1) [115, 121, 115, 99, 97, 108, 108] A B C D I) (some (.tup [.str [115, 121, 115, 99, 97, 108, 108], .int .i64 (.ofNat 0)])) := by kernel_rfl
theorem tx_2_movn : go5 ev nv 2 [109, 111, 118, 110] A B C D I = tr18 ev nv [109, 111, 118, 110] A B C D I := by kernel_rfl
theorem tx_2_add_i : go5 ev nv 2 [97, 100, 100, 46, 105] A B C D I = tr14 ev nv [97, 100, 100, 46, 105] A B C D I := by kernel_rfl
theorem tx_2_subs_i : go5 ev nv 2 [115, 117, 98, 115, 46, 105] A B C D I = tr14 ev nv [115, 117, 98, 115, 46, 105] A B C D I := by kernel_rfl
theorem tx_2_sub : go5 ev nv 2 [115, 117, 98] A B C D I = tr12 ev nv [115, 117, 98] A B C D I := by kernel_rfl
theorem tx_2_orr : go5 ev nv 2 [111, 114, 114] A B C D I = tr12 ev nv [111, 114, 114] A B C D I := by kernel_rfl
theorem tx_2_and_i : go5 ev nv 2 [97, 110, 100, 46, 105] A B C D I = tr13 ev nv [97, 110, 100, 46, 105] A B C D I := by kernel_rfl
theorem tx_2_ands_i : go5 ev nv 2 [97, 110, 100, 115, 46, 105] A B C D I = tr13 ev nv [97, 110, 100, 115, 46, 105] A B C D I := by kernel_rfl
theorem tx_2_udiv : go5 ev nv 2 [117, 100, 105, 118] A B C D I = tr9 ev nv [117, 100, 105, 118] A B C D I := by kernel_rfl
theorem tx_2_lsrv : go5 ev nv 2 [108, 115, 114, 118] A B C D I = tr9 ev nv [108, 115, 114, 118] A B C D I := by kernel_rfl
theorem tx_2_ubfm : go5 ev nv 2 [117, 98, 102, 109] A B C D I = tr15 ev nv [117, 98, 102, 109] A B C D I := by kernel_rfl
theorem tx_2_csel_2 : go5 ev nv 2 [99, 115, 101, 108] A B C (.ofNat 2) I = tr11 ev nv [99, 115, 101, 108] A B C (.ofNat 2) I := by kernel_rfl
theorem tx_2_csel_5 : go5 ev nv 2 [99, 115, 101, 108] A B C (.ofNat 5) I = tr11 ev nv [99, 115, 101, 108] A B C (.ofNat 5) I := by kernel_rfl
theorem tx_2_csel_8 : go5 ev nv 2 [99, 115, 101, 108] A B C (.ofNat 8) I = tr11 ev nv [99, 115, 101, 108] A B C (.ofNat 8) I := by kernel_rfl
theorem tx_2_csel_11 : go5 ev nv 2 [99, 115, 101, 108] A B C (.ofNat 11) I = tr11 ev nv [99, 115, 101, 108] A B C (.ofNat 11) I := by kernel_rfl
theorem tx_2_csinc_0 : go5 ev nv 2 [99, 115, 105, 110, 99] A B C (.ofNat 0) I = tr11 ev nv [99, 115, 105, 110, 99] A B C (.ofNat 0) I := by kernel_rfl
theorem tx_2_csinc_3 : go5 ev nv 2 [99, 115, 105, 110, 99] A B C (.ofNat 3) I = tr11 ev nv [99, 115, 105, 110, 99] A B C (.ofNat 3) I := by kernel_rfl
theorem tx_2_csinc_6 : go5 ev nv 2 [99, 115, 105, 110, 99] A B C (.ofNat 6) I = tr11 ev nv [99, 115, 105, 110, 99] A B C (.ofNat 6) I := by kernel_rfl
theorem tx_2_csinc_9 : go5 ev nv 2 [99, 115, 105, 110, 99] A B C (.ofNat 9) I = tr11 ev nv [99, 115, 105, 110, 99] A B C (.ofNat 9) I := by kernel_rfl
theorem tx_2_csinc_12 : go5 ev nv 2 [99, 115, 105, 110, 99] A B C (.ofNat 12) I = tr11 ev nv [99, 115, 105, 110, 99] A B C (.ofNat 12) I := by kernel_rfl
theorem tx_2_adrp : go5 ev nv 2 [97, 100, 114, 112] A B C D I = tr17 ev nv [97, 100, 114, 112] A B C D I := by kernel_rfl
theorem tx_2_ldrh : go5 ev nv 2 [108, 100, 114, 104] A B C D I = tr13 ev nv [108, 100, 114, 104] A B C D I := by kernel_rfl
theorem tx_2_str_w : go5 ev nv 2 [115, 116, 114, 46, 119] A B C D I = tr13 ev nv [115, 116, 114, 46, 119] A B C D I := by kernel_rfl
theorem tx_2_str : go5 ev nv 2 [115, 116, 114] A B C D I = tr13 ev nv [115, 116, 114] A B C D I := by kernel_rfl
theorem tx_2_b : go5 ev nv 2 [98] A B C D I = tr21 ev nv [98] A B C D I := by kernel_rfl
theorem tx_2_b_c_1 : go5 ev nv 2 [98, 46, 99] A B C (.ofNat 1) I = tr20 ev nv [98, 46, 99] A B C (.ofNat 1) I := by kernel_rfl
theorem tx_2_b_c_4 : go5 ev nv 2 [98, 46, 99] A B C (.ofNat 4) I = tr20 ev nv [98, 46, 99] A B C (.ofNat 4) I := by kernel_rfl
theorem tx_2_b_c_7 : go5 ev nv 2 [98, 46, 99] A B C (.ofNat 7) I = tr20 ev nv [98, 46, 99] A B C (.ofNat 7) I := by kernel_rfl
theorem tx_2_b_c_10 : go5 ev nv 2 [98, 46, 99] A B C (.ofNat 10) I = tr20 ev nv [98, 46, 99] A B C (.ofNat 10) I := by kernel_rfl
theorem tx_2_b_c_13 : go5 ev nv 2 [98, 46, 99] A B C (.ofNat 13) I = tr20 ev nv [98, 46, 99] A B C (.ofNat 13) I := by kernel_rfl
theorem tx_2_br : go5 ev nv 2 [98, 114] A B C D I = tr19 ev nv [98, 114] A B C D I := by kernel_rfl
theorem tx_2_svc : go5 ev nv 2 [115, 118, 99] A B C D I = tr21 ev nv [115, 118, 99] A B C D I := by kernel_rfl
theorem tx_3_add : go5 ev nv 3 [97, 100, 100] A B C D I = tr23 ev nv [97, 100, 100] A B C D I := by kernel_rfl
theorem tx_3_slt : go5 ev nv 3 [115, 108, 116] A B C D I = tr23 ev nv [115, 108, 116] A B C D I := by kernel_rfl
theorem tx_3_srl : go5 ev nv 3 [115, 114, 108] A B C D I = tr23 ev nv [115, 114, 108] A B C D I := by kernel_rfl
theorem tx_3_and : go5 ev nv 3 [97, 110, 100] A B C D I = tr23 ev nv [97, 110, 100] A B C D I := by kernel_rfl
theorem tx_3_mulhsu : go5 ev nv 3 [109, 117, 108, 104, 115, 117] A B C D I = tr23 ev nv [109, 117, 108, 104, 115, 117] A B C D I := by kernel_rfl
theorem tx_3_divu : go5 ev nv 3 [100, 105, 118, 117] A B C D I = tr23 ev nv [100, 105, 118, 117] A B C D I := by kernel_rfl
theorem tx_3_addw : go5 ev nv 3 [97, 100, 100, 119] A B C D I = tr23 ev nv [97, 100, 100, 119] A B C D I := by kernel_rfl
theorem tx_3_srlw : go5 ev nv 3 [115, 114, 108, 119] A B C D I = tr23 ev nv [115, 114, 108, 119] A B C D I := by kernel_rfl
theorem tx_3_divw : go5 ev nv 3 [100, 105, 118, 119] A B C D I = tr23 ev nv [100, 105, 118, 119] A B C D I := by kernel_rfl
theorem tx_3_remuw : go5 ev nv 3 [114, 101, 109, 117, 119] A B C D I = tr23 ev nv [114, 101, 109, 117, 119] A B C D I := by kernel_rfl
theorem tx_3_sltiu : go5 ev nv 3 [115, 108, 116, 105, 117] A B C D I = tr24 ev nv [115, 108, 116, 105, 117] A B C D I := by kernel_rfl
theorem tx_3_andi : go5 ev nv 3 [97, 110, 100, 105] A B C D I = tr24 ev nv [97, 110, 100, 105] A B C D I := by kernel_rfl
theorem tx_3_lh : go5 ev nv 3 [108, 104] A B C D I = tr24 ev nv [108, 104] A B C D I := by kernel_rfl
theorem tx_3_lbu : go5 ev nv 3 [108, 98, 117] A B C D I = tr24 ev nv [108, 98, 117] A B C D I := by kernel_rfl
theorem tx_3_jalr : go5 ev nv 3 [106, 97, 108, 114] A B C D I = tr24 ev nv [106, 97, 108, 114] A B C D I := by kernel_rfl
theorem tx_3_srai : go5 ev nv 3 [115, 114, 97, 105] A B C D I = tr24 ev nv [115, 114, 97, 105] A B C D I := by kernel_rfl
theorem tx_3_sraiw : go5 ev nv 3 [115, 114, 97, 105, 119] A B C D I = tr24 ev nv [115, 114, 97, 105, 119] A B C D I := by kernel_rfl
theorem tx_3_sw : go5 ev nv 3 [115, 119] A B C D I = tr30 ev nv [115, 119] A B C D I := by kernel_rfl
theorem tx_3_bne : go5 ev nv 3 [98, 110, 101] A B C D I = tr28 ev nv [98, 110, 101] A B C D I := by kernel_rfl
theorem tx_3_bltu : go5 ev nv 3 [98, 108, 116, 117] A B C D I = tr28 ev nv [98, 108, 116, 117] A B C D I := by kernel_rfl
theorem tx_3_auipc : go5 ev nv 3 [97, 117, 105, 112, 99] A B C D I = tr26 ev nv [97, 117, 105, 112, 99] A B C D I := by kernel_rfl
theorem tx_3_ebreak : go5 ev nv 3 [101, 98, 114, 101, 97, 107] A B C D I = txE (ev (.ofNat 3) [101, 98, 114, 101, 97, 107] A B C D I) (some (.tup [.str [101, 98, 114, 101, 97, 107], .int .i64 (.ofNat 0)])) := by kernel_rfl
theorem tx_3_c_ld : go5 ev nv 3 [99, 46, 108, 100] A B C D I = tr24 ev nv [99, 46, 108, 100] A B C D I := by kernel_rfl
theorem tx_3_c_nop : go5 ev nv 3 [99, 46, 110, 111, 112] A B C D I = txE (ev (.ofNat 3) [99, 46, 110, 111, 112] A B C D I) (some (.tup [.str [99, 46, 110, 111, 112], .int .i64 (.ofNat 0)])) := by kernel_rfl
theorem tx_3_c_li : go5 ev nv 3 [99, 46, 108, 105] A B C D I = tr26 ev nv [99, 46, 108, 105] A B C D I := by kernel_rfl
theorem tx_3_c_srli : go5 ev nv 3 [99, 46, 115, 114, 108, 105] A B C D I = tr26 ev nv [99, 46, 115, 114, 108, 105] A B C D I := by kernel_rfl
theorem tx_3_c_sub : go5 ev nv 3 [99, 46, 115, 117, 98] A B C D I = tr25 ev nv [99, 46, 115, 117, 98] A B C D I := by kernel_rfl
theorem tx_3_c_and : go5 ev nv 3 [99, 46, 97, 110, 100] A B C D I = tr25 ev nv [99, 46, 97, 110, 100] A B C D I := by kernel_rfl
theorem tx_3_c_j : go5 ev nv 3 [99, 46, 106] A B C D I = tr32 ev nv [99, 46, 106] A B C D I := by kernel_rfl
theorem tx_3_c_slli : go5 ev nv 3 [99, 46, 115, 108, 108, 105] A B C D I = tr26 ev nv [99, 46, 115, 108, 108, 105] A B C D I := by kernel_rfl
theorem tx_3_c_jr : go5 ev nv 3 [99, 46, 106, 114] A B C D I = tr27 ev nv [99, 46, 106, 114] A B C D I := by kernel_rfl
theorem tx_3_c_add : go5 ev nv 3 [99, 46, 97, 100, 100] A B C D I = tr25 ev nv [99, 46, 97, 100, 100] A B C D I := by kernel_rfl
theorem tx_3_c_sdsp : go5 ev nv 3 [99, 46, 115, 100, 115, 112] A B C D I = tr31 ev nv [99, 46, 115, 100, 115, 112] A B C D I := by kernel_rfl
end
end Go.Proofs.YtlclahpapabkdaaGreatDoor
