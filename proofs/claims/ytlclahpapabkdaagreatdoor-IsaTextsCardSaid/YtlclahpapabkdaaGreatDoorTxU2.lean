/- Texts of instructions by their names. -/
import Derived.Test.YtlclahpapabkdaaGreatDoorTxT
import Derived.KernelRfl
namespace Go.Proofs.YtlclahpapabkdaaGreatDoor
open Go Go.Vai
noncomputable section
set_option maxRecDepth 100000
variable (ev : EvT) (nv : Int → Int → List UInt8) (A B C D I : Int)
theorem tx_1_mov_rs : go5 ev nv 1 [109, 111, 118, 46, 114, 115] A B C D I = tr4 ev nv [109, 111, 118, 46, 114, 115] A B C D I := by kernel_rfl
theorem tx_1_movsl_rm : go5 ev nv 1 [109, 111, 118, 115, 108, 46, 114, 109] A B C D I = txE (ev (.ofNat 1) [109, 111, 118, 115, 108, 46, 114, 109] A B C D I) (bc (AV.eqb (.int .i64 C) (.int .i64 C)) (bc (ieq B (.ofNat 17)) (bc (ieq C (.ofNat 16)) (txB [109, 111, 118, 115, 108, 46, 114, 109, 32] [(nv (.ofNat 1) A), [114, 105, 112], [110, 111, 110, 101], (Lib.itoa D), (Lib.itoa I)] [i64In D, AV.eqb (.int .i64 I) (.int .i64 I), i64In I]) (txB [109, 111, 118, 115, 108, 46, 114, 109, 32] [(nv (.ofNat 1) A), [114, 105, 112], (nv (.ofNat 1) C), (Lib.itoa D), (Lib.itoa I)] [i64In D, AV.eqb (.str (nv (.ofNat 1) C)) (.str (nv (.ofNat 1) C)), AV.eqb (.int .i64 I) (.int .i64 I), i64In I, AV.eqb (.str (nv (.ofNat 1) C)) (.str (nv (.ofNat 1) C))])) (bc (ieq C (.ofNat 16)) (txB [109, 111, 118, 115, 108, 46, 114, 109, 32] [(nv (.ofNat 1) A), (nv (.ofNat 1) B), [110, 111, 110, 101], (Lib.itoa D), (Lib.itoa I)] [i64In D, AV.eqb (.str (nv (.ofNat 1) B)) (.str (nv (.ofNat 1) B)), AV.eqb (.int .i64 I) (.int .i64 I), i64In I, AV.eqb (.str (nv (.ofNat 1) B)) (.str (nv (.ofNat 1) B))]) (txB [109, 111, 118, 115, 108, 46, 114, 109, 32] [(nv (.ofNat 1) A), (nv (.ofNat 1) B), (nv (.ofNat 1) C), (Lib.itoa D), (Lib.itoa I)] [i64In D, AV.eqb (.str (nv (.ofNat 1) C)) (.str (nv (.ofNat 1) C)), AV.eqb (.str (nv (.ofNat 1) B)) (.str (nv (.ofNat 1) B)), AV.eqb (.int .i64 I) (.int .i64 I), i64In I, AV.eqb (.str (nv (.ofNat 1) C)) (.str (nv (.ofNat 1) C)), AV.eqb (.str (nv (.ofNat 1) B)) (.str (nv (.ofNat 1) B))]))) none) := by kernel_rfl
theorem tx_1_mov_mr : go5 ev nv 1 [109, 111, 118, 46, 109, 114] A B C D I = txE (ev (.ofNat 1) [109, 111, 118, 46, 109, 114] A B C D I) (bc (AV.eqb (.int .i64 C) (.int .i64 C)) (bc (ieq B (.ofNat 17)) (bc (ieq C (.ofNat 16)) (txB [109, 111, 118, 46, 109, 114, 32] [(nv (.ofNat 1) A), [114, 105, 112], [110, 111, 110, 101], (Lib.itoa D), (Lib.itoa I)] [i64In D, AV.eqb (.int .i64 I) (.int .i64 I), i64In I]) (txB [109, 111, 118, 46, 109, 114, 32] [(nv (.ofNat 1) A), [114, 105, 112], (nv (.ofNat 1) C), (Lib.itoa D), (Lib.itoa I)] [i64In D, AV.eqb (.str (nv (.ofNat 1) C)) (.str (nv (.ofNat 1) C)), AV.eqb (.int .i64 I) (.int .i64 I), i64In I, AV.eqb (.str (nv (.ofNat 1) C)) (.str (nv (.ofNat 1) C))])) (bc (ieq C (.ofNat 16)) (txB [109, 111, 118, 46, 109, 114, 32] [(nv (.ofNat 1) A), (nv (.ofNat 1) B), [110, 111, 110, 101], (Lib.itoa D), (Lib.itoa I)] [i64In D, AV.eqb (.str (nv (.ofNat 1) B)) (.str (nv (.ofNat 1) B)), AV.eqb (.int .i64 I) (.int .i64 I), i64In I, AV.eqb (.str (nv (.ofNat 1) B)) (.str (nv (.ofNat 1) B))]) (txB [109, 111, 118, 46, 109, 114, 32] [(nv (.ofNat 1) A), (nv (.ofNat 1) B), (nv (.ofNat 1) C), (Lib.itoa D), (Lib.itoa I)] [i64In D, AV.eqb (.str (nv (.ofNat 1) C)) (.str (nv (.ofNat 1) C)), AV.eqb (.str (nv (.ofNat 1) B)) (.str (nv (.ofNat 1) B)), AV.eqb (.int .i64 I) (.int .i64 I), i64In I, AV.eqb (.str (nv (.ofNat 1) C)) (.str (nv (.ofNat 1) C)), AV.eqb (.str (nv (.ofNat 1) B)) (.str (nv (.ofNat 1) B))]))) none) := by kernel_rfl
theorem tx_1_mov_fs : go5 ev nv 1 [109, 111, 118, 46, 102, 115] A B C D I = tr4 ev nv [109, 111, 118, 46, 102, 115] A B C D I := by kernel_rfl
theorem tx_1_and_rr : go5 ev nv 1 [97, 110, 100, 46, 114, 114] A B C D I = tr2 ev nv [97, 110, 100, 46, 114, 114] A B C D I := by kernel_rfl
theorem tx_1_cmp_rr : go5 ev nv 1 [99, 109, 112, 46, 114, 114] A B C D I = tr2 ev nv [99, 109, 112, 46, 114, 114] A B C D I := by kernel_rfl
theorem tx_1_and_rm : go5 ev nv 1 [97, 110, 100, 46, 114, 109] A B C D I = txE (ev (.ofNat 1) [97, 110, 100, 46, 114, 109] A B C D I) (bc (AV.eqb (.int .i64 C) (.int .i64 C)) (bc (ieq B (.ofNat 17)) (bc (ieq C (.ofNat 16)) (txB [97, 110, 100, 46, 114, 109, 32] [(nv (.ofNat 1) A), [114, 105, 112], [110, 111, 110, 101], (Lib.itoa D), (Lib.itoa I)] [i64In D, AV.eqb (.int .i64 I) (.int .i64 I), i64In I]) (txB [97, 110, 100, 46, 114, 109, 32] [(nv (.ofNat 1) A), [114, 105, 112], (nv (.ofNat 1) C), (Lib.itoa D), (Lib.itoa I)] [i64In D, AV.eqb (.str (nv (.ofNat 1) C)) (.str (nv (.ofNat 1) C)), AV.eqb (.int .i64 I) (.int .i64 I), i64In I, AV.eqb (.str (nv (.ofNat 1) C)) (.str (nv (.ofNat 1) C))])) (bc (ieq C (.ofNat 16)) (txB [97, 110, 100, 46, 114, 109, 32] [(nv (.ofNat 1) A), (nv (.ofNat 1) B), [110, 111, 110, 101], (Lib.itoa D), (Lib.itoa I)] [i64In D, AV.eqb (.str (nv (.ofNat 1) B)) (.str (nv (.ofNat 1) B)), AV.eqb (.int .i64 I) (.int .i64 I), i64In I, AV.eqb (.str (nv (.ofNat 1) B)) (.str (nv (.ofNat 1) B))]) (txB [97, 110, 100, 46, 114, 109, 32] [(nv (.ofNat 1) A), (nv (.ofNat 1) B), (nv (.ofNat 1) C), (Lib.itoa D), (Lib.itoa I)] [i64In D, AV.eqb (.str (nv (.ofNat 1) C)) (.str (nv (.ofNat 1) C)), AV.eqb (.str (nv (.ofNat 1) B)) (.str (nv (.ofNat 1) B)), AV.eqb (.int .i64 I) (.int .i64 I), i64In I, AV.eqb (.str (nv (.ofNat 1) C)) (.str (nv (.ofNat 1) C)), AV.eqb (.str (nv (.ofNat 1) B)) (.str (nv (.ofNat 1) B))]))) none) := by kernel_rfl
theorem tx_1_cmp_rm : go5 ev nv 1 [99, 109, 112, 46, 114, 109] A B C D I = txE (ev (.ofNat 1) [99, 109, 112, 46, 114, 109] A B C D I) (bc (AV.eqb (.int .i64 C) (.int .i64 C)) (bc (ieq B (.ofNat 17)) (bc (ieq C (.ofNat 16)) (txB [99, 109, 112, 46, 114, 109, 32] [(nv (.ofNat 1) A), [114, 105, 112], [110, 111, 110, 101], (Lib.itoa D), (Lib.itoa I)] [i64In D, AV.eqb (.int .i64 I) (.int .i64 I), i64In I]) (txB [99, 109, 112, 46, 114, 109, 32] [(nv (.ofNat 1) A), [114, 105, 112], (nv (.ofNat 1) C), (Lib.itoa D), (Lib.itoa I)] [i64In D, AV.eqb (.str (nv (.ofNat 1) C)) (.str (nv (.ofNat 1) C)), AV.eqb (.int .i64 I) (.int .i64 I), i64In I, AV.eqb (.str (nv (.ofNat 1) C)) (.str (nv (.ofNat 1) C))])) (bc (ieq C (.ofNat 16)) (txB [99, 109, 112, 46, 114, 109, 32] [(nv (.ofNat 1) A), (nv (.ofNat 1) B), [110, 111, 110, 101], (Lib.itoa D), (Lib.itoa I)] [i64In D, AV.eqb (.str (nv (.ofNat 1) B)) (.str (nv (.ofNat 1) B)), AV.eqb (.int .i64 I) (.int .i64 I), i64In I, AV.eqb (.str (nv (.ofNat 1) B)) (.str (nv (.ofNat 1) B))]) (txB [99, 109, 112, 46, 114, 109, 32] [(nv (.ofNat 1) A), (nv (.ofNat 1) B), (nv (.ofNat 1) C), (Lib.itoa D), (Lib.itoa I)] [i64In D, AV.eqb (.str (nv (.ofNat 1) C)) (.str (nv (.ofNat 1) C)), AV.eqb (.str (nv (.ofNat 1) B)) (.str (nv (.ofNat 1) B)), AV.eqb (.int .i64 I) (.int .i64 I), i64In I, AV.eqb (.str (nv (.ofNat 1) C)) (.str (nv (.ofNat 1) C)), AV.eqb (.str (nv (.ofNat 1) B)) (.str (nv (.ofNat 1) B))]))) none) := by kernel_rfl
theorem tx_1_and_ri : go5 ev nv 1 [97, 110, 100, 46, 114, 105] A B C D I = tr4 ev nv [97, 110, 100, 46, 114, 105] A B C D I := by kernel_rfl
theorem tx_1_cmp_ri : go5 ev nv 1 [99, 109, 112, 46, 114, 105] A B C D I = tr4 ev nv [99, 109, 112, 46, 114, 105] A B C D I := by kernel_rfl
theorem tx_1_not : go5 ev nv 1 [110, 111, 116] A B C D I = tr1 ev nv [110, 111, 116] A B C D I := by kernel_rfl
theorem tx_1_div : go5 ev nv 1 [100, 105, 118] A B C D I = tr1 ev nv [100, 105, 118] A B C D I := by kernel_rfl
theorem tx_1_shl_ri : go5 ev nv 1 [115, 104, 108, 46, 114, 105] A B C D I = tr4 ev nv [115, 104, 108, 46, 114, 105] A B C D I := by kernel_rfl
theorem tx_1_shl_rc : go5 ev nv 1 [115, 104, 108, 46, 114, 99] A B C D I = tr1 ev nv [115, 104, 108, 46, 114, 99] A B C D I := by kernel_rfl
theorem tx_1_cmov_0 : go5 ev nv 1 [99, 109, 111, 118] A B C (.ofNat 0) I = tr3 ev nv [99, 109, 111, 118] A B C (.ofNat 0) I := by kernel_rfl
theorem tx_1_cmov_3 : go5 ev nv 1 [99, 109, 111, 118] A B C (.ofNat 3) I = tr3 ev nv [99, 109, 111, 118] A B C (.ofNat 3) I := by kernel_rfl
theorem tx_1_cmov_6 : go5 ev nv 1 [99, 109, 111, 118] A B C (.ofNat 6) I = tr3 ev nv [99, 109, 111, 118] A B C (.ofNat 6) I := by kernel_rfl
theorem tx_1_cmov_9 : go5 ev nv 1 [99, 109, 111, 118] A B C (.ofNat 9) I = tr3 ev nv [99, 109, 111, 118] A B C (.ofNat 9) I := by kernel_rfl
theorem tx_1_cmov_14 : go5 ev nv 1 [99, 109, 111, 118] A B C (.ofNat 14) I = tr3 ev nv [99, 109, 111, 118] A B C (.ofNat 14) I := by kernel_rfl
theorem tx_1_pop : go5 ev nv 1 [112, 111, 112] A B C D I = tr1 ev nv [112, 111, 112] A B C D I := by kernel_rfl
theorem tx_1_jmp_s : go5 ev nv 1 [106, 109, 112, 46, 115] A B C D I = tr7 ev nv [106, 109, 112, 46, 115] A B C D I := by kernel_rfl
theorem tx_1_jcc_0 : go5 ev nv 1 [106, 99, 99] A B C (.ofNat 0) I = tr6 ev nv [106, 99, 99] A B C (.ofNat 0) I := by kernel_rfl
theorem tx_1_jcc_3 : go5 ev nv 1 [106, 99, 99] A B C (.ofNat 3) I = tr6 ev nv [106, 99, 99] A B C (.ofNat 3) I := by kernel_rfl
theorem tx_1_jcc_6 : go5 ev nv 1 [106, 99, 99] A B C (.ofNat 6) I = tr6 ev nv [106, 99, 99] A B C (.ofNat 6) I := by kernel_rfl
theorem tx_1_jcc_9 : go5 ev nv 1 [106, 99, 99] A B C (.ofNat 9) I = tr6 ev nv [106, 99, 99] A B C (.ofNat 9) I := by kernel_rfl
theorem tx_1_jcc_14 : go5 ev nv 1 [106, 99, 99] A B C (.ofNat 14) I = tr6 ev nv [106, 99, 99] A B C (.ofNat 14) I := by kernel_rfl
theorem tx_1_jcc_s_1 : go5 ev nv 1 [106, 99, 99, 46, 115] A B C (.ofNat 1) I = tr6 ev nv [106, 99, 99, 46, 115] A B C (.ofNat 1) I := by kernel_rfl
theorem tx_1_jcc_s_4 : go5 ev nv 1 [106, 99, 99, 46, 115] A B C (.ofNat 4) I = tr6 ev nv [106, 99, 99, 46, 115] A B C (.ofNat 4) I := by kernel_rfl
theorem tx_1_jcc_s_7 : go5 ev nv 1 [106, 99, 99, 46, 115] A B C (.ofNat 7) I = tr6 ev nv [106, 99, 99, 46, 115] A B C (.ofNat 7) I := by kernel_rfl
theorem tx_1_jcc_s_12 : go5 ev nv 1 [106, 99, 99, 46, 115] A B C (.ofNat 12) I = tr6 ev nv [106, 99, 99, 46, 115] A B C (.ofNat 12) I := by kernel_rfl
theorem tx_1_jcc_s_15 : go5 ev nv 1 [106, 99, 99, 46, 115] A B C (.ofNat 15) I = tr6 ev nv [106, 99, 99, 46, 115] A B C (.ofNat 15) I := by kernel_rfl
theorem tx_1_nop : go5 ev nv 1 [110, 111, 112] A B C D I = txE (ev (.ofNat 1) [110, 111, 112] A B C D I) (some (.tup [.str [110, 111, 112], .int .i64 (.ofNat 0)])) := by kernel_rfl
theorem tx_2_movz : go5 ev nv 2 [109, 111, 118, 122] A B C D I = tr18 ev nv [109, 111, 118, 122] A B C D I := by kernel_rfl
theorem tx_2_adds_i : go5 ev nv 2 [97, 100, 100, 115, 46, 105] A B C D I = tr14 ev nv [97, 100, 100, 115, 46, 105] A B C D I := by kernel_rfl
theorem tx_2_add : go5 ev nv 2 [97, 100, 100] A B C D I = tr12 ev nv [97, 100, 100] A B C D I := by kernel_rfl
theorem tx_2_subs : go5 ev nv 2 [115, 117, 98, 115] A B C D I = tr12 ev nv [115, 117, 98, 115] A B C D I := by kernel_rfl
theorem tx_2_eor : go5 ev nv 2 [101, 111, 114] A B C D I = tr12 ev nv [101, 111, 114] A B C D I := by kernel_rfl
theorem tx_2_orr_i : go5 ev nv 2 [111, 114, 114, 46, 105] A B C D I = tr13 ev nv [111, 114, 114, 46, 105] A B C D I := by kernel_rfl
theorem tx_2_madd : go5 ev nv 2 [109, 97, 100, 100] A B C D I = tr10 ev nv [109, 97, 100, 100] A B C D I := by kernel_rfl
theorem tx_2_sdiv : go5 ev nv 2 [115, 100, 105, 118] A B C D I = tr9 ev nv [115, 100, 105, 118] A B C D I := by kernel_rfl
theorem tx_2_asrv : go5 ev nv 2 [97, 115, 114, 118] A B C D I = tr9 ev nv [97, 115, 114, 118] A B C D I := by kernel_rfl
theorem tx_2_csel_0 : go5 ev nv 2 [99, 115, 101, 108] A B C (.ofNat 0) I = tr11 ev nv [99, 115, 101, 108] A B C (.ofNat 0) I := by kernel_rfl
theorem tx_2_csel_3 : go5 ev nv 2 [99, 115, 101, 108] A B C (.ofNat 3) I = tr11 ev nv [99, 115, 101, 108] A B C (.ofNat 3) I := by kernel_rfl
theorem tx_2_csel_6 : go5 ev nv 2 [99, 115, 101, 108] A B C (.ofNat 6) I = tr11 ev nv [99, 115, 101, 108] A B C (.ofNat 6) I := by kernel_rfl
theorem tx_2_csel_9 : go5 ev nv 2 [99, 115, 101, 108] A B C (.ofNat 9) I = tr11 ev nv [99, 115, 101, 108] A B C (.ofNat 9) I := by kernel_rfl
theorem tx_2_csel_12 : go5 ev nv 2 [99, 115, 101, 108] A B C (.ofNat 12) I = tr11 ev nv [99, 115, 101, 108] A B C (.ofNat 12) I := by kernel_rfl
theorem tx_2_csinc_1 : go5 ev nv 2 [99, 115, 105, 110, 99] A B C (.ofNat 1) I = tr11 ev nv [99, 115, 105, 110, 99] A B C (.ofNat 1) I := by kernel_rfl
theorem tx_2_csinc_4 : go5 ev nv 2 [99, 115, 105, 110, 99] A B C (.ofNat 4) I = tr11 ev nv [99, 115, 105, 110, 99] A B C (.ofNat 4) I := by kernel_rfl
theorem tx_2_csinc_7 : go5 ev nv 2 [99, 115, 105, 110, 99] A B C (.ofNat 7) I = tr11 ev nv [99, 115, 105, 110, 99] A B C (.ofNat 7) I := by kernel_rfl
theorem tx_2_csinc_10 : go5 ev nv 2 [99, 115, 105, 110, 99] A B C (.ofNat 10) I = tr11 ev nv [99, 115, 105, 110, 99] A B C (.ofNat 10) I := by kernel_rfl
theorem tx_2_csinc_13 : go5 ev nv 2 [99, 115, 105, 110, 99] A B C (.ofNat 13) I = tr11 ev nv [99, 115, 105, 110, 99] A B C (.ofNat 13) I := by kernel_rfl
theorem tx_2_ldrb : go5 ev nv 2 [108, 100, 114, 98] A B C D I = tr13 ev nv [108, 100, 114, 98] A B C D I := by kernel_rfl
theorem tx_2_strh : go5 ev nv 2 [115, 116, 114, 104] A B C D I = tr13 ev nv [115, 116, 114, 104] A B C D I := by kernel_rfl
theorem tx_2_ldrsw : go5 ev nv 2 [108, 100, 114, 115, 119] A B C D I = tr13 ev nv [108, 100, 114, 115, 119] A B C D I := by kernel_rfl
theorem tx_2_ldp : go5 ev nv 2 [108, 100, 112] A B C D I = tr16 ev nv [108, 100, 112] A B C D I := by kernel_rfl
theorem tx_2_bl : go5 ev nv 2 [98, 108] A B C D I = tr21 ev nv [98, 108] A B C D I := by kernel_rfl
theorem tx_2_b_c_2 : go5 ev nv 2 [98, 46, 99] A B C (.ofNat 2) I = tr20 ev nv [98, 46, 99] A B C (.ofNat 2) I := by kernel_rfl
theorem tx_2_b_c_5 : go5 ev nv 2 [98, 46, 99] A B C (.ofNat 5) I = tr20 ev nv [98, 46, 99] A B C (.ofNat 5) I := by kernel_rfl
theorem tx_2_b_c_8 : go5 ev nv 2 [98, 46, 99] A B C (.ofNat 8) I = tr20 ev nv [98, 46, 99] A B C (.ofNat 8) I := by kernel_rfl
theorem tx_2_b_c_11 : go5 ev nv 2 [98, 46, 99] A B C (.ofNat 11) I = tr20 ev nv [98, 46, 99] A B C (.ofNat 11) I := by kernel_rfl
theorem tx_2_cbz : go5 ev nv 2 [99, 98, 122] A B C D I = tr17 ev nv [99, 98, 122] A B C D I := by kernel_rfl
theorem tx_2_blr : go5 ev nv 2 [98, 108, 114] A B C D I = tr19 ev nv [98, 108, 114] A B C D I := by kernel_rfl
theorem tx_2_brk : go5 ev nv 2 [98, 114, 107] A B C D I = tr21 ev nv [98, 114, 107] A B C D I := by kernel_rfl
theorem tx_3_sub : go5 ev nv 3 [115, 117, 98] A B C D I = tr23 ev nv [115, 117, 98] A B C D I := by kernel_rfl
theorem tx_3_sltu : go5 ev nv 3 [115, 108, 116, 117] A B C D I = tr23 ev nv [115, 108, 116, 117] A B C D I := by kernel_rfl
theorem tx_3_sra : go5 ev nv 3 [115, 114, 97] A B C D I = tr23 ev nv [115, 114, 97] A B C D I := by kernel_rfl
theorem tx_3_mul : go5 ev nv 3 [109, 117, 108] A B C D I = tr23 ev nv [109, 117, 108] A B C D I := by kernel_rfl
theorem tx_3_mulhu : go5 ev nv 3 [109, 117, 108, 104, 117] A B C D I = tr23 ev nv [109, 117, 108, 104, 117] A B C D I := by kernel_rfl
theorem tx_3_rem : go5 ev nv 3 [114, 101, 109] A B C D I = tr23 ev nv [114, 101, 109] A B C D I := by kernel_rfl
theorem tx_3_subw : go5 ev nv 3 [115, 117, 98, 119] A B C D I = tr23 ev nv [115, 117, 98, 119] A B C D I := by kernel_rfl
theorem tx_3_sraw : go5 ev nv 3 [115, 114, 97, 119] A B C D I = tr23 ev nv [115, 114, 97, 119] A B C D I := by kernel_rfl
theorem tx_3_divuw : go5 ev nv 3 [100, 105, 118, 117, 119] A B C D I = tr23 ev nv [100, 105, 118, 117, 119] A B C D I := by kernel_rfl
theorem tx_3_addi : go5 ev nv 3 [97, 100, 100, 105] A B C D I = tr24 ev nv [97, 100, 100, 105] A B C D I := by kernel_rfl
theorem tx_3_xori : go5 ev nv 3 [120, 111, 114, 105] A B C D I = tr24 ev nv [120, 111, 114, 105] A B C D I := by kernel_rfl
theorem tx_3_addiw : go5 ev nv 3 [97, 100, 100, 105, 119] A B C D I = tr24 ev nv [97, 100, 100, 105, 119] A B C D I := by kernel_rfl
theorem tx_3_lw : go5 ev nv 3 [108, 119] A B C D I = tr24 ev nv [108, 119] A B C D I := by kernel_rfl
theorem tx_3_lhu : go5 ev nv 3 [108, 104, 117] A B C D I = tr24 ev nv [108, 104, 117] A B C D I := by kernel_rfl
theorem tx_3_slli : go5 ev nv 3 [115, 108, 108, 105] A B C D I = tr24 ev nv [115, 108, 108, 105] A B C D I := by kernel_rfl
theorem tx_3_slliw : go5 ev nv 3 [115, 108, 108, 105, 119] A B C D I = tr24 ev nv [115, 108, 108, 105, 119] A B C D I := by kernel_rfl
theorem tx_3_sb : go5 ev nv 3 [115, 98] A B C D I = tr30 ev nv [115, 98] A B C D I := by kernel_rfl
theorem tx_3_sd : go5 ev nv 3 [115, 100] A B C D I = tr30 ev nv [115, 100] A B C D I := by kernel_rfl
theorem tx_3_blt : go5 ev nv 3 [98, 108, 116] A B C D I = tr28 ev nv [98, 108, 116] A B C D I := by kernel_rfl
theorem tx_3_bgeu : go5 ev nv 3 [98, 103, 101, 117] A B C D I = tr28 ev nv [98, 103, 101, 117] A B C D I := by kernel_rfl
theorem tx_3_jal : go5 ev nv 3 [106, 97, 108] A B C D I = tr26 ev nv [106, 97, 108] A B C D I := by kernel_rfl
theorem tx_3_c_addi4spn : go5 ev nv 3 [99, 46, 97, 100, 100, 105, 52, 115, 112, 110] A B C D I = tr26 ev nv [99, 46, 97, 100, 100, 105, 52, 115, 112, 110] A B C D I := by kernel_rfl
theorem tx_3_c_sw : go5 ev nv 3 [99, 46, 115, 119] A B C D I = tr30 ev nv [99, 46, 115, 119] A B C D I := by kernel_rfl
theorem tx_3_c_addi : go5 ev nv 3 [99, 46, 97, 100, 100, 105] A B C D I = tr26 ev nv [99, 46, 97, 100, 100, 105] A B C D I := by kernel_rfl
theorem tx_3_c_addi16sp : go5 ev nv 3 [99, 46, 97, 100, 100, 105, 49, 54, 115, 112] A B C D I = tr32 ev nv [99, 46, 97, 100, 100, 105, 49, 54, 115, 112] A B C D I := by kernel_rfl
theorem tx_3_c_srai : go5 ev nv 3 [99, 46, 115, 114, 97, 105] A B C D I = tr26 ev nv [99, 46, 115, 114, 97, 105] A B C D I := by kernel_rfl
theorem tx_3_c_xor : go5 ev nv 3 [99, 46, 120, 111, 114] A B C D I = tr25 ev nv [99, 46, 120, 111, 114] A B C D I := by kernel_rfl
theorem tx_3_c_subw : go5 ev nv 3 [99, 46, 115, 117, 98, 119] A B C D I = tr25 ev nv [99, 46, 115, 117, 98, 119] A B C D I := by kernel_rfl
theorem tx_3_c_beqz : go5 ev nv 3 [99, 46, 98, 101, 113, 122] A B C D I = tr29 ev nv [99, 46, 98, 101, 113, 122] A B C D I := by kernel_rfl
theorem tx_3_c_lwsp : go5 ev nv 3 [99, 46, 108, 119, 115, 112] A B C D I = tr26 ev nv [99, 46, 108, 119, 115, 112] A B C D I := by kernel_rfl
theorem tx_3_c_jalr : go5 ev nv 3 [99, 46, 106, 97, 108, 114] A B C D I = tr27 ev nv [99, 46, 106, 97, 108, 114] A B C D I := by kernel_rfl
theorem tx_3_c_ebreak : go5 ev nv 3 [99, 46, 101, 98, 114, 101, 97, 107] A B C D I = txE (ev (.ofNat 3) [99, 46, 101, 98, 114, 101, 97, 107] A B C D I) (some (.tup [.str [99, 46, 101, 98, 114, 101, 97, 107], .int .i64 (.ofNat 0)])) := by kernel_rfl
end
end Go.Proofs.YtlclahpapabkdaaGreatDoor
