/- Runs of Of by classes. -/
import Derived.Test.YtbfdooplkdofeaaGreatDoorAsD
import Derived.KernelRfl
namespace Go.Proofs.YtbfdooplkdofeaaGreatDoor
open Go Go.Vai
noncomputable section
set_option maxRecDepth 100000
variable (ev fv gv : EvT) (os : OsT) (ob : ObT) (nm mod : List UInt8) (t A B C D I : Int)
theorem oa_call : goA ev [99, 97, 108, 108] A B C D I mod = eT (ev (.ofNat 1) [99, 97, 108, 108] A B C D) (ao3 A B C D mod) := by kernel_rfl
theorem oa_add_rr : goA ev [97, 100, 100, 46, 114, 114] A B C D I mod = eT (ev (.ofNat 1) [97, 100, 100, 46, 114, 114] A B C D) (ao5 A B C D mod) := by kernel_rfl
theorem oa_xor_rr : goA ev [120, 111, 114, 46, 114, 114] A B C D I mod = eT (ev (.ofNat 1) [120, 111, 114, 46, 114, 114] A B C D) (ao5 A B C D mod) := by kernel_rfl
theorem oa_and_ri : goA ev [97, 110, 100, 46, 114, 105] A B C D I mod = eT (ev (.ofNat 1) [97, 110, 100, 46, 114, 105] A B C D) (ao5 A B C D mod) := by kernel_rfl
theorem oa_test_rr : goA ev [116, 101, 115, 116, 46, 114, 114] A B C D I mod = eT (ev (.ofNat 1) [116, 101, 115, 116, 46, 114, 114] A B C D) (ao5 A B C D mod) := by kernel_rfl
theorem oa_mul : goA ev [109, 117, 108] A B C D I mod = eT (ev (.ofNat 1) [109, 117, 108] A B C D) (ao5 A B C D mod) := by kernel_rfl
theorem oa_shl_ri : goA ev [115, 104, 108, 46, 114, 105] A B C D I mod = eT (ev (.ofNat 1) [115, 104, 108, 46, 114, 105] A B C D) (ao5 A B C D mod) := by kernel_rfl
theorem oa_shr_rc : goA ev [115, 104, 114, 46, 114, 99] A B C D I mod = eT (ev (.ofNat 1) [115, 104, 114, 46, 114, 99] A B C D) (ao5 A B C D mod) := by kernel_rfl
theorem oa_pop : goA ev [112, 111, 112] A B C D I mod = eT (ev (.ofNat 1) [112, 111, 112] A B C D) (ao5 A B C D mod) := by kernel_rfl
theorem oa_jcc_s : goA ev [106, 99, 99, 46, 115] A B C D I mod = eT (ev (.ofNat 1) [106, 99, 99, 46, 115] A B C D) (ao5 A B C D mod) := by kernel_rfl
theorem oa_ud2 : goA ev [117, 100, 50] A B C D I mod = eT (ev (.ofNat 1) [117, 100, 50] A B C D) (ao5 A B C D mod) := by kernel_rfl
theorem ra_call : goR fv (.ofNat 1) [99, 97, 108, 108] A B C D I mod [] = eT (fv (.ofNat 1) [99, 97, 108, 108] A B C D) (ro3 A B C D mod) := by kernel_rfl
theorem ra_add_rr : goR fv (.ofNat 1) [97, 100, 100, 46, 114, 114] A B C D I mod [] = eT (fv (.ofNat 1) [97, 100, 100, 46, 114, 114] A B C D) (ro5 A B C D mod) := by kernel_rfl
theorem ra_xor_rr : goR fv (.ofNat 1) [120, 111, 114, 46, 114, 114] A B C D I mod [] = eT (fv (.ofNat 1) [120, 111, 114, 46, 114, 114] A B C D) (ro5 A B C D mod) := by kernel_rfl
theorem ra_and_ri : goR fv (.ofNat 1) [97, 110, 100, 46, 114, 105] A B C D I mod [] = eT (fv (.ofNat 1) [97, 110, 100, 46, 114, 105] A B C D) (ro6 A B C D mod) := by kernel_rfl
theorem ra_test_rr : goR fv (.ofNat 1) [116, 101, 115, 116, 46, 114, 114] A B C D I mod [] = eT (fv (.ofNat 1) [116, 101, 115, 116, 46, 114, 114] A B C D) (ro5 A B C D mod) := by kernel_rfl
theorem ra_mul : goR fv (.ofNat 1) [109, 117, 108] A B C D I mod [] = eT (fv (.ofNat 1) [109, 117, 108] A B C D) (ro6 A B C D mod) := by kernel_rfl
theorem ra_shl_ri : goR fv (.ofNat 1) [115, 104, 108, 46, 114, 105] A B C D I mod [] = eT (fv (.ofNat 1) [115, 104, 108, 46, 114, 105] A B C D) (ro6 A B C D mod) := by kernel_rfl
theorem ra_shr_rc : goR fv (.ofNat 1) [115, 104, 114, 46, 114, 99] A B C D I mod [] = eT (fv (.ofNat 1) [115, 104, 114, 46, 114, 99] A B C D) (ro6 A B C D mod) := by kernel_rfl
theorem ra_pop : goR fv (.ofNat 1) [112, 111, 112] A B C D I mod [] = eT (fv (.ofNat 1) [112, 111, 112] A B C D) (ro9 A B C D mod) := by kernel_rfl
theorem ra_jcc_s : goR fv (.ofNat 1) [106, 99, 99, 46, 115] A B C D I mod [] = eT (fv (.ofNat 1) [106, 99, 99, 46, 115] A B C D) (ro10 A B C D mod) := by kernel_rfl
theorem ra_ud2 : goR fv (.ofNat 1) [117, 100, 50] A B C D I mod [] = eT (fv (.ofNat 1) [117, 100, 50] A B C D) (ro7 A B C D mod) := by kernel_rfl
theorem oa_movzb_rm : goA ev [109, 111, 118, 122, 98, 46, 114, 109] A B C D I mod = eT (ev (.ofNat 1) [109, 111, 118, 122, 98, 46, 114, 109] A B C D) (am0 A B C D mod) := by kernel_rfl
theorem oa_movb_mr : goA ev [109, 111, 118, 98, 46, 109, 114] A B C D I mod = eT (ev (.ofNat 1) [109, 111, 118, 98, 46, 109, 114] A B C D) (am0 A B C D mod) := by kernel_rfl
theorem oa_sub_rm : goA ev [115, 117, 98, 46, 114, 109] A B C D I mod = eT (ev (.ofNat 1) [115, 117, 98, 46, 114, 109] A B C D) (am0 A B C D mod) := by kernel_rfl
theorem rm_movl_rm : goM fv gv [109, 111, 118, 108, 46, 114, 109] A B C D I mod = eT (fv (.ofNat 1) [109, 111, 118, 108, 46, 114, 109] A B C D) (rm0 A B C D mod) := by kernel_rfl
theorem rm_mov_mr : goM fv gv [109, 111, 118, 46, 109, 114] A B C D I mod = eT (fv (.ofNat 1) [109, 111, 118, 46, 109, 114] A B C D) (rm0 A B C D mod) := by kernel_rfl
theorem rm_or_rm : goM fv gv [111, 114, 46, 114, 109] A B C D I mod = eT (fv (.ofNat 1) [111, 114, 46, 114, 109] A B C D) (rm0 A B C D mod) := by kernel_rfl
theorem rm_cmp_rm : goM fv gv [99, 109, 112, 46, 114, 109] A B C D I mod = eT (fv (.ofNat 1) [99, 109, 112, 46, 114, 109] A B C D) (rm0 A B C D mod) := by kernel_rfl
theorem a17x_movzb_rm : go5 [109, 111, 118, 122, 98, 46, 114, 109] A C D I mod = a17_2 A C D mod := by kernel_rfl
theorem a17x_movb_mr : go5 [109, 111, 118, 98, 46, 109, 114] A C D I mod = a17_0 A C D mod := by kernel_rfl
theorem a17x_sub_rm : go5 [115, 117, 98, 46, 114, 109] A C D I mod = a17_0 A C D mod := by kernel_rfl
theorem r17x_movl_rm : go6 [109, 111, 118, 108, 46, 114, 109] A C D I mod = Zdm A C D mod := by kernel_rfl
theorem r17x_mov_mr : go6 [109, 111, 118, 46, 109, 114] A C D I mod = r17_0 A C D mod := by kernel_rfl
theorem r17x_or_rm : go6 [111, 114, 46, 114, 109] A C D I mod = r17_0 A C D mod := by kernel_rfl
theorem r17x_cmp_rm : go6 [99, 109, 112, 46, 114, 109] A C D I mod = r17_0 A C D mod := by kernel_rfl
theorem o2_adr_3 : KO 2 [97, 100, 114] [116, 112, 104, 105] 0 0 false := fun _ _ _ _ _ _ _ _ => by kernel_rfl
theorem o2_b_c_2 : KO 2 [98, 46, 99] [108, 111, 49, 50] 0 0 false := fun _ _ _ _ _ _ _ _ => by kernel_rfl
theorem o2_cbz_1 : KO 2 [99, 98, 122] [112, 97, 103, 101] 0 0 false := fun _ _ _ _ _ _ _ _ => by kernel_rfl
theorem o2_cbnz_0 : KO 2 [99, 98, 110, 122] [] 280 0 true := fun _ _ _ _ _ _ _ _ => by kernel_rfl
theorem o2_cbnz_4 : KO 2 [99, 98, 110, 122] [116, 112, 108, 111] 0 0 false := fun _ _ _ _ _ _ _ _ => by kernel_rfl
theorem o2_b_3 : KO 2 [98] [116, 112, 104, 105] 0 0 false := fun _ _ _ _ _ _ _ _ => by kernel_rfl
theorem o2_bl_2 : KO 2 [98, 108] [108, 111, 49, 50] 0 0 false := fun _ _ _ _ _ _ _ _ => by kernel_rfl
theorem o2_adrp_1 : KO 2 [97, 100, 114, 112] [112, 97, 103, 101] 275 0 true := fun _ _ _ _ _ _ _ _ => by kernel_rfl
theorem o2_add_i_0 : KO 2 [97, 100, 100, 46, 105] [] 0 0 false := fun _ _ _ _ _ _ _ _ => by kernel_rfl
theorem o2_add_i_4 : KO 2 [97, 100, 100, 46, 105] [116, 112, 108, 111] 551 0 true := fun _ _ _ _ _ _ _ _ => by kernel_rfl
theorem o2_ldrb_3 : KO 2 [108, 100, 114, 98] [116, 112, 104, 105] 0 0 false := fun _ _ _ _ _ _ _ _ => by kernel_rfl
theorem o2_strb_2 : KO 2 [115, 116, 114, 98] [108, 111, 49, 50] 278 0 true := fun _ _ _ _ _ _ _ _ => by kernel_rfl
theorem o2_ldrh_1 : KO 2 [108, 100, 114, 104] [112, 97, 103, 101] 0 0 false := fun _ _ _ _ _ _ _ _ => by kernel_rfl
theorem o2_strh_0 : KO 2 [115, 116, 114, 104] [] 0 0 false := fun _ _ _ _ _ _ _ _ => by kernel_rfl
theorem o2_strh_4 : KO 2 [115, 116, 114, 104] [116, 112, 108, 111] 0 0 false := fun _ _ _ _ _ _ _ _ => by kernel_rfl
theorem o2_ldr_w_3 : KO 2 [108, 100, 114, 46, 119] [116, 112, 104, 105] 0 0 false := fun _ _ _ _ _ _ _ _ => by kernel_rfl
theorem o2_str_w_2 : KO 2 [115, 116, 114, 46, 119] [108, 111, 49, 50] 285 0 true := fun _ _ _ _ _ _ _ _ => by kernel_rfl
theorem o2_ldrsw_1 : KO 2 [108, 100, 114, 115, 119] [112, 97, 103, 101] 0 0 false := fun _ _ _ _ _ _ _ _ => by kernel_rfl
theorem o2_ldr_0 : KO 2 [108, 100, 114] [] 0 0 false := fun _ _ _ _ _ _ _ _ => by kernel_rfl
theorem o2_ldr_4 : KO 2 [108, 100, 114] [116, 112, 108, 111] 0 0 false := fun _ _ _ _ _ _ _ _ => by kernel_rfl
theorem o2_str_3 : KO 2 [115, 116, 114] [116, 112, 104, 105] 0 0 false := fun _ _ _ _ _ _ _ _ => by kernel_rfl
theorem o3_beq_2 : KO 3 [98, 101, 113] [116, 112, 104, 105] 0 0 false := fun _ _ _ _ _ _ _ _ => by kernel_rfl
theorem o3_beq_6 : KO 3 [98, 101, 113] [116, 112, 108, 111] 0 0 false := fun _ _ _ _ _ _ _ _ => by kernel_rfl
theorem o3_bne_3 : KO 3 [98, 110, 101] [112, 99, 104, 105] 0 0 false := fun _ _ _ _ _ _ _ _ => by kernel_rfl
theorem o3_blt_0 : KO 3 [98, 108, 116] [] 16 0 true := fun _ _ _ _ _ _ _ _ => by kernel_rfl
theorem o3_blt_4 : KO 3 [98, 108, 116] [108, 111] 0 0 false := fun _ _ _ _ _ _ _ _ => by kernel_rfl
theorem o3_bge_1 : KO 3 [98, 103, 101] [104, 105] 0 0 false := fun _ _ _ _ _ _ _ _ => by kernel_rfl
theorem o3_bge_5 : KO 3 [98, 103, 101] [112, 99, 108, 111] 0 0 false := fun _ _ _ _ _ _ _ _ => by kernel_rfl
theorem o3_bltu_2 : KO 3 [98, 108, 116, 117] [116, 112, 104, 105] 0 0 false := fun _ _ _ _ _ _ _ _ => by kernel_rfl
theorem o3_bltu_6 : KO 3 [98, 108, 116, 117] [116, 112, 108, 111] 0 0 false := fun _ _ _ _ _ _ _ _ => by kernel_rfl
theorem o3_bgeu_3 : KO 3 [98, 103, 101, 117] [112, 99, 104, 105] 0 0 false := fun _ _ _ _ _ _ _ _ => by kernel_rfl
theorem o3_jal_0 : KO 3 [106, 97, 108] [] 17 0 true := fun _ _ _ _ _ _ _ _ => by kernel_rfl
theorem o3_jal_4 : KO 3 [106, 97, 108] [108, 111] 0 0 false := fun _ _ _ _ _ _ _ _ => by kernel_rfl
theorem o3_c_beqz_1 : KO 3 [99, 46, 98, 101, 113, 122] [104, 105] 0 0 false := fun _ _ _ _ _ _ _ _ => by kernel_rfl
theorem o3_c_beqz_5 : KO 3 [99, 46, 98, 101, 113, 122] [112, 99, 108, 111] 0 0 false := fun _ _ _ _ _ _ _ _ => by kernel_rfl
theorem o3_c_bnez_2 : KO 3 [99, 46, 98, 110, 101, 122] [116, 112, 104, 105] 0 0 false := fun _ _ _ _ _ _ _ _ => by kernel_rfl
theorem o3_c_bnez_6 : KO 3 [99, 46, 98, 110, 101, 122] [116, 112, 108, 111] 0 0 false := fun _ _ _ _ _ _ _ _ => by kernel_rfl
theorem o3_c_j_3 : KO 3 [99, 46, 106] [112, 99, 104, 105] 0 0 false := fun _ _ _ _ _ _ _ _ => by kernel_rfl
theorem o3_lui_0 : KO 3 [108, 117, 105] [] 0 0 false := fun _ _ _ _ _ _ _ _ => by kernel_rfl
theorem o3_lui_4 : KO 3 [108, 117, 105] [108, 111] 0 0 false := fun _ _ _ _ _ _ _ _ => by kernel_rfl
theorem o3_auipc_1 : KO 3 [97, 117, 105, 112, 99] [104, 105] 0 0 false := fun _ _ _ _ _ _ _ _ => by kernel_rfl
theorem o3_auipc_5 : KO 3 [97, 117, 105, 112, 99] [112, 99, 108, 111] 0 0 false := fun _ _ _ _ _ _ _ _ => by kernel_rfl
theorem o3_addi_2 : KO 3 [97, 100, 100, 105] [116, 112, 104, 105] 0 0 false := fun _ _ _ _ _ _ _ _ => by kernel_rfl
theorem o3_addi_6 : KO 3 [97, 100, 100, 105] [116, 112, 108, 111] 30 0 true := fun _ _ _ _ _ _ _ _ => by kernel_rfl
theorem o3_slti_3 : KO 3 [115, 108, 116, 105] [112, 99, 104, 105] 0 0 false := fun _ _ _ _ _ _ _ _ => by kernel_rfl
theorem o3_sltiu_0 : KO 3 [115, 108, 116, 105, 117] [] 0 0 false := fun _ _ _ _ _ _ _ _ => by kernel_rfl
theorem o3_sltiu_4 : KO 3 [115, 108, 116, 105, 117] [108, 111] 27 0 true := fun _ _ _ _ _ _ _ _ => by kernel_rfl
theorem o3_xori_1 : KO 3 [120, 111, 114, 105] [104, 105] 0 0 false := fun _ _ _ _ _ _ _ _ => by kernel_rfl
theorem o3_xori_5 : KO 3 [120, 111, 114, 105] [112, 99, 108, 111] 24 0 true := fun _ _ _ _ _ _ _ _ => by kernel_rfl
theorem o3_ori_2 : KO 3 [111, 114, 105] [116, 112, 104, 105] 0 0 false := fun _ _ _ _ _ _ _ _ => by kernel_rfl
theorem o3_ori_6 : KO 3 [111, 114, 105] [116, 112, 108, 111] 30 0 true := fun _ _ _ _ _ _ _ _ => by kernel_rfl
theorem o3_andi_3 : KO 3 [97, 110, 100, 105] [112, 99, 104, 105] 0 0 false := fun _ _ _ _ _ _ _ _ => by kernel_rfl
theorem o3_addiw_0 : KO 3 [97, 100, 100, 105, 119] [] 0 0 false := fun _ _ _ _ _ _ _ _ => by kernel_rfl
theorem o3_addiw_4 : KO 3 [97, 100, 100, 105, 119] [108, 111] 27 0 true := fun _ _ _ _ _ _ _ _ => by kernel_rfl
theorem o3_lb_1 : KO 3 [108, 98] [104, 105] 0 0 false := fun _ _ _ _ _ _ _ _ => by kernel_rfl
theorem o3_lb_5 : KO 3 [108, 98] [112, 99, 108, 111] 24 0 true := fun _ _ _ _ _ _ _ _ => by kernel_rfl
theorem o3_lh_2 : KO 3 [108, 104] [116, 112, 104, 105] 0 0 false := fun _ _ _ _ _ _ _ _ => by kernel_rfl
theorem o3_lh_6 : KO 3 [108, 104] [116, 112, 108, 111] 30 0 true := fun _ _ _ _ _ _ _ _ => by kernel_rfl
theorem o3_lw_3 : KO 3 [108, 119] [112, 99, 104, 105] 0 0 false := fun _ _ _ _ _ _ _ _ => by kernel_rfl
theorem o3_ld_0 : KO 3 [108, 100] [] 0 0 false := fun _ _ _ _ _ _ _ _ => by kernel_rfl
theorem o3_ld_4 : KO 3 [108, 100] [108, 111] 27 0 true := fun _ _ _ _ _ _ _ _ => by kernel_rfl
theorem o3_lbu_1 : KO 3 [108, 98, 117] [104, 105] 0 0 false := fun _ _ _ _ _ _ _ _ => by kernel_rfl
theorem o3_lbu_5 : KO 3 [108, 98, 117] [112, 99, 108, 111] 24 0 true := fun _ _ _ _ _ _ _ _ => by kernel_rfl
theorem o3_lhu_2 : KO 3 [108, 104, 117] [116, 112, 104, 105] 0 0 false := fun _ _ _ _ _ _ _ _ => by kernel_rfl
theorem o3_lhu_6 : KO 3 [108, 104, 117] [116, 112, 108, 111] 30 0 true := fun _ _ _ _ _ _ _ _ => by kernel_rfl
theorem o3_lwu_3 : KO 3 [108, 119, 117] [112, 99, 104, 105] 0 0 false := fun _ _ _ _ _ _ _ _ => by kernel_rfl
theorem o3_jalr_0 : KO 3 [106, 97, 108, 114] [] 0 0 false := fun _ _ _ _ _ _ _ _ => by kernel_rfl
theorem o3_jalr_4 : KO 3 [106, 97, 108, 114] [108, 111] 27 0 true := fun _ _ _ _ _ _ _ _ => by kernel_rfl
theorem o3_sb_1 : KO 3 [115, 98] [104, 105] 0 0 false := fun _ _ _ _ _ _ _ _ => by kernel_rfl
theorem o3_sb_5 : KO 3 [115, 98] [112, 99, 108, 111] 25 0 true := fun _ _ _ _ _ _ _ _ => by kernel_rfl
theorem o3_sh_2 : KO 3 [115, 104] [116, 112, 104, 105] 0 0 false := fun _ _ _ _ _ _ _ _ => by kernel_rfl
theorem o3_sh_6 : KO 3 [115, 104] [116, 112, 108, 111] 31 0 true := fun _ _ _ _ _ _ _ _ => by kernel_rfl
theorem o3_sw_3 : KO 3 [115, 119] [112, 99, 104, 105] 0 0 false := fun _ _ _ _ _ _ _ _ => by kernel_rfl
theorem o3_sd_0 : KO 3 [115, 100] [] 0 0 false := fun _ _ _ _ _ _ _ _ => by kernel_rfl
theorem o3_sd_4 : KO 3 [115, 100] [108, 111] 28 0 true := fun _ _ _ _ _ _ _ _ => by kernel_rfl
theorem o2_b_c_x : goO ev os ob (.ofNat 2) [98, 46, 99] A B C D I mod (Zal 127 85070591730234615865843651857942052832) = cT (cho2 (ev (.ofNat 2) [98, 46, 99] A B C D) mod) (some badV) := by kernel_rfl
theorem o2_bl_x : goO ev os ob (.ofNat 2) [98, 108] A B C D I mod (Zal 127 85070591730234615865843651857942052832) = cT (cho2 (ev (.ofNat 2) [98, 108] A B C D) mod) (some badV) := by kernel_rfl
theorem o2_strb_x : goO ev os ob (.ofNat 2) [115, 116, 114, 98] A B C D I mod (Zal 127 85070591730234615865843651857942052832) = cT (cho2 (ev (.ofNat 2) [115, 116, 114, 98] A B C D) mod) (some badV) := by kernel_rfl
theorem o2_str_w_x : goO ev os ob (.ofNat 2) [115, 116, 114, 46, 119] A B C D I mod (Zal 127 85070591730234615865843651857942052832) = cT (cho2 (ev (.ofNat 2) [115, 116, 114, 46, 119] A B C D) mod) (some badV) := by kernel_rfl
theorem o3_beq_x : goO ev os ob (.ofNat 3) [98, 101, 113] A B C D I mod (Zal 136 43556142965880123323311949751266331066352) = cT (cho3 (ev (.ofNat 3) [98, 101, 113] A B C D) mod) (some badV) := by kernel_rfl
theorem o3_bltu_x : goO ev os ob (.ofNat 3) [98, 108, 116, 117] A B C D I mod (Zal 136 43556142965880123323311949751266331066352) = cT (cho3 (ev (.ofNat 3) [98, 108, 116, 117] A B C D) mod) (some badV) := by kernel_rfl
theorem o3_c_bnez_x : goO ev os ob (.ofNat 3) [99, 46, 98, 110, 101, 122] A B C D I mod (Zal 136 43556142965880123323311949751266331066352) = cT (cho3 (ev (.ofNat 3) [99, 46, 98, 110, 101, 122] A B C D) mod) (some badV) := by kernel_rfl
theorem o3_addi_x : goO ev os ob (.ofNat 3) [97, 100, 100, 105] A B C D I mod (Zal 136 43556142965880123323311949751266331066352) = cT (cho3 (ev (.ofNat 3) [97, 100, 100, 105] A B C D) mod) (some badV) := by kernel_rfl
theorem o3_ori_x : goO ev os ob (.ofNat 3) [111, 114, 105] A B C D I mod (Zal 136 43556142965880123323311949751266331066352) = cT (cho3 (ev (.ofNat 3) [111, 114, 105] A B C D) mod) (some badV) := by kernel_rfl
theorem o3_lh_x : goO ev os ob (.ofNat 3) [108, 104] A B C D I mod (Zal 136 43556142965880123323311949751266331066352) = cT (cho3 (ev (.ofNat 3) [108, 104] A B C D) mod) (some badV) := by kernel_rfl
theorem o3_lhu_x : goO ev os ob (.ofNat 3) [108, 104, 117] A B C D I mod (Zal 136 43556142965880123323311949751266331066352) = cT (cho3 (ev (.ofNat 3) [108, 104, 117] A B C D) mod) (some badV) := by kernel_rfl
theorem o3_sh_x : goO ev os ob (.ofNat 3) [115, 104] A B C D I mod (Zal 136 43556142965880123323311949751266331066352) = cT (cho3 (ev (.ofNat 3) [115, 104] A B C D) mod) (some badV) := by kernel_rfl
theorem r2_adr_1 : KR 2 [97, 100, 114] [112, 97, 103, 101] 0 0 false := fun _ _ _ _ _ _ => by kernel_rfl
theorem r2_b_c_0 : KR 2 [98, 46, 99] [] 280 0 true := fun _ _ _ _ _ _ => by kernel_rfl
theorem r2_b_c_4 : KR 2 [98, 46, 99] [116, 112, 108, 111] 0 0 false := fun _ _ _ _ _ _ => by kernel_rfl
theorem r2_cbz_3 : KR 2 [99, 98, 122] [116, 112, 104, 105] 0 0 false := fun _ _ _ _ _ _ => by kernel_rfl
theorem r2_cbnz_2 : KR 2 [99, 98, 110, 122] [108, 111, 49, 50] 0 0 false := fun _ _ _ _ _ _ => by kernel_rfl
theorem r2_b_1 : KR 2 [98] [112, 97, 103, 101] 0 0 false := fun _ _ _ _ _ _ => by kernel_rfl
theorem r2_bl_0 : KR 2 [98, 108] [] 283 0 true := fun _ _ _ _ _ _ => by kernel_rfl
theorem r2_bl_4 : KR 2 [98, 108] [116, 112, 108, 111] 0 0 false := fun _ _ _ _ _ _ => by kernel_rfl
theorem r2_adrp_3 : KR 2 [97, 100, 114, 112] [116, 112, 104, 105] 0 0 false := fun _ _ _ _ _ _ => by kernel_rfl
theorem r2_add_i_2 : KR 2 [97, 100, 100, 46, 105] [108, 111, 49, 50] 277 0 true := fun _ _ _ _ _ _ => by kernel_rfl
theorem r2_ldrb_1 : KR 2 [108, 100, 114, 98] [112, 97, 103, 101] 0 0 false := fun _ _ _ _ _ _ => by kernel_rfl
theorem r2_strb_0 : KR 2 [115, 116, 114, 98] [] 0 0 false := fun _ _ _ _ _ _ => by kernel_rfl
theorem r2_strb_4 : KR 2 [115, 116, 114, 98] [116, 112, 108, 111] 0 0 false := fun _ _ _ _ _ _ => by kernel_rfl
theorem r2_ldrh_3 : KR 2 [108, 100, 114, 104] [116, 112, 104, 105] 0 0 false := fun _ _ _ _ _ _ => by kernel_rfl
theorem r2_strh_2 : KR 2 [115, 116, 114, 104] [108, 111, 49, 50] 284 0 true := fun _ _ _ _ _ _ => by kernel_rfl
theorem r2_ldr_w_1 : KR 2 [108, 100, 114, 46, 119] [112, 97, 103, 101] 0 0 false := fun _ _ _ _ _ _ => by kernel_rfl
theorem r2_str_w_0 : KR 2 [115, 116, 114, 46, 119] [] 0 0 false := fun _ _ _ _ _ _ => by kernel_rfl
theorem r2_str_w_4 : KR 2 [115, 116, 114, 46, 119] [116, 112, 108, 111] 0 0 false := fun _ _ _ _ _ _ => by kernel_rfl
theorem r2_ldrsw_3 : KR 2 [108, 100, 114, 115, 119] [116, 112, 104, 105] 0 0 false := fun _ _ _ _ _ _ => by kernel_rfl
theorem r2_ldr_2 : KR 2 [108, 100, 114] [108, 111, 49, 50] 286 0 true := fun _ _ _ _ _ _ => by kernel_rfl
theorem r2_str_1 : KR 2 [115, 116, 114] [112, 97, 103, 101] 0 0 false := fun _ _ _ _ _ _ => by kernel_rfl
theorem r3_beq_0 : KR 3 [98, 101, 113] [] 16 0 true := fun _ _ _ _ _ _ => by kernel_rfl
theorem r3_beq_4 : KR 3 [98, 101, 113] [108, 111] 0 0 false := fun _ _ _ _ _ _ => by kernel_rfl
theorem r3_bne_1 : KR 3 [98, 110, 101] [104, 105] 0 0 false := fun _ _ _ _ _ _ => by kernel_rfl
theorem r3_bne_5 : KR 3 [98, 110, 101] [112, 99, 108, 111] 0 0 false := fun _ _ _ _ _ _ => by kernel_rfl
theorem r3_blt_2 : KR 3 [98, 108, 116] [116, 112, 104, 105] 0 0 false := fun _ _ _ _ _ _ => by kernel_rfl
theorem r3_blt_6 : KR 3 [98, 108, 116] [116, 112, 108, 111] 0 0 false := fun _ _ _ _ _ _ => by kernel_rfl
theorem r3_bge_3 : KR 3 [98, 103, 101] [112, 99, 104, 105] 0 0 false := fun _ _ _ _ _ _ => by kernel_rfl
theorem r3_bltu_0 : KR 3 [98, 108, 116, 117] [] 16 0 true := fun _ _ _ _ _ _ => by kernel_rfl
theorem r3_bltu_4 : KR 3 [98, 108, 116, 117] [108, 111] 0 0 false := fun _ _ _ _ _ _ => by kernel_rfl
theorem r3_bgeu_1 : KR 3 [98, 103, 101, 117] [104, 105] 0 0 false := fun _ _ _ _ _ _ => by kernel_rfl
theorem r3_bgeu_5 : KR 3 [98, 103, 101, 117] [112, 99, 108, 111] 0 0 false := fun _ _ _ _ _ _ => by kernel_rfl
theorem r3_jal_2 : KR 3 [106, 97, 108] [116, 112, 104, 105] 0 0 false := fun _ _ _ _ _ _ => by kernel_rfl
theorem r3_jal_6 : KR 3 [106, 97, 108] [116, 112, 108, 111] 0 0 false := fun _ _ _ _ _ _ => by kernel_rfl
theorem r3_c_beqz_3 : KR 3 [99, 46, 98, 101, 113, 122] [112, 99, 104, 105] 0 0 false := fun _ _ _ _ _ _ => by kernel_rfl
theorem r3_c_bnez_0 : KR 3 [99, 46, 98, 110, 101, 122] [] 44 0 true := fun _ _ _ _ _ _ => by kernel_rfl
theorem r3_c_bnez_4 : KR 3 [99, 46, 98, 110, 101, 122] [108, 111] 0 0 false := fun _ _ _ _ _ _ => by kernel_rfl
theorem r3_c_j_1 : KR 3 [99, 46, 106] [104, 105] 0 0 false := fun _ _ _ _ _ _ => by kernel_rfl
theorem r3_c_j_5 : KR 3 [99, 46, 106] [112, 99, 108, 111] 0 0 false := fun _ _ _ _ _ _ => by kernel_rfl
theorem r3_lui_2 : KR 3 [108, 117, 105] [116, 112, 104, 105] 29 0 true := fun _ _ _ _ _ _ => by kernel_rfl
theorem r3_lui_6 : KR 3 [108, 117, 105] [116, 112, 108, 111] 0 0 false := fun _ _ _ _ _ _ => by kernel_rfl
theorem r3_auipc_3 : KR 3 [97, 117, 105, 112, 99] [112, 99, 104, 105] 23 0 true := fun _ _ _ _ _ _ => by kernel_rfl
theorem r3_addi_0 : KR 3 [97, 100, 100, 105] [] 0 0 false := fun _ _ _ _ _ _ => by kernel_rfl
theorem r3_addi_4 : KR 3 [97, 100, 100, 105] [108, 111] 27 0 true := fun _ _ _ _ _ _ => by kernel_rfl
theorem r3_slti_1 : KR 3 [115, 108, 116, 105] [104, 105] 0 0 false := fun _ _ _ _ _ _ => by kernel_rfl
theorem r3_slti_5 : KR 3 [115, 108, 116, 105] [112, 99, 108, 111] 24 0 true := fun _ _ _ _ _ _ => by kernel_rfl
theorem r3_sltiu_2 : KR 3 [115, 108, 116, 105, 117] [116, 112, 104, 105] 0 0 false := fun _ _ _ _ _ _ => by kernel_rfl
theorem r3_sltiu_6 : KR 3 [115, 108, 116, 105, 117] [116, 112, 108, 111] 30 0 true := fun _ _ _ _ _ _ => by kernel_rfl
theorem r3_xori_3 : KR 3 [120, 111, 114, 105] [112, 99, 104, 105] 0 0 false := fun _ _ _ _ _ _ => by kernel_rfl
theorem r3_ori_0 : KR 3 [111, 114, 105] [] 0 0 false := fun _ _ _ _ _ _ => by kernel_rfl
theorem r3_ori_4 : KR 3 [111, 114, 105] [108, 111] 27 0 true := fun _ _ _ _ _ _ => by kernel_rfl
theorem r3_andi_1 : KR 3 [97, 110, 100, 105] [104, 105] 0 0 false := fun _ _ _ _ _ _ => by kernel_rfl
theorem r3_andi_5 : KR 3 [97, 110, 100, 105] [112, 99, 108, 111] 24 0 true := fun _ _ _ _ _ _ => by kernel_rfl
theorem r3_addiw_2 : KR 3 [97, 100, 100, 105, 119] [116, 112, 104, 105] 0 0 false := fun _ _ _ _ _ _ => by kernel_rfl
theorem r3_addiw_6 : KR 3 [97, 100, 100, 105, 119] [116, 112, 108, 111] 30 0 true := fun _ _ _ _ _ _ => by kernel_rfl
theorem r3_lb_3 : KR 3 [108, 98] [112, 99, 104, 105] 0 0 false := fun _ _ _ _ _ _ => by kernel_rfl
theorem r3_lh_0 : KR 3 [108, 104] [] 0 0 false := fun _ _ _ _ _ _ => by kernel_rfl
theorem r3_lh_4 : KR 3 [108, 104] [108, 111] 27 0 true := fun _ _ _ _ _ _ => by kernel_rfl
theorem r3_lw_1 : KR 3 [108, 119] [104, 105] 0 0 false := fun _ _ _ _ _ _ => by kernel_rfl
theorem r3_lw_5 : KR 3 [108, 119] [112, 99, 108, 111] 24 0 true := fun _ _ _ _ _ _ => by kernel_rfl
theorem r3_ld_2 : KR 3 [108, 100] [116, 112, 104, 105] 0 0 false := fun _ _ _ _ _ _ => by kernel_rfl
theorem r3_ld_6 : KR 3 [108, 100] [116, 112, 108, 111] 30 0 true := fun _ _ _ _ _ _ => by kernel_rfl
theorem r3_lbu_3 : KR 3 [108, 98, 117] [112, 99, 104, 105] 0 0 false := fun _ _ _ _ _ _ => by kernel_rfl
theorem r3_lhu_0 : KR 3 [108, 104, 117] [] 0 0 false := fun _ _ _ _ _ _ => by kernel_rfl
theorem r3_lhu_4 : KR 3 [108, 104, 117] [108, 111] 27 0 true := fun _ _ _ _ _ _ => by kernel_rfl
theorem r3_lwu_1 : KR 3 [108, 119, 117] [104, 105] 0 0 false := fun _ _ _ _ _ _ => by kernel_rfl
theorem r3_lwu_5 : KR 3 [108, 119, 117] [112, 99, 108, 111] 24 0 true := fun _ _ _ _ _ _ => by kernel_rfl
theorem r3_jalr_2 : KR 3 [106, 97, 108, 114] [116, 112, 104, 105] 0 0 false := fun _ _ _ _ _ _ => by kernel_rfl
theorem r3_jalr_6 : KR 3 [106, 97, 108, 114] [116, 112, 108, 111] 30 0 true := fun _ _ _ _ _ _ => by kernel_rfl
theorem r3_sb_3 : KR 3 [115, 98] [112, 99, 104, 105] 0 0 false := fun _ _ _ _ _ _ => by kernel_rfl
theorem r3_sh_0 : KR 3 [115, 104] [] 0 0 false := fun _ _ _ _ _ _ => by kernel_rfl
theorem r3_sh_4 : KR 3 [115, 104] [108, 111] 28 0 true := fun _ _ _ _ _ _ => by kernel_rfl
theorem r3_sw_1 : KR 3 [115, 119] [104, 105] 0 0 false := fun _ _ _ _ _ _ => by kernel_rfl
theorem r3_sw_5 : KR 3 [115, 119] [112, 99, 108, 111] 25 0 true := fun _ _ _ _ _ _ => by kernel_rfl
theorem r3_sd_2 : KR 3 [115, 100] [116, 112, 104, 105] 0 0 false := fun _ _ _ _ _ _ => by kernel_rfl
theorem r3_sd_6 : KR 3 [115, 100] [116, 112, 108, 111] 31 0 true := fun _ _ _ _ _ _ => by kernel_rfl
theorem r2_cbnz_x : goR fv (.ofNat 2) [99, 98, 110, 122] A B C D I mod (Zal 14 8196) = cT (chr2 (fv (.ofNat 2) [99, 98, 110, 122] A B C D) mod) (some badV) := by kernel_rfl
theorem r2_add_i_x : goR fv (.ofNat 2) [97, 100, 100, 46, 105] A B C D I mod (Zal 14 8196) = cT (chr2 (fv (.ofNat 2) [97, 100, 100, 46, 105] A B C D) mod) (some badV) := by kernel_rfl
theorem r2_strh_x : goR fv (.ofNat 2) [115, 116, 114, 104] A B C D I mod (Zal 14 8196) = cT (chr2 (fv (.ofNat 2) [115, 116, 114, 104] A B C D) mod) (some badV) := by kernel_rfl
theorem r2_ldr_x : goR fv (.ofNat 2) [108, 100, 114] A B C D I mod (Zal 14 8196) = cT (chr2 (fv (.ofNat 2) [108, 100, 114] A B C D) mod) (some badV) := by kernel_rfl
theorem r3_blt_x : goR fv (.ofNat 3) [98, 108, 116] A B C D I mod (Zal 78 731576096086) = cT (chr3 (fv (.ofNat 3) [98, 108, 116] A B C D) mod) (some badV) := by kernel_rfl
theorem r3_jal_x : goR fv (.ofNat 3) [106, 97, 108] A B C D I mod (Zal 78 731576096086) = cT (chr3 (fv (.ofNat 3) [106, 97, 108] A B C D) mod) (some badV) := by kernel_rfl
theorem r3_lui_x : goR fv (.ofNat 3) [108, 117, 105] A B C D I mod (Zal 78 731576096086) = cT (chr3 (fv (.ofNat 3) [108, 117, 105] A B C D) mod) (some badV) := by kernel_rfl
theorem r3_sltiu_x : goR fv (.ofNat 3) [115, 108, 116, 105, 117] A B C D I mod (Zal 53 21974) = cT (chr3 (fv (.ofNat 3) [115, 108, 116, 105, 117] A B C D) mod) (some badV) := by kernel_rfl
theorem r3_addiw_x : goR fv (.ofNat 3) [97, 100, 100, 105, 119] A B C D I mod (Zal 61 5625174) = cT (chr3 (fv (.ofNat 3) [97, 100, 100, 105, 119] A B C D) mod) (some badV) := by kernel_rfl
theorem r3_ld_x : goR fv (.ofNat 3) [108, 100] A B C D I mod (Zal 69 1440044374) = cT (chr3 (fv (.ofNat 3) [108, 100] A B C D) mod) (some badV) := by kernel_rfl
theorem r3_jalr_x : goR fv (.ofNat 3) [106, 97, 108, 114] A B C D I mod (Zal 77 368651359574) = cT (chr3 (fv (.ofNat 3) [106, 97, 108, 114] A B C D) mod) (some badV) := by kernel_rfl
theorem r3_sd_x : goR fv (.ofNat 3) [115, 100] A B C D I mod (Zal 77 1831087723862) = cT (chr3 (fv (.ofNat 3) [115, 100] A B C D) mod) (some badV) := by kernel_rfl
theorem oi2_3 : goO ev os ob (.ofNat 2) nm A B C D I [116, 112, 104, 105] (Zal 127 85070591730234578234485741490456756192) = cT [(!(ieq (ev (.ofNat 2) nm A B C D) (.ofNat 0)), false), (Nat.ble (Nat.add 1 (lenU nm)) 1099511627776, true), (Nat.ble (Nat.succ (lenU ([32] ++ nm))) 1099511627776, true), (!(hasL [32, 97, 100, 100, 46, 105, 32] (([32] ++ nm) ++ [32])), true)] (some badV) := by kernel_rfl
theorem oi3_2 : goO ev os ob (.ofNat 3) nm A B C D I [116, 112, 104, 105] (Zal 136 43556142965880123323293575064786659442672) = cT [(!(ieq (ev (.ofNat 3) nm A B C D) (.ofNat 0)), false), (Nat.ble (Nat.add 1 (lenU nm)) 1099511627776, true), (Nat.ble (Nat.succ (lenU ([32] ++ nm))) 1099511627776, true), (!(hasL [32, 108, 117, 105, 32] (([32] ++ nm) ++ [32])), true)] (some badV) := by kernel_rfl
theorem oi3_6 : goO ev os ob (.ofNat 3) nm A B C D I [116, 112, 108, 111] (Zal 136 21863142054467114836384412441137400250352) = cT [(!(ieq (ev (.ofNat 3) nm A B C D) (.ofNat 0)), false), (Nat.ble (Nat.add 1 (lenU nm)) 1099511627776, true), (Nat.ble (Nat.succ (lenU ([32] ++ nm))) 1099511627776, true), (!(hasL [32, 97, 100, 100, 105, 32, 115, 108, 116, 105, 32, 115, 108, 116, 105, 117, 32, 120, 111, 114, 105, 32, 111, 114, 105, 32, 97, 110, 100, 105, 32, 97, 100, 100, 105, 119, 32, 108, 98, 32, 108, 104, 32, 108, 119, 32, 108, 100, 32, 108, 98, 117, 32, 108, 104, 117, 32, 108, 119, 117, 32, 106, 97, 108, 114, 32] (([32] ++ nm) ++ [32])), true), (Nat.ble (Nat.add 1 (lenU nm)) 1099511627776, true), (Nat.ble (Nat.succ (lenU ([32] ++ nm))) 1099511627776, true), (!(hasL [32, 115, 98, 32, 115, 104, 32, 115, 119, 32, 115, 100, 32] (([32] ++ nm) ++ [32])), true)] (some badV) := by kernel_rfl
theorem ri2_1 : goR fv (.ofNat 2) nm A B C D I [112, 97, 103, 101] (Zal 14 8244) = cT [(!(ieq (fv (.ofNat 2) nm A B C D) (.ofNat 0)), false), (leq nm [97, 100, 114, 112], false)] (some badV) := by kernel_rfl
theorem ri3_0 : goR fv (.ofNat 3) nm A B C D I [] (Zal 93 1952520626237498283350) = cT [(!(ieq (fv (.ofNat 3) nm A B C D) (.ofNat 0)), false), (leq [97, 100, 100, 105] nm, false), (leq [115, 108, 116, 105] nm, false), (leq [115, 108, 116, 105, 117] nm, false), (leq [120, 111, 114, 105] nm, false), (leq [111, 114, 105] nm, false), (leq [97, 110, 100, 105] nm, false), (leq [97, 100, 100, 105, 119] nm, false), (leq [108, 98] nm, false), (leq [108, 104] nm, false), (leq [108, 119] nm, false), (leq [108, 100] nm, false), (leq [108, 98, 117] nm, false), (leq [108, 104, 117] nm, false), (leq [108, 119, 117] nm, false), (leq [106, 97, 108, 114] nm, false), (leq [115, 98] nm, false), (leq [115, 104] nm, false), (leq [115, 119] nm, false), (leq [115, 100] nm, false), (leq [98, 101, 113] nm, false), (leq [98, 110, 101] nm, false), (leq [98, 108, 116] nm, false), (leq [98, 103, 101] nm, false), (leq [98, 108, 116, 117] nm, false), (leq [98, 103, 101, 117] nm, false), (leq nm [106, 97, 108], false), (leq nm [99, 46, 98, 101, 113, 122], false), (leq nm [99, 46, 98, 110, 101, 122], false), (leq nm [99, 46, 106], false)] (some badV) := by kernel_rfl
theorem ri3_4 : goR fv (.ofNat 3) nm A B C D I [108, 111] (Zal 78 368934882205767128406) = cT [(!(ieq (fv (.ofNat 3) nm A B C D) (.ofNat 0)), false), (leq [97, 100, 100, 105] nm, false), (leq [115, 108, 116, 105] nm, false), (leq [115, 108, 116, 105, 117] nm, false), (leq [120, 111, 114, 105] nm, false), (leq [111, 114, 105] nm, false), (leq [97, 110, 100, 105] nm, false), (leq [97, 100, 100, 105, 119] nm, false), (leq [108, 98] nm, false), (leq [108, 104] nm, false), (leq [108, 119] nm, false), (leq [108, 100] nm, false), (leq [108, 98, 117] nm, false), (leq [108, 104, 117] nm, false), (leq [108, 119, 117] nm, false), (leq [106, 97, 108, 114] nm, false), (leq [115, 98] nm, false), (leq [115, 104] nm, false), (leq [115, 119] nm, false), (leq [115, 100] nm, false)] (some badV) := by kernel_rfl
theorem ri3_x : goR fv (.ofNat 3) nm A B C D I mod (Zal 78 731576096086) = cT [(!(ieq (fv (.ofNat 3) nm A B C D) (.ofNat 0)), false), (leq [97, 100, 100, 105] nm, false), (leq [115, 108, 116, 105] nm, false), (leq [115, 108, 116, 105, 117] nm, false), (leq [120, 111, 114, 105] nm, false), (leq [111, 114, 105] nm, false), (leq [97, 110, 100, 105] nm, false), (leq [97, 100, 100, 105, 119] nm, false), (leq [108, 98] nm, false), (leq [108, 104] nm, false), (leq [108, 119] nm, false), (leq [108, 100] nm, false), (leq [108, 98, 117] nm, false), (leq [108, 104, 117] nm, false), (leq [108, 119, 117] nm, false), (leq [106, 97, 108, 114] nm, false), (leq [115, 98] nm, false), (leq [115, 104] nm, false), (leq [115, 119] nm, false), (leq [115, 100] nm, false), (leq mod [], false), (leq mod [], false), (leq mod [], false), (leq mod [], false), (leq mod [104, 105], false), (leq mod [116, 112, 104, 105], false), (leq mod [112, 99, 104, 105], false), (leq mod [108, 111], false), (leq mod [108, 111], false), (leq mod [112, 99, 108, 111], false), (leq mod [112, 99, 108, 111], false), (leq mod [116, 112, 108, 111], false), (leq mod [116, 112, 108, 111], false)] (some badV) := by kernel_rfl
end
end Go.Proofs.YtbfdooplkdofeaaGreatDoor
