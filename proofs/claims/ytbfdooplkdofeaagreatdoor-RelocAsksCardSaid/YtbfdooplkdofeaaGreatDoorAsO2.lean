/- Runs of Of by classes. -/
import Derived.Test.YtbfdooplkdofeaaGreatDoorAsD
import Derived.KernelRfl
namespace Go.Proofs.YtbfdooplkdofeaaGreatDoor
open Go Go.Vai
noncomputable section
set_option maxRecDepth 100000
variable (ev fv gv : EvT) (os : OsT) (ob : ObT) (nm mod : List UInt8) (t A B C D I : Int)
theorem oa_mov_fs : goA ev [109, 111, 118, 46, 102, 115] A B C D I mod = eT (ev (.ofNat 1) [109, 111, 118, 46, 102, 115] A B C D) (ao2 A B C D mod) := by kernel_rfl
theorem oa_mov_rr : goA ev [109, 111, 118, 46, 114, 114] A B C D I mod = eT (ev (.ofNat 1) [109, 111, 118, 46, 114, 114] A B C D) (ao5 A B C D mod) := by kernel_rfl
theorem oa_sub_rr : goA ev [115, 117, 98, 46, 114, 114] A B C D I mod = eT (ev (.ofNat 1) [115, 117, 98, 46, 114, 114] A B C D) (ao5 A B C D mod) := by kernel_rfl
theorem oa_or_ri : goA ev [111, 114, 46, 114, 105] A B C D I mod = eT (ev (.ofNat 1) [111, 114, 46, 114, 105] A B C D) (ao5 A B C D mod) := by kernel_rfl
theorem oa_cmp_ri : goA ev [99, 109, 112, 46, 114, 105] A B C D I mod = eT (ev (.ofNat 1) [99, 109, 112, 46, 114, 105] A B C D) (ao5 A B C D mod) := by kernel_rfl
theorem oa_neg : goA ev [110, 101, 103] A B C D I mod = eT (ev (.ofNat 1) [110, 101, 103] A B C D) (ao5 A B C D mod) := by kernel_rfl
theorem oa_cqo : goA ev [99, 113, 111] A B C D I mod = eT (ev (.ofNat 1) [99, 113, 111] A B C D) (ao5 A B C D mod) := by kernel_rfl
theorem oa_shl_rc : goA ev [115, 104, 108, 46, 114, 99] A B C D I mod = eT (ev (.ofNat 1) [115, 104, 108, 46, 114, 99] A B C D) (ao5 A B C D mod) := by kernel_rfl
theorem oa_push : goA ev [112, 117, 115, 104] A B C D I mod = eT (ev (.ofNat 1) [112, 117, 115, 104] A B C D) (ao5 A B C D mod) := by kernel_rfl
theorem oa_jmp_r : goA ev [106, 109, 112, 46, 114] A B C D I mod = eT (ev (.ofNat 1) [106, 109, 112, 46, 114] A B C D) (ao5 A B C D mod) := by kernel_rfl
theorem oa_nop : goA ev [110, 111, 112] A B C D I mod = eT (ev (.ofNat 1) [110, 111, 112] A B C D) (ao5 A B C D mod) := by kernel_rfl
theorem ra_mov_fs : goR fv (.ofNat 1) [109, 111, 118, 46, 102, 115] A B C D I mod [] = eT (fv (.ofNat 1) [109, 111, 118, 46, 102, 115] A B C D) (ro2 A B C D mod) := by kernel_rfl
theorem ra_mov_rr : goR fv (.ofNat 1) [109, 111, 118, 46, 114, 114] A B C D I mod [] = eT (fv (.ofNat 1) [109, 111, 118, 46, 114, 114] A B C D) (ro5 A B C D mod) := by kernel_rfl
theorem ra_sub_rr : goR fv (.ofNat 1) [115, 117, 98, 46, 114, 114] A B C D I mod [] = eT (fv (.ofNat 1) [115, 117, 98, 46, 114, 114] A B C D) (ro5 A B C D mod) := by kernel_rfl
theorem ra_or_ri : goR fv (.ofNat 1) [111, 114, 46, 114, 105] A B C D I mod [] = eT (fv (.ofNat 1) [111, 114, 46, 114, 105] A B C D) (ro6 A B C D mod) := by kernel_rfl
theorem ra_cmp_ri : goR fv (.ofNat 1) [99, 109, 112, 46, 114, 105] A B C D I mod [] = eT (fv (.ofNat 1) [99, 109, 112, 46, 114, 105] A B C D) (ro6 A B C D mod) := by kernel_rfl
theorem ra_neg : goR fv (.ofNat 1) [110, 101, 103] A B C D I mod [] = eT (fv (.ofNat 1) [110, 101, 103] A B C D) (ro6 A B C D mod) := by kernel_rfl
theorem ra_cqo : goR fv (.ofNat 1) [99, 113, 111] A B C D I mod [] = eT (fv (.ofNat 1) [99, 113, 111] A B C D) (ro7 A B C D mod) := by kernel_rfl
theorem ra_shl_rc : goR fv (.ofNat 1) [115, 104, 108, 46, 114, 99] A B C D I mod [] = eT (fv (.ofNat 1) [115, 104, 108, 46, 114, 99] A B C D) (ro6 A B C D mod) := by kernel_rfl
theorem ra_push : goR fv (.ofNat 1) [112, 117, 115, 104] A B C D I mod [] = eT (fv (.ofNat 1) [112, 117, 115, 104] A B C D) (ro9 A B C D mod) := by kernel_rfl
theorem ra_jmp_r : goR fv (.ofNat 1) [106, 109, 112, 46, 114] A B C D I mod [] = eT (fv (.ofNat 1) [106, 109, 112, 46, 114] A B C D) (ro9 A B C D mod) := by kernel_rfl
theorem ra_nop : goR fv (.ofNat 1) [110, 111, 112] A B C D I mod [] = eT (fv (.ofNat 1) [110, 111, 112] A B C D) (ro7 A B C D mod) := by kernel_rfl
theorem oa_movsl_rm : goA ev [109, 111, 118, 115, 108, 46, 114, 109] A B C D I mod = eT (ev (.ofNat 1) [109, 111, 118, 115, 108, 46, 114, 109] A B C D) (am0 A B C D mod) := by kernel_rfl
theorem oa_movl_mr : goA ev [109, 111, 118, 108, 46, 109, 114] A B C D I mod = eT (ev (.ofNat 1) [109, 111, 118, 108, 46, 109, 114] A B C D) (am0 A B C D mod) := by kernel_rfl
theorem oa_and_rm : goA ev [97, 110, 100, 46, 114, 109] A B C D I mod = eT (ev (.ofNat 1) [97, 110, 100, 46, 114, 109] A B C D) (am0 A B C D mod) := by kernel_rfl
theorem rm_mov_rm : goM fv gv [109, 111, 118, 46, 114, 109] A B C D I mod = eT (fv (.ofNat 1) [109, 111, 118, 46, 114, 109] A B C D) (rm0 A B C D mod) := by kernel_rfl
theorem rm_lea : goM fv gv [108, 101, 97] A B C D I mod = eT (fv (.ofNat 1) [108, 101, 97] A B C D) (rm0 A B C D mod) := by kernel_rfl
theorem rm_add_rm : goM fv gv [97, 100, 100, 46, 114, 109] A B C D I mod = eT (fv (.ofNat 1) [97, 100, 100, 46, 114, 109] A B C D) (rm0 A B C D mod) := by kernel_rfl
theorem rm_xor_rm : goM fv gv [120, 111, 114, 46, 114, 109] A B C D I mod = eT (fv (.ofNat 1) [120, 111, 114, 46, 114, 109] A B C D) (rm0 A B C D mod) := by kernel_rfl
theorem a17x_movsl_rm : go5 [109, 111, 118, 115, 108, 46, 114, 109] A C D I mod = a17_0 A C D mod := by kernel_rfl
theorem a17x_movl_mr : go5 [109, 111, 118, 108, 46, 109, 114] A C D I mod = Zdq A C D mod := by kernel_rfl
theorem a17x_and_rm : go5 [97, 110, 100, 46, 114, 109] A C D I mod = a17_0 A C D mod := by kernel_rfl
theorem r17x_mov_rm : go6 [109, 111, 118, 46, 114, 109] A C D I mod = r17_0 A C D mod := by kernel_rfl
theorem r17x_lea : go6 [108, 101, 97] A C D I mod = r17_0 A C D mod := by kernel_rfl
theorem r17x_add_rm : go6 [97, 100, 100, 46, 114, 109] A C D I mod = r17_0 A C D mod := by kernel_rfl
theorem r17x_xor_rm : go6 [120, 111, 114, 46, 114, 109] A C D I mod = r17_0 A C D mod := by kernel_rfl
theorem o2_adr_2 : KO 2 [97, 100, 114] [108, 111, 49, 50] 0 0 false := fun _ _ _ _ _ _ _ _ => by kernel_rfl
theorem o2_b_c_1 : KO 2 [98, 46, 99] [112, 97, 103, 101] 0 0 false := fun _ _ _ _ _ _ _ _ => by kernel_rfl
theorem o2_cbz_0 : KO 2 [99, 98, 122] [] 280 0 true := fun _ _ _ _ _ _ _ _ => by kernel_rfl
theorem o2_cbz_4 : KO 2 [99, 98, 122] [116, 112, 108, 111] 0 0 false := fun _ _ _ _ _ _ _ _ => by kernel_rfl
theorem o2_cbnz_3 : KO 2 [99, 98, 110, 122] [116, 112, 104, 105] 0 0 false := fun _ _ _ _ _ _ _ _ => by kernel_rfl
theorem o2_b_2 : KO 2 [98] [108, 111, 49, 50] 0 0 false := fun _ _ _ _ _ _ _ _ => by kernel_rfl
theorem o2_bl_1 : KO 2 [98, 108] [112, 97, 103, 101] 0 0 false := fun _ _ _ _ _ _ _ _ => by kernel_rfl
theorem o2_adrp_0 : KO 2 [97, 100, 114, 112] [] 0 0 false := fun _ _ _ _ _ _ _ _ => by kernel_rfl
theorem o2_adrp_4 : KO 2 [97, 100, 114, 112] [116, 112, 108, 111] 0 0 false := fun _ _ _ _ _ _ _ _ => by kernel_rfl
theorem o2_add_i_3 : KO 2 [97, 100, 100, 46, 105] [116, 112, 104, 105] 549 0 true := fun _ _ _ _ _ _ _ _ => by kernel_rfl
theorem o2_ldrb_2 : KO 2 [108, 100, 114, 98] [108, 111, 49, 50] 278 0 true := fun _ _ _ _ _ _ _ _ => by kernel_rfl
theorem o2_strb_1 : KO 2 [115, 116, 114, 98] [112, 97, 103, 101] 0 0 false := fun _ _ _ _ _ _ _ _ => by kernel_rfl
theorem o2_ldrh_0 : KO 2 [108, 100, 114, 104] [] 0 0 false := fun _ _ _ _ _ _ _ _ => by kernel_rfl
theorem o2_ldrh_4 : KO 2 [108, 100, 114, 104] [116, 112, 108, 111] 0 0 false := fun _ _ _ _ _ _ _ _ => by kernel_rfl
theorem o2_strh_3 : KO 2 [115, 116, 114, 104] [116, 112, 104, 105] 0 0 false := fun _ _ _ _ _ _ _ _ => by kernel_rfl
theorem o2_ldr_w_2 : KO 2 [108, 100, 114, 46, 119] [108, 111, 49, 50] 285 0 true := fun _ _ _ _ _ _ _ _ => by kernel_rfl
theorem o2_str_w_1 : KO 2 [115, 116, 114, 46, 119] [112, 97, 103, 101] 0 0 false := fun _ _ _ _ _ _ _ _ => by kernel_rfl
theorem o2_ldrsw_0 : KO 2 [108, 100, 114, 115, 119] [] 0 0 false := fun _ _ _ _ _ _ _ _ => by kernel_rfl
theorem o2_ldrsw_4 : KO 2 [108, 100, 114, 115, 119] [116, 112, 108, 111] 0 0 false := fun _ _ _ _ _ _ _ _ => by kernel_rfl
theorem o2_ldr_3 : KO 2 [108, 100, 114] [116, 112, 104, 105] 0 0 false := fun _ _ _ _ _ _ _ _ => by kernel_rfl
theorem o2_str_2 : KO 2 [115, 116, 114] [108, 111, 49, 50] 286 0 true := fun _ _ _ _ _ _ _ _ => by kernel_rfl
theorem o3_beq_1 : KO 3 [98, 101, 113] [104, 105] 0 0 false := fun _ _ _ _ _ _ _ _ => by kernel_rfl
theorem o3_beq_5 : KO 3 [98, 101, 113] [112, 99, 108, 111] 0 0 false := fun _ _ _ _ _ _ _ _ => by kernel_rfl
theorem o3_bne_2 : KO 3 [98, 110, 101] [116, 112, 104, 105] 0 0 false := fun _ _ _ _ _ _ _ _ => by kernel_rfl
theorem o3_bne_6 : KO 3 [98, 110, 101] [116, 112, 108, 111] 0 0 false := fun _ _ _ _ _ _ _ _ => by kernel_rfl
theorem o3_blt_3 : KO 3 [98, 108, 116] [112, 99, 104, 105] 0 0 false := fun _ _ _ _ _ _ _ _ => by kernel_rfl
theorem o3_bge_0 : KO 3 [98, 103, 101] [] 16 0 true := fun _ _ _ _ _ _ _ _ => by kernel_rfl
theorem o3_bge_4 : KO 3 [98, 103, 101] [108, 111] 0 0 false := fun _ _ _ _ _ _ _ _ => by kernel_rfl
theorem o3_bltu_1 : KO 3 [98, 108, 116, 117] [104, 105] 0 0 false := fun _ _ _ _ _ _ _ _ => by kernel_rfl
theorem o3_bltu_5 : KO 3 [98, 108, 116, 117] [112, 99, 108, 111] 0 0 false := fun _ _ _ _ _ _ _ _ => by kernel_rfl
theorem o3_bgeu_2 : KO 3 [98, 103, 101, 117] [116, 112, 104, 105] 0 0 false := fun _ _ _ _ _ _ _ _ => by kernel_rfl
theorem o3_bgeu_6 : KO 3 [98, 103, 101, 117] [116, 112, 108, 111] 0 0 false := fun _ _ _ _ _ _ _ _ => by kernel_rfl
theorem o3_jal_3 : KO 3 [106, 97, 108] [112, 99, 104, 105] 0 0 false := fun _ _ _ _ _ _ _ _ => by kernel_rfl
theorem o3_c_beqz_0 : KO 3 [99, 46, 98, 101, 113, 122] [] 44 0 true := fun _ _ _ _ _ _ _ _ => by kernel_rfl
theorem o3_c_beqz_4 : KO 3 [99, 46, 98, 101, 113, 122] [108, 111] 0 0 false := fun _ _ _ _ _ _ _ _ => by kernel_rfl
theorem o3_c_bnez_1 : KO 3 [99, 46, 98, 110, 101, 122] [104, 105] 0 0 false := fun _ _ _ _ _ _ _ _ => by kernel_rfl
theorem o3_c_bnez_5 : KO 3 [99, 46, 98, 110, 101, 122] [112, 99, 108, 111] 0 0 false := fun _ _ _ _ _ _ _ _ => by kernel_rfl
theorem o3_c_j_2 : KO 3 [99, 46, 106] [116, 112, 104, 105] 0 0 false := fun _ _ _ _ _ _ _ _ => by kernel_rfl
theorem o3_c_j_6 : KO 3 [99, 46, 106] [116, 112, 108, 111] 0 0 false := fun _ _ _ _ _ _ _ _ => by kernel_rfl
theorem o3_lui_3 : KO 3 [108, 117, 105] [112, 99, 104, 105] 0 0 false := fun _ _ _ _ _ _ _ _ => by kernel_rfl
theorem o3_auipc_0 : KO 3 [97, 117, 105, 112, 99] [] 0 0 false := fun _ _ _ _ _ _ _ _ => by kernel_rfl
theorem o3_auipc_4 : KO 3 [97, 117, 105, 112, 99] [108, 111] 0 0 false := fun _ _ _ _ _ _ _ _ => by kernel_rfl
theorem o3_addi_1 : KO 3 [97, 100, 100, 105] [104, 105] 0 0 false := fun _ _ _ _ _ _ _ _ => by kernel_rfl
theorem o3_addi_5 : KO 3 [97, 100, 100, 105] [112, 99, 108, 111] 24 0 true := fun _ _ _ _ _ _ _ _ => by kernel_rfl
theorem o3_slti_2 : KO 3 [115, 108, 116, 105] [116, 112, 104, 105] 0 0 false := fun _ _ _ _ _ _ _ _ => by kernel_rfl
theorem o3_slti_6 : KO 3 [115, 108, 116, 105] [116, 112, 108, 111] 30 0 true := fun _ _ _ _ _ _ _ _ => by kernel_rfl
theorem o3_sltiu_3 : KO 3 [115, 108, 116, 105, 117] [112, 99, 104, 105] 0 0 false := fun _ _ _ _ _ _ _ _ => by kernel_rfl
theorem o3_xori_0 : KO 3 [120, 111, 114, 105] [] 0 0 false := fun _ _ _ _ _ _ _ _ => by kernel_rfl
theorem o3_xori_4 : KO 3 [120, 111, 114, 105] [108, 111] 27 0 true := fun _ _ _ _ _ _ _ _ => by kernel_rfl
theorem o3_ori_1 : KO 3 [111, 114, 105] [104, 105] 0 0 false := fun _ _ _ _ _ _ _ _ => by kernel_rfl
theorem o3_ori_5 : KO 3 [111, 114, 105] [112, 99, 108, 111] 24 0 true := fun _ _ _ _ _ _ _ _ => by kernel_rfl
theorem o3_andi_2 : KO 3 [97, 110, 100, 105] [116, 112, 104, 105] 0 0 false := fun _ _ _ _ _ _ _ _ => by kernel_rfl
theorem o3_andi_6 : KO 3 [97, 110, 100, 105] [116, 112, 108, 111] 30 0 true := fun _ _ _ _ _ _ _ _ => by kernel_rfl
theorem o3_addiw_3 : KO 3 [97, 100, 100, 105, 119] [112, 99, 104, 105] 0 0 false := fun _ _ _ _ _ _ _ _ => by kernel_rfl
theorem o3_lb_0 : KO 3 [108, 98] [] 0 0 false := fun _ _ _ _ _ _ _ _ => by kernel_rfl
theorem o3_lb_4 : KO 3 [108, 98] [108, 111] 27 0 true := fun _ _ _ _ _ _ _ _ => by kernel_rfl
theorem o3_lh_1 : KO 3 [108, 104] [104, 105] 0 0 false := fun _ _ _ _ _ _ _ _ => by kernel_rfl
theorem o3_lh_5 : KO 3 [108, 104] [112, 99, 108, 111] 24 0 true := fun _ _ _ _ _ _ _ _ => by kernel_rfl
theorem o3_lw_2 : KO 3 [108, 119] [116, 112, 104, 105] 0 0 false := fun _ _ _ _ _ _ _ _ => by kernel_rfl
theorem o3_lw_6 : KO 3 [108, 119] [116, 112, 108, 111] 30 0 true := fun _ _ _ _ _ _ _ _ => by kernel_rfl
theorem o3_ld_3 : KO 3 [108, 100] [112, 99, 104, 105] 0 0 false := fun _ _ _ _ _ _ _ _ => by kernel_rfl
theorem o3_lbu_0 : KO 3 [108, 98, 117] [] 0 0 false := fun _ _ _ _ _ _ _ _ => by kernel_rfl
theorem o3_lbu_4 : KO 3 [108, 98, 117] [108, 111] 27 0 true := fun _ _ _ _ _ _ _ _ => by kernel_rfl
theorem o3_lhu_1 : KO 3 [108, 104, 117] [104, 105] 0 0 false := fun _ _ _ _ _ _ _ _ => by kernel_rfl
theorem o3_lhu_5 : KO 3 [108, 104, 117] [112, 99, 108, 111] 24 0 true := fun _ _ _ _ _ _ _ _ => by kernel_rfl
theorem o3_lwu_2 : KO 3 [108, 119, 117] [116, 112, 104, 105] 0 0 false := fun _ _ _ _ _ _ _ _ => by kernel_rfl
theorem o3_lwu_6 : KO 3 [108, 119, 117] [116, 112, 108, 111] 30 0 true := fun _ _ _ _ _ _ _ _ => by kernel_rfl
theorem o3_jalr_3 : KO 3 [106, 97, 108, 114] [112, 99, 104, 105] 0 0 false := fun _ _ _ _ _ _ _ _ => by kernel_rfl
theorem o3_sb_0 : KO 3 [115, 98] [] 0 0 false := fun _ _ _ _ _ _ _ _ => by kernel_rfl
theorem o3_sb_4 : KO 3 [115, 98] [108, 111] 28 0 true := fun _ _ _ _ _ _ _ _ => by kernel_rfl
theorem o3_sh_1 : KO 3 [115, 104] [104, 105] 0 0 false := fun _ _ _ _ _ _ _ _ => by kernel_rfl
theorem o3_sh_5 : KO 3 [115, 104] [112, 99, 108, 111] 25 0 true := fun _ _ _ _ _ _ _ _ => by kernel_rfl
theorem o3_sw_2 : KO 3 [115, 119] [116, 112, 104, 105] 0 0 false := fun _ _ _ _ _ _ _ _ => by kernel_rfl
theorem o3_sw_6 : KO 3 [115, 119] [116, 112, 108, 111] 31 0 true := fun _ _ _ _ _ _ _ _ => by kernel_rfl
theorem o3_sd_3 : KO 3 [115, 100] [112, 99, 104, 105] 0 0 false := fun _ _ _ _ _ _ _ _ => by kernel_rfl
theorem o2_adr_x : goO ev os ob (.ofNat 2) [97, 100, 114] A B C D I mod (Zal 127 85070591730234615865843651857942052832) = cT (cho2 (ev (.ofNat 2) [97, 100, 114] A B C D) mod) (some badV) := by kernel_rfl
theorem o2_b_x : goO ev os ob (.ofNat 2) [98] A B C D I mod (Zal 127 85070591730234615865843651857942052832) = cT (cho2 (ev (.ofNat 2) [98] A B C D) mod) (some badV) := by kernel_rfl
theorem o2_ldrb_x : goO ev os ob (.ofNat 2) [108, 100, 114, 98] A B C D I mod (Zal 127 85070591730234615865843651857942052832) = cT (cho2 (ev (.ofNat 2) [108, 100, 114, 98] A B C D) mod) (some badV) := by kernel_rfl
theorem o2_ldr_w_x : goO ev os ob (.ofNat 2) [108, 100, 114, 46, 119] A B C D I mod (Zal 127 85070591730234615865843651857942052832) = cT (cho2 (ev (.ofNat 2) [108, 100, 114, 46, 119] A B C D) mod) (some badV) := by kernel_rfl
theorem o2_str_x : goO ev os ob (.ofNat 2) [115, 116, 114] A B C D I mod (Zal 127 85070591730234615865843651857942052832) = cT (cho2 (ev (.ofNat 2) [115, 116, 114] A B C D) mod) (some badV) := by kernel_rfl
theorem o3_bge_x : goO ev os ob (.ofNat 3) [98, 103, 101] A B C D I mod (Zal 136 43556142965880123323311949751266331066352) = cT (cho3 (ev (.ofNat 3) [98, 103, 101] A B C D) mod) (some badV) := by kernel_rfl
theorem o3_c_beqz_x : goO ev os ob (.ofNat 3) [99, 46, 98, 101, 113, 122] A B C D I mod (Zal 136 43556142965880123323311949751266331066352) = cT (cho3 (ev (.ofNat 3) [99, 46, 98, 101, 113, 122] A B C D) mod) (some badV) := by kernel_rfl
theorem o3_auipc_x : goO ev os ob (.ofNat 3) [97, 117, 105, 112, 99] A B C D I mod (Zal 136 43556142965880123323311949751266331066352) = cT (cho3 (ev (.ofNat 3) [97, 117, 105, 112, 99] A B C D) mod) (some badV) := by kernel_rfl
theorem o3_xori_x : goO ev os ob (.ofNat 3) [120, 111, 114, 105] A B C D I mod (Zal 136 43556142965880123323311949751266331066352) = cT (cho3 (ev (.ofNat 3) [120, 111, 114, 105] A B C D) mod) (some badV) := by kernel_rfl
theorem o3_lb_x : goO ev os ob (.ofNat 3) [108, 98] A B C D I mod (Zal 136 43556142965880123323311949751266331066352) = cT (cho3 (ev (.ofNat 3) [108, 98] A B C D) mod) (some badV) := by kernel_rfl
theorem o3_lbu_x : goO ev os ob (.ofNat 3) [108, 98, 117] A B C D I mod (Zal 136 43556142965880123323311949751266331066352) = cT (cho3 (ev (.ofNat 3) [108, 98, 117] A B C D) mod) (some badV) := by kernel_rfl
theorem o3_sb_x : goO ev os ob (.ofNat 3) [115, 98] A B C D I mod (Zal 136 43556142965880123323311949751266331066352) = cT (cho3 (ev (.ofNat 3) [115, 98] A B C D) mod) (some badV) := by kernel_rfl
theorem r2_adr_0 : KR 2 [97, 100, 114] [] 274 0 true := fun _ _ _ _ _ _ => by kernel_rfl
theorem r2_adr_4 : KR 2 [97, 100, 114] [116, 112, 108, 111] 0 0 false := fun _ _ _ _ _ _ => by kernel_rfl
theorem r2_b_c_3 : KR 2 [98, 46, 99] [116, 112, 104, 105] 0 0 false := fun _ _ _ _ _ _ => by kernel_rfl
theorem r2_cbz_2 : KR 2 [99, 98, 122] [108, 111, 49, 50] 0 0 false := fun _ _ _ _ _ _ => by kernel_rfl
theorem r2_cbnz_1 : KR 2 [99, 98, 110, 122] [112, 97, 103, 101] 0 0 false := fun _ _ _ _ _ _ => by kernel_rfl
theorem r2_b_0 : KR 2 [98] [] 282 0 true := fun _ _ _ _ _ _ => by kernel_rfl
theorem r2_b_4 : KR 2 [98] [116, 112, 108, 111] 0 0 false := fun _ _ _ _ _ _ => by kernel_rfl
theorem r2_bl_3 : KR 2 [98, 108] [116, 112, 104, 105] 0 0 false := fun _ _ _ _ _ _ => by kernel_rfl
theorem r2_adrp_2 : KR 2 [97, 100, 114, 112] [108, 111, 49, 50] 0 0 false := fun _ _ _ _ _ _ => by kernel_rfl
theorem r2_add_i_1 : KR 2 [97, 100, 100, 46, 105] [112, 97, 103, 101] 0 0 false := fun _ _ _ _ _ _ => by kernel_rfl
theorem r2_ldrb_0 : KR 2 [108, 100, 114, 98] [] 0 0 false := fun _ _ _ _ _ _ => by kernel_rfl
theorem r2_ldrb_4 : KR 2 [108, 100, 114, 98] [116, 112, 108, 111] 0 0 false := fun _ _ _ _ _ _ => by kernel_rfl
theorem r2_strb_3 : KR 2 [115, 116, 114, 98] [116, 112, 104, 105] 0 0 false := fun _ _ _ _ _ _ => by kernel_rfl
theorem r2_ldrh_2 : KR 2 [108, 100, 114, 104] [108, 111, 49, 50] 284 0 true := fun _ _ _ _ _ _ => by kernel_rfl
theorem r2_strh_1 : KR 2 [115, 116, 114, 104] [112, 97, 103, 101] 0 0 false := fun _ _ _ _ _ _ => by kernel_rfl
theorem r2_ldr_w_0 : KR 2 [108, 100, 114, 46, 119] [] 0 0 false := fun _ _ _ _ _ _ => by kernel_rfl
theorem r2_ldr_w_4 : KR 2 [108, 100, 114, 46, 119] [116, 112, 108, 111] 0 0 false := fun _ _ _ _ _ _ => by kernel_rfl
theorem r2_str_w_3 : KR 2 [115, 116, 114, 46, 119] [116, 112, 104, 105] 0 0 false := fun _ _ _ _ _ _ => by kernel_rfl
theorem r2_ldrsw_2 : KR 2 [108, 100, 114, 115, 119] [108, 111, 49, 50] 285 0 true := fun _ _ _ _ _ _ => by kernel_rfl
theorem r2_ldr_1 : KR 2 [108, 100, 114] [112, 97, 103, 101] 0 0 false := fun _ _ _ _ _ _ => by kernel_rfl
theorem r2_str_0 : KR 2 [115, 116, 114] [] 0 0 false := fun _ _ _ _ _ _ => by kernel_rfl
theorem r2_str_4 : KR 2 [115, 116, 114] [116, 112, 108, 111] 0 0 false := fun _ _ _ _ _ _ => by kernel_rfl
theorem r3_beq_3 : KR 3 [98, 101, 113] [112, 99, 104, 105] 0 0 false := fun _ _ _ _ _ _ => by kernel_rfl
theorem r3_bne_0 : KR 3 [98, 110, 101] [] 16 0 true := fun _ _ _ _ _ _ => by kernel_rfl
theorem r3_bne_4 : KR 3 [98, 110, 101] [108, 111] 0 0 false := fun _ _ _ _ _ _ => by kernel_rfl
theorem r3_blt_1 : KR 3 [98, 108, 116] [104, 105] 0 0 false := fun _ _ _ _ _ _ => by kernel_rfl
theorem r3_blt_5 : KR 3 [98, 108, 116] [112, 99, 108, 111] 0 0 false := fun _ _ _ _ _ _ => by kernel_rfl
theorem r3_bge_2 : KR 3 [98, 103, 101] [116, 112, 104, 105] 0 0 false := fun _ _ _ _ _ _ => by kernel_rfl
theorem r3_bge_6 : KR 3 [98, 103, 101] [116, 112, 108, 111] 0 0 false := fun _ _ _ _ _ _ => by kernel_rfl
theorem r3_bltu_3 : KR 3 [98, 108, 116, 117] [112, 99, 104, 105] 0 0 false := fun _ _ _ _ _ _ => by kernel_rfl
theorem r3_bgeu_0 : KR 3 [98, 103, 101, 117] [] 16 0 true := fun _ _ _ _ _ _ => by kernel_rfl
theorem r3_bgeu_4 : KR 3 [98, 103, 101, 117] [108, 111] 0 0 false := fun _ _ _ _ _ _ => by kernel_rfl
theorem r3_jal_1 : KR 3 [106, 97, 108] [104, 105] 0 0 false := fun _ _ _ _ _ _ => by kernel_rfl
theorem r3_jal_5 : KR 3 [106, 97, 108] [112, 99, 108, 111] 0 0 false := fun _ _ _ _ _ _ => by kernel_rfl
theorem r3_c_beqz_2 : KR 3 [99, 46, 98, 101, 113, 122] [116, 112, 104, 105] 0 0 false := fun _ _ _ _ _ _ => by kernel_rfl
theorem r3_c_beqz_6 : KR 3 [99, 46, 98, 101, 113, 122] [116, 112, 108, 111] 0 0 false := fun _ _ _ _ _ _ => by kernel_rfl
theorem r3_c_bnez_3 : KR 3 [99, 46, 98, 110, 101, 122] [112, 99, 104, 105] 0 0 false := fun _ _ _ _ _ _ => by kernel_rfl
theorem r3_c_j_0 : KR 3 [99, 46, 106] [] 45 0 true := fun _ _ _ _ _ _ => by kernel_rfl
theorem r3_c_j_4 : KR 3 [99, 46, 106] [108, 111] 0 0 false := fun _ _ _ _ _ _ => by kernel_rfl
theorem r3_lui_1 : KR 3 [108, 117, 105] [104, 105] 26 0 true := fun _ _ _ _ _ _ => by kernel_rfl
theorem r3_lui_5 : KR 3 [108, 117, 105] [112, 99, 108, 111] 0 0 false := fun _ _ _ _ _ _ => by kernel_rfl
theorem r3_auipc_2 : KR 3 [97, 117, 105, 112, 99] [116, 112, 104, 105] 0 0 false := fun _ _ _ _ _ _ => by kernel_rfl
theorem r3_auipc_6 : KR 3 [97, 117, 105, 112, 99] [116, 112, 108, 111] 0 0 false := fun _ _ _ _ _ _ => by kernel_rfl
theorem r3_addi_3 : KR 3 [97, 100, 100, 105] [112, 99, 104, 105] 0 0 false := fun _ _ _ _ _ _ => by kernel_rfl
theorem r3_slti_0 : KR 3 [115, 108, 116, 105] [] 0 0 false := fun _ _ _ _ _ _ => by kernel_rfl
theorem r3_slti_4 : KR 3 [115, 108, 116, 105] [108, 111] 27 0 true := fun _ _ _ _ _ _ => by kernel_rfl
theorem r3_sltiu_1 : KR 3 [115, 108, 116, 105, 117] [104, 105] 0 0 false := fun _ _ _ _ _ _ => by kernel_rfl
theorem r3_sltiu_5 : KR 3 [115, 108, 116, 105, 117] [112, 99, 108, 111] 24 0 true := fun _ _ _ _ _ _ => by kernel_rfl
theorem r3_xori_2 : KR 3 [120, 111, 114, 105] [116, 112, 104, 105] 0 0 false := fun _ _ _ _ _ _ => by kernel_rfl
theorem r3_xori_6 : KR 3 [120, 111, 114, 105] [116, 112, 108, 111] 30 0 true := fun _ _ _ _ _ _ => by kernel_rfl
theorem r3_ori_3 : KR 3 [111, 114, 105] [112, 99, 104, 105] 0 0 false := fun _ _ _ _ _ _ => by kernel_rfl
theorem r3_andi_0 : KR 3 [97, 110, 100, 105] [] 0 0 false := fun _ _ _ _ _ _ => by kernel_rfl
theorem r3_andi_4 : KR 3 [97, 110, 100, 105] [108, 111] 27 0 true := fun _ _ _ _ _ _ => by kernel_rfl
theorem r3_addiw_1 : KR 3 [97, 100, 100, 105, 119] [104, 105] 0 0 false := fun _ _ _ _ _ _ => by kernel_rfl
theorem r3_addiw_5 : KR 3 [97, 100, 100, 105, 119] [112, 99, 108, 111] 24 0 true := fun _ _ _ _ _ _ => by kernel_rfl
theorem r3_lb_2 : KR 3 [108, 98] [116, 112, 104, 105] 0 0 false := fun _ _ _ _ _ _ => by kernel_rfl
theorem r3_lb_6 : KR 3 [108, 98] [116, 112, 108, 111] 30 0 true := fun _ _ _ _ _ _ => by kernel_rfl
theorem r3_lh_3 : KR 3 [108, 104] [112, 99, 104, 105] 0 0 false := fun _ _ _ _ _ _ => by kernel_rfl
theorem r3_lw_0 : KR 3 [108, 119] [] 0 0 false := fun _ _ _ _ _ _ => by kernel_rfl
theorem r3_lw_4 : KR 3 [108, 119] [108, 111] 27 0 true := fun _ _ _ _ _ _ => by kernel_rfl
theorem r3_ld_1 : KR 3 [108, 100] [104, 105] 0 0 false := fun _ _ _ _ _ _ => by kernel_rfl
theorem r3_ld_5 : KR 3 [108, 100] [112, 99, 108, 111] 24 0 true := fun _ _ _ _ _ _ => by kernel_rfl
theorem r3_lbu_2 : KR 3 [108, 98, 117] [116, 112, 104, 105] 0 0 false := fun _ _ _ _ _ _ => by kernel_rfl
theorem r3_lbu_6 : KR 3 [108, 98, 117] [116, 112, 108, 111] 30 0 true := fun _ _ _ _ _ _ => by kernel_rfl
theorem r3_lhu_3 : KR 3 [108, 104, 117] [112, 99, 104, 105] 0 0 false := fun _ _ _ _ _ _ => by kernel_rfl
theorem r3_lwu_0 : KR 3 [108, 119, 117] [] 0 0 false := fun _ _ _ _ _ _ => by kernel_rfl
theorem r3_lwu_4 : KR 3 [108, 119, 117] [108, 111] 27 0 true := fun _ _ _ _ _ _ => by kernel_rfl
theorem r3_jalr_1 : KR 3 [106, 97, 108, 114] [104, 105] 0 0 false := fun _ _ _ _ _ _ => by kernel_rfl
theorem r3_jalr_5 : KR 3 [106, 97, 108, 114] [112, 99, 108, 111] 24 0 true := fun _ _ _ _ _ _ => by kernel_rfl
theorem r3_sb_2 : KR 3 [115, 98] [116, 112, 104, 105] 0 0 false := fun _ _ _ _ _ _ => by kernel_rfl
theorem r3_sb_6 : KR 3 [115, 98] [116, 112, 108, 111] 31 0 true := fun _ _ _ _ _ _ => by kernel_rfl
theorem r3_sh_3 : KR 3 [115, 104] [112, 99, 104, 105] 0 0 false := fun _ _ _ _ _ _ => by kernel_rfl
theorem r3_sw_0 : KR 3 [115, 119] [] 0 0 false := fun _ _ _ _ _ _ => by kernel_rfl
theorem r3_sw_4 : KR 3 [115, 119] [108, 111] 28 0 true := fun _ _ _ _ _ _ => by kernel_rfl
theorem r3_sd_1 : KR 3 [115, 100] [104, 105] 0 0 false := fun _ _ _ _ _ _ => by kernel_rfl
theorem r3_sd_5 : KR 3 [115, 100] [112, 99, 108, 111] 25 0 true := fun _ _ _ _ _ _ => by kernel_rfl
theorem r2_cbz_x : goR fv (.ofNat 2) [99, 98, 122] A B C D I mod (Zal 14 8196) = cT (chr2 (fv (.ofNat 2) [99, 98, 122] A B C D) mod) (some badV) := by kernel_rfl
theorem r2_adrp_x : goR fv (.ofNat 2) [97, 100, 114, 112] A B C D I mod (Zal 14 8196) = cT (chr2 (fv (.ofNat 2) [97, 100, 114, 112] A B C D) mod) (some badV) := by kernel_rfl
theorem r2_ldrh_x : goR fv (.ofNat 2) [108, 100, 114, 104] A B C D I mod (Zal 14 8196) = cT (chr2 (fv (.ofNat 2) [108, 100, 114, 104] A B C D) mod) (some badV) := by kernel_rfl
theorem r2_ldrsw_x : goR fv (.ofNat 2) [108, 100, 114, 115, 119] A B C D I mod (Zal 14 8196) = cT (chr2 (fv (.ofNat 2) [108, 100, 114, 115, 119] A B C D) mod) (some badV) := by kernel_rfl
theorem r3_bne_x : goR fv (.ofNat 3) [98, 110, 101] A B C D I mod (Zal 78 731576096086) = cT (chr3 (fv (.ofNat 3) [98, 110, 101] A B C D) mod) (some badV) := by kernel_rfl
theorem r3_bgeu_x : goR fv (.ofNat 3) [98, 103, 101, 117] A B C D I mod (Zal 78 731576096086) = cT (chr3 (fv (.ofNat 3) [98, 103, 101, 117] A B C D) mod) (some badV) := by kernel_rfl
theorem r3_c_j_x : goR fv (.ofNat 3) [99, 46, 106] A B C D I mod (Zal 78 731576096086) = cT (chr3 (fv (.ofNat 3) [99, 46, 106] A B C D) mod) (some badV) := by kernel_rfl
theorem r3_slti_x : goR fv (.ofNat 3) [115, 108, 116, 105] A B C D I mod (Zal 51 5494) = cT (chr3 (fv (.ofNat 3) [115, 108, 116, 105] A B C D) mod) (some badV) := by kernel_rfl
theorem r3_andi_x : goR fv (.ofNat 3) [97, 110, 100, 105] A B C D I mod (Zal 59 1406294) = cT (chr3 (fv (.ofNat 3) [97, 110, 100, 105] A B C D) mod) (some badV) := by kernel_rfl
theorem r3_lw_x : goR fv (.ofNat 3) [108, 119] A B C D I mod (Zal 67 360011094) = cT (chr3 (fv (.ofNat 3) [108, 119] A B C D) mod) (some badV) := by kernel_rfl
theorem r3_lwu_x : goR fv (.ofNat 3) [108, 119, 117] A B C D I mod (Zal 75 92162839894) = cT (chr3 (fv (.ofNat 3) [108, 119, 117] A B C D) mod) (some badV) := by kernel_rfl
theorem r3_sw_x : goR fv (.ofNat 3) [115, 119] A B C D I mod (Zal 75 456698189142) = cT (chr3 (fv (.ofNat 3) [115, 119] A B C D) mod) (some badV) := by kernel_rfl
theorem oi2_2 : goO ev os ob (.ofNat 2) nm A B C D I [108, 111, 49, 50] (Zal 127 42660032803176751945586907489715093472) = cT [(!(ieq (ev (.ofNat 2) nm A B C D) (.ofNat 0)), false), (Nat.ble (Nat.add 1 (lenU nm)) 1099511627776, true), (Nat.ble (Nat.succ (lenU ([32] ++ nm))) 1099511627776, true), (!(hasL [32, 97, 100, 100, 46, 105, 32] (([32] ++ nm) ++ [32])), true), (Nat.ble (Nat.add 1 (lenU nm)) 1099511627776, true), (Nat.ble (Nat.succ (lenU ([32] ++ nm))) 1099511627776, true), (!(hasL [32, 108, 100, 114, 98, 32, 115, 116, 114, 98, 32] (([32] ++ nm) ++ [32])), true), (Nat.ble (Nat.add 1 (lenU nm)) 1099511627776, true), (Nat.ble (Nat.succ (lenU ([32] ++ nm))) 1099511627776, true), (!(hasL [32, 108, 100, 114, 104, 32, 115, 116, 114, 104, 32] (([32] ++ nm) ++ [32])), true), (Nat.ble (Nat.add 1 (lenU nm)) 1099511627776, true), (Nat.ble (Nat.succ (lenU ([32] ++ nm))) 1099511627776, true), (!(hasL [32, 108, 100, 114, 46, 119, 32, 115, 116, 114, 46, 119, 32, 108, 100, 114, 115, 119, 32] (([32] ++ nm) ++ [32])), true), (Nat.ble (Nat.add 1 (lenU nm)) 1099511627776, true), (Nat.ble (Nat.succ (lenU ([32] ++ nm))) 1099511627776, true), (!(hasL [32, 108, 100, 114, 32, 115, 116, 114, 32] (([32] ++ nm) ++ [32])), true)] (some badV) := by kernel_rfl
theorem oi3_1 : goO ev os ob (.ofNat 3) nm A B C D I [104, 105] (Zal 136 43556142965880123323311931807236565762032) = cT [(!(ieq (ev (.ofNat 3) nm A B C D) (.ofNat 0)), false), (Nat.ble (Nat.add 1 (lenU nm)) 1099511627776, true), (Nat.ble (Nat.succ (lenU ([32] ++ nm))) 1099511627776, true), (!(hasL [32, 108, 117, 105, 32] (([32] ++ nm) ++ [32])), true)] (some badV) := by kernel_rfl
theorem oi3_5 : goO ev os ob (.ofNat 3) nm A B C D I [112, 99, 108, 111] (Zal 136 43534958394677571557211434578111908282352) = cT [(!(ieq (ev (.ofNat 3) nm A B C D) (.ofNat 0)), false), (Nat.ble (Nat.add 1 (lenU nm)) 1099511627776, true), (Nat.ble (Nat.succ (lenU ([32] ++ nm))) 1099511627776, true), (!(hasL [32, 97, 100, 100, 105, 32, 115, 108, 116, 105, 32, 115, 108, 116, 105, 117, 32, 120, 111, 114, 105, 32, 111, 114, 105, 32, 97, 110, 100, 105, 32, 97, 100, 100, 105, 119, 32, 108, 98, 32, 108, 104, 32, 108, 119, 32, 108, 100, 32, 108, 98, 117, 32, 108, 104, 117, 32, 108, 119, 117, 32, 106, 97, 108, 114, 32] (([32] ++ nm) ++ [32])), true), (Nat.ble (Nat.add 1 (lenU nm)) 1099511627776, true), (Nat.ble (Nat.succ (lenU ([32] ++ nm))) 1099511627776, true), (!(hasL [32, 115, 98, 32, 115, 104, 32, 115, 119, 32, 115, 100, 32] (([32] ++ nm) ++ [32])), true)] (some badV) := by kernel_rfl
theorem ri2_0 : goR fv (.ofNat 2) nm A B C D I [] (Zal 22 4) = cT [(!(ieq (fv (.ofNat 2) nm A B C D) (.ofNat 0)), false), (leq nm [97, 100, 114], false), (leq nm [98, 46, 99], false), (leq nm [99, 98, 122], false), (leq nm [99, 98, 110, 122], false), (leq nm [98], false), (leq nm [98, 108], false)] (some badV) := by kernel_rfl
theorem ri2_4 : goR fv (.ofNat 2) nm A B C D I [116, 112, 108, 111] (Zal 14 11268) = cT [(!(ieq (fv (.ofNat 2) nm A B C D) (.ofNat 0)), false), (leq nm [97, 100, 100, 46, 105], false)] (some badV) := by kernel_rfl
theorem ri3_3 : goR fv (.ofNat 3) nm A B C D I [112, 99, 104, 105] (Zal 78 27670116842140423510) = cT [(!(ieq (fv (.ofNat 3) nm A B C D) (.ofNat 0)), false), (leq [97, 100, 100, 105] nm, false), (leq [115, 108, 116, 105] nm, false), (leq [115, 108, 116, 105, 117] nm, false), (leq [120, 111, 114, 105] nm, false), (leq [111, 114, 105] nm, false), (leq [97, 110, 100, 105] nm, false), (leq [97, 100, 100, 105, 119] nm, false), (leq [108, 98] nm, false), (leq [108, 104] nm, false), (leq [108, 119] nm, false), (leq [108, 100] nm, false), (leq [108, 98, 117] nm, false), (leq [108, 104, 117] nm, false), (leq [108, 119, 117] nm, false), (leq [106, 97, 108, 114] nm, false), (leq [115, 98] nm, false), (leq [115, 104] nm, false), (leq [115, 119] nm, false), (leq [115, 100] nm, false), (leq nm [97, 117, 105, 112, 99], false)] (some badV) := by kernel_rfl
theorem ri2_x : goR fv (.ofNat 2) nm A B C D I mod (Zal 14 8196) = cT [(!(ieq (fv (.ofNat 2) nm A B C D) (.ofNat 0)), false), (leq mod [108, 111, 49, 50], false), (leq mod [112, 97, 103, 101], false), (leq mod [116, 112, 104, 105], false), (leq mod [116, 112, 108, 111], false), (!(leq mod []), true)] (some badV) := by kernel_rfl
end
end Go.Proofs.YtbfdooplkdofeaaGreatDoor
