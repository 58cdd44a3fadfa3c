/- Encode and Check of instructions by their names, at Imm 0. -/
import Derived.Test.YtbfdooplkdofeaaGreatDoorAsF
import Derived.Test.YtbfdooplkdofeaaGreatDoorAsE
import Derived.KernelRfl
namespace Go.Proofs.YtbfdooplkdofeaaGreatDoor
open Go Go.Vai
noncomputable section
set_option maxRecDepth 100000
variable (A B C D : Int)
theorem e1_mov_rr : go9 1 [109, 111, 118, 46, 114, 114] A B C D = ef0 A B C D := by kernel_rfl
theorem e1_sub_rr : go9 1 [115, 117, 98, 46, 114, 114] A B C D = ef0 A B C D := by kernel_rfl
theorem e1_imul_rr : go9 1 [105, 109, 117, 108, 46, 114, 114] A B C D = ef0 A B C D := by kernel_rfl
theorem e1_add_ri : go9 1 [97, 100, 100, 46, 114, 105] A B C D = ef1 A B C D := by kernel_rfl
theorem e1_xor_ri : go9 1 [120, 111, 114, 46, 114, 105] A B C D = ef1 A B C D := by kernel_rfl
theorem e1_mul : go9 1 [109, 117, 108] A B C D = ef1 A B C D := by kernel_rfl
theorem e1_shr_ri : go9 1 [115, 104, 114, 46, 114, 105] A B C D = ef1 A B C D := by kernel_rfl
theorem e1_sar_rc : go9 1 [115, 97, 114, 46, 114, 99] A B C D = ef1 A B C D := by kernel_rfl
theorem e1_jmp_s : go9 1 [106, 109, 112, 46, 115] A B C D = ef2 A B C D := by kernel_rfl
theorem e1_ud2 : go9 1 [117, 100, 50] A B C D = ef2 A B C D := by kernel_rfl
theorem e1_call_r : go9 1 [99, 97, 108, 108, 46, 114] A B C D = ef5 A B C D := by kernel_rfl
theorem e2_movn : go9 2 [109, 111, 118, 110] A B C D = ef7 2457862144 A B C D := by kernel_rfl
theorem e2_adds_i : go9 2 [97, 100, 100, 115, 46, 105] A B C D = ef8 2969567232 A B C D := by kernel_rfl
theorem e2_adds : go9 2 [97, 100, 100, 115] A B C D = ef9 31 63 2868903936 63 10 A B C D := by kernel_rfl
theorem e2_orr : go9 2 [111, 114, 114] A B C D = ef9 31 63 2852126720 63 10 A B C D := by kernel_rfl
theorem e2_msub : go9 2 [109, 115, 117, 98] A B C D = ef9 31 31 2600501248 31 10 A B C D := by kernel_rfl
theorem e2_csinc : go9 2 [99, 115, 105, 110, 99] A B C D = ef9 31 13 2592080896 15 12 A B C D := by kernel_rfl
theorem e2_ands_i : go9 2 [97, 110, 100, 115, 46, 105] A B C D = ef10 A B C D := by kernel_rfl
theorem e2_lsrv : go9 2 [108, 115, 114, 118] A B C D = ef11 2596283392 16 A B C D := by kernel_rfl
theorem e2_adr : go9 2 [97, 100, 114] A B C D = ef12 268435456 A B C D := by kernel_rfl
theorem e2_ldrb : go9 2 [108, 100, 114, 98] A B C D = ef13 960495616 A B C D := by kernel_rfl
theorem e2_ldr_w : go9 2 [108, 100, 114, 46, 119] A B C D = ef13 3107979264 A B C D := by kernel_rfl
theorem e2_str : go9 2 [115, 116, 114] A B C D = ef13 4177526784 A B C D := by kernel_rfl
theorem e2_brk : go9 2 [98, 114, 107] A B C D = ef14 A B C D := by kernel_rfl
theorem e2_blr : go9 2 [98, 108, 114] A B C D = ef16 3594452992 A B C D := by kernel_rfl
theorem e3_sll : go9 3 [115, 108, 108] A B C D = ef17 4147 A B C D := by kernel_rfl
theorem e3_srl : go9 3 [115, 114, 108] A B C D = ef17 20531 A B C D := by kernel_rfl
theorem e3_mul : go9 3 [109, 117, 108] A B C D = ef17 33554483 A B C D := by kernel_rfl
theorem e3_div : go9 3 [100, 105, 118] A B C D = ef17 33570867 A B C D := by kernel_rfl
theorem e3_addw : go9 3 [97, 100, 100, 119] A B C D = ef17 59 A B C D := by kernel_rfl
theorem e3_sraw : go9 3 [115, 114, 97, 119] A B C D = ef17 1073762363 A B C D := by kernel_rfl
theorem e3_remw : go9 3 [114, 101, 109, 119] A B C D = ef17 33579067 A B C D := by kernel_rfl
theorem e3_sltiu : go9 3 [115, 108, 116, 105, 117] A B C D = ef18 12307 A B C D := by kernel_rfl
theorem e3_addiw : go9 3 [97, 100, 100, 105, 119] A B C D = ef18 27 A B C D := by kernel_rfl
theorem e3_ld : go9 3 [108, 100] A B C D = ef18 12291 A B C D := by kernel_rfl
theorem e3_jalr : go9 3 [106, 97, 108, 114] A B C D = ef18 103 A B C D := by kernel_rfl
theorem e3_slliw : go9 3 [115, 108, 108, 105, 119] A B C D = ef18 4123 A B C D := by kernel_rfl
theorem e3_sh : go9 3 [115, 104] A B C D = ef19 4131 A B C D := by kernel_rfl
theorem e3_bne : go9 3 [98, 110, 101] A B C D = ef19 4195 A B C D := by kernel_rfl
theorem e3_bgeu : go9 3 [98, 103, 101, 117] A B C D = ef19 28771 A B C D := by kernel_rfl
theorem e3_ecall : go9 3 [101, 99, 97, 108, 108] A B C D = ef21 115 A B C D := by kernel_rfl
theorem e3_c_srai : go9 3 [99, 46, 115, 114, 97, 105] A B C D = ef22 A B C D := by kernel_rfl
theorem e3_c_sd : go9 3 [99, 46, 115, 100] A B C D = ef26 A B C D := by kernel_rfl
theorem e3_c_ebreak : go9 3 [99, 46, 101, 98, 114, 101, 97, 107] A B C D = ef27 0 A B C D := by kernel_rfl
theorem e3_c_li : go9 3 [99, 46, 108, 105] A B C D = ef29 128 A B C D := by kernel_rfl
theorem e3_c_xor : go9 3 [99, 46, 120, 111, 114] A B C D = ef32 280 1 A B C D := by kernel_rfl
theorem e3_c_addw : go9 3 [99, 46, 97, 100, 100, 119] A B C D = ef32 312 1 A B C D := by kernel_rfl
theorem e3_c_ldsp : go9 3 [99, 46, 108, 100, 115, 112] A B C D = ef34 192 2 3 A B C D := by kernel_rfl
theorem e3_c_add : go9 3 [99, 46, 97, 100, 100] A B C D = ef36 288 A B C D := by kernel_rfl
theorem m1_movsl_rm_0 : go9 1 [109, 111, 118, 115, 108, 46, 114, 109] A B C (.ofNat 0) = ef38 A B C := by kernel_rfl
theorem m1_movb_mr_0 : go9 1 [109, 111, 118, 98, 46, 109, 114] A B C (.ofNat 0) = ef38 A B C := by kernel_rfl
theorem m1_sub_rm_0 : go9 1 [115, 117, 98, 46, 114, 109] A B C (.ofNat 0) = ef38 A B C := by kernel_rfl
theorem m1_mov_rm_2 : go9 1 [109, 111, 118, 46, 114, 109] A B C (.ofNat 2) = ef39 A B C := by kernel_rfl
theorem m1_movsl_rm_2 : go9 1 [109, 111, 118, 115, 108, 46, 114, 109] A B C (.ofNat 2) = ef39 A B C := by kernel_rfl
theorem m1_movzb_rm_2 : go9 1 [109, 111, 118, 122, 98, 46, 114, 109] A B C (.ofNat 2) = ef39 A B C := by kernel_rfl
theorem m1_lea_2 : go9 1 [108, 101, 97] A B C (.ofNat 2) = ef39 A B C := by kernel_rfl
theorem m1_mov_mr_2 : go9 1 [109, 111, 118, 46, 109, 114] A B C (.ofNat 2) = ef39 A B C := by kernel_rfl
theorem m1_movb_mr_2 : go9 1 [109, 111, 118, 98, 46, 109, 114] A B C (.ofNat 2) = ef39 A B C := by kernel_rfl
theorem m1_add_rm_2 : go9 1 [97, 100, 100, 46, 114, 109] A B C (.ofNat 2) = ef39 A B C := by kernel_rfl
theorem m1_or_rm_2 : go9 1 [111, 114, 46, 114, 109] A B C (.ofNat 2) = ef39 A B C := by kernel_rfl
theorem m1_and_rm_2 : go9 1 [97, 110, 100, 46, 114, 109] A B C (.ofNat 2) = ef39 A B C := by kernel_rfl
theorem m1_sub_rm_2 : go9 1 [115, 117, 98, 46, 114, 109] A B C (.ofNat 2) = ef39 A B C := by kernel_rfl
theorem m1_xor_rm_2 : go9 1 [120, 111, 114, 46, 114, 109] A B C (.ofNat 2) = ef39 A B C := by kernel_rfl
theorem m1_cmp_rm_2 : go9 1 [99, 109, 112, 46, 114, 109] A B C (.ofNat 2) = ef39 A B C := by kernel_rfl
theorem m1_movl_mr_0 : go9 1 [109, 111, 118, 108, 46, 109, 114] A B C (.ofNat 0) = ef40 A B C := by kernel_rfl
theorem m1_movl_rm_8 : go9 1 [109, 111, 118, 108, 46, 114, 109] A B C (.ofNat 8) = ef41 A B C := by kernel_rfl
theorem m1_movl_mr_8 : go9 1 [109, 111, 118, 108, 46, 109, 114] A B C (.ofNat 8) = ef41 A B C := by kernel_rfl
theorem c1_and_rr : goc 1 [97, 110, 100, 46, 114, 114] A B C D = ef42 A B C D := by kernel_rfl
theorem c1_test_rr : goc 1 [116, 101, 115, 116, 46, 114, 114] A B C D = ef42 A B C D := by kernel_rfl
theorem c1_mov_fs : goc 1 [109, 111, 118, 46, 102, 115] A B C D = ef43 A B C D := by kernel_rfl
theorem c1_sub_ri : goc 1 [115, 117, 98, 46, 114, 105] A B C D = ef43 A B C D := by kernel_rfl
theorem c1_neg : goc 1 [110, 101, 103] A B C D = ef43 A B C D := by kernel_rfl
theorem c1_shl_ri : goc 1 [115, 104, 108, 46, 114, 105] A B C D = ef43 A B C D := by kernel_rfl
theorem c1_shr_rc : goc 1 [115, 104, 114, 46, 114, 99] A B C D = ef43 A B C D := by kernel_rfl
theorem c1_call_r : goc 1 [99, 97, 108, 108, 46, 114] A B C D = ef43 A B C D := by kernel_rfl
theorem c1_movsl_rm : goc 1 [109, 111, 118, 115, 108, 46, 114, 109] A B C D = ef44 A B C D := by kernel_rfl
theorem c1_movl_mr : goc 1 [109, 111, 118, 108, 46, 109, 114] A B C D = ef44 A B C D := by kernel_rfl
theorem c1_and_rm : goc 1 [97, 110, 100, 46, 114, 109] A B C D = ef44 A B C D := by kernel_rfl
theorem c1_cqo : goc 1 [99, 113, 111] A B C D = ef45 A B C D := by kernel_rfl
theorem c1_ret : goc 1 [114, 101, 116] A B C D = ef45 A B C D := by kernel_rfl
theorem c1_cmov : goc 1 [99, 109, 111, 118] A B C D = ef46 A B C D := by kernel_rfl
theorem c2_movz : goc 2 [109, 111, 118, 122] A B C D = ef48 A B C D := by kernel_rfl
theorem c2_sub_i : goc 2 [115, 117, 98, 46, 105] A B C D = ef49 A B C D := by kernel_rfl
theorem c2_sub : goc 2 [115, 117, 98] A B C D = ef50 63 A B C D := by kernel_rfl
theorem c2_eor : goc 2 [101, 111, 114] A B C D = ef50 63 A B C D := by kernel_rfl
theorem c2_csel : goc 2 [99, 115, 101, 108] A B C D = ef50 13 A B C D := by kernel_rfl
theorem c2_eor_i : goc 2 [101, 111, 114, 46, 105] A B C D = ef51 3 A B C D := by kernel_rfl
theorem c2_ldrh : goc 2 [108, 100, 114, 104] A B C D = ef51 0 A B C D := by kernel_rfl
theorem c2_ldrsw : goc 2 [108, 100, 114, 115, 119] A B C D = ef51 0 A B C D := by kernel_rfl
theorem c2_sdiv : goc 2 [115, 100, 105, 118] A B C D = ef52 A B C D := by kernel_rfl
theorem c2_ldp : goc 2 [108, 100, 112] A B C D = ef52 A B C D := by kernel_rfl
theorem c2_adr : goc 2 [97, 100, 114] A B C D = ef54 A B C D := by kernel_rfl
theorem c2_b : goc 2 [98] A B C D = ef55 A B C D := by kernel_rfl
theorem c2_nop : goc 2 [110, 111, 112] A B C D = ef55 A B C D := by kernel_rfl
theorem c2_ret : goc 2 [114, 101, 116] A B C D = ef57 A B C D := by kernel_rfl
theorem c3_slt : goc 3 [115, 108, 116] A B C D = ef58 A B C D := by kernel_rfl
theorem c3_sra : goc 3 [115, 114, 97] A B C D = ef58 A B C D := by kernel_rfl
theorem c3_mulh : goc 3 [109, 117, 108, 104] A B C D = ef58 A B C D := by kernel_rfl
theorem c3_divu : goc 3 [100, 105, 118, 117] A B C D = ef58 A B C D := by kernel_rfl
theorem c3_subw : goc 3 [115, 117, 98, 119] A B C D = ef58 A B C D := by kernel_rfl
theorem c3_mulw : goc 3 [109, 117, 108, 119] A B C D = ef58 A B C D := by kernel_rfl
theorem c3_remuw : goc 3 [114, 101, 109, 117, 119] A B C D = ef58 A B C D := by kernel_rfl
theorem c3_xori : goc 3 [120, 111, 114, 105] A B C D = ef59 0 31 A B C D := by kernel_rfl
theorem c3_lb : goc 3 [108, 98] A B C D = ef59 0 31 A B C D := by kernel_rfl
theorem c3_lbu : goc 3 [108, 98, 117] A B C D = ef59 0 31 A B C D := by kernel_rfl
theorem c3_slli : goc 3 [115, 108, 108, 105] A B C D = ef59 0 31 A B C D := by kernel_rfl
theorem c3_srliw : goc 3 [115, 114, 108, 105, 119] A B C D = ef59 0 31 A B C D := by kernel_rfl
theorem c3_sb : goc 3 [115, 98] A B C D = ef60 0 31 A B C D := by kernel_rfl
theorem c3_beq : goc 3 [98, 101, 113] A B C D = ef60 0 31 A B C D := by kernel_rfl
theorem c3_bltu : goc 3 [98, 108, 116, 117] A B C D = ef60 0 31 A B C D := by kernel_rfl
theorem c3_lui : goc 3 [108, 117, 105] A B C D = ef61 0 31 0 A B C D := by kernel_rfl
theorem c3_c_srli : goc 3 [99, 46, 115, 114, 108, 105] A B C D = ef61 8 15 3 A B C D := by kernel_rfl
theorem c3_ebreak : goc 3 [101, 98, 114, 101, 97, 107] A B C D = ef62 0 A B C D := by kernel_rfl
theorem c3_c_ebreak : goc 3 [99, 46, 101, 98, 114, 101, 97, 107] A B C D = ef62 0 A B C D := by kernel_rfl
theorem c3_c_slli : goc 3 [99, 46, 115, 108, 108, 105] A B C D = ef63 3 A B C D := by kernel_rfl
theorem c3_c_sub : goc 3 [99, 46, 115, 117, 98] A B C D = ef65 A B C D := by kernel_rfl
theorem c3_c_subw : goc 3 [99, 46, 115, 117, 98, 119] A B C D = ef65 A B C D := by kernel_rfl
theorem c3_c_jr : goc 3 [99, 46, 106, 114] A B C D = ef67 A B C D := by kernel_rfl
theorem c3_c_swsp : goc 3 [99, 46, 115, 119, 115, 112] A B C D = ef69 A B C D := by kernel_rfl
theorem r1_movzb_rm_0 : gor [109, 111, 118, 122, 98, 46, 114, 109] A B C (.ofNat 0) = ef70 A B C := by kernel_rfl
theorem r1_add_rm_0 : gor [97, 100, 100, 46, 114, 109] A B C (.ofNat 0) = ef70 A B C := by kernel_rfl
theorem r1_xor_rm_0 : gor [120, 111, 114, 46, 114, 109] A B C (.ofNat 0) = ef70 A B C := by kernel_rfl
theorem r1_mov_rm_4 : gor [109, 111, 118, 46, 114, 109] A B C (.ofNat 4) = ef71 A B C := by kernel_rfl
theorem r1_movsl_rm_4 : gor [109, 111, 118, 115, 108, 46, 114, 109] A B C (.ofNat 4) = ef71 A B C := by kernel_rfl
theorem r1_movzb_rm_4 : gor [109, 111, 118, 122, 98, 46, 114, 109] A B C (.ofNat 4) = ef71 A B C := by kernel_rfl
theorem r1_lea_4 : gor [108, 101, 97] A B C (.ofNat 4) = ef71 A B C := by kernel_rfl
theorem r1_mov_mr_4 : gor [109, 111, 118, 46, 109, 114] A B C (.ofNat 4) = ef71 A B C := by kernel_rfl
theorem r1_movb_mr_4 : gor [109, 111, 118, 98, 46, 109, 114] A B C (.ofNat 4) = ef71 A B C := by kernel_rfl
theorem r1_add_rm_4 : gor [97, 100, 100, 46, 114, 109] A B C (.ofNat 4) = ef71 A B C := by kernel_rfl
theorem r1_or_rm_4 : gor [111, 114, 46, 114, 109] A B C (.ofNat 4) = ef71 A B C := by kernel_rfl
theorem r1_and_rm_4 : gor [97, 110, 100, 46, 114, 109] A B C (.ofNat 4) = ef71 A B C := by kernel_rfl
theorem r1_sub_rm_4 : gor [115, 117, 98, 46, 114, 109] A B C (.ofNat 4) = ef71 A B C := by kernel_rfl
theorem r1_xor_rm_4 : gor [120, 111, 114, 46, 114, 109] A B C (.ofNat 4) = ef71 A B C := by kernel_rfl
theorem r1_cmp_rm_4 : gor [99, 109, 112, 46, 114, 109] A B C (.ofNat 4) = ef71 A B C := by kernel_rfl
theorem r1_movl_rm_1 : gor [109, 111, 118, 108, 46, 114, 109] A B C (.ofNat 1) = ef73 A B C := by kernel_rfl
theorem r1_movl_mr_1 : gor [109, 111, 118, 108, 46, 109, 114] A B C (.ofNat 1) = ef73 A B C := by kernel_rfl
theorem l1_mov_rm : go9e 1 [109, 111, 118, 46, 114, 109] A B C D = efE0 A B C D := by kernel_rfl
theorem l1_lea : go9e 1 [108, 101, 97] A B C D = efE0 A B C D := by kernel_rfl
theorem l1_add_rm : go9e 1 [97, 100, 100, 46, 114, 109] A B C D = efE0 A B C D := by kernel_rfl
theorem l1_xor_rm : go9e 1 [120, 111, 114, 46, 114, 109] A B C D = efE0 A B C D := by kernel_rfl
theorem w1_movsl_rm : gore [109, 111, 118, 115, 108, 46, 114, 109] A B C D = efR0 A B C D := by kernel_rfl
theorem w1_movl_mr : gore [109, 111, 118, 108, 46, 109, 114] A B C D = efR0 A B C D := by kernel_rfl
theorem w1_and_rm : gore [97, 110, 100, 46, 114, 109] A B C D = efR0 A B C D := by kernel_rfl
end
end Go.Proofs.YtbfdooplkdofeaaGreatDoor
