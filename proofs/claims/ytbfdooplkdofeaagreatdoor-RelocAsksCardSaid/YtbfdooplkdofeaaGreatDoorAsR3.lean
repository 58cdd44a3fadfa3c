/- Encode and Check of instructions by their names, at Imm 0. -/
import Derived.Test.YtbfdooplkdofeaaGreatDoorAsF
import Derived.Test.YtbfdooplkdofeaaGreatDoorAsE
import Derived.KernelRfl
namespace Go.Proofs.YtbfdooplkdofeaaGreatDoor
open Go Go.Vai
noncomputable section
set_option maxRecDepth 100000
variable (A B C D : Int)
theorem e1_and_rr : go9 1 [97, 110, 100, 46, 114, 114] A B C D = ef0 A B C D := by kernel_rfl
theorem e1_test_rr : go9 1 [116, 101, 115, 116, 46, 114, 114] A B C D = ef0 A B C D := by kernel_rfl
theorem e1_mov_fs : go9 1 [109, 111, 118, 46, 102, 115] A B C D = ef1 A B C D := by kernel_rfl
theorem e1_sub_ri : go9 1 [115, 117, 98, 46, 114, 105] A B C D = ef1 A B C D := by kernel_rfl
theorem e1_neg : go9 1 [110, 101, 103] A B C D = ef1 A B C D := by kernel_rfl
theorem e1_shl_ri : go9 1 [115, 104, 108, 46, 114, 105] A B C D = ef1 A B C D := by kernel_rfl
theorem e1_shr_rc : go9 1 [115, 104, 114, 46, 114, 99] A B C D = ef1 A B C D := by kernel_rfl
theorem e1_jmp : go9 1 [106, 109, 112] A B C D = ef2 A B C D := by kernel_rfl
theorem e1_nop : go9 1 [110, 111, 112] A B C D = ef2 A B C D := by kernel_rfl
theorem e1_pop : go9 1 [112, 111, 112] A B C D = ef4 A B C D := by kernel_rfl
theorem e1_jcc_s : go9 1 [106, 99, 99, 46, 115] A B C D = ef6 A B C D := by kernel_rfl
theorem e2_add_i : go9 2 [97, 100, 100, 46, 105] A B C D = ef8 2432696320 A B C D := by kernel_rfl
theorem e2_add : go9 2 [97, 100, 100] A B C D = ef9 31 63 2332033024 63 10 A B C D := by kernel_rfl
theorem e2_and : go9 2 [97, 110, 100] A B C D = ef9 31 63 2315255808 63 10 A B C D := by kernel_rfl
theorem e2_madd : go9 2 [109, 97, 100, 100] A B C D = ef9 31 31 2600468480 31 10 A B C D := by kernel_rfl
theorem e2_csel : go9 2 [99, 115, 101, 108] A B C D = ef9 31 13 2592079872 15 12 A B C D := by kernel_rfl
theorem e2_eor_i : go9 2 [101, 111, 114, 46, 105] A B C D = ef10 A B C D := by kernel_rfl
theorem e2_lslv : go9 2 [108, 115, 108, 118] A B C D = ef11 2596282368 16 A B C D := by kernel_rfl
theorem e2_stp : go9 2 [115, 116, 112] A B C D = ef11 2835349504 10 A B C D := by kernel_rfl
theorem e2_cbnz : go9 2 [99, 98, 110, 122] A B C D = ef12 3036676096 A B C D := by kernel_rfl
theorem e2_strh : go9 2 [115, 116, 114, 104] A B C D = ef13 2030043136 A B C D := by kernel_rfl
theorem e2_ldr : go9 2 [108, 100, 114] A B C D = ef13 4181721088 A B C D := by kernel_rfl
theorem e2_svc : go9 2 [115, 118, 99] A B C D = ef14 A B C D := by kernel_rfl
theorem e2_br : go9 2 [98, 114] A B C D = ef16 3592355840 A B C D := by kernel_rfl
theorem e3_sub : go9 3 [115, 117, 98] A B C D = ef17 1073741875 A B C D := by kernel_rfl
theorem e3_xor : go9 3 [120, 111, 114] A B C D = ef17 16435 A B C D := by kernel_rfl
theorem e3_and : go9 3 [97, 110, 100] A B C D = ef17 28723 A B C D := by kernel_rfl
theorem e3_mulhu : go9 3 [109, 117, 108, 104, 117] A B C D = ef17 33566771 A B C D := by kernel_rfl
theorem e3_remu : go9 3 [114, 101, 109, 117] A B C D = ef17 33583155 A B C D := by kernel_rfl
theorem e3_srlw : go9 3 [115, 114, 108, 119] A B C D = ef17 20539 A B C D := by kernel_rfl
theorem e3_divuw : go9 3 [100, 105, 118, 117, 119] A B C D = ef17 33574971 A B C D := by kernel_rfl
theorem e3_slti : go9 3 [115, 108, 116, 105] A B C D = ef18 8211 A B C D := by kernel_rfl
theorem e3_andi : go9 3 [97, 110, 100, 105] A B C D = ef18 28691 A B C D := by kernel_rfl
theorem e3_lw : go9 3 [108, 119] A B C D = ef18 8195 A B C D := by kernel_rfl
theorem e3_lwu : go9 3 [108, 119, 117] A B C D = ef18 24579 A B C D := by kernel_rfl
theorem e3_srai : go9 3 [115, 114, 97, 105] A B C D = ef18 1073762323 A B C D := by kernel_rfl
theorem e3_sb : go9 3 [115, 98] A B C D = ef19 35 A B C D := by kernel_rfl
theorem e3_beq : go9 3 [98, 101, 113] A B C D = ef19 99 A B C D := by kernel_rfl
theorem e3_bltu : go9 3 [98, 108, 116, 117] A B C D = ef19 24675 A B C D := by kernel_rfl
theorem e3_jal : go9 3 [106, 97, 108] A B C D = ef20 111 A B C D := by kernel_rfl
theorem e3_c_srli : go9 3 [99, 46, 115, 114, 108, 105] A B C D = ef22 A B C D := by kernel_rfl
theorem e3_c_sw : go9 3 [99, 46, 115, 119] A B C D = ef25 A B C D := by kernel_rfl
theorem e3_c_j : go9 3 [99, 46, 106] A B C D = ef27 0 A B C D := by kernel_rfl
theorem e3_c_addiw : go9 3 [99, 46, 97, 100, 100, 105, 119] A B C D = ef29 64 A B C D := by kernel_rfl
theorem e3_c_sub : go9 3 [99, 46, 115, 117, 98] A B C D = ef32 280 0 A B C D := by kernel_rfl
theorem e3_c_subw : go9 3 [99, 46, 115, 117, 98, 119] A B C D = ef32 312 0 A B C D := by kernel_rfl
theorem e3_c_lwsp : go9 3 [99, 46, 108, 119, 115, 112] A B C D = ef34 128 3 2 A B C D := by kernel_rfl
theorem e3_c_mv : go9 3 [99, 46, 109, 118] A B C D = ef36 256 A B C D := by kernel_rfl
theorem m1_mov_rm_0 : go9 1 [109, 111, 118, 46, 114, 109] A B C (.ofNat 0) = ef38 A B C := by kernel_rfl
theorem m1_mov_mr_0 : go9 1 [109, 111, 118, 46, 109, 114] A B C (.ofNat 0) = ef38 A B C := by kernel_rfl
theorem m1_and_rm_0 : go9 1 [97, 110, 100, 46, 114, 109] A B C (.ofNat 0) = ef38 A B C := by kernel_rfl
theorem m1_mov_rm_1 : go9 1 [109, 111, 118, 46, 114, 109] A B C (.ofNat 1) = ef39 A B C := by kernel_rfl
theorem m1_movsl_rm_1 : go9 1 [109, 111, 118, 115, 108, 46, 114, 109] A B C (.ofNat 1) = ef39 A B C := by kernel_rfl
theorem m1_movzb_rm_1 : go9 1 [109, 111, 118, 122, 98, 46, 114, 109] A B C (.ofNat 1) = ef39 A B C := by kernel_rfl
theorem m1_lea_1 : go9 1 [108, 101, 97] A B C (.ofNat 1) = ef39 A B C := by kernel_rfl
theorem m1_mov_mr_1 : go9 1 [109, 111, 118, 46, 109, 114] A B C (.ofNat 1) = ef39 A B C := by kernel_rfl
theorem m1_movb_mr_1 : go9 1 [109, 111, 118, 98, 46, 109, 114] A B C (.ofNat 1) = ef39 A B C := by kernel_rfl
theorem m1_add_rm_1 : go9 1 [97, 100, 100, 46, 114, 109] A B C (.ofNat 1) = ef39 A B C := by kernel_rfl
theorem m1_or_rm_1 : go9 1 [111, 114, 46, 114, 109] A B C (.ofNat 1) = ef39 A B C := by kernel_rfl
theorem m1_and_rm_1 : go9 1 [97, 110, 100, 46, 114, 109] A B C (.ofNat 1) = ef39 A B C := by kernel_rfl
theorem m1_sub_rm_1 : go9 1 [115, 117, 98, 46, 114, 109] A B C (.ofNat 1) = ef39 A B C := by kernel_rfl
theorem m1_xor_rm_1 : go9 1 [120, 111, 114, 46, 114, 109] A B C (.ofNat 1) = ef39 A B C := by kernel_rfl
theorem m1_cmp_rm_1 : go9 1 [99, 109, 112, 46, 114, 109] A B C (.ofNat 1) = ef39 A B C := by kernel_rfl
theorem m1_movl_rm_0 : go9 1 [109, 111, 118, 108, 46, 114, 109] A B C (.ofNat 0) = ef40 A B C := by kernel_rfl
theorem m1_movl_rm_4 : go9 1 [109, 111, 118, 108, 46, 114, 109] A B C (.ofNat 4) = ef41 A B C := by kernel_rfl
theorem m1_movl_mr_4 : go9 1 [109, 111, 118, 108, 46, 109, 114] A B C (.ofNat 4) = ef41 A B C := by kernel_rfl
theorem c1_or_rr : goc 1 [111, 114, 46, 114, 114] A B C D = ef42 A B C D := by kernel_rfl
theorem c1_cmp_rr : goc 1 [99, 109, 112, 46, 114, 114] A B C D = ef42 A B C D := by kernel_rfl
theorem c1_mov_rs : goc 1 [109, 111, 118, 46, 114, 115] A B C D = ef43 A B C D := by kernel_rfl
theorem c1_and_ri : goc 1 [97, 110, 100, 46, 114, 105] A B C D = ef43 A B C D := by kernel_rfl
theorem c1_not : goc 1 [110, 111, 116] A B C D = ef43 A B C D := by kernel_rfl
theorem c1_idiv : goc 1 [105, 100, 105, 118] A B C D = ef43 A B C D := by kernel_rfl
theorem c1_shl_rc : goc 1 [115, 104, 108, 46, 114, 99] A B C D = ef43 A B C D := by kernel_rfl
theorem c1_pop : goc 1 [112, 111, 112] A B C D = ef43 A B C D := by kernel_rfl
theorem c1_movl_rm : goc 1 [109, 111, 118, 108, 46, 114, 109] A B C D = ef44 A B C D := by kernel_rfl
theorem c1_mov_mr : goc 1 [109, 111, 118, 46, 109, 114] A B C D = ef44 A B C D := by kernel_rfl
theorem c1_or_rm : goc 1 [111, 114, 46, 114, 109] A B C D = ef44 A B C D := by kernel_rfl
theorem c1_cmp_rm : goc 1 [99, 109, 112, 46, 114, 109] A B C D = ef44 A B C D := by kernel_rfl
theorem c1_jmp_s : goc 1 [106, 109, 112, 46, 115] A B C D = ef45 A B C D := by kernel_rfl
theorem c1_ud2 : goc 1 [117, 100, 50] A B C D = ef45 A B C D := by kernel_rfl
theorem c2_movn : goc 2 [109, 111, 118, 110] A B C D = ef48 A B C D := by kernel_rfl
theorem c2_adds_i : goc 2 [97, 100, 100, 115, 46, 105] A B C D = ef49 A B C D := by kernel_rfl
theorem c2_adds : goc 2 [97, 100, 100, 115] A B C D = ef50 63 A B C D := by kernel_rfl
theorem c2_orr : goc 2 [111, 114, 114] A B C D = ef50 63 A B C D := by kernel_rfl
theorem c2_msub : goc 2 [109, 115, 117, 98] A B C D = ef50 31 A B C D := by kernel_rfl
theorem c2_orr_i : goc 2 [111, 114, 114, 46, 105] A B C D = ef51 3 A B C D := by kernel_rfl
theorem c2_strb : goc 2 [115, 116, 114, 98] A B C D = ef51 0 A B C D := by kernel_rfl
theorem c2_str_w : goc 2 [115, 116, 114, 46, 119] A B C D = ef51 0 A B C D := by kernel_rfl
theorem c2_udiv : goc 2 [117, 100, 105, 118] A B C D = ef52 A B C D := by kernel_rfl
theorem c2_asrv : goc 2 [97, 115, 114, 118] A B C D = ef52 A B C D := by kernel_rfl
theorem c2_ubfm : goc 2 [117, 98, 102, 109] A B C D = ef53 A B C D := by kernel_rfl
theorem c2_cbnz : goc 2 [99, 98, 110, 122] A B C D = ef54 A B C D := by kernel_rfl
theorem c2_brk : goc 2 [98, 114, 107] A B C D = ef55 A B C D := by kernel_rfl
theorem c2_blr : goc 2 [98, 108, 114] A B C D = ef57 A B C D := by kernel_rfl
theorem c3_sll : goc 3 [115, 108, 108] A B C D = ef58 A B C D := by kernel_rfl
theorem c3_srl : goc 3 [115, 114, 108] A B C D = ef58 A B C D := by kernel_rfl
theorem c3_mul : goc 3 [109, 117, 108] A B C D = ef58 A B C D := by kernel_rfl
theorem c3_div : goc 3 [100, 105, 118] A B C D = ef58 A B C D := by kernel_rfl
theorem c3_addw : goc 3 [97, 100, 100, 119] A B C D = ef58 A B C D := by kernel_rfl
theorem c3_sraw : goc 3 [115, 114, 97, 119] A B C D = ef58 A B C D := by kernel_rfl
theorem c3_remw : goc 3 [114, 101, 109, 119] A B C D = ef58 A B C D := by kernel_rfl
theorem c3_sltiu : goc 3 [115, 108, 116, 105, 117] A B C D = ef59 0 31 A B C D := by kernel_rfl
theorem c3_addiw : goc 3 [97, 100, 100, 105, 119] A B C D = ef59 0 31 A B C D := by kernel_rfl
theorem c3_ld : goc 3 [108, 100] A B C D = ef59 0 31 A B C D := by kernel_rfl
theorem c3_jalr : goc 3 [106, 97, 108, 114] A B C D = ef59 0 31 A B C D := by kernel_rfl
theorem c3_slliw : goc 3 [115, 108, 108, 105, 119] A B C D = ef59 0 31 A B C D := by kernel_rfl
theorem c3_c_ld : goc 3 [99, 46, 108, 100] A B C D = ef59 8 15 A B C D := by kernel_rfl
theorem c3_sd : goc 3 [115, 100] A B C D = ef60 0 31 A B C D := by kernel_rfl
theorem c3_bge : goc 3 [98, 103, 101] A B C D = ef60 0 31 A B C D := by kernel_rfl
theorem c3_c_sd : goc 3 [99, 46, 115, 100] A B C D = ef60 8 15 A B C D := by kernel_rfl
theorem c3_c_addi4spn : goc 3 [99, 46, 97, 100, 100, 105, 52, 115, 112, 110] A B C D = ef61 8 15 3 A B C D := by kernel_rfl
theorem c3_ecall : goc 3 [101, 99, 97, 108, 108] A B C D = ef62 0 A B C D := by kernel_rfl
theorem c3_c_j : goc 3 [99, 46, 106] A B C D = ef62 0 A B C D := by kernel_rfl
theorem c3_c_li : goc 3 [99, 46, 108, 105] A B C D = ef63 0 A B C D := by kernel_rfl
theorem c3_c_lui : goc 3 [99, 46, 108, 117, 105] A B C D = ef64 A B C D := by kernel_rfl
theorem c3_c_and : goc 3 [99, 46, 97, 110, 100] A B C D = ef65 A B C D := by kernel_rfl
theorem c3_c_bnez : goc 3 [99, 46, 98, 110, 101, 122] A B C D = ef66 A B C D := by kernel_rfl
theorem c3_c_add : goc 3 [99, 46, 97, 100, 100] A B C D = ef68 A B C D := by kernel_rfl
theorem r1_movsl_rm_0 : gor [109, 111, 118, 115, 108, 46, 114, 109] A B C (.ofNat 0) = ef70 A B C := by kernel_rfl
theorem r1_movb_mr_0 : gor [109, 111, 118, 98, 46, 109, 114] A B C (.ofNat 0) = ef70 A B C := by kernel_rfl
theorem r1_sub_rm_0 : gor [115, 117, 98, 46, 114, 109] A B C (.ofNat 0) = ef70 A B C := by kernel_rfl
theorem r1_mov_rm_2 : gor [109, 111, 118, 46, 114, 109] A B C (.ofNat 2) = ef71 A B C := by kernel_rfl
theorem r1_movsl_rm_2 : gor [109, 111, 118, 115, 108, 46, 114, 109] A B C (.ofNat 2) = ef71 A B C := by kernel_rfl
theorem r1_movzb_rm_2 : gor [109, 111, 118, 122, 98, 46, 114, 109] A B C (.ofNat 2) = ef71 A B C := by kernel_rfl
theorem r1_lea_2 : gor [108, 101, 97] A B C (.ofNat 2) = ef71 A B C := by kernel_rfl
theorem r1_mov_mr_2 : gor [109, 111, 118, 46, 109, 114] A B C (.ofNat 2) = ef71 A B C := by kernel_rfl
theorem r1_movb_mr_2 : gor [109, 111, 118, 98, 46, 109, 114] A B C (.ofNat 2) = ef71 A B C := by kernel_rfl
theorem r1_add_rm_2 : gor [97, 100, 100, 46, 114, 109] A B C (.ofNat 2) = ef71 A B C := by kernel_rfl
theorem r1_or_rm_2 : gor [111, 114, 46, 114, 109] A B C (.ofNat 2) = ef71 A B C := by kernel_rfl
theorem r1_and_rm_2 : gor [97, 110, 100, 46, 114, 109] A B C (.ofNat 2) = ef71 A B C := by kernel_rfl
theorem r1_sub_rm_2 : gor [115, 117, 98, 46, 114, 109] A B C (.ofNat 2) = ef71 A B C := by kernel_rfl
theorem r1_xor_rm_2 : gor [120, 111, 114, 46, 114, 109] A B C (.ofNat 2) = ef71 A B C := by kernel_rfl
theorem r1_cmp_rm_2 : gor [99, 109, 112, 46, 114, 109] A B C (.ofNat 2) = ef71 A B C := by kernel_rfl
theorem r1_movl_mr_0 : gor [109, 111, 118, 108, 46, 109, 114] A B C (.ofNat 0) = ef72 A B C := by kernel_rfl
theorem r1_movl_rm_8 : gor [109, 111, 118, 108, 46, 114, 109] A B C (.ofNat 8) = ef73 A B C := by kernel_rfl
theorem r1_movl_mr_8 : gor [109, 111, 118, 108, 46, 109, 114] A B C (.ofNat 8) = ef73 A B C := by kernel_rfl
theorem l1_movzb_rm : go9e 1 [109, 111, 118, 122, 98, 46, 114, 109] A B C D = efE0 A B C D := by kernel_rfl
theorem l1_movb_mr : go9e 1 [109, 111, 118, 98, 46, 109, 114] A B C D = efE0 A B C D := by kernel_rfl
theorem l1_sub_rm : go9e 1 [115, 117, 98, 46, 114, 109] A B C D = efE0 A B C D := by kernel_rfl
theorem w1_movl_rm : gore [109, 111, 118, 108, 46, 114, 109] A B C D = efR0 A B C D := by kernel_rfl
theorem w1_mov_mr : gore [109, 111, 118, 46, 109, 114] A B C D = efR0 A B C D := by kernel_rfl
theorem w1_or_rm : gore [111, 114, 46, 114, 109] A B C D = efR0 A B C D := by kernel_rfl
theorem w1_cmp_rm : gore [99, 109, 112, 46, 114, 109] A B C D = efR0 A B C D := by kernel_rfl
end
end Go.Proofs.YtbfdooplkdofeaaGreatDoor
