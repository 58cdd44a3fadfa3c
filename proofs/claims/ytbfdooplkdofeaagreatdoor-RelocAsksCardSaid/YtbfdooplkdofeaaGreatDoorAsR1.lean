/- Encode and Check of instructions by their names, at Imm 0. -/
import Derived.Test.YtbfdooplkdofeaaGreatDoorAsF
import Derived.Test.YtbfdooplkdofeaaGreatDoorAsE
import Derived.KernelRfl
namespace Go.Proofs.YtbfdooplkdofeaaGreatDoor
open Go Go.Vai
noncomputable section
set_option maxRecDepth 100000
variable (A B C D : Int)
theorem e1_add_rr : go9 1 [97, 100, 100, 46, 114, 114] A B C D = ef0 A B C D := by kernel_rfl
theorem e1_xor_rr : go9 1 [120, 111, 114, 46, 114, 114] A B C D = ef0 A B C D := by kernel_rfl
theorem e1_mov_ri : go9 1 [109, 111, 118, 46, 114, 105] A B C D = ef1 A B C D := by kernel_rfl
theorem e1_or_ri : go9 1 [111, 114, 46, 114, 105] A B C D = ef1 A B C D := by kernel_rfl
theorem e1_cmp_ri : go9 1 [99, 109, 112, 46, 114, 105] A B C D = ef1 A B C D := by kernel_rfl
theorem e1_div : go9 1 [100, 105, 118] A B C D = ef1 A B C D := by kernel_rfl
theorem e1_sar_ri : go9 1 [115, 97, 114, 46, 114, 105] A B C D = ef1 A B C D := by kernel_rfl
theorem e1_cqo : go9 1 [99, 113, 111] A B C D = ef2 A B C D := by kernel_rfl
theorem e1_ret : go9 1 [114, 101, 116] A B C D = ef2 A B C D := by kernel_rfl
theorem e1_cmov : go9 1 [99, 109, 111, 118] A B C D = ef3 A B C D := by kernel_rfl
theorem e1_jmp_r : go9 1 [106, 109, 112, 46, 114] A B C D = ef5 A B C D := by kernel_rfl
theorem e2_movz : go9 2 [109, 111, 118, 122] A B C D = ef7 3531603968 A B C D := by kernel_rfl
theorem e2_sub_i : go9 2 [115, 117, 98, 46, 105] A B C D = ef8 3506438144 A B C D := by kernel_rfl
theorem e2_sub : go9 2 [115, 117, 98] A B C D = ef9 31 63 3405774848 63 10 A B C D := by kernel_rfl
theorem e2_eor : go9 2 [101, 111, 114] A B C D = ef9 31 63 3388997632 63 10 A B C D := by kernel_rfl
theorem e2_sbfm : go9 2 [115, 98, 102, 109] A B C D = ef9 63 63 2470445056 63 10 A B C D := by kernel_rfl
theorem e2_and_i : go9 2 [97, 110, 100, 46, 105] A B C D = ef10 A B C D := by kernel_rfl
theorem e2_udiv : go9 2 [117, 100, 105, 118] A B C D = ef11 2596276224 16 A B C D := by kernel_rfl
theorem e2_asrv : go9 2 [97, 115, 114, 118] A B C D = ef11 2596284416 16 A B C D := by kernel_rfl
theorem e2_adrp : go9 2 [97, 100, 114, 112] A B C D = ef12 2415919104 A B C D := by kernel_rfl
theorem e2_strb : go9 2 [115, 116, 114, 98] A B C D = ef13 956301312 A B C D := by kernel_rfl
theorem e2_str_w : go9 2 [115, 116, 114, 46, 119] A B C D = ef13 3103784960 A B C D := by kernel_rfl
theorem e2_b : go9 2 [98] A B C D = ef14 A B C D := by kernel_rfl
theorem e2_nop : go9 2 [110, 111, 112] A B C D = ef14 A B C D := by kernel_rfl
theorem e2_ret : go9 2 [114, 101, 116] A B C D = ef16 3596550144 A B C D := by kernel_rfl
theorem e3_slt : go9 3 [115, 108, 116] A B C D = ef17 8243 A B C D := by kernel_rfl
theorem e3_sra : go9 3 [115, 114, 97] A B C D = ef17 1073762355 A B C D := by kernel_rfl
theorem e3_mulh : go9 3 [109, 117, 108, 104] A B C D = ef17 33558579 A B C D := by kernel_rfl
theorem e3_divu : go9 3 [100, 105, 118, 117] A B C D = ef17 33574963 A B C D := by kernel_rfl
theorem e3_subw : go9 3 [115, 117, 98, 119] A B C D = ef17 1073741883 A B C D := by kernel_rfl
theorem e3_mulw : go9 3 [109, 117, 108, 119] A B C D = ef17 33554491 A B C D := by kernel_rfl
theorem e3_remuw : go9 3 [114, 101, 109, 117, 119] A B C D = ef17 33583163 A B C D := by kernel_rfl
theorem e3_xori : go9 3 [120, 111, 114, 105] A B C D = ef18 16403 A B C D := by kernel_rfl
theorem e3_lb : go9 3 [108, 98] A B C D = ef18 3 A B C D := by kernel_rfl
theorem e3_lbu : go9 3 [108, 98, 117] A B C D = ef18 16387 A B C D := by kernel_rfl
theorem e3_slli : go9 3 [115, 108, 108, 105] A B C D = ef18 4115 A B C D := by kernel_rfl
theorem e3_srliw : go9 3 [115, 114, 108, 105, 119] A B C D = ef18 20507 A B C D := by kernel_rfl
theorem e3_sw : go9 3 [115, 119] A B C D = ef19 8227 A B C D := by kernel_rfl
theorem e3_blt : go9 3 [98, 108, 116] A B C D = ef19 16483 A B C D := by kernel_rfl
theorem e3_lui : go9 3 [108, 117, 105] A B C D = ef20 55 A B C D := by kernel_rfl
theorem e3_ebreak : go9 3 [101, 98, 114, 101, 97, 107] A B C D = ef21 1048691 A B C D := by kernel_rfl
theorem e3_c_lw : go9 3 [99, 46, 108, 119] A B C D = ef23 A B C D := by kernel_rfl
theorem e3_c_nop : go9 3 [99, 46, 110, 111, 112] A B C D = ef27 0 A B C D := by kernel_rfl
theorem e3_c_addi : go9 3 [99, 46, 97, 100, 100, 105] A B C D = ef28 A B C D := by kernel_rfl
theorem e3_c_lui : go9 3 [99, 46, 108, 117, 105] A B C D = ef30 A B C D := by kernel_rfl
theorem e3_c_or : go9 3 [99, 46, 111, 114] A B C D = ef32 280 2 A B C D := by kernel_rfl
theorem e3_c_beqz : go9 3 [99, 46, 98, 101, 113, 122] A B C D = ef33 384 A B C D := by kernel_rfl
theorem e3_c_jr : go9 3 [99, 46, 106, 114] A B C D = ef35 256 A B C D := by kernel_rfl
theorem e3_c_swsp : go9 3 [99, 46, 115, 119, 115, 112] A B C D = ef37 12288 A B C D := by kernel_rfl
theorem m1_movzb_rm_0 : go9 1 [109, 111, 118, 122, 98, 46, 114, 109] A B C (.ofNat 0) = ef38 A B C := by kernel_rfl
theorem m1_add_rm_0 : go9 1 [97, 100, 100, 46, 114, 109] A B C (.ofNat 0) = ef38 A B C := by kernel_rfl
theorem m1_xor_rm_0 : go9 1 [120, 111, 114, 46, 114, 109] A B C (.ofNat 0) = ef38 A B C := by kernel_rfl
theorem m1_mov_rm_4 : go9 1 [109, 111, 118, 46, 114, 109] A B C (.ofNat 4) = ef39 A B C := by kernel_rfl
theorem m1_movsl_rm_4 : go9 1 [109, 111, 118, 115, 108, 46, 114, 109] A B C (.ofNat 4) = ef39 A B C := by kernel_rfl
theorem m1_movzb_rm_4 : go9 1 [109, 111, 118, 122, 98, 46, 114, 109] A B C (.ofNat 4) = ef39 A B C := by kernel_rfl
theorem m1_lea_4 : go9 1 [108, 101, 97] A B C (.ofNat 4) = ef39 A B C := by kernel_rfl
theorem m1_mov_mr_4 : go9 1 [109, 111, 118, 46, 109, 114] A B C (.ofNat 4) = ef39 A B C := by kernel_rfl
theorem m1_movb_mr_4 : go9 1 [109, 111, 118, 98, 46, 109, 114] A B C (.ofNat 4) = ef39 A B C := by kernel_rfl
theorem m1_add_rm_4 : go9 1 [97, 100, 100, 46, 114, 109] A B C (.ofNat 4) = ef39 A B C := by kernel_rfl
theorem m1_or_rm_4 : go9 1 [111, 114, 46, 114, 109] A B C (.ofNat 4) = ef39 A B C := by kernel_rfl
theorem m1_and_rm_4 : go9 1 [97, 110, 100, 46, 114, 109] A B C (.ofNat 4) = ef39 A B C := by kernel_rfl
theorem m1_sub_rm_4 : go9 1 [115, 117, 98, 46, 114, 109] A B C (.ofNat 4) = ef39 A B C := by kernel_rfl
theorem m1_xor_rm_4 : go9 1 [120, 111, 114, 46, 114, 109] A B C (.ofNat 4) = ef39 A B C := by kernel_rfl
theorem m1_cmp_rm_4 : go9 1 [99, 109, 112, 46, 114, 109] A B C (.ofNat 4) = ef39 A B C := by kernel_rfl
theorem m1_movl_rm_1 : go9 1 [109, 111, 118, 108, 46, 114, 109] A B C (.ofNat 1) = ef41 A B C := by kernel_rfl
theorem m1_movl_mr_1 : go9 1 [109, 111, 118, 108, 46, 109, 114] A B C (.ofNat 1) = ef41 A B C := by kernel_rfl
theorem c1_mov_rr : goc 1 [109, 111, 118, 46, 114, 114] A B C D = ef42 A B C D := by kernel_rfl
theorem c1_sub_rr : goc 1 [115, 117, 98, 46, 114, 114] A B C D = ef42 A B C D := by kernel_rfl
theorem c1_imul_rr : goc 1 [105, 109, 117, 108, 46, 114, 114] A B C D = ef42 A B C D := by kernel_rfl
theorem c1_add_ri : goc 1 [97, 100, 100, 46, 114, 105] A B C D = ef43 A B C D := by kernel_rfl
theorem c1_xor_ri : goc 1 [120, 111, 114, 46, 114, 105] A B C D = ef43 A B C D := by kernel_rfl
theorem c1_mul : goc 1 [109, 117, 108] A B C D = ef43 A B C D := by kernel_rfl
theorem c1_shr_ri : goc 1 [115, 104, 114, 46, 114, 105] A B C D = ef43 A B C D := by kernel_rfl
theorem c1_sar_rc : goc 1 [115, 97, 114, 46, 114, 99] A B C D = ef43 A B C D := by kernel_rfl
theorem c1_jmp_r : goc 1 [106, 109, 112, 46, 114] A B C D = ef43 A B C D := by kernel_rfl
theorem c1_movzb_rm : goc 1 [109, 111, 118, 122, 98, 46, 114, 109] A B C D = ef44 A B C D := by kernel_rfl
theorem c1_movb_mr : goc 1 [109, 111, 118, 98, 46, 109, 114] A B C D = ef44 A B C D := by kernel_rfl
theorem c1_sub_rm : goc 1 [115, 117, 98, 46, 114, 109] A B C D = ef44 A B C D := by kernel_rfl
theorem c1_call : goc 1 [99, 97, 108, 108] A B C D = ef45 A B C D := by kernel_rfl
theorem c1_syscall : goc 1 [115, 121, 115, 99, 97, 108, 108] A B C D = ef45 A B C D := by kernel_rfl
theorem c1_jcc : goc 1 [106, 99, 99] A B C D = ef47 A B C D := by kernel_rfl
theorem c2_movk : goc 2 [109, 111, 118, 107] A B C D = ef48 A B C D := by kernel_rfl
theorem c2_subs_i : goc 2 [115, 117, 98, 115, 46, 105] A B C D = ef49 A B C D := by kernel_rfl
theorem c2_subs : goc 2 [115, 117, 98, 115] A B C D = ef50 63 A B C D := by kernel_rfl
theorem c2_ands : goc 2 [97, 110, 100, 115] A B C D = ef50 63 A B C D := by kernel_rfl
theorem c2_csinc : goc 2 [99, 115, 105, 110, 99] A B C D = ef50 13 A B C D := by kernel_rfl
theorem c2_ands_i : goc 2 [97, 110, 100, 115, 46, 105] A B C D = ef51 3 A B C D := by kernel_rfl
theorem c2_strh : goc 2 [115, 116, 114, 104] A B C D = ef51 0 A B C D := by kernel_rfl
theorem c2_ldr : goc 2 [108, 100, 114] A B C D = ef51 0 A B C D := by kernel_rfl
theorem c2_lslv : goc 2 [108, 115, 108, 118] A B C D = ef52 A B C D := by kernel_rfl
theorem c2_stp : goc 2 [115, 116, 112] A B C D = ef52 A B C D := by kernel_rfl
theorem c2_adrp : goc 2 [97, 100, 114, 112] A B C D = ef54 A B C D := by kernel_rfl
theorem c2_bl : goc 2 [98, 108] A B C D = ef55 A B C D := by kernel_rfl
theorem c2_b_c : goc 2 [98, 46, 99] A B C D = ef56 A B C D := by kernel_rfl
theorem c3_add : goc 3 [97, 100, 100] A B C D = ef58 A B C D := by kernel_rfl
theorem c3_sltu : goc 3 [115, 108, 116, 117] A B C D = ef58 A B C D := by kernel_rfl
theorem c3_or : goc 3 [111, 114] A B C D = ef58 A B C D := by kernel_rfl
theorem c3_mulhsu : goc 3 [109, 117, 108, 104, 115, 117] A B C D = ef58 A B C D := by kernel_rfl
theorem c3_rem : goc 3 [114, 101, 109] A B C D = ef58 A B C D := by kernel_rfl
theorem c3_sllw : goc 3 [115, 108, 108, 119] A B C D = ef58 A B C D := by kernel_rfl
theorem c3_divw : goc 3 [100, 105, 118, 119] A B C D = ef58 A B C D := by kernel_rfl
theorem c3_addi : goc 3 [97, 100, 100, 105] A B C D = ef59 0 31 A B C D := by kernel_rfl
theorem c3_ori : goc 3 [111, 114, 105] A B C D = ef59 0 31 A B C D := by kernel_rfl
theorem c3_lh : goc 3 [108, 104] A B C D = ef59 0 31 A B C D := by kernel_rfl
theorem c3_lhu : goc 3 [108, 104, 117] A B C D = ef59 0 31 A B C D := by kernel_rfl
theorem c3_srli : goc 3 [115, 114, 108, 105] A B C D = ef59 0 31 A B C D := by kernel_rfl
theorem c3_sraiw : goc 3 [115, 114, 97, 105, 119] A B C D = ef59 0 31 A B C D := by kernel_rfl
theorem c3_sh : goc 3 [115, 104] A B C D = ef60 0 31 A B C D := by kernel_rfl
theorem c3_bne : goc 3 [98, 110, 101] A B C D = ef60 0 31 A B C D := by kernel_rfl
theorem c3_bgeu : goc 3 [98, 103, 101, 117] A B C D = ef60 0 31 A B C D := by kernel_rfl
theorem c3_auipc : goc 3 [97, 117, 105, 112, 99] A B C D = ef61 0 31 0 A B C D := by kernel_rfl
theorem c3_c_srai : goc 3 [99, 46, 115, 114, 97, 105] A B C D = ef61 8 15 3 A B C D := by kernel_rfl
theorem c3_c_nop : goc 3 [99, 46, 110, 111, 112] A B C D = ef62 0 A B C D := by kernel_rfl
theorem c3_c_addi : goc 3 [99, 46, 97, 100, 100, 105] A B C D = ef63 3 A B C D := by kernel_rfl
theorem c3_c_lwsp : goc 3 [99, 46, 108, 119, 115, 112] A B C D = ef63 0 A B C D := by kernel_rfl
theorem c3_c_xor : goc 3 [99, 46, 120, 111, 114] A B C D = ef65 A B C D := by kernel_rfl
theorem c3_c_addw : goc 3 [99, 46, 97, 100, 100, 119] A B C D = ef65 A B C D := by kernel_rfl
theorem c3_c_jalr : goc 3 [99, 46, 106, 97, 108, 114] A B C D = ef67 A B C D := by kernel_rfl
theorem c3_c_sdsp : goc 3 [99, 46, 115, 100, 115, 112] A B C D = ef69 A B C D := by kernel_rfl
theorem r1_lea_0 : gor [108, 101, 97] A B C (.ofNat 0) = ef70 A B C := by kernel_rfl
theorem r1_or_rm_0 : gor [111, 114, 46, 114, 109] A B C (.ofNat 0) = ef70 A B C := by kernel_rfl
theorem r1_cmp_rm_0 : gor [99, 109, 112, 46, 114, 109] A B C (.ofNat 0) = ef70 A B C := by kernel_rfl
theorem r1_mov_rm_8 : gor [109, 111, 118, 46, 114, 109] A B C (.ofNat 8) = ef71 A B C := by kernel_rfl
theorem r1_movsl_rm_8 : gor [109, 111, 118, 115, 108, 46, 114, 109] A B C (.ofNat 8) = ef71 A B C := by kernel_rfl
theorem r1_movzb_rm_8 : gor [109, 111, 118, 122, 98, 46, 114, 109] A B C (.ofNat 8) = ef71 A B C := by kernel_rfl
theorem r1_lea_8 : gor [108, 101, 97] A B C (.ofNat 8) = ef71 A B C := by kernel_rfl
theorem r1_mov_mr_8 : gor [109, 111, 118, 46, 109, 114] A B C (.ofNat 8) = ef71 A B C := by kernel_rfl
theorem r1_movb_mr_8 : gor [109, 111, 118, 98, 46, 109, 114] A B C (.ofNat 8) = ef71 A B C := by kernel_rfl
theorem r1_add_rm_8 : gor [97, 100, 100, 46, 114, 109] A B C (.ofNat 8) = ef71 A B C := by kernel_rfl
theorem r1_or_rm_8 : gor [111, 114, 46, 114, 109] A B C (.ofNat 8) = ef71 A B C := by kernel_rfl
theorem r1_and_rm_8 : gor [97, 110, 100, 46, 114, 109] A B C (.ofNat 8) = ef71 A B C := by kernel_rfl
theorem r1_sub_rm_8 : gor [115, 117, 98, 46, 114, 109] A B C (.ofNat 8) = ef71 A B C := by kernel_rfl
theorem r1_xor_rm_8 : gor [120, 111, 114, 46, 114, 109] A B C (.ofNat 8) = ef71 A B C := by kernel_rfl
theorem r1_cmp_rm_8 : gor [99, 109, 112, 46, 114, 109] A B C (.ofNat 8) = ef71 A B C := by kernel_rfl
theorem r1_movl_rm_2 : gor [109, 111, 118, 108, 46, 114, 109] A B C (.ofNat 2) = ef73 A B C := by kernel_rfl
theorem r1_movl_mr_2 : gor [109, 111, 118, 108, 46, 109, 114] A B C (.ofNat 2) = ef73 A B C := by kernel_rfl
theorem l1_movl_rm : go9e 1 [109, 111, 118, 108, 46, 114, 109] A B C D = efE0 A B C D := by kernel_rfl
theorem l1_mov_mr : go9e 1 [109, 111, 118, 46, 109, 114] A B C D = efE0 A B C D := by kernel_rfl
theorem l1_or_rm : go9e 1 [111, 114, 46, 114, 109] A B C D = efE0 A B C D := by kernel_rfl
theorem l1_cmp_rm : go9e 1 [99, 109, 112, 46, 114, 109] A B C D = efE0 A B C D := by kernel_rfl
theorem w1_movzb_rm : gore [109, 111, 118, 122, 98, 46, 114, 109] A B C D = efR0 A B C D := by kernel_rfl
theorem w1_movb_mr : gore [109, 111, 118, 98, 46, 109, 114] A B C D = efR0 A B C D := by kernel_rfl
theorem w1_sub_rm : gore [115, 117, 98, 46, 114, 109] A B C D = efR0 A B C D := by kernel_rfl
end
end Go.Proofs.YtbfdooplkdofeaaGreatDoor
