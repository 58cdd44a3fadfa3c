/- Operands by names. -/
import Derived.Test.YtbfdooplkdofeaaGreatDoorAsE
import Derived.KernelRfl
namespace Go.Proofs.YtbfdooplkdofeaaGreatDoor
open Go Go.Vai
noncomputable section
set_option maxRecDepth 100000
def goq (t : Nat) (nm : List UInt8) : Option AV := Zbo E3 100000 (.call 14 [.int .i64 (.ofNat t), .str nm] (Zap 12 gl)) [] jK
theorem oq_2_movn : goq 2 [109, 111, 118, 110] = some (.tup [.str [65, 105, 115], .bool true]) := by kernel_rfl
theorem oq_2_movz : goq 2 [109, 111, 118, 122] = some (.tup [.str [65, 105, 115], .bool true]) := by kernel_rfl
theorem oq_2_movk : goq 2 [109, 111, 118, 107] = some (.tup [.str [65, 105, 115], .bool true]) := by kernel_rfl
theorem oq_2_add_i : goq 2 [97, 100, 100, 46, 105] = some (.tup [.str [65, 66, 105, 115], .bool true]) := by kernel_rfl
theorem oq_2_adds_i : goq 2 [97, 100, 100, 115, 46, 105] = some (.tup [.str [65, 66, 105, 115], .bool true]) := by kernel_rfl
theorem oq_2_sub_i : goq 2 [115, 117, 98, 46, 105] = some (.tup [.str [65, 66, 105, 115], .bool true]) := by kernel_rfl
theorem oq_2_subs_i : goq 2 [115, 117, 98, 115, 46, 105] = some (.tup [.str [65, 66, 105, 115], .bool true]) := by kernel_rfl
theorem oq_2_add : goq 2 [97, 100, 100] = some (.tup [.str [65, 66, 67, 115], .bool true]) := by kernel_rfl
theorem oq_2_adds : goq 2 [97, 100, 100, 115] = some (.tup [.str [65, 66, 67, 115], .bool true]) := by kernel_rfl
theorem oq_2_sub : goq 2 [115, 117, 98] = some (.tup [.str [65, 66, 67, 115], .bool true]) := by kernel_rfl
theorem oq_2_subs : goq 2 [115, 117, 98, 115] = some (.tup [.str [65, 66, 67, 115], .bool true]) := by kernel_rfl
theorem oq_2_and : goq 2 [97, 110, 100] = some (.tup [.str [65, 66, 67, 115], .bool true]) := by kernel_rfl
theorem oq_2_orr : goq 2 [111, 114, 114] = some (.tup [.str [65, 66, 67, 115], .bool true]) := by kernel_rfl
theorem oq_2_eor : goq 2 [101, 111, 114] = some (.tup [.str [65, 66, 67, 115], .bool true]) := by kernel_rfl
theorem oq_2_ands : goq 2 [97, 110, 100, 115] = some (.tup [.str [65, 66, 67, 115], .bool true]) := by kernel_rfl
theorem oq_2_and_i : goq 2 [97, 110, 100, 46, 105] = some (.tup [.str [65, 66, 105], .bool true]) := by kernel_rfl
theorem oq_2_orr_i : goq 2 [111, 114, 114, 46, 105] = some (.tup [.str [65, 66, 105], .bool true]) := by kernel_rfl
theorem oq_2_eor_i : goq 2 [101, 111, 114, 46, 105] = some (.tup [.str [65, 66, 105], .bool true]) := by kernel_rfl
theorem oq_2_ands_i : goq 2 [97, 110, 100, 115, 46, 105] = some (.tup [.str [65, 66, 105], .bool true]) := by kernel_rfl
theorem oq_2_madd : goq 2 [109, 97, 100, 100] = some (.tup [.str [65, 66, 67, 68], .bool true]) := by kernel_rfl
theorem oq_2_msub : goq 2 [109, 115, 117, 98] = some (.tup [.str [65, 66, 67, 68], .bool true]) := by kernel_rfl
theorem oq_2_udiv : goq 2 [117, 100, 105, 118] = some (.tup [.str [65, 66, 67], .bool true]) := by kernel_rfl
theorem oq_2_sdiv : goq 2 [115, 100, 105, 118] = some (.tup [.str [65, 66, 67], .bool true]) := by kernel_rfl
theorem oq_2_lslv : goq 2 [108, 115, 108, 118] = some (.tup [.str [65, 66, 67], .bool true]) := by kernel_rfl
theorem oq_2_lsrv : goq 2 [108, 115, 114, 118] = some (.tup [.str [65, 66, 67], .bool true]) := by kernel_rfl
theorem oq_2_asrv : goq 2 [97, 115, 114, 118] = some (.tup [.str [65, 66, 67], .bool true]) := by kernel_rfl
theorem oq_2_sbfm : goq 2 [115, 98, 102, 109] = some (.tup [.str [65, 66, 116, 115], .bool true]) := by kernel_rfl
theorem oq_2_ubfm : goq 2 [117, 98, 102, 109] = some (.tup [.str [65, 66, 116, 115], .bool true]) := by kernel_rfl
theorem oq_2_csel : goq 2 [99, 115, 101, 108] = some (.tup [.str [65, 66, 67, 99], .bool true]) := by kernel_rfl
theorem oq_2_csinc : goq 2 [99, 115, 105, 110, 99] = some (.tup [.str [65, 66, 67, 99], .bool true]) := by kernel_rfl
theorem oq_2_adr : goq 2 [97, 100, 114] = some (.tup [.str [65, 106], .bool true]) := by kernel_rfl
theorem oq_2_adrp : goq 2 [97, 100, 114, 112] = some (.tup [.str [65, 106], .bool true]) := by kernel_rfl
theorem oq_2_ldrb : goq 2 [108, 100, 114, 98] = some (.tup [.str [65, 66, 105], .bool true]) := by kernel_rfl
theorem oq_2_strb : goq 2 [115, 116, 114, 98] = some (.tup [.str [65, 66, 105], .bool true]) := by kernel_rfl
theorem oq_2_ldrh : goq 2 [108, 100, 114, 104] = some (.tup [.str [65, 66, 105], .bool true]) := by kernel_rfl
theorem oq_2_strh : goq 2 [115, 116, 114, 104] = some (.tup [.str [65, 66, 105], .bool true]) := by kernel_rfl
theorem oq_2_ldr_w : goq 2 [108, 100, 114, 46, 119] = some (.tup [.str [65, 66, 105], .bool true]) := by kernel_rfl
theorem oq_2_str_w : goq 2 [115, 116, 114, 46, 119] = some (.tup [.str [65, 66, 105], .bool true]) := by kernel_rfl
theorem oq_2_ldrsw : goq 2 [108, 100, 114, 115, 119] = some (.tup [.str [65, 66, 105], .bool true]) := by kernel_rfl
theorem oq_2_ldr : goq 2 [108, 100, 114] = some (.tup [.str [65, 66, 105], .bool true]) := by kernel_rfl
theorem oq_2_str : goq 2 [115, 116, 114] = some (.tup [.str [65, 66, 105], .bool true]) := by kernel_rfl
theorem oq_2_ldp : goq 2 [108, 100, 112] = some (.tup [.str [65, 67, 66, 105], .bool true]) := by kernel_rfl
theorem oq_2_stp : goq 2 [115, 116, 112] = some (.tup [.str [65, 67, 66, 105], .bool true]) := by kernel_rfl
theorem oq_2_b : goq 2 [98] = some (.tup [.str [106], .bool true]) := by kernel_rfl
theorem oq_2_bl : goq 2 [98, 108] = some (.tup [.str [106], .bool true]) := by kernel_rfl
theorem oq_2_b_c : goq 2 [98, 46, 99] = some (.tup [.str [99, 106], .bool true]) := by kernel_rfl
theorem oq_2_cbz : goq 2 [99, 98, 122] = some (.tup [.str [65, 106], .bool true]) := by kernel_rfl
theorem oq_2_cbnz : goq 2 [99, 98, 110, 122] = some (.tup [.str [65, 106], .bool true]) := by kernel_rfl
theorem oq_2_br : goq 2 [98, 114] = some (.tup [.str [66], .bool true]) := by kernel_rfl
theorem oq_2_blr : goq 2 [98, 108, 114] = some (.tup [.str [66], .bool true]) := by kernel_rfl
theorem oq_2_ret : goq 2 [114, 101, 116] = some (.tup [.str [66], .bool true]) := by kernel_rfl
theorem oq_2_svc : goq 2 [115, 118, 99] = some (.tup [.str [105], .bool true]) := by kernel_rfl
theorem oq_2_brk : goq 2 [98, 114, 107] = some (.tup [.str [105], .bool true]) := by kernel_rfl
theorem oq_2_nop : goq 2 [110, 111, 112] = some (.tup [.str [], .bool true]) := by kernel_rfl
theorem oq_3_add : goq 3 [97, 100, 100] = some (.tup [.str [65, 66, 67], .bool true]) := by kernel_rfl
theorem oq_3_sub : goq 3 [115, 117, 98] = some (.tup [.str [65, 66, 67], .bool true]) := by kernel_rfl
theorem oq_3_sll : goq 3 [115, 108, 108] = some (.tup [.str [65, 66, 67], .bool true]) := by kernel_rfl
theorem oq_3_slt : goq 3 [115, 108, 116] = some (.tup [.str [65, 66, 67], .bool true]) := by kernel_rfl
theorem oq_3_sltu : goq 3 [115, 108, 116, 117] = some (.tup [.str [65, 66, 67], .bool true]) := by kernel_rfl
theorem oq_3_xor : goq 3 [120, 111, 114] = some (.tup [.str [65, 66, 67], .bool true]) := by kernel_rfl
theorem oq_3_srl : goq 3 [115, 114, 108] = some (.tup [.str [65, 66, 67], .bool true]) := by kernel_rfl
theorem oq_3_sra : goq 3 [115, 114, 97] = some (.tup [.str [65, 66, 67], .bool true]) := by kernel_rfl
theorem oq_3_or : goq 3 [111, 114] = some (.tup [.str [65, 66, 67], .bool true]) := by kernel_rfl
theorem oq_3_and : goq 3 [97, 110, 100] = some (.tup [.str [65, 66, 67], .bool true]) := by kernel_rfl
theorem oq_3_mul : goq 3 [109, 117, 108] = some (.tup [.str [65, 66, 67], .bool true]) := by kernel_rfl
theorem oq_3_mulh : goq 3 [109, 117, 108, 104] = some (.tup [.str [65, 66, 67], .bool true]) := by kernel_rfl
theorem oq_3_mulhsu : goq 3 [109, 117, 108, 104, 115, 117] = some (.tup [.str [65, 66, 67], .bool true]) := by kernel_rfl
theorem oq_3_mulhu : goq 3 [109, 117, 108, 104, 117] = some (.tup [.str [65, 66, 67], .bool true]) := by kernel_rfl
theorem oq_3_div : goq 3 [100, 105, 118] = some (.tup [.str [65, 66, 67], .bool true]) := by kernel_rfl
theorem oq_3_divu : goq 3 [100, 105, 118, 117] = some (.tup [.str [65, 66, 67], .bool true]) := by kernel_rfl
theorem oq_3_rem : goq 3 [114, 101, 109] = some (.tup [.str [65, 66, 67], .bool true]) := by kernel_rfl
theorem oq_3_remu : goq 3 [114, 101, 109, 117] = some (.tup [.str [65, 66, 67], .bool true]) := by kernel_rfl
theorem oq_3_addw : goq 3 [97, 100, 100, 119] = some (.tup [.str [65, 66, 67], .bool true]) := by kernel_rfl
theorem oq_3_subw : goq 3 [115, 117, 98, 119] = some (.tup [.str [65, 66, 67], .bool true]) := by kernel_rfl
theorem oq_3_sllw : goq 3 [115, 108, 108, 119] = some (.tup [.str [65, 66, 67], .bool true]) := by kernel_rfl
theorem oq_3_srlw : goq 3 [115, 114, 108, 119] = some (.tup [.str [65, 66, 67], .bool true]) := by kernel_rfl
theorem oq_3_sraw : goq 3 [115, 114, 97, 119] = some (.tup [.str [65, 66, 67], .bool true]) := by kernel_rfl
theorem oq_3_mulw : goq 3 [109, 117, 108, 119] = some (.tup [.str [65, 66, 67], .bool true]) := by kernel_rfl
theorem oq_3_divw : goq 3 [100, 105, 118, 119] = some (.tup [.str [65, 66, 67], .bool true]) := by kernel_rfl
theorem oq_3_divuw : goq 3 [100, 105, 118, 117, 119] = some (.tup [.str [65, 66, 67], .bool true]) := by kernel_rfl
theorem oq_3_remw : goq 3 [114, 101, 109, 119] = some (.tup [.str [65, 66, 67], .bool true]) := by kernel_rfl
theorem oq_3_remuw : goq 3 [114, 101, 109, 117, 119] = some (.tup [.str [65, 66, 67], .bool true]) := by kernel_rfl
theorem oq_3_addi : goq 3 [97, 100, 100, 105] = some (.tup [.str [65, 66, 105], .bool true]) := by kernel_rfl
theorem oq_3_slti : goq 3 [115, 108, 116, 105] = some (.tup [.str [65, 66, 105], .bool true]) := by kernel_rfl
theorem oq_3_sltiu : goq 3 [115, 108, 116, 105, 117] = some (.tup [.str [65, 66, 105], .bool true]) := by kernel_rfl
theorem oq_3_xori : goq 3 [120, 111, 114, 105] = some (.tup [.str [65, 66, 105], .bool true]) := by kernel_rfl
theorem oq_3_ori : goq 3 [111, 114, 105] = some (.tup [.str [65, 66, 105], .bool true]) := by kernel_rfl
theorem oq_3_andi : goq 3 [97, 110, 100, 105] = some (.tup [.str [65, 66, 105], .bool true]) := by kernel_rfl
theorem oq_3_addiw : goq 3 [97, 100, 100, 105, 119] = some (.tup [.str [65, 66, 105], .bool true]) := by kernel_rfl
theorem oq_3_lb : goq 3 [108, 98] = some (.tup [.str [65, 66, 105], .bool true]) := by kernel_rfl
theorem oq_3_lh : goq 3 [108, 104] = some (.tup [.str [65, 66, 105], .bool true]) := by kernel_rfl
theorem oq_3_lw : goq 3 [108, 119] = some (.tup [.str [65, 66, 105], .bool true]) := by kernel_rfl
theorem oq_3_ld : goq 3 [108, 100] = some (.tup [.str [65, 66, 105], .bool true]) := by kernel_rfl
theorem oq_3_lbu : goq 3 [108, 98, 117] = some (.tup [.str [65, 66, 105], .bool true]) := by kernel_rfl
theorem oq_3_lhu : goq 3 [108, 104, 117] = some (.tup [.str [65, 66, 105], .bool true]) := by kernel_rfl
theorem oq_3_lwu : goq 3 [108, 119, 117] = some (.tup [.str [65, 66, 105], .bool true]) := by kernel_rfl
theorem oq_3_jalr : goq 3 [106, 97, 108, 114] = some (.tup [.str [65, 66, 105], .bool true]) := by kernel_rfl
theorem oq_3_slli : goq 3 [115, 108, 108, 105] = some (.tup [.str [65, 66, 105], .bool true]) := by kernel_rfl
theorem oq_3_srli : goq 3 [115, 114, 108, 105] = some (.tup [.str [65, 66, 105], .bool true]) := by kernel_rfl
theorem oq_3_srai : goq 3 [115, 114, 97, 105] = some (.tup [.str [65, 66, 105], .bool true]) := by kernel_rfl
theorem oq_3_slliw : goq 3 [115, 108, 108, 105, 119] = some (.tup [.str [65, 66, 105], .bool true]) := by kernel_rfl
theorem oq_3_srliw : goq 3 [115, 114, 108, 105, 119] = some (.tup [.str [65, 66, 105], .bool true]) := by kernel_rfl
theorem oq_3_sraiw : goq 3 [115, 114, 97, 105, 119] = some (.tup [.str [65, 66, 105], .bool true]) := by kernel_rfl
theorem oq_3_sb : goq 3 [115, 98] = some (.tup [.str [67, 66, 105], .bool true]) := by kernel_rfl
theorem oq_3_sh : goq 3 [115, 104] = some (.tup [.str [67, 66, 105], .bool true]) := by kernel_rfl
theorem oq_3_sw : goq 3 [115, 119] = some (.tup [.str [67, 66, 105], .bool true]) := by kernel_rfl
theorem oq_3_sd : goq 3 [115, 100] = some (.tup [.str [67, 66, 105], .bool true]) := by kernel_rfl
theorem oq_3_beq : goq 3 [98, 101, 113] = some (.tup [.str [66, 67, 106], .bool true]) := by kernel_rfl
theorem oq_3_bne : goq 3 [98, 110, 101] = some (.tup [.str [66, 67, 106], .bool true]) := by kernel_rfl
theorem oq_3_blt : goq 3 [98, 108, 116] = some (.tup [.str [66, 67, 106], .bool true]) := by kernel_rfl
theorem oq_3_bge : goq 3 [98, 103, 101] = some (.tup [.str [66, 67, 106], .bool true]) := by kernel_rfl
theorem oq_3_bltu : goq 3 [98, 108, 116, 117] = some (.tup [.str [66, 67, 106], .bool true]) := by kernel_rfl
theorem oq_3_bgeu : goq 3 [98, 103, 101, 117] = some (.tup [.str [66, 67, 106], .bool true]) := by kernel_rfl
theorem oq_3_lui : goq 3 [108, 117, 105] = some (.tup [.str [65, 105], .bool true]) := by kernel_rfl
theorem oq_3_auipc : goq 3 [97, 117, 105, 112, 99] = some (.tup [.str [65, 105], .bool true]) := by kernel_rfl
theorem oq_3_jal : goq 3 [106, 97, 108] = some (.tup [.str [65, 106], .bool true]) := by kernel_rfl
theorem oq_3_ecall : goq 3 [101, 99, 97, 108, 108] = some (.tup [.str [], .bool true]) := by kernel_rfl
theorem oq_3_ebreak : goq 3 [101, 98, 114, 101, 97, 107] = some (.tup [.str [], .bool true]) := by kernel_rfl
theorem oq_3_c_addi4spn : goq 3 [99, 46, 97, 100, 100, 105, 52, 115, 112, 110] = some (.tup [.str [65, 105], .bool true]) := by kernel_rfl
theorem oq_3_c_lw : goq 3 [99, 46, 108, 119] = some (.tup [.str [65, 66, 105], .bool true]) := by kernel_rfl
theorem oq_3_c_ld : goq 3 [99, 46, 108, 100] = some (.tup [.str [65, 66, 105], .bool true]) := by kernel_rfl
theorem oq_3_c_sw : goq 3 [99, 46, 115, 119] = some (.tup [.str [67, 66, 105], .bool true]) := by kernel_rfl
theorem oq_3_c_sd : goq 3 [99, 46, 115, 100] = some (.tup [.str [67, 66, 105], .bool true]) := by kernel_rfl
theorem oq_3_c_nop : goq 3 [99, 46, 110, 111, 112] = some (.tup [.str [], .bool true]) := by kernel_rfl
theorem oq_3_c_addi : goq 3 [99, 46, 97, 100, 100, 105] = some (.tup [.str [65, 105], .bool true]) := by kernel_rfl
theorem oq_3_c_addiw : goq 3 [99, 46, 97, 100, 100, 105, 119] = some (.tup [.str [65, 105], .bool true]) := by kernel_rfl
theorem oq_3_c_li : goq 3 [99, 46, 108, 105] = some (.tup [.str [65, 105], .bool true]) := by kernel_rfl
theorem oq_3_c_addi16sp : goq 3 [99, 46, 97, 100, 100, 105, 49, 54, 115, 112] = some (.tup [.str [105], .bool true]) := by kernel_rfl
theorem oq_3_c_lui : goq 3 [99, 46, 108, 117, 105] = some (.tup [.str [65, 105], .bool true]) := by kernel_rfl
theorem oq_3_c_srli : goq 3 [99, 46, 115, 114, 108, 105] = some (.tup [.str [65, 105], .bool true]) := by kernel_rfl
theorem oq_3_c_srai : goq 3 [99, 46, 115, 114, 97, 105] = some (.tup [.str [65, 105], .bool true]) := by kernel_rfl
theorem oq_3_c_andi : goq 3 [99, 46, 97, 110, 100, 105] = some (.tup [.str [65, 105], .bool true]) := by kernel_rfl
theorem oq_3_c_sub : goq 3 [99, 46, 115, 117, 98] = some (.tup [.str [65, 67], .bool true]) := by kernel_rfl
theorem oq_3_c_xor : goq 3 [99, 46, 120, 111, 114] = some (.tup [.str [65, 67], .bool true]) := by kernel_rfl
theorem oq_3_c_or : goq 3 [99, 46, 111, 114] = some (.tup [.str [65, 67], .bool true]) := by kernel_rfl
theorem oq_3_c_and : goq 3 [99, 46, 97, 110, 100] = some (.tup [.str [65, 67], .bool true]) := by kernel_rfl
theorem oq_3_c_subw : goq 3 [99, 46, 115, 117, 98, 119] = some (.tup [.str [65, 67], .bool true]) := by kernel_rfl
theorem oq_3_c_addw : goq 3 [99, 46, 97, 100, 100, 119] = some (.tup [.str [65, 67], .bool true]) := by kernel_rfl
theorem oq_3_c_j : goq 3 [99, 46, 106] = some (.tup [.str [106], .bool true]) := by kernel_rfl
theorem oq_3_c_beqz : goq 3 [99, 46, 98, 101, 113, 122] = some (.tup [.str [66, 106], .bool true]) := by kernel_rfl
theorem oq_3_c_bnez : goq 3 [99, 46, 98, 110, 101, 122] = some (.tup [.str [66, 106], .bool true]) := by kernel_rfl
theorem oq_3_c_slli : goq 3 [99, 46, 115, 108, 108, 105] = some (.tup [.str [65, 105], .bool true]) := by kernel_rfl
theorem oq_3_c_lwsp : goq 3 [99, 46, 108, 119, 115, 112] = some (.tup [.str [65, 105], .bool true]) := by kernel_rfl
theorem oq_3_c_ldsp : goq 3 [99, 46, 108, 100, 115, 112] = some (.tup [.str [65, 105], .bool true]) := by kernel_rfl
theorem oq_3_c_jr : goq 3 [99, 46, 106, 114] = some (.tup [.str [66], .bool true]) := by kernel_rfl
theorem oq_3_c_jalr : goq 3 [99, 46, 106, 97, 108, 114] = some (.tup [.str [66], .bool true]) := by kernel_rfl
theorem oq_3_c_mv : goq 3 [99, 46, 109, 118] = some (.tup [.str [65, 67], .bool true]) := by kernel_rfl
theorem oq_3_c_add : goq 3 [99, 46, 97, 100, 100] = some (.tup [.str [65, 67], .bool true]) := by kernel_rfl
theorem oq_3_c_ebreak : goq 3 [99, 46, 101, 98, 114, 101, 97, 107] = some (.tup [.str [], .bool true]) := by kernel_rfl
theorem oq_3_c_swsp : goq 3 [99, 46, 115, 119, 115, 112] = some (.tup [.str [67, 105], .bool true]) := by kernel_rfl
theorem oq_3_c_sdsp : goq 3 [99, 46, 115, 100, 115, 112] = some (.tup [.str [67, 105], .bool true]) := by kernel_rfl
def opT2 : List (List UInt8 × List UInt8) :=
  ([109, 111, 118, 110], [65, 105, 115]) ::
  ([109, 111, 118, 122], [65, 105, 115]) ::
  ([109, 111, 118, 107], [65, 105, 115]) ::
  ([97, 100, 100, 46, 105], [65, 66, 105, 115]) ::
  ([97, 100, 100, 115, 46, 105], [65, 66, 105, 115]) ::
  ([115, 117, 98, 46, 105], [65, 66, 105, 115]) ::
  ([115, 117, 98, 115, 46, 105], [65, 66, 105, 115]) ::
  ([97, 100, 100], [65, 66, 67, 115]) ::
  ([97, 100, 100, 115], [65, 66, 67, 115]) ::
  ([115, 117, 98], [65, 66, 67, 115]) ::
  ([115, 117, 98, 115], [65, 66, 67, 115]) ::
  ([97, 110, 100], [65, 66, 67, 115]) ::
  ([111, 114, 114], [65, 66, 67, 115]) ::
  ([101, 111, 114], [65, 66, 67, 115]) ::
  ([97, 110, 100, 115], [65, 66, 67, 115]) ::
  ([97, 110, 100, 46, 105], [65, 66, 105]) ::
  ([111, 114, 114, 46, 105], [65, 66, 105]) ::
  ([101, 111, 114, 46, 105], [65, 66, 105]) ::
  ([97, 110, 100, 115, 46, 105], [65, 66, 105]) ::
  ([109, 97, 100, 100], [65, 66, 67, 68]) ::
  ([109, 115, 117, 98], [65, 66, 67, 68]) ::
  ([117, 100, 105, 118], [65, 66, 67]) ::
  ([115, 100, 105, 118], [65, 66, 67]) ::
  ([108, 115, 108, 118], [65, 66, 67]) ::
  ([108, 115, 114, 118], [65, 66, 67]) ::
  ([97, 115, 114, 118], [65, 66, 67]) ::
  ([115, 98, 102, 109], [65, 66, 116, 115]) ::
  ([117, 98, 102, 109], [65, 66, 116, 115]) ::
  ([99, 115, 101, 108], [65, 66, 67, 99]) ::
  ([99, 115, 105, 110, 99], [65, 66, 67, 99]) ::
  ([97, 100, 114], [65, 106]) ::
  ([97, 100, 114, 112], [65, 106]) ::
  ([108, 100, 114, 98], [65, 66, 105]) ::
  ([115, 116, 114, 98], [65, 66, 105]) ::
  ([108, 100, 114, 104], [65, 66, 105]) ::
  ([115, 116, 114, 104], [65, 66, 105]) ::
  ([108, 100, 114, 46, 119], [65, 66, 105]) ::
  ([115, 116, 114, 46, 119], [65, 66, 105]) ::
  ([108, 100, 114, 115, 119], [65, 66, 105]) ::
  ([108, 100, 114], [65, 66, 105]) ::
  ([115, 116, 114], [65, 66, 105]) ::
  ([108, 100, 112], [65, 67, 66, 105]) ::
  ([115, 116, 112], [65, 67, 66, 105]) ::
  ([98], [106]) ::
  ([98, 108], [106]) ::
  ([98, 46, 99], [99, 106]) ::
  ([99, 98, 122], [65, 106]) ::
  ([99, 98, 110, 122], [65, 106]) ::
  ([98, 114], [66]) ::
  ([98, 108, 114], [66]) ::
  ([114, 101, 116], [66]) ::
  ([115, 118, 99], [105]) ::
  ([98, 114, 107], [105]) ::
  ([110, 111, 112], []) :: []
theorem opT2_ok : ∀ x ∈ opT2, goq 2 x.1 = some (.tup [.str x.2, .bool true]) := by
  intro x hx
  simp only [opT2, List.mem_cons, List.not_mem_nil, or_false] at hx
  rcases hx with rfl | rfl | rfl | rfl | rfl | rfl | rfl | rfl | rfl | rfl | rfl | rfl | rfl | rfl | rfl | rfl | rfl | rfl | rfl | rfl | rfl | rfl | rfl | rfl | rfl | rfl | rfl | rfl | rfl | rfl | rfl | rfl | rfl | rfl | rfl | rfl | rfl | rfl | rfl | rfl | rfl | rfl | rfl | rfl | rfl | rfl | rfl | rfl | rfl | rfl | rfl | rfl | rfl | rfl
  · exact oq_2_movn
  · exact oq_2_movz
  · exact oq_2_movk
  · exact oq_2_add_i
  · exact oq_2_adds_i
  · exact oq_2_sub_i
  · exact oq_2_subs_i
  · exact oq_2_add
  · exact oq_2_adds
  · exact oq_2_sub
  · exact oq_2_subs
  · exact oq_2_and
  · exact oq_2_orr
  · exact oq_2_eor
  · exact oq_2_ands
  · exact oq_2_and_i
  · exact oq_2_orr_i
  · exact oq_2_eor_i
  · exact oq_2_ands_i
  · exact oq_2_madd
  · exact oq_2_msub
  · exact oq_2_udiv
  · exact oq_2_sdiv
  · exact oq_2_lslv
  · exact oq_2_lsrv
  · exact oq_2_asrv
  · exact oq_2_sbfm
  · exact oq_2_ubfm
  · exact oq_2_csel
  · exact oq_2_csinc
  · exact oq_2_adr
  · exact oq_2_adrp
  · exact oq_2_ldrb
  · exact oq_2_strb
  · exact oq_2_ldrh
  · exact oq_2_strh
  · exact oq_2_ldr_w
  · exact oq_2_str_w
  · exact oq_2_ldrsw
  · exact oq_2_ldr
  · exact oq_2_str
  · exact oq_2_ldp
  · exact oq_2_stp
  · exact oq_2_b
  · exact oq_2_bl
  · exact oq_2_b_c
  · exact oq_2_cbz
  · exact oq_2_cbnz
  · exact oq_2_br
  · exact oq_2_blr
  · exact oq_2_ret
  · exact oq_2_svc
  · exact oq_2_brk
  · exact oq_2_nop
def opT3 : List (List UInt8 × List UInt8) :=
  ([97, 100, 100], [65, 66, 67]) ::
  ([115, 117, 98], [65, 66, 67]) ::
  ([115, 108, 108], [65, 66, 67]) ::
  ([115, 108, 116], [65, 66, 67]) ::
  ([115, 108, 116, 117], [65, 66, 67]) ::
  ([120, 111, 114], [65, 66, 67]) ::
  ([115, 114, 108], [65, 66, 67]) ::
  ([115, 114, 97], [65, 66, 67]) ::
  ([111, 114], [65, 66, 67]) ::
  ([97, 110, 100], [65, 66, 67]) ::
  ([109, 117, 108], [65, 66, 67]) ::
  ([109, 117, 108, 104], [65, 66, 67]) ::
  ([109, 117, 108, 104, 115, 117], [65, 66, 67]) ::
  ([109, 117, 108, 104, 117], [65, 66, 67]) ::
  ([100, 105, 118], [65, 66, 67]) ::
  ([100, 105, 118, 117], [65, 66, 67]) ::
  ([114, 101, 109], [65, 66, 67]) ::
  ([114, 101, 109, 117], [65, 66, 67]) ::
  ([97, 100, 100, 119], [65, 66, 67]) ::
  ([115, 117, 98, 119], [65, 66, 67]) ::
  ([115, 108, 108, 119], [65, 66, 67]) ::
  ([115, 114, 108, 119], [65, 66, 67]) ::
  ([115, 114, 97, 119], [65, 66, 67]) ::
  ([109, 117, 108, 119], [65, 66, 67]) ::
  ([100, 105, 118, 119], [65, 66, 67]) ::
  ([100, 105, 118, 117, 119], [65, 66, 67]) ::
  ([114, 101, 109, 119], [65, 66, 67]) ::
  ([114, 101, 109, 117, 119], [65, 66, 67]) ::
  ([97, 100, 100, 105], [65, 66, 105]) ::
  ([115, 108, 116, 105], [65, 66, 105]) ::
  ([115, 108, 116, 105, 117], [65, 66, 105]) ::
  ([120, 111, 114, 105], [65, 66, 105]) ::
  ([111, 114, 105], [65, 66, 105]) ::
  ([97, 110, 100, 105], [65, 66, 105]) ::
  ([97, 100, 100, 105, 119], [65, 66, 105]) ::
  ([108, 98], [65, 66, 105]) ::
  ([108, 104], [65, 66, 105]) ::
  ([108, 119], [65, 66, 105]) ::
  ([108, 100], [65, 66, 105]) ::
  ([108, 98, 117], [65, 66, 105]) ::
  ([108, 104, 117], [65, 66, 105]) ::
  ([108, 119, 117], [65, 66, 105]) ::
  ([106, 97, 108, 114], [65, 66, 105]) ::
  ([115, 108, 108, 105], [65, 66, 105]) ::
  ([115, 114, 108, 105], [65, 66, 105]) ::
  ([115, 114, 97, 105], [65, 66, 105]) ::
  ([115, 108, 108, 105, 119], [65, 66, 105]) ::
  ([115, 114, 108, 105, 119], [65, 66, 105]) ::
  ([115, 114, 97, 105, 119], [65, 66, 105]) ::
  ([115, 98], [67, 66, 105]) ::
  ([115, 104], [67, 66, 105]) ::
  ([115, 119], [67, 66, 105]) ::
  ([115, 100], [67, 66, 105]) ::
  ([98, 101, 113], [66, 67, 106]) ::
  ([98, 110, 101], [66, 67, 106]) ::
  ([98, 108, 116], [66, 67, 106]) ::
  ([98, 103, 101], [66, 67, 106]) ::
  ([98, 108, 116, 117], [66, 67, 106]) ::
  ([98, 103, 101, 117], [66, 67, 106]) ::
  ([108, 117, 105], [65, 105]) ::
  ([97, 117, 105, 112, 99], [65, 105]) ::
  ([106, 97, 108], [65, 106]) ::
  ([101, 99, 97, 108, 108], []) ::
  ([101, 98, 114, 101, 97, 107], []) ::
  ([99, 46, 97, 100, 100, 105, 52, 115, 112, 110], [65, 105]) ::
  ([99, 46, 108, 119], [65, 66, 105]) ::
  ([99, 46, 108, 100], [65, 66, 105]) ::
  ([99, 46, 115, 119], [67, 66, 105]) ::
  ([99, 46, 115, 100], [67, 66, 105]) ::
  ([99, 46, 110, 111, 112], []) ::
  ([99, 46, 97, 100, 100, 105], [65, 105]) ::
  ([99, 46, 97, 100, 100, 105, 119], [65, 105]) ::
  ([99, 46, 108, 105], [65, 105]) ::
  ([99, 46, 97, 100, 100, 105, 49, 54, 115, 112], [105]) ::
  ([99, 46, 108, 117, 105], [65, 105]) ::
  ([99, 46, 115, 114, 108, 105], [65, 105]) ::
  ([99, 46, 115, 114, 97, 105], [65, 105]) ::
  ([99, 46, 97, 110, 100, 105], [65, 105]) ::
  ([99, 46, 115, 117, 98], [65, 67]) ::
  ([99, 46, 120, 111, 114], [65, 67]) ::
  ([99, 46, 111, 114], [65, 67]) ::
  ([99, 46, 97, 110, 100], [65, 67]) ::
  ([99, 46, 115, 117, 98, 119], [65, 67]) ::
  ([99, 46, 97, 100, 100, 119], [65, 67]) ::
  ([99, 46, 106], [106]) ::
  ([99, 46, 98, 101, 113, 122], [66, 106]) ::
  ([99, 46, 98, 110, 101, 122], [66, 106]) ::
  ([99, 46, 115, 108, 108, 105], [65, 105]) ::
  ([99, 46, 108, 119, 115, 112], [65, 105]) ::
  ([99, 46, 108, 100, 115, 112], [65, 105]) ::
  ([99, 46, 106, 114], [66]) ::
  ([99, 46, 106, 97, 108, 114], [66]) ::
  ([99, 46, 109, 118], [65, 67]) ::
  ([99, 46, 97, 100, 100], [65, 67]) ::
  ([99, 46, 101, 98, 114, 101, 97, 107], []) ::
  ([99, 46, 115, 119, 115, 112], [67, 105]) ::
  ([99, 46, 115, 100, 115, 112], [67, 105]) :: []
theorem opT3_ok : ∀ x ∈ opT3, goq 3 x.1 = some (.tup [.str x.2, .bool true]) := by
  intro x hx
  simp only [opT3, List.mem_cons, List.not_mem_nil, or_false] at hx
  rcases hx with rfl | rfl | rfl | rfl | rfl | rfl | rfl | rfl | rfl | rfl | rfl | rfl | rfl | rfl | rfl | rfl | rfl | rfl | rfl | rfl | rfl | rfl | rfl | rfl | rfl | rfl | rfl | rfl | rfl | rfl | rfl | rfl | rfl | rfl | rfl | rfl | rfl | rfl | rfl | rfl | rfl | rfl | rfl | rfl | rfl | rfl | rfl | rfl | rfl | rfl | rfl | rfl | rfl | rfl | rfl | rfl | rfl | rfl | rfl | rfl | rfl | rfl | rfl | rfl | rfl | rfl | rfl | rfl | rfl | rfl | rfl | rfl | rfl | rfl | rfl | rfl | rfl | rfl | rfl | rfl | rfl | rfl | rfl | rfl | rfl | rfl | rfl | rfl | rfl | rfl | rfl | rfl | rfl | rfl | rfl | rfl | rfl
  · exact oq_3_add
  · exact oq_3_sub
  · exact oq_3_sll
  · exact oq_3_slt
  · exact oq_3_sltu
  · exact oq_3_xor
  · exact oq_3_srl
  · exact oq_3_sra
  · exact oq_3_or
  · exact oq_3_and
  · exact oq_3_mul
  · exact oq_3_mulh
  · exact oq_3_mulhsu
  · exact oq_3_mulhu
  · exact oq_3_div
  · exact oq_3_divu
  · exact oq_3_rem
  · exact oq_3_remu
  · exact oq_3_addw
  · exact oq_3_subw
  · exact oq_3_sllw
  · exact oq_3_srlw
  · exact oq_3_sraw
  · exact oq_3_mulw
  · exact oq_3_divw
  · exact oq_3_divuw
  · exact oq_3_remw
  · exact oq_3_remuw
  · exact oq_3_addi
  · exact oq_3_slti
  · exact oq_3_sltiu
  · exact oq_3_xori
  · exact oq_3_ori
  · exact oq_3_andi
  · exact oq_3_addiw
  · exact oq_3_lb
  · exact oq_3_lh
  · exact oq_3_lw
  · exact oq_3_ld
  · exact oq_3_lbu
  · exact oq_3_lhu
  · exact oq_3_lwu
  · exact oq_3_jalr
  · exact oq_3_slli
  · exact oq_3_srli
  · exact oq_3_srai
  · exact oq_3_slliw
  · exact oq_3_srliw
  · exact oq_3_sraiw
  · exact oq_3_sb
  · exact oq_3_sh
  · exact oq_3_sw
  · exact oq_3_sd
  · exact oq_3_beq
  · exact oq_3_bne
  · exact oq_3_blt
  · exact oq_3_bge
  · exact oq_3_bltu
  · exact oq_3_bgeu
  · exact oq_3_lui
  · exact oq_3_auipc
  · exact oq_3_jal
  · exact oq_3_ecall
  · exact oq_3_ebreak
  · exact oq_3_c_addi4spn
  · exact oq_3_c_lw
  · exact oq_3_c_ld
  · exact oq_3_c_sw
  · exact oq_3_c_sd
  · exact oq_3_c_nop
  · exact oq_3_c_addi
  · exact oq_3_c_addiw
  · exact oq_3_c_li
  · exact oq_3_c_addi16sp
  · exact oq_3_c_lui
  · exact oq_3_c_srli
  · exact oq_3_c_srai
  · exact oq_3_c_andi
  · exact oq_3_c_sub
  · exact oq_3_c_xor
  · exact oq_3_c_or
  · exact oq_3_c_and
  · exact oq_3_c_subw
  · exact oq_3_c_addw
  · exact oq_3_c_j
  · exact oq_3_c_beqz
  · exact oq_3_c_bnez
  · exact oq_3_c_slli
  · exact oq_3_c_lwsp
  · exact oq_3_c_ldsp
  · exact oq_3_c_jr
  · exact oq_3_c_jalr
  · exact oq_3_c_mv
  · exact oq_3_c_add
  · exact oq_3_c_ebreak
  · exact oq_3_c_swsp
  · exact oq_3_c_sdsp
end
end Go.Proofs.YtbfdooplkdofeaaGreatDoor
