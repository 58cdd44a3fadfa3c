/- Texts by names, in one form. -/
import Derived.Test.YtlclahpapabkdaaGreatDoorTxV
import Derived.Test.YtlclahpapabkdaaGreatDoorTxU0
import Derived.Test.YtlclahpapabkdaaGreatDoorTxU1
import Derived.Test.YtlclahpapabkdaaGreatDoorTxU2
import Derived.KernelRfl
namespace Go.Proofs.YtlclahpapabkdaaGreatDoor
open Go Go.Vai
noncomputable section
set_option maxRecDepth 100000
theorem tt_1_mov_rr : RowT (.ofNat 1) [109, 111, 118, 46, 114, 114] 2 := fun ev nv hn A B C D I hr _ => ⟨[], (tx_1_mov_rr ev nv A B C D I).trans (tr2_ok hn hr rfl)⟩
theorem tt_1_mov_ri : RowT (.ofNat 1) [109, 111, 118, 46, 114, 105] 4 := fun ev nv hn A B C D I hr _ => ⟨[], (tx_1_mov_ri ev nv A B C D I).trans (tr4_ok hn hr rfl)⟩
theorem tt_1_mov_rs : RowT (.ofNat 1) [109, 111, 118, 46, 114, 115] 4 := fun ev nv hn A B C D I hr _ => ⟨[], (tx_1_mov_rs ev nv A B C D I).trans (tr4_ok hn hr rfl)⟩
theorem tt_1_mov_rm : RowT (.ofNat 1) [109, 111, 118, 46, 114, 109] 5 := fun ev nv hn A B C D I hr _ => ⟨[], (tx_1_mov_rm ev nv A B C D I).trans (txE_congr (am_ok (nm := [109, 111, 118, 46, 114, 109]) hn hr (by decide) (by rfl)) rfl)⟩
theorem tt_1_movl_rm : RowT (.ofNat 1) [109, 111, 118, 108, 46, 114, 109] 5 := fun ev nv hn A B C D I hr _ => ⟨[], (tx_1_movl_rm ev nv A B C D I).trans (txE_congr (am_ok (nm := [109, 111, 118, 108, 46, 114, 109]) hn hr (by decide) (by rfl)) rfl)⟩
theorem tt_1_movsl_rm : RowT (.ofNat 1) [109, 111, 118, 115, 108, 46, 114, 109] 5 := fun ev nv hn A B C D I hr _ => ⟨[], (tx_1_movsl_rm ev nv A B C D I).trans (txE_congr (am_ok (nm := [109, 111, 118, 115, 108, 46, 114, 109]) hn hr (by decide) (by rfl)) rfl)⟩
theorem tt_1_movzb_rm : RowT (.ofNat 1) [109, 111, 118, 122, 98, 46, 114, 109] 5 := fun ev nv hn A B C D I hr _ => ⟨[], (tx_1_movzb_rm ev nv A B C D I).trans (txE_congr (am_ok (nm := [109, 111, 118, 122, 98, 46, 114, 109]) hn hr (by decide) (by rfl)) rfl)⟩
theorem tt_1_lea : RowT (.ofNat 1) [108, 101, 97] 5 := fun ev nv hn A B C D I hr _ => ⟨[], (tx_1_lea ev nv A B C D I).trans (txE_congr (am_ok (nm := [108, 101, 97]) hn hr (by decide) (by rfl)) rfl)⟩
theorem tt_1_mov_mr : RowT (.ofNat 1) [109, 111, 118, 46, 109, 114] 5 := fun ev nv hn A B C D I hr _ => ⟨[], (tx_1_mov_mr ev nv A B C D I).trans (txE_congr (am_ok (nm := [109, 111, 118, 46, 109, 114]) hn hr (by decide) (by rfl)) rfl)⟩
theorem tt_1_movl_mr : RowT (.ofNat 1) [109, 111, 118, 108, 46, 109, 114] 5 := fun ev nv hn A B C D I hr _ => ⟨[], (tx_1_movl_mr ev nv A B C D I).trans (txE_congr (am_ok (nm := [109, 111, 118, 108, 46, 109, 114]) hn hr (by decide) (by rfl)) rfl)⟩
theorem tt_1_movb_mr : RowT (.ofNat 1) [109, 111, 118, 98, 46, 109, 114] 5 := fun ev nv hn A B C D I hr _ => ⟨[], (tx_1_movb_mr ev nv A B C D I).trans (txE_congr (am_ok (nm := [109, 111, 118, 98, 46, 109, 114]) hn hr (by decide) (by rfl)) rfl)⟩
theorem tt_1_mov_fs : RowT (.ofNat 1) [109, 111, 118, 46, 102, 115] 4 := fun ev nv hn A B C D I hr _ => ⟨[], (tx_1_mov_fs ev nv A B C D I).trans (tr4_ok hn hr rfl)⟩
theorem tt_1_add_rr : RowT (.ofNat 1) [97, 100, 100, 46, 114, 114] 2 := fun ev nv hn A B C D I hr _ => ⟨[], (tx_1_add_rr ev nv A B C D I).trans (tr2_ok hn hr rfl)⟩
theorem tt_1_or_rr : RowT (.ofNat 1) [111, 114, 46, 114, 114] 2 := fun ev nv hn A B C D I hr _ => ⟨[], (tx_1_or_rr ev nv A B C D I).trans (tr2_ok hn hr rfl)⟩
theorem tt_1_and_rr : RowT (.ofNat 1) [97, 110, 100, 46, 114, 114] 2 := fun ev nv hn A B C D I hr _ => ⟨[], (tx_1_and_rr ev nv A B C D I).trans (tr2_ok hn hr rfl)⟩
theorem tt_1_sub_rr : RowT (.ofNat 1) [115, 117, 98, 46, 114, 114] 2 := fun ev nv hn A B C D I hr _ => ⟨[], (tx_1_sub_rr ev nv A B C D I).trans (tr2_ok hn hr rfl)⟩
theorem tt_1_xor_rr : RowT (.ofNat 1) [120, 111, 114, 46, 114, 114] 2 := fun ev nv hn A B C D I hr _ => ⟨[], (tx_1_xor_rr ev nv A B C D I).trans (tr2_ok hn hr rfl)⟩
theorem tt_1_cmp_rr : RowT (.ofNat 1) [99, 109, 112, 46, 114, 114] 2 := fun ev nv hn A B C D I hr _ => ⟨[], (tx_1_cmp_rr ev nv A B C D I).trans (tr2_ok hn hr rfl)⟩
theorem tt_1_add_rm : RowT (.ofNat 1) [97, 100, 100, 46, 114, 109] 5 := fun ev nv hn A B C D I hr _ => ⟨[], (tx_1_add_rm ev nv A B C D I).trans (txE_congr (am_ok (nm := [97, 100, 100, 46, 114, 109]) hn hr (by decide) (by rfl)) rfl)⟩
theorem tt_1_or_rm : RowT (.ofNat 1) [111, 114, 46, 114, 109] 5 := fun ev nv hn A B C D I hr _ => ⟨[], (tx_1_or_rm ev nv A B C D I).trans (txE_congr (am_ok (nm := [111, 114, 46, 114, 109]) hn hr (by decide) (by rfl)) rfl)⟩
theorem tt_1_and_rm : RowT (.ofNat 1) [97, 110, 100, 46, 114, 109] 5 := fun ev nv hn A B C D I hr _ => ⟨[], (tx_1_and_rm ev nv A B C D I).trans (txE_congr (am_ok (nm := [97, 110, 100, 46, 114, 109]) hn hr (by decide) (by rfl)) rfl)⟩
theorem tt_1_sub_rm : RowT (.ofNat 1) [115, 117, 98, 46, 114, 109] 5 := fun ev nv hn A B C D I hr _ => ⟨[], (tx_1_sub_rm ev nv A B C D I).trans (txE_congr (am_ok (nm := [115, 117, 98, 46, 114, 109]) hn hr (by decide) (by rfl)) rfl)⟩
theorem tt_1_xor_rm : RowT (.ofNat 1) [120, 111, 114, 46, 114, 109] 5 := fun ev nv hn A B C D I hr _ => ⟨[], (tx_1_xor_rm ev nv A B C D I).trans (txE_congr (am_ok (nm := [120, 111, 114, 46, 114, 109]) hn hr (by decide) (by rfl)) rfl)⟩
theorem tt_1_cmp_rm : RowT (.ofNat 1) [99, 109, 112, 46, 114, 109] 5 := fun ev nv hn A B C D I hr _ => ⟨[], (tx_1_cmp_rm ev nv A B C D I).trans (txE_congr (am_ok (nm := [99, 109, 112, 46, 114, 109]) hn hr (by decide) (by rfl)) rfl)⟩
theorem tt_1_add_ri : RowT (.ofNat 1) [97, 100, 100, 46, 114, 105] 4 := fun ev nv hn A B C D I hr _ => ⟨[], (tx_1_add_ri ev nv A B C D I).trans (tr4_ok hn hr rfl)⟩
theorem tt_1_or_ri : RowT (.ofNat 1) [111, 114, 46, 114, 105] 4 := fun ev nv hn A B C D I hr _ => ⟨[], (tx_1_or_ri ev nv A B C D I).trans (tr4_ok hn hr rfl)⟩
theorem tt_1_and_ri : RowT (.ofNat 1) [97, 110, 100, 46, 114, 105] 4 := fun ev nv hn A B C D I hr _ => ⟨[], (tx_1_and_ri ev nv A B C D I).trans (tr4_ok hn hr rfl)⟩
theorem tt_1_sub_ri : RowT (.ofNat 1) [115, 117, 98, 46, 114, 105] 4 := fun ev nv hn A B C D I hr _ => ⟨[], (tx_1_sub_ri ev nv A B C D I).trans (tr4_ok hn hr rfl)⟩
theorem tt_1_xor_ri : RowT (.ofNat 1) [120, 111, 114, 46, 114, 105] 4 := fun ev nv hn A B C D I hr _ => ⟨[], (tx_1_xor_ri ev nv A B C D I).trans (tr4_ok hn hr rfl)⟩
theorem tt_1_cmp_ri : RowT (.ofNat 1) [99, 109, 112, 46, 114, 105] 4 := fun ev nv hn A B C D I hr _ => ⟨[], (tx_1_cmp_ri ev nv A B C D I).trans (tr4_ok hn hr rfl)⟩
theorem tt_1_test_rr : RowT (.ofNat 1) [116, 101, 115, 116, 46, 114, 114] 2 := fun ev nv hn A B C D I hr _ => ⟨[], (tx_1_test_rr ev nv A B C D I).trans (tr2_ok hn hr rfl)⟩
theorem tt_1_imul_rr : RowT (.ofNat 1) [105, 109, 117, 108, 46, 114, 114] 2 := fun ev nv hn A B C D I hr _ => ⟨[], (tx_1_imul_rr ev nv A B C D I).trans (tr2_ok hn hr rfl)⟩
theorem tt_1_not : RowT (.ofNat 1) [110, 111, 116] 1 := fun ev nv hn A B C D I hr _ => ⟨[], (tx_1_not ev nv A B C D I).trans (tr1_ok hn hr rfl)⟩
theorem tt_1_neg : RowT (.ofNat 1) [110, 101, 103] 1 := fun ev nv hn A B C D I hr _ => ⟨[], (tx_1_neg ev nv A B C D I).trans (tr1_ok hn hr rfl)⟩
theorem tt_1_mul : RowT (.ofNat 1) [109, 117, 108] 1 := fun ev nv hn A B C D I hr _ => ⟨[], (tx_1_mul ev nv A B C D I).trans (tr1_ok hn hr rfl)⟩
theorem tt_1_div : RowT (.ofNat 1) [100, 105, 118] 1 := fun ev nv hn A B C D I hr _ => ⟨[], (tx_1_div ev nv A B C D I).trans (tr1_ok hn hr rfl)⟩
theorem tt_1_idiv : RowT (.ofNat 1) [105, 100, 105, 118] 1 := fun ev nv hn A B C D I hr _ => ⟨[], (tx_1_idiv ev nv A B C D I).trans (tr1_ok hn hr rfl)⟩
theorem tt_1_cqo : RowT (.ofNat 1) [99, 113, 111] 0 := fun ev nv _ A B C D I _ _ => ⟨[], tx_1_cqo ev nv A B C D I⟩
theorem tt_1_shl_ri : RowT (.ofNat 1) [115, 104, 108, 46, 114, 105] 4 := fun ev nv hn A B C D I hr _ => ⟨[], (tx_1_shl_ri ev nv A B C D I).trans (tr4_ok hn hr rfl)⟩
theorem tt_1_shr_ri : RowT (.ofNat 1) [115, 104, 114, 46, 114, 105] 4 := fun ev nv hn A B C D I hr _ => ⟨[], (tx_1_shr_ri ev nv A B C D I).trans (tr4_ok hn hr rfl)⟩
theorem tt_1_sar_ri : RowT (.ofNat 1) [115, 97, 114, 46, 114, 105] 4 := fun ev nv hn A B C D I hr _ => ⟨[], (tx_1_sar_ri ev nv A B C D I).trans (tr4_ok hn hr rfl)⟩
theorem tt_1_shl_rc : RowT (.ofNat 1) [115, 104, 108, 46, 114, 99] 1 := fun ev nv hn A B C D I hr _ => ⟨[], (tx_1_shl_rc ev nv A B C D I).trans (tr1_ok hn hr rfl)⟩
theorem tt_1_shr_rc : RowT (.ofNat 1) [115, 104, 114, 46, 114, 99] 1 := fun ev nv hn A B C D I hr _ => ⟨[], (tx_1_shr_rc ev nv A B C D I).trans (tr1_ok hn hr rfl)⟩
theorem tt_1_sar_rc : RowT (.ofNat 1) [115, 97, 114, 46, 114, 99] 1 := fun ev nv hn A B C D I hr _ => ⟨[], (tx_1_sar_rc ev nv A B C D I).trans (tr1_ok hn hr rfl)⟩
theorem tt_1_cmov : RowT (.ofNat 1) [99, 109, 111, 118] 3 := fun ev nv hn A B C D I hr ok => by
  have ok : ok3 A B C D I := ok
  obtain ⟨d, rfl⟩ : ∃ d : Nat, D = .ofNat d := Int.eq_ofNat_of_zero_le (by unfold ok3 at ok; omega)
  have hd : d ≤ 9 ∨ 12 ≤ d ∧ d ≤ 15 := by unfold ok3 at ok; simp only [Int.ofNat_eq_natCast] at ok; omega
  clear ok
  match d, hr, hd with
  | 0, hr, _ => exact ⟨[], (tx_1_cmov_0 ev nv A B C I).trans (tr3_ok hn hr rfl)⟩
  | 1, hr, _ => exact ⟨[], (tx_1_cmov_1 ev nv A B C I).trans (tr3_ok hn hr rfl)⟩
  | 2, hr, _ => exact ⟨[], (tx_1_cmov_2 ev nv A B C I).trans (tr3_ok hn hr rfl)⟩
  | 3, hr, _ => exact ⟨[], (tx_1_cmov_3 ev nv A B C I).trans (tr3_ok hn hr rfl)⟩
  | 4, hr, _ => exact ⟨[], (tx_1_cmov_4 ev nv A B C I).trans (tr3_ok hn hr rfl)⟩
  | 5, hr, _ => exact ⟨[], (tx_1_cmov_5 ev nv A B C I).trans (tr3_ok hn hr rfl)⟩
  | 6, hr, _ => exact ⟨[], (tx_1_cmov_6 ev nv A B C I).trans (tr3_ok hn hr rfl)⟩
  | 7, hr, _ => exact ⟨[], (tx_1_cmov_7 ev nv A B C I).trans (tr3_ok hn hr rfl)⟩
  | 8, hr, _ => exact ⟨[], (tx_1_cmov_8 ev nv A B C I).trans (tr3_ok hn hr rfl)⟩
  | 9, hr, _ => exact ⟨[], (tx_1_cmov_9 ev nv A B C I).trans (tr3_ok hn hr rfl)⟩
  | 10, _, h => exact absurd h (by omega)
  | 11, _, h => exact absurd h (by omega)
  | 12, hr, _ => exact ⟨[], (tx_1_cmov_12 ev nv A B C I).trans (tr3_ok hn hr rfl)⟩
  | 13, hr, _ => exact ⟨[], (tx_1_cmov_13 ev nv A B C I).trans (tr3_ok hn hr rfl)⟩
  | 14, hr, _ => exact ⟨[], (tx_1_cmov_14 ev nv A B C I).trans (tr3_ok hn hr rfl)⟩
  | 15, hr, _ => exact ⟨[], (tx_1_cmov_15 ev nv A B C I).trans (tr3_ok hn hr rfl)⟩
  | d + 16, _, h => exact absurd h (by omega)
theorem tt_1_push : RowT (.ofNat 1) [112, 117, 115, 104] 1 := fun ev nv hn A B C D I hr _ => ⟨[], (tx_1_push ev nv A B C D I).trans (tr1_ok hn hr rfl)⟩
theorem tt_1_pop : RowT (.ofNat 1) [112, 111, 112] 1 := fun ev nv hn A B C D I hr _ => ⟨[], (tx_1_pop ev nv A B C D I).trans (tr1_ok hn hr rfl)⟩
theorem tt_1_call : RowT (.ofNat 1) [99, 97, 108, 108] 7 := fun ev nv hn A B C D I hr _ => ⟨[], (tx_1_call ev nv A B C D I).trans (tr7_ok hn hr rfl)⟩
theorem tt_1_jmp : RowT (.ofNat 1) [106, 109, 112] 7 := fun ev nv hn A B C D I hr _ => ⟨[], (tx_1_jmp ev nv A B C D I).trans (tr7_ok hn hr rfl)⟩
theorem tt_1_jmp_s : RowT (.ofNat 1) [106, 109, 112, 46, 115] 7 := fun ev nv hn A B C D I hr _ => ⟨[], (tx_1_jmp_s ev nv A B C D I).trans (tr7_ok hn hr rfl)⟩
theorem tt_1_call_r : RowT (.ofNat 1) [99, 97, 108, 108, 46, 114] 1 := fun ev nv hn A B C D I hr _ => ⟨[], (tx_1_call_r ev nv A B C D I).trans (tr1_ok hn hr rfl)⟩
theorem tt_1_jmp_r : RowT (.ofNat 1) [106, 109, 112, 46, 114] 1 := fun ev nv hn A B C D I hr _ => ⟨[], (tx_1_jmp_r ev nv A B C D I).trans (tr1_ok hn hr rfl)⟩
theorem tt_1_jcc : RowT (.ofNat 1) [106, 99, 99] 6 := fun ev nv hn A B C D I hr ok => by
  have ok : ok6 A B C D I := ok
  obtain ⟨d, rfl⟩ : ∃ d : Nat, D = .ofNat d := Int.eq_ofNat_of_zero_le (by unfold ok6 at ok; omega)
  have hd : d ≤ 9 ∨ 12 ≤ d ∧ d ≤ 15 := by unfold ok6 at ok; simp only [Int.ofNat_eq_natCast] at ok; omega
  clear ok
  match d, hr, hd with
  | 0, hr, _ => exact ⟨[], (tx_1_jcc_0 ev nv A B C I).trans (tr6_ok hn hr rfl)⟩
  | 1, hr, _ => exact ⟨[], (tx_1_jcc_1 ev nv A B C I).trans (tr6_ok hn hr rfl)⟩
  | 2, hr, _ => exact ⟨[], (tx_1_jcc_2 ev nv A B C I).trans (tr6_ok hn hr rfl)⟩
  | 3, hr, _ => exact ⟨[], (tx_1_jcc_3 ev nv A B C I).trans (tr6_ok hn hr rfl)⟩
  | 4, hr, _ => exact ⟨[], (tx_1_jcc_4 ev nv A B C I).trans (tr6_ok hn hr rfl)⟩
  | 5, hr, _ => exact ⟨[], (tx_1_jcc_5 ev nv A B C I).trans (tr6_ok hn hr rfl)⟩
  | 6, hr, _ => exact ⟨[], (tx_1_jcc_6 ev nv A B C I).trans (tr6_ok hn hr rfl)⟩
  | 7, hr, _ => exact ⟨[], (tx_1_jcc_7 ev nv A B C I).trans (tr6_ok hn hr rfl)⟩
  | 8, hr, _ => exact ⟨[], (tx_1_jcc_8 ev nv A B C I).trans (tr6_ok hn hr rfl)⟩
  | 9, hr, _ => exact ⟨[], (tx_1_jcc_9 ev nv A B C I).trans (tr6_ok hn hr rfl)⟩
  | 10, _, h => exact absurd h (by omega)
  | 11, _, h => exact absurd h (by omega)
  | 12, hr, _ => exact ⟨[], (tx_1_jcc_12 ev nv A B C I).trans (tr6_ok hn hr rfl)⟩
  | 13, hr, _ => exact ⟨[], (tx_1_jcc_13 ev nv A B C I).trans (tr6_ok hn hr rfl)⟩
  | 14, hr, _ => exact ⟨[], (tx_1_jcc_14 ev nv A B C I).trans (tr6_ok hn hr rfl)⟩
  | 15, hr, _ => exact ⟨[], (tx_1_jcc_15 ev nv A B C I).trans (tr6_ok hn hr rfl)⟩
  | d + 16, _, h => exact absurd h (by omega)
theorem tt_1_jcc_s : RowT (.ofNat 1) [106, 99, 99, 46, 115] 6 := fun ev nv hn A B C D I hr ok => by
  have ok : ok6 A B C D I := ok
  obtain ⟨d, rfl⟩ : ∃ d : Nat, D = .ofNat d := Int.eq_ofNat_of_zero_le (by unfold ok6 at ok; omega)
  have hd : d ≤ 9 ∨ 12 ≤ d ∧ d ≤ 15 := by unfold ok6 at ok; simp only [Int.ofNat_eq_natCast] at ok; omega
  clear ok
  match d, hr, hd with
  | 0, hr, _ => exact ⟨[], (tx_1_jcc_s_0 ev nv A B C I).trans (tr6_ok hn hr rfl)⟩
  | 1, hr, _ => exact ⟨[], (tx_1_jcc_s_1 ev nv A B C I).trans (tr6_ok hn hr rfl)⟩
  | 2, hr, _ => exact ⟨[], (tx_1_jcc_s_2 ev nv A B C I).trans (tr6_ok hn hr rfl)⟩
  | 3, hr, _ => exact ⟨[], (tx_1_jcc_s_3 ev nv A B C I).trans (tr6_ok hn hr rfl)⟩
  | 4, hr, _ => exact ⟨[], (tx_1_jcc_s_4 ev nv A B C I).trans (tr6_ok hn hr rfl)⟩
  | 5, hr, _ => exact ⟨[], (tx_1_jcc_s_5 ev nv A B C I).trans (tr6_ok hn hr rfl)⟩
  | 6, hr, _ => exact ⟨[], (tx_1_jcc_s_6 ev nv A B C I).trans (tr6_ok hn hr rfl)⟩
  | 7, hr, _ => exact ⟨[], (tx_1_jcc_s_7 ev nv A B C I).trans (tr6_ok hn hr rfl)⟩
  | 8, hr, _ => exact ⟨[], (tx_1_jcc_s_8 ev nv A B C I).trans (tr6_ok hn hr rfl)⟩
  | 9, hr, _ => exact ⟨[], (tx_1_jcc_s_9 ev nv A B C I).trans (tr6_ok hn hr rfl)⟩
  | 10, _, h => exact absurd h (by omega)
  | 11, _, h => exact absurd h (by omega)
  | 12, hr, _ => exact ⟨[], (tx_1_jcc_s_12 ev nv A B C I).trans (tr6_ok hn hr rfl)⟩
  | 13, hr, _ => exact ⟨[], (tx_1_jcc_s_13 ev nv A B C I).trans (tr6_ok hn hr rfl)⟩
  | 14, hr, _ => exact ⟨[], (tx_1_jcc_s_14 ev nv A B C I).trans (tr6_ok hn hr rfl)⟩
  | 15, hr, _ => exact ⟨[], (tx_1_jcc_s_15 ev nv A B C I).trans (tr6_ok hn hr rfl)⟩
  | d + 16, _, h => exact absurd h (by omega)
theorem tt_1_ret : RowT (.ofNat 1) [114, 101, 116] 0 := fun ev nv _ A B C D I _ _ => ⟨[], tx_1_ret ev nv A B C D I⟩
theorem tt_1_syscall : RowT (.ofNat 1) [115, 121, 115, 99, 97, 108, 108] 0 := fun ev nv _ A B C D I _ _ => ⟨[], tx_1_syscall ev nv A B C D I⟩
theorem tt_1_nop : RowT (.ofNat 1) [110, 111, 112] 0 := fun ev nv _ A B C D I _ _ => ⟨[], tx_1_nop ev nv A B C D I⟩
theorem tt_1_ud2 : RowT (.ofNat 1) [117, 100, 50] 0 := fun ev nv _ A B C D I _ _ => ⟨[], tx_1_ud2 ev nv A B C D I⟩
theorem tt_2_movn : RowT (.ofNat 2) [109, 111, 118, 110] 18 := fun ev nv hn A B C D I hr _ => ⟨[], (tx_2_movn ev nv A B C D I).trans (tr18_ok hn hr rfl)⟩
theorem tt_2_movz : RowT (.ofNat 2) [109, 111, 118, 122] 18 := fun ev nv hn A B C D I hr _ => ⟨[], (tx_2_movz ev nv A B C D I).trans (tr18_ok hn hr rfl)⟩
theorem tt_2_movk : RowT (.ofNat 2) [109, 111, 118, 107] 18 := fun ev nv hn A B C D I hr _ => ⟨[], (tx_2_movk ev nv A B C D I).trans (tr18_ok hn hr rfl)⟩
theorem tt_2_add_i : RowT (.ofNat 2) [97, 100, 100, 46, 105] 14 := fun ev nv hn A B C D I hr _ => ⟨[], (tx_2_add_i ev nv A B C D I).trans (tr14_ok hn hr rfl)⟩
theorem tt_2_adds_i : RowT (.ofNat 2) [97, 100, 100, 115, 46, 105] 14 := fun ev nv hn A B C D I hr _ => ⟨[], (tx_2_adds_i ev nv A B C D I).trans (tr14_ok hn hr rfl)⟩
theorem tt_2_sub_i : RowT (.ofNat 2) [115, 117, 98, 46, 105] 14 := fun ev nv hn A B C D I hr _ => ⟨[], (tx_2_sub_i ev nv A B C D I).trans (tr14_ok hn hr rfl)⟩
theorem tt_2_subs_i : RowT (.ofNat 2) [115, 117, 98, 115, 46, 105] 14 := fun ev nv hn A B C D I hr _ => ⟨[], (tx_2_subs_i ev nv A B C D I).trans (tr14_ok hn hr rfl)⟩
theorem tt_2_add : RowT (.ofNat 2) [97, 100, 100] 12 := fun ev nv hn A B C D I hr _ => ⟨[], (tx_2_add ev nv A B C D I).trans (tr12_ok hn hr rfl)⟩
theorem tt_2_adds : RowT (.ofNat 2) [97, 100, 100, 115] 12 := fun ev nv hn A B C D I hr _ => ⟨[], (tx_2_adds ev nv A B C D I).trans (tr12_ok hn hr rfl)⟩
theorem tt_2_sub : RowT (.ofNat 2) [115, 117, 98] 12 := fun ev nv hn A B C D I hr _ => ⟨[], (tx_2_sub ev nv A B C D I).trans (tr12_ok hn hr rfl)⟩
theorem tt_2_subs : RowT (.ofNat 2) [115, 117, 98, 115] 12 := fun ev nv hn A B C D I hr _ => ⟨[], (tx_2_subs ev nv A B C D I).trans (tr12_ok hn hr rfl)⟩
theorem tt_2_and : RowT (.ofNat 2) [97, 110, 100] 12 := fun ev nv hn A B C D I hr _ => ⟨[], (tx_2_and ev nv A B C D I).trans (tr12_ok hn hr rfl)⟩
theorem tt_2_orr : RowT (.ofNat 2) [111, 114, 114] 12 := fun ev nv hn A B C D I hr _ => ⟨[], (tx_2_orr ev nv A B C D I).trans (tr12_ok hn hr rfl)⟩
theorem tt_2_eor : RowT (.ofNat 2) [101, 111, 114] 12 := fun ev nv hn A B C D I hr _ => ⟨[], (tx_2_eor ev nv A B C D I).trans (tr12_ok hn hr rfl)⟩
theorem tt_2_ands : RowT (.ofNat 2) [97, 110, 100, 115] 12 := fun ev nv hn A B C D I hr _ => ⟨[], (tx_2_ands ev nv A B C D I).trans (tr12_ok hn hr rfl)⟩
theorem tt_2_and_i : RowT (.ofNat 2) [97, 110, 100, 46, 105] 13 := fun ev nv hn A B C D I hr _ => ⟨[], (tx_2_and_i ev nv A B C D I).trans (tr13_ok hn hr rfl)⟩
theorem tt_2_orr_i : RowT (.ofNat 2) [111, 114, 114, 46, 105] 13 := fun ev nv hn A B C D I hr _ => ⟨[], (tx_2_orr_i ev nv A B C D I).trans (tr13_ok hn hr rfl)⟩
theorem tt_2_eor_i : RowT (.ofNat 2) [101, 111, 114, 46, 105] 13 := fun ev nv hn A B C D I hr _ => ⟨[], (tx_2_eor_i ev nv A B C D I).trans (tr13_ok hn hr rfl)⟩
theorem tt_2_ands_i : RowT (.ofNat 2) [97, 110, 100, 115, 46, 105] 13 := fun ev nv hn A B C D I hr _ => ⟨[], (tx_2_ands_i ev nv A B C D I).trans (tr13_ok hn hr rfl)⟩
theorem tt_2_madd : RowT (.ofNat 2) [109, 97, 100, 100] 10 := fun ev nv hn A B C D I hr _ => ⟨[], (tx_2_madd ev nv A B C D I).trans (tr10_ok hn hr rfl)⟩
theorem tt_2_msub : RowT (.ofNat 2) [109, 115, 117, 98] 10 := fun ev nv hn A B C D I hr _ => ⟨[], (tx_2_msub ev nv A B C D I).trans (tr10_ok hn hr rfl)⟩
theorem tt_2_udiv : RowT (.ofNat 2) [117, 100, 105, 118] 9 := fun ev nv hn A B C D I hr _ => ⟨[], (tx_2_udiv ev nv A B C D I).trans (tr9_ok hn hr rfl)⟩
theorem tt_2_sdiv : RowT (.ofNat 2) [115, 100, 105, 118] 9 := fun ev nv hn A B C D I hr _ => ⟨[], (tx_2_sdiv ev nv A B C D I).trans (tr9_ok hn hr rfl)⟩
theorem tt_2_lslv : RowT (.ofNat 2) [108, 115, 108, 118] 9 := fun ev nv hn A B C D I hr _ => ⟨[], (tx_2_lslv ev nv A B C D I).trans (tr9_ok hn hr rfl)⟩
theorem tt_2_lsrv : RowT (.ofNat 2) [108, 115, 114, 118] 9 := fun ev nv hn A B C D I hr _ => ⟨[], (tx_2_lsrv ev nv A B C D I).trans (tr9_ok hn hr rfl)⟩
theorem tt_2_asrv : RowT (.ofNat 2) [97, 115, 114, 118] 9 := fun ev nv hn A B C D I hr _ => ⟨[], (tx_2_asrv ev nv A B C D I).trans (tr9_ok hn hr rfl)⟩
theorem tt_2_sbfm : RowT (.ofNat 2) [115, 98, 102, 109] 15 := fun ev nv hn A B C D I hr _ => ⟨[], (tx_2_sbfm ev nv A B C D I).trans (tr15_ok hn hr rfl)⟩
theorem tt_2_ubfm : RowT (.ofNat 2) [117, 98, 102, 109] 15 := fun ev nv hn A B C D I hr _ => ⟨[], (tx_2_ubfm ev nv A B C D I).trans (tr15_ok hn hr rfl)⟩
theorem tt_2_csel : RowT (.ofNat 2) [99, 115, 101, 108] 11 := fun ev nv hn A B C D I hr ok => by
  have ok : ok11 A B C D I := ok
  obtain ⟨d, rfl⟩ : ∃ d : Nat, D = .ofNat d := Int.eq_ofNat_of_zero_le (by unfold ok11 at ok; omega)
  have hd : d ≤ 13 := by unfold ok11 at ok; simp only [Int.ofNat_eq_natCast] at ok; omega
  clear ok
  match d, hr, hd with
  | 0, hr, _ => exact ⟨[], (tx_2_csel_0 ev nv A B C I).trans (tr11_ok hn hr rfl)⟩
  | 1, hr, _ => exact ⟨[], (tx_2_csel_1 ev nv A B C I).trans (tr11_ok hn hr rfl)⟩
  | 2, hr, _ => exact ⟨[], (tx_2_csel_2 ev nv A B C I).trans (tr11_ok hn hr rfl)⟩
  | 3, hr, _ => exact ⟨[], (tx_2_csel_3 ev nv A B C I).trans (tr11_ok hn hr rfl)⟩
  | 4, hr, _ => exact ⟨[], (tx_2_csel_4 ev nv A B C I).trans (tr11_ok hn hr rfl)⟩
  | 5, hr, _ => exact ⟨[], (tx_2_csel_5 ev nv A B C I).trans (tr11_ok hn hr rfl)⟩
  | 6, hr, _ => exact ⟨[], (tx_2_csel_6 ev nv A B C I).trans (tr11_ok hn hr rfl)⟩
  | 7, hr, _ => exact ⟨[], (tx_2_csel_7 ev nv A B C I).trans (tr11_ok hn hr rfl)⟩
  | 8, hr, _ => exact ⟨[], (tx_2_csel_8 ev nv A B C I).trans (tr11_ok hn hr rfl)⟩
  | 9, hr, _ => exact ⟨[], (tx_2_csel_9 ev nv A B C I).trans (tr11_ok hn hr rfl)⟩
  | 10, hr, _ => exact ⟨[], (tx_2_csel_10 ev nv A B C I).trans (tr11_ok hn hr rfl)⟩
  | 11, hr, _ => exact ⟨[], (tx_2_csel_11 ev nv A B C I).trans (tr11_ok hn hr rfl)⟩
  | 12, hr, _ => exact ⟨[], (tx_2_csel_12 ev nv A B C I).trans (tr11_ok hn hr rfl)⟩
  | 13, hr, _ => exact ⟨[], (tx_2_csel_13 ev nv A B C I).trans (tr11_ok hn hr rfl)⟩
  | d + 14, _, h => exact absurd h (by omega)
theorem tt_2_csinc : RowT (.ofNat 2) [99, 115, 105, 110, 99] 11 := fun ev nv hn A B C D I hr ok => by
  have ok : ok11 A B C D I := ok
  obtain ⟨d, rfl⟩ : ∃ d : Nat, D = .ofNat d := Int.eq_ofNat_of_zero_le (by unfold ok11 at ok; omega)
  have hd : d ≤ 13 := by unfold ok11 at ok; simp only [Int.ofNat_eq_natCast] at ok; omega
  clear ok
  match d, hr, hd with
  | 0, hr, _ => exact ⟨[], (tx_2_csinc_0 ev nv A B C I).trans (tr11_ok hn hr rfl)⟩
  | 1, hr, _ => exact ⟨[], (tx_2_csinc_1 ev nv A B C I).trans (tr11_ok hn hr rfl)⟩
  | 2, hr, _ => exact ⟨[], (tx_2_csinc_2 ev nv A B C I).trans (tr11_ok hn hr rfl)⟩
  | 3, hr, _ => exact ⟨[], (tx_2_csinc_3 ev nv A B C I).trans (tr11_ok hn hr rfl)⟩
  | 4, hr, _ => exact ⟨[], (tx_2_csinc_4 ev nv A B C I).trans (tr11_ok hn hr rfl)⟩
  | 5, hr, _ => exact ⟨[], (tx_2_csinc_5 ev nv A B C I).trans (tr11_ok hn hr rfl)⟩
  | 6, hr, _ => exact ⟨[], (tx_2_csinc_6 ev nv A B C I).trans (tr11_ok hn hr rfl)⟩
  | 7, hr, _ => exact ⟨[], (tx_2_csinc_7 ev nv A B C I).trans (tr11_ok hn hr rfl)⟩
  | 8, hr, _ => exact ⟨[], (tx_2_csinc_8 ev nv A B C I).trans (tr11_ok hn hr rfl)⟩
  | 9, hr, _ => exact ⟨[], (tx_2_csinc_9 ev nv A B C I).trans (tr11_ok hn hr rfl)⟩
  | 10, hr, _ => exact ⟨[], (tx_2_csinc_10 ev nv A B C I).trans (tr11_ok hn hr rfl)⟩
  | 11, hr, _ => exact ⟨[], (tx_2_csinc_11 ev nv A B C I).trans (tr11_ok hn hr rfl)⟩
  | 12, hr, _ => exact ⟨[], (tx_2_csinc_12 ev nv A B C I).trans (tr11_ok hn hr rfl)⟩
  | 13, hr, _ => exact ⟨[], (tx_2_csinc_13 ev nv A B C I).trans (tr11_ok hn hr rfl)⟩
  | d + 14, _, h => exact absurd h (by omega)
theorem tt_2_adr : RowT (.ofNat 2) [97, 100, 114] 17 := fun ev nv hn A B C D I hr _ => ⟨[], (tx_2_adr ev nv A B C D I).trans (tr17_ok hn hr rfl)⟩
theorem tt_2_adrp : RowT (.ofNat 2) [97, 100, 114, 112] 17 := fun ev nv hn A B C D I hr _ => ⟨[], (tx_2_adrp ev nv A B C D I).trans (tr17_ok hn hr rfl)⟩
theorem tt_2_ldrb : RowT (.ofNat 2) [108, 100, 114, 98] 13 := fun ev nv hn A B C D I hr _ => ⟨[], (tx_2_ldrb ev nv A B C D I).trans (tr13_ok hn hr rfl)⟩
theorem tt_2_strb : RowT (.ofNat 2) [115, 116, 114, 98] 13 := fun ev nv hn A B C D I hr _ => ⟨[], (tx_2_strb ev nv A B C D I).trans (tr13_ok hn hr rfl)⟩
theorem tt_2_ldrh : RowT (.ofNat 2) [108, 100, 114, 104] 13 := fun ev nv hn A B C D I hr _ => ⟨[], (tx_2_ldrh ev nv A B C D I).trans (tr13_ok hn hr rfl)⟩
theorem tt_2_strh : RowT (.ofNat 2) [115, 116, 114, 104] 13 := fun ev nv hn A B C D I hr _ => ⟨[], (tx_2_strh ev nv A B C D I).trans (tr13_ok hn hr rfl)⟩
theorem tt_2_ldr_w : RowT (.ofNat 2) [108, 100, 114, 46, 119] 13 := fun ev nv hn A B C D I hr _ => ⟨[], (tx_2_ldr_w ev nv A B C D I).trans (tr13_ok hn hr rfl)⟩
theorem tt_2_str_w : RowT (.ofNat 2) [115, 116, 114, 46, 119] 13 := fun ev nv hn A B C D I hr _ => ⟨[], (tx_2_str_w ev nv A B C D I).trans (tr13_ok hn hr rfl)⟩
theorem tt_2_ldrsw : RowT (.ofNat 2) [108, 100, 114, 115, 119] 13 := fun ev nv hn A B C D I hr _ => ⟨[], (tx_2_ldrsw ev nv A B C D I).trans (tr13_ok hn hr rfl)⟩
theorem tt_2_ldr : RowT (.ofNat 2) [108, 100, 114] 13 := fun ev nv hn A B C D I hr _ => ⟨[], (tx_2_ldr ev nv A B C D I).trans (tr13_ok hn hr rfl)⟩
theorem tt_2_str : RowT (.ofNat 2) [115, 116, 114] 13 := fun ev nv hn A B C D I hr _ => ⟨[], (tx_2_str ev nv A B C D I).trans (tr13_ok hn hr rfl)⟩
theorem tt_2_ldp : RowT (.ofNat 2) [108, 100, 112] 16 := fun ev nv hn A B C D I hr _ => ⟨[], (tx_2_ldp ev nv A B C D I).trans (tr16_ok hn hr rfl)⟩
theorem tt_2_stp : RowT (.ofNat 2) [115, 116, 112] 16 := fun ev nv hn A B C D I hr _ => ⟨[], (tx_2_stp ev nv A B C D I).trans (tr16_ok hn hr rfl)⟩
theorem tt_2_b : RowT (.ofNat 2) [98] 21 := fun ev nv hn A B C D I hr _ => ⟨[], (tx_2_b ev nv A B C D I).trans (tr21_ok hn hr rfl)⟩
theorem tt_2_bl : RowT (.ofNat 2) [98, 108] 21 := fun ev nv hn A B C D I hr _ => ⟨[], (tx_2_bl ev nv A B C D I).trans (tr21_ok hn hr rfl)⟩
theorem tt_2_b_c : RowT (.ofNat 2) [98, 46, 99] 20 := fun ev nv hn A B C D I hr ok => by
  have ok : ok20 A B C D I := ok
  obtain ⟨d, rfl⟩ : ∃ d : Nat, D = .ofNat d := Int.eq_ofNat_of_zero_le (by unfold ok20 at ok; omega)
  have hd : d ≤ 13 := by unfold ok20 at ok; simp only [Int.ofNat_eq_natCast] at ok; omega
  clear ok
  match d, hr, hd with
  | 0, hr, _ => exact ⟨[], (tx_2_b_c_0 ev nv A B C I).trans (tr20_ok hn hr rfl)⟩
  | 1, hr, _ => exact ⟨[], (tx_2_b_c_1 ev nv A B C I).trans (tr20_ok hn hr rfl)⟩
  | 2, hr, _ => exact ⟨[], (tx_2_b_c_2 ev nv A B C I).trans (tr20_ok hn hr rfl)⟩
  | 3, hr, _ => exact ⟨[], (tx_2_b_c_3 ev nv A B C I).trans (tr20_ok hn hr rfl)⟩
  | 4, hr, _ => exact ⟨[], (tx_2_b_c_4 ev nv A B C I).trans (tr20_ok hn hr rfl)⟩
  | 5, hr, _ => exact ⟨[], (tx_2_b_c_5 ev nv A B C I).trans (tr20_ok hn hr rfl)⟩
  | 6, hr, _ => exact ⟨[], (tx_2_b_c_6 ev nv A B C I).trans (tr20_ok hn hr rfl)⟩
  | 7, hr, _ => exact ⟨[], (tx_2_b_c_7 ev nv A B C I).trans (tr20_ok hn hr rfl)⟩
  | 8, hr, _ => exact ⟨[], (tx_2_b_c_8 ev nv A B C I).trans (tr20_ok hn hr rfl)⟩
  | 9, hr, _ => exact ⟨[], (tx_2_b_c_9 ev nv A B C I).trans (tr20_ok hn hr rfl)⟩
  | 10, hr, _ => exact ⟨[], (tx_2_b_c_10 ev nv A B C I).trans (tr20_ok hn hr rfl)⟩
  | 11, hr, _ => exact ⟨[], (tx_2_b_c_11 ev nv A B C I).trans (tr20_ok hn hr rfl)⟩
  | 12, hr, _ => exact ⟨[], (tx_2_b_c_12 ev nv A B C I).trans (tr20_ok hn hr rfl)⟩
  | 13, hr, _ => exact ⟨[], (tx_2_b_c_13 ev nv A B C I).trans (tr20_ok hn hr rfl)⟩
  | d + 14, _, h => exact absurd h (by omega)
theorem tt_2_cbz : RowT (.ofNat 2) [99, 98, 122] 17 := fun ev nv hn A B C D I hr _ => ⟨[], (tx_2_cbz ev nv A B C D I).trans (tr17_ok hn hr rfl)⟩
theorem tt_2_cbnz : RowT (.ofNat 2) [99, 98, 110, 122] 17 := fun ev nv hn A B C D I hr _ => ⟨[], (tx_2_cbnz ev nv A B C D I).trans (tr17_ok hn hr rfl)⟩
theorem tt_2_br : RowT (.ofNat 2) [98, 114] 19 := fun ev nv hn A B C D I hr _ => ⟨[], (tx_2_br ev nv A B C D I).trans (tr19_ok hn hr rfl)⟩
theorem tt_2_blr : RowT (.ofNat 2) [98, 108, 114] 19 := fun ev nv hn A B C D I hr _ => ⟨[], (tx_2_blr ev nv A B C D I).trans (tr19_ok hn hr rfl)⟩
theorem tt_2_ret : RowT (.ofNat 2) [114, 101, 116] 19 := fun ev nv hn A B C D I hr _ => ⟨[], (tx_2_ret ev nv A B C D I).trans (tr19_ok hn hr rfl)⟩
theorem tt_2_svc : RowT (.ofNat 2) [115, 118, 99] 21 := fun ev nv hn A B C D I hr _ => ⟨[], (tx_2_svc ev nv A B C D I).trans (tr21_ok hn hr rfl)⟩
theorem tt_2_brk : RowT (.ofNat 2) [98, 114, 107] 21 := fun ev nv hn A B C D I hr _ => ⟨[], (tx_2_brk ev nv A B C D I).trans (tr21_ok hn hr rfl)⟩
theorem tt_2_nop : RowT (.ofNat 2) [110, 111, 112] 8 := fun ev nv _ A B C D I _ _ => ⟨[], tx_2_nop ev nv A B C D I⟩
theorem tt_3_add : RowT (.ofNat 3) [97, 100, 100] 23 := fun ev nv hn A B C D I hr _ => ⟨[], (tx_3_add ev nv A B C D I).trans (tr23_ok hn hr rfl)⟩
theorem tt_3_sub : RowT (.ofNat 3) [115, 117, 98] 23 := fun ev nv hn A B C D I hr _ => ⟨[], (tx_3_sub ev nv A B C D I).trans (tr23_ok hn hr rfl)⟩
theorem tt_3_sll : RowT (.ofNat 3) [115, 108, 108] 23 := fun ev nv hn A B C D I hr _ => ⟨[], (tx_3_sll ev nv A B C D I).trans (tr23_ok hn hr rfl)⟩
theorem tt_3_slt : RowT (.ofNat 3) [115, 108, 116] 23 := fun ev nv hn A B C D I hr _ => ⟨[], (tx_3_slt ev nv A B C D I).trans (tr23_ok hn hr rfl)⟩
theorem tt_3_sltu : RowT (.ofNat 3) [115, 108, 116, 117] 23 := fun ev nv hn A B C D I hr _ => ⟨[], (tx_3_sltu ev nv A B C D I).trans (tr23_ok hn hr rfl)⟩
theorem tt_3_xor : RowT (.ofNat 3) [120, 111, 114] 23 := fun ev nv hn A B C D I hr _ => ⟨[], (tx_3_xor ev nv A B C D I).trans (tr23_ok hn hr rfl)⟩
theorem tt_3_srl : RowT (.ofNat 3) [115, 114, 108] 23 := fun ev nv hn A B C D I hr _ => ⟨[], (tx_3_srl ev nv A B C D I).trans (tr23_ok hn hr rfl)⟩
theorem tt_3_sra : RowT (.ofNat 3) [115, 114, 97] 23 := fun ev nv hn A B C D I hr _ => ⟨[], (tx_3_sra ev nv A B C D I).trans (tr23_ok hn hr rfl)⟩
theorem tt_3_or : RowT (.ofNat 3) [111, 114] 23 := fun ev nv hn A B C D I hr _ => ⟨[], (tx_3_or ev nv A B C D I).trans (tr23_ok hn hr rfl)⟩
theorem tt_3_and : RowT (.ofNat 3) [97, 110, 100] 23 := fun ev nv hn A B C D I hr _ => ⟨[], (tx_3_and ev nv A B C D I).trans (tr23_ok hn hr rfl)⟩
theorem tt_3_mul : RowT (.ofNat 3) [109, 117, 108] 23 := fun ev nv hn A B C D I hr _ => ⟨[], (tx_3_mul ev nv A B C D I).trans (tr23_ok hn hr rfl)⟩
theorem tt_3_mulh : RowT (.ofNat 3) [109, 117, 108, 104] 23 := fun ev nv hn A B C D I hr _ => ⟨[], (tx_3_mulh ev nv A B C D I).trans (tr23_ok hn hr rfl)⟩
theorem tt_3_mulhsu : RowT (.ofNat 3) [109, 117, 108, 104, 115, 117] 23 := fun ev nv hn A B C D I hr _ => ⟨[], (tx_3_mulhsu ev nv A B C D I).trans (tr23_ok hn hr rfl)⟩
theorem tt_3_mulhu : RowT (.ofNat 3) [109, 117, 108, 104, 117] 23 := fun ev nv hn A B C D I hr _ => ⟨[], (tx_3_mulhu ev nv A B C D I).trans (tr23_ok hn hr rfl)⟩
theorem tt_3_div : RowT (.ofNat 3) [100, 105, 118] 23 := fun ev nv hn A B C D I hr _ => ⟨[], (tx_3_div ev nv A B C D I).trans (tr23_ok hn hr rfl)⟩
theorem tt_3_divu : RowT (.ofNat 3) [100, 105, 118, 117] 23 := fun ev nv hn A B C D I hr _ => ⟨[], (tx_3_divu ev nv A B C D I).trans (tr23_ok hn hr rfl)⟩
theorem tt_3_rem : RowT (.ofNat 3) [114, 101, 109] 23 := fun ev nv hn A B C D I hr _ => ⟨[], (tx_3_rem ev nv A B C D I).trans (tr23_ok hn hr rfl)⟩
theorem tt_3_remu : RowT (.ofNat 3) [114, 101, 109, 117] 23 := fun ev nv hn A B C D I hr _ => ⟨[], (tx_3_remu ev nv A B C D I).trans (tr23_ok hn hr rfl)⟩
theorem tt_3_addw : RowT (.ofNat 3) [97, 100, 100, 119] 23 := fun ev nv hn A B C D I hr _ => ⟨[], (tx_3_addw ev nv A B C D I).trans (tr23_ok hn hr rfl)⟩
theorem tt_3_subw : RowT (.ofNat 3) [115, 117, 98, 119] 23 := fun ev nv hn A B C D I hr _ => ⟨[], (tx_3_subw ev nv A B C D I).trans (tr23_ok hn hr rfl)⟩
theorem tt_3_sllw : RowT (.ofNat 3) [115, 108, 108, 119] 23 := fun ev nv hn A B C D I hr _ => ⟨[], (tx_3_sllw ev nv A B C D I).trans (tr23_ok hn hr rfl)⟩
theorem tt_3_srlw : RowT (.ofNat 3) [115, 114, 108, 119] 23 := fun ev nv hn A B C D I hr _ => ⟨[], (tx_3_srlw ev nv A B C D I).trans (tr23_ok hn hr rfl)⟩
theorem tt_3_sraw : RowT (.ofNat 3) [115, 114, 97, 119] 23 := fun ev nv hn A B C D I hr _ => ⟨[], (tx_3_sraw ev nv A B C D I).trans (tr23_ok hn hr rfl)⟩
theorem tt_3_mulw : RowT (.ofNat 3) [109, 117, 108, 119] 23 := fun ev nv hn A B C D I hr _ => ⟨[], (tx_3_mulw ev nv A B C D I).trans (tr23_ok hn hr rfl)⟩
theorem tt_3_divw : RowT (.ofNat 3) [100, 105, 118, 119] 23 := fun ev nv hn A B C D I hr _ => ⟨[], (tx_3_divw ev nv A B C D I).trans (tr23_ok hn hr rfl)⟩
theorem tt_3_divuw : RowT (.ofNat 3) [100, 105, 118, 117, 119] 23 := fun ev nv hn A B C D I hr _ => ⟨[], (tx_3_divuw ev nv A B C D I).trans (tr23_ok hn hr rfl)⟩
theorem tt_3_remw : RowT (.ofNat 3) [114, 101, 109, 119] 23 := fun ev nv hn A B C D I hr _ => ⟨[], (tx_3_remw ev nv A B C D I).trans (tr23_ok hn hr rfl)⟩
theorem tt_3_remuw : RowT (.ofNat 3) [114, 101, 109, 117, 119] 23 := fun ev nv hn A B C D I hr _ => ⟨[], (tx_3_remuw ev nv A B C D I).trans (tr23_ok hn hr rfl)⟩
theorem tt_3_addi : RowT (.ofNat 3) [97, 100, 100, 105] 24 := fun ev nv hn A B C D I hr _ => ⟨[], (tx_3_addi ev nv A B C D I).trans (tr24_ok hn hr rfl)⟩
theorem tt_3_slti : RowT (.ofNat 3) [115, 108, 116, 105] 24 := fun ev nv hn A B C D I hr _ => ⟨[], (tx_3_slti ev nv A B C D I).trans (tr24_ok hn hr rfl)⟩
theorem tt_3_sltiu : RowT (.ofNat 3) [115, 108, 116, 105, 117] 24 := fun ev nv hn A B C D I hr _ => ⟨[], (tx_3_sltiu ev nv A B C D I).trans (tr24_ok hn hr rfl)⟩
theorem tt_3_xori : RowT (.ofNat 3) [120, 111, 114, 105] 24 := fun ev nv hn A B C D I hr _ => ⟨[], (tx_3_xori ev nv A B C D I).trans (tr24_ok hn hr rfl)⟩
theorem tt_3_ori : RowT (.ofNat 3) [111, 114, 105] 24 := fun ev nv hn A B C D I hr _ => ⟨[], (tx_3_ori ev nv A B C D I).trans (tr24_ok hn hr rfl)⟩
theorem tt_3_andi : RowT (.ofNat 3) [97, 110, 100, 105] 24 := fun ev nv hn A B C D I hr _ => ⟨[], (tx_3_andi ev nv A B C D I).trans (tr24_ok hn hr rfl)⟩
theorem tt_3_addiw : RowT (.ofNat 3) [97, 100, 100, 105, 119] 24 := fun ev nv hn A B C D I hr _ => ⟨[], (tx_3_addiw ev nv A B C D I).trans (tr24_ok hn hr rfl)⟩
theorem tt_3_lb : RowT (.ofNat 3) [108, 98] 24 := fun ev nv hn A B C D I hr _ => ⟨[], (tx_3_lb ev nv A B C D I).trans (tr24_ok hn hr rfl)⟩
theorem tt_3_lh : RowT (.ofNat 3) [108, 104] 24 := fun ev nv hn A B C D I hr _ => ⟨[], (tx_3_lh ev nv A B C D I).trans (tr24_ok hn hr rfl)⟩
theorem tt_3_lw : RowT (.ofNat 3) [108, 119] 24 := fun ev nv hn A B C D I hr _ => ⟨[], (tx_3_lw ev nv A B C D I).trans (tr24_ok hn hr rfl)⟩
theorem tt_3_ld : RowT (.ofNat 3) [108, 100] 24 := fun ev nv hn A B C D I hr _ => ⟨[], (tx_3_ld ev nv A B C D I).trans (tr24_ok hn hr rfl)⟩
theorem tt_3_lbu : RowT (.ofNat 3) [108, 98, 117] 24 := fun ev nv hn A B C D I hr _ => ⟨[], (tx_3_lbu ev nv A B C D I).trans (tr24_ok hn hr rfl)⟩
theorem tt_3_lhu : RowT (.ofNat 3) [108, 104, 117] 24 := fun ev nv hn A B C D I hr _ => ⟨[], (tx_3_lhu ev nv A B C D I).trans (tr24_ok hn hr rfl)⟩
theorem tt_3_lwu : RowT (.ofNat 3) [108, 119, 117] 24 := fun ev nv hn A B C D I hr _ => ⟨[], (tx_3_lwu ev nv A B C D I).trans (tr24_ok hn hr rfl)⟩
theorem tt_3_jalr : RowT (.ofNat 3) [106, 97, 108, 114] 24 := fun ev nv hn A B C D I hr _ => ⟨[], (tx_3_jalr ev nv A B C D I).trans (tr24_ok hn hr rfl)⟩
theorem tt_3_slli : RowT (.ofNat 3) [115, 108, 108, 105] 24 := fun ev nv hn A B C D I hr _ => ⟨[], (tx_3_slli ev nv A B C D I).trans (tr24_ok hn hr rfl)⟩
theorem tt_3_srli : RowT (.ofNat 3) [115, 114, 108, 105] 24 := fun ev nv hn A B C D I hr _ => ⟨[], (tx_3_srli ev nv A B C D I).trans (tr24_ok hn hr rfl)⟩
theorem tt_3_srai : RowT (.ofNat 3) [115, 114, 97, 105] 24 := fun ev nv hn A B C D I hr _ => ⟨[], (tx_3_srai ev nv A B C D I).trans (tr24_ok hn hr rfl)⟩
theorem tt_3_slliw : RowT (.ofNat 3) [115, 108, 108, 105, 119] 24 := fun ev nv hn A B C D I hr _ => ⟨[], (tx_3_slliw ev nv A B C D I).trans (tr24_ok hn hr rfl)⟩
theorem tt_3_srliw : RowT (.ofNat 3) [115, 114, 108, 105, 119] 24 := fun ev nv hn A B C D I hr _ => ⟨[], (tx_3_srliw ev nv A B C D I).trans (tr24_ok hn hr rfl)⟩
theorem tt_3_sraiw : RowT (.ofNat 3) [115, 114, 97, 105, 119] 24 := fun ev nv hn A B C D I hr _ => ⟨[], (tx_3_sraiw ev nv A B C D I).trans (tr24_ok hn hr rfl)⟩
theorem tt_3_sb : RowT (.ofNat 3) [115, 98] 30 := fun ev nv hn A B C D I hr _ => ⟨[], (tx_3_sb ev nv A B C D I).trans (tr30_ok hn hr rfl)⟩
theorem tt_3_sh : RowT (.ofNat 3) [115, 104] 30 := fun ev nv hn A B C D I hr _ => ⟨[], (tx_3_sh ev nv A B C D I).trans (tr30_ok hn hr rfl)⟩
theorem tt_3_sw : RowT (.ofNat 3) [115, 119] 30 := fun ev nv hn A B C D I hr _ => ⟨[], (tx_3_sw ev nv A B C D I).trans (tr30_ok hn hr rfl)⟩
theorem tt_3_sd : RowT (.ofNat 3) [115, 100] 30 := fun ev nv hn A B C D I hr _ => ⟨[], (tx_3_sd ev nv A B C D I).trans (tr30_ok hn hr rfl)⟩
theorem tt_3_beq : RowT (.ofNat 3) [98, 101, 113] 28 := fun ev nv hn A B C D I hr _ => ⟨[], (tx_3_beq ev nv A B C D I).trans (tr28_ok hn hr rfl)⟩
theorem tt_3_bne : RowT (.ofNat 3) [98, 110, 101] 28 := fun ev nv hn A B C D I hr _ => ⟨[], (tx_3_bne ev nv A B C D I).trans (tr28_ok hn hr rfl)⟩
theorem tt_3_blt : RowT (.ofNat 3) [98, 108, 116] 28 := fun ev nv hn A B C D I hr _ => ⟨[], (tx_3_blt ev nv A B C D I).trans (tr28_ok hn hr rfl)⟩
theorem tt_3_bge : RowT (.ofNat 3) [98, 103, 101] 28 := fun ev nv hn A B C D I hr _ => ⟨[], (tx_3_bge ev nv A B C D I).trans (tr28_ok hn hr rfl)⟩
theorem tt_3_bltu : RowT (.ofNat 3) [98, 108, 116, 117] 28 := fun ev nv hn A B C D I hr _ => ⟨[], (tx_3_bltu ev nv A B C D I).trans (tr28_ok hn hr rfl)⟩
theorem tt_3_bgeu : RowT (.ofNat 3) [98, 103, 101, 117] 28 := fun ev nv hn A B C D I hr _ => ⟨[], (tx_3_bgeu ev nv A B C D I).trans (tr28_ok hn hr rfl)⟩
theorem tt_3_lui : RowT (.ofNat 3) [108, 117, 105] 26 := fun ev nv hn A B C D I hr _ => ⟨[], (tx_3_lui ev nv A B C D I).trans (tr26_ok hn hr rfl)⟩
theorem tt_3_auipc : RowT (.ofNat 3) [97, 117, 105, 112, 99] 26 := fun ev nv hn A B C D I hr _ => ⟨[], (tx_3_auipc ev nv A B C D I).trans (tr26_ok hn hr rfl)⟩
theorem tt_3_jal : RowT (.ofNat 3) [106, 97, 108] 26 := fun ev nv hn A B C D I hr _ => ⟨[], (tx_3_jal ev nv A B C D I).trans (tr26_ok hn hr rfl)⟩
theorem tt_3_ecall : RowT (.ofNat 3) [101, 99, 97, 108, 108] 22 := fun ev nv _ A B C D I _ _ => ⟨[], tx_3_ecall ev nv A B C D I⟩
theorem tt_3_ebreak : RowT (.ofNat 3) [101, 98, 114, 101, 97, 107] 22 := fun ev nv _ A B C D I _ _ => ⟨[], tx_3_ebreak ev nv A B C D I⟩
theorem tt_3_c_addi4spn : RowT (.ofNat 3) [99, 46, 97, 100, 100, 105, 52, 115, 112, 110] 26 := fun ev nv hn A B C D I hr _ => ⟨[], (tx_3_c_addi4spn ev nv A B C D I).trans (tr26_ok hn hr rfl)⟩
theorem tt_3_c_lw : RowT (.ofNat 3) [99, 46, 108, 119] 24 := fun ev nv hn A B C D I hr _ => ⟨[], (tx_3_c_lw ev nv A B C D I).trans (tr24_ok hn hr rfl)⟩
theorem tt_3_c_ld : RowT (.ofNat 3) [99, 46, 108, 100] 24 := fun ev nv hn A B C D I hr _ => ⟨[], (tx_3_c_ld ev nv A B C D I).trans (tr24_ok hn hr rfl)⟩
theorem tt_3_c_sw : RowT (.ofNat 3) [99, 46, 115, 119] 30 := fun ev nv hn A B C D I hr _ => ⟨[], (tx_3_c_sw ev nv A B C D I).trans (tr30_ok hn hr rfl)⟩
theorem tt_3_c_sd : RowT (.ofNat 3) [99, 46, 115, 100] 30 := fun ev nv hn A B C D I hr _ => ⟨[], (tx_3_c_sd ev nv A B C D I).trans (tr30_ok hn hr rfl)⟩
theorem tt_3_c_nop : RowT (.ofNat 3) [99, 46, 110, 111, 112] 22 := fun ev nv _ A B C D I _ _ => ⟨[], tx_3_c_nop ev nv A B C D I⟩
theorem tt_3_c_addi : RowT (.ofNat 3) [99, 46, 97, 100, 100, 105] 26 := fun ev nv hn A B C D I hr _ => ⟨[], (tx_3_c_addi ev nv A B C D I).trans (tr26_ok hn hr rfl)⟩
theorem tt_3_c_addiw : RowT (.ofNat 3) [99, 46, 97, 100, 100, 105, 119] 26 := fun ev nv hn A B C D I hr _ => ⟨[], (tx_3_c_addiw ev nv A B C D I).trans (tr26_ok hn hr rfl)⟩
theorem tt_3_c_li : RowT (.ofNat 3) [99, 46, 108, 105] 26 := fun ev nv hn A B C D I hr _ => ⟨[], (tx_3_c_li ev nv A B C D I).trans (tr26_ok hn hr rfl)⟩
theorem tt_3_c_addi16sp : RowT (.ofNat 3) [99, 46, 97, 100, 100, 105, 49, 54, 115, 112] 32 := fun ev nv hn A B C D I hr _ => ⟨[], (tx_3_c_addi16sp ev nv A B C D I).trans (tr32_ok hn hr rfl)⟩
theorem tt_3_c_lui : RowT (.ofNat 3) [99, 46, 108, 117, 105] 26 := fun ev nv hn A B C D I hr _ => ⟨[], (tx_3_c_lui ev nv A B C D I).trans (tr26_ok hn hr rfl)⟩
theorem tt_3_c_srli : RowT (.ofNat 3) [99, 46, 115, 114, 108, 105] 26 := fun ev nv hn A B C D I hr _ => ⟨[], (tx_3_c_srli ev nv A B C D I).trans (tr26_ok hn hr rfl)⟩
theorem tt_3_c_srai : RowT (.ofNat 3) [99, 46, 115, 114, 97, 105] 26 := fun ev nv hn A B C D I hr _ => ⟨[], (tx_3_c_srai ev nv A B C D I).trans (tr26_ok hn hr rfl)⟩
theorem tt_3_c_andi : RowT (.ofNat 3) [99, 46, 97, 110, 100, 105] 26 := fun ev nv hn A B C D I hr _ => ⟨[], (tx_3_c_andi ev nv A B C D I).trans (tr26_ok hn hr rfl)⟩
theorem tt_3_c_sub : RowT (.ofNat 3) [99, 46, 115, 117, 98] 25 := fun ev nv hn A B C D I hr _ => ⟨[], (tx_3_c_sub ev nv A B C D I).trans (tr25_ok hn hr rfl)⟩
theorem tt_3_c_xor : RowT (.ofNat 3) [99, 46, 120, 111, 114] 25 := fun ev nv hn A B C D I hr _ => ⟨[], (tx_3_c_xor ev nv A B C D I).trans (tr25_ok hn hr rfl)⟩
theorem tt_3_c_or : RowT (.ofNat 3) [99, 46, 111, 114] 25 := fun ev nv hn A B C D I hr _ => ⟨[], (tx_3_c_or ev nv A B C D I).trans (tr25_ok hn hr rfl)⟩
theorem tt_3_c_and : RowT (.ofNat 3) [99, 46, 97, 110, 100] 25 := fun ev nv hn A B C D I hr _ => ⟨[], (tx_3_c_and ev nv A B C D I).trans (tr25_ok hn hr rfl)⟩
theorem tt_3_c_subw : RowT (.ofNat 3) [99, 46, 115, 117, 98, 119] 25 := fun ev nv hn A B C D I hr _ => ⟨[], (tx_3_c_subw ev nv A B C D I).trans (tr25_ok hn hr rfl)⟩
theorem tt_3_c_addw : RowT (.ofNat 3) [99, 46, 97, 100, 100, 119] 25 := fun ev nv hn A B C D I hr _ => ⟨[], (tx_3_c_addw ev nv A B C D I).trans (tr25_ok hn hr rfl)⟩
theorem tt_3_c_j : RowT (.ofNat 3) [99, 46, 106] 32 := fun ev nv hn A B C D I hr _ => ⟨[], (tx_3_c_j ev nv A B C D I).trans (tr32_ok hn hr rfl)⟩
theorem tt_3_c_beqz : RowT (.ofNat 3) [99, 46, 98, 101, 113, 122] 29 := fun ev nv hn A B C D I hr _ => ⟨[], (tx_3_c_beqz ev nv A B C D I).trans (tr29_ok hn hr rfl)⟩
theorem tt_3_c_bnez : RowT (.ofNat 3) [99, 46, 98, 110, 101, 122] 29 := fun ev nv hn A B C D I hr _ => ⟨[], (tx_3_c_bnez ev nv A B C D I).trans (tr29_ok hn hr rfl)⟩
theorem tt_3_c_slli : RowT (.ofNat 3) [99, 46, 115, 108, 108, 105] 26 := fun ev nv hn A B C D I hr _ => ⟨[], (tx_3_c_slli ev nv A B C D I).trans (tr26_ok hn hr rfl)⟩
theorem tt_3_c_lwsp : RowT (.ofNat 3) [99, 46, 108, 119, 115, 112] 26 := fun ev nv hn A B C D I hr _ => ⟨[], (tx_3_c_lwsp ev nv A B C D I).trans (tr26_ok hn hr rfl)⟩
theorem tt_3_c_ldsp : RowT (.ofNat 3) [99, 46, 108, 100, 115, 112] 26 := fun ev nv hn A B C D I hr _ => ⟨[], (tx_3_c_ldsp ev nv A B C D I).trans (tr26_ok hn hr rfl)⟩
theorem tt_3_c_jr : RowT (.ofNat 3) [99, 46, 106, 114] 27 := fun ev nv hn A B C D I hr _ => ⟨[], (tx_3_c_jr ev nv A B C D I).trans (tr27_ok hn hr rfl)⟩
theorem tt_3_c_jalr : RowT (.ofNat 3) [99, 46, 106, 97, 108, 114] 27 := fun ev nv hn A B C D I hr _ => ⟨[], (tx_3_c_jalr ev nv A B C D I).trans (tr27_ok hn hr rfl)⟩
theorem tt_3_c_mv : RowT (.ofNat 3) [99, 46, 109, 118] 25 := fun ev nv hn A B C D I hr _ => ⟨[], (tx_3_c_mv ev nv A B C D I).trans (tr25_ok hn hr rfl)⟩
theorem tt_3_c_add : RowT (.ofNat 3) [99, 46, 97, 100, 100] 25 := fun ev nv hn A B C D I hr _ => ⟨[], (tx_3_c_add ev nv A B C D I).trans (tr25_ok hn hr rfl)⟩
theorem tt_3_c_ebreak : RowT (.ofNat 3) [99, 46, 101, 98, 114, 101, 97, 107] 22 := fun ev nv _ A B C D I _ _ => ⟨[], tx_3_c_ebreak ev nv A B C D I⟩
theorem tt_3_c_swsp : RowT (.ofNat 3) [99, 46, 115, 119, 115, 112] 31 := fun ev nv hn A B C D I hr _ => ⟨[], (tx_3_c_swsp ev nv A B C D I).trans (tr31_ok hn hr rfl)⟩
theorem tt_3_c_sdsp : RowT (.ofNat 3) [99, 46, 115, 100, 115, 112] 31 := fun ev nv hn A B C D I hr _ => ⟨[], (tx_3_c_sdsp ev nv A B C D I).trans (tr31_ok hn hr rfl)⟩
end
end Go.Proofs.YtlclahpapabkdaaGreatDoor
