/- Encode and Check of all instructions at Imm 0. -/
import Derived.Test.YtbfdooplkdofeaaGreatDoorAsK
import Derived.Test.YtbfdooplkdofeaaGreatDoorAsQ
import Derived.Test.YtbfdooplkdofeaaGreatDoorAsR0
import Derived.Test.YtbfdooplkdofeaaGreatDoorAsR1
import Derived.Test.YtbfdooplkdofeaaGreatDoorAsR2
import Derived.Test.YtbfdooplkdofeaaGreatDoorAsR3
import Derived.KernelRfl
namespace Go.Proofs.YtbfdooplkdofeaaGreatDoor
open Go Go.Vai
noncomputable section
set_option maxRecDepth 100000
abbrev Fn4 := Int → Int → Int → Int → Int
abbrev Ent := List UInt8 × Fn4 × Fn4
def Row (t : Int) (x : Ent) : Prop := (∀ A B C D, AnsO 17 [.int .i64 t, insV x.1 A B C D (.ofNat 0)] (.tup [.opq none, .int .i64 (x.2.1 A B C D)])) ∧ (∀ A B C D, AnsV 20 [.int .i64 t, insV x.1 A B C D (.ofNat 0)] (.int .i64 (x.2.2 A B C D)))
def AllR (t : Int) : List Ent → Prop
  | [] => True
  | x :: l => Row t x ∧ AllR t l
theorem Zef {t : Int} : ∀ {l : List Ent}, AllR t l → ∀ x ∈ l, Row t x
  | _ :: _, h, x, hx => by
    rcases List.mem_cons.1 hx with rfl | hx
    · exact h.1
    · exact Zef h.2 x hx
def em0 (A B C D : Int) : Int := bc (ieq D (.ofNat 0)) (ee38 A B C) (bc (ieq D (.ofNat 1)) (ee39 A B C) (bc (ieq D (.ofNat 2)) (ee39 A B C) (bc (ieq D (.ofNat 4)) (ee39 A B C) (bc (ieq D (.ofNat 8)) (ee39 A B C) (.ofNat 13)))))
def em1 (A B C D : Int) : Int := bc (ieq D (.ofNat 0)) (ee40 A B C) (bc (ieq D (.ofNat 1)) (ee41 A B C) (bc (ieq D (.ofNat 2)) (ee41 A B C) (bc (ieq D (.ofNat 4)) (ee41 A B C) (bc (ieq D (.ofNat 8)) (ee41 A B C) (.ofNat 13)))))
def rm_0 (A B C D : Int) : Int := bc (ieq D (.ofNat 0)) (ee70 A B C) (bc (ieq D (.ofNat 1)) (ee71 A B C) (bc (ieq D (.ofNat 2)) (ee71 A B C) (bc (ieq D (.ofNat 4)) (ee71 A B C) (bc (ieq D (.ofNat 8)) (ee71 A B C) (.ofNat 13)))))
def rm_1 (A B C D : Int) : Int := bc (ieq D (.ofNat 0)) (ee72 A B C) (bc (ieq D (.ofNat 1)) (ee73 A B C) (bc (ieq D (.ofNat 2)) (ee73 A B C) (bc (ieq D (.ofNat 4)) (ee73 A B C) (bc (ieq D (.ofNat 8)) (ee73 A B C) (.ofNat 13)))))
theorem emall {nm : List UInt8} {f0 : Int → Int → Int → Option AV} {e0 : Int → Int → Int → Int} (r0 : ∀ A B C, go9 1 nm A B C (.ofNat 0) = f0 A B C) (v0 : ∀ A B C, f0 A B C = some (.tup [.opq none, .int .i64 (e0 A B C)])) {f1 : Int → Int → Int → Option AV} {e1 : Int → Int → Int → Int} (r1 : ∀ A B C, go9 1 nm A B C (.ofNat 1) = f1 A B C) (v1 : ∀ A B C, f1 A B C = some (.tup [.opq none, .int .i64 (e1 A B C)])) {f2 : Int → Int → Int → Option AV} {e2 : Int → Int → Int → Int} (r2 : ∀ A B C, go9 1 nm A B C (.ofNat 2) = f2 A B C) (v2 : ∀ A B C, f2 A B C = some (.tup [.opq none, .int .i64 (e2 A B C)])) {f4 : Int → Int → Int → Option AV} {e4 : Int → Int → Int → Int} (r4 : ∀ A B C, go9 1 nm A B C (.ofNat 4) = f4 A B C) (v4 : ∀ A B C, f4 A B C = some (.tup [.opq none, .int .i64 (e4 A B C)])) {f8 : Int → Int → Int → Option AV} {e8 : Int → Int → Int → Int} (r8 : ∀ A B C, go9 1 nm A B C (.ofNat 8) = f8 A B C) (v8 : ∀ A B C, f8 A B C = some (.tup [.opq none, .int .i64 (e8 A B C)])) (rl : ∀ A B C D, go9e 1 nm A B C D = efE0 A B C D) (A B C D : Int) : AnsO 17 [.int .i64 (.ofNat 1), insV nm A B C D (.ofNat 0)] (.tup [.opq none, .int .i64 (bc (ieq D (.ofNat 0)) (e0 A B C) (bc (ieq D (.ofNat 1)) (e1 A B C) (bc (ieq D (.ofNat 2)) (e2 A B C) (bc (ieq D (.ofNat 4)) (e4 A B C) (bc (ieq D (.ofNat 8)) (e8 A B C) (.ofNat 13))))))]) := by
  cases h0 : ieq D (.ofNat 0) with
  | true => rw [Zai]; have := Zei h0; subst this; exact ansE (r0 A B C) (v0 A B C)
  | false =>
  rw [Zas]
  cases h1 : ieq D (.ofNat 1) with
  | true => rw [Zai]; have := Zei h1; subst this; exact ansE (r1 A B C) (v1 A B C)
  | false =>
  rw [Zas]
  cases h2 : ieq D (.ofNat 2) with
  | true => rw [Zai]; have := Zei h2; subst this; exact ansE (r2 A B C) (v2 A B C)
  | false =>
  rw [Zas]
  cases h4 : ieq D (.ofNat 4) with
  | true => rw [Zai]; have := Zei h4; subst this; exact ansE (r4 A B C) (v4 A B C)
  | false =>
  rw [Zas]
  cases h8 : ieq D (.ofNat 8) with
  | true => rw [Zai]; have := Zei h8; subst this; exact ansE (r8 A B C) (v8 A B C)
  | false =>
  rw [Zas]
  exact ansEe (rl A B C D) (efE0_val _ _ _ _ h0 h1 h2 h4 h8)
theorem ema_1_mov_rm : ∀ A B C D : Int, AnsO 17 [.int .i64 (.ofNat 1), insV [109, 111, 118, 46, 114, 109] A B C D (.ofNat 0)] (.tup [.opq none, .int .i64 (em0 A B C D)]) := emall m1_mov_rm_0 ev38 m1_mov_rm_1 ev39 m1_mov_rm_2 ev39 m1_mov_rm_4 ev39 m1_mov_rm_8 ev39 l1_mov_rm
theorem ema_1_movl_rm : ∀ A B C D : Int, AnsO 17 [.int .i64 (.ofNat 1), insV [109, 111, 118, 108, 46, 114, 109] A B C D (.ofNat 0)] (.tup [.opq none, .int .i64 (em1 A B C D)]) := emall m1_movl_rm_0 ev40 m1_movl_rm_1 ev41 m1_movl_rm_2 ev41 m1_movl_rm_4 ev41 m1_movl_rm_8 ev41 l1_movl_rm
theorem ema_1_movsl_rm : ∀ A B C D : Int, AnsO 17 [.int .i64 (.ofNat 1), insV [109, 111, 118, 115, 108, 46, 114, 109] A B C D (.ofNat 0)] (.tup [.opq none, .int .i64 (em0 A B C D)]) := emall m1_movsl_rm_0 ev38 m1_movsl_rm_1 ev39 m1_movsl_rm_2 ev39 m1_movsl_rm_4 ev39 m1_movsl_rm_8 ev39 l1_movsl_rm
theorem ema_1_movzb_rm : ∀ A B C D : Int, AnsO 17 [.int .i64 (.ofNat 1), insV [109, 111, 118, 122, 98, 46, 114, 109] A B C D (.ofNat 0)] (.tup [.opq none, .int .i64 (em0 A B C D)]) := emall m1_movzb_rm_0 ev38 m1_movzb_rm_1 ev39 m1_movzb_rm_2 ev39 m1_movzb_rm_4 ev39 m1_movzb_rm_8 ev39 l1_movzb_rm
theorem ema_1_lea : ∀ A B C D : Int, AnsO 17 [.int .i64 (.ofNat 1), insV [108, 101, 97] A B C D (.ofNat 0)] (.tup [.opq none, .int .i64 (em0 A B C D)]) := emall m1_lea_0 ev38 m1_lea_1 ev39 m1_lea_2 ev39 m1_lea_4 ev39 m1_lea_8 ev39 l1_lea
theorem ema_1_mov_mr : ∀ A B C D : Int, AnsO 17 [.int .i64 (.ofNat 1), insV [109, 111, 118, 46, 109, 114] A B C D (.ofNat 0)] (.tup [.opq none, .int .i64 (em0 A B C D)]) := emall m1_mov_mr_0 ev38 m1_mov_mr_1 ev39 m1_mov_mr_2 ev39 m1_mov_mr_4 ev39 m1_mov_mr_8 ev39 l1_mov_mr
theorem ema_1_movl_mr : ∀ A B C D : Int, AnsO 17 [.int .i64 (.ofNat 1), insV [109, 111, 118, 108, 46, 109, 114] A B C D (.ofNat 0)] (.tup [.opq none, .int .i64 (em1 A B C D)]) := emall m1_movl_mr_0 ev40 m1_movl_mr_1 ev41 m1_movl_mr_2 ev41 m1_movl_mr_4 ev41 m1_movl_mr_8 ev41 l1_movl_mr
theorem ema_1_movb_mr : ∀ A B C D : Int, AnsO 17 [.int .i64 (.ofNat 1), insV [109, 111, 118, 98, 46, 109, 114] A B C D (.ofNat 0)] (.tup [.opq none, .int .i64 (em0 A B C D)]) := emall m1_movb_mr_0 ev38 m1_movb_mr_1 ev39 m1_movb_mr_2 ev39 m1_movb_mr_4 ev39 m1_movb_mr_8 ev39 l1_movb_mr
theorem ema_1_add_rm : ∀ A B C D : Int, AnsO 17 [.int .i64 (.ofNat 1), insV [97, 100, 100, 46, 114, 109] A B C D (.ofNat 0)] (.tup [.opq none, .int .i64 (em0 A B C D)]) := emall m1_add_rm_0 ev38 m1_add_rm_1 ev39 m1_add_rm_2 ev39 m1_add_rm_4 ev39 m1_add_rm_8 ev39 l1_add_rm
theorem ema_1_or_rm : ∀ A B C D : Int, AnsO 17 [.int .i64 (.ofNat 1), insV [111, 114, 46, 114, 109] A B C D (.ofNat 0)] (.tup [.opq none, .int .i64 (em0 A B C D)]) := emall m1_or_rm_0 ev38 m1_or_rm_1 ev39 m1_or_rm_2 ev39 m1_or_rm_4 ev39 m1_or_rm_8 ev39 l1_or_rm
theorem ema_1_and_rm : ∀ A B C D : Int, AnsO 17 [.int .i64 (.ofNat 1), insV [97, 110, 100, 46, 114, 109] A B C D (.ofNat 0)] (.tup [.opq none, .int .i64 (em0 A B C D)]) := emall m1_and_rm_0 ev38 m1_and_rm_1 ev39 m1_and_rm_2 ev39 m1_and_rm_4 ev39 m1_and_rm_8 ev39 l1_and_rm
theorem ema_1_sub_rm : ∀ A B C D : Int, AnsO 17 [.int .i64 (.ofNat 1), insV [115, 117, 98, 46, 114, 109] A B C D (.ofNat 0)] (.tup [.opq none, .int .i64 (em0 A B C D)]) := emall m1_sub_rm_0 ev38 m1_sub_rm_1 ev39 m1_sub_rm_2 ev39 m1_sub_rm_4 ev39 m1_sub_rm_8 ev39 l1_sub_rm
theorem ema_1_xor_rm : ∀ A B C D : Int, AnsO 17 [.int .i64 (.ofNat 1), insV [120, 111, 114, 46, 114, 109] A B C D (.ofNat 0)] (.tup [.opq none, .int .i64 (em0 A B C D)]) := emall m1_xor_rm_0 ev38 m1_xor_rm_1 ev39 m1_xor_rm_2 ev39 m1_xor_rm_4 ev39 m1_xor_rm_8 ev39 l1_xor_rm
theorem ema_1_cmp_rm : ∀ A B C D : Int, AnsO 17 [.int .i64 (.ofNat 1), insV [99, 109, 112, 46, 114, 109] A B C D (.ofNat 0)] (.tup [.opq none, .int .i64 (em0 A B C D)]) := emall m1_cmp_rm_0 ev38 m1_cmp_rm_1 ev39 m1_cmp_rm_2 ev39 m1_cmp_rm_4 ev39 m1_cmp_rm_8 ev39 l1_cmp_rm
theorem Zds {nm : List UInt8} {f0 : Int → Int → Int → Option AV} {e0 : Int → Int → Int → Int} (r0 : ∀ A B C, gor nm A B C (.ofNat 0) = f0 A B C) (v0 : ∀ A B C, f0 A B C = some (.tup [.opq none, .int .i64 (e0 A B C)])) {f1 : Int → Int → Int → Option AV} {e1 : Int → Int → Int → Int} (r1 : ∀ A B C, gor nm A B C (.ofNat 1) = f1 A B C) (v1 : ∀ A B C, f1 A B C = some (.tup [.opq none, .int .i64 (e1 A B C)])) {f2 : Int → Int → Int → Option AV} {e2 : Int → Int → Int → Int} (r2 : ∀ A B C, gor nm A B C (.ofNat 2) = f2 A B C) (v2 : ∀ A B C, f2 A B C = some (.tup [.opq none, .int .i64 (e2 A B C)])) {f4 : Int → Int → Int → Option AV} {e4 : Int → Int → Int → Int} (r4 : ∀ A B C, gor nm A B C (.ofNat 4) = f4 A B C) (v4 : ∀ A B C, f4 A B C = some (.tup [.opq none, .int .i64 (e4 A B C)])) {f8 : Int → Int → Int → Option AV} {e8 : Int → Int → Int → Int} (r8 : ∀ A B C, gor nm A B C (.ofNat 8) = f8 A B C) (v8 : ∀ A B C, f8 A B C = some (.tup [.opq none, .int .i64 (e8 A B C)])) (rl : ∀ A B C D, gore nm A B C D = efR0 A B C D) (A B C D : Int) : AnsO 42 [insV nm A B C D (.ofNat 0)] (.tup [.opq none, .int .i64 (bc (ieq D (.ofNat 0)) (e0 A B C) (bc (ieq D (.ofNat 1)) (e1 A B C) (bc (ieq D (.ofNat 2)) (e2 A B C) (bc (ieq D (.ofNat 4)) (e4 A B C) (bc (ieq D (.ofNat 8)) (e8 A B C) (.ofNat 13))))))]) := by
  cases h0 : ieq D (.ofNat 0) with
  | true => rw [Zai]; have := Zei h0; subst this; exact ansR (r0 A B C) (v0 A B C)
  | false =>
  rw [Zas]
  cases h1 : ieq D (.ofNat 1) with
  | true => rw [Zai]; have := Zei h1; subst this; exact ansR (r1 A B C) (v1 A B C)
  | false =>
  rw [Zas]
  cases h2 : ieq D (.ofNat 2) with
  | true => rw [Zai]; have := Zei h2; subst this; exact ansR (r2 A B C) (v2 A B C)
  | false =>
  rw [Zas]
  cases h4 : ieq D (.ofNat 4) with
  | true => rw [Zai]; have := Zei h4; subst this; exact ansR (r4 A B C) (v4 A B C)
  | false =>
  rw [Zas]
  cases h8 : ieq D (.ofNat 8) with
  | true => rw [Zai]; have := Zei h8; subst this; exact ansR (r8 A B C) (v8 A B C)
  | false =>
  rw [Zas]
  exact ansRe (rl A B C D) (efR0_val _ _ _ _ h0 h1 h2 h4 h8)
theorem rm_a_1_mov_rm : ∀ A B C D : Int, AnsO 42 [insV [109, 111, 118, 46, 114, 109] A B C D (.ofNat 0)] (.tup [.opq none, .int .i64 (rm_0 A B C D)]) := Zds r1_mov_rm_0 ev70 r1_mov_rm_1 ev71 r1_mov_rm_2 ev71 r1_mov_rm_4 ev71 r1_mov_rm_8 ev71 w1_mov_rm
theorem rm_a_1_movl_rm : ∀ A B C D : Int, AnsO 42 [insV [109, 111, 118, 108, 46, 114, 109] A B C D (.ofNat 0)] (.tup [.opq none, .int .i64 (rm_1 A B C D)]) := Zds r1_movl_rm_0 ev72 r1_movl_rm_1 ev73 r1_movl_rm_2 ev73 r1_movl_rm_4 ev73 r1_movl_rm_8 ev73 w1_movl_rm
theorem rm_a_1_movsl_rm : ∀ A B C D : Int, AnsO 42 [insV [109, 111, 118, 115, 108, 46, 114, 109] A B C D (.ofNat 0)] (.tup [.opq none, .int .i64 (rm_0 A B C D)]) := Zds r1_movsl_rm_0 ev70 r1_movsl_rm_1 ev71 r1_movsl_rm_2 ev71 r1_movsl_rm_4 ev71 r1_movsl_rm_8 ev71 w1_movsl_rm
theorem rm_a_1_movzb_rm : ∀ A B C D : Int, AnsO 42 [insV [109, 111, 118, 122, 98, 46, 114, 109] A B C D (.ofNat 0)] (.tup [.opq none, .int .i64 (rm_0 A B C D)]) := Zds r1_movzb_rm_0 ev70 r1_movzb_rm_1 ev71 r1_movzb_rm_2 ev71 r1_movzb_rm_4 ev71 r1_movzb_rm_8 ev71 w1_movzb_rm
theorem rm_a_1_lea : ∀ A B C D : Int, AnsO 42 [insV [108, 101, 97] A B C D (.ofNat 0)] (.tup [.opq none, .int .i64 (rm_0 A B C D)]) := Zds r1_lea_0 ev70 r1_lea_1 ev71 r1_lea_2 ev71 r1_lea_4 ev71 r1_lea_8 ev71 w1_lea
theorem rm_a_1_mov_mr : ∀ A B C D : Int, AnsO 42 [insV [109, 111, 118, 46, 109, 114] A B C D (.ofNat 0)] (.tup [.opq none, .int .i64 (rm_0 A B C D)]) := Zds r1_mov_mr_0 ev70 r1_mov_mr_1 ev71 r1_mov_mr_2 ev71 r1_mov_mr_4 ev71 r1_mov_mr_8 ev71 w1_mov_mr
theorem rm_a_1_movl_mr : ∀ A B C D : Int, AnsO 42 [insV [109, 111, 118, 108, 46, 109, 114] A B C D (.ofNat 0)] (.tup [.opq none, .int .i64 (rm_1 A B C D)]) := Zds r1_movl_mr_0 ev72 r1_movl_mr_1 ev73 r1_movl_mr_2 ev73 r1_movl_mr_4 ev73 r1_movl_mr_8 ev73 w1_movl_mr
theorem rm_a_1_movb_mr : ∀ A B C D : Int, AnsO 42 [insV [109, 111, 118, 98, 46, 109, 114] A B C D (.ofNat 0)] (.tup [.opq none, .int .i64 (rm_0 A B C D)]) := Zds r1_movb_mr_0 ev70 r1_movb_mr_1 ev71 r1_movb_mr_2 ev71 r1_movb_mr_4 ev71 r1_movb_mr_8 ev71 w1_movb_mr
theorem rm_a_1_add_rm : ∀ A B C D : Int, AnsO 42 [insV [97, 100, 100, 46, 114, 109] A B C D (.ofNat 0)] (.tup [.opq none, .int .i64 (rm_0 A B C D)]) := Zds r1_add_rm_0 ev70 r1_add_rm_1 ev71 r1_add_rm_2 ev71 r1_add_rm_4 ev71 r1_add_rm_8 ev71 w1_add_rm
theorem rm_a_1_or_rm : ∀ A B C D : Int, AnsO 42 [insV [111, 114, 46, 114, 109] A B C D (.ofNat 0)] (.tup [.opq none, .int .i64 (rm_0 A B C D)]) := Zds r1_or_rm_0 ev70 r1_or_rm_1 ev71 r1_or_rm_2 ev71 r1_or_rm_4 ev71 r1_or_rm_8 ev71 w1_or_rm
theorem rm_a_1_and_rm : ∀ A B C D : Int, AnsO 42 [insV [97, 110, 100, 46, 114, 109] A B C D (.ofNat 0)] (.tup [.opq none, .int .i64 (rm_0 A B C D)]) := Zds r1_and_rm_0 ev70 r1_and_rm_1 ev71 r1_and_rm_2 ev71 r1_and_rm_4 ev71 r1_and_rm_8 ev71 w1_and_rm
theorem rm_a_1_sub_rm : ∀ A B C D : Int, AnsO 42 [insV [115, 117, 98, 46, 114, 109] A B C D (.ofNat 0)] (.tup [.opq none, .int .i64 (rm_0 A B C D)]) := Zds r1_sub_rm_0 ev70 r1_sub_rm_1 ev71 r1_sub_rm_2 ev71 r1_sub_rm_4 ev71 r1_sub_rm_8 ev71 w1_sub_rm
theorem rm_a_1_xor_rm : ∀ A B C D : Int, AnsO 42 [insV [120, 111, 114, 46, 114, 109] A B C D (.ofNat 0)] (.tup [.opq none, .int .i64 (rm_0 A B C D)]) := Zds r1_xor_rm_0 ev70 r1_xor_rm_1 ev71 r1_xor_rm_2 ev71 r1_xor_rm_4 ev71 r1_xor_rm_8 ev71 w1_xor_rm
theorem rm_a_1_cmp_rm : ∀ A B C D : Int, AnsO 42 [insV [99, 109, 112, 46, 114, 109] A B C D (.ofNat 0)] (.tup [.opq none, .int .i64 (rm_0 A B C D)]) := Zds r1_cmp_rm_0 ev70 r1_cmp_rm_1 ev71 r1_cmp_rm_2 ev71 r1_cmp_rm_4 ev71 r1_cmp_rm_8 ev71 w1_cmp_rm
def tab1 : List Ent :=
  ([109, 111, 118, 46, 114, 114], ee0, ee42) ::
  ([109, 111, 118, 46, 114, 105], ee1, ee43) ::
  ([109, 111, 118, 46, 114, 115], ee1, ee43) ::
  ([109, 111, 118, 46, 114, 109], em0, ee44) ::
  ([109, 111, 118, 108, 46, 114, 109], em1, ee44) ::
  ([109, 111, 118, 115, 108, 46, 114, 109], em0, ee44) ::
  ([109, 111, 118, 122, 98, 46, 114, 109], em0, ee44) ::
  ([108, 101, 97], em0, ee44) ::
  ([109, 111, 118, 46, 109, 114], em0, ee44) ::
  ([109, 111, 118, 108, 46, 109, 114], em1, ee44) ::
  ([109, 111, 118, 98, 46, 109, 114], em0, ee44) ::
  ([109, 111, 118, 46, 102, 115], ee1, ee43) ::
  ([97, 100, 100, 46, 114, 114], ee0, ee42) ::
  ([111, 114, 46, 114, 114], ee0, ee42) ::
  ([97, 110, 100, 46, 114, 114], ee0, ee42) ::
  ([115, 117, 98, 46, 114, 114], ee0, ee42) ::
  ([120, 111, 114, 46, 114, 114], ee0, ee42) ::
  ([99, 109, 112, 46, 114, 114], ee0, ee42) ::
  ([97, 100, 100, 46, 114, 109], em0, ee44) ::
  ([111, 114, 46, 114, 109], em0, ee44) ::
  ([97, 110, 100, 46, 114, 109], em0, ee44) ::
  ([115, 117, 98, 46, 114, 109], em0, ee44) ::
  ([120, 111, 114, 46, 114, 109], em0, ee44) ::
  ([99, 109, 112, 46, 114, 109], em0, ee44) ::
  ([97, 100, 100, 46, 114, 105], ee1, ee43) ::
  ([111, 114, 46, 114, 105], ee1, ee43) ::
  ([97, 110, 100, 46, 114, 105], ee1, ee43) ::
  ([115, 117, 98, 46, 114, 105], ee1, ee43) ::
  ([120, 111, 114, 46, 114, 105], ee1, ee43) ::
  ([99, 109, 112, 46, 114, 105], ee1, ee43) ::
  ([116, 101, 115, 116, 46, 114, 114], ee0, ee42) ::
  ([105, 109, 117, 108, 46, 114, 114], ee0, ee42) ::
  ([110, 111, 116], ee1, ee43) ::
  ([110, 101, 103], ee1, ee43) ::
  ([109, 117, 108], ee1, ee43) ::
  ([100, 105, 118], ee1, ee43) ::
  ([105, 100, 105, 118], ee1, ee43) ::
  ([99, 113, 111], ee2, ee45) ::
  ([115, 104, 108, 46, 114, 105], ee1, ee43) ::
  ([115, 104, 114, 46, 114, 105], ee1, ee43) ::
  ([115, 97, 114, 46, 114, 105], ee1, ee43) ::
  ([115, 104, 108, 46, 114, 99], ee1, ee43) ::
  ([115, 104, 114, 46, 114, 99], ee1, ee43) ::
  ([115, 97, 114, 46, 114, 99], ee1, ee43) ::
  ([99, 109, 111, 118], ee3, ee46) ::
  ([112, 117, 115, 104], ee4, ee43) ::
  ([112, 111, 112], ee4, ee43) ::
  ([99, 97, 108, 108], ee2, ee45) ::
  ([106, 109, 112], ee2, ee45) ::
  ([106, 109, 112, 46, 115], ee2, ee45) ::
  ([99, 97, 108, 108, 46, 114], ee5, ee43) ::
  ([106, 109, 112, 46, 114], ee5, ee43) ::
  ([106, 99, 99], ee6, ee47) ::
  ([106, 99, 99, 46, 115], ee6, ee47) ::
  ([114, 101, 116], ee2, ee45) ::
  ([115, 121, 115, 99, 97, 108, 108], ee2, ee45) ::
  ([110, 111, 112], ee2, ee45) ::
  ([117, 100, 50], ee2, ee45) :: []
theorem tab1_ok : AllR (.ofNat 1) tab1 := ⟨⟨fun _ _ _ _ => ansE (e1_mov_rr ..) (ev0 ..), fun _ _ _ _ => ansC (c1_mov_rr ..) (ev42 ..)⟩,
  ⟨fun _ _ _ _ => ansE (e1_mov_ri ..) (ev1 ..), fun _ _ _ _ => ansC (c1_mov_ri ..) (ev43 ..)⟩,
  ⟨fun _ _ _ _ => ansE (e1_mov_rs ..) (ev1 ..), fun _ _ _ _ => ansC (c1_mov_rs ..) (ev43 ..)⟩,
  ⟨ema_1_mov_rm, fun _ _ _ _ => ansC (c1_mov_rm ..) (ev44 ..)⟩,
  ⟨ema_1_movl_rm, fun _ _ _ _ => ansC (c1_movl_rm ..) (ev44 ..)⟩,
  ⟨ema_1_movsl_rm, fun _ _ _ _ => ansC (c1_movsl_rm ..) (ev44 ..)⟩,
  ⟨ema_1_movzb_rm, fun _ _ _ _ => ansC (c1_movzb_rm ..) (ev44 ..)⟩,
  ⟨ema_1_lea, fun _ _ _ _ => ansC (c1_lea ..) (ev44 ..)⟩,
  ⟨ema_1_mov_mr, fun _ _ _ _ => ansC (c1_mov_mr ..) (ev44 ..)⟩,
  ⟨ema_1_movl_mr, fun _ _ _ _ => ansC (c1_movl_mr ..) (ev44 ..)⟩,
  ⟨ema_1_movb_mr, fun _ _ _ _ => ansC (c1_movb_mr ..) (ev44 ..)⟩,
  ⟨fun _ _ _ _ => ansE (e1_mov_fs ..) (ev1 ..), fun _ _ _ _ => ansC (c1_mov_fs ..) (ev43 ..)⟩,
  ⟨fun _ _ _ _ => ansE (e1_add_rr ..) (ev0 ..), fun _ _ _ _ => ansC (c1_add_rr ..) (ev42 ..)⟩,
  ⟨fun _ _ _ _ => ansE (e1_or_rr ..) (ev0 ..), fun _ _ _ _ => ansC (c1_or_rr ..) (ev42 ..)⟩,
  ⟨fun _ _ _ _ => ansE (e1_and_rr ..) (ev0 ..), fun _ _ _ _ => ansC (c1_and_rr ..) (ev42 ..)⟩,
  ⟨fun _ _ _ _ => ansE (e1_sub_rr ..) (ev0 ..), fun _ _ _ _ => ansC (c1_sub_rr ..) (ev42 ..)⟩,
  ⟨fun _ _ _ _ => ansE (e1_xor_rr ..) (ev0 ..), fun _ _ _ _ => ansC (c1_xor_rr ..) (ev42 ..)⟩,
  ⟨fun _ _ _ _ => ansE (e1_cmp_rr ..) (ev0 ..), fun _ _ _ _ => ansC (c1_cmp_rr ..) (ev42 ..)⟩,
  ⟨ema_1_add_rm, fun _ _ _ _ => ansC (c1_add_rm ..) (ev44 ..)⟩,
  ⟨ema_1_or_rm, fun _ _ _ _ => ansC (c1_or_rm ..) (ev44 ..)⟩,
  ⟨ema_1_and_rm, fun _ _ _ _ => ansC (c1_and_rm ..) (ev44 ..)⟩,
  ⟨ema_1_sub_rm, fun _ _ _ _ => ansC (c1_sub_rm ..) (ev44 ..)⟩,
  ⟨ema_1_xor_rm, fun _ _ _ _ => ansC (c1_xor_rm ..) (ev44 ..)⟩,
  ⟨ema_1_cmp_rm, fun _ _ _ _ => ansC (c1_cmp_rm ..) (ev44 ..)⟩,
  ⟨fun _ _ _ _ => ansE (e1_add_ri ..) (ev1 ..), fun _ _ _ _ => ansC (c1_add_ri ..) (ev43 ..)⟩,
  ⟨fun _ _ _ _ => ansE (e1_or_ri ..) (ev1 ..), fun _ _ _ _ => ansC (c1_or_ri ..) (ev43 ..)⟩,
  ⟨fun _ _ _ _ => ansE (e1_and_ri ..) (ev1 ..), fun _ _ _ _ => ansC (c1_and_ri ..) (ev43 ..)⟩,
  ⟨fun _ _ _ _ => ansE (e1_sub_ri ..) (ev1 ..), fun _ _ _ _ => ansC (c1_sub_ri ..) (ev43 ..)⟩,
  ⟨fun _ _ _ _ => ansE (e1_xor_ri ..) (ev1 ..), fun _ _ _ _ => ansC (c1_xor_ri ..) (ev43 ..)⟩,
  ⟨fun _ _ _ _ => ansE (e1_cmp_ri ..) (ev1 ..), fun _ _ _ _ => ansC (c1_cmp_ri ..) (ev43 ..)⟩,
  ⟨fun _ _ _ _ => ansE (e1_test_rr ..) (ev0 ..), fun _ _ _ _ => ansC (c1_test_rr ..) (ev42 ..)⟩,
  ⟨fun _ _ _ _ => ansE (e1_imul_rr ..) (ev0 ..), fun _ _ _ _ => ansC (c1_imul_rr ..) (ev42 ..)⟩,
  ⟨fun _ _ _ _ => ansE (e1_not ..) (ev1 ..), fun _ _ _ _ => ansC (c1_not ..) (ev43 ..)⟩,
  ⟨fun _ _ _ _ => ansE (e1_neg ..) (ev1 ..), fun _ _ _ _ => ansC (c1_neg ..) (ev43 ..)⟩,
  ⟨fun _ _ _ _ => ansE (e1_mul ..) (ev1 ..), fun _ _ _ _ => ansC (c1_mul ..) (ev43 ..)⟩,
  ⟨fun _ _ _ _ => ansE (e1_div ..) (ev1 ..), fun _ _ _ _ => ansC (c1_div ..) (ev43 ..)⟩,
  ⟨fun _ _ _ _ => ansE (e1_idiv ..) (ev1 ..), fun _ _ _ _ => ansC (c1_idiv ..) (ev43 ..)⟩,
  ⟨fun _ _ _ _ => ansE (e1_cqo ..) (ev2 ..), fun _ _ _ _ => ansC (c1_cqo ..) (ev45 ..)⟩,
  ⟨fun _ _ _ _ => ansE (e1_shl_ri ..) (ev1 ..), fun _ _ _ _ => ansC (c1_shl_ri ..) (ev43 ..)⟩,
  ⟨fun _ _ _ _ => ansE (e1_shr_ri ..) (ev1 ..), fun _ _ _ _ => ansC (c1_shr_ri ..) (ev43 ..)⟩,
  ⟨fun _ _ _ _ => ansE (e1_sar_ri ..) (ev1 ..), fun _ _ _ _ => ansC (c1_sar_ri ..) (ev43 ..)⟩,
  ⟨fun _ _ _ _ => ansE (e1_shl_rc ..) (ev1 ..), fun _ _ _ _ => ansC (c1_shl_rc ..) (ev43 ..)⟩,
  ⟨fun _ _ _ _ => ansE (e1_shr_rc ..) (ev1 ..), fun _ _ _ _ => ansC (c1_shr_rc ..) (ev43 ..)⟩,
  ⟨fun _ _ _ _ => ansE (e1_sar_rc ..) (ev1 ..), fun _ _ _ _ => ansC (c1_sar_rc ..) (ev43 ..)⟩,
  ⟨fun _ _ _ _ => ansE (e1_cmov ..) (ev3 ..), fun _ _ _ _ => ansC (c1_cmov ..) (ev46 ..)⟩,
  ⟨fun _ _ _ _ => ansE (e1_push ..) (ev4 ..), fun _ _ _ _ => ansC (c1_push ..) (ev43 ..)⟩,
  ⟨fun _ _ _ _ => ansE (e1_pop ..) (ev4 ..), fun _ _ _ _ => ansC (c1_pop ..) (ev43 ..)⟩,
  ⟨fun _ _ _ _ => ansE (e1_call ..) (ev2 ..), fun _ _ _ _ => ansC (c1_call ..) (ev45 ..)⟩,
  ⟨fun _ _ _ _ => ansE (e1_jmp ..) (ev2 ..), fun _ _ _ _ => ansC (c1_jmp ..) (ev45 ..)⟩,
  ⟨fun _ _ _ _ => ansE (e1_jmp_s ..) (ev2 ..), fun _ _ _ _ => ansC (c1_jmp_s ..) (ev45 ..)⟩,
  ⟨fun _ _ _ _ => ansE (e1_call_r ..) (ev5 ..), fun _ _ _ _ => ansC (c1_call_r ..) (ev43 ..)⟩,
  ⟨fun _ _ _ _ => ansE (e1_jmp_r ..) (ev5 ..), fun _ _ _ _ => ansC (c1_jmp_r ..) (ev43 ..)⟩,
  ⟨fun _ _ _ _ => ansE (e1_jcc ..) (ev6 ..), fun _ _ _ _ => ansC (c1_jcc ..) (ev47 ..)⟩,
  ⟨fun _ _ _ _ => ansE (e1_jcc_s ..) (ev6 ..), fun _ _ _ _ => ansC (c1_jcc_s ..) (ev47 ..)⟩,
  ⟨fun _ _ _ _ => ansE (e1_ret ..) (ev2 ..), fun _ _ _ _ => ansC (c1_ret ..) (ev45 ..)⟩,
  ⟨fun _ _ _ _ => ansE (e1_syscall ..) (ev2 ..), fun _ _ _ _ => ansC (c1_syscall ..) (ev45 ..)⟩,
  ⟨fun _ _ _ _ => ansE (e1_nop ..) (ev2 ..), fun _ _ _ _ => ansC (c1_nop ..) (ev45 ..)⟩,
  ⟨fun _ _ _ _ => ansE (e1_ud2 ..) (ev2 ..), fun _ _ _ _ => ansC (c1_ud2 ..) (ev45 ..)⟩, trivial⟩
def tab2 : List Ent :=
  ([109, 111, 118, 110], ee7 2457862144, ee48) ::
  ([109, 111, 118, 122], ee7 3531603968, ee48) ::
  ([109, 111, 118, 107], ee7 4068474880, ee48) ::
  ([97, 100, 100, 46, 105], ee8 2432696320, ee49) ::
  ([97, 100, 100, 115, 46, 105], ee8 2969567232, ee49) ::
  ([115, 117, 98, 46, 105], ee8 3506438144, ee49) ::
  ([115, 117, 98, 115, 46, 105], ee8 4043309056, ee49) ::
  ([97, 100, 100], ee9 31 63 2332033024 63 10, ee50 63) ::
  ([97, 100, 100, 115], ee9 31 63 2868903936 63 10, ee50 63) ::
  ([115, 117, 98], ee9 31 63 3405774848 63 10, ee50 63) ::
  ([115, 117, 98, 115], ee9 31 63 3942645760 63 10, ee50 63) ::
  ([97, 110, 100], ee9 31 63 2315255808 63 10, ee50 63) ::
  ([111, 114, 114], ee9 31 63 2852126720 63 10, ee50 63) ::
  ([101, 111, 114], ee9 31 63 3388997632 63 10, ee50 63) ::
  ([97, 110, 100, 115], ee9 31 63 3925868544 63 10, ee50 63) ::
  ([97, 110, 100, 46, 105], ee10, ee51 3) ::
  ([111, 114, 114, 46, 105], ee10, ee51 3) ::
  ([101, 111, 114, 46, 105], ee10, ee51 3) ::
  ([97, 110, 100, 115, 46, 105], ee10, ee51 3) ::
  ([109, 97, 100, 100], ee9 31 31 2600468480 31 10, ee50 31) ::
  ([109, 115, 117, 98], ee9 31 31 2600501248 31 10, ee50 31) ::
  ([117, 100, 105, 118], ee11 2596276224 16, ee52) ::
  ([115, 100, 105, 118], ee11 2596277248 16, ee52) ::
  ([108, 115, 108, 118], ee11 2596282368 16, ee52) ::
  ([108, 115, 114, 118], ee11 2596283392 16, ee52) ::
  ([97, 115, 114, 118], ee11 2596284416 16, ee52) ::
  ([115, 98, 102, 109], ee9 63 63 2470445056 63 10, ee53) ::
  ([117, 98, 102, 109], ee9 63 63 3544186880 63 10, ee53) ::
  ([99, 115, 101, 108], ee9 31 13 2592079872 15 12, ee50 13) ::
  ([99, 115, 105, 110, 99], ee9 31 13 2592080896 15 12, ee50 13) ::
  ([97, 100, 114], ee12 268435456, ee54) ::
  ([97, 100, 114, 112], ee12 2415919104, ee54) ::
  ([108, 100, 114, 98], ee13 960495616, ee51 0) ::
  ([115, 116, 114, 98], ee13 956301312, ee51 0) ::
  ([108, 100, 114, 104], ee13 2034237440, ee51 0) ::
  ([115, 116, 114, 104], ee13 2030043136, ee51 0) ::
  ([108, 100, 114, 46, 119], ee13 3107979264, ee51 0) ::
  ([115, 116, 114, 46, 119], ee13 3103784960, ee51 0) ::
  ([108, 100, 114, 115, 119], ee13 3112173568, ee51 0) ::
  ([108, 100, 114], ee13 4181721088, ee51 0) ::
  ([115, 116, 114], ee13 4177526784, ee51 0) ::
  ([108, 100, 112], ee11 2839543808 10, ee52) ::
  ([115, 116, 112], ee11 2835349504 10, ee52) ::
  ([98], ee14, ee55) ::
  ([98, 108], ee14, ee55) ::
  ([98, 46, 99], ee15, ee56) ::
  ([99, 98, 122], ee12 3019898880, ee54) ::
  ([99, 98, 110, 122], ee12 3036676096, ee54) ::
  ([98, 114], ee16 3592355840, ee57) ::
  ([98, 108, 114], ee16 3594452992, ee57) ::
  ([114, 101, 116], ee16 3596550144, ee57) ::
  ([115, 118, 99], ee14, ee55) ::
  ([98, 114, 107], ee14, ee55) ::
  ([110, 111, 112], ee14, ee55) :: []
theorem tab2_ok : AllR (.ofNat 2) tab2 := ⟨⟨fun _ _ _ _ => ansE (e2_movn ..) (ev7 ..), fun _ _ _ _ => ansC (c2_movn ..) (ev48 ..)⟩,
  ⟨fun _ _ _ _ => ansE (e2_movz ..) (ev7 ..), fun _ _ _ _ => ansC (c2_movz ..) (ev48 ..)⟩,
  ⟨fun _ _ _ _ => ansE (e2_movk ..) (ev7 ..), fun _ _ _ _ => ansC (c2_movk ..) (ev48 ..)⟩,
  ⟨fun _ _ _ _ => ansE (e2_add_i ..) (ev8 ..), fun _ _ _ _ => ansC (c2_add_i ..) (ev49 ..)⟩,
  ⟨fun _ _ _ _ => ansE (e2_adds_i ..) (ev8 ..), fun _ _ _ _ => ansC (c2_adds_i ..) (ev49 ..)⟩,
  ⟨fun _ _ _ _ => ansE (e2_sub_i ..) (ev8 ..), fun _ _ _ _ => ansC (c2_sub_i ..) (ev49 ..)⟩,
  ⟨fun _ _ _ _ => ansE (e2_subs_i ..) (ev8 ..), fun _ _ _ _ => ansC (c2_subs_i ..) (ev49 ..)⟩,
  ⟨fun _ _ _ _ => ansE (e2_add ..) (ev9 ..), fun _ _ _ _ => ansC (c2_add ..) (ev50 ..)⟩,
  ⟨fun _ _ _ _ => ansE (e2_adds ..) (ev9 ..), fun _ _ _ _ => ansC (c2_adds ..) (ev50 ..)⟩,
  ⟨fun _ _ _ _ => ansE (e2_sub ..) (ev9 ..), fun _ _ _ _ => ansC (c2_sub ..) (ev50 ..)⟩,
  ⟨fun _ _ _ _ => ansE (e2_subs ..) (ev9 ..), fun _ _ _ _ => ansC (c2_subs ..) (ev50 ..)⟩,
  ⟨fun _ _ _ _ => ansE (e2_and ..) (ev9 ..), fun _ _ _ _ => ansC (c2_and ..) (ev50 ..)⟩,
  ⟨fun _ _ _ _ => ansE (e2_orr ..) (ev9 ..), fun _ _ _ _ => ansC (c2_orr ..) (ev50 ..)⟩,
  ⟨fun _ _ _ _ => ansE (e2_eor ..) (ev9 ..), fun _ _ _ _ => ansC (c2_eor ..) (ev50 ..)⟩,
  ⟨fun _ _ _ _ => ansE (e2_ands ..) (ev9 ..), fun _ _ _ _ => ansC (c2_ands ..) (ev50 ..)⟩,
  ⟨fun _ _ _ _ => ansE (e2_and_i ..) (ev10 ..), fun _ _ _ _ => ansC (c2_and_i ..) (ev51 ..)⟩,
  ⟨fun _ _ _ _ => ansE (e2_orr_i ..) (ev10 ..), fun _ _ _ _ => ansC (c2_orr_i ..) (ev51 ..)⟩,
  ⟨fun _ _ _ _ => ansE (e2_eor_i ..) (ev10 ..), fun _ _ _ _ => ansC (c2_eor_i ..) (ev51 ..)⟩,
  ⟨fun _ _ _ _ => ansE (e2_ands_i ..) (ev10 ..), fun _ _ _ _ => ansC (c2_ands_i ..) (ev51 ..)⟩,
  ⟨fun _ _ _ _ => ansE (e2_madd ..) (ev9 ..), fun _ _ _ _ => ansC (c2_madd ..) (ev50 ..)⟩,
  ⟨fun _ _ _ _ => ansE (e2_msub ..) (ev9 ..), fun _ _ _ _ => ansC (c2_msub ..) (ev50 ..)⟩,
  ⟨fun _ _ _ _ => ansE (e2_udiv ..) (ev11 ..), fun _ _ _ _ => ansC (c2_udiv ..) (ev52 ..)⟩,
  ⟨fun _ _ _ _ => ansE (e2_sdiv ..) (ev11 ..), fun _ _ _ _ => ansC (c2_sdiv ..) (ev52 ..)⟩,
  ⟨fun _ _ _ _ => ansE (e2_lslv ..) (ev11 ..), fun _ _ _ _ => ansC (c2_lslv ..) (ev52 ..)⟩,
  ⟨fun _ _ _ _ => ansE (e2_lsrv ..) (ev11 ..), fun _ _ _ _ => ansC (c2_lsrv ..) (ev52 ..)⟩,
  ⟨fun _ _ _ _ => ansE (e2_asrv ..) (ev11 ..), fun _ _ _ _ => ansC (c2_asrv ..) (ev52 ..)⟩,
  ⟨fun _ _ _ _ => ansE (e2_sbfm ..) (ev9 ..), fun _ _ _ _ => ansC (c2_sbfm ..) (ev53 ..)⟩,
  ⟨fun _ _ _ _ => ansE (e2_ubfm ..) (ev9 ..), fun _ _ _ _ => ansC (c2_ubfm ..) (ev53 ..)⟩,
  ⟨fun _ _ _ _ => ansE (e2_csel ..) (ev9 ..), fun _ _ _ _ => ansC (c2_csel ..) (ev50 ..)⟩,
  ⟨fun _ _ _ _ => ansE (e2_csinc ..) (ev9 ..), fun _ _ _ _ => ansC (c2_csinc ..) (ev50 ..)⟩,
  ⟨fun _ _ _ _ => ansE (e2_adr ..) (ev12 ..), fun _ _ _ _ => ansC (c2_adr ..) (ev54 ..)⟩,
  ⟨fun _ _ _ _ => ansE (e2_adrp ..) (ev12 ..), fun _ _ _ _ => ansC (c2_adrp ..) (ev54 ..)⟩,
  ⟨fun _ _ _ _ => ansE (e2_ldrb ..) (ev13 ..), fun _ _ _ _ => ansC (c2_ldrb ..) (ev51 ..)⟩,
  ⟨fun _ _ _ _ => ansE (e2_strb ..) (ev13 ..), fun _ _ _ _ => ansC (c2_strb ..) (ev51 ..)⟩,
  ⟨fun _ _ _ _ => ansE (e2_ldrh ..) (ev13 ..), fun _ _ _ _ => ansC (c2_ldrh ..) (ev51 ..)⟩,
  ⟨fun _ _ _ _ => ansE (e2_strh ..) (ev13 ..), fun _ _ _ _ => ansC (c2_strh ..) (ev51 ..)⟩,
  ⟨fun _ _ _ _ => ansE (e2_ldr_w ..) (ev13 ..), fun _ _ _ _ => ansC (c2_ldr_w ..) (ev51 ..)⟩,
  ⟨fun _ _ _ _ => ansE (e2_str_w ..) (ev13 ..), fun _ _ _ _ => ansC (c2_str_w ..) (ev51 ..)⟩,
  ⟨fun _ _ _ _ => ansE (e2_ldrsw ..) (ev13 ..), fun _ _ _ _ => ansC (c2_ldrsw ..) (ev51 ..)⟩,
  ⟨fun _ _ _ _ => ansE (e2_ldr ..) (ev13 ..), fun _ _ _ _ => ansC (c2_ldr ..) (ev51 ..)⟩,
  ⟨fun _ _ _ _ => ansE (e2_str ..) (ev13 ..), fun _ _ _ _ => ansC (c2_str ..) (ev51 ..)⟩,
  ⟨fun _ _ _ _ => ansE (e2_ldp ..) (ev11 ..), fun _ _ _ _ => ansC (c2_ldp ..) (ev52 ..)⟩,
  ⟨fun _ _ _ _ => ansE (e2_stp ..) (ev11 ..), fun _ _ _ _ => ansC (c2_stp ..) (ev52 ..)⟩,
  ⟨fun _ _ _ _ => ansE (e2_b ..) (ev14 ..), fun _ _ _ _ => ansC (c2_b ..) (ev55 ..)⟩,
  ⟨fun _ _ _ _ => ansE (e2_bl ..) (ev14 ..), fun _ _ _ _ => ansC (c2_bl ..) (ev55 ..)⟩,
  ⟨fun _ _ _ _ => ansE (e2_b_c ..) (ev15 ..), fun _ _ _ _ => ansC (c2_b_c ..) (ev56 ..)⟩,
  ⟨fun _ _ _ _ => ansE (e2_cbz ..) (ev12 ..), fun _ _ _ _ => ansC (c2_cbz ..) (ev54 ..)⟩,
  ⟨fun _ _ _ _ => ansE (e2_cbnz ..) (ev12 ..), fun _ _ _ _ => ansC (c2_cbnz ..) (ev54 ..)⟩,
  ⟨fun _ _ _ _ => ansE (e2_br ..) (ev16 ..), fun _ _ _ _ => ansC (c2_br ..) (ev57 ..)⟩,
  ⟨fun _ _ _ _ => ansE (e2_blr ..) (ev16 ..), fun _ _ _ _ => ansC (c2_blr ..) (ev57 ..)⟩,
  ⟨fun _ _ _ _ => ansE (e2_ret ..) (ev16 ..), fun _ _ _ _ => ansC (c2_ret ..) (ev57 ..)⟩,
  ⟨fun _ _ _ _ => ansE (e2_svc ..) (ev14 ..), fun _ _ _ _ => ansC (c2_svc ..) (ev55 ..)⟩,
  ⟨fun _ _ _ _ => ansE (e2_brk ..) (ev14 ..), fun _ _ _ _ => ansC (c2_brk ..) (ev55 ..)⟩,
  ⟨fun _ _ _ _ => ansE (e2_nop ..) (ev14 ..), fun _ _ _ _ => ansC (c2_nop ..) (ev55 ..)⟩, trivial⟩
def tab3 : List Ent :=
  ([97, 100, 100], ee17 51, ee58) ::
  ([115, 117, 98], ee17 1073741875, ee58) ::
  ([115, 108, 108], ee17 4147, ee58) ::
  ([115, 108, 116], ee17 8243, ee58) ::
  ([115, 108, 116, 117], ee17 12339, ee58) ::
  ([120, 111, 114], ee17 16435, ee58) ::
  ([115, 114, 108], ee17 20531, ee58) ::
  ([115, 114, 97], ee17 1073762355, ee58) ::
  ([111, 114], ee17 24627, ee58) ::
  ([97, 110, 100], ee17 28723, ee58) ::
  ([109, 117, 108], ee17 33554483, ee58) ::
  ([109, 117, 108, 104], ee17 33558579, ee58) ::
  ([109, 117, 108, 104, 115, 117], ee17 33562675, ee58) ::
  ([109, 117, 108, 104, 117], ee17 33566771, ee58) ::
  ([100, 105, 118], ee17 33570867, ee58) ::
  ([100, 105, 118, 117], ee17 33574963, ee58) ::
  ([114, 101, 109], ee17 33579059, ee58) ::
  ([114, 101, 109, 117], ee17 33583155, ee58) ::
  ([97, 100, 100, 119], ee17 59, ee58) ::
  ([115, 117, 98, 119], ee17 1073741883, ee58) ::
  ([115, 108, 108, 119], ee17 4155, ee58) ::
  ([115, 114, 108, 119], ee17 20539, ee58) ::
  ([115, 114, 97, 119], ee17 1073762363, ee58) ::
  ([109, 117, 108, 119], ee17 33554491, ee58) ::
  ([100, 105, 118, 119], ee17 33570875, ee58) ::
  ([100, 105, 118, 117, 119], ee17 33574971, ee58) ::
  ([114, 101, 109, 119], ee17 33579067, ee58) ::
  ([114, 101, 109, 117, 119], ee17 33583163, ee58) ::
  ([97, 100, 100, 105], ee18 19, ee59 0 31) ::
  ([115, 108, 116, 105], ee18 8211, ee59 0 31) ::
  ([115, 108, 116, 105, 117], ee18 12307, ee59 0 31) ::
  ([120, 111, 114, 105], ee18 16403, ee59 0 31) ::
  ([111, 114, 105], ee18 24595, ee59 0 31) ::
  ([97, 110, 100, 105], ee18 28691, ee59 0 31) ::
  ([97, 100, 100, 105, 119], ee18 27, ee59 0 31) ::
  ([108, 98], ee18 3, ee59 0 31) ::
  ([108, 104], ee18 4099, ee59 0 31) ::
  ([108, 119], ee18 8195, ee59 0 31) ::
  ([108, 100], ee18 12291, ee59 0 31) ::
  ([108, 98, 117], ee18 16387, ee59 0 31) ::
  ([108, 104, 117], ee18 20483, ee59 0 31) ::
  ([108, 119, 117], ee18 24579, ee59 0 31) ::
  ([106, 97, 108, 114], ee18 103, ee59 0 31) ::
  ([115, 108, 108, 105], ee18 4115, ee59 0 31) ::
  ([115, 114, 108, 105], ee18 20499, ee59 0 31) ::
  ([115, 114, 97, 105], ee18 1073762323, ee59 0 31) ::
  ([115, 108, 108, 105, 119], ee18 4123, ee59 0 31) ::
  ([115, 114, 108, 105, 119], ee18 20507, ee59 0 31) ::
  ([115, 114, 97, 105, 119], ee18 1073762331, ee59 0 31) ::
  ([115, 98], ee19 35, ee60 0 31) ::
  ([115, 104], ee19 4131, ee60 0 31) ::
  ([115, 119], ee19 8227, ee60 0 31) ::
  ([115, 100], ee19 12323, ee60 0 31) ::
  ([98, 101, 113], ee19 99, ee60 0 31) ::
  ([98, 110, 101], ee19 4195, ee60 0 31) ::
  ([98, 108, 116], ee19 16483, ee60 0 31) ::
  ([98, 103, 101], ee19 20579, ee60 0 31) ::
  ([98, 108, 116, 117], ee19 24675, ee60 0 31) ::
  ([98, 103, 101, 117], ee19 28771, ee60 0 31) ::
  ([108, 117, 105], ee20 55, ee61 0 31 0) ::
  ([97, 117, 105, 112, 99], ee20 23, ee61 0 31 0) ::
  ([106, 97, 108], ee20 111, ee61 0 31 0) ::
  ([101, 99, 97, 108, 108], ee21 115, ee62 0) ::
  ([101, 98, 114, 101, 97, 107], ee21 1048691, ee62 0) ::
  ([99, 46, 97, 100, 100, 105, 52, 115, 112, 110], ee22, ee61 8 15 3) ::
  ([99, 46, 108, 119], ee23, ee59 8 15) ::
  ([99, 46, 108, 100], ee24, ee59 8 15) ::
  ([99, 46, 115, 119], ee25, ee60 8 15) ::
  ([99, 46, 115, 100], ee26, ee60 8 15) ::
  ([99, 46, 110, 111, 112], ee27 0, ee62 0) ::
  ([99, 46, 97, 100, 100, 105], ee28, ee63 3) ::
  ([99, 46, 97, 100, 100, 105, 119], ee29 64, ee63 0) ::
  ([99, 46, 108, 105], ee29 128, ee63 0) ::
  ([99, 46, 97, 100, 100, 105, 49, 54, 115, 112], ee27 3, ee62 3) ::
  ([99, 46, 108, 117, 105], ee30, ee64) ::
  ([99, 46, 115, 114, 108, 105], ee22, ee61 8 15 3) ::
  ([99, 46, 115, 114, 97, 105], ee22, ee61 8 15 3) ::
  ([99, 46, 97, 110, 100, 105], ee31, ee61 8 15 0) ::
  ([99, 46, 115, 117, 98], ee32 280 0, ee65) ::
  ([99, 46, 120, 111, 114], ee32 280 1, ee65) ::
  ([99, 46, 111, 114], ee32 280 2, ee65) ::
  ([99, 46, 97, 110, 100], ee32 280 3, ee65) ::
  ([99, 46, 115, 117, 98, 119], ee32 312 0, ee65) ::
  ([99, 46, 97, 100, 100, 119], ee32 312 1, ee65) ::
  ([99, 46, 106], ee27 0, ee62 0) ::
  ([99, 46, 98, 101, 113, 122], ee33 384, ee66) ::
  ([99, 46, 98, 110, 101, 122], ee33 448, ee66) ::
  ([99, 46, 115, 108, 108, 105], ee28, ee63 3) ::
  ([99, 46, 108, 119, 115, 112], ee34 128 3 2, ee63 0) ::
  ([99, 46, 108, 100, 115, 112], ee34 192 2 3, ee63 0) ::
  ([99, 46, 106, 114], ee35 256, ee67) ::
  ([99, 46, 106, 97, 108, 114], ee35 288, ee67) ::
  ([99, 46, 109, 118], ee36 256, ee68) ::
  ([99, 46, 97, 100, 100], ee36 288, ee68) ::
  ([99, 46, 101, 98, 114, 101, 97, 107], ee27 0, ee62 0) ::
  ([99, 46, 115, 119, 115, 112], ee37 12288, ee69) ::
  ([99, 46, 115, 100, 115, 112], ee37 14336, ee69) :: []
theorem tab3_ok : AllR (.ofNat 3) tab3 := ⟨⟨fun _ _ _ _ => ansE (e3_add ..) (ev17 ..), fun _ _ _ _ => ansC (c3_add ..) (ev58 ..)⟩,
  ⟨fun _ _ _ _ => ansE (e3_sub ..) (ev17 ..), fun _ _ _ _ => ansC (c3_sub ..) (ev58 ..)⟩,
  ⟨fun _ _ _ _ => ansE (e3_sll ..) (ev17 ..), fun _ _ _ _ => ansC (c3_sll ..) (ev58 ..)⟩,
  ⟨fun _ _ _ _ => ansE (e3_slt ..) (ev17 ..), fun _ _ _ _ => ansC (c3_slt ..) (ev58 ..)⟩,
  ⟨fun _ _ _ _ => ansE (e3_sltu ..) (ev17 ..), fun _ _ _ _ => ansC (c3_sltu ..) (ev58 ..)⟩,
  ⟨fun _ _ _ _ => ansE (e3_xor ..) (ev17 ..), fun _ _ _ _ => ansC (c3_xor ..) (ev58 ..)⟩,
  ⟨fun _ _ _ _ => ansE (e3_srl ..) (ev17 ..), fun _ _ _ _ => ansC (c3_srl ..) (ev58 ..)⟩,
  ⟨fun _ _ _ _ => ansE (e3_sra ..) (ev17 ..), fun _ _ _ _ => ansC (c3_sra ..) (ev58 ..)⟩,
  ⟨fun _ _ _ _ => ansE (e3_or ..) (ev17 ..), fun _ _ _ _ => ansC (c3_or ..) (ev58 ..)⟩,
  ⟨fun _ _ _ _ => ansE (e3_and ..) (ev17 ..), fun _ _ _ _ => ansC (c3_and ..) (ev58 ..)⟩,
  ⟨fun _ _ _ _ => ansE (e3_mul ..) (ev17 ..), fun _ _ _ _ => ansC (c3_mul ..) (ev58 ..)⟩,
  ⟨fun _ _ _ _ => ansE (e3_mulh ..) (ev17 ..), fun _ _ _ _ => ansC (c3_mulh ..) (ev58 ..)⟩,
  ⟨fun _ _ _ _ => ansE (e3_mulhsu ..) (ev17 ..), fun _ _ _ _ => ansC (c3_mulhsu ..) (ev58 ..)⟩,
  ⟨fun _ _ _ _ => ansE (e3_mulhu ..) (ev17 ..), fun _ _ _ _ => ansC (c3_mulhu ..) (ev58 ..)⟩,
  ⟨fun _ _ _ _ => ansE (e3_div ..) (ev17 ..), fun _ _ _ _ => ansC (c3_div ..) (ev58 ..)⟩,
  ⟨fun _ _ _ _ => ansE (e3_divu ..) (ev17 ..), fun _ _ _ _ => ansC (c3_divu ..) (ev58 ..)⟩,
  ⟨fun _ _ _ _ => ansE (e3_rem ..) (ev17 ..), fun _ _ _ _ => ansC (c3_rem ..) (ev58 ..)⟩,
  ⟨fun _ _ _ _ => ansE (e3_remu ..) (ev17 ..), fun _ _ _ _ => ansC (c3_remu ..) (ev58 ..)⟩,
  ⟨fun _ _ _ _ => ansE (e3_addw ..) (ev17 ..), fun _ _ _ _ => ansC (c3_addw ..) (ev58 ..)⟩,
  ⟨fun _ _ _ _ => ansE (e3_subw ..) (ev17 ..), fun _ _ _ _ => ansC (c3_subw ..) (ev58 ..)⟩,
  ⟨fun _ _ _ _ => ansE (e3_sllw ..) (ev17 ..), fun _ _ _ _ => ansC (c3_sllw ..) (ev58 ..)⟩,
  ⟨fun _ _ _ _ => ansE (e3_srlw ..) (ev17 ..), fun _ _ _ _ => ansC (c3_srlw ..) (ev58 ..)⟩,
  ⟨fun _ _ _ _ => ansE (e3_sraw ..) (ev17 ..), fun _ _ _ _ => ansC (c3_sraw ..) (ev58 ..)⟩,
  ⟨fun _ _ _ _ => ansE (e3_mulw ..) (ev17 ..), fun _ _ _ _ => ansC (c3_mulw ..) (ev58 ..)⟩,
  ⟨fun _ _ _ _ => ansE (e3_divw ..) (ev17 ..), fun _ _ _ _ => ansC (c3_divw ..) (ev58 ..)⟩,
  ⟨fun _ _ _ _ => ansE (e3_divuw ..) (ev17 ..), fun _ _ _ _ => ansC (c3_divuw ..) (ev58 ..)⟩,
  ⟨fun _ _ _ _ => ansE (e3_remw ..) (ev17 ..), fun _ _ _ _ => ansC (c3_remw ..) (ev58 ..)⟩,
  ⟨fun _ _ _ _ => ansE (e3_remuw ..) (ev17 ..), fun _ _ _ _ => ansC (c3_remuw ..) (ev58 ..)⟩,
  ⟨fun _ _ _ _ => ansE (e3_addi ..) (ev18 ..), fun _ _ _ _ => ansC (c3_addi ..) (ev59 ..)⟩,
  ⟨fun _ _ _ _ => ansE (e3_slti ..) (ev18 ..), fun _ _ _ _ => ansC (c3_slti ..) (ev59 ..)⟩,
  ⟨fun _ _ _ _ => ansE (e3_sltiu ..) (ev18 ..), fun _ _ _ _ => ansC (c3_sltiu ..) (ev59 ..)⟩,
  ⟨fun _ _ _ _ => ansE (e3_xori ..) (ev18 ..), fun _ _ _ _ => ansC (c3_xori ..) (ev59 ..)⟩,
  ⟨fun _ _ _ _ => ansE (e3_ori ..) (ev18 ..), fun _ _ _ _ => ansC (c3_ori ..) (ev59 ..)⟩,
  ⟨fun _ _ _ _ => ansE (e3_andi ..) (ev18 ..), fun _ _ _ _ => ansC (c3_andi ..) (ev59 ..)⟩,
  ⟨fun _ _ _ _ => ansE (e3_addiw ..) (ev18 ..), fun _ _ _ _ => ansC (c3_addiw ..) (ev59 ..)⟩,
  ⟨fun _ _ _ _ => ansE (e3_lb ..) (ev18 ..), fun _ _ _ _ => ansC (c3_lb ..) (ev59 ..)⟩,
  ⟨fun _ _ _ _ => ansE (e3_lh ..) (ev18 ..), fun _ _ _ _ => ansC (c3_lh ..) (ev59 ..)⟩,
  ⟨fun _ _ _ _ => ansE (e3_lw ..) (ev18 ..), fun _ _ _ _ => ansC (c3_lw ..) (ev59 ..)⟩,
  ⟨fun _ _ _ _ => ansE (e3_ld ..) (ev18 ..), fun _ _ _ _ => ansC (c3_ld ..) (ev59 ..)⟩,
  ⟨fun _ _ _ _ => ansE (e3_lbu ..) (ev18 ..), fun _ _ _ _ => ansC (c3_lbu ..) (ev59 ..)⟩,
  ⟨fun _ _ _ _ => ansE (e3_lhu ..) (ev18 ..), fun _ _ _ _ => ansC (c3_lhu ..) (ev59 ..)⟩,
  ⟨fun _ _ _ _ => ansE (e3_lwu ..) (ev18 ..), fun _ _ _ _ => ansC (c3_lwu ..) (ev59 ..)⟩,
  ⟨fun _ _ _ _ => ansE (e3_jalr ..) (ev18 ..), fun _ _ _ _ => ansC (c3_jalr ..) (ev59 ..)⟩,
  ⟨fun _ _ _ _ => ansE (e3_slli ..) (ev18 ..), fun _ _ _ _ => ansC (c3_slli ..) (ev59 ..)⟩,
  ⟨fun _ _ _ _ => ansE (e3_srli ..) (ev18 ..), fun _ _ _ _ => ansC (c3_srli ..) (ev59 ..)⟩,
  ⟨fun _ _ _ _ => ansE (e3_srai ..) (ev18 ..), fun _ _ _ _ => ansC (c3_srai ..) (ev59 ..)⟩,
  ⟨fun _ _ _ _ => ansE (e3_slliw ..) (ev18 ..), fun _ _ _ _ => ansC (c3_slliw ..) (ev59 ..)⟩,
  ⟨fun _ _ _ _ => ansE (e3_srliw ..) (ev18 ..), fun _ _ _ _ => ansC (c3_srliw ..) (ev59 ..)⟩,
  ⟨fun _ _ _ _ => ansE (e3_sraiw ..) (ev18 ..), fun _ _ _ _ => ansC (c3_sraiw ..) (ev59 ..)⟩,
  ⟨fun _ _ _ _ => ansE (e3_sb ..) (ev19 ..), fun _ _ _ _ => ansC (c3_sb ..) (ev60 ..)⟩,
  ⟨fun _ _ _ _ => ansE (e3_sh ..) (ev19 ..), fun _ _ _ _ => ansC (c3_sh ..) (ev60 ..)⟩,
  ⟨fun _ _ _ _ => ansE (e3_sw ..) (ev19 ..), fun _ _ _ _ => ansC (c3_sw ..) (ev60 ..)⟩,
  ⟨fun _ _ _ _ => ansE (e3_sd ..) (ev19 ..), fun _ _ _ _ => ansC (c3_sd ..) (ev60 ..)⟩,
  ⟨fun _ _ _ _ => ansE (e3_beq ..) (ev19 ..), fun _ _ _ _ => ansC (c3_beq ..) (ev60 ..)⟩,
  ⟨fun _ _ _ _ => ansE (e3_bne ..) (ev19 ..), fun _ _ _ _ => ansC (c3_bne ..) (ev60 ..)⟩,
  ⟨fun _ _ _ _ => ansE (e3_blt ..) (ev19 ..), fun _ _ _ _ => ansC (c3_blt ..) (ev60 ..)⟩,
  ⟨fun _ _ _ _ => ansE (e3_bge ..) (ev19 ..), fun _ _ _ _ => ansC (c3_bge ..) (ev60 ..)⟩,
  ⟨fun _ _ _ _ => ansE (e3_bltu ..) (ev19 ..), fun _ _ _ _ => ansC (c3_bltu ..) (ev60 ..)⟩,
  ⟨fun _ _ _ _ => ansE (e3_bgeu ..) (ev19 ..), fun _ _ _ _ => ansC (c3_bgeu ..) (ev60 ..)⟩,
  ⟨fun _ _ _ _ => ansE (e3_lui ..) (ev20 ..), fun _ _ _ _ => ansC (c3_lui ..) (ev61 ..)⟩,
  ⟨fun _ _ _ _ => ansE (e3_auipc ..) (ev20 ..), fun _ _ _ _ => ansC (c3_auipc ..) (ev61 ..)⟩,
  ⟨fun _ _ _ _ => ansE (e3_jal ..) (ev20 ..), fun _ _ _ _ => ansC (c3_jal ..) (ev61 ..)⟩,
  ⟨fun _ _ _ _ => ansE (e3_ecall ..) (ev21 ..), fun _ _ _ _ => ansC (c3_ecall ..) (ev62 ..)⟩,
  ⟨fun _ _ _ _ => ansE (e3_ebreak ..) (ev21 ..), fun _ _ _ _ => ansC (c3_ebreak ..) (ev62 ..)⟩,
  ⟨fun _ _ _ _ => ansE (e3_c_addi4spn ..) (ev22 ..), fun _ _ _ _ => ansC (c3_c_addi4spn ..) (ev61 ..)⟩,
  ⟨fun _ _ _ _ => ansE (e3_c_lw ..) (ev23 ..), fun _ _ _ _ => ansC (c3_c_lw ..) (ev59 ..)⟩,
  ⟨fun _ _ _ _ => ansE (e3_c_ld ..) (ev24 ..), fun _ _ _ _ => ansC (c3_c_ld ..) (ev59 ..)⟩,
  ⟨fun _ _ _ _ => ansE (e3_c_sw ..) (ev25 ..), fun _ _ _ _ => ansC (c3_c_sw ..) (ev60 ..)⟩,
  ⟨fun _ _ _ _ => ansE (e3_c_sd ..) (ev26 ..), fun _ _ _ _ => ansC (c3_c_sd ..) (ev60 ..)⟩,
  ⟨fun _ _ _ _ => ansE (e3_c_nop ..) (ev27 ..), fun _ _ _ _ => ansC (c3_c_nop ..) (ev62 ..)⟩,
  ⟨fun _ _ _ _ => ansE (e3_c_addi ..) (ev28 ..), fun _ _ _ _ => ansC (c3_c_addi ..) (ev63 ..)⟩,
  ⟨fun _ _ _ _ => ansE (e3_c_addiw ..) (ev29 ..), fun _ _ _ _ => ansC (c3_c_addiw ..) (ev63 ..)⟩,
  ⟨fun _ _ _ _ => ansE (e3_c_li ..) (ev29 ..), fun _ _ _ _ => ansC (c3_c_li ..) (ev63 ..)⟩,
  ⟨fun _ _ _ _ => ansE (e3_c_addi16sp ..) (ev27 ..), fun _ _ _ _ => ansC (c3_c_addi16sp ..) (ev62 ..)⟩,
  ⟨fun _ _ _ _ => ansE (e3_c_lui ..) (ev30 ..), fun _ _ _ _ => ansC (c3_c_lui ..) (ev64 ..)⟩,
  ⟨fun _ _ _ _ => ansE (e3_c_srli ..) (ev22 ..), fun _ _ _ _ => ansC (c3_c_srli ..) (ev61 ..)⟩,
  ⟨fun _ _ _ _ => ansE (e3_c_srai ..) (ev22 ..), fun _ _ _ _ => ansC (c3_c_srai ..) (ev61 ..)⟩,
  ⟨fun _ _ _ _ => ansE (e3_c_andi ..) (ev31 ..), fun _ _ _ _ => ansC (c3_c_andi ..) (ev61 ..)⟩,
  ⟨fun _ _ _ _ => ansE (e3_c_sub ..) (ev32 ..), fun _ _ _ _ => ansC (c3_c_sub ..) (ev65 ..)⟩,
  ⟨fun _ _ _ _ => ansE (e3_c_xor ..) (ev32 ..), fun _ _ _ _ => ansC (c3_c_xor ..) (ev65 ..)⟩,
  ⟨fun _ _ _ _ => ansE (e3_c_or ..) (ev32 ..), fun _ _ _ _ => ansC (c3_c_or ..) (ev65 ..)⟩,
  ⟨fun _ _ _ _ => ansE (e3_c_and ..) (ev32 ..), fun _ _ _ _ => ansC (c3_c_and ..) (ev65 ..)⟩,
  ⟨fun _ _ _ _ => ansE (e3_c_subw ..) (ev32 ..), fun _ _ _ _ => ansC (c3_c_subw ..) (ev65 ..)⟩,
  ⟨fun _ _ _ _ => ansE (e3_c_addw ..) (ev32 ..), fun _ _ _ _ => ansC (c3_c_addw ..) (ev65 ..)⟩,
  ⟨fun _ _ _ _ => ansE (e3_c_j ..) (ev27 ..), fun _ _ _ _ => ansC (c3_c_j ..) (ev62 ..)⟩,
  ⟨fun _ _ _ _ => ansE (e3_c_beqz ..) (ev33 ..), fun _ _ _ _ => ansC (c3_c_beqz ..) (ev66 ..)⟩,
  ⟨fun _ _ _ _ => ansE (e3_c_bnez ..) (ev33 ..), fun _ _ _ _ => ansC (c3_c_bnez ..) (ev66 ..)⟩,
  ⟨fun _ _ _ _ => ansE (e3_c_slli ..) (ev28 ..), fun _ _ _ _ => ansC (c3_c_slli ..) (ev63 ..)⟩,
  ⟨fun _ _ _ _ => ansE (e3_c_lwsp ..) (ev34 ..), fun _ _ _ _ => ansC (c3_c_lwsp ..) (ev63 ..)⟩,
  ⟨fun _ _ _ _ => ansE (e3_c_ldsp ..) (ev34 ..), fun _ _ _ _ => ansC (c3_c_ldsp ..) (ev63 ..)⟩,
  ⟨fun _ _ _ _ => ansE (e3_c_jr ..) (ev35 ..), fun _ _ _ _ => ansC (c3_c_jr ..) (ev67 ..)⟩,
  ⟨fun _ _ _ _ => ansE (e3_c_jalr ..) (ev35 ..), fun _ _ _ _ => ansC (c3_c_jalr ..) (ev67 ..)⟩,
  ⟨fun _ _ _ _ => ansE (e3_c_mv ..) (ev36 ..), fun _ _ _ _ => ansC (c3_c_mv ..) (ev68 ..)⟩,
  ⟨fun _ _ _ _ => ansE (e3_c_add ..) (ev36 ..), fun _ _ _ _ => ansC (c3_c_add ..) (ev68 ..)⟩,
  ⟨fun _ _ _ _ => ansE (e3_c_ebreak ..) (ev27 ..), fun _ _ _ _ => ansC (c3_c_ebreak ..) (ev62 ..)⟩,
  ⟨fun _ _ _ _ => ansE (e3_c_swsp ..) (ev37 ..), fun _ _ _ _ => ansC (c3_c_swsp ..) (ev69 ..)⟩,
  ⟨fun _ _ _ _ => ansE (e3_c_sdsp ..) (ev37 ..), fun _ _ _ _ => ansC (c3_c_sdsp ..) (ev69 ..)⟩, trivial⟩
theorem names1 : tab1.map (·.1) = amRows.map nmOf := by kernel_rfl
theorem names2 : tab2.map (·.1) = Zea.map nmOf := by kernel_rfl
theorem names3 : tab3.map (·.1) = Zdv.map nmOf ++ Zd4.map nmOf := by kernel_rfl
def look (l : List Ent) (nm : List UInt8) : Option (Fn4 × Fn4) := List.rec (motive := fun _ => Option (Fn4 × Fn4)) none (fun x _ ih => bif leq x.1 nm then some x.2 else ih) l
theorem Zbs (nm : List UInt8) : ∀ l : List Ent, (∃ x ∈ l, x.1 = nm ∧ look l nm = some x.2) ∨ ((∀ x ∈ l, leq x.1 nm = false) ∧ look l nm = none)
  | [] => .inr ⟨fun x hx => (by cases hx), rfl⟩
  | y :: l => by
    have e : look (y :: l) nm = bif leq y.1 nm then some y.2 else look l nm := rfl
    cases h : leq y.1 nm with
    | true => exact .inl ⟨y, List.mem_cons_self, leq_t h, by rw [e, h]; rfl⟩
    | false =>
      rcases Zbs nm l with ⟨x, hx, h1, h2⟩ | ⟨h1, h2⟩
      · exact .inl ⟨x, List.mem_cons_of_mem _ hx, h1, by rw [e, h]; exact h2⟩
      · refine .inr ⟨fun x hx => ?_, by rw [e, h]; exact h2⟩
        rcases List.mem_cons.1 hx with rfl | hx
        · exact h
        · exact h1 x hx
def tabE (t : Int) : List Ent := bif ieq t (.ofNat 1) then tab1 else bif ieq t (.ofNat 2) then tab2 else bif ieq t (.ofNat 3) then tab3 else []
def inT (t : Int) : Bool := ieq t (.ofNat 1) || (ieq t (.ofNat 2) || ieq t (.ofNat 3))
def noneE (t : Int) : Int := bif inT t then .ofNat 7 else .ofNat 11
def encE : EvT := fun t nm A B C D => match look (tabE t) nm with
  | some x => x.1 A B C D
  | none => noneE t
def chkE : EvT := fun t nm A B C D => match look (tabE t) nm with
  | some x => x.2 A B C D
  | none => noneE t
end
end Go.Proofs.YtbfdooplkdofeaaGreatDoor
