/- AMD: reloc.Of and the reference's answer the same. -/
import Derived.Test.YtbfdooplkdofeaaGreatDoorAsSum
import Derived.Test.YtbfdooplkdofeaaGreatDoorAsV
import Derived.Test.YtbfdooplkdofeaaGreatDoorAsO0
import Derived.Test.YtbfdooplkdofeaaGreatDoorAsO1
import Derived.Test.YtbfdooplkdofeaaGreatDoorAsO2
import Derived.Test.YtbfdooplkdofeaaGreatDoorAsO3
import Derived.KernelRfl
namespace Go.Proofs.YtbfdooplkdofeaaGreatDoor
open Go Go.Vai
noncomputable section
set_option maxRecDepth 100000
def OfX (t : Int) (nm : List UInt8) (A B C D I : Int) (mod : List UInt8) : Prop := ∃ x y b, AnsV 5 [.int .i64 t, insV nm A B C D I, .str mod] (trV x y b) ∧ AnsV 6 [.int .i64 t, insV nm A B C D I, .str mod] (trV x y b)
theorem ieq_f {a : Int} (h : a ≠ 0) : ieq a (.ofNat 0) = false := by rw [Zae, decide_eq_false_iff_not]; exact h
theorem Zb4 {a : Int} (h : a = 0) : ieq a (.ofNat 0) = true := by rw [h]; rfl
theorem eT_bad (e : Int) {x : Option AV} (h : x = some badV) : eT e x = some (trV (.ofNat 0) (.ofNat 0) false) := by
  unfold eT
  rw [h, Zar]; rfl
theorem eT_ne {e : Int} (h : e ≠ 0) (x : Option AV) : eT e x = some (trV (.ofNat 0) (.ofNat 0) false) := by
  unfold eT
  rw [ieq_f h]; rfl
theorem eT_0 {e : Int} (h : e = 0) (x : Option AV) : eT e x = x := by
  unfold eT
  rw [Zb4 h]; rfl
theorem bc_if {α : Type} (b : Bool) (x y : α) : bc b x y = if b = true then x else y := by cases b <;> rfl
theorem mod3 (mod : List UInt8) : (leq [] mod = true ∧ leq mod [] = true ∧ leq [116, 112] mod = false ∧ leq mod [116, 112] = false) ∨ (leq [] mod = false ∧ leq mod [] = false ∧ leq [116, 112] mod = true ∧ leq mod [116, 112] = true) ∨ (leq [] mod = false ∧ leq mod [] = false ∧ leq [116, 112] mod = false ∧ leq mod [116, 112] = false) := by
  rw [Zaf mod [], Zaf mod [116, 112]]
  cases h : leq [] mod with
  | true => have := leq_t h; subst this; exact .inl ⟨rfl, rfl, rfl, rfl⟩
  | false => cases h2 : leq [116, 112] mod with
    | true => exact .inr (.inl ⟨rfl, rfl, rfl, rfl⟩)
    | false => exact .inr (.inr ⟨rfl, rfl, rfl, rfl⟩)
theorem e3of_fn : (E3.fn 5).isSome = true := by kernel_rfl
theorem errof_fn : (Er.fn 6).isSome = true := by kernel_rfl
theorem by5 {nm mod : List UInt8} {A C D I : Int} {g : Option AV} {v : AV} (h : go5 nm A C D I mod = g) (hv : g = some v) : AnsV 5 [.int .i64 (.ofNat 1), insV nm A (.ofNat 17) C D I, .str mod] v := ⟨E3, 100000, _, Zc5 _, e3_ok, Za3, e3of_fn, [], h.trans hv⟩
theorem by6 {nm mod : List UInt8} {A C D I : Int} {g : Option AV} {v : AV} (h : go6 nm A C D I mod = g) (hv : g = some v) : AnsV 6 [.int .i64 (.ofNat 1), insV nm A (.ofNat 17) C D I, .str mod] v := ⟨Er, 100000, _, Zc5 _, er_ok, Za3, errof_fn, [], h.trans hv⟩
theorem Zav (A B C D : Int) (mod : List UInt8) : ao5 A B C D mod = some badV := by
  unfold ao5
  simp only [Zar]
theorem ro10_bad (A B C D : Int) (mod : List UInt8) : ro10 A B C D mod = some badV := by
  unfold ro10
  simp only [Zar]
theorem Zee (A B C D : Int) (mod : List UInt8) : ro5 A B C D mod = some badV := by
  unfold ro5
  simp only [Zar]
theorem Zby (A B C D : Int) (mod : List UInt8) : ro6 A B C D mod = some badV := by
  unfold ro6
  simp only [Zar]
theorem ro7_bad (A B C D : Int) (mod : List UInt8) : ro7 A B C D mod = some badV := by
  unfold ro7
  simp only [Zar]
theorem ro8_bad (A B C D : Int) (mod : List UInt8) : ro8 A B C D mod = some badV := by
  unfold ro8
  simp only [Zar]
theorem ro9_bad (A B C D : Int) (mod : List UInt8) : ro9 A B C D mod = some badV := by
  unfold ro9
  simp only [Zar]
abbrev FnM := Int → Int → Int → Int → List UInt8 → Option AV
abbrev GA (nm : List UInt8) (f : FnM) : Prop := ∀ (ev : EvT) (mod : List UInt8) (A B C D I : Int), goA ev nm A B C D I mod = eT (ev (.ofNat 1) nm A B C D) (f A B C D mod)
abbrev GR (nm : List UInt8) (f : FnM) : Prop := ∀ (fv : EvT) (mod : List UInt8) (A B C D I : Int), goR fv (.ofNat 1) nm A B C D I mod [] = eT (fv (.ofNat 1) nm A B C D) (f A B C D mod)
theorem Zbr {nm : List UInt8} {fa fr : FnM} (ha : GA nm fa) (hr : GR nm fr) (ba : ∀ A B C D mod, fa A B C D mod = some badV) (br : ∀ A B C D mod, fr A B C D mod = some badV) (A B C D I : Int) (mod : List UInt8) : OfX (.ofNat 1) nm A B C D I mod := ⟨.ofNat 0, .ofNat 0, false, byA (ha ..) (eT_bad _ (ba ..)), byR (hr ..) (eT_bad _ (br ..))⟩
theorem mem1x {nm : List UInt8} {fa fr : FnM} {f5 f6 : Int → Int → Int → List UInt8 → Option AV} (ha : GA nm fa) (hr : ∀ (fv gv : EvT) (mod : List UInt8) (A B C D I : Int), goM fv gv nm A B C D I mod = eT (fv (.ofNat 1) nm A B C D) (fr A B C D mod)) (h5 : ∀ (mod : List UInt8) (A C D I : Int), go5 nm A C D I mod = f5 A C D mod) (h6 : ∀ (mod : List UInt8) (A C D I : Int), go6 nm A C D I mod = f6 A C D mod)
    (ba : ∀ {B : Int}, ieq B (.ofNat 17) = false → ∀ A C D mod, fa A B C D mod = some badV) (br : ∀ {B : Int}, ieq B (.ofNat 17) = false → ∀ A C D mod, fr A B C D mod = some badV) (bm : ∀ A C D mod, ∃ x y b, f5 A C D mod = some (trV x y b) ∧ f6 A C D mod = some (trV x y b)) (A B C D I : Int) (mod : List UInt8) : OfX (.ofNat 1) nm A B C D I mod := by
  cases h : ieq B (.ofNat 17) with
  | false => exact ⟨.ofNat 0, .ofNat 0, false, byA (ha ..) (eT_bad _ (ba h ..)), byM (hr ..) (eT_bad _ (br h ..))⟩
  | true =>
    have := Zei h
    subst this
    obtain ⟨x, y, b, h1, h2⟩ := bm A C D mod
    exact ⟨x, y, b, by5 (h5 ..) h1, by6 (h6 ..) h2⟩
theorem of1_mov_rr : ∀ A B C D I mod, OfX (.ofNat 1) [109, 111, 118, 46, 114, 114] A B C D I mod := Zbr oa_mov_rr ra_mov_rr Zav Zee
theorem of1_add_rr : ∀ A B C D I mod, OfX (.ofNat 1) [97, 100, 100, 46, 114, 114] A B C D I mod := Zbr oa_add_rr ra_add_rr Zav Zee
theorem of1_or_rr : ∀ A B C D I mod, OfX (.ofNat 1) [111, 114, 46, 114, 114] A B C D I mod := Zbr oa_or_rr ra_or_rr Zav Zee
theorem of1_and_rr : ∀ A B C D I mod, OfX (.ofNat 1) [97, 110, 100, 46, 114, 114] A B C D I mod := Zbr oa_and_rr ra_and_rr Zav Zee
theorem of1_sub_rr : ∀ A B C D I mod, OfX (.ofNat 1) [115, 117, 98, 46, 114, 114] A B C D I mod := Zbr oa_sub_rr ra_sub_rr Zav Zee
theorem of1_xor_rr : ∀ A B C D I mod, OfX (.ofNat 1) [120, 111, 114, 46, 114, 114] A B C D I mod := Zbr oa_xor_rr ra_xor_rr Zav Zee
theorem of1_cmp_rr : ∀ A B C D I mod, OfX (.ofNat 1) [99, 109, 112, 46, 114, 114] A B C D I mod := Zbr oa_cmp_rr ra_cmp_rr Zav Zee
theorem of1_add_ri : ∀ A B C D I mod, OfX (.ofNat 1) [97, 100, 100, 46, 114, 105] A B C D I mod := Zbr oa_add_ri ra_add_ri Zav Zby
theorem of1_or_ri : ∀ A B C D I mod, OfX (.ofNat 1) [111, 114, 46, 114, 105] A B C D I mod := Zbr oa_or_ri ra_or_ri Zav Zby
theorem of1_and_ri : ∀ A B C D I mod, OfX (.ofNat 1) [97, 110, 100, 46, 114, 105] A B C D I mod := Zbr oa_and_ri ra_and_ri Zav Zby
theorem of1_sub_ri : ∀ A B C D I mod, OfX (.ofNat 1) [115, 117, 98, 46, 114, 105] A B C D I mod := Zbr oa_sub_ri ra_sub_ri Zav Zby
theorem of1_xor_ri : ∀ A B C D I mod, OfX (.ofNat 1) [120, 111, 114, 46, 114, 105] A B C D I mod := Zbr oa_xor_ri ra_xor_ri Zav Zby
theorem of1_cmp_ri : ∀ A B C D I mod, OfX (.ofNat 1) [99, 109, 112, 46, 114, 105] A B C D I mod := Zbr oa_cmp_ri ra_cmp_ri Zav Zby
theorem of1_test_rr : ∀ A B C D I mod, OfX (.ofNat 1) [116, 101, 115, 116, 46, 114, 114] A B C D I mod := Zbr oa_test_rr ra_test_rr Zav Zee
theorem of1_imul_rr : ∀ A B C D I mod, OfX (.ofNat 1) [105, 109, 117, 108, 46, 114, 114] A B C D I mod := Zbr oa_imul_rr ra_imul_rr Zav Zee
theorem of1_not : ∀ A B C D I mod, OfX (.ofNat 1) [110, 111, 116] A B C D I mod := Zbr oa_not ra_not Zav Zby
theorem of1_neg : ∀ A B C D I mod, OfX (.ofNat 1) [110, 101, 103] A B C D I mod := Zbr oa_neg ra_neg Zav Zby
theorem of1_mul : ∀ A B C D I mod, OfX (.ofNat 1) [109, 117, 108] A B C D I mod := Zbr oa_mul ra_mul Zav Zby
theorem of1_div : ∀ A B C D I mod, OfX (.ofNat 1) [100, 105, 118] A B C D I mod := Zbr oa_div ra_div Zav Zby
theorem of1_idiv : ∀ A B C D I mod, OfX (.ofNat 1) [105, 100, 105, 118] A B C D I mod := Zbr oa_idiv ra_idiv Zav Zby
theorem of1_cqo : ∀ A B C D I mod, OfX (.ofNat 1) [99, 113, 111] A B C D I mod := Zbr oa_cqo ra_cqo Zav ro7_bad
theorem of1_shl_ri : ∀ A B C D I mod, OfX (.ofNat 1) [115, 104, 108, 46, 114, 105] A B C D I mod := Zbr oa_shl_ri ra_shl_ri Zav Zby
theorem of1_shr_ri : ∀ A B C D I mod, OfX (.ofNat 1) [115, 104, 114, 46, 114, 105] A B C D I mod := Zbr oa_shr_ri ra_shr_ri Zav Zby
theorem of1_sar_ri : ∀ A B C D I mod, OfX (.ofNat 1) [115, 97, 114, 46, 114, 105] A B C D I mod := Zbr oa_sar_ri ra_sar_ri Zav Zby
theorem of1_shl_rc : ∀ A B C D I mod, OfX (.ofNat 1) [115, 104, 108, 46, 114, 99] A B C D I mod := Zbr oa_shl_rc ra_shl_rc Zav Zby
theorem of1_shr_rc : ∀ A B C D I mod, OfX (.ofNat 1) [115, 104, 114, 46, 114, 99] A B C D I mod := Zbr oa_shr_rc ra_shr_rc Zav Zby
theorem of1_sar_rc : ∀ A B C D I mod, OfX (.ofNat 1) [115, 97, 114, 46, 114, 99] A B C D I mod := Zbr oa_sar_rc ra_sar_rc Zav Zby
theorem of1_cmov : ∀ A B C D I mod, OfX (.ofNat 1) [99, 109, 111, 118] A B C D I mod := Zbr oa_cmov ra_cmov Zav ro8_bad
theorem of1_push : ∀ A B C D I mod, OfX (.ofNat 1) [112, 117, 115, 104] A B C D I mod := Zbr oa_push ra_push Zav ro9_bad
theorem of1_pop : ∀ A B C D I mod, OfX (.ofNat 1) [112, 111, 112] A B C D I mod := Zbr oa_pop ra_pop Zav ro9_bad
theorem of1_jmp_s : ∀ A B C D I mod, OfX (.ofNat 1) [106, 109, 112, 46, 115] A B C D I mod := Zbr oa_jmp_s ra_jmp_s Zav ro7_bad
theorem of1_call_r : ∀ A B C D I mod, OfX (.ofNat 1) [99, 97, 108, 108, 46, 114] A B C D I mod := Zbr oa_call_r ra_call_r Zav ro9_bad
theorem of1_jmp_r : ∀ A B C D I mod, OfX (.ofNat 1) [106, 109, 112, 46, 114] A B C D I mod := Zbr oa_jmp_r ra_jmp_r Zav ro9_bad
theorem of1_jcc_s : ∀ A B C D I mod, OfX (.ofNat 1) [106, 99, 99, 46, 115] A B C D I mod := Zbr oa_jcc_s ra_jcc_s Zav ro10_bad
theorem of1_ret : ∀ A B C D I mod, OfX (.ofNat 1) [114, 101, 116] A B C D I mod := Zbr oa_ret ra_ret Zav ro7_bad
theorem of1_syscall : ∀ A B C D I mod, OfX (.ofNat 1) [115, 121, 115, 99, 97, 108, 108] A B C D I mod := Zbr oa_syscall ra_syscall Zav ro7_bad
theorem of1_nop : ∀ A B C D I mod, OfX (.ofNat 1) [110, 111, 112] A B C D I mod := Zbr oa_nop ra_nop Zav ro7_bad
theorem of1_ud2 : ∀ A B C D I mod, OfX (.ofNat 1) [117, 100, 50] A B C D I mod := Zbr oa_ud2 ra_ud2 Zav ro7_bad
theorem rel1_ao0 {A B C D : Int} (_h : ee43 A B C D = 0) (mod : List UInt8) : ∃ x y b, ao0 A B C D mod = some (trV x y b) ∧ ro0 A B C D mod = some (trV x y b) := by
  rcases mod3 mod with ⟨p1, p2, p3, p4⟩ | ⟨p1, p2, p3, p4⟩ | ⟨p1, p2, p3, p4⟩
  all_goals
    refine ⟨_, _, _, by unfold ao0; simp only [p1, p3, Bool.not_true, Bool.not_false, Zai, Zas, Zar]; rfl, ?_⟩
    unfold ro0
    simp only [p2, Zai, Zas, Zar]
    try simp only [Int.ofNat_eq_natCast]
    repeat' split
    all_goals first | rfl | (exfalso; omega) | contradiction | exact absurd trivial ‹¬True›
theorem of1_mov_ri (A B C D I : Int) (mod : List UInt8) : OfX (.ofNat 1) [109, 111, 118, 46, 114, 105] A B C D I mod := by
  have e1 : encE (.ofNat 1) [109, 111, 118, 46, 114, 105] A B C D = ee1 A B C D := by kernel_rfl
  have e2 : chkE (.ofNat 1) [109, 111, 118, 46, 114, 105] A B C D = ee43 A B C D := by kernel_rfl
  by_cases h : ee43 A B C D = 0
  · obtain ⟨x, y, b, h1, h2⟩ := rel1_ao0 h mod
    exact ⟨x, y, b, byA (oa_mov_ri ..) ((eT_0 (e1.trans ((eqv0 A B C D).2 h)) _).trans h1), byR (ra_mov_ri ..) ((eT_0 (e2.trans h) _).trans h2)⟩
  · exact ⟨_, _, _, byA (oa_mov_ri ..) (eT_ne (fun e => h ((eqv0 A B C D).1 (e1.symm.trans e))) _), byR (ra_mov_ri ..) (eT_ne (fun e => h (e2.symm.trans e)) _)⟩
theorem rel1_ao1 {A B C D : Int} (_h : ee43 A B C D = 0) (mod : List UInt8) : ∃ x y b, ao1 A B C D mod = some (trV x y b) ∧ ro1 A B C D mod = some (trV x y b) := by
  rcases mod3 mod with ⟨p1, p2, p3, p4⟩ | ⟨p1, p2, p3, p4⟩ | ⟨p1, p2, p3, p4⟩
  all_goals
    refine ⟨_, _, _, by unfold ao1; simp only [p1, p3, Bool.not_true, Bool.not_false, Zai, Zas, Zar]; rfl, ?_⟩
    unfold ro1
    simp only [p2, p4, Zai, Zas, Zar]
    try simp only [Int.ofNat_eq_natCast]
    repeat' split
    all_goals first | rfl | (exfalso; omega) | contradiction | exact absurd trivial ‹¬True›
theorem of1_mov_rs (A B C D I : Int) (mod : List UInt8) : OfX (.ofNat 1) [109, 111, 118, 46, 114, 115] A B C D I mod := by
  have e1 : encE (.ofNat 1) [109, 111, 118, 46, 114, 115] A B C D = ee1 A B C D := by kernel_rfl
  have e2 : chkE (.ofNat 1) [109, 111, 118, 46, 114, 115] A B C D = ee43 A B C D := by kernel_rfl
  by_cases h : ee43 A B C D = 0
  · obtain ⟨x, y, b, h1, h2⟩ := rel1_ao1 h mod
    exact ⟨x, y, b, byA (oa_mov_rs ..) ((eT_0 (e1.trans ((eqv0 A B C D).2 h)) _).trans h1), byR (ra_mov_rs ..) ((eT_0 (e2.trans h) _).trans h2)⟩
  · exact ⟨_, _, _, byA (oa_mov_rs ..) (eT_ne (fun e => h ((eqv0 A B C D).1 (e1.symm.trans e))) _), byR (ra_mov_rs ..) (eT_ne (fun e => h (e2.symm.trans e)) _)⟩
theorem rel1_ao2 {A B C D : Int} (h : ee43 A B C D = 0) (mod : List UInt8) : ∃ x y b, ao2 A B C D mod = some (trV x y b) ∧ ro2 A B C D mod = some (trV x y b) := by
  unfold ee43 at h
  simp [Zae, Zah, bc_z] at h
  rcases mod3 mod with ⟨p1, p2, p3, p4⟩ | ⟨p1, p2, p3, p4⟩ | ⟨p1, p2, p3, p4⟩
  all_goals
    refine ⟨_, _, _, by unfold ao2; simp only [p1, p3, Bool.not_true, Bool.not_false, Zai, Zas, Zar]; rfl, ?_⟩
    unfold ro2
    simp only [p4, Zai, Zas, Zar]
    try simp only [bc_if, Zae, Zah, Bool.not_eq_true', decide_eq_true_eq, decide_eq_false_iff_not, Int.ofNat_eq_natCast]
    repeat' split
    all_goals first | rfl | (exfalso; omega) | contradiction | exact absurd trivial ‹¬True›
theorem of1_mov_fs (A B C D I : Int) (mod : List UInt8) : OfX (.ofNat 1) [109, 111, 118, 46, 102, 115] A B C D I mod := by
  have e1 : encE (.ofNat 1) [109, 111, 118, 46, 102, 115] A B C D = ee1 A B C D := by kernel_rfl
  have e2 : chkE (.ofNat 1) [109, 111, 118, 46, 102, 115] A B C D = ee43 A B C D := by kernel_rfl
  by_cases h : ee43 A B C D = 0
  · obtain ⟨x, y, b, h1, h2⟩ := rel1_ao2 h mod
    exact ⟨x, y, b, byA (oa_mov_fs ..) ((eT_0 (e1.trans ((eqv0 A B C D).2 h)) _).trans h1), byR (ra_mov_fs ..) ((eT_0 (e2.trans h) _).trans h2)⟩
  · exact ⟨_, _, _, byA (oa_mov_fs ..) (eT_ne (fun e => h ((eqv0 A B C D).1 (e1.symm.trans e))) _), byR (ra_mov_fs ..) (eT_ne (fun e => h (e2.symm.trans e)) _)⟩
theorem rel1_ao3 {A B C D : Int} (h : ee45 A B C D = 0) (mod : List UInt8) : ∃ x y b, ao3 A B C D mod = some (trV x y b) ∧ ro3 A B C D mod = some (trV x y b) := by
  unfold ee45 at h
  simp [Zae, bc_z] at h
  rcases mod3 mod with ⟨p1, p2, p3, p4⟩ | ⟨p1, p2, p3, p4⟩ | ⟨p1, p2, p3, p4⟩
  all_goals
    refine ⟨_, _, _, by unfold ao3; simp only [p1, p3, Bool.not_true, Bool.not_false, Zai, Zas, Zar]; rfl, ?_⟩
    unfold ro3
    simp only [p2, Zai, Zas, Zar]
    try simp only [bc_if, Zae, Bool.not_eq_true', decide_eq_true_eq, decide_eq_false_iff_not, Int.ofNat_eq_natCast]
    repeat' split
    all_goals first | rfl | (exfalso; omega) | contradiction | exact absurd trivial ‹¬True›
theorem of1_call (A B C D I : Int) (mod : List UInt8) : OfX (.ofNat 1) [99, 97, 108, 108] A B C D I mod := by
  have e1 : encE (.ofNat 1) [99, 97, 108, 108] A B C D = ee2 A B C D := by kernel_rfl
  have e2 : chkE (.ofNat 1) [99, 97, 108, 108] A B C D = ee45 A B C D := by kernel_rfl
  by_cases h : ee45 A B C D = 0
  · obtain ⟨x, y, b, h1, h2⟩ := rel1_ao3 h mod
    exact ⟨x, y, b, byA (oa_call ..) ((eT_0 (e1.trans ((eqv1 A B C D).2 h)) _).trans h1), byR (ra_call ..) ((eT_0 (e2.trans h) _).trans h2)⟩
  · exact ⟨_, _, _, byA (oa_call ..) (eT_ne (fun e => h ((eqv1 A B C D).1 (e1.symm.trans e))) _), byR (ra_call ..) (eT_ne (fun e => h (e2.symm.trans e)) _)⟩
theorem of1_jmp (A B C D I : Int) (mod : List UInt8) : OfX (.ofNat 1) [106, 109, 112] A B C D I mod := by
  have e1 : encE (.ofNat 1) [106, 109, 112] A B C D = ee2 A B C D := by kernel_rfl
  have e2 : chkE (.ofNat 1) [106, 109, 112] A B C D = ee45 A B C D := by kernel_rfl
  by_cases h : ee45 A B C D = 0
  · obtain ⟨x, y, b, h1, h2⟩ := rel1_ao3 h mod
    exact ⟨x, y, b, byA (oa_jmp ..) ((eT_0 (e1.trans ((eqv1 A B C D).2 h)) _).trans h1), byR (ra_jmp ..) ((eT_0 (e2.trans h) _).trans h2)⟩
  · exact ⟨_, _, _, byA (oa_jmp ..) (eT_ne (fun e => h ((eqv1 A B C D).1 (e1.symm.trans e))) _), byR (ra_jmp ..) (eT_ne (fun e => h (e2.symm.trans e)) _)⟩
theorem rel1_ao4 {A B C D : Int} (h : ee47 A B C D = 0) (mod : List UInt8) : ∃ x y b, ao4 A B C D mod = some (trV x y b) ∧ ro4 A B C D mod = some (trV x y b) := by
  unfold ee47 at h
  simp [Zae, Zah, bc_z] at h
  rcases mod3 mod with ⟨p1, p2, p3, p4⟩ | ⟨p1, p2, p3, p4⟩ | ⟨p1, p2, p3, p4⟩
  all_goals
    refine ⟨_, _, _, by unfold ao4; simp only [p1, p3, Bool.not_true, Bool.not_false, Zai, Zas, Zar]; rfl, ?_⟩
    unfold ro4
    simp only [p2, Zai, Zas, Zar]
    try simp only [bc_if, Zae, Zah, Bool.not_eq_true', Bool.not_eq_false', decide_eq_true_eq, decide_eq_false_iff_not, Int.ofNat_eq_natCast]
    repeat' split
    all_goals first | rfl | (exfalso; omega) | contradiction | exact absurd trivial ‹¬True›
theorem of1_jcc (A B C D I : Int) (mod : List UInt8) : OfX (.ofNat 1) [106, 99, 99] A B C D I mod := by
  have e1 : encE (.ofNat 1) [106, 99, 99] A B C D = ee6 A B C D := by kernel_rfl
  have e2 : chkE (.ofNat 1) [106, 99, 99] A B C D = ee47 A B C D := by kernel_rfl
  by_cases h : ee47 A B C D = 0
  · obtain ⟨x, y, b, h1, h2⟩ := rel1_ao4 h mod
    exact ⟨x, y, b, byA (oa_jcc ..) ((eT_0 (e1.trans ((eqv2 A B C D).2 h)) _).trans h1), byR (ra_jcc ..) ((eT_0 (e2.trans h) _).trans h2)⟩
  · exact ⟨_, _, _, byA (oa_jcc ..) (eT_ne (fun e => h ((eqv2 A B C D).1 (e1.symm.trans e))) _), byR (ra_jcc ..) (eT_ne (fun e => h (e2.symm.trans e)) _)⟩
theorem Zch {B : Int} (h : ieq B (.ofNat 17) = false) (A C D : Int) (mod : List UInt8) : am0 A B C D mod = some badV := by
  unfold am0
  rw [h]; rfl
theorem Zcl {B : Int} (h : ieq B (.ofNat 17) = false) (A C D : Int) (mod : List UInt8) : rm0 A B C D mod = some badV := by
  unfold rm0
  rw [h]; rfl
theorem Zb0 (A C D : Int) (mod : List UInt8) : ∃ x y b, a17_0 A C D mod = some (trV x y b) ∧ r17_0 A C D mod = some (trV x y b) := by
  cases p1 : leq [] mod with
  | false =>
    have p2 : leq mod [] = false := (Zaf _ _).trans p1
    refine ⟨.ofNat 0, .ofNat 0, false, ?_, ?_⟩
    · unfold a17_0
      simp only [p2, Bool.not_false, Zai, Zar]; rfl
    · unfold r17_0
      simp only [p2, Zas, Zar]; rfl
  | true =>
    have p2 : leq mod [] = true := (Zaf _ _).trans p1
    by_cases h : (0 ≤ A ∧ A ≤ 15) ∧ C = 16 ∧ D = 0
    · refine ⟨.ofNat 2, .ofNat 3, true, ?_, ?_⟩
      · unfold a17_0
        simp only [p2, Bool.not_true, bc_if, Zae, Zah, Bool.not_eq_true', decide_eq_true_eq, decide_eq_false_iff_not, Int.ofNat_eq_natCast]
        repeat' split
        all_goals first | rfl | (exfalso; omega) | contradiction | exact absurd trivial ‹¬True›
      · unfold r17_0
        simp only [p2, bc_if, Zae, Zah, Bool.not_eq_true', decide_eq_true_eq, decide_eq_false_iff_not, Int.ofNat_eq_natCast]
        repeat' split
        all_goals first | rfl | (exfalso; omega) | contradiction | exact absurd trivial ‹¬True›
    · refine ⟨.ofNat 0, .ofNat 0, false, ?_, ?_⟩
      · unfold a17_0
        simp only [p2, Bool.not_true, bc_if, Zae, Zah, Bool.not_eq_true', decide_eq_true_eq, decide_eq_false_iff_not, Int.ofNat_eq_natCast]
        repeat' split
        all_goals first | rfl | (exfalso; omega) | contradiction | exact absurd trivial ‹¬True›
      · unfold r17_0
        simp only [p2, bc_if, Zae, Zah, Bool.not_eq_true', decide_eq_true_eq, decide_eq_false_iff_not, Int.ofNat_eq_natCast]
        repeat' split
        all_goals first | rfl | (exfalso; omega) | contradiction | exact absurd trivial ‹¬True›
theorem m17_a17_1_lit (k : Nat) (hk : k < 16) (mod : List UInt8) (p : leq mod [] = true) : ∃ y, Zdq (.ofNat k) (.ofNat 16) (.ofNat 0) mod = some (trV (.ofNat 2) y true) ∧ Zdm (.ofNat k) (.ofNat 16) (.ofNat 0) mod = some (trV (.ofNat 2) y true) := by
  have q : leq mod [] = true := p
  match k, hk with
  | 0, _ => exact ⟨.ofNat 2, (show Zdq (.ofNat 0) (.ofNat 16) (.ofNat 0) mod = bc (!(leq mod [])) (some badV) (some (trV (.ofNat 2) (.ofNat 2) true)) by kernel_rfl).trans (by rw [q]; rfl), (show Zdm (.ofNat 0) (.ofNat 16) (.ofNat 0) mod = bc (leq mod []) (some (trV (.ofNat 2) (.ofNat 2) true)) (some badV) by kernel_rfl).trans (by rw [q]; rfl)⟩
  | 1, _ => exact ⟨.ofNat 2, (show Zdq (.ofNat 1) (.ofNat 16) (.ofNat 0) mod = bc (!(leq mod [])) (some badV) (some (trV (.ofNat 2) (.ofNat 2) true)) by kernel_rfl).trans (by rw [q]; rfl), (show Zdm (.ofNat 1) (.ofNat 16) (.ofNat 0) mod = bc (leq mod []) (some (trV (.ofNat 2) (.ofNat 2) true)) (some badV) by kernel_rfl).trans (by rw [q]; rfl)⟩
  | 2, _ => exact ⟨.ofNat 2, (show Zdq (.ofNat 2) (.ofNat 16) (.ofNat 0) mod = bc (!(leq mod [])) (some badV) (some (trV (.ofNat 2) (.ofNat 2) true)) by kernel_rfl).trans (by rw [q]; rfl), (show Zdm (.ofNat 2) (.ofNat 16) (.ofNat 0) mod = bc (leq mod []) (some (trV (.ofNat 2) (.ofNat 2) true)) (some badV) by kernel_rfl).trans (by rw [q]; rfl)⟩
  | 3, _ => exact ⟨.ofNat 2, (show Zdq (.ofNat 3) (.ofNat 16) (.ofNat 0) mod = bc (!(leq mod [])) (some badV) (some (trV (.ofNat 2) (.ofNat 2) true)) by kernel_rfl).trans (by rw [q]; rfl), (show Zdm (.ofNat 3) (.ofNat 16) (.ofNat 0) mod = bc (leq mod []) (some (trV (.ofNat 2) (.ofNat 2) true)) (some badV) by kernel_rfl).trans (by rw [q]; rfl)⟩
  | 4, _ => exact ⟨.ofNat 2, (show Zdq (.ofNat 4) (.ofNat 16) (.ofNat 0) mod = bc (!(leq mod [])) (some badV) (some (trV (.ofNat 2) (.ofNat 2) true)) by kernel_rfl).trans (by rw [q]; rfl), (show Zdm (.ofNat 4) (.ofNat 16) (.ofNat 0) mod = bc (leq mod []) (some (trV (.ofNat 2) (.ofNat 2) true)) (some badV) by kernel_rfl).trans (by rw [q]; rfl)⟩
  | 5, _ => exact ⟨.ofNat 2, (show Zdq (.ofNat 5) (.ofNat 16) (.ofNat 0) mod = bc (!(leq mod [])) (some badV) (some (trV (.ofNat 2) (.ofNat 2) true)) by kernel_rfl).trans (by rw [q]; rfl), (show Zdm (.ofNat 5) (.ofNat 16) (.ofNat 0) mod = bc (leq mod []) (some (trV (.ofNat 2) (.ofNat 2) true)) (some badV) by kernel_rfl).trans (by rw [q]; rfl)⟩
  | 6, _ => exact ⟨.ofNat 2, (show Zdq (.ofNat 6) (.ofNat 16) (.ofNat 0) mod = bc (!(leq mod [])) (some badV) (some (trV (.ofNat 2) (.ofNat 2) true)) by kernel_rfl).trans (by rw [q]; rfl), (show Zdm (.ofNat 6) (.ofNat 16) (.ofNat 0) mod = bc (leq mod []) (some (trV (.ofNat 2) (.ofNat 2) true)) (some badV) by kernel_rfl).trans (by rw [q]; rfl)⟩
  | 7, _ => exact ⟨.ofNat 2, (show Zdq (.ofNat 7) (.ofNat 16) (.ofNat 0) mod = bc (!(leq mod [])) (some badV) (some (trV (.ofNat 2) (.ofNat 2) true)) by kernel_rfl).trans (by rw [q]; rfl), (show Zdm (.ofNat 7) (.ofNat 16) (.ofNat 0) mod = bc (leq mod []) (some (trV (.ofNat 2) (.ofNat 2) true)) (some badV) by kernel_rfl).trans (by rw [q]; rfl)⟩
  | 8, _ => exact ⟨.ofNat 3, (show Zdq (.ofNat 8) (.ofNat 16) (.ofNat 0) mod = bc (!(leq mod [])) (some badV) (some (trV (.ofNat 2) (.ofNat 3) true)) by kernel_rfl).trans (by rw [q]; rfl), (show Zdm (.ofNat 8) (.ofNat 16) (.ofNat 0) mod = bc (leq mod []) (some (trV (.ofNat 2) (.ofNat 3) true)) (some badV) by kernel_rfl).trans (by rw [q]; rfl)⟩
  | 9, _ => exact ⟨.ofNat 3, (show Zdq (.ofNat 9) (.ofNat 16) (.ofNat 0) mod = bc (!(leq mod [])) (some badV) (some (trV (.ofNat 2) (.ofNat 3) true)) by kernel_rfl).trans (by rw [q]; rfl), (show Zdm (.ofNat 9) (.ofNat 16) (.ofNat 0) mod = bc (leq mod []) (some (trV (.ofNat 2) (.ofNat 3) true)) (some badV) by kernel_rfl).trans (by rw [q]; rfl)⟩
  | 10, _ => exact ⟨.ofNat 3, (show Zdq (.ofNat 10) (.ofNat 16) (.ofNat 0) mod = bc (!(leq mod [])) (some badV) (some (trV (.ofNat 2) (.ofNat 3) true)) by kernel_rfl).trans (by rw [q]; rfl), (show Zdm (.ofNat 10) (.ofNat 16) (.ofNat 0) mod = bc (leq mod []) (some (trV (.ofNat 2) (.ofNat 3) true)) (some badV) by kernel_rfl).trans (by rw [q]; rfl)⟩
  | 11, _ => exact ⟨.ofNat 3, (show Zdq (.ofNat 11) (.ofNat 16) (.ofNat 0) mod = bc (!(leq mod [])) (some badV) (some (trV (.ofNat 2) (.ofNat 3) true)) by kernel_rfl).trans (by rw [q]; rfl), (show Zdm (.ofNat 11) (.ofNat 16) (.ofNat 0) mod = bc (leq mod []) (some (trV (.ofNat 2) (.ofNat 3) true)) (some badV) by kernel_rfl).trans (by rw [q]; rfl)⟩
  | 12, _ => exact ⟨.ofNat 3, (show Zdq (.ofNat 12) (.ofNat 16) (.ofNat 0) mod = bc (!(leq mod [])) (some badV) (some (trV (.ofNat 2) (.ofNat 3) true)) by kernel_rfl).trans (by rw [q]; rfl), (show Zdm (.ofNat 12) (.ofNat 16) (.ofNat 0) mod = bc (leq mod []) (some (trV (.ofNat 2) (.ofNat 3) true)) (some badV) by kernel_rfl).trans (by rw [q]; rfl)⟩
  | 13, _ => exact ⟨.ofNat 3, (show Zdq (.ofNat 13) (.ofNat 16) (.ofNat 0) mod = bc (!(leq mod [])) (some badV) (some (trV (.ofNat 2) (.ofNat 3) true)) by kernel_rfl).trans (by rw [q]; rfl), (show Zdm (.ofNat 13) (.ofNat 16) (.ofNat 0) mod = bc (leq mod []) (some (trV (.ofNat 2) (.ofNat 3) true)) (some badV) by kernel_rfl).trans (by rw [q]; rfl)⟩
  | 14, _ => exact ⟨.ofNat 3, (show Zdq (.ofNat 14) (.ofNat 16) (.ofNat 0) mod = bc (!(leq mod [])) (some badV) (some (trV (.ofNat 2) (.ofNat 3) true)) by kernel_rfl).trans (by rw [q]; rfl), (show Zdm (.ofNat 14) (.ofNat 16) (.ofNat 0) mod = bc (leq mod []) (some (trV (.ofNat 2) (.ofNat 3) true)) (some badV) by kernel_rfl).trans (by rw [q]; rfl)⟩
  | 15, _ => exact ⟨.ofNat 3, (show Zdq (.ofNat 15) (.ofNat 16) (.ofNat 0) mod = bc (!(leq mod [])) (some badV) (some (trV (.ofNat 2) (.ofNat 3) true)) by kernel_rfl).trans (by rw [q]; rfl), (show Zdm (.ofNat 15) (.ofNat 16) (.ofNat 0) mod = bc (leq mod []) (some (trV (.ofNat 2) (.ofNat 3) true)) (some badV) by kernel_rfl).trans (by rw [q]; rfl)⟩
  | k + 16, h => exact absurd h (by omega)
theorem m17_a17_1 (A C D : Int) (mod : List UInt8) : ∃ x y b, Zdq A C D mod = some (trV x y b) ∧ Zdm A C D mod = some (trV x y b) := by
  cases p1 : leq [] mod with
  | false =>
    have p2 : leq mod [] = false := (Zaf _ _).trans p1
    refine ⟨.ofNat 0, .ofNat 0, false, ?_, ?_⟩
    · unfold Zdq
      simp only [p2, Bool.not_false, Zai, Zar]; rfl
    · unfold Zdm
      simp only [p2, Zas, Zar]; rfl
  | true =>
    have p2 : leq mod [] = true := (Zaf _ _).trans p1
    by_cases h : (0 ≤ A ∧ A ≤ 15) ∧ C = 16 ∧ D = 0
    · obtain ⟨⟨h1, h2⟩, rfl, rfl⟩ := h
      obtain ⟨k, rfl⟩ : ∃ k : Nat, A = .ofNat k := Int.eq_ofNat_of_zero_le h1
      obtain ⟨y, e1, e2⟩ := m17_a17_1_lit k (by simp only [Int.ofNat_eq_natCast] at h2; omega) mod p2
      exact ⟨_, y, true, e1, e2⟩
    · refine ⟨.ofNat 0, .ofNat 0, false, ?_, ?_⟩
      · unfold Zdq
        simp only [p2, Bool.not_true, bc_if, Zae, Zah, Bool.not_eq_true', decide_eq_true_eq, decide_eq_false_iff_not, Int.ofNat_eq_natCast]
        repeat' split
        all_goals first | rfl | (exfalso; omega) | contradiction | exact absurd trivial ‹¬True›
      · unfold Zdm
        simp only [p2, bc_if, Zae, Zah, Bool.not_eq_true', decide_eq_true_eq, decide_eq_false_iff_not, Int.ofNat_eq_natCast]
        repeat' split
        all_goals first | rfl | (exfalso; omega) | contradiction | exact absurd trivial ‹¬True›
theorem m17_a17_2 (A C D : Int) (mod : List UInt8) : ∃ x y b, a17_2 A C D mod = some (trV x y b) ∧ r17_2 A C D mod = some (trV x y b) := by
  cases p1 : leq [] mod with
  | false =>
    have p2 : leq mod [] = false := (Zaf _ _).trans p1
    refine ⟨.ofNat 0, .ofNat 0, false, ?_, ?_⟩
    · unfold a17_2
      simp only [p2, Bool.not_false, Zai, Zar]; rfl
    · unfold r17_2
      simp only [p2, Zas, Zar]; rfl
  | true =>
    have p2 : leq mod [] = true := (Zaf _ _).trans p1
    by_cases h : (0 ≤ A ∧ A ≤ 15) ∧ C = 16 ∧ D = 0
    · refine ⟨.ofNat 2, .ofNat 4, true, ?_, ?_⟩
      · unfold a17_2
        simp only [p2, Bool.not_true, bc_if, Zae, Zah, Bool.not_eq_true', decide_eq_true_eq, decide_eq_false_iff_not, Int.ofNat_eq_natCast]
        repeat' split
        all_goals first | rfl | (exfalso; omega) | contradiction | exact absurd trivial ‹¬True›
      · unfold r17_2
        simp only [p2, bc_if, Zae, Zah, Bool.not_eq_true', decide_eq_true_eq, decide_eq_false_iff_not, Int.ofNat_eq_natCast]
        repeat' split
        all_goals first | rfl | (exfalso; omega) | contradiction | exact absurd trivial ‹¬True›
    · refine ⟨.ofNat 0, .ofNat 0, false, ?_, ?_⟩
      · unfold a17_2
        simp only [p2, Bool.not_true, bc_if, Zae, Zah, Bool.not_eq_true', decide_eq_true_eq, decide_eq_false_iff_not, Int.ofNat_eq_natCast]
        repeat' split
        all_goals first | rfl | (exfalso; omega) | contradiction | exact absurd trivial ‹¬True›
      · unfold r17_2
        simp only [p2, bc_if, Zae, Zah, Bool.not_eq_true', decide_eq_true_eq, decide_eq_false_iff_not, Int.ofNat_eq_natCast]
        repeat' split
        all_goals first | rfl | (exfalso; omega) | contradiction | exact absurd trivial ‹¬True›
theorem of1_mov_rm : ∀ A B C D I mod, OfX (.ofNat 1) [109, 111, 118, 46, 114, 109] A B C D I mod := mem1x oa_mov_rm rm_mov_rm a17x_mov_rm r17x_mov_rm Zch Zcl Zb0
theorem of1_movl_rm : ∀ A B C D I mod, OfX (.ofNat 1) [109, 111, 118, 108, 46, 114, 109] A B C D I mod := mem1x oa_movl_rm rm_movl_rm a17x_movl_rm r17x_movl_rm Zch Zcl m17_a17_1
theorem of1_movsl_rm : ∀ A B C D I mod, OfX (.ofNat 1) [109, 111, 118, 115, 108, 46, 114, 109] A B C D I mod := mem1x oa_movsl_rm rm_movsl_rm a17x_movsl_rm r17x_movsl_rm Zch Zcl Zb0
theorem of1_movzb_rm : ∀ A B C D I mod, OfX (.ofNat 1) [109, 111, 118, 122, 98, 46, 114, 109] A B C D I mod := mem1x oa_movzb_rm rm_movzb_rm a17x_movzb_rm r17x_movzb_rm Zch Zcl m17_a17_2
theorem of1_lea : ∀ A B C D I mod, OfX (.ofNat 1) [108, 101, 97] A B C D I mod := mem1x oa_lea rm_lea a17x_lea r17x_lea Zch Zcl Zb0
theorem of1_mov_mr : ∀ A B C D I mod, OfX (.ofNat 1) [109, 111, 118, 46, 109, 114] A B C D I mod := mem1x oa_mov_mr rm_mov_mr a17x_mov_mr r17x_mov_mr Zch Zcl Zb0
theorem of1_movl_mr : ∀ A B C D I mod, OfX (.ofNat 1) [109, 111, 118, 108, 46, 109, 114] A B C D I mod := mem1x oa_movl_mr rm_movl_mr a17x_movl_mr r17x_movl_mr Zch Zcl m17_a17_1
theorem of1_movb_mr : ∀ A B C D I mod, OfX (.ofNat 1) [109, 111, 118, 98, 46, 109, 114] A B C D I mod := mem1x oa_movb_mr rm_movb_mr a17x_movb_mr r17x_movb_mr Zch Zcl Zb0
theorem of1_add_rm : ∀ A B C D I mod, OfX (.ofNat 1) [97, 100, 100, 46, 114, 109] A B C D I mod := mem1x oa_add_rm rm_add_rm a17x_add_rm r17x_add_rm Zch Zcl Zb0
theorem of1_or_rm : ∀ A B C D I mod, OfX (.ofNat 1) [111, 114, 46, 114, 109] A B C D I mod := mem1x oa_or_rm rm_or_rm a17x_or_rm r17x_or_rm Zch Zcl Zb0
theorem of1_and_rm : ∀ A B C D I mod, OfX (.ofNat 1) [97, 110, 100, 46, 114, 109] A B C D I mod := mem1x oa_and_rm rm_and_rm a17x_and_rm r17x_and_rm Zch Zcl Zb0
theorem of1_sub_rm : ∀ A B C D I mod, OfX (.ofNat 1) [115, 117, 98, 46, 114, 109] A B C D I mod := mem1x oa_sub_rm rm_sub_rm a17x_sub_rm r17x_sub_rm Zch Zcl Zb0
theorem of1_xor_rm : ∀ A B C D I mod, OfX (.ofNat 1) [120, 111, 114, 46, 114, 109] A B C D I mod := mem1x oa_xor_rm rm_xor_rm a17x_xor_rm r17x_xor_rm Zch Zcl Zb0
theorem of1_cmp_rm : ∀ A B C D I mod, OfX (.ofNat 1) [99, 109, 112, 46, 114, 109] A B C D I mod := mem1x oa_cmp_rm rm_cmp_rm a17x_cmp_rm r17x_cmp_rm Zch Zcl Zb0
def AllN (t : Int) : List Ent → Prop
  | [] => True
  | x :: l => (∀ A B C D I mod, OfX t x.1 A B C D I mod) ∧ AllN t l
theorem allN_mem {t : Int} : ∀ {l : List Ent}, AllN t l → ∀ x ∈ l, ∀ A B C D I mod, OfX t x.1 A B C D I mod
  | _ :: _, h, x, hx => by
    rcases List.mem_cons.1 hx with rfl | hx
    · exact h.1
    · exact allN_mem h.2 x hx
theorem all1 : AllN (.ofNat 1) tab1 := ⟨of1_mov_rr, of1_mov_ri, of1_mov_rs, of1_mov_rm, of1_movl_rm, of1_movsl_rm, of1_movzb_rm, of1_lea, of1_mov_mr, of1_movl_mr, of1_movb_mr, of1_mov_fs, of1_add_rr, of1_or_rr, of1_and_rr, of1_sub_rr, of1_xor_rr, of1_cmp_rr, of1_add_rm, of1_or_rm, of1_and_rm, of1_sub_rm, of1_xor_rm, of1_cmp_rm, of1_add_ri, of1_or_ri, of1_and_ri, of1_sub_ri, of1_xor_ri, of1_cmp_ri, of1_test_rr, of1_imul_rr, of1_not, of1_neg, of1_mul, of1_div, of1_idiv, of1_cqo, of1_shl_ri, of1_shr_ri, of1_sar_ri, of1_shl_rc, of1_shr_rc, of1_sar_rc, of1_cmov, of1_push, of1_pop, of1_call, of1_jmp, of1_jmp_s, of1_call_r, of1_jmp_r, of1_jcc, of1_jcc_s, of1_ret, of1_syscall, of1_nop, of1_ud2, trivial⟩
theorem of1_none {nm : List UInt8} (h : ∀ x ∈ tab1, leq x.1 nm = false) (hl : look tab1 nm = none) (A B C D I : Int) (mod : List UInt8) : OfX (.ofNat 1) nm A B C D I mod := by
  obtain ⟨e1, e2⟩ := Zcv (t := .ofNat 1) hl A B C D
  have z : ieq (noneE (.ofNat 1)) (.ofNat 0) = false := rfl
  exact ⟨.ofNat 0, .ofNat 0, false, ⟨Ea encE, 100000, _, ska_ok encE, ea_ok, Za3, ea_fn, _, (ka ..).trans (by rw [not1 h, e1, z]; rfl)⟩, byR (r_any ..) (by rw [e2, z]; rfl)⟩
end
end Go.Proofs.YtbfdooplkdofeaaGreatDoor
