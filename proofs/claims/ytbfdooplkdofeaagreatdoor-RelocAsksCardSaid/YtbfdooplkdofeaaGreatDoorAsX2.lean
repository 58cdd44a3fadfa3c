/- ARM and RISCV: reloc.Of and the reference's answer the same. -/
import Derived.Test.YtbfdooplkdofeaaGreatDoorAsX1
import Derived.KernelRfl
namespace Go.Proofs.YtbfdooplkdofeaaGreatDoor
open Go Go.Vai
noncomputable section
set_option maxRecDepth 100000
theorem any_bad {t : Int} {nm : List UInt8} {A B C D : Int} (h1 : ieq t (.ofNat 1) = false) (h : encE t nm A B C D ≠ 0) (I : Int) (mod : List UInt8) : AnsV 5 [.int .i64 t, insV nm A B C D I, .str mod] (trV (.ofNat 0) (.ofNat 0) false) := byO (o_any ..) (by rw [h1, ieq_f h]; rfl)
theorem anyr_bad {t : Int} {nm : List UInt8} {A B C D : Int} (h : chkE t nm A B C D ≠ 0) (I : Int) (mod : List UInt8) : AnsV 6 [.int .i64 t, insV nm A B C D I, .str mod] (trV (.ofNat 0) (.ofNat 0) false) := byR (r_any ..) (by rw [ieq_f h]; rfl)
structure NoMod2 (mod : List UInt8) : Prop where
  m0 : leq [] mod = false
  w0 : leq mod [] = false
  m1 : leq [112, 97, 103, 101] mod = false
  w1 : leq mod [112, 97, 103, 101] = false
  m2 : leq [108, 111, 49, 50] mod = false
  w2 : leq mod [108, 111, 49, 50] = false
  m3 : leq [116, 112, 104, 105] mod = false
  w3 : leq mod [116, 112, 104, 105] = false
  m4 : leq [116, 112, 108, 111] mod = false
  w4 : leq mod [116, 112, 108, 111] = false
theorem mods2 (mod : List UInt8) : mod = [] ∨ mod = [112, 97, 103, 101] ∨ mod = [108, 111, 49, 50] ∨ mod = [116, 112, 104, 105] ∨ mod = [116, 112, 108, 111] ∨ NoMod2 mod := by
  cases h0 : leq [] mod with
  | true => exact .inl (leq_t h0).symm
  | false =>
  cases h1 : leq [112, 97, 103, 101] mod with
  | true => exact .inr (.inl (leq_t h1).symm)
  | false =>
  cases h2 : leq [108, 111, 49, 50] mod with
  | true => exact .inr (.inr (.inl (leq_t h2).symm))
  | false =>
  cases h3 : leq [116, 112, 104, 105] mod with
  | true => exact .inr (.inr (.inr (.inl (leq_t h3).symm)))
  | false =>
  cases h4 : leq [116, 112, 108, 111] mod with
  | true => exact .inr (.inr (.inr (.inr (.inl (leq_t h4).symm))))
  | false =>
  exact .inr (.inr (.inr (.inr (.inr (⟨h0, (Zaf _ _).trans h0, h1, (Zaf _ _).trans h1, h2, (Zaf _ _).trans h2, h3, (Zaf _ _).trans h3, h4, (Zaf _ _).trans h4⟩)))))
structure Irr2 (nm : List UInt8) : Prop where
  l1 : Nat.ble (Nat.add 1 (lenU nm)) 1099511627776 = true
  l2 : Nat.ble (Nat.succ (lenU ([32] ++ nm))) 1099511627776 = true
  c0 : hasL [32, 97, 100, 114, 32] (([32] ++ nm) ++ [32]) = false
  c1 : hasL [32, 98, 46, 99, 32, 99, 98, 122, 32, 99, 98, 110, 122, 32] (([32] ++ nm) ++ [32]) = false
  c2 : hasL [32, 98, 32] (([32] ++ nm) ++ [32]) = false
  c3 : hasL [32, 98, 108, 32] (([32] ++ nm) ++ [32]) = false
  c4 : hasL [32, 97, 100, 114, 112, 32] (([32] ++ nm) ++ [32]) = false
  c5 : hasL [32, 97, 100, 100, 46, 105, 32] (([32] ++ nm) ++ [32]) = false
  c6 : hasL [32, 108, 100, 114, 98, 32, 115, 116, 114, 98, 32] (([32] ++ nm) ++ [32]) = false
  c7 : hasL [32, 108, 100, 114, 104, 32, 115, 116, 114, 104, 32] (([32] ++ nm) ++ [32]) = false
  c8 : hasL [32, 108, 100, 114, 46, 119, 32, 115, 116, 114, 46, 119, 32, 108, 100, 114, 115, 119, 32] (([32] ++ nm) ++ [32]) = false
  c9 : hasL [32, 108, 100, 114, 32, 115, 116, 114, 32] (([32] ++ nm) ++ [32]) = false
  r0 : leq [97, 100, 114] nm = false
  q0 : leq nm [97, 100, 114] = false
  r1 : leq [98, 46, 99] nm = false
  q1 : leq nm [98, 46, 99] = false
  r2 : leq [99, 98, 122] nm = false
  q2 : leq nm [99, 98, 122] = false
  r3 : leq [99, 98, 110, 122] nm = false
  q3 : leq nm [99, 98, 110, 122] = false
  r4 : leq [98] nm = false
  q4 : leq nm [98] = false
  r5 : leq [98, 108] nm = false
  q5 : leq nm [98, 108] = false
  r6 : leq [97, 100, 114, 112] nm = false
  q6 : leq nm [97, 100, 114, 112] = false
  r7 : leq [97, 100, 100, 46, 105] nm = false
  q7 : leq nm [97, 100, 100, 46, 105] = false
  r8 : leq [108, 100, 114, 98] nm = false
  q8 : leq nm [108, 100, 114, 98] = false
  r9 : leq [115, 116, 114, 98] nm = false
  q9 : leq nm [115, 116, 114, 98] = false
  r10 : leq [108, 100, 114, 104] nm = false
  q10 : leq nm [108, 100, 114, 104] = false
  r11 : leq [115, 116, 114, 104] nm = false
  q11 : leq nm [115, 116, 114, 104] = false
  r12 : leq [108, 100, 114, 46, 119] nm = false
  q12 : leq nm [108, 100, 114, 46, 119] = false
  r13 : leq [115, 116, 114, 46, 119] nm = false
  q13 : leq nm [115, 116, 114, 46, 119] = false
  r14 : leq [108, 100, 114, 115, 119] nm = false
  q14 : leq nm [108, 100, 114, 115, 119] = false
  r15 : leq [108, 100, 114] nm = false
  q15 : leq nm [108, 100, 114] = false
  r16 : leq [115, 116, 114] nm = false
  q16 : leq nm [115, 116, 114] = false
theorem irro2_0 {nm : List UInt8} (h : Irr2 nm) {A B C D : Int} (e : encE (.ofNat 2) nm A B C D = 0) (I : Int) : AnsV 5 [.int .i64 (.ofNat 2), insV nm A B C D I, .str []] (trV (.ofNat 0) (.ofNat 0) false) := by
  have he := Zb4 e
  refine byO (oi2_0 ..) (Zb3 _ _ fun x hx => ?_)
  simp only [List.mem_cons, List.not_mem_nil, or_false] at hx
  rcases hx with rfl | rfl | rfl | rfl | rfl | rfl | rfl | rfl | rfl | rfl | rfl | rfl | rfl
  · exact (by rw [he]; rfl)
  · exact h.l1
  · exact h.l2
  · exact (by rw [h.c0]; rfl)
  · exact h.l1
  · exact h.l2
  · exact (by rw [h.c1]; rfl)
  · exact h.l1
  · exact h.l2
  · exact (by rw [h.c2]; rfl)
  · exact h.l1
  · exact h.l2
  · exact (by rw [h.c3]; rfl)
theorem irro2_1 {nm : List UInt8} (h : Irr2 nm) {A B C D : Int} (e : encE (.ofNat 2) nm A B C D = 0) (I : Int) : AnsV 5 [.int .i64 (.ofNat 2), insV nm A B C D I, .str [112, 97, 103, 101]] (trV (.ofNat 0) (.ofNat 0) false) := by
  have he := Zb4 e
  refine byO (oi2_1 ..) (Zb3 _ _ fun x hx => ?_)
  simp only [List.mem_cons, List.not_mem_nil, or_false] at hx
  rcases hx with rfl | rfl | rfl | rfl
  · exact (by rw [he]; rfl)
  · exact h.l1
  · exact h.l2
  · exact (by rw [h.c4]; rfl)
theorem irro2_2 {nm : List UInt8} (h : Irr2 nm) {A B C D : Int} (e : encE (.ofNat 2) nm A B C D = 0) (I : Int) : AnsV 5 [.int .i64 (.ofNat 2), insV nm A B C D I, .str [108, 111, 49, 50]] (trV (.ofNat 0) (.ofNat 0) false) := by
  have he := Zb4 e
  refine byO (oi2_2 ..) (Zb3 _ _ fun x hx => ?_)
  simp only [List.mem_cons, List.not_mem_nil, or_false] at hx
  rcases hx with rfl | rfl | rfl | rfl | rfl | rfl | rfl | rfl | rfl | rfl | rfl | rfl | rfl | rfl | rfl | rfl
  · exact (by rw [he]; rfl)
  · exact h.l1
  · exact h.l2
  · exact (by rw [h.c5]; rfl)
  · exact h.l1
  · exact h.l2
  · exact (by rw [h.c6]; rfl)
  · exact h.l1
  · exact h.l2
  · exact (by rw [h.c7]; rfl)
  · exact h.l1
  · exact h.l2
  · exact (by rw [h.c8]; rfl)
  · exact h.l1
  · exact h.l2
  · exact (by rw [h.c9]; rfl)
theorem irro2_3 {nm : List UInt8} (h : Irr2 nm) {A B C D : Int} (e : encE (.ofNat 2) nm A B C D = 0) (I : Int) : AnsV 5 [.int .i64 (.ofNat 2), insV nm A B C D I, .str [116, 112, 104, 105]] (trV (.ofNat 0) (.ofNat 0) false) := by
  have he := Zb4 e
  refine byO (oi2_3 ..) (Zb3 _ _ fun x hx => ?_)
  simp only [List.mem_cons, List.not_mem_nil, or_false] at hx
  rcases hx with rfl | rfl | rfl | rfl
  · exact (by rw [he]; rfl)
  · exact h.l1
  · exact h.l2
  · exact (by rw [h.c5]; rfl)
theorem irro2_4 {nm : List UInt8} (h : Irr2 nm) {A B C D : Int} (e : encE (.ofNat 2) nm A B C D = 0) (I : Int) : AnsV 5 [.int .i64 (.ofNat 2), insV nm A B C D I, .str [116, 112, 108, 111]] (trV (.ofNat 0) (.ofNat 0) false) := by
  have he := Zb4 e
  refine byO (oi2_4 ..) (Zb3 _ _ fun x hx => ?_)
  simp only [List.mem_cons, List.not_mem_nil, or_false] at hx
  rcases hx with rfl | rfl | rfl | rfl
  · exact (by rw [he]; rfl)
  · exact h.l1
  · exact h.l2
  · exact (by rw [h.c5]; rfl)
theorem irro2_x {nm : List UInt8} {mod : List UInt8} (_h : Irr2 nm) (hm : NoMod2 mod) {A B C D : Int} (e : encE (.ofNat 2) nm A B C D = 0) (I : Int) : AnsV 5 [.int .i64 (.ofNat 2), insV nm A B C D I, .str mod] (trV (.ofNat 0) (.ofNat 0) false) := by
  have he := Zb4 e
  refine byO (oi2_x ..) (Zb3 _ _ fun x hx => ?_)
  simp only [List.mem_cons, List.not_mem_nil, or_false] at hx
  rcases hx with rfl | rfl | rfl | rfl | rfl | rfl | rfl | rfl | rfl | rfl | rfl | rfl | rfl
  · exact (by rw [he]; rfl)
  · exact (by rw [hm.m0]; rfl)
  · exact (by rw [hm.m0]; rfl)
  · exact (by rw [hm.m0]; rfl)
  · exact (by rw [hm.m0]; rfl)
  · exact (by rw [hm.m1]; rfl)
  · exact (by rw [hm.m2]; rfl)
  · exact (by rw [hm.m3]; rfl)
  · exact (by rw [hm.m4]; rfl)
  · exact (by rw [hm.m2]; rfl)
  · exact (by rw [hm.m2]; rfl)
  · exact (by rw [hm.m2]; rfl)
  · exact (by rw [hm.m2]; rfl)
theorem irrr2_0 {nm : List UInt8} (h : Irr2 nm) {A B C D : Int} (e : chkE (.ofNat 2) nm A B C D = 0) (I : Int) : AnsV 6 [.int .i64 (.ofNat 2), insV nm A B C D I, .str []] (trV (.ofNat 0) (.ofNat 0) false) := by
  have he := Zb4 e
  refine byR (ri2_0 ..) (Zb3 _ _ fun x hx => ?_)
  simp only [List.mem_cons, List.not_mem_nil, or_false] at hx
  rcases hx with rfl | rfl | rfl | rfl | rfl | rfl | rfl
  · exact (by rw [he]; rfl)
  · exact h.q0
  · exact h.q1
  · exact h.q2
  · exact h.q3
  · exact h.q4
  · exact h.q5
theorem irrr2_1 {nm : List UInt8} (h : Irr2 nm) {A B C D : Int} (e : chkE (.ofNat 2) nm A B C D = 0) (I : Int) : AnsV 6 [.int .i64 (.ofNat 2), insV nm A B C D I, .str [112, 97, 103, 101]] (trV (.ofNat 0) (.ofNat 0) false) := by
  have he := Zb4 e
  refine byR (ri2_1 ..) (Zb3 _ _ fun x hx => ?_)
  simp only [List.mem_cons, List.not_mem_nil, or_false] at hx
  rcases hx with rfl | rfl
  · exact (by rw [he]; rfl)
  · exact h.q6
theorem irrr2_2 {nm : List UInt8} (h : Irr2 nm) {A B C D : Int} (e : chkE (.ofNat 2) nm A B C D = 0) (I : Int) : AnsV 6 [.int .i64 (.ofNat 2), insV nm A B C D I, .str [108, 111, 49, 50]] (trV (.ofNat 0) (.ofNat 0) false) := by
  have he := Zb4 e
  refine byR (ri2_2 ..) (Zb3 _ _ fun x hx => ?_)
  simp only [List.mem_cons, List.not_mem_nil, or_false] at hx
  rcases hx with rfl | rfl | rfl | rfl | rfl | rfl | rfl | rfl | rfl | rfl | rfl
  · exact (by rw [he]; rfl)
  · exact h.r7
  · exact h.r8
  · exact h.r9
  · exact h.r10
  · exact h.r11
  · exact h.r12
  · exact h.r13
  · exact h.r14
  · exact h.r15
  · exact h.r16
theorem irrr2_3 {nm : List UInt8} (h : Irr2 nm) {A B C D : Int} (e : chkE (.ofNat 2) nm A B C D = 0) (I : Int) : AnsV 6 [.int .i64 (.ofNat 2), insV nm A B C D I, .str [116, 112, 104, 105]] (trV (.ofNat 0) (.ofNat 0) false) := by
  have he := Zb4 e
  refine byR (ri2_3 ..) (Zb3 _ _ fun x hx => ?_)
  simp only [List.mem_cons, List.not_mem_nil, or_false] at hx
  rcases hx with rfl | rfl
  · exact (by rw [he]; rfl)
  · exact h.q7
theorem irrr2_4 {nm : List UInt8} (h : Irr2 nm) {A B C D : Int} (e : chkE (.ofNat 2) nm A B C D = 0) (I : Int) : AnsV 6 [.int .i64 (.ofNat 2), insV nm A B C D I, .str [116, 112, 108, 111]] (trV (.ofNat 0) (.ofNat 0) false) := by
  have he := Zb4 e
  refine byR (ri2_4 ..) (Zb3 _ _ fun x hx => ?_)
  simp only [List.mem_cons, List.not_mem_nil, or_false] at hx
  rcases hx with rfl | rfl
  · exact (by rw [he]; rfl)
  · exact h.q7
theorem irrr2_x {nm : List UInt8} {mod : List UInt8} (_h : Irr2 nm) (hm : NoMod2 mod) {A B C D : Int} (e : chkE (.ofNat 2) nm A B C D = 0) (I : Int) : AnsV 6 [.int .i64 (.ofNat 2), insV nm A B C D I, .str mod] (trV (.ofNat 0) (.ofNat 0) false) := by
  have he := Zb4 e
  refine byR (ri2_x ..) (Zb3 _ _ fun x hx => ?_)
  simp only [List.mem_cons, List.not_mem_nil, or_false] at hx
  rcases hx with rfl | rfl | rfl | rfl | rfl | rfl
  · exact (by rw [he]; rfl)
  · exact hm.w2
  · exact hm.w1
  · exact hm.w3
  · exact hm.w4
  · exact (by rw [hm.w0]; rfl)
theorem irr2 {nm : List UInt8} (h : Irr2 nm) (A B C D I : Int) (mod : List UInt8) : OfX (.ofNat 2) nm A B C D I mod := by
  refine ⟨.ofNat 0, .ofNat 0, false, ?_, ?_⟩
  · by_cases e : encE (.ofNat 2) nm A B C D = 0
    · rcases mods2 mod with rfl | rfl | rfl | rfl | rfl | hm
      · exact irro2_0 h e I
      · exact irro2_1 h e I
      · exact irro2_2 h e I
      · exact irro2_3 h e I
      · exact irro2_4 h e I
      · exact irro2_x h hm e I
    · exact any_bad rfl e I mod
  · by_cases e : chkE (.ofNat 2) nm A B C D = 0
    · rcases mods2 mod with rfl | rfl | rfl | rfl | rfl | hm
      · exact irrr2_0 h e I
      · exact irrr2_1 h e I
      · exact irrr2_2 h e I
      · exact irrr2_3 h e I
      · exact irrr2_4 h e I
      · exact irrr2_x h hm e I
    · exact anyr_bad e I mod
theorem cho2_ok {e : Int} {mod : List UInt8} (he : ieq e (.ofNat 0) = true) (hm : NoMod2 mod) : ∀ x ∈ cho2 e mod, x.1 = x.2 := by
  intro x hx
  simp only [cho2, List.mem_cons, List.not_mem_nil, or_false] at hx
  rcases hx with rfl | rfl | rfl | rfl | rfl | rfl | rfl | rfl | rfl | rfl | rfl | rfl | rfl
  · exact (by rw [he]; rfl)
  · exact (by rw [hm.m0]; rfl)
  · exact (by rw [hm.m0]; rfl)
  · exact (by rw [hm.m0]; rfl)
  · exact (by rw [hm.m0]; rfl)
  · exact (by rw [hm.m1]; rfl)
  · exact (by rw [hm.m2]; rfl)
  · exact (by rw [hm.m3]; rfl)
  · exact (by rw [hm.m4]; rfl)
  · exact (by rw [hm.m2]; rfl)
  · exact (by rw [hm.m2]; rfl)
  · exact (by rw [hm.m2]; rfl)
  · exact (by rw [hm.m2]; rfl)
theorem chr2_ok {e : Int} {mod : List UInt8} (he : ieq e (.ofNat 0) = true) (hm : NoMod2 mod) : ∀ x ∈ chr2 e mod, x.1 = x.2 := by
  intro x hx
  simp only [chr2, List.mem_cons, List.not_mem_nil, or_false] at hx
  rcases hx with rfl | rfl | rfl | rfl | rfl | rfl
  · exact (by rw [he]; rfl)
  · exact hm.w2
  · exact hm.w1
  · exact hm.w3
  · exact hm.w4
  · exact (by rw [hm.w0]; rfl)
def irrB2 (nm : List UInt8) : Bool := Nat.ble (Nat.add 1 (lenU nm)) 1099511627776 && (Nat.ble (Nat.succ (lenU ([32] ++ nm))) 1099511627776 && (([[32, 97, 100, 114, 32], [32, 98, 46, 99, 32, 99, 98, 122, 32, 99, 98, 110, 122, 32], [32, 98, 32], [32, 98, 108, 32], [32, 97, 100, 114, 112, 32], [32, 97, 100, 100, 46, 105, 32], [32, 108, 100, 114, 98, 32, 115, 116, 114, 98, 32], [32, 108, 100, 114, 104, 32, 115, 116, 114, 104, 32], [32, 108, 100, 114, 46, 119, 32, 115, 116, 114, 46, 119, 32, 108, 100, 114, 115, 119, 32], [32, 108, 100, 114, 32, 115, 116, 114, 32]].all fun l => !(hasL l (([32] ++ nm) ++ [32]))) && ([[97, 100, 114], [98, 46, 99], [99, 98, 122], [99, 98, 110, 122], [98], [98, 108], [97, 100, 114, 112], [97, 100, 100, 46, 105], [108, 100, 114, 98], [115, 116, 114, 98], [108, 100, 114, 104], [115, 116, 114, 104], [108, 100, 114, 46, 119], [115, 116, 114, 46, 119], [108, 100, 114, 115, 119], [108, 100, 114], [115, 116, 114]].all fun m => !(leq m nm))))
theorem Zaw {nm : List UInt8} (h : irrB2 nm = true) : Irr2 nm := by
  unfold irrB2 at h
  simp only [Bool.and_eq_true, List.all_cons, List.all_nil, Bool.not_eq_true', and_true] at h
  obtain ⟨h1, h2, ⟨c0, c1, c2, c3, c4, c5, c6, c7, c8, c9⟩, r0, r1, r2, r3, r4, r5, r6, r7, r8, r9, r10, r11, r12, r13, r14, r15, r16⟩ := h
  exact ⟨h1, h2, c0, c1, c2, c3, c4, c5, c6, c7, c8, c9, r0, (Zaf _ _).trans r0, r1, (Zaf _ _).trans r1, r2, (Zaf _ _).trans r2, r3, (Zaf _ _).trans r3, r4, (Zaf _ _).trans r4, r5, (Zaf _ _).trans r5, r6, (Zaf _ _).trans r6, r7, (Zaf _ _).trans r7, r8, (Zaf _ _).trans r8, r9, (Zaf _ _).trans r9, r10, (Zaf _ _).trans r10, r11, (Zaf _ _).trans r11, r12, (Zaf _ _).trans r12, r13, (Zaf _ _).trans r13, r14, (Zaf _ _).trans r14, r15, (Zaf _ _).trans r15, r16, (Zaf _ _).trans r16⟩
theorem rel2 {nm : List UInt8} {po pr : Orc} {ef cf : Fn4} (e1 : ∀ A B C D, encE (.ofNat 2) nm A B C D = ef A B C D) (e2 : ∀ A B C D, chkE (.ofNat 2) nm A B C D = cf A B C D) (hq : ∀ A B C D, ef A B C D = 0 ↔ cf A B C D = 0) {x0 y0 : Nat} {b0 : Bool} (o0 : KO 2 nm [] x0 y0 b0) (r0 : KR 2 nm [] x0 y0 b0) {x1 y1 : Nat} {b1 : Bool} (o1 : KO 2 nm [112, 97, 103, 101] x1 y1 b1) (r1 : KR 2 nm [112, 97, 103, 101] x1 y1 b1) {x2 y2 : Nat} {b2 : Bool} (o2 : KO 2 nm [108, 111, 49, 50] x2 y2 b2) (r2 : KR 2 nm [108, 111, 49, 50] x2 y2 b2) {x3 y3 : Nat} {b3 : Bool} (o3 : KO 2 nm [116, 112, 104, 105] x3 y3 b3) (r3 : KR 2 nm [116, 112, 104, 105] x3 y3 b3) {x4 y4 : Nat} {b4 : Bool} (o4 : KO 2 nm [116, 112, 108, 111] x4 y4 b4) (r4 : KR 2 nm [116, 112, 108, 111] x4 y4 b4)
    (ox : ∀ (ev : EvT) (os : OsT) (ob : ObT) (mod : List UInt8) (A B C D I : Int), goO ev os ob (.ofNat 2) nm A B C D I mod po = cT (cho2 (ev (.ofNat 2) nm A B C D) mod) (some badV)) (rx : ∀ (fv : EvT) (mod : List UInt8) (A B C D I : Int), goR fv (.ofNat 2) nm A B C D I mod pr = cT (chr2 (fv (.ofNat 2) nm A B C D) mod) (some badV)) (A B C D I : Int) (mod : List UInt8) : OfX (.ofNat 2) nm A B C D I mod := by
  by_cases h : cf A B C D = 0
  · have f1 := (e1 A B C D).trans ((hq A B C D).2 h)
    have f2 := (e2 A B C D).trans h
    rcases mods2 mod with rfl | rfl | rfl | rfl | rfl | hm
    · exact ⟨_, _, _, byO (o0 ..) (eT_0 f1 _), byR (r0 ..) (eT_0 f2 _)⟩
    · exact ⟨_, _, _, byO (o1 ..) (eT_0 f1 _), byR (r1 ..) (eT_0 f2 _)⟩
    · exact ⟨_, _, _, byO (o2 ..) (eT_0 f1 _), byR (r2 ..) (eT_0 f2 _)⟩
    · exact ⟨_, _, _, byO (o3 ..) (eT_0 f1 _), byR (r3 ..) (eT_0 f2 _)⟩
    · exact ⟨_, _, _, byO (o4 ..) (eT_0 f1 _), byR (r4 ..) (eT_0 f2 _)⟩
    · exact ⟨.ofNat 0, .ofNat 0, false, byO (ox ..) (Zb3 _ _ (cho2_ok (Zb4 f1) hm)), byR (rx ..) (Zb3 _ _ (chr2_ok (Zb4 f2) hm))⟩
  · exact ⟨_, _, _, any_bad rfl (fun e => h ((hq A B C D).1 ((e1 A B C D).symm.trans e))) I mod, anyr_bad (fun e => h ((e2 A B C D).symm.trans e)) I mod⟩
theorem of2_movn : ∀ A B C D I mod, OfX (.ofNat 2) [109, 111, 118, 110] A B C D I mod := irr2 (Zaw (by kernel_rfl))
theorem of2_movz : ∀ A B C D I mod, OfX (.ofNat 2) [109, 111, 118, 122] A B C D I mod := irr2 (Zaw (by kernel_rfl))
theorem of2_movk : ∀ A B C D I mod, OfX (.ofNat 2) [109, 111, 118, 107] A B C D I mod := irr2 (Zaw (by kernel_rfl))
theorem of2_add_i : ∀ A B C D I mod, OfX (.ofNat 2) [97, 100, 100, 46, 105] A B C D I mod := rel2 (ef := (ee8 2432696320)) (cf := ee49) (fun _ _ _ _ => by kernel_rfl) (fun _ _ _ _ => by kernel_rfl) eqv9 o2_add_i_0 r2_add_i_0 o2_add_i_1 r2_add_i_1 o2_add_i_2 r2_add_i_2 o2_add_i_3 r2_add_i_3 o2_add_i_4 r2_add_i_4 o2_add_i_x r2_add_i_x
theorem of2_adds_i : ∀ A B C D I mod, OfX (.ofNat 2) [97, 100, 100, 115, 46, 105] A B C D I mod := irr2 (Zaw (by kernel_rfl))
theorem of2_sub_i : ∀ A B C D I mod, OfX (.ofNat 2) [115, 117, 98, 46, 105] A B C D I mod := irr2 (Zaw (by kernel_rfl))
theorem of2_subs_i : ∀ A B C D I mod, OfX (.ofNat 2) [115, 117, 98, 115, 46, 105] A B C D I mod := irr2 (Zaw (by kernel_rfl))
theorem of2_add : ∀ A B C D I mod, OfX (.ofNat 2) [97, 100, 100] A B C D I mod := irr2 (Zaw (by kernel_rfl))
theorem of2_adds : ∀ A B C D I mod, OfX (.ofNat 2) [97, 100, 100, 115] A B C D I mod := irr2 (Zaw (by kernel_rfl))
theorem of2_sub : ∀ A B C D I mod, OfX (.ofNat 2) [115, 117, 98] A B C D I mod := irr2 (Zaw (by kernel_rfl))
theorem of2_subs : ∀ A B C D I mod, OfX (.ofNat 2) [115, 117, 98, 115] A B C D I mod := irr2 (Zaw (by kernel_rfl))
theorem of2_and : ∀ A B C D I mod, OfX (.ofNat 2) [97, 110, 100] A B C D I mod := irr2 (Zaw (by kernel_rfl))
theorem of2_orr : ∀ A B C D I mod, OfX (.ofNat 2) [111, 114, 114] A B C D I mod := irr2 (Zaw (by kernel_rfl))
theorem of2_eor : ∀ A B C D I mod, OfX (.ofNat 2) [101, 111, 114] A B C D I mod := irr2 (Zaw (by kernel_rfl))
theorem of2_ands : ∀ A B C D I mod, OfX (.ofNat 2) [97, 110, 100, 115] A B C D I mod := irr2 (Zaw (by kernel_rfl))
theorem of2_and_i : ∀ A B C D I mod, OfX (.ofNat 2) [97, 110, 100, 46, 105] A B C D I mod := irr2 (Zaw (by kernel_rfl))
theorem of2_orr_i : ∀ A B C D I mod, OfX (.ofNat 2) [111, 114, 114, 46, 105] A B C D I mod := irr2 (Zaw (by kernel_rfl))
theorem of2_eor_i : ∀ A B C D I mod, OfX (.ofNat 2) [101, 111, 114, 46, 105] A B C D I mod := irr2 (Zaw (by kernel_rfl))
theorem of2_ands_i : ∀ A B C D I mod, OfX (.ofNat 2) [97, 110, 100, 115, 46, 105] A B C D I mod := irr2 (Zaw (by kernel_rfl))
theorem of2_madd : ∀ A B C D I mod, OfX (.ofNat 2) [109, 97, 100, 100] A B C D I mod := irr2 (Zaw (by kernel_rfl))
theorem of2_msub : ∀ A B C D I mod, OfX (.ofNat 2) [109, 115, 117, 98] A B C D I mod := irr2 (Zaw (by kernel_rfl))
theorem of2_udiv : ∀ A B C D I mod, OfX (.ofNat 2) [117, 100, 105, 118] A B C D I mod := irr2 (Zaw (by kernel_rfl))
theorem of2_sdiv : ∀ A B C D I mod, OfX (.ofNat 2) [115, 100, 105, 118] A B C D I mod := irr2 (Zaw (by kernel_rfl))
theorem of2_lslv : ∀ A B C D I mod, OfX (.ofNat 2) [108, 115, 108, 118] A B C D I mod := irr2 (Zaw (by kernel_rfl))
theorem of2_lsrv : ∀ A B C D I mod, OfX (.ofNat 2) [108, 115, 114, 118] A B C D I mod := irr2 (Zaw (by kernel_rfl))
theorem of2_asrv : ∀ A B C D I mod, OfX (.ofNat 2) [97, 115, 114, 118] A B C D I mod := irr2 (Zaw (by kernel_rfl))
theorem of2_sbfm : ∀ A B C D I mod, OfX (.ofNat 2) [115, 98, 102, 109] A B C D I mod := irr2 (Zaw (by kernel_rfl))
theorem of2_ubfm : ∀ A B C D I mod, OfX (.ofNat 2) [117, 98, 102, 109] A B C D I mod := irr2 (Zaw (by kernel_rfl))
theorem of2_csel : ∀ A B C D I mod, OfX (.ofNat 2) [99, 115, 101, 108] A B C D I mod := irr2 (Zaw (by kernel_rfl))
theorem of2_csinc : ∀ A B C D I mod, OfX (.ofNat 2) [99, 115, 105, 110, 99] A B C D I mod := irr2 (Zaw (by kernel_rfl))
theorem of2_adr : ∀ A B C D I mod, OfX (.ofNat 2) [97, 100, 114] A B C D I mod := rel2 (ef := (ee12 268435456)) (cf := ee54) (fun _ _ _ _ => by kernel_rfl) (fun _ _ _ _ => by kernel_rfl) eqv3 o2_adr_0 r2_adr_0 o2_adr_1 r2_adr_1 o2_adr_2 r2_adr_2 o2_adr_3 r2_adr_3 o2_adr_4 r2_adr_4 o2_adr_x r2_adr_x
theorem of2_adrp : ∀ A B C D I mod, OfX (.ofNat 2) [97, 100, 114, 112] A B C D I mod := rel2 (ef := (ee12 2415919104)) (cf := ee54) (fun _ _ _ _ => by kernel_rfl) (fun _ _ _ _ => by kernel_rfl) eqv8 o2_adrp_0 r2_adrp_0 o2_adrp_1 r2_adrp_1 o2_adrp_2 r2_adrp_2 o2_adrp_3 r2_adrp_3 o2_adrp_4 r2_adrp_4 o2_adrp_x r2_adrp_x
theorem of2_ldrb : ∀ A B C D I mod, OfX (.ofNat 2) [108, 100, 114, 98] A B C D I mod := rel2 (ef := (ee13 960495616)) (cf := (ee51 0)) (fun _ _ _ _ => by kernel_rfl) (fun _ _ _ _ => by kernel_rfl) eqv10 o2_ldrb_0 r2_ldrb_0 o2_ldrb_1 r2_ldrb_1 o2_ldrb_2 r2_ldrb_2 o2_ldrb_3 r2_ldrb_3 o2_ldrb_4 r2_ldrb_4 o2_ldrb_x r2_ldrb_x
theorem of2_strb : ∀ A B C D I mod, OfX (.ofNat 2) [115, 116, 114, 98] A B C D I mod := rel2 (ef := (ee13 956301312)) (cf := (ee51 0)) (fun _ _ _ _ => by kernel_rfl) (fun _ _ _ _ => by kernel_rfl) eqv11 o2_strb_0 r2_strb_0 o2_strb_1 r2_strb_1 o2_strb_2 r2_strb_2 o2_strb_3 r2_strb_3 o2_strb_4 r2_strb_4 o2_strb_x r2_strb_x
theorem of2_ldrh : ∀ A B C D I mod, OfX (.ofNat 2) [108, 100, 114, 104] A B C D I mod := rel2 (ef := (ee13 2034237440)) (cf := (ee51 0)) (fun _ _ _ _ => by kernel_rfl) (fun _ _ _ _ => by kernel_rfl) eqv12 o2_ldrh_0 r2_ldrh_0 o2_ldrh_1 r2_ldrh_1 o2_ldrh_2 r2_ldrh_2 o2_ldrh_3 r2_ldrh_3 o2_ldrh_4 r2_ldrh_4 o2_ldrh_x r2_ldrh_x
theorem of2_strh : ∀ A B C D I mod, OfX (.ofNat 2) [115, 116, 114, 104] A B C D I mod := rel2 (ef := (ee13 2030043136)) (cf := (ee51 0)) (fun _ _ _ _ => by kernel_rfl) (fun _ _ _ _ => by kernel_rfl) eqv13 o2_strh_0 r2_strh_0 o2_strh_1 r2_strh_1 o2_strh_2 r2_strh_2 o2_strh_3 r2_strh_3 o2_strh_4 r2_strh_4 o2_strh_x r2_strh_x
theorem of2_ldr_w : ∀ A B C D I mod, OfX (.ofNat 2) [108, 100, 114, 46, 119] A B C D I mod := rel2 (ef := (ee13 3107979264)) (cf := (ee51 0)) (fun _ _ _ _ => by kernel_rfl) (fun _ _ _ _ => by kernel_rfl) eqv14 o2_ldr_w_0 r2_ldr_w_0 o2_ldr_w_1 r2_ldr_w_1 o2_ldr_w_2 r2_ldr_w_2 o2_ldr_w_3 r2_ldr_w_3 o2_ldr_w_4 r2_ldr_w_4 o2_ldr_w_x r2_ldr_w_x
theorem of2_str_w : ∀ A B C D I mod, OfX (.ofNat 2) [115, 116, 114, 46, 119] A B C D I mod := rel2 (ef := (ee13 3103784960)) (cf := (ee51 0)) (fun _ _ _ _ => by kernel_rfl) (fun _ _ _ _ => by kernel_rfl) eqv15 o2_str_w_0 r2_str_w_0 o2_str_w_1 r2_str_w_1 o2_str_w_2 r2_str_w_2 o2_str_w_3 r2_str_w_3 o2_str_w_4 r2_str_w_4 o2_str_w_x r2_str_w_x
theorem of2_ldrsw : ∀ A B C D I mod, OfX (.ofNat 2) [108, 100, 114, 115, 119] A B C D I mod := rel2 (ef := (ee13 3112173568)) (cf := (ee51 0)) (fun _ _ _ _ => by kernel_rfl) (fun _ _ _ _ => by kernel_rfl) eqv16 o2_ldrsw_0 r2_ldrsw_0 o2_ldrsw_1 r2_ldrsw_1 o2_ldrsw_2 r2_ldrsw_2 o2_ldrsw_3 r2_ldrsw_3 o2_ldrsw_4 r2_ldrsw_4 o2_ldrsw_x r2_ldrsw_x
theorem of2_ldr : ∀ A B C D I mod, OfX (.ofNat 2) [108, 100, 114] A B C D I mod := rel2 (ef := (ee13 4181721088)) (cf := (ee51 0)) (fun _ _ _ _ => by kernel_rfl) (fun _ _ _ _ => by kernel_rfl) eqv17 o2_ldr_0 r2_ldr_0 o2_ldr_1 r2_ldr_1 o2_ldr_2 r2_ldr_2 o2_ldr_3 r2_ldr_3 o2_ldr_4 r2_ldr_4 o2_ldr_x r2_ldr_x
theorem of2_str : ∀ A B C D I mod, OfX (.ofNat 2) [115, 116, 114] A B C D I mod := rel2 (ef := (ee13 4177526784)) (cf := (ee51 0)) (fun _ _ _ _ => by kernel_rfl) (fun _ _ _ _ => by kernel_rfl) eqv18 o2_str_0 r2_str_0 o2_str_1 r2_str_1 o2_str_2 r2_str_2 o2_str_3 r2_str_3 o2_str_4 r2_str_4 o2_str_x r2_str_x
theorem of2_ldp : ∀ A B C D I mod, OfX (.ofNat 2) [108, 100, 112] A B C D I mod := irr2 (Zaw (by kernel_rfl))
theorem of2_stp : ∀ A B C D I mod, OfX (.ofNat 2) [115, 116, 112] A B C D I mod := irr2 (Zaw (by kernel_rfl))
theorem of2_b : ∀ A B C D I mod, OfX (.ofNat 2) [98] A B C D I mod := rel2 (ef := ee14) (cf := ee55) (fun _ _ _ _ => by kernel_rfl) (fun _ _ _ _ => by kernel_rfl) eqv7 o2_b_0 r2_b_0 o2_b_1 r2_b_1 o2_b_2 r2_b_2 o2_b_3 r2_b_3 o2_b_4 r2_b_4 o2_b_x r2_b_x
theorem of2_bl : ∀ A B C D I mod, OfX (.ofNat 2) [98, 108] A B C D I mod := rel2 (ef := ee14) (cf := ee55) (fun _ _ _ _ => by kernel_rfl) (fun _ _ _ _ => by kernel_rfl) eqv7 o2_bl_0 r2_bl_0 o2_bl_1 r2_bl_1 o2_bl_2 r2_bl_2 o2_bl_3 r2_bl_3 o2_bl_4 r2_bl_4 o2_bl_x r2_bl_x
theorem of2_b_c : ∀ A B C D I mod, OfX (.ofNat 2) [98, 46, 99] A B C D I mod := rel2 (ef := ee15) (cf := ee56) (fun _ _ _ _ => by kernel_rfl) (fun _ _ _ _ => by kernel_rfl) eqv4 o2_b_c_0 r2_b_c_0 o2_b_c_1 r2_b_c_1 o2_b_c_2 r2_b_c_2 o2_b_c_3 r2_b_c_3 o2_b_c_4 r2_b_c_4 o2_b_c_x r2_b_c_x
theorem of2_cbz : ∀ A B C D I mod, OfX (.ofNat 2) [99, 98, 122] A B C D I mod := rel2 (ef := (ee12 3019898880)) (cf := ee54) (fun _ _ _ _ => by kernel_rfl) (fun _ _ _ _ => by kernel_rfl) eqv5 o2_cbz_0 r2_cbz_0 o2_cbz_1 r2_cbz_1 o2_cbz_2 r2_cbz_2 o2_cbz_3 r2_cbz_3 o2_cbz_4 r2_cbz_4 o2_cbz_x r2_cbz_x
theorem of2_cbnz : ∀ A B C D I mod, OfX (.ofNat 2) [99, 98, 110, 122] A B C D I mod := rel2 (ef := (ee12 3036676096)) (cf := ee54) (fun _ _ _ _ => by kernel_rfl) (fun _ _ _ _ => by kernel_rfl) eqv6 o2_cbnz_0 r2_cbnz_0 o2_cbnz_1 r2_cbnz_1 o2_cbnz_2 r2_cbnz_2 o2_cbnz_3 r2_cbnz_3 o2_cbnz_4 r2_cbnz_4 o2_cbnz_x r2_cbnz_x
theorem of2_br : ∀ A B C D I mod, OfX (.ofNat 2) [98, 114] A B C D I mod := irr2 (Zaw (by kernel_rfl))
theorem of2_blr : ∀ A B C D I mod, OfX (.ofNat 2) [98, 108, 114] A B C D I mod := irr2 (Zaw (by kernel_rfl))
theorem of2_ret : ∀ A B C D I mod, OfX (.ofNat 2) [114, 101, 116] A B C D I mod := irr2 (Zaw (by kernel_rfl))
theorem of2_svc : ∀ A B C D I mod, OfX (.ofNat 2) [115, 118, 99] A B C D I mod := irr2 (Zaw (by kernel_rfl))
theorem of2_brk : ∀ A B C D I mod, OfX (.ofNat 2) [98, 114, 107] A B C D I mod := irr2 (Zaw (by kernel_rfl))
theorem of2_nop : ∀ A B C D I mod, OfX (.ofNat 2) [110, 111, 112] A B C D I mod := irr2 (Zaw (by kernel_rfl))
theorem all2 : AllN (.ofNat 2) tab2 := ⟨of2_movn, of2_movz, of2_movk, of2_add_i, of2_adds_i, of2_sub_i, of2_subs_i, of2_add, of2_adds, of2_sub, of2_subs, of2_and, of2_orr, of2_eor, of2_ands, of2_and_i, of2_orr_i, of2_eor_i, of2_ands_i, of2_madd, of2_msub, of2_udiv, of2_sdiv, of2_lslv, of2_lsrv, of2_asrv, of2_sbfm, of2_ubfm, of2_csel, of2_csinc, of2_adr, of2_adrp, of2_ldrb, of2_strb, of2_ldrh, of2_strh, of2_ldr_w, of2_str_w, of2_ldrsw, of2_ldr, of2_str, of2_ldp, of2_stp, of2_b, of2_bl, of2_b_c, of2_cbz, of2_cbnz, of2_br, of2_blr, of2_ret, of2_svc, of2_brk, of2_nop, trivial⟩
structure NoMod3 (mod : List UInt8) : Prop where
  m0 : leq [] mod = false
  w0 : leq mod [] = false
  m1 : leq [104, 105] mod = false
  w1 : leq mod [104, 105] = false
  m2 : leq [116, 112, 104, 105] mod = false
  w2 : leq mod [116, 112, 104, 105] = false
  m3 : leq [112, 99, 104, 105] mod = false
  w3 : leq mod [112, 99, 104, 105] = false
  m4 : leq [108, 111] mod = false
  w4 : leq mod [108, 111] = false
  m5 : leq [112, 99, 108, 111] mod = false
  w5 : leq mod [112, 99, 108, 111] = false
  m6 : leq [116, 112, 108, 111] mod = false
  w6 : leq mod [116, 112, 108, 111] = false
theorem mods3 (mod : List UInt8) : mod = [] ∨ mod = [104, 105] ∨ mod = [116, 112, 104, 105] ∨ mod = [112, 99, 104, 105] ∨ mod = [108, 111] ∨ mod = [112, 99, 108, 111] ∨ mod = [116, 112, 108, 111] ∨ NoMod3 mod := by
  cases h0 : leq [] mod with
  | true => exact .inl (leq_t h0).symm
  | false =>
  cases h1 : leq [104, 105] mod with
  | true => exact .inr (.inl (leq_t h1).symm)
  | false =>
  cases h2 : leq [116, 112, 104, 105] mod with
  | true => exact .inr (.inr (.inl (leq_t h2).symm))
  | false =>
  cases h3 : leq [112, 99, 104, 105] mod with
  | true => exact .inr (.inr (.inr (.inl (leq_t h3).symm)))
  | false =>
  cases h4 : leq [108, 111] mod with
  | true => exact .inr (.inr (.inr (.inr (.inl (leq_t h4).symm))))
  | false =>
  cases h5 : leq [112, 99, 108, 111] mod with
  | true => exact .inr (.inr (.inr (.inr (.inr (.inl (leq_t h5).symm)))))
  | false =>
  cases h6 : leq [116, 112, 108, 111] mod with
  | true => exact .inr (.inr (.inr (.inr (.inr (.inr (.inl (leq_t h6).symm))))))
  | false =>
  exact .inr (.inr (.inr (.inr (.inr (.inr (.inr (⟨h0, (Zaf _ _).trans h0, h1, (Zaf _ _).trans h1, h2, (Zaf _ _).trans h2, h3, (Zaf _ _).trans h3, h4, (Zaf _ _).trans h4, h5, (Zaf _ _).trans h5, h6, (Zaf _ _).trans h6⟩)))))))
structure Irr3 (nm : List UInt8) : Prop where
  l1 : Nat.ble (Nat.add 1 (lenU nm)) 1099511627776 = true
  l2 : Nat.ble (Nat.succ (lenU ([32] ++ nm))) 1099511627776 = true
  c0 : hasL [32, 98, 101, 113, 32, 98, 110, 101, 32, 98, 108, 116, 32, 98, 103, 101, 32, 98, 108, 116, 117, 32, 98, 103, 101, 117, 32] (([32] ++ nm) ++ [32]) = false
  c1 : hasL [32, 106, 97, 108, 32] (([32] ++ nm) ++ [32]) = false
  c2 : hasL [32, 99, 46, 98, 101, 113, 122, 32, 99, 46, 98, 110, 101, 122, 32] (([32] ++ nm) ++ [32]) = false
  c3 : hasL [32, 99, 46, 106, 32] (([32] ++ nm) ++ [32]) = false
  c4 : hasL [32, 108, 117, 105, 32] (([32] ++ nm) ++ [32]) = false
  c5 : hasL [32, 97, 117, 105, 112, 99, 32] (([32] ++ nm) ++ [32]) = false
  c6 : hasL [32, 97, 100, 100, 105, 32, 115, 108, 116, 105, 32, 115, 108, 116, 105, 117, 32, 120, 111, 114, 105, 32, 111, 114, 105, 32, 97, 110, 100, 105, 32, 97, 100, 100, 105, 119, 32, 108, 98, 32, 108, 104, 32, 108, 119, 32, 108, 100, 32, 108, 98, 117, 32, 108, 104, 117, 32, 108, 119, 117, 32, 106, 97, 108, 114, 32] (([32] ++ nm) ++ [32]) = false
  c7 : hasL [32, 115, 98, 32, 115, 104, 32, 115, 119, 32, 115, 100, 32] (([32] ++ nm) ++ [32]) = false
  r0 : leq [97, 100, 100, 105] nm = false
  q0 : leq nm [97, 100, 100, 105] = false
  r1 : leq [115, 108, 116, 105] nm = false
  q1 : leq nm [115, 108, 116, 105] = false
  r2 : leq [115, 108, 116, 105, 117] nm = false
  q2 : leq nm [115, 108, 116, 105, 117] = false
  r3 : leq [120, 111, 114, 105] nm = false
  q3 : leq nm [120, 111, 114, 105] = false
  r4 : leq [111, 114, 105] nm = false
  q4 : leq nm [111, 114, 105] = false
  r5 : leq [97, 110, 100, 105] nm = false
  q5 : leq nm [97, 110, 100, 105] = false
  r6 : leq [97, 100, 100, 105, 119] nm = false
  q6 : leq nm [97, 100, 100, 105, 119] = false
  r7 : leq [108, 98] nm = false
  q7 : leq nm [108, 98] = false
  r8 : leq [108, 104] nm = false
  q8 : leq nm [108, 104] = false
  r9 : leq [108, 119] nm = false
  q9 : leq nm [108, 119] = false
  r10 : leq [108, 100] nm = false
  q10 : leq nm [108, 100] = false
  r11 : leq [108, 98, 117] nm = false
  q11 : leq nm [108, 98, 117] = false
  r12 : leq [108, 104, 117] nm = false
  q12 : leq nm [108, 104, 117] = false
  r13 : leq [108, 119, 117] nm = false
  q13 : leq nm [108, 119, 117] = false
  r14 : leq [106, 97, 108, 114] nm = false
  q14 : leq nm [106, 97, 108, 114] = false
  r15 : leq [115, 98] nm = false
  q15 : leq nm [115, 98] = false
  r16 : leq [115, 104] nm = false
  q16 : leq nm [115, 104] = false
  r17 : leq [115, 119] nm = false
  q17 : leq nm [115, 119] = false
  r18 : leq [115, 100] nm = false
  q18 : leq nm [115, 100] = false
  r19 : leq [98, 101, 113] nm = false
  q19 : leq nm [98, 101, 113] = false
  r20 : leq [98, 110, 101] nm = false
  q20 : leq nm [98, 110, 101] = false
  r21 : leq [98, 108, 116] nm = false
  q21 : leq nm [98, 108, 116] = false
  r22 : leq [98, 103, 101] nm = false
  q22 : leq nm [98, 103, 101] = false
  r23 : leq [98, 108, 116, 117] nm = false
  q23 : leq nm [98, 108, 116, 117] = false
  r24 : leq [98, 103, 101, 117] nm = false
  q24 : leq nm [98, 103, 101, 117] = false
  r25 : leq [106, 97, 108] nm = false
  q25 : leq nm [106, 97, 108] = false
  r26 : leq [99, 46, 98, 101, 113, 122] nm = false
  q26 : leq nm [99, 46, 98, 101, 113, 122] = false
  r27 : leq [99, 46, 98, 110, 101, 122] nm = false
  q27 : leq nm [99, 46, 98, 110, 101, 122] = false
  r28 : leq [99, 46, 106] nm = false
  q28 : leq nm [99, 46, 106] = false
  r29 : leq [108, 117, 105] nm = false
  q29 : leq nm [108, 117, 105] = false
  r30 : leq [97, 117, 105, 112, 99] nm = false
  q30 : leq nm [97, 117, 105, 112, 99] = false
theorem irro3_0 {nm : List UInt8} (h : Irr3 nm) {A B C D : Int} (e : encE (.ofNat 3) nm A B C D = 0) (I : Int) : AnsV 5 [.int .i64 (.ofNat 3), insV nm A B C D I, .str []] (trV (.ofNat 0) (.ofNat 0) false) := by
  have he := Zb4 e
  refine byO (oi3_0 ..) (Zb3 _ _ fun x hx => ?_)
  simp only [List.mem_cons, List.not_mem_nil, or_false] at hx
  rcases hx with rfl | rfl | rfl | rfl | rfl | rfl | rfl | rfl | rfl | rfl | rfl | rfl | rfl
  · exact (by rw [he]; rfl)
  · exact h.l1
  · exact h.l2
  · exact (by rw [h.c0]; rfl)
  · exact h.l1
  · exact h.l2
  · exact (by rw [h.c1]; rfl)
  · exact h.l1
  · exact h.l2
  · exact (by rw [h.c2]; rfl)
  · exact h.l1
  · exact h.l2
  · exact (by rw [h.c3]; rfl)
theorem irro3_1 {nm : List UInt8} (h : Irr3 nm) {A B C D : Int} (e : encE (.ofNat 3) nm A B C D = 0) (I : Int) : AnsV 5 [.int .i64 (.ofNat 3), insV nm A B C D I, .str [104, 105]] (trV (.ofNat 0) (.ofNat 0) false) := by
  have he := Zb4 e
  refine byO (oi3_1 ..) (Zb3 _ _ fun x hx => ?_)
  simp only [List.mem_cons, List.not_mem_nil, or_false] at hx
  rcases hx with rfl | rfl | rfl | rfl
  · exact (by rw [he]; rfl)
  · exact h.l1
  · exact h.l2
  · exact (by rw [h.c4]; rfl)
theorem irro3_2 {nm : List UInt8} (h : Irr3 nm) {A B C D : Int} (e : encE (.ofNat 3) nm A B C D = 0) (I : Int) : AnsV 5 [.int .i64 (.ofNat 3), insV nm A B C D I, .str [116, 112, 104, 105]] (trV (.ofNat 0) (.ofNat 0) false) := by
  have he := Zb4 e
  refine byO (oi3_2 ..) (Zb3 _ _ fun x hx => ?_)
  simp only [List.mem_cons, List.not_mem_nil, or_false] at hx
  rcases hx with rfl | rfl | rfl | rfl
  · exact (by rw [he]; rfl)
  · exact h.l1
  · exact h.l2
  · exact (by rw [h.c4]; rfl)
theorem irro3_3 {nm : List UInt8} (h : Irr3 nm) {A B C D : Int} (e : encE (.ofNat 3) nm A B C D = 0) (I : Int) : AnsV 5 [.int .i64 (.ofNat 3), insV nm A B C D I, .str [112, 99, 104, 105]] (trV (.ofNat 0) (.ofNat 0) false) := by
  have he := Zb4 e
  refine byO (oi3_3 ..) (Zb3 _ _ fun x hx => ?_)
  simp only [List.mem_cons, List.not_mem_nil, or_false] at hx
  rcases hx with rfl | rfl | rfl | rfl
  · exact (by rw [he]; rfl)
  · exact h.l1
  · exact h.l2
  · exact (by rw [h.c5]; rfl)
theorem irro3_4 {nm : List UInt8} (h : Irr3 nm) {A B C D : Int} (e : encE (.ofNat 3) nm A B C D = 0) (I : Int) : AnsV 5 [.int .i64 (.ofNat 3), insV nm A B C D I, .str [108, 111]] (trV (.ofNat 0) (.ofNat 0) false) := by
  have he := Zb4 e
  refine byO (oi3_4 ..) (Zb3 _ _ fun x hx => ?_)
  simp only [List.mem_cons, List.not_mem_nil, or_false] at hx
  rcases hx with rfl | rfl | rfl | rfl | rfl | rfl | rfl
  · exact (by rw [he]; rfl)
  · exact h.l1
  · exact h.l2
  · exact (by rw [h.c6]; rfl)
  · exact h.l1
  · exact h.l2
  · exact (by rw [h.c7]; rfl)
theorem irro3_5 {nm : List UInt8} (h : Irr3 nm) {A B C D : Int} (e : encE (.ofNat 3) nm A B C D = 0) (I : Int) : AnsV 5 [.int .i64 (.ofNat 3), insV nm A B C D I, .str [112, 99, 108, 111]] (trV (.ofNat 0) (.ofNat 0) false) := by
  have he := Zb4 e
  refine byO (oi3_5 ..) (Zb3 _ _ fun x hx => ?_)
  simp only [List.mem_cons, List.not_mem_nil, or_false] at hx
  rcases hx with rfl | rfl | rfl | rfl | rfl | rfl | rfl
  · exact (by rw [he]; rfl)
  · exact h.l1
  · exact h.l2
  · exact (by rw [h.c6]; rfl)
  · exact h.l1
  · exact h.l2
  · exact (by rw [h.c7]; rfl)
theorem irro3_6 {nm : List UInt8} (h : Irr3 nm) {A B C D : Int} (e : encE (.ofNat 3) nm A B C D = 0) (I : Int) : AnsV 5 [.int .i64 (.ofNat 3), insV nm A B C D I, .str [116, 112, 108, 111]] (trV (.ofNat 0) (.ofNat 0) false) := by
  have he := Zb4 e
  refine byO (oi3_6 ..) (Zb3 _ _ fun x hx => ?_)
  simp only [List.mem_cons, List.not_mem_nil, or_false] at hx
  rcases hx with rfl | rfl | rfl | rfl | rfl | rfl | rfl
  · exact (by rw [he]; rfl)
  · exact h.l1
  · exact h.l2
  · exact (by rw [h.c6]; rfl)
  · exact h.l1
  · exact h.l2
  · exact (by rw [h.c7]; rfl)
theorem irro3_x {nm : List UInt8} {mod : List UInt8} (_h : Irr3 nm) (hm : NoMod3 mod) {A B C D : Int} (e : encE (.ofNat 3) nm A B C D = 0) (I : Int) : AnsV 5 [.int .i64 (.ofNat 3), insV nm A B C D I, .str mod] (trV (.ofNat 0) (.ofNat 0) false) := by
  have he := Zb4 e
  refine byO (oi3_x ..) (Zb3 _ _ fun x hx => ?_)
  simp only [List.mem_cons, List.not_mem_nil, or_false] at hx
  rcases hx with rfl | rfl | rfl | rfl | rfl | rfl | rfl | rfl | rfl | rfl | rfl | rfl | rfl | rfl
  · exact (by rw [he]; rfl)
  · exact (by rw [hm.m0]; rfl)
  · exact (by rw [hm.m0]; rfl)
  · exact (by rw [hm.m0]; rfl)
  · exact (by rw [hm.m0]; rfl)
  · exact (by rw [hm.m1]; rfl)
  · exact (by rw [hm.m2]; rfl)
  · exact (by rw [hm.m3]; rfl)
  · exact (by rw [hm.m4]; rfl)
  · exact (by rw [hm.m5]; rfl)
  · exact (by rw [hm.m6]; rfl)
  · exact (by rw [hm.m4]; rfl)
  · exact (by rw [hm.m5]; rfl)
  · exact (by rw [hm.m6]; rfl)
theorem irrr3_0 {nm : List UInt8} (h : Irr3 nm) {A B C D : Int} (e : chkE (.ofNat 3) nm A B C D = 0) (I : Int) : AnsV 6 [.int .i64 (.ofNat 3), insV nm A B C D I, .str []] (trV (.ofNat 0) (.ofNat 0) false) := by
  have he := Zb4 e
  refine byR (ri3_0 ..) (Zb3 _ _ fun x hx => ?_)
  simp only [List.mem_cons, List.not_mem_nil, or_false] at hx
  rcases hx with rfl | rfl | rfl | rfl | rfl | rfl | rfl | rfl | rfl | rfl | rfl | rfl | rfl | rfl | rfl | rfl | rfl | rfl | rfl | rfl | rfl | rfl | rfl | rfl | rfl | rfl | rfl | rfl | rfl | rfl
  · exact (by rw [he]; rfl)
  · exact h.r0
  · exact h.r1
  · exact h.r2
  · exact h.r3
  · exact h.r4
  · exact h.r5
  · exact h.r6
  · exact h.r7
  · exact h.r8
  · exact h.r9
  · exact h.r10
  · exact h.r11
  · exact h.r12
  · exact h.r13
  · exact h.r14
  · exact h.r15
  · exact h.r16
  · exact h.r17
  · exact h.r18
  · exact h.r19
  · exact h.r20
  · exact h.r21
  · exact h.r22
  · exact h.r23
  · exact h.r24
  · exact h.q25
  · exact h.q26
  · exact h.q27
  · exact h.q28
theorem irrr3_1 {nm : List UInt8} (h : Irr3 nm) {A B C D : Int} (e : chkE (.ofNat 3) nm A B C D = 0) (I : Int) : AnsV 6 [.int .i64 (.ofNat 3), insV nm A B C D I, .str [104, 105]] (trV (.ofNat 0) (.ofNat 0) false) := by
  have he := Zb4 e
  refine byR (ri3_1 ..) (Zb3 _ _ fun x hx => ?_)
  simp only [List.mem_cons, List.not_mem_nil, or_false] at hx
  rcases hx with rfl | rfl | rfl | rfl | rfl | rfl | rfl | rfl | rfl | rfl | rfl | rfl | rfl | rfl | rfl | rfl | rfl | rfl | rfl | rfl | rfl
  · exact (by rw [he]; rfl)
  · exact h.r0
  · exact h.r1
  · exact h.r2
  · exact h.r3
  · exact h.r4
  · exact h.r5
  · exact h.r6
  · exact h.r7
  · exact h.r8
  · exact h.r9
  · exact h.r10
  · exact h.r11
  · exact h.r12
  · exact h.r13
  · exact h.r14
  · exact h.r15
  · exact h.r16
  · exact h.r17
  · exact h.r18
  · exact h.q29
theorem irrr3_2 {nm : List UInt8} (h : Irr3 nm) {A B C D : Int} (e : chkE (.ofNat 3) nm A B C D = 0) (I : Int) : AnsV 6 [.int .i64 (.ofNat 3), insV nm A B C D I, .str [116, 112, 104, 105]] (trV (.ofNat 0) (.ofNat 0) false) := by
  have he := Zb4 e
  refine byR (ri3_2 ..) (Zb3 _ _ fun x hx => ?_)
  simp only [List.mem_cons, List.not_mem_nil, or_false] at hx
  rcases hx with rfl | rfl | rfl | rfl | rfl | rfl | rfl | rfl | rfl | rfl | rfl | rfl | rfl | rfl | rfl | rfl | rfl | rfl | rfl | rfl | rfl
  · exact (by rw [he]; rfl)
  · exact h.r0
  · exact h.r1
  · exact h.r2
  · exact h.r3
  · exact h.r4
  · exact h.r5
  · exact h.r6
  · exact h.r7
  · exact h.r8
  · exact h.r9
  · exact h.r10
  · exact h.r11
  · exact h.r12
  · exact h.r13
  · exact h.r14
  · exact h.r15
  · exact h.r16
  · exact h.r17
  · exact h.r18
  · exact h.q29
theorem irrr3_3 {nm : List UInt8} (h : Irr3 nm) {A B C D : Int} (e : chkE (.ofNat 3) nm A B C D = 0) (I : Int) : AnsV 6 [.int .i64 (.ofNat 3), insV nm A B C D I, .str [112, 99, 104, 105]] (trV (.ofNat 0) (.ofNat 0) false) := by
  have he := Zb4 e
  refine byR (ri3_3 ..) (Zb3 _ _ fun x hx => ?_)
  simp only [List.mem_cons, List.not_mem_nil, or_false] at hx
  rcases hx with rfl | rfl | rfl | rfl | rfl | rfl | rfl | rfl | rfl | rfl | rfl | rfl | rfl | rfl | rfl | rfl | rfl | rfl | rfl | rfl | rfl
  · exact (by rw [he]; rfl)
  · exact h.r0
  · exact h.r1
  · exact h.r2
  · exact h.r3
  · exact h.r4
  · exact h.r5
  · exact h.r6
  · exact h.r7
  · exact h.r8
  · exact h.r9
  · exact h.r10
  · exact h.r11
  · exact h.r12
  · exact h.r13
  · exact h.r14
  · exact h.r15
  · exact h.r16
  · exact h.r17
  · exact h.r18
  · exact h.q30
theorem irrr3_4 {nm : List UInt8} (h : Irr3 nm) {A B C D : Int} (e : chkE (.ofNat 3) nm A B C D = 0) (I : Int) : AnsV 6 [.int .i64 (.ofNat 3), insV nm A B C D I, .str [108, 111]] (trV (.ofNat 0) (.ofNat 0) false) := by
  have he := Zb4 e
  refine byR (ri3_4 ..) (Zb3 _ _ fun x hx => ?_)
  simp only [List.mem_cons, List.not_mem_nil, or_false] at hx
  rcases hx with rfl | rfl | rfl | rfl | rfl | rfl | rfl | rfl | rfl | rfl | rfl | rfl | rfl | rfl | rfl | rfl | rfl | rfl | rfl | rfl
  · exact (by rw [he]; rfl)
  · exact h.r0
  · exact h.r1
  · exact h.r2
  · exact h.r3
  · exact h.r4
  · exact h.r5
  · exact h.r6
  · exact h.r7
  · exact h.r8
  · exact h.r9
  · exact h.r10
  · exact h.r11
  · exact h.r12
  · exact h.r13
  · exact h.r14
  · exact h.r15
  · exact h.r16
  · exact h.r17
  · exact h.r18
theorem irrr3_5 {nm : List UInt8} (h : Irr3 nm) {A B C D : Int} (e : chkE (.ofNat 3) nm A B C D = 0) (I : Int) : AnsV 6 [.int .i64 (.ofNat 3), insV nm A B C D I, .str [112, 99, 108, 111]] (trV (.ofNat 0) (.ofNat 0) false) := by
  have he := Zb4 e
  refine byR (ri3_5 ..) (Zb3 _ _ fun x hx => ?_)
  simp only [List.mem_cons, List.not_mem_nil, or_false] at hx
  rcases hx with rfl | rfl | rfl | rfl | rfl | rfl | rfl | rfl | rfl | rfl | rfl | rfl | rfl | rfl | rfl | rfl | rfl | rfl | rfl | rfl
  · exact (by rw [he]; rfl)
  · exact h.r0
  · exact h.r1
  · exact h.r2
  · exact h.r3
  · exact h.r4
  · exact h.r5
  · exact h.r6
  · exact h.r7
  · exact h.r8
  · exact h.r9
  · exact h.r10
  · exact h.r11
  · exact h.r12
  · exact h.r13
  · exact h.r14
  · exact h.r15
  · exact h.r16
  · exact h.r17
  · exact h.r18
theorem irrr3_6 {nm : List UInt8} (h : Irr3 nm) {A B C D : Int} (e : chkE (.ofNat 3) nm A B C D = 0) (I : Int) : AnsV 6 [.int .i64 (.ofNat 3), insV nm A B C D I, .str [116, 112, 108, 111]] (trV (.ofNat 0) (.ofNat 0) false) := by
  have he := Zb4 e
  refine byR (ri3_6 ..) (Zb3 _ _ fun x hx => ?_)
  simp only [List.mem_cons, List.not_mem_nil, or_false] at hx
  rcases hx with rfl | rfl | rfl | rfl | rfl | rfl | rfl | rfl | rfl | rfl | rfl | rfl | rfl | rfl | rfl | rfl | rfl | rfl | rfl | rfl
  · exact (by rw [he]; rfl)
  · exact h.r0
  · exact h.r1
  · exact h.r2
  · exact h.r3
  · exact h.r4
  · exact h.r5
  · exact h.r6
  · exact h.r7
  · exact h.r8
  · exact h.r9
  · exact h.r10
  · exact h.r11
  · exact h.r12
  · exact h.r13
  · exact h.r14
  · exact h.r15
  · exact h.r16
  · exact h.r17
  · exact h.r18
theorem irrr3_x {nm : List UInt8} {mod : List UInt8} (h : Irr3 nm) (hm : NoMod3 mod) {A B C D : Int} (e : chkE (.ofNat 3) nm A B C D = 0) (I : Int) : AnsV 6 [.int .i64 (.ofNat 3), insV nm A B C D I, .str mod] (trV (.ofNat 0) (.ofNat 0) false) := by
  have he := Zb4 e
  refine byR (ri3_x ..) (Zb3 _ _ fun x hx => ?_)
  simp only [List.mem_cons, List.not_mem_nil, or_false] at hx
  rcases hx with rfl | rfl | rfl | rfl | rfl | rfl | rfl | rfl | rfl | rfl | rfl | rfl | rfl | rfl | rfl | rfl | rfl | rfl | rfl | rfl | rfl | rfl | rfl | rfl | rfl | rfl | rfl | rfl | rfl | rfl | rfl | rfl | rfl
  · exact (by rw [he]; rfl)
  · exact h.r0
  · exact h.r1
  · exact h.r2
  · exact h.r3
  · exact h.r4
  · exact h.r5
  · exact h.r6
  · exact h.r7
  · exact h.r8
  · exact h.r9
  · exact h.r10
  · exact h.r11
  · exact h.r12
  · exact h.r13
  · exact h.r14
  · exact h.r15
  · exact h.r16
  · exact h.r17
  · exact h.r18
  · exact hm.w0
  · exact hm.w0
  · exact hm.w0
  · exact hm.w0
  · exact hm.w1
  · exact hm.w2
  · exact hm.w3
  · exact hm.w4
  · exact hm.w4
  · exact hm.w5
  · exact hm.w5
  · exact hm.w6
  · exact hm.w6
theorem irr3 {nm : List UInt8} (h : Irr3 nm) (A B C D I : Int) (mod : List UInt8) : OfX (.ofNat 3) nm A B C D I mod := by
  refine ⟨.ofNat 0, .ofNat 0, false, ?_, ?_⟩
  · by_cases e : encE (.ofNat 3) nm A B C D = 0
    · rcases mods3 mod with rfl | rfl | rfl | rfl | rfl | rfl | rfl | hm
      · exact irro3_0 h e I
      · exact irro3_1 h e I
      · exact irro3_2 h e I
      · exact irro3_3 h e I
      · exact irro3_4 h e I
      · exact irro3_5 h e I
      · exact irro3_6 h e I
      · exact irro3_x h hm e I
    · exact any_bad rfl e I mod
  · by_cases e : chkE (.ofNat 3) nm A B C D = 0
    · rcases mods3 mod with rfl | rfl | rfl | rfl | rfl | rfl | rfl | hm
      · exact irrr3_0 h e I
      · exact irrr3_1 h e I
      · exact irrr3_2 h e I
      · exact irrr3_3 h e I
      · exact irrr3_4 h e I
      · exact irrr3_5 h e I
      · exact irrr3_6 h e I
      · exact irrr3_x h hm e I
    · exact anyr_bad e I mod
theorem cho3_ok {e : Int} {mod : List UInt8} (he : ieq e (.ofNat 0) = true) (hm : NoMod3 mod) : ∀ x ∈ cho3 e mod, x.1 = x.2 := by
  intro x hx
  simp only [cho3, List.mem_cons, List.not_mem_nil, or_false] at hx
  rcases hx with rfl | rfl | rfl | rfl | rfl | rfl | rfl | rfl | rfl | rfl | rfl | rfl | rfl | rfl
  · exact (by rw [he]; rfl)
  · exact (by rw [hm.m0]; rfl)
  · exact (by rw [hm.m0]; rfl)
  · exact (by rw [hm.m0]; rfl)
  · exact (by rw [hm.m0]; rfl)
  · exact (by rw [hm.m1]; rfl)
  · exact (by rw [hm.m2]; rfl)
  · exact (by rw [hm.m3]; rfl)
  · exact (by rw [hm.m4]; rfl)
  · exact (by rw [hm.m5]; rfl)
  · exact (by rw [hm.m6]; rfl)
  · exact (by rw [hm.m4]; rfl)
  · exact (by rw [hm.m5]; rfl)
  · exact (by rw [hm.m6]; rfl)
theorem chr3_ok {e : Int} {mod : List UInt8} (he : ieq e (.ofNat 0) = true) (hm : NoMod3 mod) : ∀ x ∈ chr3 e mod, x.1 = x.2 := by
  intro x hx
  simp only [chr3, List.mem_cons, List.not_mem_nil, or_false] at hx
  rcases hx with rfl | rfl | rfl | rfl | rfl | rfl | rfl | rfl | rfl | rfl | rfl | rfl | rfl | rfl
  · exact (by rw [he]; rfl)
  · exact hm.w0
  · exact hm.w0
  · exact hm.w0
  · exact hm.w0
  · exact hm.w1
  · exact hm.w2
  · exact hm.w3
  · exact hm.w4
  · exact hm.w4
  · exact hm.w5
  · exact hm.w5
  · exact hm.w6
  · exact hm.w6
def irrB3 (nm : List UInt8) : Bool := Nat.ble (Nat.add 1 (lenU nm)) 1099511627776 && (Nat.ble (Nat.succ (lenU ([32] ++ nm))) 1099511627776 && (([[32, 98, 101, 113, 32, 98, 110, 101, 32, 98, 108, 116, 32, 98, 103, 101, 32, 98, 108, 116, 117, 32, 98, 103, 101, 117, 32], [32, 106, 97, 108, 32], [32, 99, 46, 98, 101, 113, 122, 32, 99, 46, 98, 110, 101, 122, 32], [32, 99, 46, 106, 32], [32, 108, 117, 105, 32], [32, 97, 117, 105, 112, 99, 32], [32, 97, 100, 100, 105, 32, 115, 108, 116, 105, 32, 115, 108, 116, 105, 117, 32, 120, 111, 114, 105, 32, 111, 114, 105, 32, 97, 110, 100, 105, 32, 97, 100, 100, 105, 119, 32, 108, 98, 32, 108, 104, 32, 108, 119, 32, 108, 100, 32, 108, 98, 117, 32, 108, 104, 117, 32, 108, 119, 117, 32, 106, 97, 108, 114, 32], [32, 115, 98, 32, 115, 104, 32, 115, 119, 32, 115, 100, 32]].all fun l => !(hasL l (([32] ++ nm) ++ [32]))) && ([[97, 100, 100, 105], [115, 108, 116, 105], [115, 108, 116, 105, 117], [120, 111, 114, 105], [111, 114, 105], [97, 110, 100, 105], [97, 100, 100, 105, 119], [108, 98], [108, 104], [108, 119], [108, 100], [108, 98, 117], [108, 104, 117], [108, 119, 117], [106, 97, 108, 114], [115, 98], [115, 104], [115, 119], [115, 100], [98, 101, 113], [98, 110, 101], [98, 108, 116], [98, 103, 101], [98, 108, 116, 117], [98, 103, 101, 117], [106, 97, 108], [99, 46, 98, 101, 113, 122], [99, 46, 98, 110, 101, 122], [99, 46, 106], [108, 117, 105], [97, 117, 105, 112, 99]].all fun m => !(leq m nm))))
theorem Zak {nm : List UInt8} (h : irrB3 nm = true) : Irr3 nm := by
  unfold irrB3 at h
  simp only [Bool.and_eq_true, List.all_cons, List.all_nil, Bool.not_eq_true', and_true] at h
  obtain ⟨h1, h2, ⟨c0, c1, c2, c3, c4, c5, c6, c7⟩, r0, r1, r2, r3, r4, r5, r6, r7, r8, r9, r10, r11, r12, r13, r14, r15, r16, r17, r18, r19, r20, r21, r22, r23, r24, r25, r26, r27, r28, r29, r30⟩ := h
  exact ⟨h1, h2, c0, c1, c2, c3, c4, c5, c6, c7, r0, (Zaf _ _).trans r0, r1, (Zaf _ _).trans r1, r2, (Zaf _ _).trans r2, r3, (Zaf _ _).trans r3, r4, (Zaf _ _).trans r4, r5, (Zaf _ _).trans r5, r6, (Zaf _ _).trans r6, r7, (Zaf _ _).trans r7, r8, (Zaf _ _).trans r8, r9, (Zaf _ _).trans r9, r10, (Zaf _ _).trans r10, r11, (Zaf _ _).trans r11, r12, (Zaf _ _).trans r12, r13, (Zaf _ _).trans r13, r14, (Zaf _ _).trans r14, r15, (Zaf _ _).trans r15, r16, (Zaf _ _).trans r16, r17, (Zaf _ _).trans r17, r18, (Zaf _ _).trans r18, r19, (Zaf _ _).trans r19, r20, (Zaf _ _).trans r20, r21, (Zaf _ _).trans r21, r22, (Zaf _ _).trans r22, r23, (Zaf _ _).trans r23, r24, (Zaf _ _).trans r24, r25, (Zaf _ _).trans r25, r26, (Zaf _ _).trans r26, r27, (Zaf _ _).trans r27, r28, (Zaf _ _).trans r28, r29, (Zaf _ _).trans r29, r30, (Zaf _ _).trans r30⟩
theorem rel3 {nm : List UInt8} {po pr : Orc} {ef cf : Fn4} (e1 : ∀ A B C D, encE (.ofNat 3) nm A B C D = ef A B C D) (e2 : ∀ A B C D, chkE (.ofNat 3) nm A B C D = cf A B C D) (hq : ∀ A B C D, ef A B C D = 0 ↔ cf A B C D = 0) {x0 y0 : Nat} {b0 : Bool} (o0 : KO 3 nm [] x0 y0 b0) (r0 : KR 3 nm [] x0 y0 b0) {x1 y1 : Nat} {b1 : Bool} (o1 : KO 3 nm [104, 105] x1 y1 b1) (r1 : KR 3 nm [104, 105] x1 y1 b1) {x2 y2 : Nat} {b2 : Bool} (o2 : KO 3 nm [116, 112, 104, 105] x2 y2 b2) (r2 : KR 3 nm [116, 112, 104, 105] x2 y2 b2) {x3 y3 : Nat} {b3 : Bool} (o3 : KO 3 nm [112, 99, 104, 105] x3 y3 b3) (r3 : KR 3 nm [112, 99, 104, 105] x3 y3 b3) {x4 y4 : Nat} {b4 : Bool} (o4 : KO 3 nm [108, 111] x4 y4 b4) (r4 : KR 3 nm [108, 111] x4 y4 b4) {x5 y5 : Nat} {b5 : Bool} (o5 : KO 3 nm [112, 99, 108, 111] x5 y5 b5) (r5 : KR 3 nm [112, 99, 108, 111] x5 y5 b5) {x6 y6 : Nat} {b6 : Bool} (o6 : KO 3 nm [116, 112, 108, 111] x6 y6 b6) (r6 : KR 3 nm [116, 112, 108, 111] x6 y6 b6)
    (ox : ∀ (ev : EvT) (os : OsT) (ob : ObT) (mod : List UInt8) (A B C D I : Int), goO ev os ob (.ofNat 3) nm A B C D I mod po = cT (cho3 (ev (.ofNat 3) nm A B C D) mod) (some badV)) (rx : ∀ (fv : EvT) (mod : List UInt8) (A B C D I : Int), goR fv (.ofNat 3) nm A B C D I mod pr = cT (chr3 (fv (.ofNat 3) nm A B C D) mod) (some badV)) (A B C D I : Int) (mod : List UInt8) : OfX (.ofNat 3) nm A B C D I mod := by
  by_cases h : cf A B C D = 0
  · have f1 := (e1 A B C D).trans ((hq A B C D).2 h)
    have f2 := (e2 A B C D).trans h
    rcases mods3 mod with rfl | rfl | rfl | rfl | rfl | rfl | rfl | hm
    · exact ⟨_, _, _, byO (o0 ..) (eT_0 f1 _), byR (r0 ..) (eT_0 f2 _)⟩
    · exact ⟨_, _, _, byO (o1 ..) (eT_0 f1 _), byR (r1 ..) (eT_0 f2 _)⟩
    · exact ⟨_, _, _, byO (o2 ..) (eT_0 f1 _), byR (r2 ..) (eT_0 f2 _)⟩
    · exact ⟨_, _, _, byO (o3 ..) (eT_0 f1 _), byR (r3 ..) (eT_0 f2 _)⟩
    · exact ⟨_, _, _, byO (o4 ..) (eT_0 f1 _), byR (r4 ..) (eT_0 f2 _)⟩
    · exact ⟨_, _, _, byO (o5 ..) (eT_0 f1 _), byR (r5 ..) (eT_0 f2 _)⟩
    · exact ⟨_, _, _, byO (o6 ..) (eT_0 f1 _), byR (r6 ..) (eT_0 f2 _)⟩
    · exact ⟨.ofNat 0, .ofNat 0, false, byO (ox ..) (Zb3 _ _ (cho3_ok (Zb4 f1) hm)), byR (rx ..) (Zb3 _ _ (chr3_ok (Zb4 f2) hm))⟩
  · exact ⟨_, _, _, any_bad rfl (fun e => h ((hq A B C D).1 ((e1 A B C D).symm.trans e))) I mod, anyr_bad (fun e => h ((e2 A B C D).symm.trans e)) I mod⟩
theorem of3_add : ∀ A B C D I mod, OfX (.ofNat 3) [97, 100, 100] A B C D I mod := irr3 (Zak (by kernel_rfl))
theorem of3_sub : ∀ A B C D I mod, OfX (.ofNat 3) [115, 117, 98] A B C D I mod := irr3 (Zak (by kernel_rfl))
theorem of3_sll : ∀ A B C D I mod, OfX (.ofNat 3) [115, 108, 108] A B C D I mod := irr3 (Zak (by kernel_rfl))
theorem of3_slt : ∀ A B C D I mod, OfX (.ofNat 3) [115, 108, 116] A B C D I mod := irr3 (Zak (by kernel_rfl))
theorem of3_sltu : ∀ A B C D I mod, OfX (.ofNat 3) [115, 108, 116, 117] A B C D I mod := irr3 (Zak (by kernel_rfl))
theorem of3_xor : ∀ A B C D I mod, OfX (.ofNat 3) [120, 111, 114] A B C D I mod := irr3 (Zak (by kernel_rfl))
theorem of3_srl : ∀ A B C D I mod, OfX (.ofNat 3) [115, 114, 108] A B C D I mod := irr3 (Zak (by kernel_rfl))
theorem of3_sra : ∀ A B C D I mod, OfX (.ofNat 3) [115, 114, 97] A B C D I mod := irr3 (Zak (by kernel_rfl))
theorem of3_or : ∀ A B C D I mod, OfX (.ofNat 3) [111, 114] A B C D I mod := irr3 (Zak (by kernel_rfl))
theorem of3_and : ∀ A B C D I mod, OfX (.ofNat 3) [97, 110, 100] A B C D I mod := irr3 (Zak (by kernel_rfl))
theorem of3_mul : ∀ A B C D I mod, OfX (.ofNat 3) [109, 117, 108] A B C D I mod := irr3 (Zak (by kernel_rfl))
theorem of3_mulh : ∀ A B C D I mod, OfX (.ofNat 3) [109, 117, 108, 104] A B C D I mod := irr3 (Zak (by kernel_rfl))
theorem of3_mulhsu : ∀ A B C D I mod, OfX (.ofNat 3) [109, 117, 108, 104, 115, 117] A B C D I mod := irr3 (Zak (by kernel_rfl))
theorem of3_mulhu : ∀ A B C D I mod, OfX (.ofNat 3) [109, 117, 108, 104, 117] A B C D I mod := irr3 (Zak (by kernel_rfl))
theorem of3_div : ∀ A B C D I mod, OfX (.ofNat 3) [100, 105, 118] A B C D I mod := irr3 (Zak (by kernel_rfl))
theorem of3_divu : ∀ A B C D I mod, OfX (.ofNat 3) [100, 105, 118, 117] A B C D I mod := irr3 (Zak (by kernel_rfl))
theorem of3_rem : ∀ A B C D I mod, OfX (.ofNat 3) [114, 101, 109] A B C D I mod := irr3 (Zak (by kernel_rfl))
theorem of3_remu : ∀ A B C D I mod, OfX (.ofNat 3) [114, 101, 109, 117] A B C D I mod := irr3 (Zak (by kernel_rfl))
theorem of3_addw : ∀ A B C D I mod, OfX (.ofNat 3) [97, 100, 100, 119] A B C D I mod := irr3 (Zak (by kernel_rfl))
theorem of3_subw : ∀ A B C D I mod, OfX (.ofNat 3) [115, 117, 98, 119] A B C D I mod := irr3 (Zak (by kernel_rfl))
theorem of3_sllw : ∀ A B C D I mod, OfX (.ofNat 3) [115, 108, 108, 119] A B C D I mod := irr3 (Zak (by kernel_rfl))
theorem of3_srlw : ∀ A B C D I mod, OfX (.ofNat 3) [115, 114, 108, 119] A B C D I mod := irr3 (Zak (by kernel_rfl))
theorem of3_sraw : ∀ A B C D I mod, OfX (.ofNat 3) [115, 114, 97, 119] A B C D I mod := irr3 (Zak (by kernel_rfl))
theorem of3_mulw : ∀ A B C D I mod, OfX (.ofNat 3) [109, 117, 108, 119] A B C D I mod := irr3 (Zak (by kernel_rfl))
theorem of3_divw : ∀ A B C D I mod, OfX (.ofNat 3) [100, 105, 118, 119] A B C D I mod := irr3 (Zak (by kernel_rfl))
theorem of3_divuw : ∀ A B C D I mod, OfX (.ofNat 3) [100, 105, 118, 117, 119] A B C D I mod := irr3 (Zak (by kernel_rfl))
theorem of3_remw : ∀ A B C D I mod, OfX (.ofNat 3) [114, 101, 109, 119] A B C D I mod := irr3 (Zak (by kernel_rfl))
theorem of3_remuw : ∀ A B C D I mod, OfX (.ofNat 3) [114, 101, 109, 117, 119] A B C D I mod := irr3 (Zak (by kernel_rfl))
theorem of3_addi : ∀ A B C D I mod, OfX (.ofNat 3) [97, 100, 100, 105] A B C D I mod := rel3 (ef := (ee18 19)) (cf := (ee59 0 31)) (fun _ _ _ _ => by kernel_rfl) (fun _ _ _ _ => by kernel_rfl) eqv31 o3_addi_0 r3_addi_0 o3_addi_1 r3_addi_1 o3_addi_2 r3_addi_2 o3_addi_3 r3_addi_3 o3_addi_4 r3_addi_4 o3_addi_5 r3_addi_5 o3_addi_6 r3_addi_6 o3_addi_x r3_addi_x
theorem of3_slti : ∀ A B C D I mod, OfX (.ofNat 3) [115, 108, 116, 105] A B C D I mod := rel3 (ef := (ee18 8211)) (cf := (ee59 0 31)) (fun _ _ _ _ => by kernel_rfl) (fun _ _ _ _ => by kernel_rfl) eqv32 o3_slti_0 r3_slti_0 o3_slti_1 r3_slti_1 o3_slti_2 r3_slti_2 o3_slti_3 r3_slti_3 o3_slti_4 r3_slti_4 o3_slti_5 r3_slti_5 o3_slti_6 r3_slti_6 o3_slti_x r3_slti_x
theorem of3_sltiu : ∀ A B C D I mod, OfX (.ofNat 3) [115, 108, 116, 105, 117] A B C D I mod := rel3 (ef := (ee18 12307)) (cf := (ee59 0 31)) (fun _ _ _ _ => by kernel_rfl) (fun _ _ _ _ => by kernel_rfl) eqv33 o3_sltiu_0 r3_sltiu_0 o3_sltiu_1 r3_sltiu_1 o3_sltiu_2 r3_sltiu_2 o3_sltiu_3 r3_sltiu_3 o3_sltiu_4 r3_sltiu_4 o3_sltiu_5 r3_sltiu_5 o3_sltiu_6 r3_sltiu_6 o3_sltiu_x r3_sltiu_x
theorem of3_xori : ∀ A B C D I mod, OfX (.ofNat 3) [120, 111, 114, 105] A B C D I mod := rel3 (ef := (ee18 16403)) (cf := (ee59 0 31)) (fun _ _ _ _ => by kernel_rfl) (fun _ _ _ _ => by kernel_rfl) eqv34 o3_xori_0 r3_xori_0 o3_xori_1 r3_xori_1 o3_xori_2 r3_xori_2 o3_xori_3 r3_xori_3 o3_xori_4 r3_xori_4 o3_xori_5 r3_xori_5 o3_xori_6 r3_xori_6 o3_xori_x r3_xori_x
theorem of3_ori : ∀ A B C D I mod, OfX (.ofNat 3) [111, 114, 105] A B C D I mod := rel3 (ef := (ee18 24595)) (cf := (ee59 0 31)) (fun _ _ _ _ => by kernel_rfl) (fun _ _ _ _ => by kernel_rfl) eqv35 o3_ori_0 r3_ori_0 o3_ori_1 r3_ori_1 o3_ori_2 r3_ori_2 o3_ori_3 r3_ori_3 o3_ori_4 r3_ori_4 o3_ori_5 r3_ori_5 o3_ori_6 r3_ori_6 o3_ori_x r3_ori_x
theorem of3_andi : ∀ A B C D I mod, OfX (.ofNat 3) [97, 110, 100, 105] A B C D I mod := rel3 (ef := (ee18 28691)) (cf := (ee59 0 31)) (fun _ _ _ _ => by kernel_rfl) (fun _ _ _ _ => by kernel_rfl) eqv36 o3_andi_0 r3_andi_0 o3_andi_1 r3_andi_1 o3_andi_2 r3_andi_2 o3_andi_3 r3_andi_3 o3_andi_4 r3_andi_4 o3_andi_5 r3_andi_5 o3_andi_6 r3_andi_6 o3_andi_x r3_andi_x
theorem of3_addiw : ∀ A B C D I mod, OfX (.ofNat 3) [97, 100, 100, 105, 119] A B C D I mod := rel3 (ef := (ee18 27)) (cf := (ee59 0 31)) (fun _ _ _ _ => by kernel_rfl) (fun _ _ _ _ => by kernel_rfl) eqv37 o3_addiw_0 r3_addiw_0 o3_addiw_1 r3_addiw_1 o3_addiw_2 r3_addiw_2 o3_addiw_3 r3_addiw_3 o3_addiw_4 r3_addiw_4 o3_addiw_5 r3_addiw_5 o3_addiw_6 r3_addiw_6 o3_addiw_x r3_addiw_x
theorem of3_lb : ∀ A B C D I mod, OfX (.ofNat 3) [108, 98] A B C D I mod := rel3 (ef := (ee18 3)) (cf := (ee59 0 31)) (fun _ _ _ _ => by kernel_rfl) (fun _ _ _ _ => by kernel_rfl) eqv38 o3_lb_0 r3_lb_0 o3_lb_1 r3_lb_1 o3_lb_2 r3_lb_2 o3_lb_3 r3_lb_3 o3_lb_4 r3_lb_4 o3_lb_5 r3_lb_5 o3_lb_6 r3_lb_6 o3_lb_x r3_lb_x
theorem of3_lh : ∀ A B C D I mod, OfX (.ofNat 3) [108, 104] A B C D I mod := rel3 (ef := (ee18 4099)) (cf := (ee59 0 31)) (fun _ _ _ _ => by kernel_rfl) (fun _ _ _ _ => by kernel_rfl) eqv39 o3_lh_0 r3_lh_0 o3_lh_1 r3_lh_1 o3_lh_2 r3_lh_2 o3_lh_3 r3_lh_3 o3_lh_4 r3_lh_4 o3_lh_5 r3_lh_5 o3_lh_6 r3_lh_6 o3_lh_x r3_lh_x
theorem of3_lw : ∀ A B C D I mod, OfX (.ofNat 3) [108, 119] A B C D I mod := rel3 (ef := (ee18 8195)) (cf := (ee59 0 31)) (fun _ _ _ _ => by kernel_rfl) (fun _ _ _ _ => by kernel_rfl) eqv40 o3_lw_0 r3_lw_0 o3_lw_1 r3_lw_1 o3_lw_2 r3_lw_2 o3_lw_3 r3_lw_3 o3_lw_4 r3_lw_4 o3_lw_5 r3_lw_5 o3_lw_6 r3_lw_6 o3_lw_x r3_lw_x
theorem of3_ld : ∀ A B C D I mod, OfX (.ofNat 3) [108, 100] A B C D I mod := rel3 (ef := (ee18 12291)) (cf := (ee59 0 31)) (fun _ _ _ _ => by kernel_rfl) (fun _ _ _ _ => by kernel_rfl) eqv41 o3_ld_0 r3_ld_0 o3_ld_1 r3_ld_1 o3_ld_2 r3_ld_2 o3_ld_3 r3_ld_3 o3_ld_4 r3_ld_4 o3_ld_5 r3_ld_5 o3_ld_6 r3_ld_6 o3_ld_x r3_ld_x
theorem of3_lbu : ∀ A B C D I mod, OfX (.ofNat 3) [108, 98, 117] A B C D I mod := rel3 (ef := (ee18 16387)) (cf := (ee59 0 31)) (fun _ _ _ _ => by kernel_rfl) (fun _ _ _ _ => by kernel_rfl) eqv42 o3_lbu_0 r3_lbu_0 o3_lbu_1 r3_lbu_1 o3_lbu_2 r3_lbu_2 o3_lbu_3 r3_lbu_3 o3_lbu_4 r3_lbu_4 o3_lbu_5 r3_lbu_5 o3_lbu_6 r3_lbu_6 o3_lbu_x r3_lbu_x
theorem of3_lhu : ∀ A B C D I mod, OfX (.ofNat 3) [108, 104, 117] A B C D I mod := rel3 (ef := (ee18 20483)) (cf := (ee59 0 31)) (fun _ _ _ _ => by kernel_rfl) (fun _ _ _ _ => by kernel_rfl) eqv43 o3_lhu_0 r3_lhu_0 o3_lhu_1 r3_lhu_1 o3_lhu_2 r3_lhu_2 o3_lhu_3 r3_lhu_3 o3_lhu_4 r3_lhu_4 o3_lhu_5 r3_lhu_5 o3_lhu_6 r3_lhu_6 o3_lhu_x r3_lhu_x
theorem of3_lwu : ∀ A B C D I mod, OfX (.ofNat 3) [108, 119, 117] A B C D I mod := rel3 (ef := (ee18 24579)) (cf := (ee59 0 31)) (fun _ _ _ _ => by kernel_rfl) (fun _ _ _ _ => by kernel_rfl) eqv44 o3_lwu_0 r3_lwu_0 o3_lwu_1 r3_lwu_1 o3_lwu_2 r3_lwu_2 o3_lwu_3 r3_lwu_3 o3_lwu_4 r3_lwu_4 o3_lwu_5 r3_lwu_5 o3_lwu_6 r3_lwu_6 o3_lwu_x r3_lwu_x
theorem of3_jalr : ∀ A B C D I mod, OfX (.ofNat 3) [106, 97, 108, 114] A B C D I mod := rel3 (ef := (ee18 103)) (cf := (ee59 0 31)) (fun _ _ _ _ => by kernel_rfl) (fun _ _ _ _ => by kernel_rfl) eqv45 o3_jalr_0 r3_jalr_0 o3_jalr_1 r3_jalr_1 o3_jalr_2 r3_jalr_2 o3_jalr_3 r3_jalr_3 o3_jalr_4 r3_jalr_4 o3_jalr_5 r3_jalr_5 o3_jalr_6 r3_jalr_6 o3_jalr_x r3_jalr_x
theorem of3_slli : ∀ A B C D I mod, OfX (.ofNat 3) [115, 108, 108, 105] A B C D I mod := irr3 (Zak (by kernel_rfl))
theorem of3_srli : ∀ A B C D I mod, OfX (.ofNat 3) [115, 114, 108, 105] A B C D I mod := irr3 (Zak (by kernel_rfl))
theorem of3_srai : ∀ A B C D I mod, OfX (.ofNat 3) [115, 114, 97, 105] A B C D I mod := irr3 (Zak (by kernel_rfl))
theorem of3_slliw : ∀ A B C D I mod, OfX (.ofNat 3) [115, 108, 108, 105, 119] A B C D I mod := irr3 (Zak (by kernel_rfl))
theorem of3_srliw : ∀ A B C D I mod, OfX (.ofNat 3) [115, 114, 108, 105, 119] A B C D I mod := irr3 (Zak (by kernel_rfl))
theorem of3_sraiw : ∀ A B C D I mod, OfX (.ofNat 3) [115, 114, 97, 105, 119] A B C D I mod := irr3 (Zak (by kernel_rfl))
theorem of3_sb : ∀ A B C D I mod, OfX (.ofNat 3) [115, 98] A B C D I mod := rel3 (ef := (ee19 35)) (cf := (ee60 0 31)) (fun _ _ _ _ => by kernel_rfl) (fun _ _ _ _ => by kernel_rfl) eqv46 o3_sb_0 r3_sb_0 o3_sb_1 r3_sb_1 o3_sb_2 r3_sb_2 o3_sb_3 r3_sb_3 o3_sb_4 r3_sb_4 o3_sb_5 r3_sb_5 o3_sb_6 r3_sb_6 o3_sb_x r3_sb_x
theorem of3_sh : ∀ A B C D I mod, OfX (.ofNat 3) [115, 104] A B C D I mod := rel3 (ef := (ee19 4131)) (cf := (ee60 0 31)) (fun _ _ _ _ => by kernel_rfl) (fun _ _ _ _ => by kernel_rfl) eqv47 o3_sh_0 r3_sh_0 o3_sh_1 r3_sh_1 o3_sh_2 r3_sh_2 o3_sh_3 r3_sh_3 o3_sh_4 r3_sh_4 o3_sh_5 r3_sh_5 o3_sh_6 r3_sh_6 o3_sh_x r3_sh_x
theorem of3_sw : ∀ A B C D I mod, OfX (.ofNat 3) [115, 119] A B C D I mod := rel3 (ef := (ee19 8227)) (cf := (ee60 0 31)) (fun _ _ _ _ => by kernel_rfl) (fun _ _ _ _ => by kernel_rfl) eqv48 o3_sw_0 r3_sw_0 o3_sw_1 r3_sw_1 o3_sw_2 r3_sw_2 o3_sw_3 r3_sw_3 o3_sw_4 r3_sw_4 o3_sw_5 r3_sw_5 o3_sw_6 r3_sw_6 o3_sw_x r3_sw_x
theorem of3_sd : ∀ A B C D I mod, OfX (.ofNat 3) [115, 100] A B C D I mod := rel3 (ef := (ee19 12323)) (cf := (ee60 0 31)) (fun _ _ _ _ => by kernel_rfl) (fun _ _ _ _ => by kernel_rfl) eqv49 o3_sd_0 r3_sd_0 o3_sd_1 r3_sd_1 o3_sd_2 r3_sd_2 o3_sd_3 r3_sd_3 o3_sd_4 r3_sd_4 o3_sd_5 r3_sd_5 o3_sd_6 r3_sd_6 o3_sd_x r3_sd_x
theorem of3_beq : ∀ A B C D I mod, OfX (.ofNat 3) [98, 101, 113] A B C D I mod := rel3 (ef := (ee19 99)) (cf := (ee60 0 31)) (fun _ _ _ _ => by kernel_rfl) (fun _ _ _ _ => by kernel_rfl) eqv19 o3_beq_0 r3_beq_0 o3_beq_1 r3_beq_1 o3_beq_2 r3_beq_2 o3_beq_3 r3_beq_3 o3_beq_4 r3_beq_4 o3_beq_5 r3_beq_5 o3_beq_6 r3_beq_6 o3_beq_x r3_beq_x
theorem of3_bne : ∀ A B C D I mod, OfX (.ofNat 3) [98, 110, 101] A B C D I mod := rel3 (ef := (ee19 4195)) (cf := (ee60 0 31)) (fun _ _ _ _ => by kernel_rfl) (fun _ _ _ _ => by kernel_rfl) eqv20 o3_bne_0 r3_bne_0 o3_bne_1 r3_bne_1 o3_bne_2 r3_bne_2 o3_bne_3 r3_bne_3 o3_bne_4 r3_bne_4 o3_bne_5 r3_bne_5 o3_bne_6 r3_bne_6 o3_bne_x r3_bne_x
theorem of3_blt : ∀ A B C D I mod, OfX (.ofNat 3) [98, 108, 116] A B C D I mod := rel3 (ef := (ee19 16483)) (cf := (ee60 0 31)) (fun _ _ _ _ => by kernel_rfl) (fun _ _ _ _ => by kernel_rfl) eqv21 o3_blt_0 r3_blt_0 o3_blt_1 r3_blt_1 o3_blt_2 r3_blt_2 o3_blt_3 r3_blt_3 o3_blt_4 r3_blt_4 o3_blt_5 r3_blt_5 o3_blt_6 r3_blt_6 o3_blt_x r3_blt_x
theorem of3_bge : ∀ A B C D I mod, OfX (.ofNat 3) [98, 103, 101] A B C D I mod := rel3 (ef := (ee19 20579)) (cf := (ee60 0 31)) (fun _ _ _ _ => by kernel_rfl) (fun _ _ _ _ => by kernel_rfl) eqv22 o3_bge_0 r3_bge_0 o3_bge_1 r3_bge_1 o3_bge_2 r3_bge_2 o3_bge_3 r3_bge_3 o3_bge_4 r3_bge_4 o3_bge_5 r3_bge_5 o3_bge_6 r3_bge_6 o3_bge_x r3_bge_x
theorem of3_bltu : ∀ A B C D I mod, OfX (.ofNat 3) [98, 108, 116, 117] A B C D I mod := rel3 (ef := (ee19 24675)) (cf := (ee60 0 31)) (fun _ _ _ _ => by kernel_rfl) (fun _ _ _ _ => by kernel_rfl) eqv23 o3_bltu_0 r3_bltu_0 o3_bltu_1 r3_bltu_1 o3_bltu_2 r3_bltu_2 o3_bltu_3 r3_bltu_3 o3_bltu_4 r3_bltu_4 o3_bltu_5 r3_bltu_5 o3_bltu_6 r3_bltu_6 o3_bltu_x r3_bltu_x
theorem of3_bgeu : ∀ A B C D I mod, OfX (.ofNat 3) [98, 103, 101, 117] A B C D I mod := rel3 (ef := (ee19 28771)) (cf := (ee60 0 31)) (fun _ _ _ _ => by kernel_rfl) (fun _ _ _ _ => by kernel_rfl) eqv24 o3_bgeu_0 r3_bgeu_0 o3_bgeu_1 r3_bgeu_1 o3_bgeu_2 r3_bgeu_2 o3_bgeu_3 r3_bgeu_3 o3_bgeu_4 r3_bgeu_4 o3_bgeu_5 r3_bgeu_5 o3_bgeu_6 r3_bgeu_6 o3_bgeu_x r3_bgeu_x
theorem of3_lui : ∀ A B C D I mod, OfX (.ofNat 3) [108, 117, 105] A B C D I mod := rel3 (ef := (ee20 55)) (cf := (ee61 0 31 0)) (fun _ _ _ _ => by kernel_rfl) (fun _ _ _ _ => by kernel_rfl) eqv29 o3_lui_0 r3_lui_0 o3_lui_1 r3_lui_1 o3_lui_2 r3_lui_2 o3_lui_3 r3_lui_3 o3_lui_4 r3_lui_4 o3_lui_5 r3_lui_5 o3_lui_6 r3_lui_6 o3_lui_x r3_lui_x
theorem of3_auipc : ∀ A B C D I mod, OfX (.ofNat 3) [97, 117, 105, 112, 99] A B C D I mod := rel3 (ef := (ee20 23)) (cf := (ee61 0 31 0)) (fun _ _ _ _ => by kernel_rfl) (fun _ _ _ _ => by kernel_rfl) eqv30 o3_auipc_0 r3_auipc_0 o3_auipc_1 r3_auipc_1 o3_auipc_2 r3_auipc_2 o3_auipc_3 r3_auipc_3 o3_auipc_4 r3_auipc_4 o3_auipc_5 r3_auipc_5 o3_auipc_6 r3_auipc_6 o3_auipc_x r3_auipc_x
theorem of3_jal : ∀ A B C D I mod, OfX (.ofNat 3) [106, 97, 108] A B C D I mod := rel3 (ef := (ee20 111)) (cf := (ee61 0 31 0)) (fun _ _ _ _ => by kernel_rfl) (fun _ _ _ _ => by kernel_rfl) eqv25 o3_jal_0 r3_jal_0 o3_jal_1 r3_jal_1 o3_jal_2 r3_jal_2 o3_jal_3 r3_jal_3 o3_jal_4 r3_jal_4 o3_jal_5 r3_jal_5 o3_jal_6 r3_jal_6 o3_jal_x r3_jal_x
theorem of3_ecall : ∀ A B C D I mod, OfX (.ofNat 3) [101, 99, 97, 108, 108] A B C D I mod := irr3 (Zak (by kernel_rfl))
theorem of3_ebreak : ∀ A B C D I mod, OfX (.ofNat 3) [101, 98, 114, 101, 97, 107] A B C D I mod := irr3 (Zak (by kernel_rfl))
theorem of3_c_addi4spn : ∀ A B C D I mod, OfX (.ofNat 3) [99, 46, 97, 100, 100, 105, 52, 115, 112, 110] A B C D I mod := irr3 (Zak (by kernel_rfl))
theorem of3_c_lw : ∀ A B C D I mod, OfX (.ofNat 3) [99, 46, 108, 119] A B C D I mod := irr3 (Zak (by kernel_rfl))
theorem of3_c_ld : ∀ A B C D I mod, OfX (.ofNat 3) [99, 46, 108, 100] A B C D I mod := irr3 (Zak (by kernel_rfl))
theorem of3_c_sw : ∀ A B C D I mod, OfX (.ofNat 3) [99, 46, 115, 119] A B C D I mod := irr3 (Zak (by kernel_rfl))
theorem of3_c_sd : ∀ A B C D I mod, OfX (.ofNat 3) [99, 46, 115, 100] A B C D I mod := irr3 (Zak (by kernel_rfl))
theorem of3_c_nop : ∀ A B C D I mod, OfX (.ofNat 3) [99, 46, 110, 111, 112] A B C D I mod := irr3 (Zak (by kernel_rfl))
theorem of3_c_addi : ∀ A B C D I mod, OfX (.ofNat 3) [99, 46, 97, 100, 100, 105] A B C D I mod := irr3 (Zak (by kernel_rfl))
theorem of3_c_addiw : ∀ A B C D I mod, OfX (.ofNat 3) [99, 46, 97, 100, 100, 105, 119] A B C D I mod := irr3 (Zak (by kernel_rfl))
theorem of3_c_li : ∀ A B C D I mod, OfX (.ofNat 3) [99, 46, 108, 105] A B C D I mod := irr3 (Zak (by kernel_rfl))
theorem of3_c_addi16sp : ∀ A B C D I mod, OfX (.ofNat 3) [99, 46, 97, 100, 100, 105, 49, 54, 115, 112] A B C D I mod := irr3 (Zak (by kernel_rfl))
theorem of3_c_lui : ∀ A B C D I mod, OfX (.ofNat 3) [99, 46, 108, 117, 105] A B C D I mod := irr3 (Zak (by kernel_rfl))
theorem of3_c_srli : ∀ A B C D I mod, OfX (.ofNat 3) [99, 46, 115, 114, 108, 105] A B C D I mod := irr3 (Zak (by kernel_rfl))
theorem of3_c_srai : ∀ A B C D I mod, OfX (.ofNat 3) [99, 46, 115, 114, 97, 105] A B C D I mod := irr3 (Zak (by kernel_rfl))
theorem of3_c_andi : ∀ A B C D I mod, OfX (.ofNat 3) [99, 46, 97, 110, 100, 105] A B C D I mod := irr3 (Zak (by kernel_rfl))
theorem of3_c_sub : ∀ A B C D I mod, OfX (.ofNat 3) [99, 46, 115, 117, 98] A B C D I mod := irr3 (Zak (by kernel_rfl))
theorem of3_c_xor : ∀ A B C D I mod, OfX (.ofNat 3) [99, 46, 120, 111, 114] A B C D I mod := irr3 (Zak (by kernel_rfl))
theorem of3_c_or : ∀ A B C D I mod, OfX (.ofNat 3) [99, 46, 111, 114] A B C D I mod := irr3 (Zak (by kernel_rfl))
theorem of3_c_and : ∀ A B C D I mod, OfX (.ofNat 3) [99, 46, 97, 110, 100] A B C D I mod := irr3 (Zak (by kernel_rfl))
theorem of3_c_subw : ∀ A B C D I mod, OfX (.ofNat 3) [99, 46, 115, 117, 98, 119] A B C D I mod := irr3 (Zak (by kernel_rfl))
theorem of3_c_addw : ∀ A B C D I mod, OfX (.ofNat 3) [99, 46, 97, 100, 100, 119] A B C D I mod := irr3 (Zak (by kernel_rfl))
theorem of3_c_j : ∀ A B C D I mod, OfX (.ofNat 3) [99, 46, 106] A B C D I mod := rel3 (ef := (ee27 0)) (cf := (ee62 0)) (fun _ _ _ _ => by kernel_rfl) (fun _ _ _ _ => by kernel_rfl) eqv28 o3_c_j_0 r3_c_j_0 o3_c_j_1 r3_c_j_1 o3_c_j_2 r3_c_j_2 o3_c_j_3 r3_c_j_3 o3_c_j_4 r3_c_j_4 o3_c_j_5 r3_c_j_5 o3_c_j_6 r3_c_j_6 o3_c_j_x r3_c_j_x
theorem of3_c_beqz : ∀ A B C D I mod, OfX (.ofNat 3) [99, 46, 98, 101, 113, 122] A B C D I mod := rel3 (ef := (ee33 384)) (cf := ee66) (fun _ _ _ _ => by kernel_rfl) (fun _ _ _ _ => by kernel_rfl) eqv26 o3_c_beqz_0 r3_c_beqz_0 o3_c_beqz_1 r3_c_beqz_1 o3_c_beqz_2 r3_c_beqz_2 o3_c_beqz_3 r3_c_beqz_3 o3_c_beqz_4 r3_c_beqz_4 o3_c_beqz_5 r3_c_beqz_5 o3_c_beqz_6 r3_c_beqz_6 o3_c_beqz_x r3_c_beqz_x
theorem of3_c_bnez : ∀ A B C D I mod, OfX (.ofNat 3) [99, 46, 98, 110, 101, 122] A B C D I mod := rel3 (ef := (ee33 448)) (cf := ee66) (fun _ _ _ _ => by kernel_rfl) (fun _ _ _ _ => by kernel_rfl) eqv27 o3_c_bnez_0 r3_c_bnez_0 o3_c_bnez_1 r3_c_bnez_1 o3_c_bnez_2 r3_c_bnez_2 o3_c_bnez_3 r3_c_bnez_3 o3_c_bnez_4 r3_c_bnez_4 o3_c_bnez_5 r3_c_bnez_5 o3_c_bnez_6 r3_c_bnez_6 o3_c_bnez_x r3_c_bnez_x
theorem of3_c_slli : ∀ A B C D I mod, OfX (.ofNat 3) [99, 46, 115, 108, 108, 105] A B C D I mod := irr3 (Zak (by kernel_rfl))
theorem of3_c_lwsp : ∀ A B C D I mod, OfX (.ofNat 3) [99, 46, 108, 119, 115, 112] A B C D I mod := irr3 (Zak (by kernel_rfl))
theorem of3_c_ldsp : ∀ A B C D I mod, OfX (.ofNat 3) [99, 46, 108, 100, 115, 112] A B C D I mod := irr3 (Zak (by kernel_rfl))
theorem of3_c_jr : ∀ A B C D I mod, OfX (.ofNat 3) [99, 46, 106, 114] A B C D I mod := irr3 (Zak (by kernel_rfl))
theorem of3_c_jalr : ∀ A B C D I mod, OfX (.ofNat 3) [99, 46, 106, 97, 108, 114] A B C D I mod := irr3 (Zak (by kernel_rfl))
theorem of3_c_mv : ∀ A B C D I mod, OfX (.ofNat 3) [99, 46, 109, 118] A B C D I mod := irr3 (Zak (by kernel_rfl))
theorem of3_c_add : ∀ A B C D I mod, OfX (.ofNat 3) [99, 46, 97, 100, 100] A B C D I mod := irr3 (Zak (by kernel_rfl))
theorem of3_c_ebreak : ∀ A B C D I mod, OfX (.ofNat 3) [99, 46, 101, 98, 114, 101, 97, 107] A B C D I mod := irr3 (Zak (by kernel_rfl))
theorem of3_c_swsp : ∀ A B C D I mod, OfX (.ofNat 3) [99, 46, 115, 119, 115, 112] A B C D I mod := irr3 (Zak (by kernel_rfl))
theorem of3_c_sdsp : ∀ A B C D I mod, OfX (.ofNat 3) [99, 46, 115, 100, 115, 112] A B C D I mod := irr3 (Zak (by kernel_rfl))
theorem all3 : AllN (.ofNat 3) tab3 := ⟨of3_add, of3_sub, of3_sll, of3_slt, of3_sltu, of3_xor, of3_srl, of3_sra, of3_or, of3_and, of3_mul, of3_mulh, of3_mulhsu, of3_mulhu, of3_div, of3_divu, of3_rem, of3_remu, of3_addw, of3_subw, of3_sllw, of3_srlw, of3_sraw, of3_mulw, of3_divw, of3_divuw, of3_remw, of3_remuw, of3_addi, of3_slti, of3_sltiu, of3_xori, of3_ori, of3_andi, of3_addiw, of3_lb, of3_lh, of3_lw, of3_ld, of3_lbu, of3_lhu, of3_lwu, of3_jalr, of3_slli, of3_srli, of3_srai, of3_slliw, of3_srliw, of3_sraiw, of3_sb, of3_sh, of3_sw, of3_sd, of3_beq, of3_bne, of3_blt, of3_bge, of3_bltu, of3_bgeu, of3_lui, of3_auipc, of3_jal, of3_ecall, of3_ebreak, of3_c_addi4spn, of3_c_lw, of3_c_ld, of3_c_sw, of3_c_sd, of3_c_nop, of3_c_addi, of3_c_addiw, of3_c_li, of3_c_addi16sp, of3_c_lui, of3_c_srli, of3_c_srai, of3_c_andi, of3_c_sub, of3_c_xor, of3_c_or, of3_c_and, of3_c_subw, of3_c_addw, of3_c_j, of3_c_beqz, of3_c_bnez, of3_c_slli, of3_c_lwsp, of3_c_ldsp, of3_c_jr, of3_c_jalr, of3_c_mv, of3_c_add, of3_c_ebreak, of3_c_swsp, of3_c_sdsp, trivial⟩
theorem of_none {t : Int} {nm : List UInt8} (h1 : ieq t (.ofNat 1) = false) (hl : look (tabE t) nm = none) (hz : noneE t ≠ 0) (A B C D I : Int) (mod : List UInt8) : OfX t nm A B C D I mod := by
  obtain ⟨e1, e2⟩ := Zcv hl A B C D
  exact ⟨_, _, _, any_bad h1 (fun e => hz (e1.symm.trans e)) I mod, anyr_bad (fun e => hz (e2.symm.trans e)) I mod⟩
theorem of_all (t : Int) (nm : List UInt8) (A B C D I : Int) (mod : List UInt8) : OfX t nm A B C D I mod := by
  rcases t_cases t with rfl | rfl | rfl | h
  · rcases Zbs nm tab1 with ⟨x, hx, rfl, _⟩ | ⟨h1, h2⟩
    · exact allN_mem all1 x hx A B C D I mod
    · exact of1_none h1 h2 A B C D I mod
  · rcases Zbs nm tab2 with ⟨x, hx, rfl, _⟩ | ⟨h1, h2⟩
    · exact allN_mem all2 x hx A B C D I mod
    · exact of_none (t := .ofNat 2) rfl h2 (by decide) A B C D I mod
  · rcases Zbs nm tab3 with ⟨x, hx, rfl, _⟩ | ⟨h1, h2⟩
    · exact allN_mem all3 x hx A B C D I mod
    · exact of_none (t := .ofNat 3) rfl h2 (by decide) A B C D I mod
  · obtain ⟨h1, h2⟩ := tab_other h nm
    exact of_none h.1 h1 (by rw [h2]; decide) A B C D I mod
end
end Go.Proofs.YtbfdooplkdofeaaGreatDoor
