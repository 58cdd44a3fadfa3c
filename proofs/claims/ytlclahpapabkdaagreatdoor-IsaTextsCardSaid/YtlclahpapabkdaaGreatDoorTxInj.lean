/- Texts of instructions that may be are equal just where these are: no program in sight. -/
import Derived.Test.YtlclahpapabkdaaGreatDoorTxSum
import Derived.KernelRfl
namespace Go.Proofs.YtlclahpapabkdaaGreatDoor
open Go Go.Vai
noncomputable section
set_option maxRecDepth 100000
def injB (f : Int → List UInt8) (l : List Nat) : Bool := l.all fun a => l.all fun b => !(leq (f (.ofNat a)) (f (.ofNat b))) || Nat.beq a b
theorem inj_of {f : Int → List UInt8} {l : List Nat} (h : injB f l = true) {a b : Nat} (ha : a ∈ l) (hb : b ∈ l) (e : f (.ofNat a) = f (.ofNat b)) : a = b := by
  unfold injB at h
  have h2 := List.all_eq_true.1 (List.all_eq_true.1 h a ha) b hb
  rw [e, show leq (f (.ofNat b)) (f (.ofNat b)) = true by rw [leq_iff]; exact decide_eq_true rfl] at h2
  simpa using h2
theorem nm1_injB : injB nm1 (List.range 16) = true := by kernel_rfl
theorem nm2_injB : injB nm2 (List.range 32) = true := by kernel_rfl
theorem nm3_injB : injB nm3 (List.range 32) = true := by kernel_rfl
theorem cv1_injB : injB cv1 [0, 1, 2, 3, 4, 5, 6, 7, 8, 9, 12, 13, 14, 15] = true := by kernel_rfl
theorem cv2_injB : injB cv2 (List.range 14) = true := by kernel_rfl
def bsV (B : Int) : List UInt8 := bc (ieq B (.ofNat 17)) [114, 105, 112] (nm1 B)
def ixV (C : Int) : List UInt8 := bc (ieq C (.ofNat 16)) [110, 111, 110, 101] (nm1 C)
theorem bs_injB : injB bsV [0, 1, 2, 3, 4, 5, 6, 7, 8, 9, 10, 11, 12, 13, 14, 15, 17] = true := by kernel_rfl
theorem ix_injB : injB ixV (List.range 17) = true := by kernel_rfl
theorem nat_of {a : Int} (h : 0 ≤ a) : ∃ n : Nat, a = .ofNat n := Int.eq_ofNat_of_zero_le h
theorem rg_inj {f : Int → List UInt8} {m : Nat} (h : injB f (List.range (m + 1)) = true) {a b : Int} (ha : 0 ≤ a ∧ a ≤ m) (hb : 0 ≤ b ∧ b ≤ m) (e : f a = f b) : a = b := by
  obtain ⟨x, rfl⟩ := nat_of ha.1
  obtain ⟨y, rfl⟩ := nat_of hb.1
  have h1 : x ≤ m := Int.ofNat_le.1 ha.2
  have h2 : y ≤ m := Int.ofNat_le.1 hb.2
  rw [inj_of h (List.mem_range.2 (by omega)) (List.mem_range.2 (by omega)) e]
theorem cv1_inj {a b : Int} (ha : 0 ≤ a ∧ a ≤ 9 ∨ 12 ≤ a ∧ a ≤ 15) (hb : 0 ≤ b ∧ b ≤ 9 ∨ 12 ≤ b ∧ b ≤ 15) (e : cv1 a = cv1 b) : a = b := by
  obtain ⟨x, rfl⟩ := nat_of (a := a) (by omega)
  obtain ⟨y, rfl⟩ := nat_of (a := b) (by omega)
  simp only [Int.ofNat_eq_natCast] at ha hb
  rw [inj_of cv1_injB (by simp only [List.mem_cons, List.not_mem_nil, or_false]; omega) (by simp only [List.mem_cons, List.not_mem_nil, or_false]; omega) e]
theorem bs_inj {a b : Int} (ha : 0 ≤ a ∧ a ≤ 15 ∨ a = 17) (hb : 0 ≤ b ∧ b ≤ 15 ∨ b = 17) (e : bsV a = bsV b) : a = b := by
  obtain ⟨x, rfl⟩ := nat_of (a := a) (by omega)
  obtain ⟨y, rfl⟩ := nat_of (a := b) (by omega)
  simp only [Int.ofNat_eq_natCast] at ha hb
  rw [inj_of bs_injB (by simp only [List.mem_cons, List.not_mem_nil, or_false]; omega) (by simp only [List.mem_cons, List.not_mem_nil, or_false]; omega) e]
theorem inj0 {A B C D I A' B' C' D' I' : Int} (h : ok0 A B C D I) (h' : ok0 A' B' C' D' I') (_e : pt0 nvC A B C D I = pt0 nvC A' B' C' D' I') : A = A' ∧ B = B' ∧ C = C' ∧ D = D' ∧ I = I' := by
  unfold ok0 at h h'
  exact ⟨by omega, by omega, by omega, by omega, by omega⟩
theorem inj1 {A B C D I A' B' C' D' I' : Int} (h : ok1 A B C D I) (h' : ok1 A' B' C' D' I') (e : pt1 nvC A B C D I = pt1 nvC A' B' C' D' I') : A = A' ∧ B = B' ∧ C = C' ∧ D = D' ∧ I = I' := by
  unfold ok1 at h h'
  unfold pt1 at e
  simp only [List.cons.injEq, and_true, nvC1] at e
  have eA := e
  have hA := rg_inj nm1_injB (m := 15) (by omega) (by omega) eA
  exact ⟨by omega, by omega, by omega, by omega, by omega⟩
theorem inj2 {A B C D I A' B' C' D' I' : Int} (h : ok2 A B C D I) (h' : ok2 A' B' C' D' I') (e : pt2 nvC A B C D I = pt2 nvC A' B' C' D' I') : A = A' ∧ B = B' ∧ C = C' ∧ D = D' ∧ I = I' := by
  unfold ok2 at h h'
  unfold pt2 at e
  simp only [List.cons.injEq, and_true, nvC1] at e
  obtain ⟨eA, eB⟩ := e
  have hA := rg_inj nm1_injB (m := 15) (by omega) (by omega) eA
  have hB := rg_inj nm1_injB (m := 15) (by omega) (by omega) eB
  exact ⟨by omega, by omega, by omega, by omega, by omega⟩
theorem inj3 {A B C D I A' B' C' D' I' : Int} (h : ok3 A B C D I) (h' : ok3 A' B' C' D' I') (e : pt3 nvC A B C D I = pt3 nvC A' B' C' D' I') : A = A' ∧ B = B' ∧ C = C' ∧ D = D' ∧ I = I' := by
  unfold ok3 at h h'
  unfold pt3 at e
  simp only [List.cons.injEq, and_true, nvC1] at e
  obtain ⟨eA, eB, eD⟩ := e
  have hA := rg_inj nm1_injB (m := 15) (by omega) (by omega) eA
  have hB := rg_inj nm1_injB (m := 15) (by omega) (by omega) eB
  have hD := cv1_inj (by omega) (by omega) eD
  exact ⟨by omega, by omega, by omega, by omega, by omega⟩
theorem inj4 {A B C D I A' B' C' D' I' : Int} (h : ok4 A B C D I) (h' : ok4 A' B' C' D' I') (e : pt4 nvC A B C D I = pt4 nvC A' B' C' D' I') : A = A' ∧ B = B' ∧ C = C' ∧ D = D' ∧ I = I' := by
  unfold ok4 at h h'
  unfold pt4 at e
  simp only [List.cons.injEq, and_true, nvC1] at e
  obtain ⟨eA, eI⟩ := e
  have hA := rg_inj nm1_injB (m := 15) (by omega) (by omega) eA
  have hI := itoa_inj eI
  exact ⟨by omega, by omega, by omega, by omega, by omega⟩
theorem inj5 {A B C D I A' B' C' D' I' : Int} (h : ok5 A B C D I) (h' : ok5 A' B' C' D' I') (e : pt5 nvC A B C D I = pt5 nvC A' B' C' D' I') : A = A' ∧ B = B' ∧ C = C' ∧ D = D' ∧ I = I' := by
  unfold ok5 at h h'
  unfold pt5 at e
  simp only [List.cons.injEq, and_true, nvC1] at e
  obtain ⟨eA, eB, eC, eD, eI⟩ := e
  have hA := rg_inj nm1_injB (m := 15) (by omega) (by omega) eA
  have hB := bs_inj (by omega) (by omega) eB
  have hC := rg_inj ix_injB (m := 16) (by omega) (by omega) eC
  have hD := itoa_inj eD
  have hI := itoa_inj eI
  exact ⟨by omega, by omega, by omega, by omega, by omega⟩
theorem inj6 {A B C D I A' B' C' D' I' : Int} (h : ok6 A B C D I) (h' : ok6 A' B' C' D' I') (e : pt6 nvC A B C D I = pt6 nvC A' B' C' D' I') : A = A' ∧ B = B' ∧ C = C' ∧ D = D' ∧ I = I' := by
  unfold ok6 at h h'
  unfold pt6 at e
  simp only [List.cons.injEq, and_true] at e
  obtain ⟨eD, eI⟩ := e
  have hD := cv1_inj (by omega) (by omega) eD
  have hI := itoa_inj eI
  exact ⟨by omega, by omega, by omega, by omega, by omega⟩
theorem inj7 {A B C D I A' B' C' D' I' : Int} (h : ok7 A B C D I) (h' : ok7 A' B' C' D' I') (e : pt7 nvC A B C D I = pt7 nvC A' B' C' D' I') : A = A' ∧ B = B' ∧ C = C' ∧ D = D' ∧ I = I' := by
  unfold ok7 at h h'
  unfold pt7 at e
  simp only [List.cons.injEq, and_true] at e
  have eI := e
  have hI := itoa_inj eI
  exact ⟨by omega, by omega, by omega, by omega, by omega⟩
theorem inj8 {A B C D I A' B' C' D' I' : Int} (h : ok8 A B C D I) (h' : ok8 A' B' C' D' I') (_e : pt8 nvC A B C D I = pt8 nvC A' B' C' D' I') : A = A' ∧ B = B' ∧ C = C' ∧ D = D' ∧ I = I' := by
  unfold ok8 at h h'
  exact ⟨by omega, by omega, by omega, by omega, by omega⟩
theorem inj9 {A B C D I A' B' C' D' I' : Int} (h : ok9 A B C D I) (h' : ok9 A' B' C' D' I') (e : pt9 nvC A B C D I = pt9 nvC A' B' C' D' I') : A = A' ∧ B = B' ∧ C = C' ∧ D = D' ∧ I = I' := by
  unfold ok9 at h h'
  unfold pt9 at e
  simp only [List.cons.injEq, and_true, nvC2] at e
  obtain ⟨eA, eB, eC⟩ := e
  have hA := rg_inj nm2_injB (m := 31) (by omega) (by omega) eA
  have hB := rg_inj nm2_injB (m := 31) (by omega) (by omega) eB
  have hC := rg_inj nm2_injB (m := 31) (by omega) (by omega) eC
  exact ⟨by omega, by omega, by omega, by omega, by omega⟩
theorem inj10 {A B C D I A' B' C' D' I' : Int} (h : ok10 A B C D I) (h' : ok10 A' B' C' D' I') (e : pt10 nvC A B C D I = pt10 nvC A' B' C' D' I') : A = A' ∧ B = B' ∧ C = C' ∧ D = D' ∧ I = I' := by
  unfold ok10 at h h'
  unfold pt10 at e
  simp only [List.cons.injEq, and_true, nvC2] at e
  obtain ⟨eA, eB, eC, eD⟩ := e
  have hA := rg_inj nm2_injB (m := 31) (by omega) (by omega) eA
  have hB := rg_inj nm2_injB (m := 31) (by omega) (by omega) eB
  have hC := rg_inj nm2_injB (m := 31) (by omega) (by omega) eC
  have hD := rg_inj nm2_injB (m := 31) (by omega) (by omega) eD
  exact ⟨by omega, by omega, by omega, by omega, by omega⟩
theorem inj11 {A B C D I A' B' C' D' I' : Int} (h : ok11 A B C D I) (h' : ok11 A' B' C' D' I') (e : pt11 nvC A B C D I = pt11 nvC A' B' C' D' I') : A = A' ∧ B = B' ∧ C = C' ∧ D = D' ∧ I = I' := by
  unfold ok11 at h h'
  unfold pt11 at e
  simp only [List.cons.injEq, and_true, nvC2] at e
  obtain ⟨eA, eB, eC, eD⟩ := e
  have hA := rg_inj nm2_injB (m := 31) (by omega) (by omega) eA
  have hB := rg_inj nm2_injB (m := 31) (by omega) (by omega) eB
  have hC := rg_inj nm2_injB (m := 31) (by omega) (by omega) eC
  have hD := rg_inj cv2_injB (m := 13) (by omega) (by omega) eD
  exact ⟨by omega, by omega, by omega, by omega, by omega⟩
theorem inj12 {A B C D I A' B' C' D' I' : Int} (h : ok12 A B C D I) (h' : ok12 A' B' C' D' I') (e : pt12 nvC A B C D I = pt12 nvC A' B' C' D' I') : A = A' ∧ B = B' ∧ C = C' ∧ D = D' ∧ I = I' := by
  unfold ok12 at h h'
  unfold pt12 at e
  simp only [List.cons.injEq, and_true, nvC2] at e
  obtain ⟨eA, eB, eC, eD⟩ := e
  have hA := rg_inj nm2_injB (m := 31) (by omega) (by omega) eA
  have hB := rg_inj nm2_injB (m := 31) (by omega) (by omega) eB
  have hC := rg_inj nm2_injB (m := 31) (by omega) (by omega) eC
  have hD := itoa_inj eD
  exact ⟨by omega, by omega, by omega, by omega, by omega⟩
theorem inj13 {A B C D I A' B' C' D' I' : Int} (h : ok13 A B C D I) (h' : ok13 A' B' C' D' I') (e : pt13 nvC A B C D I = pt13 nvC A' B' C' D' I') : A = A' ∧ B = B' ∧ C = C' ∧ D = D' ∧ I = I' := by
  unfold ok13 at h h'
  unfold pt13 at e
  simp only [List.cons.injEq, and_true, nvC2] at e
  obtain ⟨eA, eB, eI⟩ := e
  have hA := rg_inj nm2_injB (m := 31) (by omega) (by omega) eA
  have hB := rg_inj nm2_injB (m := 31) (by omega) (by omega) eB
  have hI := itoa_inj eI
  exact ⟨by omega, by omega, by omega, by omega, by omega⟩
theorem inj14 {A B C D I A' B' C' D' I' : Int} (h : ok14 A B C D I) (h' : ok14 A' B' C' D' I') (e : pt14 nvC A B C D I = pt14 nvC A' B' C' D' I') : A = A' ∧ B = B' ∧ C = C' ∧ D = D' ∧ I = I' := by
  unfold ok14 at h h'
  unfold pt14 at e
  simp only [List.cons.injEq, and_true, nvC2] at e
  obtain ⟨eA, eB, eI, eD⟩ := e
  have hA := rg_inj nm2_injB (m := 31) (by omega) (by omega) eA
  have hB := rg_inj nm2_injB (m := 31) (by omega) (by omega) eB
  have hI := itoa_inj eI
  have hD := itoa_inj eD
  exact ⟨by omega, by omega, by omega, by omega, by omega⟩
theorem inj15 {A B C D I A' B' C' D' I' : Int} (h : ok15 A B C D I) (h' : ok15 A' B' C' D' I') (e : pt15 nvC A B C D I = pt15 nvC A' B' C' D' I') : A = A' ∧ B = B' ∧ C = C' ∧ D = D' ∧ I = I' := by
  unfold ok15 at h h'
  unfold pt15 at e
  simp only [List.cons.injEq, and_true, nvC2] at e
  obtain ⟨eA, eB, eC, eD⟩ := e
  have hA := rg_inj nm2_injB (m := 31) (by omega) (by omega) eA
  have hB := rg_inj nm2_injB (m := 31) (by omega) (by omega) eB
  have hC := itoa_inj eC
  have hD := itoa_inj eD
  exact ⟨by omega, by omega, by omega, by omega, by omega⟩
theorem inj16 {A B C D I A' B' C' D' I' : Int} (h : ok16 A B C D I) (h' : ok16 A' B' C' D' I') (e : pt16 nvC A B C D I = pt16 nvC A' B' C' D' I') : A = A' ∧ B = B' ∧ C = C' ∧ D = D' ∧ I = I' := by
  unfold ok16 at h h'
  unfold pt16 at e
  simp only [List.cons.injEq, and_true, nvC2] at e
  obtain ⟨eA, eC, eB, eI⟩ := e
  have hA := rg_inj nm2_injB (m := 31) (by omega) (by omega) eA
  have hC := rg_inj nm2_injB (m := 31) (by omega) (by omega) eC
  have hB := rg_inj nm2_injB (m := 31) (by omega) (by omega) eB
  have hI := itoa_inj eI
  exact ⟨by omega, by omega, by omega, by omega, by omega⟩
theorem inj17 {A B C D I A' B' C' D' I' : Int} (h : ok17 A B C D I) (h' : ok17 A' B' C' D' I') (e : pt17 nvC A B C D I = pt17 nvC A' B' C' D' I') : A = A' ∧ B = B' ∧ C = C' ∧ D = D' ∧ I = I' := by
  unfold ok17 at h h'
  unfold pt17 at e
  simp only [List.cons.injEq, and_true, nvC2] at e
  obtain ⟨eA, eI⟩ := e
  have hA := rg_inj nm2_injB (m := 31) (by omega) (by omega) eA
  have hI := itoa_inj eI
  exact ⟨by omega, by omega, by omega, by omega, by omega⟩
theorem inj18 {A B C D I A' B' C' D' I' : Int} (h : ok18 A B C D I) (h' : ok18 A' B' C' D' I') (e : pt18 nvC A B C D I = pt18 nvC A' B' C' D' I') : A = A' ∧ B = B' ∧ C = C' ∧ D = D' ∧ I = I' := by
  unfold ok18 at h h'
  unfold pt18 at e
  simp only [List.cons.injEq, and_true, nvC2] at e
  obtain ⟨eA, eI, eD⟩ := e
  have hA := rg_inj nm2_injB (m := 31) (by omega) (by omega) eA
  have hI := itoa_inj eI
  have hD := itoa_inj eD
  exact ⟨by omega, by omega, by omega, by omega, by omega⟩
theorem inj19 {A B C D I A' B' C' D' I' : Int} (h : ok19 A B C D I) (h' : ok19 A' B' C' D' I') (e : pt19 nvC A B C D I = pt19 nvC A' B' C' D' I') : A = A' ∧ B = B' ∧ C = C' ∧ D = D' ∧ I = I' := by
  unfold ok19 at h h'
  unfold pt19 at e
  simp only [List.cons.injEq, and_true, nvC2] at e
  have eB := e
  have hB := rg_inj nm2_injB (m := 31) (by omega) (by omega) eB
  exact ⟨by omega, by omega, by omega, by omega, by omega⟩
theorem inj20 {A B C D I A' B' C' D' I' : Int} (h : ok20 A B C D I) (h' : ok20 A' B' C' D' I') (e : pt20 nvC A B C D I = pt20 nvC A' B' C' D' I') : A = A' ∧ B = B' ∧ C = C' ∧ D = D' ∧ I = I' := by
  unfold ok20 at h h'
  unfold pt20 at e
  simp only [List.cons.injEq, and_true] at e
  obtain ⟨eD, eI⟩ := e
  have hD := rg_inj cv2_injB (m := 13) (by omega) (by omega) eD
  have hI := itoa_inj eI
  exact ⟨by omega, by omega, by omega, by omega, by omega⟩
theorem inj21 {A B C D I A' B' C' D' I' : Int} (h : ok21 A B C D I) (h' : ok21 A' B' C' D' I') (e : pt21 nvC A B C D I = pt21 nvC A' B' C' D' I') : A = A' ∧ B = B' ∧ C = C' ∧ D = D' ∧ I = I' := by
  unfold ok21 at h h'
  unfold pt21 at e
  simp only [List.cons.injEq, and_true] at e
  have eI := e
  have hI := itoa_inj eI
  exact ⟨by omega, by omega, by omega, by omega, by omega⟩
theorem inj22 {A B C D I A' B' C' D' I' : Int} (h : ok22 A B C D I) (h' : ok22 A' B' C' D' I') (_e : pt22 nvC A B C D I = pt22 nvC A' B' C' D' I') : A = A' ∧ B = B' ∧ C = C' ∧ D = D' ∧ I = I' := by
  unfold ok22 at h h'
  exact ⟨by omega, by omega, by omega, by omega, by omega⟩
theorem inj23 {A B C D I A' B' C' D' I' : Int} (h : ok23 A B C D I) (h' : ok23 A' B' C' D' I') (e : pt23 nvC A B C D I = pt23 nvC A' B' C' D' I') : A = A' ∧ B = B' ∧ C = C' ∧ D = D' ∧ I = I' := by
  unfold ok23 at h h'
  unfold pt23 at e
  simp only [List.cons.injEq, and_true, nvC3] at e
  obtain ⟨eA, eB, eC⟩ := e
  have hA := rg_inj nm3_injB (m := 31) (by omega) (by omega) eA
  have hB := rg_inj nm3_injB (m := 31) (by omega) (by omega) eB
  have hC := rg_inj nm3_injB (m := 31) (by omega) (by omega) eC
  exact ⟨by omega, by omega, by omega, by omega, by omega⟩
theorem inj24 {A B C D I A' B' C' D' I' : Int} (h : ok24 A B C D I) (h' : ok24 A' B' C' D' I') (e : pt24 nvC A B C D I = pt24 nvC A' B' C' D' I') : A = A' ∧ B = B' ∧ C = C' ∧ D = D' ∧ I = I' := by
  unfold ok24 at h h'
  unfold pt24 at e
  simp only [List.cons.injEq, and_true, nvC3] at e
  obtain ⟨eA, eB, eI⟩ := e
  have hA := rg_inj nm3_injB (m := 31) (by omega) (by omega) eA
  have hB := rg_inj nm3_injB (m := 31) (by omega) (by omega) eB
  have hI := itoa_inj eI
  exact ⟨by omega, by omega, by omega, by omega, by omega⟩
theorem inj25 {A B C D I A' B' C' D' I' : Int} (h : ok25 A B C D I) (h' : ok25 A' B' C' D' I') (e : pt25 nvC A B C D I = pt25 nvC A' B' C' D' I') : A = A' ∧ B = B' ∧ C = C' ∧ D = D' ∧ I = I' := by
  unfold ok25 at h h'
  unfold pt25 at e
  simp only [List.cons.injEq, and_true, nvC3] at e
  obtain ⟨eA, eC⟩ := e
  have hA := rg_inj nm3_injB (m := 31) (by omega) (by omega) eA
  have hC := rg_inj nm3_injB (m := 31) (by omega) (by omega) eC
  exact ⟨by omega, by omega, by omega, by omega, by omega⟩
theorem inj26 {A B C D I A' B' C' D' I' : Int} (h : ok26 A B C D I) (h' : ok26 A' B' C' D' I') (e : pt26 nvC A B C D I = pt26 nvC A' B' C' D' I') : A = A' ∧ B = B' ∧ C = C' ∧ D = D' ∧ I = I' := by
  unfold ok26 at h h'
  unfold pt26 at e
  simp only [List.cons.injEq, and_true, nvC3] at e
  obtain ⟨eA, eI⟩ := e
  have hA := rg_inj nm3_injB (m := 31) (by omega) (by omega) eA
  have hI := itoa_inj eI
  exact ⟨by omega, by omega, by omega, by omega, by omega⟩
theorem inj27 {A B C D I A' B' C' D' I' : Int} (h : ok27 A B C D I) (h' : ok27 A' B' C' D' I') (e : pt27 nvC A B C D I = pt27 nvC A' B' C' D' I') : A = A' ∧ B = B' ∧ C = C' ∧ D = D' ∧ I = I' := by
  unfold ok27 at h h'
  unfold pt27 at e
  simp only [List.cons.injEq, and_true, nvC3] at e
  have eB := e
  have hB := rg_inj nm3_injB (m := 31) (by omega) (by omega) eB
  exact ⟨by omega, by omega, by omega, by omega, by omega⟩
theorem inj28 {A B C D I A' B' C' D' I' : Int} (h : ok28 A B C D I) (h' : ok28 A' B' C' D' I') (e : pt28 nvC A B C D I = pt28 nvC A' B' C' D' I') : A = A' ∧ B = B' ∧ C = C' ∧ D = D' ∧ I = I' := by
  unfold ok28 at h h'
  unfold pt28 at e
  simp only [List.cons.injEq, and_true, nvC3] at e
  obtain ⟨eB, eC, eI⟩ := e
  have hB := rg_inj nm3_injB (m := 31) (by omega) (by omega) eB
  have hC := rg_inj nm3_injB (m := 31) (by omega) (by omega) eC
  have hI := itoa_inj eI
  exact ⟨by omega, by omega, by omega, by omega, by omega⟩
theorem inj29 {A B C D I A' B' C' D' I' : Int} (h : ok29 A B C D I) (h' : ok29 A' B' C' D' I') (e : pt29 nvC A B C D I = pt29 nvC A' B' C' D' I') : A = A' ∧ B = B' ∧ C = C' ∧ D = D' ∧ I = I' := by
  unfold ok29 at h h'
  unfold pt29 at e
  simp only [List.cons.injEq, and_true, nvC3] at e
  obtain ⟨eB, eI⟩ := e
  have hB := rg_inj nm3_injB (m := 31) (by omega) (by omega) eB
  have hI := itoa_inj eI
  exact ⟨by omega, by omega, by omega, by omega, by omega⟩
theorem inj30 {A B C D I A' B' C' D' I' : Int} (h : ok30 A B C D I) (h' : ok30 A' B' C' D' I') (e : pt30 nvC A B C D I = pt30 nvC A' B' C' D' I') : A = A' ∧ B = B' ∧ C = C' ∧ D = D' ∧ I = I' := by
  unfold ok30 at h h'
  unfold pt30 at e
  simp only [List.cons.injEq, and_true, nvC3] at e
  obtain ⟨eC, eB, eI⟩ := e
  have hC := rg_inj nm3_injB (m := 31) (by omega) (by omega) eC
  have hB := rg_inj nm3_injB (m := 31) (by omega) (by omega) eB
  have hI := itoa_inj eI
  exact ⟨by omega, by omega, by omega, by omega, by omega⟩
theorem inj31 {A B C D I A' B' C' D' I' : Int} (h : ok31 A B C D I) (h' : ok31 A' B' C' D' I') (e : pt31 nvC A B C D I = pt31 nvC A' B' C' D' I') : A = A' ∧ B = B' ∧ C = C' ∧ D = D' ∧ I = I' := by
  unfold ok31 at h h'
  unfold pt31 at e
  simp only [List.cons.injEq, and_true, nvC3] at e
  obtain ⟨eC, eI⟩ := e
  have hC := rg_inj nm3_injB (m := 31) (by omega) (by omega) eC
  have hI := itoa_inj eI
  exact ⟨by omega, by omega, by omega, by omega, by omega⟩
theorem inj32 {A B C D I A' B' C' D' I' : Int} (h : ok32 A B C D I) (h' : ok32 A' B' C' D' I') (e : pt32 nvC A B C D I = pt32 nvC A' B' C' D' I') : A = A' ∧ B = B' ∧ C = C' ∧ D = D' ∧ I = I' := by
  unfold ok32 at h h'
  unfold pt32 at e
  simp only [List.cons.injEq, and_true] at e
  have eI := e
  have hI := itoa_inj eI
  exact ⟨by omega, by omega, by omega, by omega, by omega⟩
theorem inj_all : ∀ (c : Nat) {A B C D I A' B' C' D' I' : Int}, okC c A B C D I → okC c A' B' C' D' I' → ptC nvC c A B C D I = ptC nvC c A' B' C' D' I' → A = A' ∧ B = B' ∧ C = C' ∧ D = D' ∧ I = I'
  | 0, _, _, _, _, _, _, _, _, _, _, h, h', e => inj0 h h' e
  | 1, _, _, _, _, _, _, _, _, _, _, h, h', e => inj1 h h' e
  | 2, _, _, _, _, _, _, _, _, _, _, h, h', e => inj2 h h' e
  | 3, _, _, _, _, _, _, _, _, _, _, h, h', e => inj3 h h' e
  | 4, _, _, _, _, _, _, _, _, _, _, h, h', e => inj4 h h' e
  | 5, _, _, _, _, _, _, _, _, _, _, h, h', e => inj5 h h' e
  | 6, _, _, _, _, _, _, _, _, _, _, h, h', e => inj6 h h' e
  | 7, _, _, _, _, _, _, _, _, _, _, h, h', e => inj7 h h' e
  | 8, _, _, _, _, _, _, _, _, _, _, h, h', e => inj8 h h' e
  | 9, _, _, _, _, _, _, _, _, _, _, h, h', e => inj9 h h' e
  | 10, _, _, _, _, _, _, _, _, _, _, h, h', e => inj10 h h' e
  | 11, _, _, _, _, _, _, _, _, _, _, h, h', e => inj11 h h' e
  | 12, _, _, _, _, _, _, _, _, _, _, h, h', e => inj12 h h' e
  | 13, _, _, _, _, _, _, _, _, _, _, h, h', e => inj13 h h' e
  | 14, _, _, _, _, _, _, _, _, _, _, h, h', e => inj14 h h' e
  | 15, _, _, _, _, _, _, _, _, _, _, h, h', e => inj15 h h' e
  | 16, _, _, _, _, _, _, _, _, _, _, h, h', e => inj16 h h' e
  | 17, _, _, _, _, _, _, _, _, _, _, h, h', e => inj17 h h' e
  | 18, _, _, _, _, _, _, _, _, _, _, h, h', e => inj18 h h' e
  | 19, _, _, _, _, _, _, _, _, _, _, h, h', e => inj19 h h' e
  | 20, _, _, _, _, _, _, _, _, _, _, h, h', e => inj20 h h' e
  | 21, _, _, _, _, _, _, _, _, _, _, h, h', e => inj21 h h' e
  | 22, _, _, _, _, _, _, _, _, _, _, h, h', e => inj22 h h' e
  | 23, _, _, _, _, _, _, _, _, _, _, h, h', e => inj23 h h' e
  | 24, _, _, _, _, _, _, _, _, _, _, h, h', e => inj24 h h' e
  | 25, _, _, _, _, _, _, _, _, _, _, h, h', e => inj25 h h' e
  | 26, _, _, _, _, _, _, _, _, _, _, h, h', e => inj26 h h' e
  | 27, _, _, _, _, _, _, _, _, _, _, h, h', e => inj27 h h' e
  | 28, _, _, _, _, _, _, _, _, _, _, h, h', e => inj28 h h' e
  | 29, _, _, _, _, _, _, _, _, _, _, h, h', e => inj29 h h' e
  | 30, _, _, _, _, _, _, _, _, _, _, h, h', e => inj30 h h' e
  | 31, _, _, _, _, _, _, _, _, _, _, h, h', e => inj31 h h' e
  | 32, _, _, _, _, _, _, _, _, _, _, h, h', e => inj32 h h' e
  | _ + 33, _, _, _, _, _, _, _, _, _, _, h, _, _ => h.elim
def NoC : List (List UInt8) → Prop
  | [] => True
  | p :: ps => 44 ∉ p ∧ NoC ps
theorem noC_mem : ∀ {ps : List (List UInt8)}, NoC ps → ∀ p ∈ ps, 44 ∉ p
  | _ :: _, h, p, hp => by
    rcases List.mem_cons.1 hp with rfl | hp
    · exact h.1
    · exact noC_mem h.2 p hp
theorem no_bc {b : Bool} {x y : List UInt8} (hx : 44 ∉ x) (hy : 44 ∉ y) : 44 ∉ (bc b x y : List UInt8) := by cases b <;> assumption
theorem no_itoa (n : Int) : 44 ∉ Lib.itoa n := fun h => (itoa_mem n 44 h).1 rfl
theorem no_nm1 (n : Int) : 44 ∉ nm1 n := by unfold nm1; repeat (first | apply no_bc | decide)
theorem no_nm2 (n : Int) : 44 ∉ nm2 n := by unfold nm2; repeat (first | apply no_bc | decide)
theorem no_nm3 (n : Int) : 44 ∉ nm3 n := by unfold nm3; repeat (first | apply no_bc | decide)
theorem no_cv1 (n : Int) : 44 ∉ cv1 n := by unfold cv1; repeat (first | apply no_bc | decide)
theorem no_cv2 (n : Int) : 44 ∉ cv2 n := by unfold cv2; repeat (first | apply no_bc | decide)
theorem no_all : ∀ (c : Nat) (A B C D I : Int), NoC (ptC nvC c A B C D I)
  | 0, _, _, _, _, _ => trivial
  | 1, _, _, _, _, _ => ⟨no_nm1 _, trivial⟩
  | 2, _, _, _, _, _ => ⟨no_nm1 _, no_nm1 _, trivial⟩
  | 3, _, _, _, _, _ => ⟨no_nm1 _, no_nm1 _, no_cv1 _, trivial⟩
  | 4, _, _, _, _, _ => ⟨no_nm1 _, no_itoa _, trivial⟩
  | 5, _, _, _, _, _ => ⟨no_nm1 _, no_bc (by decide) (no_nm1 _), no_bc (by decide) (no_nm1 _), no_itoa _, no_itoa _, trivial⟩
  | 6, _, _, _, _, _ => ⟨no_cv1 _, no_itoa _, trivial⟩
  | 7, _, _, _, _, _ => ⟨no_itoa _, trivial⟩
  | 8, _, _, _, _, _ => trivial
  | 9, _, _, _, _, _ => ⟨no_nm2 _, no_nm2 _, no_nm2 _, trivial⟩
  | 10, _, _, _, _, _ => ⟨no_nm2 _, no_nm2 _, no_nm2 _, no_nm2 _, trivial⟩
  | 11, _, _, _, _, _ => ⟨no_nm2 _, no_nm2 _, no_nm2 _, no_cv2 _, trivial⟩
  | 12, _, _, _, _, _ => ⟨no_nm2 _, no_nm2 _, no_nm2 _, no_itoa _, trivial⟩
  | 13, _, _, _, _, _ => ⟨no_nm2 _, no_nm2 _, no_itoa _, trivial⟩
  | 14, _, _, _, _, _ => ⟨no_nm2 _, no_nm2 _, no_itoa _, no_itoa _, trivial⟩
  | 15, _, _, _, _, _ => ⟨no_nm2 _, no_nm2 _, no_itoa _, no_itoa _, trivial⟩
  | 16, _, _, _, _, _ => ⟨no_nm2 _, no_nm2 _, no_nm2 _, no_itoa _, trivial⟩
  | 17, _, _, _, _, _ => ⟨no_nm2 _, no_itoa _, trivial⟩
  | 18, _, _, _, _, _ => ⟨no_nm2 _, no_itoa _, no_itoa _, trivial⟩
  | 19, _, _, _, _, _ => ⟨no_nm2 _, trivial⟩
  | 20, _, _, _, _, _ => ⟨no_cv2 _, no_itoa _, trivial⟩
  | 21, _, _, _, _, _ => ⟨no_itoa _, trivial⟩
  | 22, _, _, _, _, _ => trivial
  | 23, _, _, _, _, _ => ⟨no_nm3 _, no_nm3 _, no_nm3 _, trivial⟩
  | 24, _, _, _, _, _ => ⟨no_nm3 _, no_nm3 _, no_itoa _, trivial⟩
  | 25, _, _, _, _, _ => ⟨no_nm3 _, no_nm3 _, trivial⟩
  | 26, _, _, _, _, _ => ⟨no_nm3 _, no_itoa _, trivial⟩
  | 27, _, _, _, _, _ => ⟨no_nm3 _, trivial⟩
  | 28, _, _, _, _, _ => ⟨no_nm3 _, no_nm3 _, no_itoa _, trivial⟩
  | 29, _, _, _, _, _ => ⟨no_nm3 _, no_itoa _, trivial⟩
  | 30, _, _, _, _, _ => ⟨no_nm3 _, no_nm3 _, no_itoa _, trivial⟩
  | 31, _, _, _, _, _ => ⟨no_nm3 _, no_itoa _, trivial⟩
  | 32, _, _, _, _, _ => ⟨no_itoa _, trivial⟩
  | _ + 33, _, _, _, _, _ => trivial
theorem len_all : ∀ (c : Nat) (A B C D I A' B' C' D' I' : Int), (ptC nvC c A B C D I).length = (ptC nvC c A' B' C' D' I').length
  | 0, _, _, _, _, _, _, _, _, _, _ => rfl
  | 1, _, _, _, _, _, _, _, _, _, _ => rfl
  | 2, _, _, _, _, _, _, _, _, _, _ => rfl
  | 3, _, _, _, _, _, _, _, _, _, _ => rfl
  | 4, _, _, _, _, _, _, _, _, _, _ => rfl
  | 5, _, _, _, _, _, _, _, _, _, _ => rfl
  | 6, _, _, _, _, _, _, _, _, _, _ => rfl
  | 7, _, _, _, _, _, _, _, _, _, _ => rfl
  | 8, _, _, _, _, _, _, _, _, _, _ => rfl
  | 9, _, _, _, _, _, _, _, _, _, _ => rfl
  | 10, _, _, _, _, _, _, _, _, _, _ => rfl
  | 11, _, _, _, _, _, _, _, _, _, _ => rfl
  | 12, _, _, _, _, _, _, _, _, _, _ => rfl
  | 13, _, _, _, _, _, _, _, _, _, _ => rfl
  | 14, _, _, _, _, _, _, _, _, _, _ => rfl
  | 15, _, _, _, _, _, _, _, _, _, _ => rfl
  | 16, _, _, _, _, _, _, _, _, _, _ => rfl
  | 17, _, _, _, _, _, _, _, _, _, _ => rfl
  | 18, _, _, _, _, _, _, _, _, _, _ => rfl
  | 19, _, _, _, _, _, _, _, _, _, _ => rfl
  | 20, _, _, _, _, _, _, _, _, _, _ => rfl
  | 21, _, _, _, _, _, _, _, _, _, _ => rfl
  | 22, _, _, _, _, _, _, _, _, _, _ => rfl
  | 23, _, _, _, _, _, _, _, _, _, _ => rfl
  | 24, _, _, _, _, _, _, _, _, _, _ => rfl
  | 25, _, _, _, _, _, _, _, _, _, _ => rfl
  | 26, _, _, _, _, _, _, _, _, _, _ => rfl
  | 27, _, _, _, _, _, _, _, _, _, _ => rfl
  | 28, _, _, _, _, _, _, _, _, _, _ => rfl
  | 29, _, _, _, _, _, _, _, _, _, _ => rfl
  | 30, _, _, _, _, _, _, _, _, _, _ => rfl
  | 31, _, _, _, _, _, _, _, _, _, _ => rfl
  | 32, _, _, _, _, _, _, _, _, _, _ => rfl
  | _ + 33, _, _, _, _, _, _, _, _, _, _ => rfl
def noBl (l : List Ent) : Bool := l.all fun x => x.1.all fun c => !(Nat.beq c.toNat 32)
theorem noBl_of {l : List Ent} (h : noBl l = true) : ∀ x ∈ l, 32 ∉ x.1 := fun x hx hc => by
  have h1 := List.all_eq_true.1 (List.all_eq_true.1 h x hx) 32 hc
  revert h1; decide
theorem bl1 : noBl tab1 = true := by kernel_rfl
theorem bl2 : noBl tab2 = true := by kernel_rfl
theorem bl3 : noBl tab3 = true := by kernel_rfl
theorem no_blank {t : Int} {nm : List UInt8} (h : ∃ x ∈ tabE t, x.1 = nm) : 32 ∉ nm := by
  obtain ⟨x, hx, rfl⟩ := h
  unfold tabE at hx
  cases h1 : ieq t (.ofNat 1) with
  | true => rw [h1] at hx; exact noBl_of bl1 x hx
  | false =>
  rw [h1] at hx
  cases h2 : ieq t (.ofNat 2) with
  | true => rw [h2] at hx; exact noBl_of bl2 x hx
  | false => rw [h2] at hx; exact noBl_of bl3 x hx
theorem txOf_inj {nm nm' : List UInt8} {ps ps' : List (List UInt8)} (h : 32 ∉ nm) (h' : 32 ∉ nm') (e : txOf nm ps = txOf nm' ps') : nm = nm' ∧ (ps.length = ps'.length → joinV ps [44, 32] = joinV ps' [44, 32]) := by
  cases ps with
  | nil =>
    cases ps' with
    | nil => exact ⟨e, fun _ => rfl⟩
    | cons p l =>
      have e : nm = (nm' ++ [32]) ++ joinV (p :: l) [44, 32] := e
      rw [List.append_assoc] at e
      exact (no_cut h e).elim
  | cons q k =>
    cases ps' with
    | nil =>
      have e : (nm ++ [32]) ++ joinV (q :: k) [44, 32] = nm' := e
      rw [List.append_assoc] at e
      exact (no_cut h' e.symm).elim
    | cons p l =>
      have e : (nm ++ [32]) ++ joinV (q :: k) [44, 32] = (nm' ++ [32]) ++ joinV (p :: l) [44, 32] := e
      rw [List.append_assoc, List.append_assoc] at e
      obtain ⟨e1, e2⟩ := cut_inj h h' e
      exact ⟨e1, fun _ => e2⟩
theorem leq_self (s : List UInt8) : leq s s = true := by rw [leq_iff]; exact decide_eq_true rfl
theorem ieq_self (n : Int) : ieq n n = true := by rw [ieq_iff]; exact decide_eq_true rfl
theorem texts_true {t : Int} {nm nm' : List UInt8} {A B C D I A' B' C' D' I' : Int} (h : encE t nm A B C D I = 0) (h' : encE t nm' A' B' C' D' I' = 0) :
    ((leq (tvE t nm A B C D I) (tvE t nm' A' B' C' D' I')) == (leq nm nm' && (ieq A A' && (ieq B B' && (ieq C C' && (ieq D D' && (ieq I I' && true))))))) = true := by
  have z : ieq (0 : Int) (.ofNat 0) = true := rfl
  unfold tvE
  rw [h, h', z, bc_true, bc_true]
  obtain ⟨a1, _, a3⟩ := enc_zero h
  obtain ⟨b1, _, b3⟩ := enc_zero h'
  rw [beq_iff_eq, Bool.eq_iff_iff]
  constructor
  · intro e
    obtain ⟨e1, e2⟩ := txOf_inj (no_blank a3) (no_blank b3) (leq_t e)
    subst e1
    have e3 := e2 (len_all ..)
    have e4 := parts_inj (len_all ..) (noC_mem (no_all ..)) (noC_mem (no_all ..)) e3
    obtain ⟨rfl, rfl, rfl, rfl, rfl⟩ := inj_all _ a1 b1 e4
    simp only [leq_self, ieq_self, Bool.and_self]
  · intro e
    simp only [Bool.and_eq_true, Bool.and_true] at e
    obtain ⟨e0, e1, e2, e3, e4, e5⟩ := e
    have := leq_t e0; subst this
    have := ieq_t e1; subst this
    have := ieq_t e2; subst this
    have := ieq_t e3; subst this
    have := ieq_t e4; subst this
    have := ieq_t e5; subst this
    exact leq_self _
end
end Go.Proofs.YtlclahpapabkdaaGreatDoor
