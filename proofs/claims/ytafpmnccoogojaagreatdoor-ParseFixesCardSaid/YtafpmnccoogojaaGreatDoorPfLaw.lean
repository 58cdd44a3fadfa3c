/- ParseFixes: each case answers true. -/
import Derived.Test.YtafpmnccoogojaaGreatDoorPfTrue
import Derived.Test.YtafpmnccoogojaaGreatDoorPfRun0
import Derived.Test.YtafpmnccoogojaaGreatDoorPfRun1
import Derived.Test.YtafpmnccoogojaaGreatDoorPfRun2
import Derived.Test.YtafpmnccoogojaaGreatDoorPfRun3
import Derived.Test.YtafpmnccoogojaaGreatDoorPfRun4
import Derived.Test.YtafpmnccoogojaaGreatDoorPfRun5
import Derived.Test.YtafpmnccoogojaaGreatDoorPfRun6
import Derived.KernelRfl
namespace Go.Proofs.YtafpmnccoogojaaGreatDoor
open Go Go.Vai
noncomputable section
def LawR (t : Int) (n k : Nat) (neg : Bool) : Prop := ∃ (s : Smk AV) (pn : Pin) (o : Orc), SmkOk EPf s ∧ callPS EPf s pn 1000 (.call 3 [.int .i64 t, .int .u32 (.ofNat n), .bool neg, .int .u8 (.ofNat k)] (gHeap 12 gl)) o jK = some (.bool true)
theorem law_of {t : Int} {n k hl a b L : Nat} {neg : Bool} {hb xb mb ob tb mo : List UInt8} {v : Int} {t1 t2 t3 t4 : List Pc} {pn : Pin} {o : Orc} (hn : n < 4294967296) (hk : k < 256) (ha : k % 3 = a) (hL : k % L = b)
    (h : callPS EPf (SKpf hl n (dgs n) t1 t2 t3 t4) pn 1000 (.call 3 [.int .i64 t, .int .u32 (.ofNat n), .bool neg, .int .u8 (.ofNat k)] (gHeap 12 gl)) o jK = pfT hb xb mb ob tb mo a b L v n k (dgs n) t1 t2 t3 t4)
    (l : (Nat.ble hb.length 100 && (Nat.beq xb.length 8 && (Nat.ble mb.length 100 && (Nat.ble ob.length 100 && Nat.ble tb.length 100)))) = true)
    (e1 : ∀ D, hb ++ (xb ++ (D ++ tb)) = txt D t1) (e2 : ∀ D, mb ++ (xb ++ (D ++ 41 :: tb)) = txt D t2) (e3 : ∀ D, ob ++ (xb ++ (D ++ 41 :: tb)) = txt D t3) (e4 : ∀ D, mb ++ (xb ++ (D ++ tb)) = txt D t4)
    (p : (pcsOk t1 && (pcsOk t2 && (pcsOk t3 && pcsOk t4))) = true) (w1 : wds n (dgs n) t1 0 ≠ []) (w2 : wds n (dgs n) t2 0 ≠ []) (w3 : wds n (dgs n) t3 0 ≠ []) (w4 : wds n (dgs n) t4 0 ≠ []) : LawR t n k neg := by
  simp only [Bool.and_eq_true, Nat.ble_eq, Nat.beq_eq] at l p
  obtain ⟨l1, lx, l3, l4, l5⟩ := l
  obtain ⟨p1, p2, p3, p4⟩ := p
  have hD : (dgs n).length ≤ 20 := (dgF_len 19 n).2
  have g : ∀ {x y : List UInt8}, x.length ≤ 100 → (y = tb ∨ y = 41 :: tb) → (x ++ (xb ++ (dgs n ++ y))).length < 1048576 := by
    intro x y hx hy
    have : y.length ≤ 101 := by
      rcases hy with h | h
      · rw [h]; omega
      · rw [h, List.length_cons]; omega
    simp only [List.length_append]
    omega
  refine ⟨_, pn, o, skpf_ok (hl := hl) hn p1 p2 p3 p4 (by rw [← e1]; exact g l1 (.inl rfl)) (by rw [← e2]; exact g l3 (.inr rfl)) (by rw [← e3]; exact g l4 (.inr rfl)) (by rw [← e4]; exact g l3 (.inl rfl)) w1 w2 w3 w4, h.trans ?_⟩
  refine pfT_true hn hk ha hL hD l1 l3 l4 l5 lx ?_ ?_ ?_ ?_
  · rw [← e1]; simp only [List.append_assoc]
  · rw [← e2]; simp only [List.append_assoc, List.cons_append, List.nil_append]
  · rw [← e3]; simp only [List.append_assoc, List.cons_append, List.nil_append]
  · rw [← e4]; simp only [List.append_assoc]
theorem law1000 {n k : Nat} (hn : n < 4294967296) (hk : k < 256) (ha : k % 3 = 0) (hL : k % 1 = 0) : LawR (.ofNat 1) n k false := law_of hn hk ha hL (run1000 n k (dgs n)) (by decide) (fun _ => rfl) (fun _ => rfl) (fun _ => rfl) (fun _ => rfl) (by kernel_rfl) (List.cons_ne_nil _ _) (List.cons_ne_nil _ _) (List.cons_ne_nil _ _) (List.cons_ne_nil _ _)
theorem law1001 {n k : Nat} (hn : n < 4294967296) (hk : k < 256) (ha : k % 3 = 0) (hL : k % 1 = 0) : LawR (.ofNat 1) n k true := law_of hn hk ha hL (run1001 n k (dgs n)) (by decide) (fun _ => rfl) (fun _ => rfl) (fun _ => rfl) (fun _ => rfl) (by kernel_rfl) (List.cons_ne_nil _ _) (List.cons_ne_nil _ _) (List.cons_ne_nil _ _) (List.cons_ne_nil _ _)
theorem law1100 {n k : Nat} (hn : n < 4294967296) (hk : k < 256) (ha : k % 3 = 1) (hL : k % 1 = 0) : LawR (.ofNat 1) n k false := law_of hn hk ha hL (run1100 n k (dgs n)) (by decide) (fun _ => rfl) (fun _ => rfl) (fun _ => rfl) (fun _ => rfl) (by kernel_rfl) (List.cons_ne_nil _ _) (List.cons_ne_nil _ _) (List.cons_ne_nil _ _) (List.cons_ne_nil _ _)
theorem law1101 {n k : Nat} (hn : n < 4294967296) (hk : k < 256) (ha : k % 3 = 1) (hL : k % 1 = 0) : LawR (.ofNat 1) n k true := law_of hn hk ha hL (run1101 n k (dgs n)) (by decide) (fun _ => rfl) (fun _ => rfl) (fun _ => rfl) (fun _ => rfl) (by kernel_rfl) (List.cons_ne_nil _ _) (List.cons_ne_nil _ _) (List.cons_ne_nil _ _) (List.cons_ne_nil _ _)
theorem law1200 {n k : Nat} (hn : n < 4294967296) (hk : k < 256) (ha : k % 3 = 2) (hL : k % 1 = 0) : LawR (.ofNat 1) n k false := law_of hn hk ha hL (run1200 n k (dgs n)) (by decide) (fun _ => rfl) (fun _ => rfl) (fun _ => rfl) (fun _ => rfl) (by kernel_rfl) (List.cons_ne_nil _ _) (List.cons_ne_nil _ _) (List.cons_ne_nil _ _) (List.cons_ne_nil _ _)
theorem law1201 {n k : Nat} (hn : n < 4294967296) (hk : k < 256) (ha : k % 3 = 2) (hL : k % 1 = 0) : LawR (.ofNat 1) n k true := law_of hn hk ha hL (run1201 n k (dgs n)) (by decide) (fun _ => rfl) (fun _ => rfl) (fun _ => rfl) (fun _ => rfl) (by kernel_rfl) (List.cons_ne_nil _ _) (List.cons_ne_nil _ _) (List.cons_ne_nil _ _) (List.cons_ne_nil _ _)
theorem law2000 {n k : Nat} (hn : n < 4294967296) (hk : k < 256) (ha : k % 3 = 0) (hL : k % 4 = 0) : LawR (.ofNat 2) n k false := law_of hn hk ha hL (run2000 n k (dgs n)) (by decide) (fun _ => rfl) (fun _ => rfl) (fun _ => rfl) (fun _ => rfl) (by kernel_rfl) (List.cons_ne_nil _ _) (List.cons_ne_nil _ _) (List.cons_ne_nil _ _) (List.cons_ne_nil _ _)
theorem law2001 {n k : Nat} (hn : n < 4294967296) (hk : k < 256) (ha : k % 3 = 0) (hL : k % 4 = 0) : LawR (.ofNat 2) n k true := law_of hn hk ha hL (run2001 n k (dgs n)) (by decide) (fun _ => rfl) (fun _ => rfl) (fun _ => rfl) (fun _ => rfl) (by kernel_rfl) (List.cons_ne_nil _ _) (List.cons_ne_nil _ _) (List.cons_ne_nil _ _) (List.cons_ne_nil _ _)
theorem law2010 {n k : Nat} (hn : n < 4294967296) (hk : k < 256) (ha : k % 3 = 0) (hL : k % 4 = 1) : LawR (.ofNat 2) n k false := law_of hn hk ha hL (run2010 n k (dgs n)) (by decide) (fun _ => rfl) (fun _ => rfl) (fun _ => rfl) (fun _ => rfl) (by kernel_rfl) (List.cons_ne_nil _ _) (List.cons_ne_nil _ _) (List.cons_ne_nil _ _) (List.cons_ne_nil _ _)
theorem law2011 {n k : Nat} (hn : n < 4294967296) (hk : k < 256) (ha : k % 3 = 0) (hL : k % 4 = 1) : LawR (.ofNat 2) n k true := law_of hn hk ha hL (run2011 n k (dgs n)) (by decide) (fun _ => rfl) (fun _ => rfl) (fun _ => rfl) (fun _ => rfl) (by kernel_rfl) (List.cons_ne_nil _ _) (List.cons_ne_nil _ _) (List.cons_ne_nil _ _) (List.cons_ne_nil _ _)
theorem law2020 {n k : Nat} (hn : n < 4294967296) (hk : k < 256) (ha : k % 3 = 0) (hL : k % 4 = 2) : LawR (.ofNat 2) n k false := law_of hn hk ha hL (run2020 n k (dgs n)) (by decide) (fun _ => rfl) (fun _ => rfl) (fun _ => rfl) (fun _ => rfl) (by kernel_rfl) (List.cons_ne_nil _ _) (List.cons_ne_nil _ _) (List.cons_ne_nil _ _) (List.cons_ne_nil _ _)
theorem law2021 {n k : Nat} (hn : n < 4294967296) (hk : k < 256) (ha : k % 3 = 0) (hL : k % 4 = 2) : LawR (.ofNat 2) n k true := law_of hn hk ha hL (run2021 n k (dgs n)) (by decide) (fun _ => rfl) (fun _ => rfl) (fun _ => rfl) (fun _ => rfl) (by kernel_rfl) (List.cons_ne_nil _ _) (List.cons_ne_nil _ _) (List.cons_ne_nil _ _) (List.cons_ne_nil _ _)
theorem law2030 {n k : Nat} (hn : n < 4294967296) (hk : k < 256) (ha : k % 3 = 0) (hL : k % 4 = 3) : LawR (.ofNat 2) n k false := law_of hn hk ha hL (run2030 n k (dgs n)) (by decide) (fun _ => rfl) (fun _ => rfl) (fun _ => rfl) (fun _ => rfl) (by kernel_rfl) (List.cons_ne_nil _ _) (List.cons_ne_nil _ _) (List.cons_ne_nil _ _) (List.cons_ne_nil _ _)
theorem law2031 {n k : Nat} (hn : n < 4294967296) (hk : k < 256) (ha : k % 3 = 0) (hL : k % 4 = 3) : LawR (.ofNat 2) n k true := law_of hn hk ha hL (run2031 n k (dgs n)) (by decide) (fun _ => rfl) (fun _ => rfl) (fun _ => rfl) (fun _ => rfl) (by kernel_rfl) (List.cons_ne_nil _ _) (List.cons_ne_nil _ _) (List.cons_ne_nil _ _) (List.cons_ne_nil _ _)
theorem law2100 {n k : Nat} (hn : n < 4294967296) (hk : k < 256) (ha : k % 3 = 1) (hL : k % 4 = 0) : LawR (.ofNat 2) n k false := law_of hn hk ha hL (run2100 n k (dgs n)) (by decide) (fun _ => rfl) (fun _ => rfl) (fun _ => rfl) (fun _ => rfl) (by kernel_rfl) (List.cons_ne_nil _ _) (List.cons_ne_nil _ _) (List.cons_ne_nil _ _) (List.cons_ne_nil _ _)
theorem law2101 {n k : Nat} (hn : n < 4294967296) (hk : k < 256) (ha : k % 3 = 1) (hL : k % 4 = 0) : LawR (.ofNat 2) n k true := law_of hn hk ha hL (run2101 n k (dgs n)) (by decide) (fun _ => rfl) (fun _ => rfl) (fun _ => rfl) (fun _ => rfl) (by kernel_rfl) (List.cons_ne_nil _ _) (List.cons_ne_nil _ _) (List.cons_ne_nil _ _) (List.cons_ne_nil _ _)
theorem law2110 {n k : Nat} (hn : n < 4294967296) (hk : k < 256) (ha : k % 3 = 1) (hL : k % 4 = 1) : LawR (.ofNat 2) n k false := law_of hn hk ha hL (run2110 n k (dgs n)) (by decide) (fun _ => rfl) (fun _ => rfl) (fun _ => rfl) (fun _ => rfl) (by kernel_rfl) (List.cons_ne_nil _ _) (List.cons_ne_nil _ _) (List.cons_ne_nil _ _) (List.cons_ne_nil _ _)
theorem law2111 {n k : Nat} (hn : n < 4294967296) (hk : k < 256) (ha : k % 3 = 1) (hL : k % 4 = 1) : LawR (.ofNat 2) n k true := law_of hn hk ha hL (run2111 n k (dgs n)) (by decide) (fun _ => rfl) (fun _ => rfl) (fun _ => rfl) (fun _ => rfl) (by kernel_rfl) (List.cons_ne_nil _ _) (List.cons_ne_nil _ _) (List.cons_ne_nil _ _) (List.cons_ne_nil _ _)
theorem law2120 {n k : Nat} (hn : n < 4294967296) (hk : k < 256) (ha : k % 3 = 1) (hL : k % 4 = 2) : LawR (.ofNat 2) n k false := law_of hn hk ha hL (run2120 n k (dgs n)) (by decide) (fun _ => rfl) (fun _ => rfl) (fun _ => rfl) (fun _ => rfl) (by kernel_rfl) (List.cons_ne_nil _ _) (List.cons_ne_nil _ _) (List.cons_ne_nil _ _) (List.cons_ne_nil _ _)
theorem law2121 {n k : Nat} (hn : n < 4294967296) (hk : k < 256) (ha : k % 3 = 1) (hL : k % 4 = 2) : LawR (.ofNat 2) n k true := law_of hn hk ha hL (run2121 n k (dgs n)) (by decide) (fun _ => rfl) (fun _ => rfl) (fun _ => rfl) (fun _ => rfl) (by kernel_rfl) (List.cons_ne_nil _ _) (List.cons_ne_nil _ _) (List.cons_ne_nil _ _) (List.cons_ne_nil _ _)
theorem law2130 {n k : Nat} (hn : n < 4294967296) (hk : k < 256) (ha : k % 3 = 1) (hL : k % 4 = 3) : LawR (.ofNat 2) n k false := law_of hn hk ha hL (run2130 n k (dgs n)) (by decide) (fun _ => rfl) (fun _ => rfl) (fun _ => rfl) (fun _ => rfl) (by kernel_rfl) (List.cons_ne_nil _ _) (List.cons_ne_nil _ _) (List.cons_ne_nil _ _) (List.cons_ne_nil _ _)
theorem law2131 {n k : Nat} (hn : n < 4294967296) (hk : k < 256) (ha : k % 3 = 1) (hL : k % 4 = 3) : LawR (.ofNat 2) n k true := law_of hn hk ha hL (run2131 n k (dgs n)) (by decide) (fun _ => rfl) (fun _ => rfl) (fun _ => rfl) (fun _ => rfl) (by kernel_rfl) (List.cons_ne_nil _ _) (List.cons_ne_nil _ _) (List.cons_ne_nil _ _) (List.cons_ne_nil _ _)
theorem law2200 {n k : Nat} (hn : n < 4294967296) (hk : k < 256) (ha : k % 3 = 2) (hL : k % 4 = 0) : LawR (.ofNat 2) n k false := law_of hn hk ha hL (run2200 n k (dgs n)) (by decide) (fun _ => rfl) (fun _ => rfl) (fun _ => rfl) (fun _ => rfl) (by kernel_rfl) (List.cons_ne_nil _ _) (List.cons_ne_nil _ _) (List.cons_ne_nil _ _) (List.cons_ne_nil _ _)
theorem law2201 {n k : Nat} (hn : n < 4294967296) (hk : k < 256) (ha : k % 3 = 2) (hL : k % 4 = 0) : LawR (.ofNat 2) n k true := law_of hn hk ha hL (run2201 n k (dgs n)) (by decide) (fun _ => rfl) (fun _ => rfl) (fun _ => rfl) (fun _ => rfl) (by kernel_rfl) (List.cons_ne_nil _ _) (List.cons_ne_nil _ _) (List.cons_ne_nil _ _) (List.cons_ne_nil _ _)
theorem law2210 {n k : Nat} (hn : n < 4294967296) (hk : k < 256) (ha : k % 3 = 2) (hL : k % 4 = 1) : LawR (.ofNat 2) n k false := law_of hn hk ha hL (run2210 n k (dgs n)) (by decide) (fun _ => rfl) (fun _ => rfl) (fun _ => rfl) (fun _ => rfl) (by kernel_rfl) (List.cons_ne_nil _ _) (List.cons_ne_nil _ _) (List.cons_ne_nil _ _) (List.cons_ne_nil _ _)
theorem law2211 {n k : Nat} (hn : n < 4294967296) (hk : k < 256) (ha : k % 3 = 2) (hL : k % 4 = 1) : LawR (.ofNat 2) n k true := law_of hn hk ha hL (run2211 n k (dgs n)) (by decide) (fun _ => rfl) (fun _ => rfl) (fun _ => rfl) (fun _ => rfl) (by kernel_rfl) (List.cons_ne_nil _ _) (List.cons_ne_nil _ _) (List.cons_ne_nil _ _) (List.cons_ne_nil _ _)
theorem law2220 {n k : Nat} (hn : n < 4294967296) (hk : k < 256) (ha : k % 3 = 2) (hL : k % 4 = 2) : LawR (.ofNat 2) n k false := law_of hn hk ha hL (run2220 n k (dgs n)) (by decide) (fun _ => rfl) (fun _ => rfl) (fun _ => rfl) (fun _ => rfl) (by kernel_rfl) (List.cons_ne_nil _ _) (List.cons_ne_nil _ _) (List.cons_ne_nil _ _) (List.cons_ne_nil _ _)
theorem law2221 {n k : Nat} (hn : n < 4294967296) (hk : k < 256) (ha : k % 3 = 2) (hL : k % 4 = 2) : LawR (.ofNat 2) n k true := law_of hn hk ha hL (run2221 n k (dgs n)) (by decide) (fun _ => rfl) (fun _ => rfl) (fun _ => rfl) (fun _ => rfl) (by kernel_rfl) (List.cons_ne_nil _ _) (List.cons_ne_nil _ _) (List.cons_ne_nil _ _) (List.cons_ne_nil _ _)
theorem law2230 {n k : Nat} (hn : n < 4294967296) (hk : k < 256) (ha : k % 3 = 2) (hL : k % 4 = 3) : LawR (.ofNat 2) n k false := law_of hn hk ha hL (run2230 n k (dgs n)) (by decide) (fun _ => rfl) (fun _ => rfl) (fun _ => rfl) (fun _ => rfl) (by kernel_rfl) (List.cons_ne_nil _ _) (List.cons_ne_nil _ _) (List.cons_ne_nil _ _) (List.cons_ne_nil _ _)
theorem law2231 {n k : Nat} (hn : n < 4294967296) (hk : k < 256) (ha : k % 3 = 2) (hL : k % 4 = 3) : LawR (.ofNat 2) n k true := law_of hn hk ha hL (run2231 n k (dgs n)) (by decide) (fun _ => rfl) (fun _ => rfl) (fun _ => rfl) (fun _ => rfl) (by kernel_rfl) (List.cons_ne_nil _ _) (List.cons_ne_nil _ _) (List.cons_ne_nil _ _) (List.cons_ne_nil _ _)
theorem law3000 {n k : Nat} (hn : n < 4294967296) (hk : k < 256) (ha : k % 3 = 0) (hL : k % 6 = 0) : LawR (.ofNat 3) n k false := law_of hn hk ha hL (run3000 n k (dgs n)) (by decide) (fun _ => rfl) (fun _ => rfl) (fun _ => rfl) (fun _ => rfl) (by kernel_rfl) (List.cons_ne_nil _ _) (List.cons_ne_nil _ _) (List.cons_ne_nil _ _) (List.cons_ne_nil _ _)
theorem law3001 {n k : Nat} (hn : n < 4294967296) (hk : k < 256) (ha : k % 3 = 0) (hL : k % 6 = 0) : LawR (.ofNat 3) n k true := law_of hn hk ha hL (run3001 n k (dgs n)) (by decide) (fun _ => rfl) (fun _ => rfl) (fun _ => rfl) (fun _ => rfl) (by kernel_rfl) (List.cons_ne_nil _ _) (List.cons_ne_nil _ _) (List.cons_ne_nil _ _) (List.cons_ne_nil _ _)
theorem law3030 {n k : Nat} (hn : n < 4294967296) (hk : k < 256) (ha : k % 3 = 0) (hL : k % 6 = 3) : LawR (.ofNat 3) n k false := law_of hn hk ha hL (run3030 n k (dgs n)) (by decide) (fun _ => rfl) (fun _ => rfl) (fun _ => rfl) (fun _ => rfl) (by kernel_rfl) (List.cons_ne_nil _ _) (List.cons_ne_nil _ _) (List.cons_ne_nil _ _) (List.cons_ne_nil _ _)
theorem law3031 {n k : Nat} (hn : n < 4294967296) (hk : k < 256) (ha : k % 3 = 0) (hL : k % 6 = 3) : LawR (.ofNat 3) n k true := law_of hn hk ha hL (run3031 n k (dgs n)) (by decide) (fun _ => rfl) (fun _ => rfl) (fun _ => rfl) (fun _ => rfl) (by kernel_rfl) (List.cons_ne_nil _ _) (List.cons_ne_nil _ _) (List.cons_ne_nil _ _) (List.cons_ne_nil _ _)
theorem law3110 {n k : Nat} (hn : n < 4294967296) (hk : k < 256) (ha : k % 3 = 1) (hL : k % 6 = 1) : LawR (.ofNat 3) n k false := law_of hn hk ha hL (run3110 n k (dgs n)) (by decide) (fun _ => rfl) (fun _ => rfl) (fun _ => rfl) (fun _ => rfl) (by kernel_rfl) (List.cons_ne_nil _ _) (List.cons_ne_nil _ _) (List.cons_ne_nil _ _) (List.cons_ne_nil _ _)
theorem law3111 {n k : Nat} (hn : n < 4294967296) (hk : k < 256) (ha : k % 3 = 1) (hL : k % 6 = 1) : LawR (.ofNat 3) n k true := law_of hn hk ha hL (run3111 n k (dgs n)) (by decide) (fun _ => rfl) (fun _ => rfl) (fun _ => rfl) (fun _ => rfl) (by kernel_rfl) (List.cons_ne_nil _ _) (List.cons_ne_nil _ _) (List.cons_ne_nil _ _) (List.cons_ne_nil _ _)
theorem law3140 {n k : Nat} (hn : n < 4294967296) (hk : k < 256) (ha : k % 3 = 1) (hL : k % 6 = 4) : LawR (.ofNat 3) n k false := law_of hn hk ha hL (run3140 n k (dgs n)) (by decide) (fun _ => rfl) (fun _ => rfl) (fun _ => rfl) (fun _ => rfl) (by kernel_rfl) (List.cons_ne_nil _ _) (List.cons_ne_nil _ _) (List.cons_ne_nil _ _) (List.cons_ne_nil _ _)
theorem law3141 {n k : Nat} (hn : n < 4294967296) (hk : k < 256) (ha : k % 3 = 1) (hL : k % 6 = 4) : LawR (.ofNat 3) n k true := law_of hn hk ha hL (run3141 n k (dgs n)) (by decide) (fun _ => rfl) (fun _ => rfl) (fun _ => rfl) (fun _ => rfl) (by kernel_rfl) (List.cons_ne_nil _ _) (List.cons_ne_nil _ _) (List.cons_ne_nil _ _) (List.cons_ne_nil _ _)
theorem law3220 {n k : Nat} (hn : n < 4294967296) (hk : k < 256) (ha : k % 3 = 2) (hL : k % 6 = 2) : LawR (.ofNat 3) n k false := law_of hn hk ha hL (run3220 n k (dgs n)) (by decide) (fun _ => rfl) (fun _ => rfl) (fun _ => rfl) (fun _ => rfl) (by kernel_rfl) (List.cons_ne_nil _ _) (List.cons_ne_nil _ _) (List.cons_ne_nil _ _) (List.cons_ne_nil _ _)
theorem law3221 {n k : Nat} (hn : n < 4294967296) (hk : k < 256) (ha : k % 3 = 2) (hL : k % 6 = 2) : LawR (.ofNat 3) n k true := law_of hn hk ha hL (run3221 n k (dgs n)) (by decide) (fun _ => rfl) (fun _ => rfl) (fun _ => rfl) (fun _ => rfl) (by kernel_rfl) (List.cons_ne_nil _ _) (List.cons_ne_nil _ _) (List.cons_ne_nil _ _) (List.cons_ne_nil _ _)
theorem law3250 {n k : Nat} (hn : n < 4294967296) (hk : k < 256) (ha : k % 3 = 2) (hL : k % 6 = 5) : LawR (.ofNat 3) n k false := law_of hn hk ha hL (run3250 n k (dgs n)) (by decide) (fun _ => rfl) (fun _ => rfl) (fun _ => rfl) (fun _ => rfl) (by kernel_rfl) (List.cons_ne_nil _ _) (List.cons_ne_nil _ _) (List.cons_ne_nil _ _) (List.cons_ne_nil _ _)
theorem law3251 {n k : Nat} (hn : n < 4294967296) (hk : k < 256) (ha : k % 3 = 2) (hL : k % 6 = 5) : LawR (.ofNat 3) n k true := law_of hn hk ha hL (run3251 n k (dgs n)) (by decide) (fun _ => rfl) (fun _ => rfl) (fun _ => rfl) (fun _ => rfl) (by kernel_rfl) (List.cons_ne_nil _ _) (List.cons_ne_nil _ _) (List.cons_ne_nil _ _) (List.cons_ne_nil _ _)
theorem law_t1 {n k : Nat} (hn : n < 4294967296) (hk : k < 256) (neg : Bool) : LawR (.ofNat 1) n k neg := by
  have a : k % 3 = 0 ∨ k % 3 = 1 ∨ k % 3 = 2 := by omega
  have b : k % 1 = 0 := by omega
  cases neg with
  | false =>
    rcases a with a | a | a
    · exact law1000 hn hk a b
    · exact law1100 hn hk a b
    · exact law1200 hn hk a b
  | true =>
    rcases a with a | a | a
    · exact law1001 hn hk a b
    · exact law1101 hn hk a b
    · exact law1201 hn hk a b
theorem law_t2 {n k : Nat} (hn : n < 4294967296) (hk : k < 256) (neg : Bool) : LawR (.ofNat 2) n k neg := by
  have a : k % 3 = 0 ∨ k % 3 = 1 ∨ k % 3 = 2 := by omega
  have b : k % 4 = 0 ∨ k % 4 = 1 ∨ k % 4 = 2 ∨ k % 4 = 3 := by omega
  cases neg with
  | false =>
    rcases a with a | a | a
    · rcases b with b | b | b | b
      · exact law2000 hn hk a b
      · exact law2010 hn hk a b
      · exact law2020 hn hk a b
      · exact law2030 hn hk a b
    · rcases b with b | b | b | b
      · exact law2100 hn hk a b
      · exact law2110 hn hk a b
      · exact law2120 hn hk a b
      · exact law2130 hn hk a b
    · rcases b with b | b | b | b
      · exact law2200 hn hk a b
      · exact law2210 hn hk a b
      · exact law2220 hn hk a b
      · exact law2230 hn hk a b
  | true =>
    rcases a with a | a | a
    · rcases b with b | b | b | b
      · exact law2001 hn hk a b
      · exact law2011 hn hk a b
      · exact law2021 hn hk a b
      · exact law2031 hn hk a b
    · rcases b with b | b | b | b
      · exact law2101 hn hk a b
      · exact law2111 hn hk a b
      · exact law2121 hn hk a b
      · exact law2131 hn hk a b
    · rcases b with b | b | b | b
      · exact law2201 hn hk a b
      · exact law2211 hn hk a b
      · exact law2221 hn hk a b
      · exact law2231 hn hk a b
theorem law_t3 {n k : Nat} (hn : n < 4294967296) (hk : k < 256) (neg : Bool) : LawR (.ofNat 3) n k neg := by
  have a : k % 3 = 0 ∨ k % 3 = 1 ∨ k % 3 = 2 := by omega
  have b : k % 6 = 0 ∨ k % 6 = 1 ∨ k % 6 = 2 ∨ k % 6 = 3 ∨ k % 6 = 4 ∨ k % 6 = 5 := by omega
  cases neg with
  | false =>
    rcases a with a | a | a
    · rcases b with b | b | b | b | b | b
      · exact law3000 hn hk a b
      · omega
      · omega
      · exact law3030 hn hk a b
      · omega
      · omega
    · rcases b with b | b | b | b | b | b
      · omega
      · exact law3110 hn hk a b
      · omega
      · omega
      · exact law3140 hn hk a b
      · omega
    · rcases b with b | b | b | b | b | b
      · omega
      · omega
      · exact law3220 hn hk a b
      · omega
      · omega
      · exact law3250 hn hk a b
  | true =>
    rcases a with a | a | a
    · rcases b with b | b | b | b | b | b
      · exact law3001 hn hk a b
      · omega
      · omega
      · exact law3031 hn hk a b
      · omega
      · omega
    · rcases b with b | b | b | b | b | b
      · omega
      · exact law3111 hn hk a b
      · omega
      · omega
      · exact law3141 hn hk a b
      · omega
    · rcases b with b | b | b | b | b | b
      · omega
      · omega
      · exact law3221 hn hk a b
      · omega
      · omega
      · exact law3251 hn hk a b
end
end Go.Proofs.YtafpmnccoogojaaGreatDoor
