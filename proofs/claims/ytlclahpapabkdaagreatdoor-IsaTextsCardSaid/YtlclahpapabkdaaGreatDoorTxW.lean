/- Lengths of parts, and texts out of parts. -/
import Derived.Test.YtlclahpapabkdaaGreatDoorTxT
import Derived.Test.YtlclahpapabkdaaGreatDoorTxPlain
import Derived.KernelRfl
namespace Go.Proofs.YtlclahpapabkdaaGreatDoor
open Go Go.Vai
noncomputable section
set_option maxRecDepth 100000
def rng (A B C D I : Int) : Bool := i64In A && (i64In B && (i64In C && (i64In D && i64In I)))
section
variable {A B C D I : Int} (h : rng A B C D I = true)
include h
theorem rng_c : i64In C = true := by unfold rng at h; simp only [Bool.and_eq_true] at h; exact h.2.2.1
theorem rng_d : i64In D = true := by unfold rng at h; simp only [Bool.and_eq_true] at h; exact h.2.2.2.1
theorem rng_i : i64In I = true := by unfold rng at h; simp only [Bool.and_eq_true] at h; exact h.2.2.2.2
end
def NvOk (nv : Int → Int → List UInt8) : Prop := ∀ t n, (nv t n).length ≤ 30
theorem le_bc {b : Bool} {x y : List UInt8} (hx : x.length ≤ 30) (hy : y.length ≤ 30) : (bc b x y).length ≤ 30 := by cases b <;> assumption
theorem dec_len : ∀ k u : Nat, u < 10 ^ (k + 1) → (Lib.decDigits u).length ≤ k + 1 := by
  intro k
  induction k with
  | zero =>
    intro u h
    rw [Lib.decDigits, dif_pos (by omega)]
    simp
  | succ k ih =>
    intro u h
    rw [Lib.decDigits]
    split
    · simp
    · have : u / 10 < 10 ^ (k + 1) := by rw [Nat.pow_succ] at h; omega
      have := ih _ this
      simp only [List.length_append, List.length_cons, List.length_nil]
      omega
theorem itoa_len {n : Int} (h : i64In n = true) : (Lib.itoa n).length ≤ 30 := by
  obtain ⟨h1, h2⟩ := i64In_iff h
  have key : ∀ u : Nat, u ≤ 9223372036854775808 → (Lib.decDigits u).length ≤ 20 := fun u hu => dec_len 19 u (Nat.lt_of_le_of_lt hu (by decide))
  unfold Lib.itoa
  split
  · have := key n.natAbs (by omega)
    simp only [List.length_cons]
    first | omega | (have := key (-n).toNat (by omega); omega)
  · have := key n.toNat (by omega)
    first | omega | (have := key n.natAbs (by omega); omega)
theorem cv1_len (D : Int) : (cv1 D).length ≤ 30 := by
  unfold cv1
  repeat (first | apply le_bc | decide)
theorem cv2_len (D : Int) : (cv2 D).length ≤ 30 := by
  unfold cv2
  repeat (first | apply le_bc | decide)
def AllLe : List (List UInt8) → Prop
  | [] => True
  | p :: ps => p.length ≤ 30 ∧ AllLe ps
theorem allLe_mem : ∀ {ps : List (List UInt8)}, AllLe ps → ∀ p ∈ ps, p.length ≤ 30
  | _ :: _, h, p, hp => by
    rcases List.mem_cons.1 hp with rfl | hp
    · exact h.1
    · exact allLe_mem h.2 p hp
theorem gds_ok (x : Option AV) : ∀ gs : List Bool, gs.all id = true → gds gs x = x
  | [], _ => rfl
  | g :: gs, h => by
    simp only [List.all_cons, id, Bool.and_eq_true] at h
    show bc g (gds gs x) none = x
    rw [h.1, bc_true]
    exact gds_ok x gs h.2
theorem txB_ok {s : List UInt8} {ps : List (List UInt8)} {gs : List Bool} (hs : s.length ≤ 40) (hn : ps.length ≤ 8) (hg : gs.all id = true) (hp : AllLe ps) : txB s ps gs = some (.tup [.str (s ++ joinV ps [44, 32]), .int .i64 (.ofNat 0)]) := by
  unfold txB
  rw [gds_ok _ _ hg]
  have h1 : shortL ps = true := by
    unfold shortL
    rw [List.all_eq_true]
    intro x hx
    have := allLe_mem hp x hx
    rw [Nat.ble_eq]; omega
  have h2 := join_len [44, 32] (by decide) ps fun x hx => by have := allLe_mem hp x hx; omega
  have h3 : Nat.ble (Nat.add (lenU s) (lenU (joinV ps [44, 32]))) 1099511627776 = true := by
    rw [Nat.ble_eq]
    have e : ∀ x : List UInt8, lenU x = x.length := fun _ => rfl
    rw [e, e]
    unfold joinV
    show s.length + (Lib.join ps [44, 32]).length ≤ _
    have : ps.length * 2000 ≤ 16000 := Nat.mul_le_mul_right 2000 hn
    omega
  rw [h1, h3, bc_true, bc_true]
theorem txE_congr {e : Int} {x y z : Option AV} (h : x = y) (h2 : y = z) : txE e x = txE e z := by rw [h, h2]
def txOf (nm : List UInt8) : List (List UInt8) → List UInt8
  | [] => nm
  | p :: ps => (nm ++ [32]) ++ joinV (p :: ps) [44, 32]
theorem pl1 {nv : Int → Int → List UInt8} (hn : NvOk nv) {A B C D I : Int} (_hr : rng A B C D I = true) : AllLe (pt1 nv A B C D I) := ⟨hn _ _, trivial⟩
theorem pl2 {nv : Int → Int → List UInt8} (hn : NvOk nv) {A B C D I : Int} (_hr : rng A B C D I = true) : AllLe (pt2 nv A B C D I) := ⟨hn _ _, hn _ _, trivial⟩
theorem pl3 {nv : Int → Int → List UInt8} (hn : NvOk nv) {A B C D I : Int} (_hr : rng A B C D I = true) : AllLe (pt3 nv A B C D I) := ⟨hn _ _, hn _ _, cv1_len _, trivial⟩
theorem pl4 {nv : Int → Int → List UInt8} (hn : NvOk nv) {A B C D I : Int} (hr : rng A B C D I = true) : AllLe (pt4 nv A B C D I) := ⟨hn _ _, itoa_len (rng_i hr), trivial⟩
theorem pl5 {nv : Int → Int → List UInt8} (hn : NvOk nv) {A B C D I : Int} (hr : rng A B C D I = true) : AllLe (pt5 nv A B C D I) := ⟨hn _ _, le_bc (by decide) (hn _ _), le_bc (by decide) (hn _ _), itoa_len (rng_d hr), itoa_len (rng_i hr), trivial⟩
theorem pl6 {nv : Int → Int → List UInt8} (_hn : NvOk nv) {A B C D I : Int} (hr : rng A B C D I = true) : AllLe (pt6 nv A B C D I) := ⟨cv1_len _, itoa_len (rng_i hr), trivial⟩
theorem pl7 {nv : Int → Int → List UInt8} (_hn : NvOk nv) {A B C D I : Int} (hr : rng A B C D I = true) : AllLe (pt7 nv A B C D I) := ⟨itoa_len (rng_i hr), trivial⟩
theorem pl9 {nv : Int → Int → List UInt8} (hn : NvOk nv) {A B C D I : Int} (_hr : rng A B C D I = true) : AllLe (pt9 nv A B C D I) := ⟨hn _ _, hn _ _, hn _ _, trivial⟩
theorem pl10 {nv : Int → Int → List UInt8} (hn : NvOk nv) {A B C D I : Int} (_hr : rng A B C D I = true) : AllLe (pt10 nv A B C D I) := ⟨hn _ _, hn _ _, hn _ _, hn _ _, trivial⟩
theorem pl11 {nv : Int → Int → List UInt8} (hn : NvOk nv) {A B C D I : Int} (_hr : rng A B C D I = true) : AllLe (pt11 nv A B C D I) := ⟨hn _ _, hn _ _, hn _ _, cv2_len _, trivial⟩
theorem pl12 {nv : Int → Int → List UInt8} (hn : NvOk nv) {A B C D I : Int} (hr : rng A B C D I = true) : AllLe (pt12 nv A B C D I) := ⟨hn _ _, hn _ _, hn _ _, itoa_len (rng_d hr), trivial⟩
theorem pl13 {nv : Int → Int → List UInt8} (hn : NvOk nv) {A B C D I : Int} (hr : rng A B C D I = true) : AllLe (pt13 nv A B C D I) := ⟨hn _ _, hn _ _, itoa_len (rng_i hr), trivial⟩
theorem pl14 {nv : Int → Int → List UInt8} (hn : NvOk nv) {A B C D I : Int} (hr : rng A B C D I = true) : AllLe (pt14 nv A B C D I) := ⟨hn _ _, hn _ _, itoa_len (rng_i hr), itoa_len (rng_d hr), trivial⟩
theorem pl15 {nv : Int → Int → List UInt8} (hn : NvOk nv) {A B C D I : Int} (hr : rng A B C D I = true) : AllLe (pt15 nv A B C D I) := ⟨hn _ _, hn _ _, itoa_len (rng_c hr), itoa_len (rng_d hr), trivial⟩
theorem pl16 {nv : Int → Int → List UInt8} (hn : NvOk nv) {A B C D I : Int} (hr : rng A B C D I = true) : AllLe (pt16 nv A B C D I) := ⟨hn _ _, hn _ _, hn _ _, itoa_len (rng_i hr), trivial⟩
theorem pl17 {nv : Int → Int → List UInt8} (hn : NvOk nv) {A B C D I : Int} (hr : rng A B C D I = true) : AllLe (pt17 nv A B C D I) := ⟨hn _ _, itoa_len (rng_i hr), trivial⟩
theorem pl18 {nv : Int → Int → List UInt8} (hn : NvOk nv) {A B C D I : Int} (hr : rng A B C D I = true) : AllLe (pt18 nv A B C D I) := ⟨hn _ _, itoa_len (rng_i hr), itoa_len (rng_d hr), trivial⟩
theorem pl19 {nv : Int → Int → List UInt8} (hn : NvOk nv) {A B C D I : Int} (_hr : rng A B C D I = true) : AllLe (pt19 nv A B C D I) := ⟨hn _ _, trivial⟩
theorem pl20 {nv : Int → Int → List UInt8} (_hn : NvOk nv) {A B C D I : Int} (hr : rng A B C D I = true) : AllLe (pt20 nv A B C D I) := ⟨cv2_len _, itoa_len (rng_i hr), trivial⟩
theorem pl21 {nv : Int → Int → List UInt8} (_hn : NvOk nv) {A B C D I : Int} (hr : rng A B C D I = true) : AllLe (pt21 nv A B C D I) := ⟨itoa_len (rng_i hr), trivial⟩
theorem pl23 {nv : Int → Int → List UInt8} (hn : NvOk nv) {A B C D I : Int} (_hr : rng A B C D I = true) : AllLe (pt23 nv A B C D I) := ⟨hn _ _, hn _ _, hn _ _, trivial⟩
theorem pl24 {nv : Int → Int → List UInt8} (hn : NvOk nv) {A B C D I : Int} (hr : rng A B C D I = true) : AllLe (pt24 nv A B C D I) := ⟨hn _ _, hn _ _, itoa_len (rng_i hr), trivial⟩
theorem pl25 {nv : Int → Int → List UInt8} (hn : NvOk nv) {A B C D I : Int} (_hr : rng A B C D I = true) : AllLe (pt25 nv A B C D I) := ⟨hn _ _, hn _ _, trivial⟩
theorem pl26 {nv : Int → Int → List UInt8} (hn : NvOk nv) {A B C D I : Int} (hr : rng A B C D I = true) : AllLe (pt26 nv A B C D I) := ⟨hn _ _, itoa_len (rng_i hr), trivial⟩
theorem pl27 {nv : Int → Int → List UInt8} (hn : NvOk nv) {A B C D I : Int} (_hr : rng A B C D I = true) : AllLe (pt27 nv A B C D I) := ⟨hn _ _, trivial⟩
theorem pl28 {nv : Int → Int → List UInt8} (hn : NvOk nv) {A B C D I : Int} (hr : rng A B C D I = true) : AllLe (pt28 nv A B C D I) := ⟨hn _ _, hn _ _, itoa_len (rng_i hr), trivial⟩
theorem pl29 {nv : Int → Int → List UInt8} (hn : NvOk nv) {A B C D I : Int} (hr : rng A B C D I = true) : AllLe (pt29 nv A B C D I) := ⟨hn _ _, itoa_len (rng_i hr), trivial⟩
theorem pl30 {nv : Int → Int → List UInt8} (hn : NvOk nv) {A B C D I : Int} (hr : rng A B C D I = true) : AllLe (pt30 nv A B C D I) := ⟨hn _ _, hn _ _, itoa_len (rng_i hr), trivial⟩
theorem pl31 {nv : Int → Int → List UInt8} (hn : NvOk nv) {A B C D I : Int} (hr : rng A B C D I = true) : AllLe (pt31 nv A B C D I) := ⟨hn _ _, itoa_len (rng_i hr), trivial⟩
theorem pl32 {nv : Int → Int → List UInt8} (_hn : NvOk nv) {A B C D I : Int} (hr : rng A B C D I = true) : AllLe (pt32 nv A B C D I) := ⟨itoa_len (rng_i hr), trivial⟩
theorem tr1_ok {ev : EvT} {nv : Int → Int → List UInt8} (hn : NvOk nv) {A B C D I : Int} (hr : rng A B C D I = true) {nm : List UInt8} (hs : Nat.ble (nm ++ [32]).length 40 = true) : tr1 ev nv nm A B C D I = txE (ev (.ofNat 1) nm A B C D I) (some (.tup [.str (txOf nm (ptC nv 1 A B C D I)), .int .i64 (.ofNat 0)])) := txE_congr (txB_ok (Nat.le_of_ble_eq_true hs) (Nat.le_of_ble_eq_true rfl) (rfl) (pl1 hn hr)) rfl
theorem tr2_ok {ev : EvT} {nv : Int → Int → List UInt8} (hn : NvOk nv) {A B C D I : Int} (hr : rng A B C D I = true) {nm : List UInt8} (hs : Nat.ble (nm ++ [32]).length 40 = true) : tr2 ev nv nm A B C D I = txE (ev (.ofNat 1) nm A B C D I) (some (.tup [.str (txOf nm (ptC nv 2 A B C D I)), .int .i64 (.ofNat 0)])) := txE_congr (txB_ok (Nat.le_of_ble_eq_true hs) (Nat.le_of_ble_eq_true rfl) (rfl) (pl2 hn hr)) rfl
theorem tr3_ok {ev : EvT} {nv : Int → Int → List UInt8} (hn : NvOk nv) {A B C D I : Int} (hr : rng A B C D I = true) {nm : List UInt8} (hs : Nat.ble (nm ++ [32]).length 40 = true) : tr3 ev nv nm A B C D I = txE (ev (.ofNat 1) nm A B C D I) (some (.tup [.str (txOf nm (ptC nv 3 A B C D I)), .int .i64 (.ofNat 0)])) := txE_congr (txB_ok (Nat.le_of_ble_eq_true hs) (Nat.le_of_ble_eq_true rfl) (rfl) (pl3 hn hr)) rfl
theorem tr4_ok {ev : EvT} {nv : Int → Int → List UInt8} (hn : NvOk nv) {A B C D I : Int} (hr : rng A B C D I = true) {nm : List UInt8} (hs : Nat.ble (nm ++ [32]).length 40 = true) : tr4 ev nv nm A B C D I = txE (ev (.ofNat 1) nm A B C D I) (some (.tup [.str (txOf nm (ptC nv 4 A B C D I)), .int .i64 (.ofNat 0)])) := txE_congr (txB_ok (Nat.le_of_ble_eq_true hs) (Nat.le_of_ble_eq_true rfl) (by simp only [List.all_cons, List.all_nil, id, rng_i hr, Bool.and_self]) (pl4 hn hr)) rfl
theorem tr6_ok {ev : EvT} {nv : Int → Int → List UInt8} (hn : NvOk nv) {A B C D I : Int} (hr : rng A B C D I = true) {nm : List UInt8} (hs : Nat.ble (nm ++ [32]).length 40 = true) : tr6 ev nv nm A B C D I = txE (ev (.ofNat 1) nm A B C D I) (some (.tup [.str (txOf nm (ptC nv 6 A B C D I)), .int .i64 (.ofNat 0)])) := txE_congr (txB_ok (Nat.le_of_ble_eq_true hs) (Nat.le_of_ble_eq_true rfl) (by simp only [List.all_cons, List.all_nil, id, rng_i hr, Bool.and_self]) (pl6 hn hr)) rfl
theorem tr7_ok {ev : EvT} {nv : Int → Int → List UInt8} (hn : NvOk nv) {A B C D I : Int} (hr : rng A B C D I = true) {nm : List UInt8} (hs : Nat.ble (nm ++ [32]).length 40 = true) : tr7 ev nv nm A B C D I = txE (ev (.ofNat 1) nm A B C D I) (some (.tup [.str (txOf nm (ptC nv 7 A B C D I)), .int .i64 (.ofNat 0)])) := txE_congr (txB_ok (Nat.le_of_ble_eq_true hs) (Nat.le_of_ble_eq_true rfl) (by simp only [List.all_cons, List.all_nil, id, rng_i hr, Bool.and_self]) (pl7 hn hr)) rfl
theorem tr9_ok {ev : EvT} {nv : Int → Int → List UInt8} (hn : NvOk nv) {A B C D I : Int} (hr : rng A B C D I = true) {nm : List UInt8} (hs : Nat.ble (nm ++ [32]).length 40 = true) : tr9 ev nv nm A B C D I = txE (ev (.ofNat 2) nm A B C D I) (some (.tup [.str (txOf nm (ptC nv 9 A B C D I)), .int .i64 (.ofNat 0)])) := txE_congr (txB_ok (Nat.le_of_ble_eq_true hs) (Nat.le_of_ble_eq_true rfl) (rfl) (pl9 hn hr)) rfl
theorem tr10_ok {ev : EvT} {nv : Int → Int → List UInt8} (hn : NvOk nv) {A B C D I : Int} (hr : rng A B C D I = true) {nm : List UInt8} (hs : Nat.ble (nm ++ [32]).length 40 = true) : tr10 ev nv nm A B C D I = txE (ev (.ofNat 2) nm A B C D I) (some (.tup [.str (txOf nm (ptC nv 10 A B C D I)), .int .i64 (.ofNat 0)])) := txE_congr (txB_ok (Nat.le_of_ble_eq_true hs) (Nat.le_of_ble_eq_true rfl) (rfl) (pl10 hn hr)) rfl
theorem tr11_ok {ev : EvT} {nv : Int → Int → List UInt8} (hn : NvOk nv) {A B C D I : Int} (hr : rng A B C D I = true) {nm : List UInt8} (hs : Nat.ble (nm ++ [32]).length 40 = true) : tr11 ev nv nm A B C D I = txE (ev (.ofNat 2) nm A B C D I) (some (.tup [.str (txOf nm (ptC nv 11 A B C D I)), .int .i64 (.ofNat 0)])) := txE_congr (txB_ok (Nat.le_of_ble_eq_true hs) (Nat.le_of_ble_eq_true rfl) (rfl) (pl11 hn hr)) rfl
theorem tr12_ok {ev : EvT} {nv : Int → Int → List UInt8} (hn : NvOk nv) {A B C D I : Int} (hr : rng A B C D I = true) {nm : List UInt8} (hs : Nat.ble (nm ++ [32]).length 40 = true) : tr12 ev nv nm A B C D I = txE (ev (.ofNat 2) nm A B C D I) (some (.tup [.str (txOf nm (ptC nv 12 A B C D I)), .int .i64 (.ofNat 0)])) := txE_congr (txB_ok (Nat.le_of_ble_eq_true hs) (Nat.le_of_ble_eq_true rfl) (by simp only [List.all_cons, List.all_nil, id, rng_d hr, Bool.and_self]) (pl12 hn hr)) rfl
theorem tr13_ok {ev : EvT} {nv : Int → Int → List UInt8} (hn : NvOk nv) {A B C D I : Int} (hr : rng A B C D I = true) {nm : List UInt8} (hs : Nat.ble (nm ++ [32]).length 40 = true) : tr13 ev nv nm A B C D I = txE (ev (.ofNat 2) nm A B C D I) (some (.tup [.str (txOf nm (ptC nv 13 A B C D I)), .int .i64 (.ofNat 0)])) := txE_congr (txB_ok (Nat.le_of_ble_eq_true hs) (Nat.le_of_ble_eq_true rfl) (by simp only [List.all_cons, List.all_nil, id, rng_i hr, Bool.and_self]) (pl13 hn hr)) rfl
theorem tr14_ok {ev : EvT} {nv : Int → Int → List UInt8} (hn : NvOk nv) {A B C D I : Int} (hr : rng A B C D I = true) {nm : List UInt8} (hs : Nat.ble (nm ++ [32]).length 40 = true) : tr14 ev nv nm A B C D I = txE (ev (.ofNat 2) nm A B C D I) (some (.tup [.str (txOf nm (ptC nv 14 A B C D I)), .int .i64 (.ofNat 0)])) := txE_congr (txB_ok (Nat.le_of_ble_eq_true hs) (Nat.le_of_ble_eq_true rfl) (by simp only [List.all_cons, List.all_nil, id, rng_i hr, rng_d hr, Bool.and_self]) (pl14 hn hr)) rfl
theorem tr15_ok {ev : EvT} {nv : Int → Int → List UInt8} (hn : NvOk nv) {A B C D I : Int} (hr : rng A B C D I = true) {nm : List UInt8} (hs : Nat.ble (nm ++ [32]).length 40 = true) : tr15 ev nv nm A B C D I = txE (ev (.ofNat 2) nm A B C D I) (some (.tup [.str (txOf nm (ptC nv 15 A B C D I)), .int .i64 (.ofNat 0)])) := txE_congr (txB_ok (Nat.le_of_ble_eq_true hs) (Nat.le_of_ble_eq_true rfl) (by simp only [List.all_cons, List.all_nil, id, rng_c hr, rng_d hr, Bool.and_self]) (pl15 hn hr)) rfl
theorem tr16_ok {ev : EvT} {nv : Int → Int → List UInt8} (hn : NvOk nv) {A B C D I : Int} (hr : rng A B C D I = true) {nm : List UInt8} (hs : Nat.ble (nm ++ [32]).length 40 = true) : tr16 ev nv nm A B C D I = txE (ev (.ofNat 2) nm A B C D I) (some (.tup [.str (txOf nm (ptC nv 16 A B C D I)), .int .i64 (.ofNat 0)])) := txE_congr (txB_ok (Nat.le_of_ble_eq_true hs) (Nat.le_of_ble_eq_true rfl) (by simp only [List.all_cons, List.all_nil, id, rng_i hr, Bool.and_self]) (pl16 hn hr)) rfl
theorem tr17_ok {ev : EvT} {nv : Int → Int → List UInt8} (hn : NvOk nv) {A B C D I : Int} (hr : rng A B C D I = true) {nm : List UInt8} (hs : Nat.ble (nm ++ [32]).length 40 = true) : tr17 ev nv nm A B C D I = txE (ev (.ofNat 2) nm A B C D I) (some (.tup [.str (txOf nm (ptC nv 17 A B C D I)), .int .i64 (.ofNat 0)])) := txE_congr (txB_ok (Nat.le_of_ble_eq_true hs) (Nat.le_of_ble_eq_true rfl) (by simp only [List.all_cons, List.all_nil, id, rng_i hr, Bool.and_self]) (pl17 hn hr)) rfl
theorem tr18_ok {ev : EvT} {nv : Int → Int → List UInt8} (hn : NvOk nv) {A B C D I : Int} (hr : rng A B C D I = true) {nm : List UInt8} (hs : Nat.ble (nm ++ [32]).length 40 = true) : tr18 ev nv nm A B C D I = txE (ev (.ofNat 2) nm A B C D I) (some (.tup [.str (txOf nm (ptC nv 18 A B C D I)), .int .i64 (.ofNat 0)])) := txE_congr (txB_ok (Nat.le_of_ble_eq_true hs) (Nat.le_of_ble_eq_true rfl) (by simp only [List.all_cons, List.all_nil, id, rng_i hr, rng_d hr, Bool.and_self]) (pl18 hn hr)) rfl
theorem tr19_ok {ev : EvT} {nv : Int → Int → List UInt8} (hn : NvOk nv) {A B C D I : Int} (hr : rng A B C D I = true) {nm : List UInt8} (hs : Nat.ble (nm ++ [32]).length 40 = true) : tr19 ev nv nm A B C D I = txE (ev (.ofNat 2) nm A B C D I) (some (.tup [.str (txOf nm (ptC nv 19 A B C D I)), .int .i64 (.ofNat 0)])) := txE_congr (txB_ok (Nat.le_of_ble_eq_true hs) (Nat.le_of_ble_eq_true rfl) (rfl) (pl19 hn hr)) rfl
theorem tr20_ok {ev : EvT} {nv : Int → Int → List UInt8} (hn : NvOk nv) {A B C D I : Int} (hr : rng A B C D I = true) {nm : List UInt8} (hs : Nat.ble (nm ++ [32]).length 40 = true) : tr20 ev nv nm A B C D I = txE (ev (.ofNat 2) nm A B C D I) (some (.tup [.str (txOf nm (ptC nv 20 A B C D I)), .int .i64 (.ofNat 0)])) := txE_congr (txB_ok (Nat.le_of_ble_eq_true hs) (Nat.le_of_ble_eq_true rfl) (by simp only [List.all_cons, List.all_nil, id, rng_i hr, Bool.and_self]) (pl20 hn hr)) rfl
theorem tr21_ok {ev : EvT} {nv : Int → Int → List UInt8} (hn : NvOk nv) {A B C D I : Int} (hr : rng A B C D I = true) {nm : List UInt8} (hs : Nat.ble (nm ++ [32]).length 40 = true) : tr21 ev nv nm A B C D I = txE (ev (.ofNat 2) nm A B C D I) (some (.tup [.str (txOf nm (ptC nv 21 A B C D I)), .int .i64 (.ofNat 0)])) := txE_congr (txB_ok (Nat.le_of_ble_eq_true hs) (Nat.le_of_ble_eq_true rfl) (by simp only [List.all_cons, List.all_nil, id, rng_i hr, Bool.and_self]) (pl21 hn hr)) rfl
theorem tr23_ok {ev : EvT} {nv : Int → Int → List UInt8} (hn : NvOk nv) {A B C D I : Int} (hr : rng A B C D I = true) {nm : List UInt8} (hs : Nat.ble (nm ++ [32]).length 40 = true) : tr23 ev nv nm A B C D I = txE (ev (.ofNat 3) nm A B C D I) (some (.tup [.str (txOf nm (ptC nv 23 A B C D I)), .int .i64 (.ofNat 0)])) := txE_congr (txB_ok (Nat.le_of_ble_eq_true hs) (Nat.le_of_ble_eq_true rfl) (rfl) (pl23 hn hr)) rfl
theorem tr24_ok {ev : EvT} {nv : Int → Int → List UInt8} (hn : NvOk nv) {A B C D I : Int} (hr : rng A B C D I = true) {nm : List UInt8} (hs : Nat.ble (nm ++ [32]).length 40 = true) : tr24 ev nv nm A B C D I = txE (ev (.ofNat 3) nm A B C D I) (some (.tup [.str (txOf nm (ptC nv 24 A B C D I)), .int .i64 (.ofNat 0)])) := txE_congr (txB_ok (Nat.le_of_ble_eq_true hs) (Nat.le_of_ble_eq_true rfl) (by simp only [List.all_cons, List.all_nil, id, rng_i hr, Bool.and_self]) (pl24 hn hr)) rfl
theorem tr25_ok {ev : EvT} {nv : Int → Int → List UInt8} (hn : NvOk nv) {A B C D I : Int} (hr : rng A B C D I = true) {nm : List UInt8} (hs : Nat.ble (nm ++ [32]).length 40 = true) : tr25 ev nv nm A B C D I = txE (ev (.ofNat 3) nm A B C D I) (some (.tup [.str (txOf nm (ptC nv 25 A B C D I)), .int .i64 (.ofNat 0)])) := txE_congr (txB_ok (Nat.le_of_ble_eq_true hs) (Nat.le_of_ble_eq_true rfl) (rfl) (pl25 hn hr)) rfl
theorem tr26_ok {ev : EvT} {nv : Int → Int → List UInt8} (hn : NvOk nv) {A B C D I : Int} (hr : rng A B C D I = true) {nm : List UInt8} (hs : Nat.ble (nm ++ [32]).length 40 = true) : tr26 ev nv nm A B C D I = txE (ev (.ofNat 3) nm A B C D I) (some (.tup [.str (txOf nm (ptC nv 26 A B C D I)), .int .i64 (.ofNat 0)])) := txE_congr (txB_ok (Nat.le_of_ble_eq_true hs) (Nat.le_of_ble_eq_true rfl) (by simp only [List.all_cons, List.all_nil, id, rng_i hr, Bool.and_self]) (pl26 hn hr)) rfl
theorem tr27_ok {ev : EvT} {nv : Int → Int → List UInt8} (hn : NvOk nv) {A B C D I : Int} (hr : rng A B C D I = true) {nm : List UInt8} (hs : Nat.ble (nm ++ [32]).length 40 = true) : tr27 ev nv nm A B C D I = txE (ev (.ofNat 3) nm A B C D I) (some (.tup [.str (txOf nm (ptC nv 27 A B C D I)), .int .i64 (.ofNat 0)])) := txE_congr (txB_ok (Nat.le_of_ble_eq_true hs) (Nat.le_of_ble_eq_true rfl) (rfl) (pl27 hn hr)) rfl
theorem tr28_ok {ev : EvT} {nv : Int → Int → List UInt8} (hn : NvOk nv) {A B C D I : Int} (hr : rng A B C D I = true) {nm : List UInt8} (hs : Nat.ble (nm ++ [32]).length 40 = true) : tr28 ev nv nm A B C D I = txE (ev (.ofNat 3) nm A B C D I) (some (.tup [.str (txOf nm (ptC nv 28 A B C D I)), .int .i64 (.ofNat 0)])) := txE_congr (txB_ok (Nat.le_of_ble_eq_true hs) (Nat.le_of_ble_eq_true rfl) (by simp only [List.all_cons, List.all_nil, id, rng_i hr, Bool.and_self]) (pl28 hn hr)) rfl
theorem tr29_ok {ev : EvT} {nv : Int → Int → List UInt8} (hn : NvOk nv) {A B C D I : Int} (hr : rng A B C D I = true) {nm : List UInt8} (hs : Nat.ble (nm ++ [32]).length 40 = true) : tr29 ev nv nm A B C D I = txE (ev (.ofNat 3) nm A B C D I) (some (.tup [.str (txOf nm (ptC nv 29 A B C D I)), .int .i64 (.ofNat 0)])) := txE_congr (txB_ok (Nat.le_of_ble_eq_true hs) (Nat.le_of_ble_eq_true rfl) (by simp only [List.all_cons, List.all_nil, id, rng_i hr, Bool.and_self]) (pl29 hn hr)) rfl
theorem tr30_ok {ev : EvT} {nv : Int → Int → List UInt8} (hn : NvOk nv) {A B C D I : Int} (hr : rng A B C D I = true) {nm : List UInt8} (hs : Nat.ble (nm ++ [32]).length 40 = true) : tr30 ev nv nm A B C D I = txE (ev (.ofNat 3) nm A B C D I) (some (.tup [.str (txOf nm (ptC nv 30 A B C D I)), .int .i64 (.ofNat 0)])) := txE_congr (txB_ok (Nat.le_of_ble_eq_true hs) (Nat.le_of_ble_eq_true rfl) (by simp only [List.all_cons, List.all_nil, id, rng_i hr, Bool.and_self]) (pl30 hn hr)) rfl
theorem tr31_ok {ev : EvT} {nv : Int → Int → List UInt8} (hn : NvOk nv) {A B C D I : Int} (hr : rng A B C D I = true) {nm : List UInt8} (hs : Nat.ble (nm ++ [32]).length 40 = true) : tr31 ev nv nm A B C D I = txE (ev (.ofNat 3) nm A B C D I) (some (.tup [.str (txOf nm (ptC nv 31 A B C D I)), .int .i64 (.ofNat 0)])) := txE_congr (txB_ok (Nat.le_of_ble_eq_true hs) (Nat.le_of_ble_eq_true rfl) (by simp only [List.all_cons, List.all_nil, id, rng_i hr, Bool.and_self]) (pl31 hn hr)) rfl
theorem tr32_ok {ev : EvT} {nv : Int → Int → List UInt8} (hn : NvOk nv) {A B C D I : Int} (hr : rng A B C D I = true) {nm : List UInt8} (hs : Nat.ble (nm ++ [32]).length 40 = true) : tr32 ev nv nm A B C D I = txE (ev (.ofNat 3) nm A B C D I) (some (.tup [.str (txOf nm (ptC nv 32 A B C D I)), .int .i64 (.ofNat 0)])) := txE_congr (txB_ok (Nat.le_of_ble_eq_true hs) (Nat.le_of_ble_eq_true rfl) (by simp only [List.all_cons, List.all_nil, id, rng_i hr, Bool.and_self]) (pl32 hn hr)) rfl
theorem am_ok {nv : Int → Int → List UInt8} (hn : NvOk nv) {A B C D I : Int} (hr : rng A B C D I = true) {s nm : List UInt8} (hs : s.length ≤ 40) (he : s = nm ++ [32]) : bc (AV.eqb (.int .i64 C) (.int .i64 C)) (bc (ieq B (.ofNat 17)) (bc (ieq C (.ofNat 16)) (txB s [(nv (.ofNat 1) A), [114, 105, 112], [110, 111, 110, 101], (Lib.itoa D), (Lib.itoa I)] [i64In D, AV.eqb (.int .i64 I) (.int .i64 I), i64In I]) (txB s [(nv (.ofNat 1) A), [114, 105, 112], (nv (.ofNat 1) C), (Lib.itoa D), (Lib.itoa I)] [i64In D, AV.eqb (.str (nv (.ofNat 1) C)) (.str (nv (.ofNat 1) C)), AV.eqb (.int .i64 I) (.int .i64 I), i64In I, AV.eqb (.str (nv (.ofNat 1) C)) (.str (nv (.ofNat 1) C))])) (bc (ieq C (.ofNat 16)) (txB s [(nv (.ofNat 1) A), (nv (.ofNat 1) B), [110, 111, 110, 101], (Lib.itoa D), (Lib.itoa I)] [i64In D, AV.eqb (.str (nv (.ofNat 1) B)) (.str (nv (.ofNat 1) B)), AV.eqb (.int .i64 I) (.int .i64 I), i64In I, AV.eqb (.str (nv (.ofNat 1) B)) (.str (nv (.ofNat 1) B))]) (txB s [(nv (.ofNat 1) A), (nv (.ofNat 1) B), (nv (.ofNat 1) C), (Lib.itoa D), (Lib.itoa I)] [i64In D, AV.eqb (.str (nv (.ofNat 1) C)) (.str (nv (.ofNat 1) C)), AV.eqb (.str (nv (.ofNat 1) B)) (.str (nv (.ofNat 1) B)), AV.eqb (.int .i64 I) (.int .i64 I), i64In I, AV.eqb (.str (nv (.ofNat 1) C)) (.str (nv (.ofNat 1) C)), AV.eqb (.str (nv (.ofNat 1) B)) (.str (nv (.ofNat 1) B))]))) none = some (.tup [.str (txOf nm (pt5 nv A B C D I)), .int .i64 (.ofNat 0)]) := by
  have hp := pl5 hn hr
  have hd := rng_d hr
  have hi := rng_i hr
  subst he
  unfold pt5 at hp ⊢
  rw [eqb_refl, bc_true]
  cases hB : ieq B (.ofNat 17) <;> cases hC : ieq C (.ofNat 16) <;> rw [hB, hC] at hp <;> simp only [bc_true, bc_false] at hp ⊢ <;> exact txB_ok hs (Nat.le_of_ble_eq_true rfl) (by simp only [List.all_cons, List.all_nil, id, eqb_refl, hd, hi, Bool.and_self]) hp
end
end Go.Proofs.YtlclahpapabkdaaGreatDoor
