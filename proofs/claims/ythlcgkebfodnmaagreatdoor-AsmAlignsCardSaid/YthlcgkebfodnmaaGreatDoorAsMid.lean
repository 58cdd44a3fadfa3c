/- AsmAligns: the text's lines and words; each class by its run. -/
import Derived.Test.YthlcgkebfodnmaaGreatDoorAsTail
import Derived.Test.YthlcgkebfodnmaaGreatDoorAsRun0
import Derived.Test.YthlcgkebfodnmaaGreatDoorAsRun1
import Derived.Test.YthlcgkebfodnmaaGreatDoorAsRun2
import Derived.Test.YthlcgkebfodnmaaGreatDoorAsRun3
import Derived.Test.YthlcgkebfodnmaaGreatDoorAsRun4
import Derived.Test.YthlcgkebfodnmaaGreatDoorAsRun5
namespace Go.Proofs.YthlcgkebfodnmaaGreatDoor
open Go Go.Vai
noncomputable section
set_option maxRecDepth 100000
def nmP (b : List UInt8) : Pc := .lit b ⟨1, b, 0⟩
def sgP (c : UInt8) : Pc := .lit [c] ⟨4, [c], 0⟩
def no10 (s : List UInt8) : Prop := ∀ b ∈ s, b ≠ 10
theorem cut_app : ∀ {a r : List UInt8}, no10 a → cutL 10 (a ++ 10 :: r) = a :: cutL 10 r
  | [], r, _ => by
    show cutL 10 (10 :: r) = _
    rw [cutL_cons, if_pos rfl]
  | b :: a, r, h => by
    show cutL 10 (b :: (a ++ 10 :: r)) = _
    rw [cutL_cons, if_neg (h b List.mem_cons_self), cut_app fun x hx => h x (List.mem_cons_of_mem _ hx)]
    rfl
theorem cut_one : ∀ {a : List UInt8}, no10 a → cutL 10 a = [a]
  | [], _ => rfl
  | b :: a, h => by
    rw [cutL_cons, if_neg (h b List.mem_cons_self), cut_one fun x hx => h x (List.mem_cons_of_mem _ hx)]
    rfl
theorem dgs_no (n : Nat) : no10 (dgs n) := fun b hb e => by
  have := List.all_eq_true.1 (dgF_all 19 n) b hb
  rw [e] at this
  exact absurd this (by decide)
theorem no10_app {a b : List UInt8} (ha : no10 a) (hb : no10 b) : no10 (a ++ b) := fun x hx => by
  rcases List.mem_append.1 hx with h | h
  · exact ha x h
  · exact hb x h
theorem no10_of {a : List UInt8} (h : (a.all fun b => !(b == 10)) = true) : no10 a := fun b hb e => by
  have := List.all_eq_true.1 h b hb
  rw [e] at this
  exact absurd this (by decide)
def hdL (x : Bool) : List UInt8 := hdB x ++ 10 :: ([46, 115, 112, 97, 99, 101] ++ [32])
theorem txA_cut (x : Bool) (n v : Nat) : cutL 10 (txA (hdL x) n v) = [hdB x, [46, 115, 112, 97, 99, 101] ++ [32] ++ dgs n, [46, 97, 108, 105, 103, 110] ++ [32] ++ dgs v, [120, 58, 32] ++ ([46, 98, 121, 116, 101] ++ [32, 55])] := by
  have e : txA (hdL x) n v = hdB x ++ 10 :: (([46, 115, 112, 97, 99, 101] ++ [32] ++ dgs n) ++ 10 :: (([46, 97, 108, 105, 103, 110] ++ [32] ++ dgs v) ++ 10 :: ([120, 58, 32] ++ ([46, 98, 121, 116, 101] ++ [32, 55])))) := by
    unfold txA hdL
    simp [List.append_assoc]
  rw [e, cut_app (by cases x <;> exact no10_of rfl), cut_app (no10_app (no10_of rfl) (dgs_no n)), cut_app (no10_app (no10_of rfl) (dgs_no v)), cut_one (no10_of rfl)]
theorem lex_l1 (x : Bool) : lexR (hdB x) = ([(⟨1, hdB x, 0⟩, 0)], 0, 0) := by
  have := lex_pcs (n := 0) (by decide) (r := [nmP (hdB x)]) (by cases x <;> rfl)
  have e : txt (dgs 0) [nmP (hdB x)] = hdB x := List.append_nil _
  rw [e] at this
  exact this
theorem lex_num {nm : List UInt8} {n : Nat} (hn : n < 18446744073709551616) (h : pcsOk [nmP nm, .bl, .num] = true) (hl : nm.length = 6) : lexR (nm ++ [32] ++ dgs n) = ([(⟨1, nm, 0⟩, 0), (⟨2, [], n⟩, 7)], 0, 0) := by
  have := lex_pcs hn h
  have e : txt (dgs n) [nmP nm, .bl, .num] = nm ++ [32] ++ dgs n := by
    show nm ++ (32 :: (dgs n ++ [])) = _
    simp
  rw [e] at this
  rw [this]
  show (([(⟨1, nm, 0⟩, 0), (⟨2, [], n⟩, 0 + nm.length + 1)] : List WP), (0 : Nat), (0 : Nat)) = _
  rw [hl]
theorem lex_l4 : lexR ([120, 58, 32] ++ ([46, 98, 121, 116, 101] ++ [32, 55])) = ([(⟨1, [120], 0⟩, 0), (⟨4, [58], 0⟩, 1), (⟨1, [46, 98, 121, 116, 101], 0⟩, 3), (⟨2, [], 7⟩, 9)], 0, 0) := lex_pcs (n := 0) (by decide) (r := [nmP [120], sgP 58, .bl, nmP [46, 98, 121, 116, 101], .bl, .lit [55] ⟨2, [], 7⟩]) (by rfl)
theorem txA_lin {x : Bool} {n v : Nat} (hn : n ≤ 300) (hv : v ≤ 512) : linG (txA (hdL x) n v) = true ∧ linO (txA (hdL x) n v) = wsA (hdB x) n v := by
  unfold linG linO
  rw [txA_cut]
  have l1 := lex_l1 x
  have l2 := lex_num (nm := [46, 115, 112, 97, 99, 101]) (n := n) (by omega) rfl rfl
  have l3 := lex_num (nm := [46, 97, 108, 105, 103, 110]) (n := v) (by omega) rfl rfl
  have l4 := lex_l4
  constructor
  · simp only [List.all_cons, List.all_nil, l1, l2, l3, l4]; rfl
  · simp only [List.map_cons, List.map_nil, l1, l2, l3, l4]; rfl
theorem txA_len (x : Bool) (n v : Nat) : (txA (hdL x) n v).length ≤ 262144 := by
  have h1 := (dgF_len 19 n).2
  have h2 := (dgF_len 19 v).2
  have h3 : (hdL x).length = 13 := by cases x <;> rfl
  unfold txA
  simp only [List.length_append, h3, List.length_cons, List.length_nil]
  show 13 + (dgF 19 n).length + 8 + (dgF 19 v).length + 11 ≤ _
  omega
theorem padN_ok {n kk : Nat} (hk : kk ≤ 9) : padN n (2 ^ kk) < 2 ^ kk ∧ (n + padN n (2 ^ kk)) % 2 ^ kk = 0 ∧ 1 ≤ 2 ^ kk ∧ 2 ^ kk ≤ 512 := by
  unfold padN
  have : kk = 0 ∨ kk = 1 ∨ kk = 2 ∨ kk = 3 ∨ kk = 4 ∨ kk = 5 ∨ kk = 6 ∨ kk = 7 ∨ kk = 8 ∨ kk = 9 := by omega
  rcases this with rfl | rfl | rfl | rfl | rfl | rfl | rfl | rfl | rfl | rfl <;> simp only [Nat.reducePow] <;> omega
theorem upA_le (u v : Nat) : v ≤ upA u v := by unfold upA; split <;> omega
section
variable {P : Program} {I : List MEnt → AHeap → World → Prop} {ro : Option Nat}
theorem val_eq {n p : Nat} (h : n + p < 100000) : wrapR .u64 (wrapR .i64 (Int.add (wrapR .i64 (Int.add (.ofNat 0) (wrapR .i64 (Int.add (.ofNat 0) (wrapR .i64 (.ofNat n)))))) (.ofNat p))) = .ofNat (n + p) ∧ wrapR .i64 (Int.add (wrapR .i64 (Int.add (wrapR .i64 (Int.add (.ofNat 0) (wrapR .i64 (Int.add (.ofNat 0) (wrapR .i64 (.ofNat n)))))) (.ofNat p))) (.ofNat 1)) = .ofNat (n + p + 1) := by
  have z0 : ∀ a : Nat, Int.add (.ofNat 0) (.ofNat a) = .ofNat a := fun a => by rw [add_nat, Nat.zero_add]
  rw [wrap_i64 (n := n) (by omega), z0, wrap_i64 (n := n) (by omega), z0, wrap_i64 (n := n) (by omega), add_nat, wrap_i64 (n := n + p) (by omega), wrap_u64 (by omega), add_nat, wrap_i64 (by omega)]
  exact ⟨rfl, rfl⟩
theorem alx_eq {u v : Nat} (h : v < 100000) : (bif ilt (.ofNat u) (wrapR .i64 (.ofNat v)) then (wrapR .i64 (.ofNat v)) else (.ofNat u)) = .ofNat (upA u v) := by
  rw [wrap_i64 (by omega), ilt_nat]
  unfold upA
  by_cases h : u < v
  · rw [blt_t h, if_pos h]; rfl
  · rw [blt_f h, if_neg h]; rfl
def os0 (n v p : Nat) : List AObj := [.cells 6 ((Tr.nil.putAll 0 [.str [120], .int .i64 (.ofNat 0), .int .i64 (.ofNat 0), .int .i64 (.ofNat 2), .int .u64 (.ofNat (n + p)), .int .u64 (.ofNat 0)])) 38 none 0 false false, .cells 6 ((Tr.nil.putAll 0 [.str [46, 100, 97, 116, 97], .str [97, 119], .int .i64 (.ofNat (upA 1 v)), .int .i64 (.ofNat (n + p + 1)), .sl 155 0 (n + p + 1) none, .nils])) 44 none 0 false false, .cells (n + p + 1) (bT (byB n (padB false (nopL 1) n p))) 5 (some 1) 0 false false, .cells 1 ((Tr.nil.putAll 0 [.int .u8 (.ofNat 144)])) 5 none 0 false false]
theorem as_cls0 {n kk v p : Nat} (hn : n ≤ 300) (hkk : kk ≤ 9) (hv : v = 2 ^ kk) (hp : p = padN n v) (hE : EnvOk (EA 1 false n v p) P I) (hI : Carried I) : Tri (EA 1 false n v p) P I ro fn3.body (newFr fn3 [.int .i64 (.ofNat 1), .int .i64 (.ofNat n), .int .i64 (.ofNat kk), .bool true]) (mkH 12 []) fun e fr _ => (e = .normal ∨ e = .ret) ∧ fr.df = [] ∧ fr.t.get 8 = some (.bool true) := by
  have hq := padN_ok (n := n) hkk
  rw [← hv, ← hp] at hq
  obtain ⟨q1, q2, q3, q4⟩ := hq
  obtain ⟨w1, w2⟩ := txA_lin (x := false) hn q4
  have eo := (val_eq (n := n) (p := p) (by omega))
  have hB : (byB n (padB false (nopL 1) n p)).length = n + p + 1 := by rw [byB_len, (padB_at false 1 n p).1]
  have hmid := (as_run0 n v p (txA (hdL false) n v)).trans (asT_true (kk := kk) rfl hn hkk hv q1 q2 (by decide))
  rw [eo.1, eo.2, alx_eq (show v < 100000 by omega)] at hmid
  refine as_tri (x := false) (t := 1) (B := byB n (padB false (nopL 1) n p)) (V := n + p) (m := n + p + 1) (al := upA 1 v) (y0 := [120]) (y1 := 0) (y2 := 0) (y3 := 2) (z0 := [46, 100, 97, 116, 97]) (z1 := [97, 119]) (z3 := n + p + 1) (os := os0 n v p) (K := [0, 1, 2, 3, 4, 5, 6, 7, 8, 9, 10, 11, 255, 256, 155, 257]) hE hI (ska_ok hp ⟨by omega, by omega⟩ (txA_len false n v) w1 w2) (by decide) hn hkk hv (by omega) (by omega) (by omega) hB.symm (by omega) (fun i h1 h2 => byB_at h1 h2) byB_last (upA_le _ _) hmid (by decide) rfl rfl ?_
  intro j u u2 h1 h2
  match j, h1, h2 with
  | 0, h1, h2 =>
    cases h1; cases h2
    refine robj_sub (show 6 < 1000 by omega) fun j y hj => ?_
    match j, hj with
    | 0, hj => cases hj; exact ⟨_, rfl, rfl⟩
    | 1, hj => cases hj; exact ⟨_, rfl, rfl⟩
    | 2, hj => cases hj; exact ⟨_, rfl, rfl⟩
    | 3, hj => cases hj; exact ⟨_, rfl, rfl⟩
    | 4, hj => cases hj; exact ⟨_, rfl, rfl⟩
    | j + 5, hj => simp at hj
  | 1, h1, h2 =>
    cases h1; cases h2
    refine robj_sub (show 6 < 1000 by omega) fun j y hj => ?_
    match j, hj with
    | 0, hj => cases hj; exact ⟨_, rfl, rfl⟩
    | 1, hj => cases hj; exact ⟨_, rfl, rfl⟩
    | 2, hj => cases hj; exact ⟨_, rfl, rfl⟩
    | 3, hj => cases hj; exact ⟨_, rfl, rfl⟩
    | 4, hj => cases hj; exact ⟨_, rfl, rfl⟩
    | j + 5, hj => simp at hj
  | 2, h1, h2 =>
    cases h1; cases h2
    exact ⟨_, rfl, fun i y hy => by
      rcases Tr.get_putAll _ hy with ⟨j, rfl, hj⟩ | ⟨_, hu⟩
      · rw [List.getElem?_map] at hj
        obtain ⟨c, hc, rfl⟩ := Option.map_eq_some_iff.1 hj
        exact ⟨_, hy, rfl⟩
      · simp [Tr.get_nil] at hu⟩
  | 3, h1, h2 =>
    cases h1; cases h2
    exact ⟨_, rfl, fun i y hy => by
      rcases Tr.get_putAll _ hy with ⟨j, rfl, hj⟩ | ⟨_, hu⟩
      · rw [List.getElem?_map] at hj
        obtain ⟨c, hc, rfl⟩ := Option.map_eq_some_iff.1 hj
        exact ⟨_, hy, rfl⟩
      · simp [Tr.get_nil] at hu⟩
  | j + 4, h1, h2 => simp [os0] at h1
def os1 (n v p : Nat) : List AObj := [.cells 6 ((Tr.nil.putAll 0 [.str [120], .int .i64 (.ofNat 0), .int .i64 (.ofNat 0), .int .i64 (.ofNat 1), .int .u64 (.ofNat (n + p)), .int .u64 (.ofNat 0)])) 38 none 0 false false, .cells 6 ((Tr.nil.putAll 0 [.str [46, 116, 101, 120, 116], .str [97, 120], .int .i64 (.ofNat (upA 1 v)), .int .i64 (.ofNat (n + p + 1)), .sl 148 0 (n + p + 1) none, .nils])) 44 none 0 false false, .cells (n + p + 1) (bT (byB n (padB true (nopL 1) n p))) 5 (some 1) 0 false false, .cells 1 ((Tr.nil.putAll 0 [.int .u8 (.ofNat 144)])) 5 none 0 false false]
theorem as_cls1 {n kk v p : Nat} (hn : n ≤ 300) (hkk : kk ≤ 9) (hv : v = 2 ^ kk) (hp : p = padN n v) (hE : EnvOk (EA 1 true n v p) P I) (hI : Carried I) : Tri (EA 1 true n v p) P I ro fn3.body (newFr fn3 [.int .i64 (.ofNat 1), .int .i64 (.ofNat n), .int .i64 (.ofNat kk), .bool false]) (mkH 12 []) fun e fr _ => (e = .normal ∨ e = .ret) ∧ fr.df = [] ∧ fr.t.get 8 = some (.bool true) := by
  have hq := padN_ok (n := n) hkk
  rw [← hv, ← hp] at hq
  obtain ⟨q1, q2, q3, q4⟩ := hq
  obtain ⟨w1, w2⟩ := txA_lin (x := true) hn q4
  have eo := (val_eq (n := n) (p := p) (by omega))
  have hB : (byB n (padB true (nopL 1) n p)).length = n + p + 1 := by rw [byB_len, (padB_at true 1 n p).1]
  have hmid := (as_run1 n v p (txA (hdL true) n v)).trans (asT_true (kk := kk) rfl hn hkk hv q1 q2 (by decide))
  rw [eo.1, eo.2, alx_eq (show v < 100000 by omega)] at hmid
  refine as_tri (x := true) (t := 1) (B := byB n (padB true (nopL 1) n p)) (V := n + p) (m := n + p + 1) (al := upA 1 v) (y0 := [120]) (y1 := 0) (y2 := 0) (y3 := 1) (z0 := [46, 116, 101, 120, 116]) (z1 := [97, 120]) (z3 := n + p + 1) (os := os1 n v p) (K := [0, 1, 2, 3, 4, 5, 6, 7, 8, 9, 10, 11, 236, 237, 148, 238]) hE hI (ska_ok hp ⟨by omega, by omega⟩ (txA_len true n v) w1 w2) (by decide) hn hkk hv (by omega) (by omega) (by omega) hB.symm (by omega) (fun i h1 h2 => byB_at h1 h2) byB_last (upA_le _ _) hmid (by decide) rfl rfl ?_
  intro j u u2 h1 h2
  match j, h1, h2 with
  | 0, h1, h2 =>
    cases h1; cases h2
    refine robj_sub (show 6 < 1000 by omega) fun j y hj => ?_
    match j, hj with
    | 0, hj => cases hj; exact ⟨_, rfl, rfl⟩
    | 1, hj => cases hj; exact ⟨_, rfl, rfl⟩
    | 2, hj => cases hj; exact ⟨_, rfl, rfl⟩
    | 3, hj => cases hj; exact ⟨_, rfl, rfl⟩
    | 4, hj => cases hj; exact ⟨_, rfl, rfl⟩
    | j + 5, hj => simp at hj
  | 1, h1, h2 =>
    cases h1; cases h2
    refine robj_sub (show 6 < 1000 by omega) fun j y hj => ?_
    match j, hj with
    | 0, hj => cases hj; exact ⟨_, rfl, rfl⟩
    | 1, hj => cases hj; exact ⟨_, rfl, rfl⟩
    | 2, hj => cases hj; exact ⟨_, rfl, rfl⟩
    | 3, hj => cases hj; exact ⟨_, rfl, rfl⟩
    | 4, hj => cases hj; exact ⟨_, rfl, rfl⟩
    | j + 5, hj => simp at hj
  | 2, h1, h2 =>
    cases h1; cases h2
    exact ⟨_, rfl, fun i y hy => by
      rcases Tr.get_putAll _ hy with ⟨j, rfl, hj⟩ | ⟨_, hu⟩
      · rw [List.getElem?_map] at hj
        obtain ⟨c, hc, rfl⟩ := Option.map_eq_some_iff.1 hj
        exact ⟨_, hy, rfl⟩
      · simp [Tr.get_nil] at hu⟩
  | 3, h1, h2 =>
    cases h1; cases h2
    exact ⟨_, rfl, fun i y hy => by
      rcases Tr.get_putAll _ hy with ⟨j, rfl, hj⟩ | ⟨_, hu⟩
      · rw [List.getElem?_map] at hj
        obtain ⟨c, hc, rfl⟩ := Option.map_eq_some_iff.1 hj
        exact ⟨_, hy, rfl⟩
      · simp [Tr.get_nil] at hu⟩
  | j + 4, h1, h2 => simp [os1] at h1
def os2 (n v p : Nat) : List AObj := [.cells 6 ((Tr.nil.putAll 0 [.str [120], .int .i64 (.ofNat 0), .int .i64 (.ofNat 0), .int .i64 (.ofNat 2), .int .u64 (.ofNat (n + p)), .int .u64 (.ofNat 0)])) 38 none 0 false false, .cells 6 ((Tr.nil.putAll 0 [.str [46, 100, 97, 116, 97], .str [97, 119], .int .i64 (.ofNat (upA 1 v)), .int .i64 (.ofNat (n + p + 1)), .sl 155 0 (n + p + 1) none, .nils])) 44 none 0 false false, .cells (n + p + 1) (bT (byB n (padB false (nopL 2) n p))) 5 (some 1) 0 false false, .cells 4 ((Tr.nil.putAll 0 [.int .u8 (.ofNat 31), .int .u8 (.ofNat 32), .int .u8 (.ofNat 3), .int .u8 (.ofNat 213)])) 5 none 0 false false]
theorem as_cls2 {n kk v p : Nat} (hn : n ≤ 300) (hkk : kk ≤ 9) (hv : v = 2 ^ kk) (hp : p = padN n v) (hE : EnvOk (EA 2 false n v p) P I) (hI : Carried I) : Tri (EA 2 false n v p) P I ro fn3.body (newFr fn3 [.int .i64 (.ofNat 2), .int .i64 (.ofNat n), .int .i64 (.ofNat kk), .bool true]) (mkH 12 []) fun e fr _ => (e = .normal ∨ e = .ret) ∧ fr.df = [] ∧ fr.t.get 8 = some (.bool true) := by
  have hq := padN_ok (n := n) hkk
  rw [← hv, ← hp] at hq
  obtain ⟨q1, q2, q3, q4⟩ := hq
  obtain ⟨w1, w2⟩ := txA_lin (x := false) hn q4
  have eo := (val_eq (n := n) (p := p) (by omega))
  have hB : (byB n (padB false (nopL 2) n p)).length = n + p + 1 := by rw [byB_len, (padB_at false 2 n p).1]
  have hmid := (as_run2 n v p (txA (hdL false) n v)).trans (asT_true (kk := kk) rfl hn hkk hv q1 q2 (by decide))
  rw [eo.1, eo.2, alx_eq (show v < 100000 by omega)] at hmid
  refine as_tri (x := false) (t := 2) (B := byB n (padB false (nopL 2) n p)) (V := n + p) (m := n + p + 1) (al := upA 1 v) (y0 := [120]) (y1 := 0) (y2 := 0) (y3 := 2) (z0 := [46, 100, 97, 116, 97]) (z1 := [97, 119]) (z3 := n + p + 1) (os := os2 n v p) (K := [0, 1, 2, 3, 4, 5, 6, 7, 8, 9, 10, 11, 255, 256, 155, 258]) hE hI (ska_ok hp ⟨by omega, by omega⟩ (txA_len false n v) w1 w2) (by decide) hn hkk hv (by omega) (by omega) (by omega) hB.symm (by omega) (fun i h1 h2 => byB_at h1 h2) byB_last (upA_le _ _) hmid (by decide) rfl rfl ?_
  intro j u u2 h1 h2
  match j, h1, h2 with
  | 0, h1, h2 =>
    cases h1; cases h2
    refine robj_sub (show 6 < 1000 by omega) fun j y hj => ?_
    match j, hj with
    | 0, hj => cases hj; exact ⟨_, rfl, rfl⟩
    | 1, hj => cases hj; exact ⟨_, rfl, rfl⟩
    | 2, hj => cases hj; exact ⟨_, rfl, rfl⟩
    | 3, hj => cases hj; exact ⟨_, rfl, rfl⟩
    | 4, hj => cases hj; exact ⟨_, rfl, rfl⟩
    | j + 5, hj => simp at hj
  | 1, h1, h2 =>
    cases h1; cases h2
    refine robj_sub (show 6 < 1000 by omega) fun j y hj => ?_
    match j, hj with
    | 0, hj => cases hj; exact ⟨_, rfl, rfl⟩
    | 1, hj => cases hj; exact ⟨_, rfl, rfl⟩
    | 2, hj => cases hj; exact ⟨_, rfl, rfl⟩
    | 3, hj => cases hj; exact ⟨_, rfl, rfl⟩
    | 4, hj => cases hj; exact ⟨_, rfl, rfl⟩
    | j + 5, hj => simp at hj
  | 2, h1, h2 =>
    cases h1; cases h2
    exact ⟨_, rfl, fun i y hy => by
      rcases Tr.get_putAll _ hy with ⟨j, rfl, hj⟩ | ⟨_, hu⟩
      · rw [List.getElem?_map] at hj
        obtain ⟨c, hc, rfl⟩ := Option.map_eq_some_iff.1 hj
        exact ⟨_, hy, rfl⟩
      · simp [Tr.get_nil] at hu⟩
  | 3, h1, h2 =>
    cases h1; cases h2
    exact ⟨_, rfl, fun i y hy => by
      rcases Tr.get_putAll _ hy with ⟨j, rfl, hj⟩ | ⟨_, hu⟩
      · rw [List.getElem?_map] at hj
        obtain ⟨c, hc, rfl⟩ := Option.map_eq_some_iff.1 hj
        exact ⟨_, hy, rfl⟩
      · simp [Tr.get_nil] at hu⟩
  | j + 4, h1, h2 => simp [os2] at h1
def os3 (n v p : Nat) : List AObj := [.cells 6 ((Tr.nil.putAll 0 [.str [120], .int .i64 (.ofNat 0), .int .i64 (.ofNat 0), .int .i64 (.ofNat 1), .int .u64 (.ofNat (n + p)), .int .u64 (.ofNat 0)])) 38 none 0 false false, .cells 6 ((Tr.nil.putAll 0 [.str [46, 116, 101, 120, 116], .str [97, 120], .int .i64 (.ofNat (upA 4 v)), .int .i64 (.ofNat (n + p + 1)), .sl 148 0 (n + p + 1) none, .nils])) 44 none 0 false false, .cells (n + p + 1) (bT (byB n (padB true (nopL 2) n p))) 5 (some 1) 0 false false, .cells 4 ((Tr.nil.putAll 0 [.int .u8 (.ofNat 31), .int .u8 (.ofNat 32), .int .u8 (.ofNat 3), .int .u8 (.ofNat 213)])) 5 none 0 false false]
theorem as_cls3 {n kk v p : Nat} (hn : n ≤ 300) (hkk : kk ≤ 9) (hv : v = 2 ^ kk) (hp : p = padN n v) (hE : EnvOk (EA 2 true n v p) P I) (hI : Carried I) : Tri (EA 2 true n v p) P I ro fn3.body (newFr fn3 [.int .i64 (.ofNat 2), .int .i64 (.ofNat n), .int .i64 (.ofNat kk), .bool false]) (mkH 12 []) fun e fr _ => (e = .normal ∨ e = .ret) ∧ fr.df = [] ∧ fr.t.get 8 = some (.bool true) := by
  have hq := padN_ok (n := n) hkk
  rw [← hv, ← hp] at hq
  obtain ⟨q1, q2, q3, q4⟩ := hq
  obtain ⟨w1, w2⟩ := txA_lin (x := true) hn q4
  have eo := (val_eq (n := n) (p := p) (by omega))
  have hB : (byB n (padB true (nopL 2) n p)).length = n + p + 1 := by rw [byB_len, (padB_at true 2 n p).1]
  have hmid := (as_run3 n v p (txA (hdL true) n v)).trans (asT_true (kk := kk) rfl hn hkk hv q1 q2 (by decide))
  rw [eo.1, eo.2, alx_eq (show v < 100000 by omega)] at hmid
  refine as_tri (x := true) (t := 2) (B := byB n (padB true (nopL 2) n p)) (V := n + p) (m := n + p + 1) (al := upA 4 v) (y0 := [120]) (y1 := 0) (y2 := 0) (y3 := 1) (z0 := [46, 116, 101, 120, 116]) (z1 := [97, 120]) (z3 := n + p + 1) (os := os3 n v p) (K := [0, 1, 2, 3, 4, 5, 6, 7, 8, 9, 10, 11, 236, 237, 148, 239]) hE hI (ska_ok hp ⟨by omega, by omega⟩ (txA_len true n v) w1 w2) (by decide) hn hkk hv (by omega) (by omega) (by omega) hB.symm (by omega) (fun i h1 h2 => byB_at h1 h2) byB_last (upA_le _ _) hmid (by decide) rfl rfl ?_
  intro j u u2 h1 h2
  match j, h1, h2 with
  | 0, h1, h2 =>
    cases h1; cases h2
    refine robj_sub (show 6 < 1000 by omega) fun j y hj => ?_
    match j, hj with
    | 0, hj => cases hj; exact ⟨_, rfl, rfl⟩
    | 1, hj => cases hj; exact ⟨_, rfl, rfl⟩
    | 2, hj => cases hj; exact ⟨_, rfl, rfl⟩
    | 3, hj => cases hj; exact ⟨_, rfl, rfl⟩
    | 4, hj => cases hj; exact ⟨_, rfl, rfl⟩
    | j + 5, hj => simp at hj
  | 1, h1, h2 =>
    cases h1; cases h2
    refine robj_sub (show 6 < 1000 by omega) fun j y hj => ?_
    match j, hj with
    | 0, hj => cases hj; exact ⟨_, rfl, rfl⟩
    | 1, hj => cases hj; exact ⟨_, rfl, rfl⟩
    | 2, hj => cases hj; exact ⟨_, rfl, rfl⟩
    | 3, hj => cases hj; exact ⟨_, rfl, rfl⟩
    | 4, hj => cases hj; exact ⟨_, rfl, rfl⟩
    | j + 5, hj => simp at hj
  | 2, h1, h2 =>
    cases h1; cases h2
    exact ⟨_, rfl, fun i y hy => by
      rcases Tr.get_putAll _ hy with ⟨j, rfl, hj⟩ | ⟨_, hu⟩
      · rw [List.getElem?_map] at hj
        obtain ⟨c, hc, rfl⟩ := Option.map_eq_some_iff.1 hj
        exact ⟨_, hy, rfl⟩
      · simp [Tr.get_nil] at hu⟩
  | 3, h1, h2 =>
    cases h1; cases h2
    exact ⟨_, rfl, fun i y hy => by
      rcases Tr.get_putAll _ hy with ⟨j, rfl, hj⟩ | ⟨_, hu⟩
      · rw [List.getElem?_map] at hj
        obtain ⟨c, hc, rfl⟩ := Option.map_eq_some_iff.1 hj
        exact ⟨_, hy, rfl⟩
      · simp [Tr.get_nil] at hu⟩
  | j + 4, h1, h2 => simp [os3] at h1
def os4 (n v p : Nat) : List AObj := [.cells 6 ((Tr.nil.putAll 0 [.str [120], .int .i64 (.ofNat 0), .int .i64 (.ofNat 0), .int .i64 (.ofNat 2), .int .u64 (.ofNat (n + p)), .int .u64 (.ofNat 0)])) 38 none 0 false false, .cells 6 ((Tr.nil.putAll 0 [.str [46, 100, 97, 116, 97], .str [97, 119], .int .i64 (.ofNat (upA 1 v)), .int .i64 (.ofNat (n + p + 1)), .sl 155 0 (n + p + 1) none, .nils])) 44 none 0 false false, .cells (n + p + 1) (bT (byB n (padB false (nopL 3) n p))) 5 (some 1) 0 false false, .cells 2 ((Tr.nil.putAll 0 [.int .u8 (.ofNat 1), .int .u8 (.ofNat 0)])) 5 none 0 false false]
theorem as_cls4 {n kk v p : Nat} (hn : n ≤ 300) (hkk : kk ≤ 9) (hv : v = 2 ^ kk) (hp : p = padN n v) (hE : EnvOk (EA 3 false n v p) P I) (hI : Carried I) : Tri (EA 3 false n v p) P I ro fn3.body (newFr fn3 [.int .i64 (.ofNat 3), .int .i64 (.ofNat n), .int .i64 (.ofNat kk), .bool true]) (mkH 12 []) fun e fr _ => (e = .normal ∨ e = .ret) ∧ fr.df = [] ∧ fr.t.get 8 = some (.bool true) := by
  have hq := padN_ok (n := n) hkk
  rw [← hv, ← hp] at hq
  obtain ⟨q1, q2, q3, q4⟩ := hq
  obtain ⟨w1, w2⟩ := txA_lin (x := false) hn q4
  have eo := (val_eq (n := n) (p := p) (by omega))
  have hB : (byB n (padB false (nopL 3) n p)).length = n + p + 1 := by rw [byB_len, (padB_at false 3 n p).1]
  have hmid := (as_run4 n v p (txA (hdL false) n v)).trans (asT_true (kk := kk) rfl hn hkk hv q1 q2 (by decide))
  rw [eo.1, eo.2, alx_eq (show v < 100000 by omega)] at hmid
  refine as_tri (x := false) (t := 3) (B := byB n (padB false (nopL 3) n p)) (V := n + p) (m := n + p + 1) (al := upA 1 v) (y0 := [120]) (y1 := 0) (y2 := 0) (y3 := 2) (z0 := [46, 100, 97, 116, 97]) (z1 := [97, 119]) (z3 := n + p + 1) (os := os4 n v p) (K := [0, 1, 2, 3, 4, 5, 6, 7, 8, 9, 10, 11, 255, 256, 155, 258]) hE hI (ska_ok hp ⟨by omega, by omega⟩ (txA_len false n v) w1 w2) (by decide) hn hkk hv (by omega) (by omega) (by omega) hB.symm (by omega) (fun i h1 h2 => byB_at h1 h2) byB_last (upA_le _ _) hmid (by decide) rfl rfl ?_
  intro j u u2 h1 h2
  match j, h1, h2 with
  | 0, h1, h2 =>
    cases h1; cases h2
    refine robj_sub (show 6 < 1000 by omega) fun j y hj => ?_
    match j, hj with
    | 0, hj => cases hj; exact ⟨_, rfl, rfl⟩
    | 1, hj => cases hj; exact ⟨_, rfl, rfl⟩
    | 2, hj => cases hj; exact ⟨_, rfl, rfl⟩
    | 3, hj => cases hj; exact ⟨_, rfl, rfl⟩
    | 4, hj => cases hj; exact ⟨_, rfl, rfl⟩
    | j + 5, hj => simp at hj
  | 1, h1, h2 =>
    cases h1; cases h2
    refine robj_sub (show 6 < 1000 by omega) fun j y hj => ?_
    match j, hj with
    | 0, hj => cases hj; exact ⟨_, rfl, rfl⟩
    | 1, hj => cases hj; exact ⟨_, rfl, rfl⟩
    | 2, hj => cases hj; exact ⟨_, rfl, rfl⟩
    | 3, hj => cases hj; exact ⟨_, rfl, rfl⟩
    | 4, hj => cases hj; exact ⟨_, rfl, rfl⟩
    | j + 5, hj => simp at hj
  | 2, h1, h2 =>
    cases h1; cases h2
    exact ⟨_, rfl, fun i y hy => by
      rcases Tr.get_putAll _ hy with ⟨j, rfl, hj⟩ | ⟨_, hu⟩
      · rw [List.getElem?_map] at hj
        obtain ⟨c, hc, rfl⟩ := Option.map_eq_some_iff.1 hj
        exact ⟨_, hy, rfl⟩
      · simp [Tr.get_nil] at hu⟩
  | 3, h1, h2 =>
    cases h1; cases h2
    exact ⟨_, rfl, fun i y hy => by
      rcases Tr.get_putAll _ hy with ⟨j, rfl, hj⟩ | ⟨_, hu⟩
      · rw [List.getElem?_map] at hj
        obtain ⟨c, hc, rfl⟩ := Option.map_eq_some_iff.1 hj
        exact ⟨_, hy, rfl⟩
      · simp [Tr.get_nil] at hu⟩
  | j + 4, h1, h2 => simp [os4] at h1
def os5 (n v p : Nat) : List AObj := [.cells 6 ((Tr.nil.putAll 0 [.str [120], .int .i64 (.ofNat 0), .int .i64 (.ofNat 0), .int .i64 (.ofNat 1), .int .u64 (.ofNat (n + p)), .int .u64 (.ofNat 0)])) 38 none 0 false false, .cells 6 ((Tr.nil.putAll 0 [.str [46, 116, 101, 120, 116], .str [97, 120], .int .i64 (.ofNat (upA 2 v)), .int .i64 (.ofNat (n + p + 1)), .sl 148 0 (n + p + 1) none, .nils])) 44 none 0 false false, .cells (n + p + 1) (bT (byB n (padB true (nopL 3) n p))) 5 (some 1) 0 false false, .cells 2 ((Tr.nil.putAll 0 [.int .u8 (.ofNat 1), .int .u8 (.ofNat 0)])) 5 none 0 false false]
theorem as_cls5 {n kk v p : Nat} (hn : n ≤ 300) (hkk : kk ≤ 9) (hv : v = 2 ^ kk) (hp : p = padN n v) (hE : EnvOk (EA 3 true n v p) P I) (hI : Carried I) : Tri (EA 3 true n v p) P I ro fn3.body (newFr fn3 [.int .i64 (.ofNat 3), .int .i64 (.ofNat n), .int .i64 (.ofNat kk), .bool false]) (mkH 12 []) fun e fr _ => (e = .normal ∨ e = .ret) ∧ fr.df = [] ∧ fr.t.get 8 = some (.bool true) := by
  have hq := padN_ok (n := n) hkk
  rw [← hv, ← hp] at hq
  obtain ⟨q1, q2, q3, q4⟩ := hq
  obtain ⟨w1, w2⟩ := txA_lin (x := true) hn q4
  have eo := (val_eq (n := n) (p := p) (by omega))
  have hB : (byB n (padB true (nopL 3) n p)).length = n + p + 1 := by rw [byB_len, (padB_at true 3 n p).1]
  have hmid := (as_run5 n v p (txA (hdL true) n v)).trans (asT_true (kk := kk) rfl hn hkk hv q1 q2 (by decide))
  rw [eo.1, eo.2, alx_eq (show v < 100000 by omega)] at hmid
  refine as_tri (x := true) (t := 3) (B := byB n (padB true (nopL 3) n p)) (V := n + p) (m := n + p + 1) (al := upA 2 v) (y0 := [120]) (y1 := 0) (y2 := 0) (y3 := 1) (z0 := [46, 116, 101, 120, 116]) (z1 := [97, 120]) (z3 := n + p + 1) (os := os5 n v p) (K := [0, 1, 2, 3, 4, 5, 6, 7, 8, 9, 10, 11, 236, 237, 148, 239]) hE hI (ska_ok hp ⟨by omega, by omega⟩ (txA_len true n v) w1 w2) (by decide) hn hkk hv (by omega) (by omega) (by omega) hB.symm (by omega) (fun i h1 h2 => byB_at h1 h2) byB_last (upA_le _ _) hmid (by decide) rfl rfl ?_
  intro j u u2 h1 h2
  match j, h1, h2 with
  | 0, h1, h2 =>
    cases h1; cases h2
    refine robj_sub (show 6 < 1000 by omega) fun j y hj => ?_
    match j, hj with
    | 0, hj => cases hj; exact ⟨_, rfl, rfl⟩
    | 1, hj => cases hj; exact ⟨_, rfl, rfl⟩
    | 2, hj => cases hj; exact ⟨_, rfl, rfl⟩
    | 3, hj => cases hj; exact ⟨_, rfl, rfl⟩
    | 4, hj => cases hj; exact ⟨_, rfl, rfl⟩
    | j + 5, hj => simp at hj
  | 1, h1, h2 =>
    cases h1; cases h2
    refine robj_sub (show 6 < 1000 by omega) fun j y hj => ?_
    match j, hj with
    | 0, hj => cases hj; exact ⟨_, rfl, rfl⟩
    | 1, hj => cases hj; exact ⟨_, rfl, rfl⟩
    | 2, hj => cases hj; exact ⟨_, rfl, rfl⟩
    | 3, hj => cases hj; exact ⟨_, rfl, rfl⟩
    | 4, hj => cases hj; exact ⟨_, rfl, rfl⟩
    | j + 5, hj => simp at hj
  | 2, h1, h2 =>
    cases h1; cases h2
    exact ⟨_, rfl, fun i y hy => by
      rcases Tr.get_putAll _ hy with ⟨j, rfl, hj⟩ | ⟨_, hu⟩
      · rw [List.getElem?_map] at hj
        obtain ⟨c, hc, rfl⟩ := Option.map_eq_some_iff.1 hj
        exact ⟨_, hy, rfl⟩
      · simp [Tr.get_nil] at hu⟩
  | 3, h1, h2 =>
    cases h1; cases h2
    exact ⟨_, rfl, fun i y hy => by
      rcases Tr.get_putAll _ hy with ⟨j, rfl, hj⟩ | ⟨_, hu⟩
      · rw [List.getElem?_map] at hj
        obtain ⟨c, hc, rfl⟩ := Option.map_eq_some_iff.1 hj
        exact ⟨_, hy, rfl⟩
      · simp [Tr.get_nil] at hu⟩
  | j + 4, h1, h2 => simp [os5] at h1
end
end
end Go.Proofs.YthlcgkebfodnmaaGreatDoor
