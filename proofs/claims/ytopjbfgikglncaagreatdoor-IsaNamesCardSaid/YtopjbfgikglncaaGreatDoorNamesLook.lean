/- Operands, Register and Cond answer as the references do; as one summary. -/
import Derived.Test.YtopjbfgikglncaaGreatDoorNamesCh1
import Derived.Test.YtopjbfgikglncaaGreatDoorNamesCh2
import Derived.Test.YtopjbfgikglncaaGreatDoorNamesDone
import Derived.KernelRfl
namespace Go.Proofs.YtopjbfgikglncaaGreatDoor
open Go Go.Vai
noncomputable section
set_option maxRecDepth 100000
theorem leq_comm (a b : List UInt8) : leq a b = leq b a := by
  rw [leq_iff, leq_iff]
  by_cases h : a = b
  · subst h; rfl
  · rw [decide_eq_false h, decide_eq_false (fun e => h e.symm)]
theorem bcs {x : Option AV} (b : Bool) : bc b x x = x := by cases b <;> rfl
def dS : Option AV := some (.tup [.str [], .bool false])
def dI : Option AV := some (.tup [.int .i64 (.ofNat 0), .bool false])
def chkS : Option AV → Option AV → Bool
  | some (.tup [.str a, .bool b]), some (.tup [.str c, .bool d]) => leq a c && (b == d)
  | _, _ => false
def chkI : Option AV → Option AV → Bool
  | some (.tup [.int .i64 a, .bool b]), some (.tup [.int .i64 c, .bool d]) => ieq a c && (b == d)
  | _, _ => false
def strOf : Option AV → List UInt8
  | some (.tup [.str a, .bool _]) => a
  | _ => []
def intOf : Option AV → Int
  | some (.tup [.int .i64 a, .bool _]) => a
  | _ => 0
def bolOf : Option AV → Bool
  | some (.tup [_, .bool b]) => b
  | _ => false
theorem chkS_of {x y : Option AV} (h : chkS x y = true) : x = some (.tup [.str (strOf x), .bool (bolOf x)]) ∧ y = some (.tup [.str (strOf x), .bool (bolOf x)]) := by
  unfold chkS at h
  split at h
  · rename_i a b c d
    rw [Bool.and_eq_true, leq_iff, decide_eq_true_eq, beq_iff_eq] at h
    obtain ⟨rfl, rfl⟩ := h
    exact ⟨rfl, rfl⟩
  · cases h
theorem chkI_of {x y : Option AV} (h : chkI x y = true) : x = some (.tup [.int .i64 (intOf x), .bool (bolOf x)]) ∧ y = some (.tup [.int .i64 (intOf x), .bool (bolOf x)]) := by
  unfold chkI at h
  split at h
  · rename_i a b c d
    rw [Bool.and_eq_true, ieq_iff, decide_eq_true_eq, beq_iff_eq] at h
    obtain ⟨rfl, rfl⟩ := h
    exact ⟨rfl, rfl⟩
  · cases h
theorem or_in {K : List (List UInt8)} {s : List UInt8} (h : (K.all fun k => !(leq k s)) = false) : s ∈ K := by
  rw [List.all_eq_false] at h
  obtain ⟨k, hk, e⟩ := h
  have e2 : leq k s = true := by simpa using e
  rw [leq_iff, decide_eq_true_eq] at e2
  rw [← e2]; exact hk
def kop1 : List (List UInt8) := [[106, 99, 99], [108, 101, 97], [117, 100, 50], [99, 113, 111], [100, 105, 118], [106, 109, 112], [109, 117, 108], [110, 101, 103], [110, 111, 112], [110, 111, 116], [112, 111, 112], [114, 101, 116], [99, 97, 108, 108], [99, 109, 111, 118], [105, 100, 105, 118], [112, 117, 115, 104], [106, 99, 99, 46, 115], [106, 109, 112, 46, 114], [106, 109, 112, 46, 115], [111, 114, 46, 114, 105], [111, 114, 46, 114, 109], [111, 114, 46, 114, 114], [115, 97, 114, 46, 114, 99], [99, 97, 108, 108, 46, 114], [115, 104, 108, 46, 114, 99], [115, 104, 114, 46, 114, 99], [115, 117, 98, 46, 114, 105], [115, 117, 98, 46, 114, 109], [115, 117, 98, 46, 114, 114], [115, 97, 114, 46, 114, 105], [97, 100, 100, 46, 114, 105], [97, 100, 100, 46, 114, 109], [97, 100, 100, 46, 114, 114], [97, 110, 100, 46, 114, 105], [97, 110, 100, 46, 114, 109], [97, 110, 100, 46, 114, 114], [99, 109, 112, 46, 114, 105], [99, 109, 112, 46, 114, 109], [99, 109, 112, 46, 114, 114], [109, 111, 118, 46, 102, 115], [109, 111, 118, 46, 109, 114], [109, 111, 118, 46, 114, 105], [109, 111, 118, 46, 114, 109], [109, 111, 118, 46, 114, 114], [109, 111, 118, 46, 114, 115], [115, 104, 108, 46, 114, 105], [115, 104, 114, 46, 114, 105], [120, 111, 114, 46, 114, 105], [120, 111, 114, 46, 114, 109], [120, 111, 114, 46, 114, 114], [109, 111, 118, 98, 46, 109, 114], [115, 121, 115, 99, 97, 108, 108], [105, 109, 117, 108, 46, 114, 114], [109, 111, 118, 108, 46, 109, 114], [109, 111, 118, 108, 46, 114, 109], [116, 101, 115, 116, 46, 114, 114], [109, 111, 118, 122, 98, 46, 114, 109], [109, 111, 118, 115, 108, 46, 114, 109]]
theorem op1_all : (kop1.all fun k => chkS (op01 k) (op11 k)) = true := by kernel_rfl
theorem op01_no (s : List UInt8) (h : (kop1.all fun k => !(leq k s)) = true) : op01 s = dS := by
  simp only [kop1, List.all_cons, List.all_nil, Bool.and_true, Bool.and_eq_true, Bool.not_eq_true'] at h
  obtain ⟨h0, h1, h2, h3, h4, h5, h6, h7, h8, h9, h10, h11, h12, h13, h14, h15, h16, h17, h18, h19, h20, h21, h22, h23, h24, h25, h26, h27, h28, h29, h30, h31, h32, h33, h34, h35, h36, h37, h38, h39, h40, h41, h42, h43, h44, h45, h46, h47, h48, h49, h50, h51, h52, h53, h54, h55, h56, h57⟩ := h
  unfold op01
  simp only [h0, h1, h2, h3, h4, h5, h6, h7, h8, h9, h10, h11, h12, h13, h14, h15, h16, h17, h18, h19, h20, h21, h22, h23, h24, h25, h26, h27, h28, h29, h30, h31, h32, h33, h34, h35, h36, h37, h38, h39, h40, h41, h42, h43, h44, h45, h46, h47, h48, h49, h50, h51, h52, h53, h54, h55, h56, h57, bc_false]
  rfl
theorem op11_no (s : List UInt8) (h : (kop1.all fun k => !(leq k s)) = true) : op11 s = dS := by
  simp only [kop1, List.all_cons, List.all_nil, Bool.and_true, Bool.and_eq_true, Bool.not_eq_true'] at h
  obtain ⟨h0, h1, h2, h3, h4, h5, h6, h7, h8, h9, h10, h11, h12, h13, h14, h15, h16, h17, h18, h19, h20, h21, h22, h23, h24, h25, h26, h27, h28, h29, h30, h31, h32, h33, h34, h35, h36, h37, h38, h39, h40, h41, h42, h43, h44, h45, h46, h47, h48, h49, h50, h51, h52, h53, h54, h55, h56, h57⟩ := h
  unfold op11
  simp only [h0, h1, h2, h3, h4, h5, h6, h7, h8, h9, h10, h11, h12, h13, h14, h15, h16, h17, h18, h19, h20, h21, h22, h23, h24, h25, h26, h27, h28, h29, h30, h31, h32, h33, h34, h35, h36, h37, h38, h39, h40, h41, h42, h43, h44, h45, h46, h47, h48, h49, h50, h51, h52, h53, h54, h55, h56, h57, bc_false]
  rfl
theorem op1_same (s : List UInt8) : chkS (op01 s) (op11 s) = true := by
  cases h : (kop1.all fun k => !(leq k s)) with
  | true => rw [op01_no s h, op11_no s h]; rfl
  | false =>
    have := List.all_eq_true.1 op1_all _ (or_in h)
    exact this
def kop2 : List (List UInt8) := [[98], [98, 108], [98, 114], [98, 46, 99], [99, 98, 122], [115, 117, 98], [115, 118, 99], [97, 100, 100], [97, 100, 114], [97, 110, 100], [98, 108, 114], [98, 114, 107], [101, 111, 114], [108, 100, 112], [108, 100, 114], [110, 111, 112], [111, 114, 114], [114, 101, 116], [115, 116, 112], [115, 116, 114], [99, 98, 110, 122], [108, 100, 114, 98], [109, 115, 117, 98], [109, 97, 100, 100], [115, 116, 114, 98], [115, 117, 98, 115], [115, 98, 102, 109], [117, 98, 102, 109], [97, 100, 100, 115], [97, 100, 114, 112], [97, 110, 100, 115], [97, 115, 114, 118], [99, 115, 101, 108], [108, 100, 114, 104], [108, 115, 108, 118], [108, 115, 114, 118], [109, 111, 118, 107], [109, 111, 118, 110], [109, 111, 118, 122], [115, 100, 105, 118], [115, 116, 114, 104], [117, 100, 105, 118], [115, 117, 98, 46, 105], [97, 100, 100, 46, 105], [97, 110, 100, 46, 105], [99, 115, 105, 110, 99], [101, 111, 114, 46, 105], [108, 100, 114, 46, 119], [111, 114, 114, 46, 105], [115, 116, 114, 46, 119], [108, 100, 114, 115, 119], [115, 117, 98, 115, 46, 105], [97, 100, 100, 115, 46, 105], [97, 110, 100, 115, 46, 105]]
theorem op2_all : (kop2.all fun k => chkS (op02 k) (op12 k)) = true := by kernel_rfl
theorem op02_no (s : List UInt8) (h : (kop2.all fun k => !(leq k s)) = true) : op02 s = dS := by
  simp only [kop2, List.all_cons, List.all_nil, Bool.and_true, Bool.and_eq_true, Bool.not_eq_true'] at h
  obtain ⟨h0, h1, h2, h3, h4, h5, h6, h7, h8, h9, h10, h11, h12, h13, h14, h15, h16, h17, h18, h19, h20, h21, h22, h23, h24, h25, h26, h27, h28, h29, h30, h31, h32, h33, h34, h35, h36, h37, h38, h39, h40, h41, h42, h43, h44, h45, h46, h47, h48, h49, h50, h51, h52, h53⟩ := h
  unfold op02
  simp only [h0, h1, h2, h3, h4, h5, h6, h7, h8, h9, h10, h11, h12, h13, h14, h15, h16, h17, h18, h19, h20, h21, h22, h23, h24, h25, h26, h27, h28, h29, h30, h31, h32, h33, h34, h35, h36, h37, h38, h39, h40, h41, h42, h43, h44, h45, h46, h47, h48, h49, h50, h51, h52, h53, bc_false]
  rfl
theorem op12_no (s : List UInt8) (h : (kop2.all fun k => !(leq k s)) = true) : op12 s = dS := by
  simp only [kop2, List.all_cons, List.all_nil, Bool.and_true, Bool.and_eq_true, Bool.not_eq_true'] at h
  obtain ⟨h0, h1, h2, h3, h4, h5, h6, h7, h8, h9, h10, h11, h12, h13, h14, h15, h16, h17, h18, h19, h20, h21, h22, h23, h24, h25, h26, h27, h28, h29, h30, h31, h32, h33, h34, h35, h36, h37, h38, h39, h40, h41, h42, h43, h44, h45, h46, h47, h48, h49, h50, h51, h52, h53⟩ := h
  unfold op12
  simp only [h0, h1, h2, h3, h4, h5, h6, h7, h8, h9, h10, h11, h12, h13, h14, h15, h16, h17, h18, h19, h20, h21, h22, h23, h24, h25, h26, h27, h28, h29, h30, h31, h32, h33, h34, h35, h36, h37, h38, h39, h40, h41, h42, h43, h44, h45, h46, h47, h48, h49, h50, h51, h52, h53, bc_false]
  rfl
theorem op2_same (s : List UInt8) : chkS (op02 s) (op12 s) = true := by
  cases h : (kop2.all fun k => !(leq k s)) with
  | true => rw [op02_no s h, op12_no s h]; rfl
  | false =>
    have := List.all_eq_true.1 op2_all _ (or_in h)
    exact this
def kop3 : List (List UInt8) := [[108, 98], [115, 98], [108, 100], [108, 104], [108, 119], [111, 114], [115, 100], [115, 104], [115, 119], [99, 46, 106], [106, 97, 108], [108, 98, 117], [115, 114, 97], [115, 117, 98], [97, 100, 100], [97, 110, 100], [98, 101, 113], [98, 103, 101], [98, 108, 116], [98, 110, 101], [100, 105, 118], [108, 104, 117], [108, 117, 105], [108, 119, 117], [109, 117, 108], [111, 114, 105], [114, 101, 109], [115, 108, 108], [115, 108, 116], [115, 114, 108], [120, 111, 114], [99, 46, 106, 114], [99, 46, 108, 100], [99, 46, 108, 105], [99, 46, 108, 119], [99, 46, 109, 118], [99, 46, 111, 114], [99, 46, 115, 100], [99, 46, 115, 119], [106, 97, 108, 114], [115, 114, 97, 105], [115, 114, 97, 119], [115, 117, 98, 119], [97, 100, 100, 105], [97, 100, 100, 119], [97, 110, 100, 105], [98, 103, 101, 117], [98, 108, 116, 117], [100, 105, 118, 117], [100, 105, 118, 119], [109, 117, 108, 104], [109, 117, 108, 119], [114, 101, 109, 117], [114, 101, 109, 119], [115, 108, 108, 105], [115, 108, 108, 119], [115, 108, 116, 105], [115, 108, 116, 117], [115, 114, 108, 105], [115, 114, 108, 119], [120, 111, 114, 105], [99, 46, 115, 117, 98], [99, 46, 97, 100, 100], [99, 46, 97, 110, 100], [101, 99, 97, 108, 108], [97, 117, 105, 112, 99], [99, 46, 108, 117, 105], [99, 46, 110, 111, 112], [99, 46, 120, 111, 114], [115, 114, 97, 105, 119], [97, 100, 100, 105, 119], [100, 105, 118, 117, 119], [109, 117, 108, 104, 117], [114, 101, 109, 117, 119], [115, 108, 108, 105, 119], [115, 108, 116, 105, 117], [115, 114, 108, 105, 119], [99, 46, 106, 97, 108, 114], [99, 46, 115, 114, 97, 105], [99, 46, 115, 117, 98, 119], [99, 46, 97, 100, 100, 105], [99, 46, 97, 100, 100, 119], [99, 46, 97, 110, 100, 105], [99, 46, 98, 101, 113, 122], [99, 46, 98, 110, 101, 122], [101, 98, 114, 101, 97, 107], [99, 46, 108, 100, 115, 112], [99, 46, 108, 119, 115, 112], [99, 46, 115, 100, 115, 112], [99, 46, 115, 108, 108, 105], [99, 46, 115, 114, 108, 105], [99, 46, 115, 119, 115, 112], [109, 117, 108, 104, 115, 117], [99, 46, 97, 100, 100, 105, 119], [99, 46, 101, 98, 114, 101, 97, 107], [99, 46, 97, 100, 100, 105, 49, 54, 115, 112], [99, 46, 97, 100, 100, 105, 52, 115, 112, 110]]
theorem op3_all : (kop3.all fun k => chkS (op03 k) (op13 k)) = true := by kernel_rfl
theorem op03_no (s : List UInt8) (h : (kop3.all fun k => !(leq k s)) = true) : op03 s = dS := by
  simp only [kop3, List.all_cons, List.all_nil, Bool.and_true, Bool.and_eq_true, Bool.not_eq_true'] at h
  obtain ⟨h0, h1, h2, h3, h4, h5, h6, h7, h8, h9, h10, h11, h12, h13, h14, h15, h16, h17, h18, h19, h20, h21, h22, h23, h24, h25, h26, h27, h28, h29, h30, h31, h32, h33, h34, h35, h36, h37, h38, h39, h40, h41, h42, h43, h44, h45, h46, h47, h48, h49, h50, h51, h52, h53, h54, h55, h56, h57, h58, h59, h60, h61, h62, h63, h64, h65, h66, h67, h68, h69, h70, h71, h72, h73, h74, h75, h76, h77, h78, h79, h80, h81, h82, h83, h84, h85, h86, h87, h88, h89, h90, h91, h92, h93, h94, h95, h96⟩ := h
  have g9 := (leq_comm s _).trans h9
  have g37 := (leq_comm s _).trans h37
  have g38 := (leq_comm s _).trans h38
  have g83 := (leq_comm s _).trans h83
  have g84 := (leq_comm s _).trans h84
  unfold op03
  simp only [h0, h1, h2, h3, h4, h5, h6, h7, h8, h9, h10, h11, h12, h13, h14, h15, h16, h17, h18, h19, h20, h21, h22, h23, h24, h25, h26, h27, h28, h29, h30, h31, h32, h33, h34, h35, h36, h37, h38, h39, h40, h41, h42, h43, h44, h45, h46, h47, h48, h49, h50, h51, h52, h53, h54, h55, h56, h57, h58, h59, h60, h61, h62, h63, h64, h65, h66, h67, h68, h69, h70, h71, h72, h73, h74, h75, h76, h77, h78, h79, h80, h81, h82, h83, h84, h85, h86, h87, h88, h89, h90, h91, h92, h93, h94, h95, h96, g9, g37, g38, g83, g84, bc_false]
  rcases Nat.lt_or_ge (lenU s) 2 with hl | hl
  · rw [blt_t hl]; rfl
  · rw [blt_f (by omega), ble_t hl]; simp only [bcs, Bool.not_false, bc_true]; rfl
theorem op13_no (s : List UInt8) (h : (kop3.all fun k => !(leq k s)) = true) : op13 s = dS := by
  simp only [kop3, List.all_cons, List.all_nil, Bool.and_true, Bool.and_eq_true, Bool.not_eq_true'] at h
  obtain ⟨h0, h1, h2, h3, h4, h5, h6, h7, h8, h9, h10, h11, h12, h13, h14, h15, h16, h17, h18, h19, h20, h21, h22, h23, h24, h25, h26, h27, h28, h29, h30, h31, h32, h33, h34, h35, h36, h37, h38, h39, h40, h41, h42, h43, h44, h45, h46, h47, h48, h49, h50, h51, h52, h53, h54, h55, h56, h57, h58, h59, h60, h61, h62, h63, h64, h65, h66, h67, h68, h69, h70, h71, h72, h73, h74, h75, h76, h77, h78, h79, h80, h81, h82, h83, h84, h85, h86, h87, h88, h89, h90, h91, h92, h93, h94, h95, h96⟩ := h
  unfold op13
  simp only [h0, h1, h2, h3, h4, h5, h6, h7, h8, h9, h10, h11, h12, h13, h14, h15, h16, h17, h18, h19, h20, h21, h22, h23, h24, h25, h26, h27, h28, h29, h30, h31, h32, h33, h34, h35, h36, h37, h38, h39, h40, h41, h42, h43, h44, h45, h46, h47, h48, h49, h50, h51, h52, h53, h54, h55, h56, h57, h58, h59, h60, h61, h62, h63, h64, h65, h66, h67, h68, h69, h70, h71, h72, h73, h74, h75, h76, h77, h78, h79, h80, h81, h82, h83, h84, h85, h86, h87, h88, h89, h90, h91, h92, h93, h94, h95, h96, bc_false]
  rcases Nat.lt_or_ge 2 (lenU s) with hl | hl
  · rw [blt_t hl, ble_t (by omega)]; simp only [bcs, bc_true]; rfl
  · rw [blt_f (by omega)]; rfl
theorem op3_same (s : List UInt8) : chkS (op03 s) (op13 s) = true := by
  cases h : (kop3.all fun k => !(leq k s)) with
  | true => rw [op03_no s h, op13_no s h]; rfl
  | false =>
    have := List.all_eq_true.1 op3_all _ (or_in h)
    exact this
def opV : Nat → List UInt8 → Option AV
  | 1, s => op01 s
  | 2, s => op02 s
  | _, s => op03 s
def opS (t : Nat) (s : List UInt8) : List UInt8 := strOf (opV t s)
def opB (t : Nat) (s : List UInt8) : Bool := bolOf (opV t s)
def opR (t : Nat) (s : List UInt8) : AV := .tup [.str (opS t s), .bool (opB t s)]
theorem v7x1 (s : List UInt8) : callP E1 100000 (.call 7 [.int .i64 (.ofNat 1), .str s] (gHeap 12 gl)) [] jK = some (opR 1 s) := (op01_eq s).trans (chkS_of (op1_same s)).1
theorem v8x1 (s : List UInt8) : callP E1 100000 (.call 8 [.int .i64 (.ofNat 1), .str s] (gHeap 12 gl)) [] jK = some (opR 1 s) := (op11_eq s).trans (chkS_of (op1_same s)).2
theorem v7x2 (s : List UInt8) : callP E1 100000 (.call 7 [.int .i64 (.ofNat 2), .str s] (gHeap 12 gl)) [] jK = some (opR 2 s) := (op02_eq s).trans (chkS_of (op2_same s)).1
theorem v8x2 (s : List UInt8) : callP E1 100000 (.call 8 [.int .i64 (.ofNat 2), .str s] (gHeap 12 gl)) [] jK = some (opR 2 s) := (op12_eq s).trans (chkS_of (op2_same s)).2
theorem v7x3 (s : List UInt8) : callP E2 100000 (.call 7 [.int .i64 (.ofNat 3), .str s] (gHeap 12 gl)) [] jK = some (opR 3 s) := (op03_eq s).trans (chkS_of (op3_same s)).1
theorem v8x3 (s : List UInt8) : callP E1 100000 (.call 8 [.int .i64 (.ofNat 3), .str s] (gHeap 12 gl)) [] jK = some (opR 3 s) := (op13_eq s).trans (chkS_of (op3_same s)).2
def krg1 : List (List UInt8) := [[114, 56], [114, 57], [114, 49, 48], [114, 49, 49], [114, 49, 50], [114, 49, 51], [114, 49, 52], [114, 49, 53], [114, 97, 120], [114, 98, 112], [114, 98, 120], [114, 99, 120], [114, 100, 105], [114, 100, 120], [114, 115, 105], [114, 115, 112]]
theorem rg1_all : (krg1.all fun k => chkI (rg01 k) (rg11 k)) = true := by kernel_rfl
theorem rg01_no (s : List UInt8) (h : (krg1.all fun k => !(leq k s)) = true) : rg01 s = dI := by
  simp only [krg1, List.all_cons, List.all_nil, Bool.and_true, Bool.and_eq_true, Bool.not_eq_true'] at h
  obtain ⟨h0, h1, h2, h3, h4, h5, h6, h7, h8, h9, h10, h11, h12, h13, h14, h15⟩ := h
  unfold rg01
  simp only [h0, h1, h2, h3, h4, h5, h6, h7, h8, h9, h10, h11, h12, h13, h14, h15, bc_false]
  rfl
theorem rg11_no (s : List UInt8) (h : (krg1.all fun k => !(leq k s)) = true) : rg11 s = dI := by
  simp only [krg1, List.all_cons, List.all_nil, Bool.and_true, Bool.and_eq_true, Bool.not_eq_true'] at h
  obtain ⟨h0, h1, h2, h3, h4, h5, h6, h7, h8, h9, h10, h11, h12, h13, h14, h15⟩ := h
  unfold rg11
  simp only [h0, h1, h2, h3, h4, h5, h6, h7, h8, h9, h10, h11, h12, h13, h14, h15, bc_false]
  rfl
theorem rg1_same (s : List UInt8) : chkI (rg01 s) (rg11 s) = true := by
  cases h : (krg1.all fun k => !(leq k s)) with
  | true => rw [rg01_no s h, rg11_no s h]; rfl
  | false =>
    have := List.all_eq_true.1 rg1_all _ (or_in h)
    exact this
def krg2 : List (List UInt8) := [[120, 48], [120, 49], [120, 50], [120, 51], [120, 52], [120, 53], [120, 54], [120, 55], [120, 56], [120, 57], [115, 112], [120, 49, 48], [120, 49, 49], [120, 49, 50], [120, 49, 51], [120, 49, 52], [120, 49, 53], [120, 49, 54], [120, 49, 55], [120, 49, 56], [120, 49, 57], [120, 50, 48], [120, 50, 49], [120, 50, 50], [120, 50, 51], [120, 50, 52], [120, 50, 53], [120, 50, 54], [120, 50, 55], [120, 50, 56], [120, 50, 57], [120, 51, 48], [120, 122, 114]]
theorem rg2_all : (krg2.all fun k => chkI (rg02 k) (rg12 k)) = true := by kernel_rfl
theorem rg02_no (s : List UInt8) (h : (krg2.all fun k => !(leq k s)) = true) : rg02 s = dI := by
  simp only [krg2, List.all_cons, List.all_nil, Bool.and_true, Bool.and_eq_true, Bool.not_eq_true'] at h
  obtain ⟨h0, h1, h2, h3, h4, h5, h6, h7, h8, h9, h10, h11, h12, h13, h14, h15, h16, h17, h18, h19, h20, h21, h22, h23, h24, h25, h26, h27, h28, h29, h30, h31, h32⟩ := h
  unfold rg02
  simp only [h0, h1, h2, h3, h4, h5, h6, h7, h8, h9, h10, h11, h12, h13, h14, h15, h16, h17, h18, h19, h20, h21, h22, h23, h24, h25, h26, h27, h28, h29, h30, h31, h32, bc_false]
  rfl
theorem rg12_no (s : List UInt8) (h : (krg2.all fun k => !(leq k s)) = true) : rg12 s = dI := by
  simp only [krg2, List.all_cons, List.all_nil, Bool.and_true, Bool.and_eq_true, Bool.not_eq_true'] at h
  obtain ⟨h0, h1, h2, h3, h4, h5, h6, h7, h8, h9, h10, h11, h12, h13, h14, h15, h16, h17, h18, h19, h20, h21, h22, h23, h24, h25, h26, h27, h28, h29, h30, h31, h32⟩ := h
  unfold rg12
  simp only [h0, h1, h2, h3, h4, h5, h6, h7, h8, h9, h10, h11, h12, h13, h14, h15, h16, h17, h18, h19, h20, h21, h22, h23, h24, h25, h26, h27, h28, h29, h30, h31, h32, bc_false]
  rfl
theorem rg2_same (s : List UInt8) : chkI (rg02 s) (rg12 s) = true := by
  cases h : (krg2.all fun k => !(leq k s)) with
  | true => rw [rg02_no s h, rg12_no s h]; rfl
  | false =>
    have := List.all_eq_true.1 rg2_all _ (or_in h)
    exact this
def krg3 : List (List UInt8) := [[97, 48], [97, 49], [97, 50], [97, 51], [97, 52], [97, 53], [97, 54], [97, 55], [114, 97], [115, 48], [115, 49], [115, 50], [115, 51], [115, 52], [115, 53], [115, 54], [115, 55], [115, 56], [115, 57], [116, 48], [116, 49], [116, 50], [116, 51], [116, 52], [116, 53], [116, 54], [120, 48], [120, 49], [120, 50], [120, 51], [120, 52], [120, 53], [120, 54], [120, 55], [120, 56], [120, 57], [103, 112], [115, 112], [116, 112], [115, 49, 48], [115, 49, 49], [120, 49, 48], [120, 49, 49], [120, 49, 50], [120, 49, 51], [120, 49, 52], [120, 49, 53], [120, 49, 54], [120, 49, 55], [120, 49, 56], [120, 49, 57], [120, 50, 48], [120, 50, 49], [120, 50, 50], [120, 50, 51], [120, 50, 52], [120, 50, 53], [120, 50, 54], [120, 50, 55], [120, 50, 56], [120, 50, 57], [120, 51, 48], [120, 51, 49], [122, 101, 114, 111]]
theorem rg3_all : (krg3.all fun k => chkI (rg03 k) (rg13 k)) = true := by kernel_rfl
theorem rg03_no (s : List UInt8) (h : (krg3.all fun k => !(leq k s)) = true) : rg03 s = dI := by
  simp only [krg3, List.all_cons, List.all_nil, Bool.and_true, Bool.and_eq_true, Bool.not_eq_true'] at h
  obtain ⟨h0, h1, h2, h3, h4, h5, h6, h7, h8, h9, h10, h11, h12, h13, h14, h15, h16, h17, h18, h19, h20, h21, h22, h23, h24, h25, h26, h27, h28, h29, h30, h31, h32, h33, h34, h35, h36, h37, h38, h39, h40, h41, h42, h43, h44, h45, h46, h47, h48, h49, h50, h51, h52, h53, h54, h55, h56, h57, h58, h59, h60, h61, h62, h63⟩ := h
  unfold rg03
  simp only [h0, h1, h2, h3, h4, h5, h6, h7, h8, h9, h10, h11, h12, h13, h14, h15, h16, h17, h18, h19, h20, h21, h22, h23, h24, h25, h26, h27, h28, h29, h30, h31, h32, h33, h34, h35, h36, h37, h38, h39, h40, h41, h42, h43, h44, h45, h46, h47, h48, h49, h50, h51, h52, h53, h54, h55, h56, h57, h58, h59, h60, h61, h62, h63, bc_false]
  rfl
theorem rg13_no (s : List UInt8) (h : (krg3.all fun k => !(leq k s)) = true) : rg13 s = dI := by
  simp only [krg3, List.all_cons, List.all_nil, Bool.and_true, Bool.and_eq_true, Bool.not_eq_true'] at h
  obtain ⟨h0, h1, h2, h3, h4, h5, h6, h7, h8, h9, h10, h11, h12, h13, h14, h15, h16, h17, h18, h19, h20, h21, h22, h23, h24, h25, h26, h27, h28, h29, h30, h31, h32, h33, h34, h35, h36, h37, h38, h39, h40, h41, h42, h43, h44, h45, h46, h47, h48, h49, h50, h51, h52, h53, h54, h55, h56, h57, h58, h59, h60, h61, h62, h63⟩ := h
  unfold rg13
  simp only [h0, h1, h2, h3, h4, h5, h6, h7, h8, h9, h10, h11, h12, h13, h14, h15, h16, h17, h18, h19, h20, h21, h22, h23, h24, h25, h26, h27, h28, h29, h30, h31, h32, h33, h34, h35, h36, h37, h38, h39, h40, h41, h42, h43, h44, h45, h46, h47, h48, h49, h50, h51, h52, h53, h54, h55, h56, h57, h58, h59, h60, h61, h62, h63, bc_false]
  rfl
theorem rg3_same (s : List UInt8) : chkI (rg03 s) (rg13 s) = true := by
  cases h : (krg3.all fun k => !(leq k s)) with
  | true => rw [rg03_no s h, rg13_no s h]; rfl
  | false =>
    have := List.all_eq_true.1 rg3_all _ (or_in h)
    exact this
def rgV : Nat → List UInt8 → Option AV
  | 1, s => rg01 s
  | 2, s => rg02 s
  | _, s => rg03 s
def rgI (t : Nat) (s : List UInt8) : Int := intOf (rgV t s)
def rgB (t : Nat) (s : List UInt8) : Bool := bolOf (rgV t s)
def rgR (t : Nat) (s : List UInt8) : AV := .tup [.int .i64 (rgI t s), .bool (rgB t s)]
theorem v9x1 (s : List UInt8) : callP E1 100000 (.call 9 [.int .i64 (.ofNat 1), .str s] (gHeap 12 gl)) [] jK = some (rgR 1 s) := (rg01_eq s).trans (chkI_of (rg1_same s)).1
theorem v10x1 (s : List UInt8) : callP E1 100000 (.call 10 [.int .i64 (.ofNat 1), .str s] (gHeap 12 gl)) [] jK = some (rgR 1 s) := (rg11_eq s).trans (chkI_of (rg1_same s)).2
theorem v9x2 (s : List UInt8) : callP E1 100000 (.call 9 [.int .i64 (.ofNat 2), .str s] (gHeap 12 gl)) [] jK = some (rgR 2 s) := (rg02_eq s).trans (chkI_of (rg2_same s)).1
theorem v10x2 (s : List UInt8) : callP E1 100000 (.call 10 [.int .i64 (.ofNat 2), .str s] (gHeap 12 gl)) [] jK = some (rgR 2 s) := (rg12_eq s).trans (chkI_of (rg2_same s)).2
theorem v9x3 (s : List UInt8) : callP E1 100000 (.call 9 [.int .i64 (.ofNat 3), .str s] (gHeap 12 gl)) [] jK = some (rgR 3 s) := (rg03_eq s).trans (chkI_of (rg3_same s)).1
theorem v10x3 (s : List UInt8) : callP E1 100000 (.call 10 [.int .i64 (.ofNat 3), .str s] (gHeap 12 gl)) [] jK = some (rgR 3 s) := (rg13_eq s).trans (chkI_of (rg3_same s)).2
def kcd1 : List (List UInt8) := [[97], [98], [101], [103], [108], [111], [115], [97, 101], [98, 101], [103, 101], [108, 101], [110, 101], [110, 111], [110, 115]]
theorem cd1_all : (kcd1.all fun k => chkI (cd01 (k.headD 0) k.tail) (cd11 (k.headD 0) k.tail)) = true := by kernel_rfl
theorem cd01_no (c : UInt8) (s : List UInt8) (h : (kcd1.all fun k => !(leq k (c :: s))) = true) : cd01 c s = dI := by
  simp only [kcd1, List.all_cons, List.all_nil, Bool.and_true, Bool.and_eq_true, Bool.not_eq_true'] at h
  obtain ⟨h0, h1, h2, h3, h4, h5, h6, h7, h8, h9, h10, h11, h12, h13⟩ := h
  have g0 := (leq_comm (c :: s) _).trans h0
  have g1 := (leq_comm (c :: s) _).trans h1
  have g2 := (leq_comm (c :: s) _).trans h2
  have g3 := (leq_comm (c :: s) _).trans h3
  have g4 := (leq_comm (c :: s) _).trans h4
  have g5 := (leq_comm (c :: s) _).trans h5
  have g6 := (leq_comm (c :: s) _).trans h6
  have g7 := (leq_comm (c :: s) _).trans h7
  have g8 := (leq_comm (c :: s) _).trans h8
  have g9 := (leq_comm (c :: s) _).trans h9
  have g10 := (leq_comm (c :: s) _).trans h10
  have g11 := (leq_comm (c :: s) _).trans h11
  have g12 := (leq_comm (c :: s) _).trans h12
  have g13 := (leq_comm (c :: s) _).trans h13
  unfold cd01
  simp only [g0, g1, g2, g3, g4, g5, g6, g7, g8, g9, g10, g11, g12, g13, bc_false]
  rfl
theorem cd11_no (c : UInt8) (s : List UInt8) (h : (kcd1.all fun k => !(leq k (c :: s))) = true) : cd11 c s = dI := by
  simp only [kcd1, List.all_cons, List.all_nil, Bool.and_true, Bool.and_eq_true, Bool.not_eq_true'] at h
  obtain ⟨h0, h1, h2, h3, h4, h5, h6, h7, h8, h9, h10, h11, h12, h13⟩ := h
  unfold cd11
  simp only [h0, h1, h2, h3, h4, h5, h6, h7, h8, h9, h10, h11, h12, h13, bc_false]
  rfl
theorem cd1_same (c : UInt8) (s : List UInt8) : chkI (cd01 c s) (cd11 c s) = true := by
  cases h : (kcd1.all fun k => !(leq k (c :: s))) with
  | true => rw [cd01_no c s h, cd11_no c s h]; rfl
  | false =>
    have := List.all_eq_true.1 cd1_all _ (or_in h)
    exact this
def kcd2 : List (List UInt8) := [[99, 99], [118, 99], [99, 115], [101, 113], [103, 101], [103, 116], [104, 105], [108, 101], [108, 115], [108, 116], [109, 105], [110, 101], [112, 108], [118, 115]]
theorem cd2_all : (kcd2.all fun k => chkI (cd02 (k.headD 0) k.tail) (cd12 (k.headD 0) k.tail)) = true := by kernel_rfl
theorem cd02_no (c : UInt8) (s : List UInt8) (h : (kcd2.all fun k => !(leq k (c :: s))) = true) : cd02 c s = dI := by
  simp only [kcd2, List.all_cons, List.all_nil, Bool.and_true, Bool.and_eq_true, Bool.not_eq_true'] at h
  obtain ⟨h0, h1, h2, h3, h4, h5, h6, h7, h8, h9, h10, h11, h12, h13⟩ := h
  have g0 := (leq_comm (c :: s) _).trans h0
  have g1 := (leq_comm (c :: s) _).trans h1
  have g2 := (leq_comm (c :: s) _).trans h2
  have g3 := (leq_comm (c :: s) _).trans h3
  have g4 := (leq_comm (c :: s) _).trans h4
  have g5 := (leq_comm (c :: s) _).trans h5
  have g6 := (leq_comm (c :: s) _).trans h6
  have g7 := (leq_comm (c :: s) _).trans h7
  have g8 := (leq_comm (c :: s) _).trans h8
  have g9 := (leq_comm (c :: s) _).trans h9
  have g10 := (leq_comm (c :: s) _).trans h10
  have g11 := (leq_comm (c :: s) _).trans h11
  have g12 := (leq_comm (c :: s) _).trans h12
  have g13 := (leq_comm (c :: s) _).trans h13
  unfold cd02
  simp only [g0, g1, g2, g3, g4, g5, g6, g7, g8, g9, g10, g11, g12, g13, bc_false]
  rfl
theorem cd12_no (c : UInt8) (s : List UInt8) (h : (kcd2.all fun k => !(leq k (c :: s))) = true) : cd12 c s = dI := by
  simp only [kcd2, List.all_cons, List.all_nil, Bool.and_true, Bool.and_eq_true, Bool.not_eq_true'] at h
  obtain ⟨h0, h1, h2, h3, h4, h5, h6, h7, h8, h9, h10, h11, h12, h13⟩ := h
  unfold cd12
  simp only [h0, h1, h2, h3, h4, h5, h6, h7, h8, h9, h10, h11, h12, h13, bc_false]
  rfl
theorem cd2_same (c : UInt8) (s : List UInt8) : chkI (cd02 c s) (cd12 c s) = true := by
  cases h : (kcd2.all fun k => !(leq k (c :: s))) with
  | true => rw [cd02_no c s h, cd12_no c s h]; rfl
  | false =>
    have := List.all_eq_true.1 cd2_all _ (or_in h)
    exact this
def kcd3 : List (List UInt8) := []
theorem cd3_all : (kcd3.all fun k => chkI (cd03 k) (cd13 k)) = true := by kernel_rfl
theorem cd03_no (s : List UInt8) (_ : (kcd3.all fun k => !(leq k s)) = true) : cd03 s = dI := by
  unfold cd03
  simp only [bcs]
  rfl
theorem cd13_no (s : List UInt8) (_ : (kcd3.all fun k => !(leq k s)) = true) : cd13 s = dI := rfl
theorem cd3_same (s : List UInt8) : chkI (cd03 s) (cd13 s) = true := by
  cases h : (kcd3.all fun k => !(leq k s)) with
  | true => rw [cd03_no s h, cd13_no s h]; rfl
  | false =>
    have := List.all_eq_true.1 cd3_all _ (or_in h)
    exact this
def cdV : Nat → List UInt8 → Option AV
  | 1, [] => dI
  | 1, c :: s => cd01 c s
  | 2, [] => dI
  | 2, c :: s => cd02 c s
  | _, s => cd03 s
def cdI (t : Nat) (s : List UInt8) : Int := intOf (cdV t s)
def cdB (t : Nat) (s : List UInt8) : Bool := bolOf (cdV t s)
def cdR (t : Nat) (s : List UInt8) : AV := .tup [.int .i64 (cdI t s), .bool (cdB t s)]
theorem v11x1 : ∀ s : List UInt8, callP E1 100000 (.call 11 [.int .i64 (.ofNat 1), .str s] (gHeap 12 gl)) [] jK = some (cdR 1 s)
  | [] => cd01_nil
  | c :: s => (cd01_eq c s).trans (chkI_of (cd1_same c s)).1
theorem v12x1 : ∀ s : List UInt8, callP E1 100000 (.call 12 [.int .i64 (.ofNat 1), .str s] (gHeap 12 gl)) [] jK = some (cdR 1 s)
  | [] => cd11_nil
  | c :: s => (cd11_eq c s).trans (chkI_of (cd1_same c s)).2
theorem v11x2 : ∀ s : List UInt8, callP E1 100000 (.call 11 [.int .i64 (.ofNat 2), .str s] (gHeap 12 gl)) [] jK = some (cdR 2 s)
  | [] => cd02_nil
  | c :: s => (cd02_eq c s).trans (chkI_of (cd2_same c s)).1
theorem v12x2 : ∀ s : List UInt8, callP E1 100000 (.call 12 [.int .i64 (.ofNat 2), .str s] (gHeap 12 gl)) [] jK = some (cdR 2 s)
  | [] => cd12_nil
  | c :: s => (cd12_eq c s).trans (chkI_of (cd2_same c s)).2
theorem v11x3 (s : List UInt8) : callP E1 100000 (.call 11 [.int .i64 (.ofNat 3), .str s] (gHeap 12 gl)) [] jK = some (cdR 3 s) := (cd03_eq s).trans (chkI_of (cd3_same s)).1
theorem v12x3 (s : List UInt8) : callP E1 100000 (.call 12 [.int .i64 (.ofNat 3), .str s] (gHeap 12 gl)) [] jK = some (cdR 3 s) := (cd13_eq s).trans (chkI_of (cd3_same s)).2
def FR (f t : Nat) (s : List UInt8) : Option AV := bif Nat.beq f 7 || Nat.beq f 8 then some (.tup [.str (opS t s), .bool (opB t s)]) else bif Nat.beq f 9 || Nat.beq f 10 then some (.tup [.int .i64 (rgI t s), .bool (rgB t s)]) else bif Nat.beq f 11 || Nat.beq f 12 then some (.tup [.int .i64 (cdI t s), .bool (cdB t s)]) else none
def FN : Nat → List AV → Option AV := fun f args => match args with
  | [.int .i64 (.ofNat t), .str s] => bif Nat.blt 0 t && Nat.blt t 4 then FR f t s else none
  | _ => none
theorem fr_cases {f t : Nat} {s : List UInt8} {v : AV} (h : FR f t s = some v) : ((f = 7 ∨ f = 8) ∧ v = opR t s) ∨ ((f = 9 ∨ f = 10) ∧ v = rgR t s) ∨ ((f = 11 ∨ f = 12) ∧ v = cdR t s) := by
  unfold FR at h
  simp only [Bool.cond_eq_ite, Bool.or_eq_true, Nat.beq_eq] at h
  split at h
  · rename_i e
    simp only [Option.some.injEq] at h
    exact .inl ⟨e, h.symm⟩
  split at h
  · rename_i e
    simp only [Option.some.injEq] at h
    exact .inr (.inl ⟨e, h.symm⟩)
  split at h
  · rename_i e
    simp only [Option.some.injEq] at h
    exact .inr (.inr ⟨e, h.symm⟩)
  · cases h
theorem fn_ok (f : Nat) (args : List AV) (v : AV) (h : FN f args = some v) : ∃ (E : Env) (n : Nat), (∀ w, GlobOk gl w → EnvOk E Tryz.prog (Kept gl w)) ∧ (gl.all fun x => Nat.blt x.1 E.ng) = true ∧ (E.fn f).isSome = true ∧ (∀ a ∈ args, Plain a) ∧ ∃ o, callP E n (.call f args (gHeap E.ng gl)) o jK = some v := by
  unfold FN at h
  split at h
  case h_2 => cases h
  rename_i t s
  simp only [Bool.cond_eq_ite, Bool.and_eq_true, Nat.blt_eq] at h
  split at h
  case isFalse => cases h
  rename_i ht
  have h3 : t = 1 ∨ t = 2 ∨ t = 3 := by omega
  have hp : ∀ a ∈ [AV.int .i64 (.ofNat t), AV.str s], Plain a := fun a ha => by
    rcases List.mem_cons.1 ha with rfl | ha
    · exact plain_int _ _
    · obtain rfl := List.mem_singleton.1 ha
      exact plain_str _
  rcases fr_cases h with ⟨hf, rfl⟩ | ⟨hf, rfl⟩ | ⟨hf, rfl⟩ <;> rcases hf with rfl | rfl <;> rcases h3 with rfl | rfl | rfl
  · exact ⟨E1, 100000, e1_ok, gl_ok, by kernel_rfl, hp, [], v7x1 s⟩
  · exact ⟨E1, 100000, e1_ok, gl_ok, by kernel_rfl, hp, [], v7x2 s⟩
  · exact ⟨E2, 100000, e2_ok, gl_ok, by kernel_rfl, hp, [], v7x3 s⟩
  · exact ⟨E1, 100000, e1_ok, gl_ok, by kernel_rfl, hp, [], v8x1 s⟩
  · exact ⟨E1, 100000, e1_ok, gl_ok, by kernel_rfl, hp, [], v8x2 s⟩
  · exact ⟨E1, 100000, e1_ok, gl_ok, by kernel_rfl, hp, [], v8x3 s⟩
  · exact ⟨E1, 100000, e1_ok, gl_ok, by kernel_rfl, hp, [], v9x1 s⟩
  · exact ⟨E1, 100000, e1_ok, gl_ok, by kernel_rfl, hp, [], v9x2 s⟩
  · exact ⟨E1, 100000, e1_ok, gl_ok, by kernel_rfl, hp, [], v9x3 s⟩
  · exact ⟨E1, 100000, e1_ok, gl_ok, by kernel_rfl, hp, [], v10x1 s⟩
  · exact ⟨E1, 100000, e1_ok, gl_ok, by kernel_rfl, hp, [], v10x2 s⟩
  · exact ⟨E1, 100000, e1_ok, gl_ok, by kernel_rfl, hp, [], v10x3 s⟩
  · exact ⟨E1, 100000, e1_ok, gl_ok, by kernel_rfl, hp, [], v11x1 s⟩
  · exact ⟨E1, 100000, e1_ok, gl_ok, by kernel_rfl, hp, [], v11x2 s⟩
  · exact ⟨E1, 100000, e1_ok, gl_ok, by kernel_rfl, hp, [], v11x3 s⟩
  · exact ⟨E1, 100000, e1_ok, gl_ok, by kernel_rfl, hp, [], v12x1 s⟩
  · exact ⟨E1, 100000, e1_ok, gl_ok, by kernel_rfl, hp, [], v12x2 s⟩
  · exact ⟨E1, 100000, e1_ok, gl_ok, by kernel_rfl, hp, [], v12x3 s⟩
def smN : Sm := orSm (extSm kinds) (orSm (retSm 4 true) (orSm (closedSm dn5x1) (orSm (closedSm dn5x2) (orSm (closedSm dn5x3) (orSm (closedSm dn6x1) (orSm (closedSm dn6x2) (orSm (closedSm dn6x3) (plainSm FN))))))))
theorem smN_ok : SmOk Tryz.prog gl smN := (smOk_ext ext_ok).or ((smOk_ret begun_ret).or (dn5x1_ok.or (dn5x2_ok.or (dn5x3_ok.or (dn6x1_ok.or (dn6x2_ok.or (dn6x3_ok.or (plain_ok fn_ok))))))))
def skN : List Nat := [4, 5, 6, 7, 8, 9, 10, 11, 12]
def EA : Env := envOf Tryz.prog 12 skN smN
theorem ea_ok (w : World) (hw : GlobOk gl w) : EnvOk EA Tryz.prog (Kept gl w) := envOk_sm (by kernel_rfl) smN_ok mixed_ok (fun _ _ _ h => h.1) (kept_carried hw).ext
def EO : Env := envOf Tryz.prog 12 [4] (orSm (extSm kinds) (retSm 4 true))
theorem eo_ok (w : World) (hw : GlobOk gl w) : EnvOk EO Tryz.prog (Kept gl w) := envOk_sm (by kernel_rfl) ((smOk_ext ext_ok).or (smOk_ret begun_ret)) mixed_ok (fun _ _ _ h => h.1) (kept_carried hw).ext
end
end Go.Proofs.YtopjbfgikglncaaGreatDoor
