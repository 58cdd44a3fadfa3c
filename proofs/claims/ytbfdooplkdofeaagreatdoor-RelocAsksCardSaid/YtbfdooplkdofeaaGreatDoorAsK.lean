/- Encode, Check and Operands of unknown names and other targets; what is to be answered. -/
import Derived.Test.YtbfdooplkdofeaaGreatDoorAsD
import Derived.KernelRfl
namespace Go.Proofs.YtbfdooplkdofeaaGreatDoor
open Go Go.Vai
noncomputable section
set_option maxRecDepth 100000
def AnsO (f : Nat) (args : List AV) (v : AV) : Prop := ∃ (E : Env) (n : Nat) (s : Smk AV) (pn : Pin), SmkOk E s ∧ (∀ w, Zay gl w → EnvOk E Tryz.prog (Kept gl w)) ∧ (gl.all fun x => Nat.blt x.1 E.ng) = true ∧ (E.fn f).isSome = true ∧ ∃ o, Zcq E s pn n (.call f args (Zap E.ng gl)) o jO = some v
def AnsV (f : Nat) (args : List AV) (v : AV) : Prop := ∃ (E : Env) (n : Nat) (s : Smk AV), SmkOk E s ∧ (∀ w, Zay gl w → EnvOk E Tryz.prog (Kept gl w)) ∧ (gl.all fun x => Nat.blt x.1 E.ng) = true ∧ (E.fn f).isSome = true ∧ ∃ o, Zcq E s Zdo n (.call f args (Zap E.ng gl)) o jK = some v
theorem e3_fn : (E3.fn 17).isSome = true := by kernel_rfl
theorem e3q_fn : (E3.fn 14).isSome = true := by kernel_rfl
theorem e3e_fn : (E3e.fn 17).isSome = true := by kernel_rfl
theorem erc_fn : (Er.fn 20).isSome = true := by kernel_rfl
theorem err_fn : (Er.fn 42).isSome = true := by kernel_rfl
theorem erre_fn : (Ere.fn 42).isSome = true := by kernel_rfl
theorem ansE {t : Int} {nm : List UInt8} {A B C D : Int} {v : AV} {g : Option AV} {o : Orc} (h : Zbo E3 100000 (.call 17 [.int .i64 t, insV nm A B C D (.ofNat 0)] (Zap 12 gl)) o jO = g) (hv : g = some v) : AnsO 17 [.int .i64 t, insV nm A B C D (.ofNat 0)] v := ⟨E3, 100000, _, Zdo, Zc5 E3, e3_ok, Za3, e3_fn, o, h.trans hv⟩
theorem ansEe {t : Int} {nm : List UInt8} {A B C D : Int} {v : AV} {g : Option AV} {o : Orc} (h : Zbo E3e 100000 (.call 17 [.int .i64 t, insV nm A B C D (.ofNat 0)] (Zap 12 gl)) o jO = g) (hv : g = some v) : AnsO 17 [.int .i64 t, insV nm A B C D (.ofNat 0)] v := ⟨E3e, 100000, _, Zdo, Zc5 E3e, e3e_ok, Za3, e3e_fn, o, h.trans hv⟩
theorem ansR {nm : List UInt8} {A B C D : Int} {v : AV} {g : Option AV} {o : Orc} (h : Zbo Er 100000 (.call 42 [insV nm A B C D (.ofNat 0)] (Zap 12 gl)) o jO = g) (hv : g = some v) : AnsO 42 [insV nm A B C D (.ofNat 0)] v := ⟨Er, 100000, _, Zdo, Zc5 Er, er_ok, Za3, err_fn, o, h.trans hv⟩
theorem ansRe {nm : List UInt8} {A B C D : Int} {v : AV} {g : Option AV} {o : Orc} (h : Zbo Ere 100000 (.call 42 [insV nm A B C D (.ofNat 0)] (Zap 12 gl)) o jO = g) (hv : g = some v) : AnsO 42 [insV nm A B C D (.ofNat 0)] v := ⟨Ere, 100000, _, Zdo, Zc5 Ere, ere_ok, Za3, erre_fn, o, h.trans hv⟩
theorem ansC {t : Int} {nm : List UInt8} {A B C D : Int} {v : AV} {g : Option AV} {o : Orc} (h : Zbo Er 100000 (.call 20 [.int .i64 t, insV nm A B C D (.ofNat 0)] (Zap 12 gl)) o jK = g) (hv : g = some v) : AnsV 20 [.int .i64 t, insV nm A B C D (.ofNat 0)] v := ⟨Er, 100000, _, Zc5 Er, er_ok, Za3, erc_fn, o, h.trans hv⟩
theorem ansQ {t : Int} {nm : List UInt8} {v : AV} {g : Option AV} {o : Orc} (h : Zbo E3 100000 (.call 14 [.int .i64 t, .str nm] (Zap 12 gl)) o jK = g) (hv : g = some v) : AnsV 14 [.int .i64 t, .str nm] v := ⟨E3, 100000, _, Zc5 E3, e3_ok, Za3, e3q_fn, o, h.trans hv⟩
theorem Zei {a b : Int} (h : ieq a b = true) : a = b := by rw [Zae, decide_eq_true_iff] at h; exact h
theorem leq_t {a b : List UInt8} (h : leq a b = true) : a = b := by rw [Zec, decide_eq_true_iff] at h; exact h
theorem Zaf (a b : List UInt8) : leq a b = leq b a := by rw [Zec, Zec]; exact decide_eq_decide.2 ⟨Eq.symm, Eq.symm⟩
def Zc7 (n : List UInt8) : List (List AV) → Bool
  | [] => true
  | (.str m :: _) :: l => !(leq m n) && Zc7 n l
  | _ :: l => Zc7 n l
theorem Zc6 (z : AV) (n : List UInt8) (l : List (List AV)) : Zc7 n l = true → Zb5 z n l = some z := by
  induction l with
  | nil => intro _; rfl
  | cons x l ih =>
    intro h
    cases x with
    | nil => exact ih h
    | cons a r =>
      cases a with
      | str m =>
        have h : (!(leq m n) && Zc7 n l) = true := h
        rw [Bool.and_eq_true, Bool.not_eq_true'] at h
        show bc (leq m n) _ (Zb5 z n l) = _
        rw [h.1, Zas]
        exact ih h.2
      | _ => exact ih h
def headed : List (List AV) → Bool
  | [] => true
  | (.str _ :: _) :: l => headed l
  | _ :: _ => false
theorem Zeh (n : List UInt8) (l : List (List AV)) : headed l = true → (∀ m ∈ l.map nmOf, leq m n = false) → Zc7 n l = true := by
  induction l with
  | nil => intro _ _; rfl
  | cons x l ih =>
    intro h hm
    cases x with
    | nil => cases h
    | cons a r =>
      cases a with
      | str m =>
        have h1 : leq m n = false := hm m List.mem_cons_self
        show (!(leq m n) && Zc7 n l) = true
        rw [h1, ih h fun k hk => hm k (List.mem_cons_of_mem _ hk)]; rfl
      | _ => cases h
def notK {α : Type} (z : AV) (rows : List (List AV)) (args : List AV) (H : AHeap) (k : AV → AHeap → Option α) : Option α := match args with
  | [.str n] => bc (Zc7 n rows) (k z H) none
  | _ => none
def SKN {α : Type} (E : Env) : Smk α := fun f args H k => bif Nat.beq f 91 then notK amZero amRows args H k else bif Nat.beq f 97 then notK arZero Zea args H k else bif Nat.beq f 158 then notK rvZero Zdv args H k else bif Nat.beq f 166 then notK coZero Zd4 args H k else smC E f args H k
theorem find_am {n : List UInt8} (h : Zc7 n amRows = true) (H : AHeap) (s : Sm) : orSm (Zd2 kinds) (orSm (Zb7 15) (orSm (Zaz findF) s)) 91 [.str n] H = some (amZero, H) := by
  rw [Zdg (by rfl), Zdg (by rfl)]
  refine or_some ?_
  show Option.rec (motive := fun _ => Option (AV × AHeap)) none (fun v => some (v, H)) (Zb5 amZero n amRows) = _
  rw [Zc6 _ _ _ h]
theorem find_ar {n : List UInt8} (h : Zc7 n Zea = true) (H : AHeap) (s : Sm) : orSm (Zd2 kinds) (orSm (Zb7 15) (orSm (Zaz findF) s)) 97 [.str n] H = some (arZero, H) := by
  rw [Zdg (by rfl), Zdg (by rfl)]
  refine or_some ?_
  show Option.rec (motive := fun _ => Option (AV × AHeap)) none (fun v => some (v, H)) (Zb5 arZero n Zea) = _
  rw [Zc6 _ _ _ h]
theorem find_rv {n : List UInt8} (h : Zc7 n Zdv = true) (H : AHeap) (s : Sm) : orSm (Zd2 kinds) (orSm (Zb7 15) (orSm (Zaz findF) s)) 158 [.str n] H = some (rvZero, H) := by
  rw [Zdg (by rfl), Zdg (by rfl)]
  refine or_some ?_
  show Option.rec (motive := fun _ => Option (AV × AHeap)) none (fun v => some (v, H)) (Zb5 rvZero n Zdv) = _
  rw [Zc6 _ _ _ h]
theorem find_co {n : List UInt8} (h : Zc7 n Zd4 = true) (H : AHeap) (s : Sm) : orSm (Zd2 kinds) (orSm (Zb7 15) (orSm (Zaz findF) s)) 166 [.str n] H = some (coZero, H) := by
  rw [Zdg (by rfl), Zdg (by rfl)]
  refine or_some ?_
  show Option.rec (motive := fun _ => Option (AV × AHeap)) none (fun v => some (v, H)) (Zb5 coZero n Zd4) = _
  rw [Zc6 _ _ _ h]
theorem skn_ok {α : Type} {E : Env} {s : Sm} (he : E.sm = orSm (Zd2 kinds) (orSm (Zb7 15) (orSm (Zaz findF) s))) : SmkOk (α := α) E (SKN E) := by
  intro f args H k r h
  unfold SKN at h
  simp only [Bool.cond_eq_ite, Nat.beq_eq] at h
  split at h
  · rename_i e
    subst e
    unfold notK at h
    split at h
    case h_2 => cases h
    obtain ⟨h1, h2⟩ := Zao h
    exact ⟨_, _, by rw [he]; exact find_am h1 H s, h2⟩
  split at h
  · rename_i e
    subst e
    unfold notK at h
    split at h
    case h_2 => cases h
    obtain ⟨h1, h2⟩ := Zao h
    exact ⟨_, _, by rw [he]; exact find_ar h1 H s, h2⟩
  split at h
  · rename_i e
    subst e
    unfold notK at h
    split at h
    case h_2 => cases h
    obtain ⟨h1, h2⟩ := Zao h
    exact ⟨_, _, by rw [he]; exact find_rv h1 H s, h2⟩
  split at h
  · rename_i e
    subst e
    unfold notK at h
    split at h
    case h_2 => cases h
    obtain ⟨h1, h2⟩ := Zao h
    exact ⟨_, _, by rw [he]; exact find_co h1 H s, h2⟩
  exact Zc5 _ _ _ _ _ _ h
theorem sk3_ok {α : Type} : SmkOk (α := α) E3 (SKN E3) := skn_ok (s := fldSm) rfl
theorem ska_ok {α : Type} (ev : EvT) : SmkOk (α := α) (Ea ev) (SKN (Ea ev)) := skn_ok (s := orSm fldSm (Zaz (encFv ev))) rfl
theorem ansEn {t : Int} {nm : List UInt8} {A B C D : Int} {v : AV} {g : Option AV} {o : Orc} (h : Zcq E3 (SKN E3) Zdo 100000 (.call 17 [.int .i64 t, insV nm A B C D (.ofNat 0)] (Zap 12 gl)) o jO = g) (hv : g = some v) : AnsO 17 [.int .i64 t, insV nm A B C D (.ofNat 0)] v := ⟨E3, 100000, _, Zdo, sk3_ok, e3_ok, Za3, e3_fn, o, h.trans hv⟩
theorem ansQn {t : Int} {nm : List UInt8} {v : AV} {g : Option AV} {o : Orc} (h : Zcq E3 (SKN E3) Zdo 100000 (.call 14 [.int .i64 t, .str nm] (Zap 12 gl)) o jK = g) (hv : g = some v) : AnsV 14 [.int .i64 t, .str nm] v := ⟨E3, 100000, _, sk3_ok, e3_ok, Za3, e3q_fn, o, h.trans hv⟩
def unk3 (nm : List UInt8) (v : AV) : Option AV := bc (!(Nat.blt (lenU nm) 2)) (bc (Nat.ble 2 (lenU nm)) (bc (leq (List.take 2 (List.drop 0 nm)) [99, 46]) (bc (Zc7 nm Zd4) (some v) none) (bc (Zc7 nm Zdv) (some v) none)) none) (bc (Zc7 nm Zdv) (some v) none)
theorem unk3_val (nm : List UInt8) (v : AV) (h1 : Zc7 nm Zd4 = true) (h2 : Zc7 nm Zdv = true) : unk3 nm v = some v := by
  unfold unk3
  rw [h1, h2, Zai, Zar]
  cases h : Nat.blt (lenU nm) 2 with
  | true => rfl
  | false =>
    have : Nat.ble 2 (lenU nm) = true := by
      rw [Nat.ble_eq]
      rcases Nat.lt_or_ge (lenU nm) 2 with h' | h'
      · have e : Nat.blt (lenU nm) 2 = true := by rw [Nat.blt_eq]; exact h'
        rw [e] at h; cases h
      · exact h'
    rw [this]; rfl
def u1L : List (List UInt8) := [109, 111, 118, 46, 114, 114] :: [109, 111, 118, 46, 114, 105] :: [109, 111, 118, 46, 114, 115] :: [109, 111, 118, 46, 114, 109] :: [109, 111, 118, 108, 46, 114, 109] :: [109, 111, 118, 115, 108, 46, 114, 109] :: [109, 111, 118, 122, 98, 46, 114, 109] :: [108, 101, 97] :: [109, 111, 118, 46, 109, 114] :: [109, 111, 118, 108, 46, 109, 114] :: [109, 111, 118, 98, 46, 109, 114] :: [109, 111, 118, 46, 102, 115] :: [97, 100, 100, 46, 114, 114] :: [111, 114, 46, 114, 114] :: [97, 110, 100, 46, 114, 114] :: [115, 117, 98, 46, 114, 114] :: [120, 111, 114, 46, 114, 114] :: [99, 109, 112, 46, 114, 114] :: [97, 100, 100, 46, 114, 109] :: [111, 114, 46, 114, 109] :: [97, 110, 100, 46, 114, 109] :: [115, 117, 98, 46, 114, 109] :: [120, 111, 114, 46, 114, 109] :: [99, 109, 112, 46, 114, 109] :: [97, 100, 100, 46, 114, 105] :: [111, 114, 46, 114, 105] :: [97, 110, 100, 46, 114, 105] :: [115, 117, 98, 46, 114, 105] :: [120, 111, 114, 46, 114, 105] :: [99, 109, 112, 46, 114, 105] :: [116, 101, 115, 116, 46, 114, 114] :: [105, 109, 117, 108, 46, 114, 114] :: [110, 111, 116] :: [110, 101, 103] :: [109, 117, 108] :: [100, 105, 118] :: [105, 100, 105, 118] :: [99, 113, 111] :: [115, 104, 108, 46, 114, 105] :: [115, 104, 114, 46, 114, 105] :: [115, 97, 114, 46, 114, 105] :: [115, 104, 108, 46, 114, 99] :: [115, 104, 114, 46, 114, 99] :: [115, 97, 114, 46, 114, 99] :: [99, 109, 111, 118] :: [112, 117, 115, 104] :: [112, 111, 112] :: [99, 97, 108, 108] :: [106, 109, 112] :: [106, 109, 112, 46, 115] :: [99, 97, 108, 108, 46, 114] :: [106, 109, 112, 46, 114] :: [106, 99, 99] :: [106, 99, 99, 46, 115] :: [114, 101, 116] :: [115, 121, 115, 99, 97, 108, 108] :: [110, 111, 112] :: [117, 100, 50] :: []
def u2L : List (List UInt8) := [109, 111, 118, 110] :: [109, 111, 118, 122] :: [109, 111, 118, 107] :: [97, 100, 100, 46, 105] :: [97, 100, 100, 115, 46, 105] :: [115, 117, 98, 46, 105] :: [115, 117, 98, 115, 46, 105] :: [97, 100, 100] :: [97, 100, 100, 115] :: [115, 117, 98] :: [115, 117, 98, 115] :: [97, 110, 100] :: [111, 114, 114] :: [101, 111, 114] :: [97, 110, 100, 115] :: [97, 110, 100, 46, 105] :: [111, 114, 114, 46, 105] :: [101, 111, 114, 46, 105] :: [97, 110, 100, 115, 46, 105] :: [109, 97, 100, 100] :: [109, 115, 117, 98] :: [117, 100, 105, 118] :: [115, 100, 105, 118] :: [108, 115, 108, 118] :: [108, 115, 114, 118] :: [97, 115, 114, 118] :: [115, 98, 102, 109] :: [117, 98, 102, 109] :: [99, 115, 101, 108] :: [99, 115, 105, 110, 99] :: [97, 100, 114] :: [97, 100, 114, 112] :: [108, 100, 114, 98] :: [115, 116, 114, 98] :: [108, 100, 114, 104] :: [115, 116, 114, 104] :: [108, 100, 114, 46, 119] :: [115, 116, 114, 46, 119] :: [108, 100, 114, 115, 119] :: [108, 100, 114] :: [115, 116, 114] :: [108, 100, 112] :: [115, 116, 112] :: [98] :: [98, 108] :: [98, 46, 99] :: [99, 98, 122] :: [99, 98, 110, 122] :: [98, 114] :: [98, 108, 114] :: [114, 101, 116] :: [115, 118, 99] :: [98, 114, 107] :: [110, 111, 112] :: []
def u3L : List (List UInt8) := [97, 100, 100] :: [115, 117, 98] :: [115, 108, 108] :: [115, 108, 116] :: [115, 108, 116, 117] :: [120, 111, 114] :: [115, 114, 108] :: [115, 114, 97] :: [111, 114] :: [97, 110, 100] :: [109, 117, 108] :: [109, 117, 108, 104] :: [109, 117, 108, 104, 115, 117] :: [109, 117, 108, 104, 117] :: [100, 105, 118] :: [100, 105, 118, 117] :: [114, 101, 109] :: [114, 101, 109, 117] :: [97, 100, 100, 119] :: [115, 117, 98, 119] :: [115, 108, 108, 119] :: [115, 114, 108, 119] :: [115, 114, 97, 119] :: [109, 117, 108, 119] :: [100, 105, 118, 119] :: [100, 105, 118, 117, 119] :: [114, 101, 109, 119] :: [114, 101, 109, 117, 119] :: [97, 100, 100, 105] :: [115, 108, 116, 105] :: [115, 108, 116, 105, 117] :: [120, 111, 114, 105] :: [111, 114, 105] :: [97, 110, 100, 105] :: [97, 100, 100, 105, 119] :: [108, 98] :: [108, 104] :: [108, 119] :: [108, 100] :: [108, 98, 117] :: [108, 104, 117] :: [108, 119, 117] :: [106, 97, 108, 114] :: [115, 108, 108, 105] :: [115, 114, 108, 105] :: [115, 114, 97, 105] :: [115, 108, 108, 105, 119] :: [115, 114, 108, 105, 119] :: [115, 114, 97, 105, 119] :: [115, 98] :: [115, 104] :: [115, 119] :: [115, 100] :: [98, 101, 113] :: [98, 110, 101] :: [98, 108, 116] :: [98, 103, 101] :: [98, 108, 116, 117] :: [98, 103, 101, 117] :: [108, 117, 105] :: [97, 117, 105, 112, 99] :: [106, 97, 108] :: [101, 99, 97, 108, 108] :: [101, 98, 114, 101, 97, 107] :: []
def u9L : List (List UInt8) := [99, 46, 97, 100, 100, 105, 52, 115, 112, 110] :: [99, 46, 108, 119] :: [99, 46, 108, 100] :: [99, 46, 115, 119] :: [99, 46, 115, 100] :: [99, 46, 110, 111, 112] :: [99, 46, 97, 100, 100, 105] :: [99, 46, 97, 100, 100, 105, 119] :: [99, 46, 108, 105] :: [99, 46, 97, 100, 100, 105, 49, 54, 115, 112] :: [99, 46, 108, 117, 105] :: [99, 46, 115, 114, 108, 105] :: [99, 46, 115, 114, 97, 105] :: [99, 46, 97, 110, 100, 105] :: [99, 46, 115, 117, 98] :: [99, 46, 120, 111, 114] :: [99, 46, 111, 114] :: [99, 46, 97, 110, 100] :: [99, 46, 115, 117, 98, 119] :: [99, 46, 97, 100, 100, 119] :: [99, 46, 106] :: [99, 46, 98, 101, 113, 122] :: [99, 46, 98, 110, 101, 122] :: [99, 46, 115, 108, 108, 105] :: [99, 46, 108, 119, 115, 112] :: [99, 46, 108, 100, 115, 112] :: [99, 46, 106, 114] :: [99, 46, 106, 97, 108, 114] :: [99, 46, 109, 118] :: [99, 46, 97, 100, 100] :: [99, 46, 101, 98, 114, 101, 97, 107] :: [99, 46, 115, 119, 115, 112] :: [99, 46, 115, 100, 115, 112] :: []
section
variable (ev : EvT) (nm mod : List UInt8) (t A B C D I : Int)
theorem ke1 : Zcq E3 (SKN E3) Zdo 100000 (.call 17 [.int .i64 (.ofNat 1), insV nm A B C D (.ofNat 0)] (Zap 12 gl)) [] jO = bc (Zc7 nm amRows) (some (.tup [.opq none, .int .i64 (.ofNat 7)])) none := by kernel_rfl
theorem ke2 : Zcq E3 (SKN E3) Zdo 100000 (.call 17 [.int .i64 (.ofNat 2), insV nm A B C D (.ofNat 0)] (Zap 12 gl)) [] jO = bc (Zc7 nm Zea) (some (.tup [.opq none, .int .i64 (.ofNat 7)])) none := by kernel_rfl
theorem ke3 : Zcq E3 (SKN E3) Zdo 100000 (.call 17 [.int .i64 (.ofNat 3), insV nm A B C D (.ofNat 0)] (Zap 12 gl)) [] jO = unk3 nm (.tup [.opq none, .int .i64 (.ofNat 7)]) := by kernel_rfl
theorem keo : Zbo E3 100000 (.call 17 [.int .i64 t, insV nm A B C D (.ofNat 0)] (Zap 12 gl)) [false, false, false] jO = cT [(ieq t (.ofNat 1), false), (ieq t (.ofNat 2), false), (ieq t (.ofNat 3), false)] (some (.tup [.opq none, .int .i64 (.ofNat 11)])) := by kernel_rfl
theorem kq2 : Zcq E3 (SKN E3) Zdo 100000 (.call 14 [.int .i64 (.ofNat 2), .str nm] (Zap 12 gl)) [] jK = bc (Zc7 nm Zea) (some (.tup [.str [], .bool false])) none := by kernel_rfl
theorem kq3 : Zcq E3 (SKN E3) Zdo 100000 (.call 14 [.int .i64 (.ofNat 3), .str nm] (Zap 12 gl)) [] jK = unk3 nm (.tup [.str [], .bool false]) := by kernel_rfl
theorem kqo : Zbo E3 100000 (.call 14 [.int .i64 t, .str nm] (Zap 12 gl)) [false, false, false] jK = cT [(ieq t (.ofNat 1), false), (ieq t (.ofNat 2), false), (ieq t (.ofNat 3), false)] (some (.tup [.str [], .bool false])) := by kernel_rfl
theorem ka : Zcq (Ea ev) (SKN (Ea ev)) Zdo 100000 (.call 5 [.int .i64 (.ofNat 1), insV nm A B C D I, .str mod] (Zap 12 gl)) [true, false, true, true, false, true] jK = bc (Zc7 nm amRows) (bc (!(ieq (ev (.ofNat 1) nm A B C D) (.ofNat 0))) (some badV) none) none := by kernel_rfl
theorem kc1 : Zbo Er 100000 (.call 20 [.int .i64 (.ofNat 1), insV nm A B C D (.ofNat 0)] (Zap 12 gl)) (Zal 122 3101531990164803703442216473987470683) jK = cT [] (cT (u1L.map fun m => (leq m nm, false)) (some (.int .i64 (.ofNat 7)))) := by kernel_rfl
theorem kc2 : Zbo Er 100000 (.call 20 [.int .i64 (.ofNat 2), insV nm A B C D (.ofNat 0)] (Zap 12 gl)) (Zal 115 24230718673162528933142316203027123) jK = cT [] (cT (u2L.map fun m => (leq m nm, false)) (some (.int .i64 (.ofNat 7)))) := by kernel_rfl
theorem kc3 : Zbo Er 100000 (.call 20 [.int .i64 (.ofNat 3), insV nm A B C D (.ofNat 0)] (Zap 12 gl)) (Zal 139 406524001014881151017578197678485756619267) jK = cT [(Nat.blt 2 (lenU nm), false)] (cT (u3L.map fun m => (leq m nm, false)) (some (.int .i64 (.ofNat 7)))) := by kernel_rfl
theorem kc3TT : Zbo Er 100000 (.call 20 [.int .i64 (.ofNat 3), insV nm A B C D (.ofNat 0)] (Zap 12 gl)) (Zal 77 88150841013566710655971) jK = cT [(Nat.blt 2 (lenU nm), true), (Nat.ble 2 (lenU nm), true), (leq (List.take 2 (List.drop 0 nm)) [99, 46], true)] (cT (u9L.map fun m => (leq m nm, false)) (some (.int .i64 (.ofNat 7)))) := by kernel_rfl
theorem kc3TF : Zbo Er 100000 (.call 20 [.int .i64 (.ofNat 3), insV nm A B C D (.ofNat 0)] (Zap 12 gl)) (Zal 139 406524001014881151017578197678485756619491) jK = cT [(Nat.blt 2 (lenU nm), true), (Nat.ble 2 (lenU nm), true), (leq (List.take 2 (List.drop 0 nm)) [99, 46], false)] (cT (u3L.map fun m => (leq m nm, false)) (some (.int .i64 (.ofNat 7)))) := by kernel_rfl
theorem kco1 : Zbo Er 100000 (.call 20 [.int .i64 t, insV nm A B C D (.ofNat 0)] (Zap 12 gl)) (Zal 3 4) jK = cT [(!(ilt t (.ofNat 1)), false)] (some (.int .i64 (.ofNat 11))) := by kernel_rfl
theorem kco2 : Zbo Er 100000 (.call 20 [.int .i64 t, insV nm A B C D (.ofNat 0)] (Zap 12 gl)) (Zal 3 7) jK = cT [(!(ilt t (.ofNat 1)), true), (!(!(ilt (.ofNat 3) t)), true)] (some (.int .i64 (.ofNat 11))) := by kernel_rfl
end
end
end Go.Proofs.YtbfdooplkdofeaaGreatDoor
