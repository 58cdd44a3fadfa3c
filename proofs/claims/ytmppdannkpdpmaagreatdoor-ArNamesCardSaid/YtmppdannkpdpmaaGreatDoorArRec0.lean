/- ar.draft.record: its runs from a small memory. -/
import Derived.Test.YtmppdannkpdpmaaGreatDoorArText
import Derived.Test.YtmppdannkpdpmaaGreatDoorVaiMut
import Derived.KernelRfl
namespace Go.Proofs.YtmppdannkpdpmaaGreatDoor
open Go Go.Vai
noncomputable section
set_option maxRecDepth 100000
def ERc : Env := K4 Tryz.prog 8 [39, 41, 52, 61, 62, 67, 77] (Y4 (Z2 Zeh) Va)
theorem Z1g {I : List MEnt → AHeap → World → Prop} (hI : ∀ M H w, I M H w → JG gl M H w) (hc : Carried I) : EnvOk ERc Tryz.prog I := Zfp (gl := gl) (by kernel_rfl) (Zvp.or Za0).j Qv hI hc.ext
def hdK {α : Type} (args : List AV) (H : AHeap) (k : AV → AHeap → Option α) : Option α := match args with
  | [.str s, .int .i64 (.ofNat n)] => bc (hdT s n) (k (.str (Zx s n)) H) none
  | _ => none
def Kh {α : Type} : Smk α := fun f args H k => bif Nat.beq f 41 then hdK args H k else none
theorem Zx8 {α : Type} : Qb (α := α) ERc Kh := fun f args H k r h => by
  unfold Kh at h
  cases hf : Nat.beq f 41 with
  | false => rw [hf] at h; cases h
  | true =>
    rw [hf] at h
    rw [Nat.beq_eq] at hf
    subst hf
    simp only [cond_true] at h
    unfold hdK at h
    split at h
    case h_2 => cases h
    rename_i s n
    obtain ⟨h1, h2⟩ := Zr h
    refine ⟨_, _, ?_, h2⟩
    have e : Zeh 41 [.str s, .int .i64 (.ofNat n)] = some (.str (Zx s n)) := by
      unfold Zeh
      simp only [Nat.beq_refl, h1, Bool.and_self, cond_true]
    refine Zby (a := Z2 Zeh) ?_
    unfold Z2
    rw [e]
abbrev Z3n := Nat × Nat × Nat × Tr AV × Option AV × Option AV
def Kq : TRes → Wc → Option Z3n
  | .call (.ret (.tup []) H), _ => (match H.get 8 with
    | some (.cells 3 T 47 none 0 false false) => (match T.get 0 with
      | some (.sl k 0 n none) => (match H.get k with
        | some (.cells m Tr 5 (some 1) 0 false false) => some (k, n, m, Tr, T.get 1, T.get 2)
        | _ => none)
      | _ => none)
    | _ => none)
  | _, _ => none
theorem Zig (i o n : Nat) : AV.eqb (.sl i o n none) (.sl i o n none) = true := by simp [AV.eqb]
theorem Yh (i o n c : Nat) : AV.eqb (.sl i o n (some c)) (.sl i o n (some c)) = true := by simp [AV.eqb]
theorem V8 {k n m n' : Nat} {T : Tr AV} {c1 c2 : Option AV} (h1 : n = n') (h2 : m = n') : some ((k, n, m, T, c1, c2) : Z3n) = some (k, n', n', T, c1, c2) := by rw [h1, h2]
theorem Xt.app {T : Tr AV} {L C : List UInt8} {o : Nat} (h : Xt T L) (ho : o = L.length) (hl : L.length + C.length < 2 ^ 46) : Xt (T.putAll o (C.map Ze)) (L ++ C) := fun i b hi => by
  subst ho
  rw [J7 _ _ _ _ (by rw [List.length_map]; omega), List.length_map]
  by_cases hi2 : i < L.length
  · rw [if_neg (by omega)]
    rw [List.getElem?_append_left hi2] at hi
    exact h i b hi
  · rw [List.getElem?_append_right (by omega)] at hi
    have := (List.getElem?_eq_some_iff.1 hi).1
    rw [if_pos (by omega), List.getElem?_map, hi]; rfl
theorem Zai {o : Nat} {D : List UInt8} (h : o + D.length < 2 ^ 46) : Yj (Tr.nil.putAll o (D.map Ze)) o (Nat.mul D.length 1) = true ∧ Zc (Tr.nil.putAll o (D.map Ze)) o (Nat.mul D.length 1) = D.map Ze := by
  have e : (Tr.nil.putAll o (D.map Ze)).getAll o (Nat.mul D.length 1) = some (D.map Ze) := by
    have := Zi1 (vs := D.map Ze) (o := o) (by rw [List.length_map]; omega) (Nat.mul D.length 1) 0 (by rw [List.length_map]; show 0 + D.length * 1 ≤ _; omega)
    rw [Nat.add_zero] at this
    rw [this, List.drop_zero, List.take_of_length_le (by rw [List.length_map]; show _ ≤ D.length * 1; omega)]
  unfold Yj Zc
  rw [e]; exact ⟨rfl, rfl⟩
theorem Z0m (nm lo B D : List UInt8) (y : AV) (M : Nat) (o c K : Nat) : Zn ERc Kh (Vp [(19, 0), (31, 0), (33, 0)]) 100 (.call 25 [.ptr 8 0, .str nm, .sl 10 o D.length (some c)] (Z6 8 [.cells 3 (Tr.nil.putAll 0 [.sl 9 0 M none, .str lo, y]) 47 none 0 false false, .cells M (bT B) 5 (some 1) 0 false false, .cells K (Tr.nil.putAll o (D.map Ze)) 0 none 0 true false])) [true] Kq = bc (Vx (Int.tmod (.ofNat M) (.ofNat 2)) (.ofNat 1)) (bc (Nat.blt (Nat.mul M 1) M) (none) (bc (Nat.beq M (Nat.mul M 1)) (bc (Z3 (Nat.succ M) 1) (bc (hdT nm D.length) (bc (AV.eqb (.sl 12 0 (Nat.succ M) none) (.sl 12 0 (Nat.succ M) none)) (bc (Nat.blt (Nat.mul (Nat.succ M) 1) (Nat.succ M)) (none) (bc (Nat.beq (Za (Zx nm D.length)) 0) (none) (bc (Nat.beq (Nat.succ M) (Nat.mul (Nat.succ M) 1)) (bc (Z3 (Nat.add (Nat.succ M) (Za (Zx nm D.length))) 1) (bc (J9 (List.map Ze (Zx nm D.length))) (bc (AV.eqb (.sl 10 o D.length (some c)) (.sl 10 o D.length (some c))) (bc (AV.eqb (.sl 10 o D.length (some c)) (.sl 10 o D.length (some c))) (bc (Nat.blt (Nat.mul (Nat.add (Nat.succ M) (Za (Zx nm D.length))) 1) (Nat.add (Nat.succ M) (Nat.mul (Za (Zx nm D.length)) 1))) (none) (bc (Yj (Tr.nil.putAll o (D.map Ze)) o (Nat.mul D.length 1)) (bc (Nat.beq D.length 0) (none) (bc (Nat.beq (Nat.add (Nat.succ M) (Nat.mul (Za (Zx nm D.length)) 1)) (Nat.mul (Nat.add (Nat.succ M) (Za (Zx nm D.length))) 1)) (bc (Z3 (Nat.add (Nat.add (Nat.succ M) (Za (Zx nm D.length))) D.length) 1) (bc (J9 (Zc (Tr.nil.putAll o (D.map Ze)) o (Nat.mul D.length 1))) (some (14, (Nat.add (Nat.add (Nat.succ M) (Za (Zx nm D.length))) D.length), (Nat.add (Nat.add (Nat.succ M) (Nat.mul (Za (Zx nm D.length)) 1)) (Nat.mul D.length 1)), Tr.putAll (Tr.putAll (Tr.putAll (bT B) M [.int .u8 (.ofNat 10)]) (Nat.succ M) (List.map Ze (Zx nm D.length))) (Nat.add (Nat.succ M) (Nat.mul (Za (Zx nm D.length)) 1)) (Zc (Tr.nil.putAll o (D.map Ze)) o (Nat.mul D.length 1)), some (.str lo), some y)) (none)) (none)) (none))) (none))) (none)) (none)) (none)) (none)) (none)))) (none)) (none)) (none)) (none))) (none) := by kernel_rfl
theorem Zv5 {nm lo B D : List UInt8} {y : AV} {M : Nat} {o c K : Nat} (hM : B.length = M) (hl : M ≤ 50000) (hp : M % 2 = 1) (hn : nm.length ≤ 16) (hD : 0 < D.length ∧ D.length < 1000) (ho : o + D.length < 2 ^ 46) : ∃ T, Zn ERc Kh (Vp [(19, 0), (31, 0), (33, 0)]) 100 (.call 25 [.ptr 8 0, .str nm, .sl 10 o D.length (some c)] (Z6 8 [.cells 3 (Tr.nil.putAll 0 [.sl 9 0 M none, .str lo, y]) 47 none 0 false false, .cells M (bT B) 5 (some 1) 0 false false, .cells K (Tr.nil.putAll o (D.map Ze)) 0 none 0 true false])) [true] Kq = some (14, (Zg B nm D).length, (Zg B nm D).length, T, some (.str lo), some y) ∧ Xt T (Zg B nm D) := by
  have hT : hdT nm D.length = true := by unfold hdT; rw [Zl hn, Z4 (by omega)]; rfl
  have h60 : Za (Zx nm D.length) = 60 := Qc hn _
  obtain ⟨hh, hg⟩ := Zai ho
  have hR : (Zg B nm D).length = M + M % 2 + (60 + D.length) := by rw [Vk hn, hM]
  refine ⟨_, (Z0m nm lo B D y M o c K).trans (Zf (by rw [Jd, Zbv]; exact Vd hp) (Zj (Zw (show ¬ (M * 1) < M by omega)) (Zf (Vd (show M = (M * 1) by omega)) (Zf (Zz (show (M + 1) ≤ 100000 by omega) (by decide)) (Zf (hT) (Zf (Zig _ _ _) (Zj (Zw (show ¬ ((M + 1) * 1) < (M + 1) by omega)) (Zj (Qy (show ¬ (Za (Zx nm D.length)) = 0 by omega)) (Zf (Vd (show (M + 1) = ((M + 1) * 1) by omega)) (Zf (Zz (show ((M + 1) + (Za (Zx nm D.length))) ≤ 100000 by omega) (by decide)) (Zf (W9 _) (Zf (Yh _ _ _ _) (Zf (Yh _ _ _ _) (Zj (Zw (show ¬ (((M + 1) + (Za (Zx nm D.length))) * 1) < ((M + 1) + ((Za (Zx nm D.length)) * 1)) by omega)) (Zf (hh) (Zj (Qy (show ¬ D.length = 0 by omega)) (Zf (Vd (show ((M + 1) + ((Za (Zx nm D.length)) * 1)) = (((M + 1) + (Za (Zx nm D.length))) * 1) by omega)) (Zf (Zz (show (((M + 1) + (Za (Zx nm D.length))) + D.length) ≤ 100000 by omega) (by decide)) (Zf (by rw [hg]; exact W9 _) (V8 (show (((M + 1) + (Za (Zx nm D.length))) + D.length) = _ by rw [hR]; omega) (show (((M + 1) + ((Za (Zx nm D.length)) * 1)) + (D.length * 1)) = _ by rw [hR]; omega))))))))))))))))))))), ?_⟩
  have he : Ka B = B ++ [10] := by unfold Ka; rw [show Nat.beq (Nat.mod B.length 2) 1 = true from Vd (by rw [hM]; exact hp)]; rfl
  unfold Zg
  rw [he]
  have h6 : (Zx nm D.length).length = 60 := h60
  have ql : (B ++ [10] ++ (Zx nm D.length)).length = M + 1 + 60 := by rw [List.length_append, List.length_append, hM, h6]; rfl
  have q1 := Xt.app (C := (Zx nm D.length)) (Xt.app (C := [10]) (W1 (L := B) (by omega)) hM.symm (by show B.length + 1 < _; omega)) (by rw [List.length_append, hM]) (by rw [← List.length_append, ql]; omega)
  rw [← List.append_assoc, hg]
  exact Xt.app q1 (by rw [ql]; show ((M + 1) + ((Za (Zx nm D.length)) * 1)) = _; omega) (by rw [ql]; omega)
theorem Zzw (nm lo B D : List UInt8) (y : AV) (M : Nat) (o c K : Nat) : Zn ERc Kh (Vp [(19, 0), (31, 0), (33, 0)]) 100 (.call 25 [.ptr 8 0, .str nm, .sl 10 o D.length (some c)] (Z6 8 [.cells 3 (Tr.nil.putAll 0 [.sl 9 0 M none, .str lo, y]) 47 none 0 false false, .cells M (bT B) 5 (some 1) 0 false false, .cells K (Tr.nil.putAll o (D.map Ze)) 0 none 0 true false])) [false] Kq = bc (Vx (Int.tmod (.ofNat M) (.ofNat 2)) (.ofNat 1)) (none) (bc (hdT nm D.length) (bc (AV.eqb (.sl 9 0 M none) (.sl 9 0 M none)) (bc (Nat.blt (Nat.mul M 1) M) (none) (bc (Nat.beq (Za (Zx nm D.length)) 0) (none) (bc (Nat.beq M (Nat.mul M 1)) (bc (Z3 (Nat.add M (Za (Zx nm D.length))) 1) (bc (J9 (List.map Ze (Zx nm D.length))) (bc (AV.eqb (.sl 10 o D.length (some c)) (.sl 10 o D.length (some c))) (bc (AV.eqb (.sl 10 o D.length (some c)) (.sl 10 o D.length (some c))) (bc (Nat.blt (Nat.mul (Nat.add M (Za (Zx nm D.length))) 1) (Nat.add M (Nat.mul (Za (Zx nm D.length)) 1))) (none) (bc (Yj (Tr.nil.putAll o (D.map Ze)) o (Nat.mul D.length 1)) (bc (Nat.beq D.length 0) (none) (bc (Nat.beq (Nat.add M (Nat.mul (Za (Zx nm D.length)) 1)) (Nat.mul (Nat.add M (Za (Zx nm D.length))) 1)) (bc (Z3 (Nat.add (Nat.add M (Za (Zx nm D.length))) D.length) 1) (bc (J9 (Zc (Tr.nil.putAll o (D.map Ze)) o (Nat.mul D.length 1))) (some (12, (Nat.add (Nat.add M (Za (Zx nm D.length))) D.length), (Nat.add (Nat.add M (Nat.mul (Za (Zx nm D.length)) 1)) (Nat.mul D.length 1)), Tr.putAll (Tr.putAll (bT B) M (List.map Ze (Zx nm D.length))) (Nat.add M (Nat.mul (Za (Zx nm D.length)) 1)) (Zc (Tr.nil.putAll o (D.map Ze)) o (Nat.mul D.length 1)), some (.str lo), some y)) (none)) (none)) (none))) (none))) (none)) (none)) (none)) (none)) (none)))) (none)) (none)) := by kernel_rfl
theorem Zwj {nm lo B D : List UInt8} {y : AV} {M : Nat} {o c K : Nat} (hM : B.length = M) (hl : M ≤ 50000) (hp : M % 2 = 0) (hn : nm.length ≤ 16) (hD : 0 < D.length ∧ D.length < 1000) (ho : o + D.length < 2 ^ 46) : ∃ T, Zn ERc Kh (Vp [(19, 0), (31, 0), (33, 0)]) 100 (.call 25 [.ptr 8 0, .str nm, .sl 10 o D.length (some c)] (Z6 8 [.cells 3 (Tr.nil.putAll 0 [.sl 9 0 M none, .str lo, y]) 47 none 0 false false, .cells M (bT B) 5 (some 1) 0 false false, .cells K (Tr.nil.putAll o (D.map Ze)) 0 none 0 true false])) [false] Kq = some (12, (Zg B nm D).length, (Zg B nm D).length, T, some (.str lo), some y) ∧ Xt T (Zg B nm D) := by
  have hT : hdT nm D.length = true := by unfold hdT; rw [Zl hn, Z4 (by omega)]; rfl
  have h60 : Za (Zx nm D.length) = 60 := Qc hn _
  obtain ⟨hh, hg⟩ := Zai ho
  have hR : (Zg B nm D).length = M + M % 2 + (60 + D.length) := by rw [Vk hn, hM]
  refine ⟨_, (Zzw nm lo B D y M o c K).trans (Zj (by rw [Jd, Zbv]; exact Qy (by omega)) (Zf (hT) (Zf (Zig _ _ _) (Zj (Zw (show ¬ (M * 1) < M by omega)) (Zj (Qy (show ¬ (Za (Zx nm D.length)) = 0 by omega)) (Zf (Vd (show M = (M * 1) by omega)) (Zf (Zz (show (M + (Za (Zx nm D.length))) ≤ 100000 by omega) (by decide)) (Zf (W9 _) (Zf (Yh _ _ _ _) (Zf (Yh _ _ _ _) (Zj (Zw (show ¬ ((M + (Za (Zx nm D.length))) * 1) < (M + ((Za (Zx nm D.length)) * 1)) by omega)) (Zf (hh) (Zj (Qy (show ¬ D.length = 0 by omega)) (Zf (Vd (show (M + ((Za (Zx nm D.length)) * 1)) = ((M + (Za (Zx nm D.length))) * 1) by omega)) (Zf (Zz (show ((M + (Za (Zx nm D.length))) + D.length) ≤ 100000 by omega) (by decide)) (Zf (by rw [hg]; exact W9 _) (V8 (show ((M + (Za (Zx nm D.length))) + D.length) = _ by rw [hR]; omega) (show ((M + ((Za (Zx nm D.length)) * 1)) + (D.length * 1)) = _ by rw [hR]; omega)))))))))))))))))), ?_⟩
  have he : Ka B = B := by unfold Ka; rw [show Nat.beq (Nat.mod B.length 2) 1 = false from Qy (by rw [hM]; show ¬ M % 2 = 1; omega)]; rfl
  unfold Zg
  rw [he]
  have h6 : (Zx nm D.length).length = 60 := h60
  have ql : (B ++ (Zx nm D.length)).length = M + 60 := by rw [List.length_append, hM, h6]
  have q1 := Xt.app (C := (Zx nm D.length)) (W1 (L := B) (by omega)) hM.symm (by omega)
  rw [← List.append_assoc, hg]
  exact Xt.app q1 (by rw [ql]; show (M + ((Za (Zx nm D.length)) * 1)) = _; omega) (by rw [ql]; omega)
theorem Z03 (nm lo B D : List UInt8) (y : AV) (o c K : Nat) : Zn ERc Kh (Vp [(19, 0), (31, 0), (33, 0)]) 100 (.call 25 [.ptr 8 0, .str nm, .sl 10 o D.length (some c)] (Z6 8 [.cells 3 (Tr.nil.putAll 0 [.sl 9 0 8 (some 8), .str lo, y]) 47 none 0 false false, .cells 8 (bT B) 5 none 0 false true, .cells K (Tr.nil.putAll o (D.map Ze)) 0 none 0 true false])) [] Kq = bc (hdT nm D.length) (bc (Nat.ble (Nat.add 8 (Za (Zx nm D.length))) 8) (none) (bc (Z3 (Nat.add 8 (Za (Zx nm D.length))) 1) (bc (Yj (bT B) 0 8) (bc (AV.eqb (.sl 10 o D.length (some c)) (.sl 10 o D.length (some c))) (bc (AV.eqb (.sl 10 o D.length (some c)) (.sl 10 o D.length (some c))) (bc (Nat.blt (Nat.mul (Nat.add 8 (Za (Zx nm D.length))) 1) (Nat.mul (Nat.add 8 (Za (Zx nm D.length))) 1)) (none) (bc (Yj (Tr.nil.putAll o (D.map Ze)) o (Nat.mul D.length 1)) (bc (Nat.beq D.length 0) (none) (bc (Nat.beq (Nat.mul (Nat.add 8 (Za (Zx nm D.length))) 1) (Nat.mul (Nat.add 8 (Za (Zx nm D.length))) 1)) (bc (Z3 (Nat.add (Nat.add 8 (Za (Zx nm D.length))) D.length) 1) (bc (J9 (Zc (Tr.nil.putAll o (D.map Ze)) o (Nat.mul D.length 1))) (some (12, (Nat.add (Nat.add 8 (Za (Zx nm D.length))) D.length), (Nat.add (Nat.mul (Nat.add 8 (Za (Zx nm D.length))) 1) (Nat.mul D.length 1)), Tr.putAll (Tr.putAll Tr.nil 0 ((Zc (bT B) 0 8) ++ (List.map Ze (Zx nm D.length)))) (Nat.mul (Nat.add 8 (Za (Zx nm D.length))) 1) (Zc (Tr.nil.putAll o (D.map Ze)) o (Nat.mul D.length 1)), some (.str lo), some y)) (none)) (none)) (none))) (none))) (none)) (none)) (none)) (none))) (none) := by kernel_rfl
theorem Zw2 {nm lo B D : List UInt8} {y : AV} {o c K : Nat} (hM : B.length = 8) (hn : nm.length ≤ 16) (hD : 0 < D.length ∧ D.length < 1000) (ho : o + D.length < 2 ^ 46) : ∃ T, Zn ERc Kh (Vp [(19, 0), (31, 0), (33, 0)]) 100 (.call 25 [.ptr 8 0, .str nm, .sl 10 o D.length (some c)] (Z6 8 [.cells 3 (Tr.nil.putAll 0 [.sl 9 0 8 (some 8), .str lo, y]) 47 none 0 false false, .cells 8 (bT B) 5 none 0 false true, .cells K (Tr.nil.putAll o (D.map Ze)) 0 none 0 true false])) [] Kq = some (12, (Zg B nm D).length, (Zg B nm D).length, T, some (.str lo), some y) ∧ Xt T (Zg B nm D) := by
  have hT : hdT nm D.length = true := by unfold hdT; rw [Zl hn, Z4 (by omega)]; rfl
  have h60 : Za (Zx nm D.length) = 60 := Qc hn _
  obtain ⟨hh, hg⟩ := Zai ho
  obtain ⟨hb, hgb⟩ := Zai (o := 0) (D := B) (by omega)
  rw [hM] at hb hgb
  have hR : (Zg B nm D).length = 8 + (60 + D.length) := by rw [Vk hn, hM]
  refine ⟨_, (Z03 nm lo B D y o c K).trans (Zf (hT) (Zj (Zgf (show ¬ (8 + (Za (Zx nm D.length))) ≤ 8 by omega)) (Zf (Zz (show (8 + (Za (Zx nm D.length))) ≤ 100000 by omega) (by decide)) (Zf (hb) (Zf (Yh _ _ _ _) (Zf (Yh _ _ _ _) (Zj (Zw (show ¬ ((8 + (Za (Zx nm D.length))) * 1) < ((8 + (Za (Zx nm D.length))) * 1) by omega)) (Zf (hh) (Zj (Qy (show ¬ D.length = 0 by omega)) (Zf (Vd (show ((8 + (Za (Zx nm D.length))) * 1) = ((8 + (Za (Zx nm D.length))) * 1) by omega)) (Zf (Zz (show ((8 + (Za (Zx nm D.length))) + D.length) ≤ 100000 by omega) (by decide)) (Zf (by rw [hg]; exact W9 _) (V8 (show ((8 + (Za (Zx nm D.length))) + D.length) = _ by rw [hR]; omega) (show (((8 + (Za (Zx nm D.length))) * 1) + (D.length * 1)) = _ by rw [hR]; omega)))))))))))))), ?_⟩
  have he : Ka B = B := by unfold Ka; rw [hM]; rfl
  unfold Zg
  rw [he]
  have h6 : (Zx nm D.length).length = 60 := h60
  have ql : (B ++ (Zx nm D.length)).length = 8 + 60 := by rw [List.length_append, hM, h6]
  rw [hgb, ← List.map_append]
  have q1 := W1 (L := B ++ (Zx nm D.length)) (by rw [ql]; decide)
  rw [← List.append_assoc, hg]
  exact Xt.app q1 (by rw [ql]; show ((8 + (Za (Zx nm D.length))) * 1) = _; omega) (by rw [ql]; omega)
theorem Z12 (nm lo B : List UInt8) (y : AV) (M : Nat) : Zn ERc Kh (Vp [(19, 0), (31, 0), (33, 2)]) 100 (.call 25 [.ptr 8 0, .str nm, .nils] (Z6 8 [.cells 3 (Tr.nil.putAll 0 [.sl 9 0 M none, .str lo, y]) 47 none 0 false false, .cells M (bT B) 5 (some 1) 0 false false])) [true] Kq = bc (Vx (Int.tmod (.ofNat M) (.ofNat 2)) (.ofNat 1)) (bc (Nat.blt (Nat.mul M 1) M) (none) (bc (Nat.beq M (Nat.mul M 1)) (bc (Z3 (Nat.succ M) 1) (bc (hdT nm 0) (bc (AV.eqb (.sl 11 0 (Nat.succ M) none) (.sl 11 0 (Nat.succ M) none)) (bc (Nat.blt (Nat.mul (Nat.succ M) 1) (Nat.succ M)) (none) (bc (Nat.beq (Za (Zx nm 0)) 0) (none) (bc (Nat.beq (Nat.succ M) (Nat.mul (Nat.succ M) 1)) (bc (Z3 (Nat.add (Nat.succ M) (Za (Zx nm 0))) 1) (bc (J9 (List.map Ze (Zx nm 0))) (bc (Nat.blt (Nat.mul (Nat.add (Nat.succ M) (Za (Zx nm 0))) 1) (Nat.add (Nat.succ M) (Nat.mul (Za (Zx nm 0)) 1))) (none) (some (12, (Nat.add (Nat.succ M) (Za (Zx nm 0))), (Nat.add (Nat.succ M) (Nat.mul (Za (Zx nm 0)) 1)), Tr.putAll (Tr.putAll (bT B) M [.int .u8 (.ofNat 10)]) (Nat.succ M) (List.map Ze (Zx nm 0)), some (.str lo), some y))) (none)) (none)) (none)))) (none)) (none)) (none)) (none))) (none) := by kernel_rfl
theorem Zx2 {nm lo B : List UInt8} {y : AV} {M : Nat} (hM : B.length = M) (hl : M ≤ 50000) (hp : M % 2 = 1) (hn : nm.length ≤ 16) : ∃ T, Zn ERc Kh (Vp [(19, 0), (31, 0), (33, 2)]) 100 (.call 25 [.ptr 8 0, .str nm, .nils] (Z6 8 [.cells 3 (Tr.nil.putAll 0 [.sl 9 0 M none, .str lo, y]) 47 none 0 false false, .cells M (bT B) 5 (some 1) 0 false false])) [true] Kq = some (12, (Zg B nm ([] : List UInt8)).length, (Zg B nm ([] : List UInt8)).length, T, some (.str lo), some y) ∧ Xt T (Zg B nm ([] : List UInt8)) := by
  have hT : hdT nm 0 = true := by unfold hdT; rw [Zl hn]; rfl
  have h60 : Za (Zx nm 0) = 60 := Qc hn _
  have hR : (Zg B nm ([] : List UInt8)).length = M + M % 2 + 60 := by rw [Vk hn, hM]; rfl
  refine ⟨_, (Z12 nm lo B y M).trans (Zf (by rw [Jd, Zbv]; exact Vd hp) (Zj (Zw (show ¬ (M * 1) < M by omega)) (Zf (Vd (show M = (M * 1) by omega)) (Zf (Zz (show (M + 1) ≤ 100000 by omega) (by decide)) (Zf (hT) (Zf (Zig _ _ _) (Zj (Zw (show ¬ ((M + 1) * 1) < (M + 1) by omega)) (Zj (Qy (show ¬ (Za (Zx nm 0)) = 0 by omega)) (Zf (Vd (show (M + 1) = ((M + 1) * 1) by omega)) (Zf (Zz (show ((M + 1) + (Za (Zx nm 0))) ≤ 100000 by omega) (by decide)) (Zf (W9 _) (Zj (Zw (show ¬ (((M + 1) + (Za (Zx nm 0))) * 1) < ((M + 1) + ((Za (Zx nm 0)) * 1)) by omega)) (V8 (show ((M + 1) + (Za (Zx nm 0))) = _ by rw [hR]; omega) (show ((M + 1) + ((Za (Zx nm 0)) * 1)) = _ by rw [hR]; omega)))))))))))))), ?_⟩
  have he : Ka B = B ++ [10] := by unfold Ka; rw [show Nat.beq (Nat.mod B.length 2) 1 = true from Vd (by rw [hM]; exact hp)]; rfl
  unfold Zg
  rw [he]
  have h6 : (Zx nm 0).length = 60 := h60
  have ql : (B ++ [10] ++ (Zx nm 0)).length = M + 1 + 60 := by rw [List.length_append, List.length_append, hM, h6]; rfl
  have q1 := Xt.app (C := (Zx nm 0)) (Xt.app (C := [10]) (W1 (L := B) (by omega)) hM.symm (by show B.length + 1 < _; omega)) (by rw [List.length_append, hM]) (by rw [← List.length_append, ql]; omega)
  rw [List.append_nil]
  exact q1
theorem Z0t (nm lo B : List UInt8) (y : AV) (M : Nat) : Zn ERc Kh (Vp [(19, 0), (31, 0), (33, 2)]) 100 (.call 25 [.ptr 8 0, .str nm, .nils] (Z6 8 [.cells 3 (Tr.nil.putAll 0 [.sl 9 0 M none, .str lo, y]) 47 none 0 false false, .cells M (bT B) 5 (some 1) 0 false false])) [false] Kq = bc (Vx (Int.tmod (.ofNat M) (.ofNat 2)) (.ofNat 1)) (none) (bc (hdT nm 0) (bc (AV.eqb (.sl 9 0 M none) (.sl 9 0 M none)) (bc (Nat.blt (Nat.mul M 1) M) (none) (bc (Nat.beq (Za (Zx nm 0)) 0) (none) (bc (Nat.beq M (Nat.mul M 1)) (bc (Z3 (Nat.add M (Za (Zx nm 0))) 1) (bc (J9 (List.map Ze (Zx nm 0))) (bc (Nat.blt (Nat.mul (Nat.add M (Za (Zx nm 0))) 1) (Nat.add M (Nat.mul (Za (Zx nm 0)) 1))) (none) (some (10, (Nat.add M (Za (Zx nm 0))), (Nat.add M (Nat.mul (Za (Zx nm 0)) 1)), Tr.putAll (bT B) M (List.map Ze (Zx nm 0)), some (.str lo), some y))) (none)) (none)) (none)))) (none)) (none)) := by kernel_rfl
theorem Zwf {nm lo B : List UInt8} {y : AV} {M : Nat} (hM : B.length = M) (hl : M ≤ 50000) (hp : M % 2 = 0) (hn : nm.length ≤ 16) : ∃ T, Zn ERc Kh (Vp [(19, 0), (31, 0), (33, 2)]) 100 (.call 25 [.ptr 8 0, .str nm, .nils] (Z6 8 [.cells 3 (Tr.nil.putAll 0 [.sl 9 0 M none, .str lo, y]) 47 none 0 false false, .cells M (bT B) 5 (some 1) 0 false false])) [false] Kq = some (10, (Zg B nm ([] : List UInt8)).length, (Zg B nm ([] : List UInt8)).length, T, some (.str lo), some y) ∧ Xt T (Zg B nm ([] : List UInt8)) := by
  have hT : hdT nm 0 = true := by unfold hdT; rw [Zl hn]; rfl
  have h60 : Za (Zx nm 0) = 60 := Qc hn _
  have hR : (Zg B nm ([] : List UInt8)).length = M + M % 2 + 60 := by rw [Vk hn, hM]; rfl
  refine ⟨_, (Z0t nm lo B y M).trans (Zj (by rw [Jd, Zbv]; exact Qy (by omega)) (Zf (hT) (Zf (Zig _ _ _) (Zj (Zw (show ¬ (M * 1) < M by omega)) (Zj (Qy (show ¬ (Za (Zx nm 0)) = 0 by omega)) (Zf (Vd (show M = (M * 1) by omega)) (Zf (Zz (show (M + (Za (Zx nm 0))) ≤ 100000 by omega) (by decide)) (Zf (W9 _) (Zj (Zw (show ¬ ((M + (Za (Zx nm 0))) * 1) < (M + ((Za (Zx nm 0)) * 1)) by omega)) (V8 (show (M + (Za (Zx nm 0))) = _ by rw [hR]; omega) (show (M + ((Za (Zx nm 0)) * 1)) = _ by rw [hR]; omega))))))))))), ?_⟩
  have he : Ka B = B := by unfold Ka; rw [show Nat.beq (Nat.mod B.length 2) 1 = false from Qy (by rw [hM]; show ¬ M % 2 = 1; omega)]; rfl
  unfold Zg
  rw [he]
  have h6 : (Zx nm 0).length = 60 := h60
  have ql : (B ++ (Zx nm 0)).length = M + 60 := by rw [List.length_append, hM, h6]
  have q1 := Xt.app (C := (Zx nm 0)) (W1 (L := B) (by omega)) hM.symm (by omega)
  rw [List.append_nil]
  exact q1
theorem Z0r (nm lo B : List UInt8) (y : AV) : Zn ERc Kh (Vp [(19, 0), (31, 0), (33, 2)]) 100 (.call 25 [.ptr 8 0, .str nm, .nils] (Z6 8 [.cells 3 (Tr.nil.putAll 0 [.sl 9 0 8 (some 8), .str lo, y]) 47 none 0 false false, .cells 8 (bT B) 5 none 0 false true])) [] Kq = bc (hdT nm 0) (bc (Nat.ble (Nat.add 8 (Za (Zx nm 0))) 8) (none) (bc (Z3 (Nat.add 8 (Za (Zx nm 0))) 1) (bc (Yj (bT B) 0 8) (bc (Nat.blt (Nat.mul (Nat.add 8 (Za (Zx nm 0))) 1) (Nat.mul (Nat.add 8 (Za (Zx nm 0))) 1)) (none) (some (10, (Nat.add 8 (Za (Zx nm 0))), (Nat.mul (Nat.add 8 (Za (Zx nm 0))) 1), Tr.putAll Tr.nil 0 ((Zc (bT B) 0 8) ++ (List.map Ze (Zx nm 0))), some (.str lo), some y))) (none)) (none))) (none) := by kernel_rfl
theorem Zwx {nm lo B : List UInt8} {y : AV} (hM : B.length = 8) (hn : nm.length ≤ 16) : ∃ T, Zn ERc Kh (Vp [(19, 0), (31, 0), (33, 2)]) 100 (.call 25 [.ptr 8 0, .str nm, .nils] (Z6 8 [.cells 3 (Tr.nil.putAll 0 [.sl 9 0 8 (some 8), .str lo, y]) 47 none 0 false false, .cells 8 (bT B) 5 none 0 false true])) [] Kq = some (10, (Zg B nm ([] : List UInt8)).length, (Zg B nm ([] : List UInt8)).length, T, some (.str lo), some y) ∧ Xt T (Zg B nm ([] : List UInt8)) := by
  have hT : hdT nm 0 = true := by unfold hdT; rw [Zl hn]; rfl
  have h60 : Za (Zx nm 0) = 60 := Qc hn _
  obtain ⟨hb, hgb⟩ := Zai (o := 0) (D := B) (by omega)
  rw [hM] at hb hgb
  have hR : (Zg B nm ([] : List UInt8)).length = 8 + 60 := by rw [Vk hn, hM]; rfl
  refine ⟨_, (Z0r nm lo B y).trans (Zf (hT) (Zj (Zgf (show ¬ (8 + (Za (Zx nm 0))) ≤ 8 by omega)) (Zf (Zz (show (8 + (Za (Zx nm 0))) ≤ 100000 by omega) (by decide)) (Zf (hb) (Zj (Zw (show ¬ ((8 + (Za (Zx nm 0))) * 1) < ((8 + (Za (Zx nm 0))) * 1) by omega)) (V8 (show (8 + (Za (Zx nm 0))) = _ by rw [hR]; omega) (show ((8 + (Za (Zx nm 0))) * 1) = _ by rw [hR]; omega))))))), ?_⟩
  have he : Ka B = B := by unfold Ka; rw [hM]; rfl
  unfold Zg
  rw [he]
  have h6 : (Zx nm 0).length = 60 := h60
  have ql : (B ++ (Zx nm 0)).length = 8 + 60 := by rw [List.length_append, hM, h6]
  rw [hgb, ← List.map_append]
  have q1 := W1 (L := B ++ (Zx nm 0)) (by rw [ql]; decide)
  rw [List.append_nil]
  exact q1
theorem Z0z (nm lo B : List UInt8) (y : AV) (M : Nat) : Zn ERc Kh (Vp [(19, 0), (31, 0), (33, 2)]) 100 (.call 25 [.ptr 8 0, .str nm, .sl0] (Z6 8 [.cells 3 (Tr.nil.putAll 0 [.sl 9 0 M none, .str lo, y]) 47 none 0 false false, .cells M (bT B) 5 (some 1) 0 false false])) [true] Kq = bc (Vx (Int.tmod (.ofNat M) (.ofNat 2)) (.ofNat 1)) (bc (Nat.blt (Nat.mul M 1) M) (none) (bc (Nat.beq M (Nat.mul M 1)) (bc (Z3 (Nat.succ M) 1) (bc (hdT nm 0) (bc (AV.eqb (.sl 11 0 (Nat.succ M) none) (.sl 11 0 (Nat.succ M) none)) (bc (Nat.blt (Nat.mul (Nat.succ M) 1) (Nat.succ M)) (none) (bc (Nat.beq (Za (Zx nm 0)) 0) (none) (bc (Nat.beq (Nat.succ M) (Nat.mul (Nat.succ M) 1)) (bc (Z3 (Nat.add (Nat.succ M) (Za (Zx nm 0))) 1) (bc (J9 (List.map Ze (Zx nm 0))) (bc (Nat.blt (Nat.mul (Nat.add (Nat.succ M) (Za (Zx nm 0))) 1) (Nat.add (Nat.succ M) (Nat.mul (Za (Zx nm 0)) 1))) (none) (some (12, (Nat.add (Nat.succ M) (Za (Zx nm 0))), (Nat.add (Nat.succ M) (Nat.mul (Za (Zx nm 0)) 1)), Tr.putAll (Tr.putAll (bT B) M [.int .u8 (.ofNat 10)]) (Nat.succ M) (List.map Ze (Zx nm 0)), some (.str lo), some y))) (none)) (none)) (none)))) (none)) (none)) (none)) (none))) (none) := by kernel_rfl
theorem Zvs {nm lo B : List UInt8} {y : AV} {M : Nat} (hM : B.length = M) (hl : M ≤ 50000) (hp : M % 2 = 1) (hn : nm.length ≤ 16) : ∃ T, Zn ERc Kh (Vp [(19, 0), (31, 0), (33, 2)]) 100 (.call 25 [.ptr 8 0, .str nm, .sl0] (Z6 8 [.cells 3 (Tr.nil.putAll 0 [.sl 9 0 M none, .str lo, y]) 47 none 0 false false, .cells M (bT B) 5 (some 1) 0 false false])) [true] Kq = some (12, (Zg B nm ([] : List UInt8)).length, (Zg B nm ([] : List UInt8)).length, T, some (.str lo), some y) ∧ Xt T (Zg B nm ([] : List UInt8)) := by
  have hT : hdT nm 0 = true := by unfold hdT; rw [Zl hn]; rfl
  have h60 : Za (Zx nm 0) = 60 := Qc hn _
  have hR : (Zg B nm ([] : List UInt8)).length = M + M % 2 + 60 := by rw [Vk hn, hM]; rfl
  refine ⟨_, (Z0z nm lo B y M).trans (Zf (by rw [Jd, Zbv]; exact Vd hp) (Zj (Zw (show ¬ (M * 1) < M by omega)) (Zf (Vd (show M = (M * 1) by omega)) (Zf (Zz (show (M + 1) ≤ 100000 by omega) (by decide)) (Zf (hT) (Zf (Zig _ _ _) (Zj (Zw (show ¬ ((M + 1) * 1) < (M + 1) by omega)) (Zj (Qy (show ¬ (Za (Zx nm 0)) = 0 by omega)) (Zf (Vd (show (M + 1) = ((M + 1) * 1) by omega)) (Zf (Zz (show ((M + 1) + (Za (Zx nm 0))) ≤ 100000 by omega) (by decide)) (Zf (W9 _) (Zj (Zw (show ¬ (((M + 1) + (Za (Zx nm 0))) * 1) < ((M + 1) + ((Za (Zx nm 0)) * 1)) by omega)) (V8 (show ((M + 1) + (Za (Zx nm 0))) = _ by rw [hR]; omega) (show ((M + 1) + ((Za (Zx nm 0)) * 1)) = _ by rw [hR]; omega)))))))))))))), ?_⟩
  have he : Ka B = B ++ [10] := by unfold Ka; rw [show Nat.beq (Nat.mod B.length 2) 1 = true from Vd (by rw [hM]; exact hp)]; rfl
  unfold Zg
  rw [he]
  have h6 : (Zx nm 0).length = 60 := h60
  have ql : (B ++ [10] ++ (Zx nm 0)).length = M + 1 + 60 := by rw [List.length_append, List.length_append, hM, h6]; rfl
  have q1 := Xt.app (C := (Zx nm 0)) (Xt.app (C := [10]) (W1 (L := B) (by omega)) hM.symm (by show B.length + 1 < _; omega)) (by rw [List.length_append, hM]) (by rw [← List.length_append, ql]; omega)
  rw [List.append_nil]
  exact q1
theorem Z02 (nm lo B : List UInt8) (y : AV) (M : Nat) : Zn ERc Kh (Vp [(19, 0), (31, 0), (33, 2)]) 100 (.call 25 [.ptr 8 0, .str nm, .sl0] (Z6 8 [.cells 3 (Tr.nil.putAll 0 [.sl 9 0 M none, .str lo, y]) 47 none 0 false false, .cells M (bT B) 5 (some 1) 0 false false])) [false] Kq = bc (Vx (Int.tmod (.ofNat M) (.ofNat 2)) (.ofNat 1)) (none) (bc (hdT nm 0) (bc (AV.eqb (.sl 9 0 M none) (.sl 9 0 M none)) (bc (Nat.blt (Nat.mul M 1) M) (none) (bc (Nat.beq (Za (Zx nm 0)) 0) (none) (bc (Nat.beq M (Nat.mul M 1)) (bc (Z3 (Nat.add M (Za (Zx nm 0))) 1) (bc (J9 (List.map Ze (Zx nm 0))) (bc (Nat.blt (Nat.mul (Nat.add M (Za (Zx nm 0))) 1) (Nat.add M (Nat.mul (Za (Zx nm 0)) 1))) (none) (some (10, (Nat.add M (Za (Zx nm 0))), (Nat.add M (Nat.mul (Za (Zx nm 0)) 1)), Tr.putAll (bT B) M (List.map Ze (Zx nm 0)), some (.str lo), some y))) (none)) (none)) (none)))) (none)) (none)) := by kernel_rfl
theorem Zwp {nm lo B : List UInt8} {y : AV} {M : Nat} (hM : B.length = M) (hl : M ≤ 50000) (hp : M % 2 = 0) (hn : nm.length ≤ 16) : ∃ T, Zn ERc Kh (Vp [(19, 0), (31, 0), (33, 2)]) 100 (.call 25 [.ptr 8 0, .str nm, .sl0] (Z6 8 [.cells 3 (Tr.nil.putAll 0 [.sl 9 0 M none, .str lo, y]) 47 none 0 false false, .cells M (bT B) 5 (some 1) 0 false false])) [false] Kq = some (10, (Zg B nm ([] : List UInt8)).length, (Zg B nm ([] : List UInt8)).length, T, some (.str lo), some y) ∧ Xt T (Zg B nm ([] : List UInt8)) := by
  have hT : hdT nm 0 = true := by unfold hdT; rw [Zl hn]; rfl
  have h60 : Za (Zx nm 0) = 60 := Qc hn _
  have hR : (Zg B nm ([] : List UInt8)).length = M + M % 2 + 60 := by rw [Vk hn, hM]; rfl
  refine ⟨_, (Z02 nm lo B y M).trans (Zj (by rw [Jd, Zbv]; exact Qy (by omega)) (Zf (hT) (Zf (Zig _ _ _) (Zj (Zw (show ¬ (M * 1) < M by omega)) (Zj (Qy (show ¬ (Za (Zx nm 0)) = 0 by omega)) (Zf (Vd (show M = (M * 1) by omega)) (Zf (Zz (show (M + (Za (Zx nm 0))) ≤ 100000 by omega) (by decide)) (Zf (W9 _) (Zj (Zw (show ¬ ((M + (Za (Zx nm 0))) * 1) < (M + ((Za (Zx nm 0)) * 1)) by omega)) (V8 (show (M + (Za (Zx nm 0))) = _ by rw [hR]; omega) (show (M + ((Za (Zx nm 0)) * 1)) = _ by rw [hR]; omega))))))))))), ?_⟩
  have he : Ka B = B := by unfold Ka; rw [show Nat.beq (Nat.mod B.length 2) 1 = false from Qy (by rw [hM]; show ¬ M % 2 = 1; omega)]; rfl
  unfold Zg
  rw [he]
  have h6 : (Zx nm 0).length = 60 := h60
  have ql : (B ++ (Zx nm 0)).length = M + 60 := by rw [List.length_append, hM, h6]
  have q1 := Xt.app (C := (Zx nm 0)) (W1 (L := B) (by omega)) hM.symm (by omega)
  rw [List.append_nil]
  exact q1
theorem Z1d (nm lo B : List UInt8) (y : AV) : Zn ERc Kh (Vp [(19, 0), (31, 0), (33, 2)]) 100 (.call 25 [.ptr 8 0, .str nm, .sl0] (Z6 8 [.cells 3 (Tr.nil.putAll 0 [.sl 9 0 8 (some 8), .str lo, y]) 47 none 0 false false, .cells 8 (bT B) 5 none 0 false true])) [] Kq = bc (hdT nm 0) (bc (Nat.ble (Nat.add 8 (Za (Zx nm 0))) 8) (none) (bc (Z3 (Nat.add 8 (Za (Zx nm 0))) 1) (bc (Yj (bT B) 0 8) (bc (Nat.blt (Nat.mul (Nat.add 8 (Za (Zx nm 0))) 1) (Nat.mul (Nat.add 8 (Za (Zx nm 0))) 1)) (none) (some (10, (Nat.add 8 (Za (Zx nm 0))), (Nat.mul (Nat.add 8 (Za (Zx nm 0))) 1), Tr.putAll Tr.nil 0 ((Zc (bT B) 0 8) ++ (List.map Ze (Zx nm 0))), some (.str lo), some y))) (none)) (none))) (none) := by kernel_rfl
theorem Zxl {nm lo B : List UInt8} {y : AV} (hM : B.length = 8) (hn : nm.length ≤ 16) : ∃ T, Zn ERc Kh (Vp [(19, 0), (31, 0), (33, 2)]) 100 (.call 25 [.ptr 8 0, .str nm, .sl0] (Z6 8 [.cells 3 (Tr.nil.putAll 0 [.sl 9 0 8 (some 8), .str lo, y]) 47 none 0 false false, .cells 8 (bT B) 5 none 0 false true])) [] Kq = some (10, (Zg B nm ([] : List UInt8)).length, (Zg B nm ([] : List UInt8)).length, T, some (.str lo), some y) ∧ Xt T (Zg B nm ([] : List UInt8)) := by
  have hT : hdT nm 0 = true := by unfold hdT; rw [Zl hn]; rfl
  have h60 : Za (Zx nm 0) = 60 := Qc hn _
  obtain ⟨hb, hgb⟩ := Zai (o := 0) (D := B) (by omega)
  rw [hM] at hb hgb
  have hR : (Zg B nm ([] : List UInt8)).length = 8 + 60 := by rw [Vk hn, hM]; rfl
  refine ⟨_, (Z1d nm lo B y).trans (Zf (hT) (Zj (Zgf (show ¬ (8 + (Za (Zx nm 0))) ≤ 8 by omega)) (Zf (Zz (show (8 + (Za (Zx nm 0))) ≤ 100000 by omega) (by decide)) (Zf (hb) (Zj (Zw (show ¬ ((8 + (Za (Zx nm 0))) * 1) < ((8 + (Za (Zx nm 0))) * 1) by omega)) (V8 (show (8 + (Za (Zx nm 0))) = _ by rw [hR]; omega) (show ((8 + (Za (Zx nm 0))) * 1) = _ by rw [hR]; omega))))))), ?_⟩
  have he : Ka B = B := by unfold Ka; rw [hM]; rfl
  unfold Zg
  rw [he]
  have h6 : (Zx nm 0).length = 60 := h60
  have ql : (B ++ (Zx nm 0)).length = 8 + 60 := by rw [List.length_append, hM, h6]
  rw [hgb, ← List.map_append]
  have q1 := W1 (L := B ++ (Zx nm 0)) (by rw [ql]; decide)
  rw [List.append_nil]
  exact q1
end
end Go.Proofs.YtmppdannkpdpmaaGreatDoor
