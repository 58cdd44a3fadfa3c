/- lex.Line: a line's words, or the place of the first fault. -/
import Derived.Test.YtdpkmhnpbbapcaaDoorLxSpec
import Derived.Test.YtdpkmhnpbbapcaaDoorVaiRange
import Derived.KernelRfl
namespace Go.Proofs.YtdpkmhnpbbapcaaDoor
open Go Go.Vai
noncomputable section
set_option maxRecDepth 100000
def Yce {α : Type} (args : List AV) (H : AHeap) (k : AV → AHeap → Option α) : Option α := match args with
  | [.str s] => bc (Zkk s) (k (Z2q (Z3 s)) H) none
  | _ => none
theorem Zvw {α : Type} {args : List AV} {H : AHeap} {k : AV → AHeap → Option α} {r : α} (h : Yce args H k = some r) : ∃ v H', Zx Zi2 25 args H = some (v, H') ∧ k v H' = some r := by
  unfold Yce at h
  split at h
  case h_2 => cases h
  rename_i s
  obtain ⟨h1, h⟩ := Zr h
  refine ⟨_, _, ?_, h⟩
  unfold Zx Zi2
  simp only [Nat.beq_refl, h1, Bool.and_self, cond_true]
def Vd : Env := V3 Tryd.prog 8 [25, 29, 32, 24, 19, 20, 44, 51, 42, 31, 28] (Wv (Za1 kinds) (Wv (Zx Zi2) (Wv (Zx FT0) (Zx FT1))))
theorem Z1w (w : World) (hw : Yf gl w) : EnvOk Vd Tryd.prog (Kept gl w) := Vp (by kernel_rfl) ((Jt Zch).or (Z9m.or ((W3 Zgs).or (W3 Zkm)))) W1 (fun _ _ _ h => h.1) (Zt hw).ext
def Zcb {α : Type} : Smk α := fun f args H k => bif Nat.beq f 25 then Yce args H k else smC Vd f args H k
theorem Z89 {α : Type} : Vj (α := α) Vd Zcb := by
  intro f args H k r h
  unfold Zcb at h
  simp only [Bool.cond_eq_ite, Nat.beq_eq] at h
  split at h
  · rename_i e
    subst e
    obtain ⟨u, H', h1, h2⟩ := Zvw h
    exact ⟨u, H', (V5 (by kernel_rfl)).trans (Q8 h1), h2⟩
  · exact Vr _ _ _ _ _ _ h
theorem Zoc {α : Type} : POk (α := α) (Zk Vd Zcb Zn 9) (run Vd 9) := Xs Vd Z89 Zn 9
def fn9 : AFunc := (Vd.fn 9).getD default
theorem Yd8 : Vd.fn 9 = some fn9 := by kernel_rfl
def Qv : AFunc := (Vd.fn 23).getD default
theorem Z5w : Vd.fn 23 = some Qv := by kernel_rfl
def Z5s : Code := Zc [3] fn9.body
def lnF : Operand := match Z5s with | .rangeFunc f _ _ _ => f | _ => default
def Ye8 : Array Nat := match Z5s with | .rangeFunc _ ps _ _ => ps | _ => #[]
def Ybv : Code := match Z5s with | .rangeFunc _ _ a _ => a | _ => .skip
def Yc3 : Code := match Z5s with | .rangeFunc _ _ _ b => b | _ => .skip
theorem Zzl : flat fn9.body = (flat fn9.body).take 3 ++ .block 0 (.rangeFunc lnF Ye8 Ybv Yc3) :: (flat fn9.body).drop 4 := by kernel_rfl
theorem Zw6 : flat Qv.body = (flat Qv.body).take 1 ++ .block 0 (.loop (Zc [1, 0] Qv.body)) :: [] := by kernel_rfl
theorem Zq5 : Qv.results = [] := by kernel_rfl
abbrev c1 (ty : Nat) (v : AV) : AObj := .cells 1 (Tr.nil.putAll 0 [v]) ty none 0 false false
def lnS : List Nat := [2, 3, 4, 5, 8]
def Zsh : List AV := [.ptr 8 0, .ptr 9 0, .ptr 10 0, .ptr 11 0, .fn 23 [] [.ptr 12 0]]
def loO (st : LSt) (p : Option AExit) : AObj := .loop st p 24 (Zcs lnS Zsh) Ye8.toList Ybv Yc3 13
def J5 (ws : List (Wd × Nat)) : List AV := ws.flatMap fun p => wdC p.1 p.2
abbrev WT (ws : List (Wd × Nat)) : Tr AV := Tr.nil.putAll 0 (J5 ws)
abbrev J6 (ws : List (Wd × Nat)) : AObj := .cells (ws.length * 4) (WT ws) 31 (some 4) 0 false false
def lV : List (Wd × Nat) → AV
  | [] => .nils
  | p :: ws => .sl 15 0 (p :: ws).length none
def Zv : List (Wd × Nat) → List AObj
  | [] => []
  | p :: ws => [J6 (p :: ws)]
def lnH (s : List UInt8) (ws : List (Wd × Nat)) (x e : Nat) (st : LSt) (p : Option AExit) : List AObj := [c1 28 .nils, c1 3 (.int .i64 (.ofNat x)), c1 24 (.int .i64 (.ofNat e)), c1 28 (lV ws), c1 9 (.str s), .dfr, loO st p] ++ Zv ws
theorem Zcj : ∀ ws : List (Wd × Nat), (J5 ws).length = ws.length * 4
  | [] => rfl
  | p :: ws => by
    show (wdC p.1 p.2 ++ J5 ws).length = _
    rw [List.length_append, Zcj ws, List.length_cons]
    show 4 + _ = _
    omega
theorem Qd (ws : List (Wd × Nat)) (p : Wd × Nat) : Tr.putAll (WT ws) (ws.length * 4) (wdC p.1 p.2) = WT (ws ++ [p]) := by
  unfold WT
  have : J5 (ws ++ [p]) = J5 ws ++ wdC p.1 p.2 := by unfold J5; rw [List.flatMap_append]; simp
  rw [this, Jr, Zcj, Nat.zero_add]
theorem Ztu (ws : List (Wd × Nat)) (p : Wd × Nat) : lV (ws ++ [p]) = .sl 15 0 (ws.length + 1) none := by
  cases ws with
  | nil => rfl
  | cons q ws =>
    show AV.sl _ _ (q :: (ws ++ [p])).length _ = _
    simp
theorem Xq (ws : List (Wd × Nat)) (p : Wd × Nat) : Zv (ws ++ [p]) = [.cells (ws.length * 4 + 4) (WT (ws ++ [p])) 31 (some 4) 0 false false] := by
  cases ws with
  | nil => rfl
  | cons q ws =>
    show [J6 (q :: (ws ++ [p]))] = _
    unfold J6
    simp only [List.length_cons, List.length_append, List.length_nil, List.cons_append]
    rw [show (ws.length + (0 + 1) + 1) * 4 = (ws.length + 1) * 4 + 4 by omega]
theorem Xp (ws : List (Wd × Nat)) : Za4 (WT ws) := Zck (fun i v h => by simp [Tr.get_nil] at h) fun v hv => by
  unfold J5 at hv
  obtain ⟨p, _, hp⟩ := List.mem_flatMap.1 hv
  simp only [wdC, List.mem_cons, List.not_mem_nil, or_false] at hp
  rcases hp with rfl | rfl | rfl | rfl
  · exact Kp _ _
  · exact Zgp _
  · exact Kp _ _
  · exact Kp _ _
theorem X7 {keep : List Nat} : ∀ (j : Nat) (o o2 : AObj), ([] : List AObj)[j]? = some o → ([] : List AObj)[j]? = some o2 → We 0 keep o o2 := fun j o o2 h => by simp at h
theorem Ze {keep : List Nat} {a a2 : AObj} {l l2 : List AObj} (h : We 0 keep a a2) (hs : ∀ (j : Nat) o o2, l[j]? = some o → l2[j]? = some o2 → We 0 keep o o2) : ∀ (j : Nat) o o2, (a :: l)[j]? = some o → (a2 :: l2)[j]? = some o2 → We 0 keep o o2
  | 0, o, o2, h1, h2 => by cases h1; cases h2; exact h
  | j + 1, o, o2, h1, h2 => hs j o o2 (by simpa using h1) (by simpa using h2)
theorem Zy {keep : List Nat} {ty : Nat} {x y : AV} (h : X0 0 keep x = some y) : We 0 keep (c1 ty x) (c1 ty y) := ⟨_, rfl, fun i z hz => by
  rcases Tr.get_putAll [y] hz with ⟨q, h1, h2⟩ | ⟨_, h2⟩
  · match q, h2 with
    | 0, h2 =>
      cases h2
      refine ⟨x, ?_, h⟩
      rw [h1]; rfl
    | q + 1, h2 => simp at h2
  · simp [Tr.get_nil] at h2⟩
theorem Zqg {b : Nat} {keep : List Nat} : ∀ {l m : List AV}, V7 b keep l = some m → ∀ (j : Nat) y, m[j]? = some y → ∃ x, l[j]? = some x ∧ X0 b keep x = some y
  | [], m, h, j, y, hy => by simp only [V7, Option.some.injEq] at h; subst h; simp at hy
  | a :: l, m, h, j, y, hy => by
    simp only [V7] at h
    split at h
    · rename_i a' l' h1 h2
      cases h
      cases j with
      | zero => cases hy; exact ⟨a, rfl, h1⟩
      | succ j => exact Zqg h2 j y (by simpa using hy)
    · cases h
theorem Q2 {keep : List Nat} {st : LSt} {p : Option AExit} (h : V7 0 keep Zsh = some Zsh) (h2 : Qu 13 keep 0 = some 13) : We 0 keep (loO st p) (loO st p) := by
  refine ⟨_, _, rfl, h2, fun i y hy => ?_⟩
  obtain ⟨j, h3, h4⟩ := Ve hy
  obtain ⟨x, h5, h6⟩ := Zqg h j y h4
  rw [h4] at h5
  cases h5
  exact ⟨y, hy, h6⟩
theorem Vs {keep : List Nat} : We 0 keep .dfr .dfr := rfl
theorem Zg5 {keep : List Nat} (n : Nat) (ws : List (Wd × Nat)) : We 0 keep (.cells n (WT ws) 31 (some 4) 0 false false) (.cells n (WT ws) 31 (some 4) 0 false false) := Zky (Xp ws)
theorem Znt {ng m L : Nat} {k0 keep : List Nat} (h : Zxd ng [(m, k0)] keep) (hl : keep.length = ng + (L + 1)) : keep = k0 := by
  rcases h with rfl | ⟨m', h⟩
  · rw [List.length_range] at hl; omega
  · rw [List.mem_singleton] at h
    exact congrArg Prod.snd h
theorem Z6m (s : List UInt8) (j : Nat) : Zh Vd (Zk Vd Zcb Zn 9) (flat (Zc [1, 0] Qv.body)) (Z5 8 [0, 1, 3] [(15, [0, 1, 2, 3, 4, 5, 6, 7, 8, 9, 10, 11, 12, 13, 14])]) (Zd 46 [0, 1, 3] [.yld 14, .ptr 12 0, .int .i64 (.ofNat j)]) (Zs 8 [.cells 1 (Tr.nil.putAll 0 [.nils]) 28 none 0 false false, .cells 1 (Tr.nil.putAll 0 [.int .i64 (.ofNat 0)]) 3 none 0 false false, .cells 1 (Tr.nil.putAll 0 [.int .i64 (.ofNat 0)]) 24 none 0 false false, .cells 1 (Tr.nil.putAll 0 [.nils]) 28 none 0 false false, .cells 1 (Tr.nil.putAll 0 [.str s]) 9 none 0 false false, .dfr, loO .ready none]) (pO 5 0) = bc (Nat.blt j (Zb s)) (none) (lf (.exit 0) 46 ([.yld 14, .ptr 12 0, .int .i64 (.ofNat j)].map some) ([.cells 1 ((Tr.nil.putAll 0 [.nils])) 28 none 0 false false, .cells 1 ((Tr.nil.putAll 0 [.int .i64 (.ofNat 0)])) 3 none 0 false false, .cells 1 ((Tr.nil.putAll 0 [.int .i64 (.ofNat 0)])) 24 none 0 false false, .cells 1 ((Tr.nil.putAll 0 [.nils])) 28 none 0 false false, .cells 1 ((Tr.nil.putAll 0 [.str s])) 9 none 0 false false, .dfr, loO .ready none].map some)) := by kernel_rfl
theorem Z7o (s : List UInt8) (j : Nat) : Zh Vd (Zk Vd Zcb Zn 9) (flat (Zc [1, 0] Qv.body)) (Z5 8 [0, 1, 3] [(15, [0, 1, 2, 3, 4, 5, 6, 7, 8, 9, 10, 11, 12, 13, 14])]) (Zd 46 [0, 1, 3] [.yld 14, .ptr 12 0, .int .i64 (.ofNat j)]) (Zs 8 [.cells 1 (Tr.nil.putAll 0 [.nils]) 28 none 0 false false, .cells 1 (Tr.nil.putAll 0 [.int .i64 (.ofNat 0)]) 3 none 0 false false, .cells 1 (Tr.nil.putAll 0 [.int .i64 (.ofNat 0)]) 24 none 0 false false, .cells 1 (Tr.nil.putAll 0 [.nils]) 28 none 0 false false, .cells 1 (Tr.nil.putAll 0 [.str s]) 9 none 0 false false, .dfr, loO .ready none]) (pO 5 15) = bc (Nat.blt j (Zb s)) (bc (Nat.blt j (Zb s)) (bc (!(Nat.beq (UInt8.toNat (Za s j)) 35)) (none) (lf (.exit 0) 46 ([.yld 14, .ptr 12 0, .int .i64 (.ofNat j)].map some) ([.cells 1 ((Tr.nil.putAll 0 [.nils])) 28 none 0 false false, .cells 1 ((Tr.nil.putAll 0 [.int .i64 (.ofNat 0)])) 3 none 0 false false, .cells 1 ((Tr.nil.putAll 0 [.int .i64 (.ofNat 0)])) 24 none 0 false false, .cells 1 ((Tr.nil.putAll 0 [.nils])) 28 none 0 false false, .cells 1 ((Tr.nil.putAll 0 [.str s])) 9 none 0 false false, .dfr, loO .ready none].map some))) (none)) (none) := by kernel_rfl
theorem Z67 (s : List UInt8) (j : Nat) : Zh Vd (Zk Vd Zcb Zn 9) (flat (Zc [1, 0] Qv.body)) (Z5 8 [0, 1, 3] [(15, [0, 1, 2, 3, 4, 5, 6, 7, 8, 9, 10, 11, 12, 13, 14])]) (Zd 46 [0, 1, 3] [.yld 14, .ptr 12 0, .int .i64 (.ofNat j)]) (Zs 8 [.cells 1 (Tr.nil.putAll 0 [.nils]) 28 none 0 false false, .cells 1 (Tr.nil.putAll 0 [.int .i64 (.ofNat 0)]) 3 none 0 false false, .cells 1 (Tr.nil.putAll 0 [.int .i64 (.ofNat 0)]) 24 none 0 false false, .cells 1 (Tr.nil.putAll 0 [.nils]) 28 none 0 false false, .cells 1 (Tr.nil.putAll 0 [.str s]) 9 none 0 false false, .dfr, loO .ready none]) (pO 6 63) = bc (Nat.blt j (Zb s)) (bc (Nat.blt j (Zb s)) (bc (!(Nat.beq (UInt8.toNat (Za s j)) 35)) (bc (Nat.blt j (Zb s)) (bc (Zf9 (.ofNat (UInt8.toNat (Za s j)))) (lf .normal 46 ([.yld 14, .ptr 12 0, .int .i64 (up j)].map some) ([.cells 1 ((Tr.nil.putAll 0 [.nils])) 28 none 0 false false, .cells 1 ((Tr.nil.putAll 0 [.int .i64 (.ofNat 0)])) 3 none 0 false false, .cells 1 ((Tr.nil.putAll 0 [.int .i64 (.ofNat 0)])) 24 none 0 false false, .cells 1 ((Tr.nil.putAll 0 [.nils])) 28 none 0 false false, .cells 1 ((Tr.nil.putAll 0 [.str s])) 9 none 0 false false, .dfr, loO .ready none].map some)) (none)) (none)) (none)) (none)) (none) := by kernel_rfl
theorem Z8f (s : List UInt8) (j : Nat) : Zh Vd (Zk Vd Zcb Zn 9) (flat (Zc [1, 0] Qv.body)) (Z5 8 [0, 1, 3] [(19, [0, 1, 2, 3, 4, 5, 6, 7, 8, 9, 10, 11, 12, 13, 14, 18])]) (Zd 46 [0, 1, 3] [.yld 14, .ptr 12 0, .int .i64 (.ofNat j)]) (Zs 8 [.cells 1 (Tr.nil.putAll 0 [.nils]) 28 none 0 false false, .cells 1 (Tr.nil.putAll 0 [.int .i64 (.ofNat 0)]) 3 none 0 false false, .cells 1 (Tr.nil.putAll 0 [.int .i64 (.ofNat 0)]) 24 none 0 false false, .cells 1 (Tr.nil.putAll 0 [.nils]) 28 none 0 false false, .cells 1 (Tr.nil.putAll 0 [.str s]) 9 none 0 false false, .dfr, loO .ready none]) (pO 10 31) = bc (Nat.blt j (Zb s)) (bc (Nat.blt j (Zb s)) (bc (!(Nat.beq (UInt8.toNat (Za s j)) 35)) (bc (Nat.blt j (Zb s)) (bc (Zf9 (.ofNat (UInt8.toNat (Za s j)))) (none) (bc (Nat.ble j (Zb s)) (bc (Zkk (List.drop j s)) (bc (!(Nat.beq ((Z3 (List.drop j s)).2.2) 0)) (none) (bc (!(Nat.beq ((Z3 (List.drop j s)).2.2) 0)) (none) (lf .normal 46 ([.yld 14, .ptr 12 0, .int .i64 (Zf .i64 (.ofNat (Nat.add j ((Z3 (List.drop j s)).2.1))))].map some) ([.cells 1 ((Tr.nil.putAll 0 [.nils])) 28 none 0 false false, .cells 1 ((Tr.nil.putAll 0 [.int .i64 (.ofNat 0)])) 3 none 0 false false, .cells 1 ((Tr.nil.putAll 0 [.int .i64 (.ofNat 0)])) 24 none 0 false false, .cells 1 ((Tr.nil.putAll 0 [.sl 18 0 1 none])) 28 none 0 false false, .cells 1 ((Tr.nil.putAll 0 [.str s])) 9 none 0 false false, .dfr, loO .ready none, .cells 4 ((Tr.nil.putAll 0 [.int .i64 (.ofNat ((Z3 (List.drop j s)).1.kind)), .str ((Z3 (List.drop j s)).1.text), .int .u64 (.ofNat ((Z3 (List.drop j s)).1.num)), .int .i64 (.ofNat j)])) 31 (some 4) 0 false false].map some)))) (none)) (none))) (none)) (none)) (none)) (none) := by kernel_rfl
theorem Z5k (s : List UInt8) (j : Nat) : Zh Vd (Zk Vd Zcb Zn 9) (flat (Zc [1, 0] Qv.body)) (Z5 8 [0, 1, 3] [(17, [0, 1, 2, 3, 4, 5, 6, 7, 8, 9, 10, 11, 12, 13, 14])]) (Zd 46 [0, 1, 3] [.yld 14, .ptr 12 0, .int .i64 (.ofNat j)]) (Zs 8 [.cells 1 (Tr.nil.putAll 0 [.nils]) 28 none 0 false false, .cells 1 (Tr.nil.putAll 0 [.int .i64 (.ofNat 0)]) 3 none 0 false false, .cells 1 (Tr.nil.putAll 0 [.int .i64 (.ofNat 0)]) 24 none 0 false false, .cells 1 (Tr.nil.putAll 0 [.nils]) 28 none 0 false false, .cells 1 (Tr.nil.putAll 0 [.str s]) 9 none 0 false false, .dfr, loO .ready none]) (pO 10 991) = bc (Nat.blt j (Zb s)) (bc (Nat.blt j (Zb s)) (bc (!(Nat.beq (UInt8.toNat (Za s j)) 35)) (bc (Nat.blt j (Zb s)) (bc (Zf9 (.ofNat (UInt8.toNat (Za s j)))) (none) (bc (Nat.ble j (Zb s)) (bc (Zkk (List.drop j s)) (bc (!(Nat.beq ((Z3 (List.drop j s)).2.2) 0)) (bc (AV.eqb (.int .i64 (.ofNat ((Z3 (List.drop j s)).2.2))) (.int .i64 (.ofNat ((Z3 (List.drop j s)).2.2)))) (bc (AV.eqb (.int .i64 (.ofNat j)) (.int .i64 (.ofNat j))) (bc (AV.eqb (.int .i64 (.ofNat ((Z3 (List.drop j s)).2.2))) (.int .i64 (.ofNat ((Z3 (List.drop j s)).2.2)))) (lf .ret 46 ([.yld 14, .ptr 12 0, .int .i64 (.ofNat j)].map some) ([.cells 1 ((Tr.nil.putAll 0 [.nils])) 28 none 0 false false, .cells 1 ((Tr.nil.putAll 0 [.int .i64 (.ofNat j)])) 3 none 0 false false, .cells 1 ((Tr.nil.putAll 0 [.int .i64 (.ofNat ((Z3 (List.drop j s)).2.2))])) 24 none 0 false false, .cells 1 ((Tr.nil.putAll 0 [.nils])) 28 none 0 false false, .cells 1 ((Tr.nil.putAll 0 [.str s])) 9 none 0 false false, .dfr, loO .done (some .ret)].map some)) (none)) (none)) (none)) (none)) (none)) (none))) (none)) (none)) (none)) (none) := by kernel_rfl
theorem Z53 (s : List UInt8) (j m n : Nat) (T : Tr AV) : Zh Vd (Zk Vd Zcb Zn 9) (flat (Zc [1, 0] Qv.body)) (Z5 8 [0, 1, 3] [(16, [0, 1, 2, 3, 4, 5, 6, 7, 8, 9, 10, 11, 12, 13, 14, 15])]) (Zd 46 [0, 1, 3] [.yld 14, .ptr 12 0, .int .i64 (.ofNat j)]) (Zs 8 [.cells 1 (Tr.nil.putAll 0 [.nils]) 28 none 0 false false, .cells 1 (Tr.nil.putAll 0 [.int .i64 (.ofNat 0)]) 3 none 0 false false, .cells 1 (Tr.nil.putAll 0 [.int .i64 (.ofNat 0)]) 24 none 0 false false, .cells 1 (Tr.nil.putAll 0 [.sl 15 0 m none]) 28 none 0 false false, .cells 1 (Tr.nil.putAll 0 [.str s]) 9 none 0 false false, .dfr, loO .ready none, .cells n T 31 (some 4) 0 false false]) (pO 5 0) = bc (Nat.blt j (Zb s)) (none) (lf (.exit 0) 46 ([.yld 14, .ptr 12 0, .int .i64 (.ofNat j)].map some) ([.cells 1 ((Tr.nil.putAll 0 [.nils])) 28 none 0 false false, .cells 1 ((Tr.nil.putAll 0 [.int .i64 (.ofNat 0)])) 3 none 0 false false, .cells 1 ((Tr.nil.putAll 0 [.int .i64 (.ofNat 0)])) 24 none 0 false false, .cells 1 ((Tr.nil.putAll 0 [.sl 15 0 m none])) 28 none 0 false false, .cells 1 ((Tr.nil.putAll 0 [.str s])) 9 none 0 false false, .dfr, loO .ready none, .cells n T 31 (some 4) 0 false false].map some)) := by kernel_rfl
theorem Z5l (s : List UInt8) (j m n : Nat) (T : Tr AV) : Zh Vd (Zk Vd Zcb Zn 9) (flat (Zc [1, 0] Qv.body)) (Z5 8 [0, 1, 3] [(16, [0, 1, 2, 3, 4, 5, 6, 7, 8, 9, 10, 11, 12, 13, 14, 15])]) (Zd 46 [0, 1, 3] [.yld 14, .ptr 12 0, .int .i64 (.ofNat j)]) (Zs 8 [.cells 1 (Tr.nil.putAll 0 [.nils]) 28 none 0 false false, .cells 1 (Tr.nil.putAll 0 [.int .i64 (.ofNat 0)]) 3 none 0 false false, .cells 1 (Tr.nil.putAll 0 [.int .i64 (.ofNat 0)]) 24 none 0 false false, .cells 1 (Tr.nil.putAll 0 [.sl 15 0 m none]) 28 none 0 false false, .cells 1 (Tr.nil.putAll 0 [.str s]) 9 none 0 false false, .dfr, loO .ready none, .cells n T 31 (some 4) 0 false false]) (pO 5 15) = bc (Nat.blt j (Zb s)) (bc (Nat.blt j (Zb s)) (bc (!(Nat.beq (UInt8.toNat (Za s j)) 35)) (none) (lf (.exit 0) 46 ([.yld 14, .ptr 12 0, .int .i64 (.ofNat j)].map some) ([.cells 1 ((Tr.nil.putAll 0 [.nils])) 28 none 0 false false, .cells 1 ((Tr.nil.putAll 0 [.int .i64 (.ofNat 0)])) 3 none 0 false false, .cells 1 ((Tr.nil.putAll 0 [.int .i64 (.ofNat 0)])) 24 none 0 false false, .cells 1 ((Tr.nil.putAll 0 [.sl 15 0 m none])) 28 none 0 false false, .cells 1 ((Tr.nil.putAll 0 [.str s])) 9 none 0 false false, .dfr, loO .ready none, .cells n T 31 (some 4) 0 false false].map some))) (none)) (none) := by kernel_rfl
theorem Z77 (s : List UInt8) (j m n : Nat) (T : Tr AV) : Zh Vd (Zk Vd Zcb Zn 9) (flat (Zc [1, 0] Qv.body)) (Z5 8 [0, 1, 3] [(16, [0, 1, 2, 3, 4, 5, 6, 7, 8, 9, 10, 11, 12, 13, 14, 15])]) (Zd 46 [0, 1, 3] [.yld 14, .ptr 12 0, .int .i64 (.ofNat j)]) (Zs 8 [.cells 1 (Tr.nil.putAll 0 [.nils]) 28 none 0 false false, .cells 1 (Tr.nil.putAll 0 [.int .i64 (.ofNat 0)]) 3 none 0 false false, .cells 1 (Tr.nil.putAll 0 [.int .i64 (.ofNat 0)]) 24 none 0 false false, .cells 1 (Tr.nil.putAll 0 [.sl 15 0 m none]) 28 none 0 false false, .cells 1 (Tr.nil.putAll 0 [.str s]) 9 none 0 false false, .dfr, loO .ready none, .cells n T 31 (some 4) 0 false false]) (pO 6 63) = bc (Nat.blt j (Zb s)) (bc (Nat.blt j (Zb s)) (bc (!(Nat.beq (UInt8.toNat (Za s j)) 35)) (bc (Nat.blt j (Zb s)) (bc (Zf9 (.ofNat (UInt8.toNat (Za s j)))) (lf .normal 46 ([.yld 14, .ptr 12 0, .int .i64 (up j)].map some) ([.cells 1 ((Tr.nil.putAll 0 [.nils])) 28 none 0 false false, .cells 1 ((Tr.nil.putAll 0 [.int .i64 (.ofNat 0)])) 3 none 0 false false, .cells 1 ((Tr.nil.putAll 0 [.int .i64 (.ofNat 0)])) 24 none 0 false false, .cells 1 ((Tr.nil.putAll 0 [.sl 15 0 m none])) 28 none 0 false false, .cells 1 ((Tr.nil.putAll 0 [.str s])) 9 none 0 false false, .dfr, loO .ready none, .cells n T 31 (some 4) 0 false false].map some)) (none)) (none)) (none)) (none)) (none) := by kernel_rfl
theorem Z8u (s : List UInt8) (j m n : Nat) (T : Tr AV) : Zh Vd (Zk Vd Zcb Zn 9) (flat (Zc [1, 0] Qv.body)) (Z5 8 [0, 1, 3] [(20, [0, 1, 2, 3, 4, 5, 6, 7, 8, 9, 10, 11, 12, 13, 14, 19])]) (Zd 46 [0, 1, 3] [.yld 14, .ptr 12 0, .int .i64 (.ofNat j)]) (Zs 8 [.cells 1 (Tr.nil.putAll 0 [.nils]) 28 none 0 false false, .cells 1 (Tr.nil.putAll 0 [.int .i64 (.ofNat 0)]) 3 none 0 false false, .cells 1 (Tr.nil.putAll 0 [.int .i64 (.ofNat 0)]) 24 none 0 false false, .cells 1 (Tr.nil.putAll 0 [.sl 15 0 m none]) 28 none 0 false false, .cells 1 (Tr.nil.putAll 0 [.str s]) 9 none 0 false false, .dfr, loO .ready none, .cells n T 31 (some 4) 0 false false]) (pO 10 31) = bc (Nat.blt j (Zb s)) (bc (Nat.blt j (Zb s)) (bc (!(Nat.beq (UInt8.toNat (Za s j)) 35)) (bc (Nat.blt j (Zb s)) (bc (Zf9 (.ofNat (UInt8.toNat (Za s j)))) (none) (bc (Nat.ble j (Zb s)) (bc (Zkk (List.drop j s)) (bc (!(Nat.beq ((Z3 (List.drop j s)).2.2) 0)) (none) (bc (Nat.blt (Nat.mul m 4) n) (bc (Vl T 0 (Nat.mul m 4)) (bc (Nat.beq (Nat.mul m 4) (Nat.mul m 4)) (bc (Zz (Nat.succ m) 40) (bc (!(Nat.beq ((Z3 (List.drop j s)).2.2) 0)) (none) (lf .normal 46 ([.yld 14, .ptr 12 0, .int .i64 (Zf .i64 (.ofNat (Nat.add j ((Z3 (List.drop j s)).2.1))))].map some) ([.cells 1 ((Tr.nil.putAll 0 [.nils])) 28 none 0 false false, .cells 1 ((Tr.nil.putAll 0 [.int .i64 (.ofNat 0)])) 3 none 0 false false, .cells 1 ((Tr.nil.putAll 0 [.int .i64 (.ofNat 0)])) 24 none 0 false false, .cells 1 ((Tr.nil.putAll 0 [.sl 19 0 (Nat.succ m) none])) 28 none 0 false false, .cells 1 ((Tr.nil.putAll 0 [.str s])) 9 none 0 false false, .dfr, loO .ready none, .cells (Nat.add (Nat.mul m 4) 4) (Tr.putAll (Tr.putAll Tr.nil 0 (Wo T 0 (Nat.mul m 4))) (Nat.mul m 4) [.int .i64 (.ofNat ((Z3 (List.drop j s)).1.kind)), .str ((Z3 (List.drop j s)).1.text), .int .u64 (.ofNat ((Z3 (List.drop j s)).1.num)), .int .i64 (.ofNat j)]) 31 (some 4) 0 false false].map some))) (none)) (none)) (none)) (bc (Nat.beq n (Nat.mul m 4)) (bc (Zz (Nat.succ m) 40) (bc (!(Nat.beq ((Z3 (List.drop j s)).2.2) 0)) (none) (lf .normal 46 ([.yld 14, .ptr 12 0, .int .i64 (Zf .i64 (.ofNat (Nat.add j ((Z3 (List.drop j s)).2.1))))].map some) ([.cells 1 ((Tr.nil.putAll 0 [.nils])) 28 none 0 false false, .cells 1 ((Tr.nil.putAll 0 [.int .i64 (.ofNat 0)])) 3 none 0 false false, .cells 1 ((Tr.nil.putAll 0 [.int .i64 (.ofNat 0)])) 24 none 0 false false, .cells 1 ((Tr.nil.putAll 0 [.sl 19 0 (Nat.succ m) none])) 28 none 0 false false, .cells 1 ((Tr.nil.putAll 0 [.str s])) 9 none 0 false false, .dfr, loO .ready none, .cells (Nat.add n 4) (Tr.putAll T n [.int .i64 (.ofNat ((Z3 (List.drop j s)).1.kind)), .str ((Z3 (List.drop j s)).1.text), .int .u64 (.ofNat ((Z3 (List.drop j s)).1.num)), .int .i64 (.ofNat j)]) 31 (some 4) 0 false false].map some))) (none)) (none)))) (none)) (none))) (none)) (none)) (none)) (none) := by kernel_rfl
theorem Z6c (s : List UInt8) (j m n : Nat) (T : Tr AV) : Zh Vd (Zk Vd Zcb Zn 9) (flat (Zc [1, 0] Qv.body)) (Z5 8 [0, 1, 3] [(18, [0, 1, 2, 3, 4, 5, 6, 7, 8, 9, 10, 11, 12, 13, 14, 15])]) (Zd 46 [0, 1, 3] [.yld 14, .ptr 12 0, .int .i64 (.ofNat j)]) (Zs 8 [.cells 1 (Tr.nil.putAll 0 [.nils]) 28 none 0 false false, .cells 1 (Tr.nil.putAll 0 [.int .i64 (.ofNat 0)]) 3 none 0 false false, .cells 1 (Tr.nil.putAll 0 [.int .i64 (.ofNat 0)]) 24 none 0 false false, .cells 1 (Tr.nil.putAll 0 [.sl 15 0 m none]) 28 none 0 false false, .cells 1 (Tr.nil.putAll 0 [.str s]) 9 none 0 false false, .dfr, loO .ready none, .cells n T 31 (some 4) 0 false false]) (pO 10 991) = bc (Nat.blt j (Zb s)) (bc (Nat.blt j (Zb s)) (bc (!(Nat.beq (UInt8.toNat (Za s j)) 35)) (bc (Nat.blt j (Zb s)) (bc (Zf9 (.ofNat (UInt8.toNat (Za s j)))) (none) (bc (Nat.ble j (Zb s)) (bc (Zkk (List.drop j s)) (bc (!(Nat.beq ((Z3 (List.drop j s)).2.2) 0)) (bc (AV.eqb (.int .i64 (.ofNat ((Z3 (List.drop j s)).2.2))) (.int .i64 (.ofNat ((Z3 (List.drop j s)).2.2)))) (bc (AV.eqb (.int .i64 (.ofNat j)) (.int .i64 (.ofNat j))) (bc (AV.eqb (.int .i64 (.ofNat ((Z3 (List.drop j s)).2.2))) (.int .i64 (.ofNat ((Z3 (List.drop j s)).2.2)))) (lf .ret 46 ([.yld 14, .ptr 12 0, .int .i64 (.ofNat j)].map some) ([.cells 1 ((Tr.nil.putAll 0 [.nils])) 28 none 0 false false, .cells 1 ((Tr.nil.putAll 0 [.int .i64 (.ofNat j)])) 3 none 0 false false, .cells 1 ((Tr.nil.putAll 0 [.int .i64 (.ofNat ((Z3 (List.drop j s)).2.2))])) 24 none 0 false false, .cells 1 ((Tr.nil.putAll 0 [.sl 15 0 m none])) 28 none 0 false false, .cells 1 ((Tr.nil.putAll 0 [.str s])) 9 none 0 false false, .dfr, loO .done (some .ret), .cells n T 31 (some 4) 0 false false].map some)) (none)) (none)) (none)) (none)) (none)) (none))) (none)) (none)) (none)) (none) := by kernel_rfl
def wsV (j : Nat) : List AV := [.yld 14, .ptr 12 0, .int .i64 (.ofNat j)]
section
variable {P : Program} {I : List MEnt → AHeap → World → Prop}
theorem Jo (hE : EnvOk Vd P I) {s : List UInt8} {ws ws2 : List (Wd × Nat)} {j x e : Nat} {st : LSt} {p : Option AExit} {m0 q : Nat} {k0 : List Nat} {o : Wh} {ex : AExit} {vs : List AV} {os : List AObj} {Q : TQ}
    (h : Zh Vd (Zk Vd Zcb Zn 9) (flat (Zc [1, 0] Qv.body)) (Z5 8 [0, 1, 3] [(m0, k0)]) (Zd 46 [0, 1, 3] (wsV j)) (Zs 8 (lnH s ws 0 0 .ready none)) o = lf ex 46 (vs.map some) (os.map some)) (hk : Zde 8 [(m0, k0)] = true) (hl : (lnH s ws2 x e st p).length = os.length) (hlen : os.length = q + 1)
    (hr : ∀ (j : Nat) o o2, os[j]? = some o → (lnH s ws2 x e st p)[j]? = some o2 → We 0 k0 o o2) (hm : ∀ fr' H', Ren 8 k0 fr' H' (Zd 46 [0, 1, 3] vs) (Zs 8 (lnH s ws2 x e st p)) → Q ex fr' H') : Zg Vd P I none (flat (Zc [1, 0] Qv.body)) (Zd 46 [0, 1, 3] (wsV j)) (Zs 8 (lnH s ws 0 0 .ready none)) Q :=
  Zg.leafMC hE Zoc h hk hl (fun keep h1 h2 => by rw [hlen] at h2; rw [Znt h1 h2]; exact hr) fun fr' H' keep h1 h2 r => by
    rw [hlen] at h2
    rw [Znt h1 h2] at r
    exact hm fr' H' r
theorem ws_e (hE : EnvOk Vd P I) {s : List UInt8} {ws : List (Wd × Nat)} {j : Nat} {Q : TQ} (hs : s.length < 4294967296) (h : ¬ j < s.length)
    (hm : ∀ fr' H' k0, List.range 15 <+: k0 → Ren 8 k0 fr' H' (Zd 46 [0, 1, 3] (wsV j)) (Zs 8 (lnH s ws 0 0 .ready none)) → Q (.exit 0) fr' H') : Zg Vd P I none (flat (Zc [1, 0] Qv.body)) (Zd 46 [0, 1, 3] (wsV j)) (Zs 8 (lnH s ws 0 0 .ready none)) Q := by
  cases ws with
  | nil =>
    exact Jo hE (vs := wsV j) (os := lnH s ([] : List (Wd × Nat)) 0 0 .ready none) (q := 6) ((Z6m s j).trans (by rw [Yg (show ¬ j < Zb s from h)]; rfl)) (by decide) rfl rfl (Ze (Zy rfl) (Ze (Zy rfl) (Ze (Zy rfl) (Ze (Zy rfl) (Ze (Zy rfl) (Ze Vs (Ze (Q2 rfl rfl) X7))))))) fun fr' H' r => hm fr' H' _ ⟨[], rfl⟩ r
  | cons p ws =>
    exact Jo hE (vs := wsV j) (os := lnH s (p :: ws) 0 0 .ready none) (q := 7) ((Z53 s j (p :: ws).length ((p :: ws).length * 4) (WT (p :: ws))).trans (by rw [Yg (show ¬ j < Zb s from h)]; rfl)) (by decide) rfl rfl (Ze (Zy rfl) (Ze (Zy rfl) (Ze (Zy rfl) (Ze (Zy rfl) (Ze (Zy rfl) (Ze Vs (Ze (Q2 rfl rfl) (Ze (Zg5 _ _) X7)))))))) fun fr' H' r => hm fr' H' _ ⟨[15], rfl⟩ r
theorem ws_h (hE : EnvOk Vd P I) {s : List UInt8} {ws : List (Wd × Nat)} {j : Nat} {Q : TQ} (hs : s.length < 4294967296) (h : j < s.length) (h1 : Nat.beq (Za s j).toNat 35 = true)
    (hm : ∀ fr' H' k0, List.range 15 <+: k0 → Ren 8 k0 fr' H' (Zd 46 [0, 1, 3] (wsV j)) (Zs 8 (lnH s ws 0 0 .ready none)) → Q (.exit 0) fr' H') : Zg Vd P I none (flat (Zc [1, 0] Qv.body)) (Zd 46 [0, 1, 3] (wsV j)) (Zs 8 (lnH s ws 0 0 .ready none)) Q := by
  have h0 := Zm (show j < Zb s from h)
  cases ws with
  | nil =>
    exact Jo hE (vs := wsV j) (os := lnH s ([] : List (Wd × Nat)) 0 0 .ready none) (q := 6) ((Z7o s j).trans (by rw [h0, h1]; rfl)) (by decide) rfl rfl (Ze (Zy rfl) (Ze (Zy rfl) (Ze (Zy rfl) (Ze (Zy rfl) (Ze (Zy rfl) (Ze Vs (Ze (Q2 rfl rfl) X7))))))) fun fr' H' r => hm fr' H' _ ⟨[], rfl⟩ r
  | cons p ws =>
    exact Jo hE (vs := wsV j) (os := lnH s (p :: ws) 0 0 .ready none) (q := 7) ((Z5l s j (p :: ws).length ((p :: ws).length * 4) (WT (p :: ws))).trans (by rw [h0, h1]; rfl)) (by decide) rfl rfl (Ze (Zy rfl) (Ze (Zy rfl) (Ze (Zy rfl) (Ze (Zy rfl) (Ze (Zy rfl) (Ze Vs (Ze (Q2 rfl rfl) (Ze (Zg5 _ _) X7)))))))) fun fr' H' r => hm fr' H' _ ⟨[15], rfl⟩ r
theorem ws_b (hE : EnvOk Vd P I) {s : List UInt8} {ws : List (Wd × Nat)} {j : Nat} {Q : TQ} (hs : s.length < 4294967296) (h : j < s.length) (h1 : Nat.beq (Za s j).toNat 35 = false) (h2 : blP (Za s j) = true)
    (hm : ∀ fr' H' k0, List.range 15 <+: k0 → Ren 8 k0 fr' H' (Zd 46 [0, 1, 3] (wsV (j + 1))) (Zs 8 (lnH s ws 0 0 .ready none)) → Q .normal fr' H') : Zg Vd P I none (flat (Zc [1, 0] Qv.body)) (Zd 46 [0, 1, 3] (wsV j)) (Zs 8 (lnH s ws 0 0 .ready none)) Q := by
  have h0 := Zm (show j < Zb s from h)
  have h2b : Zf9 (.ofNat (UInt8.toNat (Za s j))) = true := h2
  cases ws with
  | nil =>
    exact Jo hE (vs := wsV (j + 1)) (os := lnH s ([] : List (Wd × Nat)) 0 0 .ready none) (q := 6) ((Z67 s j).trans (by rw [h0, h1, h2b, Yv (by omega)]; rfl)) (by decide) rfl rfl (Ze (Zy rfl) (Ze (Zy rfl) (Ze (Zy rfl) (Ze (Zy rfl) (Ze (Zy rfl) (Ze Vs (Ze (Q2 rfl rfl) X7))))))) fun fr' H' r => hm fr' H' _ ⟨[], rfl⟩ r
  | cons p ws =>
    exact Jo hE (vs := wsV (j + 1)) (os := lnH s (p :: ws) 0 0 .ready none) (q := 7) ((Z77 s j (p :: ws).length ((p :: ws).length * 4) (WT (p :: ws))).trans (by rw [h0, h1, h2b, Yv (by omega)]; rfl)) (by decide) rfl rfl (Ze (Zy rfl) (Ze (Zy rfl) (Ze (Zy rfl) (Ze (Zy rfl) (Ze (Zy rfl) (Ze Vs (Ze (Q2 rfl rfl) (Ze (Zg5 _ _) X7)))))))) fun fr' H' r => hm fr' H' _ ⟨[15], rfl⟩ r
theorem ws_x (hE : EnvOk Vd P I) {s : List UInt8} {ws : List (Wd × Nat)} {j : Nat} {Q : TQ} (hs : s.length < 4294967296) (h : j < s.length) (h1 : Nat.beq (Za s j).toNat 35 = false) (h2 : blP (Za s j) = false) (h3 : Nat.beq (Z3 (s.drop j)).2.2 0 = false)
    (hm : ∀ fr' H' k0, List.range 15 <+: k0 → Ren 8 k0 fr' H' (Zd 46 [0, 1, 3] (wsV j)) (Zs 8 (lnH s ws j (Z3 (s.drop j)).2.2 .done (some .ret))) → Q .ret fr' H') : Zg Vd P I none (flat (Zc [1, 0] Qv.body)) (Zd 46 [0, 1, 3] (wsV j)) (Zs 8 (lnH s ws 0 0 .ready none)) Q := by
  have h0 := Zm (show j < Zb s from h)
  have h2b : Zf9 (.ofNat (UInt8.toNat (Za s j))) = false := h2
  have hle : Nat.ble j (Zb s) = true := Yn (show j ≤ s.length by omega)
  have hwT : Zkk (s.drop j) = true := by
    unfold Zkk
    rw [show Zb (s.drop j) = s.length - j from List.length_drop, Yn (by omega), Zm (by omega)]; rfl
  cases ws with
  | nil =>
    exact Jo hE (vs := wsV j) (os := lnH s ([] : List (Wd × Nat)) j (Z3 (s.drop j)).2.2 .done (some .ret)) (q := 6) ((Z5k s j).trans (by rw [h0, h1, h2b, hle, hwT, h3, Zir, Zir]; rfl)) (by decide) rfl rfl (Ze (Zy rfl) (Ze (Zy rfl) (Ze (Zy rfl) (Ze (Zy rfl) (Ze (Zy rfl) (Ze Vs (Ze (Q2 rfl rfl) X7))))))) fun fr' H' r => hm fr' H' _ ⟨[], rfl⟩ r
  | cons p ws =>
    exact Jo hE (vs := wsV j) (os := lnH s (p :: ws) j (Z3 (s.drop j)).2.2 .done (some .ret)) (q := 7) ((Z6c s j (p :: ws).length ((p :: ws).length * 4) (WT (p :: ws))).trans (by rw [h0, h1, h2b, hle, hwT, h3, Zir, Zir]; rfl)) (by decide) rfl rfl (Ze (Zy rfl) (Ze (Zy rfl) (Ze (Zy rfl) (Ze (Zy rfl) (Ze (Zy rfl) (Ze Vs (Ze (Q2 rfl rfl) (Ze (Zg5 _ _) X7)))))))) fun fr' H' r => hm fr' H' _ ⟨[15], rfl⟩ r
theorem ws_w (hE : EnvOk Vd P I) {s : List UInt8} {ws : List (Wd × Nat)} {j : Nat} {Q : TQ} (hs : s.length < 4294967296) (h : j < s.length) (h1 : Nat.beq (Za s j).toNat 35 = false) (h2 : blP (Za s j) = false) (h3 : Nat.beq (Z3 (s.drop j)).2.2 0 = true) (hw : ws.length < 1048576)
    (hm : ∀ fr' H' k0, List.range 15 <+: k0 → Ren 8 k0 fr' H' (Zd 46 [0, 1, 3] (wsV (j + (Z3 (s.drop j)).2.1))) (Zs 8 (lnH s (ws ++ [((Z3 (s.drop j)).1, j)]) 0 0 .ready none)) → Q .normal fr' H') : Zg Vd P I none (flat (Zc [1, 0] Qv.body)) (Zd 46 [0, 1, 3] (wsV j)) (Zs 8 (lnH s ws 0 0 .ready none)) Q := by
  have h0 := Zm (show j < Zb s from h)
  have h2b : Zf9 (.ofNat (UInt8.toNat (Za s j))) = false := h2
  have hle : Nat.ble j (Zb s) = true := Yn (show j ≤ s.length by omega)
  have hwT : Zkk (s.drop j) = true := by
    unfold Zkk
    rw [show Zb (s.drop j) = s.length - j from List.length_drop, Yn (by omega), Zm (by omega)]; rfl
  have hn := (Ks (s := s.drop j) (by rw [List.length_drop]; omega) (Nat.eq_of_beq_eq_true h3)).2
  rw [List.length_drop] at hn
  have hsm : Zf .i64 (.ofNat (Nat.add j (Z3 (s.drop j)).2.1)) = .ofNat (j + (Z3 (s.drop j)).2.1) := Vo (k := j + (Z3 (s.drop j)).2.1) (by omega)
  cases ws with
  | nil =>
    exact Jo hE (vs := wsV (j + (Z3 (s.drop j)).2.1)) (os := [c1 28 .nils, c1 3 (.int .i64 (.ofNat 0)), c1 24 (.int .i64 (.ofNat 0)), c1 28 (.sl 18 0 1 none), c1 9 (.str s), .dfr, loO .ready none, .cells (([] : List (Wd × Nat)).length * 4 + 4) (WT (([] : List (Wd × Nat)) ++ [((Z3 (s.drop j)).1, j)])) 31 (some 4) 0 false false]) (q := 7) ((Z8f s j).trans (by rw [h0, h1, h2b, hle, hwT, h3, hsm]; rfl)) (by decide) (by unfold lnH; rw [Xq]; rfl) rfl (by unfold lnH; rw [Ztu, Xq]; exact Ze (Zy rfl) (Ze (Zy rfl) (Ze (Zy rfl) (Ze (Zy rfl) (Ze (Zy rfl) (Ze Vs (Ze (Q2 rfl rfl) (Ze (Zg5 _ _) X7)))))))) fun fr' H' r => hm fr' H' _ ⟨[18], rfl⟩ r
  | cons p ws =>
    have e5 : Nat.blt (Nat.mul (p :: ws).length 4) ((p :: ws).length * 4) = false := Yg (Nat.lt_irrefl _)
    have e6 : Nat.beq ((p :: ws).length * 4) (Nat.mul (p :: ws).length 4) = true := Zat rfl
    have e7 : Zz (Nat.succ (p :: ws).length) 40 = true := by
      unfold Zz
      rw [Bool.or_eq_true, Nat.ble_eq]; left; simp only [List.length_cons] at hw ⊢; omega
    have e8 : Tr.putAll (WT (p :: ws)) ((p :: ws).length * 4) [.int .i64 (.ofNat ((Z3 (s.drop j)).1.kind)), .str ((Z3 (s.drop j)).1.text), .int .u64 (.ofNat ((Z3 (s.drop j)).1.num)), .int .i64 (.ofNat j)] = WT ((p :: ws) ++ [((Z3 (s.drop j)).1, j)]) := Qd (p :: ws) ((Z3 (s.drop j)).1, j)
    exact Jo hE (vs := wsV (j + (Z3 (s.drop j)).2.1)) (os := [c1 28 .nils, c1 3 (.int .i64 (.ofNat 0)), c1 24 (.int .i64 (.ofNat 0)), c1 28 (.sl 19 0 ((p :: ws).length + 1) none), c1 9 (.str s), .dfr, loO .ready none, .cells ((p :: ws).length * 4 + 4) (WT ((p :: ws) ++ [((Z3 (s.drop j)).1, j)])) 31 (some 4) 0 false false]) (q := 7) ((Z8u s j (p :: ws).length ((p :: ws).length * 4) (WT (p :: ws))).trans (by rw [h0, h1, h2b, hle, hwT, h3, hsm, e5, e6, e7, e8]; rfl)) (by decide) (by unfold lnH; rw [Xq]; rfl) rfl (by unfold lnH; rw [Ztu, Xq]; exact Ze (Zy rfl) (Ze (Zy rfl) (Ze (Zy rfl) (Ze (Zy rfl) (Ze (Zy rfl) (Ze Vs (Ze (Q2 rfl rfl) (Ze (Zg5 _ _) X7)))))))) fun fr' H' r => hm fr' H' _ ⟨[19], rfl⟩ r
def wsQ (s : List UInt8) (E : AExit) : TQ := fun e fr H => (e = E ∧ ∃ ws j k0, List.range 15 <+: k0 ∧ Ye s = (ws, 0, 0) ∧ Ren 8 k0 fr H (Zd 46 [0, 1, 3] (wsV j)) (Zs 8 (lnH s ws 0 0 .ready none))) ∨ (e = .ret ∧ ∃ ws j c k0, List.range 15 <+: k0 ∧ c ≠ 0 ∧ Ye s = ([], j, c) ∧ Ren 8 k0 fr H (Zd 46 [0, 1, 3] (wsV j)) (Zs 8 (lnH s ws j c (.done) (some .ret))))
theorem Z83 (hE : EnvOk Vd P I) (hI : CarriedN 15 I) {s : List UInt8} (hs : s.length < 1048576) : Yk Vd P I none (.loop (Zc [1, 0] Qv.body)) (Zd 46 [0, 1, 3] (wsV 0)) (Zs 8 (lnH s [] 0 0 .ready none)) (wsQ s (.exit 0)) := by
  refine Yk.loopN (X := List (Wd × Nat) × Nat) (fr := fun x => Zd 46 [0, 1, 3] (wsV x.2)) (H := fun x => Zs 8 (lnH s x.1 0 0 .ready none)) (Inv := fun x => x.1.length ≤ x.2 ∧ x.2 ≤ s.length ∧ Ye s = Zc4 x.1 (Vx (s.length + 1 - x.2) s x.2)) (fun x => s.length - x.2) hI ?_ ([], 0) ⟨Nat.le_refl _, Nat.zero_le _, ?_⟩
  · rintro ⟨ws, j⟩ ⟨i1, i2, i3⟩
    simp only at i1 i2 i3
    refine Z0 _ ?_
    have hf : s.length + 1 - j = (s.length - j) + 1 := by omega
    rw [hf] at i3
    have stop : (!(Nat.blt j s.length) || Nat.beq (Za s j).toNat 35) = true → Ye s = (ws, 0, 0) := fun h => by
      rw [i3]
      unfold Vx
      rw [h]
      unfold Zc4
      simp
    by_cases h : j < s.length
    · have hb := Zm h
      cases h1 : Nat.beq (Za s j).toNat 35 with
      | true => exact ws_h hE (by omega) h h1 fun fr' H' k0 hk r => .inr ⟨(by intro h; cases h), .inl ⟨rfl, ws, j, k0, hk, stop (by rw [h1, Bool.or_true]), r⟩⟩
      | false =>
        unfold Vx at i3
        rw [hb, h1] at i3
        simp only [Bool.not_true, Bool.or_false, cond_false] at i3
        cases h2 : blP (Za s j) with
        | true =>
          rw [h2] at i3
          exact ws_b hE (by omega) h h1 h2 fun fr' H' k0 hk r => .inl ⟨rfl, (ws, j + 1), k0, ⟨by simp only; omega, h, by rw [i3]; simp only [cond_true]; rw [show s.length + 1 - (j + 1) = s.length - j by omega]⟩, by simp only; omega, hk, r⟩
        | false =>
          rw [h2] at i3
          simp only [cond_false] at i3
          cases h3 : Nat.beq (Z3 (s.drop j)).2.2 0 with
          | true =>
            rw [h3] at i3
            simp only [cond_true] at i3
            have hn := Ks (s := s.drop j) (by rw [List.length_drop]; omega) (Nat.eq_of_beq_eq_true h3)
            rw [List.length_drop] at hn
            rw [Zln, Zea s (s.length - j) (s.length + 1 - (j + (Z3 (s.drop j)).2.1)) (j + (Z3 (s.drop j)).2.1) (by omega) (by omega)] at i3
            exact ws_w hE (by omega) h h1 h2 h3 (show ws.length < 1048576 by omega) fun fr' H' k0 hk r => .inl ⟨rfl, (ws ++ [((Z3 (s.drop j)).1, j)], j + (Z3 (s.drop j)).2.1), k0, ⟨by simp only [List.length_append, List.length_cons, List.length_nil]; omega, by simp only; omega, i3⟩, by simp only; omega, hk, r⟩
          | false =>
            rw [h3] at i3
            simp only [cond_false] at i3
            have hc : (Z3 (s.drop j)).2.2 ≠ 0 := fun e => by rw [e] at h3; cases h3
            refine ws_x hE (by omega) h h1 h2 h3 fun fr' H' k0 hk r => .inr ⟨(by intro h; cases h), .inr ⟨rfl, ws, j, _, k0, hk, hc, ?_, r⟩⟩
            rw [i3]
            unfold Zc4
            simp only [h3, cond_false]
    · exact ws_e hE (by omega) h fun fr' H' k0 hk r => .inr ⟨(by intro h; cases h), .inl ⟨rfl, ws, j, k0, hk, stop (by rw [Yg h]; rfl), r⟩⟩
  · rw [Nat.sub_zero]
    exact (Zq8 _ (Qo _ _ _).1 (Qo _ _ _).2).symm
theorem Yeu (s : List UInt8) : Zh Vd (Zk Vd Zcb Zn 9) ((flat Qv.body).take 1) (Z5 8 [0, 1, 3] [(15, [0, 1, 2, 3, 4, 5, 6, 7, 8, 9, 10, 11, 12, 13, 14])]) (Z8 Qv [.yld 14, .ptr 12 0]) (Zs 8 (lnH s [] 0 0 .ready none)) [] = lf .normal 46 ((wsV 0).map some) ((lnH s [] 0 0 .ready none).map some) := by kernel_rfl
theorem Ybr (hE : EnvOk Vd P I) (hI : CarriedN 15 I) {s : List UInt8} (hs : s.length < 1048576) : Yk Vd P I none Qv.body (Z8 Qv [.yld 14, .ptr 12 0]) (Zs 8 (lnH s [] 0 0 .ready none)) (wsQ s .normal) := by
  refine Z0 _ ?_
  rw [Zw6]
  have hd : Zg Vd P I none ((flat Qv.body).take 1) (Z8 Qv [.yld 14, .ptr 12 0]) (Zs 8 (lnH s [] 0 0 .ready none)) fun e fr H => e = .normal ∧ ∃ k0, List.range 15 <+: k0 ∧ Ren 8 k0 fr H (Zd 46 [0, 1, 3] (wsV 0)) (Zs 8 (lnH s [] 0 0 .ready none)) :=
    Zg.leafMC hE Zoc (Yeu s) (by decide) rfl (fun keep h1 h2 => by rw [Znt h1 (L := 6) h2]; exact Ze (Zy rfl) (Ze (Zy rfl) (Ze (Zy rfl) (Ze (Zy rfl) (Ze (Zy rfl) (Ze Vs (Ze (Q2 rfl rfl) X7))))))) fun fr' H' keep h1 h2 r => ⟨rfl, keep, by rw [Znt h1 (L := 6) h2]; exact ⟨[], rfl⟩, r⟩
  refine Zg.appendI hd fun e fr H h => ?_
  obtain ⟨rfl, k0, hk, r⟩ := h
  refine .inl ⟨rfl, Zg.renN hI r hk ?_⟩
  refine Yk.mono (Yk.block (Q := fun e fr H => wsQ s .normal e fr H) ((Z83 hE hI hs).mono ?_)) ?_
  · rintro e fr H (⟨rfl, h⟩ | ⟨rfl, h⟩)
    · exact .inl ⟨rfl, h⟩
    · exact .inr ⟨rfl, h⟩
  · rintro e fr H (⟨rfl, h⟩ | ⟨rfl, h⟩)
    · exact .inl ⟨rfl, Zg.nil (.inl ⟨rfl, h⟩)⟩
    · exact .inr ⟨(by intro h; cases h), .inr ⟨rfl, h⟩⟩
def Yby (s : List UInt8) : List AObj := [c1 28 .nils, c1 3 (.int .i64 (.ofNat 0)), c1 24 (.int .i64 (.ofNat 0)), c1 28 .nils, c1 9 (.str s)]
theorem Yex (s : List UInt8) : Zh Vd (Zk Vd Zcb Zn 9) ((flat fn9.body).take 3) (Z5 8 lnS [(13, [0, 1, 2, 3, 4, 5, 6, 7, 8, 9, 10, 11, 12])]) (Z8 fn9 [.str s]) (Zs 8 []) [] = lf .normal 24 (Zsh.map some) ((Yby s).map some) := by kernel_rfl
theorem Ycm : X5 Vd (Zd 24 lnS Zsh).t lnF = some (.fn 23 [] [.ptr 12 0]) := by kernel_rfl
def Zk9 : AFr := ⟨24, Zcs lnS Zsh, [.mark 13], false⟩
def Zlh (s : List UInt8) (x2 x5 : AV) (x e : Int) (st : LSt) (p : Option AExit) (r : List AObj) : AHeap := (Zs 8 ([c1 28 x2, c1 3 (.int .i64 x), c1 24 (.int .i64 e), c1 28 x5, c1 9 (.str s), .dfr, loO st p] ++ r)).put 14 (loO .exhausted p)
def lnR (s : List UInt8) (v : AV) (H : AHeap) : Prop := (∃ ws, Ye s = (ws, 0, 0) ∧ v = .tup [lV ws, .int .i64 (.ofNat 0), .int .i64 (.ofNat 0)] ∧ (ws ≠ [] → H.get 15 = some (J6 ws))) ∨ (∃ j c, c ≠ 0 ∧ Ye s = ([], j, c) ∧ v = .tup [.nils, .int .i64 (.ofNat j), .int .i64 (.ofNat c)])
def kLn : PC (AExit × AV × Option AObj) := fun e fr H _ => match Xy Vd (run Vd 0) fn9.results fr.t fr.df none H with
  | some (.call (.ret v H2)) => some (e, v, H2.get 15)
  | _ => none
theorem lnZN (s : List UInt8) : Zh Vd (Zk Vd Zcb Zn 9) ((flat fn9.body).drop 4) kLn Zk9 (Zlh s .nils .nils (.ofNat 0) (.ofNat 0) .ready none []) [] = some (.ret, .tup [.nils, .int .i64 (.ofNat 0), .int .i64 (.ofNat 0)], none) := by kernel_rfl
theorem lnZS (s : List UInt8) (m n : Nat) (T : Tr AV) : Zh Vd (Zk Vd Zcb Zn 9) ((flat fn9.body).drop 4) kLn Zk9 (Zlh s .nils (.sl 15 0 m none) (.ofNat 0) (.ofNat 0) .ready none [.cells n T 31 (some 4) 0 false false]) [] = some (.ret, .tup [.sl 15 0 m none, .int .i64 (.ofNat 0), .int .i64 (.ofNat 0)], some (.cells n T 31 (some 4) 0 false false)) := by kernel_rfl
theorem lnXN (s : List UInt8) (j c : Int) (x5 : AV) : kLn .ret Zk9 (Zlh s .nils x5 j c .done (some .ret) []) [] = some (.ret, .tup [.nils, .int .i64 j, .int .i64 c], none) := by kernel_rfl
theorem lnXS (s : List UInt8) (j c : Int) (x5 : AV) (o : AObj) : kLn .ret Zk9 (Zlh s .nils x5 j c .done (some .ret) [o]) [] = some (.ret, .tup [.nils, .int .i64 j, .int .i64 c], some o) := by kernel_rfl
theorem Zoy {e e2 : AExit} {fr : AFr} {H : AHeap} {o : Wh} {v : AV} {x : Option AObj} (h : kLn e fr H o = some (e2, v, x)) : e = e2 ∧ ∃ H2, Xy Vd (run Vd 0) fn9.results fr.t fr.df none H = some (.call (.ret v H2)) ∧ H2.get 15 = x := by
  unfold kLn at h
  split at h
  · rename_i v' H2 e
    simp only [Option.some.injEq, Prod.mk.injEq] at h
    obtain ⟨rfl, rfl, rfl⟩ := h
    exact ⟨rfl, H2, e, rfl⟩
  · cases h
def lnQ (s : List UInt8) : TQ := fun e fr H => (e = .normal ∨ e = .ret) ∧ ∃ v H2, Xy Vd (run Vd 0) fn9.results fr.t fr.df none H = some (.call (.ret v H2)) ∧ lnR s v H2
def lnM (s : List UInt8) : TQ := fun e fr H => fr = Zk9 ∧ ((e = .normal ∧ ∃ ws, Ye s = (ws, 0, 0) ∧ H = Zlh s .nils (lV ws) (.ofNat 0) (.ofNat 0) .ready none (Zv ws)) ∨ (e = .ret ∧ ∃ ws j c, c ≠ 0 ∧ Ye s = ([], j, c) ∧ H = Zlh s .nils (lV ws) (.ofNat j) (.ofNat c) .done (some .ret) (Zv ws)))
theorem Ya4 (s : List UInt8) (ws : List (Wd × Nat)) (x e : Nat) (st : LSt) (p : Option AExit) : (Zs 8 (lnH s ws x e st p)).get 14 = some (loO st p) := by
  cases ws with
  | nil => kernel_rfl
  | cons q ws => kernel_rfl
theorem Z0q (hE : EnvOk Vd P I) (hI : Carried I) {s : List UInt8} (hs : s.length < 1048576) : Yk Vd P I none (.rangeFunc lnF Ye8 Ybv Yc3) (Zd 24 lnS Zsh) (Zs 8 (Yby s)) (lnM s) := by
  refine Yk.rangeFunc hE hI Ycm Z5w rfl fun M0 hM => ?_
  have hcn := hI.pin M0
  rw [show M0.length = 15 from hM] at hcn
  refine Yk.mono (Ybr (hE.pin hI M0) hcn hs) ?_
  rintro e fr H (⟨rfl, ws, j, k0, hk, hl, r⟩ | ⟨rfl, ws, j, c, k0, hk, hc, hl, r⟩)
  · exact ⟨.inl rfl, r.df.1, ⟨[], by rw [Zq5]; rfl⟩, k0, _, _, .ready, none, _, _, _, _, _, _, r, hk, Ya4 s ws 0 0 .ready none, (by intro h; cases h), rfl, rfl, .inl ⟨rfl, ws, hl, rfl⟩⟩
  · exact ⟨.inr rfl, r.df.1, ⟨[], by rw [Zq5]; rfl⟩, k0, _, _, .done, some .ret, _, _, _, _, _, _, r, hk, Ya4 s ws j c .done (some .ret), (by intro h; cases h), rfl, rfl, .inr ⟨rfl, ws, j, c, hc, hl, rfl⟩⟩
theorem Ydb (hE : EnvOk Vd P I) (hI : Carried I) {s : List UInt8} (hs : s.length < 1048576) : Yk Vd P I none fn9.body (Z8 fn9 [.str s]) (Zs 8 []) (lnQ s) := by
  refine Z0 _ ?_
  rw [Zzl]
  refine Zg.leafPX hE hI Zoc (Yex s) (by decide) (os2 := Yby s) rfl (fun keep hk => ?_) (.inl ⟨rfl, ?_⟩)
  · exact Ze (Zy rfl) (Ze (Zy rfl) (Ze (Zy rfl) (Ze (Zy rfl) (Ze (Zy rfl) X7))))
  refine Yk.mono (Yk.block (Q := lnM s) ((Z0q hE hI hs).mono ?_)) ?_
  · rintro e fr H ⟨rfl, ⟨rfl, h⟩ | ⟨rfl, h⟩⟩
    · exact ⟨rfl, .inl ⟨rfl, h⟩⟩
    · exact ⟨rfl, .inr ⟨rfl, h⟩⟩
  · rintro e fr H ⟨rfl, ⟨rfl, ws, hl, rfl⟩ | ⟨rfl, ws, j, c, hc, hl, rfl⟩⟩
    · refine .inl ⟨rfl, ?_⟩
      have go : ∀ {x : Option AObj}, Zh Vd (Zk Vd Zcb Zn 9) ((flat fn9.body).drop 4) kLn Zk9 (Zlh s .nils (lV ws) (.ofNat 0) (.ofNat 0) .ready none (Zv ws)) [] = some (.ret, .tup [lV ws, .int .i64 (.ofNat 0), .int .i64 (.ofNat 0)], x) → (ws ≠ [] → x = some (J6 ws)) → Zg Vd P I none ((flat fn9.body).drop 4) Zk9 (Zlh s .nils (lV ws) (.ofNat 0) (.ofNat 0) .ready none (Zv ws)) (lnQ s) := fun {x} h hx => by
        obtain ⟨e1, fr', H', o', e2, e3⟩ := Qs Zoc _ _ _ _ _ _ h
        obtain ⟨rfl, H2, e4, e5⟩ := Zoy e3
        have := Zg.run (m := []) hE (Xv hE _) (ro := none) (Q := lnQ s) e2 (.inr ⟨(by intro h; cases h), .inr rfl, _, H2, e4, .inl ⟨ws, hl, rfl, fun h => by rw [e5]; exact hx h⟩⟩)
        rwa [List.append_nil] at this
      cases ws with
      | nil => exact go (lnZN s) fun h => absurd rfl h
      | cons q ws => exact go (lnZS s _ _ _) fun _ => rfl
    · refine .inr ⟨(by intro h; cases h), .inr rfl, ?_⟩
      have go : ∀ {x : Option AObj}, kLn .ret Zk9 (Zlh s .nils (lV ws) (.ofNat j) (.ofNat c) .done (some .ret) (Zv ws)) [] = some (.ret, .tup [.nils, .int .i64 (.ofNat j), .int .i64 (.ofNat c)], x) → ∃ v H2, Xy Vd (run Vd 0) fn9.results Zk9.t Zk9.df none (Zlh s .nils (lV ws) (.ofNat j) (.ofNat c) .done (some .ret) (Zv ws)) = some (.call (.ret v H2)) ∧ lnR s v H2 := fun {x} h => by
        obtain ⟨_, H2, e4, e5⟩ := Zoy h
        exact ⟨_, H2, e4, .inr ⟨j, c, hc, hl, rfl⟩⟩
      cases ws with
      | nil => exact go (lnXN s _ _ _)
      | cons q ws => exact go (lnXS s _ _ _ _)
end
def Zdn (H : AHeap) (s : List UInt8) : AV × AHeap := match Ye s with
  | ([], j, c) => (.tup [.nils, .int .i64 (.ofNat j), .int .i64 (.ofNat c)], H)
  | (p :: ws, j, c) => (.tup [.sl H.next 0 (p :: ws).length none, .int .i64 (.ofNat j), .int .i64 (.ofNat c)], H.new (J6 (p :: ws)))
def Zkt : Sm := fun f args H => match args with
  | [.str s] => bif Nat.beq f 9 && Nat.blt (Zb s) 1048576 then some (Zdn H s) else none
  | _ => none
theorem Z8v : Qm Tryd.prog gl Zkt := by
  intro f args H v H' M w cargs hs hw hr ha
  unfold Zkt at hs
  split at hs
  case h_2 => cases hs
  rename_i s
  rw [Bool.cond_eq_ite] at hs
  split at hs
  case isFalse => cases hs
  rename_i hb
  rw [Bool.and_eq_true, Nat.beq_eq, Nat.blt_eq] at hb
  obtain ⟨rfl, hlen⟩ := hb
  simp only [Option.some.injEq] at hs
  have hp : ∀ v ∈ [AV.str s], Plain v := Z2 rfl
  have b : X6 Tryd.prog gl 9 cargs (lnR s) := Z0e Z1w Wl Yd8 (Zq.anyPlain hp ha _) fun w hw => Yk.ren (Zt hw) (Jg hp) (Ydb (Z1w w hw) (Zt hw) hlen)
  unfold Zdn at hs
  split at hs
  · rename_i j c hl
    cases hs
    refine X6.calls (os := []) b hw hr ?_
    rintro v2 H2 (⟨ws, h1, rfl, _⟩ | ⟨j2, c2, hc, h1, rfl⟩)
    · rw [h1] at hl
      cases hl
      exact ⟨[], List.nodup_nil, rfl, rfl, fun j x hx => by simp at hx⟩
    · rw [h1] at hl
      cases hl
      exact ⟨[], List.nodup_nil, rfl, rfl, fun j x hx => by simp at hx⟩
  · rename_i p ws j c hl
    cases hs
    refine X6.calls (os := [J6 (p :: ws)]) b hw hr ?_
    rintro v2 H2 (⟨ws2, h1, rfl, h2⟩ | ⟨j2, c2, hc, h1, rfl⟩)
    · rw [h1] at hl
      cases hl
      refine ⟨[15], by simp, rfl, ?_, fun j x hx => ?_⟩
      · simp [lV, X0, V7, Qu]
      · match j, hx with
        | 0, hx =>
          cases hx
          exact ⟨15, _, rfl, h2 (by intro h; cases h), ⟨_, rfl, fun i y hy => ⟨y, hy, Xp _ i y hy _ _⟩⟩, rfl⟩
        | j + 1, hx => simp at hx
    · rw [h1] at hl
      cases hl
end
end Go.Proofs.YtdpkmhnpbbapcaaDoor
