/- lex.Line: a line's words, or the place of the first fault. -/
import Derived.Test.YthlcgkebfodnmaaGreatDoorLxWord
namespace Go.Proofs.YthlcgkebfodnmaaGreatDoor
open Go Go.Vai
noncomputable section
set_option maxRecDepth 100000
def worK {α : Type} (args : List AV) (H : AHeap) (k : AV → AHeap → Option α) : Option α := match args with
  | [.str s] => bc (worT s) (k (wordA (wordR s)) H) none
  | _ => none
theorem worK_some {α : Type} {args : List AV} {H : AHeap} {k : AV → AHeap → Option α} {r : α} (h : worK args H k = some r) : ∃ v H', plainSm wordFv 219 args H = some (v, H') ∧ k v H' = some r := by
  unfold worK at h
  split at h
  case h_2 => cases h
  rename_i s
  obtain ⟨h1, h⟩ := bc_none h
  refine ⟨_, _, ?_, h⟩
  unfold plainSm wordFv
  simp only [Nat.beq_refl, h1, Bool.and_self, cond_true]
def ELn : Env := envOf Tryz.prog 12 [219, 297, 300, 218, 339, 352, 338, 299] (orSm (extSm kinds) (orSm (plainSm wordFv) (orSm (plainSm FT0) (plainSm FT1))))
theorem eln_ok (w : World) (hw : GlobOk gl w) : EnvOk ELn Tryz.prog (Kept gl w) := envOk_sm (by kernel_rfl) ((smOk_ext ext_ok).or (word_ok.or ((plain_ok ft0_ok).or (plain_ok ft1_ok)))) mixed_ok (fun _ _ _ h => h.1) (kept_carried hw).ext
def SKln {α : Type} : Smk α := fun f args H k => bif Nat.beq f 219 then worK args H k else smC ELn f args H k
theorem skln_ok {α : Type} : SmkOk (α := α) ELn SKln := by
  intro f args H k r h
  unfold SKln at h
  simp only [Bool.cond_eq_ite, Nat.beq_eq] at h
  split at h
  · rename_i e
    subst e
    obtain ⟨u, H', h1, h2⟩ := worK_some h
    exact ⟨u, H', (ext_pass (by kernel_rfl)).trans (plain_or h1), h2⟩
  · exact smC_ok _ _ _ _ _ _ h
theorem lnk_ok {α : Type} : POk (α := α) (callPS ELn SKln noPin 9) (run ELn 9) := callPS_ok ELn skln_ok noPin 9
def fn58 : AFunc := (ELn.fn 58).getD default
theorem fn58_eq : ELn.fn 58 = some fn58 := by kernel_rfl
def fn217 : AFunc := (ELn.fn 217).getD default
theorem fn217_eq : ELn.fn 217 = some fn217 := by kernel_rfl
def lnRF : Code := codeAt [3] fn58.body
def lnF : Operand := match lnRF with | .rangeFunc f _ _ _ => f | _ => default
def lnPs : Array Nat := match lnRF with | .rangeFunc _ ps _ _ => ps | _ => #[]
def lnAs : Code := match lnRF with | .rangeFunc _ _ a _ => a | _ => .skip
def lnBo : Code := match lnRF with | .rangeFunc _ _ _ b => b | _ => .skip
theorem fn58_flat : flat fn58.body = (flat fn58.body).take 3 ++ .block 0 (.rangeFunc lnF lnPs lnAs lnBo) :: (flat fn58.body).drop 4 := by kernel_rfl
theorem fn217_flat : flat fn217.body = (flat fn217.body).take 1 ++ .block 0 (.loop (codeAt [1, 0] fn217.body)) :: [] := by kernel_rfl
theorem fn217_res : fn217.results = [] := by kernel_rfl
abbrev c1 (ty : Nat) (v : AV) : AObj := .cells 1 (Tr.nil.putAll 0 [v]) ty none 0 false false
def lnS : List Nat := [2, 3, 4, 5, 8]
def lnVs : List AV := [.ptr 12 0, .ptr 13 0, .ptr 14 0, .ptr 15 0, .fn 217 [] [.ptr 16 0]]
def loO (st : LSt) (p : Option AExit) : AObj := .loop st p 24 (putL lnS lnVs) lnPs.toList lnAs lnBo 17
def wCells (ws : List (Wd × Nat)) : List AV := ws.flatMap fun p => wdC p.1 p.2
abbrev WT (ws : List (Wd × Nat)) : Tr AV := Tr.nil.putAll 0 (wCells ws)
abbrev rowW (ws : List (Wd × Nat)) : AObj := .cells (ws.length * 4) (WT ws) 147 (some 4) 0 false false
def lV : List (Wd × Nat) → AV
  | [] => .nils
  | p :: ws => .sl 19 0 (p :: ws).length none
def lRow : List (Wd × Nat) → List AObj
  | [] => []
  | p :: ws => [rowW (p :: ws)]
def lnH (s : List UInt8) (ws : List (Wd × Nat)) (x e : Nat) (st : LSt) (p : Option AExit) : List AObj := [c1 85 .nils, c1 3 (.int .i64 (.ofNat x)), c1 32 (.int .i64 (.ofNat e)), c1 85 (lV ws), c1 9 (.str s), .dfr, loO st p] ++ lRow ws
theorem wCells_len : ∀ ws : List (Wd × Nat), (wCells ws).length = ws.length * 4
  | [] => rfl
  | p :: ws => by
    show (wdC p.1 p.2 ++ wCells ws).length = _
    rw [List.length_append, wCells_len ws, List.length_cons]
    show 4 + _ = _
    omega
theorem WT_snoc (ws : List (Wd × Nat)) (p : Wd × Nat) : Tr.putAll (WT ws) (ws.length * 4) (wdC p.1 p.2) = WT (ws ++ [p]) := by
  unfold WT
  have : wCells (ws ++ [p]) = wCells ws ++ wdC p.1 p.2 := by unfold wCells; rw [List.flatMap_append]; simp
  rw [this, putAll_append, wCells_len, Nat.zero_add]
theorem lV_snoc (ws : List (Wd × Nat)) (p : Wd × Nat) : lV (ws ++ [p]) = .sl 19 0 (ws.length + 1) none := by
  cases ws with
  | nil => rfl
  | cons q ws =>
    show AV.sl _ _ (q :: (ws ++ [p])).length _ = _
    simp
theorem lRow_snoc (ws : List (Wd × Nat)) (p : Wd × Nat) : lRow (ws ++ [p]) = [.cells (ws.length * 4 + 4) (WT (ws ++ [p])) 147 (some 4) 0 false false] := by
  cases ws with
  | nil => rfl
  | cons q ws =>
    show [rowW (q :: (ws ++ [p]))] = _
    unfold rowW
    simp only [List.length_cons, List.length_append, List.length_nil, List.cons_append]
    rw [show (ws.length + (0 + 1) + 1) * 4 = (ws.length + 1) * 4 + 4 by omega]
theorem wPlain (ws : List (Wd × Nat)) : PlainT (WT ws) := putAll_plain (fun i v h => by simp [Tr.get_nil] at h) fun v hv => by
  unfold wCells at hv
  obtain ⟨p, _, hp⟩ := List.mem_flatMap.1 hv
  simp only [wdC, List.mem_cons, List.not_mem_nil, or_false] at hp
  rcases hp with rfl | rfl | rfl | rfl
  · exact plain_int _ _
  · exact plain_str _
  · exact plain_int _ _
  · exact plain_int _ _
theorem robjs_nil {keep : List Nat} : ∀ (j : Nat) (o o2 : AObj), ([] : List AObj)[j]? = some o → ([] : List AObj)[j]? = some o2 → RObj 0 keep o o2 := fun j o o2 h => by simp at h
theorem robjs_cons {keep : List Nat} {a a2 : AObj} {l l2 : List AObj} (h : RObj 0 keep a a2) (hs : ∀ (j : Nat) o o2, l[j]? = some o → l2[j]? = some o2 → RObj 0 keep o o2) : ∀ (j : Nat) o o2, (a :: l)[j]? = some o → (a2 :: l2)[j]? = some o2 → RObj 0 keep o o2
  | 0, o, o2, h1, h2 => by cases h1; cases h2; exact h
  | j + 1, o, o2, h1, h2 => hs j o o2 (by simpa using h1) (by simpa using h2)
theorem robj_c1 {keep : List Nat} {ty : Nat} {x y : AV} (h : rnV 0 keep x = some y) : RObj 0 keep (c1 ty x) (c1 ty y) := ⟨_, rfl, fun i z hz => by
  rcases Tr.get_putAll [y] hz with ⟨q, h1, h2⟩ | ⟨_, h2⟩
  · match q, h2 with
    | 0, h2 =>
      cases h2
      refine ⟨x, ?_, h⟩
      rw [h1]; rfl
    | q + 1, h2 => simp at h2
  · simp [Tr.get_nil] at h2⟩
theorem rnVs_get {b : Nat} {keep : List Nat} : ∀ {l m : List AV}, rnVs b keep l = some m → ∀ (j : Nat) y, m[j]? = some y → ∃ x, l[j]? = some x ∧ rnV b keep x = some y
  | [], m, h, j, y, hy => by simp only [rnVs, Option.some.injEq] at h; subst h; simp at hy
  | a :: l, m, h, j, y, hy => by
    simp only [rnVs] at h
    split at h
    · rename_i a' l' h1 h2
      cases h
      cases j with
      | zero => cases hy; exact ⟨a, rfl, h1⟩
      | succ j => exact rnVs_get h2 j y (by simpa using hy)
    · cases h
theorem robj_lo {keep : List Nat} {st : LSt} {p : Option AExit} (h : rnVs 0 keep lnVs = some lnVs) (h2 : posOf 17 keep 0 = some 17) : RObj 0 keep (loO st p) (loO st p) := by
  refine ⟨_, _, rfl, h2, fun i y hy => ?_⟩
  obtain ⟨j, h3, h4⟩ := putL_get hy
  obtain ⟨x, h5, h6⟩ := rnVs_get h j y h4
  rw [h4] at h5
  cases h5
  exact ⟨y, hy, h6⟩
theorem robj_dfr {keep : List Nat} : RObj 0 keep .dfr .dfr := rfl
theorem robj_w {keep : List Nat} (n : Nat) (ws : List (Wd × Nat)) : RObj 0 keep (.cells n (WT ws) 147 (some 4) 0 false false) (.cells n (WT ws) 147 (some 4) 0 false false) := robj_plain (wPlain ws)
theorem in_one {ng m L : Nat} {k0 keep : List Nat} (h : inKf ng [(m, k0)] keep) (hl : keep.length = ng + (L + 1)) : keep = k0 := by
  rcases h with rfl | ⟨m', h⟩
  · rw [List.length_range] at hl; omega
  · rw [List.mem_singleton] at h
    exact congrArg Prod.snd h
theorem wsNe_eq (s : List UInt8) (j : Nat) : codesP ELn (callPS ELn SKln noPin 9) (flat (codeAt [1, 0] fn217.body)) (leafP 12 [0, 1, 3] [(19, [0, 1, 2, 3, 4, 5, 6, 7, 8, 9, 10, 11, 12, 13, 14, 15, 16, 17, 18])]) (mkFr 46 [0, 1, 3] [.yld 18, .ptr 16 0, .int .i64 (.ofNat j)]) (mkH 12 [.cells 1 (Tr.nil.putAll 0 [.nils]) 85 none 0 false false, .cells 1 (Tr.nil.putAll 0 [.int .i64 (.ofNat 0)]) 3 none 0 false false, .cells 1 (Tr.nil.putAll 0 [.int .i64 (.ofNat 0)]) 32 none 0 false false, .cells 1 (Tr.nil.putAll 0 [.nils]) 85 none 0 false false, .cells 1 (Tr.nil.putAll 0 [.str s]) 9 none 0 false false, .dfr, loO .ready none]) (pO 5 0) = bc (Nat.blt j (lenU s)) (none) (lf (.exit 0) 46 ([.yld 18, .ptr 16 0, .int .i64 (.ofNat j)].map some) ([.cells 1 ((Tr.nil.putAll 0 [.nils])) 85 none 0 false false, .cells 1 ((Tr.nil.putAll 0 [.int .i64 (.ofNat 0)])) 3 none 0 false false, .cells 1 ((Tr.nil.putAll 0 [.int .i64 (.ofNat 0)])) 32 none 0 false false, .cells 1 ((Tr.nil.putAll 0 [.nils])) 85 none 0 false false, .cells 1 ((Tr.nil.putAll 0 [.str s])) 9 none 0 false false, .dfr, loO .ready none].map some)) := by kernel_rfl
theorem wsNh_eq (s : List UInt8) (j : Nat) : codesP ELn (callPS ELn SKln noPin 9) (flat (codeAt [1, 0] fn217.body)) (leafP 12 [0, 1, 3] [(19, [0, 1, 2, 3, 4, 5, 6, 7, 8, 9, 10, 11, 12, 13, 14, 15, 16, 17, 18])]) (mkFr 46 [0, 1, 3] [.yld 18, .ptr 16 0, .int .i64 (.ofNat j)]) (mkH 12 [.cells 1 (Tr.nil.putAll 0 [.nils]) 85 none 0 false false, .cells 1 (Tr.nil.putAll 0 [.int .i64 (.ofNat 0)]) 3 none 0 false false, .cells 1 (Tr.nil.putAll 0 [.int .i64 (.ofNat 0)]) 32 none 0 false false, .cells 1 (Tr.nil.putAll 0 [.nils]) 85 none 0 false false, .cells 1 (Tr.nil.putAll 0 [.str s]) 9 none 0 false false, .dfr, loO .ready none]) (pO 5 15) = bc (Nat.blt j (lenU s)) (bc (Nat.blt j (lenU s)) (bc (!(Nat.beq (UInt8.toNat (byteAt s j)) 35)) (none) (lf (.exit 0) 46 ([.yld 18, .ptr 16 0, .int .i64 (.ofNat j)].map some) ([.cells 1 ((Tr.nil.putAll 0 [.nils])) 85 none 0 false false, .cells 1 ((Tr.nil.putAll 0 [.int .i64 (.ofNat 0)])) 3 none 0 false false, .cells 1 ((Tr.nil.putAll 0 [.int .i64 (.ofNat 0)])) 32 none 0 false false, .cells 1 ((Tr.nil.putAll 0 [.nils])) 85 none 0 false false, .cells 1 ((Tr.nil.putAll 0 [.str s])) 9 none 0 false false, .dfr, loO .ready none].map some))) (none)) (none) := by kernel_rfl
theorem wsNb_eq (s : List UInt8) (j : Nat) : codesP ELn (callPS ELn SKln noPin 9) (flat (codeAt [1, 0] fn217.body)) (leafP 12 [0, 1, 3] [(19, [0, 1, 2, 3, 4, 5, 6, 7, 8, 9, 10, 11, 12, 13, 14, 15, 16, 17, 18])]) (mkFr 46 [0, 1, 3] [.yld 18, .ptr 16 0, .int .i64 (.ofNat j)]) (mkH 12 [.cells 1 (Tr.nil.putAll 0 [.nils]) 85 none 0 false false, .cells 1 (Tr.nil.putAll 0 [.int .i64 (.ofNat 0)]) 3 none 0 false false, .cells 1 (Tr.nil.putAll 0 [.int .i64 (.ofNat 0)]) 32 none 0 false false, .cells 1 (Tr.nil.putAll 0 [.nils]) 85 none 0 false false, .cells 1 (Tr.nil.putAll 0 [.str s]) 9 none 0 false false, .dfr, loO .ready none]) (pO 6 63) = bc (Nat.blt j (lenU s)) (bc (Nat.blt j (lenU s)) (bc (!(Nat.beq (UInt8.toNat (byteAt s j)) 35)) (bc (Nat.blt j (lenU s)) (bc (cBlB (.ofNat (UInt8.toNat (byteAt s j)))) (lf .normal 46 ([.yld 18, .ptr 16 0, .int .i64 (up j)].map some) ([.cells 1 ((Tr.nil.putAll 0 [.nils])) 85 none 0 false false, .cells 1 ((Tr.nil.putAll 0 [.int .i64 (.ofNat 0)])) 3 none 0 false false, .cells 1 ((Tr.nil.putAll 0 [.int .i64 (.ofNat 0)])) 32 none 0 false false, .cells 1 ((Tr.nil.putAll 0 [.nils])) 85 none 0 false false, .cells 1 ((Tr.nil.putAll 0 [.str s])) 9 none 0 false false, .dfr, loO .ready none].map some)) (none)) (none)) (none)) (none)) (none) := by kernel_rfl
theorem wsNw_eq (s : List UInt8) (j : Nat) : codesP ELn (callPS ELn SKln noPin 9) (flat (codeAt [1, 0] fn217.body)) (leafP 12 [0, 1, 3] [(23, [0, 1, 2, 3, 4, 5, 6, 7, 8, 9, 10, 11, 12, 13, 14, 15, 16, 17, 18, 22])]) (mkFr 46 [0, 1, 3] [.yld 18, .ptr 16 0, .int .i64 (.ofNat j)]) (mkH 12 [.cells 1 (Tr.nil.putAll 0 [.nils]) 85 none 0 false false, .cells 1 (Tr.nil.putAll 0 [.int .i64 (.ofNat 0)]) 3 none 0 false false, .cells 1 (Tr.nil.putAll 0 [.int .i64 (.ofNat 0)]) 32 none 0 false false, .cells 1 (Tr.nil.putAll 0 [.nils]) 85 none 0 false false, .cells 1 (Tr.nil.putAll 0 [.str s]) 9 none 0 false false, .dfr, loO .ready none]) (pO 10 31) = bc (Nat.blt j (lenU s)) (bc (Nat.blt j (lenU s)) (bc (!(Nat.beq (UInt8.toNat (byteAt s j)) 35)) (bc (Nat.blt j (lenU s)) (bc (cBlB (.ofNat (UInt8.toNat (byteAt s j)))) (none) (bc (Nat.ble j (lenU s)) (bc (worT (List.drop j s)) (bc (!(Nat.beq ((wordR (List.drop j s)).2.2) 0)) (none) (bc (!(Nat.beq ((wordR (List.drop j s)).2.2) 0)) (none) (lf .normal 46 ([.yld 18, .ptr 16 0, .int .i64 (wrapR .i64 (.ofNat (Nat.add j ((wordR (List.drop j s)).2.1))))].map some) ([.cells 1 ((Tr.nil.putAll 0 [.nils])) 85 none 0 false false, .cells 1 ((Tr.nil.putAll 0 [.int .i64 (.ofNat 0)])) 3 none 0 false false, .cells 1 ((Tr.nil.putAll 0 [.int .i64 (.ofNat 0)])) 32 none 0 false false, .cells 1 ((Tr.nil.putAll 0 [.sl 22 0 1 none])) 85 none 0 false false, .cells 1 ((Tr.nil.putAll 0 [.str s])) 9 none 0 false false, .dfr, loO .ready none, .cells 4 ((Tr.nil.putAll 0 [.int .i64 (.ofNat ((wordR (List.drop j s)).1.kind)), .str ((wordR (List.drop j s)).1.text), .int .u64 (.ofNat ((wordR (List.drop j s)).1.num)), .int .i64 (.ofNat j)])) 147 (some 4) 0 false false].map some)))) (none)) (none))) (none)) (none)) (none)) (none) := by kernel_rfl
theorem wsNx_eq (s : List UInt8) (j : Nat) : codesP ELn (callPS ELn SKln noPin 9) (flat (codeAt [1, 0] fn217.body)) (leafP 12 [0, 1, 3] [(21, [0, 1, 2, 3, 4, 5, 6, 7, 8, 9, 10, 11, 12, 13, 14, 15, 16, 17, 18])]) (mkFr 46 [0, 1, 3] [.yld 18, .ptr 16 0, .int .i64 (.ofNat j)]) (mkH 12 [.cells 1 (Tr.nil.putAll 0 [.nils]) 85 none 0 false false, .cells 1 (Tr.nil.putAll 0 [.int .i64 (.ofNat 0)]) 3 none 0 false false, .cells 1 (Tr.nil.putAll 0 [.int .i64 (.ofNat 0)]) 32 none 0 false false, .cells 1 (Tr.nil.putAll 0 [.nils]) 85 none 0 false false, .cells 1 (Tr.nil.putAll 0 [.str s]) 9 none 0 false false, .dfr, loO .ready none]) (pO 10 991) = bc (Nat.blt j (lenU s)) (bc (Nat.blt j (lenU s)) (bc (!(Nat.beq (UInt8.toNat (byteAt s j)) 35)) (bc (Nat.blt j (lenU s)) (bc (cBlB (.ofNat (UInt8.toNat (byteAt s j)))) (none) (bc (Nat.ble j (lenU s)) (bc (worT (List.drop j s)) (bc (!(Nat.beq ((wordR (List.drop j s)).2.2) 0)) (bc (AV.eqb (.int .i64 (.ofNat ((wordR (List.drop j s)).2.2))) (.int .i64 (.ofNat ((wordR (List.drop j s)).2.2)))) (bc (AV.eqb (.int .i64 (.ofNat j)) (.int .i64 (.ofNat j))) (bc (AV.eqb (.int .i64 (.ofNat ((wordR (List.drop j s)).2.2))) (.int .i64 (.ofNat ((wordR (List.drop j s)).2.2)))) (lf .ret 46 ([.yld 18, .ptr 16 0, .int .i64 (.ofNat j)].map some) ([.cells 1 ((Tr.nil.putAll 0 [.nils])) 85 none 0 false false, .cells 1 ((Tr.nil.putAll 0 [.int .i64 (.ofNat j)])) 3 none 0 false false, .cells 1 ((Tr.nil.putAll 0 [.int .i64 (.ofNat ((wordR (List.drop j s)).2.2))])) 32 none 0 false false, .cells 1 ((Tr.nil.putAll 0 [.nils])) 85 none 0 false false, .cells 1 ((Tr.nil.putAll 0 [.str s])) 9 none 0 false false, .dfr, loO .done (some .ret)].map some)) (none)) (none)) (none)) (none)) (none)) (none))) (none)) (none)) (none)) (none) := by kernel_rfl
theorem wsSe_eq (s : List UInt8) (j m n : Nat) (T : Tr AV) : codesP ELn (callPS ELn SKln noPin 9) (flat (codeAt [1, 0] fn217.body)) (leafP 12 [0, 1, 3] [(20, [0, 1, 2, 3, 4, 5, 6, 7, 8, 9, 10, 11, 12, 13, 14, 15, 16, 17, 18, 19])]) (mkFr 46 [0, 1, 3] [.yld 18, .ptr 16 0, .int .i64 (.ofNat j)]) (mkH 12 [.cells 1 (Tr.nil.putAll 0 [.nils]) 85 none 0 false false, .cells 1 (Tr.nil.putAll 0 [.int .i64 (.ofNat 0)]) 3 none 0 false false, .cells 1 (Tr.nil.putAll 0 [.int .i64 (.ofNat 0)]) 32 none 0 false false, .cells 1 (Tr.nil.putAll 0 [.sl 19 0 m none]) 85 none 0 false false, .cells 1 (Tr.nil.putAll 0 [.str s]) 9 none 0 false false, .dfr, loO .ready none, .cells n T 147 (some 4) 0 false false]) (pO 5 0) = bc (Nat.blt j (lenU s)) (none) (lf (.exit 0) 46 ([.yld 18, .ptr 16 0, .int .i64 (.ofNat j)].map some) ([.cells 1 ((Tr.nil.putAll 0 [.nils])) 85 none 0 false false, .cells 1 ((Tr.nil.putAll 0 [.int .i64 (.ofNat 0)])) 3 none 0 false false, .cells 1 ((Tr.nil.putAll 0 [.int .i64 (.ofNat 0)])) 32 none 0 false false, .cells 1 ((Tr.nil.putAll 0 [.sl 19 0 m none])) 85 none 0 false false, .cells 1 ((Tr.nil.putAll 0 [.str s])) 9 none 0 false false, .dfr, loO .ready none, .cells n T 147 (some 4) 0 false false].map some)) := by kernel_rfl
theorem wsSh_eq (s : List UInt8) (j m n : Nat) (T : Tr AV) : codesP ELn (callPS ELn SKln noPin 9) (flat (codeAt [1, 0] fn217.body)) (leafP 12 [0, 1, 3] [(20, [0, 1, 2, 3, 4, 5, 6, 7, 8, 9, 10, 11, 12, 13, 14, 15, 16, 17, 18, 19])]) (mkFr 46 [0, 1, 3] [.yld 18, .ptr 16 0, .int .i64 (.ofNat j)]) (mkH 12 [.cells 1 (Tr.nil.putAll 0 [.nils]) 85 none 0 false false, .cells 1 (Tr.nil.putAll 0 [.int .i64 (.ofNat 0)]) 3 none 0 false false, .cells 1 (Tr.nil.putAll 0 [.int .i64 (.ofNat 0)]) 32 none 0 false false, .cells 1 (Tr.nil.putAll 0 [.sl 19 0 m none]) 85 none 0 false false, .cells 1 (Tr.nil.putAll 0 [.str s]) 9 none 0 false false, .dfr, loO .ready none, .cells n T 147 (some 4) 0 false false]) (pO 5 15) = bc (Nat.blt j (lenU s)) (bc (Nat.blt j (lenU s)) (bc (!(Nat.beq (UInt8.toNat (byteAt s j)) 35)) (none) (lf (.exit 0) 46 ([.yld 18, .ptr 16 0, .int .i64 (.ofNat j)].map some) ([.cells 1 ((Tr.nil.putAll 0 [.nils])) 85 none 0 false false, .cells 1 ((Tr.nil.putAll 0 [.int .i64 (.ofNat 0)])) 3 none 0 false false, .cells 1 ((Tr.nil.putAll 0 [.int .i64 (.ofNat 0)])) 32 none 0 false false, .cells 1 ((Tr.nil.putAll 0 [.sl 19 0 m none])) 85 none 0 false false, .cells 1 ((Tr.nil.putAll 0 [.str s])) 9 none 0 false false, .dfr, loO .ready none, .cells n T 147 (some 4) 0 false false].map some))) (none)) (none) := by kernel_rfl
theorem wsSb_eq (s : List UInt8) (j m n : Nat) (T : Tr AV) : codesP ELn (callPS ELn SKln noPin 9) (flat (codeAt [1, 0] fn217.body)) (leafP 12 [0, 1, 3] [(20, [0, 1, 2, 3, 4, 5, 6, 7, 8, 9, 10, 11, 12, 13, 14, 15, 16, 17, 18, 19])]) (mkFr 46 [0, 1, 3] [.yld 18, .ptr 16 0, .int .i64 (.ofNat j)]) (mkH 12 [.cells 1 (Tr.nil.putAll 0 [.nils]) 85 none 0 false false, .cells 1 (Tr.nil.putAll 0 [.int .i64 (.ofNat 0)]) 3 none 0 false false, .cells 1 (Tr.nil.putAll 0 [.int .i64 (.ofNat 0)]) 32 none 0 false false, .cells 1 (Tr.nil.putAll 0 [.sl 19 0 m none]) 85 none 0 false false, .cells 1 (Tr.nil.putAll 0 [.str s]) 9 none 0 false false, .dfr, loO .ready none, .cells n T 147 (some 4) 0 false false]) (pO 6 63) = bc (Nat.blt j (lenU s)) (bc (Nat.blt j (lenU s)) (bc (!(Nat.beq (UInt8.toNat (byteAt s j)) 35)) (bc (Nat.blt j (lenU s)) (bc (cBlB (.ofNat (UInt8.toNat (byteAt s j)))) (lf .normal 46 ([.yld 18, .ptr 16 0, .int .i64 (up j)].map some) ([.cells 1 ((Tr.nil.putAll 0 [.nils])) 85 none 0 false false, .cells 1 ((Tr.nil.putAll 0 [.int .i64 (.ofNat 0)])) 3 none 0 false false, .cells 1 ((Tr.nil.putAll 0 [.int .i64 (.ofNat 0)])) 32 none 0 false false, .cells 1 ((Tr.nil.putAll 0 [.sl 19 0 m none])) 85 none 0 false false, .cells 1 ((Tr.nil.putAll 0 [.str s])) 9 none 0 false false, .dfr, loO .ready none, .cells n T 147 (some 4) 0 false false].map some)) (none)) (none)) (none)) (none)) (none) := by kernel_rfl
theorem wsSw_eq (s : List UInt8) (j m n : Nat) (T : Tr AV) : codesP ELn (callPS ELn SKln noPin 9) (flat (codeAt [1, 0] fn217.body)) (leafP 12 [0, 1, 3] [(24, [0, 1, 2, 3, 4, 5, 6, 7, 8, 9, 10, 11, 12, 13, 14, 15, 16, 17, 18, 23])]) (mkFr 46 [0, 1, 3] [.yld 18, .ptr 16 0, .int .i64 (.ofNat j)]) (mkH 12 [.cells 1 (Tr.nil.putAll 0 [.nils]) 85 none 0 false false, .cells 1 (Tr.nil.putAll 0 [.int .i64 (.ofNat 0)]) 3 none 0 false false, .cells 1 (Tr.nil.putAll 0 [.int .i64 (.ofNat 0)]) 32 none 0 false false, .cells 1 (Tr.nil.putAll 0 [.sl 19 0 m none]) 85 none 0 false false, .cells 1 (Tr.nil.putAll 0 [.str s]) 9 none 0 false false, .dfr, loO .ready none, .cells n T 147 (some 4) 0 false false]) (pO 10 31) = bc (Nat.blt j (lenU s)) (bc (Nat.blt j (lenU s)) (bc (!(Nat.beq (UInt8.toNat (byteAt s j)) 35)) (bc (Nat.blt j (lenU s)) (bc (cBlB (.ofNat (UInt8.toNat (byteAt s j)))) (none) (bc (Nat.ble j (lenU s)) (bc (worT (List.drop j s)) (bc (!(Nat.beq ((wordR (List.drop j s)).2.2) 0)) (none) (bc (Nat.blt (Nat.mul m 4) n) (bc (hasA T 0 (Nat.mul m 4)) (bc (Nat.beq (Nat.mul m 4) (Nat.mul m 4)) (bc (roomy (Nat.succ m) 40) (bc (!(Nat.beq ((wordR (List.drop j s)).2.2) 0)) (none) (lf .normal 46 ([.yld 18, .ptr 16 0, .int .i64 (wrapR .i64 (.ofNat (Nat.add j ((wordR (List.drop j s)).2.1))))].map some) ([.cells 1 ((Tr.nil.putAll 0 [.nils])) 85 none 0 false false, .cells 1 ((Tr.nil.putAll 0 [.int .i64 (.ofNat 0)])) 3 none 0 false false, .cells 1 ((Tr.nil.putAll 0 [.int .i64 (.ofNat 0)])) 32 none 0 false false, .cells 1 ((Tr.nil.putAll 0 [.sl 23 0 (Nat.succ m) none])) 85 none 0 false false, .cells 1 ((Tr.nil.putAll 0 [.str s])) 9 none 0 false false, .dfr, loO .ready none, .cells (Nat.add (Nat.mul m 4) 4) (Tr.putAll (Tr.putAll Tr.nil 0 (getA T 0 (Nat.mul m 4))) (Nat.mul m 4) [.int .i64 (.ofNat ((wordR (List.drop j s)).1.kind)), .str ((wordR (List.drop j s)).1.text), .int .u64 (.ofNat ((wordR (List.drop j s)).1.num)), .int .i64 (.ofNat j)]) 147 (some 4) 0 false false].map some))) (none)) (none)) (none)) (bc (Nat.beq n (Nat.mul m 4)) (bc (roomy (Nat.succ m) 40) (bc (!(Nat.beq ((wordR (List.drop j s)).2.2) 0)) (none) (lf .normal 46 ([.yld 18, .ptr 16 0, .int .i64 (wrapR .i64 (.ofNat (Nat.add j ((wordR (List.drop j s)).2.1))))].map some) ([.cells 1 ((Tr.nil.putAll 0 [.nils])) 85 none 0 false false, .cells 1 ((Tr.nil.putAll 0 [.int .i64 (.ofNat 0)])) 3 none 0 false false, .cells 1 ((Tr.nil.putAll 0 [.int .i64 (.ofNat 0)])) 32 none 0 false false, .cells 1 ((Tr.nil.putAll 0 [.sl 23 0 (Nat.succ m) none])) 85 none 0 false false, .cells 1 ((Tr.nil.putAll 0 [.str s])) 9 none 0 false false, .dfr, loO .ready none, .cells (Nat.add n 4) (Tr.putAll T n [.int .i64 (.ofNat ((wordR (List.drop j s)).1.kind)), .str ((wordR (List.drop j s)).1.text), .int .u64 (.ofNat ((wordR (List.drop j s)).1.num)), .int .i64 (.ofNat j)]) 147 (some 4) 0 false false].map some))) (none)) (none)))) (none)) (none))) (none)) (none)) (none)) (none) := by kernel_rfl
theorem wsSx_eq (s : List UInt8) (j m n : Nat) (T : Tr AV) : codesP ELn (callPS ELn SKln noPin 9) (flat (codeAt [1, 0] fn217.body)) (leafP 12 [0, 1, 3] [(22, [0, 1, 2, 3, 4, 5, 6, 7, 8, 9, 10, 11, 12, 13, 14, 15, 16, 17, 18, 19])]) (mkFr 46 [0, 1, 3] [.yld 18, .ptr 16 0, .int .i64 (.ofNat j)]) (mkH 12 [.cells 1 (Tr.nil.putAll 0 [.nils]) 85 none 0 false false, .cells 1 (Tr.nil.putAll 0 [.int .i64 (.ofNat 0)]) 3 none 0 false false, .cells 1 (Tr.nil.putAll 0 [.int .i64 (.ofNat 0)]) 32 none 0 false false, .cells 1 (Tr.nil.putAll 0 [.sl 19 0 m none]) 85 none 0 false false, .cells 1 (Tr.nil.putAll 0 [.str s]) 9 none 0 false false, .dfr, loO .ready none, .cells n T 147 (some 4) 0 false false]) (pO 10 991) = bc (Nat.blt j (lenU s)) (bc (Nat.blt j (lenU s)) (bc (!(Nat.beq (UInt8.toNat (byteAt s j)) 35)) (bc (Nat.blt j (lenU s)) (bc (cBlB (.ofNat (UInt8.toNat (byteAt s j)))) (none) (bc (Nat.ble j (lenU s)) (bc (worT (List.drop j s)) (bc (!(Nat.beq ((wordR (List.drop j s)).2.2) 0)) (bc (AV.eqb (.int .i64 (.ofNat ((wordR (List.drop j s)).2.2))) (.int .i64 (.ofNat ((wordR (List.drop j s)).2.2)))) (bc (AV.eqb (.int .i64 (.ofNat j)) (.int .i64 (.ofNat j))) (bc (AV.eqb (.int .i64 (.ofNat ((wordR (List.drop j s)).2.2))) (.int .i64 (.ofNat ((wordR (List.drop j s)).2.2)))) (lf .ret 46 ([.yld 18, .ptr 16 0, .int .i64 (.ofNat j)].map some) ([.cells 1 ((Tr.nil.putAll 0 [.nils])) 85 none 0 false false, .cells 1 ((Tr.nil.putAll 0 [.int .i64 (.ofNat j)])) 3 none 0 false false, .cells 1 ((Tr.nil.putAll 0 [.int .i64 (.ofNat ((wordR (List.drop j s)).2.2))])) 32 none 0 false false, .cells 1 ((Tr.nil.putAll 0 [.sl 19 0 m none])) 85 none 0 false false, .cells 1 ((Tr.nil.putAll 0 [.str s])) 9 none 0 false false, .dfr, loO .done (some .ret), .cells n T 147 (some 4) 0 false false].map some)) (none)) (none)) (none)) (none)) (none)) (none))) (none)) (none)) (none)) (none) := by kernel_rfl
def wsV (j : Nat) : List AV := [.yld 18, .ptr 16 0, .int .i64 (.ofNat j)]
section
variable {P : Program} {I : List MEnt → AHeap → World → Prop}
theorem ws_leaf (hE : EnvOk ELn P I) {s : List UInt8} {ws ws2 : List (Wd × Nat)} {j x e : Nat} {st : LSt} {p : Option AExit} {m0 q : Nat} {k0 : List Nat} {o : Orc} {ex : AExit} {vs : List AV} {os : List AObj} {Q : TQ}
    (h : codesP ELn (callPS ELn SKln noPin 9) (flat (codeAt [1, 0] fn217.body)) (leafP 12 [0, 1, 3] [(m0, k0)]) (mkFr 46 [0, 1, 3] (wsV j)) (mkH 12 (lnH s ws 0 0 .ready none)) o = lf ex 46 (vs.map some) (os.map some)) (hk : kfOk 12 [(m0, k0)] = true) (hl : (lnH s ws2 x e st p).length = os.length) (hlen : os.length = q + 1)
    (hr : ∀ (j : Nat) o o2, os[j]? = some o → (lnH s ws2 x e st p)[j]? = some o2 → RObj 0 k0 o o2) (hm : ∀ fr' H', Ren 12 k0 fr' H' (mkFr 46 [0, 1, 3] vs) (mkH 12 (lnH s ws2 x e st p)) → Q ex fr' H') : TriL ELn P I none (flat (codeAt [1, 0] fn217.body)) (mkFr 46 [0, 1, 3] (wsV j)) (mkH 12 (lnH s ws 0 0 .ready none)) Q :=
  TriL.leafMC hE lnk_ok h hk hl (fun keep h1 h2 => by rw [hlen] at h2; rw [in_one h1 h2]; exact hr) fun fr' H' keep h1 h2 r => by
    rw [hlen] at h2
    rw [in_one h1 h2] at r
    exact hm fr' H' r
theorem ws_e (hE : EnvOk ELn P I) {s : List UInt8} {ws : List (Wd × Nat)} {j : Nat} {Q : TQ} (hs : s.length < 4294967296) (h : ¬ j < s.length)
    (hm : ∀ fr' H' k0, List.range 19 <+: k0 → Ren 12 k0 fr' H' (mkFr 46 [0, 1, 3] (wsV j)) (mkH 12 (lnH s ws 0 0 .ready none)) → Q (.exit 0) fr' H') : TriL ELn P I none (flat (codeAt [1, 0] fn217.body)) (mkFr 46 [0, 1, 3] (wsV j)) (mkH 12 (lnH s ws 0 0 .ready none)) Q := by
  cases ws with
  | nil =>
    exact ws_leaf hE (vs := wsV j) (os := lnH s ([] : List (Wd × Nat)) 0 0 .ready none) (q := 6) ((wsNe_eq s j).trans (by rw [blt_f (show ¬ j < lenU s from h)]; rfl)) (by decide) rfl rfl (robjs_cons (robj_c1 rfl) (robjs_cons (robj_c1 rfl) (robjs_cons (robj_c1 rfl) (robjs_cons (robj_c1 rfl) (robjs_cons (robj_c1 rfl) (robjs_cons robj_dfr (robjs_cons (robj_lo rfl rfl) robjs_nil))))))) fun fr' H' r => hm fr' H' _ ⟨[], rfl⟩ r
  | cons p ws =>
    exact ws_leaf hE (vs := wsV j) (os := lnH s (p :: ws) 0 0 .ready none) (q := 7) ((wsSe_eq s j (p :: ws).length ((p :: ws).length * 4) (WT (p :: ws))).trans (by rw [blt_f (show ¬ j < lenU s from h)]; rfl)) (by decide) rfl rfl (robjs_cons (robj_c1 rfl) (robjs_cons (robj_c1 rfl) (robjs_cons (robj_c1 rfl) (robjs_cons (robj_c1 rfl) (robjs_cons (robj_c1 rfl) (robjs_cons robj_dfr (robjs_cons (robj_lo rfl rfl) (robjs_cons (robj_w _ _) robjs_nil)))))))) fun fr' H' r => hm fr' H' _ ⟨[19], rfl⟩ r
theorem ws_h (hE : EnvOk ELn P I) {s : List UInt8} {ws : List (Wd × Nat)} {j : Nat} {Q : TQ} (hs : s.length < 4294967296) (h : j < s.length) (h1 : Nat.beq (byteAt s j).toNat 35 = true)
    (hm : ∀ fr' H' k0, List.range 19 <+: k0 → Ren 12 k0 fr' H' (mkFr 46 [0, 1, 3] (wsV j)) (mkH 12 (lnH s ws 0 0 .ready none)) → Q (.exit 0) fr' H') : TriL ELn P I none (flat (codeAt [1, 0] fn217.body)) (mkFr 46 [0, 1, 3] (wsV j)) (mkH 12 (lnH s ws 0 0 .ready none)) Q := by
  have h0 := blt_t (show j < lenU s from h)
  cases ws with
  | nil =>
    exact ws_leaf hE (vs := wsV j) (os := lnH s ([] : List (Wd × Nat)) 0 0 .ready none) (q := 6) ((wsNh_eq s j).trans (by rw [h0, h1]; rfl)) (by decide) rfl rfl (robjs_cons (robj_c1 rfl) (robjs_cons (robj_c1 rfl) (robjs_cons (robj_c1 rfl) (robjs_cons (robj_c1 rfl) (robjs_cons (robj_c1 rfl) (robjs_cons robj_dfr (robjs_cons (robj_lo rfl rfl) robjs_nil))))))) fun fr' H' r => hm fr' H' _ ⟨[], rfl⟩ r
  | cons p ws =>
    exact ws_leaf hE (vs := wsV j) (os := lnH s (p :: ws) 0 0 .ready none) (q := 7) ((wsSh_eq s j (p :: ws).length ((p :: ws).length * 4) (WT (p :: ws))).trans (by rw [h0, h1]; rfl)) (by decide) rfl rfl (robjs_cons (robj_c1 rfl) (robjs_cons (robj_c1 rfl) (robjs_cons (robj_c1 rfl) (robjs_cons (robj_c1 rfl) (robjs_cons (robj_c1 rfl) (robjs_cons robj_dfr (robjs_cons (robj_lo rfl rfl) (robjs_cons (robj_w _ _) robjs_nil)))))))) fun fr' H' r => hm fr' H' _ ⟨[19], rfl⟩ r
theorem ws_b (hE : EnvOk ELn P I) {s : List UInt8} {ws : List (Wd × Nat)} {j : Nat} {Q : TQ} (hs : s.length < 4294967296) (h : j < s.length) (h1 : Nat.beq (byteAt s j).toNat 35 = false) (h2 : blP (byteAt s j) = true)
    (hm : ∀ fr' H' k0, List.range 19 <+: k0 → Ren 12 k0 fr' H' (mkFr 46 [0, 1, 3] (wsV (j + 1))) (mkH 12 (lnH s ws 0 0 .ready none)) → Q .normal fr' H') : TriL ELn P I none (flat (codeAt [1, 0] fn217.body)) (mkFr 46 [0, 1, 3] (wsV j)) (mkH 12 (lnH s ws 0 0 .ready none)) Q := by
  have h0 := blt_t (show j < lenU s from h)
  have h2b : cBlB (.ofNat (UInt8.toNat (byteAt s j))) = true := h2
  cases ws with
  | nil =>
    exact ws_leaf hE (vs := wsV (j + 1)) (os := lnH s ([] : List (Wd × Nat)) 0 0 .ready none) (q := 6) ((wsNb_eq s j).trans (by rw [h0, h1, h2b, up_eq (by omega)]; rfl)) (by decide) rfl rfl (robjs_cons (robj_c1 rfl) (robjs_cons (robj_c1 rfl) (robjs_cons (robj_c1 rfl) (robjs_cons (robj_c1 rfl) (robjs_cons (robj_c1 rfl) (robjs_cons robj_dfr (robjs_cons (robj_lo rfl rfl) robjs_nil))))))) fun fr' H' r => hm fr' H' _ ⟨[], rfl⟩ r
  | cons p ws =>
    exact ws_leaf hE (vs := wsV (j + 1)) (os := lnH s (p :: ws) 0 0 .ready none) (q := 7) ((wsSb_eq s j (p :: ws).length ((p :: ws).length * 4) (WT (p :: ws))).trans (by rw [h0, h1, h2b, up_eq (by omega)]; rfl)) (by decide) rfl rfl (robjs_cons (robj_c1 rfl) (robjs_cons (robj_c1 rfl) (robjs_cons (robj_c1 rfl) (robjs_cons (robj_c1 rfl) (robjs_cons (robj_c1 rfl) (robjs_cons robj_dfr (robjs_cons (robj_lo rfl rfl) (robjs_cons (robj_w _ _) robjs_nil)))))))) fun fr' H' r => hm fr' H' _ ⟨[19], rfl⟩ r
theorem ws_x (hE : EnvOk ELn P I) {s : List UInt8} {ws : List (Wd × Nat)} {j : Nat} {Q : TQ} (hs : s.length < 4294967296) (h : j < s.length) (h1 : Nat.beq (byteAt s j).toNat 35 = false) (h2 : blP (byteAt s j) = false) (h3 : Nat.beq (wordR (s.drop j)).2.2 0 = false)
    (hm : ∀ fr' H' k0, List.range 19 <+: k0 → Ren 12 k0 fr' H' (mkFr 46 [0, 1, 3] (wsV j)) (mkH 12 (lnH s ws j (wordR (s.drop j)).2.2 .done (some .ret))) → Q .ret fr' H') : TriL ELn P I none (flat (codeAt [1, 0] fn217.body)) (mkFr 46 [0, 1, 3] (wsV j)) (mkH 12 (lnH s ws 0 0 .ready none)) Q := by
  have h0 := blt_t (show j < lenU s from h)
  have h2b : cBlB (.ofNat (UInt8.toNat (byteAt s j))) = false := h2
  have hle : Nat.ble j (lenU s) = true := ble_t (show j ≤ s.length by omega)
  have hwT : worT (s.drop j) = true := by
    unfold worT
    rw [show lenU (s.drop j) = s.length - j from List.length_drop, ble_t (by omega), blt_t (by omega)]; rfl
  cases ws with
  | nil =>
    exact ws_leaf hE (vs := wsV j) (os := lnH s ([] : List (Wd × Nat)) j (wordR (s.drop j)).2.2 .done (some .ret)) (q := 6) ((wsNx_eq s j).trans (by rw [h0, h1, h2b, hle, hwT, h3, eqb_int, eqb_int]; rfl)) (by decide) rfl rfl (robjs_cons (robj_c1 rfl) (robjs_cons (robj_c1 rfl) (robjs_cons (robj_c1 rfl) (robjs_cons (robj_c1 rfl) (robjs_cons (robj_c1 rfl) (robjs_cons robj_dfr (robjs_cons (robj_lo rfl rfl) robjs_nil))))))) fun fr' H' r => hm fr' H' _ ⟨[], rfl⟩ r
  | cons p ws =>
    exact ws_leaf hE (vs := wsV j) (os := lnH s (p :: ws) j (wordR (s.drop j)).2.2 .done (some .ret)) (q := 7) ((wsSx_eq s j (p :: ws).length ((p :: ws).length * 4) (WT (p :: ws))).trans (by rw [h0, h1, h2b, hle, hwT, h3, eqb_int, eqb_int]; rfl)) (by decide) rfl rfl (robjs_cons (robj_c1 rfl) (robjs_cons (robj_c1 rfl) (robjs_cons (robj_c1 rfl) (robjs_cons (robj_c1 rfl) (robjs_cons (robj_c1 rfl) (robjs_cons robj_dfr (robjs_cons (robj_lo rfl rfl) (robjs_cons (robj_w _ _) robjs_nil)))))))) fun fr' H' r => hm fr' H' _ ⟨[19], rfl⟩ r
theorem ws_w (hE : EnvOk ELn P I) {s : List UInt8} {ws : List (Wd × Nat)} {j : Nat} {Q : TQ} (hs : s.length < 4294967296) (h : j < s.length) (h1 : Nat.beq (byteAt s j).toNat 35 = false) (h2 : blP (byteAt s j) = false) (h3 : Nat.beq (wordR (s.drop j)).2.2 0 = true) (hw : ws.length < 1048576)
    (hm : ∀ fr' H' k0, List.range 19 <+: k0 → Ren 12 k0 fr' H' (mkFr 46 [0, 1, 3] (wsV (j + (wordR (s.drop j)).2.1))) (mkH 12 (lnH s (ws ++ [((wordR (s.drop j)).1, j)]) 0 0 .ready none)) → Q .normal fr' H') : TriL ELn P I none (flat (codeAt [1, 0] fn217.body)) (mkFr 46 [0, 1, 3] (wsV j)) (mkH 12 (lnH s ws 0 0 .ready none)) Q := by
  have h0 := blt_t (show j < lenU s from h)
  have h2b : cBlB (.ofNat (UInt8.toNat (byteAt s j))) = false := h2
  have hle : Nat.ble j (lenU s) = true := ble_t (show j ≤ s.length by omega)
  have hwT : worT (s.drop j) = true := by
    unfold worT
    rw [show lenU (s.drop j) = s.length - j from List.length_drop, ble_t (by omega), blt_t (by omega)]; rfl
  have hn := (wordR_len (s := s.drop j) (by rw [List.length_drop]; omega) (Nat.eq_of_beq_eq_true h3)).2
  rw [List.length_drop] at hn
  have hsm : wrapR .i64 (.ofNat (Nat.add j (wordR (s.drop j)).2.1)) = .ofNat (j + (wordR (s.drop j)).2.1) := wrapR_small (k := j + (wordR (s.drop j)).2.1) (by omega)
  cases ws with
  | nil =>
    exact ws_leaf hE (vs := wsV (j + (wordR (s.drop j)).2.1)) (os := [c1 85 .nils, c1 3 (.int .i64 (.ofNat 0)), c1 32 (.int .i64 (.ofNat 0)), c1 85 (.sl 22 0 1 none), c1 9 (.str s), .dfr, loO .ready none, .cells (([] : List (Wd × Nat)).length * 4 + 4) (WT (([] : List (Wd × Nat)) ++ [((wordR (s.drop j)).1, j)])) 147 (some 4) 0 false false]) (q := 7) ((wsNw_eq s j).trans (by rw [h0, h1, h2b, hle, hwT, h3, hsm]; rfl)) (by decide) (by unfold lnH; rw [lRow_snoc]; rfl) rfl (by unfold lnH; rw [lV_snoc, lRow_snoc]; exact robjs_cons (robj_c1 rfl) (robjs_cons (robj_c1 rfl) (robjs_cons (robj_c1 rfl) (robjs_cons (robj_c1 rfl) (robjs_cons (robj_c1 rfl) (robjs_cons robj_dfr (robjs_cons (robj_lo rfl rfl) (robjs_cons (robj_w _ _) robjs_nil)))))))) fun fr' H' r => hm fr' H' _ ⟨[22], rfl⟩ r
  | cons p ws =>
    have e5 : Nat.blt (Nat.mul (p :: ws).length 4) ((p :: ws).length * 4) = false := blt_f (Nat.lt_irrefl _)
    have e6 : Nat.beq ((p :: ws).length * 4) (Nat.mul (p :: ws).length 4) = true := beq_t rfl
    have e7 : roomy (Nat.succ (p :: ws).length) 40 = true := by
      unfold roomy
      rw [Bool.or_eq_true, Nat.ble_eq]; left; simp only [List.length_cons] at hw ⊢; omega
    have e8 : Tr.putAll (WT (p :: ws)) ((p :: ws).length * 4) [.int .i64 (.ofNat ((wordR (s.drop j)).1.kind)), .str ((wordR (s.drop j)).1.text), .int .u64 (.ofNat ((wordR (s.drop j)).1.num)), .int .i64 (.ofNat j)] = WT ((p :: ws) ++ [((wordR (s.drop j)).1, j)]) := WT_snoc (p :: ws) ((wordR (s.drop j)).1, j)
    exact ws_leaf hE (vs := wsV (j + (wordR (s.drop j)).2.1)) (os := [c1 85 .nils, c1 3 (.int .i64 (.ofNat 0)), c1 32 (.int .i64 (.ofNat 0)), c1 85 (.sl 23 0 ((p :: ws).length + 1) none), c1 9 (.str s), .dfr, loO .ready none, .cells ((p :: ws).length * 4 + 4) (WT ((p :: ws) ++ [((wordR (s.drop j)).1, j)])) 147 (some 4) 0 false false]) (q := 7) ((wsSw_eq s j (p :: ws).length ((p :: ws).length * 4) (WT (p :: ws))).trans (by rw [h0, h1, h2b, hle, hwT, h3, hsm, e5, e6, e7, e8]; rfl)) (by decide) (by unfold lnH; rw [lRow_snoc]; rfl) rfl (by unfold lnH; rw [lV_snoc, lRow_snoc]; exact robjs_cons (robj_c1 rfl) (robjs_cons (robj_c1 rfl) (robjs_cons (robj_c1 rfl) (robjs_cons (robj_c1 rfl) (robjs_cons (robj_c1 rfl) (robjs_cons robj_dfr (robjs_cons (robj_lo rfl rfl) (robjs_cons (robj_w _ _) robjs_nil)))))))) fun fr' H' r => hm fr' H' _ ⟨[23], rfl⟩ r
def wsQ (s : List UInt8) (E : AExit) : TQ := fun e fr H => (e = E ∧ ∃ ws j k0, List.range 19 <+: k0 ∧ lexR s = (ws, 0, 0) ∧ Ren 12 k0 fr H (mkFr 46 [0, 1, 3] (wsV j)) (mkH 12 (lnH s ws 0 0 .ready none))) ∨ (e = .ret ∧ ∃ ws j c k0, List.range 19 <+: k0 ∧ c ≠ 0 ∧ lexR s = ([], j, c) ∧ Ren 12 k0 fr H (mkFr 46 [0, 1, 3] (wsV j)) (mkH 12 (lnH s ws j c (.done) (some .ret))))
theorem ws_loop (hE : EnvOk ELn P I) (hI : CarriedN 19 I) {s : List UInt8} (hs : s.length < 1048576) : Tri ELn P I none (.loop (codeAt [1, 0] fn217.body)) (mkFr 46 [0, 1, 3] (wsV 0)) (mkH 12 (lnH s [] 0 0 .ready none)) (wsQ s (.exit 0)) := by
  refine Tri.loopN (X := List (Wd × Nat) × Nat) (fr := fun x => mkFr 46 [0, 1, 3] (wsV x.2)) (H := fun x => mkH 12 (lnH s x.1 0 0 .ready none)) (Inv := fun x => x.1.length ≤ x.2 ∧ x.2 ≤ s.length ∧ lexR s = preW x.1 (lexF (s.length + 1 - x.2) s x.2)) (fun x => s.length - x.2) hI ?_ ([], 0) ⟨Nat.le_refl _, Nat.zero_le _, ?_⟩
  · rintro ⟨ws, j⟩ ⟨i1, i2, i3⟩
    simp only at i1 i2 i3
    refine tri_of_triL _ ?_
    have hf : s.length + 1 - j = (s.length - j) + 1 := by omega
    rw [hf] at i3
    have stop : (!(Nat.blt j s.length) || Nat.beq (byteAt s j).toNat 35) = true → lexR s = (ws, 0, 0) := fun h => by
      rw [i3]
      unfold lexF
      rw [h]
      unfold preW
      simp
    by_cases h : j < s.length
    · have hb := blt_t h
      cases h1 : Nat.beq (byteAt s j).toNat 35 with
      | true => exact ws_h hE (by omega) h h1 fun fr' H' k0 hk r => .inr ⟨(by intro h; cases h), .inl ⟨rfl, ws, j, k0, hk, stop (by rw [h1, Bool.or_true]), r⟩⟩
      | false =>
        unfold lexF at i3
        rw [hb, h1] at i3
        simp only [Bool.not_true, Bool.or_false, cond_false] at i3
        cases h2 : blP (byteAt s j) with
        | true =>
          rw [h2] at i3
          exact ws_b hE (by omega) h h1 h2 fun fr' H' k0 hk r => .inl ⟨rfl, (ws, j + 1), k0, ⟨by simp only; omega, h, by rw [i3]; simp only [cond_true]; rw [show s.length + 1 - (j + 1) = s.length - j by omega]⟩, by simp only; omega, hk, r⟩
        | false =>
          rw [h2] at i3
          simp only [cond_false] at i3
          cases h3 : Nat.beq (wordR (s.drop j)).2.2 0 with
          | true =>
            rw [h3] at i3
            simp only [cond_true] at i3
            have hn := wordR_len (s := s.drop j) (by rw [List.length_drop]; omega) (Nat.eq_of_beq_eq_true h3)
            rw [List.length_drop] at hn
            rw [preW_preW, lexF_fuel s (s.length - j) (s.length + 1 - (j + (wordR (s.drop j)).2.1)) (j + (wordR (s.drop j)).2.1) (by omega) (by omega)] at i3
            exact ws_w hE (by omega) h h1 h2 h3 (show ws.length < 1048576 by omega) fun fr' H' k0 hk r => .inl ⟨rfl, (ws ++ [((wordR (s.drop j)).1, j)], j + (wordR (s.drop j)).2.1), k0, ⟨by simp only [List.length_append, List.length_cons, List.length_nil]; omega, by simp only; omega, i3⟩, by simp only; omega, hk, r⟩
          | false =>
            rw [h3] at i3
            simp only [cond_false] at i3
            have hc : (wordR (s.drop j)).2.2 ≠ 0 := fun e => by rw [e] at h3; cases h3
            refine ws_x hE (by omega) h h1 h2 h3 fun fr' H' k0 hk r => .inr ⟨(by intro h; cases h), .inr ⟨rfl, ws, j, _, k0, hk, hc, ?_, r⟩⟩
            rw [i3]
            unfold preW
            simp only [h3, cond_false]
    · exact ws_e hE (by omega) h fun fr' H' k0 hk r => .inr ⟨(by intro h; cases h), .inl ⟨rfl, ws, j, k0, hk, stop (by rw [blt_f h]; rfl), r⟩⟩
  · rw [Nat.sub_zero]
    exact (preW_nil _ (lexF_shape _ _ _).1 (lexF_shape _ _ _).2).symm
theorem wsA_eq (s : List UInt8) : codesP ELn (callPS ELn SKln noPin 9) ((flat fn217.body).take 1) (leafP 12 [0, 1, 3] [(19, [0, 1, 2, 3, 4, 5, 6, 7, 8, 9, 10, 11, 12, 13, 14, 15, 16, 17, 18])]) (newFr fn217 [.yld 18, .ptr 16 0]) (mkH 12 (lnH s [] 0 0 .ready none)) [] = lf .normal 46 ((wsV 0).map some) ((lnH s [] 0 0 .ready none).map some) := by kernel_rfl
theorem ws_tri (hE : EnvOk ELn P I) (hI : CarriedN 19 I) {s : List UInt8} (hs : s.length < 1048576) : Tri ELn P I none fn217.body (newFr fn217 [.yld 18, .ptr 16 0]) (mkH 12 (lnH s [] 0 0 .ready none)) (wsQ s .normal) := by
  refine tri_of_triL _ ?_
  rw [fn217_flat]
  have hd : TriL ELn P I none ((flat fn217.body).take 1) (newFr fn217 [.yld 18, .ptr 16 0]) (mkH 12 (lnH s [] 0 0 .ready none)) fun e fr H => e = .normal ∧ ∃ k0, List.range 19 <+: k0 ∧ Ren 12 k0 fr H (mkFr 46 [0, 1, 3] (wsV 0)) (mkH 12 (lnH s [] 0 0 .ready none)) :=
    TriL.leafMC hE lnk_ok (wsA_eq s) (by decide) rfl (fun keep h1 h2 => by rw [in_one h1 (L := 6) h2]; exact robjs_cons (robj_c1 rfl) (robjs_cons (robj_c1 rfl) (robjs_cons (robj_c1 rfl) (robjs_cons (robj_c1 rfl) (robjs_cons (robj_c1 rfl) (robjs_cons robj_dfr (robjs_cons (robj_lo rfl rfl) robjs_nil))))))) fun fr' H' keep h1 h2 r => ⟨rfl, keep, by rw [in_one h1 (L := 6) h2]; exact ⟨[], rfl⟩, r⟩
  refine TriL.appendI hd fun e fr H h => ?_
  obtain ⟨rfl, k0, hk, r⟩ := h
  refine .inl ⟨rfl, TriL.renN hI r hk ?_⟩
  refine Tri.mono (Tri.block (Q := fun e fr H => wsQ s .normal e fr H) ((ws_loop hE hI hs).mono ?_)) ?_
  · rintro e fr H (⟨rfl, h⟩ | ⟨rfl, h⟩)
    · exact .inl ⟨rfl, h⟩
    · exact .inr ⟨rfl, h⟩
  · rintro e fr H (⟨rfl, h⟩ | ⟨rfl, h⟩)
    · exact .inl ⟨rfl, TriL.nil (.inl ⟨rfl, h⟩)⟩
    · exact .inr ⟨(by intro h; cases h), .inr ⟨rfl, h⟩⟩
def lnH5 (s : List UInt8) : List AObj := [c1 85 .nils, c1 3 (.int .i64 (.ofNat 0)), c1 32 (.int .i64 (.ofNat 0)), c1 85 .nils, c1 9 (.str s)]
theorem lnA_eq (s : List UInt8) : codesP ELn (callPS ELn SKln noPin 9) ((flat fn58.body).take 3) (leafP 12 lnS [(17, [0, 1, 2, 3, 4, 5, 6, 7, 8, 9, 10, 11, 12, 13, 14, 15, 16])]) (newFr fn58 [.str s]) (mkH 12 []) [] = lf .normal 24 (lnVs.map some) ((lnH5 s).map some) := by kernel_rfl
theorem ln_opd : opd ELn (mkFr 24 lnS lnVs).t lnF = some (.fn 217 [] [.ptr 16 0]) := by kernel_rfl
def lnFr : AFr := ⟨24, putL lnS lnVs, [.mark 17], false⟩
def lnHN (s : List UInt8) (x2 x5 : AV) (x e : Int) (st : LSt) (p : Option AExit) (r : List AObj) : AHeap := (mkH 12 ([c1 85 x2, c1 3 (.int .i64 x), c1 32 (.int .i64 e), c1 85 x5, c1 9 (.str s), .dfr, loO st p] ++ r)).put 18 (loO .exhausted p)
def lnR (s : List UInt8) (v : AV) (H : AHeap) : Prop := (∃ ws, lexR s = (ws, 0, 0) ∧ v = .tup [lV ws, .int .i64 (.ofNat 0), .int .i64 (.ofNat 0)] ∧ (ws ≠ [] → H.get 19 = some (rowW ws))) ∨ (∃ j c, c ≠ 0 ∧ lexR s = ([], j, c) ∧ v = .tup [.nils, .int .i64 (.ofNat j), .int .i64 (.ofNat c)])
def kLn : PC (AExit × AV × Option AObj) := fun e fr H _ => match leaveA ELn (run ELn 0) fn58.results fr.t fr.df none H with
  | some (.call (.ret v H2)) => some (e, v, H2.get 19)
  | _ => none
theorem lnZN (s : List UInt8) : codesP ELn (callPS ELn SKln noPin 9) ((flat fn58.body).drop 4) kLn lnFr (lnHN s .nils .nils (.ofNat 0) (.ofNat 0) .ready none []) [] = some (.ret, .tup [.nils, .int .i64 (.ofNat 0), .int .i64 (.ofNat 0)], none) := by kernel_rfl
theorem lnZS (s : List UInt8) (m n : Nat) (T : Tr AV) : codesP ELn (callPS ELn SKln noPin 9) ((flat fn58.body).drop 4) kLn lnFr (lnHN s .nils (.sl 19 0 m none) (.ofNat 0) (.ofNat 0) .ready none [.cells n T 147 (some 4) 0 false false]) [] = some (.ret, .tup [.sl 19 0 m none, .int .i64 (.ofNat 0), .int .i64 (.ofNat 0)], some (.cells n T 147 (some 4) 0 false false)) := by kernel_rfl
theorem lnXN (s : List UInt8) (j c : Int) (x5 : AV) : kLn .ret lnFr (lnHN s .nils x5 j c .done (some .ret) []) [] = some (.ret, .tup [.nils, .int .i64 j, .int .i64 c], none) := by kernel_rfl
theorem lnXS (s : List UInt8) (j c : Int) (x5 : AV) (o : AObj) : kLn .ret lnFr (lnHN s .nils x5 j c .done (some .ret) [o]) [] = some (.ret, .tup [.nils, .int .i64 j, .int .i64 c], some o) := by kernel_rfl
theorem kLn_some {e e2 : AExit} {fr : AFr} {H : AHeap} {o : Orc} {v : AV} {x : Option AObj} (h : kLn e fr H o = some (e2, v, x)) : e = e2 ∧ ∃ H2, leaveA ELn (run ELn 0) fn58.results fr.t fr.df none H = some (.call (.ret v H2)) ∧ H2.get 19 = x := by
  unfold kLn at h
  split at h
  · rename_i v' H2 e
    simp only [Option.some.injEq, Prod.mk.injEq] at h
    obtain ⟨rfl, rfl, rfl⟩ := h
    exact ⟨rfl, H2, e, rfl⟩
  · cases h
def lnQ (s : List UInt8) : TQ := fun e fr H => (e = .normal ∨ e = .ret) ∧ ∃ v H2, leaveA ELn (run ELn 0) fn58.results fr.t fr.df none H = some (.call (.ret v H2)) ∧ lnR s v H2
def lnM (s : List UInt8) : TQ := fun e fr H => fr = lnFr ∧ ((e = .normal ∧ ∃ ws, lexR s = (ws, 0, 0) ∧ H = lnHN s .nils (lV ws) (.ofNat 0) (.ofNat 0) .ready none (lRow ws)) ∨ (e = .ret ∧ ∃ ws j c, c ≠ 0 ∧ lexR s = ([], j, c) ∧ H = lnHN s .nils (lV ws) (.ofNat j) (.ofNat c) .done (some .ret) (lRow ws)))
theorem lo_at (s : List UInt8) (ws : List (Wd × Nat)) (x e : Nat) (st : LSt) (p : Option AExit) : (mkH 12 (lnH s ws x e st p)).get 18 = some (loO st p) := by
  cases ws with
  | nil => kernel_rfl
  | cons q ws => kernel_rfl
theorem ln_range (hE : EnvOk ELn P I) (hI : Carried I) {s : List UInt8} (hs : s.length < 1048576) : Tri ELn P I none (.rangeFunc lnF lnPs lnAs lnBo) (mkFr 24 lnS lnVs) (mkH 12 (lnH5 s)) (lnM s) := by
  refine Tri.rangeFunc hE hI ln_opd fn217_eq rfl fun M0 hM => ?_
  have hcn := hI.pin M0
  rw [show M0.length = 19 from hM] at hcn
  refine Tri.mono (ws_tri (hE.pin hI M0) hcn hs) ?_
  rintro e fr H (⟨rfl, ws, j, k0, hk, hl, r⟩ | ⟨rfl, ws, j, c, k0, hk, hc, hl, r⟩)
  · exact ⟨.inl rfl, r.df.1, ⟨[], by rw [fn217_res]; rfl⟩, k0, _, _, .ready, none, _, _, _, _, _, _, r, hk, lo_at s ws 0 0 .ready none, (by intro h; cases h), rfl, rfl, .inl ⟨rfl, ws, hl, rfl⟩⟩
  · exact ⟨.inr rfl, r.df.1, ⟨[], by rw [fn217_res]; rfl⟩, k0, _, _, .done, some .ret, _, _, _, _, _, _, r, hk, lo_at s ws j c .done (some .ret), (by intro h; cases h), rfl, rfl, .inr ⟨rfl, ws, j, c, hc, hl, rfl⟩⟩
theorem ln_tri (hE : EnvOk ELn P I) (hI : Carried I) {s : List UInt8} (hs : s.length < 1048576) : Tri ELn P I none fn58.body (newFr fn58 [.str s]) (mkH 12 []) (lnQ s) := by
  refine tri_of_triL _ ?_
  rw [fn58_flat]
  refine TriL.leafPX hE hI lnk_ok (lnA_eq s) (by decide) (os2 := lnH5 s) rfl (fun keep hk => ?_) (.inl ⟨rfl, ?_⟩)
  · exact robjs_cons (robj_c1 rfl) (robjs_cons (robj_c1 rfl) (robjs_cons (robj_c1 rfl) (robjs_cons (robj_c1 rfl) (robjs_cons (robj_c1 rfl) robjs_nil))))
  refine Tri.mono (Tri.block (Q := lnM s) ((ln_range hE hI hs).mono ?_)) ?_
  · rintro e fr H ⟨rfl, ⟨rfl, h⟩ | ⟨rfl, h⟩⟩
    · exact ⟨rfl, .inl ⟨rfl, h⟩⟩
    · exact ⟨rfl, .inr ⟨rfl, h⟩⟩
  · rintro e fr H ⟨rfl, ⟨rfl, ws, hl, rfl⟩ | ⟨rfl, ws, j, c, hc, hl, rfl⟩⟩
    · refine .inl ⟨rfl, ?_⟩
      have go : ∀ {x : Option AObj}, codesP ELn (callPS ELn SKln noPin 9) ((flat fn58.body).drop 4) kLn lnFr (lnHN s .nils (lV ws) (.ofNat 0) (.ofNat 0) .ready none (lRow ws)) [] = some (.ret, .tup [lV ws, .int .i64 (.ofNat 0), .int .i64 (.ofNat 0)], x) → (ws ≠ [] → x = some (rowW ws)) → TriL ELn P I none ((flat fn58.body).drop 4) lnFr (lnHN s .nils (lV ws) (.ofNat 0) (.ofNat 0) .ready none (lRow ws)) (lnQ s) := fun {x} h hx => by
        obtain ⟨e1, fr', H', o', e2, e3⟩ := codesP_some lnk_ok _ _ _ _ _ _ h
        obtain ⟨rfl, H2, e4, e5⟩ := kLn_some e3
        have := TriL.run (m := []) hE (sound_run hE _) (ro := none) (Q := lnQ s) e2 (.inr ⟨(by intro h; cases h), .inr rfl, _, H2, e4, .inl ⟨ws, hl, rfl, fun h => by rw [e5]; exact hx h⟩⟩)
        rwa [List.append_nil] at this
      cases ws with
      | nil => exact go (lnZN s) fun h => absurd rfl h
      | cons q ws => exact go (lnZS s _ _ _) fun _ => rfl
    · refine .inr ⟨(by intro h; cases h), .inr rfl, ?_⟩
      have go : ∀ {x : Option AObj}, kLn .ret lnFr (lnHN s .nils (lV ws) (.ofNat j) (.ofNat c) .done (some .ret) (lRow ws)) [] = some (.ret, .tup [.nils, .int .i64 (.ofNat j), .int .i64 (.ofNat c)], x) → ∃ v H2, leaveA ELn (run ELn 0) fn58.results lnFr.t lnFr.df none (lnHN s .nils (lV ws) (.ofNat j) (.ofNat c) .done (some .ret) (lRow ws)) = some (.call (.ret v H2)) ∧ lnR s v H2 := fun {x} h => by
        obtain ⟨_, H2, e4, e5⟩ := kLn_some h
        exact ⟨_, H2, e4, .inr ⟨j, c, hc, hl, rfl⟩⟩
      cases ws with
      | nil => exact go (lnXN s _ _ _)
      | cons q ws => exact go (lnXS s _ _ _ _)
end
def lineV (H : AHeap) (s : List UInt8) : AV × AHeap := match lexR s with
  | ([], j, c) => (.tup [.nils, .int .i64 (.ofNat j), .int .i64 (.ofNat c)], H)
  | (p :: ws, j, c) => (.tup [.sl H.next 0 (p :: ws).length none, .int .i64 (.ofNat j), .int .i64 (.ofNat c)], H.new (rowW (p :: ws)))
def lineSm : Sm := fun f args H => match args with
  | [.str s] => bif Nat.beq f 58 && Nat.blt (lenU s) 1048576 then some (lineV H s) else none
  | _ => none
theorem line_ok : SmOk Tryz.prog gl lineSm := by
  intro f args H v H' M w cargs hs hw hr ha
  unfold lineSm at hs
  split at hs
  case h_2 => cases hs
  rename_i s
  rw [Bool.cond_eq_ite] at hs
  split at hs
  case isFalse => cases hs
  rename_i hb
  rw [Bool.and_eq_true, Nat.beq_eq, Nat.blt_eq] at hb
  obtain ⟨rfl, hlen⟩ := hb
  simp only [Option.some.injEq] at hs
  have hp : ∀ v ∈ [AV.str s], Plain v := plain_list rfl
  have b : BodyTo Tryz.prog gl 58 cargs (lnR s) := body_toM eln_ok gl_ok fn58_eq (VRels.anyPlain hp ha _) fun w hw => Tri.ren (kept_carried hw) (ren_start hp) (ln_tri (eln_ok w hw) (kept_carried hw) hlen)
  unfold lineV at hs
  split at hs
  · rename_i j c hl
    cases hs
    refine BodyTo.calls (os := []) b hw hr ?_
    rintro v2 H2 (⟨ws, h1, rfl, _⟩ | ⟨j2, c2, hc, h1, rfl⟩)
    · rw [h1] at hl
      cases hl
      exact ⟨[], List.nodup_nil, rfl, rfl, fun j x hx => by simp at hx⟩
    · rw [h1] at hl
      cases hl
      exact ⟨[], List.nodup_nil, rfl, rfl, fun j x hx => by simp at hx⟩
  · rename_i p ws j c hl
    cases hs
    refine BodyTo.calls (os := [rowW (p :: ws)]) b hw hr ?_
    rintro v2 H2 (⟨ws2, h1, rfl, h2⟩ | ⟨j2, c2, hc, h1, rfl⟩)
    · rw [h1] at hl
      cases hl
      refine ⟨[19], by simp, rfl, ?_, fun j x hx => ?_⟩
      · simp [lV, rnV, rnVs, posOf]
      · match j, hx with
        | 0, hx =>
          cases hx
          exact ⟨19, _, rfl, h2 (by intro h; cases h), ⟨_, rfl, fun i y hy => ⟨y, hy, wPlain _ i y hy _ _⟩⟩, rfl⟩
        | j + 1, hx => simp at hx
    · rw [h1] at hl
      cases hl
end
end Go.Proofs.YthlcgkebfodnmaaGreatDoor
