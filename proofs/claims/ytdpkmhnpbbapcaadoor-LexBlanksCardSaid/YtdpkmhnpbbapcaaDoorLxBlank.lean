/- LexBlanks: the walk. -/
import Derived.Test.YtdpkmhnpbbapcaaDoorLxToks
import Derived.Test.YtdpkmhnpbbapcaaDoorLxSame
import Derived.Test.YtdpkmhnpbbapcaaDoorVaiLawB
import Derived.KernelRfl
namespace Go.Proofs.YtdpkmhnpbbapcaaDoor
open Go Go.Vai
noncomputable section
set_option maxRecDepth 100000
def lexN (s : List UInt8) : Nat := (lexR s).1.length
def lexW (s : List UInt8) : Tr AV := WT (lexR s).1
def lexJ (s : List UInt8) : Nat := (lexR s).2.1
def lexC (s : List UInt8) : Nat := (lexR s).2.2
def lexT0 (s : List UInt8) : Bool := Nat.blt (lenU s) 1048576 && !(Nat.beq (lexR s).2.2 0)
def lexT1 (s : List UInt8) : Bool := Nat.blt (lenU s) 1048576 && (Nat.beq (lexR s).2.2 0 && Nat.beq (lexR s).1.length 0)
def lexT2 (s : List UInt8) : Bool := Nat.blt (lenU s) 1048576 && (Nat.beq (lexR s).2.2 0 && !(Nat.beq (lexR s).1.length 0))
theorem lex_ok {s : List UInt8} (h : Nat.beq (lexR s).2.2 0 = true) : lexR s = ((lexR s).1, 0, 0) := by
  have h1 := Nat.eq_of_beq_eq_true h
  have h2 := (lexF_shape (s.length + 1) s 0).1 h1
  show lexR s = _
  unfold lexR at h1 h2 ⊢
  generalize lexF (s.length + 1) s 0 = x at h1 h2 ⊢
  obtain ⟨a, b, c⟩ := x
  simp only at h1 h2
  rw [h1, h2]
theorem lineV0 (H : AHeap) {s : List UInt8} (h : (!(Nat.beq (lexR s).2.2 0)) = true) : lineV H s = (.tup [.nils, .int .i64 (.ofNat (lexJ s)), .int .i64 (.ofNat (lexC s))], H) := by
  have h1 : (lexR s).1 = [] := (lexF_shape (s.length + 1) s 0).2 fun e => by rw [show (lexR s).2.2 = 0 from e] at h; cases h
  unfold lineV lexJ lexC
  generalize lexR s = x at h1 ⊢
  obtain ⟨a, b, c⟩ := x
  simp only at h1
  subst h1; rfl
theorem lineV1 (H : AHeap) {s : List UInt8} (h : Nat.beq (lexR s).2.2 0 = true ∧ Nat.beq (lexR s).1.length 0 = true) : lineV H s = (.tup [.nils, .int .i64 (.ofNat 0), .int .i64 (.ofNat 0)], H) := by
  have h1 := lex_ok h.1
  have h2 := List.eq_nil_of_length_eq_zero (Nat.eq_of_beq_eq_true h.2)
  unfold lineV
  rw [h1, h2]
theorem lineV2 (H : AHeap) {s : List UInt8} (h : Nat.beq (lexR s).2.2 0 = true ∧ (!(Nat.beq (lexR s).1.length 0)) = true) : lineV H s = (.tup [.sl H.next 0 (lexN s) none, .int .i64 (.ofNat 0), .int .i64 (.ofNat 0)], H.new (.cells (Nat.mul (lexN s) 4) (lexW s) 31 (some 4) 0 false false)) := by
  have h1 := lex_ok h.1
  have h2 := h.2
  unfold lineV lexN lexW
  generalize (lexR s).1 = a at h1 h2 ⊢
  rw [h1]
  cases a with
  | nil => simp at h2
  | cons p a => rfl
def samK {α : Type} (args : List AV) (H : AHeap) (k : AV → AHeap → Option α) : Option α := match args with
  | [.nils, .nils] => k (.bool true) H
  | [.sl a 0 m none, .sl b 0 m2 none] => (match H.get a, H.get b with
    | some (.cells n T _ _ _ _ _), some (.cells n2 T2 _ _ _ _ _) => bc (sameT m n T m2 n2 T2) (k (.bool true) H) none
    | _, _ => none)
  | _ => none
theorem samK_some {α : Type} {args : List AV} {H : AHeap} {k : AV → AHeap → Option α} {r : α} (h : samK args H k = some r) : ∃ v H', sameSm 8 args H = some (v, H') ∧ k v H' = some r := by
  unfold samK at h
  split at h
  · exact ⟨_, _, rfl, h⟩
  · split at h
    case h_2 => cases h
    rename_i hga hgb
    obtain ⟨h1, h⟩ := bc_none h
    refine ⟨_, _, ?_, h⟩
    unfold sameSm
    simp only [hga, hgb, h1, Nat.beq_refl, Bool.and_self, cond_true]
  · cases h
def EBl : Env := envOf Tryd.prog 8 [5, 9, 8] (orSm (retSm 5 true) (orSm lineSm sameSm))
theorem ebl_ok (w : World) (hw : GlobOk gl w) : EnvOk EBl Tryd.prog (Kept gl w) := envOk_sm (by kernel_rfl) ((smOk_ret begun_ret).or (line_ok.or same_ok)) mixed_ok (fun _ _ _ h => h.1) (kept_carried hw).ext
theorem or_right {a b : Sm} {f : Nat} {args : List AV} {H : AHeap} {r : AV × AHeap} (h : a f args H = none) (h2 : b f args H = some r) : orSm a b f args H = some r := (or_ne h).trans h2
theorem ret_ne {g : Nat} (h : g ≠ 5) (args : List AV) (H : AHeap) : retSm 5 true g args H = none := by
  unfold retSm
  split
  · rw [beqF h]; rfl
  · rfl
theorem line_ne {g : Nat} (h : g ≠ 9) (args : List AV) (H : AHeap) : lineSm g args H = none := by
  unfold lineSm
  split
  · rw [beqF h]; rfl
  · rfl
def linK0 {α : Type} (args : List AV) (H : AHeap) (k : AV → AHeap → Option α) : Option α := match args with
  | [.str s] => bc (lexT0 s) (k (.tup [.nils, .int .i64 (.ofNat (lexJ s)), .int .i64 (.ofNat (lexC s))]) H) none
  | _ => none
theorem linK0_some {α : Type} {args : List AV} {H : AHeap} {k : AV → AHeap → Option α} {r : α} (h : linK0 args H k = some r) : ∃ v H', lineSm 9 args H = some (v, H') ∧ k v H' = some r := by
  unfold linK0 at h
  split at h
  case h_2 => cases h
  rename_i s
  obtain ⟨h1, h⟩ := bc_none h
  refine ⟨_, _, ?_, h⟩
  unfold lexT0 at h1
  simp only [Bool.and_eq_true] at h1
  unfold lineSm
  simp only [Nat.beq_refl, h1.1, Bool.and_self, cond_true, Option.some.injEq]
  exact lineV0 H h1.2
def SKb0 {α : Type} : Smk α := fun f args H k => bif Nat.beq f 9 then linK0 args H k else bif Nat.beq f 8 then samK args H k else smC EBl f args H k
theorem skb0_ok {α : Type} : SmkOk (α := α) EBl SKb0 := by
  intro f args H k r h
  unfold SKb0 at h
  simp only [Bool.cond_eq_ite, Nat.beq_eq] at h
  split at h
  · rename_i e
    subst e
    obtain ⟨u, H', h1, h2⟩ := linK0_some h
    exact ⟨u, H', or_right (ret_ne (by decide) args H) (or_yes h1), h2⟩
  split at h
  · rename_i e
    subst e
    obtain ⟨u, H', h1, h2⟩ := samK_some h
    exact ⟨u, H', or_right (ret_ne (by decide) args H) (or_right (line_ne (by decide) args H) h1), h2⟩
  · exact smC_ok _ _ _ _ _ _ h
theorem pb0_ok {α : Type} : POk (α := α) (callPS EBl SKb0 noPin 9) (run EBl 9) := callPS_ok EBl skb0_ok noPin 9
def linK1 {α : Type} (args : List AV) (H : AHeap) (k : AV → AHeap → Option α) : Option α := match args with
  | [.str s] => bc (lexT1 s) (k (.tup [.nils, .int .i64 (.ofNat 0), .int .i64 (.ofNat 0)]) H) none
  | _ => none
theorem linK1_some {α : Type} {args : List AV} {H : AHeap} {k : AV → AHeap → Option α} {r : α} (h : linK1 args H k = some r) : ∃ v H', lineSm 9 args H = some (v, H') ∧ k v H' = some r := by
  unfold linK1 at h
  split at h
  case h_2 => cases h
  rename_i s
  obtain ⟨h1, h⟩ := bc_none h
  refine ⟨_, _, ?_, h⟩
  unfold lexT1 at h1
  simp only [Bool.and_eq_true] at h1
  unfold lineSm
  simp only [Nat.beq_refl, h1.1, Bool.and_self, cond_true, Option.some.injEq]
  exact lineV1 H h1.2
def SKb1 {α : Type} : Smk α := fun f args H k => bif Nat.beq f 9 then linK1 args H k else bif Nat.beq f 8 then samK args H k else smC EBl f args H k
theorem skb1_ok {α : Type} : SmkOk (α := α) EBl SKb1 := by
  intro f args H k r h
  unfold SKb1 at h
  simp only [Bool.cond_eq_ite, Nat.beq_eq] at h
  split at h
  · rename_i e
    subst e
    obtain ⟨u, H', h1, h2⟩ := linK1_some h
    exact ⟨u, H', or_right (ret_ne (by decide) args H) (or_yes h1), h2⟩
  split at h
  · rename_i e
    subst e
    obtain ⟨u, H', h1, h2⟩ := samK_some h
    exact ⟨u, H', or_right (ret_ne (by decide) args H) (or_right (line_ne (by decide) args H) h1), h2⟩
  · exact smC_ok _ _ _ _ _ _ h
theorem pb1_ok {α : Type} : POk (α := α) (callPS EBl SKb1 noPin 9) (run EBl 9) := callPS_ok EBl skb1_ok noPin 9
def linK2 {α : Type} (args : List AV) (H : AHeap) (k : AV → AHeap → Option α) : Option α := match args with
  | [.str s] => bc (lexT2 s) (k (.tup [.sl H.next 0 (lexN s) none, .int .i64 (.ofNat 0), .int .i64 (.ofNat 0)]) (H.new (.cells (Nat.mul (lexN s) 4) (lexW s) 31 (some 4) 0 false false))) none
  | _ => none
theorem linK2_some {α : Type} {args : List AV} {H : AHeap} {k : AV → AHeap → Option α} {r : α} (h : linK2 args H k = some r) : ∃ v H', lineSm 9 args H = some (v, H') ∧ k v H' = some r := by
  unfold linK2 at h
  split at h
  case h_2 => cases h
  rename_i s
  obtain ⟨h1, h⟩ := bc_none h
  refine ⟨_, _, ?_, h⟩
  unfold lexT2 at h1
  simp only [Bool.and_eq_true] at h1
  unfold lineSm
  simp only [Nat.beq_refl, h1.1, Bool.and_self, cond_true, Option.some.injEq]
  exact lineV2 H h1.2
def SKb2 {α : Type} : Smk α := fun f args H k => bif Nat.beq f 9 then linK2 args H k else bif Nat.beq f 8 then samK args H k else smC EBl f args H k
theorem skb2_ok {α : Type} : SmkOk (α := α) EBl SKb2 := by
  intro f args H k r h
  unfold SKb2 at h
  simp only [Bool.cond_eq_ite, Nat.beq_eq] at h
  split at h
  · rename_i e
    subst e
    obtain ⟨u, H', h1, h2⟩ := linK2_some h
    exact ⟨u, H', or_right (ret_ne (by decide) args H) (or_yes h1), h2⟩
  split at h
  · rename_i e
    subst e
    obtain ⟨u, H', h1, h2⟩ := samK_some h
    exact ⟨u, H', or_right (ret_ne (by decide) args H) (or_right (line_ne (by decide) args H) h1), h2⟩
  · exact smC_ok _ _ _ _ _ _ h
theorem pb2_ok {α : Type} : POk (α := α) (callPS EBl SKb2 noPin 9) (run EBl 9) := callPS_ok EBl skb2_ok noPin 9
def fn4 : AFunc := (EBl.fn 4).getD default
theorem fn4_eq : EBl.fn 4 = some fn4 := by kernel_rfl
theorem fn4_flat : flat fn4.body = (flat fn4.body).take 10 ++ .block 0 (.loop (codeAt [10, 0] fn4.body)) :: (((flat fn4.body).drop 11).take 7 ++ .block 2 (.loop (codeAt [18, 0] fn4.body)) :: (flat fn4.body).drop 19) := by kernel_rfl
theorem fn4_res : fn4.results = [4].map .tmp := by kernel_rfl
theorem blA_eq (s z : List UInt8) : codesP EBl (callPS EBl SKb0 noPin 9) (flat fn4.body) (leafP 8 [4] [(8, [0, 1, 2, 3, 4, 5, 6, 7])]) (newFr fn4 [.str s, .str z]) (mkH 8 []) (pO 5 30) = bc (Nat.blt 1024 (lenU s)) (lf .ret 130 ([.bool true].map some) ([].map some)) (none) := by kernel_rfl
theorem blB_eq (s z : List UInt8) : codesP EBl (callPS EBl SKb0 noPin 9) (flat fn4.body) (leafP 8 [4] [(8, [0, 1, 2, 3, 4, 5, 6, 7])]) (newFr fn4 [.str s, .str z]) (mkH 8 []) (pO 5 16) = bc (Nat.blt 1024 (lenU s)) (none) (bc (Nat.blt 100 (lenU z)) (lf .ret 130 ([.bool true].map some) ([].map some)) (none)) := by kernel_rfl
theorem blC_eq (s z : List UInt8) : codesP EBl (callPS EBl SKb0 noPin 9) (flat fn4.body) (leafP 8 [4] [(8, [0, 1, 2, 3, 4, 5, 6, 7])]) (newFr fn4 [.str s, .str z]) (mkH 8 []) (pO 6 32) = bc (Nat.blt 1024 (lenU s)) (none) (bc (Nat.blt 100 (lenU z)) (none) (bc (lexT0 s) (bc (!(Nat.beq (lexC s) 0)) (lf .ret 130 ([.bool true].map some) ([].map some)) (none)) (none))) := by kernel_rfl
theorem blD_eq (s z : List UInt8) : codesP EBl (callPS EBl SKb1 noPin 9) (flat fn4.body) (leafP 8 [4] [(8, [0, 1, 2, 3, 4, 5, 6, 7])]) (newFr fn4 [.str s, .str z]) (mkH 8 []) (pO 19 0) = bc (Nat.blt 1024 (lenU s)) (none) (bc (Nat.blt 100 (lenU z)) (none) (bc (lexT1 s) (bc (lexT1 []) (bc (Nat.ble (Nat.add (lenU s) 2) 1099511627776) (bc (Nat.ble (Nat.add (lenU (s ++ [32, 35])) (lenU z)) 1099511627776) (bc (lexT1 ((s ++ [32, 35]) ++ z)) (lf .ret 130 ([.bool true].map some) ([].map some)) (none)) (none)) (none)) (none)) (none))) := by kernel_rfl
theorem blE_eq (s z : List UInt8) : codesP EBl (callPS EBl SKb2 noPin 9) ((flat fn4.body).take 10) (leafP 8 [0, 1, 5, 8, 9] [(9, [0, 1, 2, 3, 4, 5, 6, 7, 8])]) (newFr fn4 [.str s, .str z]) (mkH 8 []) (pO 6 0) = bc (Nat.blt 1024 (lenU s)) (none) (bc (Nat.blt 100 (lenU z)) (none) (bc (lexT2 s) (lf .normal 130 ([.str s, .str z, .sl 8 0 (lexN s) none, .nils, .int .i64 (.ofNat 0)].map some) ([.cells (Nat.mul (lexN s) 4) (lexW s) 31 (some 4) 0 false false].map some)) (none))) := by kernel_rfl
theorem bl0n_eq (s z : List UInt8) (N n j : Nat) (T : Tr AV) : codesP EBl (callPS EBl SKb2 noPin 9) (flat (codeAt [10, 0] fn4.body)) (leafP 8 [0, 1, 5, 8, 9] [(11, [0, 1, 2, 3, 4, 5, 6, 7, 8, 10])]) (mkFr 130 [0, 1, 5, 8, 9] [.str s, .str z, .sl 8 0 N none, .nils, .int .i64 (.ofNat j)]) (mkH 8 [.cells n T 31 (some 4) 0 false false]) (pO 3 3) = bc (Nat.blt j N) (bc (Nat.blt j N) (bc (isI .i64 (Tr.get T (Nat.add (Nat.add 0 (Nat.mul j 4)) 3))) (bc (ilt (up j) (.ofNat N)) (bc (ilt (up j) (.ofNat 0)) (none) (bc (Nat.blt (Int.toNat (up j)) N) (bc (isI .i64 (Tr.get T (Nat.add (Nat.add 0 (Nat.mul (Int.toNat (up j)) 4)) 3))) (bc (ilt (asI (Tr.get T (Nat.add (Nat.add 0 (Nat.mul (Int.toNat (up j)) 4)) 3))) (.ofNat 0)) (none) (bc (Nat.ble (Int.toNat (asI (Tr.get T (Nat.add (Nat.add 0 (Nat.mul (Int.toNat (up j)) 4)) 3)))) (lenU s)) (bc (ilt (asI (Tr.get T (Nat.add (Nat.add 0 (Nat.mul j 4)) 3))) (.ofNat 0)) (none) (bc (Nat.ble (Int.toNat (asI (Tr.get T (Nat.add (Nat.add 0 (Nat.mul j 4)) 3)))) (Int.toNat (asI (Tr.get T (Nat.add (Nat.add 0 (Nat.mul (Int.toNat (up j)) 4)) 3))))) (bc (Nat.beq (lenU (List.take (Nat.sub (Int.toNat (asI (Tr.get T (Nat.add (Nat.add 0 (Nat.mul (Int.toNat (up j)) 4)) 3)))) (Int.toNat (asI (Tr.get T (Nat.add (Nat.add 0 (Nat.mul j 4)) 3))))) (List.drop (Int.toNat (asI (Tr.get T (Nat.add (Nat.add 0 (Nat.mul j 4)) 3)))) s))) 0) (bc (ieq (up j) (.ofNat N)) (none) (lf .normal 130 [some (.str s), some (.str z), none, none, some (.int .i64 (up j))] ([].map some))) (bc (roomy (Nat.add 3 (lenU (List.take (Nat.sub (Int.toNat (asI (Tr.get T (Nat.add (Nat.add 0 (Nat.mul (Int.toNat (up j)) 4)) 3)))) (Int.toNat (asI (Tr.get T (Nat.add (Nat.add 0 (Nat.mul j 4)) 3))))) (List.drop (Int.toNat (asI (Tr.get T (Nat.add (Nat.add 0 (Nat.mul j 4)) 3)))) s)))) 1) (bc (onesA (List.map byteAV (List.take (Nat.sub (Int.toNat (asI (Tr.get T (Nat.add (Nat.add 0 (Nat.mul (Int.toNat (up j)) 4)) 3)))) (Int.toNat (asI (Tr.get T (Nat.add (Nat.add 0 (Nat.mul j 4)) 3))))) (List.drop (Int.toNat (asI (Tr.get T (Nat.add (Nat.add 0 (Nat.mul j 4)) 3)))) s)))) (bc (ieq (up j) (.ofNat N)) (none) (lf .normal 130 ([.str s, .str z, .sl 8 0 N none, .sl 9 0 (Nat.add 3 (lenU (List.take (Nat.sub (Int.toNat (asI (Tr.get T (Nat.add (Nat.add 0 (Nat.mul (Int.toNat (up j)) 4)) 3)))) (Int.toNat (asI (Tr.get T (Nat.add (Nat.add 0 (Nat.mul j 4)) 3))))) (List.drop (Int.toNat (asI (Tr.get T (Nat.add (Nat.add 0 (Nat.mul j 4)) 3)))) s)))) none, .int .i64 (up j)].map some) ([.cells n T 31 (some 4) 0 false false, .cells (Nat.add 3 (Nat.mul (lenU (List.take (Nat.sub (Int.toNat (asI (Tr.get T (Nat.add (Nat.add 0 (Nat.mul (Int.toNat (up j)) 4)) 3)))) (Int.toNat (asI (Tr.get T (Nat.add (Nat.add 0 (Nat.mul j 4)) 3))))) (List.drop (Int.toNat (asI (Tr.get T (Nat.add (Nat.add 0 (Nat.mul j 4)) 3)))) s))) 1)) (Tr.putAll ((Tr.nil.putAll 0 [.int .u8 (.ofNat 32), .int .u8 (.ofNat 9), .int .u8 (.ofNat 32)])) 3 (List.map byteAV (List.take (Nat.sub (Int.toNat (asI (Tr.get T (Nat.add (Nat.add 0 (Nat.mul (Int.toNat (up j)) 4)) 3)))) (Int.toNat (asI (Tr.get T (Nat.add (Nat.add 0 (Nat.mul j 4)) 3))))) (List.drop (Int.toNat (asI (Tr.get T (Nat.add (Nat.add 0 (Nat.mul j 4)) 3)))) s)))) 5 (some 1) 0 false false].map some))) (none)) (none))) (none))) (none))) (none)) (none))) (none)) (none)) (none)) (none) := by kernel_rfl
theorem bl1n_eq (s z : List UInt8) (N n m j : Nat) (T T2 : Tr AV) : codesP EBl (callPS EBl SKb2 noPin 9) (flat (codeAt [10, 0] fn4.body)) (leafP 8 [0, 1, 5, 8, 9] [(12, [0, 1, 2, 3, 4, 5, 6, 7, 8, 11])]) (mkFr 130 [0, 1, 5, 8, 9] [.str s, .str z, .sl 8 0 N none, .sl 9 0 m none, .int .i64 (.ofNat j)]) (mkH 8 [.cells n T 31 (some 4) 0 false false, .cells m T2 5 (some 1) 0 false false]) (pO 3 3) = bc (Nat.blt j N) (bc (Nat.blt j N) (bc (isI .i64 (Tr.get T (Nat.add (Nat.add 0 (Nat.mul j 4)) 3))) (bc (ilt (up j) (.ofNat N)) (bc (ilt (up j) (.ofNat 0)) (none) (bc (Nat.blt (Int.toNat (up j)) N) (bc (isI .i64 (Tr.get T (Nat.add (Nat.add 0 (Nat.mul (Int.toNat (up j)) 4)) 3))) (bc (Nat.blt (Nat.mul m 1) m) (bc (hasA T2 0 (Nat.mul m 1)) (bc (Nat.beq (Nat.mul m 1) (Nat.mul m 1)) (bc (roomy (Nat.add m 3) 1) (bc (ilt (asI (Tr.get T (Nat.add (Nat.add 0 (Nat.mul (Int.toNat (up j)) 4)) 3))) (.ofNat 0)) (none) (bc (Nat.ble (Int.toNat (asI (Tr.get T (Nat.add (Nat.add 0 (Nat.mul (Int.toNat (up j)) 4)) 3)))) (lenU s)) (bc (ilt (asI (Tr.get T (Nat.add (Nat.add 0 (Nat.mul j 4)) 3))) (.ofNat 0)) (none) (bc (Nat.ble (Int.toNat (asI (Tr.get T (Nat.add (Nat.add 0 (Nat.mul j 4)) 3)))) (Int.toNat (asI (Tr.get T (Nat.add (Nat.add 0 (Nat.mul (Int.toNat (up j)) 4)) 3))))) (bc (Nat.blt (Nat.mul (Nat.add m 3) 1) (Nat.add (Nat.mul m 1) 3)) (bc (hasA (Tr.putAll (Tr.putAll Tr.nil 0 (getA T2 0 (Nat.mul m 1))) (Nat.mul m 1) [.int .u8 (.ofNat 32), .int .u8 (.ofNat 9), .int .u8 (.ofNat 32)]) 0 (Nat.mul (Nat.add m 3) 1)) (bc (Nat.beq (lenU (List.take (Nat.sub (Int.toNat (asI (Tr.get T (Nat.add (Nat.add 0 (Nat.mul (Int.toNat (up j)) 4)) 3)))) (Int.toNat (asI (Tr.get T (Nat.add (Nat.add 0 (Nat.mul j 4)) 3))))) (List.drop (Int.toNat (asI (Tr.get T (Nat.add (Nat.add 0 (Nat.mul j 4)) 3)))) s))) 0) (bc (ieq (up j) (.ofNat N)) (none) (lf .normal 130 [some (.str s), some (.str z), none, none, some (.int .i64 (up j))] ([].map some))) (bc (Nat.beq (Nat.mul (Nat.add m 3) 1) (Nat.mul (Nat.add m 3) 1)) (bc (roomy (Nat.add (Nat.add m 3) (lenU (List.take (Nat.sub (Int.toNat (asI (Tr.get T (Nat.add (Nat.add 0 (Nat.mul (Int.toNat (up j)) 4)) 3)))) (Int.toNat (asI (Tr.get T (Nat.add (Nat.add 0 (Nat.mul j 4)) 3))))) (List.drop (Int.toNat (asI (Tr.get T (Nat.add (Nat.add 0 (Nat.mul j 4)) 3)))) s)))) 1) (bc (onesA (List.map byteAV (List.take (Nat.sub (Int.toNat (asI (Tr.get T (Nat.add (Nat.add 0 (Nat.mul (Int.toNat (up j)) 4)) 3)))) (Int.toNat (asI (Tr.get T (Nat.add (Nat.add 0 (Nat.mul j 4)) 3))))) (List.drop (Int.toNat (asI (Tr.get T (Nat.add (Nat.add 0 (Nat.mul j 4)) 3)))) s)))) (bc (ieq (up j) (.ofNat N)) (none) (lf .normal 130 ([.str s, .str z, .sl 8 0 N none, .sl 9 0 (Nat.add (Nat.add m 3) (lenU (List.take (Nat.sub (Int.toNat (asI (Tr.get T (Nat.add (Nat.add 0 (Nat.mul (Int.toNat (up j)) 4)) 3)))) (Int.toNat (asI (Tr.get T (Nat.add (Nat.add 0 (Nat.mul j 4)) 3))))) (List.drop (Int.toNat (asI (Tr.get T (Nat.add (Nat.add 0 (Nat.mul j 4)) 3)))) s)))) none, .int .i64 (up j)].map some) ([.cells n T 31 (some 4) 0 false false, .cells (Nat.add (Nat.mul (Nat.add m 3) 1) (Nat.mul (lenU (List.take (Nat.sub (Int.toNat (asI (Tr.get T (Nat.add (Nat.add 0 (Nat.mul (Int.toNat (up j)) 4)) 3)))) (Int.toNat (asI (Tr.get T (Nat.add (Nat.add 0 (Nat.mul j 4)) 3))))) (List.drop (Int.toNat (asI (Tr.get T (Nat.add (Nat.add 0 (Nat.mul j 4)) 3)))) s))) 1)) (Tr.putAll (Tr.putAll Tr.nil 0 (getA (Tr.putAll (Tr.putAll Tr.nil 0 (getA T2 0 (Nat.mul m 1))) (Nat.mul m 1) [.int .u8 (.ofNat 32), .int .u8 (.ofNat 9), .int .u8 (.ofNat 32)]) 0 (Nat.mul (Nat.add m 3) 1))) (Nat.mul (Nat.add m 3) 1) (List.map byteAV (List.take (Nat.sub (Int.toNat (asI (Tr.get T (Nat.add (Nat.add 0 (Nat.mul (Int.toNat (up j)) 4)) 3)))) (Int.toNat (asI (Tr.get T (Nat.add (Nat.add 0 (Nat.mul j 4)) 3))))) (List.drop (Int.toNat (asI (Tr.get T (Nat.add (Nat.add 0 (Nat.mul j 4)) 3)))) s)))) 5 (some 1) 0 false false].map some))) (none)) (none)) (none))) (none)) (bc (Nat.beq (lenU (List.take (Nat.sub (Int.toNat (asI (Tr.get T (Nat.add (Nat.add 0 (Nat.mul (Int.toNat (up j)) 4)) 3)))) (Int.toNat (asI (Tr.get T (Nat.add (Nat.add 0 (Nat.mul j 4)) 3))))) (List.drop (Int.toNat (asI (Tr.get T (Nat.add (Nat.add 0 (Nat.mul j 4)) 3)))) s))) 0) (bc (ieq (up j) (.ofNat N)) (none) (lf .normal 130 [some (.str s), some (.str z), none, none, some (.int .i64 (up j))] ([].map some))) (bc (Nat.beq (Nat.add (Nat.mul m 1) 3) (Nat.mul (Nat.add m 3) 1)) (bc (roomy (Nat.add (Nat.add m 3) (lenU (List.take (Nat.sub (Int.toNat (asI (Tr.get T (Nat.add (Nat.add 0 (Nat.mul (Int.toNat (up j)) 4)) 3)))) (Int.toNat (asI (Tr.get T (Nat.add (Nat.add 0 (Nat.mul j 4)) 3))))) (List.drop (Int.toNat (asI (Tr.get T (Nat.add (Nat.add 0 (Nat.mul j 4)) 3)))) s)))) 1) (bc (onesA (List.map byteAV (List.take (Nat.sub (Int.toNat (asI (Tr.get T (Nat.add (Nat.add 0 (Nat.mul (Int.toNat (up j)) 4)) 3)))) (Int.toNat (asI (Tr.get T (Nat.add (Nat.add 0 (Nat.mul j 4)) 3))))) (List.drop (Int.toNat (asI (Tr.get T (Nat.add (Nat.add 0 (Nat.mul j 4)) 3)))) s)))) (bc (ieq (up j) (.ofNat N)) (none) (lf .normal 130 ([.str s, .str z, .sl 8 0 N none, .sl 9 0 (Nat.add (Nat.add m 3) (lenU (List.take (Nat.sub (Int.toNat (asI (Tr.get T (Nat.add (Nat.add 0 (Nat.mul (Int.toNat (up j)) 4)) 3)))) (Int.toNat (asI (Tr.get T (Nat.add (Nat.add 0 (Nat.mul j 4)) 3))))) (List.drop (Int.toNat (asI (Tr.get T (Nat.add (Nat.add 0 (Nat.mul j 4)) 3)))) s)))) none, .int .i64 (up j)].map some) ([.cells n T 31 (some 4) 0 false false, .cells (Nat.add (Nat.add (Nat.mul m 1) 3) (Nat.mul (lenU (List.take (Nat.sub (Int.toNat (asI (Tr.get T (Nat.add (Nat.add 0 (Nat.mul (Int.toNat (up j)) 4)) 3)))) (Int.toNat (asI (Tr.get T (Nat.add (Nat.add 0 (Nat.mul j 4)) 3))))) (List.drop (Int.toNat (asI (Tr.get T (Nat.add (Nat.add 0 (Nat.mul j 4)) 3)))) s))) 1)) (Tr.putAll (Tr.putAll (Tr.putAll Tr.nil 0 (getA T2 0 (Nat.mul m 1))) (Nat.mul m 1) [.int .u8 (.ofNat 32), .int .u8 (.ofNat 9), .int .u8 (.ofNat 32)]) (Nat.add (Nat.mul m 1) 3) (List.map byteAV (List.take (Nat.sub (Int.toNat (asI (Tr.get T (Nat.add (Nat.add 0 (Nat.mul (Int.toNat (up j)) 4)) 3)))) (Int.toNat (asI (Tr.get T (Nat.add (Nat.add 0 (Nat.mul j 4)) 3))))) (List.drop (Int.toNat (asI (Tr.get T (Nat.add (Nat.add 0 (Nat.mul j 4)) 3)))) s)))) 5 (some 1) 0 false false].map some))) (none)) (none)) (none)))) (none))) (none))) (none)) (none)) (none)) (bc (Nat.beq m (Nat.mul m 1)) (bc (roomy (Nat.add m 3) 1) (bc (ilt (asI (Tr.get T (Nat.add (Nat.add 0 (Nat.mul (Int.toNat (up j)) 4)) 3))) (.ofNat 0)) (none) (bc (Nat.ble (Int.toNat (asI (Tr.get T (Nat.add (Nat.add 0 (Nat.mul (Int.toNat (up j)) 4)) 3)))) (lenU s)) (bc (ilt (asI (Tr.get T (Nat.add (Nat.add 0 (Nat.mul j 4)) 3))) (.ofNat 0)) (none) (bc (Nat.ble (Int.toNat (asI (Tr.get T (Nat.add (Nat.add 0 (Nat.mul j 4)) 3)))) (Int.toNat (asI (Tr.get T (Nat.add (Nat.add 0 (Nat.mul (Int.toNat (up j)) 4)) 3))))) (bc (Nat.blt (Nat.mul (Nat.add m 3) 1) (Nat.add m 3)) (bc (hasA (Tr.putAll T2 m [.int .u8 (.ofNat 32), .int .u8 (.ofNat 9), .int .u8 (.ofNat 32)]) 0 (Nat.mul (Nat.add m 3) 1)) (bc (Nat.beq (lenU (List.take (Nat.sub (Int.toNat (asI (Tr.get T (Nat.add (Nat.add 0 (Nat.mul (Int.toNat (up j)) 4)) 3)))) (Int.toNat (asI (Tr.get T (Nat.add (Nat.add 0 (Nat.mul j 4)) 3))))) (List.drop (Int.toNat (asI (Tr.get T (Nat.add (Nat.add 0 (Nat.mul j 4)) 3)))) s))) 0) (bc (ieq (up j) (.ofNat N)) (none) (lf .normal 130 [some (.str s), some (.str z), none, none, some (.int .i64 (up j))] ([].map some))) (bc (Nat.beq (Nat.mul (Nat.add m 3) 1) (Nat.mul (Nat.add m 3) 1)) (bc (roomy (Nat.add (Nat.add m 3) (lenU (List.take (Nat.sub (Int.toNat (asI (Tr.get T (Nat.add (Nat.add 0 (Nat.mul (Int.toNat (up j)) 4)) 3)))) (Int.toNat (asI (Tr.get T (Nat.add (Nat.add 0 (Nat.mul j 4)) 3))))) (List.drop (Int.toNat (asI (Tr.get T (Nat.add (Nat.add 0 (Nat.mul j 4)) 3)))) s)))) 1) (bc (onesA (List.map byteAV (List.take (Nat.sub (Int.toNat (asI (Tr.get T (Nat.add (Nat.add 0 (Nat.mul (Int.toNat (up j)) 4)) 3)))) (Int.toNat (asI (Tr.get T (Nat.add (Nat.add 0 (Nat.mul j 4)) 3))))) (List.drop (Int.toNat (asI (Tr.get T (Nat.add (Nat.add 0 (Nat.mul j 4)) 3)))) s)))) (bc (ieq (up j) (.ofNat N)) (none) (lf .normal 130 ([.str s, .str z, .sl 8 0 N none, .sl 9 0 (Nat.add (Nat.add m 3) (lenU (List.take (Nat.sub (Int.toNat (asI (Tr.get T (Nat.add (Nat.add 0 (Nat.mul (Int.toNat (up j)) 4)) 3)))) (Int.toNat (asI (Tr.get T (Nat.add (Nat.add 0 (Nat.mul j 4)) 3))))) (List.drop (Int.toNat (asI (Tr.get T (Nat.add (Nat.add 0 (Nat.mul j 4)) 3)))) s)))) none, .int .i64 (up j)].map some) ([.cells n T 31 (some 4) 0 false false, .cells (Nat.add (Nat.mul (Nat.add m 3) 1) (Nat.mul (lenU (List.take (Nat.sub (Int.toNat (asI (Tr.get T (Nat.add (Nat.add 0 (Nat.mul (Int.toNat (up j)) 4)) 3)))) (Int.toNat (asI (Tr.get T (Nat.add (Nat.add 0 (Nat.mul j 4)) 3))))) (List.drop (Int.toNat (asI (Tr.get T (Nat.add (Nat.add 0 (Nat.mul j 4)) 3)))) s))) 1)) (Tr.putAll (Tr.putAll Tr.nil 0 (getA (Tr.putAll T2 m [.int .u8 (.ofNat 32), .int .u8 (.ofNat 9), .int .u8 (.ofNat 32)]) 0 (Nat.mul (Nat.add m 3) 1))) (Nat.mul (Nat.add m 3) 1) (List.map byteAV (List.take (Nat.sub (Int.toNat (asI (Tr.get T (Nat.add (Nat.add 0 (Nat.mul (Int.toNat (up j)) 4)) 3)))) (Int.toNat (asI (Tr.get T (Nat.add (Nat.add 0 (Nat.mul j 4)) 3))))) (List.drop (Int.toNat (asI (Tr.get T (Nat.add (Nat.add 0 (Nat.mul j 4)) 3)))) s)))) 5 (some 1) 0 false false].map some))) (none)) (none)) (none))) (none)) (bc (Nat.beq (lenU (List.take (Nat.sub (Int.toNat (asI (Tr.get T (Nat.add (Nat.add 0 (Nat.mul (Int.toNat (up j)) 4)) 3)))) (Int.toNat (asI (Tr.get T (Nat.add (Nat.add 0 (Nat.mul j 4)) 3))))) (List.drop (Int.toNat (asI (Tr.get T (Nat.add (Nat.add 0 (Nat.mul j 4)) 3)))) s))) 0) (bc (ieq (up j) (.ofNat N)) (none) (lf .normal 130 [some (.str s), some (.str z), none, none, some (.int .i64 (up j))] ([].map some))) (bc (Nat.beq (Nat.add m 3) (Nat.mul (Nat.add m 3) 1)) (bc (roomy (Nat.add (Nat.add m 3) (lenU (List.take (Nat.sub (Int.toNat (asI (Tr.get T (Nat.add (Nat.add 0 (Nat.mul (Int.toNat (up j)) 4)) 3)))) (Int.toNat (asI (Tr.get T (Nat.add (Nat.add 0 (Nat.mul j 4)) 3))))) (List.drop (Int.toNat (asI (Tr.get T (Nat.add (Nat.add 0 (Nat.mul j 4)) 3)))) s)))) 1) (bc (onesA (List.map byteAV (List.take (Nat.sub (Int.toNat (asI (Tr.get T (Nat.add (Nat.add 0 (Nat.mul (Int.toNat (up j)) 4)) 3)))) (Int.toNat (asI (Tr.get T (Nat.add (Nat.add 0 (Nat.mul j 4)) 3))))) (List.drop (Int.toNat (asI (Tr.get T (Nat.add (Nat.add 0 (Nat.mul j 4)) 3)))) s)))) (bc (ieq (up j) (.ofNat N)) (none) (lf .normal 130 ([.str s, .str z, .sl 8 0 N none, .sl 9 0 (Nat.add (Nat.add m 3) (lenU (List.take (Nat.sub (Int.toNat (asI (Tr.get T (Nat.add (Nat.add 0 (Nat.mul (Int.toNat (up j)) 4)) 3)))) (Int.toNat (asI (Tr.get T (Nat.add (Nat.add 0 (Nat.mul j 4)) 3))))) (List.drop (Int.toNat (asI (Tr.get T (Nat.add (Nat.add 0 (Nat.mul j 4)) 3)))) s)))) none, .int .i64 (up j)].map some) ([.cells n T 31 (some 4) 0 false false, .cells (Nat.add (Nat.add m 3) (Nat.mul (lenU (List.take (Nat.sub (Int.toNat (asI (Tr.get T (Nat.add (Nat.add 0 (Nat.mul (Int.toNat (up j)) 4)) 3)))) (Int.toNat (asI (Tr.get T (Nat.add (Nat.add 0 (Nat.mul j 4)) 3))))) (List.drop (Int.toNat (asI (Tr.get T (Nat.add (Nat.add 0 (Nat.mul j 4)) 3)))) s))) 1)) (Tr.putAll (Tr.putAll T2 m [.int .u8 (.ofNat 32), .int .u8 (.ofNat 9), .int .u8 (.ofNat 32)]) (Nat.add m 3) (List.map byteAV (List.take (Nat.sub (Int.toNat (asI (Tr.get T (Nat.add (Nat.add 0 (Nat.mul (Int.toNat (up j)) 4)) 3)))) (Int.toNat (asI (Tr.get T (Nat.add (Nat.add 0 (Nat.mul j 4)) 3))))) (List.drop (Int.toNat (asI (Tr.get T (Nat.add (Nat.add 0 (Nat.mul j 4)) 3)))) s)))) 5 (some 1) 0 false false].map some))) (none)) (none)) (none)))) (none))) (none))) (none)) (none))) (none)) (none))) (none)) (none)) (none)) (none) := by kernel_rfl
theorem bl0x_eq (s z : List UInt8) (N n j : Nat) (T : Tr AV) : codesP EBl (callPS EBl SKb2 noPin 9) (flat (codeAt [10, 0] fn4.body)) (leafP 8 [0, 1, 5, 8, 9] [(11, [0, 1, 2, 3, 4, 5, 6, 7, 8, 10])]) (mkFr 130 [0, 1, 5, 8, 9] [.str s, .str z, .sl 8 0 N none, .nils, .int .i64 (.ofNat j)]) (mkH 8 [.cells n T 31 (some 4) 0 false false]) (pO 3 5) = bc (Nat.blt j N) (bc (Nat.blt j N) (bc (isI .i64 (Tr.get T (Nat.add (Nat.add 0 (Nat.mul j 4)) 3))) (bc (ilt (up j) (.ofNat N)) (none) (bc (Nat.ble (lenU s) (lenU s)) (bc (ilt (asI (Tr.get T (Nat.add (Nat.add 0 (Nat.mul j 4)) 3))) (.ofNat 0)) (none) (bc (Nat.ble (Int.toNat (asI (Tr.get T (Nat.add (Nat.add 0 (Nat.mul j 4)) 3)))) (lenU s)) (bc (Nat.beq (lenU (List.take (Nat.sub (lenU s) (Int.toNat (asI (Tr.get T (Nat.add (Nat.add 0 (Nat.mul j 4)) 3))))) (List.drop (Int.toNat (asI (Tr.get T (Nat.add (Nat.add 0 (Nat.mul j 4)) 3)))) s))) 0) (bc (ieq (up j) (.ofNat N)) (lf (.exit 0) 130 [some (.str s), some (.str z), none, none, some (.int .i64 (.ofNat j))] ([].map some)) (none)) (bc (roomy (Nat.add 3 (lenU (List.take (Nat.sub (lenU s) (Int.toNat (asI (Tr.get T (Nat.add (Nat.add 0 (Nat.mul j 4)) 3))))) (List.drop (Int.toNat (asI (Tr.get T (Nat.add (Nat.add 0 (Nat.mul j 4)) 3)))) s)))) 1) (bc (onesA (List.map byteAV (List.take (Nat.sub (lenU s) (Int.toNat (asI (Tr.get T (Nat.add (Nat.add 0 (Nat.mul j 4)) 3))))) (List.drop (Int.toNat (asI (Tr.get T (Nat.add (Nat.add 0 (Nat.mul j 4)) 3)))) s)))) (bc (ieq (up j) (.ofNat N)) (lf (.exit 0) 130 ([.str s, .str z, .sl 8 0 N none, .sl 9 0 (Nat.add 3 (lenU (List.take (Nat.sub (lenU s) (Int.toNat (asI (Tr.get T (Nat.add (Nat.add 0 (Nat.mul j 4)) 3))))) (List.drop (Int.toNat (asI (Tr.get T (Nat.add (Nat.add 0 (Nat.mul j 4)) 3)))) s)))) none, .int .i64 (.ofNat j)].map some) ([.cells n T 31 (some 4) 0 false false, .cells (Nat.add 3 (Nat.mul (lenU (List.take (Nat.sub (lenU s) (Int.toNat (asI (Tr.get T (Nat.add (Nat.add 0 (Nat.mul j 4)) 3))))) (List.drop (Int.toNat (asI (Tr.get T (Nat.add (Nat.add 0 (Nat.mul j 4)) 3)))) s))) 1)) (Tr.putAll ((Tr.nil.putAll 0 [.int .u8 (.ofNat 32), .int .u8 (.ofNat 9), .int .u8 (.ofNat 32)])) 3 (List.map byteAV (List.take (Nat.sub (lenU s) (Int.toNat (asI (Tr.get T (Nat.add (Nat.add 0 (Nat.mul j 4)) 3))))) (List.drop (Int.toNat (asI (Tr.get T (Nat.add (Nat.add 0 (Nat.mul j 4)) 3)))) s)))) 5 (some 1) 0 false false].map some)) (none)) (none)) (none))) (none))) (none))) (none)) (none)) (none) := by kernel_rfl
theorem bl1x_eq (s z : List UInt8) (N n m j : Nat) (T T2 : Tr AV) : codesP EBl (callPS EBl SKb2 noPin 9) (flat (codeAt [10, 0] fn4.body)) (leafP 8 [0, 1, 5, 8, 9] [(12, [0, 1, 2, 3, 4, 5, 6, 7, 8, 11])]) (mkFr 130 [0, 1, 5, 8, 9] [.str s, .str z, .sl 8 0 N none, .sl 9 0 m none, .int .i64 (.ofNat j)]) (mkH 8 [.cells n T 31 (some 4) 0 false false, .cells m T2 5 (some 1) 0 false false]) (pO 3 5) = bc (Nat.blt j N) (bc (Nat.blt j N) (bc (isI .i64 (Tr.get T (Nat.add (Nat.add 0 (Nat.mul j 4)) 3))) (bc (ilt (up j) (.ofNat N)) (none) (bc (Nat.blt (Nat.mul m 1) m) (bc (hasA T2 0 (Nat.mul m 1)) (bc (Nat.beq (Nat.mul m 1) (Nat.mul m 1)) (bc (roomy (Nat.add m 3) 1) (bc (Nat.ble (lenU s) (lenU s)) (bc (ilt (asI (Tr.get T (Nat.add (Nat.add 0 (Nat.mul j 4)) 3))) (.ofNat 0)) (none) (bc (Nat.ble (Int.toNat (asI (Tr.get T (Nat.add (Nat.add 0 (Nat.mul j 4)) 3)))) (lenU s)) (bc (Nat.blt (Nat.mul (Nat.add m 3) 1) (Nat.add (Nat.mul m 1) 3)) (bc (hasA (Tr.putAll (Tr.putAll Tr.nil 0 (getA T2 0 (Nat.mul m 1))) (Nat.mul m 1) [.int .u8 (.ofNat 32), .int .u8 (.ofNat 9), .int .u8 (.ofNat 32)]) 0 (Nat.mul (Nat.add m 3) 1)) (bc (Nat.beq (lenU (List.take (Nat.sub (lenU s) (Int.toNat (asI (Tr.get T (Nat.add (Nat.add 0 (Nat.mul j 4)) 3))))) (List.drop (Int.toNat (asI (Tr.get T (Nat.add (Nat.add 0 (Nat.mul j 4)) 3)))) s))) 0) (bc (ieq (up j) (.ofNat N)) (lf (.exit 0) 130 [some (.str s), some (.str z), none, none, some (.int .i64 (.ofNat j))] ([].map some)) (none)) (bc (Nat.beq (Nat.mul (Nat.add m 3) 1) (Nat.mul (Nat.add m 3) 1)) (bc (roomy (Nat.add (Nat.add m 3) (lenU (List.take (Nat.sub (lenU s) (Int.toNat (asI (Tr.get T (Nat.add (Nat.add 0 (Nat.mul j 4)) 3))))) (List.drop (Int.toNat (asI (Tr.get T (Nat.add (Nat.add 0 (Nat.mul j 4)) 3)))) s)))) 1) (bc (onesA (List.map byteAV (List.take (Nat.sub (lenU s) (Int.toNat (asI (Tr.get T (Nat.add (Nat.add 0 (Nat.mul j 4)) 3))))) (List.drop (Int.toNat (asI (Tr.get T (Nat.add (Nat.add 0 (Nat.mul j 4)) 3)))) s)))) (bc (ieq (up j) (.ofNat N)) (lf (.exit 0) 130 ([.str s, .str z, .sl 8 0 N none, .sl 9 0 (Nat.add (Nat.add m 3) (lenU (List.take (Nat.sub (lenU s) (Int.toNat (asI (Tr.get T (Nat.add (Nat.add 0 (Nat.mul j 4)) 3))))) (List.drop (Int.toNat (asI (Tr.get T (Nat.add (Nat.add 0 (Nat.mul j 4)) 3)))) s)))) none, .int .i64 (.ofNat j)].map some) ([.cells n T 31 (some 4) 0 false false, .cells (Nat.add (Nat.mul (Nat.add m 3) 1) (Nat.mul (lenU (List.take (Nat.sub (lenU s) (Int.toNat (asI (Tr.get T (Nat.add (Nat.add 0 (Nat.mul j 4)) 3))))) (List.drop (Int.toNat (asI (Tr.get T (Nat.add (Nat.add 0 (Nat.mul j 4)) 3)))) s))) 1)) (Tr.putAll (Tr.putAll Tr.nil 0 (getA (Tr.putAll (Tr.putAll Tr.nil 0 (getA T2 0 (Nat.mul m 1))) (Nat.mul m 1) [.int .u8 (.ofNat 32), .int .u8 (.ofNat 9), .int .u8 (.ofNat 32)]) 0 (Nat.mul (Nat.add m 3) 1))) (Nat.mul (Nat.add m 3) 1) (List.map byteAV (List.take (Nat.sub (lenU s) (Int.toNat (asI (Tr.get T (Nat.add (Nat.add 0 (Nat.mul j 4)) 3))))) (List.drop (Int.toNat (asI (Tr.get T (Nat.add (Nat.add 0 (Nat.mul j 4)) 3)))) s)))) 5 (some 1) 0 false false].map some)) (none)) (none)) (none)) (none))) (none)) (bc (Nat.beq (lenU (List.take (Nat.sub (lenU s) (Int.toNat (asI (Tr.get T (Nat.add (Nat.add 0 (Nat.mul j 4)) 3))))) (List.drop (Int.toNat (asI (Tr.get T (Nat.add (Nat.add 0 (Nat.mul j 4)) 3)))) s))) 0) (bc (ieq (up j) (.ofNat N)) (lf (.exit 0) 130 [some (.str s), some (.str z), none, none, some (.int .i64 (.ofNat j))] ([].map some)) (none)) (bc (Nat.beq (Nat.add (Nat.mul m 1) 3) (Nat.mul (Nat.add m 3) 1)) (bc (roomy (Nat.add (Nat.add m 3) (lenU (List.take (Nat.sub (lenU s) (Int.toNat (asI (Tr.get T (Nat.add (Nat.add 0 (Nat.mul j 4)) 3))))) (List.drop (Int.toNat (asI (Tr.get T (Nat.add (Nat.add 0 (Nat.mul j 4)) 3)))) s)))) 1) (bc (onesA (List.map byteAV (List.take (Nat.sub (lenU s) (Int.toNat (asI (Tr.get T (Nat.add (Nat.add 0 (Nat.mul j 4)) 3))))) (List.drop (Int.toNat (asI (Tr.get T (Nat.add (Nat.add 0 (Nat.mul j 4)) 3)))) s)))) (bc (ieq (up j) (.ofNat N)) (lf (.exit 0) 130 ([.str s, .str z, .sl 8 0 N none, .sl 9 0 (Nat.add (Nat.add m 3) (lenU (List.take (Nat.sub (lenU s) (Int.toNat (asI (Tr.get T (Nat.add (Nat.add 0 (Nat.mul j 4)) 3))))) (List.drop (Int.toNat (asI (Tr.get T (Nat.add (Nat.add 0 (Nat.mul j 4)) 3)))) s)))) none, .int .i64 (.ofNat j)].map some) ([.cells n T 31 (some 4) 0 false false, .cells (Nat.add (Nat.add (Nat.mul m 1) 3) (Nat.mul (lenU (List.take (Nat.sub (lenU s) (Int.toNat (asI (Tr.get T (Nat.add (Nat.add 0 (Nat.mul j 4)) 3))))) (List.drop (Int.toNat (asI (Tr.get T (Nat.add (Nat.add 0 (Nat.mul j 4)) 3)))) s))) 1)) (Tr.putAll (Tr.putAll (Tr.putAll Tr.nil 0 (getA T2 0 (Nat.mul m 1))) (Nat.mul m 1) [.int .u8 (.ofNat 32), .int .u8 (.ofNat 9), .int .u8 (.ofNat 32)]) (Nat.add (Nat.mul m 1) 3) (List.map byteAV (List.take (Nat.sub (lenU s) (Int.toNat (asI (Tr.get T (Nat.add (Nat.add 0 (Nat.mul j 4)) 3))))) (List.drop (Int.toNat (asI (Tr.get T (Nat.add (Nat.add 0 (Nat.mul j 4)) 3)))) s)))) 5 (some 1) 0 false false].map some)) (none)) (none)) (none)) (none)))) (none))) (none)) (none)) (none)) (none)) (bc (Nat.beq m (Nat.mul m 1)) (bc (roomy (Nat.add m 3) 1) (bc (Nat.ble (lenU s) (lenU s)) (bc (ilt (asI (Tr.get T (Nat.add (Nat.add 0 (Nat.mul j 4)) 3))) (.ofNat 0)) (none) (bc (Nat.ble (Int.toNat (asI (Tr.get T (Nat.add (Nat.add 0 (Nat.mul j 4)) 3)))) (lenU s)) (bc (Nat.blt (Nat.mul (Nat.add m 3) 1) (Nat.add m 3)) (bc (hasA (Tr.putAll T2 m [.int .u8 (.ofNat 32), .int .u8 (.ofNat 9), .int .u8 (.ofNat 32)]) 0 (Nat.mul (Nat.add m 3) 1)) (bc (Nat.beq (lenU (List.take (Nat.sub (lenU s) (Int.toNat (asI (Tr.get T (Nat.add (Nat.add 0 (Nat.mul j 4)) 3))))) (List.drop (Int.toNat (asI (Tr.get T (Nat.add (Nat.add 0 (Nat.mul j 4)) 3)))) s))) 0) (bc (ieq (up j) (.ofNat N)) (lf (.exit 0) 130 [some (.str s), some (.str z), none, none, some (.int .i64 (.ofNat j))] ([].map some)) (none)) (bc (Nat.beq (Nat.mul (Nat.add m 3) 1) (Nat.mul (Nat.add m 3) 1)) (bc (roomy (Nat.add (Nat.add m 3) (lenU (List.take (Nat.sub (lenU s) (Int.toNat (asI (Tr.get T (Nat.add (Nat.add 0 (Nat.mul j 4)) 3))))) (List.drop (Int.toNat (asI (Tr.get T (Nat.add (Nat.add 0 (Nat.mul j 4)) 3)))) s)))) 1) (bc (onesA (List.map byteAV (List.take (Nat.sub (lenU s) (Int.toNat (asI (Tr.get T (Nat.add (Nat.add 0 (Nat.mul j 4)) 3))))) (List.drop (Int.toNat (asI (Tr.get T (Nat.add (Nat.add 0 (Nat.mul j 4)) 3)))) s)))) (bc (ieq (up j) (.ofNat N)) (lf (.exit 0) 130 ([.str s, .str z, .sl 8 0 N none, .sl 9 0 (Nat.add (Nat.add m 3) (lenU (List.take (Nat.sub (lenU s) (Int.toNat (asI (Tr.get T (Nat.add (Nat.add 0 (Nat.mul j 4)) 3))))) (List.drop (Int.toNat (asI (Tr.get T (Nat.add (Nat.add 0 (Nat.mul j 4)) 3)))) s)))) none, .int .i64 (.ofNat j)].map some) ([.cells n T 31 (some 4) 0 false false, .cells (Nat.add (Nat.mul (Nat.add m 3) 1) (Nat.mul (lenU (List.take (Nat.sub (lenU s) (Int.toNat (asI (Tr.get T (Nat.add (Nat.add 0 (Nat.mul j 4)) 3))))) (List.drop (Int.toNat (asI (Tr.get T (Nat.add (Nat.add 0 (Nat.mul j 4)) 3)))) s))) 1)) (Tr.putAll (Tr.putAll Tr.nil 0 (getA (Tr.putAll T2 m [.int .u8 (.ofNat 32), .int .u8 (.ofNat 9), .int .u8 (.ofNat 32)]) 0 (Nat.mul (Nat.add m 3) 1))) (Nat.mul (Nat.add m 3) 1) (List.map byteAV (List.take (Nat.sub (lenU s) (Int.toNat (asI (Tr.get T (Nat.add (Nat.add 0 (Nat.mul j 4)) 3))))) (List.drop (Int.toNat (asI (Tr.get T (Nat.add (Nat.add 0 (Nat.mul j 4)) 3)))) s)))) 5 (some 1) 0 false false].map some)) (none)) (none)) (none)) (none))) (none)) (bc (Nat.beq (lenU (List.take (Nat.sub (lenU s) (Int.toNat (asI (Tr.get T (Nat.add (Nat.add 0 (Nat.mul j 4)) 3))))) (List.drop (Int.toNat (asI (Tr.get T (Nat.add (Nat.add 0 (Nat.mul j 4)) 3)))) s))) 0) (bc (ieq (up j) (.ofNat N)) (lf (.exit 0) 130 [some (.str s), some (.str z), none, none, some (.int .i64 (.ofNat j))] ([].map some)) (none)) (bc (Nat.beq (Nat.add m 3) (Nat.mul (Nat.add m 3) 1)) (bc (roomy (Nat.add (Nat.add m 3) (lenU (List.take (Nat.sub (lenU s) (Int.toNat (asI (Tr.get T (Nat.add (Nat.add 0 (Nat.mul j 4)) 3))))) (List.drop (Int.toNat (asI (Tr.get T (Nat.add (Nat.add 0 (Nat.mul j 4)) 3)))) s)))) 1) (bc (onesA (List.map byteAV (List.take (Nat.sub (lenU s) (Int.toNat (asI (Tr.get T (Nat.add (Nat.add 0 (Nat.mul j 4)) 3))))) (List.drop (Int.toNat (asI (Tr.get T (Nat.add (Nat.add 0 (Nat.mul j 4)) 3)))) s)))) (bc (ieq (up j) (.ofNat N)) (lf (.exit 0) 130 ([.str s, .str z, .sl 8 0 N none, .sl 9 0 (Nat.add (Nat.add m 3) (lenU (List.take (Nat.sub (lenU s) (Int.toNat (asI (Tr.get T (Nat.add (Nat.add 0 (Nat.mul j 4)) 3))))) (List.drop (Int.toNat (asI (Tr.get T (Nat.add (Nat.add 0 (Nat.mul j 4)) 3)))) s)))) none, .int .i64 (.ofNat j)].map some) ([.cells n T 31 (some 4) 0 false false, .cells (Nat.add (Nat.add m 3) (Nat.mul (lenU (List.take (Nat.sub (lenU s) (Int.toNat (asI (Tr.get T (Nat.add (Nat.add 0 (Nat.mul j 4)) 3))))) (List.drop (Int.toNat (asI (Tr.get T (Nat.add (Nat.add 0 (Nat.mul j 4)) 3)))) s))) 1)) (Tr.putAll (Tr.putAll T2 m [.int .u8 (.ofNat 32), .int .u8 (.ofNat 9), .int .u8 (.ofNat 32)]) (Nat.add m 3) (List.map byteAV (List.take (Nat.sub (lenU s) (Int.toNat (asI (Tr.get T (Nat.add (Nat.add 0 (Nat.mul j 4)) 3))))) (List.drop (Int.toNat (asI (Tr.get T (Nat.add (Nat.add 0 (Nat.mul j 4)) 3)))) s)))) 5 (some 1) 0 false false].map some)) (none)) (none)) (none)) (none)))) (none))) (none)) (none)) (none)))) (none)) (none)) (none) := by kernel_rfl
theorem blM_eq (s z : List UInt8) (N n m j : Nat) (T T2 : Tr AV) : codesP EBl (callPS EBl SKb2 noPin 9) (((flat fn4.body).drop 11).take 7) (leafP 8 [5, 12, 18] [(12, [0, 1, 2, 3, 4, 5, 6, 7, 8, 10])]) (mkFr 130 [0, 1, 5, 8, 9] [.str s, .str z, .sl 8 0 N none, .sl 9 0 m none, .int .i64 (.ofNat j)]) (mkH 8 [.cells n T 31 (some 4) 0 false false, .cells m T2 5 (some 1) 0 false false]) (pO 11 0) = bc (hasA T2 0 (Nat.mul m 1)) (bc (hasY (getA T2 0 (Nat.mul m 1))) (bc (lexT2 (getY (getA T2 0 (Nat.mul m 1)))) (bc (!(Nat.beq (lexN (getY (getA T2 0 (Nat.mul m 1)))) N)) (none) (bc (Nat.ble (Nat.add (lenU s) 2) 1099511627776) (bc (Nat.ble (Nat.add (lenU (s ++ [32, 35])) (lenU z)) 1099511627776) (bc (lexT2 ((s ++ [32, 35]) ++ z)) (bc (sameT N n T (lexN ((s ++ [32, 35]) ++ z)) (Nat.mul (lexN ((s ++ [32, 35]) ++ z)) 4) (lexW ((s ++ [32, 35]) ++ z))) (lf .normal 130 ([.sl 8 0 N none, .sl 9 0 (lexN (getY (getA T2 0 (Nat.mul m 1)))) none, .int .i64 (.ofNat 0)].map some) ([.cells n T 31 (some 4) 0 false false, .cells (Nat.mul (lexN (getY (getA T2 0 (Nat.mul m 1)))) 4) (lexW (getY (getA T2 0 (Nat.mul m 1)))) 31 (some 4) 0 false false].map some)) (none)) (none)) (none)) (none))) (none)) (none)) (none) := by kernel_rfl
theorem blF_eq (N n N2 n2 j : Nat) (T T2 : Tr AV) : codesP EBl (callPS EBl SKb2 noPin 9) (flat (codeAt [18, 0] fn4.body)) (leafP 8 [5, 12, 18] [(10, [0, 1, 2, 3, 4, 5, 6, 7, 8, 9])]) (mkFr 130 [5, 12, 18] [.sl 8 0 N none, .sl 9 0 N2 none, .int .i64 (.ofNat j)]) (mkH 8 [.cells n T 31 (some 4) 0 false false, .cells n2 T2 31 (some 4) 0 false false]) (pO 1 0) = bc (Nat.blt j N) (none) (lf (.exit 2) 130 ([.sl 8 0 N none, .sl 9 0 N2 none, .int .i64 (.ofNat j)].map some) ([.cells n T 31 (some 4) 0 false false, .cells n2 T2 31 (some 4) 0 false false].map some)) := by kernel_rfl
theorem blT_eq (N n N2 n2 j : Nat) (T T2 : Tr AV) : codesP EBl (callPS EBl SKb2 noPin 9) (flat (codeAt [18, 0] fn4.body)) (leafP 8 [5, 12, 18] [(11, [0, 1, 2, 3, 4, 5, 6, 7, 8, 9])]) (mkFr 130 [5, 12, 18] [.sl 8 0 N none, .sl 9 0 N2 none, .int .i64 (.ofNat j)]) (mkH 8 [.cells n T 31 (some 4) 0 false false, .cells n2 T2 31 (some 4) 0 false false]) (pO 2 1) = bc (Nat.blt j N) (bc (Nat.blt j N2) (bc (isI .i64 (Tr.get T2 (Nat.add 0 (Nat.mul j 4)))) (bc (isS (Tr.get T2 (Nat.succ (Nat.add 0 (Nat.mul j 4))))) (bc (isI .u64 (Tr.get T2 (Nat.succ (Nat.succ (Nat.add 0 (Nat.mul j 4)))))) (bc (isI .i64 (Tr.get T2 (Nat.succ (Nat.succ (Nat.succ (Nat.add 0 (Nat.mul j 4))))))) (bc (Nat.blt j N) (bc (isI .i64 (Tr.get T (Nat.add (Nat.add 0 (Nat.mul j 4)) 3))) (bc (Nat.blt j N) (bc (isI .i64 (Tr.get T (Nat.add 0 (Nat.mul j 4)))) (bc (isS (Tr.get T (Nat.succ (Nat.add 0 (Nat.mul j 4))))) (bc (isI .u64 (Tr.get T (Nat.succ (Nat.succ (Nat.add 0 (Nat.mul j 4)))))) (bc (isI .i64 (Tr.get T (Nat.succ (Nat.succ (Nat.succ (Nat.add 0 (Nat.mul j 4))))))) (bc (!((ieq (asI (Tr.get T2 (Nat.add 0 (Nat.mul j 4)))) (asI (Tr.get T (Nat.add 0 (Nat.mul j 4))))) && ((leq (asS (Tr.get T2 (Nat.succ (Nat.add 0 (Nat.mul j 4))))) (asS (Tr.get T (Nat.succ (Nat.add 0 (Nat.mul j 4)))))) && ((ieq (asI (Tr.get T2 (Nat.succ (Nat.succ (Nat.add 0 (Nat.mul j 4)))))) (asI (Tr.get T (Nat.succ (Nat.succ (Nat.add 0 (Nat.mul j 4))))))) && ((ieq (asI (Tr.get T (Nat.add (Nat.add 0 (Nat.mul j 4)) 3))) (asI (Tr.get T (Nat.succ (Nat.succ (Nat.succ (Nat.add 0 (Nat.mul j 4)))))))) && true))))) (none) (lf .normal 130 ([.sl 8 0 N none, .sl 9 0 N2 none, .int .i64 (up j)].map some) ([.cells n T 31 (some 4) 0 false false, .cells n2 T2 31 (some 4) 0 false false].map some))) (none)) (none)) (none)) (none)) (none)) (none)) (none)) (none)) (none)) (none)) (none)) (none)) (none) := by kernel_rfl
theorem blZ_eq (N n N2 n2 j : Nat) (T T2 : Tr AV) : codesP EBl (callPS EBl SKb2 noPin 9) ((flat fn4.body).drop 19) (leafP 8 [4] [(10, [0, 1, 2, 3, 4, 5, 6, 7])]) (mkFr 130 [5, 12, 18] [.sl 8 0 N none, .sl 9 0 N2 none, .int .i64 (.ofNat j)]) (mkH 8 [.cells n T 31 (some 4) 0 false false, .cells n2 T2 31 (some 4) 0 false false]) (pO 0 0) = lf .ret 130 ([.bool true].map some) ([].map some) := by kernel_rfl
def bV : List UInt8 → AV
  | [] => .nils
  | c :: L => .sl 9 0 (c :: L).length none
def bO : List UInt8 → List AObj
  | [] => []
  | c :: L => [rowG (c :: L)]
theorem bV_app (L X : List UInt8) : bV (L ++ [32, 9, 32] ++ X) = .sl 9 0 (L.length + 3 + X.length) none := by
  cases L with
  | nil =>
    show AV.sl 9 0 ([32, 9, 32] ++ X).length none = _
    rw [List.length_append]; rfl
  | cons c L =>
    show AV.sl 9 0 ((c :: L) ++ [32, 9, 32] ++ X).length none = _
    rw [List.length_append, List.length_append]; rfl
theorem bO_app (L X : List UInt8) : bO (L ++ [32, 9, 32] ++ X) = [.cells (L.length + 3 + X.length) (bT (L ++ [32, 9, 32] ++ X)) 5 (some 1) 0 false false] := by
  cases L with
  | nil =>
    show [rowG ([32, 9, 32] ++ X)] = _
    unfold rowG
    rw [List.length_append]; rfl
  | cons c L =>
    show [rowG ((c :: L) ++ [32, 9, 32] ++ X)] = _
    unfold rowG
    rw [List.length_append, List.length_append]; rfl
theorem bT_app (L X : List UInt8) : Tr.putAll (Tr.putAll (bT L) L.length [.int .u8 (.ofNat 32), .int .u8 (.ofNat 9), .int .u8 (.ofNat 32)]) (L.length + 3) (X.map byteAV) = bT (L ++ [32, 9, 32] ++ X) := by
  unfold bT
  rw [List.map_append, List.map_append, putAll_append, putAll_append, List.length_append, List.length_map, Nat.zero_add, Nat.zero_add]; rfl
def bW (ws : List (Wd × Nat)) : AObj := .cells (Nat.mul ws.length 4) (WT ws) 31 (some 4) 0 false false
def bS : List Nat := [0, 1, 5, 8, 9]
def b5 (s z : List UInt8) (ws : List (Wd × Nat)) (L : List UInt8) (j : Nat) : List AV := [.str s, .str z, .sl 8 0 ws.length none, bV L, .int .i64 (.ofNat j)]
def bH (ws : List (Wd × Nat)) (L : List UInt8) : List AObj := bW ws :: bO L
theorem bT_plain (L : List UInt8) : PlainT (bT L) := putAll_plain (fun i v h => by simp [Tr.get_nil] at h) fun v hv => by
  obtain ⟨b, _, rfl⟩ := List.mem_map.1 hv
  exact plain_int _ _
theorem bH_robj {keep : List Nat} (ws : List (Wd × Nat)) (L : List UInt8) : ∀ (j : Nat) o o2, (bH ws L)[j]? = some o → (bH ws L)[j]? = some o2 → RObj 0 keep o o2 := robj_all fun o ho => by
  cases L with
  | nil =>
    obtain rfl := List.mem_singleton.1 ho
    exact ⟨_, _, _, _, _, _, _, rfl, wPlain ws⟩
  | cons c L =>
    rcases List.mem_cons.1 ho with rfl | ho
    · exact ⟨_, _, _, _, _, _, _, rfl, wPlain ws⟩
    · obtain rfl := List.mem_singleton.1 ho
      exact ⟨_, _, _, _, _, _, _, rfl, bT_plain _⟩
theorem bW2_robj {keep : List Nat} (ws ws2 : List (Wd × Nat)) : ∀ (j : Nat) o o2, [bW ws, bW ws2][j]? = some o → [bW ws, bW ws2][j]? = some o2 → RObj 0 keep o o2 := robj_all fun o ho => by
  simp only [List.mem_cons, List.not_mem_nil, or_false] at ho
  rcases ho with rfl | rfl
  · exact ⟨_, _, _, _, _, _, _, rfl, wPlain ws⟩
  · exact ⟨_, _, _, _, _, _, _, rfl, wPlain ws2⟩
theorem roomy_small {n : Nat} (h : n < 1048576) : roomy n 1 = true := by
  unfold roomy
  rw [Bool.or_eq_true, Nat.ble_eq]; left; omega
def bK : List UInt8 → List (Nat × List Nat)
  | [] => [(11, [0, 1, 2, 3, 4, 5, 6, 7, 8, 10])]
  | _ :: _ => [(12, [0, 1, 2, 3, 4, 5, 6, 7, 8, 11])]
theorem bK_ok : ∀ L, kfOk 8 (bK L) = true
  | [] => by decide
  | _ :: _ => show kfOk 8 [(12, [0, 1, 2, 3, 4, 5, 6, 7, 8, 11])] = true by decide
section
variable {s z X : List UInt8} {ws : List (Wd × Nat)} {j p q : Nat} {w v : Wd} (hN : ws.length < 1048576) (gj : ws[j]? = some (w, p)) (hX1 : 1 ≤ X.length) (hX2 : X.length ≤ 1024)
include hN gj hX1 hX2
theorem bl_n (gk : ws[j + 1]? = some (v, q)) (hpq : p < q) (hq : q ≤ s.length) (hX : List.take (Nat.sub q p) (List.drop p s) = X) (L : List UInt8) (hL : L.length < 524288) : codesP EBl (callPS EBl SKb2 noPin 9) (flat (codeAt [10, 0] fn4.body)) (leafP 8 bS (bK L)) (mkFr 130 bS (b5 s z ws L j)) (mkH 8 (bH ws L)) (pO 3 3) = lf .normal 130 ((b5 s z ws (L ++ [32, 9, 32] ++ X) (j + 1)).map some) ((bH ws (L ++ [32, 9, 32] ++ X)).map some) := by
  have hj := (List.getElem?_eq_some_iff.1 gj).1
  have hk := (List.getElem?_eq_some_iff.1 gk).1
  have a1 : Int.toNat (.ofNat (j + 1)) = j + 1 := rfl
  have a2 : asI (some (AV.int .i64 (.ofNat p))) = .ofNat p := rfl
  have a3 : asI (some (AV.int .i64 (.ofNat q))) = .ofNat q := rfl
  have a4 : Int.toNat (.ofNat p) = p := rfl
  have a5 : Int.toNat (.ofNat q) = q := rfl
  have a6 : ilt (.ofNat (j + 1)) (.ofNat ws.length) = true := blt_t hk
  have a7 : ieq (.ofNat (j + 1)) (.ofNat ws.length) = false := beq_f (show ¬ j + 1 = ws.length by omega)
  have a8 : Nat.ble q (lenU s) = true := ble_t hq
  have a9 : Nat.ble p q = true := ble_t (by omega)
  have e5 : Nat.beq (lenU X) 0 = false := beq_f (show ¬ X.length = 0 by omega)
  have e9 : Nat.mul (lenU X) 1 = X.length := Nat.mul_one _
  unfold b5 bH
  rw [bV_app, bO_app]
  cases L with
  | nil =>
    refine (bl0n_eq s z ws.length (Nat.mul ws.length 4) j (WT ws)).trans ?_
    have e7 : roomy (Nat.add 3 (lenU X)) 1 = true := roomy_small (show 3 + X.length < 1048576 by omega)
    rw [blt_t hj, gwp (by omega) gj, up_eq (by omega), a1, gwp (by omega) gk, a2, a3, a4, a5, a6, blt_t hk, a8, a9, hX, e5, e7, ones_map, a7, e9, ← bT_app [] X]
    rfl
  | cons c L =>
    refine (bl1n_eq s z ws.length (Nat.mul ws.length 4) (c :: L).length j (WT ws) (bT (c :: L))).trans ?_
    generalize hM : c :: L = M at hL ⊢
    have e1 : Nat.blt (Nat.mul M.length 1) M.length = false := blt_f (by rw [show Nat.mul M.length 1 = M.length from Nat.mul_one _]; omega)
    have e2 : Nat.beq M.length (Nat.mul M.length 1) = true := beq_t (Nat.mul_one _).symm
    have e3 : roomy (Nat.add M.length 3) 1 = true := roomy_small (show M.length + 3 < 1048576 by omega)
    have e4 : Nat.blt (Nat.mul (Nat.add M.length 3) 1) (Nat.add M.length 3) = false := blt_f (by rw [show Nat.mul (Nat.add M.length 3) 1 = Nat.add M.length 3 from Nat.mul_one _]; omega)
    have e6 : Nat.beq (Nat.add M.length 3) (Nat.mul (Nat.add M.length 3) 1) = true := beq_t (Nat.mul_one _).symm
    have e7 : roomy (Nat.add (Nat.add M.length 3) (lenU X)) 1 = true := roomy_small (show M.length + 3 + X.length < 1048576 by omega)
    rw [blt_t hj, gwp (by omega) gj, up_eq (by omega), a1, gwp (by omega) gk, a2, a3, a4, a5, a6, blt_t hk, a8, a9, hX, e1, e2, e3, e4, e5, e6, e7, ones_map, a7, e9, ← bT_app M X]
    rfl
theorem bl_x (hk : j + 1 = ws.length) (hp : p ≤ s.length) (hX : List.take (Nat.sub (lenU s) p) (List.drop p s) = X) (L : List UInt8) (hL : L.length < 524288) : codesP EBl (callPS EBl SKb2 noPin 9) (flat (codeAt [10, 0] fn4.body)) (leafP 8 bS (bK L)) (mkFr 130 bS (b5 s z ws L j)) (mkH 8 (bH ws L)) (pO 3 5) = lf (.exit 0) 130 ((b5 s z ws (L ++ [32, 9, 32] ++ X) j).map some) ((bH ws (L ++ [32, 9, 32] ++ X)).map some) := by
  have hj := (List.getElem?_eq_some_iff.1 gj).1
  have a2 : asI (some (AV.int .i64 (.ofNat p))) = .ofNat p := rfl
  have a4 : Int.toNat (.ofNat p) = p := rfl
  have a6 : ilt (.ofNat (j + 1)) (.ofNat ws.length) = false := blt_f (show ¬ j + 1 < ws.length by omega)
  have a7 : ieq (.ofNat (j + 1)) (.ofNat ws.length) = true := beq_t hk
  have a8 : Nat.ble (lenU s) (lenU s) = true := ble_t (Nat.le_refl _)
  have a9 : Nat.ble p (lenU s) = true := ble_t hp
  have e5 : Nat.beq (lenU X) 0 = false := beq_f (show ¬ X.length = 0 by omega)
  have e9 : Nat.mul (lenU X) 1 = X.length := Nat.mul_one _
  unfold b5 bH
  rw [bV_app, bO_app]
  cases L with
  | nil =>
    refine (bl0x_eq s z ws.length (Nat.mul ws.length 4) j (WT ws)).trans ?_
    have e7 : roomy (Nat.add 3 (lenU X)) 1 = true := roomy_small (show 3 + X.length < 1048576 by omega)
    rw [blt_t hj, gwp (by omega) gj, up_eq (by omega), a2, a4, a6, a8, a9, hX, e5, e7, ones_map, a7, e9, ← bT_app [] X]
    rfl
  | cons c L =>
    refine (bl1x_eq s z ws.length (Nat.mul ws.length 4) (c :: L).length j (WT ws) (bT (c :: L))).trans ?_
    generalize hM : c :: L = M at hL ⊢
    have e1 : Nat.blt (Nat.mul M.length 1) M.length = false := blt_f (by rw [show Nat.mul M.length 1 = M.length from Nat.mul_one _]; omega)
    have e2 : Nat.beq M.length (Nat.mul M.length 1) = true := beq_t (Nat.mul_one _).symm
    have e3 : roomy (Nat.add M.length 3) 1 = true := roomy_small (show M.length + 3 < 1048576 by omega)
    have e4 : Nat.blt (Nat.mul (Nat.add M.length 3) 1) (Nat.add M.length 3) = false := blt_f (by rw [show Nat.mul (Nat.add M.length 3) 1 = Nat.add M.length 3 from Nat.mul_one _]; omega)
    have e6 : Nat.beq (Nat.add M.length 3) (Nat.mul (Nat.add M.length 3) 1) = true := beq_t (Nat.mul_one _).symm
    have e7 : roomy (Nat.add (Nat.add M.length 3) (lenU X)) 1 = true := roomy_small (show M.length + 3 + X.length < 1048576 by omega)
    rw [blt_t hj, gwp (by omega) gj, up_eq (by omega), a2, a4, a6, a8, a9, hX, e1, e2, e3, e4, e5, e6, e7, ones_map, a7, e9, ← bT_app M X]
    rfl
end
def blP1 : TQ := fun e fr _ => (e = .normal ∨ e = .ret) ∧ fr.df = [] ∧ fr.t.get 4 = some (.bool true)
section
variable {P : Program} {I : List MEnt → AHeap → World → Prop} {ro : Option Nat}
theorem bl_out {e : AExit} {fr : AFr} {H : AHeap} {keep : List Nat} (he : e = .normal ∨ e = .ret) (r : Ren 8 keep fr H (mkFr 130 [4] [.bool true]) (mkH 8 [])) : blP1 e fr H := ⟨he, r.df.1, by
  obtain ⟨x, h1, h2⟩ := r.t 4 (.bool true) rfl
  rw [h1, rn_bool h2]⟩
theorem bl_round (hE : EnvOk EBl P I) {s z L L2 : List UInt8} {ws : List (Wd × Nat)} {j j2 : Nat} {e : AExit} {Q : TQ} {o : Orc} (h : codesP EBl (callPS EBl SKb2 noPin 9) (flat (codeAt [10, 0] fn4.body)) (leafP 8 bS (bK L)) (mkFr 130 bS (b5 s z ws L j)) (mkH 8 (bH ws L)) o = lf e 130 ((b5 s z ws L2 j2).map some) ((bH ws L2).map some)) (hm : ∀ fr' H' keep, Ren 8 keep fr' H' (mkFr 130 bS (b5 s z ws L2 j2)) (mkH 8 (bH ws L2)) → Q e fr' H') : TriL EBl P I ro (flat (codeAt [10, 0] fn4.body)) (mkFr 130 bS (b5 s z ws L j)) (mkH 8 (bH ws L)) Q :=
  TriL.leafPC hE pb2_ok h (bK_ok L) rfl (fun keep _ => bH_robj ws L2) hm
def blQ1 (s z : List UInt8) (ws : List (Wd × Nat)) : TQ := fun e fr H => e = .exit 0 ∧ ∃ j keep, Ren 8 keep fr H (mkFr 130 bS (b5 s z ws (bOf s ws) j)) (mkH 8 (bH ws (bOf s ws)))
theorem bl_loop1 (hE : EnvOk EBl P I) (hI : Carried I) {s z : List UInt8} {ws : List (Wd × Nat)} (hl : lexR s = (ws, 0, 0)) (hs : s.length ≤ 1024) (hw : 1 ≤ ws.length) (hN : ws.length < 1048576) : Tri EBl P I ro (.loop (codeAt [10, 0] fn4.body)) (mkFr 130 bS (b5 s z ws [] 0)) (mkH 8 (bH ws [])) (blQ1 s z ws) := by
  have htk := lex_toks hl
  have hlen := lex_cat_len hl
  refine Tri.loop (X := List UInt8 × Nat) (fr := fun x => mkFr 130 bS (b5 s z ws x.1 x.2)) (H := fun x => mkH 8 (bH ws x.1)) (Inv := fun x => x.2 < ws.length ∧ x.1 ++ bOf s (ws.drop x.2) = bOf s ws) (fun x => ws.length - x.2) hI ?_ ([], 0) ⟨hw, rfl⟩
  rintro ⟨L, j⟩ ⟨hj, hb⟩
  simp only at hj hb
  refine tri_of_triL _ ?_
  obtain ⟨w, p, gj⟩ : ∃ w p, ws[j]? = some (w, p) := ⟨(ws[j]).1, (ws[j]).2, List.getElem?_eq_getElem hj⟩
  obtain ⟨_, hp, hnext⟩ := toks_pos htk j w p gj
  have hd : ws.drop j = (w, p) :: ws.drop (j + 1) := by
    rw [List.drop_eq_getElem_cons hj]
    rw [List.getElem?_eq_getElem hj] at gj
    rw [Option.some.inj gj]
  have hL : L.length < 524288 := by
    have := congrArg List.length hb
    rw [List.length_append] at this
    omega
  rw [hd] at hb
  by_cases hk : j + 1 < ws.length
  · obtain ⟨v, q, gk⟩ : ∃ v q, ws[j + 1]? = some (v, q) := ⟨(ws[j + 1]).1, (ws[j + 1]).2, List.getElem?_eq_getElem hk⟩
    have hd2 : ws.drop (j + 1) = (v, q) :: ws.drop (j + 2) := by
      rw [List.drop_eq_getElem_cons hk]
      rw [List.getElem?_eq_getElem hk] at gk
      rw [Option.some.inj gk]
    have hpq := hnext v q gk
    have hq := (toks_pos htk (j + 1) v q gk).2.1
    have hXl : (List.take (Nat.sub q p) (List.drop p s)).length = q - p := by
      rw [List.length_take, List.length_drop, show Nat.sub q p = q - p from rfl]; omega
    refine bl_round hE (bl_n hN gj (by rw [hXl]; omega) (by rw [hXl]; omega) gk hpq (by omega) rfl L hL) fun fr' H' keep r => .inl ⟨rfl, (L ++ [32, 9, 32] ++ List.take (Nat.sub q p) (List.drop p s), j + 1), keep, ⟨hk, ?_⟩, by simp only; omega, r⟩
    rw [← hb, hd2]
    show _ = L ++ ([32, 9, 32] ++ (s.drop p).take (q - p) ++ bOf s ((v, q) :: ws.drop (j + 2)))
    simp only [List.append_assoc]; rfl
  · have hk2 : j + 1 = ws.length := by omega
    have hd2 : ws.drop (j + 1) = [] := List.drop_eq_nil_of_le (by omega)
    have hXl : (List.take (Nat.sub (lenU s) p) (List.drop p s)).length = s.length - p := by
      rw [List.length_take, List.length_drop, show Nat.sub (lenU s) p = s.length - p from rfl]; omega
    have hfin : L ++ [32, 9, 32] ++ List.take (Nat.sub (lenU s) p) (List.drop p s) = bOf s ws := by
      rw [← hb, hd2]
      show _ = L ++ ([32, 9, 32] ++ (s.drop p).take (s.length - p) ++ [])
      simp only [List.append_assoc, List.append_nil]; rfl
    refine bl_round hE (bl_x hN gj (by rw [hXl]; omega) (by rw [hXl]; omega) hk2 (by omega) rfl L hL) fun fr' H' keep r => .inr ⟨(by intro h; cases h), rfl, j, keep, ?_⟩
    rw [hfin] at r
    exact r
def b3 (N N2 j : Nat) : List AV := [.sl 8 0 N none, .sl 9 0 N2 none, .int .i64 (.ofNat j)]
theorem bl_loop3 (hE : EnvOk EBl P I) (hI : Carried I) {ws ws2 : List (Wd × Nat)} (hN : ws.length < 1048576) (hm : ws2.map Prod.fst = ws.map Prod.fst) : Tri EBl P I ro (.loop (codeAt [18, 0] fn4.body)) (mkFr 130 [5, 12, 18] (b3 ws.length ws2.length 0)) (mkH 8 [bW ws, bW ws2]) fun e fr H => e = .exit 2 ∧ ∃ j keep, Ren 8 keep fr H (mkFr 130 [5, 12, 18] (b3 ws.length ws2.length j)) (mkH 8 [bW ws, bW ws2]) := by
  have hl2 : ws2.length = ws.length := by simpa using congrArg List.length hm
  refine Tri.loop (X := Nat) (fr := fun j => mkFr 130 [5, 12, 18] (b3 ws.length ws2.length j)) (H := fun _ => mkH 8 [bW ws, bW ws2]) (Inv := fun j => j ≤ ws.length) (fun j => ws.length - j) hI ?_ 0 (Nat.zero_le _)
  intro j hj
  refine tri_of_triL _ ?_
  by_cases h : j < ws.length
  · obtain ⟨w, p, gj⟩ : ∃ w p, ws[j]? = some (w, p) := ⟨(ws[j]).1, (ws[j]).2, List.getElem?_eq_getElem h⟩
    obtain ⟨w2, p2, g2⟩ : ∃ w p, ws2[j]? = some (w, p) := ⟨(ws2[j]).1, (ws2[j]).2, List.getElem?_eq_getElem (by omega)⟩
    obtain rfl : w2 = w := by
      have := congrArg (·[j]?) hm
      simp only [List.getElem?_map, gj, g2, Option.map_some, Option.some.injEq] at this
      exact this
    refine TriL.leafPC hE pb2_ok (vs := b3 ws.length ws2.length (j + 1)) (os := [bW ws, bW ws2]) (os2 := [bW ws, bW ws2]) ((blT_eq ws.length (Nat.mul ws.length 4) ws2.length (Nat.mul ws2.length 4) j (WT ws) (WT ws2)).trans ?_) (by decide) rfl (fun keep _ => bW2_robj ws ws2) fun fr' H' keep r => .inl ⟨rfl, j + 1, keep, h, by omega, r⟩
    have hN2 : ws2.length < 2 ^ 40 := by omega
    have hN1 : ws.length < 2 ^ 40 := by omega
    rw [blt_t h, blt_t (show j < ws2.length by omega), gwp hN1 gj, gw0 hN1 gj, gw1 hN1 gj, gw2 hN1 gj, gw0 hN2 g2, gw1 hN2 g2, gw2 hN2 g2, gw3 hN2 g2, up_eq (by omega)]
    show bc (!(ieq (.ofNat w2.kind) (.ofNat w2.kind) && (leq w2.text w2.text && (ieq (.ofNat w2.num) (.ofNat w2.num) && (ieq (.ofNat p) (.ofNat p) && true))))) _ _ = _
    rw [ieq_self, leq_self, ieq_self, ieq_self]
    rfl
  · exact TriL.leafPC hE pb2_ok (vs := b3 ws.length ws2.length j) (os := [bW ws, bW ws2]) (os2 := [bW ws, bW ws2]) ((blF_eq ws.length (Nat.mul ws.length 4) ws2.length (Nat.mul ws2.length 4) j (WT ws) (WT ws2)).trans (by rw [blt_f h]; rfl)) (by decide) rfl (fun keep _ => bW2_robj ws ws2) fun fr' H' keep r => .inr ⟨(by intro h; cases h), rfl, j, keep, r⟩
theorem bl_mid {s z : List UInt8} {ws ws2 : List (Wd × Nat)} {j : Nat} (hl : lexR s = (ws, 0, 0)) (hl2 : lexR (bOf s ws) = (ws2, 0, 0)) (hm : ws2.map Prod.fst = ws.map Prod.fst) (hs : s.length ≤ 1024) (hz : z.length ≤ 100) (hw : 1 ≤ ws.length) (hN : ws.length < 1048576) : codesP EBl (callPS EBl SKb2 noPin 9) (((flat fn4.body).drop 11).take 7) (leafP 8 [5, 12, 18] [(12, [0, 1, 2, 3, 4, 5, 6, 7, 8, 10])]) (mkFr 130 bS (b5 s z ws (bOf s ws) j)) (mkH 8 (bH ws (bOf s ws))) (pO 11 0) = lf .normal 130 ((b3 ws.length ws2.length 0).map some) ([bW ws, bW ws2].map some) := by
  have hlen := lex_cat_len hl
  have hn2 : ws2.length = ws.length := by simpa using congrArg List.length hm
  have hne : bOf s ws ≠ [] := fun e => by
    cases ws with
    | nil => simp at hw
    | cons x r => obtain ⟨w, p⟩ := x; cases e
  have hn := lex_note hl z
  have hb := rowB_bT (L := bOf s ws) (by omega)
  have e1 := prf_has hb (Nat.le_refl _)
  have e2 := prf_hasY hb (Nat.le_refl _)
  have e3 := prf_get hb (Nat.le_refl _)
  rw [List.take_length] at e3
  have c1 : lexT2 (bOf s ws) = true := by
    unfold lexT2
    rw [hl2, show Nat.blt (lenU (bOf s ws)) 1048576 = true from blt_t (show (bOf s ws).length < 1048576 by omega)]
    simp only [Nat.beq_refl, Bool.true_and]
    rw [beq_f (show ¬ ws2.length = 0 by omega)]; rfl
  have c2 : lexN (bOf s ws) = ws2.length := by unfold lexN; rw [hl2]
  have c3 : lexW (bOf s ws) = WT ws2 := by unfold lexW; rw [hl2]
  have c4 : lexT2 ((s ++ [32, 35]) ++ z) = true := by
    unfold lexT2
    rw [hn, show Nat.blt (lenU ((s ++ [32, 35]) ++ z)) 1048576 = true from blt_t (show ((s ++ [32, 35]) ++ z).length < 1048576 by simp only [List.length_append, List.length_cons, List.length_nil]; omega)]
    simp only [Nat.beq_refl, Bool.true_and]
    rw [beq_f (show ¬ ws.length = 0 by omega)]; rfl
  have c5 : lexN ((s ++ [32, 35]) ++ z) = ws.length := by unfold lexN; rw [hn]
  have c6 : lexW ((s ++ [32, 35]) ++ z) = WT ws := by unfold lexW; rw [hn]
  have c7 : Nat.ble (Nat.add (lenU s) 2) 1099511627776 = true := ble_t (show s.length + 2 ≤ _ by omega)
  have c8 : Nat.ble (Nat.add (lenU (s ++ [32, 35])) (lenU z)) 1099511627776 = true := ble_t (show (s ++ [32, 35]).length + z.length ≤ _ by simp only [List.length_append, List.length_cons, List.length_nil]; omega)
  have c9 : sameT ws.length (Nat.mul ws.length 4) (WT ws) ws.length (Nat.mul ws.length 4) (WT ws) = true := sameT_of (by omega)
  have cA : Nat.beq ws2.length ws.length = true := beq_t hn2
  generalize bOf s ws = B at hne e1 e2 e3 c1 c2 c3 ⊢
  cases B with
  | nil => exact absurd rfl hne
  | cons c B =>
    refine (blM_eq s z ws.length (Nat.mul ws.length 4) (c :: B).length j (WT ws) (bT (c :: B))).trans ?_
    rw [e1, e2, e3, c1, c2, c3, c4, c5, c6, c7, c8, c9, cA]
    rfl
theorem bl_whole (hE : EnvOk EBl P I) (hI : Carried I) (s z : List UInt8) : Tri EBl P I ro fn4.body (newFr fn4 [.str s, .str z]) (mkH 8 []) blP1 := by
  refine tri_of_triL _ ?_
  by_cases h1 : 1024 < s.length
  · exact TriL.leafPC hE pb0_ok (vs := [.bool true]) (os := []) (os2 := []) ((blA_eq s z).trans (by rw [blt_t (show 1024 < lenU s from h1)]; rfl)) (by decide) rfl (fun keep _ => rows0) fun fr' H' keep r => bl_out (.inr rfl) r
  have h1' := blt_f (show ¬ 1024 < lenU s from h1)
  by_cases h2 : 100 < z.length
  · exact TriL.leafPC hE pb0_ok (vs := [.bool true]) (os := []) (os2 := []) ((blB_eq s z).trans (by rw [h1', blt_t (show 100 < lenU z from h2)]; rfl)) (by decide) rfl (fun keep _ => rows0) fun fr' H' keep r => bl_out (.inr rfl) r
  have h2' := blt_f (show ¬ 100 < lenU z from h2)
  have hz : lenU z = z.length := rfl
  have hs : lenU s = s.length := rfl
  have h3 : Nat.blt (lenU s) 1048576 = true := blt_t (show s.length < _ by omega)
  cases hc : Nat.beq (lexR s).2.2 0 with
  | false =>
    refine TriL.leafPC hE pb0_ok (vs := [.bool true]) (os := []) (os2 := []) ((blC_eq s z).trans ?_) (by decide) rfl (fun keep _ => rows0) fun fr' H' keep r => bl_out (.inr rfl) r
    have h4 : lexT0 s = true := by unfold lexT0; rw [h3, hc]; rfl
    have h5 : Nat.beq (lexC s) 0 = false := hc
    rw [h1', h2', h4, h5]; rfl
  | true =>
    have hl := lex_ok hc
    generalize hws : (lexR s).1 = ws at hl
    by_cases hn : ws.length = 0
    · obtain rfl := List.eq_nil_of_length_eq_zero hn
      refine TriL.leafPC hE pb1_ok (vs := [.bool true]) (os := []) (os2 := []) ((blD_eq s z).trans ?_) (by decide) rfl (fun keep _ => rows0) fun fr' H' keep r => bl_out (.inr rfl) r
      have h4 : lexT1 s = true := by unfold lexT1; rw [h3, hl]; rfl
      have h5 : lexT1 [] = true := by
        have : lexR [] = ([], 0, 0) := toks_lex (.nil 0)
        unfold lexT1; rw [this]; rfl
      have h6 : lexT1 ((s ++ [32, 35]) ++ z) = true := by
        unfold lexT1
        rw [lex_note hl z, show Nat.blt (lenU ((s ++ [32, 35]) ++ z)) 1048576 = true from blt_t (show ((s ++ [32, 35]) ++ z).length < 1048576 by simp only [List.length_append, List.length_cons, List.length_nil]; omega)]; rfl
      have c7 : Nat.ble (Nat.add (lenU s) 2) 1099511627776 = true := ble_t (show s.length + 2 ≤ _ by omega)
      have c8 : Nat.ble (Nat.add (lenU (s ++ [32, 35])) (lenU z)) 1099511627776 = true := ble_t (show (s ++ [32, 35]).length + z.length ≤ _ by simp only [List.length_append, List.length_cons, List.length_nil]; omega)
      rw [h1', h2', h4, h5, h6, c7, c8]; rfl
    · obtain ⟨ws2, hl2, hm⟩ := lex_cat hl
      have hN : ws.length < 1048576 := by
        have := lex_cat_len hl
        have h5 := toks_len (lex_toks hl)
        omega
      have h4 : lexT2 s = true := by
        unfold lexT2
        rw [h3, hl]
        simp only [Nat.beq_refl, Bool.true_and]
        rw [beq_f hn]; rfl
      have c5 : lexN s = ws.length := by unfold lexN; rw [hl]
      have c6 : lexW s = WT ws := by unfold lexW; rw [hl]
      rw [fn4_flat]
      refine TriL.leafPX hE hI pb2_ok (vs := b5 s z ws [] 0) (os := bH ws []) (os2 := bH ws []) ((blE_eq s z).trans (by rw [h1', h2', h4, c5, c6]; rfl)) (by decide) rfl (fun keep _ => bH_robj ws []) (.inl ⟨rfl, ?_⟩)
      refine Tri.mono (Tri.block (Q := fun e fr H => e = .normal ∧ ∃ j keep, Ren 8 keep fr H (mkFr 130 bS (b5 s z ws (bOf s ws) j)) (mkH 8 (bH ws (bOf s ws)))) ((bl_loop1 hE hI hl (by omega) (by omega) hN).mono ?_)) ?_
      · rintro e fr H ⟨rfl, h⟩
        exact ⟨rfl, h⟩
      rintro e fr H ⟨rfl, j, keep, r⟩
      refine .inl ⟨rfl, TriL.ren hI r ?_⟩
      refine TriL.leafPX hE hI pb2_ok (bl_mid hl hl2 hm (by omega) (by omega) (by omega) hN) (by decide) (os2 := [bW ws, bW ws2]) rfl (fun keep _ => bW2_robj ws ws2) (.inl ⟨rfl, ?_⟩)
      refine Tri.mono (Tri.block (Q := fun e fr H => e = .normal ∧ ∃ j keep, Ren 8 keep fr H (mkFr 130 [5, 12, 18] (b3 ws.length ws2.length j)) (mkH 8 [bW ws, bW ws2])) ((bl_loop3 hE hI hN hm).mono ?_)) ?_
      · rintro e fr H ⟨rfl, h⟩
        exact ⟨rfl, h⟩
      rintro e fr H ⟨rfl, j, keep, r⟩
      refine .inl ⟨rfl, TriL.ren hI r ?_⟩
      exact TriL.leafPC hE pb2_ok (vs := [.bool true]) (os := []) (os2 := []) (blZ_eq ws.length (Nat.mul ws.length 4) ws2.length (Nat.mul ws2.length 4) j (WT ws) (WT ws2)) (by decide) rfl (fun keep _ => rows0) fun fr' H' keep r => bl_out (.inr rfl) r
end
theorem blank_calls {w : World} (hw : GlobOk gl w) (a b : ByteArray) : Calls Tryd.prog 4 #[.string a, .string b] w fun e w' => e = .returned (.bool true) ∧ Keeps w w' :=
  calls_bool (args := [.str a.data.toList, .str b.data.toList]) (cargs := [.string a, .string b]) ebl_ok gl_ok fn4_eq fn4_res (fun v hv => by
    simp only [List.mem_cons, List.not_mem_nil, or_false] at hv
    rcases hv with rfl | rfl <;> exact plain_str _) ⟨by simp [VRel], by simp [VRel], trivial⟩ (fun w hw => bl_whole (ebl_ok w hw) (kept_carried hw) _ _) hw
end
end Go.Proofs.YtdpkmhnpbbapcaaDoor
