/- Same: the same words in two rows. -/
import Derived.Test.YtdpkmhnpbbapcaaDoorLxLine
import Derived.Test.YtdpkmhnpbbapcaaDoorVaiH
import Derived.KernelRfl
namespace Go.Proofs.YtdpkmhnpbbapcaaDoor
open Go Go.Vai
noncomputable section
set_option maxRecDepth 100000
theorem wCells_at : ∀ (ws : List (Wd × Nat)) (j : Nat) (w : Wd) (p i : Nat), ws[j]? = some (w, p) → i < 4 → (wCells ws)[j * 4 + i]? = (wdC w p)[i]?
  | [], j, w, p, i, h, _ => by simp at h
  | x :: ws, 0, w, p, i, h, hi => by
    simp only [List.getElem?_cons_zero, Option.some.injEq] at h
    subst h
    show (wdC w p ++ wCells ws)[0 * 4 + i]? = _
    rw [Nat.zero_mul, Nat.zero_add, List.getElem?_append_left (by exact hi)]
  | x :: ws, j + 1, w, p, i, h, hi => by
    rw [List.getElem?_cons_succ] at h
    show (wdC x.1 x.2 ++ wCells ws)[(j + 1) * 4 + i]? = _
    rw [List.getElem?_append_right (by show 4 ≤ _; omega), show (j + 1) * 4 + i - (wdC x.1 x.2).length = j * 4 + i from by show _ - 4 = _; omega]
    exact wCells_at ws j w p i h hi
section
variable {ws : List (Wd × Nat)} {j : Nat} {w : Wd} {p : Nat} (hl : ws.length < 2 ^ 40) (h : ws[j]? = some (w, p))
include hl h
theorem WT_at {i : Nat} (hi : i < 4) : Tr.get (WT ws) (j * 4 + i) = (wdC w p)[i]? := by
  have hj := (List.getElem?_eq_some_iff.1 h).1
  rw [get_putAllB _ _ _ _ (by rw [wCells_len]; omega), if_pos (by rw [wCells_len]; omega), Nat.sub_zero]
  exact wCells_at ws j w p i h hi
theorem gw0 : Tr.get (WT ws) (Nat.add 0 (Nat.mul j 4)) = some (.int .i64 (.ofNat w.kind)) := by
  rw [show Nat.add 0 (Nat.mul j 4) = j * 4 + 0 from Nat.zero_add _]; exact WT_at hl h (by decide)
theorem gw1 : Tr.get (WT ws) (Nat.succ (Nat.add 0 (Nat.mul j 4))) = some (.str w.text) := by
  rw [show Nat.succ (Nat.add 0 (Nat.mul j 4)) = j * 4 + 1 from congrArg Nat.succ (Nat.zero_add _)]; exact WT_at hl h (by decide)
theorem gw2 : Tr.get (WT ws) (Nat.succ (Nat.succ (Nat.add 0 (Nat.mul j 4)))) = some (.int .u64 (.ofNat w.num)) := by
  rw [show Nat.succ (Nat.succ (Nat.add 0 (Nat.mul j 4))) = j * 4 + 2 from congrArg (fun x => Nat.succ (Nat.succ x)) (Nat.zero_add _)]; exact WT_at hl h (by decide)
theorem gw3 : Tr.get (WT ws) (Nat.succ (Nat.succ (Nat.succ (Nat.add 0 (Nat.mul j 4))))) = some (.int .i64 (.ofNat p)) := by
  rw [show Nat.succ (Nat.succ (Nat.succ (Nat.add 0 (Nat.mul j 4)))) = j * 4 + 3 from congrArg (fun x => Nat.succ (Nat.succ (Nat.succ x))) (Nat.zero_add _)]; exact WT_at hl h (by decide)
theorem gwp : Tr.get (WT ws) (Nat.add (Nat.add 0 (Nat.mul j 4)) 3) = some (.int .i64 (.ofNat p)) := gw3 hl h
end
def fn8 : AFunc := (E1.fn 8).getD default
theorem fn8_eq : E1.fn 8 = some fn8 := by kernel_rfl
theorem fn8_flat : flat fn8.body = (flat fn8.body).take 4 ++ .block 0 (.loop (codeAt [4, 0] fn8.body)) :: (flat fn8.body).drop 5 := by kernel_rfl
theorem fn8_res : fn8.results = [4].map .tmp := by kernel_rfl
theorem p1_ok {α : Type} : POk (α := α) (callPS E1 (smC E1) noPin 3) (run E1 3) := callPS_ok E1 (fun f args H k r h => smC_ok _ _ _ _ _ _ h) noPin 3
theorem saN_eq  : codesKK E1 (callKK E1 3) (flat fn8.body) (leafK 8 [4] [0, 1, 2, 3, 4, 5, 6, 7]) (newFr fn8 [.nils, .nils]) (mkH 8 []) = lf .ret 26 ([.bool true].map some) ([].map some) := by kernel_rfl
theorem saA_eq (m n : Nat) (T : Tr AV) : codesKK E1 (callKK E1 3) ((flat fn8.body).take 4) (leafK 8 [0, 1, 5] [0, 1, 2, 3, 4, 5, 6, 7, 8, 9]) (newFr fn8 [.sl 8 0 m none, .sl 9 0 m none]) (mkH 8 [.cells n T 31 none 0 true false, .cells n T 31 none 0 true false]) = bc (!(Nat.beq m m)) (lf .ret 26 [some (.sl 8 0 m none), some (.sl 9 0 m none), none] ([.cells n T 31 none 0 true false, .cells n T 31 none 0 true false].map some)) (lf .normal 26 ([.sl 8 0 m none, .sl 9 0 m none, .int .i64 (.ofNat 0)].map some) ([.cells n T 31 none 0 true false, .cells n T 31 none 0 true false].map some)) := by kernel_rfl
theorem saF_eq (m n j : Nat) (T : Tr AV) : codesP E1 (callPS E1 (smC E1) noPin 3) (flat (codeAt [4, 0] fn8.body)) (leafP 8 [0, 1, 5] [(10, [0, 1, 2, 3, 4, 5, 6, 7, 8, 9])]) (mkFr 26 [0, 1, 5] [.sl 8 0 m none, .sl 9 0 m none, .int .i64 (.ofNat j)]) (mkH 8 [.cells n T 31 none 0 true false, .cells n T 31 none 0 true false]) (pO 1 0) = bc (Nat.blt j m) (none) (lf (.exit 0) 26 ([.sl 8 0 m none, .sl 9 0 m none, .int .i64 (.ofNat j)].map some) ([.cells n T 31 none 0 true false, .cells n T 31 none 0 true false].map some)) := by kernel_rfl
theorem saT_eq (m n j : Nat) (T : Tr AV) : codesP E1 (callPS E1 (smC E1) noPin 3) (flat (codeAt [4, 0] fn8.body)) (leafP 8 [0, 1, 5] [(10, [0, 1, 2, 3, 4, 5, 6, 7, 8, 9])]) (mkFr 26 [0, 1, 5] [.sl 8 0 m none, .sl 9 0 m none, .int .i64 (.ofNat j)]) (mkH 8 [.cells n T 31 none 0 true false, .cells n T 31 none 0 true false]) (pO 2 1) = bc (Nat.blt j m) (bc (Nat.blt j m) (bc (isI .i64 (Tr.get T (Nat.add 0 (Nat.mul j 4)))) (bc (isS (Tr.get T (Nat.succ (Nat.add 0 (Nat.mul j 4))))) (bc (isI .u64 (Tr.get T (Nat.succ (Nat.succ (Nat.add 0 (Nat.mul j 4)))))) (bc (isI .i64 (Tr.get T (Nat.succ (Nat.succ (Nat.succ (Nat.add 0 (Nat.mul j 4))))))) (bc (Nat.blt j m) (bc (isI .i64 (Tr.get T (Nat.add 0 (Nat.mul j 4)))) (bc (isS (Tr.get T (Nat.succ (Nat.add 0 (Nat.mul j 4))))) (bc (isI .u64 (Tr.get T (Nat.succ (Nat.succ (Nat.add 0 (Nat.mul j 4)))))) (bc (isI .i64 (Tr.get T (Nat.succ (Nat.succ (Nat.succ (Nat.add 0 (Nat.mul j 4))))))) (bc (!((ieq (asI (Tr.get T (Nat.add 0 (Nat.mul j 4)))) (asI (Tr.get T (Nat.add 0 (Nat.mul j 4))))) && ((leq (asS (Tr.get T (Nat.succ (Nat.add 0 (Nat.mul j 4))))) (asS (Tr.get T (Nat.succ (Nat.add 0 (Nat.mul j 4)))))) && ((ieq (asI (Tr.get T (Nat.succ (Nat.succ (Nat.add 0 (Nat.mul j 4)))))) (asI (Tr.get T (Nat.succ (Nat.succ (Nat.add 0 (Nat.mul j 4))))))) && ((ieq (asI (Tr.get T (Nat.succ (Nat.succ (Nat.succ (Nat.add 0 (Nat.mul j 4))))))) (asI (Tr.get T (Nat.succ (Nat.succ (Nat.succ (Nat.add 0 (Nat.mul j 4)))))))) && true))))) (none) (lf .normal 26 ([.sl 8 0 m none, .sl 9 0 m none, .int .i64 (up j)].map some) ([.cells n T 31 none 0 true false, .cells n T 31 none 0 true false].map some))) (none)) (none)) (none)) (none)) (none)) (none)) (none)) (none)) (none)) (none)) (none) := by kernel_rfl
theorem saZ_eq (m n j : Nat) (T : Tr AV) : codesKK E1 (callKK E1 3) ((flat fn8.body).drop 5) (leafK 8 [4] [0, 1, 2, 3, 4, 5, 6, 7]) (mkFr 26 [0, 1, 5] [.sl 8 0 m none, .sl 9 0 m none, .int .i64 (.ofNat j)]) (mkH 8 [.cells n T 31 none 0 true false, .cells n T 31 none 0 true false]) = lf .ret 26 ([.bool true].map some) ([].map some) := by kernel_rfl
def saV (m j : Nat) : List AV := [.sl 8 0 m none, .sl 9 0 m none, .int .i64 (.ofNat j)]
def saO (ws : List (Wd × Nat)) : List AObj := [.cells (ws.length * 4) (WT ws) 31 none 0 true false, .cells (ws.length * 4) (WT ws) 31 none 0 true false]
theorem saO_robj {keep : List Nat} (ws : List (Wd × Nat)) : ∀ (j : Nat) o o2, (saO ws)[j]? = some o → (saO ws)[j]? = some o2 → RObj 0 keep o o2 := robj_all fun o ho => by
  simp only [saO, List.mem_cons, List.not_mem_nil, or_false, or_self] at ho
  subst ho
  exact ⟨_, _, _, _, _, _, _, rfl, wPlain ws⟩
def saQ : TQ := fun e fr H => (e = .normal ∨ e = .ret) ∧ fr.df = [] ∧ ∃ keep fr' H' l, Ren 8 keep fr H fr' H' ∧ resA E1 fr'.t H' fn8.results = some l ∧ resV l = .bool true
section
variable {P : Program} {I : List MEnt → AHeap → World → Prop} {ro : Option Nat}
theorem sa_fin {e : AExit} {fr : AFr} {H : AHeap} {keep : List Nat} (he : e = .normal ∨ e = .ret) (r : Ren 8 keep fr H (mkFr 26 [4] [.bool true]) (mkH 8 [])) : saQ e fr H := ⟨he, r.df.1, keep, _, _, [.bool true], r, by rw [fn8_res]; rfl, rfl⟩
theorem sa_tri0 (hE : EnvOk E1 P I) : Tri E1 P I ro fn8.body (newFr fn8 [.nils, .nils]) (mkH 8 []) saQ :=
  tri_of_triL _ (TriL.leafE hE saN_eq (by decide) rfl rfl rows0 fun fr' H' r => sa_fin (by simp) r)
theorem sa_tri (hE : EnvOk E1 P I) (hI : Carried I) {ws : List (Wd × Nat)} (hl : ws.length < 2 ^ 40) : Tri E1 P I ro fn8.body (newFr fn8 [.sl 8 0 ws.length none, .sl 9 0 ws.length none]) (mkH 8 (saO ws)) saQ := by
  refine tri_of_triL _ ?_
  rw [fn8_flat]
  refine TriL.leafX hE hI (vs := saV ws.length 0) (os := saO ws) (os2 := saO ws) ((saA_eq ws.length (ws.length * 4) (WT ws)).trans (by rw [Nat.beq_refl]; rfl)) (by decide) rfl rfl (saO_robj ws) (.inl ⟨rfl, ?_⟩)
  refine Tri.mono (Tri.block (Q := fun e fr H => e = .normal ∧ ∃ j keep, Ren 8 keep fr H (mkFr 26 [0, 1, 5] (saV ws.length j)) (mkH 8 (saO ws))) ((Tri.loop (X := Nat) (fr := fun j => mkFr 26 [0, 1, 5] (saV ws.length j)) (H := fun _ => mkH 8 (saO ws)) (Inv := fun j => j ≤ ws.length) (fun j => ws.length - j) (Q := fun e fr H => e = .exit 0 ∧ ∃ j keep, Ren 8 keep fr H (mkFr 26 [0, 1, 5] (saV ws.length j)) (mkH 8 (saO ws))) hI ?_ 0 (Nat.zero_le _)).mono ?_)) ?_
  · intro j hj
    refine tri_of_triL _ ?_
    by_cases h : j < ws.length
    · have hg : ws[j]? = some ((ws[j]).1, (ws[j]).2) := List.getElem?_eq_getElem h
      generalize (ws[j]).1 = x at hg
      generalize (ws[j]).2 = p at hg
      refine TriL.leafPC hE p1_ok (vs := saV ws.length (j + 1)) (os := saO ws) (os2 := saO ws) ((saT_eq ws.length (ws.length * 4) j (WT ws)).trans ?_) (by decide) rfl (fun keep _ => saO_robj ws) fun fr' H' keep r => .inl ⟨rfl, j + 1, keep, h, by omega, r⟩
      rw [blt_t h, gw0 hl hg, gw1 hl hg, gw2 hl hg, gw3 hl hg, up_eq (by omega)]
      show bc (!(ieq (.ofNat x.kind) (.ofNat x.kind) && (leq x.text x.text && (ieq (.ofNat x.num) (.ofNat x.num) && (ieq (.ofNat p) (.ofNat p) && true))))) _ _ = _
      rw [ieq_self, leq_self, ieq_self, ieq_self]
      rfl
    · exact TriL.leafPC hE p1_ok (vs := saV ws.length j) (os := saO ws) (os2 := saO ws) ((saF_eq ws.length (ws.length * 4) j (WT ws)).trans (by rw [blt_f h]; rfl)) (by decide) rfl (fun keep _ => saO_robj ws) fun fr' H' keep r => .inr ⟨(by intro h; cases h), rfl, j, keep, r⟩
  · rintro e fr H ⟨rfl, j, keep, r⟩
    exact ⟨rfl, j, keep, r⟩
  · rintro e fr H ⟨rfl, j, keep, r⟩
    exact .inl ⟨rfl, TriL.ren hI r (TriL.leafE hE (saZ_eq ws.length (ws.length * 4) j (WT ws)) (by decide) rfl rfl rows0 fun fr' H' r => sa_fin (by simp) r)⟩
end
open Classical in
def sameT (m n : Nat) (T : Tr AV) (m2 n2 : Nat) (T2 : Tr AV) : Bool := decide (∃ ws : List (Wd × Nat), ws.length < 2 ^ 40 ∧ m = ws.length ∧ n = ws.length * 4 ∧ T = WT ws ∧ m2 = ws.length ∧ n2 = ws.length * 4 ∧ T2 = WT ws)
theorem sameT_of {ws : List (Wd × Nat)} (hl : ws.length < 2 ^ 40) : sameT ws.length (ws.length * 4) (WT ws) ws.length (ws.length * 4) (WT ws) = true := @decide_eq_true _ (Classical.propDecidable _) ⟨ws, hl, rfl, rfl, rfl, rfl, rfl, rfl⟩
def sameSm : Sm := fun f args H => match args with
  | [.nils, .nils] => bif Nat.beq f 8 then some (.bool true, H) else none
  | [.sl a 0 m none, .sl b 0 m2 none] => match H.get a, H.get b with
    | some (.cells n T _ _ _ _ _), some (.cells n2 T2 _ _ _ _ _) => bif Nat.beq f 8 && sameT m n T m2 n2 T2 then some (.bool true, H) else none
    | _, _ => none
  | _ => none
theorem same_ok : SmOk Tryd.prog gl sameSm := by
  intro f args H v H' M w cargs hs hw hr ha
  unfold sameSm at hs
  split at hs
  · rw [Bool.cond_eq_ite] at hs
    split at hs
    case isFalse => cases hs
    rename_i hb
    rw [Nat.beq_eq] at hb
    subst hb
    simp only [Option.some.injEq, Prod.mk.injEq] at hs
    obtain ⟨rfl, rfl⟩ := hs
    match cargs, ha with
    | [c0, c1], ⟨r0, r1, _⟩ => exact view_calls (ex := []) (os := []) (args := [.nils, .nils]) e1_ok fn8_eq hw hr rfl (fun o ho => by cases ho) (fun j m o h => by simp at h) ⟨r0, r1, trivial⟩ (plain_bool _) (sa_tri0 (e1_ok w hw))
  · rename_i a m b m2
    split at hs
    case h_2 => cases hs
    rename_i n T e g fz ro mk n2 T2 e2 g2 fz2 ro2 mk2 hga hgb
    rw [Bool.cond_eq_ite] at hs
    split at hs
    case isFalse => cases hs
    rename_i hb
    rw [Bool.and_eq_true, Nat.beq_eq] at hb
    obtain ⟨rfl, hb⟩ := hb
    simp only [Option.some.injEq, Prod.mk.injEq] at hs
    obtain ⟨rfl, rfl⟩ := hs
    obtain ⟨ws, hl, rfl, rfl, rfl, rfl, rfl, rfl⟩ := @of_decide_eq_true _ (Classical.propDecidable _) hb
    obtain ⟨ma, hma, rela⟩ := hr.obj a _ hga
    obtain ⟨mb, hmb, relb⟩ := hr.obj b _ hgb
    match cargs, ha with
    | [c0, c1], ⟨r0, r1, _⟩ =>
      obtain ⟨ma', ca, hma', rfl, r02, r03⟩ := r0
      rw [hma] at hma'; cases hma'
      obtain ⟨mb', cb, hmb', rfl, r12, r13⟩ := r1
      rw [hmb] at hmb'; cases hmb'
      have hxa : (mGlob E1.ng 0 ++ [ma, mb])[8]? = some ma := rfl
      have hxb : (mGlob E1.ng 0 ++ [ma, mb])[9]? = some mb := rfl
      refine view_calls (E := E1) (ex := [ma, mb]) (os := saO ws) (args := [.sl 8 0 ws.length none, .sl 9 0 ws.length none]) e1_ok fn8_eq hw hr rfl (fun o ho => ?_) (fun j m o e1 e2 => ?_) ⟨⟨ma, ca, hxa, rfl, r02, r03⟩, ⟨mb, cb, hxb, rfl, r12, r13⟩, trivial⟩ (plain_bool _) (sa_tri (e1_ok w hw) (kept_carried hw) hl)
      · simp only [saO, List.mem_cons, List.not_mem_nil, or_false, or_self] at ho
        subst ho; rfl
      · match j, e1, e2 with
        | 0, e1, e2 => cases e1; cases e2; exact row_view rela (wPlain ws) 31
        | 1, e1, e2 => cases e1; cases e2; exact row_view relb (wPlain ws) 31
        | j + 2, e1, e2 => simp at e1
  · cases hs
end
end Go.Proofs.YtdpkmhnpbbapcaaDoor
