/- Same: the same words in two rows. -/
import Derived.Test.YtdpkmhnpbbapcaaDoorLxLine
import Derived.Test.YtdpkmhnpbbapcaaDoorVaiH
import Derived.KernelRfl
namespace Go.Proofs.YtdpkmhnpbbapcaaDoor
open Go Go.Vai
noncomputable section
set_option maxRecDepth 100000
theorem Zlu : ∀ (ws : List (Wd × Nat)) (j : Nat) (w : Wd) (p i : Nat), ws[j]? = some (w, p) → i < 4 → (J5 ws)[j * 4 + i]? = (wdC w p)[i]?
  | [], j, w, p, i, h, _ => by simp at h
  | x :: ws, 0, w, p, i, h, hi => by
    simp only [List.getElem?_cons_zero, Option.some.injEq] at h
    subst h
    show (wdC w p ++ J5 ws)[0 * 4 + i]? = _
    rw [Nat.zero_mul, Nat.zero_add, List.getElem?_append_left (by exact hi)]
  | x :: ws, j + 1, w, p, i, h, hi => by
    rw [List.getElem?_cons_succ] at h
    show (wdC x.1 x.2 ++ J5 ws)[(j + 1) * 4 + i]? = _
    rw [List.getElem?_append_right (by show 4 ≤ _; omega), show (j + 1) * 4 + i - (wdC x.1 x.2).length = j * 4 + i from by show _ - 4 = _; omega]
    exact Zlu ws j w p i h hi
section
variable {ws : List (Wd × Nat)} {j : Nat} {w : Wd} {p : Nat} (hl : ws.length < 2 ^ 40) (h : ws[j]? = some (w, p))
include hl h
theorem Ztx {i : Nat} (hi : i < 4) : Tr.get (WT ws) (j * 4 + i) = (wdC w p)[i]? := by
  have hj := (List.getElem?_eq_some_iff.1 h).1
  rw [Ws _ _ _ _ (by rw [Zcj]; omega), if_pos (by rw [Zcj]; omega), Nat.sub_zero]
  exact Zlu ws j w p i h hi
theorem gw0 : Tr.get (WT ws) (Nat.add 0 (Nat.mul j 4)) = some (.int .i64 (.ofNat w.kind)) := by
  rw [show Nat.add 0 (Nat.mul j 4) = j * 4 + 0 from Nat.zero_add _]; exact Ztx hl h (by decide)
theorem gw1 : Tr.get (WT ws) (Nat.succ (Nat.add 0 (Nat.mul j 4))) = some (.str w.text) := by
  rw [show Nat.succ (Nat.add 0 (Nat.mul j 4)) = j * 4 + 1 from congrArg Nat.succ (Nat.zero_add _)]; exact Ztx hl h (by decide)
theorem gw2 : Tr.get (WT ws) (Nat.succ (Nat.succ (Nat.add 0 (Nat.mul j 4)))) = some (.int .u64 (.ofNat w.num)) := by
  rw [show Nat.succ (Nat.succ (Nat.add 0 (Nat.mul j 4))) = j * 4 + 2 from congrArg (fun x => Nat.succ (Nat.succ x)) (Nat.zero_add _)]; exact Ztx hl h (by decide)
theorem gw3 : Tr.get (WT ws) (Nat.succ (Nat.succ (Nat.succ (Nat.add 0 (Nat.mul j 4))))) = some (.int .i64 (.ofNat p)) := by
  rw [show Nat.succ (Nat.succ (Nat.succ (Nat.add 0 (Nat.mul j 4)))) = j * 4 + 3 from congrArg (fun x => Nat.succ (Nat.succ (Nat.succ x))) (Nat.zero_add _)]; exact Ztx hl h (by decide)
end
def fn8 : AFunc := (E1.fn 8).getD default
theorem Z3z : E1.fn 8 = some fn8 := by kernel_rfl
theorem Z2e : flat fn8.body = (flat fn8.body).take 4 ++ .block 0 (.loop (Zc [4, 0] fn8.body)) :: (flat fn8.body).drop 5 := by kernel_rfl
theorem Z72 : fn8.results = [4].map .tmp := by kernel_rfl
theorem Yaj {α : Type} : POk (α := α) (Zk E1 (smC E1) Zn 3) (run E1 3) := Xs E1 (fun f args H k r h => Vr _ _ _ _ _ _ h) Zn 3
theorem Yd4  : Zu E1 (Yw E1 3) (flat fn8.body) (Yj 8 [4] [0, 1, 2, 3, 4, 5, 6, 7]) (Z8 fn8 [.nils, .nils]) (Zs 8 []) = lf .ret 26 ([.bool true].map some) ([].map some) := by kernel_rfl
theorem Ycq (m n : Nat) (T : Tr AV) : Zu E1 (Yw E1 3) ((flat fn8.body).take 4) (Yj 8 [0, 1, 5] [0, 1, 2, 3, 4, 5, 6, 7, 8, 9]) (Z8 fn8 [.sl 8 0 m none, .sl 9 0 m none]) (Zs 8 [.cells n T 31 none 0 true false, .cells n T 31 none 0 true false]) = bc (!(Nat.beq m m)) (lf .ret 26 [some (.sl 8 0 m none), some (.sl 9 0 m none), none] ([.cells n T 31 none 0 true false, .cells n T 31 none 0 true false].map some)) (lf .normal 26 ([.sl 8 0 m none, .sl 9 0 m none, .int .i64 (.ofNat 0)].map some) ([.cells n T 31 none 0 true false, .cells n T 31 none 0 true false].map some)) := by kernel_rfl
theorem Yc8 (m n j : Nat) (T : Tr AV) : Zh E1 (Zk E1 (smC E1) Zn 3) (flat (Zc [4, 0] fn8.body)) (Z5 8 [0, 1, 5] [(10, [0, 1, 2, 3, 4, 5, 6, 7, 8, 9])]) (Zd 26 [0, 1, 5] [.sl 8 0 m none, .sl 9 0 m none, .int .i64 (.ofNat j)]) (Zs 8 [.cells n T 31 none 0 true false, .cells n T 31 none 0 true false]) (pO 1 0) = bc (Nat.blt j m) (none) (lf (.exit 0) 26 ([.sl 8 0 m none, .sl 9 0 m none, .int .i64 (.ofNat j)].map some) ([.cells n T 31 none 0 true false, .cells n T 31 none 0 true false].map some)) := by kernel_rfl
theorem Ybx (m n j : Nat) (T : Tr AV) : Zh E1 (Zk E1 (smC E1) Zn 3) (flat (Zc [4, 0] fn8.body)) (Z5 8 [0, 1, 5] [(10, [0, 1, 2, 3, 4, 5, 6, 7, 8, 9])]) (Zd 26 [0, 1, 5] [.sl 8 0 m none, .sl 9 0 m none, .int .i64 (.ofNat j)]) (Zs 8 [.cells n T 31 none 0 true false, .cells n T 31 none 0 true false]) (pO 2 1) = bc (Nat.blt j m) (bc (Nat.blt j m) (bc (isI .i64 (Tr.get T (Nat.add 0 (Nat.mul j 4)))) (bc (isS (Tr.get T (Nat.succ (Nat.add 0 (Nat.mul j 4))))) (bc (isI .u64 (Tr.get T (Nat.succ (Nat.succ (Nat.add 0 (Nat.mul j 4)))))) (bc (isI .i64 (Tr.get T (Nat.succ (Nat.succ (Nat.succ (Nat.add 0 (Nat.mul j 4))))))) (bc (Nat.blt j m) (bc (isI .i64 (Tr.get T (Nat.add 0 (Nat.mul j 4)))) (bc (isS (Tr.get T (Nat.succ (Nat.add 0 (Nat.mul j 4))))) (bc (isI .u64 (Tr.get T (Nat.succ (Nat.succ (Nat.add 0 (Nat.mul j 4)))))) (bc (isI .i64 (Tr.get T (Nat.succ (Nat.succ (Nat.succ (Nat.add 0 (Nat.mul j 4))))))) (bc (!((Xz (Ka (Tr.get T (Nat.add 0 (Nat.mul j 4)))) (Ka (Tr.get T (Nat.add 0 (Nat.mul j 4))))) && ((leq (K5 (Tr.get T (Nat.succ (Nat.add 0 (Nat.mul j 4))))) (K5 (Tr.get T (Nat.succ (Nat.add 0 (Nat.mul j 4)))))) && ((Xz (Ka (Tr.get T (Nat.succ (Nat.succ (Nat.add 0 (Nat.mul j 4)))))) (Ka (Tr.get T (Nat.succ (Nat.succ (Nat.add 0 (Nat.mul j 4))))))) && ((Xz (Ka (Tr.get T (Nat.succ (Nat.succ (Nat.succ (Nat.add 0 (Nat.mul j 4))))))) (Ka (Tr.get T (Nat.succ (Nat.succ (Nat.succ (Nat.add 0 (Nat.mul j 4)))))))) && true))))) (none) (lf .normal 26 ([.sl 8 0 m none, .sl 9 0 m none, .int .i64 (up j)].map some) ([.cells n T 31 none 0 true false, .cells n T 31 none 0 true false].map some))) (none)) (none)) (none)) (none)) (none)) (none)) (none)) (none)) (none)) (none)) (none) := by kernel_rfl
theorem Yen (m n j : Nat) (T : Tr AV) : Zu E1 (Yw E1 3) ((flat fn8.body).drop 5) (Yj 8 [4] [0, 1, 2, 3, 4, 5, 6, 7]) (Zd 26 [0, 1, 5] [.sl 8 0 m none, .sl 9 0 m none, .int .i64 (.ofNat j)]) (Zs 8 [.cells n T 31 none 0 true false, .cells n T 31 none 0 true false]) = lf .ret 26 ([.bool true].map some) ([].map some) := by kernel_rfl
def saV (m j : Nat) : List AV := [.sl 8 0 m none, .sl 9 0 m none, .int .i64 (.ofNat j)]
def saO (ws : List (Wd × Nat)) : List AObj := [.cells (ws.length * 4) (WT ws) 31 none 0 true false, .cells (ws.length * 4) (WT ws) 31 none 0 true false]
theorem Zj7 {keep : List Nat} (ws : List (Wd × Nat)) : ∀ (j : Nat) o o2, (saO ws)[j]? = some o → (saO ws)[j]? = some o2 → We 0 keep o o2 := Yy fun o ho => by
  simp only [saO, List.mem_cons, List.not_mem_nil, or_false, or_self] at ho
  subst ho
  exact ⟨_, _, _, _, _, _, _, rfl, Xp ws⟩
def saQ : TQ := fun e fr H => (e = .normal ∨ e = .ret) ∧ fr.df = [] ∧ ∃ keep fr' H' l, Ren 8 keep fr H fr' H' ∧ Xm E1 fr'.t H' fn8.results = some l ∧ Ja l = .bool true
section
variable {P : Program} {I : List MEnt → AHeap → World → Prop} {ro : Option Nat}
theorem Z4g {e : AExit} {fr : AFr} {H : AHeap} {keep : List Nat} (he : e = .normal ∨ e = .ret) (r : Ren 8 keep fr H (Zd 26 [4] [.bool true]) (Zs 8 [])) : saQ e fr H := ⟨he, r.df.1, keep, _, _, [.bool true], r, by rw [Z72]; rfl, rfl⟩
theorem Z6n (hE : EnvOk E1 P I) : Yk E1 P I ro fn8.body (Z8 fn8 [.nils, .nils]) (Zs 8 []) saQ :=
  Z0 _ (Zg.leafE hE Yd4 (by decide) rfl rfl Y3 fun fr' H' r => Z4g (by simp) r)
theorem Yej (hE : EnvOk E1 P I) (hI : Carried I) {ws : List (Wd × Nat)} (hl : ws.length < 2 ^ 40) : Yk E1 P I ro fn8.body (Z8 fn8 [.sl 8 0 ws.length none, .sl 9 0 ws.length none]) (Zs 8 (saO ws)) saQ := by
  refine Z0 _ ?_
  rw [Z2e]
  refine Zg.leafX hE hI (vs := saV ws.length 0) (os := saO ws) (os2 := saO ws) ((Ycq ws.length (ws.length * 4) (WT ws)).trans (by rw [Nat.beq_refl]; rfl)) (by decide) rfl rfl (Zj7 ws) (.inl ⟨rfl, ?_⟩)
  refine Yk.mono (Yk.block (Q := fun e fr H => e = .normal ∧ ∃ j keep, Ren 8 keep fr H (Zd 26 [0, 1, 5] (saV ws.length j)) (Zs 8 (saO ws))) ((Yk.loop (X := Nat) (fr := fun j => Zd 26 [0, 1, 5] (saV ws.length j)) (H := fun _ => Zs 8 (saO ws)) (Inv := fun j => j ≤ ws.length) (fun j => ws.length - j) (Q := fun e fr H => e = .exit 0 ∧ ∃ j keep, Ren 8 keep fr H (Zd 26 [0, 1, 5] (saV ws.length j)) (Zs 8 (saO ws))) hI ?_ 0 (Nat.zero_le _)).mono ?_)) ?_
  · intro j hj
    refine Z0 _ ?_
    by_cases h : j < ws.length
    · have hg : ws[j]? = some ((ws[j]).1, (ws[j]).2) := List.getElem?_eq_getElem h
      generalize (ws[j]).1 = x at hg
      generalize (ws[j]).2 = p at hg
      refine Zg.leafPC hE Yaj (vs := saV ws.length (j + 1)) (os := saO ws) (os2 := saO ws) ((Ybx ws.length (ws.length * 4) j (WT ws)).trans ?_) (by decide) rfl (fun keep _ => Zj7 ws) fun fr' H' keep r => .inl ⟨rfl, j + 1, keep, h, by omega, r⟩
      rw [Zm h, gw0 hl hg, gw1 hl hg, gw2 hl hg, gw3 hl hg, Yv (by omega)]
      show bc (!(Xz (.ofNat x.kind) (.ofNat x.kind) && (leq x.text x.text && (Xz (.ofNat x.num) (.ofNat x.num) && (Xz (.ofNat p) (.ofNat p) && true))))) _ _ = _
      rw [Zj4, Zz7, Zj4, Zj4]
      rfl
    · exact Zg.leafPC hE Yaj (vs := saV ws.length j) (os := saO ws) (os2 := saO ws) ((Yc8 ws.length (ws.length * 4) j (WT ws)).trans (by rw [Yg h]; rfl)) (by decide) rfl (fun keep _ => Zj7 ws) fun fr' H' keep r => .inr ⟨(by intro h; cases h), rfl, j, keep, r⟩
  · rintro e fr H ⟨rfl, j, keep, r⟩
    exact ⟨rfl, j, keep, r⟩
  · rintro e fr H ⟨rfl, j, keep, r⟩
    exact .inl ⟨rfl, Zg.ren hI r (Zg.leafE hE (Yen ws.length (ws.length * 4) j (WT ws)) (by decide) rfl rfl Y3 fun fr' H' r => Z4g (by simp) r)⟩
end
open Classical in
def Ztm (m n : Nat) (T : Tr AV) (m2 n2 : Nat) (T2 : Tr AV) : Bool := decide (∃ ws : List (Wd × Nat), ws.length < 2 ^ 40 ∧ m = ws.length ∧ n = ws.length * 4 ∧ T = WT ws ∧ m2 = ws.length ∧ n2 = ws.length * 4 ∧ T2 = WT ws)
theorem Z3t {ws : List (Wd × Nat)} (hl : ws.length < 2 ^ 40) : Ztm ws.length (ws.length * 4) (WT ws) ws.length (ws.length * 4) (WT ws) = true := @decide_eq_true _ (Classical.propDecidable _) ⟨ws, hl, rfl, rfl, rfl, rfl, rfl, rfl⟩
def Zjr : Sm := fun f args H => match args with
  | [.nils, .nils] => bif Nat.beq f 8 then some (.bool true, H) else none
  | [.sl a 0 m none, .sl b 0 m2 none] => match H.get a, H.get b with
    | some (.cells n T _ _ _ _ _), some (.cells n2 T2 _ _ _ _ _) => bif Nat.beq f 8 && Ztm m n T m2 n2 T2 then some (.bool true, H) else none
    | _, _ => none
  | _ => none
theorem Z75 : Qm Tryd.prog gl Zjr := by
  intro f args H v H' M w cargs hs hw hr ha
  unfold Zjr at hs
  split at hs
  · rw [Bool.cond_eq_ite] at hs
    split at hs
    case isFalse => cases hs
    rename_i hb
    rw [Nat.beq_eq] at hb
    subst hb
    simp only [Option.some.injEq, Prod.mk.injEq] at hs
    obtain ⟨rfl, rfl⟩ := hs
    match cargs, ha with
    | [c0, c1], ⟨r0, r1, _⟩ => exact Zks (ex := []) (os := []) (args := [.nils, .nils]) Zcp Z3z hw hr rfl (fun o ho => by cases ho) (fun j m o h => by simp at h) ⟨r0, r1, trivial⟩ (Zjo _) (Z6n (Zcp w hw))
  · rename_i a m b m2
    split at hs
    case h_2 => cases hs
    rename_i n T e g fz ro mk n2 T2 e2 g2 fz2 ro2 mk2 hga hgb
    rw [Bool.cond_eq_ite] at hs
    split at hs
    case isFalse => cases hs
    rename_i hb
    rw [Bool.and_eq_true, Nat.beq_eq] at hb
    obtain ⟨rfl, hb⟩ := hb
    simp only [Option.some.injEq, Prod.mk.injEq] at hs
    obtain ⟨rfl, rfl⟩ := hs
    obtain ⟨ws, hl, rfl, rfl, rfl, rfl, rfl, rfl⟩ := @of_decide_eq_true _ (Classical.propDecidable _) hb
    obtain ⟨ma, hma, rela⟩ := hr.obj a _ hga
    obtain ⟨mb, hmb, relb⟩ := hr.obj b _ hgb
    match cargs, ha with
    | [c0, c1], ⟨r0, r1, _⟩ =>
      obtain ⟨ma', ca, hma', rfl, r02, r03⟩ := r0
      rw [hma] at hma'; cases hma'
      obtain ⟨mb', cb, hmb', rfl, r12, r13⟩ := r1
      rw [hmb] at hmb'; cases hmb'
      have hxa : (Wq E1.ng 0 ++ [ma, mb])[8]? = some ma := rfl
      have hxb : (Wq E1.ng 0 ++ [ma, mb])[9]? = some mb := rfl
      refine Zks (E := E1) (ex := [ma, mb]) (os := saO ws) (args := [.sl 8 0 ws.length none, .sl 9 0 ws.length none]) Zcp Z3z hw hr rfl (fun o ho => ?_) (fun j m o e1 e2 => ?_) ⟨⟨ma, ca, hxa, rfl, r02, r03⟩, ⟨mb, cb, hxb, rfl, r12, r13⟩, trivial⟩ (Zjo _) (Yej (Zcp w hw) (Zt hw) hl)
      · simp only [saO, List.mem_cons, List.not_mem_nil, or_false, or_self] at ho
        subst ho; rfl
      · match j, e1, e2 with
        | 0, e1, e2 => cases e1; cases e2; exact Zrb rela (Xp ws) 31
        | 1, e1, e2 => cases e1; cases e2; exact Zrb relb (Xp ws) 31
        | j + 2, e1, e2 => simp at e1
  · cases hs
end
end Go.Proofs.YtdpkmhnpbbapcaaDoor
