/- Encode, Check and Operands, summed up for all instructions at Imm 0. -/
import Derived.Test.YtbfdooplkdofeaaGreatDoorAsTab
import Derived.KernelRfl
namespace Go.Proofs.YtbfdooplkdofeaaGreatDoor
open Go Go.Vai
noncomputable section
set_option maxRecDepth 100000
theorem lits_of {l : List Ent} {ms : List (List UInt8)} {n : List UInt8} (hs : (ms.all fun m => l.any fun x => leq x.1 m) = true) (h : ∀ x ∈ l, leq x.1 n = false) : ∀ m ∈ ms, leq m n = false := by
  intro m hm
  obtain ⟨x, hx, e⟩ := List.any_eq_true.1 (List.all_eq_true.1 hs m hm)
  have := leq_t e
  subst this
  exact h x hx
theorem cT_lits {ms : List (List UInt8)} {n : List UInt8} {x : Option AV} (h : ∀ m ∈ ms, leq m n = false) : cT (ms.map fun m => (leq m n, false)) x = x := Zb3 x _ fun t ht => by
  obtain ⟨m, hm, rfl⟩ := List.mem_map.1 ht
  exact h m hm
theorem none_of {l : List Ent} {ms : List (List UInt8)} {n : List UInt8} (e : l.map (·.1) = ms) (h : ∀ x ∈ l, leq x.1 n = false) : ∀ m ∈ ms, leq m n = false := by
  intro m hm
  rw [← e] at hm
  obtain ⟨x, hx, rfl⟩ := List.mem_map.1 hm
  exact h x hx
theorem not1 {n : List UInt8} (h : ∀ x ∈ tab1, leq x.1 n = false) : Zc7 n amRows = true := Zeh n amRows (by kernel_rfl) (none_of names1 h)
theorem not2 {n : List UInt8} (h : ∀ x ∈ tab2, leq x.1 n = false) : Zc7 n Zea = true := Zeh n Zea (by kernel_rfl) (none_of names2 h)
theorem not3 {n : List UInt8} (h : ∀ x ∈ tab3, leq x.1 n = false) : Zc7 n Zdv = true := Zeh n Zdv (by kernel_rfl) fun m hm => none_of names3 h m (List.mem_append_left _ hm)
theorem not9 {n : List UInt8} (h : ∀ x ∈ tab3, leq x.1 n = false) : Zc7 n Zd4 = true := Zeh n Zd4 (by kernel_rfl) fun m hm => none_of names3 h m (List.mem_append_right _ hm)
theorem t_cases (t : Int) : t = .ofNat 1 ∨ t = .ofNat 2 ∨ t = .ofNat 3 ∨ (ieq t (.ofNat 1) = false ∧ ieq t (.ofNat 2) = false ∧ ieq t (.ofNat 3) = false) := by
  cases h1 : ieq t (.ofNat 1) with
  | true => exact .inl (Zei h1)
  | false => cases h2 : ieq t (.ofNat 2) with
    | true => exact .inr (.inl (Zei h2))
    | false => cases h3 : ieq t (.ofNat 3) with
      | true => exact .inr (.inr (.inl (Zei h3)))
      | false => exact .inr (.inr (.inr ⟨rfl, rfl, rfl⟩))
theorem Zcv {t : Int} {nm : List UInt8} (h : look (tabE t) nm = none) (A B C D : Int) : encE t nm A B C D = noneE t ∧ chkE t nm A B C D = noneE t := by
  unfold encE chkE
  rw [h]; exact ⟨rfl, rfl⟩
theorem some_val {t : Int} {nm : List UInt8} {x : Fn4 × Fn4} (h : look (tabE t) nm = some x) (A B C D : Int) : encE t nm A B C D = x.1 A B C D ∧ chkE t nm A B C D = x.2 A B C D := by
  unfold encE chkE
  rw [h]; exact ⟨rfl, rfl⟩
theorem tab_other {t : Int} (h : ieq t (.ofNat 1) = false ∧ ieq t (.ofNat 2) = false ∧ ieq t (.ofNat 3) = false) (nm : List UInt8) : look (tabE t) nm = none ∧ noneE t = .ofNat 11 := by
  unfold tabE noneE inT
  rw [h.1, h.2.1, h.2.2]; exact ⟨rfl, rfl⟩
theorem enc_all (t : Int) (nm : List UInt8) (A B C D : Int) : AnsO 17 [.int .i64 t, insV nm A B C D (.ofNat 0)] (.tup [.opq none, .int .i64 (encE t nm A B C D)]) := by
  rcases t_cases t with rfl | rfl | rfl | h
  · rcases Zbs nm tab1 with ⟨x, hx, rfl, h2⟩ | ⟨h1, h2⟩
    · rw [(some_val (t := .ofNat 1) h2 A B C D).1]; exact (Zef tab1_ok x hx).1 A B C D
    · rw [(Zcv (t := .ofNat 1) h2 A B C D).1]; exact ansEn (ke1 ..) (by rw [not1 h1]; rfl)
  · rcases Zbs nm tab2 with ⟨x, hx, rfl, h2⟩ | ⟨h1, h2⟩
    · rw [(some_val (t := .ofNat 2) h2 A B C D).1]; exact (Zef tab2_ok x hx).1 A B C D
    · rw [(Zcv (t := .ofNat 2) h2 A B C D).1]; exact ansEn (ke2 ..) (by rw [not2 h1]; rfl)
  · rcases Zbs nm tab3 with ⟨x, hx, rfl, h2⟩ | ⟨h1, h2⟩
    · rw [(some_val (t := .ofNat 3) h2 A B C D).1]; exact (Zef tab3_ok x hx).1 A B C D
    · rw [(Zcv (t := .ofNat 3) h2 A B C D).1]; exact ansEn (ke3 ..) (unk3_val _ _ (not9 h1) (not3 h1))
  · obtain ⟨h1, h2⟩ := tab_other h nm
    rw [(Zcv h1 A B C D).1, h2]
    exact ansE (keo ..) (by rw [h.1, h.2.1, h.2.2]; rfl)
theorem sub1 : (u1L.all fun m => tab1.any fun x => leq x.1 m) = true := by kernel_rfl
theorem sub2 : (u2L.all fun m => tab2.any fun x => leq x.1 m) = true := by kernel_rfl
theorem sub3 : (u3L.all fun m => tab3.any fun x => leq x.1 m) = true := by kernel_rfl
theorem sub9 : (u9L.all fun m => tab3.any fun x => leq x.1 m) = true := by kernel_rfl
theorem chk_unk3 {nm : List UInt8} (h : ∀ x ∈ tab3, leq x.1 nm = false) (A B C D : Int) : AnsV 20 [.int .i64 (.ofNat 3), insV nm A B C D (.ofNat 0)] (.int .i64 (.ofNat 7)) := by
  cases h1 : Nat.blt 2 (lenU nm) with
  | false => exact ansC (kc3 ..) (by rw [h1, cT_lits (lits_of sub3 h)]; rfl)
  | true =>
    have h2 : Nat.ble 2 (lenU nm) = true := by
      rw [Nat.blt_eq] at h1
      rw [Nat.ble_eq]; omega
    cases h3 : leq (List.take 2 (List.drop 0 nm)) [99, 46] with
    | true => exact ansC (kc3TT ..) (by rw [h1, h2, h3, cT_lits (lits_of sub9 h)]; rfl)
    | false => exact ansC (kc3TF ..) (by rw [h1, h2, h3, cT_lits (lits_of sub3 h)]; rfl)
theorem chk_all (t : Int) (nm : List UInt8) (A B C D : Int) : AnsV 20 [.int .i64 t, insV nm A B C D (.ofNat 0)] (.int .i64 (chkE t nm A B C D)) := by
  rcases t_cases t with rfl | rfl | rfl | h
  · rcases Zbs nm tab1 with ⟨x, hx, rfl, h2⟩ | ⟨h1, h2⟩
    · rw [(some_val (t := .ofNat 1) h2 A B C D).2]; exact (Zef tab1_ok x hx).2 A B C D
    · rw [(Zcv (t := .ofNat 1) h2 A B C D).2]; exact ansC (kc1 ..) (by rw [cT_lits (lits_of sub1 h1)]; rfl)
  · rcases Zbs nm tab2 with ⟨x, hx, rfl, h2⟩ | ⟨h1, h2⟩
    · rw [(some_val (t := .ofNat 2) h2 A B C D).2]; exact (Zef tab2_ok x hx).2 A B C D
    · rw [(Zcv (t := .ofNat 2) h2 A B C D).2]; exact ansC (kc2 ..) (by rw [cT_lits (lits_of sub2 h1)]; rfl)
  · rcases Zbs nm tab3 with ⟨x, hx, rfl, h2⟩ | ⟨h1, h2⟩
    · rw [(some_val (t := .ofNat 3) h2 A B C D).2]; exact (Zef tab3_ok x hx).2 A B C D
    · rw [(Zcv (t := .ofNat 3) h2 A B C D).2]; exact chk_unk3 h1 A B C D
  · obtain ⟨h1, h2⟩ := tab_other h nm
    rw [(Zcv h1 A B C D).2, h2]
    have e1 := h.1
    have e2 := h.2.1
    have e3 := h.2.2
    simp only [Zae, decide_eq_false_iff_not, Int.ofNat_eq_natCast] at e1 e2 e3
    cases l1 : ilt t (.ofNat 1) with
    | true => exact ansC (kco1 ..) (by rw [l1]; rfl)
    | false =>
      have l3 : ilt (.ofNat 3) t = true := by
        simp only [Zah, decide_eq_false_iff_not, Int.ofNat_eq_natCast] at l1
        simp only [Zah, decide_eq_true_eq, Int.ofNat_eq_natCast]
        omega
      exact ansC (kco2 ..) (by rw [l1, l3]; rfl)
def lookS (l : List (List UInt8 × List UInt8)) (nm : List UInt8) : Option (List UInt8) := List.rec (motive := fun _ => Option (List UInt8)) none (fun x _ ih => bif leq x.1 nm then some x.2 else ih) l
theorem lookS_cases (nm : List UInt8) : ∀ l : List (List UInt8 × List UInt8), (∃ x ∈ l, x.1 = nm ∧ lookS l nm = some x.2) ∨ ((∀ x ∈ l, leq x.1 nm = false) ∧ lookS l nm = none)
  | [] => .inr ⟨fun x hx => (by cases hx), rfl⟩
  | y :: l => by
    have e : lookS (y :: l) nm = bif leq y.1 nm then some y.2 else lookS l nm := rfl
    cases h : leq y.1 nm with
    | true => exact .inl ⟨y, List.mem_cons_self, leq_t h, by rw [e, h]; rfl⟩
    | false =>
      rcases lookS_cases nm l with ⟨x, hx, h1, h2⟩ | ⟨h1, h2⟩
      · exact .inl ⟨x, List.mem_cons_of_mem _ hx, h1, by rw [e, h]; exact h2⟩
      · refine .inr ⟨fun x hx => ?_, by rw [e, h]; exact h2⟩
        rcases List.mem_cons.1 hx with rfl | hx
        · exact h
        · exact h1 x hx
def opTab (t : Int) : List (List UInt8 × List UInt8) := bif ieq t (.ofNat 2) then opT2 else bif ieq t (.ofNat 3) then opT3 else []
def osE : OsT := fun t nm => (lookS (opTab t) nm).getD []
def obE : ObT := fun t nm => (lookS (opTab t) nm).isSome
theorem onames2 : opT2.map (·.1) = Zea.map nmOf := by kernel_rfl
theorem onames3 : opT3.map (·.1) = Zdv.map nmOf ++ Zd4.map nmOf := by kernel_rfl
theorem onone {l : List (List UInt8 × List UInt8)} {ms : List (List UInt8)} {n : List UInt8} (e : l.map (·.1) = ms) (h : ∀ x ∈ l, leq x.1 n = false) : ∀ m ∈ ms, leq m n = false := by
  intro m hm
  rw [← e] at hm
  obtain ⟨x, hx, rfl⟩ := List.mem_map.1 hm
  exact h x hx
theorem ops_all (t : Int) (nm : List UInt8) (ht : ieq t (.ofNat 1) = false) : AnsV 14 [.int .i64 t, .str nm] (.tup [.str (osE t nm), .bool (obE t nm)]) := by
  rcases t_cases t with rfl | rfl | rfl | h
  · cases ht
  · unfold osE obE
    show AnsV 14 [.int .i64 (.ofNat 2), .str nm] (.tup [.str ((lookS opT2 nm).getD []), .bool (lookS opT2 nm).isSome])
    rcases lookS_cases nm opT2 with ⟨x, hx, rfl, h2⟩ | ⟨h1, h2⟩
    · rw [h2]; exact ansQ (opT2_ok x hx) rfl
    · rw [h2]; exact ansQn (kq2 ..) (by rw [Zeh nm Zea (by kernel_rfl) (onone onames2 h1)]; rfl)
  · unfold osE obE
    show AnsV 14 [.int .i64 (.ofNat 3), .str nm] (.tup [.str ((lookS opT3 nm).getD []), .bool (lookS opT3 nm).isSome])
    rcases lookS_cases nm opT3 with ⟨x, hx, rfl, h2⟩ | ⟨h1, h2⟩
    · rw [h2]; exact ansQ (opT3_ok x hx) rfl
    · rw [h2]
      have h4 := onone onames3 h1
      exact ansQn (kq3 ..) (unk3_val _ _ (Zeh nm Zd4 (by kernel_rfl) fun m hm => h4 m (List.mem_append_right _ hm)) (Zeh nm Zdv (by kernel_rfl) fun m hm => h4 m (List.mem_append_left _ hm)))
  · have e : opTab t = [] := by unfold opTab; rw [h.2.1, h.2.2]; rfl
    unfold osE obE
    rw [e]
    exact ansQ (kqo ..) (by rw [h.1, h.2.1, h.2.2]; rfl)
def r12E : EvT := fun _ nm A B C D => bif leq [109, 111, 118, 46, 114, 109] nm then rm_0 A B C D else bif leq [109, 111, 118, 108, 46, 114, 109] nm then rm_1 A B C D else bif leq [109, 111, 118, 115, 108, 46, 114, 109] nm then rm_0 A B C D else bif leq [109, 111, 118, 122, 98, 46, 114, 109] nm then rm_0 A B C D else bif leq [108, 101, 97] nm then rm_0 A B C D else bif leq [109, 111, 118, 46, 109, 114] nm then rm_0 A B C D else bif leq [109, 111, 118, 108, 46, 109, 114] nm then rm_1 A B C D else bif leq [109, 111, 118, 98, 46, 109, 114] nm then rm_0 A B C D else bif leq [97, 100, 100, 46, 114, 109] nm then rm_0 A B C D else bif leq [111, 114, 46, 114, 109] nm then rm_0 A B C D else bif leq [97, 110, 100, 46, 114, 109] nm then rm_0 A B C D else bif leq [115, 117, 98, 46, 114, 109] nm then rm_0 A B C D else bif leq [120, 111, 114, 46, 114, 109] nm then rm_0 A B C D else bif leq [99, 109, 112, 46, 114, 109] nm then rm_0 A B C D else .ofNat 0
theorem r12_all (nm : List UInt8) (hm : memB nm = true) (A B C D : Int) : AnsO 42 [insV nm A B C D (.ofNat 0)] (.tup [.opq none, .int .i64 (r12E (.ofNat 1) nm A B C D)]) := by
  obtain ⟨m, h1, h2⟩ := List.any_eq_true.1 hm
  have := leq_t h2
  subst this
  simp only [memL, List.mem_cons, List.not_mem_nil, or_false] at h1
  rcases h1 with rfl | rfl | rfl | rfl | rfl | rfl | rfl | rfl | rfl | rfl | rfl | rfl | rfl | rfl
  · exact rm_a_1_mov_rm A B C D
  · exact rm_a_1_movl_rm A B C D
  · exact rm_a_1_movsl_rm A B C D
  · exact rm_a_1_movzb_rm A B C D
  · exact rm_a_1_lea A B C D
  · exact rm_a_1_mov_mr A B C D
  · exact rm_a_1_movl_mr A B C D
  · exact rm_a_1_movb_mr A B C D
  · exact rm_a_1_add_rm A B C D
  · exact rm_a_1_or_rm A B C D
  · exact rm_a_1_and_rm A B C D
  · exact rm_a_1_sub_rm A B C D
  · exact rm_a_1_xor_rm A B C D
  · exact rm_a_1_cmp_rm A B C D
theorem encF_ok : SmOk Tryz.prog gl (Zaz (encFv encE)) := opq_okS fun f args v h => by
  unfold encFv at h
  simp only [Bool.cond_eq_ite, Nat.beq_eq] at h
  split at h
  case isFalse => cases h
  rename_i e
  subst e
  split at h
  case h_2 => cases h
  rename_i t nm A B C D I
  split at h
  case isFalse => cases h
  rename_i hI
  have := Zei hI
  subst this
  simp only [Option.some.injEq] at h
  subst h
  obtain ⟨E, n, s, pn, a1, a2, a3, a4, a5⟩ := enc_all t nm A B C D
  exact ⟨E, n, s, pn, a1, a2, a3, a4, Zac rfl, a5⟩
theorem chkF_ok : SmOk Tryz.prog gl (Zaz (chkFv chkE)) := plain_okS fun f args v h => by
  unfold chkFv at h
  simp only [Bool.cond_eq_ite, Nat.beq_eq] at h
  split at h
  case isFalse => cases h
  rename_i e
  subst e
  split at h
  case h_2 => cases h
  rename_i t nm A B C D I
  split at h
  case isFalse => cases h
  rename_i hI
  have := Zei hI
  subst this
  simp only [Option.some.injEq] at h
  subst h
  obtain ⟨E, n, s, a1, a2, a3, a4, a5⟩ := chk_all t nm A B C D
  exact ⟨E, n, s, a1, a2, a3, a4, Zac rfl, a5⟩
theorem r12F_ok : SmOk Tryz.prog gl (Zaz (r12Fv r12E)) := opq_okS fun f args v h => by
  unfold r12Fv at h
  simp only [Bool.cond_eq_ite, Nat.beq_eq] at h
  split at h
  case isFalse => cases h
  rename_i e
  subst e
  split at h
  case h_2 => cases h
  rename_i nm A B C D I
  split at h
  case isFalse => cases h
  rename_i hI
  rw [Bool.and_eq_true] at hI
  have := Zei hI.1
  subst this
  simp only [Option.some.injEq] at h
  subst h
  obtain ⟨E, n, s, pn, a1, a2, a3, a4, a5⟩ := r12_all nm hI.2 A B C D
  exact ⟨E, n, s, pn, a1, a2, a3, a4, Zac rfl, a5⟩
theorem opsF_ok : SmOk Tryz.prog gl (Zaz (opsFv osE obE)) := plain_okS fun f args v h => by
  unfold opsFv at h
  simp only [Bool.cond_eq_ite, Nat.beq_eq] at h
  split at h
  case isFalse => cases h
  rename_i e
  subst e
  split at h
  case h_2 => cases h
  rename_i t nm
  split at h
  case isTrue => cases h
  rename_i ht
  simp only [Option.some.injEq] at h
  subst h
  obtain ⟨E, n, s, a1, a2, a3, a4, a5⟩ := ops_all t nm (Bool.not_eq_true _ ▸ ht)
  exact ⟨E, n, s, a1, a2, a3, a4, Zac rfl, a5⟩
theorem ea_ok (w : World) (hw : Zay gl w) : EnvOk (Ea encE) Tryz.prog (Kept gl w) := Zb9 (by kernel_rfl) ((Zcc ext_ok).or (Zca.or (find_ok.or (fld_ok.or encF_ok)))) Zcb (fun _ _ _ h => h.1) (Zau hw).ext
theorem eo_ok (w : World) (hw : Zay gl w) : EnvOk (Eo encE osE obE) Tryz.prog (Kept gl w) := Zb9 (by kernel_rfl) ((Zcc ext_ok).or (Zca.or (encF_ok.or opsF_ok))) Zcb (fun _ _ _ h => h.1) (Zau hw).ext
theorem ern_ok (w : World) (hw : Zay gl w) : EnvOk (Ern chkE) Tryz.prog (Kept gl w) := Zb9 (by kernel_rfl) ((Zcc ext_ok).or (Zca.or (tab_ok.or chkF_ok))) Zcb (fun _ _ _ h => h.1) (Zau hw).ext
theorem erm_ok (w : World) (hw : Zay gl w) : EnvOk (Erm chkE r12E) Tryz.prog (Kept gl w) := Zb9 (by kernel_rfl) ((Zcc ext_ok).or (Zca.or (tab_ok.or (chkF_ok.or r12F_ok)))) Zcb (fun _ _ _ h => h.1) (Zau hw).ext
theorem ea_fn : ((Ea encE).fn 5).isSome = true := by kernel_rfl
theorem eo_fn : ((Eo encE osE obE).fn 5).isSome = true := by kernel_rfl
theorem ern_fn : ((Ern chkE).fn 6).isSome = true := by kernel_rfl
theorem erm_fn : ((Erm chkE r12E).fn 6).isSome = true := by kernel_rfl
section
variable {t : Int} {nm mod : List UInt8} {A B C D I : Int} {g : Option AV} {v : AV} {o : Orc}
theorem byA (h : goA encE nm A B C D I mod = g) (hv : g = some v) : AnsV 5 [.int .i64 (.ofNat 1), insV nm A B C D I, .str mod] v := ⟨Ea encE, 100000, _, Zc5 _, ea_ok, Za3, ea_fn, [], h.trans hv⟩
theorem byO (h : goO encE osE obE t nm A B C D I mod o = g) (hv : g = some v) : AnsV 5 [.int .i64 t, insV nm A B C D I, .str mod] v := ⟨Eo encE osE obE, 100000, _, sko_ok encE osE obE, eo_ok, Za3, eo_fn, o, h.trans hv⟩
theorem byR (h : goR chkE t nm A B C D I mod o = g) (hv : g = some v) : AnsV 6 [.int .i64 t, insV nm A B C D I, .str mod] v := ⟨Ern chkE, 100000, _, Zc5 _, ern_ok, Za3, ern_fn, o, h.trans hv⟩
theorem byM (h : goM chkE r12E nm A B C D I mod = g) (hv : g = some v) : AnsV 6 [.int .i64 (.ofNat 1), insV nm A B C D I, .str mod] v := ⟨Erm chkE r12E, 100000, _, Zc5 _, erm_ok, Za3, erm_fn, [], h.trans hv⟩
end
end
end Go.Proofs.YtbfdooplkdofeaaGreatDoor
