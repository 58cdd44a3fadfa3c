/- isa.Encode and isa.Text, summed up for all instructions. -/
import Derived.Test.YtlclahpapabkdaaGreatDoorTxTab
import Derived.Test.YtlclahpapabkdaaGreatDoorTxName
import Derived.KernelRfl
namespace Go.Proofs.YtlclahpapabkdaaGreatDoor
open Go Go.Vai
noncomputable section
set_option maxRecDepth 100000
def encL : List Ent → List UInt8 → Fn5
  | [], _ => fun _ _ _ _ _ => .ofNat 7
  | x :: l, nm => bif leq x.1 nm then x.2.2 else encL l nm
def clsL : List Ent → List UInt8 → Nat
  | [], _ => 999
  | x :: l, nm => bif leq x.1 nm then x.2.1 else clsL l nm
theorem leq_t {a b : List UInt8} (h : leq a b = true) : a = b := by rw [leq_iff, decide_eq_true_iff] at h; exact h
theorem l_cases (nm : List UInt8) : ∀ l : List Ent, (∃ x ∈ l, x.1 = nm ∧ encL l nm = x.2.2 ∧ clsL l nm = x.2.1) ∨ ((∀ x ∈ l, leq x.1 nm = false) ∧ encL l nm = fun _ _ _ _ _ => .ofNat 7)
  | [] => .inr ⟨fun x hx => (by cases hx), rfl⟩
  | y :: l => by
    cases h : leq y.1 nm with
    | true => exact .inl ⟨y, List.mem_cons_self, leq_t h, by simp only [encL, h, cond_true], by simp only [clsL, h, cond_true]⟩
    | false =>
      rcases l_cases nm l with ⟨x, hx, h1, h2, h3⟩ | ⟨h1, h2⟩
      · exact .inl ⟨x, List.mem_cons_of_mem _ hx, h1, by simp only [encL, h, cond_false]; exact h2, by simp only [clsL, h, cond_false]; exact h3⟩
      · refine .inr ⟨fun x hx => ?_, by simp only [encL, h, cond_false]; exact h2⟩
        rcases List.mem_cons.1 hx with rfl | hx
        · exact h
        · exact h1 x hx
def encE : EvT := fun t nm A B C D I => bif ieq t (.ofNat 1) then encL tab1 nm A B C D I else bif ieq t (.ofNat 2) then encL tab2 nm A B C D I else bif ieq t (.ofNat 3) then encL tab3 nm A B C D I else .ofNat 11
def clsE (t : Int) (nm : List UInt8) : Nat := bif ieq t (.ofNat 1) then clsL tab1 nm else bif ieq t (.ofNat 2) then clsL tab2 nm else clsL tab3 nm
def tabE (t : Int) : List Ent := bif ieq t (.ofNat 1) then tab1 else bif ieq t (.ofNat 2) then tab2 else tab3
def headed : List (List AV) → Bool
  | [] => true
  | (.str _ :: _) :: l => headed l
  | _ :: _ => false
theorem notIn_of (n : List UInt8) (l : List (List AV)) : headed l = true → (∀ m ∈ l.map nmOf, leq m n = false) → notIn n l = true := by
  induction l with
  | nil => intro _ _; rfl
  | cons x l ih =>
    intro h hm
    cases x with
    | nil => cases h
    | cons a r =>
      cases a with
      | str m =>
        have h1 : leq m n = false := hm m List.mem_cons_self
        show (!(leq m n) && notIn n l) = true
        rw [h1, ih h fun k hk => hm k (List.mem_cons_of_mem _ hk)]; rfl
      | _ => cases h
theorem names1 : tab1.map (·.1) = amRows.map nmOf := by kernel_rfl
theorem names2 : tab2.map (·.1) = arRows.map nmOf := by kernel_rfl
theorem names3 : tab3.map (·.1) = rvRows.map nmOf ++ coRows.map nmOf := by kernel_rfl
theorem none_of {l : List Ent} {ms : List (List UInt8)} {n : List UInt8} (e : l.map (·.1) = ms) (h : ∀ x ∈ l, leq x.1 n = false) : ∀ m ∈ ms, leq m n = false := by
  intro m hm
  rw [← e] at hm
  obtain ⟨x, hx, rfl⟩ := List.mem_map.1 hm
  exact h x hx
theorem enc_all (t : Int) (nm : List UInt8) (A B C D I : Int) : Ans9 t nm A B C D I (encE t nm A B C D I) := by
  unfold encE
  cases h1 : ieq t (.ofNat 1) with
  | true =>
    have := ieq_t h1; subst this
    rw [cond_true]
    rcases l_cases nm tab1 with ⟨x, hx, rfl, h2, _⟩ | ⟨h2, h3⟩
    · rw [h2]; exact (allR_mem tab1_ok x hx).1 A B C D I
    · rw [h3]; exact ansN (unk1_run ..) (by rw [notIn_of nm amRows (by kernel_rfl) (none_of names1 h2)]; rfl)
  | false =>
  rw [cond_false]
  cases h2 : ieq t (.ofNat 2) with
  | true =>
    have := ieq_t h2; subst this
    rw [cond_true]
    rcases l_cases nm tab2 with ⟨x, hx, rfl, h2, _⟩ | ⟨h2, h3⟩
    · rw [h2]; exact (allR_mem tab2_ok x hx).1 A B C D I
    · rw [h3]; exact ansN (unk2_run ..) (by rw [notIn_of nm arRows (by kernel_rfl) (none_of names2 h2)]; rfl)
  | false =>
  rw [cond_false]
  cases h3 : ieq t (.ofNat 3) with
  | true =>
    have := ieq_t h3; subst this
    rw [cond_true]
    rcases l_cases nm tab3 with ⟨x, hx, rfl, h2, _⟩ | ⟨h2, h3⟩
    · rw [h2]; exact (allR_mem tab3_ok x hx).1 A B C D I
    · rw [h3]
      have h4 := none_of names3 h2
      exact ansN (unk3_run ..) (unk3_val nm (notIn_of nm coRows (by kernel_rfl) fun m hm => h4 m (List.mem_append_right _ hm)) (notIn_of nm rvRows (by kernel_rfl) fun m hm => h4 m (List.mem_append_left _ hm)))
  | false =>
  rw [cond_false]
  exact ans3 (other_run ..) (by rw [h1, h2, h3]; rfl)
theorem encF_ok : SmOk Tryz.prog gl (plainSm (encFv encE)) := opq_okS fun f args v h => by
  unfold encFv at h
  simp only [Bool.cond_eq_ite, Nat.beq_eq] at h
  split at h
  case isFalse => cases h
  rename_i e
  subst e
  split at h
  case h_2 => cases h
  rename_i t nm A B C D I
  simp only [Option.some.injEq] at h
  subst h
  obtain ⟨E, n, s, pn, a1, a2, a3, a4, a5⟩ := enc_all t nm A B C D I
  exact ⟨E, n, s, pn, a1, a2, a3, a4, plain_list rfl, a5⟩
def nvC (t n : Int) : List UInt8 := bif ieq t (.ofNat 1) then nm1 n else bif ieq t (.ofNat 2) then nm2 n else nm3 n
theorem nvC1 (n : Int) : nvC (.ofNat 1) n = nm1 n := rfl
theorem nvC2 (n : Int) : nvC (.ofNat 2) n = nm2 n := rfl
theorem nvC3 (n : Int) : nvC (.ofNat 3) n = nm3 n := rfl
theorem nm1_len (n : Int) : (nm1 n).length ≤ 30 := by unfold nm1; repeat (first | apply le_bc | decide)
theorem nm2_len (n : Int) : (nm2 n).length ≤ 30 := by unfold nm2; repeat (first | apply le_bc | decide)
theorem nm3_len (n : Int) : (nm3 n).length ≤ 30 := by unfold nm3; repeat (first | apply le_bc | decide)
theorem nvC_ok : NvOk nvC := fun t n => by
  unfold nvC
  cases ieq t (.ofNat 1) with
  | true => exact nm1_len n
  | false => cases ieq t (.ofNat 2) with
    | true => exact nm2_len n
    | false => exact nm3_len n
theorem plain_le {F G : Nat → List AV → Option AV} (h : ∀ f args v, F f args = some v → G f args = some v) {P : Program} {gl : List (Nat × List AV)} (hG : SmOk P gl (plainSm G)) : SmOk P gl (plainSm F) := by
  intro f args H v H' M w cargs hs
  refine hG f args H v H' M w cargs ?_
  unfold plainSm at hs ⊢
  cases hF : F f args with
  | none => rw [hF] at hs; cases hs
  | some u => rw [hF] at hs; rw [h f args u hF]; exact hs
theorem nameF_ok : SmOk Tryz.prog gl (plainSm (nameFv nvC)) := plain_le (fun f args v h => by
  unfold nameFv at h
  unfold nameF
  cases hf : Nat.beq f 13 with
  | false => rw [hf] at h; cases h
  | true =>
    rw [hf] at h
    simp only [cond_true] at h ⊢
    split at h
    case h_2 => cases h
    rename_i t n
    simp only
    unfold inT nvC at h
    cases h1 : ieq t (.ofNat 1) with
    | true => rw [h1] at h; exact h
    | false =>
      rw [h1] at h
      cases h2 : ieq t (.ofNat 2) with
      | true => rw [h2] at h; exact h
      | false =>
        rw [h2] at h
        cases h3 : ieq t (.ofNat 3) with
        | true => rw [h3] at h; exact h
        | false => rw [h3] at h; cases h) name_ok
theorem e4_ok (w : World) (hw : GlobOk gl w) : EnvOk (E4 encE nvC) Tryz.prog (Kept gl w) := envOk_sm (by kernel_rfl) ((smOk_ext ext_ok).or (cont_ok1.or (find_ok.or (encF_ok.or (nameF_ok.or (itoa_ok1.or (fmt_ok1.or (join_ok1.or fld_ok)))))))) mixed_ok (fun _ _ _ h => h.1) (kept_carried hw).ext
theorem txG_run (ev : EvT) (nv : Int → Int → List UInt8) (t : Int) (nm : List UInt8) (A B C D I : Int) : callPS (E4 ev nv) (SK4 ev nv) noPin 100000 (.call 5 [.int .i64 t, insV nm A B C D I] (gHeap 12 gl)) [true] jK = bc (!(ieq (ev t nm A B C D I) (.ofNat 0))) (some (.tup [.str [], .int .i64 (ev t nm A B C D I)])) none := by kernel_rfl
theorem enc_zero {t : Int} {nm : List UInt8} {A B C D I : Int} (h : encE t nm A B C D I = 0) : okC (clsE t nm) A B C D I ∧ RowT t nm (clsE t nm) ∧ ∃ x ∈ tabE t, x.1 = nm := by
  unfold encE at h
  unfold clsE tabE
  cases h1 : ieq t (.ofNat 1) with
  | true =>
    have := ieq_t h1; subst this
    rw [h1, cond_true] at h
    simp only [cond_true]
    rcases l_cases nm tab1 with ⟨x, hx, rfl, h2, h3⟩ | ⟨h2, h3⟩
    · rw [h2] at h
      rw [h3]
      obtain ⟨_, r2, r3⟩ := allR_mem tab1_ok x hx
      exact ⟨r2 _ _ _ _ _ h, r3, x, hx, rfl⟩
    · rw [h3] at h; cases h
  | false =>
  rw [h1, cond_false] at h
  simp only [cond_false]
  cases h2 : ieq t (.ofNat 2) with
  | true =>
    have := ieq_t h2; subst this
    rw [h2, cond_true] at h
    simp only [cond_true]
    rcases l_cases nm tab2 with ⟨x, hx, rfl, h2, h3⟩ | ⟨h2, h3⟩
    · rw [h2] at h
      rw [h3]
      obtain ⟨_, r2, r3⟩ := allR_mem tab2_ok x hx
      exact ⟨r2 _ _ _ _ _ h, r3, x, hx, rfl⟩
    · rw [h3] at h; cases h
  | false =>
  rw [h2, cond_false] at h
  simp only [cond_false]
  cases h3 : ieq t (.ofNat 3) with
  | true =>
    have := ieq_t h3; subst this
    rw [h3, cond_true] at h
    rcases l_cases nm tab3 with ⟨x, hx, rfl, h2, h3⟩ | ⟨h2, h3⟩
    · rw [h2] at h
      rw [h3]
      obtain ⟨_, r2, r3⟩ := allR_mem tab3_ok x hx
      exact ⟨r2 _ _ _ _ _ h, r3, x, hx, rfl⟩
    · rw [h3] at h; cases h
  | false => rw [h3, cond_false] at h; cases h
def tvE (t : Int) (nm : List UInt8) (A B C D I : Int) : List UInt8 := bc (ieq (encE t nm A B C D I) (.ofNat 0)) (txOf nm (ptC nvC (clsE t nm) A B C D I)) []
theorem e4_fn : ((E4 encE nvC).fn 5).isSome = true := by kernel_rfl
theorem text_ans (t : Int) (nm : List UInt8) {A B C D I : Int} (hr : rng A B C D I = true) : ∃ o, callPS (E4 encE nvC) (SK4 encE nvC) noPin 100000 (.call 5 [.int .i64 t, insV nm A B C D I] (gHeap 12 gl)) o jK = some (.tup [.str (tvE t nm A B C D I), .int .i64 (encE t nm A B C D I)]) := by
  unfold tvE
  cases h : ieq (encE t nm A B C D I) (.ofNat 0) with
  | true =>
    have h0 : encE t nm A B C D I = 0 := ieq_t h
    obtain ⟨h1, h2, _⟩ := enc_zero h0
    obtain ⟨o, h3⟩ := h2 encE nvC nvC_ok A B C D I hr h1
    refine ⟨o, h3.trans ?_⟩
    unfold txE
    rw [h, bc_true, h0]; rfl
  | false => exact ⟨[true], (txG_run ..).trans (by rw [h]; rfl)⟩
abbrev TvT := Int → List UInt8 → Int → Int → Int → Int → Int → List UInt8
def textFv (ev : EvT) (tv : TvT) : Nat → List AV → Option AV := fun f args => bif Nat.beq f 5 then (match args with
  | [.int .i64 t, .agg [.str nm, .int .i64 A, .int .i64 B, .int .i64 C, .int .i64 D, .int .i64 I]] => bif rng A B C D I then some (.tup [.str (tv t nm A B C D I), .int .i64 (ev t nm A B C D I)]) else none
  | _ => none) else none
theorem textF_ok : SmOk Tryz.prog gl (plainSm (textFv encE tvE)) := plain_okS fun f args v h => by
  unfold textFv at h
  simp only [Bool.cond_eq_ite, Nat.beq_eq] at h
  split at h
  case isFalse => cases h
  rename_i e
  subst e
  split at h
  case h_2 => cases h
  rename_i t nm A B C D I
  split at h
  case isFalse => cases h
  rename_i hr
  simp only [Option.some.injEq] at h
  subst h
  exact ⟨E4 encE nvC, 100000, _, sk4_ok encE nvC, e4_ok, gl_ok, e4_fn, plain_list rfl, text_ans t nm hr⟩
end
end Go.Proofs.YtlclahpapabkdaaGreatDoor
