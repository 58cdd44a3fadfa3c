/- 'foundrylaw16.RelocJumps', from any input: it answers true. -/
import Derived.Test.YtpmlihmaodpmfaaGreatDoorJumpsTrue
import Derived.Test.YtpmlihmaodpmfaaGreatDoorRelBegun
import Derived.Test.YtpmlihmaodpmfaaGreatDoorVaiI
import Derived.Test.YtpmlihmaodpmfaaGreatDoorVaiE
import Derived.Test.YtpmlihmaodpmfaaGreatDoorVaiH
import Derived.Test.YtpmlihmaodpmfaaGreatDoorTie
import Derived.Test.YtpmlihmaodpmfaaGreatDoorCards
import Derived.WalkKit
import Derived.ProofKit
import Derived.Lay
import Derived.LaidOnce
import Derived.SevenTiedAt
namespace Go.Proofs.YtpmlihmaodpmfaaGreatDoor
open Go Go.Vai Go.RowKit Go.ChangeShapes Go.WideShapes Go.ChangeAt
set_option maxRecDepth 100000
theorem rnV_bool {b : Nat} {keep : List Nat} {x : AV} {c : Bool} (h : rnV b keep x = some (.bool c)) : x = .bool c := by
  cases x <;> simp only [rnV] at h <;> (try split at h) <;> simp_all
theorem ret_of_tree {E : Env} {s : Smq AV} (hs : SmqOk E s) {pn : Pin} {n f : Nat} {args : List AV} {H : AHeap} {o : Orc} (h : callPQ E s pn n (.call f args H) o jK = some (.bool true)) : ∃ H1, run E n (.call f args H) = some (.call (.ret (.bool true) H1)) := by
  obtain ⟨x, o', e, hk⟩ := callPQ_ok E hs pn n _ _ _ _ h
  cases x with
  | code a b c => cases hk
  | dcall a => cases hk
  | call c =>
    cases c with
    | pan v H => cases hk
    | ret v H1 =>
      have hk : rnV 0 [] v = some (.bool true) := hk
      rw [rnV_bool hk] at e
      exact ⟨H1, e⟩
theorem law_of {E : Env} {f n : Nat} {args : List AV} {cargs : List Value} {w : World} (hE : ∀ w, GlobOk glJ w → EnvOk E Tryz.prog (Kept glJ w)) (hg : (glJ.all fun x => Nat.blt x.1 E.ng) = true) (hf : (E.fn f).isSome = true) (hw : GlobOk glJ w) (ha : VRels (mGlob E.ng 0) args cargs) (h : ∃ H1, run E n (.call f args (gHeap E.ng glJ)) = some (.call (.ret (.bool true) H1))) : Calls Tryz.prog f cargs.toArray w fun e w' => e = .returned (.bool true) ∧ Keeps w w' := by
  obtain ⟨H1, h⟩ := h
  obtain ⟨_, b⟩ := body_closed hE hg hf ha h w hw
  refine Calls.mono (callsIn_wide.1 b) ?_
  rintro e w' ⟨cv, v, H, M, rfl, _, kp, hv, rfl, rfl⟩
  simp only [VRel] at hv
  exact ⟨by rw [hv], kp.2.1⟩
noncomputable def EJc : Env := EJ (uOf rvDN rvDA rvDB rvDC rvDD rvDI rvDS rvDE) (uOf arDN arDA arDB arDC arDD arDI arDS arDE) (absT rvFault rvWordE arFault arBitsV rlNearV rlLow12V rlLowV rlHighV rlHighNearV rlPagesV)
theorem ej_ok (w : World) (hw : GlobOk glJ w) : EnvOk EJc Tryz.prog (Kept glJ w) := envOk_sm (by kernel_rfl) ((sub_ok (smOk_ext ext_ok)).or ((sub_ok cont_ok1).or ((sub_ok rv_dec_ok).or ((sub_ok ar_dec_ok).or ((sub_ok (smOk_ret begun_ret)).or ((sub_ok findJ_ok).or ((sub_ok findK_ok).or (findL_ok.or (sub_ok abs_ok))))))))) mixed_ok (fun _ _ _ h => h.1) (kept_carried hw).ext
theorem ej_fn : (EJc.fn 4).isSome = true := by kernel_rfl
def Yes (k s p : Nat) : Prop := ∃ H1, run EJc 100000 (.call 4 [.int .i64 (.ofNat k), .int .u64 (.ofNat s), .int .u64 (.ofNat p)] (gHeap 12 glJ)) = some (.call (.ret (.bool true) H1))
theorem neg_run (k s p : Nat) : ∃ H1, run EJc 100000 (.call 4 [.int .i64 (.negSucc k), .int .u64 (.ofNat s), .int .u64 (.ofNat p)] (gHeap 12 glJ)) = some (.call (.ret (.bool true) H1)) :=
  ret_of_tree (smqP_ok EJc EJp) (pn := noPin) (o := [false, true]) (by kernel_rfl)
noncomputable def dist (s p : Nat) : Int := wrapR .i64 (wrapR .u64 (Int.sub (.ofNat s) (.ofNat p)))
theorem near_eq (s p : Nat) : rlNearV (.ofNat s) (.ofNat p) = dist s p := rfl
theorem yes_of {c k s p : Nat} {o : Orc} (h : goJ rvFault rvWordE arFault arBitsV rlNearV rlLow12V rlLowV rlHighV rlHighNearV rlPagesV rvDN arDN rvDA rvDB rvDC rvDD rvDI rvDS rvDE arDA arDB arDC arDD arDI arDS arDE c k s p o = some (.bool true)) : Yes k s p := ret_of_tree (smqP_ok EJc EJp) (pn := pinC c) (o := o) h
theorem case0 {k : Nat} (s p : Nat) (hk : Int.tmod (.ofNat k) (.ofNat 11) = .ofNat 0) : Yes k s p := by
  by_cases h1 : dist s p < -4096
  · exact yes_of ((jt0_2_eq _ _ _ _ _ _ _ _ _ _ _ _ _ _ _ _ _ _ _ _ _ _ _ _ _ _ k s p).trans (by rw [hk, near_eq]; exact jt0_2_true h1))
  by_cases h2 : 4096 ≤ dist s p
  · exact yes_of ((jt0_1_eq _ _ _ _ _ _ _ _ _ _ _ _ _ _ _ _ _ _ _ _ _ _ _ _ _ _ k s p).trans (by rw [hk, near_eq]; exact jt0_1_true h2))
  by_cases h3 : dist s p % 2 = 0
  · exact yes_of ((jt0_0_eq _ _ _ _ _ _ _ _ _ _ _ _ _ _ _ _ _ _ _ _ _ _ _ _ _ _ k s p).trans (by rw [hk, near_eq]; exact jt0_0_true (Int.not_lt.1 h1) (Int.not_le.1 h2) h3))
  · exact yes_of ((jt0_3_eq _ _ _ _ _ _ _ _ _ _ _ _ _ _ _ _ _ _ _ _ _ _ _ _ _ _ k s p).trans (by rw [hk, near_eq]; exact jt0_3_true (Int.not_lt.1 h1) (Int.not_le.1 h2) h3))
theorem case1 {k : Nat} (s p : Nat) (hk : Int.tmod (.ofNat k) (.ofNat 11) = .ofNat 1) : Yes k s p := by
  by_cases h1 : dist s p < -1048576
  · exact yes_of ((jt1_2_eq _ _ _ _ _ _ _ _ _ _ _ _ _ _ _ _ _ _ _ _ _ _ _ _ _ _ k s p).trans (by rw [hk, near_eq]; exact jt1_2_true h1))
  by_cases h2 : 1048576 ≤ dist s p
  · exact yes_of ((jt1_1_eq _ _ _ _ _ _ _ _ _ _ _ _ _ _ _ _ _ _ _ _ _ _ _ _ _ _ k s p).trans (by rw [hk, near_eq]; exact jt1_1_true h2))
  by_cases h3 : dist s p % 2 = 0
  · exact yes_of ((jt1_0_eq _ _ _ _ _ _ _ _ _ _ _ _ _ _ _ _ _ _ _ _ _ _ _ _ _ _ k s p).trans (by rw [hk, near_eq]; exact jt1_0_true (Int.not_lt.1 h1) (Int.not_le.1 h2) h3))
  · exact yes_of ((jt1_3_eq _ _ _ _ _ _ _ _ _ _ _ _ _ _ _ _ _ _ _ _ _ _ _ _ _ _ k s p).trans (by rw [hk, near_eq]; exact jt1_3_true (Int.not_lt.1 h1) (Int.not_le.1 h2) h3))
theorem case2 {k : Nat} (s p : Nat) (hk : Int.tmod (.ofNat k) (.ofNat 11) = .ofNat 2) : Yes k s p := by
  by_cases h1 : dist s p < -2048
  · exact yes_of ((jt2_4_eq _ _ _ _ _ _ _ _ _ _ _ _ _ _ _ _ _ _ _ _ _ _ _ _ _ _ k s p).trans (by rw [hk, near_eq]; exact jt2_4_true h1))
  by_cases h2 : 2048 ≤ dist s p
  · exact yes_of ((jt2_3_eq _ _ _ _ _ _ _ _ _ _ _ _ _ _ _ _ _ _ _ _ _ _ _ _ _ _ k s p).trans (by rw [hk, near_eq]; exact jt2_3_true h2))
  by_cases h3 : dist s p % 2 = 0
  · by_cases h4 : dist s p = 0
    · exact yes_of ((jt2_0_eq _ _ _ _ _ _ _ _ _ _ _ _ _ _ _ _ _ _ _ _ _ _ _ _ _ _ k s p).trans (by rw [hk, near_eq]; exact jt2_0_true h4))
    by_cases h5 : 0 < dist s p
    · exact yes_of ((jt2_1_eq _ _ _ _ _ _ _ _ _ _ _ _ _ _ _ _ _ _ _ _ _ _ _ _ _ _ k s p).trans (by rw [hk, near_eq]; exact jt2_1_true h5 (Int.not_le.1 h2) h3))
    · exact yes_of ((jt2_2_eq _ _ _ _ _ _ _ _ _ _ _ _ _ _ _ _ _ _ _ _ _ _ _ _ _ _ k s p).trans (by rw [hk, near_eq]; exact jt2_2_true (Int.not_lt.1 h1) (by omega) h3))
  by_cases h6 : dist s p = 2047
  · exact yes_of ((jt2_6_eq _ _ _ _ _ _ _ _ _ _ _ _ _ _ _ _ _ _ _ _ _ _ _ _ _ _ k s p).trans (by rw [hk, near_eq]; exact jt2_6_true h6))
  · exact yes_of ((jt2_5_eq _ _ _ _ _ _ _ _ _ _ _ _ _ _ _ _ _ _ _ _ _ _ _ _ _ _ k s p).trans (by rw [hk, near_eq]; exact jt2_5_true (Int.not_lt.1 h1) (by omega) h3))
theorem case3 {k : Nat} (s p : Nat) (hk : Int.tmod (.ofNat k) (.ofNat 11) = .ofNat 3) : Yes k s p := by
  by_cases h1 : dist s p < -256
  · exact yes_of ((jt3_4_eq _ _ _ _ _ _ _ _ _ _ _ _ _ _ _ _ _ _ _ _ _ _ _ _ _ _ k s p).trans (by rw [hk, near_eq]; exact jt3_4_true h1))
  by_cases h2 : 256 ≤ dist s p
  · exact yes_of ((jt3_3_eq _ _ _ _ _ _ _ _ _ _ _ _ _ _ _ _ _ _ _ _ _ _ _ _ _ _ k s p).trans (by rw [hk, near_eq]; exact jt3_3_true h2))
  by_cases h3 : dist s p % 2 = 0
  · by_cases h4 : dist s p = 0
    · exact yes_of ((jt3_0_eq _ _ _ _ _ _ _ _ _ _ _ _ _ _ _ _ _ _ _ _ _ _ _ _ _ _ k s p).trans (by rw [hk, near_eq]; exact jt3_0_true h4))
    by_cases h5 : 0 < dist s p
    · exact yes_of ((jt3_1_eq _ _ _ _ _ _ _ _ _ _ _ _ _ _ _ _ _ _ _ _ _ _ _ _ _ _ k s p).trans (by rw [hk, near_eq]; exact jt3_1_true h5 (Int.not_le.1 h2) h3))
    · exact yes_of ((jt3_2_eq _ _ _ _ _ _ _ _ _ _ _ _ _ _ _ _ _ _ _ _ _ _ _ _ _ _ k s p).trans (by rw [hk, near_eq]; exact jt3_2_true (Int.not_lt.1 h1) (by omega) h3))
  by_cases h6 : dist s p = 255
  · exact yes_of ((jt3_6_eq _ _ _ _ _ _ _ _ _ _ _ _ _ _ _ _ _ _ _ _ _ _ _ _ _ _ k s p).trans (by rw [hk, near_eq]; exact jt3_6_true h6))
  · exact yes_of ((jt3_5_eq _ _ _ _ _ _ _ _ _ _ _ _ _ _ _ _ _ _ _ _ _ _ _ _ _ _ k s p).trans (by rw [hk, near_eq]; exact jt3_5_true (Int.not_lt.1 h1) (by omega) h3))
theorem case4 {k : Nat} (s p : Nat) (hk : Int.tmod (.ofNat k) (.ofNat 11) = .ofNat 4) : Yes k s p := by
  by_cases h1 : dist s p < -134217728
  · exact yes_of ((jt4_2_eq _ _ _ _ _ _ _ _ _ _ _ _ _ _ _ _ _ _ _ _ _ _ _ _ _ _ k s p).trans (by rw [hk, near_eq]; exact jt4_2_true h1))
  by_cases h2 : 134217728 ≤ dist s p
  · exact yes_of ((jt4_1_eq _ _ _ _ _ _ _ _ _ _ _ _ _ _ _ _ _ _ _ _ _ _ _ _ _ _ k s p).trans (by rw [hk, near_eq]; exact jt4_1_true h2))
  by_cases h3 : dist s p % 4 = 0
  · exact yes_of ((jt4_0_eq _ _ _ _ _ _ _ _ _ _ _ _ _ _ _ _ _ _ _ _ _ _ _ _ _ _ k s p).trans (by rw [hk, near_eq]; exact jt4_0_true (Int.not_lt.1 h1) (Int.not_le.1 h2) h3))
  · exact yes_of ((jt4_3_eq _ _ _ _ _ _ _ _ _ _ _ _ _ _ _ _ _ _ _ _ _ _ _ _ _ _ k s p).trans (by rw [hk, near_eq]; exact jt4_3_true (Int.not_lt.1 h1) (Int.not_le.1 h2) h3))
theorem case5 {k : Nat} (s p : Nat) (hk : Int.tmod (.ofNat k) (.ofNat 11) = .ofNat 5) : Yes k s p := by
  by_cases h1 : dist s p < -134217728
  · exact yes_of ((jt5_2_eq _ _ _ _ _ _ _ _ _ _ _ _ _ _ _ _ _ _ _ _ _ _ _ _ _ _ k s p).trans (by rw [hk, near_eq]; exact jt5_2_true h1))
  by_cases h2 : 134217728 ≤ dist s p
  · exact yes_of ((jt5_1_eq _ _ _ _ _ _ _ _ _ _ _ _ _ _ _ _ _ _ _ _ _ _ _ _ _ _ k s p).trans (by rw [hk, near_eq]; exact jt5_1_true h2))
  by_cases h3 : dist s p % 4 = 0
  · exact yes_of ((jt5_0_eq _ _ _ _ _ _ _ _ _ _ _ _ _ _ _ _ _ _ _ _ _ _ _ _ _ _ k s p).trans (by rw [hk, near_eq]; exact jt5_0_true (Int.not_lt.1 h1) (Int.not_le.1 h2) h3))
  · exact yes_of ((jt5_3_eq _ _ _ _ _ _ _ _ _ _ _ _ _ _ _ _ _ _ _ _ _ _ _ _ _ _ k s p).trans (by rw [hk, near_eq]; exact jt5_3_true (Int.not_lt.1 h1) (Int.not_le.1 h2) h3))
theorem case6 {k : Nat} (s p : Nat) (hk : Int.tmod (.ofNat k) (.ofNat 11) = .ofNat 6) : Yes k s p := by
  by_cases h1 : dist s p < -1048576
  · exact yes_of ((jt6_2_eq _ _ _ _ _ _ _ _ _ _ _ _ _ _ _ _ _ _ _ _ _ _ _ _ _ _ k s p).trans (by rw [hk, near_eq]; exact jt6_2_true h1))
  by_cases h2 : 1048576 ≤ dist s p
  · exact yes_of ((jt6_1_eq _ _ _ _ _ _ _ _ _ _ _ _ _ _ _ _ _ _ _ _ _ _ _ _ _ _ k s p).trans (by rw [hk, near_eq]; exact jt6_1_true h2))
  by_cases h3 : dist s p % 4 = 0
  · exact yes_of ((jt6_0_eq _ _ _ _ _ _ _ _ _ _ _ _ _ _ _ _ _ _ _ _ _ _ _ _ _ _ k s p).trans (by rw [hk, near_eq]; exact jt6_0_true (Int.not_lt.1 h1) (Int.not_le.1 h2) h3))
  · exact yes_of ((jt6_3_eq _ _ _ _ _ _ _ _ _ _ _ _ _ _ _ _ _ _ _ _ _ _ _ _ _ _ k s p).trans (by rw [hk, near_eq]; exact jt6_3_true (Int.not_lt.1 h1) (Int.not_le.1 h2) h3))
theorem case7 {k : Nat} (s p : Nat) (hk : Int.tmod (.ofNat k) (.ofNat 11) = .ofNat 7) : Yes k s p := by
  by_cases h1 : dist s p < -1048576
  · exact yes_of ((jt7_2_eq _ _ _ _ _ _ _ _ _ _ _ _ _ _ _ _ _ _ _ _ _ _ _ _ _ _ k s p).trans (by rw [hk, near_eq]; exact jt7_2_true h1))
  by_cases h2 : 1048576 ≤ dist s p
  · exact yes_of ((jt7_1_eq _ _ _ _ _ _ _ _ _ _ _ _ _ _ _ _ _ _ _ _ _ _ _ _ _ _ k s p).trans (by rw [hk, near_eq]; exact jt7_1_true h2))
  by_cases h3 : dist s p % 4 = 0
  · exact yes_of ((jt7_0_eq _ _ _ _ _ _ _ _ _ _ _ _ _ _ _ _ _ _ _ _ _ _ _ _ _ _ k s p).trans (by rw [hk, near_eq]; exact jt7_0_true (Int.not_lt.1 h1) (Int.not_le.1 h2) h3))
  · exact yes_of ((jt7_3_eq _ _ _ _ _ _ _ _ _ _ _ _ _ _ _ _ _ _ _ _ _ _ _ _ _ _ k s p).trans (by rw [hk, near_eq]; exact jt7_3_true (Int.not_lt.1 h1) (Int.not_le.1 h2) h3))
theorem case8 {k : Nat} (s p : Nat) (hk : Int.tmod (.ofNat k) (.ofNat 11) = .ofNat 8) : Yes k s p := by
  by_cases h1 : dist s p < -2147483648
  · exact yes_of ((jt8_3_eq _ _ _ _ _ _ _ _ _ _ _ _ _ _ _ _ _ _ _ _ _ _ _ _ _ _ k s p).trans (by rw [hk, near_eq]; exact jt8_3_true h1))
  by_cases h2 : 2147483648 ≤ dist s p
  · exact yes_of ((jt8_2_eq _ _ _ _ _ _ _ _ _ _ _ _ _ _ _ _ _ _ _ _ _ _ _ _ _ _ k s p).trans (by rw [hk, near_eq]; exact jt8_2_true h2))
  by_cases h3 : 0 ≤ dist s p
  · exact yes_of ((jt8_0_eq _ _ _ _ _ _ _ _ _ _ _ _ _ _ _ _ _ _ _ _ _ _ _ _ _ _ k s p).trans (by rw [hk, near_eq]; exact jt8_0_true h3 (Int.not_le.1 h2)))
  · exact yes_of ((jt8_1_eq _ _ _ _ _ _ _ _ _ _ _ _ _ _ _ _ _ _ _ _ _ _ _ _ _ _ k s p).trans (by rw [hk, near_eq]; exact jt8_1_true (Int.not_lt.1 h1) (Int.not_le.1 h3)))
theorem case9 {k : Nat} (s p : Nat) (hk : Int.tmod (.ofNat k) (.ofNat 11) = .ofNat 9) : Yes k s p := by
  by_cases h1 : dist s p < -2147483648
  · exact yes_of ((jt9_3_eq _ _ _ _ _ _ _ _ _ _ _ _ _ _ _ _ _ _ _ _ _ _ _ _ _ _ k s p).trans (by rw [hk, near_eq]; exact jt9_3_true h1))
  by_cases h2 : 2147483648 ≤ dist s p
  · exact yes_of ((jt9_2_eq _ _ _ _ _ _ _ _ _ _ _ _ _ _ _ _ _ _ _ _ _ _ _ _ _ _ k s p).trans (by rw [hk, near_eq]; exact jt9_2_true h2))
  by_cases h3 : 0 ≤ dist s p
  · exact yes_of ((jt9_0_eq _ _ _ _ _ _ _ _ _ _ _ _ _ _ _ _ _ _ _ _ _ _ _ _ _ _ k s p).trans (by rw [hk, near_eq]; exact jt9_0_true h3 (Int.not_le.1 h2)))
  · exact yes_of ((jt9_1_eq _ _ _ _ _ _ _ _ _ _ _ _ _ _ _ _ _ _ _ _ _ _ _ _ _ _ k s p).trans (by rw [hk, near_eq]; exact jt9_1_true (Int.not_lt.1 h1) (Int.not_le.1 h3)))
theorem case10 {k : Nat} (s p : Nat) (hk : Int.tmod (.ofNat k) (.ofNat 11) = .ofNat 10) : Yes k s p := by
  by_cases h1 : dist s p < -2147483648
  · exact yes_of ((jt10_3_eq _ _ _ _ _ _ _ _ _ _ _ _ _ _ _ _ _ _ _ _ _ _ _ _ _ _ k s p).trans (by rw [hk, near_eq]; exact jt10_3_true h1))
  by_cases h2 : 2147483648 ≤ dist s p
  · exact yes_of ((jt10_2_eq _ _ _ _ _ _ _ _ _ _ _ _ _ _ _ _ _ _ _ _ _ _ _ _ _ _ k s p).trans (by rw [hk, near_eq]; exact jt10_2_true h2))
  by_cases h3 : 0 ≤ dist s p
  · exact yes_of ((jt10_0_eq _ _ _ _ _ _ _ _ _ _ _ _ _ _ _ _ _ _ _ _ _ _ _ _ _ _ k s p).trans (by rw [hk, near_eq]; exact jt10_0_true h3 (Int.not_le.1 h2)))
  · exact yes_of ((jt10_1_eq _ _ _ _ _ _ _ _ _ _ _ _ _ _ _ _ _ _ _ _ _ _ _ _ _ _ k s p).trans (by rw [hk, near_eq]; exact jt10_1_true (Int.not_lt.1 h1) (Int.not_le.1 h3)))
theorem jumps_run (k : Int) (s p : Nat) : ∃ H1, run EJc 100000 (.call 4 [.int .i64 k, .int .u64 (.ofNat s), .int .u64 (.ofNat p)] (gHeap 12 glJ)) = some (.call (.ret (.bool true) H1)) := by
  cases k with
  | negSucc k => exact neg_run k s p
  | ofNat k =>
    have e : Int.tmod (.ofNat k) (.ofNat 11) = .ofNat (k % 11) := tmod_nat _ _
    have h : k % 11 < 11 := Nat.mod_lt _ (by decide)
    generalize k % 11 = m at e h
    match m, h, e with
    | 0, _, e => exact case0 s p e
    | 1, _, e => exact case1 s p e
    | 2, _, e => exact case2 s p e
    | 3, _, e => exact case3 s p e
    | 4, _, e => exact case4 s p e
    | 5, _, e => exact case5 s p e
    | 6, _, e => exact case6 s p e
    | 7, _, e => exact case7 s p e
    | 8, _, e => exact case8 s p e
    | 9, _, e => exact case9 s p e
    | 10, _, e => exact case10 s p e
    | m + 11, h, _ => exact absurd h (by omega)
theorem jumps_calls {w : World} (hw : GlobOk glJ w) (k : Int) (s p : Nat) : Calls Tryz.prog 4 #[.int .i64 k, .int .u64 (.ofNat s), .int .u64 (.ofNat p)] w fun e w' => e = .returned (.bool true) ∧ Keeps w w' :=
  law_of (E := EJc) (n := 100000) (cargs := [.int .i64 k, .int .u64 (.ofNat s), .int .u64 (.ofNat p)]) (args := [.int .i64 k, .int .u64 (.ofNat s), .int .u64 (.ofNat p)]) ej_ok glJ_ok ej_fn hw ⟨rfl, rfl, rfl, trivial⟩ (jumps_run k s p)
theorem own : ownKnob Tryz.prog.godebug = none := by kernel_rfl
theorem laidOut : laidOutB Tryz.prog = true := by kernel_rfl
theorem maxlen_row : ((begin Tryz.prog (fun _ _ => 0) default).world.heap[0]?).bind Obj.row? = some (#[.int .i64 0], 3) := by kernel_rfl
theorem relocJumps_plain : (Rows.relocJumpsRow.laid.all fun x => x.2.handleName?.isNone) = true := by kernel_rfl
theorem asc_cells : cellsD Tryz.prog 3 236 Rows.laid_strings_asciiSpace = some ascL := by kernel_rfl
theorem asc_name : Tryz.prog.globalNamed "strings.asciiSpace" = some 1 := by kernel_rfl
theorem asc_type : (Tryz.prog.globals[1]?).map (·.type) = some 236 := by kernel_rfl
theorem err_name : Tryz.prog.globalNamed "strconv.ErrSyntax" = some 4 := by kernel_rfl
theorem err_type : (Tryz.prog.globals[4]?).map (·.type) = some 203 := by kernel_rfl
theorem rng_name : Tryz.prog.globalNamed "strconv.ErrRange" = some 5 := by kernel_rfl
theorem rng_type : (Tryz.prog.globals[5]?).map (·.type) = some 203 := by kernel_rfl
theorem err_iface : Tryz.prog.underlying 203 = some (.interface #[("Error", 227)]) := by kernel_rfl
theorem asc_mem : ("strings.asciiSpace", (Rows.laid_strings_asciiSpace : DataW Unit)) ∈ Rows.relocJumpsRow.laid := (.tail _ (.tail _ (.tail _ (.tail _ (.tail _ (.tail _ (.tail _ (.head _))))))))
theorem err_mem : ("strconv.ErrSyntax", (Rows.laid_strconv_ErrSyntax : DataW Unit)) ∈ Rows.relocJumpsRow.laid := (.tail _ (.tail _ (.tail _ (.tail _ (.tail _ (.head _))))))
theorem rng_mem : ("strconv.ErrRange", (Rows.laid_strconv_ErrRange : DataW Unit)) ∈ Rows.relocJumpsRow.laid := (.tail _ (.tail _ (.tail _ (.tail _ (.head _)))))
theorem glob_of {W : World} (h : W.ShapedOpen Tryz.prog) (hl : laidMetH Tryz.prog Rows.relocJumpsRow.laid W) : GlobOk glJ W := by
  intro g av hm
  rcases List.mem_cons.1 hm with hm | hm
  · have e2 : g = 1 := congrArg Prod.fst hm
    have e3 : av = ascL := congrArg Prod.snd hm
    rw [e2, e3]
    obtain ⟨cs, e, lo, hi, a1, a2⟩ := laid_cells hl relocJumps_plain asc_mem asc_name asc_type asc_cells
    exact ⟨cs, e, lo, hi, a1, a2⟩
  rcases List.mem_cons.1 hm with hm | hm
  · have e2 : g = 4 := congrArg Prod.fst hm
    have e3 : av = [.opq none] := congrArg Prod.snd hm
    rw [e2, e3]
    obtain ⟨cs, e, lo, hi, a1, a2⟩ := laid_opq hl relocJumps_plain err_mem err_name err_type err_iface
    exact ⟨cs, e, lo, hi, a1, a2⟩
  rcases List.mem_cons.1 hm with hm | hm
  · have e2 : g = 5 := congrArg Prod.fst hm
    have e3 : av = [.opq none] := congrArg Prod.snd hm
    rw [e2, e3]
    obtain ⟨cs, e, lo, hi, a1, a2⟩ := laid_opq hl relocJumps_plain rng_mem rng_name rng_type err_iface
    exact ⟨cs, e, lo, hi, a1, a2⟩
  have e1 : (g, av) = (0, [.opq (some .i64)]) := List.mem_singleton.1 hm
  have e2 : g = 0 := congrArg Prod.fst e1
  have e3 : av = [.opq (some .i64)] := congrArg Prod.snd e1
  rw [e2, e3]
  exact glob_some h (by decide) maxlen_row rfl (lays144.s1_3 W h)
theorem u64_nat {x : Int} (h : (Lit.int .u64 x).wf = true) : ∃ n : Nat, x = .ofNat n := by
  have h : (decide (IntKind.u64.min ≤ x) && decide (x ≤ IntKind.u64.max)) = true := h
  rw [Bool.and_eq_true, decide_eq_true_iff, decide_eq_true_iff] at h
  have h1 : (0 : Int) ≤ x := h.1
  exact ⟨x.toNat, by show x = (x.toNat : Int); omega⟩
theorem relocJumps_params : (Tryz.f4.params.toList.all fun t => Tryz.prog.readableRec t && decide (t < Tryz.prog.types.size)) = true := by kernel_rfl
theorem relocJumps_lifted (os : Os) (started : os.Started) (H : Type) (enc : TypeId × Value → H) :
    ReturnsInHanded {} Tryz.checked os 4 .any (fun w args => (Rows.relocJumpsSpec.pre enc Tryz.prog Tryz.f4 [] false w args ∧ laidMetH Tryz.prog Rows.relocJumpsRow.laid w) ∧ sizedMet enc Tryz.prog Tryz.f4 (OpenSpec.ofChange Rows.relocJumpsSpec) false w args)
      (Rows.relocJumpsSpec.post enc Tryz.prog Tryz.f4 false true false false) := by
  refine handed_shaped_and (C := Tryz.checked) (X := fun w _ => laidMetH Tryz.prog Rows.relocJumpsRow.laid w) (fun _ _ _ hh h => h.of_heap hh) own started (by kernel_rfl) Tryz.func4
    (ChangeSpec.witness_shaped (enc := enc) (C := Tryz.checked) (os := os) (X := fun w _ => laidMetH Tryz.prog Rows.relocJumpsRow.laid w) false (World.laidAll Tryz.prog os Rows.relocJumpsRow.laid) #[.int .i64 0, .int .u64 0, .int .u64 0] 8 (World.laidAll_os _ _ _)
      (World.shaped_of_ZipB (by kernel_rfl) (by kernel_rfl)) (by kernel_rfl) (by kernel_rfl) (by kernel_rfl)
      (by rw [MakeChecks.laidMetH_plain _ _ _ relocJumps_plain]; exact laidMet_laidAll _ (by kernel_rfl) (by kernel_rfl))) ?_
  intro W base args ds gs before hval0 hW _ _ hL hsh _
  have hval : ∀ (j : Nat) t v, Tryz.f4.params[j]? = some t → args[j]? = some v → Value.okWide Tryz.prog W .any base t v := hval0
  have hW' := hW
  obtain ⟨p, q, hA0, hV, rfl, _, _⟩ := hW
  have hA : DataW.TrodAll enc Tryz.prog W 0 (fun _ => true) true Tryz.f4.params.toList args.toList ds p := hA0
  rw [Tryz.params4] at hA hval
  obtain ⟨v0, v1, v2, d0, d1, d2, p0, p1, p2, rfl, rfl, rfl, h0, h1, h2⟩ := trodAll_three hA
  obtain ⟨rfl, rfl⟩ := trodVars_none hV
  obtain ⟨c, rfl, _, _, _⟩ := open_int Tryz.underlying3 (hval 0 3 v0 rfl rfl) h0
  obtain ⟨a, rfl, _, _, wa⟩ := open_int Tryz.underlying22 (hval 1 22 v1 rfl rfl) h1
  obtain ⟨b, rfl, _, _, wb⟩ := open_int Tryz.underlying22 (hval 2 22 v2 rfl rfl) h2
  obtain ⟨s, rfl⟩ := u64_nat wa
  obtain ⟨p, rfl⟩ := u64_nat wb
  refine (jumps_calls (glob_of hsh hL) c s p).mono fun e W' ⟨he, hk⟩ => ?_
  subst he
  exact ⟨_, rfl, law_post laidOut relocJumps_params rfl Tryz.underlying4 rfl ⟨rfl, by simp [Rows.relocJumpsSpec], rfl⟩ hW' hk.below⟩
end Go.Proofs.YtpmlihmaodpmfaaGreatDoor
