/- lex.run: how many bytes at the front are such. -/
import Derived.Test.YtafpmnccoogojaaGreatDoorLxCls
import Derived.Test.YtafpmnccoogojaaGreatDoorVaiLoop
import Derived.KernelRfl
namespace Go.Proofs.YtafpmnccoogojaaGreatDoor
open Go Go.Vai
noncomputable section
set_option maxRecDepth 100000
def cI (c : UInt8) : Int := .ofNat c.toNat
def goP (c : UInt8) : Bool := cGoB (cI c)
def hexP (c : UInt8) : Bool := cHexB (cI c)
def digP (c : UInt8) : Bool := cDigB (cI c)
def fn36 : AFunc := (EL1.fn 36).getD default
theorem fn36_eq : EL1.fn 36 = some fn36 := by kernel_rfl
theorem fn36_flat : flat fn36.body = (flat fn36.body).take 2 ++ .block 0 (.loop (codeAt [2, 0] fn36.body)) :: (flat fn36.body).drop 3 := by kernel_rfl
theorem fn36_res : fn36.results = [.tmp 4] := by kernel_rfl
theorem rows0 {keep : List Nat} : ∀ (j : Nat) (o o2 : AObj), ([] : List AObj)[j]? = some o → ([] : List AObj)[j]? = some o2 → RObj 0 keep o o2 := fun j o o2 h => by simp at h
theorem rnGo0_eq (s : List UInt8) : codesKK EL1 (callKK EL1 3) ((flat fn36.body).take 2) (leafK 12 [0, 1, 5] [0, 1, 2, 3, 4, 5, 6, 7, 8, 9, 10, 11]) (newFr fn36 [.str s, .fn 37 [] []]) (mkH 12 []) = lf .normal 20 ([.str s, .fn 37 [] [], .int .i64 (.ofNat 0)].map some) ([].map some) := by kernel_rfl
theorem rnGo1_eq (s : List UInt8) (j : Nat) : codesKK EL1 (callKK EL1 3) (flat (codeAt [2, 0] fn36.body)) (leafK 12 [0, 1, 5] [0, 1, 2, 3, 4, 5, 6, 7, 8, 9, 10, 11]) (mkFr 20 [0, 1, 5] [.str s, .fn 37 [] [], .int .i64 (.ofNat j)]) (mkH 12 []) = bc (Nat.blt j (lenU s)) (bc (Nat.blt j (lenU s)) (bc (cGoB (.ofNat (UInt8.toNat (byteAt s j)))) (lf .normal 20 ([.str s, .fn 37 [] [], .int .i64 (up j)].map some) ([].map some)) (lf (.exit 0) 20 ([.str s, .fn 37 [] [], .int .i64 (.ofNat j)].map some) ([].map some))) (none)) (lf (.exit 0) 20 ([.str s, .fn 37 [] [], .int .i64 (.ofNat j)].map some) ([].map some)) := by kernel_rfl
theorem rnGo2_eq (s : List UInt8) (j : Nat) : codesKK EL1 (callKK EL1 3) ((flat fn36.body).drop 3) (leafK 12 [4] [0, 1, 2, 3, 4, 5, 6, 7, 8, 9, 10, 11]) (mkFr 20 [0, 1, 5] [.str s, .fn 37 [] [], .int .i64 (.ofNat j)]) (mkH 12 []) = lf .ret 20 ([.int .i64 (.ofNat j)].map some) ([].map some) := by kernel_rfl
theorem rnHex0_eq (s : List UInt8) : codesKK EL1 (callKK EL1 3) ((flat fn36.body).take 2) (leafK 12 [0, 1, 5] [0, 1, 2, 3, 4, 5, 6, 7, 8, 9, 10, 11]) (newFr fn36 [.str s, .fn 60 [] []]) (mkH 12 []) = lf .normal 20 ([.str s, .fn 60 [] [], .int .i64 (.ofNat 0)].map some) ([].map some) := by kernel_rfl
theorem rnHex1_eq (s : List UInt8) (j : Nat) : codesKK EL1 (callKK EL1 3) (flat (codeAt [2, 0] fn36.body)) (leafK 12 [0, 1, 5] [0, 1, 2, 3, 4, 5, 6, 7, 8, 9, 10, 11]) (mkFr 20 [0, 1, 5] [.str s, .fn 60 [] [], .int .i64 (.ofNat j)]) (mkH 12 []) = bc (Nat.blt j (lenU s)) (bc (Nat.blt j (lenU s)) (bc (cHexB (.ofNat (UInt8.toNat (byteAt s j)))) (lf .normal 20 ([.str s, .fn 60 [] [], .int .i64 (up j)].map some) ([].map some)) (lf (.exit 0) 20 ([.str s, .fn 60 [] [], .int .i64 (.ofNat j)].map some) ([].map some))) (none)) (lf (.exit 0) 20 ([.str s, .fn 60 [] [], .int .i64 (.ofNat j)].map some) ([].map some)) := by kernel_rfl
theorem rnHex2_eq (s : List UInt8) (j : Nat) : codesKK EL1 (callKK EL1 3) ((flat fn36.body).drop 3) (leafK 12 [4] [0, 1, 2, 3, 4, 5, 6, 7, 8, 9, 10, 11]) (mkFr 20 [0, 1, 5] [.str s, .fn 60 [] [], .int .i64 (.ofNat j)]) (mkH 12 []) = lf .ret 20 ([.int .i64 (.ofNat j)].map some) ([].map some) := by kernel_rfl
theorem rnDig0_eq (s : List UInt8) : codesKK EL1 (callKK EL1 3) ((flat fn36.body).take 2) (leafK 12 [0, 1, 5] [0, 1, 2, 3, 4, 5, 6, 7, 8, 9, 10, 11]) (newFr fn36 [.str s, .fn 38 [] []]) (mkH 12 []) = lf .normal 20 ([.str s, .fn 38 [] [], .int .i64 (.ofNat 0)].map some) ([].map some) := by kernel_rfl
theorem rnDig1_eq (s : List UInt8) (j : Nat) : codesKK EL1 (callKK EL1 3) (flat (codeAt [2, 0] fn36.body)) (leafK 12 [0, 1, 5] [0, 1, 2, 3, 4, 5, 6, 7, 8, 9, 10, 11]) (mkFr 20 [0, 1, 5] [.str s, .fn 38 [] [], .int .i64 (.ofNat j)]) (mkH 12 []) = bc (Nat.blt j (lenU s)) (bc (Nat.blt j (lenU s)) (bc (cDigB (.ofNat (UInt8.toNat (byteAt s j)))) (lf .normal 20 ([.str s, .fn 38 [] [], .int .i64 (up j)].map some) ([].map some)) (lf (.exit 0) 20 ([.str s, .fn 38 [] [], .int .i64 (.ofNat j)].map some) ([].map some))) (none)) (lf (.exit 0) 20 ([.str s, .fn 38 [] [], .int .i64 (.ofNat j)].map some) ([].map some)) := by kernel_rfl
theorem rnDig2_eq (s : List UInt8) (j : Nat) : codesKK EL1 (callKK EL1 3) ((flat fn36.body).drop 3) (leafK 12 [4] [0, 1, 2, 3, 4, 5, 6, 7, 8, 9, 10, 11]) (mkFr 20 [0, 1, 5] [.str s, .fn 38 [] [], .int .i64 (.ofNat j)]) (mkH 12 []) = lf .ret 20 ([.int .i64 (.ofNat j)].map some) ([].map some) := by kernel_rfl
section
variable {P : Program} {I : List MEnt → AHeap → World → Prop} {ro : Option Nat}
theorem rnGo_tri (hE : EnvOk EL1 P I) (hI : Carried I) {s : List UInt8} (hs : s.length < 4294967296) : Tri EL1 P I ro fn36.body (newFr fn36 [.str s, .fn 37 [] []]) (mkH 12 []) fun e fr H => (e = .normal ∨ e = .ret) ∧ fr.df = [] ∧ ∃ l, resA EL1 fr.t H fn36.results = some l ∧ weak2 (resV l) = .int .i64 (.ofNat (runL goP s)) := by
  have hl : lenU s = s.length := rfl
  refine tri_of_triL _ ?_
  rw [fn36_flat]
  refine TriL.leafX hE hI (rnGo0_eq s) (by decide) rfl rfl rows0 (.inl ⟨rfl, ?_⟩)
  refine Tri.mono (Tri.block (Q := fun e fr H => e = .normal ∧ Ren 12 [0, 1, 2, 3, 4, 5, 6, 7, 8, 9, 10, 11] fr H (mkFr 20 [0, 1, 5] [.str s, .fn 37 [] [], .int .i64 (.ofNat (runL goP s))]) (mkH 12 [])) (Tri.loop (X := Nat) (fr := fun j => mkFr 20 [0, 1, 5] [.str s, .fn 37 [] [], .int .i64 (.ofNat j)]) (H := fun _ => mkH 12 []) (Inv := fun j => j ≤ runL goP s) (fun j => s.length - j) hI ?_ 0 (Nat.zero_le _))) ?_
  · intro j hj
    have hle := runL_le goP s
    refine tri_of_triL _ ?_
    have e := rnGo1_eq s j
    by_cases h : j < runL goP s
    · rw [blt_t (show j < lenU s by omega), show cGoB (.ofNat (UInt8.toNat (byteAt s j))) = true from runL_lt (p := goP) h, bc_true, bc_true, bc_true, up_eq (by omega)] at e
      exact TriL.leafE hE e (by decide) rfl rfl rows0 fun fr' H' r => .inl ⟨rfl, j + 1, _, h, by omega, r⟩
    · obtain rfl : j = runL goP s := by omega
      by_cases h2 : runL goP s < s.length
      · rw [blt_t (show runL goP s < lenU s by omega), show cGoB (.ofNat (UInt8.toNat (byteAt s (runL goP s)))) = false from runL_end (p := goP) h2, bc_true, bc_true, bc_false] at e
        exact TriL.leafE hE e (by decide) rfl rfl rows0 fun fr' H' r => .inr ⟨(by intro h; cases h), rfl, r⟩
      · rw [blt_f (show ¬ runL goP s < lenU s by omega), bc_false] at e
        exact TriL.leafE hE e (by decide) rfl rfl rows0 fun fr' H' r => .inr ⟨(by intro h; cases h), rfl, r⟩
  · rintro e fr H ⟨rfl, r⟩
    refine .inl ⟨rfl, TriL.ren hI r ?_⟩
    refine TriL.leafE hE (rnGo2_eq s _) (by decide) rfl rfl rows0 fun fr' H' r => ⟨.inr rfl, r.df.1, ?_⟩
    obtain ⟨x, h1, h2⟩ := r.t 4 _ rfl
    refine ⟨[x], by rw [fn36_res]; simp [resA, h1], ?_⟩
    rw [rn_int h2]; rfl
theorem rnHex_tri (hE : EnvOk EL1 P I) (hI : Carried I) {s : List UInt8} (hs : s.length < 4294967296) : Tri EL1 P I ro fn36.body (newFr fn36 [.str s, .fn 60 [] []]) (mkH 12 []) fun e fr H => (e = .normal ∨ e = .ret) ∧ fr.df = [] ∧ ∃ l, resA EL1 fr.t H fn36.results = some l ∧ weak2 (resV l) = .int .i64 (.ofNat (runL hexP s)) := by
  have hl : lenU s = s.length := rfl
  refine tri_of_triL _ ?_
  rw [fn36_flat]
  refine TriL.leafX hE hI (rnHex0_eq s) (by decide) rfl rfl rows0 (.inl ⟨rfl, ?_⟩)
  refine Tri.mono (Tri.block (Q := fun e fr H => e = .normal ∧ Ren 12 [0, 1, 2, 3, 4, 5, 6, 7, 8, 9, 10, 11] fr H (mkFr 20 [0, 1, 5] [.str s, .fn 60 [] [], .int .i64 (.ofNat (runL hexP s))]) (mkH 12 [])) (Tri.loop (X := Nat) (fr := fun j => mkFr 20 [0, 1, 5] [.str s, .fn 60 [] [], .int .i64 (.ofNat j)]) (H := fun _ => mkH 12 []) (Inv := fun j => j ≤ runL hexP s) (fun j => s.length - j) hI ?_ 0 (Nat.zero_le _))) ?_
  · intro j hj
    have hle := runL_le hexP s
    refine tri_of_triL _ ?_
    have e := rnHex1_eq s j
    by_cases h : j < runL hexP s
    · rw [blt_t (show j < lenU s by omega), show cHexB (.ofNat (UInt8.toNat (byteAt s j))) = true from runL_lt (p := hexP) h, bc_true, bc_true, bc_true, up_eq (by omega)] at e
      exact TriL.leafE hE e (by decide) rfl rfl rows0 fun fr' H' r => .inl ⟨rfl, j + 1, _, h, by omega, r⟩
    · obtain rfl : j = runL hexP s := by omega
      by_cases h2 : runL hexP s < s.length
      · rw [blt_t (show runL hexP s < lenU s by omega), show cHexB (.ofNat (UInt8.toNat (byteAt s (runL hexP s)))) = false from runL_end (p := hexP) h2, bc_true, bc_true, bc_false] at e
        exact TriL.leafE hE e (by decide) rfl rfl rows0 fun fr' H' r => .inr ⟨(by intro h; cases h), rfl, r⟩
      · rw [blt_f (show ¬ runL hexP s < lenU s by omega), bc_false] at e
        exact TriL.leafE hE e (by decide) rfl rfl rows0 fun fr' H' r => .inr ⟨(by intro h; cases h), rfl, r⟩
  · rintro e fr H ⟨rfl, r⟩
    refine .inl ⟨rfl, TriL.ren hI r ?_⟩
    refine TriL.leafE hE (rnHex2_eq s _) (by decide) rfl rfl rows0 fun fr' H' r => ⟨.inr rfl, r.df.1, ?_⟩
    obtain ⟨x, h1, h2⟩ := r.t 4 _ rfl
    refine ⟨[x], by rw [fn36_res]; simp [resA, h1], ?_⟩
    rw [rn_int h2]; rfl
theorem rnDig_tri (hE : EnvOk EL1 P I) (hI : Carried I) {s : List UInt8} (hs : s.length < 4294967296) : Tri EL1 P I ro fn36.body (newFr fn36 [.str s, .fn 38 [] []]) (mkH 12 []) fun e fr H => (e = .normal ∨ e = .ret) ∧ fr.df = [] ∧ ∃ l, resA EL1 fr.t H fn36.results = some l ∧ weak2 (resV l) = .int .i64 (.ofNat (runL digP s)) := by
  have hl : lenU s = s.length := rfl
  refine tri_of_triL _ ?_
  rw [fn36_flat]
  refine TriL.leafX hE hI (rnDig0_eq s) (by decide) rfl rfl rows0 (.inl ⟨rfl, ?_⟩)
  refine Tri.mono (Tri.block (Q := fun e fr H => e = .normal ∧ Ren 12 [0, 1, 2, 3, 4, 5, 6, 7, 8, 9, 10, 11] fr H (mkFr 20 [0, 1, 5] [.str s, .fn 38 [] [], .int .i64 (.ofNat (runL digP s))]) (mkH 12 [])) (Tri.loop (X := Nat) (fr := fun j => mkFr 20 [0, 1, 5] [.str s, .fn 38 [] [], .int .i64 (.ofNat j)]) (H := fun _ => mkH 12 []) (Inv := fun j => j ≤ runL digP s) (fun j => s.length - j) hI ?_ 0 (Nat.zero_le _))) ?_
  · intro j hj
    have hle := runL_le digP s
    refine tri_of_triL _ ?_
    have e := rnDig1_eq s j
    by_cases h : j < runL digP s
    · rw [blt_t (show j < lenU s by omega), show cDigB (.ofNat (UInt8.toNat (byteAt s j))) = true from runL_lt (p := digP) h, bc_true, bc_true, bc_true, up_eq (by omega)] at e
      exact TriL.leafE hE e (by decide) rfl rfl rows0 fun fr' H' r => .inl ⟨rfl, j + 1, _, h, by omega, r⟩
    · obtain rfl : j = runL digP s := by omega
      by_cases h2 : runL digP s < s.length
      · rw [blt_t (show runL digP s < lenU s by omega), show cDigB (.ofNat (UInt8.toNat (byteAt s (runL digP s)))) = false from runL_end (p := digP) h2, bc_true, bc_true, bc_false] at e
        exact TriL.leafE hE e (by decide) rfl rfl rows0 fun fr' H' r => .inr ⟨(by intro h; cases h), rfl, r⟩
      · rw [blt_f (show ¬ runL digP s < lenU s by omega), bc_false] at e
        exact TriL.leafE hE e (by decide) rfl rfl rows0 fun fr' H' r => .inr ⟨(by intro h; cases h), rfl, r⟩
  · rintro e fr H ⟨rfl, r⟩
    refine .inl ⟨rfl, TriL.ren hI r ?_⟩
    refine TriL.leafE hE (rnDig2_eq s _) (by decide) rfl rfl rows0 fun fr' H' r => ⟨.inr rfl, r.df.1, ?_⟩
    obtain ⟨x, h1, h2⟩ := r.t 4 _ rfl
    refine ⟨[x], by rw [fn36_res]; simp [resA, h1], ?_⟩
    rw [rn_int h2]; rfl
end
def runP (f : Nat) (s : List UInt8) : Nat := bif Nat.beq f 37 then runL goP s else bif Nat.beq f 60 then runL hexP s else runL digP s
def runOk (f : Nat) (s : List UInt8) : Bool := (Nat.beq f 37 || (Nat.beq f 60 || Nat.beq f 38)) && Nat.blt (lenU s) 4294967296
def runFv : Nat → List AV → Option AV := fun g args => match args with
  | [.str s, .fn f [] []] => bif Nat.beq g 36 && runOk f s then some (.int .i64 (.ofNat (runP f s))) else none
  | _ => none
theorem run_ok : SmOk Tryz.prog gl (plainSm runFv) := tri_plain fun g args v h => by
  unfold runFv at h
  split at h
  case h_2 => cases h
  rename_i s f
  rw [Bool.cond_eq_ite] at h
  split at h
  case isFalse => cases h
  rename_i hb
  unfold runOk at hb
  simp only [Bool.and_eq_true, Bool.or_eq_true, Nat.beq_eq, Nat.blt_eq] at hb
  obtain ⟨rfl, hf, hs⟩ := hb
  simp only [Option.some.injEq] at h
  subst h
  have hp : ∀ a ∈ [AV.str s, .fn f [] []], Plain a := fun a ha => by
    simp only [List.mem_cons, List.not_mem_nil, or_false] at ha
    rcases ha with rfl | rfl
    · exact plain_str _
    · intro b keep; rfl
  refine ⟨EL1, fn36, el1_ok, gl_ok, fn36_eq, hp, plain_int _ _, fun w hw => ?_⟩
  rcases hf with rfl | rfl | rfl
  · exact rnGo_tri (el1_ok w hw) (kept_carried hw) hs
  · exact rnHex_tri (el1_ok w hw) (kept_carried hw) hs
  · exact rnDig_tri (el1_ok w hw) (kept_carried hw) hs
end
end Go.Proofs.YtafpmnccoogojaaGreatDoor
