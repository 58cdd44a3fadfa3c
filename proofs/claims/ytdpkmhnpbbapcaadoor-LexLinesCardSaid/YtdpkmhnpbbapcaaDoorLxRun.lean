/- lex.run: how many bytes at the front are such. -/
import Derived.Test.YtdpkmhnpbbapcaaDoorLxCls
import Derived.Test.YtdpkmhnpbbapcaaDoorVaiLoop
import Derived.KernelRfl
namespace Go.Proofs.YtdpkmhnpbbapcaaDoor
open Go Go.Vai
noncomputable section
set_option maxRecDepth 100000
def cI (c : UInt8) : Int := .ofNat c.toNat
def Qq (c : UInt8) : Bool := Zfe (cI c)
def Z9 (c : UInt8) : Bool := Zcq (cI c)
def Z1 (c : UInt8) : Bool := K6 (cI c)
def Jb : AFunc := (Yb.fn 30).getD default
theorem Z84 : Yb.fn 30 = some Jb := by kernel_rfl
theorem Zgq : flat Jb.body = (flat Jb.body).take 2 ++ .block 0 (.loop (Zc [2, 0] Jb.body)) :: (flat Jb.body).drop 3 := by kernel_rfl
theorem Zkq : Jb.results = [.tmp 4] := by kernel_rfl
theorem Y3 {keep : List Nat} : ∀ (j : Nat) (o o2 : AObj), ([] : List AObj)[j]? = some o → ([] : List AObj)[j]? = some o2 → We 0 keep o o2 := fun j o o2 h => by simp at h
theorem Z00 (s : List UInt8) : Zu Yb (Yw Yb 3) ((flat Jb.body).take 2) (Yj 8 [0, 1, 5] [0, 1, 2, 3, 4, 5, 6, 7]) (Z8 Jb [.str s, .fn 31 [] []]) (Zs 8 []) = lf .normal 20 ([.str s, .fn 31 [] [], .int .i64 (.ofNat 0)].map some) ([].map some) := by kernel_rfl
theorem Z4t (s : List UInt8) (j : Nat) : Zu Yb (Yw Yb 3) (flat (Zc [2, 0] Jb.body)) (Yj 8 [0, 1, 5] [0, 1, 2, 3, 4, 5, 6, 7]) (Zd 20 [0, 1, 5] [.str s, .fn 31 [] [], .int .i64 (.ofNat j)]) (Zs 8 []) = bc (Nat.blt j (Zb s)) (bc (Nat.blt j (Zb s)) (bc (Zfe (.ofNat (UInt8.toNat (Za s j)))) (lf .normal 20 ([.str s, .fn 31 [] [], .int .i64 (up j)].map some) ([].map some)) (lf (.exit 0) 20 ([.str s, .fn 31 [] [], .int .i64 (.ofNat j)].map some) ([].map some))) (none)) (lf (.exit 0) 20 ([.str s, .fn 31 [] [], .int .i64 (.ofNat j)].map some) ([].map some)) := by kernel_rfl
theorem Z0v (s : List UInt8) (j : Nat) : Zu Yb (Yw Yb 3) ((flat Jb.body).drop 3) (Yj 8 [4] [0, 1, 2, 3, 4, 5, 6, 7]) (Zd 20 [0, 1, 5] [.str s, .fn 31 [] [], .int .i64 (.ofNat j)]) (Zs 8 []) = lf .ret 20 ([.int .i64 (.ofNat j)].map some) ([].map some) := by kernel_rfl
theorem Zxu (s : List UInt8) : Zu Yb (Yw Yb 3) ((flat Jb.body).take 2) (Yj 8 [0, 1, 5] [0, 1, 2, 3, 4, 5, 6, 7]) (Z8 Jb [.str s, .fn 42 [] []]) (Zs 8 []) = lf .normal 20 ([.str s, .fn 42 [] [], .int .i64 (.ofNat 0)].map some) ([].map some) := by kernel_rfl
theorem Zw5 (s : List UInt8) (j : Nat) : Zu Yb (Yw Yb 3) (flat (Zc [2, 0] Jb.body)) (Yj 8 [0, 1, 5] [0, 1, 2, 3, 4, 5, 6, 7]) (Zd 20 [0, 1, 5] [.str s, .fn 42 [] [], .int .i64 (.ofNat j)]) (Zs 8 []) = bc (Nat.blt j (Zb s)) (bc (Nat.blt j (Zb s)) (bc (Zcq (.ofNat (UInt8.toNat (Za s j)))) (lf .normal 20 ([.str s, .fn 42 [] [], .int .i64 (up j)].map some) ([].map some)) (lf (.exit 0) 20 ([.str s, .fn 42 [] [], .int .i64 (.ofNat j)].map some) ([].map some))) (none)) (lf (.exit 0) 20 ([.str s, .fn 42 [] [], .int .i64 (.ofNat j)].map some) ([].map some)) := by kernel_rfl
theorem Zxe (s : List UInt8) (j : Nat) : Zu Yb (Yw Yb 3) ((flat Jb.body).drop 3) (Yj 8 [4] [0, 1, 2, 3, 4, 5, 6, 7]) (Zd 20 [0, 1, 5] [.str s, .fn 42 [] [], .int .i64 (.ofNat j)]) (Zs 8 []) = lf .ret 20 ([.int .i64 (.ofNat j)].map some) ([].map some) := by kernel_rfl
theorem Zvl (s : List UInt8) : Zu Yb (Yw Yb 3) ((flat Jb.body).take 2) (Yj 8 [0, 1, 5] [0, 1, 2, 3, 4, 5, 6, 7]) (Z8 Jb [.str s, .fn 32 [] []]) (Zs 8 []) = lf .normal 20 ([.str s, .fn 32 [] [], .int .i64 (.ofNat 0)].map some) ([].map some) := by kernel_rfl
theorem Zvu (s : List UInt8) (j : Nat) : Zu Yb (Yw Yb 3) (flat (Zc [2, 0] Jb.body)) (Yj 8 [0, 1, 5] [0, 1, 2, 3, 4, 5, 6, 7]) (Zd 20 [0, 1, 5] [.str s, .fn 32 [] [], .int .i64 (.ofNat j)]) (Zs 8 []) = bc (Nat.blt j (Zb s)) (bc (Nat.blt j (Zb s)) (bc (K6 (.ofNat (UInt8.toNat (Za s j)))) (lf .normal 20 ([.str s, .fn 32 [] [], .int .i64 (up j)].map some) ([].map some)) (lf (.exit 0) 20 ([.str s, .fn 32 [] [], .int .i64 (.ofNat j)].map some) ([].map some))) (none)) (lf (.exit 0) 20 ([.str s, .fn 32 [] [], .int .i64 (.ofNat j)].map some) ([].map some)) := by kernel_rfl
theorem Zv9 (s : List UInt8) (j : Nat) : Zu Yb (Yw Yb 3) ((flat Jb.body).drop 3) (Yj 8 [4] [0, 1, 2, 3, 4, 5, 6, 7]) (Zd 20 [0, 1, 5] [.str s, .fn 32 [] [], .int .i64 (.ofNat j)]) (Zs 8 []) = lf .ret 20 ([.int .i64 (.ofNat j)].map some) ([].map some) := by kernel_rfl
section
variable {P : Program} {I : List MEnt → AHeap → World → Prop} {ro : Option Nat}
theorem Z07 (hE : EnvOk Yb P I) (hI : Carried I) {s : List UInt8} (hs : s.length < 4294967296) : Yk Yb P I ro Jb.body (Z8 Jb [.str s, .fn 31 [] []]) (Zs 8 []) fun e fr H => (e = .normal ∨ e = .ret) ∧ fr.df = [] ∧ ∃ l, Xm Yb fr.t H Jb.results = some l ∧ Vf (Ja l) = .int .i64 (.ofNat (Zi Qq s)) := by
  have hl : Zb s = s.length := rfl
  refine Z0 _ ?_
  rw [Zgq]
  refine Zg.leafX hE hI (Z00 s) (by decide) rfl rfl Y3 (.inl ⟨rfl, ?_⟩)
  refine Yk.mono (Yk.block (Q := fun e fr H => e = .normal ∧ Ren 8 [0, 1, 2, 3, 4, 5, 6, 7] fr H (Zd 20 [0, 1, 5] [.str s, .fn 31 [] [], .int .i64 (.ofNat (Zi Qq s))]) (Zs 8 [])) (Yk.loop (X := Nat) (fr := fun j => Zd 20 [0, 1, 5] [.str s, .fn 31 [] [], .int .i64 (.ofNat j)]) (H := fun _ => Zs 8 []) (Inv := fun j => j ≤ Zi Qq s) (fun j => s.length - j) hI ?_ 0 (Nat.zero_le _))) ?_
  · intro j hj
    have hle := X4 Qq s
    refine Z0 _ ?_
    have e := Z4t s j
    by_cases h : j < Zi Qq s
    · rw [Zm (show j < Zb s by omega), show Zfe (.ofNat (UInt8.toNat (Za s j))) = true from Zav (p := Qq) h, Y8, Y8, Y8, Yv (by omega)] at e
      exact Zg.leafE hE e (by decide) rfl rfl Y3 fun fr' H' r => .inl ⟨rfl, j + 1, _, h, by omega, r⟩
    · obtain rfl : j = Zi Qq s := by omega
      by_cases h2 : Zi Qq s < s.length
      · rw [Zm (show Zi Qq s < Zb s by omega), show Zfe (.ofNat (UInt8.toNat (Za s (Zi Qq s)))) = false from J1 (p := Qq) h2, Y8, Y8, Xo] at e
        exact Zg.leafE hE e (by decide) rfl rfl Y3 fun fr' H' r => .inr ⟨(by intro h; cases h), rfl, r⟩
      · rw [Yg (show ¬ Zi Qq s < Zb s by omega), Xo] at e
        exact Zg.leafE hE e (by decide) rfl rfl Y3 fun fr' H' r => .inr ⟨(by intro h; cases h), rfl, r⟩
  · rintro e fr H ⟨rfl, r⟩
    refine .inl ⟨rfl, Zg.ren hI r ?_⟩
    refine Zg.leafE hE (Z0v s _) (by decide) rfl rfl Y3 fun fr' H' r => ⟨.inr rfl, r.df.1, ?_⟩
    obtain ⟨x, h1, h2⟩ := r.t 4 _ rfl
    refine ⟨[x], by rw [Zkq]; simp [Xm, h1], ?_⟩
    rw [Zi3 h2]; rfl
theorem Zv2 (hE : EnvOk Yb P I) (hI : Carried I) {s : List UInt8} (hs : s.length < 4294967296) : Yk Yb P I ro Jb.body (Z8 Jb [.str s, .fn 42 [] []]) (Zs 8 []) fun e fr H => (e = .normal ∨ e = .ret) ∧ fr.df = [] ∧ ∃ l, Xm Yb fr.t H Jb.results = some l ∧ Vf (Ja l) = .int .i64 (.ofNat (Zi Z9 s)) := by
  have hl : Zb s = s.length := rfl
  refine Z0 _ ?_
  rw [Zgq]
  refine Zg.leafX hE hI (Zxu s) (by decide) rfl rfl Y3 (.inl ⟨rfl, ?_⟩)
  refine Yk.mono (Yk.block (Q := fun e fr H => e = .normal ∧ Ren 8 [0, 1, 2, 3, 4, 5, 6, 7] fr H (Zd 20 [0, 1, 5] [.str s, .fn 42 [] [], .int .i64 (.ofNat (Zi Z9 s))]) (Zs 8 [])) (Yk.loop (X := Nat) (fr := fun j => Zd 20 [0, 1, 5] [.str s, .fn 42 [] [], .int .i64 (.ofNat j)]) (H := fun _ => Zs 8 []) (Inv := fun j => j ≤ Zi Z9 s) (fun j => s.length - j) hI ?_ 0 (Nat.zero_le _))) ?_
  · intro j hj
    have hle := X4 Z9 s
    refine Z0 _ ?_
    have e := Zw5 s j
    by_cases h : j < Zi Z9 s
    · rw [Zm (show j < Zb s by omega), show Zcq (.ofNat (UInt8.toNat (Za s j))) = true from Zav (p := Z9) h, Y8, Y8, Y8, Yv (by omega)] at e
      exact Zg.leafE hE e (by decide) rfl rfl Y3 fun fr' H' r => .inl ⟨rfl, j + 1, _, h, by omega, r⟩
    · obtain rfl : j = Zi Z9 s := by omega
      by_cases h2 : Zi Z9 s < s.length
      · rw [Zm (show Zi Z9 s < Zb s by omega), show Zcq (.ofNat (UInt8.toNat (Za s (Zi Z9 s)))) = false from J1 (p := Z9) h2, Y8, Y8, Xo] at e
        exact Zg.leafE hE e (by decide) rfl rfl Y3 fun fr' H' r => .inr ⟨(by intro h; cases h), rfl, r⟩
      · rw [Yg (show ¬ Zi Z9 s < Zb s by omega), Xo] at e
        exact Zg.leafE hE e (by decide) rfl rfl Y3 fun fr' H' r => .inr ⟨(by intro h; cases h), rfl, r⟩
  · rintro e fr H ⟨rfl, r⟩
    refine .inl ⟨rfl, Zg.ren hI r ?_⟩
    refine Zg.leafE hE (Zxe s _) (by decide) rfl rfl Y3 fun fr' H' r => ⟨.inr rfl, r.df.1, ?_⟩
    obtain ⟨x, h1, h2⟩ := r.t 4 _ rfl
    refine ⟨[x], by rw [Zkq]; simp [Xm, h1], ?_⟩
    rw [Zi3 h2]; rfl
theorem Zvi (hE : EnvOk Yb P I) (hI : Carried I) {s : List UInt8} (hs : s.length < 4294967296) : Yk Yb P I ro Jb.body (Z8 Jb [.str s, .fn 32 [] []]) (Zs 8 []) fun e fr H => (e = .normal ∨ e = .ret) ∧ fr.df = [] ∧ ∃ l, Xm Yb fr.t H Jb.results = some l ∧ Vf (Ja l) = .int .i64 (.ofNat (Zi Z1 s)) := by
  have hl : Zb s = s.length := rfl
  refine Z0 _ ?_
  rw [Zgq]
  refine Zg.leafX hE hI (Zvl s) (by decide) rfl rfl Y3 (.inl ⟨rfl, ?_⟩)
  refine Yk.mono (Yk.block (Q := fun e fr H => e = .normal ∧ Ren 8 [0, 1, 2, 3, 4, 5, 6, 7] fr H (Zd 20 [0, 1, 5] [.str s, .fn 32 [] [], .int .i64 (.ofNat (Zi Z1 s))]) (Zs 8 [])) (Yk.loop (X := Nat) (fr := fun j => Zd 20 [0, 1, 5] [.str s, .fn 32 [] [], .int .i64 (.ofNat j)]) (H := fun _ => Zs 8 []) (Inv := fun j => j ≤ Zi Z1 s) (fun j => s.length - j) hI ?_ 0 (Nat.zero_le _))) ?_
  · intro j hj
    have hle := X4 Z1 s
    refine Z0 _ ?_
    have e := Zvu s j
    by_cases h : j < Zi Z1 s
    · rw [Zm (show j < Zb s by omega), show K6 (.ofNat (UInt8.toNat (Za s j))) = true from Zav (p := Z1) h, Y8, Y8, Y8, Yv (by omega)] at e
      exact Zg.leafE hE e (by decide) rfl rfl Y3 fun fr' H' r => .inl ⟨rfl, j + 1, _, h, by omega, r⟩
    · obtain rfl : j = Zi Z1 s := by omega
      by_cases h2 : Zi Z1 s < s.length
      · rw [Zm (show Zi Z1 s < Zb s by omega), show K6 (.ofNat (UInt8.toNat (Za s (Zi Z1 s)))) = false from J1 (p := Z1) h2, Y8, Y8, Xo] at e
        exact Zg.leafE hE e (by decide) rfl rfl Y3 fun fr' H' r => .inr ⟨(by intro h; cases h), rfl, r⟩
      · rw [Yg (show ¬ Zi Z1 s < Zb s by omega), Xo] at e
        exact Zg.leafE hE e (by decide) rfl rfl Y3 fun fr' H' r => .inr ⟨(by intro h; cases h), rfl, r⟩
  · rintro e fr H ⟨rfl, r⟩
    refine .inl ⟨rfl, Zg.ren hI r ?_⟩
    refine Zg.leafE hE (Zv9 s _) (by decide) rfl rfl Y3 fun fr' H' r => ⟨.inr rfl, r.df.1, ?_⟩
    obtain ⟨x, h1, h2⟩ := r.t 4 _ rfl
    refine ⟨[x], by rw [Zkq]; simp [Xm, h1], ?_⟩
    rw [Zi3 h2]; rfl
end
def Ygz (f : Nat) (s : List UInt8) : Nat := bif Nat.beq f 31 then Zi Qq s else bif Nat.beq f 42 then Zi Z9 s else Zi Z1 s
def Zz4 (f : Nat) (s : List UInt8) : Bool := (Nat.beq f 31 || (Nat.beq f 42 || Nat.beq f 32)) && Nat.blt (Zb s) 4294967296
def Zh0 : Nat → List AV → Option AV := fun g args => match args with
  | [.str s, .fn f [] []] => bif Nat.beq g 30 && Zz4 f s then some (.int .i64 (.ofNat (Ygz f s))) else none
  | _ => none
theorem Z10 : Qm Tryd.prog gl (Zx Zh0) := Km fun g args v h => by
  unfold Zh0 at h
  split at h
  case h_2 => cases h
  rename_i s f
  rw [Bool.cond_eq_ite] at h
  split at h
  case isFalse => cases h
  rename_i hb
  unfold Zz4 at hb
  simp only [Bool.and_eq_true, Bool.or_eq_true, Nat.beq_eq, Nat.blt_eq] at hb
  obtain ⟨rfl, hf, hs⟩ := hb
  simp only [Option.some.injEq] at h
  subst h
  have hp : ∀ a ∈ [AV.str s, .fn f [] []], Plain a := fun a ha => by
    simp only [List.mem_cons, List.not_mem_nil, or_false] at ha
    rcases ha with rfl | rfl
    · exact Zgp _
    · intro b keep; rfl
  refine ⟨Yb, Jb, Ql, Wl, Z84, hp, Kp _ _, fun w hw => ?_⟩
  rcases hf with rfl | rfl | rfl
  · exact Z07 (Ql w hw) (Zt hw) hs
  · exact Zv2 (Ql w hw) (Zt hw) hs
  · exact Zvi (Ql w hw) (Zt hw) hs
end
end Go.Proofs.YtdpkmhnpbbapcaaDoor
