/- ar.name, ar.wide, ar.head and the document's Digits. -/
import Derived.Test.YtmppdannkpdpmaaGreatDoorArBegun
import Derived.Test.YtmppdannkpdpmaaGreatDoorArSpec
import Derived.Test.YtmppdannkpdpmaaGreatDoorVaiLoop
import Derived.Test.YtmppdannkpdpmaaGreatDoorVaiLawB
import Derived.Test.YtmppdannkpdpmaaGreatDoorVaiH
import Derived.Test.YtmppdannkpdpmaaGreatDoorVaiApL
import Derived.KernelRfl
namespace Go.Proofs.YtmppdannkpdpmaaGreatDoor
open Go Go.Vai
noncomputable section
set_option maxRecDepth 100000
def Zct : AFunc := (EBg.fn 37).getD default
theorem Zxf : EBg.fn 37 = some Zct := by kernel_rfl
theorem Zrl : flat Zct.body = (flat Zct.body).take 2 ++ .block 0 (.loop (Qm [2, 0] Zct.body)) :: (flat Zct.body).drop 3 := by kernel_rfl
theorem Zr5 : Zct.results = [.tmp 2] := by kernel_rfl
theorem Zot {keep : List Nat} : ∀ (j : Nat) (o o2 : AObj), ([] : List AObj)[j]? = some o → ([] : List AObj)[j]? = some o2 → Q9 0 keep o o2 := fun j o o2 h => by simp at h
def nmB (c : UInt8) : Bool := !(Nat.blt c.toNat 33) && (!(Nat.blt 126 c.toNat) && !(Nat.beq c.toNat 47))
def Y0 (s : List UInt8) : Bool := s.all nmB && (Nat.blt 0 s.length && Nat.ble s.length 128)
theorem Ym (l : List UInt8) : Za l = l.length := rfl
theorem Z0f (s : List UInt8) : Xy EBg (Vo EBg 3) ((flat Zct.body).take 2) (Vb 8 [0, 5, 6] [0, 1, 2, 3, 4, 5, 6, 7]) (Xb Zct [.str s]) (Z6 8 []) = lf .normal 34 ([.str s, .int .i64 (.ofNat (Za s)), .int .i64 (.ofNat 0)].map some) ([].map some) := by kernel_rfl
theorem Z0n (s : List UInt8) (j L : Nat) : Xy EBg (Vo EBg 3) (flat (Qm [2, 0] Zct.body)) (Vb 8 [0, 5, 6] [0, 1, 2, 3, 4, 5, 6, 7]) (Yq 34 [0, 5, 6] [.str s, .int .i64 (.ofNat L), .int .i64 (.ofNat j)]) (Z6 8 []) = bc (Nat.blt j L) (bc (Nat.blt j (Za s)) (bc (Nat.blt (UInt8.toNat (Ke s j)) 33) (lf .ret 34 ([.str s, .int .i64 (.ofNat L), .int .i64 (.ofNat j)].map some) ([].map some)) (bc (Nat.blt j (Za s)) (bc (Nat.blt 126 (UInt8.toNat (Ke s j))) (lf .ret 34 ([.str s, .int .i64 (.ofNat L), .int .i64 (.ofNat j)].map some) ([].map some)) (bc (Nat.blt j (Za s)) (bc (Nat.beq (UInt8.toNat (Ke s j)) 47) (lf .ret 34 ([.str s, .int .i64 (.ofNat L), .int .i64 (.ofNat j)].map some) ([].map some)) (lf .normal 34 ([.str s, .int .i64 (.ofNat L), .int .i64 (up j)].map some) ([].map some))) (none))) (none))) (none)) (lf (.exit 0) 34 ([.str s, .int .i64 (.ofNat L), .int .i64 (.ofNat j)].map some) ([].map some)) := by kernel_rfl
theorem Z2b (s : List UInt8) (L : Nat) : Xy EBg (Vo EBg 3) ((flat Zct.body).drop 3) (Vb 8 [2] [0, 1, 2, 3, 4, 5, 6, 7]) (Yq 34 [0, 5, 6] [.str s, .int .i64 (.ofNat L), .int .i64 (.ofNat L)]) (Z6 8 []) = bc (!(Nat.blt (Za s) 1)) (lf .ret 34 ([.bool (!(Nat.blt 128 (Za s)))].map some) ([].map some)) (lf .ret 34 ([.bool false].map some) ([].map some)) := by kernel_rfl
section
variable {P : Program} {I : List MEnt → AHeap → World → Prop} {ro : Option Nat}
theorem Z1x (hE : EnvOk EBg P I) (hI : Carried I) {s : List UInt8} (hs : Y0 s = true) : Wv EBg P I ro Zct.body (Xb Zct [.str s]) (Z6 8 []) fun e fr H => (e = .normal ∨ e = .ret) ∧ fr.df = [] ∧ ∃ l, Q6 EBg fr.t H Zct.results = some l ∧ Ze3 (Zd0 l) = .bool true := by
  unfold Y0 at hs
  simp only [Bool.and_eq_true, Nat.blt_eq, Nat.ble_eq, List.all_eq_true] at hs
  obtain ⟨h1, h2, h3⟩ := hs
  refine Yz _ ?_
  rw [Zrl]
  refine Yc.leafX hE hI (Z0f s) (by decide) rfl rfl Zot (.inl ⟨rfl, ?_⟩)
  refine Wv.mono (Wv.block (Q := fun e fr H => e = .normal ∧ Ren 8 [0, 1, 2, 3, 4, 5, 6, 7] fr H (Yq 34 [0, 5, 6] [.str s, .int .i64 (.ofNat s.length), .int .i64 (.ofNat s.length)]) (Z6 8 [])) (Wv.loop (X := Nat) (fr := fun j => Yq 34 [0, 5, 6] [.str s, .int .i64 (.ofNat s.length), .int .i64 (.ofNat j)]) (H := fun _ => Z6 8 []) (Inv := fun j => j ≤ s.length) (fun j => s.length - j) hI ?_ 0 (Nat.zero_le _))) ?_
  · intro j hj
    refine Yz _ ?_
    have e := Z0n s j s.length
    by_cases h : j < s.length
    · have hb := h1 (Ke s j) (by rw [Zp1 h]; exact List.getElem_mem h)
      unfold nmB at hb
      simp only [Bool.and_eq_true, Bool.not_eq_true'] at hb
      rw [Ym, Z4 h, hb.1, hb.2.1, hb.2.2, Yd, Yd, Yw, Yd, Yw, Yd, Yw, Zzh (by omega)] at e
      exact Yc.leafE hE e (by decide) rfl rfl Zot fun fr' H' r => .inl ⟨rfl, j + 1, _, h, by omega, r⟩
    · obtain rfl : j = s.length := by omega
      rw [Zw (show ¬ s.length < s.length by omega), Yw] at e
      exact Yc.leafE hE e (by decide) rfl rfl Zot fun fr' H' r => .inr ⟨(by intro h; cases h), rfl, r⟩
  · rintro e fr H ⟨rfl, r⟩
    refine .inl ⟨rfl, Yc.ren hI r ?_⟩
    have e := Z2b s s.length
    rw [Ym, Zw (show ¬ s.length < 1 by omega), Zw (show ¬ 128 < s.length by omega)] at e
    refine Yc.leafE hE e (by decide) rfl rfl Zot fun fr' H' r => ⟨.inr rfl, r.df.1, ?_⟩
    obtain ⟨x, h1, h2⟩ := r.t 2 _ rfl
    refine ⟨[x], by rw [Zr5]; simp [Q6, h1], ?_⟩
    rw [Zx3 h2]; rfl
end
def Zky : Nat → List AV → Option AV := fun f args => match args with
  | [.str s] => bif Nat.beq f 37 && Y0 s then some (.bool true) else none
  | _ => none
theorem Z27 : Vt Tryz.prog gl (Z2 Zky) := Zqi fun f args v h => by
  unfold Zky at h
  split at h
  case h_2 => cases h
  rename_i s
  rw [Bool.cond_eq_ite] at h
  split at h
  case isFalse => cases h
  rename_i hb
  simp only [Bool.and_eq_true, Nat.beq_eq] at hb
  obtain ⟨rfl, hs⟩ := hb
  simp only [Option.some.injEq] at h
  subst h
  exact ⟨EBg, Zct, Zbg, Zez, Zxf, fun a ha => by rw [List.mem_singleton] at ha; subst ha; exact Zqw _, Zgu _, fun w hw => Z1x (Zbg w hw) (Yg hw) hs⟩
theorem Zby {a b : Sm} {f : Nat} {args : List AV} {H : AHeap} {r : AV × AHeap} (h : a f args H = some r) : Y4 a b f args H = some r := by unfold Y4; rw [h]
theorem X9 {a b : Sm} {f : Nat} {args : List AV} {H : AHeap} {r : AV × AHeap} (h : a f args H = none) (h2 : b f args H = some r) : Y4 a b f args H = some r := by unfold Y4; rw [h]; exact h2
theorem Zi {x y : List UInt8} {a b : Nat} (hx : x.length ≤ a) (hy : y.length ≤ b) : (x ++ y).length ≤ a + b := by rw [List.length_append]; omega
theorem Jk {x y : List UInt8} {a b : Nat} (hx : x.length ≤ a) (hy : y.length ≤ b) (h : a + b ≤ 1000000) : Nat.ble (Nat.add (Za x) (Za y)) 1099511627776 = true := Zl (by show x.length + y.length ≤ _; omega)
def Zs7 (s : List UInt8) (c : Int) : Bool := !(Yi c (.ofNat 0)) && (Nat.ble c.toNat 1048576 && Nat.ble (Za s) 1048576)
def Zoj (s : List UInt8) (c : Int) : List UInt8 := Lib.repeatL s c.toNat
def Z3f {α : Type} (args : List AV) (H : AHeap) (k : AV → AHeap → Option α) : Option α := match args with
  | [.str s, .int .i64 c] => bc (Zs7 s c) (k (.str (Zoj s c)) H) none
  | _ => none
def Zss {α : Type} : Smk α := fun f args H k => bif Nat.beq f 77 then Z3f args H k else smC EBg f args H k
theorem Zxs {α : Type} : Qb (α := α) EBg Zss := fun f args H k r h => by
  unfold Zss at h
  cases hf : Nat.beq f 77 with
  | false => rw [hf] at h; exact Zgs _ _ _ _ _ _ h
  | true =>
    rw [hf] at h
    rw [Nat.beq_eq] at hf
    subst hf
    simp only [cond_true] at h
    unfold Z3f at h
    split at h
    case h_2 => cases h
    rename_i s c
    obtain ⟨h1, h2⟩ := Zr h
    refine ⟨_, _, ?_, h2⟩
    cases c with
    | negSucc c => cases h1
    | ofNat c =>
      have e : Je 77 77 [.str s, .int .i64 (.ofNat c)] H = some (.str (Zoj s (.ofNat c)), H) := by
        show (bif (Nat.beq 77 77 && (Nat.ble c 1048576 && Nat.ble (Za s) 1048576)) then some (AV.str (Lib.repeatL s c), H) else none) = _
        rw [show (Nat.beq 77 77 && (Nat.ble c 1048576 && Nat.ble (Za s) 1048576)) = true from h1]; rfl
      exact X9 (a := Zcu kinds) rfl (X9 (a := Za4 52) rfl (X9 (a := Jn 39) rfl (Zby (a := Je 77) e)))
theorem Zum (s : List UInt8) (n : Nat) : Zn EBg Zss Zu 100 (.call 57 [.str s, .int .i64 (.ofNat n)] (W4 8 gl)) [] jW = bc (Zs7 [32] ((bif Yi (Zb .i64 (Int.sub (.ofNat n) (.ofNat (Za s)))) (.ofNat 0) then (.ofNat 0) else (Zb .i64 (Int.sub (.ofNat n) (.ofNat (Za s))))))) (bc (Nat.ble (Nat.add (Za s) (Za (Zoj [32] ((bif Yi (Zb .i64 (Int.sub (.ofNat n) (.ofNat (Za s)))) (.ofNat 0) then (.ofNat 0) else (Zb .i64 (Int.sub (.ofNat n) (.ofNat (Za s))))))))) 1099511627776) (some (.str (s ++ (Zoj [32] ((bif Yi (Zb .i64 (Int.sub (.ofNat n) (.ofNat (Za s)))) (.ofNat 0) then (.ofNat 0) else (Zb .i64 (Int.sub (.ofNat n) (.ofNat (Za s)))))))))) (none)) (none) := by kernel_rfl
def Zhn (s : List UInt8) (n : Nat) : Bool := Nat.ble (Za s) n && Nat.ble n 1000
theorem Zw8 {s : List UInt8} {n : Nat} (h : s.length ≤ n) (hn : n ≤ 1000) : Zn EBg Zss Zu 100 (.call 57 [.str s, .int .i64 (.ofNat n)] (W4 8 gl)) [] jW = some (.str (Xl s n)) := by
  rw [Zum, show Za s = s.length from rfl, Kj h (by omega)]
  have e : Yi (.ofNat (n - s.length)) (.ofNat 0) = false := by rw [Zop]; exact Zw (by omega)
  rw [e]
  have e2 : Zs7 [32] (.ofNat (n - s.length)) = true := by
    unfold Zs7
    rw [e, Z0, Zl (by omega : n - s.length ≤ 1048576)]; rfl
  have e3 : Zoj [32] (.ofNat (n - s.length)) = List.replicate (n - s.length) 32 := Zi7 _
  show bc (Zs7 [32] (.ofNat (n - s.length))) _ _ = _
  rw [e2, Yd]
  show bc (Nat.ble (Nat.add s.length (Za (Zoj [32] (.ofNat (n - s.length))))) _) (some (AV.str (s ++ Zoj [32] (.ofNat (n - s.length))))) none = _
  rw [e3, Ym, List.length_replicate, show Nat.add s.length (n - s.length) = n from Nat.add_sub_cancel' h, Zl (by omega : n ≤ 1099511627776)]
  rfl
def Zco : Nat → List AV → Option AV := fun f args => match args with
  | [.str s, .int .i64 (.ofNat n)] => bif Nat.beq f 57 && Zhn s n then some (.str (Xl s n)) else none
  | _ => none
theorem Zvz : Vt Tryz.prog gl (Z2 Zco) := Zlp fun f args v h => by
  unfold Zco at h
  split at h
  case h_2 => cases h
  rename_i s n
  rw [Bool.cond_eq_ite] at h
  split at h
  case isFalse => cases h
  rename_i hb
  unfold Zhn at hb
  simp only [Bool.and_eq_true, Nat.beq_eq, Nat.ble_eq] at hb
  obtain ⟨rfl, h1, h2⟩ := hb
  simp only [Option.some.injEq] at h
  subst h
  exact ⟨EBg, 100, Zss, Zxs, Zbg, Zez, by kernel_rfl, V3 (by rfl), [], Zw8 h1 h2⟩
def EHd : Env := K4 Tryz.prog 8 [39, 52, 57, 61, 62, 67, 77] (Y4 (Z2 Zco) Va)
theorem Z15 (w : World) (hw : Ya gl w) : EnvOk EHd Tryz.prog (Kept gl w) := Zc0 (by kernel_rfl) (Zvz.or Za0) Qv (fun _ _ _ h => h.1) (Yg hw).ext
def Z3r {α : Type} (args : List AV) (H : AHeap) (k : AV → AHeap → Option α) : Option α := match args with
  | [.str s, .int .i64 (.ofNat n)] => bc (Zhn s n) (k (.str (Xl s n)) H) none
  | _ => none
def Zwn {α : Type} (args : List AV) (H : AHeap) (k : AV → AHeap → Option α) : Option α := match args with
  | [.int .i64 (.ofNat n)] => bc (Nat.blt n 1000) (k (.str (Zk n)) H) none
  | _ => none
def Zr9 {α : Type} : Smk α := fun f args H k => bif Nat.beq f 57 then Z3r args H k else bif Nat.beq f 39 then Zwn args H k else none
theorem Zog {n : Nat} (h : n < 1000) (H : AHeap) : Jn 39 39 [.int .i64 (.ofNat n)] H = some (.str (Zk n), H) := by
  unfold Jn
  have e : Ziq (.ofNat n) = true := by
    unfold Ziq
    rw [show Yi (.ofNat n) (.negSucc 9223372036854775807) = false from rfl, Zop, Zw (by omega)]; rfl
  simp only [Nat.beq_refl, e, Bool.and_self, cond_true, Z05 h]
theorem Zo1 {α : Type} {sm : Sm} {args : List AV} {H : AHeap} {k : AV → AHeap → Option α} {r : α} (hs : ∀ n x, Jn 39 39 [.int .i64 (.ofNat n)] H = some x → sm 39 [.int .i64 (.ofNat n)] H = some x) (h : Zwn args H k = some r) : ∃ v H', sm 39 args H = some (v, H') ∧ k v H' = some r := by
  unfold Zwn at h
  split at h
  case h_2 => cases h
  obtain ⟨h1, h2⟩ := Zr h
  rw [Nat.blt_eq] at h1
  exact ⟨_, _, hs _ _ (Zog h1 _), h2⟩
theorem Zxr {α : Type} : Qb (α := α) EHd Zr9 := fun f args H k r h => by
  unfold Zr9 at h
  cases hf : Nat.beq f 57 with
  | true =>
    rw [hf] at h
    rw [Nat.beq_eq] at hf
    subst hf
    simp only [cond_true] at h
    unfold Z3r at h
    split at h
    case h_2 => cases h
    rename_i s n
    obtain ⟨h1, h2⟩ := Zr h
    refine ⟨_, _, ?_, h2⟩
    show Y4 (Z2 Zco) Va 57 [.str s, .int .i64 (.ofNat n)] H = _
    have e : Zco 57 [.str s, .int .i64 (.ofNat n)] = some (.str (Xl s n)) := by
      unfold Zco
      simp only [Nat.beq_refl, h1, Bool.and_self, cond_true]
    unfold Y4 Z2
    rw [e]
  | false =>
    rw [hf] at h
    simp only [cond_false] at h
    cases hf2 : Nat.beq f 39 with
    | false => rw [hf2] at h; cases h
    | true =>
      rw [hf2] at h
      rw [Nat.beq_eq] at hf2
      subst hf2
      simp only [cond_true] at h
      exact Zo1 (sm := EHd.sm) (fun _ _ e => X9 (a := Z2 Zco) rfl (X9 (a := Zcu kinds) rfl (X9 (a := Za4 52) rfl (Zby (a := Jn 39) e)))) h
theorem Zs8 (nm : List UInt8) (sz : Nat) : Zn EHd Zr9 Zu 100 (.call 41 [.str nm, .int .i64 (.ofNat sz)] (W4 8 gl)) [] jW = bc (Zhn nm 16) (bc (Zhn [48] 12) (bc (Nat.ble (Nat.add (Za (Xl nm 16)) (Za (Xl [48] 12))) 1099511627776) (bc (Zhn [48] 6) (bc (Nat.ble (Nat.add (Za ((Xl nm 16) ++ (Xl [48] 12))) (Za (Xl [48] 6))) 1099511627776) (bc (Zhn [48] 6) (bc (Nat.ble (Nat.add (Za (((Xl nm 16) ++ (Xl [48] 12)) ++ (Xl [48] 6))) (Za (Xl [48] 6))) 1099511627776) (bc (Zhn [54, 52, 52] 8) (bc (Nat.ble (Nat.add (Za ((((Xl nm 16) ++ (Xl [48] 12)) ++ (Xl [48] 6)) ++ (Xl [48] 6))) (Za (Xl [54, 52, 52] 8))) 1099511627776) (bc (Nat.blt sz 1000) (bc (Zhn (Zk sz) 10) (bc (Nat.ble (Nat.add (Za (((((Xl nm 16) ++ (Xl [48] 12)) ++ (Xl [48] 6)) ++ (Xl [48] 6)) ++ (Xl [54, 52, 52] 8))) (Za (Xl (Zk sz) 10))) 1099511627776) (bc (Nat.ble (Nat.add (Za ((((((Xl nm 16) ++ (Xl [48] 12)) ++ (Xl [48] 6)) ++ (Xl [48] 6)) ++ (Xl [54, 52, 52] 8)) ++ (Xl (Zk sz) 10))) 2) 1099511627776) (some (.str (((((((Xl nm 16) ++ (Xl [48] 12)) ++ (Xl [48] 6)) ++ (Xl [48] 6)) ++ (Xl [54, 52, 52] 8)) ++ (Xl (Zk sz) 10)) ++ [96, 10]))) (none)) (none)) (none)) (none)) (none)) (none)) (none)) (none)) (none)) (none)) (none)) (none)) (none) := by kernel_rfl
def hdT (nm : List UInt8) (sz : Nat) : Bool := Nat.ble nm.length 16 && Nat.blt sz 1000
theorem head_eq {nm : List UInt8} {sz : Nat} (h : nm.length ≤ 16) (hz : sz < 1000) : Zn EHd Zr9 Zu 100 (.call 41 [.str nm, .int .i64 (.ofNat sz)] (W4 8 gl)) [] jW = some (.str (Zx nm sz)) := by
  have h2 : (Zk sz).length ≤ 10 := by have := (Zt sz).2; omega
  have w16 : (Xl nm 16).length ≤ 16 := Nat.le_of_eq (Vm h)
  have w12 : (Xl [48] 12).length ≤ 12 := by decide
  have w6 : (Xl [48] 6).length ≤ 6 := by decide
  have w8 : (Xl [54, 52, 52] 8).length ≤ 8 := by decide
  have w10 : (Xl (Zk sz) 10).length ≤ 10 := Nat.le_of_eq (Vm h2)
  have a1 := Zi w16 w12
  have a2 := Zi a1 w6
  have a3 := Zi a2 w6
  have a4 := Zi a3 w8
  have a5 := Zi a4 w10
  rw [Zs8]
  refine Zf (by unfold Zhn; rw [Ym, Zl h]; rfl) ?_
  refine Zf (by rfl) (Zf (Jk w16 w12 (by decide)) ?_)
  refine Zf (by rfl) (Zf (Jk a1 w6 (by decide)) ?_)
  refine Zf (by rfl) (Zf (Jk a2 w6 (by decide)) ?_)
  refine Zf (by rfl) (Zf (Jk a3 w8 (by decide)) ?_)
  refine Zf (Z4 hz) ?_
  refine Zf (by unfold Zhn; rw [Ym, Zl h2]; rfl) ?_
  refine Zf (Jk a4 w10 (by decide)) (Zf (Jk (y := [96, 10]) a5 (Nat.le_refl 2) (by decide)) ?_)
  unfold Zx Z1i
  simp only [List.append_assoc]
def Zeh : Nat → List AV → Option AV := fun f args => match args with
  | [.str s, .int .i64 (.ofNat n)] => bif Nat.beq f 41 && hdT s n then some (.str (Zx s n)) else none
  | _ => none
theorem Zvp : Vt Tryz.prog gl (Z2 Zeh) := Zlp fun f args v h => by
  unfold Zeh at h
  split at h
  case h_2 => cases h
  rename_i s n
  rw [Bool.cond_eq_ite] at h
  split at h
  case isFalse => cases h
  rename_i hb
  unfold hdT at hb
  simp only [Bool.and_eq_true, Nat.beq_eq, Nat.ble_eq, Nat.blt_eq] at hb
  obtain ⟨rfl, h1, h2⟩ := hb
  simp only [Option.some.injEq] at h
  subst h
  exact ⟨EHd, 100, Zr9, Zxr, Z15, Zez, by kernel_rfl, V3 (by rfl), [], head_eq h1 h2⟩
def Zyq (n : Nat) : Bool := match Zn EBg (fun f a H k => smC EBg f a H k) Zu 100 (.call 36 [.int .i64 (.ofNat n)] (W4 8 gl)) [] jW with
  | some (.str l) => leq l (Zk n)
  | _ => false
theorem Zxy : Zl3 140 Zyq = true := by kernel_rfl
def Ziw : Nat → List AV → Option AV := fun f args => match args with
  | [.int .i64 (.ofNat n)] => bif Nat.beq f 36 && Nat.blt n 140 then some (.str (Zk n)) else none
  | _ => none
theorem Z08 : Vt Tryz.prog gl (Z2 Ziw) := Zlp fun f args v h => by
  unfold Ziw at h
  split at h
  case h_2 => cases h
  rename_i n
  rw [Bool.cond_eq_ite] at h
  split at h
  case isFalse => cases h
  rename_i hb
  simp only [Bool.and_eq_true, Nat.beq_eq, Nat.blt_eq] at hb
  obtain ⟨rfl, h1⟩ := hb
  simp only [Option.some.injEq] at h
  subst h
  refine ⟨EBg, 100, fun f a H k => smC EBg f a H k, fun _ _ _ _ _ h => Zgs _ _ _ _ _ _ h, Zbg, Zez, by kernel_rfl, V3 (by rfl), [], ?_⟩
  have := Zge Zxy n h1
  unfold Zyq at this
  split at this
  · rename_i l e
    refine Eq.trans e ?_
    rw [W3, decide_eq_true_iff] at this
    rw [this]
  · cases this
end
end Go.Proofs.YtmppdannkpdpmaaGreatDoor
