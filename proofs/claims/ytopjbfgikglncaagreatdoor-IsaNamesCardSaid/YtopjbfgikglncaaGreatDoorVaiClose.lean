/- Environments out of lists of summaries; what a closed call leaves behind, as a summary of that call in whatever memory. -/
import Derived.Test.YtopjbfgikglncaaGreatDoorVaiFold
namespace Go.Vai
noncomputable section
abbrev Sm := Nat → List AV → AHeap → Option (AV × AHeap)
/-- What a summary says, the program does. -/
def SmOk (P : Program) (gl : List (Nat × List AV)) (sm : Sm) : Prop := ∀ f args H v H' M w cargs, sm f args H = some (v, H') → GlobOk gl w → HRel M H w → VRels M args cargs → CallsA P f cargs M H w (.ret v H')
def orSm (a b : Sm) : Sm := fun f args H => Option.rec (motive := fun _ => Option (AV × AHeap)) (b f args H) (fun r => some r) (a f args H)
def extSm (kinds : List (Nat × Nat × Nat)) : Sm := fun f args H => match extAt kinds f with
  | some (k, e) => extA k e args H
  | none => none
section
variable {P : Program} {gl : List (Nat × List AV)}
theorem SmOk.or {a b : Sm} (ha : SmOk P gl a) (hb : SmOk P gl b) : SmOk P gl (orSm a b) := by
  intro f args H v H' M w cargs h hw hr hv
  unfold orSm at h
  cases e : a f args H with
  | none => rw [e] at h; exact hb f args H v H' M w cargs h hw hr hv
  | some r =>
    rw [e] at h
    simp only [Option.some.injEq] at h
    subst h
    exact ha f args H v H' M w cargs e hw hr hv
theorem smOk_none : SmOk P gl noSm := fun _ _ _ _ _ _ _ _ h => by cases h
theorem smOk_ext {kinds : List (Nat × Nat × Nat)} (hK : extOk P kinds = true) : SmOk P gl (extSm kinds) := by
  intro f args H v H' M w cargs h _ hr ha
  unfold extSm at h
  split at h
  · rename_i k e hk
    exact ext_sound hK hk h hr ha
  · cases h
theorem envOk_sm {ng : Nat} {skip : List Nat} {sm : Sm} {I : List MEnt → AHeap → World → Prop} (hN : namesOk skip P.funcs.toList 0 = true) (hS : SmOk P gl sm) (hM : P.follows .mixedOrders = true)
    (hX : ∀ M H w, I M H w → GlobOk gl w) (hI : ∀ M H w M' H' w', I M H w → Ext M H w M' H' w' → I M' H' w') : EnvOk (envOf P ng skip sm) P I where
  tys := tysOk_of P ng skip _
  fns := fnsOk_of hN
  carry := hI
  mixed := hM
  sm := fun f args H v H' M w cargs _ h st ha => hS f args H v H' M w cargs h (hX _ _ _ st.i) st.hr ha
end

/-! ### What a call leaves -/
structure Obj1 where
  n : Nat
  e : Nat
  g : Option Nat
  fz : Nat
  ro : Bool
  mr : Bool
  vs : List (Option AV)
def getO (t : Tr AV) (k n : Nat) : List (Option AV) := Nat.rec (motive := fun _ => Nat → List (Option AV)) (fun _ => []) (fun _ ih k => t.get k :: ih (Nat.succ k)) n k
def packO : Option AObj → Option Obj1
  | some (.cells n t e g fz ro mk) => some ⟨n, e, g, fz, ro, mk, getO t 0 n⟩
  | _ => none
def pack (keep : List Nat) : Option TRes → Option (AV × List (Option Obj1))
  | some (.call (.ret v H)) => some (v, keep.map fun i => packO (H.get i))
  | _ => none
def putO (b : Nat) (keep : List Nat) : List (Option AV) → Nat → Tr AV
  | [], _ => .nil
  | x :: r, k => match x.bind (rnV b keep) with
    | some y => (putO b keep r (k + 1)).set k y
    | none => putO b keep r (k + 1)
def mkO (b : Nat) (keep : List Nat) (x : Obj1) : AObj := .cells x.n (putO b keep x.vs 0) x.e x.g x.fz x.ro x.mr
theorem getO_at : ∀ (n : Nat) (t : Tr AV) (k j : Nat) (x : AV), (getO t k n)[j]? = some (some x) → t.get (k + j) = some x
  | 0, t, k, j, x, h => by
    have h' : ([] : List (Option AV))[j]? = some (some x) := h
    simp at h'
  | n + 1, t, k, 0, x, h => by
    have h' : (t.get k :: getO t (k + 1) n)[0]? = some (some x) := h
    simpa using h'
  | n + 1, t, k, j + 1, x, h => by
    have h' : (t.get k :: getO t (k + 1) n)[j + 1]? = some (some x) := h
    have := getO_at n t (k + 1) j x (by simpa using h')
    rwa [show k + (j + 1) = k + 1 + j by omega]
theorem putO_get {b : Nat} {keep : List Nat} : ∀ (vs : List (Option AV)) (k i : Nat) (y : AV), (putO b keep vs k).get i = some y → ∃ j x, i = k + j ∧ vs[j]? = some (some x) ∧ rnV b keep x = some y
  | [], k, i, y, h => by simp [putO, Tr.get_nil] at h
  | x :: r, k, i, y, h => by
    have tail : (putO b keep r (k + 1)).get i = some y → ∃ j z, i = k + j ∧ (x :: r)[j]? = some (some z) ∧ rnV b keep z = some y := fun h => by
      obtain ⟨j, z, e, h1, h2⟩ := putO_get r (k + 1) i y h
      exact ⟨j + 1, z, by omega, by simpa using h1, h2⟩
    simp only [putO] at h
    split at h
    · rename_i z hz
      rcases Tr.get_set h with ⟨rfl, rfl⟩ | ⟨_, h⟩
      · obtain ⟨a, rfl, ha⟩ := Option.bind_eq_some_iff.1 hz
        exact ⟨0, a, rfl, rfl, ha⟩
      · exact tail h
    · exact tail h
theorem mkO_robj {b : Nat} {keep : List Nat} {o : AObj} {x : Obj1} (h : packO (some o) = some x) : RObj b keep o (mkO b keep x) ∧ o.isRo = x.ro := by
  unfold packO at h
  split at h
  · rename_i n t e g fz ro mk he
    cases he
    simp only [Option.some.injEq] at h
    subst h
    refine ⟨⟨putO b keep (getO t 0 n) 0, rfl, fun i y hy => ?_⟩, rfl⟩
    obtain ⟨j, z, rfl, h1, h2⟩ := putO_get _ _ _ _ hy
    exact ⟨z, getO_at n t 0 j z h1, h2⟩
  · cases h

structure Done where
  f : Nat
  args : List AV
  keep : List Nat
  v : AV
  os : List Obj1
def eqPlain : AV → AV → Bool
  | .str a, .str b => leq a b
  | .int j a, .int k b => sameKind j k && ieq a b
  | .bool a, .bool b => a == b
  | _, _ => false
theorem eqPlain_iff {x y : AV} (h : eqPlain x y = true) : x = y := by
  unfold eqPlain at h
  split at h
  · rw [leq_iff] at h; simp at h; rw [h]
  · rw [Bool.and_eq_true, sameKind_iff, ieq_iff] at h; simp at h; rw [h.1, h.2]
  · simp at h; rw [h]
  · cases h
def eqPlains : List AV → List AV → Bool
  | [], [] => true
  | a :: as, b :: bs => eqPlain a b && eqPlains as bs
  | _, _ => false
theorem eqPlains_iff : ∀ {l m : List AV}, eqPlains l m = true → l = m
  | [], [], _ => rfl
  | [], _ :: _, h => by simp [eqPlains] at h
  | _ :: _, [], h => by simp [eqPlains] at h
  | a :: as, b :: bs, h => by
    simp only [eqPlains, Bool.and_eq_true] at h
    rw [eqPlain_iff h.1, eqPlains_iff h.2]
def closedSm (c : Done) : Sm := fun f args H => bif Nat.beq f c.f && eqPlains c.args args then (match rnV H.next c.keep c.v with
  | some u => some (u, news H (c.os.map (mkO H.next c.keep)))
  | none => none) else none

section
variable {P : Program} {gl : List (Nat × List AV)}
/-- A call that the interpreter answers, from known memory. -/
theorem body_closed {E : Env} {f : FuncId} {args : List AV} {cargs : List Value} {n : Nat} {v : AV} {H1 : AHeap} (hE : ∀ w, GlobOk gl w → EnvOk E P (Kept gl w)) (hgl : (gl.all fun x => Nat.blt x.1 E.ng) = true) (hf : (E.fn f).isSome = true)
    (ha : VRels (mGlob E.ng 0) args cargs) (h : run E n (.call f args (gHeap E.ng gl)) = some (.call (.ret v H1))) : BodyTo P gl f cargs fun x H => x = v ∧ H = H1 := by
  intro w hw
  obtain ⟨fn, hfn⟩ := Option.isSome_iff_exists.1 hf
  have hr : HRel (mGlob E.ng 0) (gHeap E.ng gl) w := gHeap_rel (mGlob_len _ _) fun g av hm => by
    have hg : g < E.ng := by
      have := List.all_eq_true.1 hgl _ hm
      simpa using this
    exact ⟨hg, by rw [mGlob_get _ 0 g hg]; simp, hw g av hm⟩
  have kp : Kept gl w (mGlob E.ng 0) (gHeap E.ng gl) w := ⟨hw, Keeps.refl w, fun b _ ⟨id, o, m, e, r, _⟩ => by rw [gHeap_ro _ _ id o e] at r; cases r⟩
  have := callsA_enters (hE w hw) hfn (run_sound (hE w hw) h ⟨hr, grel_glob E, kp⟩ ha)
  refine ⟨this.1, CallsIn.mono this.2 ?_⟩
  intro e w' hp
  cases e with
  | outgrown => exact hp.elim
  | panicked ch => obtain ⟨_, _, _, _, e, _⟩ := hp; cases e
  | returned cv =>
    obtain ⟨v2, H2, M', e, x1, x2, x3⟩ := hp
    cases e
    exact ⟨cv, v, H1, M', rfl, x2, (kept_carried hw).ext _ _ _ _ _ _ kp x1, x3, rfl, rfl⟩

theorem VRels.anyPlain {args : List AV} (h : ∀ v ∈ args, Plain v) {M : List MEnt} {cargs : List Value} (ha : VRels M args cargs) (M' : List MEnt) : VRels M' args cargs := by
  have hr : ∀ (l : List AV), (∀ v ∈ l, Plain v) → rnVs 0 [] l = some l := by
    intro l
    induction l with
    | nil => intro _; rfl
    | cons a l ih => intro h; simp only [rnVs, h a List.mem_cons_self 0 [], ih fun v hv => h v (List.mem_cons_of_mem _ hv)]
  exact rnVs_rel (b := 0) (keep := []) (fun k i hk => by simp at hk) args args cargs (hr args h) ha

theorem closed_ok {E : Env} {c : Done} {n : Nat} (hE : ∀ w, GlobOk gl w → EnvOk E P (Kept gl w)) (hgl : (gl.all fun x => Nat.blt x.1 E.ng) = true) (hf : (E.fn c.f).isSome = true)
    (hp : ∀ v ∈ c.args, Plain v) (h : pack c.keep (run E n (.call c.f c.args (gHeap E.ng gl))) = some (c.v, c.os.map some)) (hk : c.keep.Nodup) (hro : (c.os.all fun o => !o.ro) = true) : SmOk P gl (closedSm c) := by
  intro f args H v H' M w cargs hs hw hr ha
  unfold closedSm at hs
  cases hb : Nat.beq f c.f && eqPlains c.args args with
  | false => rw [hb] at hs; cases hs
  | true =>
    rw [hb] at hs
    simp only [cond_true] at hs
    rw [Bool.and_eq_true, Nat.beq_eq] at hb
    obtain ⟨rfl, hb⟩ := hb
    have := eqPlains_iff hb
    subst this
    split at hs
    case h_2 => cases hs
    rename_i u hu
    simp only [Option.some.injEq, Prod.mk.injEq] at hs
    obtain ⟨rfl, rfl⟩ := hs
    unfold pack at h
    split at h
    case h_2 => cases h
    rename_i v1 H1 hrun
    simp only [Option.some.injEq, Prod.mk.injEq] at h
    obtain ⟨rfl, h2⟩ := h
    refine BodyTo.calls (body_closed hE hgl hf (VRels.anyPlain hp ha _) hrun) hw hr ?_
    rintro v2 H2 ⟨rfl, rfl⟩
    have hl : c.os.length = c.keep.length := by have := congrArg List.length h2; simpa using this.symm
    refine ⟨c.keep, hk, by simpa using hl, hu, fun j x hx => ?_⟩
    rw [List.getElem?_map] at hx
    obtain ⟨o, ho, rfl⟩ := Option.map_eq_some_iff.1 hx
    have hj : j < c.os.length := (List.getElem?_eq_some_iff.1 ho).1
    have h3 := congrArg (·[j]?) h2
    simp only [List.getElem?_map, ho, Option.map_some] at h3
    obtain ⟨i, hi, h4⟩ := Option.map_eq_some_iff.1 h3
    cases hg : H2.get i with
    | none => rw [hg] at h4; cases h4
    | some p =>
      rw [hg] at h4
      obtain ⟨r1, r2⟩ := mkO_robj (b := H.next) (keep := c.keep) h4
      refine ⟨i, p, hi, hg, r1, ?_⟩
      rw [r2]
      have := List.all_eq_true.1 hro o (List.mem_of_getElem? ho)
      simpa using this
theorem plain_str (s : List UInt8) : Plain (.str s) := fun _ _ => rfl
theorem plain_int (k : IntKind) (n : Int) : Plain (.int k n) := fun _ _ => rfl
theorem plain_bool (b : Bool) : Plain (.bool b) := fun _ _ => rfl
end
/-- A closed call's truth value. -/
def retSm (f : Nat) (b : Bool) : Sm := fun g args H => match args with
  | [] => bif Nat.beq g f then some (.bool b, H) else none
  | _ => none
theorem smOk_ret {P : Program} {gl : List (Nat × List AV)} {f : Nat} {b : Bool} (h : ∀ w, GlobOk gl w → (callFunc f #[]).run P w = .ok (.enter f #[]) w ∧ Calls P f #[] w fun e w' => e = .returned (.bool b) ∧ Keeps w w') : SmOk P gl (retSm f b) := by
  intro g args H v H' M w cargs hs hw hr ha
  unfold retSm at hs
  split at hs
  case h_2 => cases hs
  cases hb : Nat.beq g f with
  | false => rw [hb] at hs; cases hs
  | true =>
    rw [hb] at hs
    simp only [cond_true, Option.some.injEq, Prod.mk.injEq] at hs
    obtain ⟨rfl, rfl⟩ := hs
    rw [Nat.beq_eq] at hb
    subst hb
    match cargs, ha with
    | [], _ =>
      obtain ⟨h1, h2⟩ := h w hw
      refine .inr ⟨h1, callsIn_wide.2 (h2.mono fun e w' ⟨he, hk⟩ => ?_)⟩
      subst he
      obtain ⟨x1, x2⟩ := hk.ext hr
      exact ⟨_, _, M, rfl, x1, x2, rfl⟩
/-- A summary of some functions, with tests; the others plain. -/
def orSmk {α : Type} (a b : Smk α) (c : FuncId → Bool) : Smk α := fun f args H k => bc (c f) (a f args H k) (b f args H k)
theorem SmkOk.or {α : Type} {E : Env} {a b : Smk α} {c : FuncId → Bool} (ha : ∀ f args H k r, c f = true → a f args H k = some r → ∃ v H', E.sm f args H = some (v, H') ∧ k v H' = some r) (hb : SmkOk E b) : SmkOk E (orSmk a b c) := by
  intro f args H k r h
  unfold orSmk at h
  cases hc : c f with
  | true => rw [hc] at h; exact ha f args H k r hc h
  | false => rw [hc] at h; exact hb f args H k r h
/-- A call's start, of which only the arguments are known. -/
theorem ren_start {ng : Nat} {gl : List (Nat × List AV)} {fn : AFunc} {args : List AV} (ha : ∀ v ∈ args, Plain v) : Ren ng (List.range ng) (newFr fn args) (gHeap ng gl) (newFr fn args) (mkH ng []) where
  glob := fun g hg => by simp [hg]
  lt := fun i hi => by rw [gHeap_next]; simpa using hi
  nodup := List.nodup_range
  next := by simp [mkH, news]
  obj := fun k u h => by obtain ⟨_, _, hj⟩ := mkH_get h; simp at hj
  n := rfl
  rd := rfl
  df := ⟨rfl, rfl⟩
  t := fun i y hy => by
    refine ⟨y, hy, ?_⟩
    rcases Tr.get_putAll _ hy with ⟨q, rfl, hq⟩ | ⟨_, hu⟩
    · exact ha y (List.mem_of_getElem? hq) 0 _
    · simp [Tr.get_nil] at hu
/-- A function's truth value, out of its body. -/
theorem calls_bool {P : Program} {E : Env} {gl : List (Nat × List AV)} {f : FuncId} {fn : AFunc} {t : Nat} {args : List AV} {cargs : List Value} {b : Bool} (hE : ∀ w, GlobOk gl w → EnvOk E P (Kept gl w)) (hgl : (gl.all fun x => Nat.blt x.1 E.ng) = true) (hf : E.fn f = some fn) (hr : fn.results = [.tmp t])
    (hp : ∀ v ∈ args, Plain v) (ha : VRels (mGlob E.ng 0) args cargs) (h : ∀ w, GlobOk gl w → Tri E P (Kept gl w) none fn.body (newFr fn args) (mkH E.ng []) fun e fr _ => (e = .normal ∨ e = .ret) ∧ fr.df = [] ∧ fr.t.get t = some (.bool b)) {w : World} (hw : GlobOk gl w) :
    Calls P f cargs.toArray w fun e w' => e = .returned (.bool b) ∧ Keeps w w' := by
  have hb : BodyTo P gl f cargs fun v _ => v = .bool b := by
    refine body_to hE hgl hf ha fun w hw => Tri.ren (kept_carried hw) (ren_start hp) (Tri.mono (h w hw) ?_)
    rintro e fr H ⟨he, h1, h2⟩
    exact ⟨he, h1, [.bool b], by rw [hr]; simp [resA, h2], rfl⟩
  refine Calls.mono (callsIn_wide.1 (hb w hw).2) ?_
  rintro e w' ⟨cv, v, H, M, rfl, _, kp, hv, rfl⟩
  simp only [VRel] at hv
  exact ⟨by rw [hv], kp.2.1⟩
end
end Go.Vai
