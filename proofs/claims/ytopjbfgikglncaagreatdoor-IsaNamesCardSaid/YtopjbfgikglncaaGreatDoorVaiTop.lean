/- The interpreter over a program, with the library's stand-ins and closed calls as summaries; a law's call from what is known of memory. -/
import Derived.Test.YtopjbfgikglncaaGreatDoorVaiExt
namespace Go.Vai

def retAt : List (Nat × Bool) → Nat → Option Bool
  | [], _ => none
  | (f, b) :: r, g => bif Nat.beq f g then some b else retAt r g
theorem retAt_mem : ∀ {l : List (Nat × Bool)} {g : Nat} {b : Bool}, retAt l g = some b → (g, b) ∈ l := by
  intro l
  induction l with
  | nil => intro g r h; cases h
  | cons x l ih =>
    intro g r h
    obtain ⟨f, b⟩ := x
    simp only [retAt, Bool.cond_eq_ite, Nat.beq_eq] at h
    split at h
    · rename_i hf
      simp only [Option.some.injEq] at h; subst h; subst hf
      exact List.mem_cons_self
    · exact List.mem_cons_of_mem _ (ih h)

noncomputable def smOf (kinds : List (Nat × Nat × Nat)) (rets : List (Nat × Bool)) : Nat → List AV → AHeap → Option (AV × AHeap) := fun f args H =>
  match extAt kinds f with
  | some (k, e) => extA k e args H
  | none => match args, retAt rets f with
    | [], some b => some (.bool b, H)
    | _, _ => none

/-- What is known of memory at the start: some package-level variables, to be read. -/
noncomputable def gHeap (ng : Nat) : List (Nat × List AV) → AHeap
  | [] => bare ng
  | (g, av) :: r => (gHeap ng r).put g (.cells av.length (Tr.nil.putAll 0 av) 0 none 0 true false)
theorem gHeap_next (ng : Nat) : ∀ l, (gHeap ng l).next = ng
  | [] => rfl
  | (_, _) :: r => gHeap_next ng r
theorem gHeap_ro (ng : Nat) : ∀ l id o, (gHeap ng l).get id = some o → o.isRo = true
  | [], _, _, h => by cases h
  | (_, _) :: r, id, o, h => by
    rcases AHeap.get_put h with ⟨_, rfl⟩ | ⟨_, h⟩
    · rfl
    · exact gHeap_ro ng r id o h
theorem gHeap_rel {w : World} {ng : Nat} : ∀ {l : List (Nat × List AV)} {M : List MEnt}, M.length = ng → (∀ g av, (g, av) ∈ l → g < ng ∧ M[g]? = some ⟨g, 0, 0, 0⟩ ∧ ∃ cs e lo hi, w.heap[g]? = some (.cells cs e (lo, hi)) ∧ VRels [] av cs.toList) → HRel M (gHeap ng l) w
  | [], M, hl, _ => ⟨hl, fun id o h => (by cases h), fun i j o p m k h => (by cases h)⟩
  | (g, av) :: r, M, hl, h => by
    have ih := gHeap_rel (l := r) hl fun g av hm => h g av (List.mem_cons_of_mem _ hm)
    obtain ⟨hg, hM, cs, e, lo, hi, hc, hv⟩ := h g av List.mem_cons_self
    refine ⟨ih.len, fun id o ho => ?_, fun i j o p m k hi hj _ _ _ _ => ⟨gHeap_ro ng _ i o hi, gHeap_ro ng _ j p hj⟩⟩
    rcases AHeap.get_put ho with ⟨rfl, rfl⟩ | ⟨_, ho⟩
    · refine ⟨_, hM, cs, e, lo, hi, hc, (fun e => by cases e), by have := hv.length; simp at this ⊢; omega, (fun gs e => by cases e), (fun e => by cases e), (fun e => by cases e), fun i v hv' => ?_⟩
      rcases Tr.get_putAll _ hv' with ⟨q, rfl, hq⟩ | ⟨_, hu⟩
      · obtain ⟨x, hx, rr⟩ := hv.get q v hq
        exact ⟨by simpa using (List.getElem?_eq_some_iff.1 hq).1, x, by simpa using hx, rr.mono (List.nil_prefix)⟩
      · simp [Tr.get_nil] at hu
    · exact ih.obj id o ho

/-- The listed package-level variables hold what they are listed with. -/
def GlobOk (gl : List (Nat × List AV)) (w : World) : Prop := ∀ g av, (g, av) ∈ gl → ∃ cs e lo hi, w.heap[g]? = some (.cells cs e (lo, hi)) ∧ VRels [] av cs.toList
theorem GlobOk.ext {gl : List (Nat × List AV)} {w0 w : World} (h : GlobOk gl w0) {M0 M : List MEnt} {n : Nat} {H : AHeap} (x : Ext M0 (gHeap n gl) w0 M H w) : GlobOk gl w := fun g av hm => by
  obtain ⟨cs, e, lo, hi, h1, h2⟩ := h g av hm
  have hlt : g < w0.heap.size := (Array.getElem?_eq_some_iff.1 h1).1
  exact ⟨cs, e, lo, hi, by rw [(x.old g hlt (fun ⟨id, o, m, e, r, _⟩ => by rw [gHeap_ro n gl id o e] at r; cases r)).1]; exact h1, h2⟩

/-- Closed calls whose answers are known, whatever the world. -/
def RetsOk (P : Program) (gl : List (Nat × List AV)) (rets : List (Nat × Bool)) : Prop := ∀ f b, (f, b) ∈ rets → ∀ w, GlobOk gl w → (callFunc f #[]).run P w = .ok (.enter f #[]) w ∧ Calls P f #[] w fun e w' => e = .returned (.bool b) ∧ Keeps w w'

theorem Keeps.ext {w w' : World} (k : Keeps w w') {M : List MEnt} {H : AHeap} (hr : HRel M H w) : Ext M H w M H w' ∧ HRel M H w' :=
  ⟨⟨List.prefix_refl _, k.size, k.os, k.tape, k.output, fun b hb hn => ⟨k.old b hb, hn⟩, fun _ _ h => h⟩,
   ⟨hr.len, fun id o e => by
      obtain ⟨m, hm, r⟩ := hr.obj id o e
      exact ⟨m, hm, r.carry (List.prefix_refl _) (k.old _ r.lt)⟩, hr.inj⟩⟩

theorem envOk_of {P : Program} {ng : Nat} {skip : List Nat} {kinds : List (Nat × Nat × Nat)} {gl : List (Nat × List AV)} {rets : List (Nat × Bool)} {I : List MEnt → AHeap → World → Prop} (hN : namesOk skip P.funcs.toList 0 = true) (hK : extOk P kinds = true) (hR : RetsOk P gl rets) (hM : P.follows .mixedOrders = true)
    (hX : ∀ M H w, I M H w → GlobOk gl w) (hI : ∀ M H w M' H' w', I M H w → Ext M H w M' H' w' → I M' H' w') : EnvOk (envOf P ng skip (smOf kinds rets)) P I where
  tys := tysOk_of P ng skip _
  fns := fnsOk_of hN
  carry := hI
  mixed := hM
  sm := by
    intro f args H v H' M w cargs _ h st ha
    simp only [envOf, smOf] at h
    split at h
    · rename_i k e hk
      exact ext_sound hK hk h st.hr ha
    · split at h
      · rename_i b hb
        simp only [Option.some.injEq, Prod.mk.injEq] at h
        obtain ⟨rfl, rfl⟩ := h
        obtain ⟨h1, h2⟩ := hR _ _ (retAt_mem hb) w (hX _ _ _ st.i)
        match cargs, ha with
        | [], _ =>
          refine .inr ⟨h1, callsIn_wide.2 (h2.mono fun e w' ⟨he, hk⟩ => ?_)⟩
          subst he
          obtain ⟨x1, x2⟩ := hk.ext st.hr
          exact ⟨_, _, M, rfl, x1, x2, rfl⟩
      · cases h

/-- A call that the interpreter answers by a truth value, from what is known of memory, none of which may be written. -/
theorem open_call {P : Program} {E : Env} {M0 : List MEnt} {H0 : AHeap} {w : World} (hE : EnvOk E P (fun M H w' => Ext M0 H0 w M H w')) (hr : HRel M0 H0 w) (hg : GRel E M0) (hro : ∀ id o, H0.get id = some o → o.isRo = true)
    {n : Nat} {f : FuncId} {args : List AV} {cargs : List Value} (ha : VRels M0 args cargs) {b : Bool} (hf : (E.fn f).isSome = true) (h : TRes.isB b (run E n (.call f args H0)) = true) :
    (callFunc f cargs.toArray).run P w = .ok (.enter f cargs.toArray) w ∧ Calls P f cargs.toArray w fun e w' => e = .returned (.bool b) ∧ Keeps w w' := by
  obtain ⟨H', hrun⟩ := TRes.isB_some h
  obtain ⟨fn, hfn⟩ := Option.isSome_iff_exists.1 hf
  have st : St E (fun M H w' => Ext M0 H0 w M H w') M0 H0 w := ⟨hr, hg, Ext.refl _ _ _⟩
  have := callsA_enters hE hfn (run_sound hE hrun st ha)
  refine ⟨this.1, Calls.mono (callsIn_wide.1 this.2) ?_⟩
  intro e w' hp
  cases e with
  | outgrown => exact hp.elim
  | panicked ch => obtain ⟨_, _, _, _, e, _⟩ := hp; cases e
  | returned cv =>
    obtain ⟨v, H2, M', e, x1, x2, x3⟩ := hp
    cases e
    simp only [VRel] at x3; subst x3
    exact ⟨rfl, x1.size, x1.os, x1.tape, x1.output, fun k hk => (x1.old k hk (fun ⟨id, o, m, e, r, _⟩ => by rw [hro id o e] at r; cases r)).1⟩

/-- A law's call: the listed variables are known, and the arguments. 'ex': what the arguments lead to, of which nothing is known. -/
theorem law_call {P : Program} {ng : Nat} {skip : List Nat} {kinds : List (Nat × Nat × Nat)} {gl : List (Nat × List AV)} {rets : List (Nat × Bool)} (hN : namesOk skip P.funcs.toList 0 = true) (hK : extOk P kinds = true) (hR : RetsOk P gl rets) (hM : P.follows .mixedOrders = true)
    (hgl : (gl.all fun x => Nat.blt x.1 ng) = true) {w : World} (hw : GlobOk gl w) (ex : List MEnt) {args : List AV} {cargs : List Value} (ha : VRels (mGlob ng 0 ++ ex) args cargs) {n f : Nat} {b : Bool} (hf : ((envOf P ng skip (smOf kinds rets)).fn f).isSome = true)
    (h : TRes.isB b (run (envOf P ng skip (smOf kinds rets)) n (.call f args (gHeap (ng + ex.length) gl))) = true) :
    (callFunc f cargs.toArray).run P w = .ok (.enter f cargs.toArray) w ∧ Calls P f cargs.toArray w fun e w' => e = .returned (.bool b) ∧ Keeps w w' := by
  refine open_call (M0 := mGlob ng 0 ++ ex) (envOk_of hN hK hR hM (fun _ _ _ x => hw.ext x) fun _ _ _ _ _ _ a b => a.trans b) (gHeap_rel (by simp [mGlob_len]) fun g av hm => ?_) ((grel_glob _).mono (List.prefix_append _ _)) (gHeap_ro _ _) ha hf h
  have hg : g < ng := by
    have := List.all_eq_true.1 hgl _ hm
    simpa using this
  refine ⟨by omega, ?_, hw g av hm⟩
  rw [List.getElem?_append_left (by rw [mGlob_len]; exact hg), mGlob_get ng 0 g hg]
  simp

/-- A call without arguments. -/
theorem ret_of {P : Program} {ng : Nat} {skip : List Nat} {kinds : List (Nat × Nat × Nat)} {gl : List (Nat × List AV)} {rets : List (Nat × Bool)} (hN : namesOk skip P.funcs.toList 0 = true) (hK : extOk P kinds = true) (hR : RetsOk P gl rets) (hM : P.follows .mixedOrders = true)
    (hgl : (gl.all fun x => Nat.blt x.1 ng) = true) {n f : Nat} {b : Bool} (hf : ((envOf P ng skip (smOf kinds rets)).fn f).isSome = true) (h : TRes.isB b (run (envOf P ng skip (smOf kinds rets)) n (.call f [] (gHeap ng gl))) = true) :
    ∀ w, GlobOk gl w → (callFunc f #[]).run P w = .ok (.enter f #[]) w ∧ Calls P f #[] w fun e w' => e = .returned (.bool b) ∧ Keeps w w' := fun _w hw =>
  law_call hN hK hR hM hgl hw [] (args := []) (cargs := []) trivial hf h

theorem rets_nil {P : Program} {gl : List (Nat × List AV)} : RetsOk P gl [] := fun _ _ h => by cases h
theorem rets_one {P : Program} {gl : List (Nat × List AV)} {f : Nat} {b : Bool} (h : ∀ w, GlobOk gl w → (callFunc f #[]).run P w = .ok (.enter f #[]) w ∧ Calls P f #[] w fun e w' => e = .returned (.bool b) ∧ Keeps w w') : RetsOk P gl [(f, b)] := fun g c hm => by
  simp only [List.mem_cons, Prod.mk.injEq, List.not_mem_nil, or_false] at hm
  obtain ⟨rfl, rfl⟩ := hm
  exact h
end Go.Vai
