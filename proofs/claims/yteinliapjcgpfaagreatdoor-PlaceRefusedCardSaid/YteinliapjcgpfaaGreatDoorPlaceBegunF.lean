/- What the kernel says of the pieces of foundrylaw23.begun. -/
import Derived.Test.YteinliapjcgpfaaGreatDoorReadD
import Derived.Test.YteinliapjcgpfaaGreatDoorVaiFreshJ
import Derived.Test.YteinliapjcgpfaaGreatDoorVaiClose
import Derived.KernelRfl
namespace Go.Proofs.YteinliapjcgpfaaGreatDoor
open Go Go.Vai
theorem ext_ok : extOk Tryz.prog kinds = true := by kernel_rfl
theorem names_ok0 : namesOk [] Tryz.prog.funcs.toList 0 = true := by kernel_rfl
theorem mixed_ok : Tryz.prog.follows .mixedOrders = true := by kernel_rfl
theorem gl_ok : (gl.all fun x => Nat.blt x.1 6) = true := by kernel_rfl
theorem e1_ok (w : World) (hw : GlobOk gl w) : EnvOk E1 Tryz.prog (Kept gl w) := envOk_sm names_ok0 (smOk_ext ext_ok) mixed_ok (fun _ _ _ h => h.1) (kept_carried hw).ext
theorem hasR : (E1.fn 8).isSome = true := by kernel_rfl
theorem readD_keep : readD.keep.Nodup := by decide
theorem readD_ro : (readD.os.all fun o => !o.ro) = true := by kernel_rfl
theorem readD_ok : SmOk Tryz.prog gl (closedSm readD) := closed_ok (E := E1) (n := 100000) e1_ok gl_ok hasR (fun v hv => by
  obtain rfl : v = .str dflt := List.mem_singleton.1 hv
  exact plain_str _) (by have := readD_run; rw [runR_eq] at this; exact this) readD_keep readD_ro
noncomputable section
def sm2 : Sm := orSm (extSm kinds) (closedSm readD)
theorem sm2_ok : SmOk Tryz.prog gl sm2 := (smOk_ext ext_ok).or readD_ok
def E2 : Env := envOf Tryz.prog 6 [8] sm2
theorem e2_ok (w : World) (hw : GlobOk gl w) : EnvOk E2 Tryz.prog (Kept gl w) := envOk_sm (by kernel_rfl) sm2_ok mixed_ok (fun _ _ _ h => h.1) (kept_carried hw).ext
def fnB : AFunc := (E2.fn 5).getD default
theorem fnB_eq : E2.fn 5 = some fnB := by kernel_rfl
def L : List Code := flat fnB.body
def ih2 : Task → Option TRes := runR E2 100000
def st1 : Option TRes := codeL E2 ih2 (L.take 2) (newFr fnB []) (gHeap E2.ng gl)
def fr1 : AFr := getFr st1
def H1 : AHeap := getH st1
def c2 : Code := (L.drop 2).headD .skip
def ops2 : Array Oper := regOps c2
def idOf : Code → Nat
  | .region i _ _ => i
  | _ => 0
theorem c2_eq : c2 = .region (idOf c2) ops2 true := by kernel_rfl
set_option maxRecDepth 100000
theorem st1_ok : isNormal st1 = true := by kernel_rfl
def n0 : Nat := H1.next
def nn : Nat := fr1.n
def frC : Tr AV := flFrC E2 ops2 n0 9
def vals : List AV := flValsOf ops2 9 frC
def rows : List (TypeId × List AV) := flRowsOf E2 ops2 n0 9 frC
def nms : List (List Nat) := [[0], [0], [2], [2], [0, 2, 4], [], [6], [4, 6], [8]]
theorem fl_ok : flOk ops2 n0 9 nn vals rows frC nms = true := by kernel_rfl
theorem kind0 : (ops2[0]?).map (fun o => (freshOp o.op, execA E2 ⟨.nil, n0 + 0⟩ frC o)) = some (true, some (.val (flVal vals 0) (newRowA ⟨.nil, n0 + 0⟩ (flRow rows 0).1 (flRow rows 0).2))) := by kernel_rfl
theorem kind1 (H : AHeap) : (ops2[1]?).map (fun o => (freshOp o.op, execA E2 H frC o)) = some (false, some (.val (flVal vals 1) H)) := by kernel_rfl
theorem kind2 : (ops2[2]?).map (fun o => (freshOp o.op, execA E2 ⟨.nil, n0 + 2⟩ frC o)) = some (true, some (.val (flVal vals 2) (newRowA ⟨.nil, n0 + 2⟩ (flRow rows 2).1 (flRow rows 2).2))) := by kernel_rfl
theorem kind3 (H : AHeap) : (ops2[3]?).map (fun o => (freshOp o.op, execA E2 H frC o)) = some (false, some (.val (flVal vals 3) H)) := by kernel_rfl
theorem kind4 : (ops2[4]?).map (fun o => (freshOp o.op, execA E2 ⟨.nil, n0 + 4⟩ frC o)) = some (true, some (.val (flVal vals 4) (newRowA ⟨.nil, n0 + 4⟩ (flRow rows 4).1 (flRow rows 4).2))) := by kernel_rfl
theorem kind5 (H : AHeap) : (ops2[5]?).map (fun o => (freshOp o.op, execA E2 H frC o)) = some (false, some (.val (flVal vals 5) H)) := by kernel_rfl
theorem kind6 : (ops2[6]?).map (fun o => (freshOp o.op, execA E2 ⟨.nil, n0 + 6⟩ frC o)) = some (true, some (.val (flVal vals 6) (newRowA ⟨.nil, n0 + 6⟩ (flRow rows 6).1 (flRow rows 6).2))) := by kernel_rfl
theorem kind7 (H : AHeap) : (ops2[7]?).map (fun o => (freshOp o.op, execA E2 H frC o)) = some (false, some (.val (flVal vals 7) H)) := by kernel_rfl
theorem kind8 : (ops2[8]?).map (fun o => (freshOp o.op, execA E2 ⟨.nil, n0 + 8⟩ frC o)) = some (true, some (.val (flVal vals 8) (newRowA ⟨.nil, n0 + 8⟩ (flRow rows 8).1 (flRow rows 8).2))) := by kernel_rfl
theorem kind (j : Nat) (o : Oper) (hj : j < 9) (ho : ops2[j]? = some o) : (freshOp o.op = false ∧ ∀ H, execA E2 H frC o = some (.val (flVal vals j) H)) ∨ (freshOp o.op = true ∧ execA E2 ⟨.nil, n0 + j⟩ frC o = some (.val (flVal vals j) (newRowA ⟨.nil, n0 + j⟩ (flRow rows j).1 (flRow rows j).2))) :=
  match j, hj, ho with
  | 0, _, ho => .inr (by
    have h := kind0
    rw [ho] at h
    simp only [Option.map_some, Option.some.injEq, Prod.mk.injEq] at h
    exact h)
  | 1, _, ho => .inl (by
    have h := kind1
    rw [ho] at h
    simp only [Option.map_some, Option.some.injEq, Prod.mk.injEq] at h
    exact ⟨(h ⟨.nil, 0⟩).1, fun H => (h H).2⟩)
  | 2, _, ho => .inr (by
    have h := kind2
    rw [ho] at h
    simp only [Option.map_some, Option.some.injEq, Prod.mk.injEq] at h
    exact h)
  | 3, _, ho => .inl (by
    have h := kind3
    rw [ho] at h
    simp only [Option.map_some, Option.some.injEq, Prod.mk.injEq] at h
    exact ⟨(h ⟨.nil, 0⟩).1, fun H => (h H).2⟩)
  | 4, _, ho => .inr (by
    have h := kind4
    rw [ho] at h
    simp only [Option.map_some, Option.some.injEq, Prod.mk.injEq] at h
    exact h)
  | 5, _, ho => .inl (by
    have h := kind5
    rw [ho] at h
    simp only [Option.map_some, Option.some.injEq, Prod.mk.injEq] at h
    exact ⟨(h ⟨.nil, 0⟩).1, fun H => (h H).2⟩)
  | 6, _, ho => .inr (by
    have h := kind6
    rw [ho] at h
    simp only [Option.map_some, Option.some.injEq, Prod.mk.injEq] at h
    exact h)
  | 7, _, ho => .inl (by
    have h := kind7
    rw [ho] at h
    simp only [Option.map_some, Option.some.injEq, Prod.mk.injEq] at h
    exact ⟨(h ⟨.nil, 0⟩).1, fun H => (h H).2⟩)
  | 8, _, ho => .inr (by
    have h := kind8
    rw [ho] at h
    simp only [Option.map_some, Option.some.injEq, Prod.mk.injEq] at h
    exact h)
  | n + 9, h, _ => absurd h (by omega)
theorem flit : FLit E2 ops2 n0 9 nn (flVal vals) (flRow rows) frC (flNm n0 nms) := flit_of fl_ok kind
def HE : AHeap := flHeap H1 9 (flRow rows) [0, 2, 4, 6, 8]
def HF : AHeap := getSkip (((ops2[9]?).bind fun o => execA E2 HE frC o))
theorem last_ok : (ops2[9]?).map (fun o => (isNo o.dst, isSkip (execA E2 HE frC o))) = some (true, true) := by kernel_rfl
theorem fresh_ok : ([0, 2, 4, 6, 8].all fun k => Nat.blt k 9 && (match ops2[k]? with | some o => freshOp o.op | none => false)) = true := by kernel_rfl
theorem small : Nat.blt (n0 + 9) 1000000 = true := by kernel_rfl
def fr3 : AFr := flFrame (flVal vals) ops2 fr1
theorem L_eq : L = L.take 2 ++ .region (idOf c2) ops2 true :: L.drop 3 := by kernel_rfl
theorem end_ok : isRetB E2 fnB.results true (codeL E2 ih2 (L.drop 3) fr3 HF) = true := by kernel_rfl
theorem st1_eq : codeL E2 ih2 (L.take 2) (newFr fnB []) (gHeap E2.ng gl) = some (.code .normal fr1 H1) := by
  show st1 = some (.code .normal (getFr st1) (getH st1))
  exact normal_of st1_ok
theorem n0_eq : H1.next = n0 := by unfold n0; rfl
theorem nn_eq : fr1.n = nn := by unfold nn; rfl
theorem small_lt : n0 + 9 < 1000000 := by
  have := small
  rwa [Nat.blt_eq] at this
theorem flat_L : flat fnB.body = L := by unfold L; rfl
theorem fr3_eq : flFrame (flVal vals) ops2 fr1 = fr3 := by unfold fr3; rfl
theorem HE_eq : flHeap H1 9 (flRow rows) [0, 2, 4, 6, 8] = HE := by unfold HE; rfl
end
end Go.Proofs.YteinliapjcgpfaaGreatDoor
