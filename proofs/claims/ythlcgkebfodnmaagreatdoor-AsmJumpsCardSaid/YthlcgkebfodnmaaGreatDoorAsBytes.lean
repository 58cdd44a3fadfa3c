/- (*asm.maker).bytes of a part with room, padding and one byte, as a summary: it reads the maker, the part, its items, the byte's row. -/
import Derived.Test.YthlcgkebfodnmaaGreatDoorAsPad
import Derived.Test.YthlcgkebfodnmaaGreatDoorVaiFrame
namespace Go.Proofs.YthlcgkebfodnmaaGreatDoor
open Go Go.Vai
noncomputable section
set_option maxRecDepth 100000
theorem vptr_to {M M2 : List MEnt} {i k o : Nat} {cv : Value} (he : M2[k]? = M[i]?) (h : VRel M (.ptr i o) cv) : VRel M2 (.ptr k o) cv := by
  obtain ⟨m, hm, rfl⟩ := h
  exact ⟨m, by rw [he]; exact hm, rfl⟩
theorem ren_atN {M : List MEnt} {ks : List Nat} {j i : Nat} (hlt : ∀ i ∈ kN 12 ks [], i < M.length) (h : ks[j]? = some i) : (renM (kN 12 ks []) M)[12 + j]? = M[i]? := by
  have := renM_ren hlt (12 + j) i (by rw [kN_at (List.getElem?_eq_some_iff.1 h).1]; exact h)
  rwa [Nat.zero_add] at this
def EBy : Env := envOf Tryz.prog 12 [86, 127] (orSm (extSm kinds) (orSm (contSm 127) paddingSm))
theorem eby_ok {I : List MEnt → AHeap → World → Prop} (hI : ∀ M H w, I M H w → JG gl M H w) (hc : Carried I) : EnvOk EBy Tryz.prog I := envOk_j (gl := gl) (by kernel_rfl) ((smOk_ext ext_ok).or (cont_ok1.or padding_ok)).j mixed_ok hI hc.ext
theorem rep_map (n : Nat) : rep [AV.int .u8 (.ofNat 0)] n = (List.replicate n (0 : UInt8)).map byteAV := by
  induction n with
  | zero => rfl
  | succ n ih =>
    show AV.int .u8 (.ofNat 0) :: rep [AV.int .u8 (.ofNat 0)] n = _
    rw [ih]; rfl
section
end
open Classical in
end
end Go.Proofs.YthlcgkebfodnmaaGreatDoor
