/- The closed facts of AsmJumps's row, one by one (all in one declaration they ask for more than 10 GB). -/
import Derived.Test.YthlcgkebfodnmaaGreatDoorRows
import Derived.JoinedOf
import Derived.ProofKit
namespace Go.Proofs.YthlcgkebfodnmaaGreatDoor
open Go
set_option maxRecDepth 100000
namespace AsmJumpsFacts
def F0 (_P : Program) (_f : FuncId) (_fn : Func) (s : ChangeSpec) (c : OpenClaim) : Bool := c.wf (OpenSpec.ofChange s)
def F1 (P : Program) (_f : FuncId) (_fn : Func) (_s : ChangeSpec) (_c : OpenClaim) : Bool := laidOutB P
def F2 (P : Program) (_f : FuncId) (_fn : Func) (_s : ChangeSpec) (_c : OpenClaim) : Bool := mapsRowed P
def F3 (P : Program) (_f : FuncId) (fn : Func) (_s : ChangeSpec) (_c : OpenClaim) : Bool := fn.params.all (P.readableRec ·)
def F4 (P : Program) (_f : FuncId) (_fn : Func) (s : ChangeSpec) (c : OpenClaim) : Bool := namedTie P c.named s.vars
def F5 (_P : Program) (_f : FuncId) (_fn : Func) (_s : ChangeSpec) (c : OpenClaim) : Bool := (c.stops == [])
def F6 (P : Program) (_f : FuncId) (_fn : Func) (_s : ChangeSpec) (_c : OpenClaim) : Bool := (P.stops == [])
def F7 (_P : Program) (_f : FuncId) (_fn : Func) (_s : ChangeSpec) (c : OpenClaim) : Bool := (c.knobs == [])
def F8 (P : Program) (_f : FuncId) (_fn : Func) (_s : ChangeSpec) (_c : OpenClaim) : Bool := (P.stopKnobs == [])
def F9 (P : Program) (f : FuncId) (_fn : Func) (_s : ChangeSpec) (c : OpenClaim) : Bool := (c.inPlace == P.inPlace f)
def F10 (P : Program) (f : FuncId) (_fn : Func) (_s : ChangeSpec) (c : OpenClaim) : Bool := (c.unfollowed == P.unfollowed f)
def F11 (P : Program) (f : FuncId) (_fn : Func) (_s : ChangeSpec) (c : OpenClaim) : Bool := (c.recurses == P.recurses f)
def F12 (P : Program) (f : FuncId) (_fn : Func) (_s : ChangeSpec) (c : OpenClaim) : Bool := (c.named == P.varsNamed f)
def F13 (P : Program) (_f : FuncId) (fn : Func) (s : ChangeSpec) (c : OpenClaim) : Bool := (c.maps == (fn.params.toList ++ s.plain.varTypes P).any (P.mapsRec ·))
def F14 (P : Program) (_f : FuncId) (fn : Func) (s : ChangeSpec) (c : OpenClaim) : Bool := (c.ifaces == (fn.params.toList ++ s.plain.varTypes P).any (P.ifacesRec ·))
def F15 (P : Program) (_f : FuncId) (fn : Func) (_s : ChangeSpec) (c : OpenClaim) : Bool := (c.mapsOut == P.mapsAmong fn.resultTypes.toList)
def F16 (P : Program) (_f : FuncId) (fn : Func) (s : ChangeSpec) (c : OpenClaim) : Bool := (c.loops == (fn.params.toList ++ s.plain.varTypes P).any (P.loopsFrom ·))
def F17 (P : Program) (_f : FuncId) (fn : Func) (s : ChangeSpec) (c : OpenClaim) : Bool := (c.wideKeys == (fn.params.toList ++ s.plain.varTypes P ++ fn.resultTypes.toList).any (P.wideKeysFrom ·))
def F18 (P : Program) (_f : FuncId) (_fn : Func) (s : ChangeSpec) (_c : OpenClaim) : Bool := s.vars.all (P.varReadable ·)
def F19 (P : Program) (_f : FuncId) (fn : Func) (_s : ChangeSpec) (_c : OpenClaim) : Bool := fn.resultTypes.all (fun t => P.readableRec t && decide (t < P.types.size))
def F20 (P : Program) (_f : FuncId) (fn : Func) (_s : ChangeSpec) (c : OpenClaim) : Bool := (c.ifacesOut == fn.resultTypes.toList.any (P.ifacesRec ·))
def F21 (P : Program) (_f : FuncId) (fn : Func) (_s : ChangeSpec) (c : OpenClaim) : Bool := (c.loopsOut == fn.resultTypes.toList.any (P.loopsFrom ·))
def F22 (P : Program) (_f : FuncId) (_fn : Func) (_s : ChangeSpec) (c : OpenClaim) : Bool := (c.plainKeys == P.plainKeys)
def F23 (_P : Program) (_f : FuncId) (_fn : Func) (_s : ChangeSpec) (c : OpenClaim) : Bool := c.shortTexts.isNone
def F24 (P : Program) (_f : FuncId) (_fn : Func) (_s : ChangeSpec) (_c : OpenClaim) : Bool := P.stopsHeard
def F25 (P : Program) (_f : FuncId) (_fn : Func) (_s : ChangeSpec) (_c : OpenClaim) : Bool := P.mayEnter
def F26 (P : Program) (_f : FuncId) (_fn : Func) (_s : ChangeSpec) (c : OpenClaim) : Bool := (c.lifted == P.liftsFinal)
def F27 (P : Program) (_f : FuncId) (_fn : Func) (_s : ChangeSpec) (c : OpenClaim) : Bool := (P.make == some c.make)
def F28 (P : Program) (_f : FuncId) (fn : Func) (_s : ChangeSpec) (c : OpenClaim) : Bool := (c.kinds == (if c.domain.isEmpty then [] else fn.params.toList.map fun t => match P.underlying t with | some (.int k) => some k | _ => none))
def F29 (_P : Program) (_f : FuncId) (_fn : Func) (_s : ChangeSpec) (c : OpenClaim) : Bool := (c.pinned == c.pinnedBy)
def F30 (P : Program) (_f : FuncId) (fn : Func) (s : ChangeSpec) (c : OpenClaim) : Bool := (c.veiled == (fn.params.toList ++ s.plain.varTypes P ++ fn.resultTypes.toList).any (P.veiledRec ·))
def F31 (P : Program) (_f : FuncId) (fn : Func) (s : ChangeSpec) (c : OpenClaim) : Bool := c.veiledFits P fn.params.toList (fn.params.toList ++ s.plain.varTypes P ++ fn.resultTypes.toList)
theorem joined {P : Program} {f : FuncId} {fn : Func} {s : ChangeSpec} {c : OpenClaim} (h0 : F0 P f fn s c = true) (h1 : F1 P f fn s c = true) (h2 : F2 P f fn s c = true) (h3 : F3 P f fn s c = true) (h4 : F4 P f fn s c = true) (h5 : F5 P f fn s c = true) (h6 : F6 P f fn s c = true) (h7 : F7 P f fn s c = true) (h8 : F8 P f fn s c = true) (h9 : F9 P f fn s c = true) (h10 : F10 P f fn s c = true) (h11 : F11 P f fn s c = true) (h12 : F12 P f fn s c = true) (h13 : F13 P f fn s c = true) (h14 : F14 P f fn s c = true) (h15 : F15 P f fn s c = true) (h16 : F16 P f fn s c = true) (h17 : F17 P f fn s c = true) (h18 : F18 P f fn s c = true) (h19 : F19 P f fn s c = true) (h20 : F20 P f fn s c = true) (h21 : F21 P f fn s c = true) (h22 : F22 P f fn s c = true) (h23 : F23 P f fn s c = true) (h24 : F24 P f fn s c = true) (h25 : F25 P f fn s c = true) (h26 : F26 P f fn s c = true) (h27 : F27 P f fn s c = true) (h28 : F28 P f fn s c = true) (h29 : F29 P f fn s c = true) (h30 : F30 P f fn s c = true) (h31 : F31 P f fn s c = true) : joinedFacts P f fn s c = true := by
  unfold joinedFacts
  unfold F0 F1 F2 F3 F4 F5 F6 F7 F8 F9 F10 F11 F12 F13 F14 F15 F16 F17 F18 F19 F20 F21 F22 F23 F24 F25 F26 F27 F28 F29 F30 F31 at *
  simp only [Bool.and_eq_true]
  exact ⟨⟨⟨⟨⟨⟨⟨⟨⟨⟨⟨⟨⟨⟨⟨⟨⟨⟨⟨⟨⟨⟨⟨⟨⟨⟨⟨⟨⟨⟨⟨h0, h1⟩, h2⟩, h3⟩, h4⟩, h5⟩, h6⟩, h7⟩, h8⟩, h9⟩, h10⟩, h11⟩, h12⟩, h13⟩, h14⟩, h15⟩, h16⟩, h17⟩, h18⟩, h19⟩, h20⟩, h21⟩, h22⟩, h23⟩, h24⟩, h25⟩, h26⟩, h27⟩, h28⟩, h29⟩, h30⟩, h31⟩
theorem asmJumps0 : F0 Tryz.prog 4 Tryz.f4 Rows.asmJumpsSpec Rows.asmJumpsRow = true := by kernel_rfl
theorem asmJumps1 : F1 Tryz.prog 4 Tryz.f4 Rows.asmJumpsSpec Rows.asmJumpsRow = true := by kernel_rfl
theorem asmJumps2 : F2 Tryz.prog 4 Tryz.f4 Rows.asmJumpsSpec Rows.asmJumpsRow = true := by kernel_rfl
theorem asmJumps3 : F3 Tryz.prog 4 Tryz.f4 Rows.asmJumpsSpec Rows.asmJumpsRow = true := by kernel_rfl
theorem asmJumps4 : F4 Tryz.prog 4 Tryz.f4 Rows.asmJumpsSpec Rows.asmJumpsRow = true := by kernel_rfl
theorem asmJumps5 : F5 Tryz.prog 4 Tryz.f4 Rows.asmJumpsSpec Rows.asmJumpsRow = true := by kernel_rfl
theorem asmJumps6 : F6 Tryz.prog 4 Tryz.f4 Rows.asmJumpsSpec Rows.asmJumpsRow = true := by kernel_rfl
theorem asmJumps7 : F7 Tryz.prog 4 Tryz.f4 Rows.asmJumpsSpec Rows.asmJumpsRow = true := by kernel_rfl
theorem asmJumps8 : F8 Tryz.prog 4 Tryz.f4 Rows.asmJumpsSpec Rows.asmJumpsRow = true := by kernel_rfl
theorem asmJumps9 : F9 Tryz.prog 4 Tryz.f4 Rows.asmJumpsSpec Rows.asmJumpsRow = true := by kernel_rfl
theorem asmJumps10 : F10 Tryz.prog 4 Tryz.f4 Rows.asmJumpsSpec Rows.asmJumpsRow = true := by kernel_rfl
theorem asmJumps11 : F11 Tryz.prog 4 Tryz.f4 Rows.asmJumpsSpec Rows.asmJumpsRow = true := by kernel_rfl
theorem asmJumps12 : F12 Tryz.prog 4 Tryz.f4 Rows.asmJumpsSpec Rows.asmJumpsRow = true := by kernel_rfl
theorem asmJumps13 : F13 Tryz.prog 4 Tryz.f4 Rows.asmJumpsSpec Rows.asmJumpsRow = true := by kernel_rfl
theorem asmJumps14 : F14 Tryz.prog 4 Tryz.f4 Rows.asmJumpsSpec Rows.asmJumpsRow = true := by kernel_rfl
theorem asmJumps15 : F15 Tryz.prog 4 Tryz.f4 Rows.asmJumpsSpec Rows.asmJumpsRow = true := by kernel_rfl
theorem asmJumps16 : F16 Tryz.prog 4 Tryz.f4 Rows.asmJumpsSpec Rows.asmJumpsRow = true := by kernel_rfl
theorem asmJumps17 : F17 Tryz.prog 4 Tryz.f4 Rows.asmJumpsSpec Rows.asmJumpsRow = true := by kernel_rfl
theorem asmJumps18 : F18 Tryz.prog 4 Tryz.f4 Rows.asmJumpsSpec Rows.asmJumpsRow = true := by kernel_rfl
theorem asmJumps19 : F19 Tryz.prog 4 Tryz.f4 Rows.asmJumpsSpec Rows.asmJumpsRow = true := by kernel_rfl
theorem asmJumps20 : F20 Tryz.prog 4 Tryz.f4 Rows.asmJumpsSpec Rows.asmJumpsRow = true := by kernel_rfl
theorem asmJumps21 : F21 Tryz.prog 4 Tryz.f4 Rows.asmJumpsSpec Rows.asmJumpsRow = true := by kernel_rfl
theorem asmJumps22 : F22 Tryz.prog 4 Tryz.f4 Rows.asmJumpsSpec Rows.asmJumpsRow = true := by kernel_rfl
theorem asmJumps23 : F23 Tryz.prog 4 Tryz.f4 Rows.asmJumpsSpec Rows.asmJumpsRow = true := by kernel_rfl
theorem asmJumps24 : F24 Tryz.prog 4 Tryz.f4 Rows.asmJumpsSpec Rows.asmJumpsRow = true := by kernel_rfl
theorem asmJumps25 : F25 Tryz.prog 4 Tryz.f4 Rows.asmJumpsSpec Rows.asmJumpsRow = true := by kernel_rfl
theorem asmJumps26 : F26 Tryz.prog 4 Tryz.f4 Rows.asmJumpsSpec Rows.asmJumpsRow = true := by kernel_rfl
theorem asmJumps27 : F27 Tryz.prog 4 Tryz.f4 Rows.asmJumpsSpec Rows.asmJumpsRow = true := by kernel_rfl
theorem asmJumps28 : F28 Tryz.prog 4 Tryz.f4 Rows.asmJumpsSpec Rows.asmJumpsRow = true := by kernel_rfl
theorem asmJumps29 : F29 Tryz.prog 4 Tryz.f4 Rows.asmJumpsSpec Rows.asmJumpsRow = true := by kernel_rfl
theorem asmJumps30 : F30 Tryz.prog 4 Tryz.f4 Rows.asmJumpsSpec Rows.asmJumpsRow = true := by kernel_rfl
theorem asmJumps31 : F31 Tryz.prog 4 Tryz.f4 Rows.asmJumpsSpec Rows.asmJumpsRow = true := by kernel_rfl
end AsmJumpsFacts
end Go.Proofs.YthlcgkebfodnmaaGreatDoor
