/- The names that expressions may stand in: Encode has a fault just where Check has one. -/
import Derived.Test.YtbfdooplkdofeaaGreatDoorAsF
import Derived.KernelRfl
namespace Go.Proofs.YtbfdooplkdofeaaGreatDoor
open Go Go.Vai
noncomputable section
set_option maxRecDepth 100000
theorem eqv0 (A B C D : Int) : ee1 A B C D = 0 ↔ ee43 A B C D = 0 := by
  unfold ee1 ee43
  simp [Zae, Zah, bc_z]
  try omega
theorem eqv1 (A B C D : Int) : ee2 A B C D = 0 ↔ ee45 A B C D = 0 := by
  unfold ee2 ee45
  simp [Zae, bc_z]
  try omega
theorem eqv2 (A B C D : Int) : ee6 A B C D = 0 ↔ ee47 A B C D = 0 := by
  unfold ee6 ee47
  simp [Zae, Zah, bc_z]
  try omega
theorem eqv3 (A B C D : Int) : ee12 268435456 A B C D = 0 ↔ ee54 A B C D = 0 := by
  unfold ee12 ee54
  simp [Zae, Zah, bc_z]
  try omega
theorem eqv4 (A B C D : Int) : ee15 A B C D = 0 ↔ ee56 A B C D = 0 := by
  unfold ee15 ee56
  simp [Zae, Zah, bc_z]
  try omega
theorem eqv5 (A B C D : Int) : ee12 3019898880 A B C D = 0 ↔ ee54 A B C D = 0 := by
  unfold ee12 ee54
  simp [Zae, Zah, bc_z]
  try omega
theorem eqv6 (A B C D : Int) : ee12 3036676096 A B C D = 0 ↔ ee54 A B C D = 0 := by
  unfold ee12 ee54
  simp [Zae, Zah, bc_z]
  try omega
theorem eqv7 (A B C D : Int) : ee14 A B C D = 0 ↔ ee55 A B C D = 0 := by
  unfold ee14 ee55
  simp [Zae, Zah, bc_z]
  try omega
theorem eqv8 (A B C D : Int) : ee12 2415919104 A B C D = 0 ↔ ee54 A B C D = 0 := by
  unfold ee12 ee54
  simp [Zae, Zah, bc_z]
  try omega
theorem eqv9 (A B C D : Int) : ee8 2432696320 A B C D = 0 ↔ ee49 A B C D = 0 := by
  unfold ee8 ee49
  simp [Zae, Zah, bc_z]
  try omega
theorem eqv10 (A B C D : Int) : ee13 960495616 A B C D = 0 ↔ ee51 0 A B C D = 0 := by
  unfold ee13 ee51
  simp [Zae, Zah, bc_z]
  try omega
theorem eqv11 (A B C D : Int) : ee13 956301312 A B C D = 0 ↔ ee51 0 A B C D = 0 := by
  unfold ee13 ee51
  simp [Zae, Zah, bc_z]
  try omega
theorem eqv12 (A B C D : Int) : ee13 2034237440 A B C D = 0 ↔ ee51 0 A B C D = 0 := by
  unfold ee13 ee51
  simp [Zae, Zah, bc_z]
  try omega
theorem eqv13 (A B C D : Int) : ee13 2030043136 A B C D = 0 ↔ ee51 0 A B C D = 0 := by
  unfold ee13 ee51
  simp [Zae, Zah, bc_z]
  try omega
theorem eqv14 (A B C D : Int) : ee13 3107979264 A B C D = 0 ↔ ee51 0 A B C D = 0 := by
  unfold ee13 ee51
  simp [Zae, Zah, bc_z]
  try omega
theorem eqv15 (A B C D : Int) : ee13 3103784960 A B C D = 0 ↔ ee51 0 A B C D = 0 := by
  unfold ee13 ee51
  simp [Zae, Zah, bc_z]
  try omega
theorem eqv16 (A B C D : Int) : ee13 3112173568 A B C D = 0 ↔ ee51 0 A B C D = 0 := by
  unfold ee13 ee51
  simp [Zae, Zah, bc_z]
  try omega
theorem eqv17 (A B C D : Int) : ee13 4181721088 A B C D = 0 ↔ ee51 0 A B C D = 0 := by
  unfold ee13 ee51
  simp [Zae, Zah, bc_z]
  try omega
theorem eqv18 (A B C D : Int) : ee13 4177526784 A B C D = 0 ↔ ee51 0 A B C D = 0 := by
  unfold ee13 ee51
  simp [Zae, Zah, bc_z]
  try omega
theorem eqv19 (A B C D : Int) : ee19 99 A B C D = 0 ↔ ee60 0 31 A B C D = 0 := by
  unfold ee19 ee60
  simp [Zae, Zah, bc_z]
  try omega
theorem eqv20 (A B C D : Int) : ee19 4195 A B C D = 0 ↔ ee60 0 31 A B C D = 0 := by
  unfold ee19 ee60
  simp [Zae, Zah, bc_z]
  try omega
theorem eqv21 (A B C D : Int) : ee19 16483 A B C D = 0 ↔ ee60 0 31 A B C D = 0 := by
  unfold ee19 ee60
  simp [Zae, Zah, bc_z]
  try omega
theorem eqv22 (A B C D : Int) : ee19 20579 A B C D = 0 ↔ ee60 0 31 A B C D = 0 := by
  unfold ee19 ee60
  simp [Zae, Zah, bc_z]
  try omega
theorem eqv23 (A B C D : Int) : ee19 24675 A B C D = 0 ↔ ee60 0 31 A B C D = 0 := by
  unfold ee19 ee60
  simp [Zae, Zah, bc_z]
  try omega
theorem eqv24 (A B C D : Int) : ee19 28771 A B C D = 0 ↔ ee60 0 31 A B C D = 0 := by
  unfold ee19 ee60
  simp [Zae, Zah, bc_z]
  try omega
theorem eqv25 (A B C D : Int) : ee20 111 A B C D = 0 ↔ ee61 0 31 0 A B C D = 0 := by
  unfold ee20 ee61
  simp [Zae, Zah, bc_z]
  try omega
theorem eqv26 (A B C D : Int) : ee33 384 A B C D = 0 ↔ ee66 A B C D = 0 := by
  unfold ee33 ee66
  simp [Zae, Zah, bc_z]
  try omega
theorem eqv27 (A B C D : Int) : ee33 448 A B C D = 0 ↔ ee66 A B C D = 0 := by
  unfold ee33 ee66
  simp [Zae, Zah, bc_z]
  try omega
theorem eqv28 (A B C D : Int) : ee27 0 A B C D = 0 ↔ ee62 0 A B C D = 0 := by
  unfold ee27 ee62
  simp [Zae, bc_z]
  try omega
theorem eqv29 (A B C D : Int) : ee20 55 A B C D = 0 ↔ ee61 0 31 0 A B C D = 0 := by
  unfold ee20 ee61
  simp [Zae, Zah, bc_z]
  try omega
theorem eqv30 (A B C D : Int) : ee20 23 A B C D = 0 ↔ ee61 0 31 0 A B C D = 0 := by
  unfold ee20 ee61
  simp [Zae, Zah, bc_z]
  try omega
theorem eqv31 (A B C D : Int) : ee18 19 A B C D = 0 ↔ ee59 0 31 A B C D = 0 := by
  unfold ee18 ee59
  simp [Zae, Zah, bc_z]
  try omega
theorem eqv32 (A B C D : Int) : ee18 8211 A B C D = 0 ↔ ee59 0 31 A B C D = 0 := by
  unfold ee18 ee59
  simp [Zae, Zah, bc_z]
  try omega
theorem eqv33 (A B C D : Int) : ee18 12307 A B C D = 0 ↔ ee59 0 31 A B C D = 0 := by
  unfold ee18 ee59
  simp [Zae, Zah, bc_z]
  try omega
theorem eqv34 (A B C D : Int) : ee18 16403 A B C D = 0 ↔ ee59 0 31 A B C D = 0 := by
  unfold ee18 ee59
  simp [Zae, Zah, bc_z]
  try omega
theorem eqv35 (A B C D : Int) : ee18 24595 A B C D = 0 ↔ ee59 0 31 A B C D = 0 := by
  unfold ee18 ee59
  simp [Zae, Zah, bc_z]
  try omega
theorem eqv36 (A B C D : Int) : ee18 28691 A B C D = 0 ↔ ee59 0 31 A B C D = 0 := by
  unfold ee18 ee59
  simp [Zae, Zah, bc_z]
  try omega
theorem eqv37 (A B C D : Int) : ee18 27 A B C D = 0 ↔ ee59 0 31 A B C D = 0 := by
  unfold ee18 ee59
  simp [Zae, Zah, bc_z]
  try omega
theorem eqv38 (A B C D : Int) : ee18 3 A B C D = 0 ↔ ee59 0 31 A B C D = 0 := by
  unfold ee18 ee59
  simp [Zae, Zah, bc_z]
  try omega
theorem eqv39 (A B C D : Int) : ee18 4099 A B C D = 0 ↔ ee59 0 31 A B C D = 0 := by
  unfold ee18 ee59
  simp [Zae, Zah, bc_z]
  try omega
theorem eqv40 (A B C D : Int) : ee18 8195 A B C D = 0 ↔ ee59 0 31 A B C D = 0 := by
  unfold ee18 ee59
  simp [Zae, Zah, bc_z]
  try omega
theorem eqv41 (A B C D : Int) : ee18 12291 A B C D = 0 ↔ ee59 0 31 A B C D = 0 := by
  unfold ee18 ee59
  simp [Zae, Zah, bc_z]
  try omega
theorem eqv42 (A B C D : Int) : ee18 16387 A B C D = 0 ↔ ee59 0 31 A B C D = 0 := by
  unfold ee18 ee59
  simp [Zae, Zah, bc_z]
  try omega
theorem eqv43 (A B C D : Int) : ee18 20483 A B C D = 0 ↔ ee59 0 31 A B C D = 0 := by
  unfold ee18 ee59
  simp [Zae, Zah, bc_z]
  try omega
theorem eqv44 (A B C D : Int) : ee18 24579 A B C D = 0 ↔ ee59 0 31 A B C D = 0 := by
  unfold ee18 ee59
  simp [Zae, Zah, bc_z]
  try omega
theorem eqv45 (A B C D : Int) : ee18 103 A B C D = 0 ↔ ee59 0 31 A B C D = 0 := by
  unfold ee18 ee59
  simp [Zae, Zah, bc_z]
  try omega
theorem eqv46 (A B C D : Int) : ee19 35 A B C D = 0 ↔ ee60 0 31 A B C D = 0 := by
  unfold ee19 ee60
  simp [Zae, Zah, bc_z]
  try omega
theorem eqv47 (A B C D : Int) : ee19 4131 A B C D = 0 ↔ ee60 0 31 A B C D = 0 := by
  unfold ee19 ee60
  simp [Zae, Zah, bc_z]
  try omega
theorem eqv48 (A B C D : Int) : ee19 8227 A B C D = 0 ↔ ee60 0 31 A B C D = 0 := by
  unfold ee19 ee60
  simp [Zae, Zah, bc_z]
  try omega
theorem eqv49 (A B C D : Int) : ee19 12323 A B C D = 0 ↔ ee60 0 31 A B C D = 0 := by
  unfold ee19 ee60
  simp [Zae, Zah, bc_z]
  try omega
end
end Go.Proofs.YtbfdooplkdofeaaGreatDoor
