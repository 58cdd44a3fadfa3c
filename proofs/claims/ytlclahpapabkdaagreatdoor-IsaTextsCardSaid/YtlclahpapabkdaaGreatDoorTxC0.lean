/- What a name needs to be without a fault. -/
import Derived.Test.YtlclahpapabkdaaGreatDoorTxCl
import Derived.KernelRfl
namespace Go.Proofs.YtlclahpapabkdaaGreatDoor
open Go Go.Vai
noncomputable section
set_option maxRecDepth 100000
theorem ec0 {A B C D I : Int} (h : ee0 A B C D I = 0) : okC 2 A B C D I := by
  show ok2 A B C D I
  unfold ee0 at h
  unfold ok2
  simp [ieq_iff, ilt_iff, bc_z] at h
  omega
theorem ec1 {A B C D I : Int} (h : ee1 9223372036854775807 A B C D I = 0) : okC 4 A B C D I := by
  show ok4 A B C D I
  unfold ee1 at h
  unfold ok4
  simp [ieq_iff, ilt_iff, Int.negSucc_eq, bc_z] at h
  omega
theorem ec2 {A B C D I : Int} (h : ee1 2147483647 A B C D I = 0) : okC 4 A B C D I := by
  show ok4 A B C D I
  unfold ee1 at h
  unfold ok4
  simp [ieq_iff, ilt_iff, Int.negSucc_eq, bc_z] at h
  omega
theorem ec3 {A B C D I : Int} (h : em0 A B C D I = 0) : okC 5 A B C D I := by
  show ok5 A B C D I
  unfold em0 ee50 ee51 at h
  unfold ok5
  simp [ieq_iff, ilt_iff, Int.negSucc_eq, bc_z] at h
  omega
theorem ec4 {A B C D I : Int} (h : em1 A B C D I = 0) : okC 5 A B C D I := by
  show ok5 A B C D I
  unfold em1 ee52 ee53 at h
  unfold ok5
  simp [ieq_iff, ilt_iff, Int.negSucc_eq, bc_z] at h
  omega
theorem ec5 {A B C D I : Int} (h : ee2 A B C D I = 0) : okC 4 A B C D I := by
  show ok4 A B C D I
  unfold ee2 at h
  unfold ok4
  simp [ieq_iff, ilt_iff, Int.negSucc_eq, bc_z] at h
  omega
theorem ec6 {A B C D I : Int} (h : ee3 A B C D I = 0) : okC 1 A B C D I := by
  show ok1 A B C D I
  unfold ee3 at h
  unfold ok1
  simp [ieq_iff, ilt_iff, bc_z] at h
  omega
theorem ec7 {A B C D I : Int} (h : ee4 A B C D I = 0) : okC 0 A B C D I := by
  show ok0 A B C D I
  unfold ee4 at h
  unfold ok0
  simp [ieq_iff, bc_z] at h
  omega
theorem ec8 {A B C D I : Int} (h : ee5 A B C D I = 0) : okC 4 A B C D I := by
  show ok4 A B C D I
  unfold ee5 at h
  unfold ok4
  simp [ieq_iff, ilt_iff, bc_z] at h
  omega
theorem ec9 {A B C D I : Int} (h : ee6 A B C D I = 0) : okC 3 A B C D I := by
  show ok3 A B C D I
  unfold ee6 at h
  unfold ok3
  simp [ieq_iff, ilt_iff, bc_z] at h
  omega
theorem ec10 {A B C D I : Int} (h : ee7 A B C D I = 0) : okC 1 A B C D I := by
  show ok1 A B C D I
  unfold ee7 at h
  unfold ok1
  simp [ieq_iff, ilt_iff, bc_z] at h
  omega
theorem ec11 {A B C D I : Int} (h : ee8 2147483647 A B C D I = 0) : okC 7 A B C D I := by
  show ok7 A B C D I
  unfold ee8 at h
  unfold ok7
  simp [ieq_iff, ilt_iff, Int.negSucc_eq, bc_z] at h
  omega
theorem ec12 {A B C D I : Int} (h : ee8 127 A B C D I = 0) : okC 7 A B C D I := by
  show ok7 A B C D I
  unfold ee8 at h
  unfold ok7
  simp [ieq_iff, ilt_iff, Int.negSucc_eq, bc_z] at h
  omega
theorem ec13 {A B C D I : Int} (h : ee9 A B C D I = 0) : okC 1 A B C D I := by
  show ok1 A B C D I
  unfold ee9 at h
  unfold ok1
  simp [ieq_iff, ilt_iff, bc_z] at h
  omega
theorem ec14 {A B C D I : Int} (h : ee10 2147483647 A B C D I = 0) : okC 6 A B C D I := by
  show ok6 A B C D I
  unfold ee10 at h
  unfold ok6
  simp [ieq_iff, ilt_iff, Int.negSucc_eq, bc_z] at h
  omega
theorem ec15 {A B C D I : Int} (h : ee10 127 A B C D I = 0) : okC 6 A B C D I := by
  show ok6 A B C D I
  unfold ee10 at h
  unfold ok6
  simp [ieq_iff, ilt_iff, Int.negSucc_eq, bc_z] at h
  omega
theorem ec16 {A B C D I : Int} (h : ee11 2457862144 A B C D I = 0) : okC 18 A B C D I := by
  show ok18 A B C D I
  unfold ee11 at h
  unfold ok18
  simp [ieq_iff, ilt_iff, bc_z] at h
  omega
theorem ec17 {A B C D I : Int} (h : ee11 3531603968 A B C D I = 0) : okC 18 A B C D I := by
  show ok18 A B C D I
  unfold ee11 at h
  unfold ok18
  simp [ieq_iff, ilt_iff, bc_z] at h
  omega
theorem ec18 {A B C D I : Int} (h : ee11 4068474880 A B C D I = 0) : okC 18 A B C D I := by
  show ok18 A B C D I
  unfold ee11 at h
  unfold ok18
  simp [ieq_iff, ilt_iff, bc_z] at h
  omega
theorem ec19 {A B C D I : Int} (h : ee12 2432696320 A B C D I = 0) : okC 14 A B C D I := by
  show ok14 A B C D I
  unfold ee12 at h
  unfold ok14
  simp [ieq_iff, ilt_iff, bc_z] at h
  omega
theorem ec20 {A B C D I : Int} (h : ee12 2969567232 A B C D I = 0) : okC 14 A B C D I := by
  show ok14 A B C D I
  unfold ee12 at h
  unfold ok14
  simp [ieq_iff, ilt_iff, bc_z] at h
  omega
theorem ec21 {A B C D I : Int} (h : ee12 3506438144 A B C D I = 0) : okC 14 A B C D I := by
  show ok14 A B C D I
  unfold ee12 at h
  unfold ok14
  simp [ieq_iff, ilt_iff, bc_z] at h
  omega
theorem ec22 {A B C D I : Int} (h : ee12 4043309056 A B C D I = 0) : okC 14 A B C D I := by
  show ok14 A B C D I
  unfold ee12 at h
  unfold ok14
  simp [ieq_iff, ilt_iff, bc_z] at h
  omega
theorem ec23 {A B C D I : Int} (h : ee13 31 63 2332033024 63 10 A B C D I = 0) : okC 12 A B C D I := by
  show ok12 A B C D I
  unfold ee13 at h
  unfold ok12
  simp [ieq_iff, ilt_iff, bc_z] at h
  omega
theorem ec24 {A B C D I : Int} (h : ee13 31 63 2868903936 63 10 A B C D I = 0) : okC 12 A B C D I := by
  show ok12 A B C D I
  unfold ee13 at h
  unfold ok12
  simp [ieq_iff, ilt_iff, bc_z] at h
  omega
theorem ec25 {A B C D I : Int} (h : ee13 31 63 3405774848 63 10 A B C D I = 0) : okC 12 A B C D I := by
  show ok12 A B C D I
  unfold ee13 at h
  unfold ok12
  simp [ieq_iff, ilt_iff, bc_z] at h
  omega
theorem ec26 {A B C D I : Int} (h : ee13 31 63 3942645760 63 10 A B C D I = 0) : okC 12 A B C D I := by
  show ok12 A B C D I
  unfold ee13 at h
  unfold ok12
  simp [ieq_iff, ilt_iff, bc_z] at h
  omega
theorem ec27 {A B C D I : Int} (h : ee13 31 63 2315255808 63 10 A B C D I = 0) : okC 12 A B C D I := by
  show ok12 A B C D I
  unfold ee13 at h
  unfold ok12
  simp [ieq_iff, ilt_iff, bc_z] at h
  omega
theorem ec28 {A B C D I : Int} (h : ee13 31 63 2852126720 63 10 A B C D I = 0) : okC 12 A B C D I := by
  show ok12 A B C D I
  unfold ee13 at h
  unfold ok12
  simp [ieq_iff, ilt_iff, bc_z] at h
  omega
theorem ec29 {A B C D I : Int} (h : ee13 31 63 3388997632 63 10 A B C D I = 0) : okC 12 A B C D I := by
  show ok12 A B C D I
  unfold ee13 at h
  unfold ok12
  simp [ieq_iff, ilt_iff, bc_z] at h
  omega
theorem ec30 {A B C D I : Int} (h : ee13 31 63 3925868544 63 10 A B C D I = 0) : okC 12 A B C D I := by
  show ok12 A B C D I
  unfold ee13 at h
  unfold ok12
  simp [ieq_iff, ilt_iff, bc_z] at h
  omega
theorem ec31 {A B C D I : Int} (h : ee14 2449473536 A B C D I = 0) : okC 13 A B C D I := by
  show ok13 A B C D I
  unfold ee14 at h
  unfold ok13
  simp [ilt_iff, bc_z] at h
  omega
theorem ec32 {A B C D I : Int} (h : ee14 2986344448 A B C D I = 0) : okC 13 A B C D I := by
  show ok13 A B C D I
  unfold ee14 at h
  unfold ok13
  simp [ilt_iff, bc_z] at h
  omega
theorem ec33 {A B C D I : Int} (h : ee14 3523215360 A B C D I = 0) : okC 13 A B C D I := by
  show ok13 A B C D I
  unfold ee14 at h
  unfold ok13
  simp [ilt_iff, bc_z] at h
  omega
theorem ec34 {A B C D I : Int} (h : ee14 4060086272 A B C D I = 0) : okC 13 A B C D I := by
  show ok13 A B C D I
  unfold ee14 at h
  unfold ok13
  simp [ilt_iff, bc_z] at h
  omega
theorem ec35 {A B C D I : Int} (h : ee13 31 31 2600468480 31 10 A B C D I = 0) : okC 10 A B C D I := by
  show ok10 A B C D I
  unfold ee13 at h
  unfold ok10
  simp [ieq_iff, ilt_iff, bc_z] at h
  omega
theorem ec36 {A B C D I : Int} (h : ee13 31 31 2600501248 31 10 A B C D I = 0) : okC 10 A B C D I := by
  show ok10 A B C D I
  unfold ee13 at h
  unfold ok10
  simp [ieq_iff, ilt_iff, bc_z] at h
  omega
theorem ec37 {A B C D I : Int} (h : ee15 2596276224 A B C D I = 0) : okC 9 A B C D I := by
  show ok9 A B C D I
  unfold ee15 at h
  unfold ok9
  simp [ieq_iff, ilt_iff, bc_z] at h
  omega
theorem ec38 {A B C D I : Int} (h : ee15 2596277248 A B C D I = 0) : okC 9 A B C D I := by
  show ok9 A B C D I
  unfold ee15 at h
  unfold ok9
  simp [ieq_iff, ilt_iff, bc_z] at h
  omega
theorem ec39 {A B C D I : Int} (h : ee15 2596282368 A B C D I = 0) : okC 9 A B C D I := by
  show ok9 A B C D I
  unfold ee15 at h
  unfold ok9
  simp [ieq_iff, ilt_iff, bc_z] at h
  omega
theorem ec40 {A B C D I : Int} (h : ee15 2596283392 A B C D I = 0) : okC 9 A B C D I := by
  show ok9 A B C D I
  unfold ee15 at h
  unfold ok9
  simp [ieq_iff, ilt_iff, bc_z] at h
  omega
theorem ec41 {A B C D I : Int} (h : ee15 2596284416 A B C D I = 0) : okC 9 A B C D I := by
  show ok9 A B C D I
  unfold ee15 at h
  unfold ok9
  simp [ieq_iff, ilt_iff, bc_z] at h
  omega
theorem ec42 {A B C D I : Int} (h : ee13 63 63 2470445056 63 10 A B C D I = 0) : okC 15 A B C D I := by
  show ok15 A B C D I
  unfold ee13 at h
  unfold ok15
  simp [ieq_iff, ilt_iff, bc_z] at h
  omega
theorem ec43 {A B C D I : Int} (h : ee13 63 63 3544186880 63 10 A B C D I = 0) : okC 15 A B C D I := by
  show ok15 A B C D I
  unfold ee13 at h
  unfold ok15
  simp [ieq_iff, ilt_iff, bc_z] at h
  omega
theorem ec44 {A B C D I : Int} (h : ee13 31 13 2592079872 15 12 A B C D I = 0) : okC 11 A B C D I := by
  show ok11 A B C D I
  unfold ee13 at h
  unfold ok11
  simp [ieq_iff, ilt_iff, bc_z] at h
  omega
theorem ec45 {A B C D I : Int} (h : ee13 31 13 2592080896 15 12 A B C D I = 0) : okC 11 A B C D I := by
  show ok11 A B C D I
  unfold ee13 at h
  unfold ok11
  simp [ieq_iff, ilt_iff, bc_z] at h
  omega
theorem ec46 {A B C D I : Int} (h : ee16 1048575 1 268435456 A B C D I = 0) : okC 17 A B C D I := by
  show ok17 A B C D I
  unfold ee16 at h
  unfold ok17
  simp [ieq_iff, ilt_iff, Int.negSucc_eq, bc_z] at h
  omega
theorem ec47 {A B C D I : Int} (h : ee16 1048575 1 2415919104 A B C D I = 0) : okC 17 A B C D I := by
  show ok17 A B C D I
  unfold ee16 at h
  unfold ok17
  simp [ieq_iff, ilt_iff, Int.negSucc_eq, bc_z] at h
  omega
theorem ec48 {A B C D I : Int} (h : ee17 4095 1 960495616 A B C D I = 0) : okC 13 A B C D I := by
  show ok13 A B C D I
  unfold ee17 at h
  unfold ok13
  simp [ieq_iff, ilt_iff, bc_z] at h
  omega
theorem ec49 {A B C D I : Int} (h : ee17 4095 1 956301312 A B C D I = 0) : okC 13 A B C D I := by
  show ok13 A B C D I
  unfold ee17 at h
  unfold ok13
  simp [ieq_iff, ilt_iff, bc_z] at h
  omega
theorem ec50 {A B C D I : Int} (h : ee17 8190 2 2034237440 A B C D I = 0) : okC 13 A B C D I := by
  show ok13 A B C D I
  unfold ee17 at h
  unfold ok13
  simp [ieq_iff, ilt_iff, bc_z] at h
  omega
theorem ec51 {A B C D I : Int} (h : ee17 8190 2 2030043136 A B C D I = 0) : okC 13 A B C D I := by
  show ok13 A B C D I
  unfold ee17 at h
  unfold ok13
  simp [ieq_iff, ilt_iff, bc_z] at h
  omega
theorem ec52 {A B C D I : Int} (h : ee17 16380 4 3107979264 A B C D I = 0) : okC 13 A B C D I := by
  show ok13 A B C D I
  unfold ee17 at h
  unfold ok13
  simp [ieq_iff, ilt_iff, bc_z] at h
  omega
theorem ec53 {A B C D I : Int} (h : ee17 16380 4 3103784960 A B C D I = 0) : okC 13 A B C D I := by
  show ok13 A B C D I
  unfold ee17 at h
  unfold ok13
  simp [ieq_iff, ilt_iff, bc_z] at h
  omega
theorem ec54 {A B C D I : Int} (h : ee17 16380 4 3112173568 A B C D I = 0) : okC 13 A B C D I := by
  show ok13 A B C D I
  unfold ee17 at h
  unfold ok13
  simp [ieq_iff, ilt_iff, bc_z] at h
  omega
theorem ec55 {A B C D I : Int} (h : ee17 32760 8 4181721088 A B C D I = 0) : okC 13 A B C D I := by
  show ok13 A B C D I
  unfold ee17 at h
  unfold ok13
  simp [ieq_iff, ilt_iff, bc_z] at h
  omega
theorem ec56 {A B C D I : Int} (h : ee17 32760 8 4177526784 A B C D I = 0) : okC 13 A B C D I := by
  show ok13 A B C D I
  unfold ee17 at h
  unfold ok13
  simp [ieq_iff, ilt_iff, bc_z] at h
  omega
theorem ec57 {A B C D I : Int} (h : ee18 2839543808 A B C D I = 0) : okC 16 A B C D I := by
  show ok16 A B C D I
  unfold ee18 at h
  unfold ok16
  simp [ieq_iff, ilt_iff, Int.negSucc_eq, bc_z] at h
  omega
theorem ec58 {A B C D I : Int} (h : ee18 2835349504 A B C D I = 0) : okC 16 A B C D I := by
  show ok16 A B C D I
  unfold ee18 at h
  unfold ok16
  simp [ieq_iff, ilt_iff, Int.negSucc_eq, bc_z] at h
  omega
theorem ec59 {A B C D I : Int} (h : ee19 A B C D I = 0) : okC 21 A B C D I := by
  show ok21 A B C D I
  unfold ee19 at h
  unfold ok21
  simp [ieq_iff, ilt_iff, Int.negSucc_eq, bc_z] at h
  omega
theorem ec60 {A B C D I : Int} (h : ee20 A B C D I = 0) : okC 20 A B C D I := by
  show ok20 A B C D I
  unfold ee20 at h
  unfold ok20
  simp [ieq_iff, ilt_iff, Int.negSucc_eq, bc_z] at h
  omega
theorem ec61 {A B C D I : Int} (h : ee16 1048572 4 3019898880 A B C D I = 0) : okC 17 A B C D I := by
  show ok17 A B C D I
  unfold ee16 at h
  unfold ok17
  simp [ieq_iff, ilt_iff, Int.negSucc_eq, bc_z] at h
  omega
theorem ec62 {A B C D I : Int} (h : ee16 1048572 4 3036676096 A B C D I = 0) : okC 17 A B C D I := by
  show ok17 A B C D I
  unfold ee16 at h
  unfold ok17
  simp [ieq_iff, ilt_iff, Int.negSucc_eq, bc_z] at h
  omega
theorem ec63 {A B C D I : Int} (h : ee21 3592355840 A B C D I = 0) : okC 19 A B C D I := by
  show ok19 A B C D I
  unfold ee21 at h
  unfold ok19
  simp [ieq_iff, ilt_iff, bc_z] at h
  omega
theorem ec64 {A B C D I : Int} (h : ee21 3594452992 A B C D I = 0) : okC 19 A B C D I := by
  show ok19 A B C D I
  unfold ee21 at h
  unfold ok19
  simp [ieq_iff, ilt_iff, bc_z] at h
  omega
theorem ec65 {A B C D I : Int} (h : ee21 3596550144 A B C D I = 0) : okC 19 A B C D I := by
  show ok19 A B C D I
  unfold ee21 at h
  unfold ok19
  simp [ieq_iff, ilt_iff, bc_z] at h
  omega
theorem ec66 {A B C D I : Int} (h : ee22 A B C D I = 0) : okC 21 A B C D I := by
  show ok21 A B C D I
  unfold ee22 at h
  unfold ok21
  simp [ieq_iff, ilt_iff, bc_z] at h
  omega
theorem ec67 {A B C D I : Int} (h : ee23 A B C D I = 0) : okC 8 A B C D I := by
  show ok8 A B C D I
  unfold ee23 at h
  unfold ok8
  simp [ieq_iff, ilt_iff, bc_z] at h
  omega
theorem ec68 {A B C D I : Int} (h : ee24 51 A B C D I = 0) : okC 23 A B C D I := by
  show ok23 A B C D I
  unfold ee24 at h
  unfold ok23
  simp [ieq_iff, ilt_iff, bc_z] at h
  omega
theorem ec69 {A B C D I : Int} (h : ee24 1073741875 A B C D I = 0) : okC 23 A B C D I := by
  show ok23 A B C D I
  unfold ee24 at h
  unfold ok23
  simp [ieq_iff, ilt_iff, bc_z] at h
  omega
theorem ec70 {A B C D I : Int} (h : ee24 4147 A B C D I = 0) : okC 23 A B C D I := by
  show ok23 A B C D I
  unfold ee24 at h
  unfold ok23
  simp [ieq_iff, ilt_iff, bc_z] at h
  omega
theorem ec71 {A B C D I : Int} (h : ee24 8243 A B C D I = 0) : okC 23 A B C D I := by
  show ok23 A B C D I
  unfold ee24 at h
  unfold ok23
  simp [ieq_iff, ilt_iff, bc_z] at h
  omega
theorem ec72 {A B C D I : Int} (h : ee24 12339 A B C D I = 0) : okC 23 A B C D I := by
  show ok23 A B C D I
  unfold ee24 at h
  unfold ok23
  simp [ieq_iff, ilt_iff, bc_z] at h
  omega
theorem ec73 {A B C D I : Int} (h : ee24 16435 A B C D I = 0) : okC 23 A B C D I := by
  show ok23 A B C D I
  unfold ee24 at h
  unfold ok23
  simp [ieq_iff, ilt_iff, bc_z] at h
  omega
theorem ec74 {A B C D I : Int} (h : ee24 20531 A B C D I = 0) : okC 23 A B C D I := by
  show ok23 A B C D I
  unfold ee24 at h
  unfold ok23
  simp [ieq_iff, ilt_iff, bc_z] at h
  omega
theorem ec75 {A B C D I : Int} (h : ee24 1073762355 A B C D I = 0) : okC 23 A B C D I := by
  show ok23 A B C D I
  unfold ee24 at h
  unfold ok23
  simp [ieq_iff, ilt_iff, bc_z] at h
  omega
theorem ec76 {A B C D I : Int} (h : ee24 24627 A B C D I = 0) : okC 23 A B C D I := by
  show ok23 A B C D I
  unfold ee24 at h
  unfold ok23
  simp [ieq_iff, ilt_iff, bc_z] at h
  omega
theorem ec77 {A B C D I : Int} (h : ee24 28723 A B C D I = 0) : okC 23 A B C D I := by
  show ok23 A B C D I
  unfold ee24 at h
  unfold ok23
  simp [ieq_iff, ilt_iff, bc_z] at h
  omega
theorem ec78 {A B C D I : Int} (h : ee24 33554483 A B C D I = 0) : okC 23 A B C D I := by
  show ok23 A B C D I
  unfold ee24 at h
  unfold ok23
  simp [ieq_iff, ilt_iff, bc_z] at h
  omega
theorem ec79 {A B C D I : Int} (h : ee24 33558579 A B C D I = 0) : okC 23 A B C D I := by
  show ok23 A B C D I
  unfold ee24 at h
  unfold ok23
  simp [ieq_iff, ilt_iff, bc_z] at h
  omega
theorem ec80 {A B C D I : Int} (h : ee24 33562675 A B C D I = 0) : okC 23 A B C D I := by
  show ok23 A B C D I
  unfold ee24 at h
  unfold ok23
  simp [ieq_iff, ilt_iff, bc_z] at h
  omega
theorem ec81 {A B C D I : Int} (h : ee24 33566771 A B C D I = 0) : okC 23 A B C D I := by
  show ok23 A B C D I
  unfold ee24 at h
  unfold ok23
  simp [ieq_iff, ilt_iff, bc_z] at h
  omega
theorem ec82 {A B C D I : Int} (h : ee24 33570867 A B C D I = 0) : okC 23 A B C D I := by
  show ok23 A B C D I
  unfold ee24 at h
  unfold ok23
  simp [ieq_iff, ilt_iff, bc_z] at h
  omega
theorem ec83 {A B C D I : Int} (h : ee24 33574963 A B C D I = 0) : okC 23 A B C D I := by
  show ok23 A B C D I
  unfold ee24 at h
  unfold ok23
  simp [ieq_iff, ilt_iff, bc_z] at h
  omega
theorem ec84 {A B C D I : Int} (h : ee24 33579059 A B C D I = 0) : okC 23 A B C D I := by
  show ok23 A B C D I
  unfold ee24 at h
  unfold ok23
  simp [ieq_iff, ilt_iff, bc_z] at h
  omega
theorem ec85 {A B C D I : Int} (h : ee24 33583155 A B C D I = 0) : okC 23 A B C D I := by
  show ok23 A B C D I
  unfold ee24 at h
  unfold ok23
  simp [ieq_iff, ilt_iff, bc_z] at h
  omega
theorem ec86 {A B C D I : Int} (h : ee24 59 A B C D I = 0) : okC 23 A B C D I := by
  show ok23 A B C D I
  unfold ee24 at h
  unfold ok23
  simp [ieq_iff, ilt_iff, bc_z] at h
  omega
theorem ec87 {A B C D I : Int} (h : ee24 1073741883 A B C D I = 0) : okC 23 A B C D I := by
  show ok23 A B C D I
  unfold ee24 at h
  unfold ok23
  simp [ieq_iff, ilt_iff, bc_z] at h
  omega
theorem ec88 {A B C D I : Int} (h : ee24 4155 A B C D I = 0) : okC 23 A B C D I := by
  show ok23 A B C D I
  unfold ee24 at h
  unfold ok23
  simp [ieq_iff, ilt_iff, bc_z] at h
  omega
theorem ec89 {A B C D I : Int} (h : ee24 20539 A B C D I = 0) : okC 23 A B C D I := by
  show ok23 A B C D I
  unfold ee24 at h
  unfold ok23
  simp [ieq_iff, ilt_iff, bc_z] at h
  omega
theorem ec90 {A B C D I : Int} (h : ee24 1073762363 A B C D I = 0) : okC 23 A B C D I := by
  show ok23 A B C D I
  unfold ee24 at h
  unfold ok23
  simp [ieq_iff, ilt_iff, bc_z] at h
  omega
theorem ec91 {A B C D I : Int} (h : ee24 33554491 A B C D I = 0) : okC 23 A B C D I := by
  show ok23 A B C D I
  unfold ee24 at h
  unfold ok23
  simp [ieq_iff, ilt_iff, bc_z] at h
  omega
theorem ec92 {A B C D I : Int} (h : ee24 33570875 A B C D I = 0) : okC 23 A B C D I := by
  show ok23 A B C D I
  unfold ee24 at h
  unfold ok23
  simp [ieq_iff, ilt_iff, bc_z] at h
  omega
theorem ec93 {A B C D I : Int} (h : ee24 33574971 A B C D I = 0) : okC 23 A B C D I := by
  show ok23 A B C D I
  unfold ee24 at h
  unfold ok23
  simp [ieq_iff, ilt_iff, bc_z] at h
  omega
theorem ec94 {A B C D I : Int} (h : ee24 33579067 A B C D I = 0) : okC 23 A B C D I := by
  show ok23 A B C D I
  unfold ee24 at h
  unfold ok23
  simp [ieq_iff, ilt_iff, bc_z] at h
  omega
theorem ec95 {A B C D I : Int} (h : ee24 33583163 A B C D I = 0) : okC 23 A B C D I := by
  show ok23 A B C D I
  unfold ee24 at h
  unfold ok23
  simp [ieq_iff, ilt_iff, bc_z] at h
  omega
theorem ec96 {A B C D I : Int} (h : ee25 19 A B C D I = 0) : okC 24 A B C D I := by
  show ok24 A B C D I
  unfold ee25 at h
  unfold ok24
  simp [ieq_iff, ilt_iff, Int.negSucc_eq, bc_z] at h
  omega
theorem ec97 {A B C D I : Int} (h : ee25 8211 A B C D I = 0) : okC 24 A B C D I := by
  show ok24 A B C D I
  unfold ee25 at h
  unfold ok24
  simp [ieq_iff, ilt_iff, Int.negSucc_eq, bc_z] at h
  omega
theorem ec98 {A B C D I : Int} (h : ee25 12307 A B C D I = 0) : okC 24 A B C D I := by
  show ok24 A B C D I
  unfold ee25 at h
  unfold ok24
  simp [ieq_iff, ilt_iff, Int.negSucc_eq, bc_z] at h
  omega
theorem ec99 {A B C D I : Int} (h : ee25 16403 A B C D I = 0) : okC 24 A B C D I := by
  show ok24 A B C D I
  unfold ee25 at h
  unfold ok24
  simp [ieq_iff, ilt_iff, Int.negSucc_eq, bc_z] at h
  omega
theorem ec100 {A B C D I : Int} (h : ee25 24595 A B C D I = 0) : okC 24 A B C D I := by
  show ok24 A B C D I
  unfold ee25 at h
  unfold ok24
  simp [ieq_iff, ilt_iff, Int.negSucc_eq, bc_z] at h
  omega
theorem ec101 {A B C D I : Int} (h : ee25 28691 A B C D I = 0) : okC 24 A B C D I := by
  show ok24 A B C D I
  unfold ee25 at h
  unfold ok24
  simp [ieq_iff, ilt_iff, Int.negSucc_eq, bc_z] at h
  omega
theorem ec102 {A B C D I : Int} (h : ee25 27 A B C D I = 0) : okC 24 A B C D I := by
  show ok24 A B C D I
  unfold ee25 at h
  unfold ok24
  simp [ieq_iff, ilt_iff, Int.negSucc_eq, bc_z] at h
  omega
theorem ec103 {A B C D I : Int} (h : ee25 3 A B C D I = 0) : okC 24 A B C D I := by
  show ok24 A B C D I
  unfold ee25 at h
  unfold ok24
  simp [ieq_iff, ilt_iff, Int.negSucc_eq, bc_z] at h
  omega
theorem ec104 {A B C D I : Int} (h : ee25 4099 A B C D I = 0) : okC 24 A B C D I := by
  show ok24 A B C D I
  unfold ee25 at h
  unfold ok24
  simp [ieq_iff, ilt_iff, Int.negSucc_eq, bc_z] at h
  omega
theorem ec105 {A B C D I : Int} (h : ee25 8195 A B C D I = 0) : okC 24 A B C D I := by
  show ok24 A B C D I
  unfold ee25 at h
  unfold ok24
  simp [ieq_iff, ilt_iff, Int.negSucc_eq, bc_z] at h
  omega
theorem ec106 {A B C D I : Int} (h : ee25 12291 A B C D I = 0) : okC 24 A B C D I := by
  show ok24 A B C D I
  unfold ee25 at h
  unfold ok24
  simp [ieq_iff, ilt_iff, Int.negSucc_eq, bc_z] at h
  omega
theorem ec107 {A B C D I : Int} (h : ee25 16387 A B C D I = 0) : okC 24 A B C D I := by
  show ok24 A B C D I
  unfold ee25 at h
  unfold ok24
  simp [ieq_iff, ilt_iff, Int.negSucc_eq, bc_z] at h
  omega
theorem ec108 {A B C D I : Int} (h : ee25 20483 A B C D I = 0) : okC 24 A B C D I := by
  show ok24 A B C D I
  unfold ee25 at h
  unfold ok24
  simp [ieq_iff, ilt_iff, Int.negSucc_eq, bc_z] at h
  omega
theorem ec109 {A B C D I : Int} (h : ee25 24579 A B C D I = 0) : okC 24 A B C D I := by
  show ok24 A B C D I
  unfold ee25 at h
  unfold ok24
  simp [ieq_iff, ilt_iff, Int.negSucc_eq, bc_z] at h
  omega
theorem ec110 {A B C D I : Int} (h : ee25 103 A B C D I = 0) : okC 24 A B C D I := by
  show ok24 A B C D I
  unfold ee25 at h
  unfold ok24
  simp [ieq_iff, ilt_iff, Int.negSucc_eq, bc_z] at h
  omega
theorem ec111 {A B C D I : Int} (h : ee26 63 4115 A B C D I = 0) : okC 24 A B C D I := by
  show ok24 A B C D I
  unfold ee26 at h
  unfold ok24
  simp [ieq_iff, ilt_iff, bc_z] at h
  omega
theorem ec112 {A B C D I : Int} (h : ee26 63 20499 A B C D I = 0) : okC 24 A B C D I := by
  show ok24 A B C D I
  unfold ee26 at h
  unfold ok24
  simp [ieq_iff, ilt_iff, bc_z] at h
  omega
theorem ec113 {A B C D I : Int} (h : ee26 63 1073762323 A B C D I = 0) : okC 24 A B C D I := by
  show ok24 A B C D I
  unfold ee26 at h
  unfold ok24
  simp [ieq_iff, ilt_iff, bc_z] at h
  omega
theorem ec114 {A B C D I : Int} (h : ee26 31 4123 A B C D I = 0) : okC 24 A B C D I := by
  show ok24 A B C D I
  unfold ee26 at h
  unfold ok24
  simp [ieq_iff, ilt_iff, bc_z] at h
  omega
theorem ec115 {A B C D I : Int} (h : ee26 31 20507 A B C D I = 0) : okC 24 A B C D I := by
  show ok24 A B C D I
  unfold ee26 at h
  unfold ok24
  simp [ieq_iff, ilt_iff, bc_z] at h
  omega
theorem ec116 {A B C D I : Int} (h : ee26 31 1073762331 A B C D I = 0) : okC 24 A B C D I := by
  show ok24 A B C D I
  unfold ee26 at h
  unfold ok24
  simp [ieq_iff, ilt_iff, bc_z] at h
  omega
theorem ec117 {A B C D I : Int} (h : ee27 2047 2047 1 35 A B C D I = 0) : okC 30 A B C D I := by
  show ok30 A B C D I
  unfold ee27 at h
  unfold ok30
  simp [ieq_iff, ilt_iff, Int.negSucc_eq, bc_z] at h
  omega
theorem ec118 {A B C D I : Int} (h : ee27 2047 2047 1 4131 A B C D I = 0) : okC 30 A B C D I := by
  show ok30 A B C D I
  unfold ee27 at h
  unfold ok30
  simp [ieq_iff, ilt_iff, Int.negSucc_eq, bc_z] at h
  omega
theorem ec119 {A B C D I : Int} (h : ee27 2047 2047 1 8227 A B C D I = 0) : okC 30 A B C D I := by
  show ok30 A B C D I
  unfold ee27 at h
  unfold ok30
  simp [ieq_iff, ilt_iff, Int.negSucc_eq, bc_z] at h
  omega
theorem ec120 {A B C D I : Int} (h : ee27 2047 2047 1 12323 A B C D I = 0) : okC 30 A B C D I := by
  show ok30 A B C D I
  unfold ee27 at h
  unfold ok30
  simp [ieq_iff, ilt_iff, Int.negSucc_eq, bc_z] at h
  omega
theorem ec121 {A B C D I : Int} (h : ee27 4095 4094 2 99 A B C D I = 0) : okC 28 A B C D I := by
  show ok28 A B C D I
  unfold ee27 at h
  unfold ok28
  simp [ieq_iff, ilt_iff, Int.negSucc_eq, bc_z] at h
  omega
theorem ec122 {A B C D I : Int} (h : ee27 4095 4094 2 4195 A B C D I = 0) : okC 28 A B C D I := by
  show ok28 A B C D I
  unfold ee27 at h
  unfold ok28
  simp [ieq_iff, ilt_iff, Int.negSucc_eq, bc_z] at h
  omega
theorem ec123 {A B C D I : Int} (h : ee27 4095 4094 2 16483 A B C D I = 0) : okC 28 A B C D I := by
  show ok28 A B C D I
  unfold ee27 at h
  unfold ok28
  simp [ieq_iff, ilt_iff, Int.negSucc_eq, bc_z] at h
  omega
theorem ec124 {A B C D I : Int} (h : ee27 4095 4094 2 20579 A B C D I = 0) : okC 28 A B C D I := by
  show ok28 A B C D I
  unfold ee27 at h
  unfold ok28
  simp [ieq_iff, ilt_iff, Int.negSucc_eq, bc_z] at h
  omega
theorem ec125 {A B C D I : Int} (h : ee27 4095 4094 2 24675 A B C D I = 0) : okC 28 A B C D I := by
  show ok28 A B C D I
  unfold ee27 at h
  unfold ok28
  simp [ieq_iff, ilt_iff, Int.negSucc_eq, bc_z] at h
  omega
theorem ec126 {A B C D I : Int} (h : ee27 4095 4094 2 28771 A B C D I = 0) : okC 28 A B C D I := by
  show ok28 A B C D I
  unfold ee27 at h
  unfold ok28
  simp [ieq_iff, ilt_iff, Int.negSucc_eq, bc_z] at h
  omega
theorem ec127 {A B C D I : Int} (h : ee28 524287 524287 1 55 A B C D I = 0) : okC 26 A B C D I := by
  show ok26 A B C D I
  unfold ee28 at h
  unfold ok26
  simp [ieq_iff, ilt_iff, Int.negSucc_eq, bc_z] at h
  omega
theorem ec128 {A B C D I : Int} (h : ee28 524287 524287 1 23 A B C D I = 0) : okC 26 A B C D I := by
  show ok26 A B C D I
  unfold ee28 at h
  unfold ok26
  simp [ieq_iff, ilt_iff, Int.negSucc_eq, bc_z] at h
  omega
theorem ec129 {A B C D I : Int} (h : ee28 1048575 1048574 2 111 A B C D I = 0) : okC 26 A B C D I := by
  show ok26 A B C D I
  unfold ee28 at h
  unfold ok26
  simp [ieq_iff, ilt_iff, Int.negSucc_eq, bc_z] at h
  omega
theorem ec130 {A B C D I : Int} (h : ee29 115 A B C D I = 0) : okC 22 A B C D I := by
  show ok22 A B C D I
  unfold ee29 at h
  unfold ok22
  simp [ieq_iff, ilt_iff, bc_z] at h
  omega
theorem ec131 {A B C D I : Int} (h : ee29 1048691 A B C D I = 0) : okC 22 A B C D I := by
  show ok22 A B C D I
  unfold ee29 at h
  unfold ok22
  simp [ieq_iff, ilt_iff, bc_z] at h
  omega
theorem ec132 {A B C D I : Int} (h : ee30 A B C D I = 0) : okC 26 A B C D I := by
  show ok26 A B C D I
  unfold ee30 at h
  unfold ok26
  simp [ieq_iff, ilt_iff, bc_z] at h
  omega
theorem ec133 {A B C D I : Int} (h : ee31 A B C D I = 0) : okC 24 A B C D I := by
  show ok24 A B C D I
  unfold ee31 at h
  unfold ok24
  simp [ieq_iff, ilt_iff, bc_z] at h
  omega
theorem ec134 {A B C D I : Int} (h : ee32 A B C D I = 0) : okC 24 A B C D I := by
  show ok24 A B C D I
  unfold ee32 at h
  unfold ok24
  simp [ieq_iff, ilt_iff, bc_z] at h
  omega
theorem ec135 {A B C D I : Int} (h : ee33 A B C D I = 0) : okC 30 A B C D I := by
  show ok30 A B C D I
  unfold ee33 at h
  unfold ok30
  simp [ieq_iff, ilt_iff, bc_z] at h
  omega
theorem ec136 {A B C D I : Int} (h : ee34 A B C D I = 0) : okC 30 A B C D I := by
  show ok30 A B C D I
  unfold ee34 at h
  unfold ok30
  simp [ieq_iff, ilt_iff, bc_z] at h
  omega
theorem ec137 {A B C D I : Int} (h : ee35 A B C D I = 0) : okC 22 A B C D I := by
  show ok22 A B C D I
  unfold ee35 at h
  unfold ok22
  simp [ieq_iff, ilt_iff, bc_z] at h
  omega
theorem ec138 {A B C D I : Int} (h : ee36 A B C D I = 0) : okC 26 A B C D I := by
  show ok26 A B C D I
  unfold ee36 at h
  unfold ok26
  simp [ieq_iff, ilt_iff, Int.negSucc_eq, bc_z] at h
  omega
theorem ec139 {A B C D I : Int} (h : ee37 2 A B C D I = 0) : okC 26 A B C D I := by
  show ok26 A B C D I
  unfold ee37 at h
  unfold ok26
  simp [ieq_iff, ilt_iff, Int.negSucc_eq, bc_z] at h
  omega
theorem ec140 {A B C D I : Int} (h : ee37 4 A B C D I = 0) : okC 26 A B C D I := by
  show ok26 A B C D I
  unfold ee37 at h
  unfold ok26
  simp [ieq_iff, ilt_iff, Int.negSucc_eq, bc_z] at h
  omega
theorem ec141 {A B C D I : Int} (h : ee38 A B C D I = 0) : okC 32 A B C D I := by
  show ok32 A B C D I
  unfold ee38 at h
  unfold ok32
  simp [ieq_iff, ilt_iff, Int.negSucc_eq, bc_z] at h
  omega
theorem ec142 {A B C D I : Int} (h : ee39 A B C D I = 0) : okC 26 A B C D I := by
  show ok26 A B C D I
  unfold ee39 at h
  unfold ok26
  simp [ieq_iff, ilt_iff, Int.negSucc_eq, bc_z] at h
  omega
theorem ec143 {A B C D I : Int} (h : ee40 0 A B C D I = 0) : okC 26 A B C D I := by
  show ok26 A B C D I
  unfold ee40 at h
  unfold ok26
  simp [ieq_iff, ilt_iff, bc_z] at h
  omega
theorem ec144 {A B C D I : Int} (h : ee40 1 A B C D I = 0) : okC 26 A B C D I := by
  show ok26 A B C D I
  unfold ee40 at h
  unfold ok26
  simp [ieq_iff, ilt_iff, bc_z] at h
  omega
theorem ec145 {A B C D I : Int} (h : ee41 A B C D I = 0) : okC 26 A B C D I := by
  show ok26 A B C D I
  unfold ee41 at h
  unfold ok26
  simp [ieq_iff, ilt_iff, Int.negSucc_eq, bc_z] at h
  omega
theorem ec146 {A B C D I : Int} (h : ee42 280 0 A B C D I = 0) : okC 25 A B C D I := by
  show ok25 A B C D I
  unfold ee42 at h
  unfold ok25
  simp [ieq_iff, ilt_iff, bc_z] at h
  omega
theorem ec147 {A B C D I : Int} (h : ee42 280 1 A B C D I = 0) : okC 25 A B C D I := by
  show ok25 A B C D I
  unfold ee42 at h
  unfold ok25
  simp [ieq_iff, ilt_iff, bc_z] at h
  omega
theorem ec148 {A B C D I : Int} (h : ee42 280 2 A B C D I = 0) : okC 25 A B C D I := by
  show ok25 A B C D I
  unfold ee42 at h
  unfold ok25
  simp [ieq_iff, ilt_iff, bc_z] at h
  omega
theorem ec149 {A B C D I : Int} (h : ee42 280 3 A B C D I = 0) : okC 25 A B C D I := by
  show ok25 A B C D I
  unfold ee42 at h
  unfold ok25
  simp [ieq_iff, ilt_iff, bc_z] at h
  omega
theorem ec150 {A B C D I : Int} (h : ee42 312 0 A B C D I = 0) : okC 25 A B C D I := by
  show ok25 A B C D I
  unfold ee42 at h
  unfold ok25
  simp [ieq_iff, ilt_iff, bc_z] at h
  omega
theorem ec151 {A B C D I : Int} (h : ee42 312 1 A B C D I = 0) : okC 25 A B C D I := by
  show ok25 A B C D I
  unfold ee42 at h
  unfold ok25
  simp [ieq_iff, ilt_iff, bc_z] at h
  omega
theorem ec152 {A B C D I : Int} (h : ee43 A B C D I = 0) : okC 32 A B C D I := by
  show ok32 A B C D I
  unfold ee43 at h
  unfold ok32
  simp [ieq_iff, ilt_iff, Int.negSucc_eq, bc_z] at h
  omega
theorem ec153 {A B C D I : Int} (h : ee44 12 A B C D I = 0) : okC 29 A B C D I := by
  show ok29 A B C D I
  unfold ee44 at h
  unfold ok29
  simp [ieq_iff, ilt_iff, Int.negSucc_eq, bc_z] at h
  omega
theorem ec154 {A B C D I : Int} (h : ee44 14 A B C D I = 0) : okC 29 A B C D I := by
  show ok29 A B C D I
  unfold ee44 at h
  unfold ok29
  simp [ieq_iff, ilt_iff, Int.negSucc_eq, bc_z] at h
  omega
theorem ec155 {A B C D I : Int} (h : ee45 A B C D I = 0) : okC 26 A B C D I := by
  show ok26 A B C D I
  unfold ee45 at h
  unfold ok26
  simp [ieq_iff, ilt_iff, bc_z] at h
  omega
theorem ec156 {A B C D I : Int} (h : ee46 252 4 4 3 2 7 3 A B C D I = 0) : okC 26 A B C D I := by
  show ok26 A B C D I
  unfold ee46 at h
  unfold ok26
  simp [ieq_iff, ilt_iff, bc_z] at h
  omega
theorem ec157 {A B C D I : Int} (h : ee46 504 8 6 2 3 3 7 A B C D I = 0) : okC 26 A B C D I := by
  show ok26 A B C D I
  unfold ee46 at h
  unfold ok26
  simp [ieq_iff, ilt_iff, bc_z] at h
  omega
theorem ec158 {A B C D I : Int} (h : ee47 256 A B C D I = 0) : okC 27 A B C D I := by
  show ok27 A B C D I
  unfold ee47 at h
  unfold ok27
  simp [ieq_iff, ilt_iff, bc_z] at h
  omega
theorem ec159 {A B C D I : Int} (h : ee47 288 A B C D I = 0) : okC 27 A B C D I := by
  show ok27 A B C D I
  unfold ee47 at h
  unfold ok27
  simp [ieq_iff, ilt_iff, bc_z] at h
  omega
theorem ec160 {A B C D I : Int} (h : ee48 256 A B C D I = 0) : okC 25 A B C D I := by
  show ok25 A B C D I
  unfold ee48 at h
  unfold ok25
  simp [ieq_iff, ilt_iff, bc_z] at h
  omega
theorem ec161 {A B C D I : Int} (h : ee48 288 A B C D I = 0) : okC 25 A B C D I := by
  show ok25 A B C D I
  unfold ee48 at h
  unfold ok25
  simp [ieq_iff, ilt_iff, bc_z] at h
  omega
theorem ec162 {A B C D I : Int} (h : ee49 252 4 96 2 15 3 A B C D I = 0) : okC 31 A B C D I := by
  show ok31 A B C D I
  unfold ee49 at h
  unfold ok31
  simp [ieq_iff, ilt_iff, bc_z] at h
  omega
theorem ec163 {A B C D I : Int} (h : ee49 504 8 56 3 7 7 A B C D I = 0) : okC 31 A B C D I := by
  show ok31 A B C D I
  unfold ee49 at h
  unfold ok31
  simp [ieq_iff, ilt_iff, bc_z] at h
  omega
end
end Go.Proofs.YtlclahpapabkdaaGreatDoor
