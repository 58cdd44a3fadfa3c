/- (*asm.maker).bytes of a part with three jumps and room between them, as a summary: it reads the maker, the part, its items, the jumps' rows. -/
import Derived.Test.YthlcgkebfodnmaaGreatDoorAsBytes
namespace Go.Proofs.YthlcgkebfodnmaaGreatDoor
open Go Go.Vai
noncomputable section
set_option maxRecDepth 100000
def itJ (st : Nat) (cd fa : Bool) (d : AV) (b pl sz : Nat) (sy : List UInt8) : List AV := [.int .i64 (.ofNat st), .bool cd, .bool fa, d, .int .i64 (.ofNat b), .int .i64 (.ofNat 0), .int .i64 (.ofNat pl), .int .i64 (.ofNat sz), .str sy, .int .i64 (.ofNat 0), .str []]
structure JP where
  n : Nat
  m : Nat
  k0 : Nat
  k1 : Nat
  k2 : Nat
  p0 : Nat
  p1 : Nat
  p2 : Nat
  p3 : Nat
  p4 : Nat
  f0 : Bool
  f1 : Bool
  f2 : Bool
def itLJ (x : JP) (d0 d1 d2 : AV) : List AV := itJ 0 true x.f0 d0 0 x.p0 x.k0 [98] ++ (itJ 1 false false .nils x.n x.p1 x.n [] ++ (itJ 2 true x.f1 d1 0 x.p2 x.k1 [99] ++ (itJ 4 false false .nils x.m x.p3 x.m [] ++ itJ 6 true x.f2 d2 0 x.p4 x.k2 [98])))
def pwJ (nm : List UInt8) : AObj := .cells 6 ((Tr.nil.putAll 0 [.str nm, .str [97, 120]]).set 3 (.sl 14 0 5 none)) 0 none 0 true false
def bRj (k : Nat) (C : List UInt8) : AObj := .cells k (bT C) 0 none 0 true false
def bjO (nm : List UInt8) (x : JP) (C0 C1 C2 : List UInt8) : List AObj := [mvO 1, pwJ nm, .cells 55 (Tr.nil.putAll 0 (itLJ x (.sl 15 0 x.k0 none) (.sl 16 0 x.k1 none) (.sl 17 0 x.k2 none))) 0 none 0 true false, bRj x.k0 C0, bRj x.k1 C1, bRj x.k2 C2]
def byjT (k0 k1 k2 n m : Nat) (C0 C1 C2 : List UInt8) : Option (Nat × Nat × Tr AV) := bc (hasA ((bT C0)) 0 (Nat.mul k0 1)) (bc (Nat.beq k0 0) (bc (AV.eqb (.int .i64 (.ofNat n)) (.int .i64 (.ofNat n))) (bc (roomy n 2) (bc (Nat.beq n 0) (bc (hasA ((bT C1)) 0 (Nat.mul k1 1)) (bc (Nat.beq k1 0) (bc (AV.eqb (.int .i64 (.ofNat m)) (.int .i64 (.ofNat m))) (bc (roomy m 2) (bc (Nat.beq m 0) (bc (hasA ((bT C2)) 0 (Nat.mul k2 1)) (bc (Nat.beq k2 0) (none) (bc (roomy k2 1) (bc (Nat.blt (Nat.mul k2 1) (Nat.mul k2 1)) (none) (some (k2, (Nat.mul k2 1), Tr.putAll Tr.nil 0 (getA ((bT C2)) 0 (Nat.mul k2 1))))) (none))) (none)) (bc (roomy m 1) (bc (Nat.blt (Nat.mul m 1) (Nat.mul m 1)) (none) (bc (hasA ((bT C2)) 0 (Nat.mul k2 1)) (bc (Nat.beq k2 0) (bc (Nat.blt (Nat.mul m 1) (Nat.mul m 1)) (none) (some (m, (Nat.mul m 1), Tr.putAll Tr.nil 0 (rep [.int .u8 (.ofNat 0)] m)))) (bc (Nat.beq (Nat.mul m 1) (Nat.mul m 1)) (bc (roomy (Nat.add m k2) 1) (bc (onesA (getA ((bT C2)) 0 (Nat.mul k2 1))) (bc (Nat.blt (Nat.mul (Nat.add m k2) 1) (Nat.add (Nat.mul m 1) (Nat.mul k2 1))) (none) (some ((Nat.add m k2), (Nat.add (Nat.mul m 1) (Nat.mul k2 1)), Tr.putAll (Tr.putAll Tr.nil 0 (rep [.int .u8 (.ofNat 0)] m)) (Nat.mul m 1) (getA ((bT C2)) 0 (Nat.mul k2 1))))) (none)) (none)) (none))) (none))) (none))) (none)) (none)) (bc (roomy k1 1) (bc (Nat.blt (Nat.mul k1 1) (Nat.mul k1 1)) (none) (bc (Nat.blt (Nat.mul k1 1) (Nat.mul k1 1)) (none) (bc (AV.eqb (.int .i64 (.ofNat m)) (.int .i64 (.ofNat m))) (bc (Nat.blt (Nat.mul k1 1) (Nat.mul k1 1)) (none) (bc (roomy m 2) (bc (Nat.beq m 0) (bc (Nat.blt (Nat.mul k1 1) (Nat.mul k1 1)) (none) (bc (hasA ((bT C2)) 0 (Nat.mul k2 1)) (bc (Nat.beq k2 0) (bc (Nat.blt (Nat.mul k1 1) (Nat.mul k1 1)) (none) (some (k1, (Nat.mul k1 1), Tr.putAll Tr.nil 0 (getA ((bT C1)) 0 (Nat.mul k1 1))))) (bc (Nat.beq (Nat.mul k1 1) (Nat.mul k1 1)) (bc (roomy (Nat.add k1 k2) 1) (bc (onesA (getA ((bT C2)) 0 (Nat.mul k2 1))) (bc (Nat.blt (Nat.mul (Nat.add k1 k2) 1) (Nat.add (Nat.mul k1 1) (Nat.mul k2 1))) (none) (some ((Nat.add k1 k2), (Nat.add (Nat.mul k1 1) (Nat.mul k2 1)), Tr.putAll (Tr.putAll Tr.nil 0 (getA ((bT C1)) 0 (Nat.mul k1 1))) (Nat.mul k1 1) (getA ((bT C2)) 0 (Nat.mul k2 1))))) (none)) (none)) (none))) (none))) (bc (Nat.beq (Nat.mul k1 1) (Nat.mul k1 1)) (bc (roomy (Nat.add k1 m) 1) (bc (onesA (rep [.int .u8 (.ofNat 0)] m)) (bc (Nat.blt (Nat.mul (Nat.add k1 m) 1) (Nat.add (Nat.mul k1 1) (Nat.mul m 1))) (none) (bc (hasA ((bT C2)) 0 (Nat.mul k2 1)) (bc (Nat.beq k2 0) (bc (Nat.blt (Nat.mul (Nat.add k1 m) 1) (Nat.add (Nat.mul k1 1) (Nat.mul m 1))) (none) (some ((Nat.add k1 m), (Nat.add (Nat.mul k1 1) (Nat.mul m 1)), Tr.putAll (Tr.putAll Tr.nil 0 (getA ((bT C1)) 0 (Nat.mul k1 1))) (Nat.mul k1 1) (rep [.int .u8 (.ofNat 0)] m)))) (bc (Nat.beq (Nat.add (Nat.mul k1 1) (Nat.mul m 1)) (Nat.mul (Nat.add k1 m) 1)) (bc (roomy (Nat.add (Nat.add k1 m) k2) 1) (bc (onesA (getA ((bT C2)) 0 (Nat.mul k2 1))) (bc (Nat.blt (Nat.mul (Nat.add (Nat.add k1 m) k2) 1) (Nat.add (Nat.add (Nat.mul k1 1) (Nat.mul m 1)) (Nat.mul k2 1))) (none) (some ((Nat.add (Nat.add k1 m) k2), (Nat.add (Nat.add (Nat.mul k1 1) (Nat.mul m 1)) (Nat.mul k2 1)), Tr.putAll (Tr.putAll (Tr.putAll Tr.nil 0 (getA ((bT C1)) 0 (Nat.mul k1 1))) (Nat.mul k1 1) (rep [.int .u8 (.ofNat 0)] m)) (Nat.add (Nat.mul k1 1) (Nat.mul m 1)) (getA ((bT C2)) 0 (Nat.mul k2 1))))) (none)) (none)) (none))) (none))) (none)) (none)) (none))) (none))) (none)))) (none))) (none)) (bc (roomy n 1) (bc (Nat.blt (Nat.mul n 1) (Nat.mul n 1)) (none) (bc (hasA ((bT C1)) 0 (Nat.mul k1 1)) (bc (Nat.beq k1 0) (bc (Nat.blt (Nat.mul n 1) (Nat.mul n 1)) (none) (bc (Nat.blt (Nat.mul n 1) (Nat.mul n 1)) (none) (bc (AV.eqb (.int .i64 (.ofNat m)) (.int .i64 (.ofNat m))) (bc (Nat.blt (Nat.mul n 1) (Nat.mul n 1)) (none) (bc (roomy m 2) (bc (Nat.beq m 0) (bc (Nat.blt (Nat.mul n 1) (Nat.mul n 1)) (none) (bc (hasA ((bT C2)) 0 (Nat.mul k2 1)) (bc (Nat.beq k2 0) (bc (Nat.blt (Nat.mul n 1) (Nat.mul n 1)) (none) (some (n, (Nat.mul n 1), Tr.putAll Tr.nil 0 (rep [.int .u8 (.ofNat 0)] n)))) (bc (Nat.beq (Nat.mul n 1) (Nat.mul n 1)) (bc (roomy (Nat.add n k2) 1) (bc (onesA (getA ((bT C2)) 0 (Nat.mul k2 1))) (bc (Nat.blt (Nat.mul (Nat.add n k2) 1) (Nat.add (Nat.mul n 1) (Nat.mul k2 1))) (none) (some ((Nat.add n k2), (Nat.add (Nat.mul n 1) (Nat.mul k2 1)), Tr.putAll (Tr.putAll Tr.nil 0 (rep [.int .u8 (.ofNat 0)] n)) (Nat.mul n 1) (getA ((bT C2)) 0 (Nat.mul k2 1))))) (none)) (none)) (none))) (none))) (bc (Nat.beq (Nat.mul n 1) (Nat.mul n 1)) (bc (roomy (Nat.add n m) 1) (bc (onesA (rep [.int .u8 (.ofNat 0)] m)) (bc (Nat.blt (Nat.mul (Nat.add n m) 1) (Nat.add (Nat.mul n 1) (Nat.mul m 1))) (none) (bc (hasA ((bT C2)) 0 (Nat.mul k2 1)) (bc (Nat.beq k2 0) (bc (Nat.blt (Nat.mul (Nat.add n m) 1) (Nat.add (Nat.mul n 1) (Nat.mul m 1))) (none) (some ((Nat.add n m), (Nat.add (Nat.mul n 1) (Nat.mul m 1)), Tr.putAll (Tr.putAll Tr.nil 0 (rep [.int .u8 (.ofNat 0)] n)) (Nat.mul n 1) (rep [.int .u8 (.ofNat 0)] m)))) (bc (Nat.beq (Nat.add (Nat.mul n 1) (Nat.mul m 1)) (Nat.mul (Nat.add n m) 1)) (bc (roomy (Nat.add (Nat.add n m) k2) 1) (bc (onesA (getA ((bT C2)) 0 (Nat.mul k2 1))) (bc (Nat.blt (Nat.mul (Nat.add (Nat.add n m) k2) 1) (Nat.add (Nat.add (Nat.mul n 1) (Nat.mul m 1)) (Nat.mul k2 1))) (none) (some ((Nat.add (Nat.add n m) k2), (Nat.add (Nat.add (Nat.mul n 1) (Nat.mul m 1)) (Nat.mul k2 1)), Tr.putAll (Tr.putAll (Tr.putAll Tr.nil 0 (rep [.int .u8 (.ofNat 0)] n)) (Nat.mul n 1) (rep [.int .u8 (.ofNat 0)] m)) (Nat.add (Nat.mul n 1) (Nat.mul m 1)) (getA ((bT C2)) 0 (Nat.mul k2 1))))) (none)) (none)) (none))) (none))) (none)) (none)) (none))) (none))) (none)))) (bc (Nat.beq (Nat.mul n 1) (Nat.mul n 1)) (bc (roomy (Nat.add n k1) 1) (bc (onesA (getA ((bT C1)) 0 (Nat.mul k1 1))) (bc (Nat.blt (Nat.mul (Nat.add n k1) 1) (Nat.add (Nat.mul n 1) (Nat.mul k1 1))) (none) (bc (Nat.blt (Nat.mul (Nat.add n k1) 1) (Nat.add (Nat.mul n 1) (Nat.mul k1 1))) (none) (bc (AV.eqb (.int .i64 (.ofNat m)) (.int .i64 (.ofNat m))) (bc (Nat.blt (Nat.mul (Nat.add n k1) 1) (Nat.add (Nat.mul n 1) (Nat.mul k1 1))) (none) (bc (roomy m 2) (bc (Nat.beq m 0) (bc (Nat.blt (Nat.mul (Nat.add n k1) 1) (Nat.add (Nat.mul n 1) (Nat.mul k1 1))) (none) (bc (hasA ((bT C2)) 0 (Nat.mul k2 1)) (bc (Nat.beq k2 0) (bc (Nat.blt (Nat.mul (Nat.add n k1) 1) (Nat.add (Nat.mul n 1) (Nat.mul k1 1))) (none) (some ((Nat.add n k1), (Nat.add (Nat.mul n 1) (Nat.mul k1 1)), Tr.putAll (Tr.putAll Tr.nil 0 (rep [.int .u8 (.ofNat 0)] n)) (Nat.mul n 1) (getA ((bT C1)) 0 (Nat.mul k1 1))))) (bc (Nat.beq (Nat.add (Nat.mul n 1) (Nat.mul k1 1)) (Nat.mul (Nat.add n k1) 1)) (bc (roomy (Nat.add (Nat.add n k1) k2) 1) (bc (onesA (getA ((bT C2)) 0 (Nat.mul k2 1))) (bc (Nat.blt (Nat.mul (Nat.add (Nat.add n k1) k2) 1) (Nat.add (Nat.add (Nat.mul n 1) (Nat.mul k1 1)) (Nat.mul k2 1))) (none) (some ((Nat.add (Nat.add n k1) k2), (Nat.add (Nat.add (Nat.mul n 1) (Nat.mul k1 1)) (Nat.mul k2 1)), Tr.putAll (Tr.putAll (Tr.putAll Tr.nil 0 (rep [.int .u8 (.ofNat 0)] n)) (Nat.mul n 1) (getA ((bT C1)) 0 (Nat.mul k1 1))) (Nat.add (Nat.mul n 1) (Nat.mul k1 1)) (getA ((bT C2)) 0 (Nat.mul k2 1))))) (none)) (none)) (none))) (none))) (bc (Nat.beq (Nat.add (Nat.mul n 1) (Nat.mul k1 1)) (Nat.mul (Nat.add n k1) 1)) (bc (roomy (Nat.add (Nat.add n k1) m) 1) (bc (onesA (rep [.int .u8 (.ofNat 0)] m)) (bc (Nat.blt (Nat.mul (Nat.add (Nat.add n k1) m) 1) (Nat.add (Nat.add (Nat.mul n 1) (Nat.mul k1 1)) (Nat.mul m 1))) (none) (bc (hasA ((bT C2)) 0 (Nat.mul k2 1)) (bc (Nat.beq k2 0) (bc (Nat.blt (Nat.mul (Nat.add (Nat.add n k1) m) 1) (Nat.add (Nat.add (Nat.mul n 1) (Nat.mul k1 1)) (Nat.mul m 1))) (none) (some ((Nat.add (Nat.add n k1) m), (Nat.add (Nat.add (Nat.mul n 1) (Nat.mul k1 1)) (Nat.mul m 1)), Tr.putAll (Tr.putAll (Tr.putAll Tr.nil 0 (rep [.int .u8 (.ofNat 0)] n)) (Nat.mul n 1) (getA ((bT C1)) 0 (Nat.mul k1 1))) (Nat.add (Nat.mul n 1) (Nat.mul k1 1)) (rep [.int .u8 (.ofNat 0)] m)))) (bc (Nat.beq (Nat.add (Nat.add (Nat.mul n 1) (Nat.mul k1 1)) (Nat.mul m 1)) (Nat.mul (Nat.add (Nat.add n k1) m) 1)) (bc (roomy (Nat.add (Nat.add (Nat.add n k1) m) k2) 1) (bc (onesA (getA ((bT C2)) 0 (Nat.mul k2 1))) (bc (Nat.blt (Nat.mul (Nat.add (Nat.add (Nat.add n k1) m) k2) 1) (Nat.add (Nat.add (Nat.add (Nat.mul n 1) (Nat.mul k1 1)) (Nat.mul m 1)) (Nat.mul k2 1))) (none) (some ((Nat.add (Nat.add (Nat.add n k1) m) k2), (Nat.add (Nat.add (Nat.add (Nat.mul n 1) (Nat.mul k1 1)) (Nat.mul m 1)) (Nat.mul k2 1)), Tr.putAll (Tr.putAll (Tr.putAll (Tr.putAll Tr.nil 0 (rep [.int .u8 (.ofNat 0)] n)) (Nat.mul n 1) (getA ((bT C1)) 0 (Nat.mul k1 1))) (Nat.add (Nat.mul n 1) (Nat.mul k1 1)) (rep [.int .u8 (.ofNat 0)] m)) (Nat.add (Nat.add (Nat.mul n 1) (Nat.mul k1 1)) (Nat.mul m 1)) (getA ((bT C2)) 0 (Nat.mul k2 1))))) (none)) (none)) (none))) (none))) (none)) (none)) (none))) (none))) (none)))) (none)) (none)) (none))) (none))) (none))) (none)) (none)) (bc (roomy k0 1) (bc (Nat.blt (Nat.mul k0 1) (Nat.mul k0 1)) (none) (bc (Nat.blt (Nat.mul k0 1) (Nat.mul k0 1)) (none) (bc (AV.eqb (.int .i64 (.ofNat n)) (.int .i64 (.ofNat n))) (bc (Nat.blt (Nat.mul k0 1) (Nat.mul k0 1)) (none) (bc (roomy n 2) (bc (Nat.beq n 0) (bc (Nat.blt (Nat.mul k0 1) (Nat.mul k0 1)) (none) (bc (hasA ((bT C1)) 0 (Nat.mul k1 1)) (bc (Nat.beq k1 0) (bc (Nat.blt (Nat.mul k0 1) (Nat.mul k0 1)) (none) (bc (Nat.blt (Nat.mul k0 1) (Nat.mul k0 1)) (none) (bc (AV.eqb (.int .i64 (.ofNat m)) (.int .i64 (.ofNat m))) (bc (Nat.blt (Nat.mul k0 1) (Nat.mul k0 1)) (none) (bc (roomy m 2) (bc (Nat.beq m 0) (bc (Nat.blt (Nat.mul k0 1) (Nat.mul k0 1)) (none) (bc (hasA ((bT C2)) 0 (Nat.mul k2 1)) (bc (Nat.beq k2 0) (bc (Nat.blt (Nat.mul k0 1) (Nat.mul k0 1)) (none) (some (k0, (Nat.mul k0 1), Tr.putAll Tr.nil 0 (getA ((bT C0)) 0 (Nat.mul k0 1))))) (bc (Nat.beq (Nat.mul k0 1) (Nat.mul k0 1)) (bc (roomy (Nat.add k0 k2) 1) (bc (onesA (getA ((bT C2)) 0 (Nat.mul k2 1))) (bc (Nat.blt (Nat.mul (Nat.add k0 k2) 1) (Nat.add (Nat.mul k0 1) (Nat.mul k2 1))) (none) (some ((Nat.add k0 k2), (Nat.add (Nat.mul k0 1) (Nat.mul k2 1)), Tr.putAll (Tr.putAll Tr.nil 0 (getA ((bT C0)) 0 (Nat.mul k0 1))) (Nat.mul k0 1) (getA ((bT C2)) 0 (Nat.mul k2 1))))) (none)) (none)) (none))) (none))) (bc (Nat.beq (Nat.mul k0 1) (Nat.mul k0 1)) (bc (roomy (Nat.add k0 m) 1) (bc (onesA (rep [.int .u8 (.ofNat 0)] m)) (bc (Nat.blt (Nat.mul (Nat.add k0 m) 1) (Nat.add (Nat.mul k0 1) (Nat.mul m 1))) (none) (bc (hasA ((bT C2)) 0 (Nat.mul k2 1)) (bc (Nat.beq k2 0) (bc (Nat.blt (Nat.mul (Nat.add k0 m) 1) (Nat.add (Nat.mul k0 1) (Nat.mul m 1))) (none) (some ((Nat.add k0 m), (Nat.add (Nat.mul k0 1) (Nat.mul m 1)), Tr.putAll (Tr.putAll Tr.nil 0 (getA ((bT C0)) 0 (Nat.mul k0 1))) (Nat.mul k0 1) (rep [.int .u8 (.ofNat 0)] m)))) (bc (Nat.beq (Nat.add (Nat.mul k0 1) (Nat.mul m 1)) (Nat.mul (Nat.add k0 m) 1)) (bc (roomy (Nat.add (Nat.add k0 m) k2) 1) (bc (onesA (getA ((bT C2)) 0 (Nat.mul k2 1))) (bc (Nat.blt (Nat.mul (Nat.add (Nat.add k0 m) k2) 1) (Nat.add (Nat.add (Nat.mul k0 1) (Nat.mul m 1)) (Nat.mul k2 1))) (none) (some ((Nat.add (Nat.add k0 m) k2), (Nat.add (Nat.add (Nat.mul k0 1) (Nat.mul m 1)) (Nat.mul k2 1)), Tr.putAll (Tr.putAll (Tr.putAll Tr.nil 0 (getA ((bT C0)) 0 (Nat.mul k0 1))) (Nat.mul k0 1) (rep [.int .u8 (.ofNat 0)] m)) (Nat.add (Nat.mul k0 1) (Nat.mul m 1)) (getA ((bT C2)) 0 (Nat.mul k2 1))))) (none)) (none)) (none))) (none))) (none)) (none)) (none))) (none))) (none)))) (bc (Nat.beq (Nat.mul k0 1) (Nat.mul k0 1)) (bc (roomy (Nat.add k0 k1) 1) (bc (onesA (getA ((bT C1)) 0 (Nat.mul k1 1))) (bc (Nat.blt (Nat.mul (Nat.add k0 k1) 1) (Nat.add (Nat.mul k0 1) (Nat.mul k1 1))) (none) (bc (Nat.blt (Nat.mul (Nat.add k0 k1) 1) (Nat.add (Nat.mul k0 1) (Nat.mul k1 1))) (none) (bc (AV.eqb (.int .i64 (.ofNat m)) (.int .i64 (.ofNat m))) (bc (Nat.blt (Nat.mul (Nat.add k0 k1) 1) (Nat.add (Nat.mul k0 1) (Nat.mul k1 1))) (none) (bc (roomy m 2) (bc (Nat.beq m 0) (bc (Nat.blt (Nat.mul (Nat.add k0 k1) 1) (Nat.add (Nat.mul k0 1) (Nat.mul k1 1))) (none) (bc (hasA ((bT C2)) 0 (Nat.mul k2 1)) (bc (Nat.beq k2 0) (bc (Nat.blt (Nat.mul (Nat.add k0 k1) 1) (Nat.add (Nat.mul k0 1) (Nat.mul k1 1))) (none) (some ((Nat.add k0 k1), (Nat.add (Nat.mul k0 1) (Nat.mul k1 1)), Tr.putAll (Tr.putAll Tr.nil 0 (getA ((bT C0)) 0 (Nat.mul k0 1))) (Nat.mul k0 1) (getA ((bT C1)) 0 (Nat.mul k1 1))))) (bc (Nat.beq (Nat.add (Nat.mul k0 1) (Nat.mul k1 1)) (Nat.mul (Nat.add k0 k1) 1)) (bc (roomy (Nat.add (Nat.add k0 k1) k2) 1) (bc (onesA (getA ((bT C2)) 0 (Nat.mul k2 1))) (bc (Nat.blt (Nat.mul (Nat.add (Nat.add k0 k1) k2) 1) (Nat.add (Nat.add (Nat.mul k0 1) (Nat.mul k1 1)) (Nat.mul k2 1))) (none) (some ((Nat.add (Nat.add k0 k1) k2), (Nat.add (Nat.add (Nat.mul k0 1) (Nat.mul k1 1)) (Nat.mul k2 1)), Tr.putAll (Tr.putAll (Tr.putAll Tr.nil 0 (getA ((bT C0)) 0 (Nat.mul k0 1))) (Nat.mul k0 1) (getA ((bT C1)) 0 (Nat.mul k1 1))) (Nat.add (Nat.mul k0 1) (Nat.mul k1 1)) (getA ((bT C2)) 0 (Nat.mul k2 1))))) (none)) (none)) (none))) (none))) (bc (Nat.beq (Nat.add (Nat.mul k0 1) (Nat.mul k1 1)) (Nat.mul (Nat.add k0 k1) 1)) (bc (roomy (Nat.add (Nat.add k0 k1) m) 1) (bc (onesA (rep [.int .u8 (.ofNat 0)] m)) (bc (Nat.blt (Nat.mul (Nat.add (Nat.add k0 k1) m) 1) (Nat.add (Nat.add (Nat.mul k0 1) (Nat.mul k1 1)) (Nat.mul m 1))) (none) (bc (hasA ((bT C2)) 0 (Nat.mul k2 1)) (bc (Nat.beq k2 0) (bc (Nat.blt (Nat.mul (Nat.add (Nat.add k0 k1) m) 1) (Nat.add (Nat.add (Nat.mul k0 1) (Nat.mul k1 1)) (Nat.mul m 1))) (none) (some ((Nat.add (Nat.add k0 k1) m), (Nat.add (Nat.add (Nat.mul k0 1) (Nat.mul k1 1)) (Nat.mul m 1)), Tr.putAll (Tr.putAll (Tr.putAll Tr.nil 0 (getA ((bT C0)) 0 (Nat.mul k0 1))) (Nat.mul k0 1) (getA ((bT C1)) 0 (Nat.mul k1 1))) (Nat.add (Nat.mul k0 1) (Nat.mul k1 1)) (rep [.int .u8 (.ofNat 0)] m)))) (bc (Nat.beq (Nat.add (Nat.add (Nat.mul k0 1) (Nat.mul k1 1)) (Nat.mul m 1)) (Nat.mul (Nat.add (Nat.add k0 k1) m) 1)) (bc (roomy (Nat.add (Nat.add (Nat.add k0 k1) m) k2) 1) (bc (onesA (getA ((bT C2)) 0 (Nat.mul k2 1))) (bc (Nat.blt (Nat.mul (Nat.add (Nat.add (Nat.add k0 k1) m) k2) 1) (Nat.add (Nat.add (Nat.add (Nat.mul k0 1) (Nat.mul k1 1)) (Nat.mul m 1)) (Nat.mul k2 1))) (none) (some ((Nat.add (Nat.add (Nat.add k0 k1) m) k2), (Nat.add (Nat.add (Nat.add (Nat.mul k0 1) (Nat.mul k1 1)) (Nat.mul m 1)) (Nat.mul k2 1)), Tr.putAll (Tr.putAll (Tr.putAll (Tr.putAll Tr.nil 0 (getA ((bT C0)) 0 (Nat.mul k0 1))) (Nat.mul k0 1) (getA ((bT C1)) 0 (Nat.mul k1 1))) (Nat.add (Nat.mul k0 1) (Nat.mul k1 1)) (rep [.int .u8 (.ofNat 0)] m)) (Nat.add (Nat.add (Nat.mul k0 1) (Nat.mul k1 1)) (Nat.mul m 1)) (getA ((bT C2)) 0 (Nat.mul k2 1))))) (none)) (none)) (none))) (none))) (none)) (none)) (none))) (none))) (none)))) (none)) (none)) (none))) (none))) (bc (Nat.beq (Nat.mul k0 1) (Nat.mul k0 1)) (bc (roomy (Nat.add k0 n) 1) (bc (onesA (rep [.int .u8 (.ofNat 0)] n)) (bc (Nat.blt (Nat.mul (Nat.add k0 n) 1) (Nat.add (Nat.mul k0 1) (Nat.mul n 1))) (none) (bc (hasA ((bT C1)) 0 (Nat.mul k1 1)) (bc (Nat.beq k1 0) (bc (Nat.blt (Nat.mul (Nat.add k0 n) 1) (Nat.add (Nat.mul k0 1) (Nat.mul n 1))) (none) (bc (Nat.blt (Nat.mul (Nat.add k0 n) 1) (Nat.add (Nat.mul k0 1) (Nat.mul n 1))) (none) (bc (AV.eqb (.int .i64 (.ofNat m)) (.int .i64 (.ofNat m))) (bc (Nat.blt (Nat.mul (Nat.add k0 n) 1) (Nat.add (Nat.mul k0 1) (Nat.mul n 1))) (none) (bc (roomy m 2) (bc (Nat.beq m 0) (bc (Nat.blt (Nat.mul (Nat.add k0 n) 1) (Nat.add (Nat.mul k0 1) (Nat.mul n 1))) (none) (bc (hasA ((bT C2)) 0 (Nat.mul k2 1)) (bc (Nat.beq k2 0) (bc (Nat.blt (Nat.mul (Nat.add k0 n) 1) (Nat.add (Nat.mul k0 1) (Nat.mul n 1))) (none) (some ((Nat.add k0 n), (Nat.add (Nat.mul k0 1) (Nat.mul n 1)), Tr.putAll (Tr.putAll Tr.nil 0 (getA ((bT C0)) 0 (Nat.mul k0 1))) (Nat.mul k0 1) (rep [.int .u8 (.ofNat 0)] n)))) (bc (Nat.beq (Nat.add (Nat.mul k0 1) (Nat.mul n 1)) (Nat.mul (Nat.add k0 n) 1)) (bc (roomy (Nat.add (Nat.add k0 n) k2) 1) (bc (onesA (getA ((bT C2)) 0 (Nat.mul k2 1))) (bc (Nat.blt (Nat.mul (Nat.add (Nat.add k0 n) k2) 1) (Nat.add (Nat.add (Nat.mul k0 1) (Nat.mul n 1)) (Nat.mul k2 1))) (none) (some ((Nat.add (Nat.add k0 n) k2), (Nat.add (Nat.add (Nat.mul k0 1) (Nat.mul n 1)) (Nat.mul k2 1)), Tr.putAll (Tr.putAll (Tr.putAll Tr.nil 0 (getA ((bT C0)) 0 (Nat.mul k0 1))) (Nat.mul k0 1) (rep [.int .u8 (.ofNat 0)] n)) (Nat.add (Nat.mul k0 1) (Nat.mul n 1)) (getA ((bT C2)) 0 (Nat.mul k2 1))))) (none)) (none)) (none))) (none))) (bc (Nat.beq (Nat.add (Nat.mul k0 1) (Nat.mul n 1)) (Nat.mul (Nat.add k0 n) 1)) (bc (roomy (Nat.add (Nat.add k0 n) m) 1) (bc (onesA (rep [.int .u8 (.ofNat 0)] m)) (bc (Nat.blt (Nat.mul (Nat.add (Nat.add k0 n) m) 1) (Nat.add (Nat.add (Nat.mul k0 1) (Nat.mul n 1)) (Nat.mul m 1))) (none) (bc (hasA ((bT C2)) 0 (Nat.mul k2 1)) (bc (Nat.beq k2 0) (bc (Nat.blt (Nat.mul (Nat.add (Nat.add k0 n) m) 1) (Nat.add (Nat.add (Nat.mul k0 1) (Nat.mul n 1)) (Nat.mul m 1))) (none) (some ((Nat.add (Nat.add k0 n) m), (Nat.add (Nat.add (Nat.mul k0 1) (Nat.mul n 1)) (Nat.mul m 1)), Tr.putAll (Tr.putAll (Tr.putAll Tr.nil 0 (getA ((bT C0)) 0 (Nat.mul k0 1))) (Nat.mul k0 1) (rep [.int .u8 (.ofNat 0)] n)) (Nat.add (Nat.mul k0 1) (Nat.mul n 1)) (rep [.int .u8 (.ofNat 0)] m)))) (bc (Nat.beq (Nat.add (Nat.add (Nat.mul k0 1) (Nat.mul n 1)) (Nat.mul m 1)) (Nat.mul (Nat.add (Nat.add k0 n) m) 1)) (bc (roomy (Nat.add (Nat.add (Nat.add k0 n) m) k2) 1) (bc (onesA (getA ((bT C2)) 0 (Nat.mul k2 1))) (bc (Nat.blt (Nat.mul (Nat.add (Nat.add (Nat.add k0 n) m) k2) 1) (Nat.add (Nat.add (Nat.add (Nat.mul k0 1) (Nat.mul n 1)) (Nat.mul m 1)) (Nat.mul k2 1))) (none) (some ((Nat.add (Nat.add (Nat.add k0 n) m) k2), (Nat.add (Nat.add (Nat.add (Nat.mul k0 1) (Nat.mul n 1)) (Nat.mul m 1)) (Nat.mul k2 1)), Tr.putAll (Tr.putAll (Tr.putAll (Tr.putAll Tr.nil 0 (getA ((bT C0)) 0 (Nat.mul k0 1))) (Nat.mul k0 1) (rep [.int .u8 (.ofNat 0)] n)) (Nat.add (Nat.mul k0 1) (Nat.mul n 1)) (rep [.int .u8 (.ofNat 0)] m)) (Nat.add (Nat.add (Nat.mul k0 1) (Nat.mul n 1)) (Nat.mul m 1)) (getA ((bT C2)) 0 (Nat.mul k2 1))))) (none)) (none)) (none))) (none))) (none)) (none)) (none))) (none))) (none)))) (bc (Nat.beq (Nat.add (Nat.mul k0 1) (Nat.mul n 1)) (Nat.mul (Nat.add k0 n) 1)) (bc (roomy (Nat.add (Nat.add k0 n) k1) 1) (bc (onesA (getA ((bT C1)) 0 (Nat.mul k1 1))) (bc (Nat.blt (Nat.mul (Nat.add (Nat.add k0 n) k1) 1) (Nat.add (Nat.add (Nat.mul k0 1) (Nat.mul n 1)) (Nat.mul k1 1))) (none) (bc (Nat.blt (Nat.mul (Nat.add (Nat.add k0 n) k1) 1) (Nat.add (Nat.add (Nat.mul k0 1) (Nat.mul n 1)) (Nat.mul k1 1))) (none) (bc (AV.eqb (.int .i64 (.ofNat m)) (.int .i64 (.ofNat m))) (bc (Nat.blt (Nat.mul (Nat.add (Nat.add k0 n) k1) 1) (Nat.add (Nat.add (Nat.mul k0 1) (Nat.mul n 1)) (Nat.mul k1 1))) (none) (bc (roomy m 2) (bc (Nat.beq m 0) (bc (Nat.blt (Nat.mul (Nat.add (Nat.add k0 n) k1) 1) (Nat.add (Nat.add (Nat.mul k0 1) (Nat.mul n 1)) (Nat.mul k1 1))) (none) (bc (hasA ((bT C2)) 0 (Nat.mul k2 1)) (bc (Nat.beq k2 0) (bc (Nat.blt (Nat.mul (Nat.add (Nat.add k0 n) k1) 1) (Nat.add (Nat.add (Nat.mul k0 1) (Nat.mul n 1)) (Nat.mul k1 1))) (none) (some ((Nat.add (Nat.add k0 n) k1), (Nat.add (Nat.add (Nat.mul k0 1) (Nat.mul n 1)) (Nat.mul k1 1)), Tr.putAll (Tr.putAll (Tr.putAll Tr.nil 0 (getA ((bT C0)) 0 (Nat.mul k0 1))) (Nat.mul k0 1) (rep [.int .u8 (.ofNat 0)] n)) (Nat.add (Nat.mul k0 1) (Nat.mul n 1)) (getA ((bT C1)) 0 (Nat.mul k1 1))))) (bc (Nat.beq (Nat.add (Nat.add (Nat.mul k0 1) (Nat.mul n 1)) (Nat.mul k1 1)) (Nat.mul (Nat.add (Nat.add k0 n) k1) 1)) (bc (roomy (Nat.add (Nat.add (Nat.add k0 n) k1) k2) 1) (bc (onesA (getA ((bT C2)) 0 (Nat.mul k2 1))) (bc (Nat.blt (Nat.mul (Nat.add (Nat.add (Nat.add k0 n) k1) k2) 1) (Nat.add (Nat.add (Nat.add (Nat.mul k0 1) (Nat.mul n 1)) (Nat.mul k1 1)) (Nat.mul k2 1))) (none) (some ((Nat.add (Nat.add (Nat.add k0 n) k1) k2), (Nat.add (Nat.add (Nat.add (Nat.mul k0 1) (Nat.mul n 1)) (Nat.mul k1 1)) (Nat.mul k2 1)), Tr.putAll (Tr.putAll (Tr.putAll (Tr.putAll Tr.nil 0 (getA ((bT C0)) 0 (Nat.mul k0 1))) (Nat.mul k0 1) (rep [.int .u8 (.ofNat 0)] n)) (Nat.add (Nat.mul k0 1) (Nat.mul n 1)) (getA ((bT C1)) 0 (Nat.mul k1 1))) (Nat.add (Nat.add (Nat.mul k0 1) (Nat.mul n 1)) (Nat.mul k1 1)) (getA ((bT C2)) 0 (Nat.mul k2 1))))) (none)) (none)) (none))) (none))) (bc (Nat.beq (Nat.add (Nat.add (Nat.mul k0 1) (Nat.mul n 1)) (Nat.mul k1 1)) (Nat.mul (Nat.add (Nat.add k0 n) k1) 1)) (bc (roomy (Nat.add (Nat.add (Nat.add k0 n) k1) m) 1) (bc (onesA (rep [.int .u8 (.ofNat 0)] m)) (bc (Nat.blt (Nat.mul (Nat.add (Nat.add (Nat.add k0 n) k1) m) 1) (Nat.add (Nat.add (Nat.add (Nat.mul k0 1) (Nat.mul n 1)) (Nat.mul k1 1)) (Nat.mul m 1))) (none) (bc (hasA ((bT C2)) 0 (Nat.mul k2 1)) (bc (Nat.beq k2 0) (bc (Nat.blt (Nat.mul (Nat.add (Nat.add (Nat.add k0 n) k1) m) 1) (Nat.add (Nat.add (Nat.add (Nat.mul k0 1) (Nat.mul n 1)) (Nat.mul k1 1)) (Nat.mul m 1))) (none) (some ((Nat.add (Nat.add (Nat.add k0 n) k1) m), (Nat.add (Nat.add (Nat.add (Nat.mul k0 1) (Nat.mul n 1)) (Nat.mul k1 1)) (Nat.mul m 1)), Tr.putAll (Tr.putAll (Tr.putAll (Tr.putAll Tr.nil 0 (getA ((bT C0)) 0 (Nat.mul k0 1))) (Nat.mul k0 1) (rep [.int .u8 (.ofNat 0)] n)) (Nat.add (Nat.mul k0 1) (Nat.mul n 1)) (getA ((bT C1)) 0 (Nat.mul k1 1))) (Nat.add (Nat.add (Nat.mul k0 1) (Nat.mul n 1)) (Nat.mul k1 1)) (rep [.int .u8 (.ofNat 0)] m)))) (bc (Nat.beq (Nat.add (Nat.add (Nat.add (Nat.mul k0 1) (Nat.mul n 1)) (Nat.mul k1 1)) (Nat.mul m 1)) (Nat.mul (Nat.add (Nat.add (Nat.add k0 n) k1) m) 1)) (bc (roomy (Nat.add (Nat.add (Nat.add (Nat.add k0 n) k1) m) k2) 1) (bc (onesA (getA ((bT C2)) 0 (Nat.mul k2 1))) (bc (Nat.blt (Nat.mul (Nat.add (Nat.add (Nat.add (Nat.add k0 n) k1) m) k2) 1) (Nat.add (Nat.add (Nat.add (Nat.add (Nat.mul k0 1) (Nat.mul n 1)) (Nat.mul k1 1)) (Nat.mul m 1)) (Nat.mul k2 1))) (none) (some ((Nat.add (Nat.add (Nat.add (Nat.add k0 n) k1) m) k2), (Nat.add (Nat.add (Nat.add (Nat.add (Nat.mul k0 1) (Nat.mul n 1)) (Nat.mul k1 1)) (Nat.mul m 1)) (Nat.mul k2 1)), Tr.putAll (Tr.putAll (Tr.putAll (Tr.putAll (Tr.putAll Tr.nil 0 (getA ((bT C0)) 0 (Nat.mul k0 1))) (Nat.mul k0 1) (rep [.int .u8 (.ofNat 0)] n)) (Nat.add (Nat.mul k0 1) (Nat.mul n 1)) (getA ((bT C1)) 0 (Nat.mul k1 1))) (Nat.add (Nat.add (Nat.mul k0 1) (Nat.mul n 1)) (Nat.mul k1 1)) (rep [.int .u8 (.ofNat 0)] m)) (Nat.add (Nat.add (Nat.add (Nat.mul k0 1) (Nat.mul n 1)) (Nat.mul k1 1)) (Nat.mul m 1)) (getA ((bT C2)) 0 (Nat.mul k2 1))))) (none)) (none)) (none))) (none))) (none)) (none)) (none))) (none))) (none)))) (none)) (none)) (none))) (none))) (none)) (none)) (none))) (none))) (none)))) (none))) (none)
def kByJ : TRes → Orc → Option (Nat × Nat × Tr AV)
  | .call (.ret (.sl k 0 n none) H), _ => (match H.get k with
    | some (.cells m T 5 (some 1) 0 false false) => bc (Nat.ble 18 k) (some (n, m, T)) none
    | _ => none)
  | _, _ => none
theorem byj_run (nm : List UInt8) (n m k0 k1 k2 p0 p1 p2 p3 p4 : Nat) (f0 f1 f2 : Bool) (C0 C1 C2 : List UInt8) : callPS EBy (smC EBy) (pinD [(34, 3), (37, 3)]) 100 (.call 37 [.ptr 12 0, .ptr 13 0] (mkH 12 (bjO nm ⟨n, m, k0, k1, k2, p0, p1, p2, p3, p4, f0, f1, f2⟩ C0 C1 C2))) (pO 12 682) kByJ = byjT k0 k1 k2 n m C0 C1 C2 := by kernel_rfl
def byJL (C0 : List UInt8) (n : Nat) (C1 : List UInt8) (m : Nat) (C2 : List UInt8) : List UInt8 := C0 ++ List.replicate n 0 ++ C1 ++ List.replicate m 0 ++ C2
theorem byJL_len (C0 : List UInt8) (n : Nat) (C1 : List UInt8) (m : Nat) (C2 : List UInt8) : (byJL C0 n C1 m C2).length = C0.length + n + C1.length + m + C2.length := by unfold byJL; simp only [List.length_append, List.length_replicate]
theorem byj_row11 {k0 k1 k2 n m : Nat} {C0 C1 C2 : List UInt8} (h0 : C0.length = k0) (h1 : C1.length = k1) (h2 : C2.length = k2) (hn : n ≤ 5000) (hm : m ≤ 5000) (hk0 : k0 ≤ 5) (hk1 : k1 ≤ 5) (hk2 : k2 ≤ 5) : RowB (Tr.putAll (Tr.putAll (Tr.putAll Tr.nil 0 (C0.map byteAV)) (k0) (C1.map byteAV)) (Nat.add k0 k1) (C2.map byteAV)) (byJL C0 0 C1 0 C2) := by
  have e47 : (2 : Nat) ^ 47 = 140737488355328 := by decide
  have a0 : RowB (Tr.putAll Tr.nil 0 (C0.map byteAV)) C0 := rowB_bT (by omega)
  have a1 := RowB.app (new := C1) a0 (by simp only [List.length_append, List.length_replicate, h0, h1, h2]; omega)
  simp only [List.length_append, List.length_replicate, h0, h1, h2] at a1
  have a2 := RowB.app (new := C2) a1 (by simp only [List.length_append, List.length_replicate, h0, h1, h2]; omega)
  simp only [List.length_append, List.length_replicate, h0, h1, h2] at a2
  unfold byJL
  simp only [List.replicate_zero, List.append_nil]
  exact a2
theorem byj_row10 {k0 k1 k2 n m : Nat} {C0 C1 C2 : List UInt8} (h0 : C0.length = k0) (h1 : C1.length = k1) (h2 : C2.length = k2) (hn : n ≤ 5000) (hm : m ≤ 5000) (hk0 : k0 ≤ 5) (hk1 : k1 ≤ 5) (hk2 : k2 ≤ 5) : RowB (Tr.putAll (Tr.putAll (Tr.putAll (Tr.putAll Tr.nil 0 (C0.map byteAV)) (k0) (C1.map byteAV)) (Nat.add k0 k1) (rep [.int .u8 (.ofNat 0)] m)) (Nat.add (Nat.add k0 k1) m) (C2.map byteAV)) (byJL C0 0 C1 m C2) := by
  have e47 : (2 : Nat) ^ 47 = 140737488355328 := by decide
  have a0 : RowB (Tr.putAll Tr.nil 0 (C0.map byteAV)) C0 := rowB_bT (by omega)
  simp only [rep_map]
  have a1 := RowB.app (new := C1) a0 (by simp only [List.length_append, List.length_replicate, h0, h1, h2]; omega)
  simp only [List.length_append, List.length_replicate, h0, h1, h2] at a1
  have a2 := RowB.app (new := (List.replicate m 0)) a1 (by simp only [List.length_append, List.length_replicate, h0, h1, h2]; omega)
  simp only [List.length_append, List.length_replicate, h0, h1, h2] at a2
  have a3 := RowB.app (new := C2) a2 (by simp only [List.length_append, List.length_replicate, h0, h1, h2]; omega)
  simp only [List.length_append, List.length_replicate, h0, h1, h2] at a3
  unfold byJL
  simp only [List.replicate_zero, List.append_nil]
  exact a3
theorem byj_row01 {k0 k1 k2 n m : Nat} {C0 C1 C2 : List UInt8} (h0 : C0.length = k0) (h1 : C1.length = k1) (h2 : C2.length = k2) (hn : n ≤ 5000) (hm : m ≤ 5000) (hk0 : k0 ≤ 5) (hk1 : k1 ≤ 5) (hk2 : k2 ≤ 5) : RowB (Tr.putAll (Tr.putAll (Tr.putAll (Tr.putAll Tr.nil 0 (C0.map byteAV)) (k0) (rep [.int .u8 (.ofNat 0)] n)) (Nat.add k0 n) (C1.map byteAV)) (Nat.add (Nat.add k0 n) k1) (C2.map byteAV)) (byJL C0 n C1 0 C2) := by
  have e47 : (2 : Nat) ^ 47 = 140737488355328 := by decide
  have a0 : RowB (Tr.putAll Tr.nil 0 (C0.map byteAV)) C0 := rowB_bT (by omega)
  simp only [rep_map]
  have a1 := RowB.app (new := (List.replicate n 0)) a0 (by simp only [List.length_append, List.length_replicate, h0, h1, h2]; omega)
  simp only [List.length_append, List.length_replicate, h0, h1, h2] at a1
  have a2 := RowB.app (new := C1) a1 (by simp only [List.length_append, List.length_replicate, h0, h1, h2]; omega)
  simp only [List.length_append, List.length_replicate, h0, h1, h2] at a2
  have a3 := RowB.app (new := C2) a2 (by simp only [List.length_append, List.length_replicate, h0, h1, h2]; omega)
  simp only [List.length_append, List.length_replicate, h0, h1, h2] at a3
  unfold byJL
  simp only [List.replicate_zero, List.append_nil]
  exact a3
theorem byj_row00 {k0 k1 k2 n m : Nat} {C0 C1 C2 : List UInt8} (h0 : C0.length = k0) (h1 : C1.length = k1) (h2 : C2.length = k2) (hn : n ≤ 5000) (hm : m ≤ 5000) (hk0 : k0 ≤ 5) (hk1 : k1 ≤ 5) (hk2 : k2 ≤ 5) : RowB (Tr.putAll (Tr.putAll (Tr.putAll (Tr.putAll (Tr.putAll Tr.nil 0 (C0.map byteAV)) (k0) (rep [.int .u8 (.ofNat 0)] n)) (Nat.add k0 n) (C1.map byteAV)) (Nat.add (Nat.add k0 n) k1) (rep [.int .u8 (.ofNat 0)] m)) (Nat.add (Nat.add (Nat.add k0 n) k1) m) (C2.map byteAV)) (byJL C0 n C1 m C2) := by
  have e47 : (2 : Nat) ^ 47 = 140737488355328 := by decide
  have a0 : RowB (Tr.putAll Tr.nil 0 (C0.map byteAV)) C0 := rowB_bT (by omega)
  simp only [rep_map]
  have a1 := RowB.app (new := (List.replicate n 0)) a0 (by simp only [List.length_append, List.length_replicate, h0, h1, h2]; omega)
  simp only [List.length_append, List.length_replicate, h0, h1, h2] at a1
  have a2 := RowB.app (new := C1) a1 (by simp only [List.length_append, List.length_replicate, h0, h1, h2]; omega)
  simp only [List.length_append, List.length_replicate, h0, h1, h2] at a2
  have a3 := RowB.app (new := (List.replicate m 0)) a2 (by simp only [List.length_append, List.length_replicate, h0, h1, h2]; omega)
  simp only [List.length_append, List.length_replicate, h0, h1, h2] at a3
  have a4 := RowB.app (new := C2) a3 (by simp only [List.length_append, List.length_replicate, h0, h1, h2]; omega)
  simp only [List.length_append, List.length_replicate, h0, h1, h2] at a4
  unfold byJL
  exact a4
theorem byj_tree {k0 k1 k2 n m : Nat} {C0 C1 C2 : List UInt8} (h0 : C0.length = k0) (h1 : C1.length = k1) (h2 : C2.length = k2) (hn : n ≤ 5000) (hm : m ≤ 5000) (hk0 : k0 ≤ 5) (hk1 : k1 ≤ 5) (hk2 : k2 ≤ 5) (l0 : 0 < k0) (l1 : 0 < k1) (l2 : 0 < k2) : ∃ T, byjT k0 k1 k2 n m C0 C1 C2 = some (k0 + n + k1 + m + k2, k0 + n + k1 + m + k2, T) ∧ RowB T (byJL C0 n C1 m C2) := by
  have m1 : ∀ a : Nat, Nat.mul a 1 = a := fun a => Nat.mul_one a
  have r0 : RowB (bT C0) C0 := rowB_bT (by omega)
  have r1 : RowB (bT C1) C1 := rowB_bT (by omega)
  have r2 : RowB (bT C2) C2 := rowB_bT (by omega)
  have g0 : getA (bT C0) 0 k0 = C0.map byteAV := by rw [RowB.cells r0 (by omega), List.drop_zero, ← h0, List.take_length]
  have g1 : getA (bT C1) 0 k1 = C1.map byteAV := by rw [RowB.cells r1 (by omega), List.drop_zero, ← h1, List.take_length]
  have g2 : getA (bT C2) 0 k2 = C2.map byteAV := by rw [RowB.cells r2 (by omega), List.drop_zero, ← h2, List.take_length]
  have hs0 : hasA (bT C0) 0 k0 = true := RowB.has r0 (by omega)
  have hs1 : hasA (bT C1) 0 k1 = true := RowB.has r1 (by omega)
  have hs2 : hasA (bT C2) 0 k2 = true := RowB.has r2 (by omega)
  have on : onesA (rep [.int .u8 (.ofNat 0)] n) = true := by rw [rep_map]; exact ones_map _
  have om : onesA (rep [.int .u8 (.ofNat 0)] m) = true := by rw [rep_map]; exact ones_map _
  have hb : ∀ x : AV, AV.eqb x x = true := eqb_refl
  have bt : ∀ a : Nat, Nat.beq a a = true := fun a => beq_t rfl
  have bf : ∀ a : Nat, Nat.blt a a = false := fun a => blt_f (Nat.lt_irrefl a)
  have bk0 : Nat.beq k0 0 = false := beq_f (by omega)
  have bk1 : Nat.beq k1 0 = false := beq_f (by omega)
  have bk2 : Nat.beq k2 0 = false := beq_f (by omega)
  have r2n : roomy n 2 = true := roomy_yes (by omega) (by decide)
  have r2m : roomy m 2 = true := roomy_yes (by omega) (by decide)
  have rm : ∀ a, a ≤ 20000 → roomy a 1 = true := fun a h => roomy_yes (by omega) (by decide)
  unfold byjT
  simp only [m1]
  by_cases n0 : n = 0 <;> by_cases m0 : m = 0
  · subst n0; subst m0
    have q0 : roomy (k0) 1 = true := rm _ (by first | omega | (simp only [Nat.add_eq]; omega))
    have q1 : roomy (Nat.add k0 k1) 1 = true := rm _ (by first | omega | (simp only [Nat.add_eq]; omega))
    have q2 : roomy (Nat.add (Nat.add k0 k1) k2) 1 = true := rm _ (by first | omega | (simp only [Nat.add_eq]; omega))
    refine ⟨Tr.putAll (Tr.putAll (Tr.putAll Tr.nil 0 (C0.map byteAV)) (k0) (C1.map byteAV)) (Nat.add k0 k1) (C2.map byteAV), ?_, ?_⟩
    · simp only [hb, r2n, r2m, q0, q1, q2, bt, bf, bk0, bk1, bk2, hs0, hs1, hs2, g0, g1, g2, ones_map, bc_true, bc_false]
      try rfl
    · exact byj_row11 h0 h1 h2 hn hm hk0 hk1 hk2
  · subst n0; skip
    have b2 : Nat.beq m 0 = false := beq_f m0
    have q0 : roomy (k0) 1 = true := rm _ (by first | omega | (simp only [Nat.add_eq]; omega))
    have q1 : roomy (Nat.add k0 k1) 1 = true := rm _ (by first | omega | (simp only [Nat.add_eq]; omega))
    have q2 : roomy (Nat.add (Nat.add k0 k1) m) 1 = true := rm _ (by first | omega | (simp only [Nat.add_eq]; omega))
    have q3 : roomy (Nat.add (Nat.add (Nat.add k0 k1) m) k2) 1 = true := rm _ (by first | omega | (simp only [Nat.add_eq]; omega))
    refine ⟨Tr.putAll (Tr.putAll (Tr.putAll (Tr.putAll Tr.nil 0 (C0.map byteAV)) (k0) (C1.map byteAV)) (Nat.add k0 k1) (rep [.int .u8 (.ofNat 0)] m)) (Nat.add (Nat.add k0 k1) m) (C2.map byteAV), ?_, ?_⟩
    · simp only [hb, r2n, r2m, q0, q1, q2, q3, bt, bf, bk0, bk1, bk2, b2, om, hs0, hs1, hs2, g0, g1, g2, ones_map, bc_true, bc_false]
      try rfl
    · exact byj_row10 h0 h1 h2 hn hm hk0 hk1 hk2
  · subst m0
    have b1 : Nat.beq n 0 = false := beq_f n0
    have q0 : roomy (k0) 1 = true := rm _ (by first | omega | (simp only [Nat.add_eq]; omega))
    have q1 : roomy (Nat.add k0 n) 1 = true := rm _ (by first | omega | (simp only [Nat.add_eq]; omega))
    have q2 : roomy (Nat.add (Nat.add k0 n) k1) 1 = true := rm _ (by first | omega | (simp only [Nat.add_eq]; omega))
    have q3 : roomy (Nat.add (Nat.add (Nat.add k0 n) k1) k2) 1 = true := rm _ (by first | omega | (simp only [Nat.add_eq]; omega))
    refine ⟨Tr.putAll (Tr.putAll (Tr.putAll (Tr.putAll Tr.nil 0 (C0.map byteAV)) (k0) (rep [.int .u8 (.ofNat 0)] n)) (Nat.add k0 n) (C1.map byteAV)) (Nat.add (Nat.add k0 n) k1) (C2.map byteAV), ?_, ?_⟩
    · simp only [hb, r2n, r2m, q0, q1, q2, q3, bt, bf, bk0, bk1, bk2, b1, on, hs0, hs1, hs2, g0, g1, g2, ones_map, bc_true, bc_false]
      try rfl
    · exact byj_row01 h0 h1 h2 hn hm hk0 hk1 hk2
  · skip
    have b1 : Nat.beq n 0 = false := beq_f n0
    have b2 : Nat.beq m 0 = false := beq_f m0
    have q0 : roomy (k0) 1 = true := rm _ (by first | omega | (simp only [Nat.add_eq]; omega))
    have q1 : roomy (Nat.add k0 n) 1 = true := rm _ (by first | omega | (simp only [Nat.add_eq]; omega))
    have q2 : roomy (Nat.add (Nat.add k0 n) k1) 1 = true := rm _ (by first | omega | (simp only [Nat.add_eq]; omega))
    have q3 : roomy (Nat.add (Nat.add (Nat.add k0 n) k1) m) 1 = true := rm _ (by first | omega | (simp only [Nat.add_eq]; omega))
    have q4 : roomy (Nat.add (Nat.add (Nat.add (Nat.add k0 n) k1) m) k2) 1 = true := rm _ (by first | omega | (simp only [Nat.add_eq]; omega))
    refine ⟨Tr.putAll (Tr.putAll (Tr.putAll (Tr.putAll (Tr.putAll Tr.nil 0 (C0.map byteAV)) (k0) (rep [.int .u8 (.ofNat 0)] n)) (Nat.add k0 n) (C1.map byteAV)) (Nat.add (Nat.add k0 n) k1) (rep [.int .u8 (.ofNat 0)] m)) (Nat.add (Nat.add (Nat.add k0 n) k1) m) (C2.map byteAV), ?_, ?_⟩
    · simp only [hb, r2n, r2m, q0, q1, q2, q3, q4, bt, bf, bk0, bk1, bk2, b1, on, b2, om, hs0, hs1, hs2, g0, g1, g2, ones_map, bc_true, bc_false]
      try rfl
    · exact byj_row00 h0 h1 h2 hn hm hk0 hk1 hk2
section
def ByShapeJ (x : JP) (C0 C1 C2 : List UInt8) (H : AHeap) (i q : Nat) : Prop := ∃ it e0 e1 e2 T1 a1 b1 c1 d1 f1 T2 a2 b2 c2 d2 f2 T3 a3 b3 c3 d3 f3 T4 a4 b4 c4 d4 f4 T5 a5 b5 c5 d5 f5 T6 a6 b6 c6 d6 f6 nm, H.get i = some (.cells 11 T1 a1 b1 c1 d1 f1) ∧ T1.get 0 = some (.int .i64 (.ofNat 1)) ∧
  H.get q = some (.cells 6 T2 a2 b2 c2 d2 f2) ∧ T2.get 0 = some (.str nm) ∧ T2.get 1 = some (.str [97, 120]) ∧ T2.get 3 = some (.sl it 0 5 none) ∧
  H.get it = some (.cells 55 T3 a3 b3 c3 d3 f3) ∧ (∀ j y, (itLJ x (.sl e0 0 x.k0 none) (.sl e1 0 x.k1 none) (.sl e2 0 x.k2 none))[j]? = some y → T3.get j = some y) ∧
  H.get e0 = some (.cells x.k0 T4 a4 b4 c4 d4 f4) ∧ RowB T4 C0 ∧ H.get e1 = some (.cells x.k1 T5 a5 b5 c5 d5 f5) ∧ RowB T5 C1 ∧ H.get e2 = some (.cells x.k2 T6 a6 b6 c6 d6 f6) ∧ RowB T6 C2 ∧ [i, q, it, e0, e1, e2].Nodup ∧ ∀ z ∈ [i, q, it, e0, e1, e2], 12 ≤ z
theorem byj_cell {x : JP} {e0' e1' e2' : Nat} {K : List Nat} {D : Nat → Prop} {pl : Nat → Nat × Nat} {τ : Nat → AV} {θ : Nat → Tag} {id s : Nat} {z : AV} {T3 : Tr AV} (e0 : rnV 0 K (.sl e0' 0 x.k0 none) = some (.sl 15 0 x.k0 none)) (e1 : rnV 0 K (.sl e1' 0 x.k1 none) = some (.sl 16 0 x.k1 none)) (e2 : rnV 0 K (.sl e2' 0 x.k2 none) = some (.sl 17 0 x.k2 none)) (k5 : ∀ j y, (itLJ x (.sl e0' 0 x.k0 none) (.sl e1' 0 x.k1 none) (.sl e2' 0 x.k2 none))[j]? = some y → T3.get j = some y) (hq : (itLJ x (.sl 15 0 x.k0 none) (.sl 16 0 x.k1 none) (.sl 17 0 x.k2 none))[s]? = some z) : ∃ x, T3.get s = some x ∧ CellX K D pl τ θ id s x z := by
  match s, hq with
  | 0, hq => cases hq; exact ⟨_, k5 0 _ rfl, .inl rfl⟩
  | 1, hq => cases hq; exact ⟨_, k5 1 _ rfl, .inl rfl⟩
  | 2, hq => cases hq; exact ⟨_, k5 2 _ rfl, .inl rfl⟩
  | 3, hq => cases hq; exact ⟨_, k5 3 _ rfl, .inl e0⟩
  | 4, hq => cases hq; exact ⟨_, k5 4 _ rfl, .inl rfl⟩
  | 5, hq => cases hq; exact ⟨_, k5 5 _ rfl, .inl rfl⟩
  | 6, hq => cases hq; exact ⟨_, k5 6 _ rfl, .inl rfl⟩
  | 7, hq => cases hq; exact ⟨_, k5 7 _ rfl, .inl rfl⟩
  | 8, hq => cases hq; exact ⟨_, k5 8 _ rfl, .inl rfl⟩
  | 9, hq => cases hq; exact ⟨_, k5 9 _ rfl, .inl rfl⟩
  | 10, hq => cases hq; exact ⟨_, k5 10 _ rfl, .inl rfl⟩
  | 11, hq => cases hq; exact ⟨_, k5 11 _ rfl, .inl rfl⟩
  | 12, hq => cases hq; exact ⟨_, k5 12 _ rfl, .inl rfl⟩
  | 13, hq => cases hq; exact ⟨_, k5 13 _ rfl, .inl rfl⟩
  | 14, hq => cases hq; exact ⟨_, k5 14 _ rfl, .inl rfl⟩
  | 15, hq => cases hq; exact ⟨_, k5 15 _ rfl, .inl rfl⟩
  | 16, hq => cases hq; exact ⟨_, k5 16 _ rfl, .inl rfl⟩
  | 17, hq => cases hq; exact ⟨_, k5 17 _ rfl, .inl rfl⟩
  | 18, hq => cases hq; exact ⟨_, k5 18 _ rfl, .inl rfl⟩
  | 19, hq => cases hq; exact ⟨_, k5 19 _ rfl, .inl rfl⟩
  | 20, hq => cases hq; exact ⟨_, k5 20 _ rfl, .inl rfl⟩
  | 21, hq => cases hq; exact ⟨_, k5 21 _ rfl, .inl rfl⟩
  | 22, hq => cases hq; exact ⟨_, k5 22 _ rfl, .inl rfl⟩
  | 23, hq => cases hq; exact ⟨_, k5 23 _ rfl, .inl rfl⟩
  | 24, hq => cases hq; exact ⟨_, k5 24 _ rfl, .inl rfl⟩
  | 25, hq => cases hq; exact ⟨_, k5 25 _ rfl, .inl e1⟩
  | 26, hq => cases hq; exact ⟨_, k5 26 _ rfl, .inl rfl⟩
  | 27, hq => cases hq; exact ⟨_, k5 27 _ rfl, .inl rfl⟩
  | 28, hq => cases hq; exact ⟨_, k5 28 _ rfl, .inl rfl⟩
  | 29, hq => cases hq; exact ⟨_, k5 29 _ rfl, .inl rfl⟩
  | 30, hq => cases hq; exact ⟨_, k5 30 _ rfl, .inl rfl⟩
  | 31, hq => cases hq; exact ⟨_, k5 31 _ rfl, .inl rfl⟩
  | 32, hq => cases hq; exact ⟨_, k5 32 _ rfl, .inl rfl⟩
  | 33, hq => cases hq; exact ⟨_, k5 33 _ rfl, .inl rfl⟩
  | 34, hq => cases hq; exact ⟨_, k5 34 _ rfl, .inl rfl⟩
  | 35, hq => cases hq; exact ⟨_, k5 35 _ rfl, .inl rfl⟩
  | 36, hq => cases hq; exact ⟨_, k5 36 _ rfl, .inl rfl⟩
  | 37, hq => cases hq; exact ⟨_, k5 37 _ rfl, .inl rfl⟩
  | 38, hq => cases hq; exact ⟨_, k5 38 _ rfl, .inl rfl⟩
  | 39, hq => cases hq; exact ⟨_, k5 39 _ rfl, .inl rfl⟩
  | 40, hq => cases hq; exact ⟨_, k5 40 _ rfl, .inl rfl⟩
  | 41, hq => cases hq; exact ⟨_, k5 41 _ rfl, .inl rfl⟩
  | 42, hq => cases hq; exact ⟨_, k5 42 _ rfl, .inl rfl⟩
  | 43, hq => cases hq; exact ⟨_, k5 43 _ rfl, .inl rfl⟩
  | 44, hq => cases hq; exact ⟨_, k5 44 _ rfl, .inl rfl⟩
  | 45, hq => cases hq; exact ⟨_, k5 45 _ rfl, .inl rfl⟩
  | 46, hq => cases hq; exact ⟨_, k5 46 _ rfl, .inl rfl⟩
  | 47, hq => cases hq; exact ⟨_, k5 47 _ rfl, .inl e2⟩
  | 48, hq => cases hq; exact ⟨_, k5 48 _ rfl, .inl rfl⟩
  | 49, hq => cases hq; exact ⟨_, k5 49 _ rfl, .inl rfl⟩
  | 50, hq => cases hq; exact ⟨_, k5 50 _ rfl, .inl rfl⟩
  | 51, hq => cases hq; exact ⟨_, k5 51 _ rfl, .inl rfl⟩
  | 52, hq => cases hq; exact ⟨_, k5 52 _ rfl, .inl rfl⟩
  | 53, hq => cases hq; exact ⟨_, k5 53 _ rfl, .inl rfl⟩
  | 54, hq => cases hq; exact ⟨_, k5 54 _ rfl, .inl rfl⟩
  | s + 55, hq => simp [itLJ, itJ] at hq
theorem bRow_cell {K : List Nat} {D : Nat → Prop} {pl : Nat → Nat × Nat} {τ : Nat → AV} {θ : Nat → Tag} {id : Nat} {T : Tr AV} {C : List UInt8} (h : RowB T C) (j : Nat) (z : AV) (hz : (bT C).get j = some z) : ∃ x, T.get j = some x ∧ CellX K D pl τ θ id j x z := by
  unfold bT at hz
  rcases Tr.get_putAll _ hz with ⟨s, rfl, hq⟩ | ⟨_, hu⟩
  · rw [List.getElem?_map] at hq
    obtain ⟨b, hb, rfl⟩ := Option.map_eq_some_iff.1 hq
    rw [Nat.zero_add]
    exact ⟨_, h s b hb, .inl rfl⟩
  · simp [Tr.get_nil] at hu
theorem byj_core {M : List MEnt} {H : AHeap} {w : World} {x : JP} {C0 C1 C2 : List UInt8} {i q : Nat} {cargs : List Value} (h0 : C0.length = x.k0) (h1 : C1.length = x.k1) (h2 : C2.length = x.k2) (hn : x.n ≤ 5000) (hm : x.m ≤ 5000) (hk0 : x.k0 ≤ 5) (hk1 : x.k1 ≤ 5) (hk2 : x.k2 ≤ 5) (l0 : 0 < x.k0) (l1 : 0 < x.k1) (l2 : 0 < x.k2) (hj : JG gl M H w) (hg : GR 12 M) (hr : HRel M H w) (hs : ByShapeJ x C0 C1 C2 H i q) (ha : VRels M [.ptr i 0, .ptr q 0] cargs) :
    CallsA Tryz.prog 37 cargs M H w (.ret (.sl H.next 0 (x.k0 + x.n + x.k1 + x.m + x.k2) none) (H.new (.cells (x.k0 + x.n + x.k1 + x.m + x.k2) (bT (byJL C0 x.n C1 x.m C2)) 5 (some 1) 0 false false))) := by
  obtain ⟨it, e0, e1, e2, T1, a1, b1, c1, d1, f1, T2, a2, b2, c2, d2, f2, T3, a3, b3, c3, d3, f3, T4, a4, b4, c4, d4, f4, T5, a5, b5, c5, d5, f5, T6, a6, b6, c6, d6, f6, nm, g1, k1, g2, k2, k3, k4, g3, k5, g4, k6, g5, k7, g6, k8, hnd, h12⟩ := hs
  have lt : ∀ z ∈ [i, q, it, e0, e1, e2], z < H.next := by
    intro z hz
    simp only [List.mem_cons, List.not_mem_nil, or_false] at hz
    rcases hz with rfl | rfl | rfl | rfl | rfl | rfl
    · rw [← hr.len]; exact hr.lt g1
    · rw [← hr.len]; exact hr.lt g2
    · rw [← hr.len]; exact hr.lt g3
    · rw [← hr.len]; exact hr.lt g4
    · rw [← hr.len]; exact hr.lt g5
    · rw [← hr.len]; exact hr.lt g6
  have hK : FrK 12 [i, q, it, e0, e1, e2] [] H := ⟨by have := h12 i (by simp); have := lt i (by simp); omega, fun z hz => ⟨h12 z (by simpa using hz), lt z (by simpa using hz)⟩, by simpa using hnd⟩
  have hltM : ∀ z ∈ kN 12 [i, q, it, e0, e1, e2] [], z < M.length := fun z hz => by
    rw [hr.len]
    unfold kN at hz
    rcases List.mem_append.1 hz with hz | hz
    · rw [List.mem_range] at hz
      have := h12 i (by simp); have := lt i (by simp); omega
    · exact lt z (by simpa using hz)
  obtain ⟨T, hT, hrow⟩ := byj_tree h0 h1 h2 hn hm hk0 hk1 hk2 l0 l1 l2
  have hrun : callPS EBy (smC EBy) (pinD [(34, 3), (37, 3)]) 100 (.call 37 [.ptr 12 0, .ptr 13 0] (mkH 12 (bjO nm x C0 C1 C2))) (pO 12 682) kByJ = some (x.k0 + x.n + x.k1 + x.m + x.k2, x.k0 + x.n + x.k1 + x.m + x.k2, T) := (byj_run nm x.n x.m x.k0 x.k1 x.k2 x.p0 x.p1 x.p2 x.p3 x.p4 x.f0 x.f1 x.f2 C0 C1 C2).trans hT
  match cargs, ha with
  | [], ha => exact ha.elim
  | [_], ha => exact ha.2.elim
  | _ :: _ :: _ :: _, ha => exact ha.2.2.elim
  | [x0, x1], ⟨v0, v1, _⟩ =>
  obtain ⟨z, o', hr1, hkr⟩ := callPS_ok EBy (smC_ok EBy) (pinD [(34, 3), (37, 3)]) 100 _ _ _ _ hrun
  unfold kByJ at hkr
  split at hkr
  case h_2 => cases hkr
  rename_i k n1 H2
  split at hkr
  case h_2 => cases hkr
  rename_i m1 T7 hrow2
  obtain ⟨hk, hkr⟩ := bc_none hkr
  rw [Nat.ble_eq] at hk
  simp only [Option.some.injEq, Prod.mk.injEq] at hkr
  obtain ⟨rfl, rfl, rfl⟩ := hkr
  have kl : (kN 12 [i, q, it, e0, e1, e2] []).length = 12 + 6 := by rw [kN_len]; rfl
  have bk : mtN (kN 12 [i, q, it, e0, e1, e2] []) [k] H.next k = H.next := mtN_new (j := 0) (by simp) rfl (by rw [kl]; exact hk)
  have key := frame_calls (E := EBy) (gl := gl) (nk := [k]) (D := fun _ => False) (pl := fun _ => (0, 0)) (τ := fun _ => .nils) (θ := fun _ => (0, 0, 0, 0, 0)) (v := .sl k 0 (x.k0 + x.n + x.k1 + x.m + x.k2) none) (H' := H.new (.cells (x.k0 + x.n + x.k1 + x.m + x.k2) (bT (byJL C0 x.n C1 x.m C2)) 5 (some 1) 0 false false)) (w := w) (args := [.ptr 12 0, .ptr 13 0]) (cargs := [x0, x1]) (M := M) (H := H) (ks := [i, q, it, e0, e1, e2])
    (eby_ok (fun _ _ _ h => h) (jg_carried gl)) (by kernel_rfl) hj hg hr hK rfl ?_ (fun j h => h.elim) ⟨vptr_to (k := 12) (ren_atN hltM (j := 0) rfl) v0, vptr_to (k := 13) (ren_atN hltM (j := 1) rfl) v1, trivial⟩ hr1 (by simp) ?_ ?_ ?_ rfl ?_
  · have e3 : lfV (mtN (kN EBy.ng [i, q, it, e0, e1, e2] []) [k] H.next) (fun _ => AV.nils) (.sl k 0 (x.k0 + x.n + x.k1 + x.m + x.k2) none) = .sl H.next 0 (x.k0 + x.n + x.k1 + x.m + x.k2) none := by
      show AV.sl (mtN (kN 12 [i, q, it, e0, e1, e2] []) [k] H.next k) 0 (x.k0 + x.n + x.k1 + x.m + x.k2) none = _
      rw [bk]
    rw [e3] at key
    exact key
  · intro j u hu
    match j, hu with
    | 0, hu =>
      cases hu
      refine ⟨i, _, rfl, g1, .inr (.inr ⟨11, T1, a1, b1, c1, d1, f1, 0, none, 0, false, _, rfl, rfl, .inl rfl, fun i z hz => ?_⟩)⟩
      rcases Tr.get_putAll _ hz with ⟨q, rfl, hq⟩ | ⟨_, hu⟩
      · match q, hq with
        | 0, hq => cases hq; exact ⟨_, k1, .inl rfl⟩
        | q + 1, hq => simp at hq
      · simp [Tr.get_nil] at hu
    | 1, hu =>
      cases hu
      refine ⟨q, _, rfl, g2, .inr (.inr ⟨6, T2, a2, b2, c2, d2, f2, 0, none, 0, false, _, rfl, rfl, .inl rfl, fun j z hz => ?_⟩)⟩
      rcases Tr.get_set hz with ⟨rfl, rfl⟩ | ⟨_, hz⟩
      · refine ⟨_, k4, .inl ?_⟩
        show (match posOf it (kN 12 [i, q, it, e0, e1, e2] []) 0 with | some k => some (AV.sl k 0 5 none) | none => none) = _
        rw [posOf_nd (k := 14) hK.all (kN_at (ng := 12) (j := 2) (ks := [i, q, it, e0, e1, e2]) (xs := []) (by simp))]
      · rcases Tr.get_putAll _ hz with ⟨q, rfl, hq⟩ | ⟨_, hu⟩
        · match q, hq with
          | 0, hq => cases hq; exact ⟨_, k2, .inl rfl⟩
          | 1, hq => cases hq; exact ⟨_, k3, .inl rfl⟩
          | q + 2, hq => simp at hq
        · simp [Tr.get_nil] at hu
    | 2, hu =>
      cases hu
      refine ⟨it, _, rfl, g3, .inr (.inr ⟨55, T3, a3, b3, c3, d3, f3, 0, none, 0, false, _, rfl, rfl, .inl rfl, fun j z hz => ?_⟩)⟩
      rcases Tr.get_putAll _ hz with ⟨s, rfl, hq⟩ | ⟨_, hu⟩
      · rw [Nat.zero_add]
        have hd0 : rnV 0 (kN 12 [i, q, it, e0, e1, e2] []) (.sl e0 0 x.k0 none) = some (.sl 15 0 x.k0 none) := by
          show (match posOf e0 (kN 12 [i, q, it, e0, e1, e2] []) 0 with | some k => some (AV.sl k 0 x.k0 none) | none => none) = _
          rw [posOf_nd (k := 15) hK.all (kN_at (ng := 12) (j := 3) (ks := [i, q, it, e0, e1, e2]) (xs := []) (by simp))]
        have hd1 : rnV 0 (kN 12 [i, q, it, e0, e1, e2] []) (.sl e1 0 x.k1 none) = some (.sl 16 0 x.k1 none) := by
          show (match posOf e1 (kN 12 [i, q, it, e0, e1, e2] []) 0 with | some k => some (AV.sl k 0 x.k1 none) | none => none) = _
          rw [posOf_nd (k := 16) hK.all (kN_at (ng := 12) (j := 4) (ks := [i, q, it, e0, e1, e2]) (xs := []) (by simp))]
        have hd2 : rnV 0 (kN 12 [i, q, it, e0, e1, e2] []) (.sl e2 0 x.k2 none) = some (.sl 17 0 x.k2 none) := by
          show (match posOf e2 (kN 12 [i, q, it, e0, e1, e2] []) 0 with | some k => some (AV.sl k 0 x.k2 none) | none => none) = _
          rw [posOf_nd (k := 17) hK.all (kN_at (ng := 12) (j := 5) (ks := [i, q, it, e0, e1, e2]) (xs := []) (by simp))]
        exact byj_cell hd0 hd1 hd2 k5 hq
      · simp [Tr.get_nil] at hu
    | 3, hu => cases hu; exact ⟨e0, _, rfl, g4, .inr (.inr ⟨x.k0, T4, a4, b4, c4, d4, f4, 0, none, 0, false, _, rfl, rfl, .inl rfl, fun j z hz => bRow_cell k6 j z hz⟩)⟩
    | 4, hu => cases hu; exact ⟨e1, _, rfl, g5, .inr (.inr ⟨x.k1, T5, a5, b5, c5, d5, f5, 0, none, 0, false, _, rfl, rfl, .inl rfl, fun j z hz => bRow_cell k7 j z hz⟩)⟩
    | 5, hu => cases hu; exact ⟨e2, _, rfl, g6, .inr (.inr ⟨x.k2, T6, a6, b6, c6, d6, f6, 0, none, 0, false, _, rfl, rfl, .inl rfl, fun j z hz => bRow_cell k8 j z hz⟩)⟩
    | j + 6, hu => simp [bjO] at hu
  · intro q hq
    rw [List.mem_singleton] at hq
    subst hq
    exact ⟨hk, _, hrow2⟩
  · exact .inr (by simp)
  · trivial
  · intro id o ho
    rcases AHeap.get_new ho with ⟨rfl, rfl⟩ | ⟨_, ho⟩
    · refine .inl ⟨k, _, bk.symm, .inr (by simp), hrow2, _, T7, bT (byJL C0 x.n C1 x.m C2), 5, some 1, 0, false, rfl, rfl, fun j z hz => ?_⟩
      rcases Tr.get_putAll _ hz with ⟨s, rfl, hq⟩ | ⟨_, hu⟩
      · rw [List.getElem?_map] at hq
        obtain ⟨b, hb, rfl⟩ := Option.map_eq_some_iff.1 hq
        rw [Nat.zero_add]
        exact ⟨_, hrow s b hb, trivial, trivial, rfl⟩
      · simp [Tr.get_nil] at hu
    · refine .inr ⟨ho, fun j u hj2 hu => ?_⟩
      match j, hu with
      | 0, hu => cases hu; rfl
      | 1, hu => cases hu; rfl
      | 2, hu => cases hu; rfl
      | 3, hu => cases hu; rfl
      | 4, hu => cases hu; rfl
      | 5, hu => cases hu; rfl
      | j + 6, hu => simp [bjO] at hu
end
open Classical in
def byjSm (x : JP) (C0 C1 C2 : List UInt8) : Sm := fun f args H => match args with
  | [.ptr i 0, .ptr q 0] => if f = 37 ∧ ByShapeJ x C0 C1 C2 H i q then some (.sl H.next 0 (x.k0 + x.n + x.k1 + x.m + x.k2) none, H.new (.cells (x.k0 + x.n + x.k1 + x.m + x.k2) (bT (byJL C0 x.n C1 x.m C2)) 5 (some 1) 0 false false)) else none
  | _ => none
structure JP.Ok (x : JP) (C0 C1 C2 : List UInt8) : Prop where
  h0 : C0.length = x.k0
  h1 : C1.length = x.k1
  h2 : C2.length = x.k2
  hn : x.n ≤ 5000
  hm : x.m ≤ 5000
  b0 : x.k0 ≤ 5
  b1 : x.k1 ≤ 5
  b2 : x.k2 ≤ 5
  l0 : 0 < x.k0
  l1 : 0 < x.k1
  l2 : 0 < x.k2
theorem byj_ok {x : JP} {C0 C1 C2 : List UInt8} (h : x.Ok C0 C1 C2) : SmOkJ Tryz.prog gl 12 (byjSm x C0 C1 C2) := by
  intro f args H v2 H' M w cargs hs hj hg hr ha
  unfold byjSm at hs
  split at hs
  case h_2 => cases hs
  rename_i i q
  split at hs
  case isFalse => cases hs
  rename_i hc
  cases hs
  obtain ⟨rfl, hc⟩ := hc
  exact byj_core h.h0 h.h1 h.h2 h.hn h.hm h.b0 h.b1 h.b2 h.l0 h.l1 h.l2 hj hg hr hc ha
end
end Go.Proofs.YthlcgkebfodnmaaGreatDoor
