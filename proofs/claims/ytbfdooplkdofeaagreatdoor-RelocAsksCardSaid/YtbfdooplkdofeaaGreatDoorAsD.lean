/- reloc.Of and the reference's: environments, with Encode, Check and Operands as whatever they are. -/
import Derived.Test.YtbfdooplkdofeaaGreatDoorAsE
import Derived.Test.YtbfdooplkdofeaaGreatDoorVaiH
import Derived.KernelRfl
namespace Go.Proofs.YtbfdooplkdofeaaGreatDoor
open Go Go.Vai
noncomputable section
set_option maxRecDepth 100000
theorem Zdg {a b : Sm} {f : Nat} {args : List AV} {H : AHeap} (h : a f args H = none) : orSm a b f args H = b f args H := by unfold orSm; rw [h]
theorem or_some {a b : Sm} {f : Nat} {args : List AV} {H : AHeap} {r : AV × AHeap} (h : a f args H = some r) : orSm a b f args H = some r := by unfold orSm; rw [h]
abbrev EvT := Int → List UInt8 → Int → Int → Int → Int → Int
def encFv (ev : EvT) : Nat → List AV → Option AV := fun f args => bif Nat.beq f 17 then (match args with
  | [.int .i64 t, .agg [.str nm, .int .i64 A, .int .i64 B, .int .i64 C, .int .i64 D, .int .i64 I]] => bif ieq I (.ofNat 0) then some (.tup [.opq none, .int .i64 (ev t nm A B C D)]) else none
  | _ => none) else none
def chkFv (fv : EvT) : Nat → List AV → Option AV := fun f args => bif Nat.beq f 20 then (match args with
  | [.int .i64 t, .agg [.str nm, .int .i64 A, .int .i64 B, .int .i64 C, .int .i64 D, .int .i64 I]] => bif ieq I (.ofNat 0) then some (.int .i64 (fv t nm A B C D)) else none
  | _ => none) else none
def memL : List (List UInt8) := [[109, 111, 118, 46, 114, 109], [109, 111, 118, 108, 46, 114, 109], [109, 111, 118, 115, 108, 46, 114, 109], [109, 111, 118, 122, 98, 46, 114, 109], [108, 101, 97], [109, 111, 118, 46, 109, 114], [109, 111, 118, 108, 46, 109, 114], [109, 111, 118, 98, 46, 109, 114], [97, 100, 100, 46, 114, 109], [111, 114, 46, 114, 109], [97, 110, 100, 46, 114, 109], [115, 117, 98, 46, 114, 109], [120, 111, 114, 46, 114, 109], [99, 109, 112, 46, 114, 109]]
def memB (nm : List UInt8) : Bool := memL.any fun m => leq m nm
def r12Fv (gv : EvT) : Nat → List AV → Option AV := fun f args => bif Nat.beq f 42 then (match args with
  | [.agg [.str nm, .int .i64 A, .int .i64 B, .int .i64 C, .int .i64 D, .int .i64 I]] => bif ieq I (.ofNat 0) && memB nm then some (.tup [.opq none, .int .i64 (gv (.ofNat 1) nm A B C D)]) else none
  | _ => none) else none
abbrev OsT := Int → List UInt8 → List UInt8
abbrev ObT := Int → List UInt8 → Bool
def opsFv (os : OsT) (ob : ObT) : Nat → List AV → Option AV := fun f args => bif Nat.beq f 14 then (match args with
  | [.int .i64 t, .str nm] => bif ieq t (.ofNat 1) then none else some (.tup [.str (os t nm), .bool (ob t nm)])
  | _ => none) else none
def Ea (ev : EvT) : Env := Zdn Tryz.prog 12 [15, 91, 97, 158, 166, 156, 17] (orSm (Zd2 kinds) (orSm (Zb7 15) (orSm (Zaz findF) (orSm fldSm (Zaz (encFv ev))))))
def Eo (ev : EvT) (os : OsT) (ob : ObT) : Env := Zdn Tryz.prog 12 [15, 17, 14] (orSm (Zd2 kinds) (orSm (Zb7 15) (orSm (Zaz (encFv ev)) (Zaz (opsFv os ob)))))
def Ern (fv : EvT) : Env := Zdn Tryz.prog 12 [15, 115, 116, 119, 120, 20] (orSm (Zd2 kinds) (orSm (Zb7 15) (orSm tabSm (Zaz (chkFv fv)))))
def Erm (fv gv : EvT) : Env := Zdn Tryz.prog 12 [15, 115, 116, 119, 120, 20, 42] (orSm (Zd2 kinds) (orSm (Zb7 15) (orSm tabSm (orSm (Zaz (chkFv fv)) (Zaz (r12Fv gv))))))
def opsK {α : Type} (os : OsT) (ob : ObT) (args : List AV) (H : AHeap) (k : AV → AHeap → Option α) : Option α := match args with
  | [.int .i64 t, .str nm] => bc (!(ieq t (.ofNat 1))) (k (.tup [.str (os t nm), .bool (ob t nm)]) H) none
  | _ => none
def SKo {α : Type} (ev : EvT) (os : OsT) (ob : ObT) : Smk α := fun f args H k => bif Nat.beq f 14 then opsK os ob args H k else smC (Eo ev os ob) f args H k
theorem eo_pre (ev : EvT) (os : OsT) (ob : ObT) (t : Int) (nm : List UInt8) (H : AHeap) : (Eo ev os ob).sm 14 [.int .i64 t, .str nm] H = Zaz (opsFv os ob) 14 [.int .i64 t, .str nm] H := by
  show orSm (Zd2 kinds) (orSm (Zb7 15) (orSm (Zaz (encFv ev)) (Zaz (opsFv os ob)))) 14 [.int .i64 t, .str nm] H = _
  rw [Zdg (by rfl), Zdg (by rfl), Zdg (by rfl)]
theorem sko_ok {α : Type} (ev : EvT) (os : OsT) (ob : ObT) : SmkOk (α := α) (Eo ev os ob) (SKo ev os ob) := by
  intro f args H k r h
  unfold SKo at h
  simp only [Bool.cond_eq_ite, Nat.beq_eq] at h
  split at h
  · rename_i e
    subst e
    unfold opsK at h
    split at h
    case h_2 => cases h
    rename_i t nm
    obtain ⟨h1, h2⟩ := Zao h
    refine ⟨_, _, ?_, h2⟩
    rw [eo_pre]
    rw [Bool.not_eq_true'] at h1
    unfold Zaz opsFv
    simp only [Nat.beq_refl, cond_true, h1, cond_false]
  exact Zc5 _ _ _ _ _ _ h
def trV (x y : Int) (b : Bool) : AV := .tup [.int .i64 x, .int .i64 y, .bool b]
def badV : AV := trV (.ofNat 0) (.ofNat 0) false
def eT (e : Int) (x : Option AV) : Option AV := bc (!(ieq e (.ofNat 0))) (some badV) x
def cT (l : List (Bool × Bool)) (x : Option AV) : Option AV := List.rec (motive := fun _ => Option AV) x (fun t _ ih => Bool.rec (motive := fun _ => Option AV) (bc t.1 none ih) (bc t.1 ih none) t.2) l
theorem Zb3 (x : Option AV) : ∀ l : List (Bool × Bool), (∀ t ∈ l, t.1 = t.2) → cT l x = x
  | [], _ => rfl
  | (a, b) :: l, h => by
    have h1 : a = b := h _ List.mem_cons_self
    subst h1
    have ih := Zb3 x l fun t ht => h t (List.mem_cons_of_mem _ ht)
    cases a with
    | false => show bc false none (cT l x) = x; rw [ih]; rfl
    | true => show bc true (cT l x) none = x; rw [ih]; rfl
def Zal (k : Nat) : Nat → List Bool := Nat.rec (motive := fun _ => Nat → List Bool) (fun _ => []) (fun _ ih x => Nat.beq (Nat.mod x 2) 1 :: ih (Nat.div x 2)) k
def goA (ev : EvT) (nm : List UInt8) (A B C D I : Int) (mod : List UInt8) : Option AV := Zcq (Ea ev) (smC (Ea ev)) Zdo 100000 (.call 5 [.int .i64 (.ofNat 1), insV nm A B C D I, .str mod] (Zap 12 gl)) [] jK
def goO (ev : EvT) (os : OsT) (ob : ObT) (t : Int) (nm : List UInt8) (A B C D I : Int) (mod : List UInt8) (o : Orc) : Option AV := Zcq (Eo ev os ob) (SKo ev os ob) Zdo 100000 (.call 5 [.int .i64 t, insV nm A B C D I, .str mod] (Zap 12 gl)) o jK
def goR (fv : EvT) (t : Int) (nm : List UInt8) (A B C D I : Int) (mod : List UInt8) (o : Orc) : Option AV := Zcq (Ern fv) (smC (Ern fv)) Zdo 100000 (.call 6 [.int .i64 t, insV nm A B C D I, .str mod] (Zap 12 gl)) o jK
def goM (fv gv : EvT) (nm : List UInt8) (A B C D I : Int) (mod : List UInt8) : Option AV := Zcq (Erm fv gv) (smC (Erm fv gv)) Zdo 100000 (.call 6 [.int .i64 (.ofNat 1), insV nm A B C D I, .str mod] (Zap 12 gl)) [] jK
def go5 (nm : List UInt8) (A C D I : Int) (mod : List UInt8) : Option AV := Zbo E3 100000 (.call 5 [.int .i64 (.ofNat 1), insV nm A (.ofNat 17) C D I, .str mod] (Zap 12 gl)) [] jK
def go6 (nm : List UInt8) (A C D I : Int) (mod : List UInt8) : Option AV := Zbo Er 100000 (.call 6 [.int .i64 (.ofNat 1), insV nm A (.ofNat 17) C D I, .str mod] (Zap 12 gl)) [] jK
def KO (t : Nat) (nm mod : List UInt8) (x y : Nat) (b : Bool) : Prop := ∀ (ev : EvT) (os : OsT) (ob : ObT) (A B C D I : Int), goO ev os ob (.ofNat t) nm A B C D I mod [] = eT (ev (.ofNat t) nm A B C D) (some (trV (.ofNat x) (.ofNat y) b))
def KR (t : Nat) (nm mod : List UInt8) (x y : Nat) (b : Bool) : Prop := ∀ (fv : EvT) (A B C D I : Int), goR fv (.ofNat t) nm A B C D I mod [] = eT (fv (.ofNat t) nm A B C D) (some (trV (.ofNat x) (.ofNat y) b))
def ao0 (_A : Int) (_B : Int) (_C : Int) (_D : Int) (mod : List UInt8) : Option AV := let y0 : Option AV := bc (!(leq [] mod)) (some badV) (some badV); let y1 : Option AV := bc (!(leq [116, 112] mod)) (y0) (y0); bc (!(leq [] mod)) (bc (!(leq [] mod)) (y1) (y1)) (some (trV (.ofNat 1) (.ofNat 2) true))
def ao1 (_A : Int) (_B : Int) (_C : Int) (_D : Int) (mod : List UInt8) : Option AV := let y0 : Option AV := bc (!(leq [] mod)) (bc (!(leq [116, 112] mod)) (bc (!(leq [] mod)) (some badV) (some badV)) (some (trV (.ofNat 23) (.ofNat 3) true))) (some (trV (.ofNat 11) (.ofNat 3) true)); bc (!(leq [] mod)) (y0) (y0)
def ao2 (_A : Int) (_B : Int) (_C : Int) (_D : Int) (mod : List UInt8) : Option AV := let y0 : Option AV := bc (!(leq [116, 112] mod)) (bc (!(leq [] mod)) (some badV) (some badV)) (some (trV (.ofNat 23) (.ofNat 5) true)); bc (!(leq [] mod)) (bc (!(leq [] mod)) (y0) (y0)) (bc (!(leq [] mod)) (y0) (y0))
def ao3 (_A : Int) (_B : Int) (_C : Int) (_D : Int) (mod : List UInt8) : Option AV := let y0 : Option AV := bc (!(leq [] mod)) (some badV) (some (trV (.ofNat 4) (.ofNat 1) true)); let y1 : Option AV := bc (!(leq [116, 112] mod)) (y0) (y0); bc (!(leq [] mod)) (bc (!(leq [] mod)) (y1) (y1)) (bc (!(leq [] mod)) (y1) (y1))
def ao4 (_A : Int) (_B : Int) (_C : Int) (_D : Int) (mod : List UInt8) : Option AV := let y0 : Option AV := bc (!(leq [] mod)) (some badV) (some (trV (.ofNat 4) (.ofNat 2) true)); let y1 : Option AV := bc (!(leq [116, 112] mod)) (y0) (y0); bc (!(leq [] mod)) (bc (!(leq [] mod)) (y1) (y1)) (bc (!(leq [] mod)) (y1) (y1))
def ao5 (_A : Int) (_B : Int) (_C : Int) (_D : Int) (mod : List UInt8) : Option AV := let y0 : Option AV := bc (!(leq [] mod)) (some badV) (some badV); let y1 : Option AV := bc (!(leq [116, 112] mod)) (y0) (y0); bc (!(leq [] mod)) (bc (!(leq [] mod)) (y1) (y1)) (bc (!(leq [] mod)) (y1) (y1))
def ro0 (A : Int) (B : Int) (C : Int) (D : Int) (mod : List UInt8) : Option AV := let y0 : Option AV := bc (leq mod []) (some (trV (.ofNat 1) (.ofNat 2) true)) (some badV); bc (!(ilt A (.ofNat 0))) (bc (!(ilt (.ofNat 15) A)) (bc (ieq B (.ofNat 0)) (bc (ieq C (.ofNat 0)) (bc (!(ieq D (.ofNat 0))) (y0) (y0)) (y0)) (y0)) (y0)) (y0)
def ro1 (A : Int) (B : Int) (C : Int) (D : Int) (mod : List UInt8) : Option AV := let y0 : Option AV := bc (leq mod []) (some (trV (.ofNat 11) (.ofNat 3) true)) (bc (leq mod [116, 112]) (some (trV (.ofNat 23) (.ofNat 3) true)) (some badV)); bc (!(ilt A (.ofNat 0))) (bc (!(ilt (.ofNat 15) A)) (bc (ieq B (.ofNat 0)) (bc (ieq C (.ofNat 0)) (bc (!(ieq D (.ofNat 0))) (y0) (y0)) (y0)) (y0)) (y0)) (y0)
def ro2 (A : Int) (B : Int) (C : Int) (D : Int) (mod : List UInt8) : Option AV := let y0 : Option AV := bc (leq mod [116, 112]) (some (trV (.ofNat 23) (.negSucc 3) true)) (some badV); bc (!(ilt A (.ofNat 0))) (bc (!(ilt (.ofNat 15) A)) (bc (ieq B (.ofNat 0)) (bc (ieq C (.ofNat 0)) (bc (!(ieq D (.ofNat 0))) (y0) (bc (leq mod [116, 112]) (some (trV (.ofNat 23) (.ofNat 5) true)) (some badV))) (y0)) (y0)) (y0)) (y0)
def ro3 (A : Int) (B : Int) (C : Int) (D : Int) (mod : List UInt8) : Option AV := let y0 : Option AV := bc (leq mod []) (some (trV (.ofNat 4) (.negSucc 3) true)) (some badV); bc (ieq A (.ofNat 0)) (bc (ieq B (.ofNat 0)) (bc (ieq C (.ofNat 0)) (bc (!(ieq D (.ofNat 0))) (y0) (bc (leq mod []) (some (trV (.ofNat 4) (.ofNat 1) true)) (some badV))) (y0)) (y0)) (y0)
def ro4 (A : Int) (B : Int) (C : Int) (D : Int) (mod : List UInt8) : Option AV := let y0 : Option AV := bc (leq mod []) (some (trV (.ofNat 4) (.ofNat 2) true)) (some badV); let y1 : Option AV := bc (leq mod []) (some (trV (.ofNat 4) (.negSucc 3) true)) (some badV); let y2 : Option AV := bc (!(ilt D (.ofNat 12))) (bc (!(!(ilt (.ofNat 15) D))) (y1) (y0)) (y1); bc (ieq A (.ofNat 0)) (bc (ieq B (.ofNat 0)) (bc (ieq C (.ofNat 0)) (bc (!(ilt D (.ofNat 0))) (bc (!(ilt (.ofNat 9) D)) (y0) (y2)) (y2)) (y1)) (y1)) (y1)
def ro5 (A : Int) (B : Int) (C : Int) (D : Int) (_mod : List UInt8) : Option AV := bc (!(ilt A (.ofNat 0))) (bc (!(ilt (.ofNat 15) A)) (bc (!(ilt B (.ofNat 0))) (bc (!(ilt (.ofNat 15) B)) (bc (ieq C (.ofNat 0)) (bc (!(ieq D (.ofNat 0))) (some badV) (some badV)) (some badV)) (some badV)) (some badV)) (some badV)) (some badV)
def ro6 (A : Int) (B : Int) (C : Int) (D : Int) (_mod : List UInt8) : Option AV := bc (!(ilt A (.ofNat 0))) (bc (!(ilt (.ofNat 15) A)) (bc (ieq B (.ofNat 0)) (bc (ieq C (.ofNat 0)) (bc (!(ieq D (.ofNat 0))) (some badV) (some badV)) (some badV)) (some badV)) (some badV)) (some badV)
def ro7 (A : Int) (B : Int) (C : Int) (D : Int) (_mod : List UInt8) : Option AV := bc (ieq A (.ofNat 0)) (bc (ieq B (.ofNat 0)) (bc (ieq C (.ofNat 0)) (bc (!(ieq D (.ofNat 0))) (some badV) (some badV)) (some badV)) (some badV)) (some badV)
def ro8 (A : Int) (B : Int) (C : Int) (D : Int) (_mod : List UInt8) : Option AV := let y0 : Option AV := bc (!(ilt D (.ofNat 12))) (bc (!(!(ilt (.ofNat 15) D))) (some badV) (some badV)) (some badV); bc (!(ilt A (.ofNat 0))) (bc (!(ilt (.ofNat 15) A)) (bc (!(ilt B (.ofNat 0))) (bc (!(ilt (.ofNat 15) B)) (bc (ieq C (.ofNat 0)) (bc (!(ilt D (.ofNat 0))) (bc (!(ilt (.ofNat 9) D)) (some badV) (y0)) (y0)) (some badV)) (some badV)) (some badV)) (some badV)) (some badV)
def ro9 (A : Int) (B : Int) (C : Int) (D : Int) (_mod : List UInt8) : Option AV := bc (!(ilt A (.ofNat 0))) (bc (!(ilt (.ofNat 15) A)) (bc (ieq B (.ofNat 0)) (bc (ieq C (.ofNat 0)) (bc (!(ieq D (.ofNat 0))) (some badV) (bc (ilt (.ofNat 0) (Zaa .i64 (Int.add (.ofNat 0) (Zaa .i64 (Int.tdiv A (.ofNat 8)))))) (some badV) (some badV))) (some badV)) (some badV)) (some badV)) (some badV)
def ro10 (A : Int) (B : Int) (C : Int) (D : Int) (_mod : List UInt8) : Option AV := let y0 : Option AV := bc (!(ilt D (.ofNat 12))) (bc (!(!(ilt (.ofNat 15) D))) (some badV) (some badV)) (some badV); bc (ieq A (.ofNat 0)) (bc (ieq B (.ofNat 0)) (bc (ieq C (.ofNat 0)) (bc (!(ilt D (.ofNat 0))) (bc (!(ilt (.ofNat 9) D)) (some badV) (y0)) (y0)) (some badV)) (some badV)) (some badV)
def am0 (_A : Int) (B : Int) (_C : Int) (_D : Int) (mod : List UInt8) : Option AV := bc (!(ieq B (.ofNat 17))) (some badV) (bc (!(leq mod [])) (some badV) (none))
def rm0 (_A : Int) (B : Int) (_C : Int) (_D : Int) (mod : List UInt8) : Option AV := bc (ieq B (.ofNat 17)) (bc (leq mod []) (none) (some badV)) (some badV)
def a17_0 (A : Int) (C : Int) (D : Int) (mod : List UInt8) : Option AV := let y0 : Option AV := bc (ieq C (.ofNat 16)) (bc (!(ieq D (.ofNat 0))) (some badV) (bc (!(leq mod [])) (some badV) (some (trV (.ofNat 2) (.ofNat 3) true)))) (some badV); bc (ieq A (.ofNat 0)) (y0) (bc (ilt (.ofNat 0) A) (bc (!(ilt (.ofNat 15) A)) (y0) (some badV)) (some badV))
def Zdq (A : Int) (C : Int) (D : Int) (mod : List UInt8) : Option AV := let y0 : Option AV := bc (ieq C (.ofNat 16)) (bc (!(ieq D (.ofNat 0))) (some badV) (bc (!(ieq (Zaa .u8 (orI .u8 (.ofNat 0) (Zaa .u8 (orI .u8 (Zaa .u8 (Int.mul (Zaa .u8 (shrI A 3)) (.ofNat 4))) (.ofNat 0))))) (.ofNat 0))) (bc (!(leq mod [])) (some badV) (some (trV (.ofNat 2) (.ofNat 3) true))) (bc (!(leq mod [])) (some badV) (some (trV (.ofNat 2) (.ofNat 2) true))))) (some badV); bc (ieq A (.ofNat 0)) (y0) (bc (ilt (.ofNat 0) A) (bc (!(ilt (.ofNat 15) A)) (y0) (some badV)) (some badV))
def a17_2 (A : Int) (C : Int) (D : Int) (mod : List UInt8) : Option AV := let y0 : Option AV := bc (ieq C (.ofNat 16)) (bc (!(ieq D (.ofNat 0))) (some badV) (bc (!(leq mod [])) (some badV) (some (trV (.ofNat 2) (.ofNat 4) true)))) (some badV); bc (ieq A (.ofNat 0)) (y0) (bc (ilt (.ofNat 0) A) (bc (!(ilt (.ofNat 15) A)) (y0) (some badV)) (some badV))
def r17_0 (A : Int) (C : Int) (D : Int) (mod : List UInt8) : Option AV := let y0 : Option AV := bc (leq mod []) (some (trV (.ofNat 2) (.negSucc 3) true)) (some badV); bc (!(ilt A (.ofNat 0))) (bc (!(ilt (.ofNat 15) A)) (bc (ieq C (.ofNat 16)) (bc (!(ieq D (.ofNat 0))) (some badV) (bc (!(ilt A (.ofNat 0))) (bc (!(ilt (.ofNat 15) A)) (bc (ieq C (.ofNat 16)) (bc (!(ieq D (.ofNat 0))) (y0) (bc (leq mod []) (some (trV (.ofNat 2) (.ofNat 3) true)) (some badV))) (y0)) (y0)) (y0))) (some badV)) (some badV)) (some badV)
def Zdm (A : Int) (C : Int) (D : Int) (mod : List UInt8) : Option AV := let y0 : Option AV := bc (leq mod []) (some (trV (.ofNat 2) (.negSucc 3) true)) (some badV); bc (!(ilt A (.ofNat 0))) (bc (!(ilt (.ofNat 15) A)) (bc (ieq C (.ofNat 16)) (bc (!(ieq D (.ofNat 0))) (some badV) (bc (!(ilt A (.ofNat 0))) (bc (!(ilt (.ofNat 15) A)) (bc (ieq C (.ofNat 16)) (bc (!(ieq D (.ofNat 0))) (y0) (bc (ilt (.ofNat 0) (Zaa .i64 (Int.add (Zaa .i64 (Int.add (Zaa .i64 (Int.tdiv A (.ofNat 8))) (.ofNat 0))) (.ofNat 0)))) (bc (leq mod []) (some (trV (.ofNat 2) (.ofNat 3) true)) (some badV)) (bc (leq mod []) (some (trV (.ofNat 2) (.ofNat 2) true)) (some badV)))) (y0)) (y0)) (y0))) (some badV)) (some badV)) (some badV)
def r17_2 (A : Int) (C : Int) (D : Int) (mod : List UInt8) : Option AV := let y0 : Option AV := bc (leq mod []) (some (trV (.ofNat 2) (.negSucc 3) true)) (some badV); bc (!(ilt A (.ofNat 0))) (bc (!(ilt (.ofNat 15) A)) (bc (ieq C (.ofNat 16)) (bc (!(ieq D (.ofNat 0))) (some badV) (bc (!(ilt A (.ofNat 0))) (bc (!(ilt (.ofNat 15) A)) (bc (ieq C (.ofNat 16)) (bc (!(ieq D (.ofNat 0))) (y0) (bc (leq mod []) (some (trV (.ofNat 2) (.ofNat 4) true)) (some badV))) (y0)) (y0)) (y0))) (some badV)) (some badV)) (some badV)
def cho2 (e : Int) (mod : List UInt8) : List (Bool × Bool) := [(!(ieq e (.ofNat 0)), false), (!(leq [] mod), true), (!(leq [] mod), true), (!(leq [] mod), true), (!(leq [] mod), true), (!(leq [112, 97, 103, 101] mod), true), (!(leq [108, 111, 49, 50] mod), true), (!(leq [116, 112, 104, 105] mod), true), (!(leq [116, 112, 108, 111] mod), true), (!(leq [108, 111, 49, 50] mod), true), (!(leq [108, 111, 49, 50] mod), true), (!(leq [108, 111, 49, 50] mod), true), (!(leq [108, 111, 49, 50] mod), true)]
def cho3 (e : Int) (mod : List UInt8) : List (Bool × Bool) := [(!(ieq e (.ofNat 0)), false), (!(leq [] mod), true), (!(leq [] mod), true), (!(leq [] mod), true), (!(leq [] mod), true), (!(leq [104, 105] mod), true), (!(leq [116, 112, 104, 105] mod), true), (!(leq [112, 99, 104, 105] mod), true), (!(leq [108, 111] mod), true), (!(leq [112, 99, 108, 111] mod), true), (!(leq [116, 112, 108, 111] mod), true), (!(leq [108, 111] mod), true), (!(leq [112, 99, 108, 111] mod), true), (!(leq [116, 112, 108, 111] mod), true)]
def chr2 (e : Int) (mod : List UInt8) : List (Bool × Bool) := [(!(ieq e (.ofNat 0)), false), (leq mod [108, 111, 49, 50], false), (leq mod [112, 97, 103, 101], false), (leq mod [116, 112, 104, 105], false), (leq mod [116, 112, 108, 111], false), (!(leq mod []), true)]
def chr3 (e : Int) (mod : List UInt8) : List (Bool × Bool) := [(!(ieq e (.ofNat 0)), false), (leq mod [], false), (leq mod [], false), (leq mod [], false), (leq mod [], false), (leq mod [104, 105], false), (leq mod [116, 112, 104, 105], false), (leq mod [112, 99, 104, 105], false), (leq mod [108, 111], false), (leq mod [108, 111], false), (leq mod [112, 99, 108, 111], false), (leq mod [112, 99, 108, 111], false), (leq mod [116, 112, 108, 111], false), (leq mod [116, 112, 108, 111], false)]
end
end Go.Proofs.YtbfdooplkdofeaaGreatDoor
