/- isa.Decode of a jump at a place of a row of bytes, as a summary. -/
import Derived.Test.YthlcgkebfodnmaaGreatDoorAsByJ
namespace Go.Proofs.YthlcgkebfodnmaaGreatDoor
open Go Go.Vai
noncomputable section
set_option maxRecDepth 100000
def kDj : TRes → Orc → Option AV
  | .call (.ret v _), _ => some v
  | _, _ => none
def pinJ (op : Nat) : Pin := fun o => match o.dst, o.op with
  | some d, .assign (.tmp q) => bif Nat.beq d 3 && Nat.beq q 5 then some (.negSucc op) else none
  | _, _ => none
def dcO (L : Nat) (T : Tr AV) : AObj := .cells L T 0 none 0 true false
def im1 (b0 : Int) : Int := shrI (wrapR .i64 (wrapR .u64 (shlI (wrapR .u64 (orI .u64 (.ofNat 0) (wrapR .u64 (shlI (wrapR .u64 b0) 0)))) 56))) 56
def im4 (b0 b1 b2 b3 : Int) : Int := shrI (wrapR .i64 (wrapR .u64 (shlI (wrapR .u64 (orI .u64 (wrapR .u64 (orI .u64 (wrapR .u64 (orI .u64 (wrapR .u64 (orI .u64 (.ofNat 0) (wrapR .u64 (shlI (wrapR .u64 b0) 0)))) (wrapR .u64 (shlI (wrapR .u64 b1) 8)))) (wrapR .u64 (shlI (wrapR .u64 b2) 16)))) (wrapR .u64 (shlI (wrapR .u64 b3) 24)))) 32))) 32
def djsT (L c a : Nat) (T : Tr AV) : Option AV := bc (Nat.blt L a) (none) (bc (Nat.ble a L) (bc (!(Nat.blt 0 (Nat.sub L a))) (none) (bc (Nat.blt 0 (Nat.sub L a)) (bc (isI .u8 (Tr.get T (cn (Nat.beq c a) 0 (Nat.add 0 (Nat.mul a 1))))) (bc (ieq (asI (Tr.get T (cn (Nat.beq c a) 0 (Nat.add 0 (Nat.mul a 1))))) (.ofNat 235)) (bc (!(Nat.blt 1 (Nat.sub L a))) (none) (bc (Nat.blt 1 (Nat.sub L a)) (bc (isI .u8 (Tr.get T (Nat.succ (cn (Nat.beq c a) 0 (Nat.add 0 (Nat.mul a 1)))))) (bc (ilt (shrI (wrapR .i64 (wrapR .u64 (shlI (wrapR .u64 (orI .u64 (.ofNat 0) (wrapR .u64 (shlI (wrapR .u64 (asI (Tr.get T (Nat.succ (cn (Nat.beq c a) 0 (Nat.add 0 (Nat.mul a 1))))))) 0)))) 56))) 56) (.negSucc 127)) (none) (bc (ilt (.ofNat 127) (shrI (wrapR .i64 (wrapR .u64 (shlI (wrapR .u64 (orI .u64 (.ofNat 0) (wrapR .u64 (shlI (wrapR .u64 (asI (Tr.get T (Nat.succ (cn (Nat.beq c a) 0 (Nat.add 0 (Nat.mul a 1))))))) 0)))) 56))) 56)) (none) (some (.tup [.agg [.str [106, 109, 112, 46, 115], .int .i64 (.ofNat 0), .int .i64 (.ofNat 0), .int .i64 (.ofNat 0), .int .i64 (.ofNat 0), .int .i64 (shrI (wrapR .i64 (wrapR .u64 (shlI (wrapR .u64 (orI .u64 (.ofNat 0) (wrapR .u64 (shlI (wrapR .u64 (asI (Tr.get T (Nat.succ (cn (Nat.beq c a) 0 (Nat.add 0 (Nat.mul a 1))))))) 0)))) 56))) 56)], .int .i64 (.ofNat 2), .int .i64 (.ofNat 0)])))) (none)) (none))) (none)) (none)) (none))) (none))
theorem djs_run (q L c a : Nat) (T : Tr AV) : callPS EEn (smC EEn) (pinJ 235) 200 (.call 9 [.int .i64 (.ofNat 1), .sl 12 0 L (some c), .int .i64 (.ofNat a)] (mkH 12 [dcO q T])) (pO 1535 680217556017839592533318103247861733259831298272158969397883350506780213502399280317504266473006291241728311202116333009862276627361963890537964932449567787365675861151874000955341152593023404379563601732051104790114889953892552888211707020254183287661407601751038421305341624189221450335933384104997709052354506265720578791955292192714505744747635548802110025049890198102543067866758613637375489486009581105387587946388363217590269030293093173838645720775306241) kDj = djsT L c a T := by kernel_rfl
def djlT (L c a : Nat) (T : Tr AV) : Option AV := bc (Nat.blt L a) (none) (bc (Nat.ble a L) (bc (!(Nat.blt 0 (Nat.sub L a))) (none) (bc (Nat.blt 0 (Nat.sub L a)) (bc (isI .u8 (Tr.get T (cn (Nat.beq c a) 0 (Nat.add 0 (Nat.mul a 1))))) (bc (ieq (asI (Tr.get T (cn (Nat.beq c a) 0 (Nat.add 0 (Nat.mul a 1))))) (.ofNat 233)) (bc (!(Nat.blt 1 (Nat.sub L a))) (none) (bc (Nat.blt 1 (Nat.sub L a)) (bc (isI .u8 (Tr.get T (Nat.succ (cn (Nat.beq c a) 0 (Nat.add 0 (Nat.mul a 1)))))) (bc (!(Nat.blt 2 (Nat.sub L a))) (none) (bc (Nat.blt 2 (Nat.sub L a)) (bc (isI .u8 (Tr.get T (Nat.add (cn (Nat.beq c a) 0 (Nat.add 0 (Nat.mul a 1))) 2))) (bc (!(Nat.blt 3 (Nat.sub L a))) (none) (bc (Nat.blt 3 (Nat.sub L a)) (bc (isI .u8 (Tr.get T (Nat.add (cn (Nat.beq c a) 0 (Nat.add 0 (Nat.mul a 1))) 3))) (bc (!(Nat.blt 4 (Nat.sub L a))) (none) (bc (Nat.blt 4 (Nat.sub L a)) (bc (isI .u8 (Tr.get T (Nat.add (cn (Nat.beq c a) 0 (Nat.add 0 (Nat.mul a 1))) 4))) (bc (ilt (shrI (wrapR .i64 (wrapR .u64 (shlI (wrapR .u64 (orI .u64 (wrapR .u64 (orI .u64 (wrapR .u64 (orI .u64 (wrapR .u64 (orI .u64 (.ofNat 0) (wrapR .u64 (shlI (wrapR .u64 (asI (Tr.get T (Nat.succ (cn (Nat.beq c a) 0 (Nat.add 0 (Nat.mul a 1))))))) 0)))) (wrapR .u64 (shlI (wrapR .u64 (asI (Tr.get T (Nat.add (cn (Nat.beq c a) 0 (Nat.add 0 (Nat.mul a 1))) 2)))) 8)))) (wrapR .u64 (shlI (wrapR .u64 (asI (Tr.get T (Nat.add (cn (Nat.beq c a) 0 (Nat.add 0 (Nat.mul a 1))) 3)))) 16)))) (wrapR .u64 (shlI (wrapR .u64 (asI (Tr.get T (Nat.add (cn (Nat.beq c a) 0 (Nat.add 0 (Nat.mul a 1))) 4)))) 24)))) 32))) 32) (.negSucc 2147483647)) (none) (bc (ilt (.ofNat 2147483647) (shrI (wrapR .i64 (wrapR .u64 (shlI (wrapR .u64 (orI .u64 (wrapR .u64 (orI .u64 (wrapR .u64 (orI .u64 (wrapR .u64 (orI .u64 (.ofNat 0) (wrapR .u64 (shlI (wrapR .u64 (asI (Tr.get T (Nat.succ (cn (Nat.beq c a) 0 (Nat.add 0 (Nat.mul a 1))))))) 0)))) (wrapR .u64 (shlI (wrapR .u64 (asI (Tr.get T (Nat.add (cn (Nat.beq c a) 0 (Nat.add 0 (Nat.mul a 1))) 2)))) 8)))) (wrapR .u64 (shlI (wrapR .u64 (asI (Tr.get T (Nat.add (cn (Nat.beq c a) 0 (Nat.add 0 (Nat.mul a 1))) 3)))) 16)))) (wrapR .u64 (shlI (wrapR .u64 (asI (Tr.get T (Nat.add (cn (Nat.beq c a) 0 (Nat.add 0 (Nat.mul a 1))) 4)))) 24)))) 32))) 32)) (none) (some (.tup [.agg [.str [106, 109, 112], .int .i64 (.ofNat 0), .int .i64 (.ofNat 0), .int .i64 (.ofNat 0), .int .i64 (.ofNat 0), .int .i64 (shrI (wrapR .i64 (wrapR .u64 (shlI (wrapR .u64 (orI .u64 (wrapR .u64 (orI .u64 (wrapR .u64 (orI .u64 (wrapR .u64 (orI .u64 (.ofNat 0) (wrapR .u64 (shlI (wrapR .u64 (asI (Tr.get T (Nat.succ (cn (Nat.beq c a) 0 (Nat.add 0 (Nat.mul a 1))))))) 0)))) (wrapR .u64 (shlI (wrapR .u64 (asI (Tr.get T (Nat.add (cn (Nat.beq c a) 0 (Nat.add 0 (Nat.mul a 1))) 2)))) 8)))) (wrapR .u64 (shlI (wrapR .u64 (asI (Tr.get T (Nat.add (cn (Nat.beq c a) 0 (Nat.add 0 (Nat.mul a 1))) 3)))) 16)))) (wrapR .u64 (shlI (wrapR .u64 (asI (Tr.get T (Nat.add (cn (Nat.beq c a) 0 (Nat.add 0 (Nat.mul a 1))) 4)))) 24)))) 32))) 32)], .int .i64 (.ofNat 5), .int .i64 (.ofNat 0)])))) (none)) (none))) (none)) (none))) (none)) (none))) (none)) (none))) (none)) (none)) (none))) (none))
theorem djl_run (q L c a : Nat) (T : Tr AV) : callPS EEn (smC EEn) (pinJ 233) 200 (.call 9 [.int .i64 (.ofNat 1), .sl 12 0 L (some c), .int .i64 (.ofNat a)] (mkH 12 [dcO q T])) (pO 1539 10883480896285437762018478141922488890589367251904990780586068901460023281262341821385652305493138298692297204907586199737335875288134610738871617165817457389380703703476168612224616536341959110079170155629346636408678114279145526266138448311749431987800584727500118155263855460645388651293122314824767299815734134341148414201039512086348383379429861907485469753732918155786037043392649136009446465618452387316609016460087929961635138294523305989758262405359119361) kDj = djlT L c a T := by kernel_rfl
def jmpA (nm : List UInt8) (d : Int) (z : Nat) : AV := .tup [.agg [.str nm, .int .i64 (.ofNat 0), .int .i64 (.ofNat 0), .int .i64 (.ofNat 0), .int .i64 (.ofNat 0), .int .i64 d], .int .i64 (.ofNat z), .int .i64 (.ofNat 0)]
def nmS : List UInt8 := [106, 109, 112, 46, 115]
def nmL : List UInt8 := [106, 109, 112]
theorem isI_u8 (x : Int) : isI .u8 (some (.int .u8 x)) = true := rfl
theorem asI_u8 (x : Int) : asI (some (.int .u8 x)) = x := rfl
theorem cut_at {c a : Nat} (h : a < c) : cn (Nat.beq c a) 0 (Nat.add 0 (Nat.mul a 1)) = a := by
  rw [show Nat.beq c a = false from beq_f (by omega)]
  exact mul1 a
theorem djs_true {L c a : Nat} {T : Tr AV} {b0 : Int} (h : a + 2 ≤ L) (hc : L ≤ c) (g0 : T.get a = some (.int .u8 (.ofNat 235))) (g1 : T.get (Nat.succ a) = some (.int .u8 b0)) (lo : ilt (im1 b0) (.negSucc 127) = false) (hi : ilt (.ofNat 127) (im1 b0) = false) : djsT L c a T = some (jmpA nmS (im1 b0) 2) := by
  have e := cut_at (c := c) (a := a) (by omega)
  have t1 : Nat.blt L a = false := blt_f (by omega)
  have t2 : Nat.ble a L = true := ble_t (by omega)
  have t3 : Nat.blt 0 (Nat.sub L a) = true := blt_t (show 0 < L - a by omega)
  have t4 : Nat.blt 1 (Nat.sub L a) = true := blt_t (show 1 < L - a by omega)
  unfold im1 at lo hi
  unfold djsT
  simp only [e, t1, t2, t3, t4, g0, g1, isI_u8, asI_u8, lo, hi, ieq_self, Bool.not_true, bc_true, bc_false]
  rfl
theorem djl_true {L c a : Nat} {T : Tr AV} {b0 b1 b2 b3 : Int} (h : a + 5 ≤ L) (hc : L ≤ c) (g0 : T.get a = some (.int .u8 (.ofNat 233))) (g1 : T.get (Nat.succ a) = some (.int .u8 b0)) (g2 : T.get (Nat.add a 2) = some (.int .u8 b1)) (g3 : T.get (Nat.add a 3) = some (.int .u8 b2)) (g4 : T.get (Nat.add a 4) = some (.int .u8 b3))
    (lo : ilt (im4 b0 b1 b2 b3) (.negSucc 2147483647) = false) (hi : ilt (.ofNat 2147483647) (im4 b0 b1 b2 b3) = false) : djlT L c a T = some (jmpA nmL (im4 b0 b1 b2 b3) 5) := by
  have e := cut_at (c := c) (a := a) (by omega)
  have t1 : Nat.blt L a = false := blt_f (by omega)
  have t2 : Nat.ble a L = true := ble_t (by omega)
  have t3 : Nat.blt 0 (Nat.sub L a) = true := blt_t (show 0 < L - a by omega)
  have t4 : Nat.blt 1 (Nat.sub L a) = true := blt_t (show 1 < L - a by omega)
  have t5 : Nat.blt 2 (Nat.sub L a) = true := blt_t (show 2 < L - a by omega)
  have t6 : Nat.blt 3 (Nat.sub L a) = true := blt_t (show 3 < L - a by omega)
  have t7 : Nat.blt 4 (Nat.sub L a) = true := blt_t (show 4 < L - a by omega)
  unfold im4 at lo hi
  unfold djlT
  simp only [e, t1, t2, t3, t4, t5, t6, t7, g0, g1, g2, g3, g4, isI_u8, asI_u8, lo, hi, ieq_self, Bool.not_true, bc_true, bc_false]
  rfl
theorem dec_fnJ : (EEn.fn 9).isSome = true := by kernel_rfl
def someB (a : Nat) : List Int → Tr AV
  | [] => Tr.nil
  | b :: l => (someB (Nat.succ a) l).set a (.int .u8 b)
theorem someB_sub {T : Tr AV} : ∀ {l : List Int} {a : Nat}, (∀ j b, l[j]? = some b → T.get (a + j) = some (.int .u8 b)) → ∀ i v, (someB a l).get i = some v → T.get i = some v ∧ Plain v
  | [], a, _, i, v, hv => by simp [someB, Tr.get_nil] at hv
  | b :: l, a, h, i, v, hv => by
    rcases Tr.get_set hv with ⟨rfl, rfl⟩ | ⟨_, hv⟩
    · exact ⟨h 0 b rfl, plain_int _ _⟩
    · exact someB_sub (fun j b hb => by have := h (j + 1) b hb; rwa [show Nat.succ a + j = a + (j + 1) by omega]) i v hv
theorem someB_get : ∀ {l : List Int} {a j : Nat} {b : Int}, a + j < 140737488355328 → l[j]? = some b → (someB a l).get (a + j) = some (.int .u8 b)
  | [], _, _, _, _, h => by simp at h
  | c :: l, a, 0, b, ha, h => by
    have e47 : (2 : Nat) ^ 47 = 140737488355328 := by decide
    cases h
    show ((someB (Nat.succ a) l).set a _).get a = _
    rw [get_setB _ _ _ (by omega), if_pos rfl]
  | c :: l, a, j + 1, b, ha, h => by
    have e47 : (2 : Nat) ^ 47 = 140737488355328 := by decide
    show ((someB (Nat.succ a) l).set a _).get (a + (j + 1)) = _
    rw [get_setB _ _ _ (by omega), if_neg (by omega)]
    have := someB_get (l := l) (a := Nat.succ a) (j := j) (b := b) (by omega) h
    rwa [show Nat.succ a + j = a + (j + 1) by omega] at this
theorem dec_core {M : List MEnt} {H : AHeap} {w : World} {id l a n : Nat} {T : Tr AV} {e : TypeId} {g : Option Nat} {fz : Nat} {ro mk : Bool} {bs : List Int} {cargs : List Value} {op : Nat} {v : AV} {o : Orc} (hw : GlobOk gl w) (hr : HRel M H w) (hg : H.get id = some (.cells n T e g fz ro mk))
    (hT : ∀ j b, bs[j]? = some b → T.get (a + j) = some (.int .u8 b)) (hv : rnV 0 [] v = some v)
    (h : ∀ c, l ≤ c → callPS EEn (smC EEn) (pinJ op) 200 (.call 9 [.int .i64 (.ofNat 1), .sl 12 0 l (some c), .int .i64 (.ofNat a)] (mkH 12 [dcO n (someB a bs)])) o kDj = some v)
    (ha : VRels M [.int .i64 (.ofNat 1), .sl id 0 l none, .int .i64 (.ofNat a)] cargs) : CallsA Tryz.prog 9 cargs M H w (.ret v H) := by
  obtain ⟨m, hm, hrel⟩ := hr.obj id _ hg
  have hsub := row_sub hrel (someB_sub hT) 0
  match cargs, ha with
  | [cv0, cv1, cv2], ⟨r0, r1, r2, _⟩ =>
    obtain ⟨m', c', hm', rfl, _, hcap⟩ := r1
    rw [hm] at hm'; cases hm'
    obtain ⟨x, o', hx, hk⟩ := callPS_ok EEn (smC_ok EEn) (pinJ op) 200 _ _ _ _ (h c' (hcap rfl).1)
    unfold kDj at hk
    split at hk
    case h_2 => cases hk
    rename_i v1 H1
    cases hk
    have hx2 : (mGlob EEn.ng 0 ++ [m])[EEn.ng]? = some m := by
      rw [List.getElem?_append_right (by rw [mGlob_len]; exact Nat.le_refl _), mGlob_len, Nat.sub_self]; rfl
    refine view_closed (ex := [m]) (os := [dcO n (someB a bs)]) (args := [.int .i64 (.ofNat 1), .sl 12 0 l (some c'), .int .i64 (.ofNat a)]) een_ok dec_fnJ hw hr rfl (fun o ho => by cases List.mem_singleton.1 ho; rfl) (fun j m2 o2 e1 e2 => ?_) ⟨r0, ⟨m, c', hx2, rfl, (fun d e => by cases e; rfl), (fun e => by cases e)⟩, r2, trivial⟩ hv hx
    match j, e1, e2 with
    | 0, e1, e2 => cases e1; cases e2; exact hsub
    | j + 1, e1, e2 => simp at e1
def dec1R (H : AHeap) (l a : Nat) : Option AV → Option AV → Option (AV × AHeap)
  | some (.int .u8 x), some (.int .u8 b) => bif ieq x (.ofNat 235) && (Nat.ble (a + 2) l && (!(ilt (im1 b) (.negSucc 127)) && !(ilt (.ofNat 127) (im1 b)))) then some (jmpA nmS (im1 b) 2, H) else none
  | _, _ => none
def dec4R (H : AHeap) (l a : Nat) : Option AV → Option AV → Option AV → Option AV → Option AV → Option (AV × AHeap)
  | some (.int .u8 x), some (.int .u8 b0), some (.int .u8 b1), some (.int .u8 b2), some (.int .u8 b3) => bif ieq x (.ofNat 233) && (Nat.ble (a + 5) l && (!(ilt (im4 b0 b1 b2 b3) (.negSucc 2147483647)) && !(ilt (.ofNat 2147483647) (im4 b0 b1 b2 b3)))) then some (jmpA nmL (im4 b0 b1 b2 b3) 5, H) else none
  | _, _, _, _, _ => none
def decJ1 : Sm := fun g args H => match args with
  | [.int .i64 (.ofNat t), .sl id 0 l none, .int .i64 (.ofNat a)] => bif Nat.beq g 9 && (Nat.beq t 1 && Nat.blt l 1000000) then (match H.get id with
    | some (.cells _ T _ _ _ _ _) => dec1R H l a (T.get a) (T.get (a + 1))
    | _ => none) else none
  | _ => none
def decJ4 : Sm := fun g args H => match args with
  | [.int .i64 (.ofNat t), .sl id 0 l none, .int .i64 (.ofNat a)] => bif Nat.beq g 9 && (Nat.beq t 1 && Nat.blt l 1000000) then (match H.get id with
    | some (.cells _ T _ _ _ _ _) => dec4R H l a (T.get a) (T.get (a + 1)) (T.get (a + 2)) (T.get (a + 3)) (T.get (a + 4))
    | _ => none) else none
  | _ => none
theorem not_f {b : Bool} (h : (!b) = true) : b = false := by cases b <;> first | rfl | cases h
theorem decJ1_ok : SmOk Tryz.prog gl decJ1 := by
  intro f args H v H' M w cargs hs hw hr ha
  unfold decJ1 at hs
  split at hs
  case h_2 => cases hs
  rename_i t id l a
  rw [Bool.cond_eq_ite] at hs
  split at hs
  case isFalse => cases hs
  rename_i hc
  simp only [Bool.and_eq_true, Nat.beq_eq, Nat.blt_eq] at hc
  obtain ⟨rfl, rfl, hl⟩ := hc
  split at hs
  case h_2 => cases hs
  rename_i n T e g fz ro mk hg
  unfold dec1R at hs
  split at hs
  case h_2 => cases hs
  rename_i x b g0 g1
  rw [Bool.cond_eq_ite] at hs
  split at hs
  case isFalse => cases hs
  rename_i hc
  simp only [Bool.and_eq_true, Nat.ble_eq, ieq_iff, decide_eq_true_eq] at hc
  obtain ⟨rfl, h1, h2, h3⟩ := hc
  simp only [Option.some.injEq, Prod.mk.injEq] at hs
  obtain ⟨rfl, rfl⟩ := hs
  have hT : ∀ j c, [Int.ofNat 235, b][j]? = some c → T.get (a + j) = some (.int .u8 c) := fun j c hc => by
    match j, hc with
    | 0, hc => cases hc; exact g0
    | 1, hc => cases hc; exact g1
    | j + 2, hc => simp at hc
  refine dec_core (bs := [.ofNat 235, b]) (op := 235) (o := (pO 1535 680217556017839592533318103247861733259831298272158969397883350506780213502399280317504266473006291241728311202116333009862276627361963890537964932449567787365675861151874000955341152593023404379563601732051104790114889953892552888211707020254183287661407601751038421305341624189221450335933384104997709052354506265720578791955292192714505744747635548802110025049890198102543067866758613637375489486009581105387587946388363217590269030293093173838645720775306241)) hw hr hg hT rfl (fun c hc => (djs_run _ _ _ _ _).trans (djs_true h1 hc ?_ ?_ (not_f h2) (not_f h3))) ha
  · exact someB_get (a := a) (j := 0) (by omega) rfl
  · exact someB_get (a := a) (j := 1) (by omega) rfl
theorem decJ4_ok : SmOk Tryz.prog gl decJ4 := by
  intro f args H v H' M w cargs hs hw hr ha
  unfold decJ4 at hs
  split at hs
  case h_2 => cases hs
  rename_i t id l a
  rw [Bool.cond_eq_ite] at hs
  split at hs
  case isFalse => cases hs
  rename_i hc
  simp only [Bool.and_eq_true, Nat.beq_eq, Nat.blt_eq] at hc
  obtain ⟨rfl, rfl, hl⟩ := hc
  split at hs
  case h_2 => cases hs
  rename_i n T e g fz ro mk hg
  unfold dec4R at hs
  split at hs
  case h_2 => cases hs
  rename_i x b0 b1 b2 b3 g0 g1 g2 g3 g4
  rw [Bool.cond_eq_ite] at hs
  split at hs
  case isFalse => cases hs
  rename_i hc
  simp only [Bool.and_eq_true, Nat.ble_eq, ieq_iff, decide_eq_true_eq] at hc
  obtain ⟨rfl, h1, h2, h3⟩ := hc
  simp only [Option.some.injEq, Prod.mk.injEq] at hs
  obtain ⟨rfl, rfl⟩ := hs
  have hT : ∀ j c, [Int.ofNat 233, b0, b1, b2, b3][j]? = some c → T.get (a + j) = some (.int .u8 c) := fun j c hc => by
    match j, hc with
    | 0, hc => cases hc; exact g0
    | 1, hc => cases hc; exact g1
    | 2, hc => cases hc; exact g2
    | 3, hc => cases hc; exact g3
    | 4, hc => cases hc; exact g4
    | j + 5, hc => simp at hc
  refine dec_core (bs := [.ofNat 233, b0, b1, b2, b3]) (op := 233) (o := (pO 1539 10883480896285437762018478141922488890589367251904990780586068901460023281262341821385652305493138298692297204907586199737335875288134610738871617165817457389380703703476168612224616536341959110079170155629346636408678114279145526266138448311749431987800584727500118155263855460645388651293122314824767299815734134341148414201039512086348383379429861907485469753732918155786037043392649136009446465618452387316609016460087929961635138294523305989758262405359119361)) hw hr hg hT rfl (fun c hc => (djl_run _ _ _ _ _).trans (djl_true h1 hc ?_ ?_ ?_ ?_ ?_ (not_f h2) (not_f h3))) ha
  · exact someB_get (a := a) (j := 0) (by omega) rfl
  · exact someB_get (a := a) (j := 1) (by omega) rfl
  · exact someB_get (a := a) (j := 2) (by omega) rfl
  · exact someB_get (a := a) (j := 3) (by omega) rfl
  · exact someB_get (a := a) (j := 4) (by omega) rfl
def jcB (z : Nat) (d : Int) : List UInt8 := bif Nat.beq z 2 then [235, u8B (shrI d 0)] else [233, u8B (shrI d 0), u8B (shrI d 8), u8B (shrI d 16), u8B (shrI d 24)]
def nmJ (z : Nat) : List UInt8 := bif Nat.beq z 2 then [106, 109, 112, 46, 115] else [106, 109, 112]
def hasB (x : Option AV) (b : UInt8) : Bool := match x with
  | some v => AV.eqb v (byteAV b)
  | none => false
def allAt (T : Tr AV) : Nat → List UInt8 → Bool
  | _, [] => true
  | a, b :: l => hasB (T.get a) b && allAt T (Nat.succ a) l
def jAt (T : Tr AV) (a z : Nat) (d : Int) : Bool := allAt T a (jcB z d)
theorem im1_all : ((List.range 256).all fun n => ieq (im1 (wrapR .u8 (shrI (Int.sub (.ofNat n) (.ofNat 128)) 0))) (Int.sub (.ofNat n) (.ofNat 128))) = true := by kernel_rfl
theorem im4_all : ((List.range 801).all fun n => ieq (im4 (wrapR .u8 (shrI (Int.sub (.ofNat n) (.ofNat 400)) 0)) (wrapR .u8 (shrI (Int.sub (.ofNat n) (.ofNat 400)) 8)) (wrapR .u8 (shrI (Int.sub (.ofNat n) (.ofNat 400)) 16)) (wrapR .u8 (shrI (Int.sub (.ofNat n) (.ofNat 400)) 24))) (Int.sub (.ofNat n) (.ofNat 400))) = true := by kernel_rfl
theorem im1_of {d : Int} (h1 : -128 ≤ d) (h2 : d ≤ 127) : im1 (wrapR .u8 (shrI d 0)) = d := by
  have := List.all_eq_true.1 im1_all (d + 128).toNat (List.mem_range.2 (by omega))
  rw [ieq_iff, decide_eq_true_eq] at this
  have e : Int.sub (.ofNat (d + 128).toNat) (.ofNat 128) = d := by show ((d + 128).toNat : Int) - 128 = d; omega
  rw [e] at this; exact this
theorem im4_of {d : Int} (h1 : -400 ≤ d) (h2 : d ≤ 400) : im4 (wrapR .u8 (shrI d 0)) (wrapR .u8 (shrI d 8)) (wrapR .u8 (shrI d 16)) (wrapR .u8 (shrI d 24)) = d := by
  have := List.all_eq_true.1 im4_all (d + 400).toNat (List.mem_range.2 (by omega))
  rw [ieq_iff, decide_eq_true_eq] at this
  have e : Int.sub (.ofNat (d + 400).toNat) (.ofNat 400) = d := by show ((d + 400).toNat : Int) - 400 = d; omega
  rw [e] at this; exact this
theorem at1_some {T : Tr AV} {a : Nat} {b : UInt8} (h : hasB (T.get a) b = true) : T.get a = some (byteAV b) := by
  cases e : T.get a with
  | none => rw [e] at h; cases h
  | some v =>
    rw [e] at h
    have h : AV.eqb v (byteAV b) = true := h
    rw [eqb_eq _ _ h]
def jOk (z : Nat) (d : Int) : Prop := (z = 2 ∧ -128 ≤ d ∧ d ≤ 127) ∨ (z = 5 ∧ -400 ≤ d ∧ d ≤ 400)
theorem decJ_yes {z : Nat} {d : Int} {H : AHeap} {id l a n : Nat} {T : Tr AV} {e : TypeId} {g : Option Nat} {fz : Nat} {ro mk : Bool} (h : jOk z d) (hl : l < 1000000) (ha : a + z ≤ l) (hg : H.get id = some (.cells n T e g fz ro mk)) (hT : jAt T a z d = true) :
    orSm decJ1 decJ4 9 [.int .i64 (.ofNat 1), .sl id 0 l none, .int .i64 (.ofNat a)] H = some (jmpA (nmJ z) d z, H) := by
  have av : ∀ x : Int, byteAV (u8B x) = .int .u8 (wrapR .u8 x) := fun x => (u8B_av x).symm
  rcases h with ⟨rfl, h1, h2⟩ | ⟨rfl, h1, h2⟩
  · have hT : (hasB (T.get a) 235 && (hasB (T.get (a + 1)) (u8B (shrI d 0)) && true)) = true := hT
    simp only [Bool.and_eq_true] at hT
    have g0 := at1_some hT.1
    have g1 := at1_some hT.2.1
    rw [av] at g1
    refine or_yes ?_
    unfold decJ1
    simp only [Nat.beq_refl, Bool.true_and, blt_t hl, cond_true, hg, g0, g1]
    show dec1R H l a (some (.int .u8 (.ofNat 235))) _ = _
    unfold dec1R
    simp only [im1_of h1 h2, ieq_self, Bool.true_and, ble_t ha]
    have e1 : ilt d (.negSucc 127) = false := by rw [ilt_iff]; exact decide_eq_false (by show ¬ d < -128; omega)
    have e2 : ilt (.ofNat 127) d = false := by rw [ilt_iff]; exact decide_eq_false (by show ¬ (127 : Int) < d; omega)
    rw [e1, e2]; rfl
  · have hT : (hasB (T.get a) 233 && (hasB (T.get (a + 1)) (u8B (shrI d 0)) && (hasB (T.get (a + 2)) (u8B (shrI d 8)) && (hasB (T.get (a + 3)) (u8B (shrI d 16)) && (hasB (T.get (a + 4)) (u8B (shrI d 24)) && true))))) = true := hT
    simp only [Bool.and_eq_true] at hT
    have g0 := at1_some hT.1
    have g1 := at1_some hT.2.1
    have g2 := at1_some hT.2.2.1
    have g3 := at1_some hT.2.2.2.1
    have g4 := at1_some hT.2.2.2.2.1
    rw [av] at g1 g2 g3 g4
    rw [or_ne (by
      unfold decJ1
      simp only [Nat.beq_refl, Bool.true_and, blt_t hl, cond_true, hg, g0, g1]
      rfl)]
    unfold decJ4
    simp only [Nat.beq_refl, Bool.true_and, blt_t hl, cond_true, hg, g0, g1, g2, g3, g4]
    show dec4R H l a (some (.int .u8 (.ofNat 233))) _ _ _ _ = _
    unfold dec4R
    simp only [im4_of h1 h2, ieq_self, Bool.true_and, ble_t ha]
    have e1 : ilt d (.negSucc 2147483647) = false := by rw [ilt_iff]; exact decide_eq_false (by show ¬ d < -2147483648; omega)
    have e2 : ilt (.ofNat 2147483647) d = false := by rw [ilt_iff]; exact decide_eq_false (by show ¬ (2147483647 : Int) < d; omega)
    rw [e1, e2]; rfl
end
end Go.Proofs.YthlcgkebfodnmaaGreatDoor
