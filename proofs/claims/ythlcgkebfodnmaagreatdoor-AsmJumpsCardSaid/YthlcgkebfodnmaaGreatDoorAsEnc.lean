/- isa.Encode of each target's nop: run by the kernel. -/
import Derived.Test.YthlcgkebfodnmaaGreatDoorVaiRange
namespace Go.Proofs.YthlcgkebfodnmaaGreatDoor
open Go Go.Vai
noncomputable section
set_option maxRecDepth 100000
def EEn : Env := envOf Tryz.prog 12 [127] (orSm (extSm kinds) (contSm 127))
theorem een_ok (w : World) (hw : GlobOk gl w) : EnvOk EEn Tryz.prog (Kept gl w) := envOk_sm (by kernel_rfl) ((smOk_ext ext_ok).or cont_ok1) mixed_ok (fun _ _ _ h => h.1) (kept_carried hw).ext
theorem enc_fn : (EEn.fn 29).isSome = true := by kernel_rfl
def encD1 : Done := ⟨29, [.int .i64 (.ofNat 1), .agg [.str [110, 111, 112], .int .i64 (.ofNat 0), .int .i64 (.ofNat 0), .int .i64 (.ofNat 0), .int .i64 (.ofNat 0), .int .i64 (.ofNat 0)]], [259], .tup [.sl 259 0 1 none, .int .i64 (.ofNat 0)], [⟨1, 5, some 1, 0, false, false, [some (.int .u8 (.ofNat 144))]⟩]⟩
theorem encD1_run : pack encD1.keep (runR EEn 100000 (.call 29 encD1.args (gHeap 12 gl))) = some (encD1.v, encD1.os.map some) := by kernel_rfl
theorem encD1_ok : SmOk Tryz.prog gl (closedSmA encD1) := closedA_ok (E := EEn) (n := 100000) een_ok gl_ok enc_fn (plain_list rfl) (by have := encD1_run; rw [runR_eq] at this; exact this) (by decide) (by kernel_rfl)
def encD2 : Done := ⟨29, [.int .i64 (.ofNat 2), .agg [.str [110, 111, 112], .int .i64 (.ofNat 0), .int .i64 (.ofNat 0), .int .i64 (.ofNat 0), .int .i64 (.ofNat 0), .int .i64 (.ofNat 0)]], [265], .tup [.sl 265 0 4 (some 4), .int .i64 (.ofNat 0)], [⟨4, 5, none, 0, false, false, [some (.int .u8 (.ofNat 31)), some (.int .u8 (.ofNat 32)), some (.int .u8 (.ofNat 3)), some (.int .u8 (.ofNat 213))]⟩]⟩
theorem encD2_run : pack encD2.keep (runR EEn 100000 (.call 29 encD2.args (gHeap 12 gl))) = some (encD2.v, encD2.os.map some) := by kernel_rfl
theorem encD2_ok : SmOk Tryz.prog gl (closedSmA encD2) := closedA_ok (E := EEn) (n := 100000) een_ok gl_ok enc_fn (plain_list rfl) (by have := encD2_run; rw [runR_eq] at this; exact this) (by decide) (by kernel_rfl)
def encD3 : Done := ⟨29, [.int .i64 (.ofNat 3), .agg [.str [99, 46, 110, 111, 112], .int .i64 (.ofNat 0), .int .i64 (.ofNat 0), .int .i64 (.ofNat 0), .int .i64 (.ofNat 0), .int .i64 (.ofNat 0)]], [159], .tup [.sl 159 0 2 (some 2), .int .i64 (.ofNat 0)], [⟨2, 5, none, 0, false, false, [some (.int .u8 (.ofNat 1)), some (.int .u8 (.ofNat 0))]⟩]⟩
theorem encD3_run : pack encD3.keep (runR EEn 100000 (.call 29 encD3.args (gHeap 12 gl))) = some (encD3.v, encD3.os.map some) := by kernel_rfl
theorem encD3_ok : SmOk Tryz.prog gl (closedSmA encD3) := closedA_ok (E := EEn) (n := 100000) een_ok gl_ok enc_fn (plain_list rfl) (by have := encD3_run; rw [runR_eq] at this; exact this) (by decide) (by kernel_rfl)
end
end Go.Proofs.YthlcgkebfodnmaaGreatDoor
