/- Disks: what a nil disk answers, by walks. -/
import Derived.Test.YtijcdpefcdgklaaEd
namespace Go.Proofs.Ytijcdpefcdgklaa.Di
open Go.RowKit K

theorem eqn {P : Program} {w : World} {t e : TypeId} (ht : P.underlying t = some (.pointer e)) : (binOp .eql t (.pointer none) (.pointer none)).run P w = .ok (.bool true) w := by
  have h : (Op.equal t (.pointer none) (.pointer none)).run P w = .ok true w := by
    show (Op.equalIn (9999 + 1) t (.pointer none) (.pointer none)).run P w = _
    unfold Op.equalIn
    simp [run_underlying ht]
  simp [binOp, h]
theorem nen {P : Program} {w : World} {t e : TypeId} (ht : P.underlying t = some (.pointer e)) : (binOp .neq t (.pointer none) (.pointer none)).run P w = .ok (.bool false) w := by
  have h : (Op.equal t (.pointer none) (.pointer none)).run P w = .ok true w := by
    show (Op.equalIn (9999 + 1) t (.pointer none) (.pointer none)).run P w = _
    unfold Op.equalIn
    simp [run_underlying ht]
  simp [binOp, h]
theorem eqn25 (w : World) : (binOp .eql 25 (.pointer none) (.pointer none)).run Try.prog w = .ok (.bool true) w := eqn Try.underlying25
theorem nen25 (w : World) : (binOp .neq 25 (.pointer none) (.pointer none)).run Try.prog w = .ok (.bool false) w := nen Try.underlying25
attribute [local go_sem ↓] eqn25 nen25
set_option maxHeartbeats 1000000 in
theorem nil_able (w : World) (n : Int) : Calls Try.prog 21 #[.pointer none, .int .i64 n] w (Same w (.int .i64 1)) := by
  go_enter Try.func21, Try.ntmps21
  go_wp2_with fail
  exact bodyPost_ret (v := .int .i64 1) (by simp [results, Try.results21, go_sem]) rfl ⟨rfl, rfl⟩
set_option maxHeartbeats 1000000 in
theorem nil_arm (w : World) (n : Int) : Calls Try.prog 9 #[.pointer none, .int .i64 n] w (Same w (.tuple #[])) := by
  go_enter Try.func9, Try.ntmps9
  go_wp2_with fail
  exact bodyPost_ret (v := .tuple #[]) (by simp [results, Try.results9, go_sem]) rfl ⟨rfl, rfl⟩
set_option maxHeartbeats 1000000 in
theorem nil_down (w : World)  : Calls Try.prog 10 #[.pointer none] w (Same w (.bool false)) := by
  go_enter Try.func10, Try.ntmps10
  go_wp2_with fail
  exact bodyPost_ret (v := .bool false) (by simp [results, Try.results10, go_sem]) rfl ⟨rfl, rfl⟩
set_option maxHeartbeats 1000000 in
theorem nil_up (w : World)  : Calls Try.prog 11 #[.pointer none] w (Same w (.tuple #[])) := by
  go_enter Try.func11, Try.ntmps11
  go_wp2_with fail
  exact bodyPost_ret (v := .tuple #[]) (by simp [results, Try.results11, go_sem]) rfl ⟨rfl, rfl⟩
set_option maxHeartbeats 1000000 in
theorem nil_read (w : World) (n : Int) : Calls Try.prog 12 #[.pointer none, .int .i64 n] w (Same w (.tuple #[.slice none 0 0, .int .i64 1])) := by
  go_enter Try.func12, Try.ntmps12
  go_wp2_with (refine (nil_able _ _).mono ?_; rintro e w1 ⟨rfl, rfl⟩)
  exact bodyPost_ret (v := .tuple #[.slice none 0 0, .int .i64 1]) (by simp [results, Try.results12, go_sem]) rfl ⟨rfl, rfl⟩
set_option maxHeartbeats 1000000 in
theorem nil_size (w : World)  : Calls Try.prog 13 #[.pointer none] w (Same w (.int .i64 0)) := by
  go_enter Try.func13, Try.ntmps13
  go_wp2_with fail
  exact bodyPost_ret (v := .int .i64 0) (by simp [results, Try.results13, go_sem]) rfl ⟨rfl, rfl⟩
set_option maxHeartbeats 1000000 in
theorem nil_written (w : World)  : Calls Try.prog 14 #[.pointer none] w (Same w (.int .i64 0)) := by
  go_enter Try.func14, Try.ntmps14
  go_wp2_with fail
  exact bodyPost_ret (v := .int .i64 0) (by simp [results, Try.results14, go_sem]) rfl ⟨rfl, rfl⟩
set_option maxHeartbeats 1000000 in
theorem nil_image (w : World) (n : Int) : Calls Try.prog 8 #[.pointer none, .int .i64 n] w (Same w (.slice none 0 0)) := by
  go_enter Try.func8, Try.ntmps8
  go_wp2_with fail
  exact bodyPost_ret (v := .slice none 0 0) (by simp [results, Try.results8, go_sem]) rfl ⟨rfl, rfl⟩
set_option maxHeartbeats 1000000 in
theorem nil_writes (w : World)  : Calls Try.prog 15 #[.pointer none] w (Same w (.slice none 0 0)) := by
  go_enter Try.func15, Try.ntmps15
  go_wp2_with fail
  exact bodyPost_ret (v := .slice none 0 0) (by simp [results, Try.results15, go_sem]) rfl ⟨rfl, rfl⟩
set_option maxHeartbeats 1000000 in
theorem nil_clone (w : World)  : Calls Try.prog 16 #[.pointer none] w (Same w (.pointer none)) := by
  go_enter Try.func16, Try.ntmps16
  go_wp2_with fail
  exact bodyPost_ret (v := .pointer none) (by simp [results, Try.results16, go_sem]) rfl ⟨rfl, rfl⟩
set_option maxHeartbeats 1000000 in
theorem nil_write (w : World) (n : Int) (v : Value) : Calls Try.prog 7 #[.pointer none, .int .i64 n, v] w (Same w (.int .i64 1)) := by
  go_enter Try.func7, Try.ntmps7
  go_wp2_with (refine (nil_able _ _).mono ?_; rintro e w1 ⟨rfl, rfl⟩)
  exact bodyPost_ret (v := .int .i64 1) (by simp [results, Try.results7, go_sem]) rfl ⟨rfl, rfl⟩
end Go.Proofs.Ytijcdpefcdgklaa.Di
