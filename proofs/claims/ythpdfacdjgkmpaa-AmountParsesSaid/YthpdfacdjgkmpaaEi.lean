/- The suffixes, by a walk. -/
import Derived.Test.YthpdfacdjgkmpaaEh
namespace Go.Proofs.Ythpdfacdjgkmpaa.Wi
open Go.RowKit K

/-- The table of suffixes, cell by cell. -/
def sufT : Array Value := #[.string ⟨#[69, 105]⟩, .int .i64 0, .int .i64 60, .string ⟨#[80, 105]⟩, .int .i64 0, .int .i64 50, .string ⟨#[84, 105]⟩, .int .i64 0, .int .i64 40, .string ⟨#[71, 105]⟩, .int .i64 0, .int .i64 30, .string ⟨#[77, 105]⟩, .int .i64 0, .int .i64 20, .string ⟨#[75, 105]⟩, .int .i64 0, .int .i64 10, .string ⟨#[69]⟩, .int .i64 18, .int .i64 0, .string ⟨#[80]⟩, .int .i64 15, .int .i64 0, .string ⟨#[84]⟩, .int .i64 12, .int .i64 0, .string ⟨#[71]⟩, .int .i64 9, .int .i64 0, .string ⟨#[77]⟩, .int .i64 6, .int .i64 0, .string ⟨#[107]⟩, .int .i64 3, .int .i64 0, .string ⟨#[]⟩, .int .i64 0, .int .i64 0, .string ⟨#[109]⟩, .int .i64 (-3), .int .i64 0, .string ⟨#[117]⟩, .int .i64 (-6), .int .i64 0, .string ⟨#[110]⟩, .int .i64 (-9), .int .i64 0]
set_option maxHeartbeats 4000000 in
set_option maxRecDepth 100000 in
theorem suffixes_any (w : World) : Calls Try.prog 52 #[] w (fun e w' => e = .returned (.slice (some ⟨w.heap.size, 0, none⟩) 16 16) ∧ w' = w.alloc (.cells sufT 54)) := by
  go_enter Try.func52, Try.ntmps52
  go_wp2_with fail
  exact bodyPost_ret (v := .slice (some ⟨w.heap.size, 0, none⟩) 16 16) (by simp [results, Try.results52, go_sem]) rfl ⟨rfl, rfl⟩
end Go.Proofs.Ythpdfacdjgkmpaa.Wi
