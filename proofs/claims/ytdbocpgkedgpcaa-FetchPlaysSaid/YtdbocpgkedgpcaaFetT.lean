/-
  What is told of a fetch: the reference's Data.
-/
import Derived.Test.YtdbocpgkedgpcaaFetR
import Derived.BigRegion
namespace Go.Proofs.Ytdbocpgkedgpcaa
open Go.RowKit
set_option linter.unusedVariables false
set_option linter.unusedSimpArgs false

set_option maxRecDepth 100000 in
set_option maxHeartbeats 8000000 in
theorem rdata_ok (ob : ByteArray) (fa fb : Int) (ft : ByteArray) (fk : Bool) (nt : ByteArray) (nk : Bool) (p q n : Int) (w : World) (h0 : 0 ≤ p) (h1 : p ≤ q) (h2 : q ≤ 4611686018427387904) (hn : ¬ n < 1) (hm : n ≤ q - p) : Calls Try.prog 21 #[.agg #[.string ob, .int .i64 fa, .int .i64 fb, .string ft, .bool fk, .string nt, .bool nk, .int .i64 1, .int .i64 p, .int .i64 q], .int .i64 n] w (AggSpanInt #[.string ob, .int .i64 fa, .int .i64 fb, .string ft, .bool fk, .string nt, .bool nk, .int .i64 1, .int .i64 (p + n), .int .i64 q] p (p + n) 0 w) := by
  go_enter Try.func21, Try.ntmps21
  go_upto_region 9 with fail
  go_cut [6] (fun er6 wx => er6 = .int .i64 0 ∧ Blk wx (w.heap.size + 1) 46 #[.string ob, .int .i64 fa, .int .i64 fb, .string ft, .bool fk, .string nt, .bool nk, .int .i64 1, .int .i64 (p + n), .int .i64 q] ∧ Blk wx (w.heap.size + 2) 23 #[.int .i64 p, .int .i64 (p + n)] ∧ Below w.heap.size w wx)
  case first =>
    go_region
    all_goals (go_wp2_with fail; go_meet)
    all_goals exact ⟨rfl, (((Blk.new' (by simp)).alloc _).alloc _).drew, ((Blk.new' (by simp)).alloc _).drew, ((((((Below.refl _ _).alloc (Nat.le_refl _) _).alloc (by simp; try omega) _).alloc (by simp; try omega) _).alloc (by simp; try omega) _)).drew⟩
  case rest =>
    obtain ⟨rfl, Z, S, hb⟩ := hcut
    have cZ := Z.cell
    have cS : ∀ i, wc.cell? ⟨w.heap.size + 1 + 1, i, none⟩ = (#[.int .i64 p, .int .i64 (p + n)] : Array Value)[i]? := fun i => S.cell i
    go_wp2
    exact bodyPost_ret (v := .tuple #[.agg #[.string ob, .int .i64 fa, .int .i64 fb, .string ft, .bool fk, .string nt, .bool nk, .int .i64 1, .int .i64 (p + n), .int .i64 q], .agg #[.int .i64 p, .int .i64 (p + n)], .int .i64 0]) (by simp [results, Try.results21, go_sem, cZ, cS]) rfl ⟨rfl, hb⟩

end Go.Proofs.Ytdbocpgkedgpcaa
