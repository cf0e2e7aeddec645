/-
  A number is made the lesser one: the program's walk.
-/
import Derived.Test.YtlfldnogjndglaaDoorCpA
namespace Go.Proofs.YtlfldnogjndglaaDoor
open Go.RowKit
set_option linter.unusedVariables false
set_option linter.unusedSimpArgs false

/-- A number is put at an address. -/
def PutAt (b off : Nat) (v : Int) (w : World) (e : Ending) (w' : World) : Prop := e = .returned (.tuple #[]) ∧ (w' = w.setCell ⟨b, off, none⟩ (.int .i64 v) ∨ (w' = w ∧ w.cell? ⟨b, off, none⟩ = some (.int .i64 v)))
theorem numV_of (l : Bs) : numV l = if numQ l = true then numP l else -1 := by
  unfold numV numQ numP
  cases h : l.all digB <;> cases h2 : l.isEmpty <;> simp
theorem numP_bd (l : Bs) : 0 ≤ numP l ∧ numP l ≤ 1099511627776 := by
  unfold numP
  split
  · next h => exact numFold_bd l h 0 (by omega) (by omega)
  · omega

set_option maxRecDepth 100000 in
set_option maxHeartbeats 4000000 in
theorem clessen_any (b off : Nat) (t : Int) (s : ByteArray) (w : World) (hs : s.size ≤ 9223372036854775807) (hc : w.cell? ⟨b, off, none⟩ = some (.int .i64 t)) (hf : w.frozen? ⟨b, off, none⟩ = false) : Calls Tryd.prog 20 #[.pointer (some ⟨b, off, none⟩), .string s] w (PutAt b off (lessV t (numV s.data.toList)) w) := by
  have hnb := numP_bd s.data.toList
  have hnv := numV_of s.data.toList
  cases q : numQ s.data.toList
  · rw [q, if_neg (by simp)] at hnv
    have HQ := hide q
    have HV := hide (show lessV t (numV s.data.toList) = t by rw [hnv, lessV_none])
    clear hnv hnb q
    go_enter Tryd.func20, Tryd.ntmps20
    go_wp2_with fail
    refine (cnumber_any s _ hs).mono ?_
    rintro e w' ⟨rfl, rfl⟩
    rw [HQ.out]
    go_wp2
    go_end0
    exact ⟨rfl, .inr ⟨rfl, by rw [HV.out]; exact hc⟩⟩
  · rw [q, if_pos rfl] at hnv
    have HQ := hide q
    clear q
    obtain ⟨n, hn⟩ : ∃ n, n = numP s.data.toList := ⟨_, rfl⟩
    rw [← hn] at hnb hnv
    have HN := hide hn
    clear hn
    by_cases h1 : t < 0
    · have d1 : decide (t < 0) = true := decide_eq_true h1
      have HV := hide (show lessV t (numV s.data.toList) = n by rw [hnv]; unfold lessV; rw [if_neg (by omega)])
      clear hnv
      go_enter Tryd.func20, Tryd.ntmps20
      go_wp2_with fail
      refine (cnumber_any s _ hs).mono ?_
      rintro e w' ⟨rfl, rfl⟩
      rw [HQ.out, ← HN.out]
      go_wp2
      go_end0
      exact ⟨rfl, .inl (by rw [HV.out])⟩
    · have d1 : decide (t < 0) = false := decide_eq_false h1
      by_cases h2 : n < t
      · have d2 : decide (n < t) = true := decide_eq_true h2
        have HV := hide (show lessV t (numV s.data.toList) = n by rw [hnv]; unfold lessV; rw [if_neg (by omega)])
        clear hnv
        go_enter Tryd.func20, Tryd.ntmps20
        go_wp2_with fail
        refine (cnumber_any s _ hs).mono ?_
        rintro e w' ⟨rfl, rfl⟩
        rw [HQ.out, ← HN.out]
        go_wp2
        go_end0
        exact ⟨rfl, .inl (by rw [HV.out])⟩
      · have d2 : decide (n < t) = false := decide_eq_false h2
        have HV := hide (show lessV t (numV s.data.toList) = t by rw [hnv]; unfold lessV; split <;> omega)
        clear hnv
        go_enter Tryd.func20, Tryd.ntmps20
        go_wp2_with fail
        refine (cnumber_any s _ hs).mono ?_
        rintro e w' ⟨rfl, rfl⟩
        rw [HQ.out, ← HN.out]
        go_wp2
        go_end0
        exact ⟨rfl, .inr ⟨rfl, by rw [HV.out]; exact hc⟩⟩

end Go.Proofs.YtlfldnogjndglaaDoor
