/-
  A text's small letters: the program's walk.
-/
import Derived.Test.YtlfldnogjndglaaDoorCpB
import Derived.Test.YtlfldnogjndglaaDoorByM
import Derived.Deep.DeepCutAuto
namespace Go.Proofs.YtlfldnogjndglaaDoor
open Go.RowKit
set_option linter.unusedVariables false
set_option linter.unusedSimpArgs false

/-- The bytes of a text that are made small from its first to its k-th, in block g. -/
def LowTo (s : ByteArray) (g k : Nat) (w : World) : Prop := ∀ j (h : j < s.size), w.cell? ⟨g, j, none⟩ = some (.int .u8 (((if j < k then lowB s[j] else s[j]).toNat : Nat) : Int)) ∧ w.frozen? ⟨g, j, none⟩ = false
theorem lowB_up {b : UInt8} (h1 : 65 ≤ (b.toNat : Int)) (h2 : (b.toNat : Int) ≤ 90) : ((lowB b).toNat : Int) = (b.toNat : Int) + 32 := by
  unfold lowB
  rw [if_pos ⟨by omega, by omega⟩, UInt8.toNat_add]
  have : (32 : UInt8).toNat = 32 := rfl
  rw [this]; omega
theorem lowB_no {b : UInt8} (h : ¬ (65 ≤ (b.toNat : Int) ∧ (b.toNat : Int) ≤ 90)) : lowB b = b := by unfold lowB; rw [if_neg (by omega)]
theorem LowTo.keep {s : ByteArray} {g k : Nat} {w : World} (h : LowTo s g k w) (hk : k < s.size) (he : lowB s[k] = s[k]) : LowTo s g (k + 1) w := fun j hj => by
  obtain ⟨a, b⟩ := h j hj
  refine ⟨?_, b⟩
  rw [a]
  by_cases h1 : j < k
  · rw [if_pos h1, if_pos (by omega)]
  · by_cases h2 : j = k
    · subst h2; rw [if_neg h1, if_pos (by omega), he]
    · rw [if_neg h1, if_neg (by omega)]
theorem LowTo.step {s : ByteArray} {g k : Nat} {w : World} (h : LowTo s g k w) (hk : k < s.size) {v : Int} (hv : v = ((lowB s[k]).toNat : Int)) : LowTo s g (k + 1) (w.setCell ⟨g, k, none⟩ (.int .u8 v)) := fun j hj => by
  obtain ⟨a, b⟩ := h j hj
  refine ⟨?_, by rw [World.frozen?_setCell]; exact b⟩
  by_cases h2 : j = k
  · subst h2
    rw [World.cell?_setCell_same _ _ _ a, if_pos (by omega), hv]
  · rw [World.cell?_setCell_other _ _ _ _ (by simp [h2]), a]
    by_cases h1 : j < k
    · rw [if_pos h1, if_pos (by omega)]
    · rw [if_neg h1, if_neg (by omega)]

def StrGot (l : Bs) (w : World) (e : Ending) (w' : World) : Prop := e = .returned (.string ⟨l.toArray⟩) ∧ Below w.heap.size w w'
theorem low_back {s : ByteArray} {g K : Nat} {w : World} (h : LowTo s g s.size w) : (convert 61 9 (.slice (some ⟨g, 0, none⟩) s.size K)).run Tryd.prog w = .ok (.string ⟨(s.data.toList.map lowB).toArray⟩) w := by
  have hl : (s.data.toList.map lowB).length = s.size := by rw [List.length_map, lsize]
  have := run_convert_bytes_back (P := Tryd.prog) w 61 9 5 ⟨g, 0, none⟩ K (s.data.toList.map lowB) Tryd.underlying61 Tryd.underlying5 Tryd.underlying9 (fun j hj => by
    rw [hl] at hj
    have := (h j hj).1
    rw [if_pos hj] at this
    rw [Addr.add_lit, Nat.zero_add, this, List.getElem_map]
    rfl)
  rw [hl] at this
  exact this

set_option maxRecDepth 100000 in
set_option maxHeartbeats 4000000 in
theorem csmall_any (s : ByteArray) (w : World) (hs : s.size ≤ 1000000) : Calls Tryd.prog 19 #[.string s] w (StrGot (s.data.toList.map lowB) w) := by
  have hcv := fun W => run_bytes_of_string (P := Tryd.prog) W 9 61 5 s Tryd.underlying9 Tryd.underlying61 Tryd.underlying5
  go_enter Tryd.func19, Tryd.ntmps19
  go_upto_region 2 with fail
  obtain ⟨K, hK⟩ : ∃ k, grownCap w s.size 0 5 = k := ⟨_, rfl⟩
  have hK1 : s.size ≤ K := by rw [← hK]; exact grownCap_ge _ _ _ _
  have hK2 : K ≤ maxLen := by rw [← hK]; exact grownCap_le_maxLen _ _ _ _ (by simp only [maxLen]; omega)
  rw [hK]
  clear hK hcv
  obtain ⟨w1, hw1⟩ : ∃ w1 : World, w1 = (w.alloc (.cells (bytesRow s K) 5 ((bytesRow s K).size, (bytesRow s K).size + 1))).drew := ⟨_, rfl⟩
  rw [← hw1]
  have hb1 : Below w.heap.size w w1 := by rw [hw1]; exact ((Below.refl _ _).alloc (Nat.le_refl _) _).drew
  have ho1 : OwnM w.heap.size w1 (.slice (some ⟨w.heap.size, 0, none⟩) s.size K) s.data.toList := by rw [hw1]; exact OwnM.string w s hs K hK1 (by simp only [maxLen] at hK2; omega) w.drew rfl
  have HL0 : Hid (LowTo s w.heap.size 0 w1) := by
    obtain ⟨g, cap, hv, _, _, h3, _, hc, hf⟩ := ho1
    simp only [Value.slice.injEq, Option.some.injEq, Addr.mk.injEq, and_true] at hv
    obtain ⟨rfl, _, rfl⟩ := hv
    intro j hj
    refine ⟨?_, (hf j (by omega)).2⟩
    rw [if_neg (by omega)]
    exact hc j (by rw [lsize]; exact hj)
  obtain ⟨g, hg⟩ : ∃ g, g = w.heap.size := ⟨_, rfl⟩
  have hgw : w.heap.size ≤ g := by omega
  rw [← hg] at HL0 ⊢
  clear hw1 ho1 hg
  go_wp2
  go_loopw [4, 5, 10] (fun i c x wr => ∃ k : Nat, k ≤ s.size ∧ x = .int .i64 k ∧ Hid (LowTo s g k wr) ∧ Below w.heap.size w wr) (fun _ _ x _ => s.size - (intOf x).toNat)
  case atStart => exact ⟨0, Nat.zero_le _, rfl, HL0, hb1⟩
  case round =>
    obtain ⟨k, hk, rfl, HL, hb⟩ := hrel
    by_cases hlt : k < s.size
    · have hcell : wr.cell? ⟨g, k, none⟩ = some (.int .u8 (s[k].toNat : Int)) := by
        have := (HL.out k hlt).1
        rwa [if_neg (by omega)] at this
      have hfr := (HL.out k hlt).2
      by_cases h1 : 65 ≤ (s[k].toNat : Int)
      · have d1 : decide ((s[k].toNat : Int) ≥ 65) = true := decide_eq_true h1
        by_cases h2 : (s[k].toNat : Int) ≤ 90
        · have d2 : decide ((s[k].toNat : Int) ≤ 90) = true := decide_eq_true h2
          have HU := hide (lowB_up h1 h2)
          go_wp2
          go_roundw
          case rel => exact ⟨k + 1, by omega, by go_num, LowTo.step HL.out hlt (by rw [HU.out]; omega), below_set hb hgw _⟩
          case measure => simp [intOf]; omega
        · have d2 : decide ((s[k].toNat : Int) ≤ 90) = false := decide_eq_false h2
          have HS := hide (LowTo.keep HL.out hlt (lowB_no (by omega)))
          go_wp2
          go_roundw
          case rel => exact ⟨k + 1, by omega, by go_num, HS, hb⟩
          case measure => simp [intOf]; omega
      · have d1 : decide ((s[k].toNat : Int) ≥ 65) = false := decide_eq_false h1
        have HS := hide (LowTo.keep HL.out hlt (lowB_no (by omega)))
        go_wp2
        go_roundw
        case rel => exact ⟨k + 1, by omega, by go_num, HS, hb⟩
        case measure => simp [intOf]; omega
    · obtain rfl : k = s.size := by omega
      have hbk := low_back (K := K) HL.out
      go_wp2
      go_ret
      exact ⟨rfl, hb⟩

end Go.Proofs.YtlfldnogjndglaaDoor
