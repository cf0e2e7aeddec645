/-
  Rows that are spoilt.
-/
import Derived.Test.YtmelcndflllgmaaGreatDoorFrwG
import Derived.Laws.OwnMore
namespace Go.Proofs.YtmelcndflllgmaaGreatDoor
open Go.RowKit
set_option linter.unusedVariables false
set_option linter.unusedSimpArgs false

theorem rd_back {w : World} {B : Nat} {v : Value} {ks : List ByteArray} (h : RdL LS w B v (ks.map (·.data.toList))) (hz : ∀ k ∈ ks, k.size ≤ 9223372036854775807) : RdStrs w B v ks := by
  have h2 := rd_strs h (fun x hx => by
    obtain ⟨k, hk, rfl⟩ := List.mem_map.1 hx
    rw [lsize]; exact hz k hk)
  rw [List.map_map] at h2
  rwa [show ks.map ((fun x : Bs => (⟨x.toArray⟩ : ByteArray)) ∘ (·.data.toList)) = ks from by
    conv => rhs; rw [← List.map_id ks]
    apply List.map_congr_left
    intro x _
    exact bytes_eta x] at h2
theorem row_form {w : World} {B : Nat} {e : TypeId} {size n : Nat} {v : Value} {xs : List Value} (h : w.ownsRow B e size v n xs) (hn : 0 < n) : ∃ g c, v = .slice (some ⟨g, 0, none⟩) n c := by
  rcases h.2 with ⟨_, h0⟩ | ⟨g, c, _, hv, _⟩
  · omega
  · exact ⟨g, c, hv⟩
theorem fields_uniq {mt : ByteArray} {mk : Bool} {md ln hv fr wh er : Int} {ks : List ByteArray} {tn : ByteArray} {kp : Bool} {age : Int} {dt dt2 : List UInt8} (h : md = -1 ∨ IsText md ⟨dt.toArray⟩) (g : md = -1 ∨ IsText md ⟨dt2.toArray⟩) :
    fieldsF mt mk md ln hv fr wh er ks tn kp age dt = fieldsF mt mk md ln hv fr wh er ks tn kp age dt2 := by
  by_cases hm : md = -1
  · have e : (md != -1) = false := by simpa using hm
    unfold fieldsF
    rw [e, flagF_no, flagF_no]
  · have e := (h.resolve_left hm).uniq (g.resolve_left hm)
    have e2 : dt = dt2 := by simpa using e
    rw [e2]
theorem slice_inj {A A' : Option Addr} {n n' c c' : Nat} (h : Value.slice A n c = .slice A' n' c') : A = A' ∧ c = c' := by cases h; exact ⟨rfl, rfl⟩

end Go.Proofs.YtmelcndflllgmaaGreatDoor
