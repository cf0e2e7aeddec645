/-
  The examples of the calendar's statements hold.
-/
import Derived.Test.YtfbefjpajmigmaaDateJ
namespace Go.Proofs.Ytfbefjpajmigmaa
open Go.RowKit DateM Go.Lib

def TrueOk (w : World) (e : Ending) (w' : World) : Prop := e = .returned (.bool true) ∧ Below w.heap.size w w'

theorem ex1 : IsText 784111777 ⟨#[83, 117, 110, 44, 32, 48, 54, 32, 78, 111, 118, 32, 49, 57, 57, 52, 32, 48, 56, 58, 52, 57, 58, 51, 55, 32, 71, 77, 84]⟩ :=
  ⟨1994, 11, 6, 0, 31777, ⟨by unfold IsDay; decide, by decide, by decide⟩, by decide +kernel⟩
theorem ex2 : IsText 951782400 ⟨#[84, 117, 101, 44, 32, 50, 57, 32, 70, 101, 98, 32, 50, 48, 48, 48, 32, 48, 48, 58, 48, 48, 58, 48, 48, 32, 71, 77, 84]⟩ :=
  ⟨2000, 2, 29, 2, 0, ⟨by unfold IsDay; decide, by decide, by decide⟩, by decide +kernel⟩

set_option maxRecDepth 100000 in
set_option maxHeartbeats 1000000 in
theorem wakes_any (w : World) : Calls Try.prog 20 #[] w (TrueOk w) := by
  have hl : leapB 1900 = false := by decide
  go_enter Try.func20, Try.ntmps20
  go_wp2_with fail
  refine (text_yes _ _ (by decide) (by decide)).mono ?_
  rintro e w1 ⟨y, m, d, k, s, ht, rfl, hb1⟩
  have e1 : (⟨(textL y m d k s).toArray⟩ : ByteArray) = ⟨#[83, 117, 110, 44, 32, 48, 54, 32, 78, 111, 118, 32, 49, 57, 57, 52, 32, 48, 56, 58, 52, 57, 58, 51, 55, 32, 71, 77, 84]⟩ :=
    IsText.uniq ⟨y, m, d, k, s, ht, rfl⟩ ex1
  clear ht
  rw [e1]
  clear e1
  go_wp2_with fail
  refine (parse_any _ _ (by decide)).mono ?_
  rintro e w2 (⟨t, ht1, ht2, ht3, rfl, hb2⟩ | ⟨hn, _, _⟩)
  · obtain rfl : t = 951782400 := ht3.inj ex2
    clear ht1 ht2 ht3
    go_wp2_with (go_at_call 30; refine (leap_any _ _).mono ?_; rintro e w' ⟨rfl, rfl⟩)
    go_ret
    exact ⟨rfl, hb1.trans (hb2.mono hb1.size)⟩
  · exact absurd ex2 (hn _)
end Go.Proofs.Ytfbefjpajmigmaa
