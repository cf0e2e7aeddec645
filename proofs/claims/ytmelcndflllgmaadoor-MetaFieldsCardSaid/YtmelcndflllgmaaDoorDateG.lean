/-
  The text of a tick: the reference's.
-/
import Derived.Test.YtmelcndflllgmaaDoorDateF
import Derived.Test.YtmelcndflllgmaaDoorQuiet
namespace Go.Proofs.YtmelcndflllgmaaDoor
open Go.RowKit DateM Go.Lib

set_option maxHeartbeats 400000 in
theorem weeks_any (w : World) : Calls Tryd.prog 56 #[] w fun e w' => e = .returned (.string weekNames) ∧ w = w' := by
  go_enter Tryd.func56, Tryd.ntmps56
  go_wp2
  go_ret
  exact ⟨rfl, rfl⟩
set_option maxHeartbeats 400000 in
theorem months_any (w : World) : Calls Tryd.prog 58 #[] w fun e w' => e = .returned (.string yearNames) ∧ w = w' := by
  go_enter Tryd.func58, Tryd.ntmps58
  go_wp2
  go_ret
  exact ⟨rfl, rfl⟩

def twoL (n : Int) : List UInt8 := [dig (n / 10), dig n]
def twoB (n : Int) : ByteArray := ⟨(twoL n).toArray⟩

set_option maxHeartbeats 400000 in
theorem two_any (n : Int) (w : World) (h0 : 0 ≤ n) (h1 : n ≤ 100000) : Calls Tryd.prog 57 #[.int .i64 n] w fun e w' => e = .returned (.string (twoB n)) ∧ Below w.heap.size w w' := by
  have hcv : (convert 66 9 (.slice (some ⟨w.heap.size, 0, none⟩) 2 2)).run Tryd.prog (w.alloc (.cells #[.int .u8 (48 + n / 10 % 10), .int .u8 (48 + n % 10)] 5)) = .ok (.string (twoB n)) (w.alloc (.cells #[.int .u8 (48 + n / 10 % 10), .int .u8 (48 + n % 10)] 5)) := by
    refine run_convert_bytes_back _ _ _ _ _ 2 (twoL n) Tryd.underlying66 Tryd.underlying5 Tryd.underlying9 ?_
    intro j hj
    simp only [twoL, List.length_cons, List.length_nil] at hj
    obtain rfl | rfl : j = 0 ∨ j = 1 := by omega
    · simp [twoL, dig_nat, go_sem, Addr.add]
    · simp [twoL, dig_nat, go_sem, Addr.add]
  go_enter Tryd.func57, Tryd.ntmps57
  go_wp2
  go_ret
  exact ⟨rfl, (Below.refl _ _).alloc (Nat.le_refl _) _⟩

set_option maxRecDepth 100000 in
set_option maxHeartbeats 4000000 in
theorem rtext_yes (t : Int) (w : World) (h1 : 0 ≤ t) (h2 : t ≤ 253402300799) :
    Calls Tryd.prog 37 #[.int .i64 t] w (TextOk t w) := by
  go_enter Tryd.func37, Tryd.ntmps37
  go_wp2_with fail
  refine (rof_yes _ _ h1 h2).mono ?_
  rintro e w1 ⟨y, m, d, k, s, ht, rfl, hb1⟩
  obtain ⟨hy1, hy2, hm1, hm2, hd1, hd2, hk1, hk2, hs1, hs2⟩ := ht.bd
  have HT := hide ht
  clear ht
  go_wp2_with fail
  obtain ⟨W, hW⟩ : ∃ W : World, W = w1.alloc (.cells #[.int .i64 y, .int .i64 m, .int .i64 d, .int .i64 k] 79) := ⟨_, rfl⟩
  rw [← hW]
  have hz : W.heap.size = w1.heap.size + 1 := by rw [hW]; simp
  have hbW : Below w.heap.size w W := by rw [hW]; exact hb1.trans ((Below.refl _ _).alloc hb1.size _)
  have e0 : ∀ x : Bel W.heap.size W, x.w.cell? ⟨w1.heap.size, 0, none⟩ = some (.int .i64 y) := fun x => x.cell (by rw [hW]; simp [go_sem]) (by omega)
  have e1 : ∀ x : Bel W.heap.size W, x.w.cell? ⟨w1.heap.size, 1, none⟩ = some (.int .i64 m) := fun x => x.cell (by rw [hW]; simp [go_sem]) (by omega)
  have e2 : ∀ x : Bel W.heap.size W, x.w.cell? ⟨w1.heap.size, 2, none⟩ = some (.int .i64 d) := fun x => x.cell (by rw [hW]; simp [go_sem]) (by omega)
  have e3 : ∀ x : Bel W.heap.size W, x.w.cell? ⟨w1.heap.size, 3, none⟩ = some (.int .i64 k) := fun x => x.cell (by rw [hW]; simp [go_sem]) (by omega)
  have HZ := hide hz
  have HW := hide hW
  clear hz hW
  have s1 : ∀ X : World, (Instr.slice 9 (.string weekNames) (some (.int .i64 (3 * k))) (some (.int .i64 (3 * k + 3))) none).run Tryd.prog X = .ok (.string (weekName k)) X := fun X => by
    have h : weekNames.size = 21 := rfl
    rw [run_slice_string_if X _ _ _ _ _ _ Tryd.underlying9, if_pos (by omega), if_pos (by omega)]; rfl
  have s2 : ∀ X : World, (Instr.slice 9 (.string yearNames) (some (.int .i64 (3 * m - 3))) (some (.int .i64 (3 * m))) none).run Tryd.prog X = .ok (.string (yearName m)) X := fun X => by
    have h : yearNames.size = 36 := rfl
    rw [run_slice_string_if X _ _ _ _ _ _ Tryd.underlying9, if_pos (by omega), if_pos (by omega)]; rfl
  obtain ⟨S1, q1, z1, f1⟩ := add_named (weekName k) ⟨#[44, 32]⟩ 3 2 (by rw [weekName_size k hk1 hk2]; omega) (by decide) (by omega)
  obtain ⟨S2, q2, z2, f2⟩ := add_named (S1) (twoB d) 5 2 z1.out (Nat.le_refl _) (by omega)
  obtain ⟨S3, q3, z3, f3⟩ := add_named (S2) ⟨#[32]⟩ 7 1 z2.out (by decide) (by omega)
  obtain ⟨S4, q4, z4, f4⟩ := add_named (S3) (yearName m) 8 3 z3.out (by rw [yearName_size m hm1 hm2]; omega) (by omega)
  obtain ⟨S5, q5, z5, f5⟩ := add_named (S4) ⟨#[32]⟩ 11 1 z4.out (by decide) (by omega)
  obtain ⟨S6, q6, z6, f6⟩ := add_named (S5) (twoB (y / 100)) 12 2 z5.out (Nat.le_refl _) (by omega)
  obtain ⟨S7, q7, z7, f7⟩ := add_named (S6) (twoB (y % 100)) 14 2 z6.out (Nat.le_refl _) (by omega)
  obtain ⟨S8, q8, z8, f8⟩ := add_named (S7) ⟨#[32]⟩ 16 1 z7.out (by decide) (by omega)
  obtain ⟨S9, q9, z9, f9⟩ := add_named (S8) (twoB (s / 3600)) 17 2 z8.out (Nat.le_refl _) (by omega)
  obtain ⟨S10, q10, z10, f10⟩ := add_named (S9) ⟨#[58]⟩ 19 1 z9.out (by decide) (by omega)
  obtain ⟨S11, q11, z11, f11⟩ := add_named (S10) (twoB (s / 60 % 60)) 20 2 z10.out (Nat.le_refl _) (by omega)
  obtain ⟨S12, q12, z12, f12⟩ := add_named (S11) ⟨#[58]⟩ 22 1 z11.out (by decide) (by omega)
  obtain ⟨S13, q13, z13, f13⟩ := add_named (S12) (twoB (s % 60)) 23 2 z12.out (Nat.le_refl _) (by omega)
  obtain ⟨S14, q14, z14, f14⟩ := add_named (S13) ⟨#[32, 71, 77, 84]⟩ 25 4 z13.out (by decide) (by omega)
  refine wp_region_bel W.heap.size (by kernel_rfl) (by kernel_rfl) ?_
  repeat (go_big_quiet_step ((first | (go_at_call 56; exact bel_same (weeks_any _)) | (go_at_call 58; exact bel_same (months_any _)) | (go_at_call 57; exact bel_call (Nat.le_refl _) (two_any _ _ (by omega) (by omega))))))
  refine wpQuiet_nil ?_
  rintro _ ⟨⟨w5, hb5⟩, rfl⟩
  go_wp2_with fail
  refine (two_any _ _ (by omega) (by omega)).mono ?_
  rintro e w6 ⟨rfl, hb6⟩
  go_wp2_with fail
  refine (two_any _ _ (by omega) (by omega)).mono ?_
  rintro e w7 ⟨rfl, hb7⟩
  go_wp2_with fail
  refine (two_any _ _ (by omega) (by omega)).mono ?_
  rintro e w8 ⟨rfl, hb8⟩
  go_wp2_with fail
  go_ret2
  have E : S14 = ⟨(textL y m d k s).toArray⟩ := by
    apply ByteArray.ext
    apply Array.toList_inj.1
    rw [q14.out, q13.out, q12.out, q11.out, q10.out, q9.out, q8.out, q7.out, q6.out, q5.out, q4.out, q3.out, q2.out, q1.out]
    have e1 : y / 100 / 10 = y / 1000 := by omega
    have e2 : dig (y % 100 / 10) = dig (y / 10) := by unfold dig; congr 2; omega
    have e3 : dig (y % 100) = dig y := by unfold dig; congr 2; omega
    simp [textL, twoB, twoL, e1, e2, e3]
  refine ⟨y, m, d, k, s, HT.out, ?_, ?_⟩
  · exact ret_str2 E rfl
  · have z5 := hb5.size
    have z6 := hb6.size
    have z7 := hb7.size
    have zW := hbW.size
    exact (((hbW.trans (hb5.mono (by omega))).trans (hb6.mono (by omega))).trans (hb7.mono (by omega))).trans (hb8.mono (by omega))
end Go.Proofs.YtmelcndflllgmaaDoor
