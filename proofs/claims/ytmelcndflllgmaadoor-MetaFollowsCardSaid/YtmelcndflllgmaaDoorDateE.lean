/-
  Numbers in so many digits; the text of a tick.
-/
import Derived.Test.YtmelcndflllgmaaDoorDateD
import Derived.Test.YtmelcndflllgmaaDoorBytes
namespace Go.Proofs.YtmelcndflllgmaaDoor
open Go.RowKit DateM Go.Lib

set_option maxHeartbeats 400000 in
theorem power_1 (w : World) : Calls Tryd.prog 68 #[.int .i64 1] w fun e w' => e = .returned (.int .i64 10) ∧ w = w' := by
  go_enter Tryd.func68, Tryd.ntmps68
  go_wp2
  go_rounds 2
  go_ret
  exact ⟨rfl, rfl⟩
set_option maxHeartbeats 400000 in
theorem power_3 (w : World) : Calls Tryd.prog 68 #[.int .i64 3] w fun e w' => e = .returned (.int .i64 1000) ∧ w = w' := by
  go_enter Tryd.func68, Tryd.ntmps68
  go_wp2
  go_rounds 4
  go_ret
  exact ⟨rfl, rfl⟩

def dig (n : Int) : UInt8 := UInt8.ofNat (48 + n % 10).toNat
theorem dig_nat (n : Int) : ((dig n).toNat : Int) = 48 + n % 10 := by
  unfold dig
  have h1 := Int.emod_nonneg n (show (10 : Int) ≠ 0 by decide)
  have h2 := Int.emod_lt_of_pos n (show (0 : Int) < 10 by decide)
  rw [UInt8.toNat_ofNat']
  omega

set_option maxHeartbeats 1000000 in
theorem digits_2 (B : Nat) (v : Value) (bs : List UInt8) (n : Int) (w : World) (hn0 : 0 ≤ n) (hn1 : n ≤ 100000) (hown : OwnB B w v bs) (hB : B ≤ w.heap.size) (hl : bs.length ≤ 1000) :
    Calls Tryd.prog 48 #[v, .int .i64 n, .int .i64 2] w fun e w' => ∃ v', e = .returned v' ∧ OwnB B w' v' (bs ++ [dig (n / 10), dig n]) ∧ Below B w w' := by
  go_enter Tryd.func48, Tryd.ntmps48
  go_wp2_with (go_at_call 68; refine (power_1 _).mono ?_; rintro e w' ⟨rfl, rfl⟩)
  go_loopw [0, 7] (fun s u wr => ∃ k : Nat, k ≤ 2 ∧ u = .int .i64 (if k = 0 then 10 else if k = 1 then 1 else 0) ∧ OwnB B wr s (bs ++ [dig (n / 10), dig n].take k) ∧ Below B w wr) (fun _ u _ => (intOf u).toNat)
  case atStart => exact ⟨0, by omega, rfl, by simpa using hown, Below.refl _ _⟩
  case round =>
    obtain ⟨k, hk, rfl, ho, hb⟩ := hrel
    have hz := hb.size
    obtain rfl | rfl | rfl : k = 0 ∨ k = 1 ∨ k = 2 := by omega
    · simp only [List.take_zero, List.append_nil] at ho
      have hd := hide (dig_nat (n / 10))
      go_wp2_with (at_builtin; refine wpList_app1 w rfl (.tmp 15) (.tmp 22) rfl B _ bs rfl (ho.alloc _) (hb.alloc ?_ _) ?_ ⟨wr.heap.size, 0, none⟩ 1 (dig (n / 10)) rfl ?_ ?_ ?_)
      · omega
      · simp; omega
      · rw [hd.out]; go_simp
      · simp; omega
      · intro v1 w1 ho1 hb1 _
        go_wp2
        go_roundw
        case rel => exact ⟨1, by omega, rfl, by simpa using ho1, hb1⟩
        case measure => simp [intOf]
    · have hd := hide (dig_nat n)
      go_wp2_with (at_builtin; refine wpList_app1 w rfl (.tmp 15) (.tmp 22) rfl B _ (bs ++ [dig (n / 10), dig n].take 1) rfl (ho.alloc _) (hb.alloc ?_ _) ?_ ⟨wr.heap.size, 0, none⟩ 1 (dig n) rfl ?_ ?_ ?_)
      · omega
      · simp; omega
      · rw [hd.out]; go_simp
      · simp; omega
      · intro v1 w1 ho1 hb1 _
        go_wp2
        go_roundw
        case rel => exact ⟨2, by omega, rfl, by simpa using ho1, hb1⟩
        case measure => simp [intOf]
    · go_wp2
      go_ret
      exact ⟨_, rfl, by simpa using ho, hb⟩

set_option maxHeartbeats 1000000 in
theorem digits_4 (B : Nat) (v : Value) (bs : List UInt8) (n : Int) (w : World) (hn0 : 0 ≤ n) (hn1 : n ≤ 100000) (hown : OwnB B w v bs) (hB : B ≤ w.heap.size) (hl : bs.length ≤ 1000) :
    Calls Tryd.prog 48 #[v, .int .i64 n, .int .i64 4] w fun e w' => ∃ v', e = .returned v' ∧ OwnB B w' v' (bs ++ [dig (n / 1000), dig (n / 100), dig (n / 10), dig n]) ∧ Below B w w' := by
  go_enter Tryd.func48, Tryd.ntmps48
  go_wp2_with (go_at_call 68; refine (power_3 _).mono ?_; rintro e w' ⟨rfl, rfl⟩)
  go_loopw [0, 7] (fun s u wr => ∃ k : Nat, k ≤ 4 ∧ u = .int .i64 (if k = 0 then 1000 else if k = 1 then 100 else if k = 2 then 10 else if k = 3 then 1 else 0) ∧ OwnB B wr s (bs ++ [dig (n / 1000), dig (n / 100), dig (n / 10), dig n].take k) ∧ Below B w wr) (fun _ u _ => (intOf u).toNat)
  case atStart => exact ⟨0, by omega, rfl, by simpa using hown, Below.refl _ _⟩
  case round =>
    obtain ⟨k, hk, rfl, ho, hb⟩ := hrel
    have hz := hb.size
    obtain rfl | rfl | rfl | rfl | rfl : k = 0 ∨ k = 1 ∨ k = 2 ∨ k = 3 ∨ k = 4 := by omega
    · simp only [List.take_zero, List.append_nil] at ho
      have hd := hide (dig_nat (n / 1000))
      go_wp2_with (at_builtin; refine wpList_app1 w rfl (.tmp 15) (.tmp 22) rfl B _ bs rfl (ho.alloc _) (hb.alloc ?_ _) ?_ ⟨wr.heap.size, 0, none⟩ 1 (dig (n / 1000)) rfl ?_ ?_ ?_)
      · omega
      · simp; omega
      · rw [hd.out]; go_simp
      · simp; omega
      · intro v1 w1 ho1 hb1 _
        go_wp2
        go_roundw
        case rel => exact ⟨1, by omega, rfl, by simpa using ho1, hb1⟩
        case measure => simp [intOf]
    · have hd := hide (dig_nat (n / 100))
      go_wp2_with (at_builtin; refine wpList_app1 w rfl (.tmp 15) (.tmp 22) rfl B _ (bs ++ [dig (n / 1000), dig (n / 100), dig (n / 10), dig n].take 1) rfl (ho.alloc _) (hb.alloc ?_ _) ?_ ⟨wr.heap.size, 0, none⟩ 1 (dig (n / 100)) rfl ?_ ?_ ?_)
      · omega
      · simp; omega
      · rw [hd.out]; go_simp
      · simp; omega
      · intro v1 w1 ho1 hb1 _
        go_wp2
        go_roundw
        case rel => exact ⟨2, by omega, rfl, by simpa using ho1, hb1⟩
        case measure => simp [intOf]
    · have hd := hide (dig_nat (n / 10))
      go_wp2_with (at_builtin; refine wpList_app1 w rfl (.tmp 15) (.tmp 22) rfl B _ (bs ++ [dig (n / 1000), dig (n / 100), dig (n / 10), dig n].take 2) rfl (ho.alloc _) (hb.alloc ?_ _) ?_ ⟨wr.heap.size, 0, none⟩ 1 (dig (n / 10)) rfl ?_ ?_ ?_)
      · omega
      · simp; omega
      · rw [hd.out]; go_simp
      · simp; omega
      · intro v1 w1 ho1 hb1 _
        go_wp2
        go_roundw
        case rel => exact ⟨3, by omega, rfl, by simpa using ho1, hb1⟩
        case measure => simp [intOf]
    · have hd := hide (dig_nat n)
      go_wp2_with (at_builtin; refine wpList_app1 w rfl (.tmp 15) (.tmp 22) rfl B _ (bs ++ [dig (n / 1000), dig (n / 100), dig (n / 10), dig n].take 3) rfl (ho.alloc _) (hb.alloc ?_ _) ?_ ⟨wr.heap.size, 0, none⟩ 1 (dig n) rfl ?_ ?_ ?_)
      · omega
      · simp; omega
      · rw [hd.out]; go_simp
      · simp; omega
      · intro v1 w1 ho1 hb1 _
        go_wp2
        go_roundw
        case rel => exact ⟨4, by omega, rfl, by simpa using ho1, hb1⟩
        case measure => simp [intOf]
    · go_wp2
      go_ret
      exact ⟨_, rfl, by simpa using ho, hb⟩
end Go.Proofs.YtmelcndflllgmaaDoor
