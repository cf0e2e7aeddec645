/-
  Chunks: the reference's digits and chunks.
-/
import Derived.Test.YtiigkacmahecaaaDoorChkH
import Derived.Test.YtiigkacmahecaaaDoorGrCp
namespace Go.Proofs.YtiigkacmahecaaaDoor
open Go.RowKit Go.Lib
set_option linter.unusedVariables false
set_option linter.unusedSimpArgs false

def D16 : ByteArray := ⟨#[48, 49, 50, 51, 52, 53, 54, 55, 56, 57, 97, 98, 99, 100, 101, 102]⟩
set_option maxRecDepth 100000 in
theorem cut16 (d : Nat) (h : d < 16) (W : World) : (Instr.sliceAt 9 (.string D16) (some (.int .i64 (d : Int))) (some (.int .i64 ((d : Int) + 1))) none).run Tryd.prog W = .ok (.string ⟨#[hexC d]⟩) W := by
  have h : d = 0 ∨ d = 1 ∨ d = 2 ∨ d = 3 ∨ d = 4 ∨ d = 5 ∨ d = 6 ∨ d = 7 ∨ d = 8 ∨ d = 9 ∨ d = 10 ∨ d = 11 ∨ d = 12 ∨ d = 13 ∨ d = 14 ∨ d = 15 := by omega
  rcases h with rfl | rfl | rfl | rfl | rfl | rfl | rfl | rfl | rfl | rfl | rfl | rfl | rfl | rfl | rfl | rfl <;> rfl
theorem hex_add (n : Nat) (h : ¬ n < 16) (hl : (hexB (n / 16)).length ≤ 1000) (X : World) : (Op.stringOp .add ⟨(hexB (n / 16)).toArray⟩ ⟨#[hexC (n % 16)]⟩).run Tryd.prog X = .ok (.string ⟨(hexB n).toArray⟩) X := by
  rw [run_string_add_sum X _ _ (by simp [ByteArray.size]; omega)]
  congr 2
  rw [hexB_high h]
  apply ByteArray.ext
  simp [ByteArray.data_append]

set_option maxRecDepth 100000 in
set_option maxHeartbeats 2000000 in
theorem digits_any : ∀ (k n : Nat) (w : World), n < 16 ^ (k + 1) → k ≤ 11 → Calls Tryd.prog 52 #[.int .i64 (n : Int)] w fun e w' => e = .returned (.string ⟨(hexB n).toArray⟩) ∧ w = w' := by
  intro k
  induction k with
  | zero =>
    intro n w hn hk
    by_cases h16 : n < 16
    · have hc := fun W => cut16 n h16 W
      have hx := hide (hexB_low h16)
      have hmod : (n : Int) % 16 = (n : Int) := by omega
      unfold D16 at hc
      obtain ⟨c, hcc⟩ : ∃ c, hexC n = c := ⟨_, rfl⟩
      rw [hcc] at hc hx
      clear hcc
      go_enter Tryd.func52, Tryd.ntmps52
      go_wp2_with fail
      go_ret
      exact ⟨by rw [hx.out]; rfl, rfl⟩
    · exfalso; simp at hn; omega
  | succ k ih =>
    intro n w hn hk
    by_cases h16 : n < 16
    · have hc := fun W => cut16 n h16 W
      have hx := hide (hexB_low h16)
      have hmod : (n : Int) % 16 = (n : Int) := by omega
      unfold D16 at hc
      obtain ⟨c, hcc⟩ : ∃ c, hexC n = c := ⟨_, rfl⟩
      rw [hcc] at hc hx
      clear hcc
      go_enter Tryd.func52, Tryd.ntmps52
      go_wp2_with fail
      go_ret
      exact ⟨by rw [hx.out]; rfl, rfl⟩
    · have hc := fun W => cut16 (n % 16) (by omega) W
      have hq' : n / 16 < 16 ^ (k + 1) := by rw [Nat.pow_succ] at hn; omega
      have hll := hexB_len k (n / 16) hq'
      have ha := fun X => hex_add n h16 (by omega) X
      have hz : decide ((n : Int) < 16) = false := by simpa using (show ¬ (n : Int) < 16 by omega)
      have hmod : (n : Int) % 16 = ((n % 16 : Nat) : Int) := by omega
      have hdiv : (n : Int) / 16 = ((n / 16 : Nat) : Int) := by omega
      have hn9 : (n : Int) ≤ 281474976710656 := by have h1 : 16 ^ (k + 1 + 1) ≤ 16 ^ 12 := Nat.pow_le_pow_right (by omega) (by omega); omega
      obtain ⟨d, hd⟩ : ∃ d, n % 16 = d := ⟨_, rfl⟩
      have hd16 : (d : Int) < 16 := by omega
      obtain ⟨q, hq⟩ : ∃ q, n / 16 = q := ⟨_, rfl⟩
      rw [hd] at hc ha hmod
      rw [hq] at ha hdiv hq'
      unfold D16 at hc
      obtain ⟨c, hcc⟩ : ∃ c, hexC d = c := ⟨_, rfl⟩
      rw [hcc] at hc ha
      obtain ⟨sq, hsq⟩ : ∃ sq : ByteArray, ⟨(hexB q).toArray⟩ = sq := ⟨_, rfl⟩
      have HI := hide (fun W => ih q W hq' (by omega))
      rw [hsq] at HI ha
      clear hcc hd hq hll h16 ih hn hq' hsq
      go_enter Tryd.func52, Tryd.ntmps52
      go_wp2_with fail
      refine (HI.out _).mono ?_
      rintro e w' ⟨rfl, rfl⟩
      go_wp2_with fail
      go_ret
      exact ⟨rfl, rfl⟩

set_option maxRecDepth 100000 in
set_option maxHeartbeats 4000000 in
theorem rput_chunk (v : Value) (bs : List UInt8) (w : World) (hr : Byt w w.heap.size v bs) (hl : bs.length ≤ 10000) : Calls Tryd.prog 40 #[v] w (BytNew (putL bs) w) := by
  obtain ⟨A, c, rfl, hc0, hc1⟩ := hr.form
  have R := hide hr
  clear hr
  by_cases h0 : bs.length = 0
  · obtain rfl : bs = [] := List.eq_nil_of_length_eq_zero h0
    go_enter Tryd.func40, Tryd.ntmps40
    go_wp2_with fail
    go_ret
    exact ⟨_, rfl, Byt.nil _ _, Below.refl _ _⟩
  · have hne : bs ≠ [] := fun e => h0 (by rw [e]; rfl)
    have hx := hide (show putL bs = hexB bs.length ++ ([13, 10] ++ (bs ++ [13, 10])) by unfold putL; rw [if_neg hne])
    have hz : ((bs.length : Int) == 0) = false := beqF (by omega)
    have hhl := hexB_len 11 bs.length (by omega)
    have HD := hide (fun W => digits_any 11 bs.length W (by omega) (by omega))
    obtain ⟨sq, hsq⟩ : ∃ sq : ByteArray, ⟨(hexB bs.length).toArray⟩ = sq := ⟨_, rfl⟩
    rw [hsq] at HD
    have ha := fun X => run_string_add_sum (P := Tryd.prog) X sq ⟨#[13, 10]⟩ (by rw [← hsq]; simp [ByteArray.size]; omega)
    obtain ⟨sr, hsr⟩ : ∃ sr : ByteArray, sq ++ ⟨#[13, 10]⟩ = sr := ⟨_, rfl⟩
    rw [hsr] at ha
    have hsrl := hide (show sr.data.toList = hexB bs.length ++ [13, 10] by rw [← hsr, ← hsq]; simp [ByteArray.data_append])
    clear hne h0 hsq hsr
    go_enter Tryd.func40, Tryd.ntmps40
    go_wp2_with fail
    refine (HD.out _).mono ?_
    rintro e w' ⟨rfl, rfl⟩
    have hcv := fun W => run_bytes_of_string (P := Tryd.prog) W 9 43 5 sr Tryd.underlying9 Tryd.underlying43 Tryd.underlying5
    have hsl : sr.size = sr.data.toList.length := by rw [Array.length_toList]; rfl
    have hsl2 : sr.size ≤ 1000000 := by rw [hsl, hsrl.out]; simp; omega
    have HSL := hide hsl
    clear hsl
    go_upto_region 4 with fail
    obtain ⟨K, hK⟩ : ∃ k, grownCap w sr.size 0 5 = k := ⟨_, rfl⟩
    have hK1 : sr.size ≤ K := by rw [← hK]; exact grownCap_ge _ _ _ _
    have hK2 : K ≤ maxLen := by rw [← hK]; exact grownCap_le_maxLen _ _ _ _ (by simp only [maxLen]; omega)
    rw [hK]
    clear hK hcv ha
    obtain ⟨w1, hw1⟩ : ∃ w1 : World, w1 = (w.alloc (.cells (bytesRow sr K) 5 ((bytesRow sr K).size, (bytesRow sr K).size + 1))).drew := ⟨_, rfl⟩
    rw [← hw1]
    have hb1 : Below w.heap.size w w1 := by rw [hw1]; exact ((Below.refl _ _).alloc (Nat.le_refl _) _).drew
    have ho1 : OwnM w.heap.size w1 (.slice (some ⟨w.heap.size, 0, none⟩) sr.size K) sr.data.toList := by rw [hw1]; exact OwnM.string w sr hsl2 K hK1 (by simp only [maxLen] at hK2; omega) w.drew rfl
    rw [hsrl.out] at ho1
    have hlen : (hexB bs.length ++ [13, 10]).length + bs.length ≤ 140737488355328 := by simp; omega
    have HO1 := hide ho1
    clear hw1 ho1
    go_upto_region 5 with (at_builtin; refine wpList_appM rfl (.tmp 12) (.tmp 13) rfl w.heap.size _ _ rfl HO1.out hb1.size _ bs w.heap.size rfl (R.out.below hb1) hlen ?_; intro v2 w2 ho2 hb2)
    have hb12 := hb1.trans hb2
    go_wp2_with (at_builtin; refine wpList_appM rfl (.tmp 15) (.tmp 16) rfl w.heap.size v2 _ rfl (ho2.alloc _) (Nat.le_trans hb12.size (by simp)) _ [13, 10] (w2.heap.size + 1) rfl (Byt.build w2 _ [13, 10] (by simp)) (by simp; omega) ?_; intro v3 w3 ho3 hb3)
    have hb13 := (hb12.alloc hb12.size _).trans hb3
    go_ret
    exact ⟨v3, rfl, by rw [hx.out]; simpa using ho3.byt (by simp; omega), hb13⟩

end Go.Proofs.YtiigkacmahecaaaDoor
