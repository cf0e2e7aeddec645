/-
  Chunks: what is made.
-/
import Derived.Test.YtiigkacmahecaaaDoorGrHx
import Derived.Test.YtiigkacmahecaaaDoorChkC
import Derived.Lib.SlBytesConst
import Derived.Deep.DeepCutAuto
import Derived.Outline
namespace Go.Proofs.YtiigkacmahecaaaDoor
open Go.RowKit Go.Lib
set_option linter.unusedVariables false
set_option linter.unusedSimpArgs false

theorem Byt.build (w : World) (t : TypeId) (bs : List UInt8) (h : bs.length ≤ 1000000) : Byt (w.alloc (.cells (byteCells bs).toArray t)) (w.heap.size + 1) (.slice (some ⟨w.heap.size, 0, none⟩) bs.length bs.length) bs := by
  refine ⟨by omega, _, _, rfl, Nat.le_refl _, by omega, fun j hj => ⟨w.heap.size, 0, rfl, by omega, ?_⟩⟩
  rw [(Blk.new w t (byteCells bs).toArray).cell]
  simp [byteCells, hj]
theorem OwnB.build (w : World) (bs : List UInt8) (h : bs.length ≤ 1000000) : OwnB w.heap.size (w.alloc (.cells (byteCells bs).toArray 5)) (.slice (some ⟨w.heap.size, 0, none⟩) bs.length bs.length) bs := by
  refine ⟨by simp [byteCells], .inr ⟨w.heap.size, bs.length, _, rfl, Nat.le_refl _, Blk.new _ _ _, Nat.le_refl _, by simp only [maxLen]; omega, by simp [byteCells], List.take_of_length_le (by simp [byteCells])⟩⟩
theorem Byt.const (w : World) (t : TypeId) (fr : Nat × Nat) (bs : List UInt8) (h : bs.length ≤ 1000000) : Byt (w.alloc (.cells (byteCells bs).toArray t fr)) (w.alloc (.cells (byteCells bs).toArray t fr)).heap.size (.slice (some ⟨w.heap.size, 0, none⟩) bs.length bs.length) bs := by
  refine ⟨by omega, _, _, rfl, Nat.le_refl _, by omega, fun j hj => ⟨w.heap.size, 0, rfl, by simp, ?_⟩⟩
  rw [cell_of_row _ _ _ (byteCells bs).toArray t fr (heap_alloc_new w _)]
  simp [byteCells, hj]
def BytNew (bs : List UInt8) (w : World) (e : Ending) (w' : World) : Prop := ∃ v', e = .returned v' ∧ Byt w' w'.heap.size v' bs ∧ Below w.heap.size w w'
def putL (bs : List UInt8) : List UInt8 := if bs = [] then [] else hexB bs.length ++ ([13, 10] ++ (bs ++ [13, 10]))
def OwnNew (bs : List UInt8) (w : World) (e : Ending) (w' : World) : Prop := ∃ v', e = .returned v' ∧ OwnB w.heap.size w' v' bs ∧ Below w.heap.size w w'
theorem OwnB.belg {B : Nat} {w0 w w' : World} {v : Value} {bs : List UInt8} (h : OwnB B w v bs) (hb : Below B w0 w) (hg : w.grownBy w' v.ownBlock) (hB : B ≤ w.heap.size) : Below B w0 w' := hb.grown hg hB (fun k hk => (h.lt k hk).1)

set_option maxRecDepth 100000 in
set_option maxHeartbeats 4000000 in
theorem put_chunk (v : Value) (bs : List UInt8) (w : World) (hT : Tab w) (hr : Byt w w.heap.size v bs) (hl : bs.length ≤ 10000) : Calls Tryd.prog 43 #[v] w (OwnNew (putL bs) w) := by
  obtain ⟨A, c, rfl, hc0, hc1⟩ := hr.form
  have HT := hide hT
  have R := hide hr
  clear hT hr
  by_cases h0 : bs.length = 0
  · obtain rfl : bs = [] := List.eq_nil_of_length_eq_zero h0
    go_enter Tryd.func43, Tryd.ntmps43
    go_wp2_with fail
    go_ret
    exact ⟨_, rfl, OwnB.nil _ _, Below.refl _ _⟩
  · have hne : bs ≠ [] := fun e => h0 (by rw [e]; rfl)
    have hx := hide (show putL bs = hexB bs.length ++ ([13, 10] ++ (bs ++ [13, 10])) by unfold putL; rw [if_neg hne])
    have hz : ((bs.length : Int) == 0) = false := beqF (by omega)
    have hhl := hexB_len 11 bs.length (by omega)
    clear hne h0
    go_enter Tryd.func43, Tryd.ntmps43
    go_wp2_with (at_make; refine wpList_mkB rfl _ _ rfl _ (bs.length + 20) rfl rfl (by omega) (by omega) ?_; intro v1 w1 ho1 hb1)
    go_wp2_with fail
    have HB1 := hide hb1
    refine (appint w.heap.size bs.length v1 [] _ (HT.out.below hb1) ho1 hb1.size (by omega) (by simp)).mono ?_
    rintro e w2 ⟨v2, rfl, ho2, hg2⟩
    have hb2 := ho1.belg hb1 hg2 hb1.size
    have HB2 := hide hb2
    go_upto_region 5 with (at_builtin; refine wpList_appG rfl (.tmp 14) (.tmp 15) rfl w.heap.size v2 ([] ++ hexB bs.length) rfl (ho2.alloc _) (Nat.le_trans hb2.size (by simp)) _ [13, 10] (w2.heap.size + 1) rfl (Byt.build w2 _ [13, 10] (by simp)) (by simp; omega) ?_; intro v3 w3 ho3 hg3)
    have hb3 := (ho2.alloc _).belg (hb2.alloc hb2.size _) hg3 (Nat.le_trans hb2.size (by simp))
    go_upto_region 6 with (at_builtin; refine wpList_appG rfl (.tmp 17) (.tmp 18) rfl w.heap.size v3 _ rfl ho3 hb3.size _ bs w.heap.size rfl (R.out.below hb3) (by simp; omega) ?_; intro v4 w4 ho4 hg4)
    have hb4 := ho3.belg hb3 hg4 hb3.size
    go_wp2_with (at_builtin; refine wpList_appG rfl (.tmp 20) (.tmp 21) rfl w.heap.size v4 _ rfl (ho4.alloc _) (Nat.le_trans hb4.size (by simp)) _ [13, 10] (w4.heap.size + 1) rfl (Byt.build w4 _ [13, 10] (by simp)) (by simp; omega) ?_; intro v5 w5 ho5 hg5)
    have hb5 := (ho4.alloc _).belg (hb4.alloc hb4.size _) hg5 (Nat.le_trans hb4.size (by simp))
    go_ret
    exact ⟨v5, rfl, by rw [hx.out]; simpa using ho5, hb5⟩

def lastL : List UInt8 := [48, 13, 10, 13, 10]
def wholeL (s : Nat) (bs : List UInt8) : List UInt8 := if h : bs = [] then [] else putL (bs.take (s + 1)) ++ wholeL s (bs.drop (s + 1))
termination_by bs.length
decreasing_by
  have := List.length_pos_iff.2 h
  simp; omega
theorem whole_nil (s : Nat) : wholeL s [] = [] := by unfold wholeL; simp
theorem whole_cons {s : Nat} {bs : List UInt8} (h : bs ≠ []) : wholeL s bs = putL (bs.take (s + 1)) ++ wholeL s (bs.drop (s + 1)) := by
  rw [wholeL, dif_neg h]
theorem whole_one {s : Nat} {bs : List UInt8} (h : bs.length ≤ s + 1) : wholeL s bs = putL bs := by
  by_cases hn : bs = []
  · rw [hn, whole_nil]; rfl
  · rw [whole_cons hn, List.take_of_length_le h, List.drop_of_length_le h, whole_nil, List.append_nil]
theorem put_len (bs : List UInt8) (h : bs.length ≤ 100000) : (putL bs).length ≤ 17 * bs.length := by
  unfold putL
  by_cases hn : bs = []
  · simp [hn]
  · rw [if_neg hn]
    have h1 := hexB_len 11 bs.length (by omega)
    have h2 := List.length_pos_iff.2 hn
    simp; omega
theorem whole_len (s : Nat) : ∀ (k : Nat) (bs : List UInt8), bs.length ≤ k → bs.length ≤ 100000 → (wholeL s bs).length ≤ 17 * bs.length
  | 0, bs, hk, _ => by
    have : bs = [] := List.eq_nil_of_length_eq_zero (by omega)
    rw [this, whole_nil]; simp
  | k + 1, bs, hk, h => by
    by_cases hn : bs = []
    · rw [hn, whole_nil]; simp
    · rw [whole_cons hn]
      have h1 := List.length_pos_iff.2 hn
      have h2 := whole_len s k (bs.drop (s + 1)) (by simp; omega) (by simp; omega)
      have h3 := put_len (bs.take (s + 1)) (by simp; omega)
      simp at h2 h3 ⊢
      omega
def sliceLen : Value → Nat
  | .slice _ n _ => n
  | _ => 0

set_option maxHeartbeats 1000000 in
theorem last_chunk (w : World) : Calls Tryd.prog 44 #[] w (BytNew lastL w) := by
  have kc := fun (W : World) (C : Array Value) (n c : Nat) => Lib.run_convert_bytes_const (P := Tryd.prog) W 43 5 C n c Tryd.underlying43 Tryd.underlying5
  go_enter Tryd.func44, Tryd.ntmps44
  go_wp2_with fail
  go_ret
  exact ⟨_, rfl, Byt.const w _ _ lastL (by decide), (Below.refl _ _).alloc (Nat.le_refl _) _⟩

set_option maxHeartbeats 1000000 in
theorem rlast_chunk (w : World) : Calls Tryd.prog 41 #[] w (BytNew lastL w) := by
  have kc := fun (W : World) (C : Array Value) (n c : Nat) => Lib.run_convert_bytes_const (P := Tryd.prog) W 43 5 C n c Tryd.underlying43 Tryd.underlying5
  go_enter Tryd.func41, Tryd.ntmps41
  go_wp2_with fail
  go_ret
  exact ⟨_, rfl, Byt.const w _ _ lastL (by decide), (Below.refl _ _).alloc (Nat.le_refl _) _⟩

def NewR (w : World) (e : Ending) (w' : World) : Prop := ∃ g : Nat, e = .returned (.pointer (some ⟨g, 0, none⟩)) ∧ w.heap.size ≤ g ∧ Blk w' g 88 (rdC Rs.zero false) ∧ Below w.heap.size w w'

set_option maxHeartbeats 1000000 in
theorem new_chunk (w : World) : Calls Tryd.prog 36 #[] w (NewR w) := by
  go_enter Tryd.func36, Tryd.ntmps36
  go_wp2_with fail
  go_ret
  exact ⟨_, rfl, Nat.le_refl _, Blk.new _ _ _, (Below.refl _ _).alloc (Nat.le_refl _) _⟩

set_option maxRecDepth 100000 in
set_option maxHeartbeats 1000000 in
theorem done_chunk (x : Rs) (g : Nat) (w : World) (X : Blk w g 88 (rdC x false)) : Calls Tryd.prog 37 #[.pointer (some ⟨g, 0, none⟩)] w fun e w' => e = .returned (.bool (decide (x.at_ = 9))) ∧ w = w' := by
  have cX : ∀ i, w.cell? ⟨g, i, none⟩ = (#[.int .i64 (x.at_ : Int), .int .i64 (x.size : Int), .int .i64 (x.digits : Int), .int .i64 (x.long : Int), .int .i64 (x.trailers : Int), .bool false] : Array Value)[i]? := X.cell
  by_cases h : x.at_ = 9
  · have z : ((x.at_ : Int) == 9) = true := beqT (by omega)
    have H := hide h
    clear h
    go_enter Tryd.func37, Tryd.ntmps37
    go_wp2_with fail
    go_ret
    exact ⟨ret_bool (by simp [H.out]), rfl⟩
  · have z : ((x.at_ : Int) == 9) = false := beqF (by omega)
    have H := hide h
    clear h
    go_enter Tryd.func37, Tryd.ntmps37
    go_wp2_with fail
    go_ret
    exact ⟨ret_bool (by simp [H.out]), rfl⟩

set_option maxRecDepth 100000 in
set_option maxHeartbeats 1000000 in
theorem done_bad (g : Nat) (w : World) (X : Some6 w g true) : Calls Tryd.prog 37 #[.pointer (some ⟨g, 0, none⟩)] w fun e w' => e = .returned (.bool false) ∧ w = w' := by
  obtain ⟨i0, i1, i2, i3, i4, X⟩ := X
  have cX := X.cell
  go_enter Tryd.func37, Tryd.ntmps37
  go_wp2_with fail
  go_ret
  exact ⟨rfl, rfl⟩

set_option maxRecDepth 100000 in
set_option maxHeartbeats 1000000 in
theorem take_bad (g : Nat) (v : Value) (w : World) (X : Some6 w g true) : Calls Tryd.prog 42 #[.pointer (some ⟨g, 0, none⟩), v] w fun e w' => e = .returned (.tuple #[.slice none 0 0, .int .i64 0, .int .i64 2]) ∧ w = w' := by
  obtain ⟨i0, i1, i2, i3, i4, X⟩ := X
  have cX := X.cell
  go_enter Tryd.func42, Tryd.ntmps42
  go_wp2_with fail
  go_ret3
  exact ⟨rfl, rfl⟩

theorem beq_dec (xs bs : List UInt8) : (xs == bs) = decide (xs = bs) := by rw [Bool.eq_iff_iff]; simp
theorem run_byt_string (w : World) (B : Nat) (v : Value) (bs : List UInt8) (h : Byt w B v bs) : (convert 43 9 v).run Tryd.prog w = .ok (.string ⟨bs.toArray⟩) w := by
  obtain ⟨A, c, rfl, _, _⟩ := h.form
  obtain ⟨_, _, hc⟩ := h.at_
  rcases A with _ | ad
  · have hn : bs = [] := by
      rcases bs with _ | ⟨b, bs⟩
      · rfl
      · obtain ⟨_, _, e, _⟩ := hc 0 (by simp)
        cases e
    subst hn
    exact run_convert_bytes_nil w _ _ Tryd.underlying43 Tryd.underlying5 _ _ _ Tryd.underlying9
  · refine run_convert_bytes_back w _ _ _ _ _ bs Tryd.underlying43 Tryd.underlying5 Tryd.underlying9 (fun j hj => ?_)
    obtain ⟨b, off, e, _, hcell⟩ := hc j hj
    simp only [Option.some.injEq] at e
    subst e
    rw [← hcell]
    by_cases hz : j = 0 <;> simp [Addr.add, hz]

end Go.Proofs.YtiigkacmahecaaaDoor
