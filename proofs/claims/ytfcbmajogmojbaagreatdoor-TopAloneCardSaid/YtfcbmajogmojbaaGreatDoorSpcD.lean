/-
  Spans made fewer: the walk.
-/
import Derived.Test.YtfcbmajogmojbaaGreatDoorSpcB
import Derived.Laws.OwnMore
import Derived.Deep.DeepCutAuto
namespace Go.Proofs.YtfcbmajogmojbaaGreatDoor
open Go.RowKit
set_option linter.unusedVariables false
set_option linter.unusedSimpArgs false

theorem made_flat {α : Type} (L : Lay α) (z0 : α) (hz : L.z.cells.toList = L.enc z0) (n : Nat) : (madeCells L.z.cells (n * L.n)).toList = (List.replicate n z0).flatMap L.enc := by
  apply List.ext_getElem?
  intro k
  by_cases hk : k < n * L.n
  · have hd := Nat.div_add_mod k L.n
    have hm := Nat.mod_lt k L.pos
    have hi : k / L.n < n := (Nat.div_lt_iff_lt_mul L.pos).2 hk
    have e : k = k / L.n * L.n + k % L.n := by rw [Nat.mul_comm]; exact hd.symm
    have h2 := flat_at L (List.replicate n z0) (k / L.n) (by simpa using hi) (k % L.n) hm
    rw [← e, List.getElem_replicate, ← hz] at h2
    rw [h2]
    have hlt : k % L.n < L.z.cells.size := by rw [L.zs]; exact hm
    unfold madeCells
    simp [hk, L.zs, hlt, getElem!_pos, hm]
  · rw [List.getElem?_eq_none (by simp [size_madeCells]; omega), List.getElem?_eq_none (by rw [flat_len]; simpa using hk)]
/-- 'make([]T, n)': its run. -/
theorem run_mkN {α : Type} (L : Lay α) (z0 : α) (hz : L.z.cells.toList = L.enc z0) (n : Nat) (w : World) (hn : n * L.bytes ≤ 140737488355328) (hb : n ≤ maxLen) :
    ∃ w', (Instr.makeSlice L.t (.int .i64 (n : Int)) (.int .i64 (n : Int))).run Tryz.prog w = .ok (.slice (some ⟨w.heap.size, 0, none⟩) n n) w' ∧ OwnL L w.heap.size w' (.slice (some ⟨w.heap.size, 0, none⟩) n n) (List.replicate n z0) ∧ Below w.heap.size w w' := by
  obtain ⟨i0, hi, hz0, hz1, hz2⟩ := info_parts L.info
  obtain ⟨w', hr, h1, h2⟩ := run_make_full (P := Tryz.prog) w w.heap.size L.t L.e i0 L.z L.n L.ht hi hz0 hz1 .i64 .i64 n (by rw [hz2, Nat.mul_comm]; omega) hb (Nat.le_refl _)
  refine ⟨w', hr, ?_, ⟨h2.os, h2.tape, h2.output, h2.size, fun k hk => h2.block k hk (by simp)⟩⟩
  unfold OwnL
  rw [← made_flat L z0 hz n, List.length_replicate]
  exact h1
theorem zipP_take {l : List Sp} {k : Nat} (h : k < l.length) : zipP (l.take (k + 1)) = zipP (l.take k) ++ [(l[k].1, l[k].2, (k : Int))] := by
  unfold zipP
  rw [List.take_add_one, List.getElem?_eq_getElem h, Option.toList_some, List.zipIdx_append, List.map_append]
  simp [Nat.min_eq_left (Nat.le_of_lt h)]
/-- What the first loop has laid so far. -/
def Zs (l : List Sp) (k : Nat) : List F3 := zipP (l.take k) ++ List.replicate (l.length - k) (0, 0, 0)
theorem Zs.len {l : List Sp} {k : Nat} (h : k ≤ l.length) : (Zs l k).length = l.length := by unfold Zs; rw [List.length_append, zipP_len, List.length_take, List.length_replicate]; omega
theorem Zs.at_ {l : List Sp} {k : Nat} (h : k < l.length) : (Zs l k)[k]'(by rw [Zs.len (Nat.le_of_lt h)]; exact h) = (0, 0, 0) := by
  unfold Zs
  rw [List.getElem_append_right (by rw [zipP_len, List.length_take]; omega), List.getElem_replicate]
theorem Zs.set_ {l : List Sp} {k : Nat} (h : k < l.length) : (Zs l k).set k (l[k].1, l[k].2, (k : Int)) = Zs l (k + 1) := by
  unfold Zs
  have hz : (zipP (l.take k)).length = k := by rw [zipP_len, List.length_take]; omega
  rw [List.set_append_right _ _ (by omega), hz, Nat.sub_self, zipP_take h, show l.length - k = (l.length - (k + 1)) + 1 by omega, List.replicate_succ, List.set_cons_zero, List.append_assoc]
  rfl
theorem Zs.all (l : List Sp) : Zs l l.length = zipP l := by unfold Zs; rw [List.take_length, Nat.sub_self]; simp
theorem Zs.zero (l : List Sp) : Zs l 0 = List.replicate l.length (0, 0, 0) := by unfold Zs; simp [zipP]
/-- An element of three cells stored. -/
theorem OwnL.put3 {B g c k : Nat} {w : World} {l : List F3} (h : OwnL L3 B w (.slice (some ⟨g, 0, none⟩) l.length c) l) (hk : k < l.length) (x : F3) :
    OwnL L3 B (((w.setCell ⟨g, k * 3, none⟩ (.int .i64 x.1)).setCell ⟨g, k * 3 + 1, none⟩ (.int .i64 x.2.1)).setCell ⟨g, k * 3 + 2, none⟩ (.int .i64 x.2.2)) (.slice (some ⟨g, 0, none⟩) l.length c) (l.set k x) := by
  have a := h.set_ hk (j := 0) (by decide) (.int .i64 x.1) (x.1, l[k].2.1, l[k].2.2) rfl
  have b := a.set_ (i := k) (by simpa using hk) (j := 1) (by decide) (.int .i64 x.2.1) (x.1, x.2.1, l[k].2.2) (by simp [L3])
  have d := b.set_ (i := k) (by simpa using hk) (j := 2) (by decide) (.int .i64 x.2.2) x (by simp [L3])
  simp only [List.set_set, List.length_set] at d
  exact d
/-- An own row of three cells each, a place of it. -/
theorem OwnL.some3 {B g c : Nat} {w : World} {l : List F3} (h : OwnL L3 B w (.slice (some ⟨g, 0, none⟩) l.length c) l) (hl : 0 < l.length) : l.length ≤ c ∧ c ≤ 9223372036854775807 ∧ B ≤ g ∧ g < w.heap.size ∧ (∀ i j u (hi : i < l.length), (L3.enc l[i])[j]? = some u → w.cell? ⟨g, i * 3 + j, none⟩ = some u) ∧ ∀ k, w.frozen? ⟨g, k, none⟩ = false := by
  obtain ⟨g', c', e, h1, h2, h3, h4, h5, h6⟩ := h.some_ hl
  simp only [Value.slice.injEq, Option.some.injEq, Addr.mk.injEq] at e
  obtain ⟨⟨rfl, _⟩, _, rfl⟩ := e
  exact ⟨h1, h2, h3, h4, h5, h6⟩
theorem OwnL.holds3 {B g c : Nat} {w : World} {l : List F3} (h : OwnL L3 B w (.slice (some ⟨g, 0, none⟩) l.length c) l) : Go.Sort.HoldsK L3.enc 3 w g 0 l.toArray := by
  by_cases hl : 0 < l.length
  · obtain ⟨-, -, -, -, h5, h6⟩ := h.some3 hl
    exact holds_own3 h5 h6
  · obtain rfl : l = [] := List.eq_nil_of_length_eq_zero (by omega)
    intro t ht
    simp at ht
theorem fold_ok {s : List F3} (ho : ∀ x ∈ s, okS (sp3 x)) (hs : Srt (fun f : F3 => f.1) s) (k : Nat) : ∀ y ∈ foldG (s.take k), okS (sp3 y) := by
  intro y hy
  have h1 : ∀ x ∈ (s.take k).map sp3, okS x := fun x hx => by
    obtain ⟨z, hz, rfl⟩ := List.mem_map.1 hx
    exact ho z (List.mem_of_mem_take hz)
  have h2 : Srt (fun f : F3 => f.1) (s.take k) := List.Pairwise.sublist (List.take_sublist k s) hs
  refine nf_ok (gath_nf h1 (srt_rise h2)) _ ?_
  rw [← fold_sp]
  exact List.mem_map_of_mem hy
theorem min_if3 (a b : Int) : min a b = if b < a then b else a := by omega
def FoldOk (l : List Sp) (w : World) (e : Ending) (w' : World) : Prop := ∃ v r, e = .returned v ∧ Folded l r ∧ OwnL LSp w.heap.size w' v r ∧ Below w.heap.size w w'

set_option maxRecDepth 100000 in
set_option maxHeartbeats 16000000 in
theorem fold_any (v : Value) (l : List Sp) (w : World) (hr : RdL LSp w w.heap.size v l) (hll : l.length ≤ 12) (hok : ∀ x ∈ l, okS x) : Calls Tryz.prog 58 #[v, .int .i64 0] w (FoldOk l w) := by
  obtain ⟨A, c, rfl, hlc, hc⟩ := hr.form
  have HR := hide hr
  have HOK := hide hok
  clear hr hok
  obtain ⟨w2, hmk, hown, hB2⟩ := run_mkN L3 (0, 0, 0) rfl l.length w (by show l.length * 24 ≤ _; omega) (by unfold maxLen; omega)
  have hmk : (Instr.makeSlice 131 (.int .i64 (l.length : Int)) (.int .i64 (l.length : Int))).run Tryz.prog w = .ok (.slice (some ⟨w.heap.size, 0, none⟩) l.length l.length) w2 := hmk
  have HOWN := hide (show OwnL L3 w.heap.size w2 (.slice (some ⟨w.heap.size, 0, none⟩) l.length l.length) (Zs l 0) by rw [Zs.zero]; exact hown)
  clear hown
  obtain ⟨g, hg⟩ : ∃ g, g = w.heap.size := ⟨_, rfl⟩
  go_enter Tryz.func58, Tryz.ntmps58
  go_wp2_with fail
  rw [← hg] at HOWN ⊢
  rw [hg] at HOWN
  clear hmk
  go_loopw [6, 7, 22] (fun _ _ c22 wr => ∃ k : Nat, k ≤ l.length ∧ c22 = .int .i64 (k : Int) ∧ Hid (OwnL L3 w.heap.size wr (.slice (some ⟨g, 0, none⟩) l.length l.length) (Zs l k)) ∧ Below w.heap.size w wr ∧ g < wr.heap.size) (fun _ _ c22 _ => l.length - (intOf c22).toNat)
  case atStart => exact ⟨0, Nat.zero_le _, rfl, by rw [hg]; exact HOWN, hB2, by rw [hg]; exact (HOWN.out.lt _ rfl).2⟩
  case round =>
    have hBg0 : w.heap.size ≤ g := by omega
    clear HOWN hg hmk hB2
    obtain ⟨k, hk, rfl, HO, hb, hgw⟩ := hrel
    by_cases hlt : k < l.length
    · obtain ⟨bs, os, hAs, hbls, ps, qs⟩ := HR.out.span k hlt
      subst hAs
      have HZ := hide (Zs.set_ hlt)
      have hza := Zs.at_ hlt
      obtain ⟨xf, xt, hx⟩ : ∃ x0 x1 : Int, l[k] = (x0, x1) := ⟨_, _, rfl⟩
      rw [hx] at ps qs HZ
      simp only at ps qs HZ
      have es : wr.cell? ⟨bs, os + k * 2, none⟩ = some (.int .i64 xf) := by rw [hb.cell (by show bs < _; omega)]; exact ps
      have gs : wr.cell? ⟨bs, os + k * 2 + 1, none⟩ = some (.int .i64 xt) := by rw [hb.cell (by show bs < _; omega)]; exact qs
      clear ps qs hx
      have hZl := Zs.len (Nat.le_of_lt hlt)
      have HO1 := HO.out
      rw [← hZl] at HO1
      obtain ⟨-, -, hBg, hgl, hcell, hfz⟩ := HO1.some3 (by rw [hZl]; omega)
      have HO2 := hide HO1
      clear HO1 HO
      have c0 := hcell k 0 (.int .i64 0) (by rw [hZl]; exact hlt) (by rw [hza]; rfl)
      have c1 := hcell k 1 (.int .i64 0) (by rw [hZl]; exact hlt) (by rw [hza]; rfl)
      have c2 := hcell k 2 (.int .i64 0) (by rw [hZl]; exact hlt) (by rw [hza]; rfl)
      have c0 : wr.cell? ⟨g, k * 3, none⟩ = some (.int .i64 0) := c0
      have f0 := hfz (k * 3)
      have f1 := hfz (k * 3 + 1)
      have f2 := hfz (k * 3 + 2)
      have HZL := hide hZl
      clear hcell hfz hza hZl
      go_upto_region 6 with fail
      obtain ⟨w5, hw5⟩ : ∃ W : World, W = wr.alloc (.cells #[.int .i64 xf, .int .i64 xt] 67) := ⟨_, rfl⟩
      first | rw [← hw5] | skip
      have X : Blk w5 wr.heap.size 67 #[.int .i64 xf, .int .i64 xt] := by rw [hw5]; exact Blk.new _ _ _
      have hB5 : Below w.heap.size w w5 := by rw [hw5]; exact hb.alloc hb.size _
      replace HO2 := hide (HO2.out.alloc (.cells #[.int .i64 xf, .int .i64 xt] 67))
      rw [← hw5] at HO2
      have hg5 : g < w5.heap.size := by rw [hw5]; simp; omega
      have d0 : w5.cell? ⟨g, k * 3, none⟩ = some (.int .i64 0) := by rw [hw5, ← c0]; exact World.cell?_of_block (Below.heap_alloc wr _ g hgl)
      have d1 : w5.cell? ⟨g, k * 3 + 1, none⟩ = some (.int .i64 0) := by rw [hw5, ← c1]; exact World.cell?_of_block (Below.heap_alloc wr _ g hgl)
      have d2 : w5.cell? ⟨g, k * 3 + 2, none⟩ = some (.int .i64 0) := by rw [hw5, ← c2]; exact World.cell?_of_block (Below.heap_alloc wr _ g hgl)
      obtain ⟨-, -, -, -, -, hf5⟩ := HO2.out.some3 (by rw [HZL.out]; omega)
      have f0 := hf5 (k * 3)
      have f1 := hf5 (k * 3 + 1)
      have f2 := hf5 (k * 3 + 2)
      obtain ⟨xb, hxb⟩ : ∃ n, n = wr.heap.size := ⟨_, rfl⟩
      rw [← hxb] at X ⊢
      clear hw5 hxb es gs hb c0 c1 c2 hf5
      have cX := X.cell
      have hk63 : (k : Int) < 1000000 := by omega
      skip
      go_upto_region 7 with fail
      obtain ⟨w8, hw8⟩ : ∃ W : World, W = ((w5.setCell ⟨g, k * 3, none⟩ (.int .i64 xf)).setCell ⟨g, k * 3 + 1, none⟩ (.int .i64 xt)).setCell ⟨g, k * 3 + 2, none⟩ (.int .i64 (k : Int)) := ⟨_, rfl⟩
      rw [← hw8]
      have HJ := hide (show OwnL L3 w.heap.size w8 (.slice (some ⟨g, 0, none⟩) l.length l.length) (Zs l (k + 1)) by
        have h9 := HO2.out
        have h9 := HO2.out
        have h8 : OwnL L3 w.heap.size w5 (.slice (some ⟨g, 0, none⟩) (Zs l k).length l.length) (Zs l k) := by rw [HZL.out] at h9 ⊢; exact h9
        have := h8.put3 (by rw [HZL.out]; exact hlt) (xf, xt, (k : Int))
        rw [HZ.out, HZL.out] at this
        rw [hw8]
        exact this)
      have hB8 : Below w.heap.size w w8 := by rw [hw8]; exact below_set (below_set (below_set hB5 hBg _) hBg _) hBg _
      have hg8 : g < w8.heap.size := by rw [hw8]; simpa [World.setCell] using hg5
      clear HO2 HZ HZL d0 d1 d2 f0 f1 f2 hw8 cX X hB5
      go_wp2_with fail
      go_roundw
      case rel => exact ⟨k + 1, by omega, by go_num, HJ, hB8, hg8⟩
      case measure => simp [intOf] <;> omega
    · have hE : k = l.length := by omega
      subst hE
      have HZA := hide (Zs.all l)
      have hzl := zipP_len l
      have HO1 := HO.out
      rw [HZA.out] at HO1
      have hH := OwnL.holds3 (show OwnL L3 w.heap.size wr (.slice (some ⟨g, 0, none⟩) (zipP l).length l.length) (zipP l) by rw [hzl]; exact HO1)
      have HST := hide (stable_any w.heap.size g l.length (zipP l) wr hH hgw hBg0 (by omega) (by omega) (by omega))
      rw [hzl] at HST
      clear hH HO1 HO HZA HR hlt hk
      go_upto_region 8 with fail
      go_wp2_with fail
      refine HST.out.mono ?_
      rintro e w4 ⟨rfl, s, hp, hsr, hR, hb4, hz4⟩
      rw [hzl] at hR
      have hsl : s.length = l.length := by rw [hp.length_eq, hzl]
      have HS2 := hide hR
      have HSRT := hide hsr
      have HP := hide hp
      have HSO := hide (show ∀ x ∈ s, okS (sp3 x) from fun x hx => HOK.out _ (by have := List.mem_map_of_mem (f := sp3) ((hp.mem_iff).1 hx); rwa [zipP_sp] at this))
      have hB4 := hb.trans hb4
      have hg4 : g < w4.heap.size := by omega
      clear HST hR hsr hp hb hb4 hgw
      go_wp2_with fail
      go_loopw [8, 10, 11, 38] (fun c8 _ _ c38 wr => ∃ (k : Nat) (V : Value), k ≤ l.length ∧ V = c8 ∧ c38 = .int .i64 (k : Int) ∧ Hid (OwnL L3 w4.heap.size wr V (foldG (s.take k))) ∧ Below w4.heap.size w4 wr) (fun _ _ _ c38 _ => l.length - (intOf c38).toNat)
      case atStart => exact ⟨0, _, Nat.zero_le _, rfl, rfl, OwnL.nil _ _ _, Below.refl _ _⟩
      case round =>
        obtain ⟨k, V, hk, rfl, rfl, HO, hb⟩ := hrel
        by_cases hlt : k < l.length
        · have hks : k < s.length := by omega
          obtain ⟨b0, o0, hA, hbl, hcell⟩ := HS2.out.at_ k hks
          simp only [Option.some.injEq, Addr.mk.injEq, and_true] at hA
          obtain ⟨rfl, rfl⟩ := hA
          obtain ⟨xf, xt, xp, hx⟩ : ∃ a b c : Int, s[k] = (a, b, c) := ⟨_, _, _, rfl⟩
          have hox := HSO.out s[k] (List.getElem_mem hks)
          have hT := fold_take hks
          rw [hx] at hcell hox hT
          obtain ⟨hx0, hx1, hx2⟩ : 0 ≤ xf ∧ xf < xt ∧ xt ≤ 4611686018427387904 := hox
          have e0 : wr.cell? ⟨g, k * 3, none⟩ = some (.int .i64 xf) := by rw [hb.cell (by show g < _; omega)]; simpa [L3] using hcell 0 _ rfl
          have e1 : wr.cell? ⟨g, k * 3 + 1, none⟩ = some (.int .i64 xt) := by rw [hb.cell (by show g < _; omega)]; simpa [L3] using hcell 1 _ rfl
          have e2 : wr.cell? ⟨g, k * 3 + 2, none⟩ = some (.int .i64 xp) := by rw [hb.cell (by show g < _; omega)]; simpa [L3] using hcell 2 _ rfl
          have HT := hide hT
          have hlen := fold_len s k
          have hfo := fold_ok HSO.out HSRT.out k
          have hbz := hb.size
          clear hcell hx hT
          go_upto_region 13 with fail
          obtain ⟨w1, hw1⟩ : ∃ W : World, W = wr.alloc (.cells #[.int .i64 xf, .int .i64 xt, .int .i64 xp] 133) := ⟨_, rfl⟩
          first | rw [← hw1] | skip
          have X : Blk w1 wr.heap.size 133 #[.int .i64 xf, .int .i64 xt, .int .i64 xp] := by rw [hw1]; exact Blk.new _ _ _
          have hB1 : Below w4.heap.size w4 w1 := by rw [hw1]; exact hb.alloc hb.size _
          have O1 : OwnL L3 w4.heap.size w1 V (foldG (s.take k)) := by rw [hw1]; exact HO.out.alloc _
          obtain ⟨xb, hxb⟩ : ∃ n, n = wr.heap.size := ⟨_, rfl⟩
          have HV9 := hide (show ∀ k9, V.ownBlock = some k9 → k9 < xb from fun k9 h9 => by rw [hxb]; exact (HO.out.lt k9 h9).2)
          rw [← hxb] at X ⊢
          have cX := X.cell
          have hxl := X.lt
          clear hw1 e0 e1 e2 HO hb
          obtain ⟨G, hG⟩ : ∃ G, G = foldG (s.take k) := ⟨_, rfl⟩
          rw [← hG] at O1 HT hlen hfo
          clear hG hxb hbz
          rcases List.eq_nil_or_concat G with rfl | ⟨m, y, rfl⟩
          · obtain ⟨A5, k5, hv5, h5a, h5b⟩ := O1.rd.form
            subst hv5
            have HE := hide (show foldG (s.take (k + 1)) = [(xf, xt, xp)] from HT.out)
            clear HT hfo
            have HL9 := hide (show ([] : List F3).length + [(xf, xt, xp)].length ≤ 1000000000 by simp)
            go_upto_region 14 with fail
            go_quiet (fail)
            obtain ⟨w2, hw2⟩ : ∃ W : World, W = w1.drewN nq := ⟨_, rfl⟩
            first | rw [← hw2] | skip
            have hB2 : Below w4.heap.size w4 w2 := by rw [hw2]; exact below_drewN hB1 _
            have O5 := O1.drewN nq
            rw [← hw2] at O5
            clear cX
            replace X := X.drewN nq
            rw [← hw2] at X
            have cX := X.cell
            clear hw2 O1
            have hz1 := hB2.size
            have R5 : RdL L3 (w2.alloc (.cells #[.int .i64 xf, .int .i64 xt, .int .i64 xp] 133)) (w2.heap.size + 1) (.slice (some ⟨w2.heap.size, 0, none⟩) 1 1) [(xf, xt, xp)] := by
              have := RdL.one_ (L := L3) (x := (xf, xt, xp)) (Blk.new w2 133 #[.int .i64 xf, .int .i64 xt, .int .i64 xp]) rfl
              simpa using this
            go_wp2_with (at_builtin; refine wpList_appL L3 w4 (by rfl) (.tmp 92) (.tmp 94) _ _ (by rfl) rfl rfl w4.heap.size _ _ (by rfl) (O5.alloc _) (hB2.alloc hB2.size _) (by simp; omega) _ [(xf, xt, xp)] _ (by rfl) R5 (by decide) HL9.out ?_)
            intro v7 w7 O7 hB7 _ _
            replace O7 : OwnL L3 w4.heap.size w7 v7 (foldG (s.take (k + 1))) := by rw [HE.out]; first | exact O7 | (rw [List.append_assoc]; exact O7)
            have HJ := hide O7
            clear O7 R5 O5
            go_wp2_with fail
            go_roundw
            case rel => exact ⟨k + 1, _, by omega, rfl, by go_num, HJ, hB7⟩
            case measure => simp [intOf] <;> omega
          · rw [List.concat_eq_append] at O1 HT hlen hfo
            rw [fstep_at] at HT
            obtain ⟨yf, yt, yp⟩ := y
            simp only at HT
            obtain ⟨hy0, hy1, hy2⟩ : 0 ≤ yf ∧ yf < yt ∧ yt ≤ 4611686018427387904 := hfo (yf, yt, yp) (by simp)
            clear hfo
            obtain ⟨g1, c5, hv5, h5a, h5b, hBg, hgl, hcell, hfz⟩ := O1.some_ (by simp)
            have HO := hide O1
            rw [hv5] at HO
            have HL9 := hide (show (m ++ [(yf, yt, yp)]).length + [(xf, xt, xp)].length ≤ 1000000000 by rw [List.length_singleton]; omega)
            have e1 := hcell m.length 1 (.int .i64 yt) (by simp) (by simp [L3])
            have e2 := hcell m.length 2 (.int .i64 yp) (by simp) (by simp [L3])
            have ef1 := hfz (m.length * 3 + 1)
            have ef2 := hfz (m.length * 3 + 2)
            subst hv5
            obtain ⟨n, hn⟩ : ∃ n, n = m.length := ⟨_, rfl⟩
            have hL : (m ++ [(yf, yt, yp)]).length = n + 1 := by simp [hn]
            rw [hL] at O1 h5a hlen ⊢
            rw [← hn] at e1 e2 ef1 ef2
            have e1 : w1.cell? ⟨g1, n * 3 + 1, none⟩ = some (.int .i64 yt) := e1
            have e2 : w1.cell? ⟨g1, n * 3 + 2, none⟩ = some (.int .i64 yp) := e2
            have hL2 := hide hL
            have hN := hide hn
            clear hcell hfz hL hn
            have hi1 : (0 : Int) ≤ (n : Int) := by omega
            have hi2 : (n : Int) < (((n + 1 : Nat)) : Int) := by omega
            have hi3 : (n : Int) < 1000001 := by omega
            by_cases ht : xf ≤ yt
            · have dt : decide (xf - yt ≤ 0) = true := decide_eq_true (by omega)
              have HE := hide (show foldG (s.take (k + 1)) = m ++ [(yf, max yt xt, min yp xp)] by rw [HT.out, if_pos ht])
              clear HT ht
              go_upto_region 14 with fail
              go_quiet (fail)
              go_upto_region 15 with fail
              obtain ⟨w2, hw2⟩ : ∃ W : World, W = w1.drewN nq := ⟨_, rfl⟩
              first | rw [← hw2] | skip
              have hB2 : Below w4.heap.size w4 w2 := by rw [hw2]; exact below_drewN hB1 _
              replace HO := hide (HO.out.drewN nq)
              rw [← hw2] at HO
              replace X := X.drewN nq
              rw [← hw2] at X
              have e1' : w2.cell? ⟨g1, n * 3 + 1, none⟩ = some (.int .i64 yt) := by rw [hw2]; exact e1
              have e2' : w2.cell? ⟨g1, n * 3 + 2, none⟩ = some (.int .i64 yp) := by rw [hw2]; exact e2
              have ef1' : w2.frozen? ⟨g1, n * 3 + 1, none⟩ = false := by rw [hw2]; exact ef1
              have ef2' : w2.frozen? ⟨g1, n * 3 + 2, none⟩ = false := by rw [hw2]; exact ef2
              have hgl2 : g1 < w2.heap.size := by rw [hw2]; exact hgl
              have hxg : xb ≠ g1 := by have := HV9.out g1 rfl; omega
              clear cX e1 e2 ef1 ef2 hw2 hB1 O1
              have cX := X.cell
              go_region
              obtain ⟨M, hM⟩ : ∃ z : Int, z = max yt xt := ⟨_, rfl⟩
              rw [← hM]
              have hs1 := HO.out.set_ (i := m.length) (j := 1) (by simp) (by decide) (.int .i64 M) (yf, M, yp) (by simp [L3])
              rw [set_last, ← hN.out, List.length_append, List.length_singleton, ← hN.out] at hs1
              obtain ⟨w3, hw3⟩ : ∃ W : World, W = (w2.setCell ⟨g1, n * 3 + 1, none⟩ (.int .i64 M)).drew := ⟨_, rfl⟩
              rw [← hw3]
              have hs2 := hide (show OwnL L3 w4.heap.size w3 (.slice (some ⟨g1, 0, none⟩) (m ++ [(yf, M, yp)]).length c5) (m ++ [(yf, M, yp)]) by rw [hw3, List.length_append, List.length_singleton, ← hN.out]; exact hs1)
              have hB3 : Below w4.heap.size w4 w3 := by rw [hw3]; exact (below_set hB2 hBg _).drew
              have d2 : w3.cell? ⟨g1, n * 3 + 2, none⟩ = some (.int .i64 yp) := by rw [hw3]; simpa [go_sem] using e2'
              have df2 : w3.frozen? ⟨g1, n * 3 + 2, none⟩ = false := by rw [hw3]; simpa [go_sem] using ef2'
              replace X : Blk w3 xb 133 #[.int .i64 xf, .int .i64 xt, .int .i64 xp] := by rw [hw3]; exact (X.far (by show xb ≠ g1; exact hxg) _).drew
              clear HO hs1 hw3 hB2 e1' e2' ef1' ef2' cX
              have cX := X.cell
              go_upto_region 16 with fail
              go_region
              obtain ⟨N, hNN⟩ : ∃ z : Int, z = min yp xp := ⟨_, rfl⟩
              rw [← hNN]
              have hs3 := hs2.out.set_ (i := m.length) (j := 2) (by simp) (by decide) (.int .i64 N) (yf, M, N) (by simp [L3])
              rw [set_last, ← hN.out] at hs3
              obtain ⟨w7, hw7⟩ : ∃ W : World, W = (w3.setCell ⟨g1, n * 3 + 2, none⟩ (.int .i64 N)).drew := ⟨_, rfl⟩
              rw [← hw7]
              have HJ := hide (show OwnL L3 w4.heap.size w7 (.slice (some ⟨g1, 0, none⟩) (n + 1) c5) (foldG (s.take (k + 1))) by
                rw [HE.out, ← hM, ← hNN, hw7]
                have h5 := hs3
                simp only [List.length_append, List.length_singleton, ← hN.out] at h5
                exact h5)
              have hB7 : Below w4.heap.size w4 w7 := by rw [hw7]; exact (below_set hB3 hBg _).drew
              clear hs2 hs3 hw7 hB3 d2 df2 cX X HE HL9
              go_wp2_with fail
              go_roundw
              case rel => exact ⟨k + 1, _, by omega, rfl, by go_num, HJ, hB7⟩
              case measure => simp [intOf] <;> omega
            · have dt : decide (xf - yt ≤ 0) = false := decide_eq_false (by omega)
              have HE := hide (show foldG (s.take (k + 1)) = (m ++ [(yf, yt, yp)]) ++ [(xf, xt, xp)] by rw [HT.out, if_neg ht])
              clear HT ht
              go_upto_region 14 with fail
              go_quiet (fail)
              obtain ⟨w2, hw2⟩ : ∃ W : World, W = w1.drewN nq := ⟨_, rfl⟩
              first | rw [← hw2] | skip
              have hB2 : Below w4.heap.size w4 w2 := by rw [hw2]; exact below_drewN hB1 _
              have O5 := O1.drewN nq
              rw [← hw2] at O5
              clear cX
              replace X := X.drewN nq
              rw [← hw2] at X
              have cX := X.cell
              clear hw2 O1
              have hz1 := hB2.size
              have R5 : RdL L3 (w2.alloc (.cells #[.int .i64 xf, .int .i64 xt, .int .i64 xp] 133)) (w2.heap.size + 1) (.slice (some ⟨w2.heap.size, 0, none⟩) 1 1) [(xf, xt, xp)] := by
                have := RdL.one_ (L := L3) (x := (xf, xt, xp)) (Blk.new w2 133 #[.int .i64 xf, .int .i64 xt, .int .i64 xp]) rfl
                simpa using this
              go_wp2_with (at_builtin; refine wpList_appL L3 w4 (by rfl) (.tmp 92) (.tmp 94) _ _ (by rfl) rfl rfl w4.heap.size _ _ (by rfl) (O5.alloc _) (hB2.alloc hB2.size _) (by simp; omega) _ [(xf, xt, xp)] _ (by rfl) R5 (by decide) HL9.out ?_)
              intro v7 w7 O7 hB7 _ _
              replace O7 : OwnL L3 w4.heap.size w7 v7 (foldG (s.take (k + 1))) := by rw [HE.out]; first | exact O7 | (rw [List.append_assoc]; exact O7)
              have HJ := hide O7
              clear O7 R5 O5
              go_wp2_with fail
              go_roundw
              case rel => exact ⟨k + 1, _, by omega, rfl, by go_num, HJ, hB7⟩
              case measure => simp [intOf] <;> omega
        · have hE : s.take k = s := List.take_of_length_le (by omega)
          rw [hE] at HO
          have hfl := fold_len s s.length
          rw [List.take_length] at hfl
          have hB0 : Below w.heap.size w wr := hB4.trans (hb.mono hB4.size)
          by_cases h0 : (foldG s).length = 0
          · obtain ⟨A5, k5, hv5, _, _⟩ := HO.out.rd.form
            rw [h0] at hv5
            subst hv5
            have h00 : foldG s = [] := List.eq_nil_of_length_eq_zero h0
            obtain ⟨o, ho⟩ : ∃ o : List F3, o = [] := ⟨_, rfl⟩
            have HOP := hide (show o.Perm (foldG s) by rw [h00, ho])
            have HS5 := hide (show RdL L3 wr wr.heap.size (.slice A5 0 k5) o by have := HO.out.rd; rw [h00] at this; rw [ho]; exact this)
            have hol : o.length = 0 := by rw [ho]; rfl
            clear ho h00 h0 HO hfl
            go_wp2_with fail
            refine (sortf_none A5 k5 wr).mono ?_
            rintro e w5 ⟨rfl, hw5⟩
            rw [hw5] at HS5 hB0
            have hB5 := hB0
            clear hb hw5 hB0
            rw [← hol] at HS5
            go_wp2_with fail
            go_loopw [12, 14, 101] (fun c12 _ c101 wr => ∃ (k : Nat) (V : Value), k ≤ o.length ∧ V = c12 ∧ c101 = .int .i64 (k : Int) ∧ Hid (OwnL LSp w5.heap.size wr V ((o.take k).map sp3)) ∧ Below w5.heap.size w5 wr) (fun _ _ c101 _ => o.length - (intOf c101).toNat)
            case atStart => exact ⟨0, _, Nat.zero_le _, rfl, rfl, OwnL.nil _ _ _, Below.refl _ _⟩
            case round =>
              obtain ⟨k, V, hk, rfl, rfl, HO, hb⟩ := hrel
              by_cases hlt : k < o.length
              · omega
              · have hE : o.take k = o := List.take_of_length_le (by omega)
                rw [hE] at HO
                have HF := hide (folded_of HOK.out HP.out HSRT.out HOP.out)
                go_wp2_with fail
                go_ret
                exact ⟨_, _, rfl, HF.out, HO.out.mono hB5.size, hB5.trans (hb.mono hB5.size)⟩
          · obtain ⟨g1, c5, hv5, h5a, h5b, hBg, hgl, hcell, hfz⟩ := HO.out.some_ (by omega)
            subst hv5
            have hH := holds_own3 (fun i j u hi hu => hcell i j u hi hu) hfz
            have HST := hide (sortf_any w4.heap.size g1 c5 (foldG s) wr hH hgl hBg h5a h5b (by omega))
            clear hH hcell hfz HO h0
            go_wp2_with fail
            refine HST.out.mono ?_
            rintro e w5 ⟨rfl, o, hp, -, hR, hb5, hz5⟩
            have hol := hp.length_eq
            rw [← hol] at hR
            have HOP := hide hp
            have HS5 := hide hR
            have hB5 : Below w.heap.size w w5 := hB0.trans (hb5.mono hB4.size)
            clear HST hp hR hb5 hB0 hb
            rw [← hol]
            go_wp2_with fail
            go_loopw [12, 14, 101] (fun c12 _ c101 wr => ∃ (k : Nat) (V : Value), k ≤ o.length ∧ V = c12 ∧ c101 = .int .i64 (k : Int) ∧ Hid (OwnL LSp w5.heap.size wr V ((o.take k).map sp3)) ∧ Below w5.heap.size w5 wr) (fun _ _ c101 _ => o.length - (intOf c101).toNat)
            case atStart => exact ⟨0, _, Nat.zero_le _, rfl, rfl, OwnL.nil _ _ _, Below.refl _ _⟩
            case round =>
              obtain ⟨k, V, hk, rfl, rfl, HO, hb⟩ := hrel
              by_cases hlt : k < o.length
              · obtain ⟨b0, o0, hA, hbl, hcell⟩ := HS5.out.at_ k hlt
                simp only [Option.some.injEq, Addr.mk.injEq, and_true] at hA
                obtain ⟨rfl, rfl⟩ := hA
                obtain ⟨xf, xt, xp, hx⟩ : ∃ a b c : Int, o[k] = (a, b, c) := ⟨_, _, _, rfl⟩
                rw [hx] at hcell
                have e0 : wr.cell? ⟨g1, k * 3, none⟩ = some (.int .i64 xf) := by rw [hb.cell (by show g1 < _; omega)]; simpa [L3] using hcell 0 _ rfl
                have e1 : wr.cell? ⟨g1, k * 3 + 1, none⟩ = some (.int .i64 xt) := by rw [hb.cell (by show g1 < _; omega)]; simpa [L3] using hcell 1 _ rfl
                have e2 : wr.cell? ⟨g1, k * 3 + 2, none⟩ = some (.int .i64 xp) := by rw [hb.cell (by show g1 < _; omega)]; simpa [L3] using hcell 2 _ rfl
                have HE := hide (show (o.take (k + 1)).map sp3 = (o.take k).map sp3 ++ [(xf, xt)] by rw [List.take_succ_eq_append_getElem hlt, List.map_append, hx]; rfl)
                have HL9 := hide (show ((o.take k).map sp3).length + [(xf, xt)].length ≤ 1000000000 by rw [List.length_map, List.length_take, List.length_singleton]; omega)
                have hbz := hb.size
                clear hcell hx
                go_upto_region 24 with fail
                obtain ⟨w2, hw2⟩ : ∃ W : World, W = wr.alloc (.cells #[.int .i64 xf, .int .i64 xt, .int .i64 xp] 133) := ⟨_, rfl⟩
                first | rw [← hw2] | skip
                have X : Blk w2 wr.heap.size 133 #[.int .i64 xf, .int .i64 xt, .int .i64 xp] := by rw [hw2]; exact Blk.new _ _ _
                have hB2 : Below w5.heap.size w5 w2 := by rw [hw2]; exact hb.alloc hb.size _
                have O5 : OwnL LSp w5.heap.size w2 V ((o.take k).map sp3) := by rw [hw2]; exact HO.out.alloc _
                obtain ⟨xb, hxb⟩ : ∃ n, n = wr.heap.size := ⟨_, rfl⟩
                rw [← hxb] at X ⊢
                have cX := X.cell
                clear hw2 e0 e1 e2 HO hb hxb hbz
                have hz1 := hB2.size
                have R5 : RdL LSp (w2.alloc (.cells #[.int .i64 xf, .int .i64 xt] 67)) (w2.heap.size + 1) (.slice (some ⟨w2.heap.size, 0, none⟩) 1 1) [(xf, xt)] := by
                  have := RdL.one_ (L := LSp) (x := (xf, xt)) (Blk.new w2 67 #[.int .i64 xf, .int .i64 xt]) rfl
                  simpa using this
                go_wp2_with (at_builtin; refine wpList_appL LSp w5 (by rfl) (.tmp 105) (.tmp 108) _ _ (by rfl) rfl rfl w5.heap.size _ _ (by rfl) (O5.alloc _) (hB2.alloc hB2.size _) (by simp; omega) _ [(xf, xt)] _ (by rfl) R5 (by decide) HL9.out ?_)
                intro v7 w7 O7 hB7 _ _
                rw [← List.map_take, ← HE.out] at O7
                have HJ := hide O7
                clear O7 R5 O5
                go_wp2_with fail
                go_roundw
                case rel => exact ⟨k + 1, _, by omega, rfl, by go_num, HJ, hB7⟩
                case measure => simp [intOf] <;> omega
              · have hE : o.take k = o := List.take_of_length_le (by omega)
                rw [hE] at HO
                have HF := hide (folded_of HOK.out HP.out HSRT.out HOP.out)
                go_wp2_with fail
                go_ret
                exact ⟨_, _, rfl, HF.out, HO.out.mono hB5.size, hB5.trans (hb.mono hB5.size)⟩

end Go.Proofs.YtfcbmajogmojbaaGreatDoor
