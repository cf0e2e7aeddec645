/-
  What fields of conditions say is what they were made of; Few.
-/
import Derived.Test.YtkmheoolekookaaDoorCndI
import Derived.Test.YtkmheoolekookaaDoorCndK
namespace Go.Proofs.YtkmheoolekookaaDoor
open Go.RowKit
set_option linter.unusedVariables false
set_option linter.unusedSimpArgs false

def SomeB8 (w : World) (e : Ending) (w' : World) : Prop := ∃ b : Bool, e = .returned (.bool b) ∧ Below w.heap.size w w'

set_option maxRecDepth 100000 in
set_option maxHeartbeats 16000000 in
theorem few8_any (v1 v2 : Value) (ms ns : List TagL) (am an : Bool) (si un : Int) (x : ByteArray) (rb : Bool) (w : World) (h1 : RdL LT w w.heap.size v1 ms) (h2 : RdL LT w w.heap.size v2 ns) (z1 : ∀ t ∈ ms, t.1.length ≤ 9223372036854775807) (z2 : ∀ t ∈ ns, t.1.length ≤ 9223372036854775807) (hx : x.size ≤ 9223372036854775807) (hxs : x.size ≤ 140737488351232) : Calls Tryd.prog 12 #[.agg #[v1, v2, .bool am, .bool an, .int .i64 si, .int .i64 un, .string x, .bool rb]] w (SomeB8 w) := by
  obtain ⟨A1, c1, rfl, _, _⟩ := h1.form
  obtain ⟨A2, c2, rfl, _, _⟩ := h2.form
  have H10 := hide h1
  have H20 := hide h2
  clear h1 h2
  go_enter Tryd.func12, Tryd.ntmps12
  go_upto_region 1 with fail
  obtain ⟨w1, hw1⟩ : ∃ w1 : World, w1 = (w).alloc (.cells #[.slice A1 ms.length c1, .slice A2 ns.length c2, .bool am, .bool an, .int .i64 si, .int .i64 un, .string x, .bool rb] 29) := ⟨_, rfl⟩
  rw [← hw1]
  have hB1 : Below w.heap.size w w1 := by rw [hw1]; exact ((Below.refl _ _).alloc (Nat.le_refl _) _)
  have P : Blk w1 (w.heap.size) 29 #[.slice A1 ms.length c1, .slice A2 ns.length c2, .bool am, .bool an, .int .i64 si, .int .i64 un, .string x, .bool rb] := by rw [hw1]; exact (Blk.new _ _ _)
  have H11 := hide ((H10.out.below hB1).mono hB1.size)
  have H21 := hide ((H20.out.below hB1).mono hB1.size)
  have hsz1 := congrArg (fun W : World => W.heap.size) hw1
  clear hw1
  have cP := P.cell
  go_upto_region 3 with fail
  obtain ⟨w3, hw3⟩ : ∃ W : World, W = w1.alloc (.cells #[.slice A1 ms.length c1, .slice A2 ns.length c2] 25) := ⟨_, rfl⟩
  first | rw [← hw3] | skip
  have hz1 : w1.heap.size = w.heap.size + 1 := by rw [hsz1]; simp
  have Q : Blk w3 (w.heap.size + 1) 25 #[.slice A1 ms.length c1, .slice A2 ns.length c2] := by rw [hw3, ← hz1]; exact Blk.new _ _ _
  have hB3 : Below w.heap.size w w3 := by rw [hw3]; exact hB1.alloc hB1.size _
  try rw [hz1]
  clear hw3 cP P hB1 H11 H21 hz1
  go_loopw [3, 5, 7, 18, 27] (fun c3 c5 c7 c18 c27 wr => ∃ (k : Nat) (N : Int), k ≤ 2 ∧ c18 = .int .i64 (k : Int) ∧ c3 = .int .i64 N ∧ 0 ≤ N ∧ N ≤ 140737488351232 + 16000 * (k : Int) ∧ Blk wr (w.heap.size + 1) 25 #[.slice A1 ms.length c1, .slice A2 ns.length c2] ∧ Below w.heap.size w wr) (fun _ _ _ c18 _ _ => 2 - (intOf c18).toNat)
  case atStart => exact ⟨0, (x.size : Int), by omega, rfl, rfl, by omega, by push_cast; omega, Q, hB3⟩
  case round =>
    clear Q hB3
    obtain ⟨k, N, hk, rfl, rfl, hN0, hN1, Q, hb⟩ := hrel
    have hk3 : k = 0 ∨ k = 1 ∨ k = 2 := by omega
    rcases hk3 with rfl | rfl | rfl
    · have cQ := Q.cell
      by_cases h40 : 40 < ms.length
      · have d40 : decide ((ms.length : Int) > 40) = true := decide_eq_true (by omega)
        go_wp2_with fail
        go_ret
        exact ⟨false, rfl, hb⟩
      · have d40 : decide ((ms.length : Int) > 40) = false := decide_eq_false (by omega)
        go_wp2_with fail
        clear cQ
        obtain ⟨wo, hwo⟩ : ∃ wo : World, wo = wr := ⟨_, rfl⟩
        rw [← hwo] at Q hb ⊢
        clear hwo
        go_loopw [3, 7, 27] (fun c3 c7 c27 wr => ∃ (j : Nat) (N2 : Int), j ≤ ms.length ∧ c27 = .int .i64 (j : Int) ∧ c3 = .int .i64 N2 ∧ 0 ≤ N2 ∧ N2 ≤ N + 400 * (j : Int) ∧ Blk wr (w.heap.size + 1) 25 #[.slice A1 ms.length c1, .slice A2 ns.length c2] ∧ Below w.heap.size w wr) (fun _ _ c27 _ => ms.length - (intOf c27).toNat)
        case atStart => exact ⟨0, N, Nat.zero_le _, rfl, rfl, hN0, by omega, Q, hb⟩
        case round =>
          clear Q hb
          obtain ⟨j, N2, hj, rfl, rfl, hN20, hN21, Q2, hb2⟩ := hrel
          by_cases hlt : j < ms.length
          · obtain ⟨b0, off, hA, hbl, hcell⟩ := H10.out.at_ j hlt
            subst hA
            obtain ⟨y, hy⟩ : ∃ y : ByteArray, y = ⟨ms[j].1.toArray⟩ := ⟨_, rfl⟩
            obtain ⟨q, hq⟩ : ∃ q, q = ms[j].2 := ⟨_, rfl⟩
            have c0 : wr.cell? ⟨b0, off + j * 2, none⟩ = some (.string y) := by rw [hb2.cell (by show b0 < _; omega), hy]; simpa [LT] using hcell 0 _ rfl
            have c1' : wr.cell? ⟨b0, off + j * 2 + 1, none⟩ = some (.bool q) := by rw [hb2.cell (by show b0 < _; omega), hq]; simpa [LT] using hcell 1 _ rfl
            have hbz := hb2.size
            clear hcell hy hq
            by_cases h400 : 400 < y.size
            · have d400 : decide ((y.size : Int) > 400) = true := decide_eq_true (by omega)
              go_wp2_with fail
              go_ret
              exact ⟨false, rfl, hb2.alloc hbz _⟩
            · have d400 : decide ((y.size : Int) > 400) = false := decide_eq_false (by omega)
              have Q3 := Q2.alloc (.cells #[.string y, .bool q] 27)
              go_wp2_with fail
              go_roundw
              case rel => exact ⟨j + 1, N2 + (y.size : Int), by omega, by go_num, rfl, by omega, by push_cast; omega, Q3, hb2.alloc hbz _⟩
              case measure => simp [intOf] <;> omega
          · obtain rfl : j = ms.length := by omega
            go_wp2_with fail
            go_roundw
            case rel => exact ⟨1, N2, by omega, rfl, rfl, by omega, by omega, Q2, hb2⟩
            case measure => simp [intOf]
    · have cQ := Q.cell
      by_cases h40 : 40 < ns.length
      · have d40 : decide ((ns.length : Int) > 40) = true := decide_eq_true (by omega)
        go_wp2_with fail
        go_ret
        exact ⟨false, rfl, hb⟩
      · have d40 : decide ((ns.length : Int) > 40) = false := decide_eq_false (by omega)
        go_wp2_with fail
        clear cQ
        obtain ⟨wo, hwo⟩ : ∃ wo : World, wo = wr := ⟨_, rfl⟩
        rw [← hwo] at Q hb ⊢
        clear hwo
        go_loopw [3, 7, 27] (fun c3 c7 c27 wr => ∃ (j : Nat) (N2 : Int), j ≤ ns.length ∧ c27 = .int .i64 (j : Int) ∧ c3 = .int .i64 N2 ∧ 0 ≤ N2 ∧ N2 ≤ N + 400 * (j : Int) ∧ Blk wr (w.heap.size + 1) 25 #[.slice A1 ms.length c1, .slice A2 ns.length c2] ∧ Below w.heap.size w wr) (fun _ _ c27 _ => ns.length - (intOf c27).toNat)
        case atStart => exact ⟨0, N, Nat.zero_le _, rfl, rfl, hN0, by omega, Q, hb⟩
        case round =>
          clear Q hb
          obtain ⟨j, N2, hj, rfl, rfl, hN20, hN21, Q2, hb2⟩ := hrel
          by_cases hlt : j < ns.length
          · obtain ⟨b0, off, hA, hbl, hcell⟩ := H20.out.at_ j hlt
            subst hA
            obtain ⟨y, hy⟩ : ∃ y : ByteArray, y = ⟨ns[j].1.toArray⟩ := ⟨_, rfl⟩
            obtain ⟨q, hq⟩ : ∃ q, q = ns[j].2 := ⟨_, rfl⟩
            have c0 : wr.cell? ⟨b0, off + j * 2, none⟩ = some (.string y) := by rw [hb2.cell (by show b0 < _; omega), hy]; simpa [LT] using hcell 0 _ rfl
            have c1' : wr.cell? ⟨b0, off + j * 2 + 1, none⟩ = some (.bool q) := by rw [hb2.cell (by show b0 < _; omega), hq]; simpa [LT] using hcell 1 _ rfl
            have hbz := hb2.size
            clear hcell hy hq
            by_cases h400 : 400 < y.size
            · have d400 : decide ((y.size : Int) > 400) = true := decide_eq_true (by omega)
              go_wp2_with fail
              go_ret
              exact ⟨false, rfl, hb2.alloc hbz _⟩
            · have d400 : decide ((y.size : Int) > 400) = false := decide_eq_false (by omega)
              have Q3 := Q2.alloc (.cells #[.string y, .bool q] 27)
              go_wp2_with fail
              go_roundw
              case rel => exact ⟨j + 1, N2 + (y.size : Int), by omega, by go_num, rfl, by omega, by push_cast; omega, Q3, hb2.alloc hbz _⟩
              case measure => simp [intOf] <;> omega
          · obtain rfl : j = ns.length := by omega
            go_wp2_with fail
            go_roundw
            case rel => exact ⟨2, N2, by omega, rfl, rfl, by omega, by omega, Q2, hb2⟩
            case measure => simp [intOf]
    · by_cases h4 : N ≤ 400
      · have d4 : decide (N ≤ 400) = true := decide_eq_true h4
        go_wp2_with fail
        go_ret
        exact ⟨_, rfl, hb⟩
      · have d4 : decide (N ≤ 400) = false := decide_eq_false h4
        go_wp2_with fail
        go_ret
        exact ⟨_, rfl, hb⟩

theorem ofV_flag (b : Bool) (n v m : Bs) : ofV (flagF b (n, v)) m = if (b && alikeB n m) = true then [v] else [] := by
  cases b
  · rfl
  · rw [flagF_yes, ofV_one]; rfl
theorem ofV_fields (ms ns : List TagL) (am an : Bool) (si un : Int) (x : ByteArray) (rb : Bool) (du ds m : Bs) : ofV (fieldsC ms ns am an si un x rb du ds) m =
    ((((if ((decide (0 < ms.length) || am) && alikeB namM m) = true then [textsB ms am] else []) ++ (if (decide (0 ≤ un) && alikeB namU m) = true then [du] else [])) ++ (if ((decide (0 < ns.length) || an) && alikeB namN m) = true then [textsB ns an] else [])) ++ (if (decide (0 ≤ si) && alikeB namS m) = true then [ds] else [])) ++ (if (someTag (x, rb) && alikeB namR m) = true then [textB (x.data.toList, rb)] else []) := by
  unfold fieldsC
  rw [List.nil_append, ofV_app, ofV_app, ofV_app, ofV_app, ofV_flag, ofV_flag, ofV_flag, ofV_flag, ofV_flag]
theorem alike_mm : alikeB namM namM = true := by decide
theorem alike_mn : alikeB namM namN = false := by decide
theorem alike_mu : alikeB namM namU = false := by decide
theorem alike_ms : alikeB namM namS = false := by decide
theorem alike_mr : alikeB namM namR = false := by decide
theorem alike_nm : alikeB namN namM = false := by decide
theorem alike_nn : alikeB namN namN = true := by decide
theorem alike_nu : alikeB namN namU = false := by decide
theorem alike_ns : alikeB namN namS = false := by decide
theorem alike_nr : alikeB namN namR = false := by decide
theorem alike_um : alikeB namU namM = false := by decide
theorem alike_un : alikeB namU namN = false := by decide
theorem alike_uu : alikeB namU namU = true := by decide
theorem alike_us : alikeB namU namS = false := by decide
theorem alike_ur : alikeB namU namR = false := by decide
theorem alike_sm : alikeB namS namM = false := by decide
theorem alike_sn : alikeB namS namN = false := by decide
theorem alike_su : alikeB namS namU = false := by decide
theorem alike_ss : alikeB namS namS = true := by decide
theorem alike_sr : alikeB namS namR = false := by decide
theorem alike_rm : alikeB namR namM = false := by decide
theorem alike_rn : alikeB namR namN = false := by decide
theorem alike_ru : alikeB namR namU = false := by decide
theorem alike_rs : alikeB namR namS = false := by decide
theorem alike_rr : alikeB namR namR = true := by decide
theorem of_m (ms ns : List TagL) (am an : Bool) (si un : Int) (x : ByteArray) (rb : Bool) (du ds : Bs) : ofV (fieldsC ms ns am an si un x rb du ds) namM = if (decide (0 < ms.length) || am) = true then [textsB ms am] else [] := by
  rw [ofV_fields, alike_mm, alike_um, alike_nm, alike_sm, alike_rm]; simp
theorem of_u (ms ns : List TagL) (am an : Bool) (si un : Int) (x : ByteArray) (rb : Bool) (du ds : Bs) : ofV (fieldsC ms ns am an si un x rb du ds) namU = if (decide (0 ≤ un)) = true then [du] else [] := by
  rw [ofV_fields, alike_mu, alike_uu, alike_nu, alike_su, alike_ru]; simp
theorem of_n (ms ns : List TagL) (am an : Bool) (si un : Int) (x : ByteArray) (rb : Bool) (du ds : Bs) : ofV (fieldsC ms ns am an si un x rb du ds) namN = if (decide (0 < ns.length) || an) = true then [textsB ns an] else [] := by
  rw [ofV_fields, alike_mn, alike_un, alike_nn, alike_sn, alike_rn]; simp
theorem of_s (ms ns : List TagL) (am an : Bool) (si un : Int) (x : ByteArray) (rb : Bool) (du ds : Bs) : ofV (fieldsC ms ns am an si un x rb du ds) namS = if (decide (0 ≤ si)) = true then [ds] else [] := by
  rw [ofV_fields, alike_ms, alike_us, alike_ns, alike_ss, alike_rs]; simp
theorem of_r (ms ns : List TagL) (am an : Bool) (si un : Int) (x : ByteArray) (rb : Bool) (du ds : Bs) : ofV (fieldsC ms ns am an si un x rb du ds) namR = if (someTag (x, rb)) = true then [textB (x.data.toList, rb)] else [] := by
  rw [ofV_fields, alike_mr, alike_ur, alike_nr, alike_sr, alike_rr]; simp

theorem tags_back {ms : List TagL} {am : Bool} (h : soleC ms am = true) (g : fewC ms = true) : tagsV (if (decide (0 < ms.length) || am) = true then [textsB ms am] else []) = ⟨am, 0, ms⟩ := by
  unfold fewC at g
  simp only [Bool.and_eq_true, decide_eq_true_eq] at g
  cases am
  · cases ms with
    | nil => rfl
    | cons t ts =>
      rw [if_pos (by simp), tagsV_cons (by simp), Lib.join_one, list_texts (fun t ht => List.all_eq_true.1 g.2 t ht)]
      have e : listR (some (t :: ts)) = ⟨false, 0, t :: ts⟩ := by
        have h64 : ¬ 64 < (t :: ts).length := by have := g.1; omega
        show (if (t :: ts).isEmpty = true then (⟨false, 2, []⟩ : ListR) else if 64 < (t :: ts).length then ⟨false, 4, []⟩ else ⟨false, 0, t :: ts⟩) = _
        rw [if_neg (by simp), if_neg h64]
      rw [e, if_neg (fun hh => by have := g.1; have h2 : 32 < (t :: ts).length := hh.2; omega)]
  · have hm : ms = [] := by
      unfold soleC at h
      cases ms with
      | nil => rfl
      | cons t ts => simp at h
    subst hm
    rw [if_pos (by simp), tagsV_cons (by simp), Lib.join_one, show listB (textsB [] true) = ⟨true, 0, []⟩ by kernel_rfl]
    rfl
theorem tick_back {t n : Int} {d : Bs} (h : tickC t = true) (hd : DateOk t d) (hn : TickIs (if (decide (0 ≤ t)) = true then [d] else []) n) : n = t := by
  unfold tickC at h
  rw [decide_eq_true_eq] at h
  by_cases h0 : 0 ≤ t
  · rw [if_pos (decide_eq_true h0)] at hn
    rcases hd with hd | hd
    · omega
    · exact hn.uniq (.inr ⟨d, rfl, .inl ⟨h0, by omega, hd⟩⟩)
  · rw [if_neg (by simpa using h0)] at hn
    have : t = -1 := by omega
    rw [this]
    exact hn.uniq (.inl ⟨rfl, rfl⟩)
theorem range_back {x : ByteArray} {rb : Bool} (h : rangeC x = true) : rangeV (if someTag (x, rb) = true then [textB (x.data.toList, rb)] else []) = (x.data.toList, rb) := by
  by_cases hx : x = ⟨#[]⟩
  · subst hx
    cases rb
    · rw [some_zero]; rfl
    · rw [some_weak]; rfl
  · rw [some_text hx, if_pos rfl]
    have hok : tagOk x = true := by
      unfold rangeC at h
      rw [empty_no hx] at h; simpa using h
    unfold rangeV
    simp only [List.head?_cons]
    rw [parse_text (t := (x.data.toList, rb)) (by rw [← tagOk_L]; exact hok)]; rfl
theorem back_of {ms ns : List TagL} {am an : Bool} {si un : Int} {x : ByteArray} {rb : Bool} {du ds : Bs} {c : CondM} {e : Nat} (h : rightC ms ns am an si un x = true) (hu : DateOk un du) (hs : DateOk si ds) (hc : CondIs (fieldsC ms ns am an si un x rb du ds) c e) :
    c = ⟨ms, ns, am, an, si, un, (x.data.toList, rb)⟩ ∧ e = 0 := by
  unfold rightC at h
  simp only [Bool.and_eq_true] at h
  obtain ⟨⟨⟨⟨⟨⟨h1, h2⟩, h3⟩, h4⟩, h5⟩, h6⟩, h7⟩ := h
  unfold CondIs at hc
  rw [of_m, of_n, of_u, of_s, of_r, tags_back h1 h3, tags_back h2 h4, range_back h7] at hc
  rcases hc with ⟨a, _⟩ | ⟨_, a, _⟩ | ⟨_, _, he, si', un', ku, ks, rfl⟩
  · simp at a
  · simp at a
  · rw [tick_back h5 hs ks, tick_back h6 hu ku]; exact ⟨rfl, he⟩
theorem date_flag {t : Int} {d d' n : Bs} (h : DateOk t d) (g : DateOk t d') : flagF (decide (0 ≤ t)) (n, d) = flagF (decide (0 ≤ t)) (n, d') := by
  rcases h with h | h
  · rw [decide_eq_false (by omega)]; rfl
  · rcases g with g | g
    · rw [decide_eq_false (by omega)]; rfl
    · have := h.uniq g
      have e : d = d' := by simpa using congrArg (fun b : ByteArray => b.data.toList) this
      rw [e]
theorem fields_one {ms ns : List TagL} {am an : Bool} {si un : Int} {x : ByteArray} {rb : Bool} {du ds du' ds' : Bs} (hu : DateOk un du) (hs : DateOk si ds) (hu' : DateOk un du') (hs' : DateOk si ds') : fieldsC ms ns am an si un x rb du' ds' = fieldsC ms ns am an si un x rb du ds := by
  unfold fieldsC; rw [date_flag hu' hu, date_flag hs' hs]
theorem textsAux_len : ∀ (l : List TagL) (b : Bool) (r : Bs), textsAux b l = some r → r.length ≤ l.length * 106
  | [], _, r, h => by simp [textsAux] at h; subst h; simp
  | t :: ts, b, r, h => by
    unfold textsAux at h
    split at h
    · obtain ⟨q, hq, rfl⟩ := Option.map_eq_some_iff.1 h
      have := textsAux_len ts false q hq
      have := textB_len t
      simp only [List.length_append, List.length_cons]
      split <;> simp <;> omega
    · cases h
theorem textsB_len (l : List TagL) (b : Bool) : (textsB l b).length ≤ l.length * 106 + 1 := by
  unfold textsB
  split
  · simp
  · cases h : textsAux true l with
    | none => simp
    | some r => have := textsAux_len l true r h; simp; omega
theorem textL_len {t : Int} {d : Bs} (h : IsText t ⟨d.toArray⟩) : d.length ≤ 1000 := by
  have := (parse_says h).1
  rw [← lsize] at this
  have e : d.length = 29 := this
  omega
theorem sumF_flag (b : Bool) (n v : Bs) : sumF (flagF b (n, v)) ≤ n.length + v.length := by cases b <;> simp [flagF, sumF]
theorem fields_small {ms ns : List TagL} {am an : Bool} {si un : Int} {x : ByteArray} {rb : Bool} {du ds : Bs} (h : rightC ms ns am an si un x = true) (hu : DateOk un du) (hs : DateOk si ds) : (fieldsC ms ns am an si un x rb du ds).length ≤ 5 ∧ sumF (fieldsC ms ns am an si un x rb du ds) ≤ 900000 := by
  obtain ⟨k1, k2, _, _⟩ := rightC_in h
  have D : ∀ {t : Int} {d n : Bs}, DateOk t d → sumF (flagF (decide (0 ≤ t)) (n, d)) ≤ n.length + 1000 := fun {t d n} hd => by
    rcases hd with hd | hd
    · rw [decide_eq_false (by omega)]; simp [flagF, sumF]
    · have := textL_len hd
      have := sumF_flag (decide (0 ≤ t)) n d
      omega
  unfold fieldsC
  refine ⟨?_, ?_⟩
  · simp only [List.length_append, List.length_nil]
    have := flagF_len (decide (0 < ms.length) || am) (namM, textsB ms am)
    have := flagF_len (decide (0 ≤ un)) (namU, du)
    have := flagF_len (decide (0 < ns.length) || an) (namN, textsB ns an)
    have := flagF_len (decide (0 ≤ si)) (namS, ds)
    have := flagF_len (someTag (x, rb)) (namR, textB (x.data.toList, rb))
    omega
  · rw [List.nil_append, sumF_app, sumF_app, sumF_app, sumF_app]
    have := sumF_flag (decide (0 < ms.length) || am) namM (textsB ms am)
    have := sumF_flag (decide (0 < ns.length) || an) namN (textsB ns an)
    have := sumF_flag (someTag (x, rb)) namR (textB (x.data.toList, rb))
    have := D (n := namU) hu
    have := D (n := namS) hs
    have := textsB_len ms am
    have := textsB_len ns an
    have := textB_len (x.data.toList, rb)
    have e1 : namM.length = 8 := rfl
    have e2 : namN.length = 13 := rfl
    have e3 : namU.length = 19 := rfl
    have e4 : namS.length = 17 := rfl
    have e5 : namR.length = 8 := rfl
    omega

end Go.Proofs.YtkmheoolekookaaDoor
