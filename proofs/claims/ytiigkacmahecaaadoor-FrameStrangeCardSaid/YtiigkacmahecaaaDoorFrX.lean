/-
  The items of one value: the reference.
-/
import Derived.Test.YtiigkacmahecaaaDoorGrFr
import Derived.Test.YtiigkacmahecaaaDoorFrT
import Derived.Test.YtiigkacmahecaaaDoorGrF
import Derived.Test.YtiigkacmahecaaaDoorGrU
namespace Go.Proofs.YtiigkacmahecaaaDoor
open Go.RowKit
set_option linter.unusedVariables false
set_option linter.unusedSimpArgs false

theorem itemsR_cons (q n : Bool) (cur : Bs) (b : UInt8) (r : Bs) : itemsR q n cur (b :: r) = if b = 44 ∧ q = false then trimB cur :: itemsR false n [] r else itemsR (qtQ q n b) (qtN q n b) (cur ++ [b]) r := by rw [itemsR]
theorem ext_one (s : ByteArray) (k : Nat) (h : k < s.size) : (s.extract k (k + 1)).data.toList = [s[k]] := by
  rw [Lib.extract_data, show k + 1 - k = 1 by omega, List.drop_eq_getElem_cons (show k < s.data.toList.length by rw [lsize]; exact h)]
  rfl
theorem qt_next (q : Bool) (b : UInt8) : qtQ q true b = q ∧ qtN q true b = false := ⟨rfl, rfl⟩
theorem qt_esc (b : UInt8) (h : b = 92) : qtQ true false b = true ∧ qtN true false b = true := by subst h; exact ⟨rfl, rfl⟩
theorem qt_quote (q : Bool) (b : UInt8) (h : b = 34) : qtQ q false b = !q ∧ qtN q false b = false := by subst h; cases q <;> exact ⟨rfl, rfl⟩
theorem qt_other (q : Bool) (b : UInt8) (h : q = false ∨ b ≠ 92) (h34 : b ≠ 34) : qtQ q false b = q ∧ qtN q false b = false := by
  have e1 : (q && b == 92) = false := by
    rcases h with h9 | h9
    · rw [h9]; rfl
    · rw [beq_eq_false_iff_ne.2 h9, Bool.and_false]
  unfold qtQ qtN
  rw [e1]
  simp [h34]

set_option maxRecDepth 100000 in
set_option maxHeartbeats 8000000 in
theorem ritems_any (s : ByteArray) (w : World) (hs : s.size ≤ 999999) : Calls Tryd.prog 49 #[.string s] w (StrsOk (itemsR false false [] s.data.toList) w) := by
  go_enter Tryd.func49, Tryd.ntmps49
  go_wp2
  go_loopw [3, 4, 5, 6, 7] (fun c3 c4 c5 c6 c7 wr => ∃ (k : Nat) (V : Value) (M : List Bs) (cur : ByteArray) (q n : Bool), k ≤ s.size ∧ V = c3 ∧ c4 = .string cur ∧ c5 = .bool q ∧ c6 = .bool n ∧ c7 = .int .i64 (k : Int) ∧ Hid (OwnL LW w.heap.size wr V M) ∧ Hid (M ++ itemsR q n cur.data.toList (s.data.toList.drop k) = itemsR false false [] s.data.toList) ∧ cur.size ≤ k ∧ M.length ≤ k ∧ Below w.heap.size w wr) (fun _ _ _ _ c7 _ => s.size - (intOf c7).toNat)
  case atStart => exact ⟨0, _, [], ⟨#[]⟩, false, false, Nat.zero_le _, rfl, rfl, rfl, rfl, rfl, OwnL.nil _ _ _, rfl, Nat.le_refl 0, Nat.le_refl 0, Below.refl _ _⟩
  case round =>
    obtain ⟨k, V, M, cur, q, n, hk, rfl, rfl, rfl, rfl, rfl, HO, HI, hcur, hM, hb⟩ := hrel
    by_cases hlt : k < s.size
    · have hx1 : (s.extract k (k + 1)).data.toList = [s[k]] := ext_one s k hlt
      have hdr : s.data.toList.drop k = s[k] :: s.data.toList.drop (k + 1) := List.drop_eq_getElem_cons (by rw [lsize]; exact hlt)
      by_cases n44 : s[k] = 44
      · have e44 : ((s[k].toNat : Int) == 44) = true := by rw [n44]; rfl
        cases q
        · have HI2 := HI.out
          rw [hdr, itemsR_cons, if_pos ⟨n44, rfl⟩] at HI2
          clear HI hdr hx1
          obtain ⟨A5, k5, hv5, _, _⟩ := HO.out.rd.form
          subst hv5
          go_wp2_with fail
          refine (r7trim_at cur wr (by omega)).mono ?_
          rintro e w' ⟨t, ht, rfl, rfl⟩
          have R5 := hide (show RdL LW (wr.alloc (.cells #[.string t] 9)) (wr.heap.size + 1) (.slice (some ⟨wr.heap.size, 0, none⟩) 1 1) [t.data.toList] by
            have := RdL.one_ (L := LW) (x := t.data.toList) (Blk.new wr 9 #[.string t]) (by simp [LW])
            simpa using this)
          go_wp2_with (at_builtin; refine wpList_appL LW w (by rfl) (.tmp 22) (.tmp 25) _ _ (by rfl) rfl rfl w.heap.size _ _ (by rfl) (HO.out.alloc _) (hb.alloc hb.size _) (Nat.le_trans hb.size (by simp)) _ [t.data.toList] _ (by rfl) R5.out (by decide) (by rw [List.length_singleton]; omega) ?_; intro v7 w7 O7 hB7 _ _)
          have HS := hide (show (M ++ [t.data.toList]) ++ itemsR false n [] (s.data.toList.drop (k + 1)) = itemsR false false [] s.data.toList by rw [ht, List.append_assoc]; exact HI2)
          clear HI2 R5 HO
          obtain ⟨A7, k7, hv7, _, _⟩ := O7.rd.form
          subst hv7
          go_wp2_with fail
          go_roundw
          case rel => exact ⟨k + 1, _, M ++ [t.data.toList], ⟨#[]⟩, false, n, by omega, rfl, rfl, rfl, rfl, by go_num, O7, HS, (show ByteArray.size ⟨#[]⟩ ≤ k + 1 from Nat.zero_le _), by rw [List.length_append, List.length_singleton]; omega, hB7⟩
          case measure => simp [intOf] <;> omega
        · have HI2 := HI.out
          rw [hdr, itemsR_cons, if_neg (fun h => by cases h.2)] at HI2
          clear HI hdr
          obtain ⟨cur2, HC1, HC2, hadd⟩ := add_named cur (s.extract k (k + 1)) k 1 hcur (by rw [← lsize, hx1]; exact Nat.le_refl 1) (by omega)
          have hc2 : cur2.data.toList = cur.data.toList ++ [s[k]] := by rw [HC1.out, hx1]
          rw [← hc2] at HI2
          clear hc2
          cases n
          · have e92 : ((s[k].toNat : Int) == 92) = false := by rw [n44]; rfl
            have e34 : ((s[k].toNat : Int) == 34) = false := by rw [n44]; rfl
            have HS := hide (show M ++ itemsR true false cur2.data.toList (s.data.toList.drop (k + 1)) = itemsR false false [] s.data.toList by have := HI2; rw [(qt_other true s[k] (.inr (by rw [n44]; decide)) (by rw [n44]; decide)).1, (qt_other true s[k] (.inr (by rw [n44]; decide)) (by rw [n44]; decide)).2] at this; exact this)
            clear HI2
            go_wp2_with fail
            go_roundw
            case rel => exact ⟨k + 1, _, M, cur2, true, false, by omega, rfl, rfl, rfl, rfl, by go_num, HO, HS, by have := HC2.out; omega, by omega, hb⟩
            case measure => simp [intOf] <;> omega
          · have HS := hide (show M ++ itemsR true false cur2.data.toList (s.data.toList.drop (k + 1)) = itemsR false false [] s.data.toList by have := HI2; rw [(qt_next true s[k]).1, (qt_next true s[k]).2] at this; exact this)
            clear HI2
            go_wp2_with fail
            go_roundw
            case rel => exact ⟨k + 1, _, M, cur2, true, false, by omega, rfl, rfl, rfl, rfl, by go_num, HO, HS, by have := HC2.out; omega, by omega, hb⟩
            case measure => simp [intOf] <;> omega
      · have e44 : ((s[k].toNat : Int) == 44) = false := by rw [beq_eq_false_iff_ne]; exact fun h => n44 (UInt8.toNat_inj.1 (by show s[k].toNat = 44; omega))
        cases q
        · have HI2 := HI.out
          rw [hdr, itemsR_cons, if_neg (fun h => n44 h.1)] at HI2
          clear HI hdr
          obtain ⟨cur2, HC1, HC2, hadd⟩ := add_named cur (s.extract k (k + 1)) k 1 hcur (by rw [← lsize, hx1]; exact Nat.le_refl 1) (by omega)
          have hc2 : cur2.data.toList = cur.data.toList ++ [s[k]] := by rw [HC1.out, hx1]
          rw [← hc2] at HI2
          clear hc2
          cases n
          · by_cases n34 : s[k] = 34
            · have e34 : ((s[k].toNat : Int) == 34) = true := by rw [n34]; rfl
              have HS := hide (show M ++ itemsR (!false) false cur2.data.toList (s.data.toList.drop (k + 1)) = itemsR false false [] s.data.toList by have := HI2; rw [(qt_quote false s[k] n34).1, (qt_quote false s[k] n34).2] at this; exact this)
              clear HI2 n34
              go_wp2_with fail
              go_roundw
              case rel => exact ⟨k + 1, _, M, cur2, true, false, by omega, rfl, rfl, rfl, rfl, by go_num, HO, HS, by have := HC2.out; omega, by omega, hb⟩
              case measure => simp [intOf] <;> omega
            · have e34 : ((s[k].toNat : Int) == 34) = false := by rw [beq_eq_false_iff_ne]; exact fun h => n34 (UInt8.toNat_inj.1 (by show s[k].toNat = 34; omega))
              have HS := hide (show M ++ itemsR false false cur2.data.toList (s.data.toList.drop (k + 1)) = itemsR false false [] s.data.toList by have := HI2; rw [(qt_other false s[k] (.inl rfl) n34).1, (qt_other false s[k] (.inl rfl) n34).2] at this; exact this)
              clear HI2 n34
              go_wp2_with fail
              go_roundw
              case rel => exact ⟨k + 1, _, M, cur2, false, false, by omega, rfl, rfl, rfl, rfl, by go_num, HO, HS, by have := HC2.out; omega, by omega, hb⟩
              case measure => simp [intOf] <;> omega
          · have HS := hide (show M ++ itemsR false false cur2.data.toList (s.data.toList.drop (k + 1)) = itemsR false false [] s.data.toList by have := HI2; rw [(qt_next false s[k]).1, (qt_next false s[k]).2] at this; exact this)
            clear HI2
            go_wp2_with fail
            go_roundw
            case rel => exact ⟨k + 1, _, M, cur2, false, false, by omega, rfl, rfl, rfl, rfl, by go_num, HO, HS, by have := HC2.out; omega, by omega, hb⟩
            case measure => simp [intOf] <;> omega
        · have HI2 := HI.out
          rw [hdr, itemsR_cons, if_neg (fun h => n44 h.1)] at HI2
          clear HI hdr
          obtain ⟨cur2, HC1, HC2, hadd⟩ := add_named cur (s.extract k (k + 1)) k 1 hcur (by rw [← lsize, hx1]; exact Nat.le_refl 1) (by omega)
          have hc2 : cur2.data.toList = cur.data.toList ++ [s[k]] := by rw [HC1.out, hx1]
          rw [← hc2] at HI2
          clear hc2
          cases n
          · by_cases n92 : s[k] = 92
            · have e92 : ((s[k].toNat : Int) == 92) = true := by rw [n92]; rfl
              have HS := hide (show M ++ itemsR true true cur2.data.toList (s.data.toList.drop (k + 1)) = itemsR false false [] s.data.toList by have := HI2; rw [(qt_esc s[k] n92).1, (qt_esc s[k] n92).2] at this; exact this)
              clear HI2 n92
              go_wp2_with fail
              go_roundw
              case rel => exact ⟨k + 1, _, M, cur2, true, true, by omega, rfl, rfl, rfl, rfl, by go_num, HO, HS, by have := HC2.out; omega, by omega, hb⟩
              case measure => simp [intOf] <;> omega
            · have e92 : ((s[k].toNat : Int) == 92) = false := by rw [beq_eq_false_iff_ne]; exact fun h => n92 (UInt8.toNat_inj.1 (by show s[k].toNat = 92; omega))
              by_cases n34 : s[k] = 34
              · have e34 : ((s[k].toNat : Int) == 34) = true := by rw [n34]; rfl
                have HS := hide (show M ++ itemsR (!true) false cur2.data.toList (s.data.toList.drop (k + 1)) = itemsR false false [] s.data.toList by have := HI2; rw [(qt_quote true s[k] n34).1, (qt_quote true s[k] n34).2] at this; exact this)
                clear HI2 n34
                go_wp2_with fail
                go_roundw
                case rel => exact ⟨k + 1, _, M, cur2, false, false, by omega, rfl, rfl, rfl, rfl, by go_num, HO, HS, by have := HC2.out; omega, by omega, hb⟩
                case measure => simp [intOf] <;> omega
              · have e34 : ((s[k].toNat : Int) == 34) = false := by rw [beq_eq_false_iff_ne]; exact fun h => n34 (UInt8.toNat_inj.1 (by show s[k].toNat = 34; omega))
                have HS := hide (show M ++ itemsR true false cur2.data.toList (s.data.toList.drop (k + 1)) = itemsR false false [] s.data.toList by have := HI2; rw [(qt_other true s[k] (.inr n92) n34).1, (qt_other true s[k] (.inr n92) n34).2] at this; exact this)
                clear HI2 n34
                go_wp2_with fail
                go_roundw
                case rel => exact ⟨k + 1, _, M, cur2, true, false, by omega, rfl, rfl, rfl, rfl, by go_num, HO, HS, by have := HC2.out; omega, by omega, hb⟩
                case measure => simp [intOf] <;> omega
          · have HS := hide (show M ++ itemsR true false cur2.data.toList (s.data.toList.drop (k + 1)) = itemsR false false [] s.data.toList by have := HI2; rw [(qt_next true s[k]).1, (qt_next true s[k]).2] at this; exact this)
            clear HI2
            go_wp2_with fail
            go_roundw
            case rel => exact ⟨k + 1, _, M, cur2, true, false, by omega, rfl, rfl, rfl, rfl, by go_num, HO, HS, by have := HC2.out; omega, by omega, hb⟩
            case measure => simp [intOf] <;> omega
    · obtain rfl : k = s.size := by omega
      have HI2 := HI.out
      rw [List.drop_of_length_le (by rw [lsize]; exact Nat.le_refl _)] at HI2
      obtain ⟨A5, k5, hv5, _, _⟩ := HO.out.rd.form
      subst hv5
      go_wp2_with fail
      refine (r7trim_at cur wr (by omega)).mono ?_
      rintro e w' ⟨t, ht, rfl, rfl⟩
      have R5 := hide (show RdL LW (wr.alloc (.cells #[.string t] 9)) (wr.heap.size + 1) (.slice (some ⟨wr.heap.size, 0, none⟩) 1 1) [t.data.toList] by
        have := RdL.one_ (L := LW) (x := t.data.toList) (Blk.new wr 9 #[.string t]) (by simp [LW])
        simpa using this)
      go_wp2_with (at_builtin; refine wpList_appL LW w (by rfl) (.tmp 48) (.tmp 51) _ _ (by rfl) rfl rfl w.heap.size _ _ (by rfl) (HO.out.alloc _) (hb.alloc hb.size _) (Nat.le_trans hb.size (by simp)) _ [t.data.toList] _ (by rfl) R5.out (by decide) (by rw [List.length_singleton]; omega) ?_; intro v7 w7 O7 hB7 _ _)
      obtain ⟨A7, k7, hv7, _, _⟩ := O7.rd.form
      subst hv7
      go_ret
      exact ⟨_, rfl, by rw [← HI2]; show OwnL LW _ _ _ (M ++ [trimB cur.data.toList]); rw [← ht]; exact O7, hB7⟩

set_option maxRecDepth 100000 in
set_option maxHeartbeats 8000000 in
theorem ritemsAll_any (v : Value) (vs : List Bs) (w : World) (hr : RdL LW w w.heap.size v vs) (hz : ∀ x ∈ vs, x.length ≤ 12000) (hvl : vs.length ≤ 1000) : Calls Tryd.prog 32 #[v] w (StrsOk (itemsV vs) w) := by
  obtain ⟨A, c, rfl, hlc, hc⟩ := hr.form
  have HR := hide hr
  clear hr
  go_enter Tryd.func32, Tryd.ntmps32
  go_wp2_with fail
  go_loopw [3, 5, 7, 10] (fun c3 _ _ c10 wr => ∃ (k : Nat) (V : Value), k ≤ vs.length ∧ V = c3 ∧ c10 = .int .i64 (k : Int) ∧ Hid (OwnL LW w.heap.size wr V (itemsV (vs.take k))) ∧ Below w.heap.size w wr) (fun _ _ _ c10 _ => vs.length - (intOf c10).toNat)
  case atStart => exact ⟨0, _, Nat.zero_le _, rfl, rfl, OwnL.nil _ _ _, Below.refl _ _⟩
  case round =>
    obtain ⟨k, V, hk, rfl, rfl, HO, hb⟩ := hrel
    by_cases hlt : k < vs.length
    · obtain ⟨b0, off, hA, hb0, c0⟩ := HR.out.text k hlt
      subst hA
      obtain ⟨s, hsx⟩ : ∃ s : ByteArray, s = ⟨vs[k].toArray⟩ := ⟨_, rfl⟩
      rw [← hsx] at c0
      have hsl : s.data.toList = vs[k] := by rw [hsx]
      have hs : s.size ≤ 999999 := by rw [← lsize, hsl]; exact Nat.le_trans (hz _ (List.getElem_mem hlt)) (by decide)
      have d0 : wr.cell? ⟨b0, off + k, none⟩ = some (.string s) := by rw [hb.cell (show b0 < w.heap.size from hb0)]; exact c0
      clear hsx c0
      obtain ⟨A5, k5, hv5, _, _⟩ := HO.out.rd.form
      subst hv5
      go_wp2_with fail
      refine (ritems_any s wr hs).mono ?_
      rintro e w1 ⟨v1, rfl, O1, hb1⟩
      obtain ⟨it, hit⟩ : ∃ x, x = itemsR false false [] s.data.toList := ⟨_, rfl⟩
      rw [← hit] at O1
      have hil : it.length ≤ 1000000 := by rw [hit]; have := itemsR_len s.data.toList false false []; rw [lsize] at this; omega
      have hstep : itemsV (vs.take (k + 1)) = itemsV (vs.take k) ++ it.filter (fun x => !x.isEmpty) := by rw [itemsV_step hlt, hit, hsl]
      have HST := hide hstep
      have hivl : (itemsV (vs.take k)).length ≤ 100000000 := by have := itemsV_lenM 12000 (vs.take k) (fun x hx => hz x (List.mem_of_mem_take hx)); rw [List.length_take] at this; have h3 : min k vs.length * (12000 + 1) ≤ 1000 * (12000 + 1) := Nat.mul_le_mul_right _ (by omega); omega
      obtain ⟨Ai, ci, hvi, _, _⟩ := O1.rd.form
      subst hvi
      have hB1 := hb.trans (hb1.mono hb.size)
      have HO1 := hide (HO.out.below hb1 (Nat.le_refl _))
      obtain ⟨bb, hbb⟩ : ∃ n, n = wr.heap.size := ⟨_, rfl⟩
      rw [← hbb] at O1
      have HR1 := hide O1
      have HAP := hide (show ∀ g, (Value.slice A5 (itemsV (vs.take k)).length k5).ownBlock = some g → (Value.slice Ai it.length ci).ownBlock ≠ some g from fun g h1 h2 => by have a := (HO.out.lt g h1).2; have b := (O1.lt g h2).1; rw [hbb] at b; omega)
      clear hit hstep HO hb O1 hb1 d0 hsl hbb
      go_wp2_with fail
      go_loopw [3, 7, 17] (fun c3 _ c17 wx => ∃ (j : Nat) (V : Value), j ≤ it.length ∧ V = c3 ∧ c17 = .int .i64 (j : Int) ∧ Hid (OwnL LW w.heap.size wx V (itemsV (vs.take k) ++ (it.take j).filter (fun x => !x.isEmpty))) ∧ Below w.heap.size w wx ∧ Hid (OwnL LW bb wx (.slice Ai it.length ci) it) ∧ Hid (∀ g, V.ownBlock = some g → (Value.slice Ai it.length ci).ownBlock ≠ some g)) (fun _ _ c17 _ => it.length - (intOf c17).toNat)
      case atStart => exact ⟨0, _, Nat.zero_le _, rfl, rfl, (by rw [List.take_zero, List.filter_nil, List.append_nil]; exact HO1.out), hB1, HR1, HAP⟩
      case round =>
        clear HO1 HR1 hB1 HAP
        obtain ⟨j, V, hj, rfl, rfl, HO, hb, HRi, HAP⟩ := hrel
        have hfl : (itemsV (vs.take k) ++ (it.take j).filter (fun x => !x.isEmpty)).length ≤ 200000000 := by
          rw [List.length_append]
          have := List.length_filter_le (fun x : Bs => !x.isEmpty) (it.take j)
          rw [List.length_take] at this
          omega
        obtain ⟨A6, k6, hv6, _, _⟩ := HO.out.rd.form
        subst hv6
        by_cases hlj : j < it.length
        · obtain ⟨b1, of1, hA1, hb1, c1⟩ := HRi.out.rd.text j hlj
          subst hA1
          obtain ⟨t, htx⟩ : ∃ t : ByteArray, t = ⟨it[j].toArray⟩ := ⟨_, rfl⟩
          rw [← htx] at c1
          have htl : t.data.toList = it[j] := by rw [htx]
          have htk : (it.take (j + 1)) = it.take j ++ [t.data.toList] := by rw [htl]; exact List.take_succ_eq_append_getElem hlj
          have HTK := hide htk
          clear htx htl htk
          by_cases ht0 : t = ⟨#[]⟩
          · have HS := hide (show itemsV (vs.take k) ++ (it.take (j + 1)).filter (fun x => !x.isEmpty) = itemsV (vs.take k) ++ (it.take j).filter (fun x => !x.isEmpty) by rw [HTK.out, List.filter_append, ht0]; simp)
            subst ht0
            have HO2 := hide (show OwnL LW w.heap.size wr _ (itemsV (vs.take k) ++ (it.take (j + 1)).filter (fun x => !x.isEmpty)) by rw [HS.out]; exact HO.out)
            clear HS HTK
            go_wp2_with fail
            go_roundw
            case rel => exact ⟨j + 1, _, by omega, rfl, by go_num, HO2, hb, HRi, HAP⟩
            case measure => simp [intOf] <;> omega
          · have hne : t.data.toList ≠ [] := fun h => ht0 (ByteArray.ext (Array.toList_inj.1 h))
            have hemp : t.toList.isEmpty = false := by rw [ByteArray.toList_eq]; cases hl : t.data.toList with | nil => exact absurd hl hne | cons _ _ => rfl
            have HS := hide (show itemsV (vs.take k) ++ (it.take (j + 1)).filter (fun x => !x.isEmpty) = (itemsV (vs.take k) ++ (it.take j).filter (fun x => !x.isEmpty)) ++ [t.data.toList] by
              rw [HTK.out, List.filter_append, List.append_assoc]
              congr 2
              cases hl : t.data.toList with
              | nil => exact absurd hl hne
              | cons _ _ => rfl)
            clear hne ht0 HTK
            have R5 := hide (show RdL LW (wr.alloc (.cells #[.string t] 9)) (wr.heap.size + 1) (.slice (some ⟨wr.heap.size, 0, none⟩) 1 1) [t.data.toList] by
              have := RdL.one_ (L := LW) (x := t.data.toList) (Blk.new wr 9 #[.string t]) (by simp [LW])
              simpa using this)
            go_wp2_with (at_builtin; refine wpList_appL LW w (by rfl) (.tmp 23) (.tmp 25) _ _ (by rfl) rfl rfl w.heap.size _ _ (by rfl) (HO.out.alloc _) (hb.alloc hb.size _) (Nat.le_trans hb.size (by simp)) _ [t.data.toList] _ (by rfl) R5.out (by decide) (by rw [List.length_singleton]; omega) ?_; intro v7 w7 O7 hB7 hg7 hob7)
            rw [← HS.out] at O7
            have HRj := hide (OwnL.kept (HRi.out.alloc _) hg7 (by
              cases ho : (Value.slice (some ⟨b1, of1, none⟩) it.length ci).ownBlock with
              | none => exact .inl rfl
              | some g => exact .inr (fun e => HAP.out g e.symm ho)))
            have HAQ := hide (show ∀ g, v7.ownBlock = some g → (Value.slice (some ⟨b1, of1, none⟩) it.length ci).ownBlock ≠ some g from fun g h1 h2 => by
              rcases hob7 with h | h
              · exact HAP.out g (h.symm.trans h1) h2
              · have a := (HRi.out.lt g h2).2
                rw [h] at h1
                have b : (wr.alloc (.cells #[.string t] 9)).heap.size = g := Option.some.inj h1
                rw [World.size_alloc] at b
                omega)
            obtain ⟨A7, k7, hv7, _, _⟩ := O7.rd.form
            subst hv7
            clear HS R5 HO HRi HAP hg7 hob7
            go_wp2_with fail
            go_roundw
            case rel => exact ⟨j + 1, _, by omega, rfl, by go_num, O7, hB7, HRj, HAQ⟩
            case measure => simp [intOf] <;> omega
        · obtain rfl : j = it.length := by omega
          have HO2 := hide (show OwnL LW w.heap.size wr (.slice A6 (itemsV (vs.take k) ++ (it.take it.length).filter (fun x => !x.isEmpty)).length k6) (itemsV (vs.take (k + 1))) by rw [HST.out]; have := HO.out; simpa only [List.take_length] using this)
          clear HO HRi HST HAP
          go_wp2_with fail
          go_roundw
          case rel => exact ⟨k + 1, _, by omega, rfl, by go_num, HO2, hb⟩
          case measure => simp [intOf] <;> omega
    · have HO2 := hide (show OwnL LW w.heap.size wr V (itemsV vs) by have := HO.out; rw [List.take_of_length_le (by omega)] at this; exact this)
      obtain ⟨A6, k6, hv6, _, _⟩ := HO.out.rd.form
      subst hv6
      go_wp2_with fail
      go_ret
      exact ⟨_, rfl, HO2.out, hb⟩

end Go.Proofs.YtiigkacmahecaaaDoor
