/-
  A rule's text: the program's walk.
-/
import Derived.Test.YtlfldnogjndglaaDoorCtlB
namespace Go.Proofs.YtlfldnogjndglaaDoor
open Go.RowKit
set_option linter.unusedVariables false
set_option linter.unusedSimpArgs false

def flagN (b : Bool) (l : List UInt8) : List (List UInt8) := if b then [l] else []
theorem flagN_yes (l : List UInt8) : flagN true l = [l] := rfl
theorem flagN_no (l : List UInt8) : flagN false l = [] := rfl
theorem flagN_len (b : Bool) (l : List UInt8) : (flagN b l).length ≤ 1 := by cases b <;> simp [flagN]
def ctlParts (mx sh wh er : Int) (ns nc pv : Bool) : List (List UInt8) :=
  (((((([] ++ flagN ns [110, 111, 45, 115, 116, 111, 114, 101]) ++ flagN nc [110, 111, 45, 99, 97, 99, 104, 101]) ++ flagN pv [112, 114, 105, 118, 97, 116, 101]) ++ partN [109, 97, 120, 45, 97, 103, 101] mx) ++ partN [115, 45, 109, 97, 120, 97, 103, 101] sh) ++ partN [115, 116, 97, 108, 101, 45, 119, 104, 105, 108, 101, 45, 114, 101, 118, 97, 108, 105, 100, 97, 116, 101] wh) ++ partN [115, 116, 97, 108, 101, 45, 105, 102, 45, 101, 114, 114, 111, 114] er
/-- A rule's text. -/
def ctlText (mx sh wh er : Int) (ns nc pv : Bool) : List UInt8 := Lib.join (ctlParts mx sh wh er ns nc pv) [44, 32]
theorem join_len {l : List (List UInt8)} {sep : List UInt8} {m : Nat} (h : ∀ x ∈ l, x.length ≤ m) : (Lib.join l sep).length ≤ l.length * (m + sep.length) := by
  cases l with
  | nil => simp [Lib.join_nil]
  | cons x r =>
    rw [Lib.join_cons, List.length_append, List.length_cons, Nat.succ_mul]
    have hx := h x (by simp)
    have : ∀ r : List (List UInt8), (∀ y ∈ r, y.length ≤ m) → (Lib.joinTail sep r).length ≤ r.length * (m + sep.length) := by
      intro r
      induction r with
      | nil => intro _; simp [Lib.joinTail]
      | cons y r ih =>
        intro hr
        have h1 := ih (fun z hz => hr z (by simp [hz]))
        have h2 := hr y (by simp)
        simp only [Lib.joinTail, List.map_cons, List.flatten_cons, List.length_append, List.length_cons, Nat.succ_mul] at h1 ⊢
        omega
    have h3 := this r (fun z hz => h z (by simp [hz]))
    omega
theorem partN_len {name : List UInt8} {n : Int} {k : Nat} (h0 : -9223372036854775808 ≤ n) (h1 : n ≤ 9223372036854775807) (hk : name.length ≤ k) : (∀ x ∈ partN name n, x.length ≤ k + 22) ∧ (partN name n).length ≤ 1 := by
  unfold partN
  split
  · have := Lib.itoa_length_le (min n 1099511627776) (by omega) (by omega)
    refine ⟨fun x hx => ?_, by simp⟩
    obtain rfl : x = _ := by simpa using hx
    simp; omega
  · simp
theorem ctl_len {mx sh wh er : Int} {ns nc pv : Bool} (hmx : -9223372036854775808 ≤ mx ∧ mx ≤ 9223372036854775807) (hsh : -9223372036854775808 ≤ sh ∧ sh ≤ 9223372036854775807) (hwh : -9223372036854775808 ≤ wh ∧ wh ≤ 9223372036854775807) (her : -9223372036854775808 ≤ er ∧ er ≤ 9223372036854775807) :
    (ctlParts mx sh wh er ns nc pv).length ≤ 7 ∧ (ctlText mx sh wh er ns nc pv).length ≤ 1000 := by
  obtain ⟨a1, b1⟩ := partN_len (name := [109, 97, 120, 45, 97, 103, 101]) (k := 22) hmx.1 hmx.2 (by decide)
  obtain ⟨a2, b2⟩ := partN_len (name := [115, 45, 109, 97, 120, 97, 103, 101]) (k := 22) hsh.1 hsh.2 (by decide)
  obtain ⟨a3, b3⟩ := partN_len (name := [115, 116, 97, 108, 101, 45, 119, 104, 105, 108, 101, 45, 114, 101, 118, 97, 108, 105, 100, 97, 116, 101]) (k := 22) hwh.1 hwh.2 (by decide)
  obtain ⟨a4, b4⟩ := partN_len (name := [115, 116, 97, 108, 101, 45, 105, 102, 45, 101, 114, 114, 111, 114]) (k := 22) her.1 her.2 (by decide)
  have hl : (ctlParts mx sh wh er ns nc pv).length ≤ 7 := by
    unfold ctlParts
    have c1 := flagN_len ns [110, 111, 45, 115, 116, 111, 114, 101]
    have c2 := flagN_len nc [110, 111, 45, 99, 97, 99, 104, 101]
    have c3 := flagN_len pv [112, 114, 105, 118, 97, 116, 101]
    simp only [List.length_append, List.length_nil]
    omega
  refine ⟨hl, ?_⟩
  have := join_len (l := ctlParts mx sh wh er ns nc pv) (sep := [44, 32]) (m := 44) (fun x hx => by
    unfold ctlParts at hx
    simp only [List.mem_append] at hx
    rcases hx with ((((((h | h) | h) | h) | h) | h) | h) | h
    · cases h
    · cases ns <;> simp [flagN] at h; subst h; decide
    · cases nc <;> simp [flagN] at h; subst h; decide
    · cases pv <;> simp [flagN] at h; subst h; decide
    · exact a1 x h
    · exact a2 x h
    · exact a3 x h
    · exact a4 x h)
  unfold ctlText
  have e : ([44, 32] : List UInt8).length = 2 := rfl
  rw [e] at this
  omega

set_option maxRecDepth 100000 in
set_option maxHeartbeats 8000000 in
theorem ctl_text (mx sh wh er : Int) (ns nc pv : Bool) (w : World) (hT : Tab w) (hmx : -9223372036854775808 ≤ mx ∧ mx ≤ 9223372036854775807) (hsh : -9223372036854775808 ≤ sh ∧ sh ≤ 9223372036854775807) (hwh : -9223372036854775808 ≤ wh ∧ wh ≤ 9223372036854775807) (her : -9223372036854775808 ≤ er ∧ er ≤ 9223372036854775807) :
    Calls Tryd.prog 9 #[.agg #[.int .i64 mx, .int .i64 sh, .int .i64 wh, .int .i64 er, .bool ns, .bool nc, .bool pv]] w (StrIs (ctlText mx sh wh er ns nc pv) w) := by
  have HT := hide hT
  clear hT
  go_enter Tryd.func9, Tryd.ntmps9
  go_upto_region 2 with fail
  obtain ⟨w1, hw1⟩ : ∃ w1 : World, w1 = ((w).alloc (.cells #[.int .i64 mx, .int .i64 sh, .int .i64 wh, .int .i64 er, .bool ns, .bool nc, .bool pv] 26)).alloc (.cells #[.slice none 0 0] 22) := ⟨_, rfl⟩
  rw [← hw1]
  have hB1 : Below w.heap.size w w1 := by rw [hw1]; exact (((Below.refl _ _).alloc (Nat.le_refl _) _).alloc (by simp; try omega) _)
  have T : Blk w1 (w.heap.size) 26 #[.int .i64 mx, .int .i64 sh, .int .i64 wh, .int .i64 er, .bool ns, .bool nc, .bool pv] := by rw [hw1]; exact ((Blk.new _ _ _).alloc _)
  have X : Blk w1 (w.heap.size + 1) 22 #[.slice none 0 0] := by rw [hw1]; exact (Blk.new' (by simp))
  clear hw1
  have cT := T.cell
  have cX := X.cell
  replace X : Blk w1 (w.heap.size + 1) LW.t #[.slice none 0 0] := X
  have hB := hB1
  clear hB1
  have O : OwnL LW w.heap.size w1 (.slice none 0 0) [] := OwnL.nil _ _ _
  have fX := X.frozen
  have zB := hB.size
  go_upto_if 6 with fail
  go_cut [6] (fun _ wx => ∃ v : Value, Blk wx (w.heap.size + 1) LW.t #[v] ∧ OwnL LW w.heap.size wx v ([] ++ flagN ns [110, 111, 45, 115, 116, 111, 114, 101]) ∧ Blk wx w.heap.size 26 #[.int .i64 mx, .int .i64 sh, .int .i64 wh, .int .i64 er, .bool ns, .bool nc, .bool pv] ∧ Below w.heap.size w wx)
  case first =>
    have hlen0 : ([] : List (List UInt8)).length ≤ 3 := by simp
    cases ns
    · clear cX fX
      go_wp2_with fail
      go_meet
      exact ⟨_, X, by rw [flagN_no]; simpa using O, T, hB⟩
    · go_wp2_with (at_builtin; refine wpList_appL LW w (by rfl) (.tmp 7) (.tmp 8) _ _ (by rfl) rfl rfl w.heap.size _ _ (by rfl) (O.alloc _) (hB.alloc hB.size _) (by simp; omega) _ [[110, 111, 45, 115, 116, 111, 114, 101]] _ (by rfl) (RdL.one_ (Blk.new _ _ _) rfl) (by decide) (by show _ + 1 ≤ 1000000000; omega) ?_)
      intro v6 w6 O6 hB6 hg6 _
      obtain ⟨A6, c6, hv6, _, _⟩ := O6.rd.form
      subst hv6
      have X6 := Blk.grown (X.alloc _) hg6 (O.not_blk X (by decide))
      have T6 := Blk.grown (T.alloc _) hg6 (O.not_blk T (by decide))
      clear cX fX cT
      have cX6 := X6.cell
      have fX6 := X6.frozen
      go_wp2_with fail
      go_meet
      exact ⟨_, by simpa using X6.set_ 0 _, by rw [flagN_yes]; simpa using OwnL.far O6 (O6.not_blk X6 (by decide)) _, T6.far (by show w.heap.size ≠ w.heap.size + 1; omega) _, below_set hB6 (Nat.le_succ _) _⟩
  case rest =>
    obtain ⟨v, X, O, T, hB⟩ := hcut
    have cX := X.cell
    have fX := X.frozen
    have cT := T.cell
    have zB := hB.size
    go_upto_if 11 with fail
    go_cut [11] (fun _ wx => ∃ v : Value, Blk wx (w.heap.size + 1) LW.t #[v] ∧ OwnL LW w.heap.size wx v (([] ++ flagN ns [110, 111, 45, 115, 116, 111, 114, 101]) ++ flagN nc [110, 111, 45, 99, 97, 99, 104, 101]) ∧ Blk wx w.heap.size 26 #[.int .i64 mx, .int .i64 sh, .int .i64 wh, .int .i64 er, .bool ns, .bool nc, .bool pv] ∧ Below w.heap.size w wx)
    case first =>
      have hlen1 : (([] ++ flagN ns [110, 111, 45, 115, 116, 111, 114, 101]) : List (List UInt8)).length ≤ 3 := by cases ns <;> simp [flagN]
      cases nc
      · clear cX fX
        go_wp2_with fail
        go_meet
        exact ⟨v, X, by rw [flagN_no]; simpa using O, T, hB⟩
      · go_wp2_with (at_builtin; refine wpList_appL LW w (by rfl) (.tmp 12) (.tmp 13) _ _ (by rfl) rfl rfl w.heap.size v _ (by rfl) (O.alloc _) (hB.alloc hB.size _) (by simp; omega) _ [[110, 111, 45, 99, 97, 99, 104, 101]] _ (by rfl) (RdL.one_ (Blk.new _ _ _) rfl) (by decide) (by show _ + 1 ≤ 1000000000; omega) ?_)
        intro v6 w6 O6 hB6 hg6 _
        obtain ⟨A6, c6, hv6, _, _⟩ := O6.rd.form
        subst hv6
        have X6 := Blk.grown (X.alloc _) hg6 (O.not_blk X (by decide))
        have T6 := Blk.grown (T.alloc _) hg6 (O.not_blk T (by decide))
        clear cX fX cT
        have cX6 := X6.cell
        have fX6 := X6.frozen
        go_wp2_with fail
        go_meet
        exact ⟨_, by simpa using X6.set_ 0 _, by rw [flagN_yes]; simpa using OwnL.far O6 (O6.not_blk X6 (by decide)) _, T6.far (by show w.heap.size ≠ w.heap.size + 1; omega) _, below_set hB6 (Nat.le_succ _) _⟩
    case rest =>
      obtain ⟨v, X, O, T, hB⟩ := hcut
      have cX := X.cell
      have fX := X.frozen
      have cT := T.cell
      have zB := hB.size
      go_upto_if 16 with fail
      go_cut [16] (fun _ wx => ∃ v : Value, Blk wx (w.heap.size + 1) LW.t #[v] ∧ OwnL LW w.heap.size wx v ((([] ++ flagN ns [110, 111, 45, 115, 116, 111, 114, 101]) ++ flagN nc [110, 111, 45, 99, 97, 99, 104, 101]) ++ flagN pv [112, 114, 105, 118, 97, 116, 101]) ∧ Blk wx w.heap.size 26 #[.int .i64 mx, .int .i64 sh, .int .i64 wh, .int .i64 er, .bool ns, .bool nc, .bool pv] ∧ Below w.heap.size w wx)
      case first =>
        have hlen2 : ((([] ++ flagN ns [110, 111, 45, 115, 116, 111, 114, 101]) ++ flagN nc [110, 111, 45, 99, 97, 99, 104, 101]) : List (List UInt8)).length ≤ 3 := by cases ns <;> cases nc <;> simp [flagN]
        cases pv
        · clear cX fX
          go_wp2_with fail
          go_meet
          exact ⟨v, X, by rw [flagN_no]; simpa using O, T, hB⟩
        · go_wp2_with (at_builtin; refine wpList_appL LW w (by rfl) (.tmp 17) (.tmp 18) _ _ (by rfl) rfl rfl w.heap.size v _ (by rfl) (O.alloc _) (hB.alloc hB.size _) (by simp; omega) _ [[112, 114, 105, 118, 97, 116, 101]] _ (by rfl) (RdL.one_ (Blk.new _ _ _) rfl) (by decide) (by show _ + 1 ≤ 1000000000; omega) ?_)
          intro v6 w6 O6 hB6 hg6 _
          obtain ⟨A6, c6, hv6, _, _⟩ := O6.rd.form
          subst hv6
          have X6 := Blk.grown (X.alloc _) hg6 (O.not_blk X (by decide))
          have T6 := Blk.grown (T.alloc _) hg6 (O.not_blk T (by decide))
          clear cX fX cT
          have cX6 := X6.cell
          have fX6 := X6.frozen
          go_wp2_with fail
          go_meet
          exact ⟨_, by simpa using X6.set_ 0 _, by rw [flagN_yes]; simpa using OwnL.far O6 (O6.not_blk X6 (by decide)) _, T6.far (by show w.heap.size ≠ w.heap.size + 1; omega) _, below_set hB6 (Nat.le_succ _) _⟩
      case rest =>
        obtain ⟨v, X, O, T, hB⟩ := hcut
        have cX := X.cell
        have fX := X.frozen
        have cT := T.cell
        have zB := hB.size
        have HLN := hide (ctl_len (ns := ns) (nc := nc) (pv := pv) hmx hsh hwh her)
        have HL0 := hide (show ((([] ++ flagN ns [110, 111, 45, 115, 116, 111, 114, 101]) ++ flagN nc [110, 111, 45, 99, 97, 99, 104, 101]) ++ flagN pv [112, 114, 105, 118, 97, 116, 101] : List (List UInt8)).length ≤ 1000 by have := HLN.out.1; unfold ctlParts at this; simp only [List.length_append] at this ⊢; omega)
        have HL1 := hide (show (((([] ++ flagN ns [110, 111, 45, 115, 116, 111, 114, 101]) ++ flagN nc [110, 111, 45, 99, 97, 99, 104, 101]) ++ flagN pv [112, 114, 105, 118, 97, 116, 101]) ++ partN [109, 97, 120, 45, 97, 103, 101] mx : List (List UInt8)).length ≤ 1000 by have := HLN.out.1; unfold ctlParts at this; simp only [List.length_append] at this ⊢; omega)
        have HL2 := hide (show ((((([] ++ flagN ns [110, 111, 45, 115, 116, 111, 114, 101]) ++ flagN nc [110, 111, 45, 99, 97, 99, 104, 101]) ++ flagN pv [112, 114, 105, 118, 97, 116, 101]) ++ partN [109, 97, 120, 45, 97, 103, 101] mx) ++ partN [115, 45, 109, 97, 120, 97, 103, 101] sh : List (List UInt8)).length ≤ 1000 by have := HLN.out.1; unfold ctlParts at this; simp only [List.length_append] at this ⊢; omega)
        have HL3 := hide (show (((((([] ++ flagN ns [110, 111, 45, 115, 116, 111, 114, 101]) ++ flagN nc [110, 111, 45, 99, 97, 99, 104, 101]) ++ flagN pv [112, 114, 105, 118, 97, 116, 101]) ++ partN [109, 97, 120, 45, 97, 103, 101] mx) ++ partN [115, 45, 109, 97, 120, 97, 103, 101] sh) ++ partN [115, 116, 97, 108, 101, 45, 119, 104, 105, 108, 101, 45, 114, 101, 118, 97, 108, 105, 100, 97, 116, 101] wh : List (List UInt8)).length ≤ 1000 by have := HLN.out.1; unfold ctlParts at this; simp only [List.length_append] at this ⊢; omega)
        go_wp2_with fail
        refine (put_any ⟨#[109, 97, 120, 45, 97, 103, 101]⟩ mx (w.heap.size + 1) w.heap.size v _ _ (HT.out.below hB) hmx.1 hmx.2 (Nat.le_succ _) X O HL0.out (by show (7 : Nat) ≤ 1000; decide)).mono ?_
        rintro e w20 ⟨rfl, v20, X20, O20, hb20, hk20⟩
        replace T := hk20.far _ _ _ (by show w.heap.size ≠ w.heap.size + 1; omega) (by decide) T
        replace hB := hB.trans hb20
        clear cX fX cT X O
        clear hb20 hk20
        have X := X20
        have O := O20
        clear X20 O20
        have cX := X.cell
        have fX := X.frozen
        have cT := T.cell
        go_wp2_with fail
        refine (put_any ⟨#[115, 45, 109, 97, 120, 97, 103, 101]⟩ sh (w.heap.size + 1) w.heap.size v20 _ _ (HT.out.below hB) hsh.1 hsh.2 (Nat.le_succ _) X O HL1.out (by show (8 : Nat) ≤ 1000; decide)).mono ?_
        rintro e w21 ⟨rfl, v21, X21, O21, hb21, hk21⟩
        replace T := hk21.far _ _ _ (by show w.heap.size ≠ w.heap.size + 1; omega) (by decide) T
        replace hB := hB.trans hb21
        clear cX fX cT X O
        clear hb21 hk21
        have X := X21
        have O := O21
        clear X21 O21
        have cX := X.cell
        have fX := X.frozen
        have cT := T.cell
        go_wp2_with fail
        refine (put_any ⟨#[115, 116, 97, 108, 101, 45, 119, 104, 105, 108, 101, 45, 114, 101, 118, 97, 108, 105, 100, 97, 116, 101]⟩ wh (w.heap.size + 1) w.heap.size v21 _ _ (HT.out.below hB) hwh.1 hwh.2 (Nat.le_succ _) X O HL2.out (by show (22 : Nat) ≤ 1000; decide)).mono ?_
        rintro e w22 ⟨rfl, v22, X22, O22, hb22, hk22⟩
        replace T := hk22.far _ _ _ (by show w.heap.size ≠ w.heap.size + 1; omega) (by decide) T
        replace hB := hB.trans hb22
        clear cX fX cT X O
        clear hb22 hk22
        have X := X22
        have O := O22
        clear X22 O22
        have cX := X.cell
        have fX := X.frozen
        have cT := T.cell
        go_wp2_with fail
        refine (put_any ⟨#[115, 116, 97, 108, 101, 45, 105, 102, 45, 101, 114, 114, 111, 114]⟩ er (w.heap.size + 1) w.heap.size v22 _ _ (HT.out.below hB) her.1 her.2 (Nat.le_succ _) X O HL3.out (by show (14 : Nat) ≤ 1000; decide)).mono ?_
        rintro e w23 ⟨rfl, v23, X23, O23, hb23, hk23⟩
        replace T := hk23.far _ _ _ (by show w.heap.size ≠ w.heap.size + 1; omega) (by decide) T
        replace hB := hB.trans hb23
        clear cX fX cT X O
        clear hb23 hk23
        have X := X23
        have O := O23
        clear X23 O23
        have cX := X.cell
        have fX := X.frozen
        have cT := T.cell
        go_wp2_with fail
        refine (show Calls _ _ _ _ (StrIs (ctlText mx sh wh er ns nc pv) _) from join_any v23 _ ⟨#[44, 32]⟩ _ O.rd (Nat.le_trans HLN.out.1 (by decide)) (Nat.le_trans HLN.out.2 (by decide))).mono ?_
        rintro e w30 ⟨rfl, hb30⟩
        have hB30 := hB.trans (hb30.mono hB.size)
        go_wp2
        go_ret
        exact ⟨rfl, hB30⟩

end Go.Proofs.YtlfldnogjndglaaDoor
