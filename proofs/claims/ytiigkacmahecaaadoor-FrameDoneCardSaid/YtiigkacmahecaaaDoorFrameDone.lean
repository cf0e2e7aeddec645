/-
  Whatever comes behind a body's end, or behind End, is not read, and changes nothing: for every kind, size and list of pieces.
-/
import Derived.Test.YtiigkacmahecaaaDoorFrK
import Derived.Laws.IdiomArrays
import Derived.Test.YtiigkacmahecaaaDoorFrW
import Derived.Test.YtiigkacmahecaaaDoorFrJ
import Derived.Test.YtiigkacmahecaaaDoorGrZ
import Derived.Test.YtiigkacmahecaaaDoorGrL
import Derived.Test.YtiigkacmahecaaaDoorTie
import Derived.Test.YtiigkacmahecaaaDoorCards
import Derived.SevenTiedAt
import Derived.Deep.DeepCutAuto
namespace Go.Proofs.YtiigkacmahecaaaDoor.frameDone
open Go.ChangeShapes Go.WideShapes Go.ChangeAt Go.RowKit Go.Deep
set_option linter.unusedVariables false
set_option linter.unusedSimpArgs false

set_option maxRecDepth 100000
theorem trod_array2 {H : Type} {enc : TypeId × Value → H} {P : Program} {w : World} {base : Nat} {spare : Nat → Bool} {held : Bool} {t e : TypeId} {fuel : Nat} {c0 c1 : Value} {x : DataW H × List MemPlace} (ht : P.underlying t = some (.array 2 e)) (hce : P.cellsOf e = 1)
    (h : DataW.trod enc P w base spare held fuel t [c0, c1] = some x) :
    ∃ y0 y1 n, DataW.trod enc P w base spare held n e [c0] = some y0 ∧ DataW.trod enc P w base spare held n e [c1] = some y1 := by
  cases fuel with
  | zero => simp [DataW.trod] at h
  | succ n =>
    unfold DataW.trod at h
    rw [ht] at h
    have r2 : List.range 2 = [0, 1] := rfl
    simp [r2, hce] at h
    obtain ⟨_, h⟩ := h
    cases h0 : DataW.trod enc P w base spare held n e [c0] with
    | none => simp [h0] at h
    | some y0 =>
      cases h1 : DataW.trod enc P w base spare held n e [c1] with
      | none => simp [h0, h1] at h
      | some y1 => exact ⟨y0, y1, n, h0, h1⟩
theorem cellsI64T : Tryd.prog.cellsOf 2 = 1 := by kernel_rfl
theorem open_two_arg {H : Type} {enc : TypeId × Value → H} {w : World} {base : Nat} {v : Value} {d : DataW H} {p : List MemPlace} (hv : Value.okWide Tryd.prog w .any base 54 v)
    (h : DataW.Trod enc Tryd.prog w 0 (fun _ => true) true 54 v d p) : ∃ (a b : Int), v = .agg #[.int .i64 a, .int .i64 b] := by
  simp only [Value.okWide, Tryd.underlying54] at hv
  obtain ⟨cs, rfl, hsz, _⟩ := hv
  have h2 : cs.size = 2 := by rw [hsz]; kernel_rfl
  obtain ⟨fuel, hf⟩ := h
  have hf' : DataW.trod enc Tryd.prog w 0 (fun _ => true) true fuel 54 cs.toList = some (d, p) := by simpa [Value.cells] using hf
  match hcs : cs.toList, (show cs.toList.length = 2 by rw [Array.length_toList, h2]) with
  | [c0, c1], _ =>
    rw [hcs] at hf'
    obtain ⟨y0, y1, n, g0, g1⟩ := trod_array2 Tryd.underlying54 cellsI64T hf'
    obtain ⟨a0, e0, _, w0⟩ := DataW.trod_int Tryd.underlying2 g0
    obtain ⟨a1, e1, _, w1⟩ := DataW.trod_int Tryd.underlying2 g1
    simp only [List.cons.injEq, and_true] at e0 e1
    subst e0 e1
    exact ⟨a0, a1, by rw [← Array.toArray_toList (xs := cs), hcs]⟩
theorem rdbb_below {w w1 : World} {A : Option Addr} {c : Nat} {ls : List BsZ} (h : RdBB w A c ls) (hb : Below w.heap.size w w1) : RdBB w1 A c ls := by
  refine ⟨h.1, fun i hi => ?_⟩
  obtain ⟨b, off, e, hlt, hc, hrb, hz⟩ := h.2 i hi
  exact ⟨b, off, e, Nat.lt_of_lt_of_le hlt hb.size, by rw [hb.cell (show b < w.heap.size from hlt)]; exact hc, ⟨hrb.1, hrb.2.1, fun hl => ((hrb.2.2 hl).below hb).mono hb.size⟩, hz⟩

set_option maxRecDepth 100000 in
set_option maxHeartbeats 16000000 in
theorem walk (x0 x1 : Int) (A : Option Addr) (c : Nat) (ls : List BsZ) (M : Option Addr) (d : Nat) (ms : List UInt8) (w : World) (hr : RdBB w A c ls) (hmm : RdB w M d ms) : Calls Tryd.prog 7 #[.agg #[.int .i64 x0, .int .i64 x1], .slice A ls.length c, .slice M ms.length d] w (BoolOk true w) := by
  have hm2 := hmm.2.2
  have hc0 := hmm.1
  have hd0 := hmm.2.1
  clear hmm
  go_enter Tryd.func7, Tryd.ntmps7
  go_wp2_with fail
  obtain ⟨wa, hwa⟩ : ∃ W, W = w.alloc (.cells #[.int .i64 x0, .int .i64 x1] 54) := ⟨_, rfl⟩
  rw [← hwa]
  have T : Blk wa w.heap.size 54 #[.int .i64 x0, .int .i64 x1] := by rw [hwa]; exact Blk.new _ _ _
  have hB0 : Below w.heap.size w wa := by rw [hwa]; exact (Below.refl _ _).alloc (Nat.le_refl _) _
  clear hwa
  refine (awake_any _).mono ?_
  rintro e w1 ⟨rfl, hb1⟩
  have hB1 := hB0.trans (hb1.mono hB0.size)
  replace T := T.below hb1 T.lt
  clear hb1
  go_wp2_with fail
  refine (great13_any A c ls w1 (rdbb_below hr hB1)).mono ?_
  rintro e w' ⟨r, rfl, rfl, hg⟩
  cases r
  · have hsum := hg rfl
    clear hg
    have c0 : w1.cell? ⟨w.heap.size, 0, none⟩ = some (.int .i64 x0) := T.cell 0
    have c1 : w1.cell? ⟨w.heap.size, 1, none⟩ = some (.int .i64 x1) := T.cell 1
    by_cases hm : 100 < ms.length
    · have zm : (100 : Int) < (ms.length : Int) := by omega
      go_wp2_with fail
      refine (awake_any _).mono ?_
      rintro e w2 ⟨rfl, hb2⟩
      have hB2 := hB1.trans (hb2.mono hB1.size)
      go_wp2_with fail
      go_ret
      exact ⟨rfl, hB2⟩
    · have zm : ¬ (100 : Int) < (ms.length : Int) := by omega
      by_cases h1 : x0 < 1
      · have d1 : decide (x0 < 1) = true := decide_eq_true h1
        go_wp2_with fail
        refine (awake_any _).mono ?_
        rintro e w2 ⟨rfl, hb2⟩
        have hB2 := hB1.trans (hb2.mono hB1.size)
        go_wp2_with fail
        go_ret
        exact ⟨rfl, hB2⟩
      · have d1 : decide (x0 < 1) = false := decide_eq_false h1
        by_cases h4 : 4 < x0
        · have d4 : decide (x0 > 4) = true := decide_eq_true h4
          go_wp2_with fail
          refine (awake_any _).mono ?_
          rintro e w2 ⟨rfl, hb2⟩
          have hB2 := hB1.trans (hb2.mono hB1.size)
          go_wp2_with fail
          go_ret
          exact ⟨rfl, hB2⟩
        · have d4 : decide (x0 > 4) = false := decide_eq_false h4
          have HM := hide (hm2 (by omega))
          by_cases hok : okN x0 x1
          · go_wp2_with fail
            refine (new_yes x0 x1 hok w1).mono ?_
            rintro e w3 ⟨g, h, rfl, hg, hh, P, hb3⟩
            have hB3 := hB1.trans (hb3.mono hB1.size)
            have lg := Nat.le_trans hB1.size hg
            have lh := Nat.le_trans hB1.size hh
            have tl := T.lt
            have n0 : w.heap.size ≠ g := by omega
            have n1 : w.heap.size ≠ h := by omega
            replace T := T.below hb3 T.lt
            have hinv : invF (Rf.new x0.toNat x1.toNat) := inv_new (by have := hok.1; omega) (by have := hok.2; omega)
            have hk0 : ((Rf.new x0.toNat x1.toNat).k : Int) = x0 := by show ((x0.toNat : Nat) : Int) = x0; omega
            obtain ⟨r0, hr0⟩ : ∃ x, x = Rf.new x0.toNat x1.toNat := ⟨_, rfl⟩
            rw [← hr0] at P hinv hk0
            clear hr0 hb3 hg hh tl hok c0 c1 d1 d4 h1 h4
            have HR := hide hr
            clear hr
            go_wp2_with fail
            go_loopw [10, 63] (fun _ c63 wr => ∃ (k : Nat) (r : Rf), k ≤ ls.length ∧ c63 = .int .i64 (k : Int) ∧ PR wr g h r ∧ invF r ∧ (r.k : Int) = x0 ∧ Blk wr w.heap.size 54 #[.int .i64 x0, .int .i64 x1] ∧ Below w.heap.size w wr) (fun _ c63 _ => ls.length - (intOf c63).toNat)
            case atStart => exact ⟨0, r0, Nat.zero_le _, rfl, P, hinv, hk0, T, hB3⟩
            case round =>
              clear P T hB3 hinv hk0
              obtain ⟨k, r, hk, rfl, P, hI, hkr, T, hb⟩ := hrel
              by_cases hlt : k < ls.length
              · obtain ⟨b0, off, hA, hb0, c0, hRB, hz⟩ := HR.out.2 k hlt
                subst hA
                have hbl := flat_mem hlt
                obtain ⟨A1, k1, bs, hbk⟩ : ∃ a b c, ls[k] = (a, b, c) := ⟨_, _, _, rfl⟩
                rw [hbk] at c0 hRB hbl
                simp only at hRB hbl
                have c0' : wr.cell? ⟨b0, off + k, none⟩ = some (.slice A1 bs.length k1) := by rw [hb.cell (show b0 < w.heap.size from hb0)]; exact c0
                have HY := hide (((hRB.2.2 (by omega)).below hb).mono hb.size)
                clear hbk c0 hRB
                go_wp2_with fail
                refine (done_frame r g h wr P hI).mono ?_
                rintro e w' ⟨rfl, rfl⟩
                cases q0 : doneF r
                · clear q0
                  have hzz : OwnB wr.heap.size (wr.alloc (.cells #[] 5)) (.slice (some ⟨wr.heap.size, 0, none⟩) 0 0) [] := OwnB.build wr [] (by simp)
                  have HZZ := hide hzz
                  have hbA : Below wr.heap.size wr (wr.alloc (.cells #[] 5)) := (Below.refl _ _).alloc (Nat.le_refl _) _
                  have HU := hide (HY.out.below hbA)
                  have HL1 := hide (show ([] : List UInt8).length + bs.length ≤ 140737488355328 by rw [List.length_nil]; omega)
                  clear hzz
                  go_wp2_with (first | (at_builtin; refine wpList_appG rfl (.tmp 70) (.tmp 71) rfl wr.heap.size _ [] rfl HZZ.out (by simp) _ bs _ rfl HU.out HL1.out ?_; intro v7 w7 ho7 hg7; rw [List.nil_append] at ho7) | fail)
                  have hb7 : Below wr.heap.size wr w7 := HZZ.out.belg hbA hg7 (by simp)
                  have P7 := P.below hb7 P.blk.lt P.lt
                  have hB7 := hb.trans (hb7.mono hb.size)
                  have Y7 := ho7.byt (by omega)
                  clear HU HL1 HZZ hbA hg7
                  refine (take_frame r _ _ g h w7 P7 hI Y7).mono ?_
                  intro e w8 hp
                  unfold TakesF at hp
                  obtain ⟨v8, rfl, ho8, P8, hb8⟩ := hp
                  have hB8 := hb8.bel hB7 lg lh hB7.size
                  have T8 := hb8.blk (T.below hb7 T.lt) n0 n1
                  have hI8 := inv_takeF hI bs
                  have hk8 : ((takeF r bs).r.k : Int) = x0 := by rw [(takeF_k r bs).1]; exact hkr
                  clear P7 Y7 ho7 hb7 hB7 HY P hb c0' hb8 ho8
                  go_wp2_with fail
                  go_roundw
                  case rel => exact ⟨k + 1, _, by omega, by go_num, P8, hI8, hk8, T8, hB8⟩
                  case measure => simp [intOf] <;> omega
                · clear q0 HY c0' hbl
                  have cT : wr.cell? ⟨w.heap.size, 0, none⟩ = some (.int .i64 x0) := T.cell 0
                  go_wp2_with fail
                  refine (done_frame r g h wr P hI).mono ?_
                  rintro e w' ⟨rfl, rfl⟩
                  cases q : doneF r
                  · clear q
                    have HEE := hide (show endE (endF r) = endE r from rfl)
                    have hI1 := inv_endF hI
                    go_wp2_with fail
                    refine (end_frame r g h _ P hI).mono ?_
                    rintro e wA ⟨rfl, PA, hbA1⟩
                    have hBA := hbA1.bel hb lg lh hb.size
                    go_wp2_with fail
                    refine (done_frame (endF r) g h wA PA hI1).mono ?_
                    rintro e w' ⟨rfl, rfl⟩
                    have HY9 := hide ((HM.out.below hBA).mono hBA.size)
                    clear P hb hbA1
                    have P := PA
                    have hb := hBA
                    clear PA hBA
                    have hzz : OwnB wA.heap.size (wA.alloc (.cells #[] 5)) (.slice (some ⟨wA.heap.size, 0, none⟩) 0 0) [] := OwnB.build wA [] (by simp)
                    have HZZ := hide hzz
                    have hbA : Below wA.heap.size wA (wA.alloc (.cells #[] 5)) := (Below.refl _ _).alloc (Nat.le_refl _) _
                    have HU := hide (HY9.out.below hbA)
                    have HL1 := hide (show ([] : List UInt8).length + ms.length ≤ 140737488355328 by rw [List.length_nil]; omega)
                    clear hzz
                    go_wp2_with (first | (at_builtin; refine wpList_appG rfl (.tmp 113) (.tmp 114) rfl wA.heap.size _ [] rfl HZZ.out (by simp) _ ms _ rfl HU.out HL1.out ?_; intro v7 w7 ho7 hg7; rw [List.nil_append] at ho7) | fail)
                    have hb7 : Below wA.heap.size wA w7 := HZZ.out.belg hbA hg7 (by simp)
                    have P7 := P.below hb7 P.blk.lt P.lt
                    have hB7 := hb.trans (hb7.mono hb.size)
                    have Y7 := ho7.byt (by omega)
                    clear HU HL1 HZZ hbA hg7
                    refine (take_frame (endF r) _ _ g h w7 P7 hI1 Y7).mono ?_
                    intro e w8 hp
                    unfold TakesF at hp
                    rw [takeF_ended (show (endF r).ended = true from rfl)] at hp
                    obtain ⟨v8, rfl, ho8, P8, hb8⟩ := hp
                    replace ho8 : OwnB w7.heap.size w8 v8 [] := ho8
                    replace P8 : PR w8 g h (endF r) := P8
                    have hB8 := hb8.bel hB7 lg lh hB7.size
                    obtain ⟨A8, c8, hv8, _, _⟩ := (ho8.byt (by simp)).form
                    subst hv8
                    clear ho8 hb8 P7 Y7 ho7 hb7 hB7 HY9 P hb
                    obtain ⟨ee, hee⟩ : ∃ n, n = endE r := ⟨_, rfl⟩
                    have hdd : (doneF (endF r) = true ∧ ee = 0) ∨ (doneF (endF r) = false ∧ ee = 13) := by rw [hee]; unfold endE; cases doneF (endF r) <;> simp
                    rw [← hee] at HEE ⊢
                    obtain ⟨dd, hdq⟩ : ∃ b, b = doneF (endF r) := ⟨_, rfl⟩
                    rw [← hdq] at hdd ⊢
                    have HDQ := hide hdq
                    clear hee hdq
                    go_wp2_with fail
                    refine (done_frame (endF r) g h w8 P8 hI1).mono ?_
                    rintro e w' ⟨rfl, rfl⟩
                    rw [← HDQ.out]
                    rcases hdd with ⟨rfl, rfl⟩ | ⟨rfl, rfl⟩
                    · go_wp2_with fail
                      refine (end_frame (endF r) g h w8 P8 hI1).mono ?_
                      rintro e w9 ⟨rfl, P9, hb9⟩
                      rw [HEE.out]
                      have hB9 := hb9.bel hB8 lg lh hB8.size
                      go_wp2_with fail
                      go_ret
                      exact ⟨rfl, hB9⟩
                    · go_wp2_with fail
                      refine (end_frame (endF r) g h w8 P8 hI1).mono ?_
                      rintro e w9 ⟨rfl, P9, hb9⟩
                      rw [HEE.out]
                      have hB9 := hb9.bel hB8 lg lh hB8.size
                      go_wp2_with fail
                      go_ret
                      exact ⟨rfl, hB9⟩
                  · by_cases h3 : x0 = 3
                    · have e3 : (x0 != 3) = false := bneF h3
                      clear q h3
                      have HEE := hide (show endE (endF r) = endE r from rfl)
                      have hI1 := inv_endF hI
                      go_wp2_with fail
                      refine (end_frame r g h _ P hI).mono ?_
                      rintro e wA ⟨rfl, PA, hbA1⟩
                      have hBA := hbA1.bel hb lg lh hb.size
                      go_wp2_with fail
                      refine (done_frame (endF r) g h wA PA hI1).mono ?_
                      rintro e w' ⟨rfl, rfl⟩
                      have HY9 := hide ((HM.out.below hBA).mono hBA.size)
                      clear P hb hbA1
                      have P := PA
                      have hb := hBA
                      clear PA hBA
                      have hzz : OwnB wA.heap.size (wA.alloc (.cells #[] 5)) (.slice (some ⟨wA.heap.size, 0, none⟩) 0 0) [] := OwnB.build wA [] (by simp)
                      have HZZ := hide hzz
                      have hbA : Below wA.heap.size wA (wA.alloc (.cells #[] 5)) := (Below.refl _ _).alloc (Nat.le_refl _) _
                      have HU := hide (HY9.out.below hbA)
                      have HL1 := hide (show ([] : List UInt8).length + ms.length ≤ 140737488355328 by rw [List.length_nil]; omega)
                      clear hzz
                      go_wp2_with (first | (at_builtin; refine wpList_appG rfl (.tmp 113) (.tmp 114) rfl wA.heap.size _ [] rfl HZZ.out (by simp) _ ms _ rfl HU.out HL1.out ?_; intro v7 w7 ho7 hg7; rw [List.nil_append] at ho7) | fail)
                      have hb7 : Below wA.heap.size wA w7 := HZZ.out.belg hbA hg7 (by simp)
                      have P7 := P.below hb7 P.blk.lt P.lt
                      have hB7 := hb.trans (hb7.mono hb.size)
                      have Y7 := ho7.byt (by omega)
                      clear HU HL1 HZZ hbA hg7
                      refine (take_frame (endF r) _ _ g h w7 P7 hI1 Y7).mono ?_
                      intro e w8 hp
                      unfold TakesF at hp
                      rw [takeF_ended (show (endF r).ended = true from rfl)] at hp
                      obtain ⟨v8, rfl, ho8, P8, hb8⟩ := hp
                      replace ho8 : OwnB w7.heap.size w8 v8 [] := ho8
                      replace P8 : PR w8 g h (endF r) := P8
                      have hB8 := hb8.bel hB7 lg lh hB7.size
                      obtain ⟨A8, c8, hv8, _, _⟩ := (ho8.byt (by simp)).form
                      subst hv8
                      clear ho8 hb8 P7 Y7 ho7 hb7 hB7 HY9 P hb
                      obtain ⟨ee, hee⟩ : ∃ n, n = endE r := ⟨_, rfl⟩
                      have hdd : (doneF (endF r) = true ∧ ee = 0) ∨ (doneF (endF r) = false ∧ ee = 13) := by rw [hee]; unfold endE; cases doneF (endF r) <;> simp
                      rw [← hee] at HEE ⊢
                      obtain ⟨dd, hdq⟩ : ∃ b, b = doneF (endF r) := ⟨_, rfl⟩
                      rw [← hdq] at hdd ⊢
                      have HDQ := hide hdq
                      clear hee hdq
                      go_wp2_with fail
                      refine (done_frame (endF r) g h w8 P8 hI1).mono ?_
                      rintro e w' ⟨rfl, rfl⟩
                      rw [← HDQ.out]
                      rcases hdd with ⟨rfl, rfl⟩ | ⟨rfl, rfl⟩
                      · go_wp2_with fail
                        refine (end_frame (endF r) g h w8 P8 hI1).mono ?_
                        rintro e w9 ⟨rfl, P9, hb9⟩
                        rw [HEE.out]
                        have hB9 := hb9.bel hB8 lg lh hB8.size
                        go_wp2_with fail
                        go_ret
                        exact ⟨rfl, hB9⟩
                      · go_wp2_with fail
                        refine (end_frame (endF r) g h w8 P8 hI1).mono ?_
                        rintro e w9 ⟨rfl, P9, hb9⟩
                        rw [HEE.out]
                        have hB9 := hb9.bel hB8 lg lh hB8.size
                        go_wp2_with fail
                        go_ret
                        exact ⟨rfl, hB9⟩
                    · have e3 : (x0 != 3) = true := bneT h3
                      have HTD := hide (takeF_done hI q (by omega) ms)
                      have HQ := hide q
                      clear q
                      have HY8 := hide ((HM.out.below hb).mono hb.size)
                      have hzz : OwnB wr.heap.size (wr.alloc (.cells #[] 5)) (.slice (some ⟨wr.heap.size, 0, none⟩) 0 0) [] := OwnB.build wr [] (by simp)
                      have HZZ := hide hzz
                      have hbA : Below wr.heap.size wr (wr.alloc (.cells #[] 5)) := (Below.refl _ _).alloc (Nat.le_refl _) _
                      have HU := hide (HY8.out.below hbA)
                      have HL1 := hide (show ([] : List UInt8).length + ms.length ≤ 140737488355328 by rw [List.length_nil]; omega)
                      clear hzz
                      go_wp2_with (first | (at_builtin; refine wpList_appG rfl (.tmp 84) (.tmp 85) rfl wr.heap.size _ [] rfl HZZ.out (by simp) _ ms _ rfl HU.out HL1.out ?_; intro v7 w7 ho7 hg7; rw [List.nil_append] at ho7) | fail)
                      have hb7 : Below wr.heap.size wr w7 := HZZ.out.belg hbA hg7 (by simp)
                      have P7 := P.below hb7 P.blk.lt P.lt
                      have hB7 := hb.trans (hb7.mono hb.size)
                      have Y7 := ho7.byt (by omega)
                      clear HU HL1 HZZ hbA hg7
                      refine (take_frame r _ _ g h w7 P7 hI Y7).mono ?_
                      intro e w8 hp
                      unfold TakesF at hp
                      rw [HTD.out] at hp
                      obtain ⟨v8, rfl, ho8, P8, hb8⟩ := hp
                      replace ho8 : OwnB w7.heap.size w8 v8 [] := ho8
                      replace P8 : PR w8 g h r := P8
                      have hB8 := hb8.bel hB7 lg lh hB7.size
                      obtain ⟨A9, c9, hv8, _, _⟩ := (ho8.byt (by simp)).form
                      subst hv8
                      clear ho8 hb8 P7 Y7 ho7 hb7 hB7 HY8 P hb cT e3
                      have P := P8
                      have hb := hB8
                      clear P8 hB8
                      go_wp2_with fail
                      refine (done_frame r g h w8 P hI).mono ?_
                      rintro e w' ⟨rfl, rfl⟩
                      rw [HQ.out]
                      have HEE := hide (show endE (endF r) = endE r from rfl)
                      have hI1 := inv_endF hI
                      go_wp2_with fail
                      refine (end_frame r g h _ P hI).mono ?_
                      rintro e wA ⟨rfl, PA, hbA1⟩
                      have hBA := hbA1.bel hb lg lh hb.size
                      go_wp2_with fail
                      refine (done_frame (endF r) g h wA PA hI1).mono ?_
                      rintro e w' ⟨rfl, rfl⟩
                      have HY9 := hide ((HM.out.below hBA).mono hBA.size)
                      clear P hb hbA1
                      have P := PA
                      have hb := hBA
                      clear PA hBA
                      have hzz : OwnB wA.heap.size (wA.alloc (.cells #[] 5)) (.slice (some ⟨wA.heap.size, 0, none⟩) 0 0) [] := OwnB.build wA [] (by simp)
                      have HZZ := hide hzz
                      have hbA : Below wA.heap.size wA (wA.alloc (.cells #[] 5)) := (Below.refl _ _).alloc (Nat.le_refl _) _
                      have HU := hide (HY9.out.below hbA)
                      have HL1 := hide (show ([] : List UInt8).length + ms.length ≤ 140737488355328 by rw [List.length_nil]; omega)
                      clear hzz
                      go_wp2_with (first | (at_builtin; refine wpList_appG rfl (.tmp 113) (.tmp 114) rfl wA.heap.size _ [] rfl HZZ.out (by simp) _ ms _ rfl HU.out HL1.out ?_; intro v7 w7 ho7 hg7; rw [List.nil_append] at ho7) | fail)
                      have hb7 : Below wA.heap.size wA w7 := HZZ.out.belg hbA hg7 (by simp)
                      have P7 := P.below hb7 P.blk.lt P.lt
                      have hB7 := hb.trans (hb7.mono hb.size)
                      have Y7 := ho7.byt (by omega)
                      clear HU HL1 HZZ hbA hg7
                      refine (take_frame (endF r) _ _ g h w7 P7 hI1 Y7).mono ?_
                      intro e w8 hp
                      unfold TakesF at hp
                      rw [takeF_ended (show (endF r).ended = true from rfl)] at hp
                      obtain ⟨v8, rfl, ho8, P8, hb8⟩ := hp
                      replace ho8 : OwnB w7.heap.size w8 v8 [] := ho8
                      replace P8 : PR w8 g h (endF r) := P8
                      have hB8 := hb8.bel hB7 lg lh hB7.size
                      obtain ⟨A8, c8, hv8, _, _⟩ := (ho8.byt (by simp)).form
                      subst hv8
                      clear ho8 hb8 P7 Y7 ho7 hb7 hB7 HY9 P hb
                      obtain ⟨ee, hee⟩ : ∃ n, n = endE r := ⟨_, rfl⟩
                      have hdd : (doneF (endF r) = true ∧ ee = 0) ∨ (doneF (endF r) = false ∧ ee = 13) := by rw [hee]; unfold endE; cases doneF (endF r) <;> simp
                      rw [← hee] at HEE ⊢
                      obtain ⟨dd, hdq⟩ : ∃ b, b = doneF (endF r) := ⟨_, rfl⟩
                      rw [← hdq] at hdd ⊢
                      have HDQ := hide hdq
                      clear hee hdq
                      go_wp2_with fail
                      refine (done_frame (endF r) g h w8 P8 hI1).mono ?_
                      rintro e w' ⟨rfl, rfl⟩
                      rw [← HDQ.out]
                      rcases hdd with ⟨rfl, rfl⟩ | ⟨rfl, rfl⟩
                      · go_wp2_with fail
                        refine (end_frame (endF r) g h w8 P8 hI1).mono ?_
                        rintro e w9 ⟨rfl, P9, hb9⟩
                        rw [HEE.out]
                        have hB9 := hb9.bel hB8 lg lh hB8.size
                        go_wp2_with fail
                        go_ret
                        exact ⟨rfl, hB9⟩
                      · go_wp2_with fail
                        refine (end_frame (endF r) g h w8 P8 hI1).mono ?_
                        rintro e w9 ⟨rfl, P9, hb9⟩
                        rw [HEE.out]
                        have hB9 := hb9.bel hB8 lg lh hB8.size
                        go_wp2_with fail
                        go_ret
                        exact ⟨rfl, hB9⟩
              · have cT : wr.cell? ⟨w.heap.size, 0, none⟩ = some (.int .i64 x0) := T.cell 0
                go_wp2_with fail
                refine (done_frame r g h wr P hI).mono ?_
                rintro e w' ⟨rfl, rfl⟩
                cases q : doneF r
                · clear q
                  have HEE := hide (show endE (endF r) = endE r from rfl)
                  have hI1 := inv_endF hI
                  go_wp2_with fail
                  refine (end_frame r g h _ P hI).mono ?_
                  rintro e wA ⟨rfl, PA, hbA1⟩
                  have hBA := hbA1.bel hb lg lh hb.size
                  go_wp2_with fail
                  refine (done_frame (endF r) g h wA PA hI1).mono ?_
                  rintro e w' ⟨rfl, rfl⟩
                  have HY9 := hide ((HM.out.below hBA).mono hBA.size)
                  clear P hb hbA1
                  have P := PA
                  have hb := hBA
                  clear PA hBA
                  have hzz : OwnB wA.heap.size (wA.alloc (.cells #[] 5)) (.slice (some ⟨wA.heap.size, 0, none⟩) 0 0) [] := OwnB.build wA [] (by simp)
                  have HZZ := hide hzz
                  have hbA : Below wA.heap.size wA (wA.alloc (.cells #[] 5)) := (Below.refl _ _).alloc (Nat.le_refl _) _
                  have HU := hide (HY9.out.below hbA)
                  have HL1 := hide (show ([] : List UInt8).length + ms.length ≤ 140737488355328 by rw [List.length_nil]; omega)
                  clear hzz
                  go_wp2_with (first | (at_builtin; refine wpList_appG rfl (.tmp 113) (.tmp 114) rfl wA.heap.size _ [] rfl HZZ.out (by simp) _ ms _ rfl HU.out HL1.out ?_; intro v7 w7 ho7 hg7; rw [List.nil_append] at ho7) | fail)
                  have hb7 : Below wA.heap.size wA w7 := HZZ.out.belg hbA hg7 (by simp)
                  have P7 := P.below hb7 P.blk.lt P.lt
                  have hB7 := hb.trans (hb7.mono hb.size)
                  have Y7 := ho7.byt (by omega)
                  clear HU HL1 HZZ hbA hg7
                  refine (take_frame (endF r) _ _ g h w7 P7 hI1 Y7).mono ?_
                  intro e w8 hp
                  unfold TakesF at hp
                  rw [takeF_ended (show (endF r).ended = true from rfl)] at hp
                  obtain ⟨v8, rfl, ho8, P8, hb8⟩ := hp
                  replace ho8 : OwnB w7.heap.size w8 v8 [] := ho8
                  replace P8 : PR w8 g h (endF r) := P8
                  have hB8 := hb8.bel hB7 lg lh hB7.size
                  obtain ⟨A8, c8, hv8, _, _⟩ := (ho8.byt (by simp)).form
                  subst hv8
                  clear ho8 hb8 P7 Y7 ho7 hb7 hB7 HY9 P hb
                  obtain ⟨ee, hee⟩ : ∃ n, n = endE r := ⟨_, rfl⟩
                  have hdd : (doneF (endF r) = true ∧ ee = 0) ∨ (doneF (endF r) = false ∧ ee = 13) := by rw [hee]; unfold endE; cases doneF (endF r) <;> simp
                  rw [← hee] at HEE ⊢
                  obtain ⟨dd, hdq⟩ : ∃ b, b = doneF (endF r) := ⟨_, rfl⟩
                  rw [← hdq] at hdd ⊢
                  have HDQ := hide hdq
                  clear hee hdq
                  go_wp2_with fail
                  refine (done_frame (endF r) g h w8 P8 hI1).mono ?_
                  rintro e w' ⟨rfl, rfl⟩
                  rw [← HDQ.out]
                  rcases hdd with ⟨rfl, rfl⟩ | ⟨rfl, rfl⟩
                  · go_wp2_with fail
                    refine (end_frame (endF r) g h w8 P8 hI1).mono ?_
                    rintro e w9 ⟨rfl, P9, hb9⟩
                    rw [HEE.out]
                    have hB9 := hb9.bel hB8 lg lh hB8.size
                    go_wp2_with fail
                    go_ret
                    exact ⟨rfl, hB9⟩
                  · go_wp2_with fail
                    refine (end_frame (endF r) g h w8 P8 hI1).mono ?_
                    rintro e w9 ⟨rfl, P9, hb9⟩
                    rw [HEE.out]
                    have hB9 := hb9.bel hB8 lg lh hB8.size
                    go_wp2_with fail
                    go_ret
                    exact ⟨rfl, hB9⟩
                · by_cases h3 : x0 = 3
                  · have e3 : (x0 != 3) = false := bneF h3
                    clear q h3
                    have HEE := hide (show endE (endF r) = endE r from rfl)
                    have hI1 := inv_endF hI
                    go_wp2_with fail
                    refine (end_frame r g h _ P hI).mono ?_
                    rintro e wA ⟨rfl, PA, hbA1⟩
                    have hBA := hbA1.bel hb lg lh hb.size
                    go_wp2_with fail
                    refine (done_frame (endF r) g h wA PA hI1).mono ?_
                    rintro e w' ⟨rfl, rfl⟩
                    have HY9 := hide ((HM.out.below hBA).mono hBA.size)
                    clear P hb hbA1
                    have P := PA
                    have hb := hBA
                    clear PA hBA
                    have hzz : OwnB wA.heap.size (wA.alloc (.cells #[] 5)) (.slice (some ⟨wA.heap.size, 0, none⟩) 0 0) [] := OwnB.build wA [] (by simp)
                    have HZZ := hide hzz
                    have hbA : Below wA.heap.size wA (wA.alloc (.cells #[] 5)) := (Below.refl _ _).alloc (Nat.le_refl _) _
                    have HU := hide (HY9.out.below hbA)
                    have HL1 := hide (show ([] : List UInt8).length + ms.length ≤ 140737488355328 by rw [List.length_nil]; omega)
                    clear hzz
                    go_wp2_with (first | (at_builtin; refine wpList_appG rfl (.tmp 113) (.tmp 114) rfl wA.heap.size _ [] rfl HZZ.out (by simp) _ ms _ rfl HU.out HL1.out ?_; intro v7 w7 ho7 hg7; rw [List.nil_append] at ho7) | fail)
                    have hb7 : Below wA.heap.size wA w7 := HZZ.out.belg hbA hg7 (by simp)
                    have P7 := P.below hb7 P.blk.lt P.lt
                    have hB7 := hb.trans (hb7.mono hb.size)
                    have Y7 := ho7.byt (by omega)
                    clear HU HL1 HZZ hbA hg7
                    refine (take_frame (endF r) _ _ g h w7 P7 hI1 Y7).mono ?_
                    intro e w8 hp
                    unfold TakesF at hp
                    rw [takeF_ended (show (endF r).ended = true from rfl)] at hp
                    obtain ⟨v8, rfl, ho8, P8, hb8⟩ := hp
                    replace ho8 : OwnB w7.heap.size w8 v8 [] := ho8
                    replace P8 : PR w8 g h (endF r) := P8
                    have hB8 := hb8.bel hB7 lg lh hB7.size
                    obtain ⟨A8, c8, hv8, _, _⟩ := (ho8.byt (by simp)).form
                    subst hv8
                    clear ho8 hb8 P7 Y7 ho7 hb7 hB7 HY9 P hb
                    obtain ⟨ee, hee⟩ : ∃ n, n = endE r := ⟨_, rfl⟩
                    have hdd : (doneF (endF r) = true ∧ ee = 0) ∨ (doneF (endF r) = false ∧ ee = 13) := by rw [hee]; unfold endE; cases doneF (endF r) <;> simp
                    rw [← hee] at HEE ⊢
                    obtain ⟨dd, hdq⟩ : ∃ b, b = doneF (endF r) := ⟨_, rfl⟩
                    rw [← hdq] at hdd ⊢
                    have HDQ := hide hdq
                    clear hee hdq
                    go_wp2_with fail
                    refine (done_frame (endF r) g h w8 P8 hI1).mono ?_
                    rintro e w' ⟨rfl, rfl⟩
                    rw [← HDQ.out]
                    rcases hdd with ⟨rfl, rfl⟩ | ⟨rfl, rfl⟩
                    · go_wp2_with fail
                      refine (end_frame (endF r) g h w8 P8 hI1).mono ?_
                      rintro e w9 ⟨rfl, P9, hb9⟩
                      rw [HEE.out]
                      have hB9 := hb9.bel hB8 lg lh hB8.size
                      go_wp2_with fail
                      go_ret
                      exact ⟨rfl, hB9⟩
                    · go_wp2_with fail
                      refine (end_frame (endF r) g h w8 P8 hI1).mono ?_
                      rintro e w9 ⟨rfl, P9, hb9⟩
                      rw [HEE.out]
                      have hB9 := hb9.bel hB8 lg lh hB8.size
                      go_wp2_with fail
                      go_ret
                      exact ⟨rfl, hB9⟩
                  · have e3 : (x0 != 3) = true := bneT h3
                    have HTD := hide (takeF_done hI q (by omega) ms)
                    have HQ := hide q
                    clear q
                    have HY8 := hide ((HM.out.below hb).mono hb.size)
                    have hzz : OwnB wr.heap.size (wr.alloc (.cells #[] 5)) (.slice (some ⟨wr.heap.size, 0, none⟩) 0 0) [] := OwnB.build wr [] (by simp)
                    have HZZ := hide hzz
                    have hbA : Below wr.heap.size wr (wr.alloc (.cells #[] 5)) := (Below.refl _ _).alloc (Nat.le_refl _) _
                    have HU := hide (HY8.out.below hbA)
                    have HL1 := hide (show ([] : List UInt8).length + ms.length ≤ 140737488355328 by rw [List.length_nil]; omega)
                    clear hzz
                    go_wp2_with (first | (at_builtin; refine wpList_appG rfl (.tmp 84) (.tmp 85) rfl wr.heap.size _ [] rfl HZZ.out (by simp) _ ms _ rfl HU.out HL1.out ?_; intro v7 w7 ho7 hg7; rw [List.nil_append] at ho7) | fail)
                    have hb7 : Below wr.heap.size wr w7 := HZZ.out.belg hbA hg7 (by simp)
                    have P7 := P.below hb7 P.blk.lt P.lt
                    have hB7 := hb.trans (hb7.mono hb.size)
                    have Y7 := ho7.byt (by omega)
                    clear HU HL1 HZZ hbA hg7
                    refine (take_frame r _ _ g h w7 P7 hI Y7).mono ?_
                    intro e w8 hp
                    unfold TakesF at hp
                    rw [HTD.out] at hp
                    obtain ⟨v8, rfl, ho8, P8, hb8⟩ := hp
                    replace ho8 : OwnB w7.heap.size w8 v8 [] := ho8
                    replace P8 : PR w8 g h r := P8
                    have hB8 := hb8.bel hB7 lg lh hB7.size
                    obtain ⟨A9, c9, hv8, _, _⟩ := (ho8.byt (by simp)).form
                    subst hv8
                    clear ho8 hb8 P7 Y7 ho7 hb7 hB7 HY8 P hb cT e3
                    have P := P8
                    have hb := hB8
                    clear P8 hB8
                    go_wp2_with fail
                    refine (done_frame r g h w8 P hI).mono ?_
                    rintro e w' ⟨rfl, rfl⟩
                    rw [HQ.out]
                    have HEE := hide (show endE (endF r) = endE r from rfl)
                    have hI1 := inv_endF hI
                    go_wp2_with fail
                    refine (end_frame r g h _ P hI).mono ?_
                    rintro e wA ⟨rfl, PA, hbA1⟩
                    have hBA := hbA1.bel hb lg lh hb.size
                    go_wp2_with fail
                    refine (done_frame (endF r) g h wA PA hI1).mono ?_
                    rintro e w' ⟨rfl, rfl⟩
                    have HY9 := hide ((HM.out.below hBA).mono hBA.size)
                    clear P hb hbA1
                    have P := PA
                    have hb := hBA
                    clear PA hBA
                    have hzz : OwnB wA.heap.size (wA.alloc (.cells #[] 5)) (.slice (some ⟨wA.heap.size, 0, none⟩) 0 0) [] := OwnB.build wA [] (by simp)
                    have HZZ := hide hzz
                    have hbA : Below wA.heap.size wA (wA.alloc (.cells #[] 5)) := (Below.refl _ _).alloc (Nat.le_refl _) _
                    have HU := hide (HY9.out.below hbA)
                    have HL1 := hide (show ([] : List UInt8).length + ms.length ≤ 140737488355328 by rw [List.length_nil]; omega)
                    clear hzz
                    go_wp2_with (first | (at_builtin; refine wpList_appG rfl (.tmp 113) (.tmp 114) rfl wA.heap.size _ [] rfl HZZ.out (by simp) _ ms _ rfl HU.out HL1.out ?_; intro v7 w7 ho7 hg7; rw [List.nil_append] at ho7) | fail)
                    have hb7 : Below wA.heap.size wA w7 := HZZ.out.belg hbA hg7 (by simp)
                    have P7 := P.below hb7 P.blk.lt P.lt
                    have hB7 := hb.trans (hb7.mono hb.size)
                    have Y7 := ho7.byt (by omega)
                    clear HU HL1 HZZ hbA hg7
                    refine (take_frame (endF r) _ _ g h w7 P7 hI1 Y7).mono ?_
                    intro e w8 hp
                    unfold TakesF at hp
                    rw [takeF_ended (show (endF r).ended = true from rfl)] at hp
                    obtain ⟨v8, rfl, ho8, P8, hb8⟩ := hp
                    replace ho8 : OwnB w7.heap.size w8 v8 [] := ho8
                    replace P8 : PR w8 g h (endF r) := P8
                    have hB8 := hb8.bel hB7 lg lh hB7.size
                    obtain ⟨A8, c8, hv8, _, _⟩ := (ho8.byt (by simp)).form
                    subst hv8
                    clear ho8 hb8 P7 Y7 ho7 hb7 hB7 HY9 P hb
                    obtain ⟨ee, hee⟩ : ∃ n, n = endE r := ⟨_, rfl⟩
                    have hdd : (doneF (endF r) = true ∧ ee = 0) ∨ (doneF (endF r) = false ∧ ee = 13) := by rw [hee]; unfold endE; cases doneF (endF r) <;> simp
                    rw [← hee] at HEE ⊢
                    obtain ⟨dd, hdq⟩ : ∃ b, b = doneF (endF r) := ⟨_, rfl⟩
                    rw [← hdq] at hdd ⊢
                    have HDQ := hide hdq
                    clear hee hdq
                    go_wp2_with fail
                    refine (done_frame (endF r) g h w8 P8 hI1).mono ?_
                    rintro e w' ⟨rfl, rfl⟩
                    rw [← HDQ.out]
                    rcases hdd with ⟨rfl, rfl⟩ | ⟨rfl, rfl⟩
                    · go_wp2_with fail
                      refine (end_frame (endF r) g h w8 P8 hI1).mono ?_
                      rintro e w9 ⟨rfl, P9, hb9⟩
                      rw [HEE.out]
                      have hB9 := hb9.bel hB8 lg lh hB8.size
                      go_wp2_with fail
                      go_ret
                      exact ⟨rfl, hB9⟩
                    · go_wp2_with fail
                      refine (end_frame (endF r) g h w8 P8 hI1).mono ?_
                      rintro e w9 ⟨rfl, P9, hb9⟩
                      rw [HEE.out]
                      have hB9 := hb9.bel hB8 lg lh hB8.size
                      go_wp2_with fail
                      go_ret
                      exact ⟨rfl, hB9⟩
          · go_wp2_with fail
            refine (new_no x0 x1 hok w1).mono ?_
            rintro e w' ⟨rfl, rfl⟩
            go_wp2_with fail
            go_ret
            exact ⟨rfl, hB1⟩
  · go_wp2_with fail
    refine (awake_any _).mono ?_
    rintro e w2 ⟨rfl, hb2⟩
    have hB2 := hB1.trans (hb2.mono hB1.size)
    go_wp2_with fail
    go_ret
    exact ⟨rfl, hB2⟩

theorem ps : ∀ t ∈ Tryd.f7.params.toList, Tryd.prog.readableRec t = true ∧ t < Tryd.prog.types.size := by
  rw [Tryd.params7]
  intro t ht
  simp at ht
  rcases ht with rfl | rfl | rfl
  all_goals exact ⟨by kernel_rfl, of_decide_eq_true (by kernel_rfl)⟩

set_option maxRecDepth 100000 in
theorem lifted (os : Os) (started : os.Started) (H : Type) (enc : TypeId × Value → H) :
    ReturnsInHanded {} Tryd.checked os 7 .any (fun w args => (Rows.frameDoneSpec.pre enc Tryd.prog Tryd.f7 [] false w args ∧ laidMetH Tryd.prog laidL w) ∧ sizedMet enc Tryd.prog Tryd.f7 (OpenSpec.ofChange Rows.frameDoneSpec) false w args) (Rows.frameDoneSpec.post enc Tryd.prog Tryd.f7 false true false false) := by
  refine returnsInHanded_of_change_and (C := Tryd.checked) (X := fun w _ => laidMetH Tryd.prog laidL w) (fun _ _ _ hh h => h.of_heap hh) law_own started (by kernel_rfl) Tryd.func7
    (ChangeSpec.witness_shaped (enc := enc) (C := Tryd.checked) (os := os) (X := fun w _ => laidMetH Tryd.prog laidL w) false (World.laidAll Tryd.prog os laidL) #[.agg #[.int .i64 0, .int .i64 0], .slice none 0 0, .slice none 0 0] 8 (World.laidAll_os _ _ _) (World.shaped_of_ZipB (by kernel_rfl) (by kernel_rfl)) (by kernel_rfl) (by kernel_rfl) (by kernel_rfl) (by rw [MakeChecks.laidMetH_plain _ _ _ (by kernel_rfl)]; exact laidMet_laidAll _ (by kernel_rfl) (by kernel_rfl))) ?_
  intro W base args ds gs before hval0 hW _ hsz hL _
  have hval : ∀ (j : Nat) t v, Tryd.f7.params[j]? = some t → args[j]? = some v → Value.okWide Tryd.prog W .any base t v := hval0
  have hW' := hW
  have hlt : ∀ p ∈ before, p.block < W.heap.size := fun p hp => hW.lt p hp
  obtain ⟨p, q, hA0, hV, rfl, hfz, hnd⟩ := hW
  have hA : DataW.TrodAll enc Tryd.prog W 0 (fun _ => true) true Tryd.f7.params.toList args.toList ds p := hA0
  rw [Tryd.params7] at hA hval
  obtain ⟨v0, vs0, d0, ds0, p0, q0, hargs, rfl, rfl, h0, r0⟩ := trodAll_cons hA
  obtain ⟨v1, vs1, d1, ds1, p1, q1, rfl, rfl, rfl, h1, r1⟩ := trodAll_cons r0
  obtain ⟨v2, vs2, d2, ds2, p2, q2, rfl, rfl, rfl, h2, r2⟩ := trodAll_cons r1
  obtain ⟨rfl, rfl, rfl⟩ := trodAll_nil r2
  obtain rfl : args = #[v0, v1, v2] := by cases args; simp_all
  obtain ⟨rfl, rfl⟩ := trodVars_none hV
  obtain ⟨x0, x1, rfl⟩ := open_two_arg (hval 0 54 v0 rfl rfl) h0
  obtain ⟨A, c, ls, rfl, hr⟩ := open_bss_arg (hval 1 32 v1 rfl rfl) h1 (fun n hn => by have := List.all_eq_true.1 hsz n (DataW.weights_mem_each (j := 1) (by rw [Tryd.params7]; rfl) rfl n hn); simpa using this)
  obtain ⟨M, d, ms, rfl, hmm⟩ := open_bytes_arg (hval 2 43 v2 rfl rfl) h2
  clear hA0 hval0
  refine (walk x0 x1 A c ls M d ms W hr hmm).mono fun e W' ⟨he, hb⟩ => ?_
  subst he
  exact ⟨_, rfl, law_close hW' rfl rfl rfl ps hb⟩

theorem row : Rows.FrameDoneSaid :=
  OpenClaim.holds_of_wide 7 Tryd.f7 rfl rfl rfl rfl rfl rfl rfl ⟨rfl, rfl, rfl, rfl, rfl⟩ rfl rfl rfl rfl rfl (by kernel_rfl) Tryd.func7 (by kernel_rfl)
    (of_decide_eq_true (by kernel_rfl)) (by unfold Func.isWrapper; first | (rw [if_pos (by decide +kernel)]; kernel_rfl) | (rw [if_neg (by decide +kernel)]; exact ⟨rfl, rfl⟩))
    (fun os started H enc _ => lifted os started H enc)
theorem proved : Rows.FrameDoneCardSaid :=
  Claim7.holds_tied_plain_at .later [] [.data, .pinned] true (true, "87d5f9219f07a079969b4c10c39daa5a43c4b1aaca00ea7f38b869a1054ed3de") false
    row (fun _ h => by cases h) (by kernel_rfl) (fun _ h => by cases h) frameDone_row_tie rfl ⟨rfl, rfl⟩ (by kernel_rfl) rfl
    (fun f fn hf hfn => by
      obtain rfl : f = 7 := Option.some.inj ((show Tryd.prog.funcNamed "mandoline/mandolinelaw13.FrameDone" = some 7 by kernel_rfl).symm.trans hf) |>.symm
      obtain rfl : fn = Tryd.f7 := (Option.some.inj (Tryd.func7.symm.trans hfn)).symm
      exact ⟨by kernel_rfl, fun j t ht => by
        rw [Tryd.params7] at ht
        have hm : t ∈ [54, 32, 43] := by simpa using Array.mem_of_getElem? ht
        have hall : ([54, 32, 43].all fun u => !Tryd.prog.wantsStandIn u) = true := by kernel_rfl
        exact (show Tryd.prog.wantsStandIn t = false by simpa using List.all_eq_true.1 hall t hm)⟩)
    (by kernel_rfl)
#print axioms proved

end Go.Proofs.YtiigkacmahecaaaDoor.frameDone
