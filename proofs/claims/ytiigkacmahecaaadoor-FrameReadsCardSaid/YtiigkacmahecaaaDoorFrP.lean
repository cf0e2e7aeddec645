/-
  Pieces, on both readers.
-/
import Derived.Test.YtiigkacmahecaaaDoorFrO
import Derived.Test.YtiigkacmahecaaaDoorFrK
namespace Go.Proofs.YtiigkacmahecaaaDoor
open Go.RowKit
set_option linter.unusedVariables false
set_option linter.unusedSimpArgs false

def BothOk (B g h m : Nat) (w0 w : World) (e : Ending) (w' : World) : Prop := ∃ r : Rf, e = .returned (.bool true) ∧ PR w' g h r ∧ MR w' m r ∧ invF r ∧ Below B w0 w'

theorem byt_but_m {w w' : World} {m : Nat} {r : Rf} {v : Value} {bs : List UInt8} (h : Byt w w.heap.size v bs) (M : MR w m r) (k : But m w w') : Byt w' w'.heap.size v bs := by
  obtain ⟨lf, i0, i1, i2, i3, i4, X, a, b⟩ := M
  exact (h.but k X (no_byte8 _ _ _ _ _ _ _ _)).mono k.size

set_option maxRecDepth 100000 in
set_option maxHeartbeats 4000000 in
theorem both_any (r0 : Rf) (g h m : Nat) (A : Option Addr) (c : Nat) (ls : List BsZ) (w0 w : World) (hr : RdBB w0 A c ls) (hsum : (flatB ls).length + ls.length ≤ 600) (hb0 : Below w0.heap.size w0 w) (lg : w0.heap.size ≤ g) (lh : w0.heap.size ≤ h) (lm : w0.heap.size ≤ m) (n1 : m ≠ g) (n2 : m ≠ h) (P : PR w g h r0) (M : MR w m r0) (I : invF r0) : Calls Tryd.prog 19 #[.pointer (some ⟨g, 0, none⟩), .pointer (some ⟨m, 0, none⟩), .slice A ls.length c] w (BothOk w0.heap.size g h m w0 w) := by
  have HR := hide hr
  clear hr
  go_enter Tryd.func19, Tryd.ntmps19
  go_wp2_with fail
  go_loopw [17] (fun c17 wr => ∃ (k : Nat) (r : Rf), k ≤ ls.length ∧ c17 = .int .i64 (k : Int) ∧ PR wr g h r ∧ MR wr m r ∧ invF r ∧ Below w0.heap.size w0 wr) (fun c17 _ => ls.length - (intOf c17).toNat)
  case atStart => exact ⟨0, r0, Nat.zero_le _, rfl, P, M, I, hb0⟩
  case round =>
    clear P M I hb0
    obtain ⟨k, r, hk, rfl, P, M, hI, hb⟩ := hrel
    by_cases hlt : k < ls.length
    · obtain ⟨b0, off, hA, hb0, c0, hRB, hz⟩ := HR.out.2 k hlt
      subst hA
      have hbl := flat_mem hlt
      obtain ⟨A1, k1, bs, hbk⟩ : ∃ a b c, ls[k] = (a, b, c) := ⟨_, _, _, rfl⟩
      rw [hbk] at c0 hRB hbl
      simp only at hRB hbl
      have c0' : wr.cell? ⟨b0, off + k, none⟩ = some (.slice A1 bs.length k1) := by rw [hb.cell (show b0 < w0.heap.size from hb0)]; exact c0
      have HY0 := hide (hRB.2.2 (by omega))
      have HY := hide ((HY0.out.below hb).mono hb.size)
      clear hbk c0 hRB
      obtain ⟨t8, d8, n8, e8, hT8⟩ : ∃ a b c d, takeF r bs = ⟨a, b, c, d⟩ := ⟨_, _, _, _, rfl⟩
      have hd8 : d8.length ≤ bs.length := by have := (takeF_len r bs).1; rw [hT8] at this; exact this
      have hI8 : invF t8 := by have := inv_takeF hI bs; rw [hT8] at this; exact this
      have HT8 := hide hT8
      clear hT8
      have hzz : OwnB wr.heap.size (wr.alloc (.cells #[] 5)) (.slice (some ⟨wr.heap.size, 0, none⟩) 0 0) [] := OwnB.build wr [] (by simp)
      have HZZ := hide hzz
      have hbA : Below wr.heap.size wr (wr.alloc (.cells #[] 5)) := (Below.refl _ _).alloc (Nat.le_refl _) _
      have HU := hide (HY.out.below hbA)
      have HL1 := hide (show ([] : List UInt8).length + bs.length ≤ 140737488355328 by rw [List.length_nil]; omega)
      clear hzz
      go_wp2_with (first | (at_builtin; refine wpList_appG rfl (.tmp 23) (.tmp 24) rfl wr.heap.size _ [] rfl HZZ.out (by simp) _ bs _ rfl HU.out HL1.out ?_; intro v7 w7 ho7 hg7; rw [List.nil_append] at ho7) | fail)
      have hb7 : Below wr.heap.size wr w7 := HZZ.out.belg hbA hg7 (by simp)
      have P7 := P.below hb7 P.blk.lt P.lt
      have hB7 := hb.trans (hb7.mono hb.size)
      have Y7 := ho7.byt (by omega)
      clear HU HL1 HZZ hbA hg7
      refine (take_frame r _ _ g h w7 P7 hI Y7).mono ?_
      intro e w8 hp
      unfold TakesF at hp
      rw [HT8.out] at hp
      obtain ⟨v8, rfl, ho8, P8, hb8⟩ := hp
      replace ho8 : OwnB w7.heap.size w8 v8 d8 := ho8
      replace P8 : PR w8 g h t8 := P8
      have hB8 := hb8.bel hB7 lg lh hB7.size
      have M8 := (M.below hb7 M.lt).but2 hb8 n1 n2
      have HU8 := hide (ho8.byt (by omega))
      clear P7 Y7 ho7 hb7 hB7 HY P M hb c0' hb8 ho8
      go_wp2_with fail
      refine (mtake_any r _ bs m w8 M8 hI ((HY0.out.below hB8).mono hB8.size)).mono ?_
      intro e w9 hp
      unfold TakesM at hp
      rw [HT8.out] at hp
      obtain ⟨v9, rfl, hv9, M9, hb9⟩ := hp
      replace hv9 : Byt w9 w9.heap.size v9 d8 := hv9
      replace M9 : MR w9 m t8 := M9
      have hB9 := hb9.bel hB8 lm hB8.size
      have P9 := P8.but hb9 n1.symm n2.symm
      have HU9 := hide (byt_but_m HU8.out M8 hb9)
      have HV9 := hide hv9
      clear P8 M8 HU8 hv9 hb9 hB8 HY0 HT8
      have s1 := run_byt_string w9 _ v8 _ HU9.out
      have s2 := run_byt_string w9 _ v9 _ HV9.out
      obtain ⟨dv, hdv⟩ : ∃ z, z = doneF t8 := ⟨_, rfl⟩
      have D1 := done_frame t8 g h w9 P9 hI8
      have D2 := mdone_any t8 m w9 M9 hI8
      rw [← hdv] at D1 D2
      have HD1 := hide D1
      have HD2 := hide D2
      clear hdv D1 D2
      go_wp2_with fail
      refine HD1.out.mono ?_
      rintro e w' ⟨rfl, rfl⟩
      go_wp2_with fail
      refine HD2.out.mono ?_
      rintro e wA ⟨rfl, hbA⟩
      have PA := P9.below hbA P9.blk.lt P9.lt
      have MA := M9.below hbA M9.lt
      have hBA := hB9.trans (hbA.mono hB9.size)
      clear P9 M9 hbA hB9 s1 s2 HU9 HV9 HD1 HD2
      cases dv
      · go_wp2_with fail
        go_roundw
        case rel => exact ⟨k + 1, t8, by omega, by go_num, PA, MA, hI8, hBA⟩
        case measure => simp [intOf] <;> omega
      · go_wp2_with fail
        go_roundw
        case rel => exact ⟨k + 1, t8, by omega, by go_num, PA, MA, hI8, hBA⟩
        case measure => simp [intOf] <;> omega
    · go_wp2_with fail
      go_ret
      exact ⟨r, rfl, P, M, hI, hb⟩

end Go.Proofs.YtiigkacmahecaaaDoor
