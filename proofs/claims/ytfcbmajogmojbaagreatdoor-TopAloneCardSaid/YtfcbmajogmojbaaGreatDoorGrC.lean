/-
  Merged: CondA, CondB, CondC, CndO.
-/
import Derived.Test.YtfcbmajogmojbaaGreatDoorGrT
import Derived.Deep.DeepCutAuto
import Derived.Deep.CutBlock
namespace Go.Proofs.YtfcbmajogmojbaaGreatDoor
open Go.RowKit

end Go.Proofs.YtfcbmajogmojbaaGreatDoor
namespace Go.Proofs.YtfcbmajogmojbaaGreatDoor
open Go.RowKit

def SomeBool (w : World) (e : Ending) (w' : World) : Prop := ∃ b, e = .returned (.bool b) ∧ Below w.heap.size w w'

/-- 'slice .. of n tags', its cells as they are. -/
def RowOf (w : World) (B : Nat) (A : Option Addr) (ts : List Tag) : Prop :=
  ∀ i (h : i < ts.length), ∃ b off, A = some ⟨b, off, none⟩ ∧ b < B ∧ w.cell? ⟨b, off + i * 2, none⟩ = some (.string ts[i].1) ∧ w.cell? ⟨b, off + i * 2 + 1, none⟩ = some (.bool ts[i].2)

end Go.Proofs.YtfcbmajogmojbaaGreatDoor
namespace Go.Proofs.YtfcbmajogmojbaaGreatDoor
open Go.RowKit

def c1B (ts : List Tag) (am : Bool) (un : Int) (t : Tag) (md : Int) (th : Bool) : Bool :=
  if (decide (0 < ts.length) || am) = true then (!th || (!am && !inB ts t true)) else (decide (0 ≤ un) && th && decide (0 ≤ md) && decide (un < md))
def c2B (us : List Tag) (an : Bool) (si : Int) (t : Tag) (md ln : Int) (th : Bool) : Bool :=
  if (decide (0 < us.length) || an) = true then (th && (an || inB us t false)) else (decide (0 ≤ si) && th && (ln != -1) && decide (0 ≤ md) && decide (md ≤ si))
def someTagC (r : Tag) : Bool := !(r.1.toList == []) || r.2
def c3B (sn : Nat) (r t : Tag) (th : Bool) : Bool := decide (0 < sn) && someTagC r && th && !strongB t r
def checkV (sn : Nat) (ts us : List Tag) (am an : Bool) (si un : Int) (r t : Tag) (md ln : Int) (th : Bool) : Int :=
  if c1B ts am un t md th = true then 4 else if c2B us an si t md ln th = true then 3 else if c3B sn r t th = true then 2 else 1
def IntOk (v : Int) (w : World) (e : Ending) (w' : World) : Prop := e = .returned (.int .i64 v) ∧ Below w.heap.size w w'
theorem weakB_symm (a b : Tag) : weakB a b = weakB b a := by
  unfold weakB
  have e : (a.1.toList == b.1.toList) = (b.1.toList == a.1.toList) := by rw [Bool.eq_iff_iff, beq_iff_eq, beq_iff_eq]; exact eq_comm
  rw [e]
  cases tagOk a.1 <;> cases tagOk b.1 <;> rfl
theorem strongB_symm (a b : Tag) : strongB a b = strongB b a := by
  unfold strongB
  rw [weakB_symm a b]
  cases a.2 <;> cases b.2 <;> rfl
theorem empty_noC {s : ByteArray} (h : ¬ s = ⟨#[]⟩) : (s.toList == []) = false := by
  rw [ByteArray.toList_eq]
  simp only [beq_eq_false_iff_ne, ne_eq]
  exact fun e => h (by apply ByteArray.ext; exact Array.toList_inj.1 e)
theorem empty_noC' {s : ByteArray} (h : ¬ s = ⟨#[]⟩) : s.toList.isEmpty = false := by
  have := empty_noC h
  cases hl : s.toList with
  | nil => rw [hl] at this; simp at this
  | cons a l => rfl

set_option maxRecDepth 100000 in
set_option maxHeartbeats 16000000 in
theorem check_any (hd : Bool) (ob : ByteArray) (sa : Option Addr) (sn sc : Nat) (m n : Value) (ts us : List Tag) (am an : Bool) (si un : Int) (rt : ByteArray) (rk : Bool)
    (mt : ByteArray) (mk : Bool) (md ln hv fr wh er : Int) (kv : Value) (tn : ByteArray) (kp th : Bool) (w : World) (hm : mt.size ≤ 9223372036854775807) (hr : rt.size ≤ 9223372036854775807) (h1 : RdTags w w.heap.size m ts) (h2 : RdTags w w.heap.size n us) :
    Calls Tryz.prog 9 #[.agg #[.bool hd, .string ob, .slice sa sn sc, m, n, .bool am, .bool an, .int .i64 si, .int .i64 un, .string rt, .bool rk],
      .agg #[.string mt, .bool mk, .int .i64 md, .int .i64 ln, .int .i64 hv, .int .i64 fr, .int .i64 wh, .int .i64 er, kv, .string tn, .bool kp], .bool th] w (IntOk (checkV sn ts us am an si un (rt, rk) (mt, mk) md ln th) w) := by
  obtain ⟨l1, z1, A1, k1, rfl, r1⟩ := h1
  obtain ⟨l2, z2, A2, k2, rfl, r2⟩ := h2
  have R1 := hide (show RdTags w w.heap.size (.slice A1 ts.length k1) ts from ⟨l1, z1, A1, k1, rfl, r1⟩)
  have R2 := hide (show RdTags w w.heap.size (.slice A2 us.length k2) us from ⟨l2, z2, A2, k2, rfl, r2⟩)
  clear z1 r1 z2 r2
  go_enter Tryz.func9, Tryz.ntmps9
  go_upto_block 0 with fail
  obtain ⟨W, hW⟩ : ∃ W : World, W = ((w.alloc (.cells #[.bool hd, .string ob, .slice sa sn sc, .slice A1 ts.length k1, .slice A2 us.length k2, .bool am, .bool an, .int .i64 si, .int .i64 un, .string rt, .bool rk] 29)).alloc (.cells #[.string mt, .bool mk, .int .i64 md, .int .i64 ln, .int .i64 hv, .int .i64 fr, .int .i64 wh, .int .i64 er, kv, .string tn, .bool kp] 32)).alloc (.cells #[.slice A1 ts.length k1, .slice A2 us.length k2, .bool am, .bool an, .int .i64 si, .int .i64 un, .string rt, .bool rk] 27) := ⟨_, rfl⟩
  rw [← hW]
  have hz : W.heap.size = w.heap.size + 3 := by rw [hW]; simp
  have hBW : Below w.heap.size w W := by rw [hW]; exact (((Below.refl _ _).alloc (Nat.le_refl _) _).alloc (by simp) _).alloc (by simp; omega) _
  have f0 : W.cell? ⟨w.heap.size, 2, none⟩ = some (.slice sa sn sc) := by rw [hW]; simp [go_sem]
  have f1 : W.cell? ⟨w.heap.size + 1, 0, none⟩ = some (.string mt) := by rw [hW]; simp [go_sem]
  have f2 : W.cell? ⟨w.heap.size + 1, 1, none⟩ = some (.bool mk) := by rw [hW]; simp [go_sem]
  have f3 : W.cell? ⟨w.heap.size + 1, 2, none⟩ = some (.int .i64 md) := by rw [hW]; simp [go_sem]
  have f4 : W.cell? ⟨w.heap.size + 1, 3, none⟩ = some (.int .i64 ln) := by rw [hW]; simp [go_sem]
  have f5 : W.cell? ⟨w.heap.size + 2, 0, none⟩ = some (.slice A1 ts.length k1) := by rw [hW]; simp [go_sem]
  have f6 : W.cell? ⟨w.heap.size + 2, 1, none⟩ = some (.slice A2 us.length k2) := by rw [hW]; simp [go_sem]
  have f7 : W.cell? ⟨w.heap.size + 2, 2, none⟩ = some (.bool am) := by rw [hW]; simp [go_sem]
  have f8 : W.cell? ⟨w.heap.size + 2, 3, none⟩ = some (.bool an) := by rw [hW]; simp [go_sem]
  have f9 : W.cell? ⟨w.heap.size + 2, 4, none⟩ = some (.int .i64 si) := by rw [hW]; simp [go_sem]
  have f10 : W.cell? ⟨w.heap.size + 2, 5, none⟩ = some (.int .i64 un) := by rw [hW]; simp [go_sem]
  have f11 : W.cell? ⟨w.heap.size + 2, 6, none⟩ = some (.string rt) := by rw [hW]; simp [go_sem]
  have f12 : W.cell? ⟨w.heap.size + 2, 7, none⟩ = some (.bool rk) := by rw [hW]; simp [go_sem]
  have HZ := hide hz
  clear hz hW
  go_cut [] (fun wx => c1B ts am un (mt, mk) md th = false ∧ Below W.heap.size W wx)
  case first =>
    by_cases hp : 0 < ts.length
    · have hp' : (0 : Int) < (ts.length : Int) := by omega
      cases th
      · have X := hide (show c1B ts am un (mt, mk) md false = true by simp [c1B, hp])
        go_wp2_with fail
        all_goals go_ret
        all_goals exact ⟨ret_int (by rw [checkV, if_pos X.out]), hBW⟩
      · cases am
        · by_cases hi0 : inB ts (mt, mk) true = true
          · have hi : inB ts (mt, mk) true = true := hi0
            clear hi0
            have X := hide (show c1B ts false un (mt, mk) md true = false by simp [c1B, hp, hi])
            go_wp2_with fail
            refine (tag_in _ ts mt mk true _ hm ((R1.out.below hBW).mono hBW.size)).mono ?_
            rintro e w5 ⟨rfl, hb5⟩
            go_wp2_with fail
            go_meet
            exact ⟨X.out, hb5⟩
          · have hi : inB ts (mt, mk) true = false := by simpa using hi0
            clear hi0
            have X := hide (show c1B ts false un (mt, mk) md true = true by simp [c1B, hp, hi])
            go_wp2_with fail
            refine (tag_in _ ts mt mk true _ hm ((R1.out.below hBW).mono hBW.size)).mono ?_
            rintro e w5 ⟨rfl, hb5⟩
            go_wp2_with fail
            go_ret
            exact ⟨ret_int (by rw [checkV, if_pos X.out]), hBW.trans (hb5.mono hBW.size)⟩
        · have X := hide (show c1B ts true un (mt, mk) md true = false by simp [c1B, hp])
          go_wp2_with fail
          go_meet
          exact ⟨X.out, Below.refl _ _⟩
    · have hp' : ¬ (0 : Int) < (ts.length : Int) := by omega
      cases am
      · by_cases hu : 0 ≤ un
        · cases th
          · have X := hide (show c1B ts false un (mt, mk) md false = false by simp [c1B, hp])
            go_wp2_with fail
            go_meet
            exact ⟨X.out, Below.refl _ _⟩
          · by_cases hd1 : 0 ≤ md
            · by_cases hd2 : un < md
              · have X := hide (show c1B ts false un (mt, mk) md true = true by simp [c1B, hp, hu, hd1, hd2])
                go_wp2_with fail
                all_goals go_ret
                all_goals exact ⟨ret_int (by rw [checkV, if_pos X.out]), hBW⟩
              · have X := hide (show c1B ts false un (mt, mk) md true = false by simp [c1B, hp]; omega)
                go_wp2_with fail
                go_meet
                exact ⟨X.out, Below.refl _ _⟩
            · have X := hide (show c1B ts false un (mt, mk) md true = false by simp [c1B, hp]; omega)
              go_wp2_with fail
              go_meet
              exact ⟨X.out, Below.refl _ _⟩
        · cases th
          · have X := hide (show c1B ts false un (mt, mk) md false = false by simp [c1B, hp])
            go_wp2_with fail
            go_meet
            exact ⟨X.out, Below.refl _ _⟩
          · have X := hide (show c1B ts false un (mt, mk) md true = false by simp [c1B, hp]; omega)
            go_wp2_with fail
            go_meet
            exact ⟨X.out, Below.refl _ _⟩
      · cases th
        · have X := hide (show c1B ts true un (mt, mk) md false = true by simp [c1B, hp])
          go_wp2_with fail
          all_goals go_ret
          all_goals exact ⟨ret_int (by rw [checkV, if_pos X.out]), hBW⟩
        · have X := hide (show c1B ts true un (mt, mk) md true = false by simp [c1B, hp])
          go_wp2_with fail
          go_meet
          exact ⟨X.out, Below.refl _ _⟩
  case rest =>
    obtain ⟨g1, hb⟩ := hcut
    have G1 := hide g1
    clear g1
    have x0 := cell_later'' hb f0
    have x1 := cell_later'' hb f1
    have x2 := cell_later'' hb f2
    have x3 := cell_later'' hb f3
    have x4 := cell_later'' hb f4
    have x5 := cell_later'' hb f5
    have x6 := cell_later'' hb f6
    have x7 := cell_later'' hb f7
    have x8 := cell_later'' hb f8
    have x9 := cell_later'' hb f9
    have x10 := cell_later'' hb f10
    have x11 := cell_later'' hb f11
    have x12 := cell_later'' hb f12
    have F0 := hide f0
    have F1 := hide f1
    have F2 := hide f2
    have F11 := hide f11
    have F12 := hide f12
    clear f0 f1 f2 f3 f4 f5 f6 f7 f8 f9 f10 f11 f12
    have hBV := hBW.trans (hb.mono hBW.size)
    have hzb := hb.size
    go_upto_block 1 with fail
    go_cut [] (fun wx => c2B us an si (mt, mk) md ln th = false ∧ Below W.heap.size W wx)
    case first =>
      by_cases hp : 0 < us.length
      · have hp' : (0 : Int) < (us.length : Int) := by omega
        cases th
        · have X := hide (show c2B us an si (mt, mk) md ln false = false by simp [c2B])
          go_wp2_with fail
          go_meet
          exact ⟨X.out, hb⟩
        · cases an
          · by_cases hi0 : inB us (mt, mk) false = true
            · have hi : inB us (mt, mk) false = true := hi0
              clear hi0
              have X := hide (show c2B us false si (mt, mk) md ln true = true by simp [c2B, hp, hi])
              go_wp2_with fail
              refine (tag_in _ us mt mk false _ hm ((R2.out.below hBV).mono hBV.size)).mono ?_
              rintro e w5 ⟨rfl, hb5⟩
              go_wp2_with fail
              go_ret
              exact ⟨ret_int (by rw [checkV, if_neg (by rw [G1.out]; decide), if_pos X.out]), hBV.trans (hb5.mono hBV.size)⟩
            · have hi : inB us (mt, mk) false = false := by simpa using hi0
              clear hi0
              have X := hide (show c2B us false si (mt, mk) md ln true = false by simp [c2B, hp, hi])
              go_wp2_with fail
              refine (tag_in _ us mt mk false _ hm ((R2.out.below hBV).mono hBV.size)).mono ?_
              rintro e w5 ⟨rfl, hb5⟩
              go_wp2_with fail
              go_meet
              exact ⟨X.out, hb.trans (hb5.mono hzb)⟩
          · have X := hide (show c2B us true si (mt, mk) md ln true = true by simp [c2B])
            go_wp2_with fail
            go_ret
            exact ⟨ret_int (by rw [checkV, if_neg (by rw [G1.out]; decide), if_pos X.out]), hBV⟩
      · have hp' : ¬ (0 : Int) < (us.length : Int) := by omega
        cases an
        · by_cases hu : 0 ≤ si
          · cases th
            · have X := hide (show c2B us false si (mt, mk) md ln false = false by simp [c2B, hp])
              go_wp2_with fail
              go_meet
              exact ⟨X.out, hb⟩
            · by_cases hl0 : (ln != -1) = true
              · have hl : (ln != -1) = true := hl0
                clear hl0
                by_cases hd1 : 0 ≤ md
                · by_cases hd2 : md ≤ si
                  · have X := hide (show c2B us false si (mt, mk) md ln true = true by simp [c2B, hp, hu, hl, hd1, hd2])
                    go_wp2_with fail
                    go_ret
                    exact ⟨ret_int (by rw [checkV, if_neg (by rw [G1.out]; decide), if_pos X.out]), hBV⟩
                  · have X := hide (show c2B us false si (mt, mk) md ln true = false by simp [c2B, hp, hl]; omega)
                    go_wp2_with fail
                    go_meet
                    exact ⟨X.out, hb⟩
                · have X := hide (show c2B us false si (mt, mk) md ln true = false by simp [c2B, hp, hl]; omega)
                  go_wp2_with fail
                  go_meet
                  exact ⟨X.out, hb⟩
              · have hl : (ln != -1) = false := by simpa using hl0
                clear hl0
                have X := hide (show c2B us false si (mt, mk) md ln true = false by simp [c2B, hp, hl])
                go_wp2_with fail
                go_meet
                exact ⟨X.out, hb⟩
          · cases th
            · have X := hide (show c2B us false si (mt, mk) md ln false = false by simp [c2B, hp])
              go_wp2_with fail
              go_meet
              exact ⟨X.out, hb⟩
            · have X := hide (show c2B us false si (mt, mk) md ln true = false by simp [c2B, hp]; omega)
              go_wp2_with fail
              go_meet
              exact ⟨X.out, hb⟩
        · cases th
          · have X := hide (show c2B us true si (mt, mk) md ln false = false by simp [c2B, hp])
            go_wp2_with fail
            go_meet
            exact ⟨X.out, hb⟩
          · have X := hide (show c2B us true si (mt, mk) md ln true = true by simp [c2B, hp])
            go_wp2_with fail
            go_ret
            exact ⟨ret_int (by rw [checkV, if_neg (by rw [G1.out]; decide), if_pos X.out]), hBV⟩
    case rest =>
      obtain ⟨g2, hb2⟩ := hcut
      have G2 := hide g2
      clear g2
      clear x0 x1 x2 x3 x4 x5 x6 x7 x8 x9 x10 x11 x12
      have y0 := cell_later'' hb2 F0.out
      have y1 := cell_later'' hb2 F1.out
      have y2 := cell_later'' hb2 F2.out
      have y11 := cell_later'' hb2 F11.out
      have y12 := cell_later'' hb2 F12.out
      have hBU := hBW.trans (hb2.mono hBW.size)
      by_cases hp : 0 < sn
      · have hp' : (0 : Int) < (sn : Int) := by omega
        by_cases hrt : rt = ⟨#[]⟩
        · subst hrt
          cases rk
          · have hsm : someTagC (⟨#[]⟩, false) = false := by simp [someTagC, ByteArray.toList_eq]
            cases th
            · have Y := hide (show c3B sn (⟨#[]⟩, false) (mt, mk) false = false by simp [c3B])
              go_wp2_with fail
              all_goals go_ret
              all_goals exact ⟨ret_int (by rw [checkV, if_neg (by rw [G1.out]; decide), if_neg (by rw [G2.out]; decide), if_neg (by rw [Y.out]; decide)]), hBU⟩
            · have Y := hide (show c3B sn (⟨#[]⟩, false) (mt, mk) true = false by simp [c3B, hsm])
              go_wp2_with fail
              all_goals go_ret
              all_goals exact ⟨ret_int (by rw [checkV, if_neg (by rw [G1.out]; decide), if_neg (by rw [G2.out]; decide), if_neg (by rw [Y.out]; decide)]), hBU⟩
          · have hsm : someTagC (⟨#[]⟩, true) = true := by simp [someTagC]
            cases th
            · have Y := hide (show c3B sn (⟨#[]⟩, true) (mt, mk) false = false by simp [c3B])
              go_wp2_with fail
              all_goals go_ret
              all_goals exact ⟨ret_int (by rw [checkV, if_neg (by rw [G1.out]; decide), if_neg (by rw [G2.out]; decide), if_neg (by rw [Y.out]; decide)]), hBU⟩
            · by_cases hst0 : strongB (mt, mk) (⟨#[]⟩, true) = true
              · have hst : strongB (mt, mk) (⟨#[]⟩, true) = true := hst0
                clear hst0
                have Y := hide (show c3B sn (⟨#[]⟩, true) (mt, mk) true = false by simp [c3B, hp, hsm, hst])
                clear hsm
                go_wp2_with fail
                refine (tag_strong _ _ _ _ _ hm hr).mono ?_
                rintro e w6 ⟨rfl, hb6⟩
                go_wp2_with fail
                go_ret
                exact ⟨ret_int (by rw [checkV, if_neg (by rw [G1.out]; decide), if_neg (by rw [G2.out]; decide), if_neg (by rw [Y.out]; decide)]), hBU.trans (hb6.mono hBU.size)⟩
              · have hst : strongB (mt, mk) (⟨#[]⟩, true) = false := by simpa using hst0
                clear hst0
                have Y := hide (show c3B sn (⟨#[]⟩, true) (mt, mk) true = true by simp [c3B, hp, hsm, hst])
                clear hsm
                go_wp2_with fail
                refine (tag_strong _ _ _ _ _ hm hr).mono ?_
                rintro e w6 ⟨rfl, hb6⟩
                go_wp2_with fail
                go_ret
                exact ⟨ret_int (by rw [checkV, if_neg (by rw [G1.out]; decide), if_neg (by rw [G2.out]; decide), if_pos Y.out]), hBU.trans (hb6.mono hBU.size)⟩
        · have e1 := empty_noC hrt
          have e2 := empty_noC' hrt
          have hsm : someTagC (rt, rk) = true := by simp [someTagC, e1]
          clear hrt
          cases th
          · have Y := hide (show c3B sn (rt, rk) (mt, mk) false = false by simp [c3B])
            go_wp2_with fail
            all_goals go_ret
            all_goals exact ⟨ret_int (by rw [checkV, if_neg (by rw [G1.out]; decide), if_neg (by rw [G2.out]; decide), if_neg (by rw [Y.out]; decide)]), hBU⟩
          · by_cases hst0 : strongB (mt, mk) (rt, rk) = true
            · have hst : strongB (mt, mk) (rt, rk) = true := hst0
              clear hst0
              have Y := hide (show c3B sn (rt, rk) (mt, mk) true = false by simp [c3B, hp, hsm, hst])
              clear hsm
              go_wp2_with fail
              refine (tag_strong _ _ _ _ _ hm hr).mono ?_
              rintro e w6 ⟨rfl, hb6⟩
              go_wp2_with fail
              go_ret
              exact ⟨ret_int (by rw [checkV, if_neg (by rw [G1.out]; decide), if_neg (by rw [G2.out]; decide), if_neg (by rw [Y.out]; decide)]), hBU.trans (hb6.mono hBU.size)⟩
            · have hst : strongB (mt, mk) (rt, rk) = false := by simpa using hst0
              clear hst0
              have Y := hide (show c3B sn (rt, rk) (mt, mk) true = true by simp [c3B, hp, hsm, hst])
              clear hsm
              go_wp2_with fail
              refine (tag_strong _ _ _ _ _ hm hr).mono ?_
              rintro e w6 ⟨rfl, hb6⟩
              go_wp2_with fail
              go_ret
              exact ⟨ret_int (by rw [checkV, if_neg (by rw [G1.out]; decide), if_neg (by rw [G2.out]; decide), if_pos Y.out]), hBU.trans (hb6.mono hBU.size)⟩
      · have hp' : ¬ (0 : Int) < (sn : Int) := by omega
        have Y := hide (show c3B sn (rt, rk) (mt, mk) th = false by simp [c3B, hp])
        go_wp2_with fail
        all_goals go_ret
        all_goals exact ⟨ret_int (by rw [checkV, if_neg (by rw [G1.out]; decide), if_neg (by rw [G2.out]; decide), if_neg (by rw [Y.out]; decide)]), hBU⟩
end Go.Proofs.YtfcbmajogmojbaaGreatDoor
namespace Go.Proofs.YtfcbmajogmojbaaGreatDoor
open Go.RowKit

def noneV : Value := .agg #[.slice none 0 0, .slice none 0 0, .bool false, .bool false, .int .i64 (-1), .int .i64 (-1), .string ⟨#[]⟩, .bool false]
def NoneOk (w : World) (e : Ending) (w' : World) : Prop := e = .returned (.agg #[.slice none 0 0, .slice none 0 0, .bool false, .bool false, .int .i64 (-1), .int .i64 (-1), .string ⟨#[]⟩, .bool false]) ∧ Below w.heap.size w w'

set_option maxHeartbeats 400000 in
theorem cnone_any (w : World) : Calls Tryz.prog 11 #[] w (NoneOk w) := by
  go_enter Tryz.func11, Tryz.ntmps11
  go_wp2
  exact bodyPost_ret (v := noneV) (by simp [results, Tryz.results11, go_sem, noneV]) rfl ⟨rfl, (Below.refl _ _).alloc (Nat.le_refl _) _⟩

theorem RdTags.nil (w : World) (B : Nat) : RdTags w B (.slice none 0 0) [] := ⟨by simp, by simp, none, 0, rfl, fun i h => by simp at h⟩
theorem RdTags.one {w : World} {B g : Nat} {s : ByteArray} {b : Bool} (hs : s.size ≤ 9223372036854775807) (hg : g < B) (h0 : w.cell? ⟨g, 0, none⟩ = some (.string s)) (h1 : w.cell? ⟨g, 1, none⟩ = some (.bool b)) : RdTags w B (.slice (some ⟨g, 0, none⟩) 1 1) [(s, b)] :=
  ⟨by simp, by simpa using hs, some ⟨g, 0, none⟩, 1, rfl, fun i h => by
    obtain rfl : i = 0 := by simpa using h
    exact ⟨g, 0, rfl, hg, by simpa using h0, by simpa using h1⟩⟩

end Go.Proofs.YtfcbmajogmojbaaGreatDoor
