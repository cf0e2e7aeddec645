/-
  What a reply brings: the program's function.
-/
import Derived.Test.YtdbocpgkedgpcaaFetA
import Derived.Test.YtdbocpgkedgpcaaMetaB
import Derived.RegionTactic
import Derived.ChangeAlike
namespace Go.Proofs.Ytdbocpgkedgpcaa
open Go.RowKit
set_option linter.unusedVariables false
set_option linter.unusedSimpArgs false

def endOf (ln : Int) : Int := if ln = -1 then 4611686018427387904 else ln
def bringsB (fa fb : Int) (f : Tag) (st : Int) (mt : ByteArray) (mk : Bool) (md ln hv fr wh er : Int) (ks : List ByteArray) (tn : ByteArray) (sa sb : Int) : Bool :=
  metaOk mt mk md ln hv fr wh er ks tn && ((!someTag f || strongB (mt, mk) f) && (if st = 200 then (sa == 0 && sb == endOf ln) else (spanOk sa sb && (decide (sa < sb) && ((sa == fa) && (decide (sb ≤ fb) && decide (sb ≤ endOf ln)))))))
theorem tagStrong_symm (a b : Tag) : strongB a b = strongB b a := by
  unfold strongB weakB
  have e : (a.1.toList == b.1.toList) = (b.1.toList == a.1.toList) := by rw [Bool.eq_iff_iff, beq_iff_eq, beq_iff_eq]; exact eq_comm
  rw [e]
  cases tagOk a.1 <;> cases tagOk b.1 <;> cases a.2 <;> cases b.2 <;> rfl
theorem meta_ln {mt : ByteArray} {mk : Bool} {md ln hv fr wh er : Int} {ks : List ByteArray} {tn : ByteArray} (h : metaOk mt mk md ln hv fr wh er ks tn = true) : -1 ≤ ln ∧ ln ≤ 1099511627776 := by
  unfold metaOk numsOk at h
  simp at h
  omega

set_option maxRecDepth 100000 in
set_option maxHeartbeats 16000000 in
theorem brings_any (ob : ByteArray) (fa fb : Int) (ft : ByteArray) (fk : Bool) (nt : ByteArray) (nk : Bool) (st : Int) (mt : ByteArray) (mk : Bool) (md ln hv fr wh er : Int) (kv : Value) (tn : ByteArray) (kp : Bool) (sa sb ag : Int) (ks : List ByteArray) (w : World) (hft : ft.size ≤ 9223372036854775807) (hmt : mt.size ≤ 9223372036854775807) (htn : tn.size ≤ 9223372036854775807) (hr : RdStrs w w.heap.size kv ks) :
    Calls Try.prog 36 #[.agg #[.string ob, .int .i64 fa, .int .i64 fb, .string ft, .bool fk, .string nt, .bool nk], .agg #[.int .i64 st, .string mt, .bool mk, .int .i64 md, .int .i64 ln, .int .i64 hv, .int .i64 fr, .int .i64 wh, .int .i64 er, kv, .string tn, .bool kp, .int .i64 sa, .int .i64 sb, .int .i64 ag]] w (BoolOk (bringsB fa fb (ft, fk) st mt mk md ln hv fr wh er ks tn sa sb) w) := by
  obtain ⟨A, c, rfl, hkc0, hc0⟩ := hr.form
  have R0 := hide hr
  clear hr
  go_enter Try.func36, Try.ntmps36
  go_upto_region 1 with fail
  obtain ⟨w1, hw1⟩ : ∃ w1 : World, w1 = ((w).alloc (.cells #[.string ob, .int .i64 fa, .int .i64 fb, .string ft, .bool fk, .string nt, .bool nk] 27)).alloc (.cells #[.int .i64 st, .string mt, .bool mk, .int .i64 md, .int .i64 ln, .int .i64 hv, .int .i64 fr, .int .i64 wh, .int .i64 er, .slice A ks.length c, .string tn, .bool kp, .int .i64 sa, .int .i64 sb, .int .i64 ag] 32) := ⟨_, rfl⟩
  rw [← hw1]
  have hB1 : Below w.heap.size w w1 := by rw [hw1]; exact (((Below.refl _ _).alloc (Nat.le_refl _) _).alloc (by simp; try omega) _)
  have T : Blk w1 (w.heap.size) 27 #[.string ob, .int .i64 fa, .int .i64 fb, .string ft, .bool fk, .string nt, .bool nk] := by rw [hw1]; exact ((Blk.new _ _ _).alloc _)
  have P : Blk w1 (w.heap.size + 1) 32 #[.int .i64 st, .string mt, .bool mk, .int .i64 md, .int .i64 ln, .int .i64 hv, .int .i64 fr, .int .i64 wh, .int .i64 er, .slice A ks.length c, .string tn, .bool kp, .int .i64 sa, .int .i64 sb, .int .i64 ag] := by rw [hw1]; exact (Blk.new' (by simp))
  have R1 := hide ((R0.out.below hB1).mono hB1.size)
  clear hw1
  have cT := T.cell
  have cP := P.cell
  have lT := T.lt
  have lP := P.lt
  go_cut [5, 6] (fun p q wx => ∃ g h : Nat, p = .pointer (some ⟨g, 0, none⟩) ∧ q = .pointer (some ⟨h, 0, none⟩) ∧ Blk wx g 30 #[.string mt, .bool mk, .int .i64 md, .int .i64 ln, .int .i64 hv, .int .i64 fr, .int .i64 wh, .int .i64 er, .slice A ks.length c, .string tn, .bool kp] ∧ Blk wx h 23 #[.int .i64 sa, .int .i64 sb] ∧ Below w1.heap.size w1 wx)
  case first =>
    go_region
    · go_wp2_with fail
      go_meet
      exact ⟨_, _, rfl, rfl, ((Blk.new _ _ _).alloc _).drew, (Blk.new' (by simp)).drew, (((Below.refl _ _).alloc (Nat.le_refl _) _).alloc (by simp) _).drew⟩
    · go_wp2_with fail
      go_meet
      exact ⟨_, _, rfl, rfl, (Blk.new' (by simp)).drew, ((Blk.new _ _ _).alloc _).drew, (((Below.refl _ _).alloc (Nat.le_refl _) _).alloc (by simp) _).drew⟩
  case rest =>
    obtain ⟨g, h, rfl, rfl, G, H, hbc⟩ := hcut
    have hBc := hB1.trans (hbc.mono hB1.size)
    replace T := T.below hbc T.lt
    replace P := P.below hbc P.lt
    replace R1 := hide ((R1.out.below hbc).mono hbc.size)
    clear cT cP hbc lT lP
    have cT := T.cell
    have cP := P.cell
    have cG := G.cell
    have cH := H.cell
    go_wp2_with fail
    refine (meta_right mt mk md ln hv fr wh er _ tn kp ks _ hmt htn R1.out).mono ?_
    rintro e w2 ⟨rfl, hb2⟩
    have hB2 := hBc.trans (hb2.mono hBc.size)
    replace T := T.below hb2 T.lt
    replace P := P.below hb2 P.lt
    replace G := G.below hb2 G.lt
    replace H := H.below hb2 H.lt
    replace R1 := hide ((R1.out.below hb2).mono hb2.size)
    clear cT cP cG cH hb2
    have cT := T.cell
    have cP := P.cell
    have cG := G.cell
    have cH := H.cell
    cases h1 : metaOk mt mk md ln hv fr wh er ks tn
    · have hx := hide (show bringsB fa fb (ft, fk) st mt mk md ln hv fr wh er ks tn sa sb = false by unfold bringsB; rw [h1]; rfl)
      go_wp2_with fail
      go_ret
      exact ⟨ret_bool hx.out.symm, hB2⟩
    · have HM := hide h1
      clear h1
      go_wp2_with fail
      refine (there_any _ _ _).mono ?_
      rintro e w3 ⟨rfl, hb3⟩
      have hB3 := hB2.trans (hb3.mono hB2.size)
      replace T := T.below hb3 T.lt
      replace P := P.below hb3 P.lt
      replace G := G.below hb3 G.lt
      replace H := H.below hb3 H.lt
      replace R1 := hide ((R1.out.below hb3).mono hb3.size)
      clear cT cP cG cH hb3
      have cT := T.cell
      have cP := P.cell
      have cG := G.cell
      have cH := H.cell
      cases h2 : someTag (ft, fk)
      · have HST := hide (show (!someTag (ft, fk) || strongB (mt, mk) (ft, fk)) = true by rw [h2]; rfl)
        by_cases n6 : ln = -1
        · have d6 : (ln == -1) = true := by simpa using n6
          have e6 : (ln != -1) = false := by simpa using n6
          have HE := hide (show endOf ln = 4611686018427387904 by unfold endOf; rw [if_pos n6])
          have q9 : decide (ln < 0) = true := by simp; omega
          clear n6
          by_cases n5 : st = 200
          · have d5 : (st == 200) = true := by simpa using n5
            have e5 : (st != 200) = false := by simpa using n5
            by_cases nz : sa = 0
            · have dz : (sa == 0) = true := by simpa using nz
              have ez : (sa != 0) = false := by simpa using nz
              by_cases ny : sb = 4611686018427387904
              · have dy : (sb == 4611686018427387904) = true := by simpa using ny
                have ey : (sb != 4611686018427387904) = false := by simpa using ny
                have hx := hide (show bringsB fa fb (ft, fk) st mt mk md ln hv fr wh er ks tn sa sb = true by unfold bringsB; rw [HM.out, HST.out, HE.out, if_pos n5]; simp [nz, ny])
                go_wp2_with fail
                go_ret
                exact ⟨ret_bool hx.out.symm, hB3⟩
              · have dy : (sb == 4611686018427387904) = false := by simpa using ny
                have ey : (sb != 4611686018427387904) = true := by simpa using ny
                have hx := hide (show bringsB fa fb (ft, fk) st mt mk md ln hv fr wh er ks tn sa sb = false by unfold bringsB; rw [HE.out, if_pos n5]; simp [ny])
                go_wp2_with fail
                go_ret
                exact ⟨ret_bool hx.out.symm, hB3⟩
            · have dz : (sa == 0) = false := by simpa using nz
              have ez : (sa != 0) = true := by simpa using nz
              have hx := hide (show bringsB fa fb (ft, fk) st mt mk md ln hv fr wh er ks tn sa sb = false by unfold bringsB; rw [if_pos n5]; simp [nz])
              go_wp2_with fail
              go_ret
              exact ⟨ret_bool hx.out.symm, hB3⟩
          · have d5 : (st == 200) = false := by simpa using n5
            have e5 : (st != 200) = true := by simpa using n5
            go_wp2_with fail
            refine (span_right _ _ _).mono ?_
            rintro e w4 ⟨rfl, hb4⟩
            have hB4 := hB3.trans (hb4.mono hB3.size)
            replace T := T.below hb4 T.lt
            replace P := P.below hb4 P.lt
            replace G := G.below hb4 G.lt
            replace H := H.below hb4 H.lt
            replace R1 := hide ((R1.out.below hb4).mono hb4.size)
            clear cT cP cG cH hb4
            have cT := T.cell
            have cP := P.cell
            have cG := G.cell
            have cH := H.cell
            cases hs : spanOk sa sb
            · have hx := hide (show bringsB fa fb (ft, fk) st mt mk md ln hv fr wh er ks tn sa sb = false by unfold bringsB; rw [if_neg n5, hs]; simp)
              go_wp2_with fail
              go_ret
              exact ⟨ret_bool hx.out.symm, hB4⟩
            · by_cases nlt : sa < sb
              · have dlt : decide (sa < sb) = true := by simpa using nlt
                have q2 : (sa == sb) = false := by simp; omega
                by_cases nq : sa = fa
                · have dq : (sa == fa) = true := by simpa using nq
                  have eq : (sa != fa) = false := by simpa using nq
                  by_cases nu : sb ≤ fb
                  · have du : decide (sb ≤ fb) = true := by simpa using nu
                    have q3 : decide (fb < sb) = false := by simpa using nu
                    by_cases nv : sb ≤ 4611686018427387904
                    · have dv : decide (sb ≤ 4611686018427387904) = true := by simpa using nv
                      have hx := hide (show bringsB fa fb (ft, fk) st mt mk md ln hv fr wh er ks tn sa sb = true by unfold bringsB; rw [HM.out, HST.out, HE.out, if_neg n5, hs, dlt, dq, du, dv]; rfl)
                      go_wp2_with fail
                      go_ret
                      exact ⟨ret_bool hx.out.symm, hB4⟩
                    · have dv : decide (sb ≤ 4611686018427387904) = false := by simpa using nv
                      exfalso; unfold spanOk at hs; simp at hs; omega
                  · have du : decide (sb ≤ fb) = false := by simpa using nu
                    have q3 : decide (fb < sb) = true := by simpa using nu
                    have hx := hide (show bringsB fa fb (ft, fk) st mt mk md ln hv fr wh er ks tn sa sb = false by unfold bringsB; rw [if_neg n5]; simp [nu])
                    go_wp2_with fail
                    go_ret
                    exact ⟨ret_bool hx.out.symm, hB4⟩
                · have dq : (sa == fa) = false := by simpa using nq
                  have eq : (sa != fa) = true := by simpa using nq
                  have hx := hide (show bringsB fa fb (ft, fk) st mt mk md ln hv fr wh er ks tn sa sb = false by unfold bringsB; rw [if_neg n5]; simp [nq])
                  go_wp2_with fail
                  go_ret
                  exact ⟨ret_bool hx.out.symm, hB4⟩
              · have dlt : decide (sa < sb) = false := by simpa using nlt
                have q2 : (sa == sb) = true := by unfold spanOk at hs; simp at hs; simp; omega
                have hx := hide (show bringsB fa fb (ft, fk) st mt mk md ln hv fr wh er ks tn sa sb = false by unfold bringsB; rw [if_neg n5]; simp [nlt])
                go_wp2_with fail
                go_ret
                exact ⟨ret_bool hx.out.symm, hB4⟩
        · have d6 : (ln == -1) = false := by simpa using n6
          have e6 : (ln != -1) = true := by simpa using n6
          have HE := hide (show endOf ln = ln by unfold endOf; rw [if_neg n6])
          have q9 : decide (ln < 0) = false := by have := (meta_ln HM.out).1; simp; omega
          clear n6
          by_cases n5 : st = 200
          · have d5 : (st == 200) = true := by simpa using n5
            have e5 : (st != 200) = false := by simpa using n5
            by_cases nz : sa = 0
            · have dz : (sa == 0) = true := by simpa using nz
              have ez : (sa != 0) = false := by simpa using nz
              by_cases ny : sb = ln
              · have dy : (sb == ln) = true := by simpa using ny
                have ey : (sb != ln) = false := by simpa using ny
                have hx := hide (show bringsB fa fb (ft, fk) st mt mk md ln hv fr wh er ks tn sa sb = true by unfold bringsB; rw [HM.out, HST.out, HE.out, if_pos n5]; simp [nz, ny])
                go_wp2_with fail
                go_ret
                exact ⟨ret_bool hx.out.symm, hB3⟩
              · have dy : (sb == ln) = false := by simpa using ny
                have ey : (sb != ln) = true := by simpa using ny
                have hx := hide (show bringsB fa fb (ft, fk) st mt mk md ln hv fr wh er ks tn sa sb = false by unfold bringsB; rw [HE.out, if_pos n5]; simp [ny])
                go_wp2_with fail
                go_ret
                exact ⟨ret_bool hx.out.symm, hB3⟩
            · have dz : (sa == 0) = false := by simpa using nz
              have ez : (sa != 0) = true := by simpa using nz
              have hx := hide (show bringsB fa fb (ft, fk) st mt mk md ln hv fr wh er ks tn sa sb = false by unfold bringsB; rw [if_pos n5]; simp [nz])
              go_wp2_with fail
              go_ret
              exact ⟨ret_bool hx.out.symm, hB3⟩
          · have d5 : (st == 200) = false := by simpa using n5
            have e5 : (st != 200) = true := by simpa using n5
            go_wp2_with fail
            refine (span_right _ _ _).mono ?_
            rintro e w4 ⟨rfl, hb4⟩
            have hB4 := hB3.trans (hb4.mono hB3.size)
            replace T := T.below hb4 T.lt
            replace P := P.below hb4 P.lt
            replace G := G.below hb4 G.lt
            replace H := H.below hb4 H.lt
            replace R1 := hide ((R1.out.below hb4).mono hb4.size)
            clear cT cP cG cH hb4
            have cT := T.cell
            have cP := P.cell
            have cG := G.cell
            have cH := H.cell
            cases hs : spanOk sa sb
            · have hx := hide (show bringsB fa fb (ft, fk) st mt mk md ln hv fr wh er ks tn sa sb = false by unfold bringsB; rw [if_neg n5, hs]; simp)
              go_wp2_with fail
              go_ret
              exact ⟨ret_bool hx.out.symm, hB4⟩
            · by_cases nlt : sa < sb
              · have dlt : decide (sa < sb) = true := by simpa using nlt
                have q2 : (sa == sb) = false := by simp; omega
                by_cases nq : sa = fa
                · have dq : (sa == fa) = true := by simpa using nq
                  have eq : (sa != fa) = false := by simpa using nq
                  by_cases nu : sb ≤ fb
                  · have du : decide (sb ≤ fb) = true := by simpa using nu
                    have q3 : decide (fb < sb) = false := by simpa using nu
                    by_cases nv : sb ≤ ln
                    · have dv : decide (sb ≤ ln) = true := by simpa using nv
                      have hx := hide (show bringsB fa fb (ft, fk) st mt mk md ln hv fr wh er ks tn sa sb = true by unfold bringsB; rw [HM.out, HST.out, HE.out, if_neg n5, hs, dlt, dq, du, dv]; rfl)
                      go_wp2_with fail
                      go_ret
                      exact ⟨ret_bool hx.out.symm, hB4⟩
                    · have dv : decide (sb ≤ ln) = false := by simpa using nv
                      have hx := hide (show bringsB fa fb (ft, fk) st mt mk md ln hv fr wh er ks tn sa sb = false by unfold bringsB; rw [HE.out, if_neg n5]; simp [nv])
                      go_wp2_with fail
                      go_ret
                      exact ⟨ret_bool hx.out.symm, hB4⟩
                  · have du : decide (sb ≤ fb) = false := by simpa using nu
                    have q3 : decide (fb < sb) = true := by simpa using nu
                    have hx := hide (show bringsB fa fb (ft, fk) st mt mk md ln hv fr wh er ks tn sa sb = false by unfold bringsB; rw [if_neg n5]; simp [nu])
                    go_wp2_with fail
                    go_ret
                    exact ⟨ret_bool hx.out.symm, hB4⟩
                · have dq : (sa == fa) = false := by simpa using nq
                  have eq : (sa != fa) = true := by simpa using nq
                  have hx := hide (show bringsB fa fb (ft, fk) st mt mk md ln hv fr wh er ks tn sa sb = false by unfold bringsB; rw [if_neg n5]; simp [nq])
                  go_wp2_with fail
                  go_ret
                  exact ⟨ret_bool hx.out.symm, hB4⟩
              · have dlt : decide (sa < sb) = false := by simpa using nlt
                have q2 : (sa == sb) = true := by unfold spanOk at hs; simp at hs; simp; omega
                have hx := hide (show bringsB fa fb (ft, fk) st mt mk md ln hv fr wh er ks tn sa sb = false by unfold bringsB; rw [if_neg n5]; simp [nlt])
                go_wp2_with fail
                go_ret
                exact ⟨ret_bool hx.out.symm, hB4⟩
      · go_wp2_with fail
        refine (tag_strong _ _ _ _ _ hmt hft).mono ?_
        rintro e w4 ⟨rfl, hb4⟩
        have hB4 := hB3.trans (hb4.mono hB3.size)
        replace T := T.below hb4 T.lt
        replace P := P.below hb4 P.lt
        replace G := G.below hb4 G.lt
        replace H := H.below hb4 H.lt
        replace R1 := hide ((R1.out.below hb4).mono hb4.size)
        clear cT cP cG cH hb4
        have cT := T.cell
        have cP := P.cell
        have cG := G.cell
        have cH := H.cell
        cases h3 : strongB (mt, mk) (ft, fk)
        · have h3' : strongB (mt, mk) (ft, fk) = false := by exact h3
          have hx := hide (show bringsB fa fb (ft, fk) st mt mk md ln hv fr wh er ks tn sa sb = false by unfold bringsB; rw [h2, h3']; simp)
          clear h3'
          go_wp2_with fail
          go_ret
          exact ⟨ret_bool hx.out.symm, hB4⟩
        · have h3' : strongB (mt, mk) (ft, fk) = true := by exact h3
          have HST := hide (show (!someTag (ft, fk) || strongB (mt, mk) (ft, fk)) = true by rw [h3']; simp)
          clear h3'
          by_cases n6 : ln = -1
          · have d6 : (ln == -1) = true := by simpa using n6
            have e6 : (ln != -1) = false := by simpa using n6
            have HE := hide (show endOf ln = 4611686018427387904 by unfold endOf; rw [if_pos n6])
            have q9 : decide (ln < 0) = true := by simp; omega
            clear n6
            by_cases n5 : st = 200
            · have d5 : (st == 200) = true := by simpa using n5
              have e5 : (st != 200) = false := by simpa using n5
              by_cases nz : sa = 0
              · have dz : (sa == 0) = true := by simpa using nz
                have ez : (sa != 0) = false := by simpa using nz
                by_cases ny : sb = 4611686018427387904
                · have dy : (sb == 4611686018427387904) = true := by simpa using ny
                  have ey : (sb != 4611686018427387904) = false := by simpa using ny
                  have hx := hide (show bringsB fa fb (ft, fk) st mt mk md ln hv fr wh er ks tn sa sb = true by unfold bringsB; rw [HM.out, HST.out, HE.out, if_pos n5]; simp [nz, ny])
                  go_wp2_with fail
                  go_ret
                  exact ⟨ret_bool hx.out.symm, hB4⟩
                · have dy : (sb == 4611686018427387904) = false := by simpa using ny
                  have ey : (sb != 4611686018427387904) = true := by simpa using ny
                  have hx := hide (show bringsB fa fb (ft, fk) st mt mk md ln hv fr wh er ks tn sa sb = false by unfold bringsB; rw [HE.out, if_pos n5]; simp [ny])
                  go_wp2_with fail
                  go_ret
                  exact ⟨ret_bool hx.out.symm, hB4⟩
              · have dz : (sa == 0) = false := by simpa using nz
                have ez : (sa != 0) = true := by simpa using nz
                have hx := hide (show bringsB fa fb (ft, fk) st mt mk md ln hv fr wh er ks tn sa sb = false by unfold bringsB; rw [if_pos n5]; simp [nz])
                go_wp2_with fail
                go_ret
                exact ⟨ret_bool hx.out.symm, hB4⟩
            · have d5 : (st == 200) = false := by simpa using n5
              have e5 : (st != 200) = true := by simpa using n5
              go_wp2_with fail
              refine (span_right _ _ _).mono ?_
              rintro e w5 ⟨rfl, hb5⟩
              have hB5 := hB4.trans (hb5.mono hB4.size)
              replace T := T.below hb5 T.lt
              replace P := P.below hb5 P.lt
              replace G := G.below hb5 G.lt
              replace H := H.below hb5 H.lt
              replace R1 := hide ((R1.out.below hb5).mono hb5.size)
              clear cT cP cG cH hb5
              have cT := T.cell
              have cP := P.cell
              have cG := G.cell
              have cH := H.cell
              cases hs : spanOk sa sb
              · have hx := hide (show bringsB fa fb (ft, fk) st mt mk md ln hv fr wh er ks tn sa sb = false by unfold bringsB; rw [if_neg n5, hs]; simp)
                go_wp2_with fail
                go_ret
                exact ⟨ret_bool hx.out.symm, hB5⟩
              · by_cases nlt : sa < sb
                · have dlt : decide (sa < sb) = true := by simpa using nlt
                  have q2 : (sa == sb) = false := by simp; omega
                  by_cases nq : sa = fa
                  · have dq : (sa == fa) = true := by simpa using nq
                    have eq : (sa != fa) = false := by simpa using nq
                    by_cases nu : sb ≤ fb
                    · have du : decide (sb ≤ fb) = true := by simpa using nu
                      have q3 : decide (fb < sb) = false := by simpa using nu
                      by_cases nv : sb ≤ 4611686018427387904
                      · have dv : decide (sb ≤ 4611686018427387904) = true := by simpa using nv
                        have hx := hide (show bringsB fa fb (ft, fk) st mt mk md ln hv fr wh er ks tn sa sb = true by unfold bringsB; rw [HM.out, HST.out, HE.out, if_neg n5, hs, dlt, dq, du, dv]; rfl)
                        go_wp2_with fail
                        go_ret
                        exact ⟨ret_bool hx.out.symm, hB5⟩
                      · have dv : decide (sb ≤ 4611686018427387904) = false := by simpa using nv
                        exfalso; unfold spanOk at hs; simp at hs; omega
                    · have du : decide (sb ≤ fb) = false := by simpa using nu
                      have q3 : decide (fb < sb) = true := by simpa using nu
                      have hx := hide (show bringsB fa fb (ft, fk) st mt mk md ln hv fr wh er ks tn sa sb = false by unfold bringsB; rw [if_neg n5]; simp [nu])
                      go_wp2_with fail
                      go_ret
                      exact ⟨ret_bool hx.out.symm, hB5⟩
                  · have dq : (sa == fa) = false := by simpa using nq
                    have eq : (sa != fa) = true := by simpa using nq
                    have hx := hide (show bringsB fa fb (ft, fk) st mt mk md ln hv fr wh er ks tn sa sb = false by unfold bringsB; rw [if_neg n5]; simp [nq])
                    go_wp2_with fail
                    go_ret
                    exact ⟨ret_bool hx.out.symm, hB5⟩
                · have dlt : decide (sa < sb) = false := by simpa using nlt
                  have q2 : (sa == sb) = true := by unfold spanOk at hs; simp at hs; simp; omega
                  have hx := hide (show bringsB fa fb (ft, fk) st mt mk md ln hv fr wh er ks tn sa sb = false by unfold bringsB; rw [if_neg n5]; simp [nlt])
                  go_wp2_with fail
                  go_ret
                  exact ⟨ret_bool hx.out.symm, hB5⟩
          · have d6 : (ln == -1) = false := by simpa using n6
            have e6 : (ln != -1) = true := by simpa using n6
            have HE := hide (show endOf ln = ln by unfold endOf; rw [if_neg n6])
            have q9 : decide (ln < 0) = false := by have := (meta_ln HM.out).1; simp; omega
            clear n6
            by_cases n5 : st = 200
            · have d5 : (st == 200) = true := by simpa using n5
              have e5 : (st != 200) = false := by simpa using n5
              by_cases nz : sa = 0
              · have dz : (sa == 0) = true := by simpa using nz
                have ez : (sa != 0) = false := by simpa using nz
                by_cases ny : sb = ln
                · have dy : (sb == ln) = true := by simpa using ny
                  have ey : (sb != ln) = false := by simpa using ny
                  have hx := hide (show bringsB fa fb (ft, fk) st mt mk md ln hv fr wh er ks tn sa sb = true by unfold bringsB; rw [HM.out, HST.out, HE.out, if_pos n5]; simp [nz, ny])
                  go_wp2_with fail
                  go_ret
                  exact ⟨ret_bool hx.out.symm, hB4⟩
                · have dy : (sb == ln) = false := by simpa using ny
                  have ey : (sb != ln) = true := by simpa using ny
                  have hx := hide (show bringsB fa fb (ft, fk) st mt mk md ln hv fr wh er ks tn sa sb = false by unfold bringsB; rw [HE.out, if_pos n5]; simp [ny])
                  go_wp2_with fail
                  go_ret
                  exact ⟨ret_bool hx.out.symm, hB4⟩
              · have dz : (sa == 0) = false := by simpa using nz
                have ez : (sa != 0) = true := by simpa using nz
                have hx := hide (show bringsB fa fb (ft, fk) st mt mk md ln hv fr wh er ks tn sa sb = false by unfold bringsB; rw [if_pos n5]; simp [nz])
                go_wp2_with fail
                go_ret
                exact ⟨ret_bool hx.out.symm, hB4⟩
            · have d5 : (st == 200) = false := by simpa using n5
              have e5 : (st != 200) = true := by simpa using n5
              go_wp2_with fail
              refine (span_right _ _ _).mono ?_
              rintro e w5 ⟨rfl, hb5⟩
              have hB5 := hB4.trans (hb5.mono hB4.size)
              replace T := T.below hb5 T.lt
              replace P := P.below hb5 P.lt
              replace G := G.below hb5 G.lt
              replace H := H.below hb5 H.lt
              replace R1 := hide ((R1.out.below hb5).mono hb5.size)
              clear cT cP cG cH hb5
              have cT := T.cell
              have cP := P.cell
              have cG := G.cell
              have cH := H.cell
              cases hs : spanOk sa sb
              · have hx := hide (show bringsB fa fb (ft, fk) st mt mk md ln hv fr wh er ks tn sa sb = false by unfold bringsB; rw [if_neg n5, hs]; simp)
                go_wp2_with fail
                go_ret
                exact ⟨ret_bool hx.out.symm, hB5⟩
              · by_cases nlt : sa < sb
                · have dlt : decide (sa < sb) = true := by simpa using nlt
                  have q2 : (sa == sb) = false := by simp; omega
                  by_cases nq : sa = fa
                  · have dq : (sa == fa) = true := by simpa using nq
                    have eq : (sa != fa) = false := by simpa using nq
                    by_cases nu : sb ≤ fb
                    · have du : decide (sb ≤ fb) = true := by simpa using nu
                      have q3 : decide (fb < sb) = false := by simpa using nu
                      by_cases nv : sb ≤ ln
                      · have dv : decide (sb ≤ ln) = true := by simpa using nv
                        have hx := hide (show bringsB fa fb (ft, fk) st mt mk md ln hv fr wh er ks tn sa sb = true by unfold bringsB; rw [HM.out, HST.out, HE.out, if_neg n5, hs, dlt, dq, du, dv]; rfl)
                        go_wp2_with fail
                        go_ret
                        exact ⟨ret_bool hx.out.symm, hB5⟩
                      · have dv : decide (sb ≤ ln) = false := by simpa using nv
                        have hx := hide (show bringsB fa fb (ft, fk) st mt mk md ln hv fr wh er ks tn sa sb = false by unfold bringsB; rw [HE.out, if_neg n5]; simp [nv])
                        go_wp2_with fail
                        go_ret
                        exact ⟨ret_bool hx.out.symm, hB5⟩
                    · have du : decide (sb ≤ fb) = false := by simpa using nu
                      have q3 : decide (fb < sb) = true := by simpa using nu
                      have hx := hide (show bringsB fa fb (ft, fk) st mt mk md ln hv fr wh er ks tn sa sb = false by unfold bringsB; rw [if_neg n5]; simp [nu])
                      go_wp2_with fail
                      go_ret
                      exact ⟨ret_bool hx.out.symm, hB5⟩
                  · have dq : (sa == fa) = false := by simpa using nq
                    have eq : (sa != fa) = true := by simpa using nq
                    have hx := hide (show bringsB fa fb (ft, fk) st mt mk md ln hv fr wh er ks tn sa sb = false by unfold bringsB; rw [if_neg n5]; simp [nq])
                    go_wp2_with fail
                    go_ret
                    exact ⟨ret_bool hx.out.symm, hB5⟩
                · have dlt : decide (sa < sb) = false := by simpa using nlt
                  have q2 : (sa == sb) = true := by unfold spanOk at hs; simp at hs; simp; omega
                  have hx := hide (show bringsB fa fb (ft, fk) st mt mk md ln hv fr wh er ks tn sa sb = false by unfold bringsB; rw [if_neg n5]; simp [nlt])
                  go_wp2_with fail
                  go_ret
                  exact ⟨ret_bool hx.out.symm, hB5⟩

end Go.Proofs.Ytdbocpgkedgpcaa
