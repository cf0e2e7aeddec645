/-
  What a reply is to a fetch: the program's function.
-/
import Derived.Test.YtdbocpgkedgpcaaFetC
namespace Go.Proofs.Ytdbocpgkedgpcaa
open Go.RowKit
set_option linter.unusedVariables false
set_option linter.unusedSimpArgs false

def statV (fa fb : Int) (f n : Tag) (st : Int) (mt : ByteArray) (mk : Bool) (md ln hv fr wh er : Int) (ks : List ByteArray) (tn : ByteArray) (sa sb : Int) : Int :=
  if st = 200 then (if bringsB fa fb f st mt mk md ln hv fr wh er ks tn sa sb = true then 1 else 6)
  else if st = 206 then (if bringsB fa fb f st mt mk md ln hv fr wh er ks tn sa sb = true then 1 else 6)
  else if st = 304 then (if (someTag n && (!someTag (mt, mk) || strongB (mt, mk) n)) = true then 2 else 6)
  else if st = 412 then (if someTag f = true then 3 else 6)
  else if st = 404 then 4 else if st = 410 then 4
  else if st = 416 then (if (metaOk mt mk md ln hv fr wh er ks tn && decide (hv ≤ fa)) = true then 5 else 6)
  else 6
def readV (ob : ByteArray) (fa fb : Int) (f n : Tag) (st : Int) (mt : ByteArray) (mk : Bool) (md ln hv fr wh er : Int) (ks : List ByteArray) (tn : ByteArray) (sa sb ag : Int) : Int :=
  if (fRight ob fa fb f n && (decide (0 ≤ ag) && decide (ag ≤ 1099511627776))) = true then statV fa fb f n st mt mk md ln hv fr wh er ks tn sa sb else 6
def IntOk (v : Int) (w : World) (e : Ending) (w' : World) : Prop := e = .returned (.int .i64 v) ∧ Below w.heap.size w w'

set_option maxRecDepth 100000 in
set_option maxHeartbeats 16000000 in
theorem read_any (ob : ByteArray) (fa fb : Int) (ft : ByteArray) (fk : Bool) (nt : ByteArray) (nk : Bool) (st : Int) (mt : ByteArray) (mk : Bool) (md ln hv fr wh er : Int) (kv : Value) (tn : ByteArray) (kp : Bool) (sa sb ag : Int) (ks : List ByteArray) (w : World) (hob : ob.size ≤ 9223372036854775807) (hft : ft.size ≤ 9223372036854775807) (hnt : nt.size ≤ 9223372036854775807) (hmt : mt.size ≤ 9223372036854775807) (htn : tn.size ≤ 9223372036854775807) (hr : RdStrs w w.heap.size kv ks) :
    Calls Try.prog 14 #[.agg #[.string ob, .int .i64 fa, .int .i64 fb, .string ft, .bool fk, .string nt, .bool nk], .agg #[.int .i64 st, .string mt, .bool mk, .int .i64 md, .int .i64 ln, .int .i64 hv, .int .i64 fr, .int .i64 wh, .int .i64 er, kv, .string tn, .bool kp, .int .i64 sa, .int .i64 sb, .int .i64 ag]] w (IntOk (readV ob fa fb (ft, fk) (nt, nk) st mt mk md ln hv fr wh er ks tn sa sb ag) w) := by
  obtain ⟨A, c, rfl, hkc0, hc0⟩ := hr.form
  have R0 := hide hr
  clear hr
  go_enter Try.func14, Try.ntmps14
  go_wp2_with fail
  obtain ⟨w1, hw1⟩ : ∃ w1 : World, w1 = ((w).alloc (.cells #[.string ob, .int .i64 fa, .int .i64 fb, .string ft, .bool fk, .string nt, .bool nk] 27)).alloc (.cells #[.int .i64 st, .string mt, .bool mk, .int .i64 md, .int .i64 ln, .int .i64 hv, .int .i64 fr, .int .i64 wh, .int .i64 er, .slice A ks.length c, .string tn, .bool kp, .int .i64 sa, .int .i64 sb, .int .i64 ag] 32) := ⟨_, rfl⟩
  rw [← hw1]
  have hB1 : Below w.heap.size w w1 := by rw [hw1]; exact (((Below.refl _ _).alloc (Nat.le_refl _) _).alloc (by simp; try omega) _)
  have T : Blk w1 (w.heap.size) 27 #[.string ob, .int .i64 fa, .int .i64 fb, .string ft, .bool fk, .string nt, .bool nk] := by rw [hw1]; exact ((Blk.new _ _ _).alloc _)
  have P : Blk w1 (w.heap.size + 1) 32 #[.int .i64 st, .string mt, .bool mk, .int .i64 md, .int .i64 ln, .int .i64 hv, .int .i64 fr, .int .i64 wh, .int .i64 er, .slice A ks.length c, .string tn, .bool kp, .int .i64 sa, .int .i64 sb, .int .i64 ag] := by rw [hw1]; exact (Blk.new' (by simp))
  have R1 := hide ((R0.out.below hB1).mono hB1.size)
  clear hw1
  have cT := T.cell
  have cP := P.cell
  refine (fright_any _ _ _ _ _ _ _ _ hob hft hnt).mono ?_
  rintro e w2 ⟨rfl, hb2⟩
  have hB2 := hB1.trans (hb2.mono hB1.size)
  replace T := T.below hb2 T.lt
  replace P := P.below hb2 P.lt
  replace R1 := hide ((R1.out.below hb2).mono hb2.size)
  clear cT cP hb2
  have cT := T.cell
  have cP := P.cell
  cases h1 : fRight ob fa fb (ft, fk) (nt, nk)
  · have hx := hide (show readV ob fa fb (ft, fk) (nt, nk) st mt mk md ln hv fr wh er ks tn sa sb ag = 6 by unfold readV; rw [h1]; rfl)
    go_wp2_with fail
    go_ret
    exact ⟨ret_int hx.out.symm, hB2⟩
  · by_cases na : ag < 0
    · have da : decide (ag < 0) = true := by simpa using na
      have hx := hide (show readV ob fa fb (ft, fk) (nt, nk) st mt mk md ln hv fr wh er ks tn sa sb ag = 6 by unfold readV; rw [show decide (0 ≤ ag) = false by simp; omega]; simp)
      go_wp2_with fail
      go_ret
      exact ⟨ret_int hx.out.symm, hB2⟩
    · have da : decide (ag < 0) = false := by simpa using na
      by_cases nb : 1099511627776 < ag
      · have db : decide (1099511627776 < ag) = true := by simpa using nb
        have hx := hide (show readV ob fa fb (ft, fk) (nt, nk) st mt mk md ln hv fr wh er ks tn sa sb ag = 6 by unfold readV; rw [show decide (ag ≤ 1099511627776) = false by simp; omega]; simp)
        go_wp2_with fail
        go_ret
        exact ⟨ret_int hx.out.symm, hB2⟩
      · have db : decide (1099511627776 < ag) = false := by simpa using nb
        have HG := hide (show (fRight ob fa fb (ft, fk) (nt, nk) && (decide (0 ≤ ag) && decide (ag ≤ 1099511627776))) = true by rw [h1]; simp; omega)
        by_cases n200 : st = 200
        · have d200 : (st == 200) = true := by simpa using n200
          have e200 : (st != 200) = false := by simpa using n200
          have N200 := hide n200
          clear n200
          go_wp2_with fail
          refine (brings_any ob fa fb ft fk nt nk st mt mk md ln hv fr wh er _ tn kp sa sb ag ks _ hft hmt htn R1.out).mono ?_
          rintro e w3 ⟨rfl, hb3⟩
          have hB3 := hB2.trans (hb3.mono hB2.size)
          replace T := T.below hb3 T.lt
          replace P := P.below hb3 P.lt
          replace R1 := hide ((R1.out.below hb3).mono hb3.size)
          clear cT cP hb3
          have cT := T.cell
          have cP := P.cell
          cases hb : bringsB fa fb (ft, fk) st mt mk md ln hv fr wh er ks tn sa sb
          · have hx := hide (show readV ob fa fb (ft, fk) (nt, nk) st mt mk md ln hv fr wh er ks tn sa sb ag = 6 by unfold readV; rw [if_pos HG.out]; unfold statV; rw [if_pos N200.out, hb]; rfl)
            go_wp2_with fail
            go_ret
            exact ⟨ret_int hx.out.symm, hB3⟩
          · have hx := hide (show readV ob fa fb (ft, fk) (nt, nk) st mt mk md ln hv fr wh er ks tn sa sb ag = 1 by unfold readV; rw [if_pos HG.out]; unfold statV; rw [if_pos N200.out, hb]; rfl)
            go_wp2_with fail
            go_ret
            exact ⟨ret_int hx.out.symm, hB3⟩
        · have d200 : (st == 200) = false := by simpa using n200
          have e200 : (st != 200) = true := by simpa using n200
          by_cases n206 : st = 206
          · have d206 : (st == 206) = true := by simpa using n206
            have e206 : (st != 206) = false := by simpa using n206
            have N206 := hide n206
            clear n206
            go_wp2_with fail
            refine (brings_any ob fa fb ft fk nt nk st mt mk md ln hv fr wh er _ tn kp sa sb ag ks _ hft hmt htn R1.out).mono ?_
            rintro e w3 ⟨rfl, hb3⟩
            have hB3 := hB2.trans (hb3.mono hB2.size)
            replace T := T.below hb3 T.lt
            replace P := P.below hb3 P.lt
            replace R1 := hide ((R1.out.below hb3).mono hb3.size)
            clear cT cP hb3
            have cT := T.cell
            have cP := P.cell
            cases hb : bringsB fa fb (ft, fk) st mt mk md ln hv fr wh er ks tn sa sb
            · have hx := hide (show readV ob fa fb (ft, fk) (nt, nk) st mt mk md ln hv fr wh er ks tn sa sb ag = 6 by unfold readV; rw [if_pos HG.out]; unfold statV; rw [if_neg n200]; rw [if_pos N206.out, hb]; rfl)
              go_wp2_with fail
              go_ret
              exact ⟨ret_int hx.out.symm, hB3⟩
            · have hx := hide (show readV ob fa fb (ft, fk) (nt, nk) st mt mk md ln hv fr wh er ks tn sa sb ag = 1 by unfold readV; rw [if_pos HG.out]; unfold statV; rw [if_neg n200]; rw [if_pos N206.out, hb]; rfl)
              go_wp2_with fail
              go_ret
              exact ⟨ret_int hx.out.symm, hB3⟩
          · have d206 : (st == 206) = false := by simpa using n206
            have e206 : (st != 206) = true := by simpa using n206
            by_cases n304 : st = 304
            · have d304 : (st == 304) = true := by simpa using n304
              have e304 : (st != 304) = false := by simpa using n304
              have N304 := hide n304
              clear n304
              go_wp2_with fail
              refine (there_any _ _ _).mono ?_
              rintro e w3 ⟨rfl, hb3⟩
              have hB3 := hB2.trans (hb3.mono hB2.size)
              replace T := T.below hb3 T.lt
              replace P := P.below hb3 P.lt
              replace R1 := hide ((R1.out.below hb3).mono hb3.size)
              clear cT cP hb3
              have cT := T.cell
              have cP := P.cell
              cases h4 : someTag (nt, nk)
              · have hx := hide (show readV ob fa fb (ft, fk) (nt, nk) st mt mk md ln hv fr wh er ks tn sa sb ag = 6 by unfold readV; rw [if_pos HG.out]; unfold statV; rw [if_neg n200]; rw [if_neg n206]; rw [if_pos N304.out, h4]; rfl)
                go_wp2_with fail
                go_ret
                exact ⟨ret_int hx.out.symm, hB3⟩
              · go_wp2_with fail
                refine (there_any _ _ _).mono ?_
                rintro e w4 ⟨rfl, hb4⟩
                have hB4 := hB3.trans (hb4.mono hB3.size)
                replace T := T.below hb4 T.lt
                replace P := P.below hb4 P.lt
                replace R1 := hide ((R1.out.below hb4).mono hb4.size)
                clear cT cP hb4
                have cT := T.cell
                have cP := P.cell
                cases h5 : someTag (mt, mk)
                · have hx := hide (show readV ob fa fb (ft, fk) (nt, nk) st mt mk md ln hv fr wh er ks tn sa sb ag = 2 by unfold readV; rw [if_pos HG.out]; unfold statV; rw [if_neg n200]; rw [if_neg n206]; rw [if_pos N304.out, h4, h5]; rfl)
                  go_wp2_with fail
                  go_ret
                  exact ⟨ret_int hx.out.symm, hB4⟩
                · go_wp2_with fail
                  refine (tag_strong _ _ _ _ _ hmt hnt).mono ?_
                  rintro e w5 ⟨rfl, hb5⟩
                  have hB5 := hB4.trans (hb5.mono hB4.size)
                  replace T := T.below hb5 T.lt
                  replace P := P.below hb5 P.lt
                  replace R1 := hide ((R1.out.below hb5).mono hb5.size)
                  clear cT cP hb5
                  have cT := T.cell
                  have cP := P.cell
                  cases h6 : strongB (mt, mk) (nt, nk)
                  · have h6' : strongB (mt, mk) (nt, nk) = false := by exact h6
                    have hx := hide (show readV ob fa fb (ft, fk) (nt, nk) st mt mk md ln hv fr wh er ks tn sa sb ag = 6 by unfold readV; rw [if_pos HG.out]; unfold statV; rw [if_neg n200]; rw [if_neg n206]; rw [if_pos N304.out, h4, h5, h6']; rfl)
                    clear h6'
                    go_wp2_with fail
                    go_ret
                    exact ⟨ret_int hx.out.symm, hB5⟩
                  · have h6' : strongB (mt, mk) (nt, nk) = true := by exact h6
                    have hx := hide (show readV ob fa fb (ft, fk) (nt, nk) st mt mk md ln hv fr wh er ks tn sa sb ag = 2 by unfold readV; rw [if_pos HG.out]; unfold statV; rw [if_neg n200]; rw [if_neg n206]; rw [if_pos N304.out, h4, h5, h6']; rfl)
                    clear h6'
                    go_wp2_with fail
                    go_ret
                    exact ⟨ret_int hx.out.symm, hB5⟩
            · have d304 : (st == 304) = false := by simpa using n304
              have e304 : (st != 304) = true := by simpa using n304
              by_cases n412 : st = 412
              · have d412 : (st == 412) = true := by simpa using n412
                have e412 : (st != 412) = false := by simpa using n412
                have N412 := hide n412
                clear n412
                go_wp2_with fail
                refine (there_any _ _ _).mono ?_
                rintro e w3 ⟨rfl, hb3⟩
                have hB3 := hB2.trans (hb3.mono hB2.size)
                replace T := T.below hb3 T.lt
                replace P := P.below hb3 P.lt
                replace R1 := hide ((R1.out.below hb3).mono hb3.size)
                clear cT cP hb3
                have cT := T.cell
                have cP := P.cell
                cases h4 : someTag (ft, fk)
                · have hx := hide (show readV ob fa fb (ft, fk) (nt, nk) st mt mk md ln hv fr wh er ks tn sa sb ag = 6 by unfold readV; rw [if_pos HG.out]; unfold statV; rw [if_neg n200]; rw [if_neg n206]; rw [if_neg n304]; rw [if_pos N412.out, h4]; rfl)
                  go_wp2_with fail
                  go_ret
                  exact ⟨ret_int hx.out.symm, hB3⟩
                · have hx := hide (show readV ob fa fb (ft, fk) (nt, nk) st mt mk md ln hv fr wh er ks tn sa sb ag = 3 by unfold readV; rw [if_pos HG.out]; unfold statV; rw [if_neg n200]; rw [if_neg n206]; rw [if_neg n304]; rw [if_pos N412.out, h4]; rfl)
                  go_wp2_with fail
                  go_ret
                  exact ⟨ret_int hx.out.symm, hB3⟩
              · have d412 : (st == 412) = false := by simpa using n412
                have e412 : (st != 412) = true := by simpa using n412
                by_cases n404 : st = 404
                · have d404 : (st == 404) = true := by simpa using n404
                  have e404 : (st != 404) = false := by simpa using n404
                  have N404 := hide n404
                  clear n404
                  have hx := hide (show readV ob fa fb (ft, fk) (nt, nk) st mt mk md ln hv fr wh er ks tn sa sb ag = 4 by unfold readV; rw [if_pos HG.out]; unfold statV; rw [if_neg n200]; rw [if_neg n206]; rw [if_neg n304]; rw [if_neg n412]; rw [if_pos N404.out])
                  go_wp2_with fail
                  go_ret
                  exact ⟨ret_int hx.out.symm, hB2⟩
                · have d404 : (st == 404) = false := by simpa using n404
                  have e404 : (st != 404) = true := by simpa using n404
                  by_cases n410 : st = 410
                  · have d410 : (st == 410) = true := by simpa using n410
                    have e410 : (st != 410) = false := by simpa using n410
                    have N410 := hide n410
                    clear n410
                    have hx := hide (show readV ob fa fb (ft, fk) (nt, nk) st mt mk md ln hv fr wh er ks tn sa sb ag = 4 by unfold readV; rw [if_pos HG.out]; unfold statV; rw [if_neg n200]; rw [if_neg n206]; rw [if_neg n304]; rw [if_neg n412]; rw [if_neg n404]; rw [if_pos N410.out])
                    go_wp2_with fail
                    go_ret
                    exact ⟨ret_int hx.out.symm, hB2⟩
                  · have d410 : (st == 410) = false := by simpa using n410
                    have e410 : (st != 410) = true := by simpa using n410
                    by_cases n416 : st = 416
                    · have d416 : (st == 416) = true := by simpa using n416
                      have e416 : (st != 416) = false := by simpa using n416
                      have N416 := hide n416
                      clear n416
                      go_wp2_with fail
                      refine (meta_right mt mk md ln hv fr wh er _ tn kp ks _ hmt htn R1.out).mono ?_
                      rintro e w3 ⟨rfl, hb3⟩
                      have hB3 := hB2.trans (hb3.mono hB2.size)
                      replace T := T.below hb3 T.lt
                      replace P := P.below hb3 P.lt
                      replace R1 := hide ((R1.out.below hb3).mono hb3.size)
                      clear cT cP hb3
                      have cT := T.cell
                      have cP := P.cell
                      cases hm : metaOk mt mk md ln hv fr wh er ks tn
                      · have hx := hide (show readV ob fa fb (ft, fk) (nt, nk) st mt mk md ln hv fr wh er ks tn sa sb ag = 6 by unfold readV; rw [if_pos HG.out]; unfold statV; rw [if_neg n200]; rw [if_neg n206]; rw [if_neg n304]; rw [if_neg n412]; rw [if_neg n404]; rw [if_neg n410]; rw [if_pos N416.out, hm]; rfl)
                        go_wp2_with fail
                        go_ret
                        exact ⟨ret_int hx.out.symm, hB3⟩
                      · by_cases nhv : hv ≤ fa
                        · have dhv : decide (hv ≤ fa) = true := by simpa using nhv
                          have hx := hide (show readV ob fa fb (ft, fk) (nt, nk) st mt mk md ln hv fr wh er ks tn sa sb ag = 5 by unfold readV; rw [if_pos HG.out]; unfold statV; rw [if_neg n200]; rw [if_neg n206]; rw [if_neg n304]; rw [if_neg n412]; rw [if_neg n404]; rw [if_neg n410]; rw [if_pos N416.out, hm, dhv]; rfl)
                          go_wp2_with fail
                          go_ret
                          exact ⟨ret_int hx.out.symm, hB3⟩
                        · have dhv : decide (hv ≤ fa) = false := by simpa using nhv
                          have hx := hide (show readV ob fa fb (ft, fk) (nt, nk) st mt mk md ln hv fr wh er ks tn sa sb ag = 6 by unfold readV; rw [if_pos HG.out]; unfold statV; rw [if_neg n200]; rw [if_neg n206]; rw [if_neg n304]; rw [if_neg n412]; rw [if_neg n404]; rw [if_neg n410]; rw [if_pos N416.out, hm, dhv]; rfl)
                          go_wp2_with fail
                          go_ret
                          exact ⟨ret_int hx.out.symm, hB3⟩
                    · have d416 : (st == 416) = false := by simpa using n416
                      have e416 : (st != 416) = true := by simpa using n416
                      have hx := hide (show readV ob fa fb (ft, fk) (nt, nk) st mt mk md ln hv fr wh er ks tn sa sb ag = 6 by unfold readV; rw [if_pos HG.out]; unfold statV; rw [if_neg n200]; rw [if_neg n206]; rw [if_neg n304]; rw [if_neg n412]; rw [if_neg n404]; rw [if_neg n410]; rw [if_neg n416]; )
                      go_wp2_with fail
                      go_ret
                      exact ⟨ret_int hx.out.symm, hB2⟩

end Go.Proofs.Ytdbocpgkedgpcaa
