/-
  A condition that is heeded first isn't changed by the others: for every request, version and conditions.
-/
import Derived.Test.YtfbefjpajmigmaaCondE
import Derived.Test.YtfbefjpajmigmaaOpenC
import Derived.Test.YtfbefjpajmigmaaLift
import Derived.Test.YtfbefjpajmigmaaQuiet
import Derived.BigRegion
import Derived.ChangeAlike
import Derived.Deep.DeepCutAuto
import Derived.Deep.CutBlock
namespace Go.Proofs.Ytfbefjpajmigmaa.condOrder
open Go.ChangeShapes Go.WideShapes Go.ChangeAt Go.RowKit Go.Deep
set_option linter.unusedVariables false

theorem form {w : World} {B : Nat} {v : Value} {ts : List Tag} (h : RdTags w B v ts) : ∃ A k, v = .slice A ts.length k := by
  obtain ⟨_, _, A, c, rfl, _⟩ := h; exact ⟨A, c, rfl⟩
theorem same3 {sn : Nat} {ts us : List Tag} {am an : Bool} {si si2 un : Int} {r r2 t : Tag} {md ln : Int} {th : Bool} (h : 0 < us.length ∨ an = true) :
    (checkV sn ts us am an si un r t md ln th == 3) = (checkV sn ts us am an si2 un r2 t md ln th == 3) := by
  have hn : (decide (0 < us.length) || an) = true := by rcases h with h | h <;> simp [h]
  have h2 : c2B us an si t md ln th = c2B us an si2 t md ln th := by unfold c2B; rw [if_pos hn, if_pos hn]
  unfold checkV
  rw [h2]
  cases c1B ts am un t md th <;> cases c2B us an si2 t md ln th <;> cases c3B sn r t th <;> cases c3B sn r2 t th <;> rfl
theorem same4 {sn : Nat} {ts us us2 : List Tag} {am an an2 : Bool} {si si2 un : Int} {r r2 t : Tag} {md ln : Int} {th : Bool} :
    (checkV sn ts us am an si un r t md ln th == 4) = (checkV sn ts us2 am an2 si2 un r2 t md ln th == 4) := by
  unfold checkV
  cases c1B ts am un t md th <;> cases c2B us an si t md ln th <;> cases c2B us2 an2 si2 t md ln th <;> cases c3B sn r t th <;> cases c3B sn r2 t th <;> rfl

set_option maxRecDepth 100000 in
set_option maxHeartbeats 16000000 in
theorem walk (hd : Bool) (ob : ByteArray) (sa : Option Addr) (sn sc : Nat) (m n : Value) (ts us : List Tag) (am an : Bool) (si un : Int) (rt : ByteArray) (rk : Bool) (mt : ByteArray) (mk : Bool) (md ln hv fr wh er : Int) (kv : Value) (tn : ByteArray) (kp : Bool) (m2 n2 : Value) (ts2 us2 : List Tag) (am2 an2 : Bool) (si2 un2 : Int) (rt2 : ByteArray) (rk2 : Bool) (hr : rt.size ≤ 9223372036854775807) (hm : mt.size ≤ 9223372036854775807) (hr2 : rt2.size ≤ 9223372036854775807) (w : World) (r1 : RdTags w w.heap.size m ts) (r2 : RdTags w w.heap.size n us) (r3 : RdTags w w.heap.size m2 ts2) (r4 : RdTags w w.heap.size n2 us2) :
    Calls Try.prog 4 #[.agg #[.bool hd, .string ob, .slice sa sn sc, m, n, .bool am, .bool an, .int .i64 si, .int .i64 un, .string rt, .bool rk], .agg #[.string mt, .bool mk, .int .i64 md, .int .i64 ln, .int .i64 hv, .int .i64 fr, .int .i64 wh, .int .i64 er, kv, .string tn, .bool kp], .agg #[m2, n2, .bool am2, .bool an2, .int .i64 si2, .int .i64 un2, .string rt2, .bool rk2]] w (TrueOk' w) := by
  obtain ⟨A1, k1, rfl⟩ := form r1
  obtain ⟨A2, k2, rfl⟩ := form r2
  obtain ⟨A3, k3, rfl⟩ := form r3
  obtain ⟨A4, k4, rfl⟩ := form r4
  go_enter Try.func4, Try.ntmps4
  go_wp2_with fail
  obtain ⟨W, hW⟩ : ∃ W : World, W = ((w.alloc (.cells #[.bool hd, .string ob, .slice sa sn sc, .slice A1 ts.length k1, .slice A2 us.length k2, .bool am, .bool an, .int .i64 si, .int .i64 un, .string rt, .bool rk] 29)).alloc (.cells #[.string mt, .bool mk, .int .i64 md, .int .i64 ln, .int .i64 hv, .int .i64 fr, .int .i64 wh, .int .i64 er, kv, .string tn, .bool kp] 32)).alloc (.cells #[.slice A3 ts2.length k3, .slice A4 us2.length k4, .bool am2, .bool an2, .int .i64 si2, .int .i64 un2, .string rt2, .bool rk2] 27) := ⟨_, rfl⟩
  rw [← hW]
  have hBW : Below w.heap.size w W := by rw [hW]; exact (((Below.refl _ _).alloc (Nat.le_refl _) _).alloc (by simp) _).alloc (by simp; omega) _
  have B0 : Blk W w.heap.size 29 #[.bool hd, .string ob, .slice sa sn sc, .slice A1 ts.length k1, .slice A2 us.length k2, .bool am, .bool an, .int .i64 si, .int .i64 un, .string rt, .bool rk] := by rw [hW]; exact ((Blk.new w _ _).alloc _).alloc _
  have B1 : Blk W (w.heap.size + 1) 32 #[.string mt, .bool mk, .int .i64 md, .int .i64 ln, .int .i64 hv, .int .i64 fr, .int .i64 wh, .int .i64 er, kv, .string tn, .bool kp] := by rw [hW]; exact (Blk.new' (by simp)).alloc _
  have B2 : Blk W (w.heap.size + 2) 27 #[.slice A3 ts2.length k3, .slice A4 us2.length k4, .bool am2, .bool an2, .int .i64 si2, .int .i64 un2, .string rt2, .bool rk2] := by rw [hW]; exact Blk.new' (by simp)
  have R1 := hide ((r1.below hBW).mono hBW.size)
  have R2 := hide ((r2.below hBW).mono hBW.size)
  have R3 := hide ((r3.below hBW).mono hBW.size)
  have R4 := hide ((r4.below hBW).mono hBW.size)
  clear hW r1 r2 r3 r4
  refine (few_any _ _ ts us am an si un rt rk _ R1.out R2.out).mono ?_
  rintro e w2 ⟨b, rfl, hb2⟩
  have C0 := (B0.below hb2 B0.lt)
  have C1 := (B1.below hb2 B1.lt)
  have C2 := (B2.below hb2 B2.lt)
  have hB2 : Below w.heap.size w w2 := hBW.trans (hb2.mono hBW.size)
  have S1 := hide ((R1.out.below hb2).mono hb2.size)
  have S2 := hide ((R2.out.below hb2).mono hb2.size)
  have S3 := hide ((R3.out.below hb2).mono hb2.size)
  have S4 := hide ((R4.out.below hb2).mono hb2.size)
  have a2 := C2.cell
  clear B0 B1 B2 R1 R2 R3 R4 hb2 hBW
  cases b
  · go_wp2_with fail
    refine (awake8 _).mono ?_
    rintro e wz ⟨rfl, hbz⟩
    go_wp2
    go_ret
    exact ⟨rfl, hB2.trans (hbz.mono hB2.size)⟩
  · go_wp2_with fail
    refine (few_any _ _ ts2 us2 am2 an2 si2 un2 rt2 rk2 _ S3.out S4.out).mono ?_
    rintro e w3 ⟨b, rfl, hb3⟩
    have D0 := (C0.below hb3 C0.lt)
    have D1 := (C1.below hb3 C1.lt)
    have D2 := (C2.below hb3 C2.lt)
    have hB3 : Below w.heap.size w w3 := hB2.trans (hb3.mono hB2.size)
    have T1 := hide ((S1.out.below hb3).mono hb3.size)
    have T2 := hide ((S2.out.below hb3).mono hb3.size)
    have T4 := hide ((S4.out.below hb3).mono hb3.size)
    clear a2 C0 C1 C2 S1 S2 S3 S4 hb3 hB2
    have a0 := D0.cell
    cases b
    · go_wp2_with fail
      refine (awake8 _).mono ?_
      rintro e wz ⟨rfl, hbz⟩
      go_wp2
      go_ret
      exact ⟨rfl, hB3.trans (hbz.mono hB3.size)⟩
    · by_cases hs : 70 < (sn : Int)
      · go_wp2_with fail
        refine (awake8 _).mono ?_
        rintro e wz ⟨rfl, hbz⟩
        go_wp2
        go_ret
        exact ⟨rfl, hB3.trans (hbz.mono hB3.size)⟩
      · go_upto_region 4 with fail
        have l0 : w.heap.size < w3.heap.size := D0.lt
        have l1 : w.heap.size + 1 < w3.heap.size := D1.lt
        have l2 : w.heap.size + 1 + 1 < w3.heap.size := D2.lt
        have d2 : ∀ i, w3.cell? ⟨w.heap.size + 1 + 1, i, none⟩ = (#[.slice A3 ts2.length k3, .slice A4 us2.length k4, .bool am2, .bool an2, .int .i64 si2, .int .i64 un2, .string rt2, .bool rk2] : Array Value)[i]? := fun i => D2.cell i
        have e2 : ∀ i, (w3.alloc (.cells #[.bool hd, .string ob, .slice sa sn sc, .slice A1 ts.length k1, .slice A2 us.length k2, .bool am, .bool an, .int .i64 si, .int .i64 un, .string rt, .bool rk] 29)).cell? ⟨w.heap.size + 1 + 1, i, none⟩ = (#[.slice A3 ts2.length k3, .slice A4 us2.length k4, .bool am2, .bool an2, .int .i64 si2, .int .i64 un2, .string rt2, .bool rk2] : Array Value)[i]? := fun i => (D2.alloc _).cell i
        have X0 : Blk (w3.alloc (.cells #[.bool hd, .string ob, .slice sa sn sc, .slice A1 ts.length k1, .slice A2 us.length k2, .bool am, .bool an, .int .i64 si, .int .i64 un, .string rt, .bool rk] 29)) w3.heap.size 29 #[.bool hd, .string ob, .slice sa sn sc, .slice A1 ts.length k1, .slice A2 us.length k2, .bool am, .bool an, .int .i64 si, .int .i64 un, .string rt, .bool rk] := Blk.new _ _ _
        have e3 := X0.cell
        have e4 := X0.frozen
        have n1 : w.heap.size + 1 + 1 ≠ w3.heap.size := by omega
        have n2' : w3.heap.size ≠ w.heap.size + 1 + 1 := by omega
        go_cut [] (fun wx => Blk wx w3.heap.size 29 #[.bool hd, .string ob, .slice sa sn sc, .slice A1 ts.length k1, .slice A2 us.length k2, .bool am, .bool an, .int .i64 si2, .int .i64 un, .string rt2, .bool rk2] ∧ Below w3.heap.size w3 wx)
        case first =>
          go_region
          go_wp2_with fail
          go_meet
          exact ⟨(Blk.new w3 _ _).drew, ((Below.refl _ _).alloc (Nat.le_refl _) _).drew⟩
        case rest =>
          obtain ⟨XB, hb4⟩ := hcut
          have E0 := (D0.below hb4 D0.lt)
          have E1 := (D1.below hb4 D1.lt)
          have E2 := (D2.below hb4 D2.lt)
          have hB4 : Below w.heap.size w wc := hB3.trans (hb4.mono hB3.size)
          have U1 := hide ((T1.out.below hb4).mono hb4.size)
          have U2 := hide ((T2.out.below hb4).mono hb4.size)
          have U4 := hide ((T4.out.below hb4).mono hb4.size)
          have g1 := hide D0.lt
          have g2 := hide D2.lt
          clear a0 d2 e2 X0 e3 e4 n1 n2' l0 l1 l2 hb4 D0 D1 D2 T1 T2 T4
          have a0 := E0.cell
          have ht3 := fun h => @same3 sn ts us am an si si2 un (rt, rk) (rt2, rk2) (mt, mk) md ln true h
          have key : (decide (0 < us.length) = true ∧ 0 < us.length) ∨ (decide (0 < us.length) = false ∧ an = true) ∨ (decide (0 < us.length) = false ∧ an = false) := by
            by_cases h : 0 < us.length <;> cases an <;> simp [h]
          rcases key with ⟨hd3, hn⟩ | ⟨hd3, rfl⟩ | ⟨hd3, rfl⟩
          · have hs3 := ht3 (.inl hn)
            clear ht3 hn
            go_upto_region 6 with fail
            have q0 : ∀ (x : Bel wc.heap.size wc) i, x.w.cell? ⟨w.heap.size, i, none⟩ = (#[.bool hd, .string ob, .slice sa sn sc, .slice A1 ts.length k1, .slice A2 us.length k2, .bool am, .bool an, .int .i64 si, .int .i64 un, .string rt, .bool rk] : Array Value)[i]? := fun x i => (E0.below x.h E0.lt).cell i
            have q1 : ∀ (x : Bel wc.heap.size wc) i, x.w.cell? ⟨w.heap.size + 1, i, none⟩ = (#[.string mt, .bool mk, .int .i64 md, .int .i64 ln, .int .i64 hv, .int .i64 fr, .int .i64 wh, .int .i64 er, kv, .string tn, .bool kp] : Array Value)[i]? := fun x i => (E1.below x.h E1.lt).cell i
            have q2 : ∀ (x : Bel wc.heap.size wc) i, x.w.cell? ⟨w3.heap.size, i, none⟩ = (#[.bool hd, .string ob, .slice sa sn sc, .slice A1 ts.length k1, .slice A2 us.length k2, .bool am, .bool an, .int .i64 si2, .int .i64 un, .string rt2, .bool rk2] : Array Value)[i]? := fun x i => (XB.below x.h XB.lt).cell i
            have u1 : ∀ (x : Bel wc.heap.size wc), RdTags x.w x.w.heap.size (.slice A1 ts.length k1) ts := fun x => (U1.out.below x.h).mono x.h.size
            have u2 : ∀ (x : Bel wc.heap.size wc), RdTags x.w x.w.heap.size (.slice A2 us.length k2) us := fun x => (U2.out.below x.h).mono x.h.size
            have V1 := hide u1
            have V2 := hide u2
            clear a0 u1 u2
            refine wp_region_bel wc.heap.size (by kernel_rfl) (by kernel_rfl) ?_
            repeat (go_big_quiet_step ((go_at_call 16; refine bel_call (Nat.le_refl _) (check_any hd ob sa sn sc _ _ ts us am an _ un _ _ mt mk md ln hv fr wh er kv tn kp true _ hm ?_ (V1.out _) (V2.out _)); first | exact hr | exact hr2)))
            refine wpQuiet_nil ?_
            rintro w5 ⟨⟨_, hb5⟩, rfl⟩
            have F0 := E0.below hb5 E0.lt
            have F1 := E1.below hb5 E1.lt
            have F2 := E2.below hb5 E2.lt
            have XF := XB.below hb5 XB.lt
            have hB5 : Below w.heap.size w w5 := hB4.trans (hb5.mono hB4.size)
            have P1 := hide ((U1.out.below hb5).mono hb5.size)
            have P2 := hide ((U2.out.below hb5).mono hb5.size)
            have P4 := hide ((U4.out.below hb5).mono hb5.size)
            clear E0 E1 E2 XB U1 U2 U4 hB4 hb5
            have x3 := XF.cell
            go_upto_region 9 with fail
            have d2 : ∀ i, w5.cell? ⟨w.heap.size + 1 + 1, i, none⟩ = (#[.slice A3 ts2.length k3, .slice A4 us2.length k4, .bool am2, .bool an2, .int .i64 si2, .int .i64 un2, .string rt2, .bool rk2] : Array Value)[i]? := fun i => F2.cell i
            have e2 : ∀ i, (w5.alloc (.cells #[.bool hd, .string ob, .slice sa sn sc, .slice A1 ts.length k1, .slice A2 us.length k2, .bool am, .bool an, .int .i64 si2, .int .i64 un, .string rt2, .bool rk2] 29)).cell? ⟨w.heap.size + 1 + 1, i, none⟩ = (#[.slice A3 ts2.length k3, .slice A4 us2.length k4, .bool am2, .bool an2, .int .i64 si2, .int .i64 un2, .string rt2, .bool rk2] : Array Value)[i]? := fun i => (F2.alloc _).cell i
            have Y0 : Blk (w5.alloc (.cells #[.bool hd, .string ob, .slice sa sn sc, .slice A1 ts.length k1, .slice A2 us.length k2, .bool am, .bool an, .int .i64 si2, .int .i64 un, .string rt2, .bool rk2] 29)) w5.heap.size 29 #[.bool hd, .string ob, .slice sa sn sc, .slice A1 ts.length k1, .slice A2 us.length k2, .bool am, .bool an, .int .i64 si2, .int .i64 un, .string rt2, .bool rk2] := Blk.new _ _ _
            have e3 := Y0.cell
            have e4 := Y0.frozen
            have l2 : w.heap.size + 1 + 1 < w5.heap.size := F2.lt
            have n1 : w.heap.size + 1 + 1 ≠ w5.heap.size := by omega
            have n2' : w5.heap.size ≠ w.heap.size + 1 + 1 := by omega
            go_cut [] (fun wx => Blk wx w5.heap.size 29 #[.bool hd, .string ob, .slice sa sn sc, .slice A1 ts.length k1, .slice A4 us2.length k4, .bool am, .bool an2, .int .i64 si2, .int .i64 un, .string rt2, .bool rk2] ∧ Below w5.heap.size w5 wx)
            case first =>
              go_region
              go_wp2_with fail
              go_meet
              exact ⟨(Blk.new w5 _ _).drew, ((Below.refl _ _).alloc (Nat.le_refl _) _).drew⟩
            case rest =>
              obtain ⟨YB, hb6⟩ := hcut
              have hB6 := hB5.trans (hb6.mono hB5.size)
              have q0 : ∀ (x : Bel wc.heap.size wc) i, x.w.cell? ⟨w.heap.size, i, none⟩ = (#[.bool hd, .string ob, .slice sa sn sc, .slice A1 ts.length k1, .slice A2 us.length k2, .bool am, .bool an, .int .i64 si, .int .i64 un, .string rt, .bool rk] : Array Value)[i]? := fun x i => (((F0.below hb6 F0.lt)).below x.h (F0.below hb6 F0.lt).lt).cell i
              have q1 : ∀ (x : Bel wc.heap.size wc) i, x.w.cell? ⟨w.heap.size + 1, i, none⟩ = (#[.string mt, .bool mk, .int .i64 md, .int .i64 ln, .int .i64 hv, .int .i64 fr, .int .i64 wh, .int .i64 er, kv, .string tn, .bool kp] : Array Value)[i]? := fun x i => (((F1.below hb6 F1.lt)).below x.h (F1.below hb6 F1.lt).lt).cell i
              have q2 : ∀ (x : Bel wc.heap.size wc) i, x.w.cell? ⟨w5.heap.size, i, none⟩ = (#[.bool hd, .string ob, .slice sa sn sc, .slice A1 ts.length k1, .slice A4 us2.length k4, .bool am, .bool an2, .int .i64 si2, .int .i64 un, .string rt2, .bool rk2] : Array Value)[i]? := fun x i => (YB.below x.h YB.lt).cell i
              have u1 : ∀ (x : Bel wc.heap.size wc), RdTags x.w x.w.heap.size (.slice A1 ts.length k1) ts := fun x => (((P1.out.below hb6).mono hb6.size).below x.h).mono x.h.size
              have u2 : ∀ (x : Bel wc.heap.size wc), RdTags x.w x.w.heap.size (.slice A2 us.length k2) us := fun x => (((P2.out.below hb6).mono hb6.size).below x.h).mono x.h.size
              have u4 : ∀ (x : Bel wc.heap.size wc), RdTags x.w x.w.heap.size (.slice A4 us2.length k4) us2 := fun x => (((P4.out.below hb6).mono hb6.size).below x.h).mono x.h.size
              have V1 := hide u1
              have V2 := hide u2
              have V4 := hide u4
              have hs4 := @same4 sn ts us us2 am an an2 si si2 un (rt, rk) (rt2, rk2) (mt, mk) md ln true
              clear u1 u2 u4 d2 e2 Y0 e3 e4 n1 n2' l2 F0 F1 F2 XF YB P1 P2 P4 x3
              clear hb6
              go_upto_region 10 with fail
              refine wp_region_bel wc.heap.size (by kernel_rfl) (by kernel_rfl) ?_
              iterate 2 (go_big_quiet_step (fail))
              go_big_quiet_step ((go_at_call 16; exact bel_call (Nat.le_refl _) (check_any hd ob sa sn sc _ _ ts us am an si un rt rk mt mk md ln hv fr wh er kv tn kp true _ hm hr (V1.out _) (V2.out _))))
              iterate 3 (go_big_quiet_step (fail))
              go_big_quiet_step ((go_at_call 16; exact bel_call (Nat.le_refl _) (check_any hd ob sa sn sc _ _ ts us2 am an2 si2 un rt2 rk2 mt mk md ln hv fr wh er kv tn kp true _ hm hr2 (V1.out _) (V4.out _))))
              repeat (go_big_quiet_step (fail))
              refine wpQuiet_nil ?_
              rintro w7 ⟨⟨_, hb7⟩, rfl⟩
              go_wp2_with fail
              refine (awake8 _).mono ?_
              rintro e wz ⟨rfl, hbz⟩
              go_wp2
              go_ret
              have hB7 := hB6.trans (hb7.mono hB6.size)
              exact ⟨rfl, hB7.trans (hbz.mono hB7.size)⟩
          · have hs3 := ht3 (.inr rfl)
            clear ht3
            go_upto_region 6 with fail
            have q0 : ∀ (x : Bel wc.heap.size wc) i, x.w.cell? ⟨w.heap.size, i, none⟩ = (#[.bool hd, .string ob, .slice sa sn sc, .slice A1 ts.length k1, .slice A2 us.length k2, .bool am, .bool true, .int .i64 si, .int .i64 un, .string rt, .bool rk] : Array Value)[i]? := fun x i => (E0.below x.h E0.lt).cell i
            have q1 : ∀ (x : Bel wc.heap.size wc) i, x.w.cell? ⟨w.heap.size + 1, i, none⟩ = (#[.string mt, .bool mk, .int .i64 md, .int .i64 ln, .int .i64 hv, .int .i64 fr, .int .i64 wh, .int .i64 er, kv, .string tn, .bool kp] : Array Value)[i]? := fun x i => (E1.below x.h E1.lt).cell i
            have q2 : ∀ (x : Bel wc.heap.size wc) i, x.w.cell? ⟨w3.heap.size, i, none⟩ = (#[.bool hd, .string ob, .slice sa sn sc, .slice A1 ts.length k1, .slice A2 us.length k2, .bool am, .bool true, .int .i64 si2, .int .i64 un, .string rt2, .bool rk2] : Array Value)[i]? := fun x i => (XB.below x.h XB.lt).cell i
            have u1 : ∀ (x : Bel wc.heap.size wc), RdTags x.w x.w.heap.size (.slice A1 ts.length k1) ts := fun x => (U1.out.below x.h).mono x.h.size
            have u2 : ∀ (x : Bel wc.heap.size wc), RdTags x.w x.w.heap.size (.slice A2 us.length k2) us := fun x => (U2.out.below x.h).mono x.h.size
            have V1 := hide u1
            have V2 := hide u2
            clear a0 u1 u2
            refine wp_region_bel wc.heap.size (by kernel_rfl) (by kernel_rfl) ?_
            repeat (go_big_quiet_step ((go_at_call 16; refine bel_call (Nat.le_refl _) (check_any hd ob sa sn sc _ _ ts us am true _ un _ _ mt mk md ln hv fr wh er kv tn kp true _ hm ?_ (V1.out _) (V2.out _)); first | exact hr | exact hr2)))
            refine wpQuiet_nil ?_
            rintro w5 ⟨⟨_, hb5⟩, rfl⟩
            have F0 := E0.below hb5 E0.lt
            have F1 := E1.below hb5 E1.lt
            have F2 := E2.below hb5 E2.lt
            have XF := XB.below hb5 XB.lt
            have hB5 : Below w.heap.size w w5 := hB4.trans (hb5.mono hB4.size)
            have P1 := hide ((U1.out.below hb5).mono hb5.size)
            have P2 := hide ((U2.out.below hb5).mono hb5.size)
            have P4 := hide ((U4.out.below hb5).mono hb5.size)
            clear E0 E1 E2 XB U1 U2 U4 hB4 hb5
            have x3 := XF.cell
            go_upto_region 9 with fail
            have d2 : ∀ i, w5.cell? ⟨w.heap.size + 1 + 1, i, none⟩ = (#[.slice A3 ts2.length k3, .slice A4 us2.length k4, .bool am2, .bool an2, .int .i64 si2, .int .i64 un2, .string rt2, .bool rk2] : Array Value)[i]? := fun i => F2.cell i
            have e2 : ∀ i, (w5.alloc (.cells #[.bool hd, .string ob, .slice sa sn sc, .slice A1 ts.length k1, .slice A2 us.length k2, .bool am, .bool true, .int .i64 si2, .int .i64 un, .string rt2, .bool rk2] 29)).cell? ⟨w.heap.size + 1 + 1, i, none⟩ = (#[.slice A3 ts2.length k3, .slice A4 us2.length k4, .bool am2, .bool an2, .int .i64 si2, .int .i64 un2, .string rt2, .bool rk2] : Array Value)[i]? := fun i => (F2.alloc _).cell i
            have Y0 : Blk (w5.alloc (.cells #[.bool hd, .string ob, .slice sa sn sc, .slice A1 ts.length k1, .slice A2 us.length k2, .bool am, .bool true, .int .i64 si2, .int .i64 un, .string rt2, .bool rk2] 29)) w5.heap.size 29 #[.bool hd, .string ob, .slice sa sn sc, .slice A1 ts.length k1, .slice A2 us.length k2, .bool am, .bool true, .int .i64 si2, .int .i64 un, .string rt2, .bool rk2] := Blk.new _ _ _
            have e3 := Y0.cell
            have e4 := Y0.frozen
            have l2 : w.heap.size + 1 + 1 < w5.heap.size := F2.lt
            have n1 : w.heap.size + 1 + 1 ≠ w5.heap.size := by omega
            have n2' : w5.heap.size ≠ w.heap.size + 1 + 1 := by omega
            go_cut [] (fun wx => Blk wx w5.heap.size 29 #[.bool hd, .string ob, .slice sa sn sc, .slice A1 ts.length k1, .slice A4 us2.length k4, .bool am, .bool an2, .int .i64 si2, .int .i64 un, .string rt2, .bool rk2] ∧ Below w5.heap.size w5 wx)
            case first =>
              go_region
              go_wp2_with fail
              go_meet
              exact ⟨(Blk.new w5 _ _).drew, ((Below.refl _ _).alloc (Nat.le_refl _) _).drew⟩
            case rest =>
              obtain ⟨YB, hb6⟩ := hcut
              have hB6 := hB5.trans (hb6.mono hB5.size)
              have q0 : ∀ (x : Bel wc.heap.size wc) i, x.w.cell? ⟨w.heap.size, i, none⟩ = (#[.bool hd, .string ob, .slice sa sn sc, .slice A1 ts.length k1, .slice A2 us.length k2, .bool am, .bool true, .int .i64 si, .int .i64 un, .string rt, .bool rk] : Array Value)[i]? := fun x i => (((F0.below hb6 F0.lt)).below x.h (F0.below hb6 F0.lt).lt).cell i
              have q1 : ∀ (x : Bel wc.heap.size wc) i, x.w.cell? ⟨w.heap.size + 1, i, none⟩ = (#[.string mt, .bool mk, .int .i64 md, .int .i64 ln, .int .i64 hv, .int .i64 fr, .int .i64 wh, .int .i64 er, kv, .string tn, .bool kp] : Array Value)[i]? := fun x i => (((F1.below hb6 F1.lt)).below x.h (F1.below hb6 F1.lt).lt).cell i
              have q2 : ∀ (x : Bel wc.heap.size wc) i, x.w.cell? ⟨w5.heap.size, i, none⟩ = (#[.bool hd, .string ob, .slice sa sn sc, .slice A1 ts.length k1, .slice A4 us2.length k4, .bool am, .bool an2, .int .i64 si2, .int .i64 un, .string rt2, .bool rk2] : Array Value)[i]? := fun x i => (YB.below x.h YB.lt).cell i
              have u1 : ∀ (x : Bel wc.heap.size wc), RdTags x.w x.w.heap.size (.slice A1 ts.length k1) ts := fun x => (((P1.out.below hb6).mono hb6.size).below x.h).mono x.h.size
              have u2 : ∀ (x : Bel wc.heap.size wc), RdTags x.w x.w.heap.size (.slice A2 us.length k2) us := fun x => (((P2.out.below hb6).mono hb6.size).below x.h).mono x.h.size
              have u4 : ∀ (x : Bel wc.heap.size wc), RdTags x.w x.w.heap.size (.slice A4 us2.length k4) us2 := fun x => (((P4.out.below hb6).mono hb6.size).below x.h).mono x.h.size
              have V1 := hide u1
              have V2 := hide u2
              have V4 := hide u4
              have hs4 := @same4 sn ts us us2 am true an2 si si2 un (rt, rk) (rt2, rk2) (mt, mk) md ln true
              clear u1 u2 u4 d2 e2 Y0 e3 e4 n1 n2' l2 F0 F1 F2 XF YB P1 P2 P4 x3
              clear hb6
              go_upto_region 10 with fail
              refine wp_region_bel wc.heap.size (by kernel_rfl) (by kernel_rfl) ?_
              iterate 2 (go_big_quiet_step (fail))
              go_big_quiet_step ((go_at_call 16; exact bel_call (Nat.le_refl _) (check_any hd ob sa sn sc _ _ ts us am true si un rt rk mt mk md ln hv fr wh er kv tn kp true _ hm hr (V1.out _) (V2.out _))))
              iterate 3 (go_big_quiet_step (fail))
              go_big_quiet_step ((go_at_call 16; exact bel_call (Nat.le_refl _) (check_any hd ob sa sn sc _ _ ts us2 am an2 si2 un rt2 rk2 mt mk md ln hv fr wh er kv tn kp true _ hm hr2 (V1.out _) (V4.out _))))
              repeat (go_big_quiet_step (fail))
              refine wpQuiet_nil ?_
              rintro w7 ⟨⟨_, hb7⟩, rfl⟩
              go_wp2_with fail
              refine (awake8 _).mono ?_
              rintro e wz ⟨rfl, hbz⟩
              go_wp2
              go_ret
              have hB7 := hB6.trans (hb7.mono hB6.size)
              exact ⟨rfl, hB7.trans (hbz.mono hB7.size)⟩
          · clear ht3
            go_upto_region 6 with fail
            have q0 : ∀ (x : Bel wc.heap.size wc) i, x.w.cell? ⟨w.heap.size, i, none⟩ = (#[.bool hd, .string ob, .slice sa sn sc, .slice A1 ts.length k1, .slice A2 us.length k2, .bool am, .bool false, .int .i64 si, .int .i64 un, .string rt, .bool rk] : Array Value)[i]? := fun x i => (E0.below x.h E0.lt).cell i
            have q1 : ∀ (x : Bel wc.heap.size wc) i, x.w.cell? ⟨w.heap.size + 1, i, none⟩ = (#[.string mt, .bool mk, .int .i64 md, .int .i64 ln, .int .i64 hv, .int .i64 fr, .int .i64 wh, .int .i64 er, kv, .string tn, .bool kp] : Array Value)[i]? := fun x i => (E1.below x.h E1.lt).cell i
            have q2 : ∀ (x : Bel wc.heap.size wc) i, x.w.cell? ⟨w3.heap.size, i, none⟩ = (#[.bool hd, .string ob, .slice sa sn sc, .slice A1 ts.length k1, .slice A2 us.length k2, .bool am, .bool false, .int .i64 si2, .int .i64 un, .string rt2, .bool rk2] : Array Value)[i]? := fun x i => (XB.below x.h XB.lt).cell i
            have u1 : ∀ (x : Bel wc.heap.size wc), RdTags x.w x.w.heap.size (.slice A1 ts.length k1) ts := fun x => (U1.out.below x.h).mono x.h.size
            have u2 : ∀ (x : Bel wc.heap.size wc), RdTags x.w x.w.heap.size (.slice A2 us.length k2) us := fun x => (U2.out.below x.h).mono x.h.size
            have V1 := hide u1
            have V2 := hide u2
            clear a0 u1 u2
            refine wp_region_bel wc.heap.size (by kernel_rfl) (by kernel_rfl) ?_
            repeat (go_big_quiet_step ((go_at_call 16; refine bel_call (Nat.le_refl _) (check_any hd ob sa sn sc _ _ ts us am false _ un _ _ mt mk md ln hv fr wh er kv tn kp true _ hm ?_ (V1.out _) (V2.out _)); first | exact hr | exact hr2)))
            refine wpQuiet_nil ?_
            rintro w5 ⟨⟨_, hb5⟩, rfl⟩
            have F0 := E0.below hb5 E0.lt
            have F1 := E1.below hb5 E1.lt
            have F2 := E2.below hb5 E2.lt
            have XF := XB.below hb5 XB.lt
            have hB5 : Below w.heap.size w w5 := hB4.trans (hb5.mono hB4.size)
            have P1 := hide ((U1.out.below hb5).mono hb5.size)
            have P2 := hide ((U2.out.below hb5).mono hb5.size)
            have P4 := hide ((U4.out.below hb5).mono hb5.size)
            clear E0 E1 E2 XB U1 U2 U4 hB4 hb5
            have x3 := XF.cell
            go_upto_region 9 with fail
            have d2 : ∀ i, w5.cell? ⟨w.heap.size + 1 + 1, i, none⟩ = (#[.slice A3 ts2.length k3, .slice A4 us2.length k4, .bool am2, .bool an2, .int .i64 si2, .int .i64 un2, .string rt2, .bool rk2] : Array Value)[i]? := fun i => F2.cell i
            have e2 : ∀ i, (w5.alloc (.cells #[.bool hd, .string ob, .slice sa sn sc, .slice A1 ts.length k1, .slice A2 us.length k2, .bool am, .bool false, .int .i64 si2, .int .i64 un, .string rt2, .bool rk2] 29)).cell? ⟨w.heap.size + 1 + 1, i, none⟩ = (#[.slice A3 ts2.length k3, .slice A4 us2.length k4, .bool am2, .bool an2, .int .i64 si2, .int .i64 un2, .string rt2, .bool rk2] : Array Value)[i]? := fun i => (F2.alloc _).cell i
            have Y0 : Blk (w5.alloc (.cells #[.bool hd, .string ob, .slice sa sn sc, .slice A1 ts.length k1, .slice A2 us.length k2, .bool am, .bool false, .int .i64 si2, .int .i64 un, .string rt2, .bool rk2] 29)) w5.heap.size 29 #[.bool hd, .string ob, .slice sa sn sc, .slice A1 ts.length k1, .slice A2 us.length k2, .bool am, .bool false, .int .i64 si2, .int .i64 un, .string rt2, .bool rk2] := Blk.new _ _ _
            have e3 := Y0.cell
            have e4 := Y0.frozen
            have l2 : w.heap.size + 1 + 1 < w5.heap.size := F2.lt
            have n1 : w.heap.size + 1 + 1 ≠ w5.heap.size := by omega
            have n2' : w5.heap.size ≠ w.heap.size + 1 + 1 := by omega
            go_cut [] (fun wx => Blk wx w5.heap.size 29 #[.bool hd, .string ob, .slice sa sn sc, .slice A1 ts.length k1, .slice A4 us2.length k4, .bool am, .bool an2, .int .i64 si2, .int .i64 un, .string rt2, .bool rk2] ∧ Below w5.heap.size w5 wx)
            case first =>
              go_region
              go_wp2_with fail
              go_meet
              exact ⟨(Blk.new w5 _ _).drew, ((Below.refl _ _).alloc (Nat.le_refl _) _).drew⟩
            case rest =>
              obtain ⟨YB, hb6⟩ := hcut
              have hB6 := hB5.trans (hb6.mono hB5.size)
              have q0 : ∀ (x : Bel wc.heap.size wc) i, x.w.cell? ⟨w.heap.size, i, none⟩ = (#[.bool hd, .string ob, .slice sa sn sc, .slice A1 ts.length k1, .slice A2 us.length k2, .bool am, .bool false, .int .i64 si, .int .i64 un, .string rt, .bool rk] : Array Value)[i]? := fun x i => (((F0.below hb6 F0.lt)).below x.h (F0.below hb6 F0.lt).lt).cell i
              have q1 : ∀ (x : Bel wc.heap.size wc) i, x.w.cell? ⟨w.heap.size + 1, i, none⟩ = (#[.string mt, .bool mk, .int .i64 md, .int .i64 ln, .int .i64 hv, .int .i64 fr, .int .i64 wh, .int .i64 er, kv, .string tn, .bool kp] : Array Value)[i]? := fun x i => (((F1.below hb6 F1.lt)).below x.h (F1.below hb6 F1.lt).lt).cell i
              have q2 : ∀ (x : Bel wc.heap.size wc) i, x.w.cell? ⟨w5.heap.size, i, none⟩ = (#[.bool hd, .string ob, .slice sa sn sc, .slice A1 ts.length k1, .slice A4 us2.length k4, .bool am, .bool an2, .int .i64 si2, .int .i64 un, .string rt2, .bool rk2] : Array Value)[i]? := fun x i => (YB.below x.h YB.lt).cell i
              have u1 : ∀ (x : Bel wc.heap.size wc), RdTags x.w x.w.heap.size (.slice A1 ts.length k1) ts := fun x => (((P1.out.below hb6).mono hb6.size).below x.h).mono x.h.size
              have u2 : ∀ (x : Bel wc.heap.size wc), RdTags x.w x.w.heap.size (.slice A2 us.length k2) us := fun x => (((P2.out.below hb6).mono hb6.size).below x.h).mono x.h.size
              have u4 : ∀ (x : Bel wc.heap.size wc), RdTags x.w x.w.heap.size (.slice A4 us2.length k4) us2 := fun x => (((P4.out.below hb6).mono hb6.size).below x.h).mono x.h.size
              have V1 := hide u1
              have V2 := hide u2
              have V4 := hide u4
              have hs4 := @same4 sn ts us us2 am false an2 si si2 un (rt, rk) (rt2, rk2) (mt, mk) md ln true
              clear u1 u2 u4 d2 e2 Y0 e3 e4 n1 n2' l2 F0 F1 F2 XF YB P1 P2 P4 x3
              clear hb6
              go_upto_region 10 with fail
              refine wp_region_bel wc.heap.size (by kernel_rfl) (by kernel_rfl) ?_
              iterate 2 (go_big_quiet_step (fail))
              go_big_quiet_step ((go_at_call 16; exact bel_call (Nat.le_refl _) (check_any hd ob sa sn sc _ _ ts us am false si un rt rk mt mk md ln hv fr wh er kv tn kp true _ hm hr (V1.out _) (V2.out _))))
              iterate 3 (go_big_quiet_step (fail))
              go_big_quiet_step ((go_at_call 16; exact bel_call (Nat.le_refl _) (check_any hd ob sa sn sc _ _ ts us2 am an2 si2 un rt2 rk2 mt mk md ln hv fr wh er kv tn kp true _ hm hr2 (V1.out _) (V4.out _))))
              repeat (go_big_quiet_step (fail))
              refine wpQuiet_nil ?_
              rintro w7 ⟨⟨_, hb7⟩, rfl⟩
              go_wp2_with fail
              refine (awake8 _).mono ?_
              rintro e wz ⟨rfl, hbz⟩
              go_wp2
              go_ret
              have hB7 := hB6.trans (hb7.mono hB6.size)
              exact ⟨rfl, hB7.trans (hbz.mono hB7.size)⟩

theorem ps : ∀ t ∈ Try.f4.params.toList, Try.prog.readableRec t = true ∧ t < Try.prog.types.size := by
  rw [Try.params4]
  intro t ht
  simp at ht
  rcases ht with rfl | rfl | rfl
  all_goals exact ⟨by kernel_rfl, of_decide_eq_true (by kernel_rfl)⟩

set_option maxRecDepth 100000 in
theorem lifted (os : Os) (started : os.Started) (H : Type) (enc : TypeId × Value → H) :
    ReturnsInHanded {} Try.checked os 4 .any (Rows.condOrderSpec.pre6 enc Try.prog Try.f4 Rows.condOrderRow.domain false) (Rows.condOrderSpec.post enc Try.prog Try.f4 false true false false) := by
  refine returnsInHanded_of_change (C := Try.checked) law_own started (by kernel_rfl) Try.func4
    (ChangeSpec.witness6 (enc := enc) (C := Try.checked) false ⟨#[], #[.agg #[.bool false, .string ByteArray.empty, .slice none 0 0, .slice none 0 0, .slice none 0 0, .bool false, .bool false, .int .i64 0, .int .i64 0, .string ByteArray.empty, .bool false], .agg #[.string ByteArray.empty, .bool false, .int .i64 0, .int .i64 0, .int .i64 0, .int .i64 0, .int .i64 0, .int .i64 0, .slice none 0 0, .string ByteArray.empty, .bool false], .agg #[.slice none 0 0, .slice none 0 0, .bool false, .bool false, .int .i64 0, .int .i64 0, .string ByteArray.empty, .bool false]], []⟩ 8 (by kernel_rfl) (by kernel_rfl) (by kernel_rfl) (by kernel_rfl)) ?_
  intro W base args ds gs before hval0 hW hcnd _
  have hval : ∀ (j : Nat) t v, Try.f4.params[j]? = some t → args[j]? = some v → Value.okWide Try.prog W .any base t v := hval0
  have hW' := hW
  have hlt : ∀ p ∈ before, p.block < W.heap.size := fun p hp => hW.lt p hp
  obtain ⟨p, q, hA0, hV, rfl, hfz, hnd⟩ := hW
  have hA : DataW.TrodAll enc Try.prog W 0 (fun _ => true) true Try.f4.params.toList args.toList ds p := hA0
  rw [Try.params4] at hA hval
  obtain ⟨v0, vs0, d0, ds0, p0, q0, hargs, rfl, rfl, h0, r0⟩ := trodAll_cons hA
  obtain ⟨v1, vs1, d1, ds1, p1, q1, rfl, rfl, rfl, h1, r1⟩ := trodAll_cons r0
  obtain ⟨v2, vs2, d2, ds2, p2, q2, rfl, rfl, rfl, h2, r2⟩ := trodAll_cons r1
  obtain ⟨rfl, rfl, rfl⟩ := trodAll_nil r2
  obtain rfl : args = #[v0, v1, v2] := by cases args; simp_all
  obtain ⟨rfl, rfl⟩ := trodVars_none hV
  obtain ⟨cs0, fu0, x0, rfl, t0⟩ := open_struct Try.underlying29 (hval 0 29 v0 rfl rfl) h0
  obtain ⟨hd, ob, sa, sn, sc, m, n, ts, us, am, an, si, un, rt, rk, rfl, rq0, rq1, rq2, rq3⟩ := open_req t0
  obtain ⟨cs1, fu1, x1, rfl, t1⟩ := open_struct Try.underlying32 (hval 1 32 v1 rfl rfl) h1
  obtain ⟨mt, mk, md, ln, hv, fr, wh, er, kv, tn, kp, rfl, mq0⟩ := open_meta t1
  obtain ⟨cs2, fu2, x2, rfl, t2⟩ := open_struct Try.underlying27 (hval 2 27 v2 rfl rfl) h2
  obtain ⟨m2, n2, ts2, us2, am2, an2, si2, un2, rt2, rk2, rfl, cq0, cq1, cq2, _, _⟩ := open_cond t2
  clear hA0 hval0
  refine (walk hd ob sa sn sc m n ts us am an si un rt rk mt mk md ln hv fr wh er kv tn kp m2 n2 ts2 us2 am2 an2 si2 un2 rt2 rk2 (Nat.le_trans rq2 mLen) (Nat.le_trans mq0 mLen) (Nat.le_trans cq2 mLen) W rq0 rq1 cq0 cq1).mono fun e W' ⟨he, hb⟩ => ?_
  subst he
  exact ⟨_, rfl, law_close hW' rfl rfl rfl ps hb⟩

theorem proved : Rows.CondOrderSaid :=
  OpenClaim.holds_of_wide 4 Try.f4 rfl rfl rfl rfl rfl rfl rfl ⟨rfl, rfl, rfl, rfl, rfl⟩ rfl rfl rfl rfl rfl (by kernel_rfl) Try.func4 (by kernel_rfl)
    (of_decide_eq_true (by kernel_rfl)) (by unfold Func.isWrapper; first | (rw [if_pos (by decide +kernel)]; kernel_rfl) | (rw [if_neg (by decide +kernel)]; exact ⟨rfl, rfl⟩))
    (fun os started H enc _ => lifted os started H enc)
#print axioms proved
end Go.Proofs.Ytfbefjpajmigmaa.condOrder
