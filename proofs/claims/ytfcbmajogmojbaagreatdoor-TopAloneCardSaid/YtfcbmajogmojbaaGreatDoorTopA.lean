/-
  Whether a request may be.
-/
import Derived.Test.YtfcbmajogmojbaaGreatDoorGrSp
import Derived.Test.YtfcbmajogmojbaaGreatDoorCndR
import Derived.Deep.DeepCutAuto
namespace Go.Proofs.YtfcbmajogmojbaaGreatDoor
open Go.RowKit Go.Proofs
set_option linter.unusedVariables false
set_option linter.unusedSimpArgs false

def AnyBool (w : World) (e : Ending) (w' : World) : Prop := ∃ b, e = .returned (.bool b) ∧ Below w.heap.size w w'
def RightOk (n : Nat) (w : World) (e : Ending) (w' : World) : Prop := ∃ b, e = .returned (.bool b) ∧ (b = true → n ≤ 10) ∧ Below w.heap.size w w'

set_option maxRecDepth 100000 in
set_option maxHeartbeats 4000000 in
theorem object_some (s : ByteArray) (w : World) : Calls Tryz.prog 18 #[.string s] w (AnyBool w) := by
  by_cases h1 : s.size < 1
  · go_enter Tryz.func18, Tryz.ntmps18
    go_wp2_with fail
    go_ret
    exact ⟨_, rfl, Below.refl _ _⟩
  · by_cases h2 : 200 < s.size
    · go_enter Tryz.func18, Tryz.ntmps18
      go_wp2_with fail
      go_ret
      exact ⟨_, rfl, Below.refl _ _⟩
    · have h3 : 0 < s.size := by omega
      have hb0 : (s[0].toNat : Int) ≤ 255 := by have := s[0].toNat_lt; omega
      by_cases h5 : (s[0].toNat : Int) = 47
      · have h6 : ((s[0].toNat : Int) != 47) = false := by simpa using h5
        go_enter Tryz.func18, Tryz.ntmps18
        go_wp2_with fail
        go_loop [3] (fun i => ∃ k : Nat, k ≤ s.size ∧ i = .int .i64 k) (fun i => s.size - (intOf i).toNat)
        case atStart => exact ⟨0, Nat.zero_le _, rfl⟩
        case round =>
          obtain ⟨k, hk, rfl⟩ := hrel
          by_cases hlt : k < s.size
          · have hb : (s[k].toNat : Int) ≤ 255 := by have := s[k].toNat_lt; omega
            by_cases g1 : (s[k].toNat : Int) ≤ 32
            · go_wp2_with fail
              go_ret
              exact ⟨_, rfl, Below.refl _ _⟩
            · by_cases g2 : 126 < (s[k].toNat : Int)
              · go_wp2_with fail
                go_ret
                exact ⟨_, rfl, Below.refl _ _⟩
              · go_wp2_with fail
                go_round
                case rel => exact ⟨k + 1, by omega, by go_num⟩
                case measure => simp [intOf] <;> omega
          · go_wp2_with fail
            go_ret
            exact ⟨_, rfl, Below.refl _ _⟩
      · have h6 : ((s[0].toNat : Int) != 47) = true := by simpa using h5
        go_enter Tryz.func18, Tryz.ntmps18
        go_wp2_with fail
        go_ret
        exact ⟨_, rfl, Below.refl _ _⟩

set_option maxRecDepth 100000 in
set_option maxHeartbeats 16000000 in
theorem right_any (hd : Bool) (ob : ByteArray) (sA : Option Addr) (sc : Nat) (sl : List Sp) (mA : Option Addr) (mc : Nat) (ms : List TagL) (nA : Option Addr) (nc : Nat) (ns : List TagL) (am an : Bool) (si un : Int) (rt : ByteArray) (rk : Bool) (w : World) (hr : RdL LSp w w.heap.size (.slice sA sl.length sc) sl) (hm : RdL LT w w.heap.size (.slice mA ms.length mc) ms) (hn : RdL LT w w.heap.size (.slice nA ns.length nc) ns) (zm : ∀ t ∈ ms, t.1.length ≤ 9223372036854775807) (zn : ∀ t ∈ ns, t.1.length ≤ 9223372036854775807) (hrt : rt.size ≤ 9223372036854775807) (hob : ob.size ≤ 9223372036854775807) :
    Calls Tryz.prog 5 #[.agg #[.bool hd, .string ob, .slice sA sl.length sc, .slice mA ms.length mc, .slice nA ns.length nc, .bool am, .bool an, .int .i64 si, .int .i64 un, .string rt, .bool rk]] w (RightOk sl.length w) := by
  have HR := hide hr
  have HM := hide hm
  have HN := hide hn
  clear hr hm hn
  by_cases h1 : 100 < ob.size
  · go_enter Tryz.func5, Tryz.ntmps5
    go_upto_region 1 with fail
    obtain ⟨w1, hw1⟩ : ∃ w1 : World, w1 = (w).alloc (.cells #[.bool hd, .string ob, .slice sA sl.length sc, .slice mA ms.length mc, .slice nA ns.length nc, .bool am, .bool an, .int .i64 si, .int .i64 un, .string rt, .bool rk] 29) := ⟨_, rfl⟩
    rw [← hw1]
    have hB1 : Below w.heap.size w w1 := by rw [hw1]; exact ((Below.refl _ _).alloc (Nat.le_refl _) _)
    have Q : Blk w1 (w.heap.size) 29 #[.bool hd, .string ob, .slice sA sl.length sc, .slice mA ms.length mc, .slice nA ns.length nc, .bool am, .bool an, .int .i64 si, .int .i64 un, .string rt, .bool rk] := by rw [hw1]; exact (Blk.new _ _ _)
    clear hw1
    have cQ := Q.cell
    go_wp2_with fail
    go_ret
    exact ⟨false, rfl, (fun h => by cases h), hB1⟩
  · by_cases h2 : 10 < sl.length
    · go_enter Tryz.func5, Tryz.ntmps5
      go_upto_region 1 with fail
      obtain ⟨w1, hw1⟩ : ∃ w1 : World, w1 = (w).alloc (.cells #[.bool hd, .string ob, .slice sA sl.length sc, .slice mA ms.length mc, .slice nA ns.length nc, .bool am, .bool an, .int .i64 si, .int .i64 un, .string rt, .bool rk] 29) := ⟨_, rfl⟩
      rw [← hw1]
      have hB1 : Below w.heap.size w w1 := by rw [hw1]; exact ((Below.refl _ _).alloc (Nat.le_refl _) _)
      have Q : Blk w1 (w.heap.size) 29 #[.bool hd, .string ob, .slice sA sl.length sc, .slice mA ms.length mc, .slice nA ns.length nc, .bool am, .bool an, .int .i64 si, .int .i64 un, .string rt, .bool rk] := by rw [hw1]; exact (Blk.new _ _ _)
      clear hw1
      have cQ := Q.cell
      go_wp2_with fail
      go_ret
      exact ⟨false, rfl, (fun h => by cases h), hB1⟩
    · by_cases h3 : 4 < ms.length
      · go_enter Tryz.func5, Tryz.ntmps5
        go_upto_region 1 with fail
        obtain ⟨w1, hw1⟩ : ∃ w1 : World, w1 = (w).alloc (.cells #[.bool hd, .string ob, .slice sA sl.length sc, .slice mA ms.length mc, .slice nA ns.length nc, .bool am, .bool an, .int .i64 si, .int .i64 un, .string rt, .bool rk] 29) := ⟨_, rfl⟩
        rw [← hw1]
        have hB1 : Below w.heap.size w w1 := by rw [hw1]; exact ((Below.refl _ _).alloc (Nat.le_refl _) _)
        have Q : Blk w1 (w.heap.size) 29 #[.bool hd, .string ob, .slice sA sl.length sc, .slice mA ms.length mc, .slice nA ns.length nc, .bool am, .bool an, .int .i64 si, .int .i64 un, .string rt, .bool rk] := by rw [hw1]; exact (Blk.new _ _ _)
        clear hw1
        have cQ := Q.cell
        go_wp2_with fail
        go_ret
        exact ⟨false, rfl, (fun h => by cases h), hB1⟩
      · by_cases h4 : 4 < ns.length
        · go_enter Tryz.func5, Tryz.ntmps5
          go_upto_region 1 with fail
          obtain ⟨w1, hw1⟩ : ∃ w1 : World, w1 = (w).alloc (.cells #[.bool hd, .string ob, .slice sA sl.length sc, .slice mA ms.length mc, .slice nA ns.length nc, .bool am, .bool an, .int .i64 si, .int .i64 un, .string rt, .bool rk] 29) := ⟨_, rfl⟩
          rw [← hw1]
          have hB1 : Below w.heap.size w w1 := by rw [hw1]; exact ((Below.refl _ _).alloc (Nat.le_refl _) _)
          have Q : Blk w1 (w.heap.size) 29 #[.bool hd, .string ob, .slice sA sl.length sc, .slice mA ms.length mc, .slice nA ns.length nc, .bool am, .bool an, .int .i64 si, .int .i64 un, .string rt, .bool rk] := by rw [hw1]; exact (Blk.new _ _ _)
          clear hw1
          have cQ := Q.cell
          go_wp2_with fail
          go_ret
          exact ⟨false, rfl, (fun h => by cases h), hB1⟩
        · go_enter Tryz.func5, Tryz.ntmps5
          go_upto_region 1 with fail
          obtain ⟨w1, hw1⟩ : ∃ w1 : World, w1 = (w).alloc (.cells #[.bool hd, .string ob, .slice sA sl.length sc, .slice mA ms.length mc, .slice nA ns.length nc, .bool am, .bool an, .int .i64 si, .int .i64 un, .string rt, .bool rk] 29) := ⟨_, rfl⟩
          rw [← hw1]
          have hB1 : Below w.heap.size w w1 := by rw [hw1]; exact ((Below.refl _ _).alloc (Nat.le_refl _) _)
          have Q : Blk w1 (w.heap.size) 29 #[.bool hd, .string ob, .slice sA sl.length sc, .slice mA ms.length mc, .slice nA ns.length nc, .bool am, .bool an, .int .i64 si, .int .i64 un, .string rt, .bool rk] := by rw [hw1]; exact (Blk.new _ _ _)
          clear hw1
          have cQ := Q.cell
          go_wp2_with fail
          refine (object_some ob w1).mono ?_
          rintro e w2 ⟨b2, rfl, hb2⟩
          replace Q := Q.below hb2 Q.lt
          have hB2 := hB1.trans (hb2.mono hB1.size)
          clear cQ hb2 hB1
          have cQ := Q.cell
          cases b2
          · go_wp2_with fail
            go_ret
            exact ⟨false, rfl, (fun h => by cases h), hB2⟩
          · go_wp2_with fail
            refine (rright8_any _ _ ms ns am an si un rt rk w2 ((HM.out.below hB2).mono hB2.size) ((HN.out.below hB2).mono hB2.size) zm zn hrt).mono ?_
            rintro e w3 ⟨rfl, hb3⟩
            replace Q := Q.below hb3 Q.lt
            have hB3 := hB2.trans (hb3.mono hB2.size)
            clear cQ hb3 hB2
            have cQ := Q.cell
            cases rightC ms ns am an si un rt
            · go_wp2_with fail
              go_ret
              exact ⟨false, rfl, (fun h => by cases h), hB3⟩
            · go_wp2_with fail
              clear cQ Q
              go_loopw [4, 44] (fun _ c44 wr => ∃ k : Nat, k ≤ sl.length ∧ c44 = .int .i64 (k : Int) ∧ Below w3.heap.size w3 wr) (fun _ c44 _ => sl.length - (intOf c44).toNat)
              case atStart => exact ⟨0, Nat.zero_le _, rfl, Below.refl _ _⟩
              case round =>
                obtain ⟨k, hk, rfl, hb⟩ := hrel
                by_cases hlt : k < sl.length
                · obtain ⟨bs, os, hAs, hbls, ps, qs⟩ := HR.out.span k hlt
                  subst hAs
                  obtain ⟨xf, xt, hx⟩ : ∃ x0 x1 : Int, sl[k] = (x0, x1) := ⟨_, _, rfl⟩
                  rw [hx] at ps qs
                  simp only at ps qs
                  have hBr : Below w.heap.size w wr := hB3.trans (hb.mono hB3.size)
                  have es : wr.cell? ⟨bs, os + k * 2, none⟩ = some (.int .i64 xf) := by rw [hBr.cell (by show bs < _; omega)]; exact ps
                  have gs : wr.cell? ⟨bs, os + k * 2 + 1, none⟩ = some (.int .i64 xt) := by rw [hBr.cell (by show bs < _; omega)]; exact qs
                  clear ps qs hx hBr
                  go_upto_region 6 with fail
                  obtain ⟨w5, hw5⟩ : ∃ W : World, W = wr.alloc (.cells #[.int .i64 xf, .int .i64 xt] 54) := ⟨_, rfl⟩
                  first | rw [← hw5] | skip
                  have X : Blk w5 wr.heap.size 54 #[.int .i64 xf, .int .i64 xt] := by rw [hw5]; exact Blk.new _ _ _
                  have hB5 : Below w3.heap.size w3 w5 := by rw [hw5]; exact hb.alloc hb.size _
                  obtain ⟨xb, hxb⟩ : ∃ n, n = wr.heap.size := ⟨_, rfl⟩
                  rw [← hxb] at X ⊢
                  clear hw5 es gs hb hxb
                  have cX := X.cell
                  go_wp2_with fail
                  refine (rspec_right xf xt w5).mono ?_
                  rintro e w6 ⟨rfl, hb6⟩
                  have hB6 := hB5.trans (hb6.mono hB5.size)
                  clear cX X hb6 hB5
                  cases specR (xf, xt)
                  · go_wp2_with fail
                    go_ret
                    exact ⟨false, rfl, (fun h => by cases h), hB3.trans (hB6.mono hB3.size)⟩
                  · go_wp2_with fail
                    go_roundw
                    case rel => exact ⟨k + 1, by omega, by go_num, hB6⟩
                    case measure => simp [intOf] <;> omega
                · go_wp2_with fail
                  go_ret
                  exact ⟨true, rfl, (fun _ => by omega), hB3.trans (hb.mono hB3.size)⟩

end Go.Proofs.YtfcbmajogmojbaaGreatDoor
