/-
  All of a body's bytes, dealt by cuts.
-/
import Derived.Test.YtiigkacmahecaaaDoorStrL
import Derived.Test.YtiigkacmahecaaaDoorGrRr
import Derived.Test.YtiigkacmahecaaaDoorFrU
import Derived.Test.YtiigkacmahecaaaDoorGrU
import Derived.Deep.DeepCutAuto
namespace Go.Proofs.YtiigkacmahecaaaDoor
open Go.RowKit
set_option linter.unusedVariables false
set_option linter.unusedSimpArgs false

theorem fr_no_byte (a b : Int) (h : Nat) (z : Bool) (j : Nat) (x : Int) : (#[.int .i64 a, .int .i64 b, .pointer (some ⟨h, 0, none⟩), .bool z] : Array Value)[j]? ≠ some (Value.int .u8 x) := by
  rcases j with _ | _ | _ | _ | j <;> simp
theorem s6_no_byte (a b c d e : Int) (z : Bool) (j : Nat) (x : Int) : (#[.int .i64 a, .int .i64 b, .int .i64 c, .int .i64 d, .int .i64 e, .bool z] : Array Value)[j]? ≠ some (Value.int .u8 x) := by
  rcases j with _ | _ | _ | _ | _ | _ | j <;> simp
theorem Byt.but2 {w w' : World} {B g h : Nat} {v : Value} {bs : List UInt8} {r : Rf} (k : Byt w B v bs) (P : PR w g h r) (b : But2 g h w w') : Byt w' B v bs := by
  obtain ⟨u, x, y⟩ := b
  have k1 := k.but x P.blk (fr_no_byte _ _ _ _)
  by_cases hb : r.bad = true
  · obtain ⟨i0, i1, i2, i3, i4, X⟩ := P.bad hb
    exact k1.but y (x.blk X P.ne.symm) (s6_no_byte _ _ _ _ _ _)
  · exact k1.but y (x.blk (P.ok (by simpa using hb)) P.ne.symm) (rd_no_byte _ _)
theorem cut_q (x : UInt8) : ∃ q : Nat, q ≤ 6 ∧ wrap64 ((wrap64 (x.toNat : Int)).tmod 7 + 1) = (q : Int) + 1 := by
  have hb : x.toNat < 256 := x.toNat_lt
  obtain ⟨n, hn⟩ : ∃ n, n = x.toNat := ⟨_, rfl⟩
  rw [← hn] at hb ⊢
  refine ⟨n % 7, by omega, ?_⟩
  have h1 : wrap64 (n : Int) = (n : Int) := by unfold wrap64; omega
  have h2 : (n : Int).tmod 7 = ((n % 7 : Nat) : Int) := by rw [Int.tmod_eq_emod_of_nonneg (by omega)]; rfl
  rw [h1, h2]
  unfold wrap64; omega
theorem gotF_len (r : Rf) (S : List UInt8) (k : Nat) : (gotF r S k).length ≤ k := by
  have := (takeF_len r (S.take k)).1
  rw [List.length_take] at this
  unfold gotF
  omega
def ReadOk (r : Rf) (S D : List UInt8) (n : Nat) (g h B : Nat) (w0 : World) (e : Ending) (w' : World) : Prop := ∃ s : ByteArray, s.data.toList = D ∧ e = .returned (.tuple #[.string s, .int .i64 (n : Int), .bool true]) ∧ PR w' g h (atF r S n) ∧ Below B w0 w' ∧ B ≤ w'.heap.size

set_option maxRecDepth 100000 in
set_option maxHeartbeats 8000000 in
theorem read_any {r : Rf} {S D : List UInt8} {n : Nat} (hR : Reads r S D n) (v cv : Value) (cuts : List UInt8) (g h B : Nat) (w0 w : World) (P : PR w g h r) (hS : Byt w w.heap.size v S) (hC : Byt w w.heap.size cv cuts) (hSl : S.length ≤ 20000) (hb : Below B w0 w) (hg : B ≤ g) (hh : B ≤ h) (hz : B ≤ w.heap.size) :
    Calls Tryd.prog 22 #[.pointer (some ⟨g, 0, none⟩), v, cv] w (ReadOk r S D n g h B w0) := by
  obtain ⟨Ac, cc, rfl, _, _⟩ := hC.form
  obtain ⟨A0, c0, rfl, _, _⟩ := hS.form
  have HS0 := hide hS
  have HC0 := hide hC
  clear hS hC
  have hLS := hR.len
  go_enter Tryd.func22, Tryd.ntmps22
  go_wp2_with fail
  go_loopw [1, 9, 10, 11, 12, 13, 14, 15] (fun c1 c9 c10 c11 _ _ _ _ wr => ∃ (k i m0 : Nat) (A : Option Addr) (c : Nat) (out : ByteArray), k ≤ n ∧ m0 + k = S.length ∧ c1 = .slice A m0 c ∧ c9 = .string out ∧ c10 = .int .i64 (k : Int) ∧ c11 = .int .i64 (i : Int) ∧ i ≤ k ∧ Hid (out.data.toList = gotF r S k) ∧ Hid (Byt wr wr.heap.size (.slice A m0 c) (S.drop k)) ∧ Hid (Byt wr wr.heap.size (.slice Ac cuts.length cc) cuts) ∧ PR wr g h (atF r S k) ∧ Below B w0 wr ∧ B ≤ wr.heap.size) (fun _ _ c10 _ _ _ _ _ _ => n - (intOf c10).toNat)
  case atStart => exact ⟨0, 0, S.length, A0, c0, ⟨#[]⟩, Nat.zero_le _, rfl, rfl, rfl, rfl, rfl, Nat.le_refl _, hR.got0.symm, HS0.out, HC0.out, (by rw [hR.zero]; exact P), hb, hz⟩
  case round =>
    clear P hb hz HS0 HC0
    obtain ⟨k, i, m0, A, c, out, hk, hm0, rfl, rfl, rfl, rfl, hik, HO, HS, HC, P, hb, hz⟩ := hrel
    by_cases hkn : k = n
    · have HD := hide (show doneF (atF r S k) = true by rw [hR.done k hk]; exact decide_eq_true hkn)
      have HO2 := hide (show out.data.toList = D by rw [HO.out, hkn]; exact hR.data)
      subst hkn
      by_cases hr0 : m0 = 0
      · have e0 : ¬ 0 < m0 := by omega
        go_wp2_with fail
        go_ret3
        exact ⟨out, HO2.out, rfl, P, hb, hz⟩
      · have e0 : 0 < m0 := by omega
        go_wp2_with fail
        refine (done_frame _ g h wr P (hR.inv_at k)).mono ?_
        rintro e w' ⟨rfl, rfl⟩
        rw [HD.out]
        go_wp2_with fail
        go_ret3
        exact ⟨out, HO2.out, rfl, P, hb, hz⟩
    · have HD := hide (show doneF (atF r S k) = false by rw [hR.done k hk]; exact decide_eq_false hkn)
      have e0 : 0 < m0 := by omega
      go_wp2_with fail
      refine (done_frame _ g h wr P (hR.inv_at k)).mono ?_
      rintro e w' ⟨rfl, rfl⟩
      rw [HD.out]
      by_cases hic : i < cuts.length
      · obtain ⟨bc, oc, hAc, hbc, kc⟩ := (HC.out.at_).2.2 i hic
        subst hAc
        go_upto_region 8 with fail
        obtain ⟨q, hq7, hw⟩ := cut_q cuts[i]
        rw [hw]
        clear hw kc
        by_cases hmq : (q : Int) + 1 < (m0 : Int)
        · obtain ⟨m, hm⟩ : ∃ m, m = q + 1 := ⟨_, rfl⟩
          have hm1 : (q : Int) + 1 = (m : Int) := by omega
          have hm00 : 1 ≤ m := by omega
          have hmle : m ≤ m0 := by omega
          rw [if_pos hmq, hm1]
          clear hm1 hmq hm
          have hmc : m ≤ c := Nat.le_trans (show m ≤ m0 by omega) (HS.out.at_).2.1
          have hmk : k + m ≤ S.length := by omega
          obtain ⟨st1, st2⟩ := hR.step (show k < n by omega) hmk
          obtain ⟨d, hd⟩ : ∃ d, d = (takeF (atF r S k) ((S.drop k).take m)).d := ⟨_, rfl⟩
          rw [← hd] at st1 st2
          obtain ⟨j, hj⟩ : ∃ j, j = min m (n - k) := ⟨_, rfl⟩
          rw [← hj] at st1 st2
          have hj1 : 1 ≤ j := by omega
          have hjm : j ≤ m := by omega
          have hj0 : ((j : Int) == 0) = false := beqF (by omega)
          have hj00 : ¬ j = 0 := by omega
          have hjm2 : ¬ m < j := by omega
          have hjn : k + j ≤ n := by omega
          have hdl : d.length ≤ k + j := by have := gotF_len r S (k + j); rw [st2, List.length_append] at this; omega
          have hos : out.size ≤ k := by rw [← lsize, HO.out]; exact gotF_len r S k
          have ST1 := hide st1
          have ST2 := hide st2
          have hzz : OwnB wr.heap.size (wr.alloc (.cells #[] 5)) (.slice (some ⟨wr.heap.size, 0, none⟩) 0 0) [] := OwnB.build wr [] (by simp)
          have HZZ := hide hzz
          have hbA : Below wr.heap.size wr (wr.alloc (.cells #[] 5)) := (Below.refl _ _).alloc (Nat.le_refl _) _
          have HU := hide ((HS.out.take0 (m := m) (by rw [List.length_drop]; omega)).below hbA)
          have HL1 := hide (show ([] : List UInt8).length + ((S.drop k).take m).length ≤ 140737488355328 by rw [List.length_nil, List.length_take, List.length_drop]; omega)
          clear st1 st2 hd hj hzz
          go_wp2_with (first | (at_builtin; refine wpList_appG rfl (.tmp 43) (.tmp 46) rfl wr.heap.size _ [] rfl HZZ.out (by simp) _ ((S.drop k).take m) _ rfl HU.out HL1.out ?_; intro v7 w7 ho7 hg7; rw [List.nil_append] at ho7) | fail)
          have hb7 : Below wr.heap.size wr w7 := HZZ.out.belg hbA hg7 (by simp)
          have P7 := P.below hb7 P.blk.lt P.lt
          have HS7 := hide ((HS.out.below hb7).mono hb7.size)
          have HC7 := hide ((HC.out.below hb7).mono hb7.size)
          have hB7 := hb.trans (hb7.mono hz)
          have hz7 := Nat.le_trans hz hb7.size
          have Y7 := ho7.byt (by rw [List.length_take, List.length_drop]; omega)
          clear HU HL1 HZZ hbA HS HC P hb hz
          refine (take_frame (atF r S k) _ _ g h w7 P7 (hR.inv_at k) Y7).mono ?_
          intro e w8 hp
          unfold TakesF at hp
          rw [ST1.out] at hp
          obtain ⟨v8, rfl, ho8, P8, hb8⟩ := hp
          replace ho8 : OwnB w7.heap.size w8 v8 d := ho8
          replace P8 : PR w8 g h (atF r S (k + j)) := P8
          have hB8 := hb8.bel hB7 hg hh hz7
          have hz8 := Nat.le_trans hz7 hb8.size
          have HS8 := hide ((HS7.out.but2 P7 hb8).mono hb8.size)
          have HC8 := hide ((HC7.out.but2 P7 hb8).mono hb8.size)
          have s8 := run_byt_string w8 _ v8 _ (ho8.byt (by omega))
          obtain ⟨out2, HO1, HO2, hadd⟩ := add_named out ⟨d.toArray⟩ k (k + j) hos (by show d.toArray.size ≤ k + j; simpa using hdl) (by omega)
          have HO3 := hide (show out2.data.toList = gotF r S (k + j) by rw [HO1.out, HO.out, ST2.out])
          obtain ⟨C2, c2, rs1, rs2, hdr⟩ := HS8.out.cutrun (k := j) (by rw [List.length_drop]; omega)
          have HD := hide hdr
          clear hdr ST1 ST2 HS7 HC7 P7 Y7 ho7 hg7 hb7 hB7 hz7 hb8 HO HO1 HS8
          go_wp2_with fail
          go_roundw
          case rel => exact ⟨k + j, i + 1, m0 - j, C2, c2, out2, hjn, by omega, (by first | rw [show S.length - k - j = m0 - j by omega] | rw [List.length_drop, show S.length - k - j = m0 - j by omega]), rfl, by go_num, by go_num, by omega, HO3, (by have := HD.out; rw [List.length_drop, show S.length - k = m0 by omega, List.drop_drop] at this; exact this), HC8, P8, hB8, hz8⟩
          case measure => simp [intOf] <;> omega
        · obtain ⟨m, hm⟩ : ∃ m, m = m0 := ⟨_, rfl⟩
          have hm00 : 1 ≤ m := by omega
          have hmle : m ≤ m0 := by omega
          rw [if_neg hmq]
          clear hmq
          subst hm
          have hmc : m ≤ c := Nat.le_trans (show m ≤ m by omega) (HS.out.at_).2.1
          have hmk : k + m ≤ S.length := by omega
          obtain ⟨st1, st2⟩ := hR.step (show k < n by omega) hmk
          obtain ⟨d, hd⟩ : ∃ d, d = (takeF (atF r S k) ((S.drop k).take m)).d := ⟨_, rfl⟩
          rw [← hd] at st1 st2
          obtain ⟨j, hj⟩ : ∃ j, j = min m (n - k) := ⟨_, rfl⟩
          rw [← hj] at st1 st2
          have hj1 : 1 ≤ j := by omega
          have hjm : j ≤ m := by omega
          have hj0 : ((j : Int) == 0) = false := beqF (by omega)
          have hj00 : ¬ j = 0 := by omega
          have hjm2 : ¬ m < j := by omega
          have hjn : k + j ≤ n := by omega
          have hdl : d.length ≤ k + j := by have := gotF_len r S (k + j); rw [st2, List.length_append] at this; omega
          have hos : out.size ≤ k := by rw [← lsize, HO.out]; exact gotF_len r S k
          have ST1 := hide st1
          have ST2 := hide st2
          have hzz : OwnB wr.heap.size (wr.alloc (.cells #[] 5)) (.slice (some ⟨wr.heap.size, 0, none⟩) 0 0) [] := OwnB.build wr [] (by simp)
          have HZZ := hide hzz
          have hbA : Below wr.heap.size wr (wr.alloc (.cells #[] 5)) := (Below.refl _ _).alloc (Nat.le_refl _) _
          have HU := hide ((HS.out.take0 (m := m) (by rw [List.length_drop]; omega)).below hbA)
          have HL1 := hide (show ([] : List UInt8).length + ((S.drop k).take m).length ≤ 140737488355328 by rw [List.length_nil, List.length_take, List.length_drop]; omega)
          clear st1 st2 hd hj hzz
          go_wp2_with (first | (at_builtin; refine wpList_appG rfl (.tmp 43) (.tmp 46) rfl wr.heap.size _ [] rfl HZZ.out (by simp) _ ((S.drop k).take m) _ rfl HU.out HL1.out ?_; intro v7 w7 ho7 hg7; rw [List.nil_append] at ho7) | fail)
          have hb7 : Below wr.heap.size wr w7 := HZZ.out.belg hbA hg7 (by simp)
          have P7 := P.below hb7 P.blk.lt P.lt
          have HS7 := hide ((HS.out.below hb7).mono hb7.size)
          have HC7 := hide ((HC.out.below hb7).mono hb7.size)
          have hB7 := hb.trans (hb7.mono hz)
          have hz7 := Nat.le_trans hz hb7.size
          have Y7 := ho7.byt (by rw [List.length_take, List.length_drop]; omega)
          clear HU HL1 HZZ hbA HS HC P hb hz
          refine (take_frame (atF r S k) _ _ g h w7 P7 (hR.inv_at k) Y7).mono ?_
          intro e w8 hp
          unfold TakesF at hp
          rw [ST1.out] at hp
          obtain ⟨v8, rfl, ho8, P8, hb8⟩ := hp
          replace ho8 : OwnB w7.heap.size w8 v8 d := ho8
          replace P8 : PR w8 g h (atF r S (k + j)) := P8
          have hB8 := hb8.bel hB7 hg hh hz7
          have hz8 := Nat.le_trans hz7 hb8.size
          have HS8 := hide ((HS7.out.but2 P7 hb8).mono hb8.size)
          have HC8 := hide ((HC7.out.but2 P7 hb8).mono hb8.size)
          have s8 := run_byt_string w8 _ v8 _ (ho8.byt (by omega))
          obtain ⟨out2, HO1, HO2, hadd⟩ := add_named out ⟨d.toArray⟩ k (k + j) hos (by show d.toArray.size ≤ k + j; simpa using hdl) (by omega)
          have HO3 := hide (show out2.data.toList = gotF r S (k + j) by rw [HO1.out, HO.out, ST2.out])
          obtain ⟨C2, c2, rs1, rs2, hdr⟩ := HS8.out.cutrun (k := j) (by rw [List.length_drop]; omega)
          have HD := hide hdr
          clear hdr ST1 ST2 HS7 HC7 P7 Y7 ho7 hg7 hb7 hB7 hz7 hb8 HO HO1 HS8
          go_wp2_with fail
          go_roundw
          case rel => exact ⟨k + j, i + 1, m - j, C2, c2, out2, hjn, by omega, (by first | rw [show S.length - k - j = m - j by omega] | rw [List.length_drop, show S.length - k - j = m - j by omega]), rfl, by go_num, by go_num, by omega, HO3, (by have := HD.out; rw [List.length_drop, show S.length - k = m by omega, List.drop_drop] at this; exact this), HC8, P8, hB8, hz8⟩
          case measure => simp [intOf] <;> omega
      · obtain ⟨m, hm⟩ : ∃ m, m = m0 := ⟨_, rfl⟩
        have hm00 : 1 ≤ m := by omega
        have hmle : m ≤ m0 := by omega
        go_upto_region 8 with fail
        subst hm
        have hmc : m ≤ c := Nat.le_trans (show m ≤ m by omega) (HS.out.at_).2.1
        have hmk : k + m ≤ S.length := by omega
        obtain ⟨st1, st2⟩ := hR.step (show k < n by omega) hmk
        obtain ⟨d, hd⟩ : ∃ d, d = (takeF (atF r S k) ((S.drop k).take m)).d := ⟨_, rfl⟩
        rw [← hd] at st1 st2
        obtain ⟨j, hj⟩ : ∃ j, j = min m (n - k) := ⟨_, rfl⟩
        rw [← hj] at st1 st2
        have hj1 : 1 ≤ j := by omega
        have hjm : j ≤ m := by omega
        have hj0 : ((j : Int) == 0) = false := beqF (by omega)
        have hj00 : ¬ j = 0 := by omega
        have hjm2 : ¬ m < j := by omega
        have hjn : k + j ≤ n := by omega
        have hdl : d.length ≤ k + j := by have := gotF_len r S (k + j); rw [st2, List.length_append] at this; omega
        have hos : out.size ≤ k := by rw [← lsize, HO.out]; exact gotF_len r S k
        have ST1 := hide st1
        have ST2 := hide st2
        have hzz : OwnB wr.heap.size (wr.alloc (.cells #[] 5)) (.slice (some ⟨wr.heap.size, 0, none⟩) 0 0) [] := OwnB.build wr [] (by simp)
        have HZZ := hide hzz
        have hbA : Below wr.heap.size wr (wr.alloc (.cells #[] 5)) := (Below.refl _ _).alloc (Nat.le_refl _) _
        have HU := hide ((HS.out.take0 (m := m) (by rw [List.length_drop]; omega)).below hbA)
        have HL1 := hide (show ([] : List UInt8).length + ((S.drop k).take m).length ≤ 140737488355328 by rw [List.length_nil, List.length_take, List.length_drop]; omega)
        clear st1 st2 hd hj hzz
        go_wp2_with (first | (at_builtin; refine wpList_appG rfl (.tmp 43) (.tmp 46) rfl wr.heap.size _ [] rfl HZZ.out (by simp) _ ((S.drop k).take m) _ rfl HU.out HL1.out ?_; intro v7 w7 ho7 hg7; rw [List.nil_append] at ho7) | fail)
        have hb7 : Below wr.heap.size wr w7 := HZZ.out.belg hbA hg7 (by simp)
        have P7 := P.below hb7 P.blk.lt P.lt
        have HS7 := hide ((HS.out.below hb7).mono hb7.size)
        have HC7 := hide ((HC.out.below hb7).mono hb7.size)
        have hB7 := hb.trans (hb7.mono hz)
        have hz7 := Nat.le_trans hz hb7.size
        have Y7 := ho7.byt (by rw [List.length_take, List.length_drop]; omega)
        clear HU HL1 HZZ hbA HS HC P hb hz
        refine (take_frame (atF r S k) _ _ g h w7 P7 (hR.inv_at k) Y7).mono ?_
        intro e w8 hp
        unfold TakesF at hp
        rw [ST1.out] at hp
        obtain ⟨v8, rfl, ho8, P8, hb8⟩ := hp
        replace ho8 : OwnB w7.heap.size w8 v8 d := ho8
        replace P8 : PR w8 g h (atF r S (k + j)) := P8
        have hB8 := hb8.bel hB7 hg hh hz7
        have hz8 := Nat.le_trans hz7 hb8.size
        have HS8 := hide ((HS7.out.but2 P7 hb8).mono hb8.size)
        have HC8 := hide ((HC7.out.but2 P7 hb8).mono hb8.size)
        have s8 := run_byt_string w8 _ v8 _ (ho8.byt (by omega))
        obtain ⟨out2, HO1, HO2, hadd⟩ := add_named out ⟨d.toArray⟩ k (k + j) hos (by show d.toArray.size ≤ k + j; simpa using hdl) (by omega)
        have HO3 := hide (show out2.data.toList = gotF r S (k + j) by rw [HO1.out, HO.out, ST2.out])
        obtain ⟨C2, c2, rs1, rs2, hdr⟩ := HS8.out.cutrun (k := j) (by rw [List.length_drop]; omega)
        have HD := hide hdr
        clear hdr ST1 ST2 HS7 HC7 P7 Y7 ho7 hg7 hb7 hB7 hz7 hb8 HO HO1 HS8
        go_wp2_with fail
        go_roundw
        case rel => exact ⟨k + j, i + 1, m - j, C2, c2, out2, hjn, by omega, (by first | rw [show S.length - k - j = m - j by omega] | rw [List.length_drop, show S.length - k - j = m - j by omega]), rfl, by go_num, by go_num, by omega, HO3, (by have := HD.out; rw [List.length_drop, show S.length - k = m by omega, List.drop_drop] at this; exact this), HC8, P8, hB8, hz8⟩
        case measure => simp [intOf] <;> omega

end Go.Proofs.YtiigkacmahecaaaDoor
