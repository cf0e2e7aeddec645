/-
  The set of spans.
-/
import Derived.Test.YtfcbmajogmojbaaGreatDoorGrR
import Derived.Test.YtfcbmajogmojbaaGreatDoorGrSh
namespace Go.Proofs.YtfcbmajogmojbaaGreatDoor
open Go.RowKit Go.Lib Go.Shelf Go.Proofs
set_option linter.unusedVariables false
set_option linter.unusedSimpArgs false

theorem world_sorted {w : World} {g n : Nat} {os : Array Obj} (d : Array Sp) {B : Nat} (hB : B ≤ g) (hw : B ≤ w.heap.size) : Below B w (sortWorldK LSp.enc 2 w g 0 n d os) := by
  unfold sortWorldK
  refine ⟨rfl, rfl, rfl, by simp [Go.Sort.grow, Go.Sort.putRowK, Go.Sort.putRow, Go.Sort.mapBlock, Go.Sort.ahead], fun k hk => ?_⟩
  have hne : g ≠ k := by omega
  rw [Go.Sort.heap_grow_old _ _ (by simp [Go.Sort.putRowK, Go.Sort.putRow, Go.Sort.mapBlock, Go.Sort.ahead]; omega)]
  simp [Go.Sort.putRowK, Go.Sort.putRow, Go.Sort.mapBlock, Go.Sort.ahead, Array.getElem?_modify, hne]
theorem size_sorted {w : World} {g n : Nat} {os : Array Obj} (d : Array Sp) : w.heap.size ≤ (sortWorldK LSp.enc 2 w g 0 n d os).heap.size := by
  unfold sortWorldK
  simp [Go.Sort.grow, Go.Sort.putRowK, Go.Sort.putRow, Go.Sort.mapBlock, Go.Sort.ahead]
theorem flat_get (d : Array Sp) (i j : Nat) (hi : i < d.size) (hj : j < 2) : (Go.Sort.flatK LSp.enc 2 d)[i * 2 + j]! = (LSp.enc d[i]!)[j]! := by
  rw [Go.Sort.get_flatK LSp.enc 2 d (i * 2 + j) (by omega), show (i * 2 + j) / 2 = i by omega, show (i * 2 + j) % 2 = j by omega]
/-- A row that the call owns, as the sort reads it. -/
theorem holds_own {w : World} {g : Nat} {l : List Sp} (hc : ∀ i j u (hi : i < l.length), (LSp.enc l[i])[j]? = some u → w.cell? ⟨g, i * 2 + j, none⟩ = some u) (hf : ∀ k, w.frozen? ⟨g, k, none⟩ = false) : Go.Sort.HoldsK LSp.enc 2 w g 0 l.toArray := by
  intro t ht
  have ht' : t < l.length * 2 := by simpa using ht
  have hi : t / 2 < l.length := by omega
  have hj : t % 2 < 2 := Nat.mod_lt _ (by decide)
  refine ⟨?_, by rw [Nat.zero_add]; exact hf t⟩
  have h := hc (t / 2) (t % 2) ((LSp.enc l[t / 2])[t % 2]!) hi (by
    rw [List.getElem!_eq_getElem?_getD]
    have : t % 2 < (LSp.enc l[t / 2]).length := by rw [LSp.len]; exact hj
    rw [List.getElem?_eq_getElem this]; rfl)
  rw [show t / 2 * 2 + t % 2 = t by omega] at h
  rw [Nat.zero_add, h]
  have e := flat_get l.toArray (t / 2) (t % 2) (by simpa using hi) hj
  rw [show t / 2 * 2 + t % 2 = t by omega] at e
  simp only [id]
  rw [e]
  congr 2
  simp [hi]
/-- Behind the sort the same row reads as the sorted spans. -/
theorem rd_sorted {w : World} {g n c : Nat} {os : Array Obj} {l : List Sp} {d : Array Sp} (hH : Go.Sort.HoldsK LSp.enc 2 w g 0 l.toArray) (hg : g < w.heap.size) (hs : d.size = l.length) (hc : l.length ≤ c) (hc2 : c ≤ 9223372036854775807) :
    RdL LSp (sortWorldK LSp.enc 2 w g 0 n d os) (sortWorldK LSp.enc 2 w g 0 n d os).heap.size (.slice (some ⟨g, 0, none⟩) l.length c) d.toList := by
  have h2 := Go.Sort.holdsK_putRowK LSp.enc 2 (Go.Sort.ahead w n) g 0 l.toArray d hH (by simpa using hs)
  have hz := size_sorted (w := w) (g := g) (n := n) (os := os) d
  refine ⟨by simp; omega, _, c, by simp [hs], by simp; omega, hc2, fun i hi => ⟨g, 0, rfl, by omega, fun j u hu => ?_⟩⟩
  have hi' : i < d.size := by simpa using hi
  have hj : j < 2 := by
    have := (List.getElem?_eq_some_iff.1 hu).1
    rw [LSp.len] at this; exact this
  have h3 := (h2 (i * 2 + j) (by simp; omega)).1
  rw [flat_get d i j hi' hj, Nat.zero_add] at h3
  unfold sortWorldK
  rw [Go.Sort.cell?_grow _ _ _ (by simpa [Go.Sort.putRowK, Go.Sort.putRow, Go.Sort.mapBlock, Go.Sort.ahead] using hg)]
  show _ = some u
  have e : (LSp.enc d[i]!)[j]! = u := by
    have : d[i]! = d.toList[i] := by simp [hi']
    rw [this, List.getElem!_eq_getElem?_getD, hu]; rfl
  rw [← e, Nat.zero_add]
  exact h3
theorem cmp_spans (x y : Sp) (W : World) : Calls Tryz.prog 36 #[.agg #[.int .i64 x.1, .int .i64 x.2], .agg #[.int .i64 y.1, .int .i64 y.2]] W fun e w' => e = .returned (.int .i64 (Lib.compareInt x.1 y.1)) ∧ ∃ q os', w' = Go.Sort.grow (W.drewN q) os' := by
  have hcon := fun W' => AnyG.cmp_Compare_int cmpInt x.1 y.1 W'
  change ∀ W', Calls Tryz.prog 37 _ _ _ at hcon
  generalize Lib.compareInt x.1 y.1 = r at hcon ⊢
  go_enter Tryz.func36, Tryz.ntmps36
  go_wp2_with (go_at_call 37; refine (hcon _).mono ?_; rintro e w' ⟨rfl, rfl⟩)
  go_ret
  exact ⟨rfl, 0, _, by rw [Go.Sort.alloc_eq_grow, Go.Sort.alloc_eq_grow, Go.Sort.grow_grow]; rfl⟩
theorem lt_spans (x y : Sp) : ltOf (fun x y : Sp => Lib.compareInt x.1 y.1) x y = decide (x.1 < y.1) := by
  unfold ltOf Lib.compareInt
  by_cases h1 : x.1 < y.1
  · simp [h1]
  · by_cases h2 : y.1 < x.1 <;> simp [h1, h2]
theorem swo_spans : Go.Sort.SWO (ltOf fun x y : Sp => Lib.compareInt x.1 y.1) where
  irrefl x := by rw [lt_spans]; simp
  trans x y z h1 h2 := by rw [lt_spans] at *; simp at *; omega
  ntrans x y z h1 h2 := by rw [lt_spans] at *; simp at *; omega
def goodB (x : Sp) : Bool := rightB x.1 x.2 && decide (x.1 < x.2)
def goodL (l : List Sp) : List Sp := l.filter goodB
/-- The set of all that spans have. -/
def ofL (l : List Sp) : List Sp := (goodL l).foldl (fun acc x => orL acc [x]) []
theorem good_ok {x : Sp} (h : goodB x = true) : okS x := by
  unfold goodB rightB at h
  simp at h
  exact ⟨h.1.1, h.2, h.1.2.2⟩
theorem ok_good {x : Sp} (h : okS x) : goodB x = true := by
  unfold okS at h
  unfold goodB rightB
  simp
  omega
theorem ofL_go : ∀ (m acc : List Sp), (∀ x ∈ m, okS x) → Nf acc → Nf (m.foldl (fun acc x => orL acc [x]) acc) ∧ (∀ a, Cov (m.foldl (fun acc x => orL acc [x]) acc) a ↔ Cov acc a ∨ Cov m a) ∧ (m.foldl (fun acc x => orL acc [x]) acc).length ≤ acc.length + m.length
  | [], acc, _, hN => ⟨hN, fun a => ⟨.inl, fun h => h.resolve_right (cov_nil a)⟩, by simp⟩
  | x :: m, acc, ho, hN => by
    have hx := ho x (List.mem_cons_self ..)
    have h1 : Nf [x] := ⟨hx, fun y h => (by cases h), trivial⟩
    obtain ⟨a1, a2, a3⟩ := ofL_go m (orL acc [x]) (fun y hy => ho y (List.mem_cons_of_mem _ hy)) (orL_nf hN h1)
    refine ⟨a1, fun a => ?_, ?_⟩
    · rw [List.foldl_cons, a2, orL_cov hN h1, cov_one, cov_cons, or_assoc]
    · have := orL_len acc [x]
      simp only [List.length_cons, List.length_nil] at this ⊢
      rw [List.foldl_cons]
      omega
theorem goodL_ok (l : List Sp) : ∀ x ∈ goodL l, okS x := fun x hx => good_ok (List.mem_filter.1 hx).2
theorem ofL_nf (l : List Sp) : Nf (ofL l) := (ofL_go (goodL l) [] (goodL_ok l) trivial).1
theorem ofL_cov (l : List Sp) (a : Int) : Cov (ofL l) a ↔ Cov (goodL l) a := by
  rw [ofL, (ofL_go (goodL l) [] (goodL_ok l) trivial).2.1]; exact ⟨fun h => h.resolve_left (cov_nil a), .inr⟩
theorem goodL_len (l : List Sp) : (goodL l).length ≤ l.length := List.length_filter_le _ _
theorem ofL_len (l : List Sp) : (ofL l).length ≤ l.length := by
  have := (ofL_go (goodL l) [] (goodL_ok l) trivial).2.2
  have := goodL_len l
  simp only [List.length_nil] at *
  unfold ofL
  omega
theorem goodL_yes {l : List Sp} {k : Nat} (h : k < l.length) (hg : goodB l[k] = true) : goodL (l.take (k + 1)) = goodL (l.take k) ++ [l[k]] := by
  unfold goodL; rw [List.take_succ_eq_append_getElem h, List.filter_append]; simp [hg]
theorem goodL_no {l : List Sp} {k : Nat} (h : k < l.length) (hg : goodB l[k] = false) : goodL (l.take (k + 1)) = goodL (l.take k) := by
  unfold goodL; rw [List.take_succ_eq_append_getElem h, List.filter_append]; simp [hg]
theorem rise_sorted {d : Array Sp} (h : Go.Sort.SortedIn (ltOf fun x y : Sp => Lib.compareInt x.1 y.1) 0 d.size d) : Rise d.toList := by
  have H : ∀ (m : List Sp), (∀ i j (hj : j < m.length) (hij : i < j), (m[i]'(by omega)).1 ≤ m[j].1) → Rise m := by
    intro m
    induction m with
    | nil => intro _; trivial
    | cons x m ih =>
      intro h
      refine ⟨fun y hy => ?_, ih fun i j hj hij => ?_⟩
      · obtain ⟨j, hj, rfl⟩ := List.getElem_of_mem hy
        have := h 0 (j + 1) (by simpa using hj) (by omega)
        simpa using this
      · have := h (i + 1) (j + 1) (by simpa using hj) (by omega)
        simpa using this
  refine H _ fun i j hj hij => ?_
  have hj' : j < d.size := by simpa using hj
  have := h i j (Nat.zero_le _) hij hj'
  rw [lt_spans] at this
  have e1 : d[j]! = d[j] := by simp [hj']
  have e2 : d[i]! = d[i]'(by omega) := by simp [show i < d.size by omega]
  rw [e1, e2] at this
  simp at this
  simpa using this
theorem of_sorted {l : List Sp} {d : Array Sp} (hp : Go.Sort.PermIn 0 (goodL l).length (goodL l).toArray d) (hs : Go.Sort.SortedIn (ltOf fun x y : Sp => Lib.compareInt x.1 y.1) 0 (goodL l).length d) : d.size = (goodL l).length ∧ gathL d.toList = ofL l := by
  have hz : d.size = (goodL l).length := by simpa using hp.1
  have hperm : d.toList.Perm (goodL l) := by
    have := hp.2.2
    have e : d.toList.take (goodL l).length = d.toList := List.take_of_length_le (by simp [hz])
    simpa [e] using this
  refine ⟨hz, ?_⟩
  have hok : ∀ x ∈ d.toList, okS x := fun x hx => goodL_ok l x (hperm.mem_iff.1 hx)
  have hr := rise_sorted (d := d) (by rw [hz]; exact hs)
  exact nf_uniq (gath_nf hok hr) (ofL_nf l) fun a => by rw [gath_cov hok hr, ofL_cov, cov_perm hperm]

set_option maxRecDepth 100000 in
set_option maxHeartbeats 8000000 in
theorem rof_any (v : Value) (l : List Sp) (w : World) (hr : RdL LSp w w.heap.size v l) (hll : l.length ≤ 1000000) : Calls Tryz.prog 14 #[v] w (SetOk (ofL l) w) := by
  obtain ⟨A, c, rfl, hlc, hc⟩ := hr.form
  have HR := hide hr
  clear hr
  go_enter Tryz.func14, Tryz.ntmps14
  go_upto_region 1 with fail
  obtain ⟨w1, hw1⟩ : ∃ w1 : World, w1 = w.alloc (.cells #[.slice none 0 0] 52) := ⟨_, rfl⟩
  rw [← hw1]
  have hB1 : Below w.heap.size w w1 := by rw [hw1]; exact (Below.refl _ _).alloc (Nat.le_refl _) _
  have Z : Blk w1 w.heap.size 52 #[.slice none 0 0] := by rw [hw1]; exact Blk.new _ _ _
  clear hw1
  go_wp2_with fail
  go_loopw [3, 5, 8] (fun c3 _ c8 wr => ∃ (k : Nat) (V : Value), k ≤ l.length ∧ V = c3 ∧ c8 = .int .i64 (k : Int) ∧ Hid (OwnL LSp w1.heap.size wr V (goodL (l.take k))) ∧ Below w1.heap.size w1 wr) (fun _ _ c8 _ => l.length - (intOf c8).toNat)
  case atStart => exact ⟨0, _, Nat.zero_le _, rfl, rfl, OwnL.nil _ _ _, Below.refl _ _⟩
  case round =>
    obtain ⟨k, V, hk, rfl, rfl, HO, hb⟩ := hrel
    by_cases hlt : k < l.length
    · obtain ⟨bs, os, hAs, hbls, ps, qs⟩ := HR.out.span k hlt
      subst hAs
      obtain ⟨xf, xt, hx⟩ : ∃ x0 x1 : Int, l[k] = (x0, x1) := ⟨_, _, rfl⟩
      rw [hx] at ps qs
      simp only at ps qs
      have hBr : Below w.heap.size w wr := hB1.trans (hb.mono hB1.size)
      have es : wr.cell? ⟨bs, os + k * 2, none⟩ = some (.int .i64 xf) := by rw [hBr.cell (by show bs < _; omega)]; exact ps
      have gs : wr.cell? ⟨bs, os + k * 2 + 1, none⟩ = some (.int .i64 xt) := by rw [hBr.cell (by show bs < _; omega)]; exact qs
      have HX := hide hx
      clear ps qs hx
      have hgl := goodL_len (l.take k)
      rw [List.length_take] at hgl
      have hgl2 : (goodL (l.take k)).length ≤ 1000000 := by omega
      have HGL := hide hgl2
      clear hgl hgl2
      go_upto_region 5 with fail
      obtain ⟨w2, hw2⟩ : ∃ W : World, W = wr.alloc (.cells #[.int .i64 xf, .int .i64 xt] 67) := ⟨_, rfl⟩
      first | rw [← hw2] | skip
      have X : Blk w2 wr.heap.size 67 #[.int .i64 xf, .int .i64 xt] := by rw [hw2]; exact Blk.new _ _ _
      have hB2 : Below w1.heap.size w1 w2 := by rw [hw2]; exact hb.alloc hb.size _
      have HO2 : Hid (OwnL LSp w1.heap.size w2 V (goodL (l.take k))) := by rw [hw2]; exact HO.out.alloc _
      obtain ⟨xb, hxb⟩ : ∃ n, n = wr.heap.size := ⟨_, rfl⟩
      rw [← hxb] at X ⊢
      clear hw2 es gs HO hb hxb hBr
      have cX := X.cell
      go_wp2_with fail
      refine (sright_any xf xt w2).mono ?_
      cases hr : rightB xf xt
      · rintro e w4 ⟨rfl, hb4⟩
        have hB4 := hB2.trans (hb4.mono hB2.size)
        have HO := hide (HO2.out.below hb4 (Nat.le_refl _))
        have X := X.below hb4 X.lt
        clear hb4 cX HO2 hB2
        have cX := X.cell
        have HB := hide (show goodB (xf, xt) = false by unfold goodB; simp only; rw [hr]; rfl)
        clear hr
        have HG := hide (show OwnL LSp w1.heap.size w4 V (goodL (l.take (k + 1))) by rw [goodL_no hlt (by rw [HX.out]; exact HB.out)]; exact HO.out)
        go_wp2_with fail
        go_roundw
        case rel => exact ⟨k + 1, _, by omega, rfl, by go_num, HG, hB4⟩
        case measure => simp [intOf] <;> omega
      · rintro e w4 ⟨rfl, hb4⟩
        have hB4 := hB2.trans (hb4.mono hB2.size)
        have HO := hide (HO2.out.below hb4 (Nat.le_refl _))
        have X := X.below hb4 X.lt
        clear hb4 cX HO2 hB2
        have cX := X.cell
        by_cases hlt2 : xf < xt
        · have d1 : decide (xf < xt) = true := decide_eq_true hlt2
          have HB := hide (show goodB (xf, xt) = true by unfold goodB; simp only; rw [hr, d1]; rfl)
          clear hr
          have HE := hide (show goodL (l.take (k + 1)) = goodL (l.take k) ++ [(xf, xt)] by rw [goodL_yes hlt (by rw [HX.out]; exact HB.out), HX.out])
          have hz4 := hB4.size
          have R5 : RdL LSp (w4.alloc (.cells #[.int .i64 xf, .int .i64 xt] 67)) (w4.heap.size + 1) (.slice (some ⟨w4.heap.size, 0, none⟩) 1 1) [(xf, xt)] := by
            have := RdL.one_ (L := LSp) (x := (xf, xt)) (Blk.new w4 67 #[.int .i64 xf, .int .i64 xt]) rfl
            simpa using this
          have HL9 := hide (show (goodL (l.take k)).length + [(xf, xt)].length ≤ 1000000000 by have := HGL.out; rw [List.length_singleton]; omega)
          go_wp2_with (at_builtin; refine wpList_appL LSp w1 (by rfl) (.tmp 21) (.tmp 23) _ _ (by rfl) rfl rfl w1.heap.size _ _ (by rfl) (HO.out.alloc _) (hB4.alloc hB4.size _) (by simp; omega) _ [(xf, xt)] _ (by rfl) R5 (by decide) HL9.out ?_)
          intro v7 w7 O7 hB7 _ _
          rw [← HE.out] at O7
          have HJ := hide O7
          clear O7 R5 HO HL9
          go_wp2_with fail
          go_roundw
          case rel => exact ⟨k + 1, _, by omega, rfl, by go_num, HJ, hB7⟩
          case measure => simp [intOf] <;> omega
        · have d1 : decide (xf < xt) = false := decide_eq_false hlt2
          have HB := hide (show goodB (xf, xt) = false by unfold goodB; simp only; rw [hr, d1]; rfl)
          clear hr
          have HG := hide (show OwnL LSp w1.heap.size w4 V (goodL (l.take (k + 1))) by rw [goodL_no hlt (by rw [HX.out]; exact HB.out)]; exact HO.out)
          go_wp2_with fail
          go_roundw
          case rel => exact ⟨k + 1, _, by omega, rfl, by go_num, HG, hB4⟩
          case measure => simp [intOf] <;> omega
    · have hE : goodL (l.take k) = goodL l := by rw [List.take_of_length_le (by omega)]
      rw [hE] at HO
      clear hE
      have hgl := goodL_len l
      have hgl2 : (goodL l).length ≤ 1000000 := by omega
      by_cases h0 : (goodL l).length = 0
      · obtain ⟨A5, k5, hv5, _, _⟩ := HO.out.rd.form
        rw [h0] at hv5
        subst hv5
        have h00 : goodL l = [] := List.eq_nil_of_length_eq_zero h0
        have HD := hide (show gathL [] = ofL l by unfold ofL; rw [h00]; rfl)
        obtain ⟨dl, hdle⟩ : ∃ x : List Sp, x = [] := ⟨_, rfl⟩
        rw [← hdle] at HD
        have hdl : dl.length ≤ 1000000 := by rw [hdle]; simp
        have R5 : RdL LSp wr wr.heap.size (.slice A5 0 k5) dl := by have := HO.out.rd; rw [h00] at this; rw [hdle]; exact this
        have hcon := AnyF.slices_SortFunc_none sortIv A5 k5 (.func (.func 36) #[] #[]) wr
        change Calls Tryz.prog 35 _ _ _ at hcon
        have hB5 := hb
        clear hb HO h00 hdle h0 hgl
        go_wp2_with fail
        refine hcon.mono ?_
        clear hcon
        rintro e w5 ⟨rfl, rfl⟩
        go_wp2_with fail
        refine (gather_any _ dl w5 R5 hdl).mono ?_
        rintro e w8 ⟨v8, rfl, O8, hb8⟩
        have hB8 := hB5.trans (hb8.mono hB5.size)
        have hBw8 := hB1.trans (hB8.mono hB1.size)
        have Z8 := Z.below hB8 Z.lt
        have cZ := Z8.cell
        have fZ := Z8.frozen 0
        have hlz := Z8.lt
        have hbz := hB5.size
        rw [HD.out] at O8
        obtain ⟨A8, k8, hv8, _, _⟩ := O8.rd.form
        have HR8 := hide (O8.rd_set (g := w.heap.size) (i := 0) (by have := Z.lt; omega) v8)
        subst hv8
        clear O8 R5
        go_wp2_with fail
        refine bodyPost_ret (v := .agg #[.slice A8 (ofL l).length k8]) (by simp [results, Tryz.results14, go_sem, cZ, fZ]) rfl ?_
        exact ⟨_, rfl, HR8.out, below_set hBw8 (Nat.le_refl _) _⟩
      · obtain ⟨g, c5, hv5, h5a, h5b, hBg, hgl5, hcell, hfz⟩ := HO.out.some_ (by omega)
        subst hv5
        have hH := holds_own (fun i j u hi hu => hcell i j u hi hu) hfz
        have hsz : (goodL l).toArray.size = (goodL l).length := by simp
        have hcon := AnyQ.slices_SortFunc sortIv 2 Tryz.isAgg67 Tryz.sizeOf67 LSp.enc (fun _ => rfl) (fun x v hv => by simp [LSp] at hv; rcases hv with rfl | rfl <;> rfl) (fun x y => Lib.compareInt x.1 y.1) swo_spans 36 #[] g 0 c5 (goodL l).toArray wr (enters_of Tryz.func36 (by kernel_rfl) rfl) (fun _ _ _ _ x y => cmp_spans x y _) hH hgl5 (by rw [hsz]; omega)
        change Calls Tryz.prog 35 _ _ _ at hcon
        rw [hsz] at hcon
        have HH := hide hH
        have HCON := hide hcon
        clear hcon hH hcell hfz HO h0 hgl hsz
        go_wp2_with fail
        refine HCON.out.mono ?_
        clear HCON
        rintro e w5 ⟨rfl, d, n5, os5, hp, hs, rfl⟩
        obtain ⟨hz5, hd5⟩ := of_sorted hp hs
        clear hp hs
        have R5 := rd_sorted (n := n5) (os := os5) (c := c5) HH.out hgl5 hz5 h5a h5b
        have hB5 : Below w1.heap.size w1 (sortWorldK LSp.enc 2 wr g 0 n5 d os5) := hb.trans (world_sorted d hBg hb.size)
        obtain ⟨w5, hw5⟩ : ∃ W, W = sortWorldK LSp.enc 2 wr g 0 n5 d os5 := ⟨_, rfl⟩
        rw [← hw5] at R5 hB5 ⊢
        clear hw5 hb HH
        obtain ⟨dl, hdle⟩ : ∃ x, x = d.toList := ⟨_, rfl⟩
        rw [← hdle] at R5 hd5
        have hdl : dl.length ≤ 1000000 := by rw [hdle]; simp; omega
        have HD := hide hd5
        clear hd5 hdle hz5
        go_wp2_with fail
        refine (gather_any _ dl w5 R5 hdl).mono ?_
        rintro e w8 ⟨v8, rfl, O8, hb8⟩
        have hB8 := hB5.trans (hb8.mono hB5.size)
        have hBw8 := hB1.trans (hB8.mono hB1.size)
        have Z8 := Z.below hB8 Z.lt
        have cZ := Z8.cell
        have fZ := Z8.frozen 0
        have hlz := Z8.lt
        have hbz := hB5.size
        rw [HD.out] at O8
        obtain ⟨A8, k8, hv8, _, _⟩ := O8.rd.form
        have HR8 := hide (O8.rd_set (g := w.heap.size) (i := 0) (by have := Z.lt; omega) v8)
        subst hv8
        clear O8 R5
        go_wp2_with fail
        refine bodyPost_ret (v := .agg #[.slice A8 (ofL l).length k8]) (by simp [results, Tryz.results14, go_sem, cZ, fZ]) rfl ?_
        exact ⟨_, rfl, HR8.out, below_set hBw8 (Nat.le_refl _) _⟩

end Go.Proofs.YtfcbmajogmojbaaGreatDoor
