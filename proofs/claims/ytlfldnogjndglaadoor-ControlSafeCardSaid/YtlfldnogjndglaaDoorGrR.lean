/-
  Merged: RegI, RegB.
-/
import Derived.Test.YtlfldnogjndglaaDoorGrU
import Derived.Orders
namespace Go.Proofs.YtlfldnogjndglaaDoor
open Go.RowKit
set_option linter.unusedVariables false
set_option linter.unusedSimpArgs false

/-- Every binding edge points back. -/
def backB (md : Region.Mode) (ops : Array Oper) : Bool := (List.range ops.size).all fun i => ((ops[i]?).map fun o => o.after.all fun e => !Region.binds md e || decide (e.on < i)).getD true
theorem cnt_set : ∀ (l : List Bool) (i : Nat), l[i]? = some false → (l.set i true).count false + 1 = l.count false
  | [], i, h => by simp at h
  | b :: l, 0, h => by
    have : b = false := by simpa using h
    subst this
    simp
  | b :: l, i + 1, h => by
    have ih := cnt_set l i (by simpa using h)
    rw [List.set_cons_succ, List.count_cons, List.count_cons]
    omega
section
variable {P : Program} {ops : Array Oper} {Q : Exit → Act → World → Prop} {md : Region.Mode}
theorem ready_of {listed : Array Bool} {i : Nat} (h : i ∈ Region.ready md ops listed) : i < ops.size ∧ listed.getD i true = false ∧ ∃ o, ops[i]? = some o ∧ ∀ e ∈ o.after, Region.binds md e = true → listed.getD e.on false = true := by
  unfold Region.ready at h
  obtain ⟨h1, h2⟩ := List.mem_filter.1 h
  have hi : i < ops.size := List.mem_range.1 h1
  rw [Bool.and_eq_true] at h2
  refine ⟨hi, by simpa using h2.1, ops[i], Array.getElem?_eq_getElem hi, fun e he hb => ?_⟩
  have h3 := h2.2
  rw [Array.getElem?_eq_getElem hi] at h3
  simp only [Option.map_some, Option.getD_some, Array.all_eq_true'] at h3
  have := h3 e he
  rw [hb] at this
  simpa using this
theorem of_ready {listed : Array Bool} {i : Nat} (hi : i < ops.size) (h1 : listed.getD i true = false) (h2 : ∀ e ∈ (ops[i]'hi).after, Region.binds md e = true → listed.getD e.on false = true) : i ∈ Region.ready md ops listed := by
  unfold Region.ready
  refine List.mem_filter.2 ⟨List.mem_range.2 hi, ?_⟩
  rw [h1, Array.getElem?_eq_getElem hi]
  simp only [Bool.not_false, Bool.true_and, Option.map_some, Option.getD_some, Array.all_eq_true']
  intro e he
  cases hb : Region.binds md e
  · rfl
  · rw [h2 e he hb]; rfl
theorem all_listed (hB : backB md ops = true) {listed : Array Bool} (hs : listed.size = ops.size) (h : Region.ready md ops listed = []) : ∀ i, i < ops.size → listed.getD i false = true := by
  intro i
  induction i using Nat.strongRecOn with
  | ind i ih =>
    intro hi
    have hl : i < listed.size := by omega
    cases q : listed.getD i false
    · exfalso
      have h1 : listed.getD i true = false := by
        simp only [Array.getD, hl, dif_pos] at q ⊢
        exact q
      have : i ∈ Region.ready md ops listed := of_ready hi h1 fun e he hb => by
        have hb' := List.all_eq_true.1 hB i (List.mem_range.2 hi)
        rw [Array.getElem?_eq_getElem hi] at hb'
        simp only [Option.map_some, Option.getD_some, Array.all_eq_true'] at hb'
        have h3 := hb' e he
        rw [hb] at h3
        have h4 : e.on < i := by simpa using h3
        exact ih e.on h4 (by omega)
      rw [h] at this
      cases this
    · rfl
theorem wpAny_inv (hB : backB md ops = true) (Inv : Array Bool → Act → World → Prop)
    (hstep : ∀ listed a w, listed.size = ops.size → Inv listed a w → ∀ i ∈ Region.ready md ops listed, wpOp P ops Q i (fun a' w' => Inv (listed.setIfInBounds i true) a' w') a w)
    (hend : ∀ listed a w, Inv listed a w → (∀ i, i < ops.size → listed.getD i false = true) → Q .normal a w) :
    ∀ (fuel : Nat) (listed : Array Bool) (a : Act) (w : World), listed.size = ops.size → Inv listed a w → listed.toList.count false ≤ fuel → wpAny P md ops Q fuel listed a w
  | 0, listed, a, w, hs, hI, hc => by
    have hr : Region.ready md ops listed = [] := by
      cases hr : Region.ready md ops listed with
      | nil => rfl
      | cons i rs =>
        exfalso
        obtain ⟨hi, h1, _⟩ := ready_of (md := md) (ops := ops) (listed := listed) (i := i) (by rw [hr]; exact List.mem_cons_self ..)
        have hl : i < listed.size := by omega
        have hm : false ∈ listed.toList := by
          simp only [Array.getD, hl, dif_pos] at h1
          rw [← h1]
          exact Array.getElem_mem_toList hl
        have := List.count_pos_iff.2 hm
        omega
    exact ⟨hr, hend listed a w hI (all_listed hB hs hr)⟩
  | fuel + 1, listed, a, w, hs, hI, hc => by
    refine ⟨fun hr => hend listed a w hI (all_listed hB hs hr), fun i hi => ?_⟩
    obtain ⟨hlt, h1, _⟩ := ready_of hi
    have hl : i < listed.size := by omega
    have hcs := cnt_set listed.toList i (by
      rw [Array.getD_eq_getD_getElem?, Array.getElem?_eq_getElem hl] at h1
      rw [Array.getElem?_toList, Array.getElem?_eq_getElem hl]
      exact congrArg some h1)
    refine wpOp_mono (fun a' w' hI' => wpAny_inv hB Inv hstep hend fuel _ a' w' (by simpa using hs) hI' ?_) (hstep listed a w hs hI i hi)
    rw [Array.toList_setIfInBounds]
    omega
/-- A region that draws its order, by one invariant over what is listed: 'L i': operation i is done. -/
theorem wp_region_inv {id : Nat} {a : Act} {w : World} (hm : P.follows .mixedOrders = true) (hB : backB .any ops = true) (Inv : (Nat → Bool) → Act → World → Prop)
    (h0 : Inv (fun _ => false) a w.drew)
    (hstep : ∀ (L : Nat → Bool) (a : Act) (w : World), Inv L a w → ∀ i o, ops[i]? = some o → L i = false → (∀ e ∈ o.after, Region.binds .any e = true → L e.on = true) → wpOp P ops Q i (fun a' w' => Inv (fun j => if j = i then true else L j) a' w') a w)
    (hend : ∀ (L : Nat → Bool) (a : Act) (w : World), Inv L a w → (∀ i, i < ops.size → L i = true) → Q .normal a w) : (Code.region id ops true).wp P Q a w := by
  refine wp_region_any hm ?_
  refine wpAny_inv hB (fun listed a w => Inv (fun j => listed.getD j false) a w) ?_ ?_ ops.size _ a _ (by simp) ?_ ?_
  · intro listed a w hs hI i hi
    obtain ⟨hlt, h1, o, ho, hd⟩ := ready_of hi
    have hl : i < listed.size := by omega
    have hf : listed.getD i false = false := by
      simp only [Array.getD, hl, dif_pos] at h1 ⊢
      exact h1
    refine wpOp_mono (fun a' w' h => ?_) (hstep _ a w hI i o ho hf hd)
    have e : (fun j => (listed.setIfInBounds i true).getD j false) = fun j => if j = i then true else listed.getD j false := by
      funext j
      by_cases hj : j = i
      · subst hj
        simp [Array.getD, hl]
      · rw [if_neg hj]
        exact getD_set_ne false (fun e => hj e.symm)
    rw [e]
    exact h
  · intro listed a w hI hall
    exact hend _ a w hI hall
  · have e : (fun j => (Array.replicate ops.size false).getD j false) = fun _ => false := by
      funext j
      by_cases hj : j < ops.size <;> simp [Array.getD, hj]
    rw [e]
    exact h0
  · simp
end
/-- The slots that are none of a region's own are as they were. -/
def Slots (a0 : Act) (ds : List Tmp) (a : Act) : Prop := a.defers = a0.defers ∧ a.tmps.size = a0.tmps.size ∧ ∀ t, t ∉ ds → a.tmps[t]? = a0.tmps[t]?
theorem Slots.refl (a : Act) (ds : List Tmp) : Slots a ds a := ⟨rfl, rfl, fun _ _ => rfl⟩
theorem Slots.put {a0 a : Act} {ds : List Tmp} (h : Slots a0 ds a) {d : Option Tmp} (hd : ∀ t, d = some t → t ∈ ds) (v : Value) : Slots a0 ds (a.put d v) := by
  cases d with
  | none => exact h
  | some d =>
    refine ⟨h.1, by simpa [Act.put] using h.2.1, fun t ht => ?_⟩
    have hne : d ≠ t := fun e => ht (e ▸ hd d rfl)
    simp only [Act.put, Array.getElem?_setIfInBounds_ne hne]
    exact h.2.2 t ht
/-- What a slot holds. -/
def slot (a : Act) (t : Tmp) : Value := a.tmps.getD t undef
theorem slot_get (a : Act) (t : Tmp) : slot a t = a.tmps[t]?.getD undef := Array.getD_eq_getD_getElem?
theorem eval_slot (a : Act) (t : Tmp) : a.eval (.tmp t) = slot a t := rfl
theorem slot_old {a0 a : Act} {ds : List Tmp} (h : Slots a0 ds a) {t : Tmp} (ht : t ∉ ds) : slot a t = slot a0 t := by rw [slot_get, slot_get, h.2.2 t ht]
theorem slot_put {a0 a : Act} {ds : List Tmp} (h : Slots a0 ds a) {d : Tmp} (hd : d < a0.tmps.size) (v : Value) : slot (a.put (some d) v) d = v := by
  rw [slot_get]
  simp [Act.put, h.2.1, hd]
theorem slot_ne {a : Act} {d t : Tmp} (h : d ≠ t) (v : Value) : slot (a.put (some d) v) t = slot a t := by
  rw [slot_get, slot_get]
  simp [Act.put, Array.getElem?_setIfInBounds_ne h]
theorem slot_none {a : Act} {t : Tmp} (v : Value) : slot (a.put none v) t = slot a t := rfl
/-- The frame behind a region, written out. -/
theorem Slots.lit {a0 a : Act} {ds : List Tmp} (h : Slots a0 ds a) : a = ⟨ds.foldl (fun arr d => arr.setIfInBounds d (slot a d)) a0.tmps, a0.defers⟩ := by
  obtain ⟨h1, h2, h3⟩ := h
  have key : ∀ (es : List Tmp) (arr : Array Value), arr.size = a.tmps.size → (∀ t, t ∉ es → arr[t]? = a.tmps[t]?) → es.foldl (fun arr d => arr.setIfInBounds d (slot a d)) arr = a.tmps := by
    intro es
    induction es with
    | nil =>
      intro arr _ hall
      exact Array.ext_getElem? fun i => hall i (by simp)
    | cons d es ih =>
      intro arr hs hall
      refine ih _ (by simpa using hs) fun t ht => ?_
      by_cases e : d = t
      · subst e
        rw [Array.getElem?_setIfInBounds]
        by_cases hlt : d < arr.size
        · rw [if_pos rfl, if_pos hlt]
          rw [slot_get, Array.getElem?_eq_getElem (show d < a.tmps.size by rw [← hs]; exact hlt)]
          rfl
        · rw [if_pos rfl, if_neg hlt, Array.getElem?_eq_none (show a.tmps.size ≤ d by rw [← hs]; exact Nat.le_of_not_lt hlt)]
      · rw [Array.getElem?_setIfInBounds_ne e]
        exact hall t (by simp only [List.mem_cons, not_or]; exact ⟨fun h => e h.symm, ht⟩)
  have := key ds a0.tmps h2.symm fun t ht => (h3 t ht).symm
  cases a
  simp only at h1 this
  rw [this, h1]
section
variable {P : Program} {ops : Array Oper} {Q : Exit → Act → World → Prop}
theorem op_run {o : Oper} {a : Act} {w w' : World} {K : Act → World → Prop} {v : Value} (h : (execOp a.eval o).run P w = .ok (.value v) w') (hk : K (a.put o.dst v) w') : o.wp P a w K Q := by
  unfold Oper.wp; rw [h]; exact hk
theorem op_skip {o : Oper} {a : Act} {w w' : World} {K : Act → World → Prop} (h : (execOp a.eval o).run P w = .ok .skip w') (hk : K (a.put o.dst undef) w') : o.wp P a w K Q := by
  unfold Oper.wp; rw [h]; exact hk
theorem op_skip0 {o : Oper} {a : Act} {w w' : World} {K : Act → World → Prop} (hd : o.dst = none) (h : (execOp a.eval o).run P w = .ok .skip w') (hk : K a w') : o.wp P a w K Q := by
  unfold Oper.wp; rw [h]; show K (a.put o.dst undef) w'; rw [hd]; exact hk
theorem op_call {o : Oper} {a : Act} {w w1 : World} {K : Act → World → Prop} {f : FuncId} {args : Array Value} {R : Ending → World → Prop} (h : (execOp a.eval o).run P w = .ok (.enter f args) w1) (hc : Calls P f args w1 R) (hk : ∀ e w', R e w' → ∃ v, e = .returned v ∧ K (a.put o.dst v) w') : o.wp P a w K Q := by
  unfold Oper.wp
  rw [h]
  refine hc.mono fun e w' hr => ?_
  obtain ⟨v, rfl, hv⟩ := hk e w' hr
  exact hv
theorem wpOp_of {i : Nat} {o : Oper} {K : Act → World → Prop} {a : Act} {w : World} (ho : ops[i]? = some o) (hg : o.guard = none) (h : o.wp P a w K Q) : wpOp P ops Q i K a w := by
  unfold wpOp
  rw [ho]
  have hw : Region.wanted o (yielded ops a.tmps) = true := by unfold Region.wanted; rw [hg]
  simp only [hw, if_true]
  exact .inl h
/-- What a region's operations are, at a glance: no guards, each has a slot of its own but for the last one, which all others lead to, if it has none. -/
def plainRB (ops : Array Oper) (n : Nat) (D : List Tmp) (size : Nat) : Bool :=
  backB .any ops && D.length == n && decide (D.Nodup) && D.all (fun d => decide (d < size)) && (ops.size == n || ops.size == n + 1) &&
  (List.range ops.size).all (fun i => ((ops[i]?).map fun o => o.guard.isNone && (if i < n then o.dst == D[i]? else o.dst.isNone)).getD false) &&
  (ops.size == n || (List.range n).all fun i => (List.range ops.size).any fun j => decide (i < j) && ((ops[j]?).map fun o => o.after.any fun e => Region.binds .any e && e.on == i).getD false)
theorem wp_region_mem {id : Nat} {a0 : Act} {w0 : World} (n : Nat) (D : List Tmp) (hm : P.follows .mixedOrders = true) (hp : plainRB ops n D a0.tmps.size = true)
    (G : Nat → Value → World → Prop) (mono : ∀ i v w w', G i v w → Below w.heap.size w w' → G i v w')
    (step : ∀ i o a w, i < n → ops[i]? = some o → Slots a0 D a → Below w0.heap.size w0 w → (∀ e ∈ o.after, Region.binds .any e = true → G e.on (slot a (D.getD e.on 0)) w) →
      o.wp P a w (fun a' w' => ∃ v, a' = a.put (some (D.getD i 0)) v ∧ Below w.heap.size w w' ∧ G i v w') Q)
    (fin : ops.size = n → ∀ a w, Slots a0 D a → Below w0.heap.size w0 w → (∀ i, i < n → G i (slot a (D.getD i 0)) w) → Q .normal a w)
    (last : ops.size = n + 1 → ∀ o a w, ops[n]? = some o → Slots a0 D a → Below w0.heap.size w0 w → (∀ i, i < n → G i (slot a (D.getD i 0)) w) → o.wp P a w (fun a' w' => Q .normal a' w') Q) :
    (Code.region id ops true).wp P Q a0 w0 := by
  unfold plainRB at hp
  simp only [Bool.and_eq_true, Bool.or_eq_true, beq_iff_eq, decide_eq_true_eq] at hp
  obtain ⟨⟨⟨⟨⟨⟨hB, hlen⟩, hnd⟩, hsz⟩, hsize⟩, hops⟩, hanc⟩ := hp
  have hop : ∀ i o, ops[i]? = some o → o.guard = none ∧ (i < n → o.dst = some (D.getD i 0)) := fun i o ho => by
    have hi : i < ops.size := (Array.getElem?_eq_some_iff.1 ho).1
    have h1 := List.all_eq_true.1 hops i (List.mem_range.2 hi)
    rw [ho] at h1
    simp only [Option.map_some, Option.getD_some, Bool.and_eq_true] at h1
    refine ⟨Option.isNone_iff_eq_none.1 h1.1, fun hin => ?_⟩
    have h2 := h1.2
    rw [if_pos hin] at h2
    have h3 : o.dst = D[i]? := by simpa using h2
    rw [h3, List.getD_eq_getElem?_getD, List.getElem?_eq_getElem (by omega)]
    rfl
  have hmem : ∀ i, i < n → D.getD i 0 ∈ D := fun i hi => by
    rw [List.getD_eq_getElem?_getD, List.getElem?_eq_getElem (by omega)]
    exact List.getElem_mem _
  have hinj : ∀ i j, i < n → j < n → i ≠ j → D.getD i 0 ≠ D.getD j 0 := fun i j hi hj hij e => by
    rw [List.getD_eq_getElem?_getD, List.getElem?_eq_getElem (by omega), List.getD_eq_getElem?_getD, List.getElem?_eq_getElem (by omega)] at e
    exact hij ((List.getElem_inj hnd).1 e)
  have hlt : ∀ i, i < n → D.getD i 0 < a0.tmps.size := fun i hi => by
    have := List.all_eq_true.1 hsz _ (hmem i hi)
    simpa using this
  refine wp_region_inv (P := P) hm hB (fun L a w => (∀ j o, ops[j]? = some o → L j = true → ∀ e ∈ o.after, Region.binds .any e = true → L e.on = true) ∧
    (if L n = true ∧ n < ops.size then Q .normal a w ∧ ∀ i, i < ops.size → L i = true else Slots a0 D a ∧ Below w0.heap.size w0 w ∧ ∀ i, i < n → L i = true → G i (slot a (D.getD i 0)) w)) ?_ ?_ ?_
  · refine ⟨fun j o _ h => (by cases h), ?_⟩
    rw [if_neg (fun h => by cases h.1)]
    exact ⟨Slots.refl _ _, (Below.refl _ _).drew, fun i _ h => (by cases h)⟩
  · intro L a w hI i o ho hL hd
    obtain ⟨hcl, hI⟩ := hI
    have hi : i < ops.size := (Array.getElem?_eq_some_iff.1 ho).1
    have hnl : ¬ (L n = true ∧ n < ops.size) := fun h => by
      rw [if_pos h] at hI
      rw [hI.2 i hi] at hL
      cases hL
    rw [if_neg hnl] at hI
    obtain ⟨hS, hb, hG⟩ := hI
    have hcl' : ∀ j o', ops[j]? = some o' → (if j = i then true else L j) = true → ∀ e ∈ o'.after, Region.binds .any e = true → (if e.on = i then true else L e.on) = true := fun j o' ho' h e he hbn => by
      by_cases hei : e.on = i
      · rw [if_pos hei]
      · rw [if_neg hei]
        by_cases hj : j = i
        · subst hj
          rw [ho] at ho'
          cases ho'
          exact hd e he hbn
        · rw [if_neg hj] at h
          exact hcl j o' ho' h e he hbn
    refine wpOp_of ho (hop i o ho).1 ?_
    by_cases hin : i < n
    · have hdep : ∀ e ∈ o.after, Region.binds .any e = true → G e.on (slot a (D.getD e.on 0)) w := fun e he hbn => by
        have hb' := List.all_eq_true.1 hB i (List.mem_range.2 hi)
        rw [ho] at hb'
        simp only [Option.map_some, Option.getD_some, Array.all_eq_true'] at hb'
        have h3 := hb' e he
        rw [hbn] at h3
        have h4 : e.on < i := by simpa using h3
        exact hG e.on (by omega) (hd e he hbn)
      refine Oper.wp_mono ?_ (step i o a w hin ho hS hb hdep)
      rintro a' w' ⟨v, rfl, hbw, hGi⟩
      refine ⟨hcl', ?_⟩
      rw [if_neg (fun h => by
        have h1 : (if n = i then true else L n) = true := h.1
        by_cases hni : n = i
        · omega
        · rw [if_neg hni] at h1
          exact hnl ⟨h1, h.2⟩)]
      refine ⟨hS.put (fun t e => by cases e; exact hmem i hin) v, hb.trans (hbw.mono hb.size), fun j hj hLj => ?_⟩
      by_cases hji : j = i
      · subst hji
        rw [slot_put hS (hlt j hj)]
        exact hGi
      · rw [slot_ne (hinj i j hin hj (fun e => hji e.symm))]
        have hLj : (if j = i then true else L j) = true := hLj
        rw [if_neg hji] at hLj
        exact mono j _ w w' (hG j hj hLj) hbw
    · have hin' : i = n := by omega
      have hsz1 : ops.size = n + 1 := by omega
      have hall : ∀ k, k ≤ n → ∀ j, j < n → n - k ≤ j → L j = true := by
        intro k
        induction k with
        | zero => intro _ j hj h; omega
        | succ k ih =>
          intro hk j hj hjk
          have ha := hanc.resolve_left (by omega)
          have h1 := List.all_eq_true.1 ha j (List.mem_range.2 hj)
          obtain ⟨m, hm1, hm2⟩ := List.any_eq_true.1 h1
          have hms : m < ops.size := List.mem_range.1 hm1
          rw [Bool.and_eq_true, Array.getElem?_eq_getElem hms] at hm2
          simp only [Option.map_some, Option.getD_some, Array.any_eq_true', Bool.and_eq_true, beq_iff_eq, decide_eq_true_eq] at hm2
          obtain ⟨hjm, e, he, hbn, hon⟩ := hm2
          by_cases hmn : m = n
          · subst hmn
            have : o = ops[i] := by rw [Array.getElem?_eq_getElem hi] at ho; exact (Option.some.inj ho).symm
            subst hin'
            rw [← hon]
            exact hd e (by rw [this]; exact he) hbn
          · have := hcl m ops[m] (Array.getElem?_eq_getElem hms) (ih (by omega) m (by omega) (by omega)) e he hbn
            rw [hon] at this
            exact this
      have hL' : ∀ j, j < n → L j = true := fun j hj => hall n (Nat.le_refl _) j hj (by omega)
      subst hin'
      refine Oper.wp_mono ?_ (last hsz1 o a w ho hS hb fun j hj => hG j hj (hL' j hj))
      intro a' w' hQ
      refine ⟨hcl', ?_⟩
      rw [if_pos ⟨show (if i = i then true else L i) = true from if_pos rfl, by omega⟩]
      refine ⟨hQ, fun j hj => ?_⟩
      show (if j = i then true else L j) = true
      by_cases hji : j = i
      · rw [if_pos hji]
      · rw [if_neg hji]
        exact hL' j (by omega)
  · intro L a w hI hall
    obtain ⟨_, hI⟩ := hI
    by_cases h : L n = true ∧ n < ops.size
    · rw [if_pos h] at hI
      exact hI.1
    · rw [if_neg h] at hI
      have hsz : ops.size = n := by
        rcases hsize with h1 | h1
        · exact h1
        · exact absurd ⟨hall n (by omega), by omega⟩ h
      exact fin hsz a w hI.1 hI.2.1 fun i hi => hI.2.2 i hi (hall i (by omega))
end

end Go.Proofs.YtlfldnogjndglaaDoor
namespace Go.Proofs.YtlfldnogjndglaaDoor
open Go.RowKit
set_option linter.unusedVariables false
set_option linter.unusedSimpArgs false

/-- The slot of operation 'i', if it has one. -/
def dstO (ops : Array Oper) (i : Nat) : Option Tmp := (ops[i]?).bind (·.dst)
/-- A region's operations at a glance: no guards, each slot one operation's; box 'b' is made by 'al b' (slot 'p b') ahead of its store 'st b'. -/
def boxB (ops : Array Oper) (nb : Nat) (al st : Nat → Nat) (p : Nat → Tmp) (D : List Tmp) (size : Nat) : Bool :=
  backB .any ops &&
  ((List.range ops.size).all fun i => ((ops[i]?).map fun o => o.guard.isNone).getD false) &&
  ((List.range ops.size).all fun i => (List.range ops.size).all fun j => decide (i = j) || (dstO ops i).isNone || !decide (dstO ops i = dstO ops j)) &&
  ((List.range ops.size).all fun i => ((dstO ops i).map fun d => decide (d ∈ D) && decide (d < size)).getD true) &&
  ((List.range nb).all fun b => decide (dstO ops (al b) = some (p b)) && decide (dstO ops (st b) = none) && decide (st b < ops.size) && decide (al b < ops.size) && ((ops[st b]?).map fun o => o.after.any fun e => Region.binds .any e && decide (e.on = al b)).getD false) &&
  ((List.range nb).all fun b => (List.range nb).all fun c => decide (b = c) || (!decide (al b = al c) && !decide (st b = st c)))
section
variable {P : Program} {ops : Array Oper} {Q : Exit → Act → World → Prop}
theorem dst_is {i : Nat} {o : Oper} (ho : ops[i]? = some o) : dstO ops i = o.dst := by unfold dstO; rw [ho]; rfl
theorem Below.of_grownB {B g : Nat} {w0 w w' : World} (h : w.grownBy w' (some g)) (k : Below B w0 w) (hB : B ≤ g) (hz : B ≤ w.heap.size) : Below B w0 w' :=
  ⟨h.os.trans k.os, h.tape.trans k.tape, h.output.trans k.output, Nat.le_trans k.size h.size, fun i hi => (h.block i (by omega) (by simp; omega)).trans (k.block i hi)⟩
theorem Blk.grownB {j g : Nat} {t : TypeId} {cs : Array Value} {w w' : World} (h : w.grownBy w' (some g)) (k : Blk w j t cs) (hj : j ≠ g) : Blk w' j t cs := (h.block j k.lt (by simpa using hj)).trans k
theorem wp_region_boxes {id : Nat} {a0 : Act} {w0 : World} (nb : Nat) (al st : Nat → Nat) (p : Nat → Tmp) (D : List Tmp) (t : TypeId) (zs : Array Value)
    (hm : P.follows .mixedOrders = true) (hp : boxB ops nb al st p D a0.tmps.size = true)
    (V : Nat → Value → Prop) (C : Nat → Array Value → Prop) (hV : ∀ b v, b < nb → V (al b) v)
    (alc : ∀ (b : Nat) (o : Oper) (a : Act) (w : World), b < nb → ops[al b]? = some o → (execOp a.eval o).run P w = .ok (.value (.pointer (some ⟨w.heap.size, 0, none⟩))) (w.alloc (.cells zs t)))
    (sto : ∀ (b : Nat) (o : Oper) (a : Act) (w : World) (g : Nat) (cs : Array Value), b < nb → ops[st b]? = some o → Slots a0 D a → slot a (p b) = .pointer (some ⟨g, 0, none⟩) → Blk w g t cs → cs.size = zs.size →
      (∀ e ∈ o.after, Region.binds .any e = true → ∀ d, dstO ops e.on = some d → V e.on (slot a d)) →
      o.wp P a w (fun a' w' => a' = a ∧ w.grownBy w' (some g) ∧ ∃ cells : Array Value, Blk w' g t cells ∧ cells.size = zs.size ∧ C b cells) Q)
    (step : ∀ (i : Nat) (o : Oper) (a : Act) (w : World), ops[i]? = some o → (∀ b, b < nb → i ≠ al b ∧ i ≠ st b) → Slots a0 D a → Below w0.heap.size w0 w →
      (∀ e ∈ o.after, Region.binds .any e = true → ∀ d, dstO ops e.on = some d → V e.on (slot a d)) →
      o.wp P a w (fun a' w' => ∃ v, a' = a.put o.dst v ∧ Below w.heap.size w w' ∧ V i v) Q)
    (fin : ∀ (a : Act) (w : World) (gs : Nat → Nat), Slots a0 D a → Below w0.heap.size w0 w →
      (∀ b, b < nb → slot a (p b) = .pointer (some ⟨gs b, 0, none⟩) ∧ w0.heap.size ≤ gs b ∧ ∃ cs : Array Value, Blk w (gs b) t cs ∧ cs.size = zs.size ∧ C b cs) → Q .normal a w) :
    (Code.region id ops true).wp P Q a0 w0 := by
  unfold boxB at hp
  simp only [Bool.and_eq_true] at hp
  obtain ⟨⟨⟨⟨⟨hB, hgd⟩, hinj⟩, hD⟩, hbx⟩, hne⟩ := hp
  have hguard : ∀ (i : Nat) (o : Oper), ops[i]? = some o → o.guard = none := fun i o ho => by
    have hi : i < ops.size := (Array.getElem?_eq_some_iff.1 ho).1
    have h1 := List.all_eq_true.1 hgd i (List.mem_range.2 hi)
    rw [ho] at h1
    exact Option.isNone_iff_eq_none.1 (by simpa using h1)
  have hin : ∀ i d, dstO ops i = some d → i < ops.size := fun i d h => by
    unfold dstO at h
    cases ho : ops[i]? with
    | none => rw [ho] at h; cases h
    | some o => exact (Array.getElem?_eq_some_iff.1 ho).1
  have hdne : ∀ i j d e, dstO ops i = some d → dstO ops j = some e → i ≠ j → d ≠ e := fun i j d e h1 h2 hij he => by
    have h3 := List.all_eq_true.1 (List.all_eq_true.1 hinj i (List.mem_range.2 (hin i d h1))) j (List.mem_range.2 (hin j e h2))
    rw [h1, h2, he] at h3
    simp at h3
    exact hij h3
  have hDm : ∀ i d, dstO ops i = some d → d ∈ D ∧ d < a0.tmps.size := fun i d h => by
    have h1 := List.all_eq_true.1 hD i (List.mem_range.2 (hin i d h))
    rw [h] at h1
    simpa using h1
  have hbox : ∀ b, b < nb → dstO ops (al b) = some (p b) ∧ dstO ops (st b) = none ∧ al b < ops.size ∧ ∃ o, ops[st b]? = some o ∧ ∃ e ∈ o.after, Region.binds .any e = true ∧ e.on = al b := fun b hb => by
    have h1 := List.all_eq_true.1 hbx b (List.mem_range.2 hb)
    simp only [Bool.and_eq_true, decide_eq_true_eq] at h1
    obtain ⟨⟨⟨⟨h2, h3⟩, h4⟩, h5⟩, h6⟩ := h1
    refine ⟨h2, h3, h5, ops[st b], Array.getElem?_eq_getElem h4, ?_⟩
    rw [Array.getElem?_eq_getElem h4] at h6
    simp only [Option.map_some, Option.getD_some, Array.any_eq_true', Bool.and_eq_true, decide_eq_true_eq] at h6
    obtain ⟨e, he, h7, h8⟩ := h6
    exact ⟨e, he, h7, h8⟩
  have hbne : ∀ b c, b < nb → c < nb → b ≠ c → al b ≠ al c ∧ st b ≠ st c := fun b c hb hc hbc => by
    have h1 := List.all_eq_true.1 (List.all_eq_true.1 hne b (List.mem_range.2 hb)) c (List.mem_range.2 hc)
    simp only [Bool.or_eq_true, Bool.and_eq_true, decide_eq_true_eq, Bool.not_eq_true', decide_eq_false_iff_not] at h1
    exact h1.resolve_left hbc
  have has : ∀ b c, b < nb → c < nb → al b ≠ st c := fun b c hb hc e => by
    have h1 := (hbox b hb).1
    rw [e, (hbox c hc).2.1] at h1
    cases h1
  refine wp_region_inv (P := P) hm hB (fun L a w => (∀ b, b < nb → L (st b) = true → L (al b) = true) ∧ Slots a0 D a ∧ Below w0.heap.size w0 w ∧
    (∀ i d, L i = true → dstO ops i = some d → V i (slot a d)) ∧
    ∃ gs : Nat → Nat, (∀ b, b < nb → L (al b) = true → slot a (p b) = .pointer (some ⟨gs b, 0, none⟩) ∧ w0.heap.size ≤ gs b ∧ ∃ cs : Array Value, Blk w (gs b) t cs ∧ cs.size = zs.size ∧ (L (st b) = true → C b cs)) ∧
      ∀ b c, b < nb → c < nb → L (al b) = true → L (al c) = true → b ≠ c → gs b ≠ gs c) ?_ ?_ ?_
  · exact ⟨fun _ _ h => (by cases h), Slots.refl _ _, (Below.refl _ _).drew, fun _ _ h => (by cases h), fun _ => 0, fun _ _ h => (by cases h), fun _ _ _ _ h => (by cases h)⟩
  · intro L a w hI i o ho hL hd
    obtain ⟨hcl, hS, hb, hG, gs, hgs, hgn⟩ := hI
    have hdo := dst_is ho
    have hdep : ∀ e ∈ o.after, Region.binds .any e = true → ∀ d, dstO ops e.on = some d → V e.on (slot a d) := fun e he hbn d hde => hG e.on d (hd e he hbn) hde
    refine wpOp_of ho (hguard i o ho) ?_
    by_cases hal : ∃ b, b < nb ∧ i = al b
    · obtain ⟨b, hbn, rfl⟩ := hal
      have hob := (hbox b hbn).1
      have hst : L (st b) = false := by
        cases q : L (st b)
        · rfl
        · rw [hcl b hbn q] at hL; cases hL
      have hop : o.dst = some (p b) := by rw [← hdo]; exact hob
      refine op_run (alc b o a w hbn ho) ?_
      rw [hop]
      refine ⟨fun c hc h => ?_, hS.put (fun d e => by cases e; exact (hDm _ _ hob).1) _, hb.alloc hb.size _, fun j d hj hjd => ?_, fun c => if c = b then w.heap.size else gs c, fun c hc h => ?_, fun c d hc hdn h1 h2 hcd => ?_⟩
      · have h : (if st c = al b then true else L (st c)) = true := h
        rw [if_neg (fun e => has b c hbn hc e.symm)] at h
        show (if al c = al b then true else L (al c)) = true
        by_cases e : al c = al b
        · rw [if_pos e]
        · rw [if_neg e]; exact hcl c hc h
      · have hj : (if j = al b then true else L j) = true := hj
        by_cases e : j = al b
        · subst e; exact hV b _ hbn
        · rw [if_neg e] at hj
          rw [slot_ne (hdne _ _ _ _ hob hjd (fun e' => e e'.symm))]
          exact hG j d hj hjd
      · have h : (if al c = al b then true else L (al c)) = true := h
        show slot _ (p c) = .pointer (some ⟨if c = b then w.heap.size else gs c, 0, none⟩) ∧ w0.heap.size ≤ (if c = b then w.heap.size else gs c) ∧ _
        by_cases e : c = b
        · subst e
          rw [if_pos rfl]
          refine ⟨slot_put hS (hDm _ _ hob).2 _, hb.size, zs, by show Blk _ (if c = c then w.heap.size else gs c) _ _; rw [if_pos rfl]; exact Blk.new _ _ _, rfl, fun h9 => ?_⟩
          have h9 : (if st c = al c then true else L (st c)) = true := h9
          rw [if_neg (fun e => has c c hc hc e.symm), hst] at h9
          cases h9
        · have hne' := hbne c b hc hbn e
          rw [if_neg hne'.1] at h
          rw [if_neg e, slot_ne (hdne _ _ _ _ hob (hbox c hc).1 (fun e' => hne'.1 e'.symm))]
          obtain ⟨h1, h2, cs, h3, h4, h5⟩ := hgs c hc h
          refine ⟨h1, h2, cs, by show Blk _ (if c = b then w.heap.size else gs c) _ _; rw [if_neg e]; exact h3.alloc _, h4, fun h9 => h5 ?_⟩
          have h9 : (if st c = al b then true else L (st c)) = true := h9
          rwa [if_neg (fun e => has b c hbn hc e.symm)] at h9
      · have h1 : (if al c = al b then true else L (al c)) = true := h1
        have h2 : (if al d = al b then true else L (al d)) = true := h2
        show (if c = b then w.heap.size else gs c) ≠ (if d = b then w.heap.size else gs d)
        by_cases e : c = b
        · have e2 : d ≠ b := fun e2 => hcd (e.trans e2.symm)
          rw [if_pos e, if_neg e2]
          rw [if_neg (hbne d b hdn hbn e2).1] at h2
          obtain ⟨_, _, cs, h3, _⟩ := hgs d hdn h2
          have := h3.lt
          omega
        · rw [if_neg e]
          rw [if_neg (hbne c b hc hbn e).1] at h1
          by_cases e2 : d = b
          · rw [if_pos e2]
            obtain ⟨_, _, cs, h3, _⟩ := hgs c hc h1
            have := h3.lt
            omega
          · rw [if_neg e2]
            rw [if_neg (hbne d b hdn hbn e2).1] at h2
            exact hgn c d hc hdn h1 h2 hcd
    by_cases hsb : ∃ b, b < nb ∧ i = st b
    · obtain ⟨b, hbn, rfl⟩ := hsb
      obtain ⟨hob, hos, _, o', ho', e, he, hbe, hea⟩ := hbox b hbn
      rw [ho] at ho'
      obtain rfl := Option.some.inj ho'
      have hla : L (al b) = true := by rw [← hea]; exact hd e he hbe
      obtain ⟨h1, h2, cs, h3, h4, _⟩ := hgs b hbn hla
      refine Oper.wp_mono ?_ (sto b o a w (gs b) cs hbn ho hS h1 h3 h4 hdep)
      rintro a' w' ⟨rfl, hbut, cells, hcb, hcz, hC⟩
      have key : ∀ j d, dstO ops j = some d → j ≠ st b := fun j d hj e => by rw [e, hos] at hj; cases hj
      refine ⟨fun c hc h => ?_, hS, Below.of_grownB hbut hb h2 hb.size, fun j d hj hjd => ?_, gs, fun c hc h => ?_, fun c d hc hdn k1 k2 hcd => ?_⟩
      · have h : (if st c = st b then true else L (st c)) = true := h
        show (if al c = st b then true else L (al c)) = true
        rw [if_neg (has c b hc hbn)]
        by_cases ec : c = b
        · subst ec; exact hla
        · rw [if_neg (hbne c b hc hbn ec).2] at h
          exact hcl c hc h
      · have hj : (if j = st b then true else L j) = true := hj
        rw [if_neg (key j d hjd)] at hj
        exact hG j d hj hjd
      · have h : (if al c = st b then true else L (al c)) = true := h
        rw [if_neg (has c b hc hbn)] at h
        by_cases ec : c = b
        · subst ec
          exact ⟨h1, h2, cells, hcb, hcz, fun _ => hC⟩
        · obtain ⟨k1, k2, cs2, k3, k4, k5⟩ := hgs c hc h
          refine ⟨k1, k2, cs2, Blk.grownB hbut k3 (hgn c b hc hbn h hla ec), k4, fun h9 => k5 ?_⟩
          have h9 : (if st c = st b then true else L (st c)) = true := h9
          rwa [if_neg (hbne c b hc hbn ec).2] at h9
      · have k1 : (if al c = st b then true else L (al c)) = true := k1
        have k2 : (if al d = st b then true else L (al d)) = true := k2
        rw [if_neg (has c b hc hbn)] at k1
        rw [if_neg (has d b hdn hbn)] at k2
        exact hgn c d hc hdn k1 k2 hcd
    · have hn : ∀ b, b < nb → i ≠ al b ∧ i ≠ st b := fun b hb' => ⟨fun e => hal ⟨b, hb', e⟩, fun e => hsb ⟨b, hb', e⟩⟩
      refine Oper.wp_mono ?_ (step i o a w ho hn hS hb hdep)
      rintro a' w' ⟨v, rfl, hbw, hVi⟩
      have hslot : ∀ j d, j ≠ i → dstO ops j = some d → slot (a.put o.dst v) d = slot a d := fun j d hji hjd => by
        cases q : o.dst with
        | none => rfl
        | some e => exact slot_ne (hdne i j e d (by rw [hdo]; exact q) hjd (fun h => hji h.symm)) v
      refine ⟨fun c hc h => ?_, hS.put (fun d e => (hDm i d (by rw [hdo]; exact e)).1) v, hb.trans (hbw.mono hb.size), fun j d hj hjd => ?_, gs, fun c hc h => ?_, fun c d hc hdn k1 k2 hcd => ?_⟩
      · have h : (if st c = i then true else L (st c)) = true := h
        rw [if_neg (fun e => (hn c hc).2 e.symm)] at h
        show (if al c = i then true else L (al c)) = true
        rw [if_neg (fun e => (hn c hc).1 e.symm)]
        exact hcl c hc h
      · have hj : (if j = i then true else L j) = true := hj
        by_cases e : j = i
        · subst e
          rw [hdo] at hjd
          rw [hjd, slot_put hS (hDm j d (by rw [hdo]; exact hjd)).2]
          exact hVi
        · rw [if_neg e] at hj
          rw [hslot j d e hjd]
          exact hG j d hj hjd
      · have h : (if al c = i then true else L (al c)) = true := h
        rw [if_neg (fun e => (hn c hc).1 e.symm)] at h
        rw [hslot (al c) (p c) (fun e => (hn c hc).1 e.symm) (hbox c hc).1]
        obtain ⟨k1, k2, cs2, k3, k4, k5⟩ := hgs c hc h
        refine ⟨k1, k2, cs2, k3.below hbw k3.lt, k4, fun h9 => k5 ?_⟩
        have h9 : (if st c = i then true else L (st c)) = true := h9
        rwa [if_neg (fun e => (hn c hc).2 e.symm)] at h9
      · have k1 : (if al c = i then true else L (al c)) = true := k1
        have k2 : (if al d = i then true else L (al d)) = true := k2
        rw [if_neg (fun e => (hn c hc).1 e.symm)] at k1
        rw [if_neg (fun e => (hn d hdn).1 e.symm)] at k2
        exact hgn c d hc hdn k1 k2 hcd
  · intro L a w hI hall
    obtain ⟨hcl, hS, hb, hG, gs, hgs, hgn⟩ := hI
    refine fin a w gs hS hb fun b hbn => ?_
    obtain ⟨h1, h2, cs, h3, h4, h5⟩ := hgs b hbn (hall _ (hbox b hbn).2.2.1)
    refine ⟨h1, h2, cs, h3, h4, h5 (hall _ ?_)⟩
    obtain ⟨_, _, _, o, ho, _⟩ := hbox b hbn
    exact (Array.getElem?_eq_some_iff.1 ho).1
end
end Go.Proofs.YtlfldnogjndglaaDoor
