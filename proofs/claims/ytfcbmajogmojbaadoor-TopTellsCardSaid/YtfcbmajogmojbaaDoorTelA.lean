/-
  What stands while puts are told, one by one.
-/
import Derived.Test.YtfcbmajogmojbaaDoorMapG
namespace Go.Proofs.YtfcbmajogmojbaaDoor
open Go.RowKit Go.Shelf
set_option linter.unusedVariables false
set_option linter.unusedSimpArgs false

abbrev Pt := Sp × (Int × Bool)
def LPt : Lay Pt where
  t := 22
  e := 33
  n := 4
  bytes := 24
  enc x := [.int .i64 x.1.1, .int .i64 x.1.2, .int .u8 x.2.1, .bool x.2.2]
  len _ := rfl
  one _ u hu := by simp at hu; rcases hu with rfl | rfl | rfl | rfl <;> rfl
  pos := by decide
  z := .agg #[.int .i64 0, .int .i64 0, .int .u8 0, .bool false]
  ht := Tryd.underlying22
  info := by kernel_rfl
  zs := rfl
/-- The cells of a put that is read at a place. -/
theorem RdL.put_ {w : World} {B n c : Nat} {A : Option Addr} {l : List Pt} (h : RdL LPt w B (.slice A n c) l) (i : Nat) (hi : i < l.length) : ∃ b off, A = some ⟨b, off, none⟩ ∧ b < B ∧ w.cell? ⟨b, off + i * 4, none⟩ = some (.int .i64 l[i].1.1) ∧ w.cell? ⟨b, off + i * 4 + 1, none⟩ = some (.int .i64 l[i].1.2) ∧ w.cell? ⟨b, off + i * 4 + 2, none⟩ = some (.int .u8 l[i].2.1) ∧ w.cell? ⟨b, off + i * 4 + 3, none⟩ = some (.bool l[i].2.2) := by
  obtain ⟨b, off, e, hlt, hc⟩ := h.at_ i hi
  exact ⟨b, off, e, hlt, hc 0 _ rfl, hc 1 _ rfl, hc 2 _ rfl, hc 3 _ rfl⟩

/-- What holds numbers alone lies in no block that holds none. -/
def IntsL {α : Type} (L : Lay α) : Prop := ∀ x, ∀ u ∈ L.enc x, ∃ k z, u = .int k z
theorem ints_sp : IntsL LSp := fun x u hu => by simp [LSp] at hu; rcases hu with rfl | rfl <;> exact ⟨_, _, rfl⟩
theorem ints_rn : IntsL LRn := fun x u hu => by simp [LRn] at hu; rcases hu with rfl | rfl | rfl <;> exact ⟨_, _, rfl⟩
def NoInt (cs : Array Value) : Prop := ∀ (i : Nat) (u : Value), cs[i]? = some u → ∀ k z, u ≠ .int k z
theorem rd_else {α : Type} {L : Lay α} (hL : IntsL L) {w w' : World} {B B' g : Nat} {t : TypeId} {cs : Array Value} {v : Value} {l : List α} (h : RdL L w B v l) (hg : Blk w g t cs) (hc : NoInt cs) (hB : B ≤ B')
    (hw : ∀ b o, b < B → b ≠ g → w'.cell? ⟨b, o, none⟩ = w.cell? ⟨b, o, none⟩) : RdL L w' B' v l := by
  refine RdL.keep h hB fun b o u hb ⟨i, j, hi, hu⟩ h1 => ?_
  have hne : b ≠ g := by
    rintro rfl
    rw [hg.cell] at h1
    obtain ⟨k, z, rfl⟩ := hL _ u (List.mem_of_getElem? hu)
    exact hc o _ h1 k z rfl
  rw [hw b o hb hne]
  exact h1
/-- What stands ahead of each put, and behind it. -/
structure Tel (gm gf : Nat) (rs : List Rn) (q : Nat → List Sp) (w : World) : Prop where
  map : ∃ V, Blk w gm 58 #[V] ∧ RdL LRn w w.heap.size V rs
  arr : ∃ cs, Blk w gf 29 cs ∧ cs.size = 4 ∧ ∀ i (h : i < cs.size), RdL LSp w w.heap.size cs[i] (q i)
  ne : gm ≠ gf
theorem noint_one {α : Type} {L : Lay α} {w : World} {B : Nat} {V : Value} {l : List α} (h : RdL L w B V l) : NoInt #[V] := by
  obtain ⟨A, c, rfl, _⟩ := h.form
  intro i u hu k z e
  rcases i with _ | i
  · simp at hu; subst hu; cases e
  · simp at hu
theorem noint_all {α : Type} {L : Lay α} {w : World} {B : Nat} {cs : Array Value} {q : Nat → List α} (h : ∀ i (h : i < cs.size), RdL L w B cs[i] (q i)) : NoInt cs := by
  intro i u hu k z e
  obtain ⟨hi, rfl⟩ := Array.getElem?_eq_some_iff.1 hu
  obtain ⟨A, c, hv, _⟩ := (h i hi).form
  rw [hv] at e
  cases e
section
variable {gm gf : Nat} {rs rs' : List Rn} {q q' : Nat → List Sp} {w w' : World}
theorem Tel.lt (h : Tel gm gf rs q w) : gm < w.heap.size ∧ gf < w.heap.size := by
  obtain ⟨⟨V, h1, _⟩, ⟨cs, h2, _⟩, _⟩ := h
  exact ⟨h1.lt, h2.lt⟩
theorem Tel.below (h : Tel gm gf rs q w) (hb : Below w.heap.size w w') : Tel gm gf rs q w' := by
  obtain ⟨⟨V, h1, h2⟩, ⟨cs, h3, h4, h5⟩, hne⟩ := h
  exact ⟨⟨V, h1.below hb h1.lt, (h2.below hb).mono hb.size⟩, ⟨cs, h3.below hb h3.lt, h4, fun i hi => ((h5 i hi).below hb).mono hb.size⟩, hne⟩
theorem Tel.alloc (h : Tel gm gf rs q w) (o : Obj) : Tel gm gf rs q (w.alloc o) := h.below ((Below.refl _ _).alloc (Nat.le_refl _) _)
theorem Tel.same (h : Tel gm gf rs q w) (e : ∀ i, i < 4 → q i = q' i) : Tel gm gf rs q' w := by
  obtain ⟨h1, ⟨cs, h3, h4, h5⟩, hne⟩ := h
  exact ⟨h1, ⟨cs, h3, h4, fun i hi => by rw [← e i (by omega)]; exact h5 i hi⟩, hne⟩
/-- The map is told something. -/
theorem Tel.told {e : Ending} (h : Tel gm gf rs q w) (hm : MapOk gm rs' w e w') : Tel gm gf rs' q w' := by
  obtain ⟨⟨V, h1, h2⟩, ⟨cs, h3, h4, h5⟩, hne⟩ := h
  obtain ⟨V', n, _, g1, g2, g3⟩ := hm
  refine ⟨⟨V', g1, g2⟩, ⟨cs, ?_, h4, fun i hi => rd_else ints_sp (h5 i hi) h1 (noint_one h2) g3.size fun b o hb hbg => ?_⟩, hne⟩
  · exact (g3.block gf h3.lt (by intro e; cases e; exact hne rfl)).trans h3
  · simp only [World.cell?, g3.block b hb (by intro e; cases e; exact hbg rfl)]
theorem told_blk {e : Ending} {g : Nat} {t : TypeId} {cs : Array Value} (hm : MapOk gm rs' w e w') (h : Blk w g t cs) (hne : g ≠ gm) : Blk w' g t cs := by
  obtain ⟨V', n, _, g1, g2, g3⟩ := hm
  exact (g3.block g h.lt (by intro e; cases e; exact hne rfl)).trans h
theorem told_rd {e : Ending} {v : Value} {l : List Sp} (h : Tel gm gf rs q w) (hm : MapOk gm rs' w e w') (hr : RdL LSp w w.heap.size v l) : RdL LSp w' w'.heap.size v l := by
  obtain ⟨⟨V, h1, h2⟩, _, _⟩ := h
  obtain ⟨V', n, _, g1, g2, g3⟩ := hm
  refine rd_else ints_sp hr h1 (noint_one h2) g3.size fun b o hb hbg => ?_
  simp only [World.cell?, g3.block b hb (by intro e; cases e; exact hbg rfl)]
theorem told_bel {e : Ending} {w0 : World} (hm : MapOk gm rs' w e w') (hb : Below w0.heap.size w0 w) (hg : w0.heap.size ≤ gm) : Below w0.heap.size w0 w' := by
  obtain ⟨V', n, _, g1, g2, g3⟩ := hm
  exact hb.grown g3 hb.size (fun k hk => by cases hk; exact hg)
/-- One of the sets is read. -/
theorem Tel.at_ (h : Tel gm gf rs q w) {k : Nat} (hk : k < 4) : ∃ (A : Option Addr) (c : Nat), w.cell? ⟨gf, k, none⟩ = some (.slice A (q k).length c) ∧ w.frozen? ⟨gf, k, none⟩ = false ∧ RdL LSp w w.heap.size (.slice A (q k).length c) (q k) := by
  obtain ⟨_, ⟨cs, h3, h4, h5⟩, _⟩ := h
  have hr := h5 k (by omega)
  obtain ⟨A, c, hv, _⟩ := hr.form
  refine ⟨A, c, ?_, h3.frozen k, hv ▸ hr⟩
  rw [h3.cell, Array.getElem?_eq_getElem (by omega), hv]
theorem Tel.got (h : Tel gm gf rs q w) {k : Nat} (hk : k < 4) {l : List Sp} (e : q k = l) : ∃ (A : Option Addr) (c : Nat), w.cell? ⟨gf, k, none⟩ = some (.slice A l.length c) ∧ w.frozen? ⟨gf, k, none⟩ = false ∧ RdL LSp w w.heap.size (.slice A l.length c) l := by
  subst e; exact h.at_ hk
/-- One of the sets is turned. -/
theorem Tel.set_ (h : Tel gm gf rs q w) {k : Nat} (hk : k < 4) {v : Value} {l : List Sp} (hv : RdL LSp w w.heap.size v l) : Tel gm gf rs (fun i => if i = k then l else q i) (w.setCell ⟨gf, k, none⟩ v) := by
  obtain ⟨⟨V, h1, h2⟩, ⟨cs, h3, h4, h5⟩, hne⟩ := h
  have hcell : ∀ b o, b ≠ gf → (w.setCell ⟨gf, k, none⟩ v).cell? ⟨b, o, none⟩ = w.cell? ⟨b, o, none⟩ := fun b o hb => World.cell?_setCell_other w _ _ _ (fun e => hb (by cases e; rfl))
  have hz : w.heap.size ≤ (w.setCell ⟨gf, k, none⟩ v).heap.size := (KeepsWalks.setCell w _ _).size
  have hn := noint_all h5
  refine ⟨⟨V, h1.far hne _, rd_else ints_rn h2 h3 hn hz fun b o _ hb => hcell b o hb⟩, ⟨_, h3.set_ k v, by simp [h4], fun i hi => ?_⟩, hne⟩
  have hi4 : i < cs.size := by simpa using hi
  rw [Array.getElem_setIfInBounds]
  by_cases e : k = i
  · subst e
    rw [if_pos rfl, if_pos rfl]
    exact rd_else ints_sp hv h3 hn hz fun b o _ hb => hcell b o hb
  · rw [if_neg e, if_neg (fun h => e h.symm)]
    exact rd_else ints_sp (h5 i hi4) h3 hn hz fun b o _ hb => hcell b o hb
  exact hi4
theorem set_rd (h : Tel gm gf rs q w) (k : Nat) (u : Value) {v : Value} {l : List Sp} (hv : RdL LSp w w.heap.size v l) : RdL LSp (w.setCell ⟨gf, k, none⟩ u) (w.setCell ⟨gf, k, none⟩ u).heap.size v l := by
  obtain ⟨_, ⟨cs, h3, h4, h5⟩, hne⟩ := h
  exact rd_else ints_sp hv h3 (noint_all h5) (KeepsWalks.setCell w _ _).size fun b o _ hb => World.cell?_setCell_other w _ _ _ (fun e => hb (by cases e; rfl))
end
/-- The runs that are told, ahead of a round. -/
structure Runs (k : Nat) (rs : List Rn) : Prop where
  nf : RNf rs
  val : ∀ q ∈ rs, 0 ≤ q.2 ∧ q.2 < 4
  len : rs.length ≤ 2 * k
theorem Runs.nil : Runs 0 [] := ⟨trivial, fun q h => (by cases h), Nat.le_refl _⟩
theorem Runs.step {k : Nat} {rs : List Rn} (h : Runs k rs) (s : Sp) {v : Int} (hv : 0 ≤ v ∧ v < 4) (d : Bool) : Runs (k + 1) (stepR s v d rs) :=
  ⟨step_nf h.nf, step_val h.nf hv h.val, by have := step_len (s := s) (v := v) (d := d) h.nf; have := h.len; omega⟩
theorem Runs.ok {k : Nat} {rs : List Rn} (h : Runs k rs) : ∀ r ∈ rs, okS r.1 := fun r hr => rnf_ok h.nf r hr
theorem step_drop (s : Sp) (v : Int) (l : List Rn) : stepR s v true l = if properB s.1 s.2 = true then dropR s l else l := rfl
theorem step_put (s : Sp) (v : Int) (l : List Rn) : stepR s v false l = if properB s.1 s.2 = true then putR s v l else l := rfl
/-- What the sets are behind a put. -/
theorem put_q {s : Sp} {n : Nat} {l : List Rn} {sL : List Sp} (h : RNf l) (hs : sL = ofL [s]) (i : Nat) : (if i = n then orL (lessL (ofR (n : Int) l) sL) sL else lessL (ofR (i : Int) l) sL) = ofR (i : Int) (stepR s (n : Int) false l) := by
  rw [step_of h, hs]
  by_cases e : i = n
  · subst e
    rw [if_pos rfl, if_pos ⟨rfl, rfl⟩]
  · rw [if_neg e, if_neg (fun h => e (by omega))]
/-- All four sets at once. -/
theorem Tel.four {gm gf : Nat} {rs : List Rn} {w : World} (h : Tel gm gf rs (fun i => ofR (i : Int) rs) w) : ∃ (A0 A1 A2 A3 : Option Addr) (c0 c1 c2 c3 : Nat),
    Blk w gf 29 #[.slice A0 (ofR 0 rs).length c0, .slice A1 (ofR 1 rs).length c1, .slice A2 (ofR 2 rs).length c2, .slice A3 (ofR 3 rs).length c3] ∧
    (RdL LSp w w.heap.size (.slice A0 (ofR 0 rs).length c0) (ofR 0 rs) ∧ RdL LSp w w.heap.size (.slice A1 (ofR 1 rs).length c1) (ofR 1 rs) ∧ RdL LSp w w.heap.size (.slice A2 (ofR 2 rs).length c2) (ofR 2 rs) ∧ RdL LSp w w.heap.size (.slice A3 (ofR 3 rs).length c3) (ofR 3 rs)) := by
  obtain ⟨_, ⟨cs, h3, h4, h5⟩, _⟩ := h
  obtain ⟨cs⟩ := cs
  match cs, h4 with
  | [u0, u1, u2, u3], _ =>
    have r0 : RdL LSp w w.heap.size u0 (ofR 0 rs) := h5 0 (by simp)
    have r1 : RdL LSp w w.heap.size u1 (ofR 1 rs) := h5 1 (by simp)
    have r2 : RdL LSp w w.heap.size u2 (ofR 2 rs) := h5 2 (by simp)
    have r3 : RdL LSp w w.heap.size u3 (ofR 3 rs) := h5 3 (by simp)
    obtain ⟨A0, c0, rfl, _⟩ := r0.form
    obtain ⟨A1, c1, rfl, _⟩ := r1.form
    obtain ⟨A2, c2, rfl, _⟩ := r2.form
    obtain ⟨A3, c3, rfl, _⟩ := r3.form
    exact ⟨A0, A1, A2, A3, c0, c1, c2, c3, h3, r0, r1, r2, r3⟩
theorem mof_is {k : Nat} {rs : List Rn} (h : Runs k rs) (hk : k ≤ 30) (gm : Nat) (A : Option Addr) (c : Nat) (v : Int) (w : World) (hG : Blk w gm 58 #[.slice A rs.length c]) (hr : RdL LRn w w.heap.size (.slice A rs.length c) rs) : Calls Tryd.prog 12 #[.pointer (some ⟨gm, 0, none⟩), .int .u8 v] w (SetOk (ofR v rs) w) := by
  have := mof_any gm A c rs v w hG hr h.ok (by have := h.len; omega)
  rwa [ofL_self (of_nf h.nf)] at this
theorem known_is {k : Nat} {rs : List Rn} (h : Runs k rs) (hk : k ≤ 30) (gm : Nat) (A : Option Addr) (c : Nat) (w : World) (hG : Blk w gm 58 #[.slice A rs.length c]) (hr : RdL LRn w w.heap.size (.slice A rs.length c) rs) : Calls Tryd.prog 15 #[.pointer (some ⟨gm, 0, none⟩)] w (SetOk (allR rs 4) w) := by
  have := known_any gm A c rs w hG hr h.ok (by have := h.len; omega)
  rwa [known_eq h.nf h.val] at this
theorem same_is (v u : Value) (s : List Sp) (w : World) (hs : RdL LSp w w.heap.size v s) (ht : RdL LSp w w.heap.size u s) : Calls Tryd.prog 13 #[.agg #[v], .agg #[u]] w (BoolOk true w) := by
  have := same_any v u s s w hs ht
  rwa [decide_eq_true (show s = s from rfl)] at this
theorem cntR_le {l : List Rn} : ∀ k, cntR l k ≤ k * l.length
  | 0 => Nat.zero_le _
  | k + 1 => by
    have h1 := cntR_le (l := l) k
    have h2 := ofR_len (k : Int) l
    show cntR l k + (ofR k l).length ≤ _
    rw [Nat.succ_mul]
    omega
theorem rnf_nil : RNf [] := trivial

end Go.Proofs.YtfcbmajogmojbaaDoor
