/-
  Rows of spans with their places, put in order in place.
-/
import Derived.Test.YtfcbmajogmojbaaGreatDoorGrSp
import Derived.Test.YtfcbmajogmojbaaGreatDoorGrSh
import Derived.Deep.DeepCutAuto
namespace Go.Proofs.YtfcbmajogmojbaaGreatDoor
open Go.RowKit Go.Lib Go.Shelf Go.Proofs
set_option linter.unusedVariables false
set_option linter.unusedSimpArgs false

def L3 : Lay F3 where
  t := 131
  e := 133
  n := 3
  bytes := 24
  enc x := [.int .i64 x.1, .int .i64 x.2.1, .int .i64 x.2.2]
  len _ := rfl
  one _ u hu := by simp at hu; rcases hu with rfl | rfl | rfl <;> rfl
  pos := by decide
  z := .agg #[.int .i64 0, .int .i64 0, .int .i64 0]
  ht := Tryz.underlying131
  info := by kernel_rfl
  zs := rfl

theorem world_sorted3 {w : World} {g n : Nat} {os : Array Obj} (d : Array F3) {B : Nat} (hB : B ≤ g) (hw : B ≤ w.heap.size) : Below B w (sortWorldK L3.enc 3 w g 0 n d os) := by
  unfold sortWorldK
  refine ⟨rfl, rfl, rfl, by simp [Go.Sort.grow, Go.Sort.putRowK, Go.Sort.putRow, Go.Sort.mapBlock, Go.Sort.ahead], fun k hk => ?_⟩
  have hne : g ≠ k := by omega
  rw [Go.Sort.heap_grow_old _ _ (by simp [Go.Sort.putRowK, Go.Sort.putRow, Go.Sort.mapBlock, Go.Sort.ahead]; omega)]
  simp [Go.Sort.putRowK, Go.Sort.putRow, Go.Sort.mapBlock, Go.Sort.ahead, Array.getElem?_modify, hne]
theorem size_sorted3 {w : World} {g n : Nat} {os : Array Obj} (d : Array F3) : w.heap.size ≤ (sortWorldK L3.enc 3 w g 0 n d os).heap.size := by
  unfold sortWorldK
  simp [Go.Sort.grow, Go.Sort.putRowK, Go.Sort.putRow, Go.Sort.mapBlock, Go.Sort.ahead]
theorem flat_get3 (d : Array F3) (i j : Nat) (hi : i < d.size) (hj : j < 3) : (Go.Sort.flatK L3.enc 3 d)[i * 3 + j]! = (L3.enc d[i]!)[j]! := by
  rw [Go.Sort.get_flatK L3.enc 3 d (i * 3 + j) (by omega), show (i * 3 + j) / 3 = i by omega, show (i * 3 + j) % 3 = j by omega]
/-- A row that the call owns, as the sort reads it. -/
theorem holds_own3 {w : World} {g : Nat} {l : List F3} (hc : ∀ i j u (hi : i < l.length), (L3.enc l[i])[j]? = some u → w.cell? ⟨g, i * 3 + j, none⟩ = some u) (hf : ∀ k, w.frozen? ⟨g, k, none⟩ = false) : Go.Sort.HoldsK L3.enc 3 w g 0 l.toArray := by
  intro t ht
  have ht' : t < l.length * 3 := by simpa using ht
  have hi : t / 3 < l.length := by omega
  have hj : t % 3 < 3 := Nat.mod_lt _ (by decide)
  refine ⟨?_, by rw [Nat.zero_add]; exact hf t⟩
  have h := hc (t / 3) (t % 3) ((L3.enc l[t / 3])[t % 3]!) hi (by
    rw [List.getElem!_eq_getElem?_getD]
    have : t % 3 < (L3.enc l[t / 3]).length := by rw [L3.len]; exact hj
    rw [List.getElem?_eq_getElem this]; rfl)
  rw [show t / 3 * 3 + t % 3 = t by omega] at h
  rw [Nat.zero_add, h]
  have e := flat_get3 l.toArray (t / 3) (t % 3) (by simpa using hi) hj
  rw [show t / 3 * 3 + t % 3 = t by omega] at e
  simp only [id]
  rw [e]
  congr 2
  simp [hi]
/-- Behind the sort the same row reads as the sorted spans. -/
theorem rd_sorted3 {w : World} {g n c : Nat} {os : Array Obj} {l : List F3} {d : Array F3} (hH : Go.Sort.HoldsK L3.enc 3 w g 0 l.toArray) (hg : g < w.heap.size) (hs : d.size = l.length) (hc : l.length ≤ c) (hc2 : c ≤ 9223372036854775807) :
    RdL L3 (sortWorldK L3.enc 3 w g 0 n d os) (sortWorldK L3.enc 3 w g 0 n d os).heap.size (.slice (some ⟨g, 0, none⟩) l.length c) d.toList := by
  have h2 := Go.Sort.holdsK_putRowK L3.enc 3 (Go.Sort.ahead w n) g 0 l.toArray d hH (by simpa using hs)
  have hz := size_sorted3 (w := w) (g := g) (n := n) (os := os) d
  refine ⟨by simp; omega, _, c, by simp [hs], by simp; omega, hc2, fun i hi => ⟨g, 0, rfl, by omega, fun j u hu => ?_⟩⟩
  have hi' : i < d.size := by simpa using hi
  have hj : j < 3 := by
    have := (List.getElem?_eq_some_iff.1 hu).1
    rw [L3.len] at this; exact this
  have h3 := (h2 (i * 3 + j) (by simp; omega)).1
  rw [flat_get3 d i j hi' hj, Nat.zero_add] at h3
  unfold sortWorldK
  rw [Go.Sort.cell?_grow _ _ _ (by simpa [Go.Sort.putRowK, Go.Sort.putRow, Go.Sort.mapBlock, Go.Sort.ahead] using hg)]
  show _ = some u
  have e : (L3.enc d[i]!)[j]! = u := by
    have : d[i]! = d.toList[i] := by simp [hi']
    rw [this, List.getElem!_eq_getElem?_getD, hu]; rfl
  rw [← e, Nat.zero_add]
  exact h3

theorem lt_by (key : F3 → Int) (x y : F3) : ltOf (fun x y : F3 => Lib.compareInt (key x) (key y)) x y = decide (key x < key y) := by
  unfold ltOf Lib.compareInt
  by_cases h1 : key x < key y
  · simp [h1]
  · by_cases h2 : key y < key x <;> simp [h1, h2]
theorem swo_by (key : F3 → Int) : Go.Sort.SWO (ltOf fun x y : F3 => Lib.compareInt (key x) (key y)) where
  irrefl x := by rw [lt_by]; simp
  trans x y z h1 h2 := by rw [lt_by] at *; simp at *; omega
  ntrans x y z h1 h2 := by rw [lt_by] at *; simp at *; omega
theorem srt_sorted {key : F3 → Int} {d : Array F3} (h : Go.Sort.SortedIn (ltOf fun x y : F3 => Lib.compareInt (key x) (key y)) 0 d.size d) : Srt key d.toList := by
  unfold Srt
  rw [List.pairwise_iff_getElem]
  intro i j hi hj hij
  have hj' : j < d.size := by simpa using hj
  have hi' : i < d.size := by simpa using hi
  have := h i j (Nat.zero_le _) hij hj'
  rw [lt_by] at this
  have e1 : d[j]! = d[j] := by simp [hj']
  have e2 : d[i]! = d[i] := by simp [hi']
  rw [e1, e2] at this
  simp at this
  simpa using this
theorem perm_sorted {l : List F3} {d : Array F3} (hp : Go.Sort.PermIn 0 l.length l.toArray d) : d.size = l.length ∧ d.toList.Perm l := by
  have hz : d.size = l.length := by simpa using hp.1
  refine ⟨hz, ?_⟩
  have := hp.2.2
  have e : d.toList.take l.length = d.toList := List.take_of_length_le (by simp [hz])
  simpa [e] using this
/-- A row that was put in order in place. -/
def SortOk (key : F3 → Int) (B g : Nat) (c : Nat) (l : List F3) (w : World) (e : Ending) (w' : World) : Prop :=
  e = .returned (.tuple #[]) ∧ ∃ l', l'.Perm l ∧ Srt key l' ∧ RdL L3 w' w'.heap.size (.slice (some ⟨g, 0, none⟩) l.length c) l' ∧ Below B w w' ∧ w.heap.size ≤ w'.heap.size

set_option maxRecDepth 100000 in
set_option maxHeartbeats 1000000 in
theorem cmp_f1 (x y : F3) (W : World) : Calls Tryz.prog 79 #[.agg #[.int .i64 x.1, .int .i64 x.2.1, .int .i64 x.2.2], .agg #[.int .i64 y.1, .int .i64 y.2.1, .int .i64 y.2.2]] W fun e w' => e = .returned (.int .i64 (Lib.compareInt x.1 y.1)) ∧ ∃ q os', w' = Go.Sort.grow (W.drewN q) os' := by
  have hcon := fun W' => AnyG.cmp_Compare_int cmpInt x.1 y.1 W'
  change ∀ W', Calls Tryz.prog 37 _ _ _ at hcon
  generalize Lib.compareInt x.1 y.1 = r at hcon ⊢
  go_enter Tryz.func79, Tryz.ntmps79
  go_wp2_with (go_at_call 37; refine (hcon _).mono ?_; rintro e w' ⟨rfl, rfl⟩)
  go_ret
  exact ⟨rfl, 0, _, by rw [Go.Sort.alloc_eq_grow, Go.Sort.alloc_eq_grow, Go.Sort.grow_grow]; rfl⟩

set_option maxRecDepth 100000 in
set_option maxHeartbeats 1000000 in
theorem cmp_f2 (x y : F3) (W : World) : Calls Tryz.prog 81 #[.agg #[.int .i64 x.1, .int .i64 x.2.1, .int .i64 x.2.2], .agg #[.int .i64 y.1, .int .i64 y.2.1, .int .i64 y.2.2]] W fun e w' => e = .returned (.int .i64 (Lib.compareInt x.2.2 y.2.2)) ∧ ∃ q os', w' = Go.Sort.grow (W.drewN q) os' := by
  have hcon := fun W' => AnyG.cmp_Compare_int cmpI x.2.2 y.2.2 W'
  change ∀ W', Calls Tryz.prog 82 _ _ _ at hcon
  generalize Lib.compareInt x.2.2 y.2.2 = r at hcon ⊢
  go_enter Tryz.func81, Tryz.ntmps81
  go_wp2_with (go_at_call 82; refine (hcon _).mono ?_; rintro e w' ⟨rfl, rfl⟩)
  go_ret
  exact ⟨rfl, 0, _, by rw [Go.Sort.alloc_eq_grow, Go.Sort.alloc_eq_grow, Go.Sort.grow_grow]; rfl⟩

set_option maxRecDepth 100000 in
set_option maxHeartbeats 1000000 in
theorem ins_1 (B g c : Nat) (l : List F3) (w : World) (hH : Go.Sort.HoldsK L3.enc 3 w g 0 l.toArray) (hg : g < w.heap.size) (hBg : B ≤ g) (hc : l.length ≤ c) (hc2 : c ≤ 9223372036854775807) (hlt : l.length < 4611686018427387904) : Calls Tryz.prog 133 #[.slice (some ⟨g, 0, none⟩) l.length c, .int .i64 0, .int .i64 (l.length : Int), .func (.func 79) #[] #[]] w (SortOk (fun f : F3 => f.1) B g c l w) := by
  have hsz : l.toArray.size = l.length := by simp
  have hl := hc
  have hcon := AnyQ.insertionSortCmpFunc insF 3 Tryz.isAgg133 Tryz.sizeOf133 L3.enc (fun _ => rfl) (fun x v hv => by simp [L3] at hv; rcases hv with rfl | rfl | rfl <;> rfl) (fun x y => Lib.compareInt ((fun f : F3 => f.1) x) ((fun f : F3 => f.1) y)) 79 #[] g 0 c 0 l.length l.toArray w (enters_of Tryz.func79 (by kernel_rfl) rfl) (fun _ _ _ _ x y => cmp_f1 x y _) hH hg (Nat.zero_le _) (by rw [hsz]; exact Nat.le_refl _) (by rw [hsz]; exact hlt)
  change Calls Tryz.prog 133 _ _ _ at hcon
  rw [hsz] at hcon
  refine hcon.mono ?_
  rintro e w5 ⟨rfl, n5, os5, rfl⟩
  obtain ⟨hp, hs⟩ := Go.Sort.insertionSort_holds (swo_by (fun f : F3 => f.1)) l.toArray 0 l.length (Nat.zero_le _) (by rw [hsz]; exact Nat.le_refl _)
  obtain ⟨hz5, hperm⟩ := perm_sorted hp
  refine ⟨rfl, _, hperm, srt_sorted (by rw [hz5]; exact hs), rd_sorted3 hH hg hz5 hc hc2, world_sorted3 _ hBg (by omega), size_sorted3 _⟩

set_option maxRecDepth 100000 in
set_option maxHeartbeats 1000000 in
theorem ins_2 (B g c : Nat) (l : List F3) (w : World) (hH : Go.Sort.HoldsK L3.enc 3 w g 0 l.toArray) (hg : g < w.heap.size) (hBg : B ≤ g) (hc : l.length ≤ c) (hc2 : c ≤ 9223372036854775807) (hlt : l.length < 4611686018427387904) : Calls Tryz.prog 133 #[.slice (some ⟨g, 0, none⟩) l.length c, .int .i64 0, .int .i64 (l.length : Int), .func (.func 81) #[] #[]] w (SortOk (fun f : F3 => f.2.2) B g c l w) := by
  have hsz : l.toArray.size = l.length := by simp
  have hl := hc
  have hcon := AnyQ.insertionSortCmpFunc insF 3 Tryz.isAgg133 Tryz.sizeOf133 L3.enc (fun _ => rfl) (fun x v hv => by simp [L3] at hv; rcases hv with rfl | rfl | rfl <;> rfl) (fun x y => Lib.compareInt ((fun f : F3 => f.2.2) x) ((fun f : F3 => f.2.2) y)) 81 #[] g 0 c 0 l.length l.toArray w (enters_of Tryz.func81 (by kernel_rfl) rfl) (fun _ _ _ _ x y => cmp_f2 x y _) hH hg (Nat.zero_le _) (by rw [hsz]; exact Nat.le_refl _) (by rw [hsz]; exact hlt)
  change Calls Tryz.prog 133 _ _ _ at hcon
  rw [hsz] at hcon
  refine hcon.mono ?_
  rintro e w5 ⟨rfl, n5, os5, rfl⟩
  obtain ⟨hp, hs⟩ := Go.Sort.insertionSort_holds (swo_by (fun f : F3 => f.2.2)) l.toArray 0 l.length (Nat.zero_le _) (by rw [hsz]; exact Nat.le_refl _)
  obtain ⟨hz5, hperm⟩ := perm_sorted hp
  refine ⟨rfl, _, hperm, srt_sorted (by rw [hz5]; exact hs), rd_sorted3 hH hg hz5 hc hc2, world_sorted3 _ hBg (by omega), size_sorted3 _⟩

set_option maxRecDepth 100000 in
set_option maxHeartbeats 2000000 in
theorem stable_any (B g c : Nat) (l : List F3) (w : World) (hH : Go.Sort.HoldsK L3.enc 3 w g 0 l.toArray) (hg : g < w.heap.size) (hBg : B ≤ g) (hc : l.length ≤ c) (hc2 : c ≤ 9223372036854775807) (h10 : l.length ≤ 12) : Calls Tryz.prog 78 #[.slice (some ⟨g, 0, none⟩) l.length c, .func (.func 79) #[] #[]] w (SortOk (fun f : F3 => f.1) B g c l w) := by
  have hcon : Calls Tryz.prog 112 #[.slice (some ⟨g, 0, none⟩) l.length c, .int .i64 (l.length : Int), .func (.func 79) #[] #[]] w (SortOk (fun f : F3 => f.1) B g c l w) := by
    have HI := hide (ins_1 B g c l w hH hg hBg hc hc2 (by omega))
    clear hH
    go_enter Tryz.func112, Tryz.ntmps112
    go_wp2_with fail
    go_loopw [7, 8] (fun c7 c8 wr => c7 = .int .i64 0 ∧ c8 = .int .i64 20 ∧ w = wr) (fun _ _ _ => 0)
    case atStart => exact ⟨rfl, rfl, rfl⟩
    case round =>
      obtain ⟨rfl, rfl, rfl⟩ := hrel
      have hl20 : (l.length : Int) < 20 := by omega
      go_wp2_with fail
      refine HI.out.mono ?_
      rintro e w5 ⟨rfl, hR⟩
      have HR := hide hR
      clear hR HI
      go_wp2_with fail
      go_loopw [6, 7, 8] (fun c6 _ _ wr => c6 = .int .i64 20 ∧ w5 = wr) (fun _ _ _ _ => 0)
      case atStart => exact ⟨rfl, rfl⟩
      case round =>
        obtain ⟨rfl, rfl⟩ := hrel
        go_wp2_with fail
        go_end0
        exact ⟨rfl, HR.out⟩
  have HC := hide hcon
  clear hcon hH
  go_enter Tryz.func78, Tryz.ntmps78
  go_wp2_with fail
  refine HC.out.mono ?_
  rintro e w5 ⟨rfl, hR⟩
  have HR := hide hR
  clear hR HC
  go_wp2_with fail
  go_end0
  exact ⟨rfl, HR.out⟩

set_option maxRecDepth 100000 in
set_option maxHeartbeats 2000000 in
theorem sortf_any (B g c : Nat) (l : List F3) (w : World) (hH : Go.Sort.HoldsK L3.enc 3 w g 0 l.toArray) (hg : g < w.heap.size) (hBg : B ≤ g) (hc : l.length ≤ c) (hc2 : c ≤ 9223372036854775807) (h10 : l.length ≤ 12) : Calls Tryz.prog 80 #[.slice (some ⟨g, 0, none⟩) l.length c, .func (.func 81) #[] #[]] w (SortOk (fun f : F3 => f.2.2) B g c l w) := by
  have hcon : ∀ lim, Calls Tryz.prog 113 #[.slice (some ⟨g, 0, none⟩) l.length c, .int .i64 0, .int .i64 (l.length : Int), .int .i64 lim, .func (.func 81) #[] #[]] w (SortOk (fun f : F3 => f.2.2) B g c l w) := by
    intro lim
    have HI := hide (ins_2 B g c l w hH hg hBg hc hc2 (by omega))
    clear hH
    go_enter Tryz.func113, Tryz.ntmps113
    go_wp2_with fail
    go_loopw [1, 2, 3, 10, 11] (fun c1 c2 _ _ _ wr => c1 = .int .i64 0 ∧ c2 = .int .i64 (l.length : Int) ∧ w = wr) (fun _ _ _ _ _ _ => 0)
    case atStart => exact ⟨rfl, rfl, rfl⟩
    case round =>
      obtain ⟨rfl, rfl, rfl⟩ := hrel
      have hl20 : (l.length : Int) ≤ 12 := by omega
      go_wp2_with fail
      refine HI.out.mono ?_
      rintro e w5 ⟨rfl, hR⟩
      have HR := hide hR
      clear hR HI
      go_wp2_with fail
      go_end0
      exact ⟨rfl, HR.out⟩
  have HC := hide hcon
  have hlen := fun W => Any.bits_Len lays125 (l.length : Int) W (by omega) (by omega)
  change ∀ W, Calls Tryz.prog 65 _ _ _ at hlen
  obtain ⟨bl, hbl⟩ : ∃ b : Nat, b = Lib.bitLen (l.length : Int).toNat := ⟨_, rfl⟩
  rw [← hbl] at hlen
  clear hcon hH hbl
  go_enter Tryz.func80, Tryz.ntmps80
  go_wp2_with (go_at_call 65; refine (hlen _).mono ?_; rintro e w' ⟨rfl, rfl⟩)
  refine (HC.out _).mono ?_
  rintro e w5 ⟨rfl, hR⟩
  have HR := hide hR
  clear hR HC
  go_wp2_with fail
  go_end0
  exact ⟨rfl, HR.out⟩

def VoidOk (w : World) (e : Ending) (w' : World) : Prop := e = .returned (.tuple #[]) ∧ w = w'
set_option maxRecDepth 100000 in
set_option maxHeartbeats 2000000 in
theorem sortf_none (A : Option Addr) (c : Nat) (w : World) : Calls Tryz.prog 80 #[.slice A 0 c, .func (.func 81) #[] #[]] w (VoidOk w) := by
  have hi : Calls Tryz.prog 133 #[.slice A 0 c, .int .i64 0, .int .i64 0, .func (.func 81) #[] #[]] w (VoidOk w) := by
    go_enter Tryz.func133, Tryz.ntmps133
    go_wp2_with fail
    go_loopw [8] (fun c8 wr => c8 = .int .i64 1 ∧ w = wr) (fun _ _ => 0)
    case atStart => exact ⟨rfl, rfl⟩
    case round =>
      obtain ⟨rfl, rfl⟩ := hrel
      go_wp2_with fail
      go_end0
      exact ⟨rfl, rfl⟩
  have hcon : ∀ lim, Calls Tryz.prog 113 #[.slice A 0 c, .int .i64 0, .int .i64 0, .int .i64 lim, .func (.func 81) #[] #[]] w (VoidOk w) := by
    intro lim
    go_enter Tryz.func113, Tryz.ntmps113
    go_wp2_with fail
    go_loopw [1, 2, 3, 10, 11] (fun c1 c2 _ _ _ wr => c1 = .int .i64 0 ∧ c2 = .int .i64 0 ∧ w = wr) (fun _ _ _ _ _ _ => 0)
    case atStart => exact ⟨rfl, rfl, rfl⟩
    case round =>
      obtain ⟨rfl, rfl, rfl⟩ := hrel
      go_wp2_with fail
      refine hi.mono ?_
      rintro e w5 ⟨rfl, rfl⟩
      go_wp2_with fail
      go_end0
      exact ⟨rfl, rfl⟩
  have hlen := fun W => Any.bits_Len lays125 0 W (by omega) (by omega)
  change ∀ W, Calls Tryz.prog 65 _ _ _ at hlen
  obtain ⟨bl, hbl⟩ : ∃ b : Nat, b = Lib.bitLen (0 : Int).toNat := ⟨_, rfl⟩
  rw [← hbl] at hlen
  clear hbl
  go_enter Tryz.func80, Tryz.ntmps80
  go_wp2_with (go_at_call 65; refine (hlen _).mono ?_; rintro e w' ⟨rfl, rfl⟩)
  refine (hcon _).mono ?_
  rintro e w5 ⟨rfl, rfl⟩
  go_wp2_with fail
  go_end0
  exact ⟨rfl, rfl⟩

end Go.Proofs.YtfcbmajogmojbaaGreatDoor
