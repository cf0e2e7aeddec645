/-
  strings.Builder: what is written into one that the call itself has made.
-/
import Derived.Test.YtfcbmajogmojbaaGreatDoorGrU
import Derived.Test.YtfcbmajogmojbaaGreatDoorGrSh
import Derived.Shelf.Strings.Builder1
namespace Go.Proofs.YtfcbmajogmojbaaGreatDoor
open Go.RowKit Go.Lib
set_option linter.unusedVariables false

/-- Block b is a builder that holds bs; its bytes lie from block B on. -/
def Bld (B b : Nat) (w : World) (bs : List UInt8) : Prop :=
  B ≤ b ∧ ∃ p v, (p = .pointer none ∨ p = .pointer (some ⟨b, 0, none⟩)) ∧ Blk w b 90 #[p, v] ∧ OwnB B w v bs ∧ v.ownBlock ≠ some b
/-- Blocks of other kinds are as they were. -/
def KeptB (b : Nat) (w w' : World) : Prop := ∀ g t cs, Blk w g t cs → g ≠ b → t ≠ 5 → Blk w' g t cs

theorem Bld.new (w : World) (B : Nat) (hB : B ≤ w.heap.size) : Bld B w.heap.size (w.alloc (.cells #[.pointer none, .slice none 0 0] 90)) [] :=
  ⟨hB, _, _, .inl rfl, Blk.new _ _ _, OwnB.nil _ _, by simp [Value.ownBlock]⟩
theorem Bld.below {B b C : Nat} {w w' : World} {bs : List UInt8} (h : Bld B b w bs) (hb : Below C w w') (hC : w.heap.size ≤ C) : Bld B b w' bs := by
  obtain ⟨h0, p, v, hp, hk, ho, hn⟩ := h
  exact ⟨h0, p, v, hp, hk.below hb (Nat.lt_of_lt_of_le hk.lt hC), ho.below hb hC, hn⟩
theorem Bld.alloc {B b : Nat} {w : World} {bs : List UInt8} (h : Bld B b w bs) (o : Obj) : Bld B b (w.alloc o) bs := h.below ((Below.refl _ _).alloc (Nat.le_refl _) o) (Nat.le_refl _)
theorem KeptB.refl (b : Nat) (w : World) : KeptB b w w := fun _ _ _ h _ _ => h
theorem KeptB.trans {b : Nat} {w w1 w2 : World} (h : KeptB b w w1) (k : KeptB b w1 w2) : KeptB b w w2 := fun g t cs hb hn ht => k g t cs (h g t cs hb hn ht) hn ht
theorem KeptB.below {b C : Nat} {w w' : World} (hb : Below C w w') (hC : w.heap.size ≤ C) : KeptB b w w' := fun g t cs h _ _ => h.below hb (Nat.lt_of_lt_of_le h.lt hC)

set_option maxRecDepth 100000 in
set_option maxHeartbeats 1000000 in
theorem copy_used (b : Nat) (w : World) (h0 : w.cell? ⟨b, 0, none⟩ = some (.pointer (some ⟨b, 0, none⟩))) :
    Calls Tryz.prog 69 #[.pointer (some ⟨b, 0, none⟩)] w fun e w' => e = .returned (.tuple #[]) ∧ w' = w := by
  obtain ⟨j, hj, hjs⟩ := Option.map_eq_some_iff.1 (show (Tryz.prog.info? 90).map (·.size) = some 2 by kernel_rfl)
  go_enter Tryz.func69, Tryz.ntmps69
  go_wp2
  rw [Lib.run_neq_ptr_same w _ Tryz.underlying88 hj]
  go_wp2
  go_end0
  exact ⟨rfl, rfl⟩

set_option maxRecDepth 100000 in
set_option maxHeartbeats 1000000 in
theorem copy_fresh (b : Nat) (w : World) (h0 : w.cell? ⟨b, 0, none⟩ = some (.pointer none)) (hsh : w.shape? b = some (90, 2)) (hfz : w.frozen? ⟨b, 0, none⟩ = false) :
    Calls Tryz.prog 69 #[.pointer (some ⟨b, 0, none⟩)] w fun e w' => e = .returned (.tuple #[]) ∧ w' = w.setCell ⟨b, 0, none⟩ (.pointer (some ⟨b, 0, none⟩)) := by
  obtain ⟨j, hj, hjs⟩ := Option.map_eq_some_iff.1 (show (Tryz.prog.info? 90).map (·.size) = some 2 by kernel_rfl)
  have hl : liesAt Tryz.prog Tryz.prog.depth 90 (2 / Tryz.prog.cellsOf 90) 0 90 1 = true := by kernel_rfl
  go_enter Tryz.func69, Tryz.ntmps69
  go_wp2
  rw [Lib.run_to_unsafe w ⟨b, 0, none⟩ Tryz.underlying88 Tryz.underlying156 hj (by rw [hjs]; decide) hsh (Nat.zero_lt_succ 1)]
  simp only [Result.andThen]
  rw [Oper.upon_value]
  go_wp2
  rw [run_callFunc_extern Tryz.func102 (by kernel_rfl) (by kernel_rfl) (by kernel_rfl) (e := Extern.AbiNoEscape.same) (by kernel_rfl)]
  rw [Lib.run_noEscape]
  simp only [Result.andThen]
  rw [Oper.upon_value]
  go_wp2
  rw [Lib.run_from_unsafe w ⟨b, 0, none⟩ Tryz.underlying156 Tryz.underlying88 hj hsh hl]
  simp only [Result.andThen]
  rw [Oper.upon_value]
  go_wp2
  go_end0
  exact ⟨rfl, rfl⟩

theorem copy_any (B b : Nat) (bs : List UInt8) (w : World) (h : Bld B b w bs) :
    Calls Tryz.prog 69 #[.pointer (some ⟨b, 0, none⟩)] w fun e w' => e = .returned (.tuple #[]) ∧ Bld B b w' bs ∧ Below B w w' ∧ KeptB b w w' := by
  obtain ⟨h0, p, v, hp, hk, ho, hn⟩ := h
  rcases hp with rfl | rfl
  · refine (copy_fresh b w (hk.cell 0) (by unfold Blk at hk; simp [World.shape?, hk]) (hk.frozen 0)).mono fun e w' h => ?_
    obtain ⟨rfl, rfl⟩ := h
    refine ⟨rfl, ⟨h0, _, v, .inr rfl, hk.set_ 0 _, ?_, hn⟩, (Below.refl B w).setCell (p := ⟨b, 0, none⟩) h0 _, fun g t cs hg hne _ => hg.far (p := ⟨b, 0, none⟩) hne _⟩
    have hg : w.grownBy (w.setCell ⟨b, 0, none⟩ (.pointer (some ⟨b, 0, none⟩))) (some b) := ⟨rfl, rfl, rfl, by simp [World.setCell], fun k _ hne => Below.heap_setCell w ⟨b, 0, none⟩ _ k (fun e => hne (by rw [e]))⟩
    exact World.ownsRow.kept ho hg (.inr hn)
  · refine (copy_used b w (hk.cell 0)).mono fun e w' h => ?_
    obtain ⟨rfl, rfl⟩ := h
    exact ⟨rfl, ⟨h0, _, v, .inr rfl, hk, ho, hn⟩, Below.refl _ _, KeptB.refl _ _⟩

theorem own_form {B : Nat} {w : World} {v : Value} {n : Nat} {xs : List Value} (h : w.ownsRow B 5 1 v n xs) : ∃ A m c, v = .slice A m c := by
  rcases h.2 with ⟨h, _⟩ | ⟨g, cap, cur, h, _⟩
  · exact ⟨_, _, _, h⟩
  · exact ⟨_, _, _, h⟩
theorem own_ne {B b : Nat} {w : World} {v : Value} {n : Nat} {xs : List Value} {t : TypeId} {cs : Array Value} (h : w.ownsRow B 5 1 v n xs) (hg : Blk w b t cs) (hne : t ≠ 5) : v.ownBlock ≠ some b := by
  rcases h.2 with ⟨rfl, _⟩ | ⟨g', cap, cur, rfl, _, hh, _⟩
  · simp [Value.ownBlock]
  · intro he
    have : g' = b := by simpa [Value.ownBlock] using he
    subst this
    unfold Blk at hg
    rw [hh] at hg
    injection hg with hg
    injection hg with _ ht
    exact hne ht.symm
theorem kept_grown {B b : Nat} {w w' : World} {v : Value} {n : Nat} {xs : List Value} (h : w.ownsRow B 5 1 v n xs) (hg : w.grownBy w' v.ownBlock) : KeptB b w w' := fun g t cs hb _ ht => by
  have hn := own_ne h hb ht
  have hlt := hb.lt
  unfold Blk at hb ⊢
  rw [hg.block g hlt (fun e => hn e.symm)]; exact hb

set_option maxRecDepth 100000 in
set_option maxHeartbeats 1000000 in
theorem write_any (B b : Nat) (bs : List UInt8) (s : ByteArray) (w : World) (h : Bld B b w bs) (hB : B ≤ w.heap.size) (hl : bs.length + s.size ≤ 1000000000) :
    Calls Tryz.prog 46 #[.pointer (some ⟨b, 0, none⟩), .string s] w fun e w' => e = .returned (.tuple #[.int .i64 (s.size : Int), .nilIface]) ∧ Bld B b w' (bs ++ s.data.toList) ∧ Below B w w' ∧ KeptB b w w' := by
  go_enter Tryz.func46, Tryz.ntmps46
  go_wp2_with fail
  refine (copy_any B b bs w h).mono ?_
  rintro e w1 ⟨rfl, ⟨h0, p, v, hp, hk, ho, hn⟩, hb1, hk1⟩
  have hB1 : B ≤ w1.heap.size := Nat.le_trans hB hb1.size
  have HP := hide hp
  clear hp
  have ck := hk.cell
  obtain ⟨i0, hi, hz0, hz1, hz2⟩ := info_parts u8_info
  go_wp2_with (at_builtin; refine wpList_append_own_string w1 rfl (.tmp 12) (.tmp 13) _ _ rfl B 5 i0 Tryz.underlying46 Tryz.underlying9 hi hz0 hz1 hz2 v bs.length (byteCells bs) rfl ho s rfl (by simp only [maxLen]; omega) (by omega) hB1 ?_; intro v2 w2 O2 hg2)
  obtain ⟨A, n, c, hv2⟩ := own_form O2
  subst hv2
  have K2 : KeptB (w2.heap.size) w1 w2 := kept_grown ho hg2
  have hk2 : Blk w2 b 90 #[p, v] := K2 b _ _ hk (by have := hk.lt; have := hg2.size; omega) (by decide)
  have K3 : KeptB b w1 w2 := kept_grown ho hg2
  have hb2 : Below B w1 w2 := (Below.refl _ _).grown hg2 hB1 (fun k hk => (ho.lt k hk).1)
  have hn2 : (Value.slice A n c).ownBlock ≠ some b := own_ne O2 hk2 (by decide)
  have ck2 := hk2.cell
  have fk2 := hk2.frozen
  clear ck
  refine fun _ => ?_
  go_wp2_with fail
  go_ret2
  refine ⟨rfl, ⟨h0, p, _, HP.out, hk2.set_ 1 _, ?_, hn2⟩, (hb1.trans hb2).setCell (p := ⟨b, 1, none⟩) h0 _, (hk1.trans K3).trans fun g t cs hg hne _ => hg.far (p := ⟨b, 1, none⟩) hne _⟩
  have hg : w2.grownBy (w2.setCell ⟨b, 1, none⟩ (.slice A n c)) (some b) := ⟨rfl, rfl, rfl, by simp [World.setCell], fun k _ hne => Below.heap_setCell w2 ⟨b, 1, none⟩ _ k (fun e => hne (by rw [e]))⟩
  have O3 : OwnB B w2 (.slice A n c) (bs ++ s.data.toList) := by
    unfold OwnB
    have hl2 : (bs ++ s.data.toList).length = bs.length + s.size := by rw [List.length_append, Array.length_toList]; rfl
    rw [hl2]
    simpa [byteCells, strCells] using O2
  exact World.ownsRow.kept O3 hg (.inr hn2)

theorem string_any (B b : Nat) (bs : List UInt8) (w : World) (h : Bld B b w bs) (hB : B ≤ w.heap.size) :
    Calls Tryz.prog 48 #[.pointer (some ⟨b, 0, none⟩)] w fun e w' => e = .returned (.string ⟨bs.toArray⟩) ∧ Below B w w' := by
  obtain ⟨h0, p, v, hp, hk, ho, hn⟩ := h
  have ho' : w.ownsRow B 5 1 v (byteCells bs).length (byteCells bs) := by
    have : (byteCells bs).length = bs.length := by simp [byteCells]
    rw [this]; exact ho
  have hI : Lib.IsBuilder 90 5 B b (Lib.byteCells bs) w := by
    rcases hp with rfl | rfl
    · exact .inl ⟨h0, v, hk, ho', hn⟩
    · exact .inr ⟨h0, v, hk, ho', hn⟩
  exact Any.Builder_String_any lays169 Builder_Extra_169 B b bs w hI hB
end Go.Proofs.YtfcbmajogmojbaaGreatDoor
