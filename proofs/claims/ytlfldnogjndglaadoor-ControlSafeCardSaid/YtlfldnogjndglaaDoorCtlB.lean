/-
  What a rule says of a number: the closure.
-/
import Derived.Test.YtlfldnogjndglaaDoorCtlA
namespace Go.Proofs.YtlfldnogjndglaaDoor
open Go.RowKit
set_option linter.unusedVariables false
set_option linter.unusedSimpArgs false

/-- What a rule says of one number. -/
def partN (name : List UInt8) (n : Int) : List (List UInt8) := if 0 ≤ n then [name ++ 61 :: Lib.itoa (min n 1099511627776)] else []
def PutOk {α : Type} (L : Lay α) (B bx : Nat) (l : List α) (w : World) (e : Ending) (w' : World) : Prop := e = .returned (.tuple #[]) ∧ ∃ v, Blk w' bx L.t #[v] ∧ OwnL L B w' v l ∧ Below B w w' ∧ KeptL L.e bx w w'
theorem step_appL2 {α : Type} (L : Lay α) {ops : Array Oper} {o : Oper} {a : Act} {K : Act → World → Prop} {Q : Exit → Act → World → Prop} {E : Prop} {w : World} (w0 : World) (hw : Region.wanted o (yielded ops a.tmps) = true) (s x : Operand) (t1 t2 : TypeId)
    (ho : o.op = .call { callee := .builtin .append, args := #[s, x], argTypes := #[t1, t2] }) (ht1 : t1 = L.t) (ht2 : t2 = L.t)
    (B : Nat) (v : Value) (l : List α) (hs : a.eval s = v) (hown : OwnL L B w v l) (hb0 : Below B w0 w) (hB : B ≤ w.heap.size)
    (u : Value) (ns : List α) (C : Nat) (hx : a.eval x = u) (hu : RdL L w C u ns)
    (hL : L.bytes ≤ 1024) (h63 : l.length + ns.length ≤ 1000000000)
    (h : ∀ v' w', OwnL L B w' v' (l ++ ns) → Below B w0 w' → w.grownBy w' v.ownBlock → K (a.put o.dst v') w') :
    if Region.wanted o (yielded ops a.tmps) = true then Oper.wp Tryd.prog o a w K Q else E := by
  rw [if_pos hw]
  subst ht1 ht2
  obtain ⟨v', w', hrun, h1, h2, h5⟩ := run_appL o.type B v l hown hB u ns C hu hL h63
  unfold Oper.wp execOp
  simp only [ho, resolve, invoke, builtin, Sem.run_bind, Sem.run_pure, Result.andThen_ok, List.map_toArray, List.map_cons, List.map_nil, hs, hx, hrun]
  have hr : ∀ k, v.ownBlock = some k → B ≤ k := fun k hk => (hown.lt k hk).1
  exact h v' w' h1 (hb0.grown h2 hB hr) h2
/-- A box that is none of the row's blocks stands when the row grows. -/
theorem Blk.grown {w w' : World} {g : Nat} {t : TypeId} {cs : Array Value} {row : Option Nat} (h : Blk w g t cs) (hg : w.grownBy w' row) (hr : row ≠ some g) : Blk w' g t cs := by
  obtain ⟨_, _, _, _, hbk⟩ := hg
  have := hbk g h.lt (fun e => hr e.symm)
  unfold Blk at *
  rw [this]; exact h
theorem one_size (b : UInt8) : (⟨#[b]⟩ : ByteArray).size = 1 := rfl
theorem mk_size (l : List UInt8) : (⟨l.toArray⟩ : ByteArray).size = l.length := by simp [ByteArray.size]
theorem bytes_str (b : ByteArray) : (⟨b.data.toList.toArray⟩ : ByteArray) = b := by cases b; simp

theorem LWenc (s : List UInt8) : LW.enc s = [.string ⟨s.toArray⟩] := rfl

set_option maxRecDepth 100000 in
set_option maxHeartbeats 4000000 in
theorem put_any (name : ByteArray) (n : Int) (bx B : Nat) (v : Value) (l : List (List UInt8)) (w : World) (hT : Tab w) (h0 : -9223372036854775808 ≤ n) (h1 : n ≤ 9223372036854775807) (hBb : B ≤ bx) (hX : Blk w bx LW.t #[v]) (ho : OwnL LW B w v l) (hl : l.length ≤ 1000) (hs : name.size ≤ 1000) :
    Calls Tryd.prog 15 #[.string name, .int .i64 n, .pointer (some ⟨bx, 0, none⟩)] w (PutOk LW B bx (l ++ partN name.data.toList n) w) := by
  have hBw : B ≤ w.heap.size := Nat.le_trans hBb (Nat.le_of_lt hX.lt)
  have HNB := hide (ho.not_blk hX (by decide))
  have HT := hide hT
  have HX := hide hX
  have HO := hide ho
  have HL := hide (ho.lt)
  clear hT hX ho
  by_cases hn : 0 ≤ n
  · have d1 : decide (0 ≤ n) = true := by simpa using hn
    have HP := hide (show partN name.data.toList n = [(name ++ ⟨#[61]⟩ ++ ⟨(Lib.itoa (min n 1099511627776)).toArray⟩ : ByteArray).data.toList] by unfold partN; rw [if_pos hn]; simp)
    have hi21 : (Lib.itoa (min n 1099511627776)).length ≤ 21 := Lib.itoa_length_le _ (by omega) (by omega)
    have hJ1 : ¬ 9223372036854775807 < name.size + 1 := by omega
    have hJ2 : ¬ 9223372036854775807 < name.size + 1 + (Lib.itoa (min n 1099511627776)).length := by omega
    clear hi21
    have SMK := hide (show ∀ W : World, Below w.heap.size w W → (fun W => Below B w W ∧ W.cell? ⟨bx, 0, none⟩ = some v) W from fun W h => ⟨h.mono hBw, (HX.out.below h HX.out.lt).cell 0⟩)
    have AK := hide (show ∀ (W : World) (o : Obj), Below w.heap.size w W → Below w.heap.size w (W.alloc o) from fun W o h => h.alloc h.size o)
    go_enter Tryd.func15, Tryd.ntmps15
    go_upto_region 1 with fail
    have CX := hide (show ∀ W : World, Below w.heap.size w W → ∀ i, W.cell? ⟨bx, i, none⟩ = (#[v] : Array Value)[i]? from fun W h i => (HX.out.below h HX.out.lt).cell i)
    have cX0 := CX.out w (Below.refl _ _)
    go_region_law (first | (refine step_appL2 LW w (by rfl) (.tmp 7) (.tmp 14) _ _ (by rfl) rfl rfl B v l (by rfl) (OwnL.below HO.out (AK.out _ _ (Below.trans (Below.drew (Below.refl _ _)) (Below.mono hbk (Nat.le_refl _)))) (Nat.le_refl _)) (Below.mono (AK.out _ _ (Below.trans (Below.drew (Below.refl _ _)) (Below.mono hbk (Nat.le_refl _)))) hBw) (Nat.le_trans hBw (Below.size (AK.out _ _ (Below.trans (Below.drew (Below.refl _ _)) (Below.mono hbk (Nat.le_refl _)))))) _ [(name ++ ⟨#[61]⟩ ++ ⟨(Lib.itoa (min n 1099511627776)).toArray⟩ : ByteArray).data.toList] _ (by rfl) (RdL.one_ (Blk.new _ _ _) (by rw [LWenc, bytes_str])) (by decide) (by simp; omega) ?_; intro v7 w7 O7 hap hgr; obtain ⟨A7, c7, hv7, -, -⟩ := O7.rd.form; subst hv7; have X7 := Blk.grown (Blk.below HX.out (AK.out _ _ (Below.trans (Below.drew (Below.refl _ _)) (Below.mono hbk (Nat.le_refl _)))) HX.out.lt) hgr HNB.out; have cX7 := X7.cell; have fX7 := X7.frozen) | (go_simp; go_at_call 16; refine (fmt_any _ _ (by omega) (by omega) (HT.out.below (Below.drew (Below.refl _ _)))).mono ?_; rintro e w8 ⟨rfl, hbk⟩; have cX8 := CX.out w8 (Below.trans (Below.drew (Below.refl _ _)) (Below.mono hbk (Nat.le_refl _))); have cX9 := fun o => CX.out (w8.alloc o) (AK.out _ _ (Below.trans (Below.drew (Below.refl _ _)) (Below.mono hbk (Nat.le_refl _))))))
    all_goals (try rw [List.length_append, List.length_singleton] at O7)
    all_goals go_end0
    all_goals exact ⟨rfl, _, by simpa using X7.set_ 0 _, by rw [HP.out]; exact OwnL.far O7 (O7.not_blk X7 (by decide)) _, below_set hap hBb _, ((KeptL.below (AK.out _ _ (Below.trans (Below.drew (Below.refl _ _)) (Below.mono hbk (Nat.le_refl _)))) (Nat.le_refl _)).grown hgr (fun k hk => (OwnL.below HO.out (AK.out _ _ (Below.trans (Below.drew (Below.refl _ _)) (Below.mono hbk (Nat.le_refl _)))) (Nat.le_refl _)).kind k hk)).set_ _⟩
  · have d1 : decide (0 ≤ n) = false := by simpa using hn
    go_enter Tryd.func15, Tryd.ntmps15
    go_wp2
    go_end0
    exact ⟨rfl, v, HX.out, by unfold partN; rw [if_neg (by omega)]; simpa using HO.out, Below.refl _ _, KeptL.refl _ _ _⟩

end Go.Proofs.YtlfldnogjndglaaDoor
