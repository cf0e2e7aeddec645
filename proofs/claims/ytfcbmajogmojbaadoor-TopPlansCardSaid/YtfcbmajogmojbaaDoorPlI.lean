/-
  What stands while it is planned.
-/
import Derived.Test.YtfcbmajogmojbaaDoorPlH
namespace Go.Proofs.YtfcbmajogmojbaaDoor
open Go.RowKit Go.Shelf
set_option linter.unusedVariables false
set_option linter.unusedSimpArgs false

def LU8 : Lay Int where
  t := 45
  e := 5
  n := 1
  bytes := 1
  enc x := [.int .u8 x]
  len _ := rfl
  one _ u hu := by simp at hu; subst hu; rfl
  pos := by decide
  z := .int .u8 0
  ht := Tryd.underlying45
  info := by kernel_rfl
  zs := rfl
theorem RdL.u8 {w : World} {B n c : Nat} {A : Option Addr} {l : List Int} (h : RdL LU8 w B (.slice A n c) l) (i : Nat) (hi : i < l.length) : ∃ b off, A = some ⟨b, off, none⟩ ∧ b < B ∧ w.cell? ⟨b, off + i, none⟩ = some (.int .u8 l[i]) := by
  obtain ⟨b, off, e, hlt, hc⟩ := h.at_ i hi
  refine ⟨b, off, e, hlt, ?_⟩
  have := hc 0 _ rfl
  simpa [LU8] using this
/-- What stands: the configuration, the whole, what is there, what is to come. -/
structure PSt (w0 : World) (gC gW gT gY : Nat) (AW : Option Addr) (cW : Nat) (T F : List Sp) (W : World) : Prop where
  c : Blk W gC 47 #[.int .i64 4, .int .i64 0, .int .i64 64, .int .i64 8, .int .i64 2, .int .i64 1, .int .i64 8, .int .i64 400, .int .i64 400, .int .i64 16]
  wh : Blk W gW 28 #[.slice AW 1 cW]
  r : RdL LSp W W.heap.size (.slice AW 1 cW) allP
  t : ∃ A c, Blk W gT 28 #[.slice A T.length c] ∧ RdL LSp W W.heap.size (.slice A T.length c) T
  f : ∃ A c, Blk W gY 28 #[.slice A F.length c] ∧ RdL LSp W W.heap.size (.slice A F.length c) F
  bel : Below w0.heap.size w0 W
  ct : gC ≠ gT
  cy : gC ≠ gY
  wt : gW ≠ gT
  wy : gW ≠ gY
  ty : gT ≠ gY
  lt : w0.heap.size ≤ gT
  ly : w0.heap.size ≤ gY
section
variable {w W W' : World} {gC gW gT gY : Nat} {AW : Option Addr} {cW : Nat} {T F T' : List Sp}
theorem PSt.below (h : PSt w gC gW gT gY AW cW T F W) (hb : Below W.heap.size W W') : PSt w gC gW gT gY AW cW T F W' := by
  obtain ⟨c, w1, r, ⟨A, c1, t1, t2⟩, ⟨B, c2, f1, f2⟩, bel, h1, h2, h3, h4, h5, h6, h7⟩ := h
  exact ⟨c.below hb c.lt, w1.below hb w1.lt, (r.below hb).mono hb.size, ⟨A, c1, t1.below hb t1.lt, (t2.below hb).mono hb.size⟩, ⟨B, c2, f1.below hb f1.lt, (f2.below hb).mono hb.size⟩, bel.trans (hb.mono bel.size), h1, h2, h3, h4, h5, h6, h7⟩
theorem PSt.alloc (h : PSt w gC gW gT gY AW cW T F W) (o : Obj) : PSt w gC gW gT gY AW cW T F (W.alloc o) := h.below ((Below.refl _ _).alloc (Nat.le_refl _) _)
theorem rd_setS {A : Option Addr} {n c g : Nat} {v : Value} {l : List Sp} (h : RdL LSp W W.heap.size v l) (hg : Blk W g 28 #[.slice A n c]) (u : Value) : RdL LSp (W.setCell ⟨g, 0, none⟩ u) (W.setCell ⟨g, 0, none⟩ u).heap.size v l := (rd_setcell (V' := u) h hg (fun z e => by cases e)).mono (KeepsWalks.setCell W _ _).size
/-- What is there turns. -/
theorem PSt.setT (h : PSt w gC gW gT gY AW cW T F W) {A : Option Addr} {c : Nat} (hr : RdL LSp W W.heap.size (.slice A T'.length c) T') : PSt w gC gW gT gY AW cW T' F (W.setCell ⟨gT, 0, none⟩ (.slice A T'.length c)) := by
  obtain ⟨c0, w1, r, ⟨A1, c1, t1, t2⟩, ⟨B, c2, f1, f2⟩, bel, h1, h2, h3, h4, h5, h6, h7⟩ := h
  exact ⟨c0.far h1 _, w1.far h3 _, rd_setS r t1 _, ⟨A, c, by simpa using t1.set_ 0 (.slice A T'.length c), rd_setS hr t1 _⟩, ⟨B, c2, f1.far (fun e => h5 e.symm) _, rd_setS f2 t1 _⟩, below_set bel h6 _, h1, h2, h3, h4, h5, h6, h7⟩
theorem PSt.setF (h : PSt w gC gW gT gY AW cW T F W) {A : Option Addr} {c : Nat} (hr : RdL LSp W W.heap.size (.slice A T'.length c) T') : PSt w gC gW gT gY AW cW T T' (W.setCell ⟨gY, 0, none⟩ (.slice A T'.length c)) := by
  obtain ⟨c0, w1, r, ⟨A1, c1, t1, t2⟩, ⟨B, c2, f1, f2⟩, bel, h1, h2, h3, h4, h5, h6, h7⟩ := h
  exact ⟨c0.far h2 _, w1.far h4 _, rd_setS r f1 _, ⟨A1, c1, t1.far h5 _, rd_setS t2 f1 _⟩, ⟨A, c, by simpa using f1.set_ 0 (.slice A T'.length c), rd_setS hr f1 _⟩, below_set bel h7 _, h1, h2, h3, h4, h5, h6, h7⟩
theorem pst_blk {g : Nat} {t : TypeId} {cs : Array Value} {gX : Nat} {u : Value} (hg : Blk W g t cs) (hne : g ≠ gX) : Blk (W.setCell ⟨gX, 0, none⟩ u) g t cs := hg.far hne _
end
theorem below_al {A X w' : World} {o : Obj} (h : Below A.heap.size A X) (hb : Below (X.alloc o).heap.size (X.alloc o) w') : Below A.heap.size A w' := (h.alloc h.size o).trans (hb.mono (by have := h.size; simp; omega))
theorem new_belowg {X w' : World} {g : Nat} {t : TypeId} {cs : Array Value} (hg : g = X.heap.size) (hb : Below (X.alloc (.cells cs t)).heap.size (X.alloc (.cells cs t)) w') : Blk w' g t cs := by subst hg; exact (Blk.new X t cs).below hb (by simp)
theorem new_belowp {X w' : World} {g : Nat} {t t2 : TypeId} {cs cs2 : Array Value} (hg : g = X.heap.size) (hb : Below ((X.alloc (.cells cs t)).alloc (.cells cs2 t2)).heap.size ((X.alloc (.cells cs t)).alloc (.cells cs2 t2)) w') : Blk w' g t cs := by subst hg; exact ((Blk.new X t cs).alloc _).below hb (by simp; omega)
theorem set1 {w : World} {g : Nat} {t : TypeId} {a0 : Value} (h : Blk w g t #[a0]) (b0 : Value) : Blk (w.setCell ⟨g, 0, none⟩ b0) g t #[b0] := by
  have := h.set_ 0 b0
  simpa using this
theorem sum_bdP {l : List Sp} (h : ∀ x ∈ l, 0 ≤ x.1 ∧ x.1 < x.2 ∧ x.2 ≤ 120) : ∀ k, k ≤ l.length → 0 ≤ sumL (l.take k) ∧ sumL (l.take k) ≤ 120 * k
  | 0, _ => by simp [sumL]
  | k + 1, hk => by
    have ih := sum_bdP h k (by omega)
    have hx := h l[k] (List.getElem_mem (by omega))
    rw [sum_take (by omega : k < l.length)]
    omega
theorem meet_nf (s x : Sp) (l : List Sp) : Nf (andL (ofL [s]) (ofL l)) := andL_nf _ _ (ofL_nf _) (ofL_nf _)
theorem meet_hi {s : Sp} {no : Int} (h : 0 ≤ no ∧ no < 30) : ∀ y ∈ andL (ofL [s]) (ofL [unitS no]), y.2 ≤ 1099511627776 := by
  have hn := andL_nf _ _ (ofL_nf [s]) (ofL_nf [unitS no])
  intro y hy
  have ho := nf_ok hn y hy
  unfold okS at ho
  have hc : Cov (andL (ofL [s]) (ofL [unitS no])) (y.2 - 1) := ⟨y, hy, by omega, by omega⟩
  rw [andL_cov _ _ (ofL_nf _) (ofL_nf _), unit_of h, cov_one] at hc
  unfold unitS at hc
  simp only at hc
  omega
theorem set_hi {l : List Sp} (hn : Nf l) (hi : ∀ a, Cov l a → 0 ≤ a ∧ a < 120) : ∀ y ∈ l, y.2 ≤ 1099511627776 := fun y hy => by have := (within_hi hn hi y hy).2; omega

end Go.Proofs.YtfcbmajogmojbaaDoor
