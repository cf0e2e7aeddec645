/-
  What happens to a fetch, told by both sides at once.
-/
import Derived.Test.YtdbocpgkedgpcaaFetP
import Derived.Test.YtdbocpgkedgpcaaFetS
import Derived.Test.YtdbocpgkedgpcaaFetT
import Derived.Test.YtdbocpgkedgpcaaFetQ
namespace Go.Proofs.Ytdbocpgkedgpcaa
open Go.RowKit
set_option linter.unusedVariables false
set_option linter.unusedSimpArgs false

def sV (h o : Bool) : Int := if o then 2 else if h then 1 else 0
theorem sV_over (h o : Bool) : (sV h o == 2) = o := by cases h <;> cases o <;> rfl
theorem sV_over' (h o : Bool) : decide (sV h o = 2) = o := by cases h <;> cases o <;> rfl
set_option maxRecDepth 100000 in
set_option maxHeartbeats 4000000 in
theorem reply_sim (ob : ByteArray) (fa fb : Int) (ft : ByteArray) (fk : Bool) (nt : ByteArray) (nk : Bool) (st : Int) (mt : ByteArray) (mk : Bool) (md ln hv fr wh er : Int) (kv : Value) (tn : ByteArray) (kp : Bool) (sa sb ag : Int) (ks : List ByteArray) (h o : Bool) (p q : Int) (hpq : (0 ≤ p ∧ p ≤ q ∧ q ≤ 4611686018427387904)) (hob : ob.size ≤ 9223372036854775807) (hft : ft.size ≤ 9223372036854775807) (hnt : nt.size ≤ 9223372036854775807) (hmt : mt.size ≤ 9223372036854775807) (htn : tn.size ≤ 9223372036854775807) : ∃ (h' o' : Bool) (p' q' a b : Int), (0 ≤ p' ∧ p' ≤ q' ∧ q' ≤ 4611686018427387904) ∧ (∀ (g : Nat) (w : World), Blk w g 74 #[.string ob, .int .i64 fa, .int .i64 fb, .string ft, .bool fk, .string nt, .bool nk, .bool h, .bool o, .int .i64 p, .int .i64 q] → RdStrs w w.heap.size kv ks → Calls Try.prog 18 #[.pointer (some ⟨g, 0, none⟩), .agg #[.int .i64 st, .string mt, .bool mk, .int .i64 md, .int .i64 ln, .int .i64 hv, .int .i64 fr, .int .i64 wh, .int .i64 er, kv, .string tn, .bool kp, .int .i64 sa, .int .i64 sb, .int .i64 ag]] w (XInts g #[.string ob, .int .i64 fa, .int .i64 fb, .string ft, .bool fk, .string nt, .bool nk, .bool h', .bool o', .int .i64 p', .int .i64 q'] a b w)) ∧
    (∀ (w : World), RdStrs w w.heap.size kv ks → Calls Try.prog 19 #[.agg #[.string ob, .int .i64 fa, .int .i64 fb, .string ft, .bool fk, .string nt, .bool nk, .int .i64 (sV h o), .int .i64 p, .int .i64 q], .agg #[.int .i64 st, .string mt, .bool mk, .int .i64 md, .int .i64 ln, .int .i64 hv, .int .i64 fr, .int .i64 wh, .int .i64 er, kv, .string tn, .bool kp, .int .i64 sa, .int .i64 sb, .int .i64 ag]] w (AggInts #[.string ob, .int .i64 fa, .int .i64 fb, .string ft, .bool fk, .string nt, .bool nk, .int .i64 (sV h' o'), .int .i64 p', .int .i64 q'] a b w)) := by
  obtain ⟨h0, h1, h2⟩ := hpq
  by_cases hi : (h || o) = true
  · exact ⟨h, o, p, q, 0, 11, ⟨h0, h1, h2⟩, fun g w X hr => (reply_idle ob fa fb ft fk nt nk h o p q st mt mk md ln hv fr wh er kv tn kp sa sb ag g w X hi).mono (fun e w' ⟨he, hb⟩ => ⟨he, X.below hb X.lt, But.of_below X.lt hb⟩), fun w hr => rreply_idle ob fa fb ft fk nt nk st mt mk md ln hv fr wh er kv tn kp sa sb ag (sV h o) p q w (by cases h <;> cases o <;> simp_all [sV])⟩
  · obtain ⟨rfl, rfl⟩ : h = false ∧ o = false := by cases h <;> cases o <;> simp_all
    by_cases hv1 : readV ob fa fb (ft, fk) (nt, nk) st mt mk md ln hv fr wh er ks tn sa sb ag = 1
    · have hbd : 0 ≤ sa ∧ sa ≤ sb ∧ sb ≤ 4611686018427387904 := by
        obtain ⟨_, hst, hbr⟩ := read_one hv1
        by_cases h200 : st = 200
        · obtain ⟨b1, b2, b3, b4⟩ := brings_200 hbr h200
          unfold endOf at b2
          split at b2 <;> omega
        · have := brings_206 hbr h200
          omega
      exact ⟨true, false, sa, sb, 1, 0, hbd, fun g w X hr => reply_new ob fa fb ft fk nt nk st mt mk md ln hv fr wh er kv tn kp sa sb ag ks p q g w X hob hft hnt hmt htn hr (Nat.ne_of_lt X.lt) hv1, fun w hr => rreply_new ob fa fb ft fk nt nk st mt mk md ln hv fr wh er kv tn kp sa sb ag ks p q w hob hft hnt hmt htn hr hv1⟩
    · have hv2 : (readV ob fa fb (ft, fk) (nt, nk) st mt mk md ln hv fr wh er ks tn sa sb ag == 1) = false := by simpa using hv1
      exact ⟨false, true, p, q, _, 0, ⟨h0, h1, h2⟩, fun g w X hr => reply_other ob fa fb ft fk nt nk st mt mk md ln hv fr wh er kv tn kp sa sb ag ks p q g w X hob hft hnt hmt htn hr _ rfl hv2, fun w hr => rreply_other ob fa fb ft fk nt nk st mt mk md ln hv fr wh er kv tn kp sa sb ag ks p q w hob hft hnt hmt htn hr _ rfl hv2⟩

set_option maxRecDepth 100000 in
set_option maxHeartbeats 4000000 in
theorem data_sim (ob : ByteArray) (fa fb : Int) (ft : ByteArray) (fk : Bool) (nt : ByteArray) (nk : Bool) (n : Int) (h o : Bool) (p q : Int) (hpq : (0 ≤ p ∧ p ≤ q ∧ q ≤ 4611686018427387904))  : ∃ (h' o' : Bool) (p' q' a b c : Int), (0 ≤ p' ∧ p' ≤ q' ∧ q' ≤ 4611686018427387904) ∧ (∀ (g : Nat) (w : World), Blk w g 74 #[.string ob, .int .i64 fa, .int .i64 fb, .string ft, .bool fk, .string nt, .bool nk, .bool h, .bool o, .int .i64 p, .int .i64 q] → Calls Try.prog 20 #[.pointer (some ⟨g, 0, none⟩), .int .i64 n] w (XSpan g #[.string ob, .int .i64 fa, .int .i64 fb, .string ft, .bool fk, .string nt, .bool nk, .bool h', .bool o', .int .i64 p', .int .i64 q'] a b c w)) ∧
    (∀ (w : World), Calls Try.prog 21 #[.agg #[.string ob, .int .i64 fa, .int .i64 fb, .string ft, .bool fk, .string nt, .bool nk, .int .i64 (sV h o), .int .i64 p, .int .i64 q], .int .i64 n] w (AggSpanInt #[.string ob, .int .i64 fa, .int .i64 fb, .string ft, .bool fk, .string nt, .bool nk, .int .i64 (sV h' o'), .int .i64 p', .int .i64 q'] a b c w)) := by
  obtain ⟨h0, h1, h2⟩ := hpq
  by_cases hi : (h && !o) = false
  · exact ⟨h, o, p, q, 0, 0, 11, ⟨h0, h1, h2⟩, fun g w X => (data_idle ob fa fb ft fk nt nk h o p q n g w X hi).mono (fun e w' ⟨he, hb⟩ => ⟨he, X.below hb X.lt, But.of_below X.lt hb⟩), fun w => rdata_idle ob fa fb ft fk nt nk (sV h o) p q n w (by cases h <;> cases o <;> simp_all [sV])⟩
  · obtain ⟨rfl, rfl⟩ : h = true ∧ o = false := by cases h <;> cases o <;> simp_all
    by_cases hn : n < 1
    · exact ⟨true, false, p, q, 0, 0, 1, ⟨h0, h1, h2⟩, fun g w X => (data_low ob fa fb ft fk nt nk p q n g w X hn).mono (fun e w' ⟨he, hb⟩ => ⟨he, X.below hb X.lt, But.of_below X.lt hb⟩), fun w => rdata_low ob fa fb ft fk nt nk p q n w hn⟩
    · by_cases hm : q - p < n
      · exact ⟨true, false, p, q, 0, 0, 4, ⟨h0, h1, h2⟩, fun g w X => (data_many ob fa fb ft fk nt nk p q n g w X h0 h1 h2 hn hm).mono (fun e w' ⟨he, hb⟩ => ⟨he, X.below hb X.lt, But.of_below X.lt hb⟩), fun w => rdata_many ob fa fb ft fk nt nk p q n w h0 h1 h2 hn hm⟩
      · have hm' : n ≤ q - p := by omega
        exact ⟨true, false, p + n, q, p, p + n, 0, ⟨by omega, by omega, h2⟩, fun g w X => data_ok ob fa fb ft fk nt nk p q n g w X h0 h1 h2 hn hm', fun w => rdata_ok ob fa fb ft fk nt nk p q n w h0 h1 h2 hn hm'⟩

set_option maxRecDepth 100000 in
set_option maxHeartbeats 4000000 in
theorem close_sim (ob : ByteArray) (fa fb : Int) (ft : ByteArray) (fk : Bool) (nt : ByteArray) (nk : Bool) (c : Bool) (h o : Bool) (p q : Int) (hpq : (0 ≤ p ∧ p ≤ q ∧ q ≤ 4611686018427387904))  : ∃ (h' o' : Bool) (p' q' a : Int), (0 ≤ p' ∧ p' ≤ q' ∧ q' ≤ 4611686018427387904) ∧ (∀ (g : Nat) (w : World), Blk w g 74 #[.string ob, .int .i64 fa, .int .i64 fb, .string ft, .bool fk, .string nt, .bool nk, .bool h, .bool o, .int .i64 p, .int .i64 q] → Calls Try.prog 22 #[.pointer (some ⟨g, 0, none⟩), .bool c] w (XInt g #[.string ob, .int .i64 fa, .int .i64 fb, .string ft, .bool fk, .string nt, .bool nk, .bool h', .bool o', .int .i64 p', .int .i64 q'] a w)) ∧
    (∀ (w : World), Calls Try.prog 23 #[.agg #[.string ob, .int .i64 fa, .int .i64 fb, .string ft, .bool fk, .string nt, .bool nk, .int .i64 (sV h o), .int .i64 p, .int .i64 q], .bool c] w (AggInt #[.string ob, .int .i64 fa, .int .i64 fb, .string ft, .bool fk, .string nt, .bool nk, .int .i64 (sV h' o'), .int .i64 p', .int .i64 q'] a w)) := by
  obtain ⟨h0, h1, h2⟩ := hpq
  cases o
  · cases h
    · exact ⟨false, true, p, q, _, ⟨h0, h1, h2⟩, fun g w X => close_any ob fa fb ft fk nt nk false p q c g w X, fun w => rclose_asked ob fa fb ft fk nt nk p q c w⟩
    · exact ⟨true, true, p, q, _, ⟨h0, h1, h2⟩, fun g w X => close_any ob fa fb ft fk nt nk true p q c g w X, fun w => by
        have := rclose_heard ob fa fb ft fk nt nk p q c w h1
        exact this⟩
  · exact ⟨h, true, p, q, 11, ⟨h0, h1, h2⟩, fun g w X => (close_over ob fa fb ft fk nt nk h p q c g w X).mono (fun e w' ⟨he, hb⟩ => ⟨he, X.below hb X.lt, But.of_below X.lt hb⟩), fun w => rclose_over ob fa fb ft fk nt nk p q c w⟩

set_option maxRecDepth 100000 in
set_option maxHeartbeats 4000000 in
theorem rest_sim (ob : ByteArray) (fa fb : Int) (ft : ByteArray) (fk : Bool) (nt : ByteArray) (nk : Bool)  (h o : Bool) (p q : Int) (hpq : (0 ≤ p ∧ p ≤ q ∧ q ≤ 4611686018427387904))  : ∃ (a b : Int) (r : Bool), (∀ (g : Nat) (w : World), Blk w g 74 #[.string ob, .int .i64 fa, .int .i64 fb, .string ft, .bool fk, .string nt, .bool nk, .bool h, .bool o, .int .i64 p, .int .i64 q] → Calls Try.prog 24 #[.pointer (some ⟨g, 0, none⟩)] w (SpanBool a b r w)) ∧
    (∀ (w : World), Calls Try.prog 25 #[.agg #[.string ob, .int .i64 fa, .int .i64 fb, .string ft, .bool fk, .string nt, .bool nk, .int .i64 (sV h o), .int .i64 p, .int .i64 q]] w (SpanBool a b r w)) := by
  obtain ⟨h0, h1, h2⟩ := hpq
  by_cases hi : (h && !o && (p != q)) = false
  · exact ⟨0, 0, false, fun g w X => rest_idle ob fa fb ft fk nt nk h o p q g w X hi, fun w => rrest_idle ob fa fb ft fk nt nk (sV h o) p q w (by cases h <;> cases o <;> simp_all [sV])⟩
  · obtain ⟨rfl, rfl, hq⟩ : h = true ∧ o = false ∧ (p == q) = false := by cases h <;> cases o <;> simp_all
    exact ⟨p, q, true, fun g w X => rest_some ob fa fb ft fk nt nk p q g w X hq, fun w => rrest_some ob fa fb ft fk nt nk p q w hq⟩

end Go.Proofs.Ytdbocpgkedgpcaa
