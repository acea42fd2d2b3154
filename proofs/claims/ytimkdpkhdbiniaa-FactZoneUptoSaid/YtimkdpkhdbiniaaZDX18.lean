/- Parts of a proof, joined: Law13Z. -/
import Derived.Test.YtimkdpkhdbiniaaZDX17
import Derived.Test.YtimkdpkhdbiniaaZDT1
import Derived.Test.YtimkdpkhdbiniaaZDF13
/- FactZone. -/
namespace Go.Proofs.Ytimkdpkhdbiniaa
open Go.RowKit
set_option maxRecDepth 100000
set_option linter.unusedVariables false

structure GoodZ (m : Ms) (zs : List (List UInt8)) (now : Int) (f : Fa) : Prop where
  fine : fineF f = true
  got : f.got = now
  under : underB f.name zs = true
  neg : f.kind ≠ 1 → underB f.zone zs = true ∧ ∃ r ∈ m.an ++ m.au ++ m.ex, r.cls = 1 ∧ r.type = 6 ∧ r.name = f.zone ∧ r.data = f.soa
  has : f.kind = 1 → ∀ d ∈ f.set, ∃ r ∈ m.an ++ m.au ++ m.ex, r.cls = 1 ∧ r.type = f.type ∧ lowN r.name = lowN f.name ∧ r.data = d
theorem HasF.goodZ {p : TP} {xs : List RR} {ns : List (List UInt8)} {k : Int} {f : Fa} (h : HasF p xs ns k f) (hs : ∀ r ∈ xs, r ∈ p.m.an ++ p.m.au ++ p.m.ex) : GoodZ p.m p.zs p.now f :=
  ⟨h.fine, h.got, h.under, fun e => (e h.kd).elim, fun _ d hd => by
    obtain ⟨r, hr, hi, hrd⟩ := h.set d hd
    unfold isR at hi
    simp only [Bool.and_eq_true, decide_eq_true_eq] at hi
    exact ⟨r, hs r hr, hi.2.1, hi.1.trans h.type.symm, by rw [h.name]; exact hi.2.2, hrd⟩⟩
theorem NegF.goodZ {p : TP} {f : Fa} (h : NegF p f) : GoodZ p.m p.zs p.now f :=
  ⟨h.fine, h.got, h.under, fun _ => ⟨h.zu, by
    obtain ⟨r, hr, h1⟩ := h.soa
    exact ⟨r, List.mem_append_left _ (List.mem_append_right _ hr), h1⟩⟩, fun e => (h.kd e).elim⟩
theorem FactG.goodZ {p : TP} {f : Fa} (h : FactG p f) : GoodZ p.m p.zs p.now f := by
  rcases h with ⟨ns, k, h⟩ | h | ⟨ns, k, h⟩ | ⟨ns, k, h⟩
  · exact h.goodZ (fun r hr => List.mem_append_left _ (List.mem_append_left _ hr))
  · exact h.goodZ
  · exact h.goodZ (fun r hr => List.mem_append_left _ (List.mem_append_right _ hr))
  · exact h.goodZ (fun r hr => List.mem_append_right _ hr)
theorem distZ_all {k : Int} {l : List Da} {n : Nat} (h : distP k l n = true) : ∀ i d, i < n → l[i]? = some d → FineD k d := by
  induction n with
  | zero => intro i d hi; omega
  | succ n ih =>
    intro i d hi hd
    unfold distP at h
    rw [Bool.and_eq_true] at h
    by_cases he : i = n
    · subst he
      have h2 := h.2
      rw [oneP_at hd, Bool.and_eq_true] at h2
      exact fineB_iff.1 h2.1
    · exact ih h.1 i d (by omega) hd
theorem fineF_sm {f : Fa} (h : fineF f = true) : SmF f := by
  unfold fineF at h
  simp only [Bool.and_eq_true, decide_eq_true_eq] at h
  obtain ⟨⟨⟨⟨⟨⟨hn, _⟩, _⟩, _⟩, _⟩, _⟩, hk⟩ := h
  have hnl := soundN_short (soundB_iff.1 hn)
  split at hk
  · unfold fineH at hk
    simp only [Bool.and_eq_true, decide_eq_true_eq] at hk
    obtain ⟨⟨⟨⟨⟨_, _⟩, hl⟩, hd⟩, hz⟩, hs⟩ := hk
    unfold noneD at hs
    have hs' := of_decide_eq_true hs
    refine ⟨hnl, by omega, by omega, fun d hd2 => ?_, ⟨by omega, by omega, by omega, by omega, by omega⟩⟩
    obtain ⟨i, hi⟩ := List.getElem?_of_mem hd2
    exact (distZ_all hd i d (List.getElem?_eq_some_iff.1 hi).1 hi).small
  · unfold fineN at hk
    simp only [Bool.and_eq_true, decide_eq_true_eq] at hk
    obtain ⟨⟨⟨⟨⟨_, hl⟩, hz⟩, _⟩, hs⟩, _⟩ := hk
    have hset : f.set = [] := List.eq_nil_of_length_eq_zero hl
    exact ⟨hnl, soundN_short (soundB_iff.1 hz), by omega, fun d hd => by rw [hset] at hd; exact (List.not_mem_nil hd).elim, (fineB_iff.1 hs).small⟩
def FzSt (m : Ms) (zs : List (List UInt8)) (now : Int) (u wc : World) (A : Option Addr) (n c : Nat) : Prop := ∃ B out, Below u.heap.size u wc ∧ Els (encFaL B) (ltS wc) (ltS wc) wc A n out ∧ n ≤ 5000 ∧ n ≤ c ∧ ∀ f ∈ out, GoodZ m zs now f

set_option maxHeartbeats 8000000 in
theorem factZone_heavy (sq : QS) (qu : Qu) (s : MS) (m : Ms) (Z : Option Addr) (nz cz : Nat) (zs : List (List UInt8)) (now : Int) (w : World) (hq : QIn (ltS w) w sq qu) (hm : MIn (ltS w) w s m) (hz : Els encS (ltS w) (ltS w) w Z nz zs) (hzc : nz ≤ cz ∧ cz ≤ maxLen) (hnow : i64S now) (hqn : ∀ x ∈ m.qs, x.name.length ≤ 1048576) (hqs : m.qs.length ≤ 1048576) (hlen : (m.an.length + m.au.length + m.ex.length) * 168 ≤ 140737488355328) (hL : ltM13 m = false) :
    Calls Try.prog 7 #[quV sq qu, msV s m, .slice Z nz cz, .int .i64 now] w (LawT w) := by
  obtain ⟨w1, hw1⟩ : ∃ w1, w1 = w.alloc (.cells (qCells sq qu) 25) := ⟨_, rfl⟩
  obtain ⟨w2, hw2⟩ : ∃ w2, w2 = w1.alloc (.cells (mCells s m) 31) := ⟨_, rfl⟩
  have hb1 : Below w.heap.size w w1 := by rw [hw1]; exact bl.alloc (Nat.le_refl _) _
  have hb2 : Below w1.heap.size w1 w2 := by rw [hw2]; exact bl.alloc (Nat.le_refl _) _
  have hz1 : w1.heap.size = w.heap.size + 1 := by rw [hw1]; simp
  have hz2 : w2.heap.size = w.heap.size + 2 := by rw [hw2]; simp; omega
  have HQ1 : Hid (QRow w2 w.heap.size sq qu) := by
    have h : QRow w1 w.heap.size sq qu := by rw [hw1]; exact QRow.made w sq qu
    exact h.below hb2
  have HM1 : Hid (MRow w2 (w.heap.size + 1) s m) := by show MRow _ _ _ _; rw [hw2, ← hz1]; exact MRow.made w1 s m
  have HB2 : Hid (Below w.heap.size w w2) := nx hb1 hb2
  have HZ2 := Lib.hid hz2
  have HMI := Lib.hid hm
  have HQW : Hid (∀ w', Below w.heap.size w w' → QIn (ltS w) w' sq qu) := fun w' hw => hq.below hw (fun b hb => hb)
  have HMW : Hid (∀ w', Below w.heap.size w w' → MIn (ltS w) w' s m) := fun w' hw => hm.below hw (fun b hb => hb)
  have HZW : Hid (∀ w', Below w.heap.size w w' → Els encS (ltS w) (ltS w) w' Z nz zs) := fun w' hw => hz.below hw (fun b hb => hb) (fun b hb => hb)
  have HLI : Hid (∀ w', Below w.heap.size w w' → Calls Try.prog 31 #[msV s m] w' (RetP (fun v _ => v = .bool (ltM13 m)) w')) := fun w' hw => light13_any s m w' (hm.below hw (fun b hb => hb)) (fun b hb => Nat.lt_of_lt_of_le hb hw.size) (by omega) hlen
  rw [hL] at HLI
  unfold msV mCells at HLI
  unfold quV msV
  unfold qCells at hw1
  unfold mCells at hw2 ⊢
  clear hm hq hz hb1 hb2 hz1 hz2 hlen hqs hqn hzc hnow hL
  go_enter Try.func7, Try.ntmps7
  go_upto_region 1 with (fail)
  rw [← hw1, ← hw2]
  clear hw1 hw2
  go_wp2_with (first
    | (go_at_call 30; (with_reducible refine (answers13_any w4).mono ?_); rintro e w5 ⟨rfl, hb5⟩)
    | (go_at_call 31; (with_reducible refine (HLI.out w3 (nx HB2.out hb3)).mono ?_); rintro e w4 ⟨v4, rfl, rfl, hb4⟩; obtain ⟨y0, y1, y2⟩ := (HQ1.out.below (nx hb3 hb4)).cells)
    | (go_at_call 30; (with_reducible refine (answers13_any w2).mono ?_); rintro e w3 ⟨rfl, hb3⟩; obtain ⟨z0, z1, z2, z3, z4, z5, z6, z7, z8, z9, z10, z11, z12, z13⟩ := (HM1.out.below hb3).cells)
    | fail)
  go_ret
  exact ⟨rfl, nx (nx HB2.out (nx hb3 hb4)) hb5⟩

set_option maxHeartbeats 8000000 in
theorem factZone_zone (sq : QS) (qu : Qu) (s : MS) (m : Ms) (Z : Option Addr) (nz cz : Nat) (zs : List (List UInt8)) (now : Int) (w : World) (hq : QIn (ltS w) w sq qu) (hm : MIn (ltS w) w s m) (hz : Els encS (ltS w) (ltS w) w Z nz zs) (hzc : nz ≤ cz ∧ cz ≤ maxLen) (hnow : i64S now) (hqn : ∀ x ∈ m.qs, x.name.length ≤ 1048576) (hqs : m.qs.length ≤ 1048576) (hlen : (m.an.length + m.au.length + m.ex.length) * 168 ≤ 140737488355328) (hL : ltM13 m = true) (h1 : 200 < nz) :
    Calls Try.prog 7 #[quV sq qu, msV s m, .slice Z nz cz, .int .i64 now] w (LawT w) := by
  obtain ⟨w1, hw1⟩ : ∃ w1, w1 = w.alloc (.cells (qCells sq qu) 25) := ⟨_, rfl⟩
  obtain ⟨w2, hw2⟩ : ∃ w2, w2 = w1.alloc (.cells (mCells s m) 31) := ⟨_, rfl⟩
  have hb1 : Below w.heap.size w w1 := by rw [hw1]; exact bl.alloc (Nat.le_refl _) _
  have hb2 : Below w1.heap.size w1 w2 := by rw [hw2]; exact bl.alloc (Nat.le_refl _) _
  have hz1 : w1.heap.size = w.heap.size + 1 := by rw [hw1]; simp
  have hz2 : w2.heap.size = w.heap.size + 2 := by rw [hw2]; simp; omega
  have HQ1 : Hid (QRow w2 w.heap.size sq qu) := by
    have h : QRow w1 w.heap.size sq qu := by rw [hw1]; exact QRow.made w sq qu
    exact h.below hb2
  have HM1 : Hid (MRow w2 (w.heap.size + 1) s m) := by show MRow _ _ _ _; rw [hw2, ← hz1]; exact MRow.made w1 s m
  have HB2 : Hid (Below w.heap.size w w2) := nx hb1 hb2
  have HZ2 := Lib.hid hz2
  have HMI := Lib.hid hm
  have HQW : Hid (∀ w', Below w.heap.size w w' → QIn (ltS w) w' sq qu) := fun w' hw => hq.below hw (fun b hb => hb)
  have HMW : Hid (∀ w', Below w.heap.size w w' → MIn (ltS w) w' s m) := fun w' hw => hm.below hw (fun b hb => hb)
  have HZW : Hid (∀ w', Below w.heap.size w w' → Els encS (ltS w) (ltS w) w' Z nz zs) := fun w' hw => hz.below hw (fun b hb => hb) (fun b hb => hb)
  have HLI : Hid (∀ w', Below w.heap.size w w' → Calls Try.prog 31 #[msV s m] w' (RetP (fun v _ => v = .bool (ltM13 m)) w')) := fun w' hw => light13_any s m w' (hm.below hw (fun b hb => hb)) (fun b hb => Nat.lt_of_lt_of_le hb hw.size) (by omega) hlen
  rw [hL] at HLI
  have h1d : decide ((200 : Int) < (nz : Int)) = true := decide_eq_true (by omega)
  unfold msV mCells at HLI
  unfold quV msV
  unfold qCells at hw1
  unfold mCells at hw2 ⊢
  clear hm hq hz hb1 hb2 hz1 hz2 hlen hqs hqn hzc hnow hL h1
  go_enter Try.func7, Try.ntmps7
  go_upto_region 1 with (fail)
  rw [← hw1, ← hw2]
  clear hw1 hw2
  go_wp2_with (first
    | (go_at_call 30; (with_reducible refine (answers13_any w4).mono ?_); rintro e w5 ⟨rfl, hb5⟩)
    | (go_at_call 31; (with_reducible refine (HLI.out w3 (nx HB2.out hb3)).mono ?_); rintro e w4 ⟨v4, rfl, rfl, hb4⟩; obtain ⟨y0, y1, y2⟩ := (HQ1.out.below (nx hb3 hb4)).cells)
    | (go_at_call 30; (with_reducible refine (answers13_any w2).mono ?_); rintro e w3 ⟨rfl, hb3⟩; obtain ⟨z0, z1, z2, z3, z4, z5, z6, z7, z8, z9, z10, z11, z12, z13⟩ := (HM1.out.below hb3).cells)
    | fail)
  go_ret
  exact ⟨rfl, nx (nx HB2.out (nx hb3 hb4)) hb5⟩

set_option maxHeartbeats 8000000 in
theorem factZone_name (sq : QS) (qu : Qu) (s : MS) (m : Ms) (Z : Option Addr) (nz cz : Nat) (zs : List (List UInt8)) (now : Int) (w : World) (hq : QIn (ltS w) w sq qu) (hm : MIn (ltS w) w s m) (hz : Els encS (ltS w) (ltS w) w Z nz zs) (hzc : nz ≤ cz ∧ cz ≤ maxLen) (hnow : i64S now) (hqn : ∀ x ∈ m.qs, x.name.length ≤ 1048576) (hqs : m.qs.length ≤ 1048576) (hlen : (m.an.length + m.au.length + m.ex.length) * 168 ≤ 140737488355328) (hL : ltM13 m = true) (h1 : ¬ 200 < nz) (h2 : 200 < qu.name.length) :
    Calls Try.prog 7 #[quV sq qu, msV s m, .slice Z nz cz, .int .i64 now] w (LawT w) := by
  obtain ⟨w1, hw1⟩ : ∃ w1, w1 = w.alloc (.cells (qCells sq qu) 25) := ⟨_, rfl⟩
  obtain ⟨w2, hw2⟩ : ∃ w2, w2 = w1.alloc (.cells (mCells s m) 31) := ⟨_, rfl⟩
  have hb1 : Below w.heap.size w w1 := by rw [hw1]; exact bl.alloc (Nat.le_refl _) _
  have hb2 : Below w1.heap.size w1 w2 := by rw [hw2]; exact bl.alloc (Nat.le_refl _) _
  have hz1 : w1.heap.size = w.heap.size + 1 := by rw [hw1]; simp
  have hz2 : w2.heap.size = w.heap.size + 2 := by rw [hw2]; simp; omega
  have HQ1 : Hid (QRow w2 w.heap.size sq qu) := by
    have h : QRow w1 w.heap.size sq qu := by rw [hw1]; exact QRow.made w sq qu
    exact h.below hb2
  have HM1 : Hid (MRow w2 (w.heap.size + 1) s m) := by show MRow _ _ _ _; rw [hw2, ← hz1]; exact MRow.made w1 s m
  have HB2 : Hid (Below w.heap.size w w2) := nx hb1 hb2
  have HZ2 := Lib.hid hz2
  have HMI := Lib.hid hm
  have HQW : Hid (∀ w', Below w.heap.size w w' → QIn (ltS w) w' sq qu) := fun w' hw => hq.below hw (fun b hb => hb)
  have HMW : Hid (∀ w', Below w.heap.size w w' → MIn (ltS w) w' s m) := fun w' hw => hm.below hw (fun b hb => hb)
  have HZW : Hid (∀ w', Below w.heap.size w w' → Els encS (ltS w) (ltS w) w' Z nz zs) := fun w' hw => hz.below hw (fun b hb => hb) (fun b hb => hb)
  have HLI : Hid (∀ w', Below w.heap.size w w' → Calls Try.prog 31 #[msV s m] w' (RetP (fun v _ => v = .bool (ltM13 m)) w')) := fun w' hw => light13_any s m w' (hm.below hw (fun b hb => hb)) (fun b hb => Nat.lt_of_lt_of_le hb hw.size) (by omega) hlen
  rw [hL] at HLI
  have h1d : decide ((200 : Int) < (nz : Int)) = false := decide_eq_false (by omega)
  have h2d : decide ((200 : Int) < (qu.name.length : Int)) = true := decide_eq_true (by omega)
  unfold msV mCells at HLI
  unfold quV msV
  unfold qCells at hw1
  unfold mCells at hw2 ⊢
  clear hm hq hz hb1 hb2 hz1 hz2 hlen hqs hqn hzc hnow hL h1 h2
  go_enter Try.func7, Try.ntmps7
  go_upto_region 1 with (fail)
  rw [← hw1, ← hw2]
  clear hw1 hw2
  go_wp2_with (first
    | (go_at_call 30; (with_reducible refine (answers13_any w4).mono ?_); rintro e w5 ⟨rfl, hb5⟩)
    | (go_at_call 31; (with_reducible refine (HLI.out w3 (nx HB2.out hb3)).mono ?_); rintro e w4 ⟨v4, rfl, rfl, hb4⟩; obtain ⟨y0, y1, y2⟩ := (HQ1.out.below (nx hb3 hb4)).cells)
    | (go_at_call 30; (with_reducible refine (answers13_any w2).mono ?_); rintro e w3 ⟨rfl, hb3⟩; obtain ⟨z0, z1, z2, z3, z4, z5, z6, z7, z8, z9, z10, z11, z12, z13⟩ := (HM1.out.below hb3).cells)
    | fail)
  go_ret
  exact ⟨rfl, nx (nx HB2.out (nx hb3 hb4)) hb5⟩

set_option maxHeartbeats 16000000 in
theorem factZone_main (sq : QS) (qu : Qu) (s : MS) (m : Ms) (Z : Option Addr) (nz cz : Nat) (zs : List (List UInt8)) (now : Int) (w : World) (hq : QIn (ltS w) w sq qu) (hm : MIn (ltS w) w s m) (hz : Els encS (ltS w) (ltS w) w Z nz zs) (hzc : nz ≤ cz ∧ cz ≤ maxLen) (hnow : i64S now) (hqn : ∀ x ∈ m.qs, x.name.length ≤ 1048576) (hqs : m.qs.length ≤ 1048576) (hlen : (m.an.length + m.au.length + m.ex.length) * 168 ≤ 140737488355328) (hL : LtMsg13 m) (h1 : ¬ 200 < nz) (h2 : ¬ 200 < qu.name.length) :
    Calls Try.prog 7 #[quV sq qu, msV s m, .slice Z nz cz, .int .i64 now] w (LawT w) := by
  obtain ⟨w1, hw1⟩ : ∃ w1, w1 = w.alloc (.cells (qCells sq qu) 25) := ⟨_, rfl⟩
  obtain ⟨w2, hw2⟩ : ∃ w2, w2 = w1.alloc (.cells (mCells s m) 31) := ⟨_, rfl⟩
  have hb1 : Below w.heap.size w w1 := by rw [hw1]; exact bl.alloc (Nat.le_refl _) _
  have hb2 : Below w1.heap.size w1 w2 := by rw [hw2]; exact bl.alloc (Nat.le_refl _) _
  have hz1 : w1.heap.size = w.heap.size + 1 := by rw [hw1]; simp
  have hz2 : w2.heap.size = w.heap.size + 2 := by rw [hw2]; simp; omega
  have HQ1 : Hid (QRow w2 w.heap.size sq qu) := by
    have h : QRow w1 w.heap.size sq qu := by rw [hw1]; exact QRow.made w sq qu
    exact h.below hb2
  have HM1 : Hid (MRow w2 (w.heap.size + 1) s m) := by show MRow _ _ _ _; rw [hw2, ← hz1]; exact MRow.made w1 s m
  have HB2 : Hid (Below w.heap.size w w2) := nx hb1 hb2
  have HZ2 := Lib.hid hz2
  have HMI := Lib.hid hm
  have HQW : Hid (∀ w', Below w.heap.size w w' → QIn (ltS w) w' sq qu) := fun w' hw => hq.below hw (fun b hb => hb)
  have HMW : Hid (∀ w', Below w.heap.size w w' → MIn (ltS w) w' s m) := fun w' hw => hm.below hw (fun b hb => hb)
  have HZW : Hid (∀ w', Below w.heap.size w w' → Els encS (ltS w) (ltS w) w' Z nz zs) := fun w' hw => hz.below hw (fun b hb => hb) (fun b hb => hb)
  have HLI : Hid (∀ w', Below w.heap.size w w' → Calls Try.prog 31 #[msV s m] w' (RetP (fun v _ => v = .bool (ltM13 m)) w')) := fun w' hw => light13_any s m w' (hm.below hw (fun b hb => hb)) (fun b hb => Nat.lt_of_lt_of_le hb hw.size) (by omega) hlen
  rw [ltM13_yes hL] at HLI
  have h1d : decide ((200 : Int) < (nz : Int)) = false := decide_eq_false (by omega)
  have h2d : decide ((200 : Int) < (qu.name.length : Int)) = false := decide_eq_false (by omega)
  have HN : Hid (nz ≤ 200 ∧ qu.name.length ≤ 200) := ⟨by omega, by omega⟩
  have HLM := Lib.hid (lt13_ltM hL hqn)
  have HLEN : Hid ((m.an.length + m.au.length + m.ex.length) * 168 ≤ 140737488355328) := hlen
  have HALL : Hid ((m.an ++ m.au ++ m.ex).length ≤ 150) := hL.all
  have HNOW := Lib.hid hnow
  have HZC := Lib.hid hzc
  have HOM : Hid (∀ w', Below w.heap.size w w' → Calls Try.prog 33 #[msV s m] w' (RetP (fun v w' => ∃ s', v = msV s' m ∧ MIn (ltS w') w' s' m) w')) := fun w' hw => (ownMsg_any s m w' (hm.below hw (fun b hb => hb)) (fun b hb => Nat.lt_of_lt_of_le hb hw.size) HLM.out.light).mono (by rintro e w5 ⟨v5, rfl, ⟨s5, rfl, hi5⟩, hb5⟩; exact ⟨_, rfl, ⟨s5, rfl, hi5.mono (fun b hb => hb.2)⟩, hb5⟩)
  have HOG : Hid (∀ w', Below w.heap.size w w' → Calls Try.prog 33 #[msV s m] w' (RetP (fun v w'' => ∃ s', v = msV s' m ∧ MIn (geS w'.heap.size w'') w'' s' m) w')) := fun w' hw => ownMsg_any s m w' (hm.below hw (fun b hb => hb)) (fun b hb => Nat.lt_of_lt_of_le hb hw.size) HLM.out.light
  unfold msV mCells at HLI
  unfold quV msV
  unfold qCells at hw1
  unfold mCells at hw2 ⊢
  clear hm hq hz hb1 hb2 hz1 hz2 hlen hqs hqn hzc hnow hL h1 h2
  go_enter Try.func7, Try.ntmps7
  go_upto_region 1 with (fail)
  rw [← hw1, ← hw2]
  clear hw1 hw2
  generalize hqe : w.heap.size = q0 at HQ1 HM1 HZ2 ⊢
  have HQE := Lib.hid hqe
  clear hqe
  go_upto_region 3 with (first
    | (go_at_call 31; (with_reducible refine (HLI.out w3 (nx HB2.out hb3)).mono ?_); rintro e w4 ⟨v4, rfl, rfl, hb4⟩; obtain ⟨y0, y1, y2⟩ := (HQ1.out.below (nx hb3 hb4)).cells)
    | (go_at_call 30; (with_reducible refine (answers13_any w2).mono ?_); rintro e w3 ⟨rfl, hb3⟩; obtain ⟨z0, z1, z2, z3, z4, z5, z6, z7, z8, z9, z10, z11, z12, z13⟩ := (HM1.out.below hb3).cells)
    | fail)
  have HB4 : Hid (Below w.heap.size w w4) := nx HB2.out (nx hb3 hb4)
  have HM4 := Lib.hid (HM1.out.below (nx hb3 hb4))
  have HQ4 := Lib.hid (HQ1.out.below (nx hb3 hb4))
  clear hb3 hb4 z0 z1 z2 z3 z4 z5 z6 z7 z8 z9 z10 z11 z12 z13 h1d h2d y0 y1 y2
  obtain ⟨S, hSd⟩ : ∃ S : Nat → Prop, S = ltS w := ⟨_, rfl⟩
  obtain ⟨q, hqd⟩ : ∃ q, q = q0 + 1 := ⟨_, rfl⟩
  have HI : Hid (MIn S w4 s m) := by show MIn _ _ _ _; rw [hSd]; exact HMW.out w4 HB4.out
  have HSW : Hid (∀ b, S b → b < w4.heap.size) := by show ∀ b, _; rw [hSd]; exact fun b hb => Nat.lt_of_lt_of_le hb HB4.out.size
  rw [← hqd]
  have HRW : Hid (MRow w4 q s m) := by show MRow _ _ _ _; rw [hqd]; exact HM4.out
  have HQD := Lib.hid hqd
  clear hqd hSd
  have k0 : ∀ w', Below w4.heap.size w4 w' → w'.cell? ⟨q, 9, none⟩ = some (.slice s.A m.an.length s.ac) ∧ w'.cell? ⟨q, 10, none⟩ = some (.slice s.U m.au.length s.uc) ∧ w'.cell? ⟨q, 11, none⟩ = some (.slice s.X m.ex.length s.xc) := fun w' hb => ⟨((HRW.out.below hb).cell 9).trans rfl, ((HRW.out.below hb).cell 10).trans rfl, ((HRW.out.below hb).cell 11).trans rfl⟩
  have z0 := k0 w4 bl
  have z1 := k0 w4.drew bl.drew
  have z2 := k0 (w4.alloc (.cells #[] 84)) (bl.alloc (Nat.le_refl _) _)
  have z3 := k0 (w4.alloc (.cells #[] 84)).drew (bl.alloc (Nat.le_refl _) _).drew
  have KK := Lib.hid k0
  have hbase0 : w4.heap.size ≤ (w4.alloc (.cells #[] 84)).drew.heap.size := (bl.alloc (Nat.le_refl _) (.cells #[] 84)).drew.size
  have hown0 : OwnE encRR 84 noS (w4.alloc (.cells #[] 84)).drew w4.heap.size (.slice (some ⟨w4.heap.size, 0, none⟩) 0 0) [] := (ownE_lit0 (fun _ h => h.elim) (Nat.le_refl _)).below bl.drew
  have HBX : Hid (Below w4.heap.size w4 (w4.alloc (.cells #[] 84)).drew) := (bl.alloc (Nat.le_refl _) _).drew
  have hsS : ∀ (w' : World) (v : Value), Below w4.heap.size w4 w' → (∀ k, v.ownBlock = some k → w4.heap.size ≤ k) → ∀ b, S b → b < w'.heap.size ∧ some b ≠ v.ownBlock := fun w' v hb hv b hs => ⟨Nat.lt_of_lt_of_le (HSW.out b hs) hb.size, fun he => by have h1 := hv b he.symm; have h2 := HSW.out b hs; omega⟩
  have HSS := Lib.hid hsS
  have HHO := Lib.hid hown0
  have hA1 : (([] : List RR).length + m.an.length) * 168 ≤ 140737488355328 := by have := HLEN.out; simp; omega
  have hA2 : ([] ++ m.an).length * 168 + m.au.length * 168 ≤ 140737488355328 := by have := HLEN.out; simp; omega
  have hA3 : ([] ++ m.an ++ m.au).length * 168 + m.ex.length * 168 ≤ 140737488355328 := by have := HLEN.out; simp; omega
  have hM1 : ([] : List RR).length + m.an.length ≤ maxLen := by have := HLEN.out; simp [maxLen]; omega
  have hM2 : ([] ++ m.an).length + m.au.length ≤ maxLen := by have := HLEN.out; simp [maxLen]; omega
  have hM3 : ([] ++ m.an ++ m.au).length + m.ex.length ≤ maxLen := by have := HLEN.out; simp [maxLen]; omega
  have HA := Lib.hid (And.intro hA1 (And.intro hA2 hA3))
  have HM := Lib.hid (And.intro hM1 (And.intro hM2 hM3))
  clear k0 hsS hA1 hA2 hA3 hM1 hM2 hM3
  go_upto_region 3 with (fail)
  go_region_held3 (fun w' => w'.cell? ⟨q, 9, none⟩ = some (.slice s.A m.an.length s.ac) ∧ w'.cell? ⟨q, 10, none⟩ = some (.slice s.U m.au.length s.uc) ∧ w'.cell? ⟨q, 11, none⟩ = some (.slice s.X m.ex.length s.xc))
    (first | with_reducible exact z0 | with_reducible exact z1 | with_reducible exact z2 | with_reducible exact z3 | with_reducible exact z4 | with_reducible exact z5 | with_reducible exact z6 | fail)
    (first
      | (refine step_appE (w := u2) elRR (by rfl) (.tmp 39) (.tmp 41) (by rfl) w4.heap.size v2 ([] ++ m.an ++ m.au) (by rfl) hown2 s.X m.ex.length s.xc m.ex (HI.out.x.keep (fun b hb => HB2.out.block b (HSW.out b hb)) (fun b hb => HB2.out.block b (HSW.out b hb))) (HSS.out _ _ HB2.out (fun k hk => (OwnE.lt hown2 k hk).1)) (by rfl) (by have h := HA.out.2.2; rw [Nat.add_mul]; exact h) HM.out.2.2 (Nat.le_trans (Nat.le_refl _) HB2.out.size) ?_; intro v3 u3 hown3 hg3 hat3; have HB3 : Hid (Below w4.heap.size w4 u3) := (Below.grown HB2.out hg3 HB2.out.size (fun k hk => (OwnE.lt hown2 k hk).1)); have z6 := KK.out u3 HB3.out; clear hat3 hg3)
      | (refine step_appE (w := u1) elRR (by rfl) (.tmp 36) (.tmp 38) (by rfl) w4.heap.size v1 ([] ++ m.an) (by rfl) hown1 s.U m.au.length s.uc m.au (HI.out.u.keep (fun b hb => HB1.out.block b (HSW.out b hb)) (fun b hb => HB1.out.block b (HSW.out b hb))) (HSS.out _ _ HB1.out (fun k hk => (OwnE.lt hown1 k hk).1)) (by rfl) (by have h := HA.out.2.1; rw [Nat.add_mul]; exact h) HM.out.2.1 (Nat.le_trans (Nat.le_refl _) HB1.out.size) ?_; intro v2 u2 hown2 hg2 hat2; have HB2 : Hid (Below w4.heap.size w4 u2) := (Below.grown HB1.out hg2 HB1.out.size (fun k hk => (OwnE.lt hown1 k hk).1)); have z5 := KK.out u2 HB2.out; clear hat2 hg2)
      | (refine step_appE (w := (w4.alloc (.cells #[] 84)).drew) elRR (by rfl) (.tmp 33) (.tmp 35) (by rfl) w4.heap.size (.slice (some ⟨w4.heap.size, 0, none⟩) 0 0) ([]) (by rfl) HHO.out s.A m.an.length s.ac m.an (HI.out.a.keep (fun b hb => HBX.out.block b (HSW.out b hb)) (fun b hb => HBX.out.block b (HSW.out b hb))) (HSS.out _ _ HBX.out (fun k hk => (OwnE.lt HHO.out k hk).1)) (by rfl) HA.out.1 HM.out.1 (Nat.le_trans (Nat.le_refl _) HBX.out.size) ?_; intro v1 u1 hown1 hg1 hat1; have HB1 : Hid (Below w4.heap.size w4 u1) := (Below.grown HBX.out hg1 HBX.out.size (fun k hk => (OwnE.lt HHO.out k hk).1)); have z4 := KK.out u1 HB1.out; clear hat1 hg1)
      | fail)
  rw [List.nil_append] at hown3
  obtain ⟨A3, c3, hv3, hr3, hl3, hm3⟩ := OwnE.rdE hown3
  obtain ⟨n3, hn3⟩ : ∃ n, n = (m.an ++ m.au ++ m.ex).length := ⟨_, rfl⟩
  rw [← hn3] at hv3 hr3
  subst hv3
  have HR3 := Lib.hid hr3
  have HN3 : Hid (n3 ≤ 150) := by show _ ≤ _; rw [hn3]; exact HALL.out
  clear z0 z1 z2 z3 z4 z5 z6 hown0 hown1 hown2 hown3 hr3 hl3 hm3 hn3 HA HM HHO HSS HBX hbase0 HB1 HB2 KK HI HSW
  have HB3' : Hid (Below w.heap.size w u3) := nx HB4.out HB3.out
  have HQ3 : Hid (QRow u3 q0 sq qu) := HQ4.out.below HB3.out
  have HM3 : Hid (MRow u3 q s m) := HRW.out.below HB3.out
  go_upto_region 4 with (fail)
  go_cut [10] (fun lv wc => ∃ (A9 : Option Addr) (n9 c9 : Nat), lv = .slice A9 n9 c9 ∧ Hid (FzSt m zs now u3 wc A9 n9 c9))
  case first =>
    have hbd : Below u3.heap.size u3 u3.drew := bl.drew
    have HBD := Lib.hid hbd
    have hS3 : QRow u3.drew q0 sq qu ∧ MRow u3.drew q s m := ⟨HQ3.out.below hbd, HM3.out.below hbd⟩
    have HB3d : Hid (Below w.heap.size w u3.drew) := HB3'.out.drew
    clear hbd
    refine wp_region_any (by kernel_rfl) ?_
    change wpAny _ _ _ _ _ _ _ (World.drew u3)
    refine wpAny_of_P (S := fun W => QRow W q0 sq qu ∧ MRow W q s m) (dem := fun _ => true) _ _ _ _ ?_
    refine wpAnyP_take (i := 0) (v := .agg #[.slice sq.A qu.name.length sq.c, .int .i64 qu.type, .int .i64 qu.cls]) rfl (by kernel_rfl) (by kernel_rfl) (by kernel_rfl) (by kernel_rfl) (by kernel_rfl) (fun _ _ _ h => h) (Or.inl ⟨by kernel_rfl, by (intro W hW; have c0 := hW.1.cells; obtain ⟨y0, y1, y2⟩ := c0; go_simp)⟩) hS3 ?_
    refine wpAnyP_take (i := 1) (v := .agg (mCells s m)) rfl (by kernel_rfl) (by kernel_rfl) (by kernel_rfl) (by kernel_rfl) (by kernel_rfl) (fun _ _ _ h => h) (yields_row rowMs (by rfl) (.tmp 5) rfl q rfl (mCells s m) (fun W hW => hW.2) rfl) hS3 ?_
    refine wpAnyP_take (i := 4) (v := .slice Z nz cz) rfl (by kernel_rfl) (by kernel_rfl) (by kernel_rfl) (by kernel_rfl) (by kernel_rfl) (fun _ _ _ h => h) (Or.inl ⟨by kernel_rfl, by (intro W hW; go_simp)⟩) hS3 ?_
    refine wpAnyP_take (i := 6) (v := .int .i64 now) rfl (by kernel_rfl) (by kernel_rfl) (by kernel_rfl) (by kernel_rfl) (by kernel_rfl) (fun _ _ _ h => h) (Or.inl ⟨by kernel_rfl, by (intro W hW; go_simp)⟩) hS3 ?_
    refine wpAnyP_two (i := 2) (j := 3) rfl rfl (by kernel_rfl) (fun K hK => ?_) (fun K hK => ?_)
    · go_simp
      refine (HOM.out _ HB3d.out).mono ?_
      rintro e w5 ⟨v5, rfl, ⟨s5, rfl, hi5⟩, hb5⟩
      have HI5 := Lib.hid hi5
      have HB5 := Lib.hid hb5
      clear hi5 hb5
      refine hK _ _ (fun _ => ⟨QRow.below (w := u3.drew) hS3.1 HB5.out, MRow.below (w := u3.drew) hS3.2 HB5.out⟩) ?_
      clear hK
      obtain ⟨b7, hb7⟩ : ∃ b, b = w5.heap.size := ⟨_, rfl⟩
      obtain ⟨w7, hw7⟩ : ∃ w7, w7 = w5.alloc (.cells #[] 9) := ⟨_, rfl⟩
      have hb57 : Below w5.heap.size w5 w7 := by rw [hw7]; exact bl.alloc (Nat.le_refl _) _
      have HB7 : Hid (Below u3.drew.heap.size u3.drew w7) := nx (w := u3.drew) HB5.out hb57
      have HI7 : Hid (MIn (fun b => b < w7.heap.size ∧ b ≠ b7) w7 s5 m) := (HI5.out.below hb57 (fun b hb => hb)).mono (fun b hb => ⟨Nat.lt_of_lt_of_le hb hb57.size, by have h : b < w5.heap.size := hb; omega⟩)
      have HO7 : Hid (OwnE encS 9 noS w7 u3.drew.heap.size (.slice (some ⟨b7, 0, none⟩) 0 0) []) := by show OwnE _ _ _ _ _ _ _; rw [hw7, hb7]; exact ownE_lit0 (fun _ h => h.elim) HB5.out.size
      have HB7E : Hid (b7 = w5.heap.size) := hb7
      have HW7 := Lib.hid hw7
      clear hb7 hw7 hb57
      refine wpAnyP_one (i := 3) rfl (by kernel_rfl) fun K hK => ?_
      go_simp
      refine hK _ (w5.alloc (.cells #[] 9)) (fun _ => by rw [← HW7.out]; exact ⟨QRow.below (w := u3.drew) hS3.1 HB7.out, MRow.below (w := u3.drew) hS3.2 HB7.out⟩) ?_
      clear hK
      rw [← HW7.out]
      have HB07 : Hid (Below w.heap.size w w7) := HB3d.out.trans (HB7.out.mono HB3d.out.size)
      have HZ7 : Hid (Els encS (ltS w) (ltS w) w7 Z nz zs) := HZW.out w7 HB07.out
      have HBZ : Hid (u3.drew.heap.size ≤ w7.heap.size) := HB7.out.size
      have HS7 : Hid (∀ b, ltS w b → b < w7.heap.size ∧ some b ≠ (Value.slice (some ⟨b7, 0, none⟩) 0 0).ownBlock) := fun b hb => ⟨Nat.lt_of_lt_of_le hb HB07.out.size, fun e => by
        have e2 : some b = some b7 := e
        injection e2 with e3
        have h0 := (OwnE.lt HO7.out b7 rfl).1
        have h1 : w.heap.size ≤ u3.drew.heap.size := HB3d.out.size
        have h2 : b < w.heap.size := hb
        omega⟩
      have HNB : Hid ((([] : List (List UInt8)).length + nz) * 16 ≤ 140737488355328) := by show _ ≤ _; have := HN.out.1; simp; omega
      have HNM : Hid (([] : List (List UInt8)).length + nz ≤ maxLen) := by show _ ≤ _; have := HN.out.1; unfold maxLen; simp; omega
      refine wpAnyP_one (i := 5) rfl (by kernel_rfl) fun K hK => ?_
      refine step_appE (w := w7) elS (by kernel_rfl) (.tmp 46) (.tmp 47) rfl u3.drew.heap.size (.slice (some ⟨b7, 0, none⟩) 0 0) [] (by rw [HB7E.out]; rfl) HO7.out Z nz cz zs HZ7.out HS7.out rfl HNB.out HNM.out HBZ.out ?_
      intro v8 w8 hown8 hg8 hat8
      have HB8' : Hid (Below u3.drew.heap.size u3.drew w8) := Below.grown HB7.out hg8 HB7.out.size (fun k hk => (OwnE.lt HO7.out k hk).1)
      have HK7 : Hid (∀ b, b < w7.heap.size → some b ≠ (Value.slice (some ⟨b7, 0, none⟩) 0 0).ownBlock → w8.heap[b]? = w7.heap[b]?) := fun b hb1 hb2 => hg8.block b hb1 hb2
      obtain ⟨A8, c8, hv8, he8, hl8, hm8⟩ := OwnE.form hown8
      have hlt8 := OwnE.lt hown8
      rw [List.nil_append] at hv8 he8 hl8
      rw [HZ7.out.len] at hv8 he8 hl8
      subst hv8
      have HB8 : Hid (Below w.heap.size w w8) := HB3d.out.trans (HB8'.out.mono HB3d.out.size)
      have HE8 : Hid (Els encS (ltS w8) (ltS w8) w8 A8 nz zs) := he8.mono (fun b hb => (hlt8 b hb).2) (fun b hb => hb.elim (fun h => h.elim) (fun h => Nat.lt_of_lt_of_le h HB8.out.size))
      have HLM8 : Hid (nz ≤ c8 ∧ c8 ≤ maxLen) := ⟨hl8, hm8⟩
      have HI8 : Hid (MIn (ltS w8) w8 s5 m) := (HI7.out.keep (fun b hb => HK7.out b hb.1 (fun e => hb.2 (by injection e)))).mono (fun b hb => Nat.lt_of_lt_of_le hb.1 hg8.size)
      clear hown8 hg8 hat8 he8 hl8 hm8 hlt8
      refine hK _ _ (fun _ => ⟨QRow.below (w := u3.drew) hS3.1 HB8'.out, MRow.below (w := u3.drew) hS3.2 HB8'.out⟩) ?_
      clear hK
      refine wpAnyP_one (i := 7) rfl (by kernel_rfl) fun K hK => ?_
      go_simp
      refine (from_any ⟨sq, qu, s5, m, A8, nz, c8, zs, now⟩ w8 (S := ltS w8) HI8.out ((HQW.out w8 HB8.out).mono (fun b hb => Nat.lt_of_lt_of_le hb HB8.out.size)) HE8.out HLM8.out (fun b hb => hb) HLM.out (by have := HN.out.2; show qu.name.length ≤ 1000; omega) (by have := HN.out.1; show nz ≤ 1000000000; omega) HNOW.out).mono ?_
      rintro e w9 ⟨v9, rfl, ⟨SF, out, hown, hol, hgd⟩, hb9⟩
      obtain ⟨A9, c9, hv9, he9, hl9, hm9⟩ := OwnE.form hown
      have hlt9 := OwnE.lt hown
      have hltS := OwnE.S_lt hown
      obtain ⟨n9, hn9⟩ : ∃ n, n = out.length := ⟨_, rfl⟩
      rw [← hn9] at hv9 he9 hl9 hol
      have HFZ : Hid (FzSt m zs now u3 w9 A9 n9 c9) := ⟨w8.heap.size, out, HBD.out.trans (nx (w := u3.drew) HB8'.out hb9), he9.mono (fun b hb => (hlt9 b hb).2) (fun b hb => (hltS b hb).1), hol, hl9, fun f hf => (hgd f hf).goodZ⟩
      subst hv9
      refine hK _ _ (fun _ => ⟨(QRow.below (w := u3.drew) hS3.1 HB8'.out).below hb9, (MRow.below (w := u3.drew) hS3.2 HB8'.out).below hb9⟩) ?_
      clear hK hown hol hgd he9 hl9 hm9 hlt9 hltS hb9 hn9
      refine wpAnyP_one (i := 8) rfl (by kernel_rfl) fun K hK => ?_
      go_simp
      refine hK _ _ (fun h => absurd h (by rw [show needS _ _ _ = false from by kernel_rfl]; decide)) ?_
      clear hK
      refine wpAnyP_done (by kernel_rfl) ?_ _
      go_wp2
      go_meet
      case rel => exact ⟨A9, n9, c9, rfl, HFZ⟩
    · obtain ⟨b7, hb7⟩ : ∃ b, b = u3.drew.heap.size := ⟨_, rfl⟩
      obtain ⟨wx, hwx⟩ : ∃ wx, wx = u3.drew.alloc (.cells #[] 9) := ⟨_, rfl⟩
      have HBX : Hid (Below u3.drew.heap.size u3.drew wx) := by show Below _ _ _; rw [hwx]; exact bl.alloc (Nat.le_refl _) _
      have HOX : Hid (OwnE encS 9 noS wx u3.drew.heap.size (.slice (some ⟨b7, 0, none⟩) 0 0) []) := by show OwnE _ _ _ _ _ _ _; rw [hwx, hb7]; exact ownE_lit0 (fun _ h => h.elim) (Nat.le_refl _)
      have HB7E : Hid (b7 = u3.drew.heap.size) := hb7
      have HWX := Lib.hid hwx
      clear hb7 hwx
      go_simp
      refine hK _ (u3.drew.alloc (.cells #[] 9)) (fun _ => by rw [← HWX.out]; exact ⟨QRow.below (w := u3.drew) hS3.1 HBX.out, MRow.below (w := u3.drew) hS3.2 HBX.out⟩) ?_
      clear hK
      rw [← HWX.out]
      refine wpAnyP_one (i := 2) rfl (by kernel_rfl) fun K hK => ?_
      go_simp
      refine (HOG.out _ (HB3d.out.trans (HBX.out.mono HB3d.out.size))).mono ?_
      rintro e w7 ⟨v5, rfl, ⟨s5, rfl, hi5⟩, hb5⟩
      have HB7 : Hid (Below u3.drew.heap.size u3.drew w7) := nx (w := u3.drew) HBX.out hb5
      have HI7 : Hid (MIn (fun b => b < w7.heap.size ∧ b ≠ b7) w7 s5 m) := hi5.mono (fun b hb => ⟨hb.2, by have h1 : wx.heap.size ≤ b := hb.1; have h2 := (OwnE.lt HOX.out b7 rfl).2; omega⟩)
      have HO7 : Hid (OwnE encS 9 noS w7 u3.drew.heap.size (.slice (some ⟨b7, 0, none⟩) 0 0) []) := HOX.out.below hb5
      refine hK _ _ (fun _ => ⟨QRow.below (w := u3.drew) hS3.1 HB7.out, MRow.below (w := u3.drew) hS3.2 HB7.out⟩) ?_
      clear hK hi5 hb5
      have HB07 : Hid (Below w.heap.size w w7) := HB3d.out.trans (HB7.out.mono HB3d.out.size)
      have HZ7 : Hid (Els encS (ltS w) (ltS w) w7 Z nz zs) := HZW.out w7 HB07.out
      have HBZ : Hid (u3.drew.heap.size ≤ w7.heap.size) := HB7.out.size
      have HS7 : Hid (∀ b, ltS w b → b < w7.heap.size ∧ some b ≠ (Value.slice (some ⟨b7, 0, none⟩) 0 0).ownBlock) := fun b hb => ⟨Nat.lt_of_lt_of_le hb HB07.out.size, fun e => by
        have e2 : some b = some b7 := e
        injection e2 with e3
        have h0 := (OwnE.lt HO7.out b7 rfl).1
        have h1 : w.heap.size ≤ u3.drew.heap.size := HB3d.out.size
        have h2 : b < w.heap.size := hb
        omega⟩
      have HNB : Hid ((([] : List (List UInt8)).length + nz) * 16 ≤ 140737488355328) := by show _ ≤ _; have := HN.out.1; simp; omega
      have HNM : Hid (([] : List (List UInt8)).length + nz ≤ maxLen) := by show _ ≤ _; have := HN.out.1; unfold maxLen; simp; omega
      refine wpAnyP_one (i := 5) rfl (by kernel_rfl) fun K hK => ?_
      refine step_appE (w := w7) elS (by kernel_rfl) (.tmp 46) (.tmp 47) rfl u3.drew.heap.size (.slice (some ⟨b7, 0, none⟩) 0 0) [] (by rw [HB7E.out]; rfl) HO7.out Z nz cz zs HZ7.out HS7.out rfl HNB.out HNM.out HBZ.out ?_
      intro v8 w8 hown8 hg8 hat8
      have HB8' : Hid (Below u3.drew.heap.size u3.drew w8) := Below.grown HB7.out hg8 HB7.out.size (fun k hk => (OwnE.lt HO7.out k hk).1)
      have HK7 : Hid (∀ b, b < w7.heap.size → some b ≠ (Value.slice (some ⟨b7, 0, none⟩) 0 0).ownBlock → w8.heap[b]? = w7.heap[b]?) := fun b hb1 hb2 => hg8.block b hb1 hb2
      obtain ⟨A8, c8, hv8, he8, hl8, hm8⟩ := OwnE.form hown8
      have hlt8 := OwnE.lt hown8
      rw [List.nil_append] at hv8 he8 hl8
      rw [HZ7.out.len] at hv8 he8 hl8
      subst hv8
      have HB8 : Hid (Below w.heap.size w w8) := HB3d.out.trans (HB8'.out.mono HB3d.out.size)
      have HE8 : Hid (Els encS (ltS w8) (ltS w8) w8 A8 nz zs) := he8.mono (fun b hb => (hlt8 b hb).2) (fun b hb => hb.elim (fun h => h.elim) (fun h => Nat.lt_of_lt_of_le h HB8.out.size))
      have HLM8 : Hid (nz ≤ c8 ∧ c8 ≤ maxLen) := ⟨hl8, hm8⟩
      have HI8 : Hid (MIn (ltS w8) w8 s5 m) := (HI7.out.keep (fun b hb => HK7.out b hb.1 (fun e => hb.2 (by injection e)))).mono (fun b hb => Nat.lt_of_lt_of_le hb.1 hg8.size)
      clear hown8 hg8 hat8 he8 hl8 hm8 hlt8
      refine hK _ _ (fun _ => ⟨QRow.below (w := u3.drew) hS3.1 HB8'.out, MRow.below (w := u3.drew) hS3.2 HB8'.out⟩) ?_
      clear hK
      refine wpAnyP_one (i := 7) rfl (by kernel_rfl) fun K hK => ?_
      go_simp
      refine (from_any ⟨sq, qu, s5, m, A8, nz, c8, zs, now⟩ w8 (S := ltS w8) HI8.out ((HQW.out w8 HB8.out).mono (fun b hb => Nat.lt_of_lt_of_le hb HB8.out.size)) HE8.out HLM8.out (fun b hb => hb) HLM.out (by have := HN.out.2; show qu.name.length ≤ 1000; omega) (by have := HN.out.1; show nz ≤ 1000000000; omega) HNOW.out).mono ?_
      rintro e w9 ⟨v9, rfl, ⟨SF, out, hown, hol, hgd⟩, hb9⟩
      obtain ⟨A9, c9, hv9, he9, hl9, hm9⟩ := OwnE.form hown
      have hlt9 := OwnE.lt hown
      have hltS := OwnE.S_lt hown
      obtain ⟨n9, hn9⟩ : ∃ n, n = out.length := ⟨_, rfl⟩
      rw [← hn9] at hv9 he9 hl9 hol
      have HFZ : Hid (FzSt m zs now u3 w9 A9 n9 c9) := ⟨w8.heap.size, out, HBD.out.trans (nx (w := u3.drew) HB8'.out hb9), he9.mono (fun b hb => (hlt9 b hb).2) (fun b hb => (hltS b hb).1), hol, hl9, fun f hf => (hgd f hf).goodZ⟩
      subst hv9
      refine hK _ _ (fun _ => ⟨(QRow.below (w := u3.drew) hS3.1 HB8'.out).below hb9, (MRow.below (w := u3.drew) hS3.2 HB8'.out).below hb9⟩) ?_
      clear hK hown hol hgd he9 hl9 hm9 hlt9 hltS hb9 hn9
      refine wpAnyP_one (i := 8) rfl (by kernel_rfl) fun K hK => ?_
      go_simp
      refine hK _ _ (fun h => absurd h (by rw [show needS _ _ _ = false from by kernel_rfl]; decide)) ?_
      clear hK
      refine wpAnyP_done (by kernel_rfl) ?_ _
      go_wp2
      go_meet
      case rel => exact ⟨A9, n9, c9, rfl, HFZ⟩
  case rest =>
    obtain ⟨A9, n9, c9, rfl, HFZ⟩ := hcut
    obtain ⟨B0, out, hbc, he0, hn0, hc0, hgd⟩ := HFZ.out
    have HBC : Hid (Below w.heap.size w wc) := nx HB3'.out hbc
    have HE := Lib.hid he0
    have HGD := Lib.hid hgd
    have HCC := Lib.hid hc0
    have hn9 : n9 ≤ 5000 := hn0
    have HAR : Hid (∀ w', Below wc.heap.size wc w' → RdE encRR w' A3 n3 (m.an ++ m.au ++ m.ex)) := fun w' hw => RdE.below (RdE.below HR3.out hbc) hw
    have HZZ : Hid (∀ w', Below wc.heap.size wc w' → RdE encS w' Z nz zs) := fun w' hw => (HZW.out w' (nx HBC.out hw)).mono (fun b hb => Nat.lt_of_lt_of_le hb (nx HBC.out hw).size) (fun b hb => Nat.lt_of_lt_of_le hb (nx HBC.out hw).size)
    clear HFZ hbc he0 hgd hn0 hc0
    go_upto_region 6 with (fail)
    go_loopw [11] (fun iv wr => ∃ i : Nat, iv = .int .i64 (i : Int) ∧ i ≤ n9 ∧ Hid (Below wc.heap.size wc wr)) (fun iv _ => n9 - (intOf iv).toNat)
    case atStart => exact ⟨0, rfl, Nat.zero_le _, bl⟩
    case round =>
      obtain ⟨i, rfl, hi, HBW⟩ := hrel
      by_cases hin : i < n9
      rotate_left
      · have hin' : ¬ (i : Int) < (n9 : Int) := by omega
        go_wp2
        go_ret
        exact ⟨rfl, nx HBC.out HBW.out⟩
      have hin' : (i : Int) < (n9 : Int) := by omega
      obtain ⟨f, hf⟩ : ∃ f, out[i]? = some f := ⟨_, List.getElem?_eq_getElem (by rw [HE.out.len]; exact hin)⟩
      have HG := Lib.hid (HGD.out f (List.mem_of_getElem? hf))
      obtain ⟨bf, of, sf, hA, hbf, hfi, hfc⟩ := fa_at HE.out hf
      have d0 : wr.cell? ⟨bf, of + i * 13, none⟩ = some (.slice sf.A f.name.length sf.ac) := below_cell HBW.out (hfc 0 _ rfl)
      have d1 : wr.cell? ⟨bf, of + i * 13 + 1, none⟩ = some (.int .i64 f.type) := below_cell HBW.out (hfc 1 _ rfl)
      have d2 : wr.cell? ⟨bf, of + i * 13 + 2, none⟩ = some (.int .i64 f.kind) := below_cell HBW.out (hfc 2 _ rfl)
      have d3 : wr.cell? ⟨bf, of + i * 13 + 3, none⟩ = some (.int .i64 f.rank) := below_cell HBW.out (hfc 3 _ rfl)
      have d4 : wr.cell? ⟨bf, of + i * 13 + 4, none⟩ = some (.int .i64 f.got) := below_cell HBW.out (hfc 4 _ rfl)
      have d5 : wr.cell? ⟨bf, of + i * 13 + 5, none⟩ = some (.int .i64 f.ttl) := below_cell HBW.out (hfc 5 _ rfl)
      have d6 : wr.cell? ⟨bf, of + i * 13 + 6, none⟩ = some (.slice sf.S f.set.length sf.sc) := below_cell HBW.out (hfc 6 _ rfl)
      have d7 : wr.cell? ⟨bf, of + i * 13 + 7, none⟩ = some (.slice sf.Z f.zone.length sf.zc) := below_cell HBW.out (hfc 7 _ rfl)
      have d8 : wr.cell? ⟨bf, of + i * 13 + 8, none⟩ = some (.slice sf.d.A0 f.soa.bytes.length sf.d.c0) := below_cell HBW.out (hfc 8 _ rfl)
      have d9 : wr.cell? ⟨bf, of + i * 13 + 9, none⟩ = some (.slice sf.d.A1 f.soa.host.length sf.d.c1) := below_cell HBW.out (hfc 9 _ rfl)
      have d10 : wr.cell? ⟨bf, of + i * 13 + 10, none⟩ = some (.slice sf.d.A2 f.soa.mail.length sf.d.c2) := below_cell HBW.out (hfc 10 _ rfl)
      have d11 : wr.cell? ⟨bf, of + i * 13 + 11, none⟩ = some (.slice sf.d.A3 f.soa.nums.length sf.d.c3) := below_cell HBW.out (hfc 11 _ rfl)
      have d12 : wr.cell? ⟨bf, of + i * 13 + 12, none⟩ = some (.slice sf.d.A4 f.soa.texts.length sf.d.c4) := below_cell HBW.out (hfc 12 _ rfl)
      have HFI : Hid (∀ w', Below wc.heap.size wc w' → FaIn (ltS w') w' sf f) := fun w' hw => (hfi.keep (fun b hb => hw.block b hb.1)).mono (fun b hb => Nat.lt_of_lt_of_le hb.1 hw.size)
      rw [hA]
      obtain ⟨g, hg⟩ : ∃ g, g = wr.heap.size := ⟨_, rfl⟩
      obtain ⟨w1, hw1⟩ : ∃ w1, w1 = wr.alloc (.cells (faCells sf f) 48) := ⟨_, rfl⟩
      have hb1 : Below wr.heap.size wr w1 := by rw [hw1]; exact bl.alloc (Nat.le_refl _) _
      have HR1 : Hid (FaRow w1 g sf f) := by show FaRow _ _ _ _; rw [hw1, hg]; exact FaRow.made wr sf f
      have HBW1 : Hid (Below wc.heap.size wc w1) := nx HBW.out hb1
      unfold faCells at hw1
      clear hf hbf hfi hfc hA hb1
      go_upto_region 9 with (fail)
      rw [← hw1]
      clear hw1 d0 d1 d2 d3 d4 d5 d6 d7 d8 d9 d10 d11 d12
      rw [← hg]
      clear hg
      have HSM := Lib.hid (fineF_sm HG.out.fine)
      have HSND := Lib.hid (rsoundF_any sf f w1 (HFI.out w1 HBW1.out) (fun b hb => hb) HSM.out.ltF)
      rw [HG.out.fine] at HSND
      have HUN : Hid (∀ w', Below w1.heap.size w1 w' → Calls Try.prog 35 #[.slice sf.A f.name.length sf.ac, .slice Z nz cz] w' (RetP (fun v _ => v = .bool true) w')) := fun w' hw => by
        have h := runder_any sf.A Z f.name.length sf.ac nz cz f.name zs w' (HFI.out w' (nx HBW1.out hw)).n (HZZ.out w' (nx HBW1.out hw)) (by have := HSM.out.n; omega) (by have := HN.out.1; omega) (HFI.out w' (nx HBW1.out hw)).cn.1
        rw [HG.out.under] at h
        exact h
      obtain ⟨x0, x1, x2, x3, x4, x5, x6, x7, x8, x9, x10, x11, x12⟩ := HR1.out.cells
      have HX : Hid (∀ w', Below w1.heap.size w1 w' → w'.cell? ⟨g, 0, none⟩ = some (.slice sf.A f.name.length sf.ac) ∧ w'.cell? ⟨g, 4, none⟩ = some (.int .i64 now)) := fun w' hw => ⟨(HR1.out.below hw).cells.1, by rw [← HG.out.got]; exact (HR1.out.below hw).cells.2.2.2.2.1⟩
      unfold faV faCells at HSND
      go_upto_region 11 with (first
        | (go_at_call 34; refine HSND.out.mono ?_; rintro e w2 ⟨v2, rfl, rfl, hb2⟩; have HB2' := Lib.hid hb2; obtain ⟨x0', x4'⟩ := HX.out w2 hb2; clear hb2)
        | (go_at_call 35; refine (HUN.out w2 HB2'.out).mono ?_; rintro e w3 ⟨v3, rfl, rfl, hb3⟩; have HB3'' := Lib.hid (nx HB2'.out hb3); obtain ⟨x0'', x4''⟩ := HX.out w3 HB3''.out; clear hb3)
        | fail)
      clear x0 x1 x2 x3 x4 x5 x6 x7 x8 x9 x10 x11 x12 x0' x4' x0'' x4''
      have HR3' : Hid (FaRow w3 g sf f) := HR1.out.below HB3''.out
      have HBW3 : Hid (Below wc.heap.size wc w3) := nx HBW1.out HB3''.out
      obtain ⟨x0, x1, x2, x3, x4, x5, x6, x7, x8, x9, x10, x11, x12⟩ := HR3'.out.cells
      by_cases hk : f.kind = 1
      rotate_left
      · have hk' : (f.kind == 1) = false := beq_eq_false_iff_ne.2 hk
        obtain ⟨hzu, r, hr, r1, r2, r3, r4⟩ := HG.out.neg hk
        obtain ⟨j, hj⟩ := List.getElem?_of_mem hr
        have HUZ := Lib.hid (runder_any sf.Z Z f.zone.length sf.zc nz cz f.zone zs w3 (HFI.out w3 HBW3.out).z (HZZ.out w3 HBW3.out) (by have := HSM.out.z; omega) (by have := HN.out.1; omega) (HFI.out w3 HBW3.out).cz.1)
        rw [hzu] at HUZ
        have HTH : Hid (∀ w', Below w3.heap.size w3 w' → Calls Try.prog 36 #[.slice A3 n3 c3, .slice sf.Z f.zone.length sf.zc, .int .i64 6, dsV sf.d f.soa] w' (RetP (fun v _ => v = .bool true) w')) := fun w' hw => there_any A3 sf.Z n3 c3 f.zone.length sf.zc (m.an ++ m.au ++ m.ex) f.zone 6 sf.d f.soa w' (HAR.out w' (nx HBW3.out hw)) (HFI.out w' (nx HBW3.out hw)).z (by have := HN3.out; omega) (by have := HSM.out.z; unfold maxLen; omega) ((HFI.out w' (nx HBW3.out hw)).d.rd (fun b hb => hb)) j r hj r1 r2 (by rw [r3]) (by rw [r4]; exact sameD_refl _)
        unfold dsV at HTH
        clear hk hzu hr hj r1 r2 r3 r4
        go_wp2_with (first
          | (go_at_call 35; refine HUZ.out.mono ?_; rintro e w4 ⟨v4, rfl, rfl, hb4⟩; have HB4' := Lib.hid hb4; obtain ⟨y0, y1, y2, y3, y4, y5, y6, y7, y8, y9, y10, y11, y12⟩ := (HR3'.out.below hb4).cells; clear hb4)
          | (go_at_call 36; refine (HTH.out w4 HB4'.out).mono ?_; rintro e w5 ⟨v5, rfl, rfl, hb5⟩; have HB5 := Lib.hid hb5; clear hb5)
          | fail)
        go_roundw
        case rel => exact ⟨i + 1, by go_num, by omega, nx (nx HBW3.out HB4'.out) HB5.out⟩
        case measure => simp [intOf]; omega
      have hk' : (f.kind != 1) = false := by simp [hk]
      have HHAS := Lib.hid (HG.out.has hk)
      clear hk
      obtain ⟨ns, hns⟩ : ∃ k, k = f.set.length := ⟨_, rfl⟩
      have hnsb : ns ≤ 255 := by rw [hns]; exact HSM.out.l
      have HNS := Lib.hid hns
      have HC6 : Hid (∀ W, FaRow W g sf f → W.cell? ⟨g, 6, none⟩ = some (.slice sf.S ns sf.sc)) := fun W hW => by rw [hns]; exact hW.cells.2.2.2.2.2.2.1
      clear hns
      go_upto_region 15 with (fail)
      clear x0 x1 x2 x3 x4 x5 x6 x7 x8 x9 x10 x11 x12 hk'
      go_loopw [13] (fun kv wr => ∃ k : Nat, kv = .int .i64 (k : Int) ∧ k ≤ ns ∧ Hid (Below w3.heap.size w3 wr)) (fun kv _ => ns - (intOf kv).toNat)
      case atStart => exact ⟨0, rfl, Nat.zero_le _, bl⟩
      case round =>
        obtain ⟨k, rfl, hkk, HBV⟩ := hrel
        have x6 : wr.cell? ⟨g, 6, none⟩ = some (.slice sf.S ns sf.sc) := HC6.out wr (HR3'.out.below HBV.out)
        by_cases hkn : k < ns
        rotate_left
        · have hkn' : ¬ (k : Int) < (ns : Int) := by omega
          go_wp2
          go_roundw
          case rel => exact ⟨i + 1, by go_num, by omega, nx HBW3.out HBV.out⟩
          case measure => simp [intOf]; omega
        have hkn' : (k : Int) < (ns : Int) := by omega
        obtain ⟨d, hd⟩ : ∃ d, f.set[k]? = some d := ⟨_, List.getElem?_eq_getElem (by rw [← HNS.out]; exact hkn)⟩
        have HVD : Hid (Below w3.heap.size w3 wr.drew) := HBV.out.drew
        have HWD : Hid (Below wc.heap.size wc wr.drew) := nx HBW3.out HVD.out
        obtain ⟨b2, o2, s2, hS2, hb2, hdi, hdc⟩ := da_at (HFI.out wr.drew HWD.out).l hd
        have HG6 : Hid (∀ W, FaRow W g sf f → W.cell? ⟨g, 6, none⟩ = some (.slice (some ⟨b2, o2, none⟩) ns sf.sc)) := fun W hW => by rw [← hS2]; exact HC6.out W hW
        obtain ⟨r, hr, r1, r2, r3, r4⟩ := HHAS.out d (List.mem_of_getElem? hd)
        obtain ⟨j, hj⟩ := List.getElem?_of_mem hr
        have HTH := Lib.hid (there_any A3 sf.A n3 c3 f.name.length sf.ac (m.an ++ m.au ++ m.ex) f.name f.type s2 d wr.drew (HAR.out wr.drew HWD.out) (HFI.out wr.drew HWD.out).n (by have := HN3.out; omega) (by have := HSM.out.n; unfold maxLen; omega) (hdi.rd (fun b hb => hb)) j r hj r1 r2 r3 (by rw [r4]; exact sameD_refl _))
        have hS4 : FaRow wr.drew g sf f ∧ DCells wr.drew b2 (o2 + k * 5) s2 d := ⟨HR3'.out.below HVD.out, hdc⟩
        unfold dsV at HTH
        clear hd hS2 hb2 hdi hdc hr hj r1 r2 r3 r4
        go_upto_region 17 with (fail)
        clear x6
        refine wp_region_any (by kernel_rfl) ?_
        change wpAny _ _ _ _ _ _ _ (World.drew wr)
        refine wpAny_of_P (S := fun W => FaRow W g sf f ∧ DCells W b2 (o2 + k * 5) s2 d) (dem := fun _ => true) _ _ _ _ ?_
        refine wpAnyP_take (i := 0) (v := .slice A3 n3 c3) rfl (by kernel_rfl) (by kernel_rfl) (by kernel_rfl) (by kernel_rfl) (by kernel_rfl) (fun _ _ _ h => h) (Or.inl ⟨by kernel_rfl, by (intro W hW; go_simp)⟩) hS4 ?_
        refine wpAnyP_take (i := 1) (v := .pointer (some ⟨g, 0, none⟩)) rfl (by kernel_rfl) (by kernel_rfl) (by kernel_rfl) (by kernel_rfl) (by kernel_rfl) (fun _ _ _ h => h) (Or.inl ⟨by kernel_rfl, by (intro W hW; go_simp)⟩) hS4 ?_
        refine wpAnyP_take (i := 2) (v := .slice sf.A f.name.length sf.ac) rfl (by kernel_rfl) (by kernel_rfl) (by kernel_rfl) (by kernel_rfl) (by kernel_rfl) (fun _ _ _ h => h) (Or.inl ⟨by kernel_rfl, by (intro W hW; have c0 := hW.1.cells; obtain ⟨x0, x1, x2, x3, x4, x5, x6, x7, x8, x9, x10, x11, x12⟩ := c0; go_simp)⟩) hS4 ?_
        refine wpAnyP_take (i := 3) (v := .pointer (some ⟨g, 1, none⟩)) rfl (by kernel_rfl) (by kernel_rfl) (by kernel_rfl) (by kernel_rfl) (by kernel_rfl) (fun _ _ _ h => h) (Or.inl ⟨by kernel_rfl, by (intro W hW; go_simp)⟩) hS4 ?_
        refine wpAnyP_take (i := 4) (v := .int .i64 f.type) rfl (by kernel_rfl) (by kernel_rfl) (by kernel_rfl) (by kernel_rfl) (by kernel_rfl) (fun _ _ _ h => h) (Or.inl ⟨by kernel_rfl, by (intro W hW; have c0 := hW.1.cells; obtain ⟨x0, x1, x2, x3, x4, x5, x6, x7, x8, x9, x10, x11, x12⟩ := c0; go_simp)⟩) hS4 ?_
        refine wpAnyP_take (i := 5) (v := .pointer (some ⟨g, 6, none⟩)) rfl (by kernel_rfl) (by kernel_rfl) (by kernel_rfl) (by kernel_rfl) (by kernel_rfl) (fun _ _ _ h => h) (Or.inl ⟨by kernel_rfl, by (intro W hW; go_simp)⟩) hS4 ?_
        refine wpAnyP_take (i := 6) (v := .slice (some ⟨b2, o2, none⟩) ns sf.sc) rfl (by kernel_rfl) (by kernel_rfl) (by kernel_rfl) (by kernel_rfl) (by kernel_rfl) (fun _ _ _ h => h) (Or.inl ⟨by kernel_rfl, by (intro W hW; have c0 := HG6.out W hW.1; go_simp)⟩) hS4 ?_
        refine wpAnyP_take (i := 7) (v := .int .i64 (k : Int)) rfl (by kernel_rfl) (by kernel_rfl) (by kernel_rfl) (by kernel_rfl) (by kernel_rfl) (fun _ _ _ h => h) (Or.inl ⟨by kernel_rfl, by (intro W hW; go_simp)⟩) hS4 ?_
        refine wpAnyP_take (i := 8) (v := .pointer (some ⟨b2, o2 + k * 5, none⟩)) rfl (by kernel_rfl) (by kernel_rfl) (by kernel_rfl) (by kernel_rfl) (by kernel_rfl) (fun _ _ _ h => h) (Or.inl ⟨by kernel_rfl, by (intro W hW; go_simp)⟩) hS4 ?_
        refine wpAnyP_take (i := 9) (v := .agg #[.slice s2.A0 d.bytes.length s2.c0, .slice s2.A1 d.host.length s2.c1, .slice s2.A2 d.mail.length s2.c2, .slice s2.A3 d.nums.length s2.c3, .slice s2.A4 d.texts.length s2.c4]) rfl (by kernel_rfl) (by kernel_rfl) (by kernel_rfl) (by kernel_rfl) (by kernel_rfl) (fun _ _ _ h => h) (Or.inl ⟨by kernel_rfl, by (intro W hW; have c0 := hW.2; obtain ⟨y0, y1, y2, y3, y4⟩ := c0; go_simp)⟩) hS4 ?_
        refine wpAnyP_one (i := 10) rfl (by kernel_rfl) fun K hK => ?_
        go_simp
        refine HTH.out.mono ?_
        rintro e w5 ⟨v5, rfl, rfl, hb5⟩
        have HB5 := Lib.hid hb5
        refine hK _ _ (fun _ => ⟨FaRow.below hS4.1 hb5, DCells.below hS4.2 hb5⟩) ?_
        clear hK hb5
        refine wpAnyP_one (i := 11) rfl (by kernel_rfl) fun K hK => ?_
        go_simp
        refine hK _ _ (fun h => absurd h (by rw [show needS _ _ _ = false from by kernel_rfl]; decide)) ?_
        clear hK
        refine wpAnyP_done (by kernel_rfl) ?_ _
        go_wp2
        go_roundw
        case rel => exact ⟨k + 1, by go_num, by omega, nx HVD.out HB5.out⟩
        case measure => simp [intOf]; omega
theorem factZone_walk (sq : QS) (qu : Qu) (s : MS) (m : Ms) (Z : Option Addr) (nz cz : Nat) (zs : List (List UInt8)) (now : Int) (w : World) (hq : QIn (ltS w) w sq qu) (hm : MIn (ltS w) w s m) (hz : Els encS (ltS w) (ltS w) w Z nz zs) (hzc : nz ≤ cz ∧ cz ≤ maxLen) (hnow : i64S now) (hqn : ∀ x ∈ m.qs, x.name.length ≤ 1048576) (hqs : m.qs.length ≤ 1048576) (hlen : (m.an.length + m.au.length + m.ex.length) * 168 ≤ 140737488355328) :
    Calls Try.prog 7 #[quV sq qu, msV s m, .slice Z nz cz, .int .i64 now] w (LawT w) := by
  by_cases hL : LtMsg13 m
  · by_cases h1 : 200 < nz
    · exact factZone_zone sq qu s m Z nz cz zs now w hq hm hz hzc hnow hqn hqs hlen (ltM13_yes hL) h1
    · by_cases h2 : 200 < qu.name.length
      · exact factZone_name sq qu s m Z nz cz zs now w hq hm hz hzc hnow hqn hqs hlen (ltM13_yes hL) h1 h2
      · exact factZone_main sq qu s m Z nz cz zs now w hq hm hz hzc hnow hqn hqs hlen hL h1 h2
  · exact factZone_heavy sq qu s m Z nz cz zs now w hq hm hz hzc hnow hqn hqs hlen (ltM13_no hL)
end Go.Proofs.Ytimkdpkhdbiniaa
