/- Parts of a proof, joined: Snd1, Snd2. -/
import Derived.Test.YtimkdpkhdbiniaaZADM05
import Derived.Test.YtimkdpkhdbiniaaZADM03
import Derived.Test.YtimkdpkhdbiniaaZADM02
/- rdata: texts that are too long, numbers that do not fit. -/
namespace Go.Proofs.Ytimkdpkhdbiniaa
open Go.RowKit
set_option maxRecDepth 100000

theorem long_any (l : List UInt8) (w : World) : Calls Try.prog 159 #[.string (bstr l)] w (Ret (.bool (decide (255 < l.length))) w) := by
  have hbs := bstr_size l
  go_enter Try.func159, Try.ntmps159
  go_wp2
  go_ret
  refine ⟨ret_bool ?_, rfl⟩
  rw [Bool.eq_iff_iff, decide_eq_true_iff, decide_eq_true_iff]
  omega
/-- Some text is too long. -/
def LongT (ns : List (List UInt8)) : Prop := ¬ ∀ l ∈ ns, l.length ≤ 255

set_option maxHeartbeats 1000000 in
theorem index2_any (A : Option Addr) (n c : Nat) (ns : List (List UInt8)) (w : World) {So Si : Nat → Prop} (h : Els encS So Si w A n ns) (hn : n ≤ 8796093022208) :
    Calls Try.prog 160 #[.slice A n c, .func (.func 159) #[] #[]] w (RetIdx (LongT ns) w) := by
  have hl := h.len
  subst hl
  go_enter Try.func160, Try.ntmps160
  go_wp2
  go_loop [5, 8] (fun _ iv => ∃ k : Nat, iv = .int .i64 k ∧ k ≤ ns.length ∧ Hid (∀ l ∈ ns.take k, l.length ≤ 255)) (fun _ iv => ns.length - (intOf iv).toNat)
  case atStart => exact ⟨0, rfl, Nat.zero_le _, fun l hl => by simp at hl⟩
  case round =>
    obtain ⟨k, rfl, hk, HK⟩ := hrel
    by_cases hlt : k < ns.length
    · obtain ⟨l, hx⟩ : ∃ l, ns[k]? = some l := ⟨_, List.getElem?_eq_getElem hlt⟩
      obtain ⟨b, off, rfl, _, hc, hll⟩ := strs_at h hx
      have HX := Lib.hid hx
      clear hx
      by_cases hb : l.length ≤ 255
      · have hq := Lib.hid (long_any l w)
        rw [show decide (255 < l.length) = false from decide_eq_false (by omega)] at hq
        go_wp2_with (go_at_call 159; refine hq.out.mono ?_; rintro e w1 ⟨rfl, rfl⟩)
        go_round
        case rel => exact ⟨k + 1, by go_num, by omega, fun m hm => by rw [List.take_add_one, HX.out, Option.toList_some, List.mem_append, List.mem_singleton] at hm; exact hm.elim (HK.out m) (fun e => by rw [e]; exact hb)⟩
        case measure => simp [intOf]; omega
      · have hq := Lib.hid (long_any l w)
        rw [show decide (255 < l.length) = true from decide_eq_true (by omega)] at hq
        have HB := Lib.hid hb
        clear hb
        go_wp2_with (go_at_call 159; refine hq.out.mono ?_; rintro e w1 ⟨rfl, rfl⟩)
        go_ret
        exact ⟨_, rfl, ⟨fun _ ha => HB.out (ha l (List.mem_of_getElem? HX.out)), fun _ => Int.natCast_nonneg _⟩, rfl⟩
    · obtain rfl : k = ns.length := by omega
      rw [List.take_length] at HK
      go_wp2
      go_ret
      exact ⟨-1, rfl, ⟨fun h => absurd h (by decide), fun h => absurd HK.out h⟩, rfl⟩

theorem contains2_any (A : Option Addr) (n c : Nat) (ns : List (List UInt8)) (w : World) {So Si : Nat → Prop} (h : Els encS So Si w A n ns) (hn : n ≤ 8796093022208) (b : Bool) (hb : b = true ↔ LongT ns) :
    Calls Try.prog 110 #[.slice A n c, .func (.func 159) #[] #[]] w (Ret (.bool b) w) := by
  have HB := Lib.hid hb
  clear hb
  go_enter Try.func110, Try.ntmps110
  go_wp2_with (go_at_call 160; refine (index2_any A n c ns _ h hn).mono ?_; rintro e w1 ⟨i, rfl, hi, rfl⟩; have HI := Lib.hid hi; clear hi)
  go_ret
  refine ⟨ret_bool ?_, rfl⟩
  show decide (0 ≤ i) = b
  rw [Bool.eq_iff_iff, decide_eq_true_iff, HI.out, HB.out]


/-- Some number does not fit. -/
def OddI (ns : List Int) (z : Int) : Prop := ¬ ∀ l ∈ ns, fitsB l z = true
theorem odd_any (l z : Int) (g : Nat) (w : World) (hc : w.cell? ⟨g, 5, none⟩ = some (.int .i64 z)) : Calls Try.prog 158 #[.int .i64 l, .pointer (some ⟨g, 0, none⟩)] w (Ret (.bool (!fitsB l z)) w) := by
  go_enter Try.func158, Try.ntmps158
  go_wp2_with (first
    | (go_at_call 88; refine (fits_any l z w).mono ?_; rintro e w1 ⟨rfl, rfl⟩)
    | fail)
  go_ret
  exact ⟨rfl, rfl⟩

set_option maxHeartbeats 1000000 in
theorem index1_any (A : Option Addr) (n c : Nat) (ns : List Int) (z : Int) (g : Nat) (w : World) {So Si : Nat → Prop} (h : Els encI So Si w A n ns) (hn : n ≤ 1000000000) (hz : w.cell? ⟨g, 5, none⟩ = some (.int .i64 z)) :
    Calls Try.prog 189 #[.slice A n c, .func (.func 158) #[] #[.pointer (some ⟨g, 0, none⟩)]] w (RetIdx (OddI ns z) w) := by
  have hl := h.len
  subst hl
  go_enter Try.func189, Try.ntmps189
  go_wp2
  go_loop [5, 8] (fun _ iv => ∃ k : Nat, iv = .int .i64 k ∧ k ≤ ns.length ∧ Hid (∀ l ∈ ns.take k, fitsB l z = true)) (fun _ iv => ns.length - (intOf iv).toNat)
  case atStart => exact ⟨0, rfl, Nat.zero_le _, fun l hl => by simp at hl⟩
  case round =>
    obtain ⟨k, rfl, hk, HK⟩ := hrel
    by_cases hlt : k < ns.length
    · obtain ⟨l, hx⟩ : ∃ l, ns[k]? = some l := ⟨_, List.getElem?_eq_getElem hlt⟩
      obtain ⟨b, off, rfl, _, hc, hll⟩ := ints_at h hx
      have HX := Lib.hid hx
      clear hx
      by_cases hb : fitsB l z = true
      · have hq := Lib.hid (odd_any l z g w hz)
        rw [hb] at hq
        have HB := Lib.hid hb
        clear hb
        go_wp2_with (go_at_call 158; refine hq.out.mono ?_; rintro e w1 ⟨rfl, rfl⟩)
        go_round
        case rel => exact ⟨k + 1, by go_num, by omega, fun m hm => by rw [List.take_add_one, HX.out, Option.toList_some, List.mem_append, List.mem_singleton] at hm; exact hm.elim (HK.out m) (fun e => by rw [e]; exact HB.out)⟩
        case measure => simp [intOf]; omega
      · have hq := Lib.hid (odd_any l z g w hz)
        rw [show fitsB l z = false from by simpa using hb] at hq
        have HB := Lib.hid hb
        clear hb
        go_wp2_with (go_at_call 158; refine hq.out.mono ?_; rintro e w1 ⟨rfl, rfl⟩)
        go_ret
        exact ⟨_, rfl, ⟨fun _ ha => HB.out (ha l (List.mem_of_getElem? HX.out)), fun _ => Int.natCast_nonneg _⟩, rfl⟩
    · obtain rfl : k = ns.length := by omega
      rw [List.take_length] at HK
      go_wp2
      go_ret
      exact ⟨-1, rfl, ⟨fun h => absurd h (by decide), fun h => absurd HK.out h⟩, rfl⟩

theorem contains1_any (A : Option Addr) (n c : Nat) (ns : List Int) (z : Int) (g : Nat) (w : World) {So Si : Nat → Prop} (h : Els encI So Si w A n ns) (hn : n ≤ 1000000000) (hz : w.cell? ⟨g, 5, none⟩ = some (.int .i64 z)) (b : Bool) (hb : b = true ↔ OddI ns z) :
    Calls Try.prog 157 #[.slice A n c, .func (.func 158) #[] #[.pointer (some ⟨g, 0, none⟩)]] w (Ret (.bool b) w) := by
  have HB := Lib.hid hb
  clear hb
  go_enter Try.func157, Try.ntmps157
  go_wp2_with (go_at_call 189; refine (index1_any A n c ns z g _ h hn hz).mono ?_; rintro e w1 ⟨i, rfl, hi, rfl⟩; have HI := Lib.hid hi; clear hi)
  go_ret
  refine ⟨ret_bool ?_, rfl⟩
  show decide (0 ≤ i) = b
  rw [Bool.eq_iff_iff, decide_eq_true_iff, HI.out, HB.out]

section
variable {A : Option Addr} {n c : Nat} {w : World} {So Si : Nat → Prop}
theorem contains2_yes {ns : List (List UInt8)} (h : Els encS So Si w A n ns) (hn : n ≤ 8796093022208) (hb : LongT ns) :
    Calls Try.prog 110 #[.slice A n c, .func (.func 159) #[] #[]] w (Ret (.bool true) w) := contains2_any A n c ns w h hn true ⟨fun _ => hb, fun _ => rfl⟩
theorem contains2_no {ns : List (List UInt8)} (h : Els encS So Si w A n ns) (hn : n ≤ 8796093022208) (hb : ¬ LongT ns) :
    Calls Try.prog 110 #[.slice A n c, .func (.func 159) #[] #[]] w (Ret (.bool false) w) := contains2_any A n c ns w h hn false ⟨fun h => (by cases h), fun h => absurd h hb⟩
theorem contains1_yes {ns : List Int} {z : Int} {g : Nat} (h : Els encI So Si w A n ns) (hn : n ≤ 1000000000) (hz : w.cell? ⟨g, 5, none⟩ = some (.int .i64 z)) (hb : OddI ns z) :
    Calls Try.prog 157 #[.slice A n c, .func (.func 158) #[] #[.pointer (some ⟨g, 0, none⟩)]] w (Ret (.bool true) w) := contains1_any A n c ns z g w h hn hz true ⟨fun _ => hb, fun _ => rfl⟩
theorem contains1_no {ns : List Int} {z : Int} {g : Nat} (h : Els encI So Si w A n ns) (hn : n ≤ 1000000000) (hz : w.cell? ⟨g, 5, none⟩ = some (.int .i64 z)) (hb : ¬ OddI ns z) :
    Calls Try.prog 157 #[.slice A n c, .func (.func 158) #[] #[.pointer (some ⟨g, 0, none⟩)]] w (Ret (.bool false) w) := contains1_any A n c ns z g w h hn hz false ⟨fun h => (by cases h), fun h => absurd h hb⟩
end
end Go.Proofs.Ytimkdpkhdbiniaa

/- rdata.Sound, a walk for each shape (printed by gen/sound.py). -/
namespace Go.Proofs.Ytimkdpkhdbiniaa
open Go.RowKit
set_option maxRecDepth 100000
set_option linter.unusedVariables false

set_option maxHeartbeats 4000000 in
theorem snd_bad (k : Int) (hk : k < 1 ∨ 65535 < k) (s : DS) (d : Da) (w : World) :
    Calls Try.prog 109 #[.int .i64 k, dsV s d] w (RetP (fun v _ => v = .bool (fineB k d)) w) := by
  have HF : Hid (fineB k d = false) := fineB_false (fun h => by have := h.1; omega)
  have hsh := shapes_any k
  unfold shpV at hsh
  generalize shapeP k = sp at hsh
  obtain ⟨z0, z1, z2, z3, z4, z5, z6, z7⟩ := sp
  have HSH := Lib.hid hsh
  clear hsh
  unfold dsV
  rcases hk with hk | hk
  all_goals
    go_enter Try.func109, Try.ntmps109
    go_wp2_with (first
      | (go_at_call 156; refine (HSH.out _).mono ?_; rintro e w2 ⟨v2, rfl, rfl, hb2⟩)
      | fail)
    go_ret
    exact ⟨_, rfl, by rw [HF.out]; rfl, nx (nx (bl.alloc (Nat.le_refl _) _) hb2) (bl.alloc (Nat.le_refl _) _)⟩

set_option maxHeartbeats 4000000 in
theorem sndA_any (k : Int) (hk : shapeP k = shpA) (hk1 : 1 ≤ k) (hk2 : k ≤ 65535) (s : DS) (d : Da) (w : World) (hd : DRd w s d) (hbh : d.host.length ≤ 1000000000) (hbm : d.mail.length ≤ 1000000000) (hbn : d.nums.length ≤ 1000000000) (hbt : d.texts.length ≤ 8796093022208) :
    Calls Try.prog 109 #[.int .i64 k, dsV s d] w (RetP (fun v _ => v = .bool (fineB k d)) w) := by
  have hmf : ∀ (fn : Fn) (first cap : Array Value) (w : World), (Instr.makeFunc fn first cap).run Try.prog w = .ok (.func fn first cap) w := fun _ _ _ _ => rfl
  have HK := Lib.hid hk
  have hsh : ∀ w, Calls Try.prog 156 #[.int .i64 k] w (RetP (fun v _ => v = .agg #[.int .i64 4, .bool false, .bool false, .bool false, .int .i64 0, .int .i64 0, .bool false, .bool false]) w) := fun w => by have h := shapes_any k w; rw [hk] at h; exact h
  have HSH := Lib.hid hsh
  clear hk hsh
  unfold dsV
  obtain ⟨w1, hw1⟩ : ∃ w1, w1 = w.alloc (.cells #[.slice s.A0 d.bytes.length s.c0, .slice s.A1 d.host.length s.c1, .slice s.A2 d.mail.length s.c2, .slice s.A3 d.nums.length s.c3, .slice s.A4 d.texts.length s.c4] 46) := ⟨_, rfl⟩
  have hb1 : Below w.heap.size w w1 := by rw [hw1]; exact bl.alloc (Nat.le_refl _) _
  have hbx : DBox w1 w.heap.size s d := by rw [hw1]; exact DBox.made w s d _
  have HBX := Lib.hid hbx
  have HD1 := Lib.hid (hd.below hb1)
  clear hbx hd
  have en : ∀ l : List (List UInt8), l.length = 0 → l = [] := fun l h => List.eq_nil_of_length_eq_zero h
  have EN := Lib.hid en
  clear en
  go_enter Try.func109, Try.ntmps109
  go_upto_region 1 with (fail)
  rw [← hw1]
  clear hw1
  go_upto_region 2 with (first
    | (go_at_call 156; refine (HSH.out w1).mono ?_; rintro e w2 ⟨v2, rfl, rfl, hb2⟩)
    | fail)
  obtain ⟨w3, hw3⟩ : ∃ w3, w3 = w2.alloc (.cells #[.int .i64 4, .bool false, .bool false, .bool false, .int .i64 0, .int .i64 0, .bool false, .bool false] 182) := ⟨_, rfl⟩
  have hb3 : Below w2.heap.size w2 w3 := by rw [hw3]; exact bl.alloc (Nat.le_refl _) _
  have hs3 : w3.heap[w2.heap.size]? = some (.cells #[.int .i64 4, .bool false, .bool false, .bool false, .int .i64 0, .int .i64 0, .bool false, .bool false] 182 (0, 0)) := by rw [hw3]; exact heap_alloc_new w2 _
  rw [← hw3]
  clear hw3
  have HB := Lib.hid (nx (nx hb1 hb2) hb3)
  have HD := Lib.hid ((HD1.out.below hb2).below hb3)
  obtain ⟨x0, x1, x2, x3, x4⟩ := (HBX.out.below hb2).below hb3
  have s0 : w3.cell? ⟨w2.heap.size, 0, none⟩ = some (.int .i64 4) := (cell_of_row _ _ _ _ _ _ hs3).trans rfl
  have s1 : w3.cell? ⟨w2.heap.size, 1, none⟩ = some (.bool false) := (cell_of_row _ _ _ _ _ _ hs3).trans rfl
  have s2 : w3.cell? ⟨w2.heap.size, 2, none⟩ = some (.bool false) := (cell_of_row _ _ _ _ _ _ hs3).trans rfl
  have s3 : w3.cell? ⟨w2.heap.size, 3, none⟩ = some (.bool false) := (cell_of_row _ _ _ _ _ _ hs3).trans rfl
  have s4 : w3.cell? ⟨w2.heap.size, 4, none⟩ = some (.int .i64 0) := (cell_of_row _ _ _ _ _ _ hs3).trans rfl
  have s5 : w3.cell? ⟨w2.heap.size, 5, none⟩ = some (.int .i64 0) := (cell_of_row _ _ _ _ _ _ hs3).trans rfl
  have s6 : w3.cell? ⟨w2.heap.size, 6, none⟩ = some (.bool false) := (cell_of_row _ _ _ _ _ _ hs3).trans rfl
  have s7 : w3.cell? ⟨w2.heap.size, 7, none⟩ = some (.bool false) := (cell_of_row _ _ _ _ _ _ hs3).trans rfl
  clear hs3 HBX HD1 hb1 hb2 hb3
  generalize w2.heap.size = g at s0 s1 s2 s3 s4 s5 s6 s7 ⊢
  have HT : Hid (RdE encS w3 s.A4 d.texts.length d.texts) := HD.out.t
  generalize hnt : d.texts.length = nt at x4 HT hbt
  have HNT := Lib.hid hnt
  clear hnt
  have HEH : Hid (Els encS (ltS w3) (ltS w3) w3 s.A1 d.host.length d.host) := HD.out.h
  have HEM : Hid (Els encS (ltS w3) (ltS w3) w3 s.A2 d.mail.length d.mail) := HD.out.m
  have HBT := Lib.hid hbt
  have HBH := Lib.hid hbh
  have HBM := Lib.hid hbm
  have HBN := Lib.hid hbn
  clear hbt hbh hbm hbn
  have hkl : ¬ k < 1 := by omega
  have hkg : ¬ 65535 < k := by omega
  by_cases h2 : ¬ (d.bytes.length : Int) = 4
  · have H2 := Lib.hid h2
    have HF : Hid (fineB k d = false) := fineB_false (fun h => by have h := h.2; rw [HK.out] at h; exact H2.out (h.1 (by decide)))
    go_wp2_with (first
      | fail)
    go_ret
    exact ⟨_, rfl, by rw [HF.out]; rfl, HB.out⟩
  have h2 : (d.bytes.length : Int) = 4 := Decidable.of_not_not h2
  have h3 : ¬ 65535 < (d.bytes.length : Int) := by omega
  by_cases h4 : ¬ (d.nums.length : Int) = 0
  · have H4 := Lib.hid h4
    have HF : Hid (fineB k d = false) := fineB_false (fun h => by have h := h.2; rw [HK.out] at h; exact H4.out h.2.2.1)
    go_wp2_with (first
      | fail)
    go_ret
    exact ⟨_, rfl, by rw [HF.out]; rfl, HB.out⟩
  have h4 : (d.nums.length : Int) = 0 := Decidable.of_not_not h4
  have H4 := Lib.hid h4
  have H3 := Lib.hid h3
  have H2 := Lib.hid h2
  by_cases h5 : 0 < (d.host.length : Int)
  · have H5 := Lib.hid h5
    have HF : Hid (fineB k d = false) := fineB_false (fun h => by have h := h.2; rw [HK.out] at h; have h6 : d.host = [] := h.2.2.2.1; have := H5.out; rw [h6] at this; simp at this)
    go_wp2_with (first
      | fail)
    go_ret
    exact ⟨_, rfl, by rw [HF.out]; rfl, HB.out⟩
  have H5 : Hid (d.host = []) := EN.out _ (by omega)
  by_cases h7 : 0 < (d.mail.length : Int)
  · have H7 := Lib.hid h7
    have HF : Hid (fineB k d = false) := fineB_false (fun h => by have h := h.2; rw [HK.out] at h; have h6 : d.mail = [] := h.2.2.2.2.1; have := H7.out; rw [h6] at this; simp at this)
    go_wp2_with (first
      | fail)
    go_ret
    exact ⟨_, rfl, by rw [HF.out]; rfl, HB.out⟩
  have H7 : Hid (d.mail = []) := EN.out _ (by omega)
  have h9 : ∀ n ∈ d.nums, fitsB n 0 = true := fun n hn => by rw [List.eq_nil_of_length_eq_zero (show d.nums.length = 0 by omega)] at hn; cases hn
  have CI : Hid (¬ OddI d.nums 0) := fun h => h h9
  have H9 := Lib.hid h9
  clear h9
  by_cases h10 : (nt : Int) = 0
  · have H10 : Hid (d.texts = []) := EN.out _ (by have := HNT.out; omega)
    have HF : Hid (fineB k d = true) := fineB_true ⟨⟨hk1, hk2⟩, by rw [HK.out]; exact ⟨fun _ => H2.out, by have := H3.out; omega, H4.out, H5.out, H7.out, H9.out, H10.out⟩⟩
    go_wp2_with (first
      | (go_at_call 157; refine (contains1_no HD.out.n HBN.out s5 CI.out).mono ?_; rintro e w9 ⟨rfl, rfl⟩)
      | fail)
    go_ret
    exact ⟨_, rfl, by rw [HF.out]; first | rfl | exact congrArg Value.bool (decide_eq_true h10), HB.out⟩
  · have H10 := Lib.hid h10
    have HF : Hid (fineB k d = false) := fineB_false (fun h => by have h := h.2; rw [HK.out] at h; have h6 : d.texts = [] := h.2.2.2.2.2.2; have h7 := H10.out; have h8 := HNT.out; rw [h6] at h8; simp at h8; omega)
    go_wp2_with (first
      | (go_at_call 157; refine (contains1_no HD.out.n HBN.out s5 CI.out).mono ?_; rintro e w9 ⟨rfl, rfl⟩)
      | fail)
    go_ret
    exact ⟨_, rfl, by rw [HF.out]; first | rfl | exact congrArg Value.bool (decide_eq_false h10), HB.out⟩

set_option maxHeartbeats 4000000 in
theorem sndQ_any (k : Int) (hk : shapeP k = shpQ) (hk1 : 1 ≤ k) (hk2 : k ≤ 65535) (s : DS) (d : Da) (w : World) (hd : DRd w s d) (hbh : d.host.length ≤ 1000000000) (hbm : d.mail.length ≤ 1000000000) (hbn : d.nums.length ≤ 1000000000) (hbt : d.texts.length ≤ 8796093022208) :
    Calls Try.prog 109 #[.int .i64 k, dsV s d] w (RetP (fun v _ => v = .bool (fineB k d)) w) := by
  have hmf : ∀ (fn : Fn) (first cap : Array Value) (w : World), (Instr.makeFunc fn first cap).run Try.prog w = .ok (.func fn first cap) w := fun _ _ _ _ => rfl
  have HK := Lib.hid hk
  have hsh : ∀ w, Calls Try.prog 156 #[.int .i64 k] w (RetP (fun v _ => v = .agg #[.int .i64 16, .bool false, .bool false, .bool false, .int .i64 0, .int .i64 0, .bool false, .bool false]) w) := fun w => by have h := shapes_any k w; rw [hk] at h; exact h
  have HSH := Lib.hid hsh
  clear hk hsh
  unfold dsV
  obtain ⟨w1, hw1⟩ : ∃ w1, w1 = w.alloc (.cells #[.slice s.A0 d.bytes.length s.c0, .slice s.A1 d.host.length s.c1, .slice s.A2 d.mail.length s.c2, .slice s.A3 d.nums.length s.c3, .slice s.A4 d.texts.length s.c4] 46) := ⟨_, rfl⟩
  have hb1 : Below w.heap.size w w1 := by rw [hw1]; exact bl.alloc (Nat.le_refl _) _
  have hbx : DBox w1 w.heap.size s d := by rw [hw1]; exact DBox.made w s d _
  have HBX := Lib.hid hbx
  have HD1 := Lib.hid (hd.below hb1)
  clear hbx hd
  have en : ∀ l : List (List UInt8), l.length = 0 → l = [] := fun l h => List.eq_nil_of_length_eq_zero h
  have EN := Lib.hid en
  clear en
  go_enter Try.func109, Try.ntmps109
  go_upto_region 1 with (fail)
  rw [← hw1]
  clear hw1
  go_upto_region 2 with (first
    | (go_at_call 156; refine (HSH.out w1).mono ?_; rintro e w2 ⟨v2, rfl, rfl, hb2⟩)
    | fail)
  obtain ⟨w3, hw3⟩ : ∃ w3, w3 = w2.alloc (.cells #[.int .i64 16, .bool false, .bool false, .bool false, .int .i64 0, .int .i64 0, .bool false, .bool false] 182) := ⟨_, rfl⟩
  have hb3 : Below w2.heap.size w2 w3 := by rw [hw3]; exact bl.alloc (Nat.le_refl _) _
  have hs3 : w3.heap[w2.heap.size]? = some (.cells #[.int .i64 16, .bool false, .bool false, .bool false, .int .i64 0, .int .i64 0, .bool false, .bool false] 182 (0, 0)) := by rw [hw3]; exact heap_alloc_new w2 _
  rw [← hw3]
  clear hw3
  have HB := Lib.hid (nx (nx hb1 hb2) hb3)
  have HD := Lib.hid ((HD1.out.below hb2).below hb3)
  obtain ⟨x0, x1, x2, x3, x4⟩ := (HBX.out.below hb2).below hb3
  have s0 : w3.cell? ⟨w2.heap.size, 0, none⟩ = some (.int .i64 16) := (cell_of_row _ _ _ _ _ _ hs3).trans rfl
  have s1 : w3.cell? ⟨w2.heap.size, 1, none⟩ = some (.bool false) := (cell_of_row _ _ _ _ _ _ hs3).trans rfl
  have s2 : w3.cell? ⟨w2.heap.size, 2, none⟩ = some (.bool false) := (cell_of_row _ _ _ _ _ _ hs3).trans rfl
  have s3 : w3.cell? ⟨w2.heap.size, 3, none⟩ = some (.bool false) := (cell_of_row _ _ _ _ _ _ hs3).trans rfl
  have s4 : w3.cell? ⟨w2.heap.size, 4, none⟩ = some (.int .i64 0) := (cell_of_row _ _ _ _ _ _ hs3).trans rfl
  have s5 : w3.cell? ⟨w2.heap.size, 5, none⟩ = some (.int .i64 0) := (cell_of_row _ _ _ _ _ _ hs3).trans rfl
  have s6 : w3.cell? ⟨w2.heap.size, 6, none⟩ = some (.bool false) := (cell_of_row _ _ _ _ _ _ hs3).trans rfl
  have s7 : w3.cell? ⟨w2.heap.size, 7, none⟩ = some (.bool false) := (cell_of_row _ _ _ _ _ _ hs3).trans rfl
  clear hs3 HBX HD1 hb1 hb2 hb3
  generalize w2.heap.size = g at s0 s1 s2 s3 s4 s5 s6 s7 ⊢
  have HT : Hid (RdE encS w3 s.A4 d.texts.length d.texts) := HD.out.t
  generalize hnt : d.texts.length = nt at x4 HT hbt
  have HNT := Lib.hid hnt
  clear hnt
  have HEH : Hid (Els encS (ltS w3) (ltS w3) w3 s.A1 d.host.length d.host) := HD.out.h
  have HEM : Hid (Els encS (ltS w3) (ltS w3) w3 s.A2 d.mail.length d.mail) := HD.out.m
  have HBT := Lib.hid hbt
  have HBH := Lib.hid hbh
  have HBM := Lib.hid hbm
  have HBN := Lib.hid hbn
  clear hbt hbh hbm hbn
  have hkl : ¬ k < 1 := by omega
  have hkg : ¬ 65535 < k := by omega
  by_cases h2 : ¬ (d.bytes.length : Int) = 16
  · have H2 := Lib.hid h2
    have HF : Hid (fineB k d = false) := fineB_false (fun h => by have h := h.2; rw [HK.out] at h; exact H2.out (h.1 (by decide)))
    go_wp2_with (first
      | fail)
    go_ret
    exact ⟨_, rfl, by rw [HF.out]; rfl, HB.out⟩
  have h2 : (d.bytes.length : Int) = 16 := Decidable.of_not_not h2
  have h3 : ¬ 65535 < (d.bytes.length : Int) := by omega
  by_cases h4 : ¬ (d.nums.length : Int) = 0
  · have H4 := Lib.hid h4
    have HF : Hid (fineB k d = false) := fineB_false (fun h => by have h := h.2; rw [HK.out] at h; exact H4.out h.2.2.1)
    go_wp2_with (first
      | fail)
    go_ret
    exact ⟨_, rfl, by rw [HF.out]; rfl, HB.out⟩
  have h4 : (d.nums.length : Int) = 0 := Decidable.of_not_not h4
  have H4 := Lib.hid h4
  have H3 := Lib.hid h3
  have H2 := Lib.hid h2
  by_cases h5 : 0 < (d.host.length : Int)
  · have H5 := Lib.hid h5
    have HF : Hid (fineB k d = false) := fineB_false (fun h => by have h := h.2; rw [HK.out] at h; have h6 : d.host = [] := h.2.2.2.1; have := H5.out; rw [h6] at this; simp at this)
    go_wp2_with (first
      | fail)
    go_ret
    exact ⟨_, rfl, by rw [HF.out]; rfl, HB.out⟩
  have H5 : Hid (d.host = []) := EN.out _ (by omega)
  by_cases h7 : 0 < (d.mail.length : Int)
  · have H7 := Lib.hid h7
    have HF : Hid (fineB k d = false) := fineB_false (fun h => by have h := h.2; rw [HK.out] at h; have h6 : d.mail = [] := h.2.2.2.2.1; have := H7.out; rw [h6] at this; simp at this)
    go_wp2_with (first
      | fail)
    go_ret
    exact ⟨_, rfl, by rw [HF.out]; rfl, HB.out⟩
  have H7 : Hid (d.mail = []) := EN.out _ (by omega)
  have h9 : ∀ n ∈ d.nums, fitsB n 0 = true := fun n hn => by rw [List.eq_nil_of_length_eq_zero (show d.nums.length = 0 by omega)] at hn; cases hn
  have CI : Hid (¬ OddI d.nums 0) := fun h => h h9
  have H9 := Lib.hid h9
  clear h9
  by_cases h10 : (nt : Int) = 0
  · have H10 : Hid (d.texts = []) := EN.out _ (by have := HNT.out; omega)
    have HF : Hid (fineB k d = true) := fineB_true ⟨⟨hk1, hk2⟩, by rw [HK.out]; exact ⟨fun _ => H2.out, by have := H3.out; omega, H4.out, H5.out, H7.out, H9.out, H10.out⟩⟩
    go_wp2_with (first
      | (go_at_call 157; refine (contains1_no HD.out.n HBN.out s5 CI.out).mono ?_; rintro e w9 ⟨rfl, rfl⟩)
      | fail)
    go_ret
    exact ⟨_, rfl, by rw [HF.out]; first | rfl | exact congrArg Value.bool (decide_eq_true h10), HB.out⟩
  · have H10 := Lib.hid h10
    have HF : Hid (fineB k d = false) := fineB_false (fun h => by have h := h.2; rw [HK.out] at h; have h6 : d.texts = [] := h.2.2.2.2.2.2; have h7 := H10.out; have h8 := HNT.out; rw [h6] at h8; simp at h8; omega)
    go_wp2_with (first
      | (go_at_call 157; refine (contains1_no HD.out.n HBN.out s5 CI.out).mono ?_; rintro e w9 ⟨rfl, rfl⟩)
      | fail)
    go_ret
    exact ⟨_, rfl, by rw [HF.out]; first | rfl | exact congrArg Value.bool (decide_eq_false h10), HB.out⟩

set_option maxHeartbeats 4000000 in
theorem sndN_any (k : Int) (hk : shapeP k = shpN) (hk1 : 1 ≤ k) (hk2 : k ≤ 65535) (s : DS) (d : Da) (w : World) (hd : DRd w s d) (hbh : d.host.length ≤ 1000000000) (hbm : d.mail.length ≤ 1000000000) (hbn : d.nums.length ≤ 1000000000) (hbt : d.texts.length ≤ 8796093022208) :
    Calls Try.prog 109 #[.int .i64 k, dsV s d] w (RetP (fun v _ => v = .bool (fineB k d)) w) := by
  have hmf : ∀ (fn : Fn) (first cap : Array Value) (w : World), (Instr.makeFunc fn first cap).run Try.prog w = .ok (.func fn first cap) w := fun _ _ _ _ => rfl
  have HK := Lib.hid hk
  have hsh : ∀ w, Calls Try.prog 156 #[.int .i64 k] w (RetP (fun v _ => v = .agg #[.int .i64 0, .bool true, .bool false, .bool true, .int .i64 0, .int .i64 0, .bool false, .bool false]) w) := fun w => by have h := shapes_any k w; rw [hk] at h; exact h
  have HSH := Lib.hid hsh
  clear hk hsh
  unfold dsV
  obtain ⟨w1, hw1⟩ : ∃ w1, w1 = w.alloc (.cells #[.slice s.A0 d.bytes.length s.c0, .slice s.A1 d.host.length s.c1, .slice s.A2 d.mail.length s.c2, .slice s.A3 d.nums.length s.c3, .slice s.A4 d.texts.length s.c4] 46) := ⟨_, rfl⟩
  have hb1 : Below w.heap.size w w1 := by rw [hw1]; exact bl.alloc (Nat.le_refl _) _
  have hbx : DBox w1 w.heap.size s d := by rw [hw1]; exact DBox.made w s d _
  have HBX := Lib.hid hbx
  have HD1 := Lib.hid (hd.below hb1)
  clear hbx hd
  have en : ∀ l : List (List UInt8), l.length = 0 → l = [] := fun l h => List.eq_nil_of_length_eq_zero h
  have EN := Lib.hid en
  clear en
  go_enter Try.func109, Try.ntmps109
  go_upto_region 1 with (fail)
  rw [← hw1]
  clear hw1
  go_upto_region 2 with (first
    | (go_at_call 156; refine (HSH.out w1).mono ?_; rintro e w2 ⟨v2, rfl, rfl, hb2⟩)
    | fail)
  obtain ⟨w3, hw3⟩ : ∃ w3, w3 = w2.alloc (.cells #[.int .i64 0, .bool true, .bool false, .bool true, .int .i64 0, .int .i64 0, .bool false, .bool false] 182) := ⟨_, rfl⟩
  have hb3 : Below w2.heap.size w2 w3 := by rw [hw3]; exact bl.alloc (Nat.le_refl _) _
  have hs3 : w3.heap[w2.heap.size]? = some (.cells #[.int .i64 0, .bool true, .bool false, .bool true, .int .i64 0, .int .i64 0, .bool false, .bool false] 182 (0, 0)) := by rw [hw3]; exact heap_alloc_new w2 _
  rw [← hw3]
  clear hw3
  have HB := Lib.hid (nx (nx hb1 hb2) hb3)
  have HD := Lib.hid ((HD1.out.below hb2).below hb3)
  obtain ⟨x0, x1, x2, x3, x4⟩ := (HBX.out.below hb2).below hb3
  have s0 : w3.cell? ⟨w2.heap.size, 0, none⟩ = some (.int .i64 0) := (cell_of_row _ _ _ _ _ _ hs3).trans rfl
  have s1 : w3.cell? ⟨w2.heap.size, 1, none⟩ = some (.bool true) := (cell_of_row _ _ _ _ _ _ hs3).trans rfl
  have s2 : w3.cell? ⟨w2.heap.size, 2, none⟩ = some (.bool false) := (cell_of_row _ _ _ _ _ _ hs3).trans rfl
  have s3 : w3.cell? ⟨w2.heap.size, 3, none⟩ = some (.bool true) := (cell_of_row _ _ _ _ _ _ hs3).trans rfl
  have s4 : w3.cell? ⟨w2.heap.size, 4, none⟩ = some (.int .i64 0) := (cell_of_row _ _ _ _ _ _ hs3).trans rfl
  have s5 : w3.cell? ⟨w2.heap.size, 5, none⟩ = some (.int .i64 0) := (cell_of_row _ _ _ _ _ _ hs3).trans rfl
  have s6 : w3.cell? ⟨w2.heap.size, 6, none⟩ = some (.bool false) := (cell_of_row _ _ _ _ _ _ hs3).trans rfl
  have s7 : w3.cell? ⟨w2.heap.size, 7, none⟩ = some (.bool false) := (cell_of_row _ _ _ _ _ _ hs3).trans rfl
  clear hs3 HBX HD1 hb1 hb2 hb3
  generalize w2.heap.size = g at s0 s1 s2 s3 s4 s5 s6 s7 ⊢
  have HT : Hid (RdE encS w3 s.A4 d.texts.length d.texts) := HD.out.t
  generalize hnt : d.texts.length = nt at x4 HT hbt
  have HNT := Lib.hid hnt
  clear hnt
  have HEH : Hid (Els encS (ltS w3) (ltS w3) w3 s.A1 d.host.length d.host) := HD.out.h
  have HEM : Hid (Els encS (ltS w3) (ltS w3) w3 s.A2 d.mail.length d.mail) := HD.out.m
  have HBT := Lib.hid hbt
  have HBH := Lib.hid hbh
  have HBM := Lib.hid hbm
  have HBN := Lib.hid hbn
  clear hbt hbh hbm hbn
  have hkl : ¬ k < 1 := by omega
  have hkg : ¬ 65535 < k := by omega
  by_cases h2 : ¬ (d.bytes.length : Int) = 0
  · have H2 := Lib.hid h2
    have HF : Hid (fineB k d = false) := fineB_false (fun h => by have h := h.2; rw [HK.out] at h; exact H2.out (h.1 (by decide)))
    go_wp2_with (first
      | fail)
    go_ret
    exact ⟨_, rfl, by rw [HF.out]; rfl, HB.out⟩
  have h2 : (d.bytes.length : Int) = 0 := Decidable.of_not_not h2
  have h3 : ¬ 65535 < (d.bytes.length : Int) := by omega
  by_cases h4 : ¬ (d.nums.length : Int) = 0
  · have H4 := Lib.hid h4
    have HF : Hid (fineB k d = false) := fineB_false (fun h => by have h := h.2; rw [HK.out] at h; exact H4.out h.2.2.1)
    go_wp2_with (first
      | fail)
    go_ret
    exact ⟨_, rfl, by rw [HF.out]; rfl, HB.out⟩
  have h4 : (d.nums.length : Int) = 0 := Decidable.of_not_not h4
  have H4 := Lib.hid h4
  have H3 := Lib.hid h3
  have H2 := Lib.hid h2
  by_cases h5 : SoundN d.host
  case neg =>
    have HH := Lib.hid (soundB_false h5)
    have H5 := Lib.hid h5
    clear h5
    have HF : Hid (fineB k d = false) := fineB_false (fun h => by have h := h.2; rw [HK.out] at h; exact H5.out h.2.2.2.1)
    go_wp2_with (first
      | (go_at_call 61; (with_reducible refine (sound_any s.A1 _ s.c1 d.host w3 HEH.out HBH.out).mono ?_); rw [HH.out]; rintro e w9 ⟨rfl, rfl⟩)
      | fail)
    go_ret
    exact ⟨_, rfl, by rw [HF.out]; rfl, HB.out⟩
  have HH := Lib.hid (soundB_true h5)
  have H5 := Lib.hid h5
  clear h5
  by_cases h7 : 0 < (d.mail.length : Int)
  · have H7 := Lib.hid h7
    have HF : Hid (fineB k d = false) := fineB_false (fun h => by have h := h.2; rw [HK.out] at h; have h6 : d.mail = [] := h.2.2.2.2.1; have := H7.out; rw [h6] at this; simp at this)
    go_wp2_with (first
      | (go_at_call 61; (with_reducible refine (sound_any s.A1 _ s.c1 d.host w3 HEH.out HBH.out).mono ?_); rw [HH.out]; rintro e w9 ⟨rfl, rfl⟩)
      | fail)
    go_ret
    exact ⟨_, rfl, by rw [HF.out]; rfl, HB.out⟩
  have H7 : Hid (d.mail = []) := EN.out _ (by omega)
  have h9 : ∀ n ∈ d.nums, fitsB n 0 = true := fun n hn => by rw [List.eq_nil_of_length_eq_zero (show d.nums.length = 0 by omega)] at hn; cases hn
  have CI : Hid (¬ OddI d.nums 0) := fun h => h h9
  have H9 := Lib.hid h9
  clear h9
  by_cases h10 : (nt : Int) = 0
  · have H10 : Hid (d.texts = []) := EN.out _ (by have := HNT.out; omega)
    have HF : Hid (fineB k d = true) := fineB_true ⟨⟨hk1, hk2⟩, by rw [HK.out]; exact ⟨fun _ => H2.out, by have := H3.out; omega, H4.out, H5.out, H7.out, H9.out, H10.out⟩⟩
    go_wp2_with (first
      | (go_at_call 157; refine (contains1_no HD.out.n HBN.out s5 CI.out).mono ?_; rintro e w9 ⟨rfl, rfl⟩)
      | (go_at_call 61; (with_reducible refine (sound_any s.A1 _ s.c1 d.host w3 HEH.out HBH.out).mono ?_); rw [HH.out]; rintro e w9 ⟨rfl, rfl⟩)
      | fail)
    go_ret
    exact ⟨_, rfl, by rw [HF.out]; first | rfl | exact congrArg Value.bool (decide_eq_true h10), HB.out⟩
  · have H10 := Lib.hid h10
    have HF : Hid (fineB k d = false) := fineB_false (fun h => by have h := h.2; rw [HK.out] at h; have h6 : d.texts = [] := h.2.2.2.2.2.2; have h7 := H10.out; have h8 := HNT.out; rw [h6] at h8; simp at h8; omega)
    go_wp2_with (first
      | (go_at_call 157; refine (contains1_no HD.out.n HBN.out s5 CI.out).mono ?_; rintro e w9 ⟨rfl, rfl⟩)
      | (go_at_call 61; (with_reducible refine (sound_any s.A1 _ s.c1 d.host w3 HEH.out HBH.out).mono ?_); rw [HH.out]; rintro e w9 ⟨rfl, rfl⟩)
      | fail)
    go_ret
    exact ⟨_, rfl, by rw [HF.out]; first | rfl | exact congrArg Value.bool (decide_eq_false h10), HB.out⟩

set_option maxHeartbeats 4000000 in
theorem sndM_any (k : Int) (hk : shapeP k = shpM) (hk1 : 1 ≤ k) (hk2 : k ≤ 65535) (s : DS) (d : Da) (w : World) (hd : DRd w s d) (hbh : d.host.length ≤ 1000000000) (hbm : d.mail.length ≤ 1000000000) (hbn : d.nums.length ≤ 1000000000) (hbt : d.texts.length ≤ 8796093022208) :
    Calls Try.prog 109 #[.int .i64 k, dsV s d] w (RetP (fun v _ => v = .bool (fineB k d)) w) := by
  have hmf : ∀ (fn : Fn) (first cap : Array Value) (w : World), (Instr.makeFunc fn first cap).run Try.prog w = .ok (.func fn first cap) w := fun _ _ _ _ => rfl
  have HK := Lib.hid hk
  have hsh : ∀ w, Calls Try.prog 156 #[.int .i64 k] w (RetP (fun v _ => v = .agg #[.int .i64 0, .bool true, .bool false, .bool true, .int .i64 1, .int .i64 2, .bool false, .bool true]) w) := fun w => by have h := shapes_any k w; rw [hk] at h; exact h
  have HSH := Lib.hid hsh
  clear hk hsh
  unfold dsV
  obtain ⟨w1, hw1⟩ : ∃ w1, w1 = w.alloc (.cells #[.slice s.A0 d.bytes.length s.c0, .slice s.A1 d.host.length s.c1, .slice s.A2 d.mail.length s.c2, .slice s.A3 d.nums.length s.c3, .slice s.A4 d.texts.length s.c4] 46) := ⟨_, rfl⟩
  have hb1 : Below w.heap.size w w1 := by rw [hw1]; exact bl.alloc (Nat.le_refl _) _
  have hbx : DBox w1 w.heap.size s d := by rw [hw1]; exact DBox.made w s d _
  have HBX := Lib.hid hbx
  have HD1 := Lib.hid (hd.below hb1)
  clear hbx hd
  have en : ∀ l : List (List UInt8), l.length = 0 → l = [] := fun l h => List.eq_nil_of_length_eq_zero h
  have EN := Lib.hid en
  clear en
  go_enter Try.func109, Try.ntmps109
  go_upto_region 1 with (fail)
  rw [← hw1]
  clear hw1
  go_upto_region 2 with (first
    | (go_at_call 156; refine (HSH.out w1).mono ?_; rintro e w2 ⟨v2, rfl, rfl, hb2⟩)
    | fail)
  obtain ⟨w3, hw3⟩ : ∃ w3, w3 = w2.alloc (.cells #[.int .i64 0, .bool true, .bool false, .bool true, .int .i64 1, .int .i64 2, .bool false, .bool true] 182) := ⟨_, rfl⟩
  have hb3 : Below w2.heap.size w2 w3 := by rw [hw3]; exact bl.alloc (Nat.le_refl _) _
  have hs3 : w3.heap[w2.heap.size]? = some (.cells #[.int .i64 0, .bool true, .bool false, .bool true, .int .i64 1, .int .i64 2, .bool false, .bool true] 182 (0, 0)) := by rw [hw3]; exact heap_alloc_new w2 _
  rw [← hw3]
  clear hw3
  have HB := Lib.hid (nx (nx hb1 hb2) hb3)
  have HD := Lib.hid ((HD1.out.below hb2).below hb3)
  obtain ⟨x0, x1, x2, x3, x4⟩ := (HBX.out.below hb2).below hb3
  have s0 : w3.cell? ⟨w2.heap.size, 0, none⟩ = some (.int .i64 0) := (cell_of_row _ _ _ _ _ _ hs3).trans rfl
  have s1 : w3.cell? ⟨w2.heap.size, 1, none⟩ = some (.bool true) := (cell_of_row _ _ _ _ _ _ hs3).trans rfl
  have s2 : w3.cell? ⟨w2.heap.size, 2, none⟩ = some (.bool false) := (cell_of_row _ _ _ _ _ _ hs3).trans rfl
  have s3 : w3.cell? ⟨w2.heap.size, 3, none⟩ = some (.bool true) := (cell_of_row _ _ _ _ _ _ hs3).trans rfl
  have s4 : w3.cell? ⟨w2.heap.size, 4, none⟩ = some (.int .i64 1) := (cell_of_row _ _ _ _ _ _ hs3).trans rfl
  have s5 : w3.cell? ⟨w2.heap.size, 5, none⟩ = some (.int .i64 2) := (cell_of_row _ _ _ _ _ _ hs3).trans rfl
  have s6 : w3.cell? ⟨w2.heap.size, 6, none⟩ = some (.bool false) := (cell_of_row _ _ _ _ _ _ hs3).trans rfl
  have s7 : w3.cell? ⟨w2.heap.size, 7, none⟩ = some (.bool true) := (cell_of_row _ _ _ _ _ _ hs3).trans rfl
  clear hs3 HBX HD1 hb1 hb2 hb3
  generalize w2.heap.size = g at s0 s1 s2 s3 s4 s5 s6 s7 ⊢
  have HT : Hid (RdE encS w3 s.A4 d.texts.length d.texts) := HD.out.t
  generalize hnt : d.texts.length = nt at x4 HT hbt
  have HNT := Lib.hid hnt
  clear hnt
  have HEH : Hid (Els encS (ltS w3) (ltS w3) w3 s.A1 d.host.length d.host) := HD.out.h
  have HEM : Hid (Els encS (ltS w3) (ltS w3) w3 s.A2 d.mail.length d.mail) := HD.out.m
  have HBT := Lib.hid hbt
  have HBH := Lib.hid hbh
  have HBM := Lib.hid hbm
  have HBN := Lib.hid hbn
  clear hbt hbh hbm hbn
  have hkl : ¬ k < 1 := by omega
  have hkg : ¬ 65535 < k := by omega
  by_cases h2 : ¬ (d.bytes.length : Int) = 0
  · have H2 := Lib.hid h2
    have HF : Hid (fineB k d = false) := fineB_false (fun h => by have h := h.2; rw [HK.out] at h; exact H2.out (h.1 (by decide)))
    go_wp2_with (first
      | fail)
    go_ret
    exact ⟨_, rfl, by rw [HF.out]; rfl, HB.out⟩
  have h2 : (d.bytes.length : Int) = 0 := Decidable.of_not_not h2
  have h3 : ¬ 65535 < (d.bytes.length : Int) := by omega
  by_cases h4 : ¬ (d.nums.length : Int) = 1
  · have H4 := Lib.hid h4
    have HF : Hid (fineB k d = false) := fineB_false (fun h => by have h := h.2; rw [HK.out] at h; exact H4.out h.2.2.1)
    go_wp2_with (first
      | fail)
    go_ret
    exact ⟨_, rfl, by rw [HF.out]; rfl, HB.out⟩
  have h4 : (d.nums.length : Int) = 1 := Decidable.of_not_not h4
  have H4 := Lib.hid h4
  have H3 := Lib.hid h3
  have H2 := Lib.hid h2
  by_cases h5 : SoundN d.host
  case neg =>
    have HH := Lib.hid (soundB_false h5)
    have H5 := Lib.hid h5
    clear h5
    have HF : Hid (fineB k d = false) := fineB_false (fun h => by have h := h.2; rw [HK.out] at h; exact H5.out h.2.2.2.1)
    go_wp2_with (first
      | (go_at_call 61; (with_reducible refine (sound_any s.A1 _ s.c1 d.host w3 HEH.out HBH.out).mono ?_); rw [HH.out]; rintro e w9 ⟨rfl, rfl⟩)
      | fail)
    go_ret
    exact ⟨_, rfl, by rw [HF.out]; rfl, HB.out⟩
  have HH := Lib.hid (soundB_true h5)
  have H5 := Lib.hid h5
  clear h5
  by_cases h7 : 0 < (d.mail.length : Int)
  · have H7 := Lib.hid h7
    have HF : Hid (fineB k d = false) := fineB_false (fun h => by have h := h.2; rw [HK.out] at h; have h6 : d.mail = [] := h.2.2.2.2.1; have := H7.out; rw [h6] at this; simp at this)
    go_wp2_with (first
      | (go_at_call 61; (with_reducible refine (sound_any s.A1 _ s.c1 d.host w3 HEH.out HBH.out).mono ?_); rw [HH.out]; rintro e w9 ⟨rfl, rfl⟩)
      | fail)
    go_ret
    exact ⟨_, rfl, by rw [HF.out]; rfl, HB.out⟩
  have H7 : Hid (d.mail = []) := EN.out _ (by omega)
  by_cases h9 : ∀ n ∈ d.nums, fitsB n 2 = true
  case neg =>
    have CI : Hid (OddI d.nums 2) := h9
    have H9 := Lib.hid h9
    clear h9
    have HF : Hid (fineB k d = false) := fineB_false (fun h => by have h := h.2; rw [HK.out] at h; exact H9.out h.2.2.2.2.2.1)
    go_wp2_with (first
      | (go_at_call 157; refine (contains1_yes HD.out.n HBN.out s5 CI.out).mono ?_; rintro e w9 ⟨rfl, rfl⟩)
      | (go_at_call 61; (with_reducible refine (sound_any s.A1 _ s.c1 d.host w3 HEH.out HBH.out).mono ?_); rw [HH.out]; rintro e w9 ⟨rfl, rfl⟩)
      | fail)
    go_ret
    exact ⟨_, rfl, by rw [HF.out]; rfl, HB.out⟩
  have CI : Hid (¬ OddI d.nums 2) := fun h => h h9
  have H9 := Lib.hid h9
  clear h9
  by_cases h10 : (nt : Int) = 0
  · have H10 : Hid (d.texts = []) := EN.out _ (by have := HNT.out; omega)
    have HF : Hid (fineB k d = true) := fineB_true ⟨⟨hk1, hk2⟩, by rw [HK.out]; exact ⟨fun _ => H2.out, by have := H3.out; omega, H4.out, H5.out, H7.out, H9.out, H10.out⟩⟩
    go_wp2_with (first
      | (go_at_call 157; refine (contains1_no HD.out.n HBN.out s5 CI.out).mono ?_; rintro e w9 ⟨rfl, rfl⟩)
      | (go_at_call 61; (with_reducible refine (sound_any s.A1 _ s.c1 d.host w3 HEH.out HBH.out).mono ?_); rw [HH.out]; rintro e w9 ⟨rfl, rfl⟩)
      | fail)
    go_ret
    exact ⟨_, rfl, by rw [HF.out]; first | rfl | exact congrArg Value.bool (decide_eq_true h10), HB.out⟩
  · have H10 := Lib.hid h10
    have HF : Hid (fineB k d = false) := fineB_false (fun h => by have h := h.2; rw [HK.out] at h; have h6 : d.texts = [] := h.2.2.2.2.2.2; have h7 := H10.out; have h8 := HNT.out; rw [h6] at h8; simp at h8; omega)
    go_wp2_with (first
      | (go_at_call 157; refine (contains1_no HD.out.n HBN.out s5 CI.out).mono ?_; rintro e w9 ⟨rfl, rfl⟩)
      | (go_at_call 61; (with_reducible refine (sound_any s.A1 _ s.c1 d.host w3 HEH.out HBH.out).mono ?_); rw [HH.out]; rintro e w9 ⟨rfl, rfl⟩)
      | fail)
    go_ret
    exact ⟨_, rfl, by rw [HF.out]; first | rfl | exact congrArg Value.bool (decide_eq_false h10), HB.out⟩

set_option maxHeartbeats 4000000 in
theorem sndS_any (k : Int) (hk : shapeP k = shpS) (hk1 : 1 ≤ k) (hk2 : k ≤ 65535) (s : DS) (d : Da) (w : World) (hd : DRd w s d) (hbh : d.host.length ≤ 1000000000) (hbm : d.mail.length ≤ 1000000000) (hbn : d.nums.length ≤ 1000000000) (hbt : d.texts.length ≤ 8796093022208) :
    Calls Try.prog 109 #[.int .i64 k, dsV s d] w (RetP (fun v _ => v = .bool (fineB k d)) w) := by
  have hmf : ∀ (fn : Fn) (first cap : Array Value) (w : World), (Instr.makeFunc fn first cap).run Try.prog w = .ok (.func fn first cap) w := fun _ _ _ _ => rfl
  have HK := Lib.hid hk
  have hsh : ∀ w, Calls Try.prog 156 #[.int .i64 k] w (RetP (fun v _ => v = .agg #[.int .i64 0, .bool true, .bool true, .bool true, .int .i64 5, .int .i64 4, .bool false, .bool false]) w) := fun w => by have h := shapes_any k w; rw [hk] at h; exact h
  have HSH := Lib.hid hsh
  clear hk hsh
  unfold dsV
  obtain ⟨w1, hw1⟩ : ∃ w1, w1 = w.alloc (.cells #[.slice s.A0 d.bytes.length s.c0, .slice s.A1 d.host.length s.c1, .slice s.A2 d.mail.length s.c2, .slice s.A3 d.nums.length s.c3, .slice s.A4 d.texts.length s.c4] 46) := ⟨_, rfl⟩
  have hb1 : Below w.heap.size w w1 := by rw [hw1]; exact bl.alloc (Nat.le_refl _) _
  have hbx : DBox w1 w.heap.size s d := by rw [hw1]; exact DBox.made w s d _
  have HBX := Lib.hid hbx
  have HD1 := Lib.hid (hd.below hb1)
  clear hbx hd
  have en : ∀ l : List (List UInt8), l.length = 0 → l = [] := fun l h => List.eq_nil_of_length_eq_zero h
  have EN := Lib.hid en
  clear en
  go_enter Try.func109, Try.ntmps109
  go_upto_region 1 with (fail)
  rw [← hw1]
  clear hw1
  go_upto_region 2 with (first
    | (go_at_call 156; refine (HSH.out w1).mono ?_; rintro e w2 ⟨v2, rfl, rfl, hb2⟩)
    | fail)
  obtain ⟨w3, hw3⟩ : ∃ w3, w3 = w2.alloc (.cells #[.int .i64 0, .bool true, .bool true, .bool true, .int .i64 5, .int .i64 4, .bool false, .bool false] 182) := ⟨_, rfl⟩
  have hb3 : Below w2.heap.size w2 w3 := by rw [hw3]; exact bl.alloc (Nat.le_refl _) _
  have hs3 : w3.heap[w2.heap.size]? = some (.cells #[.int .i64 0, .bool true, .bool true, .bool true, .int .i64 5, .int .i64 4, .bool false, .bool false] 182 (0, 0)) := by rw [hw3]; exact heap_alloc_new w2 _
  rw [← hw3]
  clear hw3
  have HB := Lib.hid (nx (nx hb1 hb2) hb3)
  have HD := Lib.hid ((HD1.out.below hb2).below hb3)
  obtain ⟨x0, x1, x2, x3, x4⟩ := (HBX.out.below hb2).below hb3
  have s0 : w3.cell? ⟨w2.heap.size, 0, none⟩ = some (.int .i64 0) := (cell_of_row _ _ _ _ _ _ hs3).trans rfl
  have s1 : w3.cell? ⟨w2.heap.size, 1, none⟩ = some (.bool true) := (cell_of_row _ _ _ _ _ _ hs3).trans rfl
  have s2 : w3.cell? ⟨w2.heap.size, 2, none⟩ = some (.bool true) := (cell_of_row _ _ _ _ _ _ hs3).trans rfl
  have s3 : w3.cell? ⟨w2.heap.size, 3, none⟩ = some (.bool true) := (cell_of_row _ _ _ _ _ _ hs3).trans rfl
  have s4 : w3.cell? ⟨w2.heap.size, 4, none⟩ = some (.int .i64 5) := (cell_of_row _ _ _ _ _ _ hs3).trans rfl
  have s5 : w3.cell? ⟨w2.heap.size, 5, none⟩ = some (.int .i64 4) := (cell_of_row _ _ _ _ _ _ hs3).trans rfl
  have s6 : w3.cell? ⟨w2.heap.size, 6, none⟩ = some (.bool false) := (cell_of_row _ _ _ _ _ _ hs3).trans rfl
  have s7 : w3.cell? ⟨w2.heap.size, 7, none⟩ = some (.bool false) := (cell_of_row _ _ _ _ _ _ hs3).trans rfl
  clear hs3 HBX HD1 hb1 hb2 hb3
  generalize w2.heap.size = g at s0 s1 s2 s3 s4 s5 s6 s7 ⊢
  have HT : Hid (RdE encS w3 s.A4 d.texts.length d.texts) := HD.out.t
  generalize hnt : d.texts.length = nt at x4 HT hbt
  have HNT := Lib.hid hnt
  clear hnt
  have HEH : Hid (Els encS (ltS w3) (ltS w3) w3 s.A1 d.host.length d.host) := HD.out.h
  have HEM : Hid (Els encS (ltS w3) (ltS w3) w3 s.A2 d.mail.length d.mail) := HD.out.m
  have HBT := Lib.hid hbt
  have HBH := Lib.hid hbh
  have HBM := Lib.hid hbm
  have HBN := Lib.hid hbn
  clear hbt hbh hbm hbn
  have hkl : ¬ k < 1 := by omega
  have hkg : ¬ 65535 < k := by omega
  by_cases h2 : ¬ (d.bytes.length : Int) = 0
  · have H2 := Lib.hid h2
    have HF : Hid (fineB k d = false) := fineB_false (fun h => by have h := h.2; rw [HK.out] at h; exact H2.out (h.1 (by decide)))
    go_wp2_with (first
      | fail)
    go_ret
    exact ⟨_, rfl, by rw [HF.out]; rfl, HB.out⟩
  have h2 : (d.bytes.length : Int) = 0 := Decidable.of_not_not h2
  have h3 : ¬ 65535 < (d.bytes.length : Int) := by omega
  by_cases h4 : ¬ (d.nums.length : Int) = 5
  · have H4 := Lib.hid h4
    have HF : Hid (fineB k d = false) := fineB_false (fun h => by have h := h.2; rw [HK.out] at h; exact H4.out h.2.2.1)
    go_wp2_with (first
      | fail)
    go_ret
    exact ⟨_, rfl, by rw [HF.out]; rfl, HB.out⟩
  have h4 : (d.nums.length : Int) = 5 := Decidable.of_not_not h4
  have H4 := Lib.hid h4
  have H3 := Lib.hid h3
  have H2 := Lib.hid h2
  by_cases h5 : SoundN d.host
  case neg =>
    have HH := Lib.hid (soundB_false h5)
    have H5 := Lib.hid h5
    clear h5
    have HF : Hid (fineB k d = false) := fineB_false (fun h => by have h := h.2; rw [HK.out] at h; exact H5.out h.2.2.2.1)
    go_wp2_with (first
      | (go_at_call 61; (with_reducible refine (sound_any s.A1 _ s.c1 d.host w3 HEH.out HBH.out).mono ?_); rw [HH.out]; rintro e w9 ⟨rfl, rfl⟩)
      | fail)
    go_ret
    exact ⟨_, rfl, by rw [HF.out]; rfl, HB.out⟩
  have HH := Lib.hid (soundB_true h5)
  have H5 := Lib.hid h5
  clear h5
  by_cases h7 : SoundN d.mail
  case neg =>
    have HM := Lib.hid (soundB_false h7)
    have H7 := Lib.hid h7
    clear h7
    have HF : Hid (fineB k d = false) := fineB_false (fun h => by have h := h.2; rw [HK.out] at h; exact H7.out h.2.2.2.2.1)
    go_wp2_with (first
      | (go_at_call 61; (with_reducible refine (sound_any s.A2 _ s.c2 d.mail w3 HEM.out HBM.out).mono ?_); rw [HM.out]; rintro e w9 ⟨rfl, rfl⟩)
      | (go_at_call 61; (with_reducible refine (sound_any s.A1 _ s.c1 d.host w3 HEH.out HBH.out).mono ?_); rw [HH.out]; rintro e w9 ⟨rfl, rfl⟩)
      | fail)
    go_ret
    exact ⟨_, rfl, by rw [HF.out]; rfl, HB.out⟩
  have HM := Lib.hid (soundB_true h7)
  have H7 := Lib.hid h7
  clear h7
  by_cases h9 : ∀ n ∈ d.nums, fitsB n 4 = true
  case neg =>
    have CI : Hid (OddI d.nums 4) := h9
    have H9 := Lib.hid h9
    clear h9
    have HF : Hid (fineB k d = false) := fineB_false (fun h => by have h := h.2; rw [HK.out] at h; exact H9.out h.2.2.2.2.2.1)
    go_wp2_with (first
      | (go_at_call 157; refine (contains1_yes HD.out.n HBN.out s5 CI.out).mono ?_; rintro e w9 ⟨rfl, rfl⟩)
      | (go_at_call 61; (with_reducible refine (sound_any s.A2 _ s.c2 d.mail w3 HEM.out HBM.out).mono ?_); rw [HM.out]; rintro e w9 ⟨rfl, rfl⟩)
      | (go_at_call 61; (with_reducible refine (sound_any s.A1 _ s.c1 d.host w3 HEH.out HBH.out).mono ?_); rw [HH.out]; rintro e w9 ⟨rfl, rfl⟩)
      | fail)
    go_ret
    exact ⟨_, rfl, by rw [HF.out]; rfl, HB.out⟩
  have CI : Hid (¬ OddI d.nums 4) := fun h => h h9
  have H9 := Lib.hid h9
  clear h9
  by_cases h10 : (nt : Int) = 0
  · have H10 : Hid (d.texts = []) := EN.out _ (by have := HNT.out; omega)
    have HF : Hid (fineB k d = true) := fineB_true ⟨⟨hk1, hk2⟩, by rw [HK.out]; exact ⟨fun _ => H2.out, by have := H3.out; omega, H4.out, H5.out, H7.out, H9.out, H10.out⟩⟩
    go_wp2_with (first
      | (go_at_call 157; refine (contains1_no HD.out.n HBN.out s5 CI.out).mono ?_; rintro e w9 ⟨rfl, rfl⟩)
      | (go_at_call 61; (with_reducible refine (sound_any s.A2 _ s.c2 d.mail w3 HEM.out HBM.out).mono ?_); rw [HM.out]; rintro e w9 ⟨rfl, rfl⟩)
      | (go_at_call 61; (with_reducible refine (sound_any s.A1 _ s.c1 d.host w3 HEH.out HBH.out).mono ?_); rw [HH.out]; rintro e w9 ⟨rfl, rfl⟩)
      | fail)
    go_ret
    exact ⟨_, rfl, by rw [HF.out]; first | rfl | exact congrArg Value.bool (decide_eq_true h10), HB.out⟩
  · have H10 := Lib.hid h10
    have HF : Hid (fineB k d = false) := fineB_false (fun h => by have h := h.2; rw [HK.out] at h; have h6 : d.texts = [] := h.2.2.2.2.2.2; have h7 := H10.out; have h8 := HNT.out; rw [h6] at h8; simp at h8; omega)
    go_wp2_with (first
      | (go_at_call 157; refine (contains1_no HD.out.n HBN.out s5 CI.out).mono ?_; rintro e w9 ⟨rfl, rfl⟩)
      | (go_at_call 61; (with_reducible refine (sound_any s.A2 _ s.c2 d.mail w3 HEM.out HBM.out).mono ?_); rw [HM.out]; rintro e w9 ⟨rfl, rfl⟩)
      | (go_at_call 61; (with_reducible refine (sound_any s.A1 _ s.c1 d.host w3 HEH.out HBH.out).mono ?_); rw [HH.out]; rintro e w9 ⟨rfl, rfl⟩)
      | fail)
    go_ret
    exact ⟨_, rfl, by rw [HF.out]; first | rfl | exact congrArg Value.bool (decide_eq_false h10), HB.out⟩

set_option maxHeartbeats 4000000 in
theorem sndV3_any (k : Int) (hk : shapeP k = shpV3) (hk1 : 1 ≤ k) (hk2 : k ≤ 65535) (s : DS) (d : Da) (w : World) (hd : DRd w s d) (hbh : d.host.length ≤ 1000000000) (hbm : d.mail.length ≤ 1000000000) (hbn : d.nums.length ≤ 1000000000) (hbt : d.texts.length ≤ 8796093022208) :
    Calls Try.prog 109 #[.int .i64 k, dsV s d] w (RetP (fun v _ => v = .bool (fineB k d)) w) := by
  have hmf : ∀ (fn : Fn) (first cap : Array Value) (w : World), (Instr.makeFunc fn first cap).run Try.prog w = .ok (.func fn first cap) w := fun _ _ _ _ => rfl
  have HK := Lib.hid hk
  have hsh : ∀ w, Calls Try.prog 156 #[.int .i64 k] w (RetP (fun v _ => v = .agg #[.int .i64 0, .bool true, .bool false, .bool false, .int .i64 3, .int .i64 2, .bool false, .bool true]) w) := fun w => by have h := shapes_any k w; rw [hk] at h; exact h
  have HSH := Lib.hid hsh
  clear hk hsh
  unfold dsV
  obtain ⟨w1, hw1⟩ : ∃ w1, w1 = w.alloc (.cells #[.slice s.A0 d.bytes.length s.c0, .slice s.A1 d.host.length s.c1, .slice s.A2 d.mail.length s.c2, .slice s.A3 d.nums.length s.c3, .slice s.A4 d.texts.length s.c4] 46) := ⟨_, rfl⟩
  have hb1 : Below w.heap.size w w1 := by rw [hw1]; exact bl.alloc (Nat.le_refl _) _
  have hbx : DBox w1 w.heap.size s d := by rw [hw1]; exact DBox.made w s d _
  have HBX := Lib.hid hbx
  have HD1 := Lib.hid (hd.below hb1)
  clear hbx hd
  have en : ∀ l : List (List UInt8), l.length = 0 → l = [] := fun l h => List.eq_nil_of_length_eq_zero h
  have EN := Lib.hid en
  clear en
  go_enter Try.func109, Try.ntmps109
  go_upto_region 1 with (fail)
  rw [← hw1]
  clear hw1
  go_upto_region 2 with (first
    | (go_at_call 156; refine (HSH.out w1).mono ?_; rintro e w2 ⟨v2, rfl, rfl, hb2⟩)
    | fail)
  obtain ⟨w3, hw3⟩ : ∃ w3, w3 = w2.alloc (.cells #[.int .i64 0, .bool true, .bool false, .bool false, .int .i64 3, .int .i64 2, .bool false, .bool true] 182) := ⟨_, rfl⟩
  have hb3 : Below w2.heap.size w2 w3 := by rw [hw3]; exact bl.alloc (Nat.le_refl _) _
  have hs3 : w3.heap[w2.heap.size]? = some (.cells #[.int .i64 0, .bool true, .bool false, .bool false, .int .i64 3, .int .i64 2, .bool false, .bool true] 182 (0, 0)) := by rw [hw3]; exact heap_alloc_new w2 _
  rw [← hw3]
  clear hw3
  have HB := Lib.hid (nx (nx hb1 hb2) hb3)
  have HD := Lib.hid ((HD1.out.below hb2).below hb3)
  obtain ⟨x0, x1, x2, x3, x4⟩ := (HBX.out.below hb2).below hb3
  have s0 : w3.cell? ⟨w2.heap.size, 0, none⟩ = some (.int .i64 0) := (cell_of_row _ _ _ _ _ _ hs3).trans rfl
  have s1 : w3.cell? ⟨w2.heap.size, 1, none⟩ = some (.bool true) := (cell_of_row _ _ _ _ _ _ hs3).trans rfl
  have s2 : w3.cell? ⟨w2.heap.size, 2, none⟩ = some (.bool false) := (cell_of_row _ _ _ _ _ _ hs3).trans rfl
  have s3 : w3.cell? ⟨w2.heap.size, 3, none⟩ = some (.bool false) := (cell_of_row _ _ _ _ _ _ hs3).trans rfl
  have s4 : w3.cell? ⟨w2.heap.size, 4, none⟩ = some (.int .i64 3) := (cell_of_row _ _ _ _ _ _ hs3).trans rfl
  have s5 : w3.cell? ⟨w2.heap.size, 5, none⟩ = some (.int .i64 2) := (cell_of_row _ _ _ _ _ _ hs3).trans rfl
  have s6 : w3.cell? ⟨w2.heap.size, 6, none⟩ = some (.bool false) := (cell_of_row _ _ _ _ _ _ hs3).trans rfl
  have s7 : w3.cell? ⟨w2.heap.size, 7, none⟩ = some (.bool true) := (cell_of_row _ _ _ _ _ _ hs3).trans rfl
  clear hs3 HBX HD1 hb1 hb2 hb3
  generalize w2.heap.size = g at s0 s1 s2 s3 s4 s5 s6 s7 ⊢
  have HT : Hid (RdE encS w3 s.A4 d.texts.length d.texts) := HD.out.t
  generalize hnt : d.texts.length = nt at x4 HT hbt
  have HNT := Lib.hid hnt
  clear hnt
  have HEH : Hid (Els encS (ltS w3) (ltS w3) w3 s.A1 d.host.length d.host) := HD.out.h
  have HEM : Hid (Els encS (ltS w3) (ltS w3) w3 s.A2 d.mail.length d.mail) := HD.out.m
  have HBT := Lib.hid hbt
  have HBH := Lib.hid hbh
  have HBM := Lib.hid hbm
  have HBN := Lib.hid hbn
  clear hbt hbh hbm hbn
  have hkl : ¬ k < 1 := by omega
  have hkg : ¬ 65535 < k := by omega
  by_cases h2 : ¬ (d.bytes.length : Int) = 0
  · have H2 := Lib.hid h2
    have HF : Hid (fineB k d = false) := fineB_false (fun h => by have h := h.2; rw [HK.out] at h; exact H2.out (h.1 (by decide)))
    go_wp2_with (first
      | fail)
    go_ret
    exact ⟨_, rfl, by rw [HF.out]; rfl, HB.out⟩
  have h2 : (d.bytes.length : Int) = 0 := Decidable.of_not_not h2
  have h3 : ¬ 65535 < (d.bytes.length : Int) := by omega
  by_cases h4 : ¬ (d.nums.length : Int) = 3
  · have H4 := Lib.hid h4
    have HF : Hid (fineB k d = false) := fineB_false (fun h => by have h := h.2; rw [HK.out] at h; exact H4.out h.2.2.1)
    go_wp2_with (first
      | fail)
    go_ret
    exact ⟨_, rfl, by rw [HF.out]; rfl, HB.out⟩
  have h4 : (d.nums.length : Int) = 3 := Decidable.of_not_not h4
  have H4 := Lib.hid h4
  have H3 := Lib.hid h3
  have H2 := Lib.hid h2
  by_cases h5 : SoundN d.host
  case neg =>
    have HH := Lib.hid (soundB_false h5)
    have H5 := Lib.hid h5
    clear h5
    have HF : Hid (fineB k d = false) := fineB_false (fun h => by have h := h.2; rw [HK.out] at h; exact H5.out h.2.2.2.1)
    go_wp2_with (first
      | (go_at_call 61; (with_reducible refine (sound_any s.A1 _ s.c1 d.host w3 HEH.out HBH.out).mono ?_); rw [HH.out]; rintro e w9 ⟨rfl, rfl⟩)
      | fail)
    go_ret
    exact ⟨_, rfl, by rw [HF.out]; rfl, HB.out⟩
  have HH := Lib.hid (soundB_true h5)
  have H5 := Lib.hid h5
  clear h5
  by_cases h7 : 0 < (d.mail.length : Int)
  · have H7 := Lib.hid h7
    have HF : Hid (fineB k d = false) := fineB_false (fun h => by have h := h.2; rw [HK.out] at h; have h6 : d.mail = [] := h.2.2.2.2.1; have := H7.out; rw [h6] at this; simp at this)
    go_wp2_with (first
      | (go_at_call 61; (with_reducible refine (sound_any s.A1 _ s.c1 d.host w3 HEH.out HBH.out).mono ?_); rw [HH.out]; rintro e w9 ⟨rfl, rfl⟩)
      | fail)
    go_ret
    exact ⟨_, rfl, by rw [HF.out]; rfl, HB.out⟩
  have H7 : Hid (d.mail = []) := EN.out _ (by omega)
  by_cases h9 : ∀ n ∈ d.nums, fitsB n 2 = true
  case neg =>
    have CI : Hid (OddI d.nums 2) := h9
    have H9 := Lib.hid h9
    clear h9
    have HF : Hid (fineB k d = false) := fineB_false (fun h => by have h := h.2; rw [HK.out] at h; exact H9.out h.2.2.2.2.2.1)
    go_wp2_with (first
      | (go_at_call 157; refine (contains1_yes HD.out.n HBN.out s5 CI.out).mono ?_; rintro e w9 ⟨rfl, rfl⟩)
      | (go_at_call 61; (with_reducible refine (sound_any s.A1 _ s.c1 d.host w3 HEH.out HBH.out).mono ?_); rw [HH.out]; rintro e w9 ⟨rfl, rfl⟩)
      | fail)
    go_ret
    exact ⟨_, rfl, by rw [HF.out]; rfl, HB.out⟩
  have CI : Hid (¬ OddI d.nums 2) := fun h => h h9
  have H9 := Lib.hid h9
  clear h9
  by_cases h10 : (nt : Int) = 0
  · have H10 : Hid (d.texts = []) := EN.out _ (by have := HNT.out; omega)
    have HF : Hid (fineB k d = true) := fineB_true ⟨⟨hk1, hk2⟩, by rw [HK.out]; exact ⟨fun _ => H2.out, by have := H3.out; omega, H4.out, H5.out, H7.out, H9.out, H10.out⟩⟩
    go_wp2_with (first
      | (go_at_call 157; refine (contains1_no HD.out.n HBN.out s5 CI.out).mono ?_; rintro e w9 ⟨rfl, rfl⟩)
      | (go_at_call 61; (with_reducible refine (sound_any s.A1 _ s.c1 d.host w3 HEH.out HBH.out).mono ?_); rw [HH.out]; rintro e w9 ⟨rfl, rfl⟩)
      | fail)
    go_ret
    exact ⟨_, rfl, by rw [HF.out]; first | rfl | exact congrArg Value.bool (decide_eq_true h10), HB.out⟩
  · have H10 := Lib.hid h10
    have HF : Hid (fineB k d = false) := fineB_false (fun h => by have h := h.2; rw [HK.out] at h; have h6 : d.texts = [] := h.2.2.2.2.2.2; have h7 := H10.out; have h8 := HNT.out; rw [h6] at h8; simp at h8; omega)
    go_wp2_with (first
      | (go_at_call 157; refine (contains1_no HD.out.n HBN.out s5 CI.out).mono ?_; rintro e w9 ⟨rfl, rfl⟩)
      | (go_at_call 61; (with_reducible refine (sound_any s.A1 _ s.c1 d.host w3 HEH.out HBH.out).mono ?_); rw [HH.out]; rintro e w9 ⟨rfl, rfl⟩)
      | fail)
    go_ret
    exact ⟨_, rfl, by rw [HF.out]; first | rfl | exact congrArg Value.bool (decide_eq_false h10), HB.out⟩

set_option maxHeartbeats 4000000 in
theorem sndT_any (k : Int) (hk : shapeP k = shpT) (hk1 : 1 ≤ k) (hk2 : k ≤ 65535) (s : DS) (d : Da) (w : World) (hd : DRd w s d) (hbh : d.host.length ≤ 1000000000) (hbm : d.mail.length ≤ 1000000000) (hbn : d.nums.length ≤ 1000000000) (hbt : d.texts.length ≤ 8796093022208) :
    Calls Try.prog 109 #[.int .i64 k, dsV s d] w (RetP (fun v _ => v = .bool (fineB k d)) w) := by
  have hmf : ∀ (fn : Fn) (first cap : Array Value) (w : World), (Instr.makeFunc fn first cap).run Try.prog w = .ok (.func fn first cap) w := fun _ _ _ _ => rfl
  have HK := Lib.hid hk
  have hsh : ∀ w, Calls Try.prog 156 #[.int .i64 k] w (RetP (fun v _ => v = .agg #[.int .i64 0, .bool false, .bool false, .bool false, .int .i64 0, .int .i64 0, .bool true, .bool false]) w) := fun w => by have h := shapes_any k w; rw [hk] at h; exact h
  have HSH := Lib.hid hsh
  clear hk hsh
  unfold dsV
  obtain ⟨w1, hw1⟩ : ∃ w1, w1 = w.alloc (.cells #[.slice s.A0 d.bytes.length s.c0, .slice s.A1 d.host.length s.c1, .slice s.A2 d.mail.length s.c2, .slice s.A3 d.nums.length s.c3, .slice s.A4 d.texts.length s.c4] 46) := ⟨_, rfl⟩
  have hb1 : Below w.heap.size w w1 := by rw [hw1]; exact bl.alloc (Nat.le_refl _) _
  have hbx : DBox w1 w.heap.size s d := by rw [hw1]; exact DBox.made w s d _
  have HBX := Lib.hid hbx
  have HD1 := Lib.hid (hd.below hb1)
  clear hbx hd
  have en : ∀ l : List (List UInt8), l.length = 0 → l = [] := fun l h => List.eq_nil_of_length_eq_zero h
  have EN := Lib.hid en
  clear en
  go_enter Try.func109, Try.ntmps109
  go_upto_region 1 with (fail)
  rw [← hw1]
  clear hw1
  go_upto_region 2 with (first
    | (go_at_call 156; refine (HSH.out w1).mono ?_; rintro e w2 ⟨v2, rfl, rfl, hb2⟩)
    | fail)
  obtain ⟨w3, hw3⟩ : ∃ w3, w3 = w2.alloc (.cells #[.int .i64 0, .bool false, .bool false, .bool false, .int .i64 0, .int .i64 0, .bool true, .bool false] 182) := ⟨_, rfl⟩
  have hb3 : Below w2.heap.size w2 w3 := by rw [hw3]; exact bl.alloc (Nat.le_refl _) _
  have hs3 : w3.heap[w2.heap.size]? = some (.cells #[.int .i64 0, .bool false, .bool false, .bool false, .int .i64 0, .int .i64 0, .bool true, .bool false] 182 (0, 0)) := by rw [hw3]; exact heap_alloc_new w2 _
  rw [← hw3]
  clear hw3
  have HB := Lib.hid (nx (nx hb1 hb2) hb3)
  have HD := Lib.hid ((HD1.out.below hb2).below hb3)
  obtain ⟨x0, x1, x2, x3, x4⟩ := (HBX.out.below hb2).below hb3
  have s0 : w3.cell? ⟨w2.heap.size, 0, none⟩ = some (.int .i64 0) := (cell_of_row _ _ _ _ _ _ hs3).trans rfl
  have s1 : w3.cell? ⟨w2.heap.size, 1, none⟩ = some (.bool false) := (cell_of_row _ _ _ _ _ _ hs3).trans rfl
  have s2 : w3.cell? ⟨w2.heap.size, 2, none⟩ = some (.bool false) := (cell_of_row _ _ _ _ _ _ hs3).trans rfl
  have s3 : w3.cell? ⟨w2.heap.size, 3, none⟩ = some (.bool false) := (cell_of_row _ _ _ _ _ _ hs3).trans rfl
  have s4 : w3.cell? ⟨w2.heap.size, 4, none⟩ = some (.int .i64 0) := (cell_of_row _ _ _ _ _ _ hs3).trans rfl
  have s5 : w3.cell? ⟨w2.heap.size, 5, none⟩ = some (.int .i64 0) := (cell_of_row _ _ _ _ _ _ hs3).trans rfl
  have s6 : w3.cell? ⟨w2.heap.size, 6, none⟩ = some (.bool true) := (cell_of_row _ _ _ _ _ _ hs3).trans rfl
  have s7 : w3.cell? ⟨w2.heap.size, 7, none⟩ = some (.bool false) := (cell_of_row _ _ _ _ _ _ hs3).trans rfl
  clear hs3 HBX HD1 hb1 hb2 hb3
  generalize w2.heap.size = g at s0 s1 s2 s3 s4 s5 s6 s7 ⊢
  have HT : Hid (RdE encS w3 s.A4 d.texts.length d.texts) := HD.out.t
  generalize hnt : d.texts.length = nt at x4 HT hbt
  have HNT := Lib.hid hnt
  clear hnt
  have HEH : Hid (Els encS (ltS w3) (ltS w3) w3 s.A1 d.host.length d.host) := HD.out.h
  have HEM : Hid (Els encS (ltS w3) (ltS w3) w3 s.A2 d.mail.length d.mail) := HD.out.m
  have HBT := Lib.hid hbt
  have HBH := Lib.hid hbh
  have HBM := Lib.hid hbm
  have HBN := Lib.hid hbn
  clear hbt hbh hbm hbn
  have hkl : ¬ k < 1 := by omega
  have hkg : ¬ 65535 < k := by omega
  by_cases h2 : ¬ (d.bytes.length : Int) = 0
  · have H2 := Lib.hid h2
    have HF : Hid (fineB k d = false) := fineB_false (fun h => by have h := h.2; rw [HK.out] at h; exact H2.out (h.1 (by decide)))
    go_wp2_with (first
      | fail)
    go_ret
    exact ⟨_, rfl, by rw [HF.out]; rfl, HB.out⟩
  have h2 : (d.bytes.length : Int) = 0 := Decidable.of_not_not h2
  have h3 : ¬ 65535 < (d.bytes.length : Int) := by omega
  by_cases h4 : ¬ (d.nums.length : Int) = 0
  · have H4 := Lib.hid h4
    have HF : Hid (fineB k d = false) := fineB_false (fun h => by have h := h.2; rw [HK.out] at h; exact H4.out h.2.2.1)
    go_wp2_with (first
      | fail)
    go_ret
    exact ⟨_, rfl, by rw [HF.out]; rfl, HB.out⟩
  have h4 : (d.nums.length : Int) = 0 := Decidable.of_not_not h4
  have H4 := Lib.hid h4
  have H3 := Lib.hid h3
  have H2 := Lib.hid h2
  by_cases h5 : 0 < (d.host.length : Int)
  · have H5 := Lib.hid h5
    have HF : Hid (fineB k d = false) := fineB_false (fun h => by have h := h.2; rw [HK.out] at h; have h6 : d.host = [] := h.2.2.2.1; have := H5.out; rw [h6] at this; simp at this)
    go_wp2_with (first
      | fail)
    go_ret
    exact ⟨_, rfl, by rw [HF.out]; rfl, HB.out⟩
  have H5 : Hid (d.host = []) := EN.out _ (by omega)
  by_cases h7 : 0 < (d.mail.length : Int)
  · have H7 := Lib.hid h7
    have HF : Hid (fineB k d = false) := fineB_false (fun h => by have h := h.2; rw [HK.out] at h; have h6 : d.mail = [] := h.2.2.2.2.1; have := H7.out; rw [h6] at this; simp at this)
    go_wp2_with (first
      | fail)
    go_ret
    exact ⟨_, rfl, by rw [HF.out]; rfl, HB.out⟩
  have H7 : Hid (d.mail = []) := EN.out _ (by omega)
  have h9 : ∀ n ∈ d.nums, fitsB n 0 = true := fun n hn => by rw [List.eq_nil_of_length_eq_zero (show d.nums.length = 0 by omega)] at hn; cases hn
  have CI : Hid (¬ OddI d.nums 0) := fun h => h h9
  have H9 := Lib.hid h9
  clear h9
  by_cases h10 : 1 ≤ (nt : Int)
  case neg =>
    have H10 := Lib.hid h10
    have HF : Hid (fineB k d = false) := fineB_false (fun h => by have h := h.2; rw [HK.out] at h; have h6 : 1 ≤ d.texts.length := h.2.2.2.2.2.2.1; have := H10.out; have := HNT.out; omega)
    go_wp2_with (first
      | (go_at_call 157; refine (contains1_no HD.out.n HBN.out s5 CI.out).mono ?_; rintro e w9 ⟨rfl, rfl⟩)
      | fail)
    go_ret
    exact ⟨_, rfl, by rw [HF.out]; simp, HB.out⟩
  by_cases h11 : (nt : Int) ≤ 64
  case neg =>
    have H11 := Lib.hid h11
    have HF : Hid (fineB k d = false) := fineB_false (fun h => by have h := h.2; rw [HK.out] at h; have h6 : d.texts.length ≤ 64 := h.2.2.2.2.2.2.2.1; have := H11.out; have := HNT.out; omega)
    go_wp2_with (first
      | (go_at_call 157; refine (contains1_no HD.out.n HBN.out s5 CI.out).mono ?_; rintro e w9 ⟨rfl, rfl⟩)
      | fail)
    go_ret
    exact ⟨_, rfl, by rw [HF.out]; simp, HB.out⟩
  by_cases h12 : ∀ l ∈ d.texts, l.length ≤ 255
  case neg =>
    have CT : Hid (LongT d.texts) := h12
    have H12 := Lib.hid h12
    clear h12
    have HF : Hid (fineB k d = false) := fineB_false (fun h => by have h := h.2; rw [HK.out] at h; exact H12.out h.2.2.2.2.2.2.2.2)
    go_wp2_with (first
      | (go_at_call 110; refine (contains2_yes HT.out HBT.out CT.out).mono ?_; rintro e w9 ⟨rfl, rfl⟩)
      | (go_at_call 157; refine (contains1_no HD.out.n HBN.out s5 CI.out).mono ?_; rintro e w9 ⟨rfl, rfl⟩)
      | fail)
    go_ret
    exact ⟨_, rfl, by rw [HF.out]; simp, HB.out⟩
  have CT : Hid (¬ LongT d.texts) := fun h => h h12
  have H12 := Lib.hid h12
  have H10 := Lib.hid h10
  have H11 := Lib.hid h11
  clear h12
  have HF : Hid (fineB k d = true) := fineB_true ⟨⟨hk1, hk2⟩, by rw [HK.out]; exact ⟨fun _ => H2.out, by have := H3.out; omega, H4.out, H5.out, H7.out, H9.out, ⟨by have := H10.out; have := HNT.out; omega, by have := H11.out; have := HNT.out; omega, H12.out⟩⟩⟩
  go_wp2_with (first
    | (go_at_call 110; refine (contains2_no HT.out HBT.out CT.out).mono ?_; rintro e w9 ⟨rfl, rfl⟩)
    | (go_at_call 157; refine (contains1_no HD.out.n HBN.out s5 CI.out).mono ?_; rintro e w9 ⟨rfl, rfl⟩)
    | fail)
  go_ret
  exact ⟨_, rfl, by rw [HF.out]; first | (simp; done) | (simp [h10]; done) | (simp [h11]; done), HB.out⟩

set_option maxHeartbeats 4000000 in
theorem sndB_any (k : Int) (hk : shapeP k = shpB) (hk1 : 1 ≤ k) (hk2 : k ≤ 65535) (s : DS) (d : Da) (w : World) (hd : DRd w s d) (hbh : d.host.length ≤ 1000000000) (hbm : d.mail.length ≤ 1000000000) (hbn : d.nums.length ≤ 1000000000) (hbt : d.texts.length ≤ 8796093022208) :
    Calls Try.prog 109 #[.int .i64 k, dsV s d] w (RetP (fun v _ => v = .bool (fineB k d)) w) := by
  have hmf : ∀ (fn : Fn) (first cap : Array Value) (w : World), (Instr.makeFunc fn first cap).run Try.prog w = .ok (.func fn first cap) w := fun _ _ _ _ => rfl
  have HK := Lib.hid hk
  have hsh : ∀ w, Calls Try.prog 156 #[.int .i64 k] w (RetP (fun v _ => v = .agg #[.int .i64 (-1), .bool false, .bool false, .bool false, .int .i64 0, .int .i64 0, .bool false, .bool false]) w) := fun w => by have h := shapes_any k w; rw [hk] at h; exact h
  have HSH := Lib.hid hsh
  clear hk hsh
  unfold dsV
  obtain ⟨w1, hw1⟩ : ∃ w1, w1 = w.alloc (.cells #[.slice s.A0 d.bytes.length s.c0, .slice s.A1 d.host.length s.c1, .slice s.A2 d.mail.length s.c2, .slice s.A3 d.nums.length s.c3, .slice s.A4 d.texts.length s.c4] 46) := ⟨_, rfl⟩
  have hb1 : Below w.heap.size w w1 := by rw [hw1]; exact bl.alloc (Nat.le_refl _) _
  have hbx : DBox w1 w.heap.size s d := by rw [hw1]; exact DBox.made w s d _
  have HBX := Lib.hid hbx
  have HD1 := Lib.hid (hd.below hb1)
  clear hbx hd
  have en : ∀ l : List (List UInt8), l.length = 0 → l = [] := fun l h => List.eq_nil_of_length_eq_zero h
  have EN := Lib.hid en
  clear en
  go_enter Try.func109, Try.ntmps109
  go_upto_region 1 with (fail)
  rw [← hw1]
  clear hw1
  go_upto_region 2 with (first
    | (go_at_call 156; refine (HSH.out w1).mono ?_; rintro e w2 ⟨v2, rfl, rfl, hb2⟩)
    | fail)
  obtain ⟨w3, hw3⟩ : ∃ w3, w3 = w2.alloc (.cells #[.int .i64 (-1), .bool false, .bool false, .bool false, .int .i64 0, .int .i64 0, .bool false, .bool false] 182) := ⟨_, rfl⟩
  have hb3 : Below w2.heap.size w2 w3 := by rw [hw3]; exact bl.alloc (Nat.le_refl _) _
  have hs3 : w3.heap[w2.heap.size]? = some (.cells #[.int .i64 (-1), .bool false, .bool false, .bool false, .int .i64 0, .int .i64 0, .bool false, .bool false] 182 (0, 0)) := by rw [hw3]; exact heap_alloc_new w2 _
  rw [← hw3]
  clear hw3
  have HB := Lib.hid (nx (nx hb1 hb2) hb3)
  have HD := Lib.hid ((HD1.out.below hb2).below hb3)
  obtain ⟨x0, x1, x2, x3, x4⟩ := (HBX.out.below hb2).below hb3
  have s0 : w3.cell? ⟨w2.heap.size, 0, none⟩ = some (.int .i64 (-1)) := (cell_of_row _ _ _ _ _ _ hs3).trans rfl
  have s1 : w3.cell? ⟨w2.heap.size, 1, none⟩ = some (.bool false) := (cell_of_row _ _ _ _ _ _ hs3).trans rfl
  have s2 : w3.cell? ⟨w2.heap.size, 2, none⟩ = some (.bool false) := (cell_of_row _ _ _ _ _ _ hs3).trans rfl
  have s3 : w3.cell? ⟨w2.heap.size, 3, none⟩ = some (.bool false) := (cell_of_row _ _ _ _ _ _ hs3).trans rfl
  have s4 : w3.cell? ⟨w2.heap.size, 4, none⟩ = some (.int .i64 0) := (cell_of_row _ _ _ _ _ _ hs3).trans rfl
  have s5 : w3.cell? ⟨w2.heap.size, 5, none⟩ = some (.int .i64 0) := (cell_of_row _ _ _ _ _ _ hs3).trans rfl
  have s6 : w3.cell? ⟨w2.heap.size, 6, none⟩ = some (.bool false) := (cell_of_row _ _ _ _ _ _ hs3).trans rfl
  have s7 : w3.cell? ⟨w2.heap.size, 7, none⟩ = some (.bool false) := (cell_of_row _ _ _ _ _ _ hs3).trans rfl
  clear hs3 HBX HD1 hb1 hb2 hb3
  generalize w2.heap.size = g at s0 s1 s2 s3 s4 s5 s6 s7 ⊢
  have HT : Hid (RdE encS w3 s.A4 d.texts.length d.texts) := HD.out.t
  generalize hnt : d.texts.length = nt at x4 HT hbt
  have HNT := Lib.hid hnt
  clear hnt
  have HEH : Hid (Els encS (ltS w3) (ltS w3) w3 s.A1 d.host.length d.host) := HD.out.h
  have HEM : Hid (Els encS (ltS w3) (ltS w3) w3 s.A2 d.mail.length d.mail) := HD.out.m
  have HBT := Lib.hid hbt
  have HBH := Lib.hid hbh
  have HBM := Lib.hid hbm
  have HBN := Lib.hid hbn
  clear hbt hbh hbm hbn
  have hkl : ¬ k < 1 := by omega
  have hkg : ¬ 65535 < k := by omega
  by_cases h3 : 65535 < (d.bytes.length : Int)
  · have H2 := Lib.hid h3
    have HF : Hid (fineB k d = false) := fineB_false (fun h => by have h := h.2; rw [HK.out] at h; have := h.2.1; have := H2.out; omega)
    go_wp2_with (first
      | fail)
    go_ret
    exact ⟨_, rfl, by rw [HF.out]; rfl, HB.out⟩
  by_cases h4 : ¬ (d.nums.length : Int) = 0
  · have H4 := Lib.hid h4
    have HF : Hid (fineB k d = false) := fineB_false (fun h => by have h := h.2; rw [HK.out] at h; exact H4.out h.2.2.1)
    go_wp2_with (first
      | fail)
    go_ret
    exact ⟨_, rfl, by rw [HF.out]; rfl, HB.out⟩
  have h4 : (d.nums.length : Int) = 0 := Decidable.of_not_not h4
  have H4 := Lib.hid h4
  have H3 := Lib.hid h3
  by_cases h5 : 0 < (d.host.length : Int)
  · have H5 := Lib.hid h5
    have HF : Hid (fineB k d = false) := fineB_false (fun h => by have h := h.2; rw [HK.out] at h; have h6 : d.host = [] := h.2.2.2.1; have := H5.out; rw [h6] at this; simp at this)
    go_wp2_with (first
      | fail)
    go_ret
    exact ⟨_, rfl, by rw [HF.out]; rfl, HB.out⟩
  have H5 : Hid (d.host = []) := EN.out _ (by omega)
  by_cases h7 : 0 < (d.mail.length : Int)
  · have H7 := Lib.hid h7
    have HF : Hid (fineB k d = false) := fineB_false (fun h => by have h := h.2; rw [HK.out] at h; have h6 : d.mail = [] := h.2.2.2.2.1; have := H7.out; rw [h6] at this; simp at this)
    go_wp2_with (first
      | fail)
    go_ret
    exact ⟨_, rfl, by rw [HF.out]; rfl, HB.out⟩
  have H7 : Hid (d.mail = []) := EN.out _ (by omega)
  have h9 : ∀ n ∈ d.nums, fitsB n 0 = true := fun n hn => by rw [List.eq_nil_of_length_eq_zero (show d.nums.length = 0 by omega)] at hn; cases hn
  have CI : Hid (¬ OddI d.nums 0) := fun h => h h9
  have H9 := Lib.hid h9
  clear h9
  by_cases h10 : (nt : Int) = 0
  · have H10 : Hid (d.texts = []) := EN.out _ (by have := HNT.out; omega)
    have HF : Hid (fineB k d = true) := fineB_true ⟨⟨hk1, hk2⟩, by rw [HK.out]; exact ⟨fun h => absurd h (by decide), by have := H3.out; omega, H4.out, H5.out, H7.out, H9.out, H10.out⟩⟩
    go_wp2_with (first
      | (go_at_call 157; refine (contains1_no HD.out.n HBN.out s5 CI.out).mono ?_; rintro e w9 ⟨rfl, rfl⟩)
      | fail)
    go_ret
    exact ⟨_, rfl, by rw [HF.out]; first | rfl | exact congrArg Value.bool (decide_eq_true h10), HB.out⟩
  · have H10 := Lib.hid h10
    have HF : Hid (fineB k d = false) := fineB_false (fun h => by have h := h.2; rw [HK.out] at h; have h6 : d.texts = [] := h.2.2.2.2.2.2; have h7 := H10.out; have h8 := HNT.out; rw [h6] at h8; simp at h8; omega)
    go_wp2_with (first
      | (go_at_call 157; refine (contains1_no HD.out.n HBN.out s5 CI.out).mono ?_; rintro e w9 ⟨rfl, rfl⟩)
      | fail)
    go_ret
    exact ⟨_, rfl, by rw [HF.out]; first | rfl | exact congrArg Value.bool (decide_eq_false h10), HB.out⟩

theorem dsound_big (k : Int) (s : DS) (d : Da) (w : World) (hd : DRd w s d) (hbh : d.host.length ≤ 1000000000) (hbm : d.mail.length ≤ 1000000000) (hbn : d.nums.length ≤ 1000000000) (hbt : d.texts.length ≤ 8796093022208) :
    Calls Try.prog 109 #[.int .i64 k, dsV s d] w (RetP (fun v _ => v = .bool (fineB k d)) w) := by
  by_cases hk1 : 1 ≤ k
  · by_cases hk2 : k ≤ 65535
    · rcases shape_cases k with e | e | e | e | e | e | e | e
      · exact sndA_any k e hk1 hk2 s d w hd hbh hbm hbn hbt
      · exact sndQ_any k e hk1 hk2 s d w hd hbh hbm hbn hbt
      · exact sndN_any k e hk1 hk2 s d w hd hbh hbm hbn hbt
      · exact sndM_any k e hk1 hk2 s d w hd hbh hbm hbn hbt
      · exact sndS_any k e hk1 hk2 s d w hd hbh hbm hbn hbt
      · exact sndV3_any k e hk1 hk2 s d w hd hbh hbm hbn hbt
      · exact sndT_any k e hk1 hk2 s d w hd hbh hbm hbn hbt
      · exact sndB_any k e hk1 hk2 s d w hd hbh hbm hbn hbt
    · exact snd_bad k (.inr (by omega)) s d w
  · exact snd_bad k (.inl (by omega)) s d w
theorem dsound_any (k : Int) (s : DS) (d : Da) (w : World) (hd : DRd w s d) (hbh : d.host.length ≤ 1000000000) (hbm : d.mail.length ≤ 1000000000) (hbn : d.nums.length ≤ 1000000000) (hbt : d.texts.length ≤ 1000000000) :
    Calls Try.prog 109 #[.int .i64 k, dsV s d] w (RetP (fun v _ => v = .bool (fineB k d)) w) := dsound_big k s d w hd hbh hbm hbn (Nat.le_trans hbt (by decide))
end Go.Proofs.Ytimkdpkhdbiniaa
