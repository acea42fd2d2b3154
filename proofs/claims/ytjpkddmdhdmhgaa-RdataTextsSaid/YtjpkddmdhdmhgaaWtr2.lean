/- wname: rest; name: Size, Sound. -/
import Derived.Test.YtjpkddmdhdmhgaaWtr1
import Derived.Test.YtjpkddmdhdmhgaaStrs
namespace Go.Proofs.Ytjpkddmdhdmhgaa
open Go.RowKit

/-- A slice of strings, its element. -/
theorem strs_at {So Si : Nat → Prop} {w : World} {A : Option Addr} {n : Nat} {ns : List (List UInt8)} (h : Els encS So Si w A n ns) {k : Nat} {l : List UInt8} (hx : ns[k]? = some l) :
    ∃ b off, A = some ⟨b, off, none⟩ ∧ So b ∧ w.cell? ⟨b, off + k, none⟩ = some (.string (bstr l)) ∧ l.length ≤ maxLen := by
  obtain ⟨b, off, rfl, hs, hat⟩ := h.flat (by rw [← h.len]; exact Nat.lt_of_le_of_lt (Nat.zero_le k) (List.getElem?_eq_some_iff.1 hx).1)
  obtain ⟨r, ⟨rfl, hl⟩, hc⟩ := hat k l hx
  exact ⟨b, off, rfl, hs, by simpa [encS, flatE] using hc 0 _ rfl, hl⟩

theorem sizeN_take {ns : List (List UInt8)} {k : Nat} {l : List UInt8} (hx : ns[k]? = some l) : sizeN (ns.take (k + 1)) = sizeN (ns.take k) + l.length + 1 := by
  rw [List.take_add_one, hx, Option.toList_some, sizeN_snoc]
theorem restB_snoc (n : List (List UInt8)) (l : List UInt8) : restB (n ++ [l]) = restB n ++ (UInt8.ofNat l.length :: l) := by
  induction n with
  | nil => simp [restB]
  | cons x n ih => simp only [List.cons_append, restB, ih, List.append_assoc]
theorem restB_take {ns : List (List UInt8)} {k : Nat} {l : List UInt8} (hx : ns[k]? = some l) : restB (ns.take (k + 1)) = restB (ns.take k) ++ [UInt8.ofNat l.length] ++ l := by
  rw [List.take_add_one, hx, Option.toList_some, restB_snoc, List.append_assoc]
  rfl
theorem sizeN_take_le (ns : List (List UInt8)) (k : Nat) : sizeN (ns.take k) ≤ sizeN ns := by
  have := sizeN_append (ns.take k) (ns.drop k)
  rw [List.take_append_drop] at this
  have := sizeN_length (ns.drop k)
  omega

set_option maxHeartbeats 400000 in
theorem size_any (A : Option Addr) (n c : Nat) (ns : List (List UInt8)) (w : World) {So Si : Nat → Prop} (h : Els encS So Si w A n ns) (hs : sizeN ns ≤ 1000000000000) :
    Calls Try.prog 94 #[.slice A n c] w (Ret (.int .i64 (sizeN ns : Int)) w) := by
  have hl := h.len
  subst hl
  have hsl := sizeN_length ns
  go_enter Try.func94, Try.ntmps94
  go_wp2
  go_loop [3, 8] (fun sv iv => ∃ k : Nat, iv = .int .i64 k ∧ k ≤ ns.length ∧ sv = .int .i64 (sizeN (ns.take k) : Nat)) (fun _ iv => ns.length - (intOf iv).toNat)
  case atStart => exact ⟨0, rfl, Nat.zero_le _, rfl⟩
  case round =>
    obtain ⟨k, rfl, hk, rfl⟩ := hrel
    have ht := sizeN_take_le ns k
    by_cases hlt : k < ns.length
    · obtain ⟨l, hx⟩ : ∃ l, ns[k]? = some l := ⟨_, List.getElem?_eq_getElem hlt⟩
      obtain ⟨b, off, rfl, _, hc, hll⟩ := strs_at h hx
      have hst := sizeN_take hx
      have ht2 := sizeN_take_le ns (k + 1)
      have hle : sizeN (ns.take k) + l.length + 1 ≤ 1000000000000 := by omega
      have HS := Lib.hid hst
      clear hx hst ht2
      generalize sizeN (ns.take k) = z at HS ht hle ⊢
      have hbs := bstr_size l
      go_wp2
      go_round
      case rel => exact ⟨k + 1, by go_num, by omega, by rw [HS.out]; go_num⟩
      case measure => simp [intOf]; omega
    · obtain rfl : k = ns.length := by omega
      rw [List.take_length]
      go_wp2
      go_ret
      exact ⟨rfl, rfl⟩

set_option maxRecDepth 100000 in
set_option maxHeartbeats 1000000 in
theorem rest_any (A : Option Addr) (n c : Nat) (ns : List (List UInt8)) (w : World) {So Si : Nat → Prop} (h : Els encS So Si w A n ns) (hs : sizeN ns ≤ 1000000) (hl2 : ∀ l ∈ ns, l.length < 256) :
    Calls Try.prog 77 #[.slice A n c] w (RetP (fun v _ => v = .string (bstr (restB ns))) w) := by
  have hl := h.len
  subst hl
  have hsl := sizeN_length ns
  have HL := Lib.hid hl2
  clear hl2
  go_enter Try.func77, Try.ntmps77
  go_wp2
  go_loopw [3, 8] (fun bv iv wr => ∃ k : Nat, iv = .int .i64 k ∧ k ≤ ns.length ∧ OwnB wr w.heap.size bv (restB (ns.take k)) ∧ Below w.heap.size w wr) (fun _ iv _ => ns.length - (intOf iv).toNat)
  case atStart => exact ⟨0, rfl, Nat.zero_le _, OwnB.nil _ _, bl⟩
  case round =>
    obtain ⟨k, rfl, hk, hown, hbw⟩ := hrel
    have ht := sizeN_take_le ns k
    have htr := restB_length (ns.take k)
    by_cases hlt : k < ns.length
    · obtain ⟨l, hx⟩ : ∃ l, ns[k]? = some l := ⟨_, List.getElem?_eq_getElem hlt⟩
      obtain ⟨b, off, rfl, _, hc0, hll⟩ := strs_at h hx
      have hc := below_cell hbw hc0
      have hst := restB_take hx
      have hll := HL.out l (List.mem_of_getElem? hx)
      have hof : (UInt8.ofNat l.length).toNat = l.length := by simp; omega
      have HOF := Lib.hid hof
      have ht2 := sizeN_take_le ns (k + 1)
      have HS := Lib.hid hst
      have hlen : (restB (ns.take k)).length ≤ 1000000 := by omega
      obtain ⟨A1, c1, rfl, _⟩ := hown.form
      clear hx hst ht2 hof htr
      generalize restB (ns.take k) = z at HS hown hlen ⊢
      have hbs := bstr_size l
      go_wp2_with (first
        | ((with_reducible show wpList _ _ _ (⟨some 17, _, _, _, _, _⟩ :: _) _ _); refine wpL_pushB rfl (.tmp 12) (.tmp 16) rfl w.heap.size (.slice A1 z.length c1) z rfl hown _ (UInt8.ofNat l.length) (by have := HOF.out; omega) rfl (by omega) hbw.size ?_; intro v2 w2 hown2 hg2 _; have hb2 := hbw.grown hg2 hbw.size (fun k hk => (World.ownsRow.lt hown k hk).1); obtain ⟨A2, c2, rfl, _⟩ := hown2.form; rw [List.length_append, List.length_singleton] at hown2 ⊢)
        | ((with_reducible show wpList _ _ _ (⟨some 20, _, _, _, _, _⟩ :: _) _ _); refine wpL_appS rfl (.tmp 18) (.tmp 19) rfl w.heap.size (.slice A2 (z.length + 1) c2) (z ++ [UInt8.ofNat l.length]) rfl hown2 l rfl (by simp; omega) hb2.size ?_; intro v3 w3 hown3 hg3 _; have hb3 := hb2.grown hg3 hb2.size (fun k hk => (World.ownsRow.lt hown2 k hk).1)))
      go_roundw
      case rel => exact ⟨k + 1, by go_num, by omega, by rw [HS.out]; exact hown3, hb3⟩
      case measure => simp [intOf]; omega
    · obtain rfl : k = ns.length := by omega
      rw [List.take_length] at hown
      obtain ⟨A1, c1, rfl, hr1, _⟩ := hown.form
      have cx := conv_str (P := Try.prog) _ _ _ Try.underlying22 Try.underlying5 Try.underlying9 wr A1 _ c1 _ hr1
      go_wp2
      go_ret
      exact ⟨_, rfl, rfl, hbw⟩

set_option maxRecDepth 100000 in
set_option maxHeartbeats 400000 in
theorem badlabel_any (l : List UInt8) (w : World) : Calls Try.prog 93 #[.string (bstr l)] w (Ret (.bool (decide (¬ (1 ≤ l.length ∧ l.length ≤ 63)))) w) := by
  have hbs := bstr_size l
  by_cases h0 : l = []
  · subst h0
    have he : (bstr ([] : List UInt8)).toList = [] := bstr_toList []
    go_enter Try.func93, Try.ntmps93
    go_wp2
    go_ret
    exact ⟨ret_bool rfl, rfl⟩
  · have hp : 0 < l.length := List.length_pos_iff.2 h0
    have he : (bstr l).toList.isEmpty = false := by rw [bstr_toList]; simpa using h0
    have he2 : (bstr l).toList = [] ↔ False := by rw [bstr_toList]; simp [h0]
    go_enter Try.func93, Try.ntmps93
    go_wp2
    go_ret
    refine ⟨ret_bool ?_, rfl⟩
    show decide (63 < (l.length : Int)) = _
    rw [Bool.eq_iff_iff, decide_eq_true_iff, decide_eq_true_iff]
    omega

/-- Some label may not be. -/
def BadLab (ns : List (List UInt8)) : Prop := ¬ ∀ l ∈ ns, 1 ≤ l.length ∧ l.length ≤ 63
/-- A place, or one below 0. -/
def RetIdx (bad : Prop) (w : World) (e : Ending) (w' : World) : Prop := ∃ i : Int, e = .returned (.int .i64 i) ∧ (0 ≤ i ↔ bad) ∧ w = w'

set_option maxRecDepth 100000 in
set_option maxHeartbeats 1000000 in
theorem index_any (A : Option Addr) (n c : Nat) (ns : List (List UInt8)) (w : World) {So Si : Nat → Prop} (h : Els encS So Si w A n ns) (hn : n ≤ 1000000000) :
    Calls Try.prog 104 #[.slice A n c, .func (.func 93) #[] #[]] w (RetIdx (BadLab ns) w) := by
  have hl := h.len
  subst hl
  go_enter Try.func104, Try.ntmps104
  go_wp2
  go_loop [5, 8] (fun _ iv => ∃ k : Nat, iv = .int .i64 k ∧ k ≤ ns.length ∧ Hid (∀ l ∈ ns.take k, 1 ≤ l.length ∧ l.length ≤ 63)) (fun _ iv => ns.length - (intOf iv).toNat)
  case atStart => exact ⟨0, rfl, Nat.zero_le _, fun l hl => by simp at hl⟩
  case round =>
    obtain ⟨k, rfl, hk, HK⟩ := hrel
    by_cases hlt : k < ns.length
    · obtain ⟨l, hx⟩ : ∃ l, ns[k]? = some l := ⟨_, List.getElem?_eq_getElem hlt⟩
      obtain ⟨b, off, rfl, _, hc, hll⟩ := strs_at h hx
      have HX := Lib.hid hx
      clear hx
      by_cases hb : 1 ≤ l.length ∧ l.length ≤ 63
      · have hq := Lib.hid (badlabel_any l w)
        rw [show decide (¬ (1 ≤ l.length ∧ l.length ≤ 63)) = false by simp [hb]] at hq
        go_wp2_with (go_at_call 93; refine hq.out.mono ?_; rintro e w1 ⟨rfl, rfl⟩)
        go_round
        case rel => exact ⟨k + 1, by go_num, by omega, fun m hm => by rw [List.take_add_one, HX.out, Option.toList_some, List.mem_append, List.mem_singleton] at hm; exact hm.elim (HK.out m) (fun e => by rw [e]; exact hb)⟩
        case measure => simp [intOf]; omega
      · have hq := Lib.hid (badlabel_any l w)
        rw [show decide (¬ (1 ≤ l.length ∧ l.length ≤ 63)) = true by simp [hb]] at hq
        have HB := Lib.hid hb
        clear hb
        go_wp2_with (go_at_call 93; refine hq.out.mono ?_; rintro e w1 ⟨rfl, rfl⟩)
        go_ret
        exact ⟨_, rfl, ⟨fun _ ha => HB.out (ha l (List.mem_of_getElem? HX.out)), fun _ => Int.natCast_nonneg _⟩, rfl⟩
    · obtain rfl : k = ns.length := by omega
      rw [List.take_length] at HK
      go_wp2
      go_ret
      exact ⟨-1, rfl, ⟨fun h => absurd h (by decide), fun h => absurd HK.out h⟩, rfl⟩

set_option maxRecDepth 100000 in
set_option maxHeartbeats 400000 in
theorem contains_any (A : Option Addr) (n c : Nat) (ns : List (List UInt8)) (w : World) {So Si : Nat → Prop} (h : Els encS So Si w A n ns) (hn : n ≤ 1000000000) (b : Bool) (hb : b = true ↔ BadLab ns) :
    Calls Try.prog 91 #[.slice A n c, .func (.func 93) #[] #[]] w (Ret (.bool b) w) := by
  have HB := Lib.hid hb
  clear hb
  go_enter Try.func91, Try.ntmps91
  go_wp2_with (go_at_call 104; refine (index_any A n c ns _ h hn).mono ?_; rintro e w1 ⟨i, rfl, hi, rfl⟩; have HI := Lib.hid hi; clear hi)
  go_ret
  refine ⟨ret_bool ?_, rfl⟩
  show decide (0 ≤ i) = b
  rw [Bool.eq_iff_iff, decide_eq_true_iff, HI.out, HB.out]

theorem sizeN_le {ns : List (List UInt8)} (h : ∀ l ∈ ns, l.length ≤ 63) : sizeN ns ≤ 64 * ns.length + 1 := by
  induction ns with
  | nil => simp [sizeN]
  | cons l n ih =>
    have h1 := ih (fun x hx => h x (List.mem_cons_of_mem _ hx))
    have h2 := h l (List.mem_cons_self ..)
    simp only [sizeN, List.length_cons]
    omega

set_option maxRecDepth 100000 in
set_option maxHeartbeats 1000000 in
theorem sound_any (A : Option Addr) (n c : Nat) (ns : List (List UInt8)) (w : World) {So Si : Nat → Prop} (h : Els encS So Si w A n ns) (hn : n ≤ 1000000000) :
    Calls Try.prog 76 #[.slice A n c] w (Ret (.bool (soundB ns)) w) := by
  have hl := h.len
  subst hl
  have hsl := sizeN_length ns
  by_cases h1 : ns.length ≤ 255
  · by_cases h2 : ∀ l ∈ ns, 1 ≤ l.length ∧ l.length ≤ 63
    · have h3 := sizeN_le (fun l hl => (h2 l hl).2)
      have hq : soundB ns = decide ((sizeN ns : Int) ≤ 255) := by
        rw [Bool.eq_iff_iff, soundB_iff, decide_eq_true_iff]
        exact ⟨fun h => by have := h.2; omega, fun h => ⟨h2, by omega⟩⟩
      have HQ := Lib.hid hq
      have hcf := Lib.hid (contains_any A ns.length c ns w h hn false ⟨(fun h => by cases h), fun h => absurd h2 h⟩)
      clear h2 hq
      go_enter Try.func76, Try.ntmps76
      go_wp2_with (first
        | (go_at_call 91; refine hcf.out.mono ?_; rintro e w1 ⟨rfl, rfl⟩)
        | (go_at_call 94; refine (size_any A ns.length c ns _ h (by omega)).mono ?_; rintro e w1 ⟨rfl, rfl⟩))
      go_ret
      exact ⟨ret_bool HQ.out.symm, rfl⟩
    · have hq := Lib.hid (soundB_false (fun h => h2 h.1))
      have hcf := Lib.hid (contains_any A ns.length c ns w h hn true ⟨fun _ => h2, fun _ => rfl⟩)
      clear h2
      go_enter Try.func76, Try.ntmps76
      go_wp2_with (go_at_call 91; refine hcf.out.mono ?_; rintro e w1 ⟨rfl, rfl⟩)
      go_ret
      exact ⟨ret_bool hq.out.symm, rfl⟩
  · have hq := Lib.hid (soundB_false (n := ns) (fun h => h1 (by have := h.2; omega)))
    have hd : decide ((ns.length : Int) ≤ 255) = false := by simp; omega
    go_enter Try.func76, Try.ntmps76
    go_wp2
    go_ret
    exact ⟨ret_bool hq.out.symm, rfl⟩
end Go.Proofs.Ytjpkddmdhdmhgaa
