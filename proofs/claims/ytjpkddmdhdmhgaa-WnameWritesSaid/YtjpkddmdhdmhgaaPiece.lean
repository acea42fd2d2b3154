/- WnameWrites: a piece that is written; light. -/
import Derived.Test.YtjpkddmdhdmhgaaWtr4
import Derived.Test.YtjpkddmdhdmhgaaStrs2
import Derived.Test.YtjpkddmdhdmhgaaBytes
namespace Go.Proofs.Ytjpkddmdhdmhgaa
open Go.RowKit
set_option maxRecDepth 100000

structure Pc where
  name : List (List UInt8)
  short : Bool
  raw : List UInt8
  n : Int
  size : Int
  kind : Int
def i64 (n : Int) : Prop := -9223372036854775808 ≤ n ∧ n ≤ 9223372036854775807
def encPc : Enc Pc where
  size := 6
  R := fun S w r x => ∃ A c A' c', r = [.slice A x.name.length c, .bool x.short, .slice A' x.raw.length c', .int .i64 x.n, .int .i64 x.size, .int .i64 x.kind] ∧ Els encS S S w A x.name.length x.name ∧ x.name.length ≤ c ∧ c ≤ maxLen ∧ Els encB S S w A' x.raw.length x.raw ∧ x.raw.length ≤ c' ∧ c' ≤ maxLen ∧ i64 x.n ∧ i64 x.size ∧ i64 x.kind
  pos := by decide
  len := by rintro _ _ r x ⟨A, c, A', c', rfl, _⟩; rfl
  mono := by rintro S S' w r x h ⟨A, c, A', c', rfl, he, h1, h2, he', h3⟩; exact ⟨A, c, A', c', rfl, he.mono h h, h1, h2, he'.mono h h, h3⟩
  keep := by rintro S w w' r x h ⟨A, c, A', c', rfl, he, h1, h2, he', h3⟩; exact ⟨A, c, A', c', rfl, he.keep h h, h1, h2, he'.keep h h, h3⟩
  one := by
    rintro S w r x ⟨A, c, A', c', rfl, _⟩ u hu
    simp at hu
    rcases hu with rfl | rfl | rfl | rfl | rfl | rfl <;> rfl
theorem pcs_at {w : World} {A : Option Addr} {n : Nat} {ps : List Pc} (h : RdE encPc w A n ps) {k : Nat} {x : Pc} (hx : ps[k]? = some x) :
    ∃ b off A1 c1 A2 c2, A = some ⟨b, off, none⟩ ∧ w.cell? ⟨b, off + k * 6, none⟩ = some (.slice A1 x.name.length c1) ∧ w.cell? ⟨b, off + k * 6 + 1, none⟩ = some (.bool x.short) ∧ w.cell? ⟨b, off + k * 6 + 2, none⟩ = some (.slice A2 x.raw.length c2) ∧
      w.cell? ⟨b, off + k * 6 + 3, none⟩ = some (.int .i64 x.n) ∧ w.cell? ⟨b, off + k * 6 + 4, none⟩ = some (.int .i64 x.size) ∧ w.cell? ⟨b, off + k * 6 + 5, none⟩ = some (.int .i64 x.kind) ∧
      RdE encS w A1 x.name.length x.name ∧ x.name.length ≤ c1 ∧ c1 ≤ maxLen ∧ RdB w A2 x.raw.length x.raw ∧ x.raw.length ≤ c2 ∧ i64 x.n ∧ i64 x.size ∧ i64 x.kind := by
  obtain ⟨b, off, rfl, _, hat⟩ := Els.flat h (by rw [← h.len]; exact Nat.lt_of_le_of_lt (Nat.zero_le k) (List.getElem?_eq_some_iff.1 hx).1)
  obtain ⟨r, ⟨A1, c1, A2, c2, rfl, he, h1, h2, he', h3, h4, h5⟩, hc⟩ := hat k x hx
  have hq : ∀ (j : Nat) (u : Value), ([.slice A1 x.name.length c1, .bool x.short, .slice A2 x.raw.length c2, .int .i64 x.n, .int .i64 x.size, .int .i64 x.kind] : List Value)[j]? = some u → w.cell? ⟨b, off + k * 6 + j, none⟩ = some u := fun j u hu => by
    have := hc j u hu
    rwa [← Nat.add_assoc] at this
  exact ⟨b, off, A1, c1, A2, c2, rfl, hq 0 _ rfl, hq 1 _ rfl, hq 2 _ rfl, hq 3 _ rfl, hq 4 _ rfl, hq 5 _ rfl, he, h1, h2, els_bytes he', h3, h5⟩

/-- A piece in a block of its own. -/
def Box (w : World) (q : Nat) (A1 A2 : Option Addr) (c1 c2 : Nat) (x : Pc) : Prop :=
  w.cell? ⟨q, 0, none⟩ = some (.slice A1 x.name.length c1) ∧ w.cell? ⟨q, 1, none⟩ = some (.bool x.short) ∧ w.cell? ⟨q, 2, none⟩ = some (.slice A2 x.raw.length c2) ∧ w.cell? ⟨q, 3, none⟩ = some (.int .i64 x.n) ∧ w.cell? ⟨q, 4, none⟩ = some (.int .i64 x.size) ∧ w.cell? ⟨q, 5, none⟩ = some (.int .i64 x.kind)
theorem Box.made (w : World) (A1 A2 : Option Addr) (c1 c2 : Nat) (x : Pc) (e : TypeId) : Box (w.alloc (.cells #[.slice A1 x.name.length c1, .bool x.short, .slice A2 x.raw.length c2, .int .i64 x.n, .int .i64 x.size, .int .i64 x.kind] e)) w.heap.size A1 A2 c1 c2 x :=
  ⟨new_cell w _ _ 0, new_cell w _ _ 1, new_cell w _ _ 2, new_cell w _ _ 3, new_cell w _ _ 4, new_cell w _ _ 5⟩
theorem Box.below {w w' : World} {q : Nat} {A1 A2 : Option Addr} {c1 c2 : Nat} {x : Pc} (h : Box w q A1 A2 c1 c2 x) (hb : Below w.heap.size w w') : Box w' q A1 A2 c1 c2 x := by
  obtain ⟨h0, h1, h2, h3, h4, h5⟩ := h
  exact ⟨below_cell hb h0, below_cell hb h1, below_cell hb h2, below_cell hb h3, below_cell hb h4, below_cell hb h5⟩
theorem Box.chg {w w' : World} {q : Nat} {A1 A2 : Option Addr} {c1 c2 : Nat} {x : Pc} {F : Nat → Prop} (h : Box w q A1 A2 c1 c2 x) (hc : Chg F w w') (hq : ¬ F q) : Box w' q A1 A2 c1 c2 x := by
  obtain ⟨h0, h1, h2, h3, h4, h5⟩ := h
  exact ⟨hc.cell h0 hq, hc.cell h1 hq, hc.cell h2 hq, hc.cell h3 hq, hc.cell h4 hq, hc.cell h5 hq⟩

def lightB (x : Pc) : Bool := decide (x.name.length ≤ 200 ∧ x.raw.length ≤ 20000 ∧ ∀ l ∈ x.name, l.length ≤ 300)
theorem lightB_true {x : Pc} (h1 : x.name.length ≤ 200) (h2 : x.raw.length ≤ 20000) (h3 : ∀ l ∈ x.name, l.length ≤ 300) : lightB x = true := decide_eq_true ⟨h1, h2, h3⟩
theorem lightB_iff {x : Pc} : lightB x = true ↔ x.name.length ≤ 200 ∧ x.raw.length ≤ 20000 ∧ ∀ l ∈ x.name, l.length ≤ 300 := decide_eq_true_iff

set_option maxHeartbeats 1000000 in
theorem light_any (A1 A2 : Option Addr) (c1 c2 : Nat) (x : Pc) (w : World) (hn : RdE encS w A1 x.name.length x.name) :
    Calls Try.prog 39 #[.agg #[.slice A1 x.name.length c1, .bool x.short, .slice A2 x.raw.length c2, .int .i64 x.n, .int .i64 x.size, .int .i64 x.kind]] w (RetP (fun v _ => v = .bool (lightB x)) w) := by
  by_cases h1 : x.name.length ≤ 200
  · by_cases h2 : x.raw.length ≤ 20000
    · obtain ⟨w1, hw1⟩ : ∃ w1, w1 = w.alloc (.cells #[.slice A1 x.name.length c1, .bool x.short, .slice A2 x.raw.length c2, .int .i64 x.n, .int .i64 x.size, .int .i64 x.kind] 81) := ⟨_, rfl⟩
      have hb1 : Below w.heap.size w w1 := by rw [hw1]; exact bl.alloc (Nat.le_refl _) _
      have x0 : w1.cell? ⟨w.heap.size, 0, none⟩ = some (.slice A1 x.name.length c1) := by rw [hw1]; exact new_cell w _ _ 0
      have x2 : w1.cell? ⟨w.heap.size, 2, none⟩ = some (.slice A2 x.raw.length c2) := by rw [hw1]; exact new_cell w _ _ 2
      have hn1 := hn.below hb1
      have HW1 := Lib.hid hw1
      clear hw1
      go_enter Try.func39, Try.ntmps39
      go_upto_region 1 with (fail)
      rw [← HW1.out]
      go_wp2
      go_loopw [3] (fun iv wr => ∃ k : Nat, iv = .int .i64 k ∧ k ≤ x.name.length ∧ wr = w1 ∧ Hid (∀ l ∈ x.name.take k, l.length ≤ 300)) (fun iv _ => x.name.length - (intOf iv).toNat)
      case atStart => exact ⟨0, rfl, Nat.zero_le _, rfl, fun l hl => by simp at hl⟩
      case round =>
        obtain ⟨k, rfl, hk, rfl, HT⟩ := hrel
        by_cases hlt : k < x.name.length
        · obtain ⟨l, hl⟩ : ∃ l, x.name[k]? = some l := ⟨_, List.getElem?_eq_getElem hlt⟩
          obtain ⟨b, off, rfl, _, hc, hlm⟩ := strs_at hn1 hl
          have hbs := bstr_size l
          have HM := Lib.hid (List.mem_of_getElem? hl)
          have HTK : Hid (x.name.take (k + 1) = x.name.take k ++ [l]) := by show _ = _; rw [List.take_add_one, hl]; rfl
          clear hl
          unfold maxLen at hlm
          by_cases h3 : l.length ≤ 300
          · go_wp2
            go_roundw
            case rel => exact ⟨k + 1, by go_num, by omega, by trivial, fun y hy => by
              rw [HTK.out] at hy
              rcases List.mem_append.1 hy with hy | hy
              · exact HT.out y hy
              · rw [List.mem_singleton] at hy; subst hy; exact h3⟩
            case measure => simp [intOf]; omega
          · have HF : Hid (lightB x = false) := by
              show _ = _
              rw [Bool.eq_false_iff]
              intro h
              exact h3 ((lightB_iff.1 h).2.2 l HM.out)
            go_wp2
            go_ret
            exact ⟨_, rfl, by rw [HF.out]; rfl, hb1⟩
        · have hke : k = x.name.length := by omega
          have HF : Hid (lightB x = true) := by
            show _ = _
            have := HT.out
            rw [hke, List.take_length] at this
            exact lightB_true h1 h2 this
          clear hke
          go_wp2
          go_ret
          exact ⟨_, rfl, by rw [HF.out]; rfl, hb1⟩
    · have hf : lightB x = false := by
        rw [Bool.eq_false_iff]
        intro h
        exact h2 (lightB_iff.1 h).2.1
      rw [hf]
      clear hf
      go_enter Try.func39, Try.ntmps39
      go_wp2
      go_ret
      exact ⟨_, rfl, rfl, bl.alloc (Nat.le_refl _) _⟩
  · have hf : lightB x = false := by
      rw [Bool.eq_false_iff]
      intro h
      exact h1 (lightB_iff.1 h).1
    rw [hf]
    clear hf
    go_enter Try.func39, Try.ntmps39
    go_wp2
    go_ret
    exact ⟨_, rfl, rfl, bl.alloc (Nat.le_refl _) _⟩
end Go.Proofs.Ytjpkddmdhdmhgaa
