/- The reference's writer: find. -/
import Derived.Test.YtjpkddmdhdmhgaaRWMem
import Derived.Test.YtjpkddmdhdmhgaaRName
import Derived.Test.YtjpkddmdhdmhgaaStrs2
namespace Go.Proofs.Ytjpkddmdhdmhgaa
open Go.RowKit
set_option maxRecDepth 100000

/-- The place of a rest, or -1. -/
def placeR (o : Option Nat) : Int := match o with
  | some p => (p : Int)
  | none => -1

theorem rests_at {S Si : Nat → Prop} {w : World} {A : Option Addr} {n : Nat} {rs : List (Nat × List (List UInt8))} (h : Els encRest S Si w A n rs) {k : Nat} {x : Nat × List (List UInt8)} (hx : rs[k]? = some x) :
    ∃ b off A' cx, A = some ⟨b, off, none⟩ ∧ w.cell? ⟨b, off + k * 2, none⟩ = some (.int .i64 (x.1 : Int)) ∧ w.cell? ⟨b, off + k * 2 + 1, none⟩ = some (.slice A' x.2.length cx) ∧ Els encS Si Si w A' x.2.length x.2 ∧ x.2.length ≤ cx ∧ cx ≤ maxLen := by
  obtain ⟨b, off, rfl, _, hat⟩ := Els.flat h (by rw [← h.len]; exact Nat.lt_of_le_of_lt (Nat.zero_le k) (List.getElem?_eq_some_iff.1 hx).1)
  obtain ⟨r, ⟨A', cx, rfl, he, h1, h2⟩, hc⟩ := hat k x hx
  exact ⟨b, off, A', cx, rfl, by simpa [encRest] using hc 0 _ rfl, by have := hc 1 _ rfl; rw [← Nat.add_assoc] at this; simpa [encRest] using this, he, h1, h2⟩

theorem findR_take_succ {rs : List (Nat × List (List UInt8))} {k : Nat} {x : Nat × List (List UInt8)} {n : List (List UInt8)} (hx : rs[k]? = some x) (hn : findR (rs.take k) n = none) : findR (rs.take (k + 1)) n = if x.2 = n then some x.1 else none := by
  rw [List.take_add_one, hx, findR_append, hn, Option.none_or]
  rfl
theorem findR_take_some {rs : List (Nat × List (List UInt8))} {k : Nat} {n : List (List UInt8)} {p : Nat} (h : findR (rs.take k) n = some p) : findR rs n = some p := by
  rw [← List.take_append_drop k rs, findR_append, h, Option.some_or]

set_option maxHeartbeats 1000000 in
theorem rwfind_any (w : World) (B g : Nat) (F : Nat → Prop) (x : RW) (A : Option Addr) (n c : Nat) (ns : List (List UInt8)) {So Si : Nat → Prop} (h : RWtr w B F g x) (hns : Els encS So Si w A n ns) (hn : n ≤ maxLen) (hxs : ∀ r ∈ x.rests, r.2.length ≤ maxLen) (hxl : x.rests.length ≤ 1000000000000) (hp : ∀ r ∈ x.rests, r.1 < 16384) :
    Calls Try.prog 78 #[.pointer (some ⟨g, 0, none⟩), .slice A n c] w (RetN (.int .i64 (placeR (findR x.rests ns))) w) := by
  obtain ⟨bv, rv, S, hg, _, hr, _⟩ := h
  obtain ⟨A1, c1, rfl, hel, hl1, _⟩ := hr.form
  have c0 : w.cell? ⟨g, 1, none⟩ = some (.slice A1 x.rests.length c1) := (cell_of_row _ _ _ _ _ _ hg).trans rfl
  clear hg hr
  go_enter Try.func78, Try.ntmps78
  go_wp2
  go_loopw [5] (fun i wr => ∃ k m : Nat, i = .int .i64 k ∧ k ≤ x.rests.length ∧ wr = w.drewN m ∧ Hid (findR (x.rests.take k) ns = none)) (fun i _ => x.rests.length - (intOf i).toNat)
  case atStart => exact ⟨0, 0, rfl, Nat.zero_le _, rfl, rfl⟩
  case round =>
    obtain ⟨k, m, rfl, hk, rfl, HF⟩ := hrel
    by_cases hlt : k < x.rests.length
    · obtain ⟨y, hy⟩ : ∃ y, x.rests[k]? = some y := ⟨_, List.getElem?_eq_getElem hlt⟩
      obtain ⟨b, off, A', cx, rfl, h0, h1, he, h2, h3⟩ := rests_at hel hy
      have hym : y ∈ x.rests := List.mem_of_getElem? hy
      have hyl := hxs y hym
      have hyp := hp y hym
      have HN := Lib.hid (findR_take_succ hy HF.out)
      have HS := Lib.hid (fun p (h : findR (x.rests.take (k + 1)) ns = some p) => findR_take_some h)
      clear hy hym
      have he' : Els encS S S (w.drewN m) A' y.2.length y.2 := he.keep (fun _ _ => rfl) (fun _ _ => rfl)
      have hns' : Els encS So Si (w.drewN m) A n ns := hns.keep (fun _ _ => rfl) (fun _ _ => rfl)
      by_cases e : y.2 = ns
      · have HE := Lib.hid e
        have HN' := Lib.hid (HS.out y.1 (by rw [HN.out, if_pos e]))
        clear e
        go_wp2_with (go_at_call 50; refine (rexact_any _ _ _ _ _ _ y.2 ns (w.drewN m) he' hns' hyl hn).mono ?_; rw [decide_eq_true HE.out]; rintro e w2 ⟨rfl, m2, rfl⟩)
        go_ret
        exact ⟨by rw [HN'.out]; rfl, m + m2, rfl⟩
      · have HE := Lib.hid e
        have HN' := Lib.hid (by rw [HN.out, if_neg e] : findR (x.rests.take (k + 1)) ns = none)
        clear e
        go_wp2_with (go_at_call 50; refine (rexact_any _ _ _ _ _ _ y.2 ns (w.drewN m) he' hns' hyl hn).mono ?_; rw [decide_eq_false HE.out]; rintro e w2 ⟨rfl, m2, rfl⟩)
        go_roundw
        case rel => exact ⟨k + 1, m + m2, by go_num, by omega, rfl, HN'⟩
        case measure => simp [intOf]; omega
    · have hke : k = x.rests.length := by omega
      have HF' : Hid (findR x.rests ns = none) := by
        have := HF.out
        rw [hke, List.take_length] at this
        exact this
      subst hke
      go_wp2
      go_ret
      exact ⟨by rw [HF'.out]; rfl, m, rfl⟩
end Go.Proofs.Ytjpkddmdhdmhgaa
