/- append([]T{}, s...): the call on a row that is empty. No program in it. -/
import Derived.Test.YtjpkddmdhdmhgaaAppend2
import Derived.Deep.AppendLies
namespace Go.Proofs.Ytjpkddmdhdmhgaa
open Go.RowKit

theorem setRow_below {w : World} {b : Nat} {cs : Array Value} {e : TypeId} (h : w.heap[b]? = some (.cells cs e (0, 0))) : Below w.heap.size w (w.setRow b cs) :=
  ⟨rfl, rfl, rfl, by simp, fun k hk => by
    by_cases e : k = b
    · subst e; rw [setRow_heap _ _ _ _ _ _ h, h]
    · exact setRow_other w b k cs e⟩
theorem run_clone {P : Program} {w : World} {T e : TypeId} {i : TypeInfo} {z : Value} {bytes : Nat} (ty : TypeId) (hT : P.underlying T = some (.slice e)) (hi : P.info? e = some i) (hz : i.zero = some z) (hsz : i.size = 1) (hby : i.bytes = bytes) (hzc : z.cells.size = 1)
    {base b : Nat} (hbase : base ≤ b) (hb : w.heap[b]? = some (.cells #[] e (0, 0))) (A : Option Addr) (m c : Nat) (news : List Value) (hr : Rd w 1 A m news) (hone : ∀ u ∈ news, u.oneCell' = true) (hm : m ≤ maxLen) (hbt : m * bytes ≤ 140737488355328) :
    ∃ v' w', (Builtin.append_ #[T, T] ty #[.slice (some ⟨b, 0, none⟩) 0 0, .slice A m c]).run P w = .ok v' w' ∧ w'.ownsRow base e 1 v' m news ∧ Below w.heap.size w w' ∧ (news ≠ [] → ∀ k, v'.ownBlock = some k → w.heap.size ≤ k) := by
  have hbl : b < w.heap.size := (Array.getElem?_eq_some_iff.1 hb).1
  have hown : w.ownsRow base e 1 (.slice (some ⟨b, 0, none⟩) 0 0) 0 [] := ⟨rfl, .inr ⟨b, 0, #[], rfl, hbase, hb, Nat.le_refl _, Nat.zero_le _, rfl, rfl⟩⟩
  have hl := hr.1
  rw [Nat.mul_one] at hl
  by_cases h0 : m = 0
  · subst h0
    obtain rfl : news = [] := List.eq_nil_of_length_eq_zero hl
    rcases A with _ | a
    · have hrun : (Builtin.append_ #[T, T] ty #[.slice (some ⟨b, 0, none⟩) 0 0, .slice none 0 c]).run P w = .ok (.slice (some ⟨b, 0, none⟩) 0 0) w := by
        simp [Builtin.append_, run_underlying hT, sizeOf, typeInfo, hi, Builtin.lenOf, Builtin.firstCells, storeCells]
      exact ⟨_, _, hrun, hown, bl, fun h => absurd rfl h⟩
    · have hrun := run_append_room (P := P) w T ty e i hT hi b 0 0 #[] hb a 0 c [] (by simp) (by simp) (by simp) (by omega) (by simp)
      have e0 : (List.take (0 * i.size) (#[] : Array Value).toList ++ [] ++ List.drop (0 * i.size + ([] : List Value).length) (#[] : Array Value).toList).toArray = #[] := by simp
      rw [e0] at hrun
      refine ⟨_, _, hrun, ⟨rfl, .inr ⟨b, 0, #[], rfl, hbase, ?_, Nat.le_refl _, Nat.zero_le _, rfl, rfl⟩⟩, ?_, fun h => absurd rfl h⟩
      · exact setRow_heap w b #[] _ e _ hb
      · exact setRow_below hb
  · obtain ⟨b', off, rfl, hc⟩ := hr.2 (by omega)
    obtain ⟨v', w', hrun, h1, h2⟩ := run_append_arg_grows (P := P) (w := w) T ty e i z 1 bytes hT hi hz hsz hby hzc (by decide) ⟨b, 0, none⟩ 0 0 [] (by simp) (by simp) ⟨b', off, none⟩ m c news (by rw [hl, Nat.mul_one]) (fun j u hu => by rw [add_flat]; exact hc j u hu) (by omega) (by omega) (by rw [Nat.zero_add]; exact hbt)
    rw [Nat.zero_add, List.nil_append] at h1
    refine ⟨v', w', hrun, ⟨h1.1, ?_⟩, ⟨h2.os, h2.tape, h2.output, h2.size, fun k hk => h2.block k hk (by simp)⟩, fun _ k hk => (World.ownsRow.lt h1 k hk).1⟩
    rcases h1.2 with h | ⟨g, cap, cur, e1, h3, h4⟩
    · exact .inl h
    · exact .inr ⟨g, cap, cur, e1, by omega, h4⟩
end Go.Proofs.Ytjpkddmdhdmhgaa
