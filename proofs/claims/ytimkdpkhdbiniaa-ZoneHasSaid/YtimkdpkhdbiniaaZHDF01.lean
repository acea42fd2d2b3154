/- Parts of a proof, joined: IdxA, FaP, Fact1. -/
import Derived.Test.YtimkdpkhdbiniaaZHDM05
import Derived.Test.YtimkdpkhdbiniaaZHDM02
import Derived.Test.YtimkdpkhdbiniaaZHDM01
import Derived.Test.YtimkdpkhdbiniaaZHDM02b
import Derived.Test.YtimkdpkhdbiniaaZHDM03
/- slices.IndexFunc and ContainsFunc over data; what is among data; the program's sets and the reference's. -/
namespace Go.Proofs.Ytimkdpkhdbiniaa
open Go.RowKit
set_option maxRecDepth 100000

theorem any_take_succ {α : Type} {p : α → Bool} {xs : List α} {k : Nat} {x : α} (hx : xs[k]? = some x) (h : (xs.take k).any p = false) (hp : p x = false) : (xs.take (k + 1)).any p = false := by
  rw [List.take_add_one, hx, List.any_append, h, Option.toList_some]
  simp [hp]
end Go.Proofs.Ytimkdpkhdbiniaa

/- Facts, in plain Lean, and how one lies in memory. -/
namespace Go.Proofs.Ytimkdpkhdbiniaa
open Go.RowKit
set_option maxRecDepth 100000

/-- A fact. -/
structure Fa where
  name : List (List UInt8)
  type : Int
  kind : Int
  rank : Int
  got : Int
  ttl : Int
  set : List Da
  zone : List (List UInt8)
  soa : Da
def Fa.zero : Fa := ⟨[], 0, 0, 0, 0, 0, [], [], Da.zero⟩
def underB (n z : List (List UInt8)) : Bool := decide (z.length ≤ n.length) && decide (lowN (n.drop (n.length - z.length)) = lowN z)
/-- Where a fact's slices lead. -/
structure FS where
  A : Option Addr
  ac : Nat
  S : Option Addr
  sc : Nat
  Z : Option Addr
  zc : Nat
  d : DS
section
variable {S S' : Nat → Prop} {w w' : World} {s : FS} {f : Fa}
end
section
variable {w w' : World} {q : Nat} {s : FS} {f : Fa}
end
end Go.Proofs.Ytimkdpkhdbiniaa

/- The small functions that facts lean on: ttl.Time, fact.Typed, fact.none, name.Under. -/
namespace Go.Proofs.Ytimkdpkhdbiniaa
open Go.RowKit
set_option maxRecDepth 100000
set_option linter.unusedVariables false

set_option maxHeartbeats 2000000 in
theorem nunder_any (A A' : Option Addr) (n c n' c' : Nat) (xs ys : List (List UInt8)) (w : World) (hx : RdE encS w A n xs) (hy : RdE encS w A' n' ys) (hn : n ≤ 1000000000) (hn' : n' ≤ 1000000000) (hc : n ≤ c) :
    Calls Try.prog 83 #[.slice A n c, .slice A' n' c'] w (RetP (fun v _ => v = .bool (underB xs ys)) w) := by
  have hlx := hx.len
  have hly := hy.len
  by_cases h1 : n' ≤ n
  · have hF : underB xs ys = decide (lowN (xs.drop (n - n')) = lowN ys) := by unfold underB; rw [hlx, hly]; simp [h1]
    rw [hF]
    obtain ⟨k, hk⟩ : ∃ k, k + n' = n := ⟨n - n', by omega⟩
    have hkn : n - n' = k := by omega
    have hcut := Els.cut hx k c (by omega) hc
    rw [hkn]
    obtain ⟨B, hB⟩ : ∃ B, B = (if c = k then A else A.map (fun x => x.add k)) := ⟨_, rfl⟩
    rw [show k * encS.size = k from Nat.mul_one k, ← hB] at hcut
    have hnk : n - k = n' := by omega
    rw [hnk] at hcut
    have hge : (n' : Int) ≤ (n : Int) := by omega
    have hsub : (n : Int) - (n' : Int) = (k : Int) := by omega
    have hgd : decide ((n' : Int) ≤ (n : Int)) = true := decide_eq_true hge
    have HC := Lib.hid hcut
    have HY := Lib.hid hy
    have HBB := Lib.hid hB
    have HN : Hid (n' ≤ 1000000000) := hn'
    have HNK := Lib.hid hnk
    have hkb : k ≤ 1000000000 := by omega
    have hkc : (k : Int) ≤ (n : Int) := by omega
    clear hF hcut hB hkn hnk hx hy hlx hly
    go_enter Try.func83, Try.ntmps83
    go_upto_region 1 with (fail)
    go_wp2_with (first
      | (go_at_call 55; rw [← HBB.out, HNK.out]; refine (nequal_any B A' n' (c - k) n' c' (xs.drop k) ys w HC.out HY.out (Nat.le_trans HN.out (by unfold maxLen; omega)) (Nat.le_trans HN.out (by unfold maxLen; omega))).mono ?_; rintro e w1 ⟨v1, rfl, rfl, hb1⟩)
      | fail)
    go_ret
    exact ⟨_, rfl, rfl, hb1⟩
  · have hF : underB xs ys = false := by unfold underB; rw [hlx, hly]; simp [h1]
    have hge : ¬ (n' : Int) ≤ (n : Int) := by omega
    have hgd : decide ((n' : Int) ≤ (n : Int)) = false := decide_eq_false hge
    rw [hF]
    clear hF hx hy hlx hly
    go_enter Try.func83, Try.ntmps83
    go_wp2
    go_ret
    exact ⟨_, rfl, rfl, bl⟩
end Go.Proofs.Ytimkdpkhdbiniaa
