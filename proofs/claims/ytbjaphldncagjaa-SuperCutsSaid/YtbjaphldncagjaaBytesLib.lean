/- bytes.Clone, bytes.Equal. -/
import Derived.Test.YtbjaphldncagjaaBytes
namespace Go.Proofs.Ytbjaphldncagjaa
open Go.RowKit

set_option maxHeartbeats 400000 in
theorem bclone_any (A : Option Addr) (m c : Nat) (bs : List UInt8) (w : World) (hb : RdB w A m bs) (hm : m ≤ 140737488355328) :
    Calls Try.prog 88 #[.slice A m c] w (RetP (fun v w' => OwnB w' w.heap.size v bs) w) := by
  have hlb := hb.len
  subst hlb
  rcases A with _ | ad
  · have hn : bs = [] := by
      rcases bs with _ | ⟨x, bs⟩
      · rfl
      · obtain ⟨b, off, e, _⟩ := hb.2 (by simp); cases e
    subst hn
    have he := fun W : World => Lib.run_eql_slice_nil (P := Try.prog) W 35 5 none ([] : List UInt8).length c 0 0 Try.underlying35
    simp only [List.length_nil, Option.isNone_none] at he
    go_enter Try.func88, Try.ntmps88
    go_wp2
    go_ret
    exact ⟨_, rfl, OwnB.nil _ _, bl⟩
  · have he := fun W : World => Lib.run_eql_slice_nil (P := Try.prog) W 35 5 (some ad) bs.length c 0 0 Try.underlying35
    simp only [Option.isNone_some] at he
    go_enter Try.func88, Try.ntmps88
    go_wp2_with ((with_reducible show wpList _ _ _ (⟨some 7, _, _, _, _, _⟩ :: _) _ _); refine wpL_cloneB rfl (.tmp 5) (.tmp 6) rfl rfl _ _ c bs rfl hb hm ?_; intro v2 w2 hown2 hb2)
    go_ret
    exact ⟨_, rfl, hown2, hb2⟩

set_option maxHeartbeats 400000 in
theorem bequal_any (A A' : Option Addr) (n c n' c' : Nat) (xs ys : List UInt8) (w : World) (hx : RdB w A n xs) (hy : RdB w A' n' ys) :
    Calls Try.prog 151 #[.slice A n c, .slice A' n' c'] w (Ret (.bool (decide (xs = ys))) w) := by
  have cx := conv_str (P := Try.prog) _ _ _ Try.underlying35 Try.underlying5 Try.underlying9 w A n c xs hx
  have cy := conv_str (P := Try.prog) _ _ _ Try.underlying35 Try.underlying5 Try.underlying9 w A' n' c' ys hy
  go_enter Try.func151, Try.ntmps151
  go_wp2
  go_ret
  exact ⟨ret_bool (by rw [bstr_toList, bstr_toList]; by_cases h : xs = ys <;> simp [h]), rfl⟩
end Go.Proofs.Ytbjaphldncagjaa
