/- Parts of a proof, joined: Lt6. -/
import Derived.Test.YtmkfjddighabcaaM16
/- A light message's lists are not too long. No program in it. -/
namespace Go.Proofs.Ytmkfjddighabcaa
open Go.RowKit
set_option maxRecDepth 100000

theorem bytesL_mem {l : List RR} {r : RR} (h : r ∈ l) : r.data.bytes.length ≤ bytesL l := by
  obtain ⟨k, hk⟩ := List.mem_iff_getElem?.1 h
  have h1 := bytesL_succ hk
  have h2 := bytesL_take l (k + 1)
  omega
theorem LtMsg6.ltM {m : Ms} (h : LtMsg6 m) : LtM m := by
  have hl : m.an.length + m.au.length + m.ex.length ≤ 600 := by have := h.all; rw [List.length_append, List.length_append] at this; exact this
  have hsub : ∀ j, ∀ x ∈ secL m j, x ∈ m.an ++ m.au ++ m.ex := fun j x hx => by
    match j, hx with
    | 0, hx => exact List.mem_append_left _ (List.mem_append_left _ hx)
    | 1, hx => exact List.mem_append_left _ (List.mem_append_right _ hx)
    | n + 2, hx => exact List.mem_append_right _ hx
  refine ⟨by have := h.qs; omega, fun j => ?_, fun x hx => by have := h.q x hx; omega, fun j x hx => ?_⟩
  · match j with
    | 0 => show m.an.length ≤ _; omega
    | 1 => show m.au.length ≤ _; omega
    | n + 2 => show m.ex.length ≤ _; omega
  · obtain ⟨h1, h2, h3, h4, h5⟩ := h.r x (hsub j x hx)
    have h6 := bytesL_mem (hsub j x hx)
    have h7 := h.b
    rw [bytesM_all6] at h7
    exact ⟨⟨by omega, by omega, by omega, by omega, by omega⟩, by omega⟩
end Go.Proofs.Ytmkfjddighabcaa
