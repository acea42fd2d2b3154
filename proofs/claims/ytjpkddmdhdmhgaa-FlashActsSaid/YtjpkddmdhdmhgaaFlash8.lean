/- flash: Copy. -/
import Derived.Test.YtjpkddmdhdmhgaaFlash7
namespace Go.Proofs.Ytjpkddmdhdmhgaa
open Go.RowKit

theorem wpL_cloneSec {w : World} {B : Nat} {ops : Array Oper} {rest : List Oper} {o : Oper} {a : Act} {Q : Exit → Act → World → Prop} (hgd : Region.wanted o (yielded ops a.tmps) = true) (s x : Operand)
    (ho : o.op = .call { callee := .builtin .append, args := #[s, x], argTypes := #[115, 115] })
    {g : Nat} (hs : a.eval s = .slice (some ⟨g, 0, none⟩) 0 0) (A : Option Addr) (n c : Nat) (l : List (Option (List UInt8))) (hx : a.eval x = .slice A n c) (hr : OwnE encSec 121 noS w B (.slice A n c) l) (hn : n ≤ 4096)
    (h : ∀ v' w', OwnE encSec 121 noS w' w.heap.size v' l → Below w.heap.size w w' → wpList Try.prog ops Q rest (a.put o.dst v') w') (hgs : g = w.heap.size := by simp) : wpList Try.prog ops Q (o :: rest) a (w.alloc (.cells #[] 121)) := by
  subst hgs
  obtain ⟨i0, hi, hz, hsz, hby⟩ := info_parts infoSec
  obtain ⟨A', c', e, _⟩ := hr.form
  injection e with e1 e2 e3
  obtain ⟨cells, hw, hrd, hS⟩ := hr
  subst e2
  have hone : ∀ u ∈ cells, u.oneCell' = true := fun u hu => by
    obtain ⟨j, hj, e⟩ := List.mem_iff_getElem.1 hu
    have hl := hw.1
    have hjl : j < l.length * 513 := by rw [← show encSec.size = 513 from rfl, ← hl]; exact hj
    have hq : j / 513 < l.length := by omega
    refine encSec.one (hrd (j / 513) _ (List.getElem?_eq_getElem hq)) u ?_
    refine List.mem_iff_getElem?.2 ⟨j % 513, ?_⟩
    rw [List.getElem?_take, if_pos (show j % 513 < encSec.size from Nat.mod_lt _ (by decide)), List.getElem?_drop, show j / 513 * encSec.size + j % 513 = j by show j / 513 * 513 + j % 513 = j; omega, List.getElem?_eq_getElem hj, e]
  have hown0 : (w.alloc (.cells #[] 121)).ownsRow w.heap.size 121 513 (.slice (some ⟨w.heap.size, 0, none⟩) 0 0) 0 [] := World.ownsRow_lit (e := 121) (size := 513) w #[] 0 (Nat.le_refl _) (by simp) rfl
  refine wpList_want hgd fun K hK => ?_
  refine wp_append_any (P := Try.prog) s x _ ho w.heap.size 121 i0 _ 513 513 Try.underlying115 hi hz hsz hby zsec_size (by decide) _ 0 [] hs hown0 A l.length c cells hx ((Rd.of_own hw).below (bl.alloc (Nat.le_refl _) _)) hone (by unfold maxLen; omega) (by omega) (by simp) fun v' w' h1 h2 h3 => hK _ _ (h v' w' ?_ ?_)
  · rw [Nat.zero_add, List.nil_append] at h1
    exact ⟨cells, h1, hrd, fun b hb => hb.elim⟩
  · exact (bl.alloc (Nat.le_refl _) _).grown h2 (by simp) (fun k hk => by simp [Value.ownBlock] at hk; omega)

set_option maxHeartbeats 400000 in
theorem sclone_sec (A : Option Addr) (n c B : Nat) (l : List (Option (List UInt8))) (w : World) (hr : OwnE encSec 121 noS w B (.slice A n c) l) (hn : n ≤ 4096) :
    Calls Try.prog 74 #[.slice A n c] w (RetP (fun v w' => OwnE encSec 121 noS w' w.heap.size v l) w) := by
  rcases A with _ | ad
  · have hl : l = [] := by
      obtain ⟨cells, hw, _⟩ := hr
      rcases hw.2 with ⟨_, h0⟩ | ⟨g, _, _, e, _⟩
      · exact List.eq_nil_of_length_eq_zero h0
      · injection e with e; cases e
    subst hl
    have he := fun W : World => Lib.run_eql_slice_nil (P := Try.prog) W 115 121 none n c 0 0 Try.underlying115
    simp only [Option.isNone_none] at he
    go_enter Try.func74, Try.ntmps74
    go_wp2
    go_ret
    exact ⟨_, rfl, OwnE.nil _ _ _ _, bl⟩
  · have he := fun W : World => Lib.run_eql_slice_nil (P := Try.prog) W 115 121 (some ad) n c 0 0 Try.underlying115
    simp only [Option.isNone_some] at he
    go_enter Try.func74, Try.ntmps74
    go_wp2_with ((with_reducible show wpList _ _ _ (⟨some 7, _, _, _, _, _⟩ :: _) _ _); refine wpL_cloneSec rfl (.tmp 5) (.tmp 6) rfl rfl _ _ c l rfl hr hn ?_; intro v2 w2 hown2 hb2)
    go_ret
    exact ⟨_, rfl, hown2, hb2⟩

theorem dev_made {w w3 : World} {sv uv : Value} {S3 : Nat → Prop} {d : Dv} (hb : Below w.heap.size w w3) (hf : d.Fine) (hcs : OwnE encSec 121 noS w3 w.heap.size sv d.sure) (hcu : OwnE encW 69 S3 w3 w.heap.size uv d.unsure) (hS : ∀ b, S3 b → w.heap.size ≤ b)
    (hne1 : ∀ k, uv.ownBlock = some k → sv.ownBlock ≠ some k) (hne2 : ∀ k, S3 k → sv.ownBlock ≠ some k) : ∃ F', Dev (w3.alloc (.cells #[sv, uv, .int .i64 d.limit, .bool d.down] 117)) w.heap.size F' w3.heap.size d := by
  have hz : (w3.alloc (.cells #[sv, uv, .int .i64 d.limit, .bool d.down] 117)).heap.size = w3.heap.size + 1 := by simp
  have hbs := hb.size
  refine ⟨fun k => w.heap.size ≤ k ∧ k < w3.heap.size + 1, hf, sv, uv, S3, heap_alloc_new _ _, hcs.alloc _, hcu.alloc _, ⟨⟨hbs, by omega⟩, hbs⟩, fun k hk => ?_, fun k hk => ?_, fun k hk => ?_, fun k hk => ⟨hk.1, by rw [hz]; exact hk.2⟩⟩
  · have := hcs.lt k hk
    exact ⟨⟨this.1, by omega⟩, by omega⟩
  · have := hcu.lt k hk
    exact ⟨⟨this.1, by omega⟩, by omega, hne1 k hk⟩
  · have h1 := (hcu.S_lt k hk).1
    exact ⟨⟨hS k hk, by omega⟩, by omega, hne2 k hk⟩

set_option maxRecDepth 100000 in
set_option maxHeartbeats 2000000 in
theorem copy_any (w : World) (B g : Nat) (F : Nat → Prop) (d : Dv) (h : Dev w B F g d) (hun : d.unsure.length ≤ 1000000) :
    Calls Try.prog 32 #[.pointer (some ⟨g, 0, none⟩)] w (fun e w' => ∃ g' F', e = .returned (.pointer (some ⟨g', 0, none⟩)) ∧ Dev w' w.heap.size F' g' d ∧ Below w.heap.size w w') := by
  have HD := Lib.hid h
  have hf := h.fine
  obtain ⟨hf1, sv, uv, S, hgg, hs1, hu1, hgF, hs1F, hu1F, hSF, hFl⟩ := h
  obtain ⟨A, c, rfl, _, hlc, hcm⟩ := hs1.form
  have c0 : w.cell? ⟨g, 0, none⟩ = some (.slice A d.sure.length c) := (cell_of_row _ _ _ _ _ _ hgg).trans rfl
  have c2 : w.cell? ⟨g, 2, none⟩ = some (.int .i64 d.limit) := (cell_of_row _ _ _ _ _ _ hgg).trans rfl
  have c3 : w.cell? ⟨g, 3, none⟩ = some (.bool d.down) := (cell_of_row _ _ _ _ _ _ hgg).trans rfl
  have hsz := hf.size
  clear hgg hu1 hu1F hSF hFl
  go_enter Try.func32, Try.ntmps32
  go_wp2
  go_region_held3 (fun w' => w'.cell? ⟨g, 0, none⟩ = some (.slice A d.sure.length c) ∧ w'.cell? ⟨g, 2, none⟩ = some (.int .i64 d.limit) ∧ w'.cell? ⟨g, 3, none⟩ = some (.bool d.down))
    (first
      | with_reducible exact ⟨c0, c2, c3⟩
      | with_reducible exact ⟨below_cell bl.drew c0, below_cell bl.drew c2, below_cell bl.drew c3⟩
      | with_reducible exact ⟨below_cell hbE c0, below_cell hbE c2, below_cell hbE c3⟩
      | with_reducible exact ⟨below_cell hbD c0, below_cell hbD c2, below_cell hbD c3⟩
      | with_reducible exact ⟨below_cell (nx hbE (bl.alloc (Nat.le_refl _) _)) c0, below_cell (nx hbE (bl.alloc (Nat.le_refl _) _)) c2, below_cell (nx hbE (bl.alloc (Nat.le_refl _) _)) c3⟩)
    (first
      | (go_at_call 74; refine (sclone_sec _ _ _ B d.sure w.drew (hs1.below bl.drew) hsz).mono ?_; rintro e w2 ⟨v2, rfl, hcs, hb2⟩; obtain ⟨A2, cc2, rfl, _⟩ := hcs.form; have hbD : Below w.heap.size w w2 := nx bl.drew hb2)
      | (go_at_call 36; refine (unsure_any w2 B g F d (HD.out.below hbD) hun).mono ?_; rintro e w3 ⟨v3, S3, rfl, hcu, hcS, hb3⟩; obtain ⟨A3, cc3, rfl, _⟩ := hcu.form; have hbE : Below w.heap.size w w3 := nx hbD hb3)
      | (go_at_call 36; refine (unsure_any w.drew B g F d (HD.out.below bl.drew) hun).mono ?_; rintro e w2 ⟨v3, S3, rfl, hcu, hcS, hb2⟩; obtain ⟨A3, cc3, rfl, _⟩ := hcu.form; have hbD : Below w.heap.size w w2 := nx bl.drew hb2)
      | (go_at_call 74; refine (sclone_sec _ _ _ B d.sure w2 (hs1.below hbD) hsz).mono ?_; rintro e w3 ⟨v2, rfl, hcs, hb3⟩; obtain ⟨A2, cc2, rfl, _⟩ := hcs.form; have hbE : Below w.heap.size w w3 := nx hbD hb3))
  all_goals
    go_wp2
    go_ret
    first
      | (obtain ⟨F', hF⟩ := dev_made hbE hf ((hcs.below hb3).base_le (base' := w.heap.size) (Nat.le_refl _)) (hcu.base_le hbD.size) (fun b hb => Nat.le_trans hbD.size (hcS b hb)) (fun k hk e => Nat.lt_irrefl _ (Nat.lt_of_lt_of_le (hcs.lt k e).2 (hcu.lt k hk).1)) (fun k hk e => Nat.lt_irrefl _ (Nat.lt_of_lt_of_le (hcs.lt k e).2 (hcS k hk)))
         exact ⟨_, F', rfl, hF, nx hbE (bl.alloc (Nat.le_refl _) _)⟩)
      | (obtain ⟨F', hF⟩ := dev_made hbE hf (hcs.base_le hbD.size) ((hcu.below hb3).base_le (base' := w.heap.size) (Nat.le_refl _)) (fun b hb => hcS b hb) (fun k hk e => Nat.lt_irrefl _ (Nat.lt_of_lt_of_le (hcu.lt k hk).2 (hcs.lt k e).1)) (fun k hk e => Nat.lt_irrefl _ (Nat.lt_of_lt_of_le (hcu.S_lt k hk).1 (hcs.lt k e).1))
         exact ⟨_, F', rfl, hF, nx hbE (bl.alloc (Nat.le_refl _) _)⟩)
end Go.Proofs.Ytjpkddmdhdmhgaa
