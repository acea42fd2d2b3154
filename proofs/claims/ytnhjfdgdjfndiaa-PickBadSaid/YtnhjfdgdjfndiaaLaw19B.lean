/- PickBad: the law's walk. -/
import Derived.Test.YtnhjfdgdjfndiaaNote
import Derived.Test.YtnhjfdgdjfndiaaLaw19N
import Derived.Deep.RegionHeld3
namespace Go.Proofs.Ytnhjfdgdjfndiaa
open Go.RowKit

theorem OwnE.past {α : Type} {E : Enc α} {e : TypeId} {S : Nat → Prop} {w w' : World} {base g : Nat} {v : Value} {xs : List α} (h : OwnE E e S w base v xs) (hS : ∀ b, S b → base ≤ b) (hg : w.grownBy w' (some g)) (hr : g < base) : OwnE E e S w' base v xs := by
  have hl := h.lt
  have h' := h
  obtain ⟨cells, hw, hr', hb⟩ := h'
  exact h.keep hg.size (fun k hk => hg.block k (hl k hk).2 (fun e => by cases e; have := (hl _ hk).1; omega)) (fun b hb' => hg.block b (hb b hb').1 (fun e => by cases e; have := hS _ hb'; omega))

set_option maxRecDepth 100000 in
set_option maxHeartbeats 1000000 in
theorem pickBad_walk (A : Option Addr) (n c : Nat) (ts : List Tr) (tries draw : Int) (z : Nat) (w : World) (ht : RdE encT w A n ts) (ha : ∀ t ∈ ts, t.addr.length ≤ 140737488351232) (hz : z < 256) :
    Calls Try.prog 14 #[.slice A n c, .int .i64 tries, .int .i64 draw, .int .u8 (z : Int)] w (LawT w) := by
  have hlt := ht.len
  subst hlt
  have hbw : Below w.heap.size w w := bl
  by_cases h0 : ts.length = 0
  · rw [h0]
    go_enter Try.func14, Try.ntmps14
    go_wp2_with (go_at_call 21; refine (answers19_any _).mono ?_; rintro e w1 ⟨rfl, hb1⟩; have hbw := nx hbw hb1)
    go_ret
    exact ⟨rfl, hbw⟩
  · have h0' : ((ts.length : Int) == 0) = false := by rw [beq_eq_false_iff_ne]; omega
    by_cases h3 : 300 < ts.length
    · go_enter Try.func14, Try.ntmps14
      go_wp2_with (go_at_call 21; refine (answers19_any _).mono ?_; rintro e w1 ⟨rfl, hb1⟩; have hbw := nx hbw hb1)
      go_ret
      exact ⟨rfl, hbw⟩
    · obtain ⟨k, hk⟩ : ∃ k, k = z % ts.length := ⟨_, rfl⟩
      have hkl : k < ts.length := by rw [hk]; exact Nat.mod_lt _ (by omega)
      have ek : (z : Int) % (ts.length : Int) = (k : Int) := by rw [hk]; rfl
      have ek2 : (z : Int).tmod (ts.length : Int) = (k : Int) := by rw [Int.tmod_eq_emod_of_nonneg (by omega), ek]
      obtain ⟨b, off, rfl, hb0, hat⟩ := encT_at ht (by omega)
      obtain ⟨t, htk⟩ : ∃ t, ts[k]? = some t := ⟨_, List.getElem?_eq_getElem hkl⟩
      have hta := ha t (List.mem_of_getElem? htk)
      obtain ⟨A', n', c', c0, c1, c2, hel, hn', hc', hi1, hi2⟩ := hat k t htk
      have hrb := els_bytes hel
      have hin1 := hrb.len
      subst hin1
      have hbl0 : b < w.heap.size := hb0
      clear hat hk
      go_enter Try.func14, Try.ntmps14
      go_wp2_with (first
        | (go_at_call 21; refine (answers19_any _).mono ?_; rintro e w1 ⟨rfl, hb1⟩; have hbw := nx hbw hb1; have d0 := below_cell hbw c0)
        | fail)
      go_region_held3 (fun w' => w'.cell? ⟨b, off + k * 3, none⟩ = some (.slice A' t.addr.length c'))
        (first
          | exact d3
          | exact d2
          | exact d1
          | go_keep)
        (first
          | (go_at_call 23; refine (own19_any _ _ _ ts _ (ht.below hbw.drew) (by omega) (fun t ht' => Nat.le_trans (ha t ht') (by omega))).mono ?_; rintro e w2 ⟨v2, rfl, ⟨S2, hown2, hS2⟩, hb2⟩; have hbw2 := nx hbw (nx bl.drew hb2); have d1 := below_cell hbw2 c0)
          | (go_at_call 23; refine (own19_any _ _ _ ts _ (ht.below (nx hbw (bl.alloc (Nat.le_refl _) _).drew)) (by omega) (fun t ht' => Nat.le_trans (ha t ht') (by omega))).mono ?_; rintro e w2 ⟨v2, rfl, ⟨S2, hown2, hS2⟩, hb2⟩; have hbw2 := nx hbw (nx (bl.alloc (Nat.le_refl _) _).drew hb2); have d1 := below_cell hbw2 c0)
          | (refine step_appB (by rfl) (.tmp 32) (.tmp 37) (by rfl) w2.heap.size (.slice (some ⟨w2.heap.size, 0, none⟩) 0 0) [] (by rfl) (own_empty w2) A' _ c' t.addr (by rfl) (hrb.below (nx hbw2 (bl.alloc (Nat.le_refl _) _))) (by simp; omega) (by simp) ?_; intro v3 w3 hown3 hg3 _; rw [List.nil_append] at hown3; have hb3 : Below w2.heap.size w2 w3 := ((bl.alloc (Nat.le_refl _) _).grown hg3 (by simp) (fun j hj => by simp [Value.ownBlock] at hj; omega)); have d2 := below_cell hb3 d1; obtain ⟨A3, c3, rfl, hr3, _⟩ := hown3.form; obtain ⟨A2, cc2, rfl, hr2, _⟩ := (hown2.below hb3).rdE; have hbw3 := nx hbw2 hb3)
          | (refine step_appB (by rfl) (.tmp 32) (.tmp 37) (by rfl) w1.heap.size (.slice (some ⟨w1.heap.size, 0, none⟩) 0 0) [] (by rfl) ((own_empty w1).drew.below hb2) A' _ c' t.addr (by rfl) (hrb.below hbw2) (by simp; omega) (by have := hb2.size; simp at this; omega) ?_; intro v3 w3 hown3 hg3 _; rw [List.nil_append] at hown3; have hb3 : Below w.heap.size w2 w3 := ((Below.refl w.heap.size w2).grown hg3 hbw2.size (fun j hj => by simp [Value.ownBlock] at hj; have := hbw.size; omega)); have d2 := below_cell (hbw2.trans hb3) c0; obtain ⟨A3, c3, rfl, hr3, _⟩ := hown3.form; obtain ⟨A2, cc2, rfl, hr2, _⟩ := (hown2.past hS2 hg3 (by simp)).rdE; have hbw3 := hbw2.trans hb3)
          | (go_at_call 33; refine (note_any _ _ _ ts _ _ _ t.addr _ _ hr2 (by omega) (fun t ht' => Nat.le_trans (ha t ht') (by omega)) hr3 (by omega)).mono ?_; rintro e w4 ⟨v4, rfl, ⟨S4, hown4, hS4⟩, hb4⟩; have hbw4 := nx hbw3 hb4; have d3 := below_cell hbw4 c0))
      all_goals
        clear d1 d2 d3 hrb hel c0 c1 c2 hta htk
        have hNl : (noteP ts t.addr true).length ≤ 301 := Nat.le_trans (noteP_length _ _ _) (by omega)
        obtain ⟨N, hN⟩ : ∃ N, N = noteP ts t.addr true := ⟨_, rfl⟩
        rw [← hN] at hown4 hNl
        clear hN
        obtain ⟨A4, c4, rfl, hr4, _⟩ := hown4.rdE
        rcases nextP_good N tries draw with hnp | ⟨k', t', hnp, htk', hbd, _⟩
        · go_wp2_with (go_at_call 22; refine (next_any _ _ _ N _ _ _ hr4 (by omega)).mono ?_; rintro e w5 ⟨v5, rfl, hv, hb5⟩; have hbw5 := nx hbw4 hb5; rw [hnp] at hv; subst hv)
          go_ret
          exact ⟨rfl, hbw5⟩
        · have hk' : k' < N.length := (List.getElem?_eq_some_iff.1 htk').1
          obtain ⟨b4, off4, rfl, _, hat4⟩ := encT_at hr4 (by omega)
          obtain ⟨_, _, _, _, _, e2, _⟩ := hat4 k' t' htk'
          rw [hbd] at e2
          clear hat4
          go_wp2_with (go_at_call 22; refine (next_any _ _ _ N _ _ _ hr4 (by omega)).mono ?_; rintro e w5 ⟨v5, rfl, hv, hb5⟩; have hbw5 := nx hbw4 hb5; rw [hnp] at hv; subst hv; have f2 := below_cell hb5 e2)
          go_ret
          exact ⟨rfl, hbw5⟩
end Go.Proofs.Ytnhjfdgdjfndiaa
