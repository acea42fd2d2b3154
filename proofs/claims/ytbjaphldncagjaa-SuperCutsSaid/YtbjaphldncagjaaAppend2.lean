/- append(s, make([]byte, k)...) and append(s, string...), s of the call's own. No program in it. -/
import Derived.Test.YtbjaphldncagjaaLib
namespace Go.Proofs.Ytbjaphldncagjaa
open Go.RowKit

theorem zeroCells_one (z : Value) (n : Nat) : Builtin.zeroCells #[z] n = (List.replicate n z).toArray := by
  apply Array.ext
  · simp [Builtin.zeroCells]
  · intro i h1 h2
    simp [Builtin.zeroCells, Nat.mod_one]

section
variable {P : Program} (w : World)

theorem run_append_string (base : Nat) (t xT ty e : TypeId) (i : TypeInfo) (ht : P.underlying t = some (.slice e)) (hx : P.underlying xT = some .string) (hi : P.info? e = some i) (hz : i.zero = some (.int .u8 0)) (hsize : i.size = 1) (hby : i.bytes = 1)
    (v : Value) (n : Nat) (xs : List Value) (hown : w.ownsRow base e 1 v n xs) (s : ByteArray) (hbytes : n + s.size ≤ 140737488355328) (hbase : base ≤ w.heap.size) :
    ∃ v' w', (Builtin.append_ #[t, xT] ty #[v, .string s]).run P w = .ok v' w' ∧ w'.ownsRow base e 1 v' (n + s.size) (xs ++ (s.data.toList.map bV)) ∧ w.grownBy w' v.ownBlock ∧ (v'.ownBlock = v.ownBlock ∨ v'.ownBlock = some w.heap.size) := by
  have hl : (s.data.toList.map bV).length = s.size := by rw [List.length_map, Array.length_toList]; rfl
  have h1 := show ∀ u ∈ s.data.toList.map bV, u.oneCell' = true from fun u hu => by obtain ⟨x, _, rfl⟩ := List.mem_map.1 hu; rfl
  have hfz : ∀ w' : World, (Builtin.firstCells 1 s.size (.string s)).run P w' = .ok (s.data.toList.map bV).toArray w' := fun w' => by
    have he : s.extract 0 s.size = s := by simp
    simp only [Builtin.firstCells, he, Sem.run_pure]
    congr 1
    apply Array.ext'
    simp [bV]
  obtain ⟨m, hm0⟩ : ∃ m, s.size = m := ⟨_, rfl⟩
  rw [hm0] at hl hfz hbytes ⊢
  obtain ⟨news, hnews⟩ : ∃ news, news = (s.data.toList.map bV) := ⟨_, rfl⟩
  rw [← hnews] at hl h1 ⊢
  try rw [← hnews] at hfz
  clear hnews
  have hlen : (xs ++ news).length = (n + m) * 1 := by rw [List.length_append, hown.1, hl]; omega
  have hcl : (Value.int .u8 0).cells = #[Value.int .u8 0] := rfl
  have grown : ∀ (old : Nat), old < n + m → ∀ (row : Option Nat),
      (w.drew.alloc (.cells (xs.toArray ++ news.toArray ++ Builtin.zeroCells #[.int .u8 0] (grownCap w (n + m) old e - (n + m))) e)).ownsRow base e 1
        (.slice (some ⟨w.heap.size, 0, none⟩) (n + m) (grownCap w (n + m) old e)) (n + m) (xs ++ news) ∧
      w.grownBy (w.drew.alloc (.cells (xs.toArray ++ news.toArray ++ Builtin.zeroCells #[.int .u8 0] (grownCap w (n + m) old e - (n + m))) e)) row := by
    intro old ho row
    have hge := grownCap_ge w (n + m) old e
    have hcm : grownCap w (n + m) old e ≤ maxLen := grownCap_le_maxLen w (n + m) old e (by unfold maxLen; omega)
    refine ⟨⟨hlen, .inr ⟨w.heap.size, _, _, rfl, hbase, heap_alloc_new w.drew _, hge, hcm, ?_, ?_⟩⟩, ⟨rfl, rfl, rfl, by simp, fun k hk _ => Below.heap_alloc w.drew _ k hk⟩⟩
    · simp only [Array.size_append, List.size_toArray, size_zeroCells, hown.1, hl]
      simp
      omega
    · simp only [Array.toList_append, List.append_assoc]
      rw [← List.append_assoc, ← hlen]
      exact List.take_left
  rcases hown.2 with ⟨rfl, rfl⟩ | ⟨g, cap, cur, rfl, hbg, hg, hnc, hcm, hcs, htake⟩
  · have hx : xs = [] := List.eq_nil_of_length_eq_zero (by simpa using hown.1)
    subst hx
    by_cases hm : m = 0
    · subst hm
      have hn : news = [] := List.eq_nil_of_length_eq_zero (by simpa using hl)
      subst hn
      refine ⟨.slice none 0 0, w, ?_, World.ownsRow_nil w base e 1, ⟨rfl, rfl, rfl, Nat.le_refl _, fun _ _ _ => rfl⟩, Or.inl rfl⟩
      simp [Builtin.append_, run_underlying ht, sizeOf, typeInfo, hi, Builtin.lenOf, Builtin.firstCells, run_underlying hx, hm0]
    · have hgr := grown 0 (by omega) (Value.ownBlock (.slice none 0 0))
      simp only [Nat.zero_add, List.nil_append, Array.empty_append] at hgr ⊢
      refine ⟨_, _, ?_, hgr.1, hgr.2, Or.inr rfl⟩
      have h48' : ¬ (281474976710656 < Builtin.nextslicecap m 0) := by rw [nextslicecap_zero (by omega)]; omega
      have h63' : ¬ (9223372036854775807 < (m : Int)) := by omega
      simp [Builtin.append_, run_underlying ht, sizeOf, typeInfo, zeroValue, hi, hz, hsize, hby, Builtin.lenOf, hm, h48', h63', Question.forced, run_firstCells_none, hfz, newRow, grownCap, hcl, run_underlying hx, hm0]
  · by_cases hroom : n + m ≤ cap
    · have hfit : n + news.length ≤ cur.size := by rw [hl, hcs]; omega
      have hst := run_storeCells_at P g n e news 0 cur w hg (by simpa using hfit) h1
      simp only [Nat.add_zero] at hst
      refine ⟨.slice (some ⟨g, 0, none⟩) (n + m) cap, w.setRow g (cur.toList.take n ++ news ++ cur.toList.drop (n + news.length)).toArray, ?_, ⟨hlen, .inr ⟨g, cap, _, rfl, hbg, setRow_heap w g cur _ e _ hg, hroom, hcm, ?_, ?_⟩⟩, ⟨rfl, rfl, rfl, by simp, fun k _ hk => setRow_other w g k _ (fun e => hk (by simp [Value.ownBlock, e]))⟩, Or.inl rfl⟩
      · simp [Builtin.append_, run_underlying ht, sizeOf, typeInfo, zeroValue, hi, hz, hsize, hby, Builtin.lenOf, hroom, hfz, Addr.add_lit, hst, run_underlying hx, hm0]
      · simp only [List.size_toArray, List.length_append, List.length_take, List.length_drop, Array.length_toList]
        omega
      · rw [Nat.mul_one] at htake
        rw [htake, ← hlen]
        exact List.take_left
    · have holds : ∀ j u, xs[j]? = some u → w.cell? ((⟨g, 0, none⟩ : Addr).add j) = some u := hown.cells (g := g) rfl
      have hfo := run_firstCells_some (P := P) w.drew 1 n ⟨g, 0, none⟩ n cap xs hown.1 (by simpa using holds)
      have hgr := grown cap (by omega) (Value.ownBlock (.slice (some ⟨g, 0, none⟩) n cap))
      refine ⟨_, _, ?_, hgr.1, hgr.2, Or.inr rfl⟩
      have h48' : ¬ (281474976710656 < Builtin.nextslicecap (n + m) cap) := by have := growslice_fits (bytes := 1) (show cap < n + m by omega) (by omega); omega
      have h63' : ¬ (9223372036854775807 < ((n : Int) + (m : Int))) := by omega
      simp [Builtin.append_, run_underlying ht, sizeOf, typeInfo, zeroValue, hi, hz, hsize, hby, Builtin.lenOf, hroom, h48', h63', Question.forced, hfz, hfo, newRow, grownCap, hcl, run_underlying hx, hm0]
      try simp [← List.append_toArray]

theorem run_append_zeros (base : Nat) (t xT ty e : TypeId) (i : TypeInfo) (ht : P.underlying t = some (.slice e)) (hx : P.underlying xT = some (.int .i64)) (hi : P.info? e = some i) (hz : i.zero = some (.int .u8 0)) (hsize : i.size = 1) (hby : i.bytes = 1)
    (v : Value) (n : Nat) (xs : List Value) (hown : w.ownsRow base e 1 v n xs) (m : Nat) (hm0 : ¬ m = 0) (hbytes : n + m ≤ 140737488355328) (hbase : base ≤ w.heap.size) :
    ∃ v' w', (Builtin.append_ #[t, xT] ty #[v, Value.int .i64 (m : Int)]).run P w = .ok v' w' ∧ w'.ownsRow base e 1 v' (n + m) (xs ++ List.replicate m (Value.int .u8 0)) ∧ w.grownBy w' v.ownBlock ∧ (v'.ownBlock = v.ownBlock ∨ v'.ownBlock = some w.heap.size) := by
  have hl : (List.replicate m (Value.int .u8 0)).length = m := by simp
  have h1 := show ∀ u ∈ List.replicate m (Value.int .u8 0), u.oneCell' = true from fun u hu => by rw [(List.mem_replicate.1 hu).2]; rfl
  have hwm : IntKind.i64.wrap (m : Int) = m := by rw [IntKind.wrap_i64]; omega
  have hmn : ¬ (m : Int) < 0 := by omega
  have hm48 : ¬ (281474976710656 < (m : Int)) := by omega
  have hfz : Builtin.zeroCells #[.int .u8 0] m = (List.replicate m (Value.int .u8 0)).toArray := zeroCells_one _ _
  obtain ⟨news, hnews⟩ : ∃ news, news = List.replicate m (Value.int .u8 0) := ⟨_, rfl⟩
  rw [← hnews] at hl h1 hfz ⊢
  clear hnews
  have hlen : (xs ++ news).length = (n + m) * 1 := by rw [List.length_append, hown.1, hl]; omega
  have hcl : (Value.int .u8 0).cells = #[Value.int .u8 0] := rfl
  have grown : ∀ (old : Nat), old < n + m → ∀ (row : Option Nat),
      (w.drew.alloc (.cells (xs.toArray ++ news.toArray ++ Builtin.zeroCells #[.int .u8 0] (grownCap w (n + m) old e - (n + m))) e)).ownsRow base e 1
        (.slice (some ⟨w.heap.size, 0, none⟩) (n + m) (grownCap w (n + m) old e)) (n + m) (xs ++ news) ∧
      w.grownBy (w.drew.alloc (.cells (xs.toArray ++ news.toArray ++ Builtin.zeroCells #[.int .u8 0] (grownCap w (n + m) old e - (n + m))) e)) row := by
    intro old ho row
    have hge := grownCap_ge w (n + m) old e
    have hcm : grownCap w (n + m) old e ≤ maxLen := grownCap_le_maxLen w (n + m) old e (by unfold maxLen; omega)
    refine ⟨⟨hlen, .inr ⟨w.heap.size, _, _, rfl, hbase, heap_alloc_new w.drew _, hge, hcm, ?_, ?_⟩⟩, ⟨rfl, rfl, rfl, by simp, fun k hk _ => Below.heap_alloc w.drew _ k hk⟩⟩
    · simp only [Array.size_append, List.size_toArray, size_zeroCells, hown.1, hl]
      simp
      omega
    · simp only [Array.toList_append, List.append_assoc]
      rw [← List.append_assoc, ← hlen]
      exact List.take_left
  rcases hown.2 with ⟨rfl, rfl⟩ | ⟨g, cap, cur, rfl, hbg, hg, hnc, hcm, hcs, htake⟩
  · have hx : xs = [] := List.eq_nil_of_length_eq_zero (by simpa using hown.1)
    subst hx
    have hm := hm0
    have hgr := grown 0 (by omega) (Value.ownBlock (.slice none 0 0))
    simp only [Nat.zero_add, List.nil_append, Array.empty_append] at hgr ⊢
    refine ⟨_, _, ?_, hgr.1, hgr.2, Or.inr rfl⟩
    have h48' : ¬ (281474976710656 < Builtin.nextslicecap m 0) := by rw [nextslicecap_zero (by omega)]; omega
    have h63' : ¬ (9223372036854775807 < (m : Int)) := by omega
    simp [Builtin.append_, run_underlying ht, sizeOf, typeInfo, zeroValue, hi, hz, hsize, hby, Builtin.lenOf, hm, h48', h63', Question.forced, run_firstCells_none, hfz, newRow, grownCap, hcl, run_underlying hx, asInt, asIntOf, hwm, hmn, hm48]
  · by_cases hroom : n + m ≤ cap
    · have hfit : n + news.length ≤ cur.size := by rw [hl, hcs]; omega
      have hst := run_storeCells_at P g n e news 0 cur w hg (by simpa using hfit) h1
      simp only [Nat.add_zero] at hst
      refine ⟨.slice (some ⟨g, 0, none⟩) (n + m) cap, w.setRow g (cur.toList.take n ++ news ++ cur.toList.drop (n + news.length)).toArray, ?_, ⟨hlen, .inr ⟨g, cap, _, rfl, hbg, setRow_heap w g cur _ e _ hg, hroom, hcm, ?_, ?_⟩⟩, ⟨rfl, rfl, rfl, by simp, fun k _ hk => setRow_other w g k _ (fun e => hk (by simp [Value.ownBlock, e]))⟩, Or.inl rfl⟩
      · simp [Builtin.append_, run_underlying ht, sizeOf, typeInfo, zeroValue, hi, hz, hsize, hby, Builtin.lenOf, hroom, hfz, Addr.add_lit, hst, run_underlying hx, asInt, asIntOf, hwm, hmn, hm48, hm0, hcl]
      · simp only [List.size_toArray, List.length_append, List.length_take, List.length_drop, Array.length_toList]
        omega
      · rw [Nat.mul_one] at htake
        rw [htake, ← hlen]
        exact List.take_left
    · have holds : ∀ j u, xs[j]? = some u → w.cell? ((⟨g, 0, none⟩ : Addr).add j) = some u := hown.cells (g := g) rfl
      have hfo := run_firstCells_some (P := P) w.drew 1 n ⟨g, 0, none⟩ n cap xs hown.1 (by simpa using holds)
      have hgr := grown cap (by omega) (Value.ownBlock (.slice (some ⟨g, 0, none⟩) n cap))
      refine ⟨_, _, ?_, hgr.1, hgr.2, Or.inr rfl⟩
      have h48' : ¬ (281474976710656 < Builtin.nextslicecap (n + m) cap) := by have := growslice_fits (bytes := 1) (show cap < n + m by omega) (by omega); omega
      have h63' : ¬ (9223372036854775807 < ((n : Int) + (m : Int))) := by omega
      simp [Builtin.append_, run_underlying ht, sizeOf, typeInfo, zeroValue, hi, hz, hsize, hby, Builtin.lenOf, hroom, h48', h63', Question.forced, hfz, hfo, newRow, grownCap, hcl, run_underlying hx, asInt, asIntOf, hwm, hmn, hm48, hm0]
      try simp [← List.append_toArray]


theorem run_append_zeros0 (base : Nat) (t xT ty e : TypeId) (i : TypeInfo) (ht : P.underlying t = some (.slice e)) (hx : P.underlying xT = some (.int .i64)) (hi : P.info? e = some i)
    (v : Value) (n : Nat) (xs : List Value) (hown : w.ownsRow base e 1 v n xs) : (Builtin.append_ #[t, xT] ty #[v, Value.int .i64 0]).run P w = .ok v w := by
  have hwm : IntKind.i64.wrap 0 = 0 := by rw [IntKind.wrap_i64]; omega
  rcases hown.2 with ⟨rfl, rfl⟩ | ⟨g, cap, cur, rfl, hbg, hg, hnc, hcm, hcs, htake⟩
  · simp [Builtin.append_, run_underlying ht, sizeOf, typeInfo, hi, run_underlying hx, asInt, asIntOf, hwm]
  · simp [Builtin.append_, run_underlying ht, sizeOf, typeInfo, hi, run_underlying hx, asInt, asIntOf, hwm, hnc, storeCells]
end
end Go.Proofs.Ytbjaphldncagjaa
