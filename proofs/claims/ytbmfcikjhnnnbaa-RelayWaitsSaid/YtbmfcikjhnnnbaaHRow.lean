/- A row of mails of the call's own that is cut in front and grown behind; a map of such rows.
   Conditions: there is room. -/
import Derived.Test.YtbmfcikjhnnnbaaHBlank
import Derived.Test.YtbmfcikjhnnnbaaHInsert
import Derived.Laws.AppendOwn
import Derived.Laws.CopyRow
import Derived.Maps.Own
import Derived.Maps.Views
import Derived.WideKeyEntry
namespace Go.Proofs.Ytbmfcikjhnnnbaa.Q
open Go.RowKit Go.Proofs.YtbmfcikjhnnnbaaW.PrintWords Go.Proofs.YtbmfcikjhnnnbaaW.PrintLast Go.Proofs.YtbmfcikjhnnnbaaW.PrintMore
set_option linter.unusedVariables false
set_option linter.unusedSimpArgs false

def cellsM (m : S54) : List Value := [.int .u64 m.f0, .string m.f1, .int .u64 m.f2]
theorem cellsM_len (ms : List S54) : (ms.flatMap cellsM).length = ms.length * 3 := by
  induction ms with
  | nil => rfl
  | cons m r ih => simp only [List.flatMap_cons, List.length_append, ih, List.length_cons, cellsM, List.length_nil]; omega
theorem cellsM_one (ms : List S54) : ∀ v ∈ ms.flatMap cellsM, v.oneCell' = true := by
  intro v hv
  obtain ⟨m, _, hm⟩ := List.mem_flatMap.1 hv
  simp only [cellsM, List.mem_cons, List.not_mem_nil, or_false] at hm
  rcases hm with rfl | rfl | rfl <;> rfl
theorem cellsM_at (ms : List S54) (j : Nat) (m : S54) (hj : ms[j]? = some m) (i : Nat) (hi : i < 3) : (ms.flatMap cellsM)[j * 3 + i]? = (cellsM m)[i]? := by
  induction ms generalizing j with
  | nil => simp at hj
  | cons a r ih =>
    rw [List.flatMap_cons]
    have ha : (cellsM a).length = 3 := rfl
    rcases j with _ | j
    · simp only [List.getElem?_cons_zero, Option.some.injEq] at hj
      subst hj
      rw [Nat.zero_mul, Nat.zero_add, List.getElem?_append_left (by omega)]
    · simp only [List.getElem?_cons_succ] at hj
      rw [List.getElem?_append_right (by omega), ha, show (j + 1) * 3 + i - 3 = j * 3 + i by omega]
      exact ih j hj
/-- The slice v holds the mails, in a row of the call's own; what lies ahead of it is no one's. -/
def rowAt (W : World) (base : Nat) (v : Value) (ms : List S54) : Prop :=
  (v = .slice none 0 0 ∧ ms = []) ∨ ∃ g o cap cur, v = .slice (some ⟨g, o, none⟩) ms.length cap ∧ base ≤ g ∧ W.heap[g]? = some (.cells cur 54 (0, 0)) ∧ ms.length ≤ cap ∧ cap ≤ maxLen ∧ o + cap * 3 ≤ cur.size ∧ (cur.toList.drop o).take (ms.length * 3) = ms.flatMap cellsM
section
variable {W W' : World} {base : Nat} {v v' : Value} {ms : List S54}
theorem rowAt_nil : rowAt W base (.slice none 0 0) [] := .inl ⟨rfl, rfl⟩
theorem rowAt.lt (h : rowAt W base v ms) : ∀ k, v.ownBlock = some k → base ≤ k ∧ k < W.heap.size := by
  intro k hk
  rcases h with ⟨rfl, _⟩ | ⟨g, o, cap, cur, rfl, hb, hg, _⟩
  · simp [Value.ownBlock] at hk
  · simp only [Value.ownBlock, Option.some.injEq] at hk
    subst hk
    exact ⟨hb, blk_lt hg⟩
theorem rowAt.kept {row : Option Nat} (h : rowAt W base v ms) (hg : W.grownBy W' row) (hne : v.ownBlock = none ∨ v.ownBlock ≠ row) : rowAt W' base v ms := by
  rcases h with h | ⟨g, o, cap, cur, rfl, hb, hgg, rest⟩
  · exact .inl h
  · refine .inr ⟨g, o, cap, cur, rfl, hb, ?_, rest⟩
    rw [hg.block g (blk_lt hgg) (by simpa [Value.ownBlock] using hne)]
    exact hgg
theorem rowAt.on (h : rowAt W base v ms) (hb : Below W.heap.size W W') : rowAt W' base v ms := h.kept (below_grown hb) (by cases v.ownBlock <;> simp)
theorem rowAt.slice (h : rowAt W base v ms) : ∃ A c, v = .slice A ms.length c := by
  rcases h with ⟨rfl, rfl⟩ | ⟨g, o, cap, cur, rfl, _⟩
  · exact ⟨none, 0, rfl⟩
  · exact ⟨_, _, rfl⟩
theorem rowAt.cells {g o n cap : Nat} (h : rowAt W base (.slice (some ⟨g, o, none⟩) n cap) ms) : ∀ j u, (ms.flatMap cellsM)[j]? = some u → W.cell? ((⟨g, o, none⟩ : Addr).add j) = some u := by
  intro j u hu
  rcases h with ⟨h, _⟩ | ⟨g', o', cap', cur, h, _, hgg, _, _, hsz, htake⟩
  · cases h
  · injection h with h1 h2 h3
    injection h1 with h1
    injection h1 with h1 h4
    subst h1 h4
    rw [Addr.add_lit, blk_cell hgg]
    rw [← htake, List.getElem?_take] at hu
    split at hu
    · rw [List.getElem?_drop] at hu
      simpa using hu
    · cases hu
theorem rowAt.C {A : Option Addr} {n c : Nat} (h : rowAt W base (.slice A n c) ms) : n = ms.length ∧ n ≤ c ∧ k54.C W A n ms := by
  have h0 := h
  rcases h with ⟨h, rfl⟩ | ⟨g, o, cap, cur, h, _, hgg, hnc, hcm, hsz, htake⟩
  · injection h with h1 h2 h3
    subst h1 h2 h3
    exact ⟨rfl, Nat.le_refl _, Kd.C_nil _ _⟩
  · injection h with h1 h2 h3
    subst h1 h2 h3
    simp only [maxLen] at hcm
    refine ⟨rfl, hnc, rfl, by omega, fun hn => ⟨_, rfl, fun j p hj => ⟨_, rfl, k54_mk _ _, fun i u hu => ?_⟩⟩⟩
    have hi : i < 3 := by
      rcases Nat.lt_or_ge i 3 with hl | hl
      · exact hl
      · rw [List.getElem?_eq_none (by simpa using hl)] at hu
        cases hu
    exact h0.cells _ _ ((cellsM_at ms j p hj i hi).trans hu)
/-- The first one is cut off. -/
theorem rowAt.cut {m : S54} {r : List S54} (h : rowAt W base v (m :: r)) :
    ∃ v', (∀ W1, (Instr.slice 39 v (some (.int .i64 1)) none none).run Try.prog W1 = .ok v' W1) ∧ rowAt W base v' r ∧ v'.ownBlock = v.ownBlock ∧ ∃ A c, v' = .slice A r.length c := by
  rcases h with ⟨_, h⟩ | ⟨g, o, cap, cur, rfl, hb, hgg, hnc, hcm, hsz, htake⟩
  · cases h
  · obtain ⟨i0, hi, hz0, hz1, hz2⟩ := info_parts info54
    rw [List.length_cons] at hnc
    have hcm' : cap ≤ 9223372036854775807 := by simp only [maxLen] at hcm; omega
    have hrun : ∀ W1, (Instr.slice 39 (.slice (some ⟨g, o, none⟩) (m :: r).length cap) (some (.int .i64 1)) none none).run Try.prog W1 = .ok (.slice (if cap = 1 then some ⟨g, o, none⟩ else some ⟨g, o + 3, none⟩) r.length (cap - 1)) W1 := by
      intro W1
      have hle : (1 : Int) ≤ ((r.length : Int) + 1) := by omega
      simp [Instr.slice, Instr.sliceBounds, Instr.sliceBound, asIntOf, run_underlying Try.underlying39, sizeOf, typeInfo, hi, hz1, Addr.add_lit, hle]
    refine ⟨_, hrun, ?_, ?_, ?_⟩
    · by_cases h1 : cap = 1
      · rw [if_pos h1]
        have h0 : r = [] := List.eq_nil_of_length_eq_zero (by omega)
        subst h0
        exact .inr ⟨g, o, cap - 1, cur, rfl, hb, hgg, by simp, by omega, by omega, by simp⟩
      · rw [if_neg h1]
        refine .inr ⟨g, o + 3, cap - 1, cur, rfl, hb, hgg, by omega, by omega, by omega, ?_⟩
        have h3 := congrArg (List.drop 3) htake
        rw [List.flatMap_cons, List.drop_append_of_le_length (by simp [cellsM])] at h3
        simp only [cellsM, List.drop_succ_cons, List.drop_zero, List.nil_append, List.drop_take, List.drop_drop, List.length_cons] at h3
        rw [show (r.length + 1) * 3 - 3 = r.length * 3 by omega] at h3
        exact h3
    · by_cases h1 : cap = 1
      · rw [if_pos h1]; rfl
      · rw [if_neg h1]; rfl
    · exact ⟨_, _, rfl⟩
theorem run_append_room_o {P : Program} (w : World) (t ty e : TypeId) (i : TypeInfo) (ht : P.underlying t = some (.slice e)) (hi : P.info? e = some i)
    (g o sLen sCap : Nat) (cur : Array Value) (hg : w.heap[g]? = some (.cells cur e (0, 0)))
    (a : Addr) (m c : Nat) (news : List Value) (hl : news.length = m * i.size) (hnews : ∀ j u, news[j]? = some u → w.cell? (a.add j) = some u) (h1 : ∀ u ∈ news, u.oneCell' = true)
    (hroom : sLen + m ≤ sCap) (hfit : o + sLen * i.size + news.length ≤ cur.size) :
    (Builtin.append_ #[t, t] ty #[.slice (some ⟨g, o, none⟩) sLen sCap, .slice (some a) m c]).run P w =
      .ok (.slice (some ⟨g, o, none⟩) (sLen + m) sCap) (w.setRow g (cur.toList.take (o + sLen * i.size) ++ news ++ cur.toList.drop (o + sLen * i.size + news.length)).toArray) := by
  have hf := run_firstCells_some (P := P) w i.size m a m c news hl hnews
  have hst := run_storeCells_at P g (o + sLen * i.size) e news 0 cur w hg (by simpa using hfit) h1
  simp only [Nat.add_zero] at hst
  simp [Builtin.append_, run_underlying ht, sizeOf, typeInfo, hi, Builtin.lenOf, hroom, hf, Addr.add_lit, hst]
/-- One more behind. -/
theorem rowAt.append {m : S54} {gb : Nat} (h : rowAt W base v ms) (hlen : ms.length ≤ 1000000) (hbase : base ≤ W.heap.size) (hgb : W.heap[gb]? = some (.cells #[.int .u64 m.f0, .string m.f1, .int .u64 m.f2] 54 (0, 0))) :
    ∃ A c W', (Builtin.append_ #[39, 39] 39 #[v, .slice (some ⟨gb, 0, none⟩) 1 1]).run Try.prog W = .ok (.slice A (ms.length + 1) c) W' ∧ rowAt W' base (.slice A (ms.length + 1) c) (ms ++ [m]) ∧ W.grownBy W' v.ownBlock ∧
      ((Value.slice A (ms.length + 1) c).ownBlock = v.ownBlock ∨ (Value.slice A (ms.length + 1) c).ownBlock = some W.heap.size) := by
  obtain ⟨i0, hi, hz0, hz1, hz2⟩ := info_parts info54
  have hnews : ∀ j u, (cellsM m)[j]? = some u → W.cell? ((⟨gb, 0, none⟩ : Addr).add j) = some u := fun j u hu => by
    rw [Addr.add_lit, blk_cell hgb, Nat.zero_add]
    simpa [cellsM] using hu
  have hl1 : (cellsM m).length = 1 * i0.size := by rw [hz1]; rfl
  have h1 : ∀ u ∈ cellsM m, u.oneCell' = true := fun u hu => cellsM_one [m] u (by simpa using hu)
  have hmm : (ms ++ [m]).flatMap cellsM = ms.flatMap cellsM ++ cellsM m := by simp
  have hml : (ms ++ [m]).length = ms.length + 1 := by simp
  have grown : ∀ (old : Nat), old < ms.length + 1 → ∀ row : Option Nat,
      rowAt (W.drew.alloc (.cells ((ms.flatMap cellsM).toArray ++ (cellsM m).toArray ++ Builtin.zeroCells (Value.agg #[(.int .u64 0), (.string ⟨#[]⟩), (.int .u64 0)]).cells (grownCap W (ms.length + 1) old 54 - (ms.length + 1))) 54)) base
        (.slice (some ⟨W.heap.size, 0, none⟩) (ms.length + 1) (grownCap W (ms.length + 1) old 54)) (ms ++ [m]) ∧
      W.grownBy (W.drew.alloc (.cells ((ms.flatMap cellsM).toArray ++ (cellsM m).toArray ++ Builtin.zeroCells (Value.agg #[(.int .u64 0), (.string ⟨#[]⟩), (.int .u64 0)]).cells (grownCap W (ms.length + 1) old 54 - (ms.length + 1))) 54)) row := by
    intro old ho row
    have hge := grownCap_ge W (ms.length + 1) old 54
    have hcm : grownCap W (ms.length + 1) old 54 ≤ maxLen := grownCap_le_maxLen W (ms.length + 1) old 54 (by simp only [maxLen]; omega)
    refine ⟨.inr ⟨W.heap.size, 0, _, _, by rw [hml], hbase, heap_alloc_new W.drew _, by rw [hml]; exact hge, hcm, ?_, ?_⟩, ⟨rfl, rfl, rfl, by simp, fun k hk hne => (World.grownBy_alloc W.drew _ row).block k hk hne⟩⟩
    · have hz : (Value.agg #[(.int .u64 0), (.string ⟨#[]⟩), (.int .u64 0)]).cells.size = 3 := by kernel_rfl
      simp only [Array.size_append, List.size_toArray, size_zeroCells, hz, cellsM_len]
      have : (cellsM m).length = 3 := rfl
      omega
    · simp only [Array.toList_append, List.append_assoc, List.drop_zero]
      rw [← List.append_assoc, ← hmm, ← cellsM_len]
      exact List.take_left
  rcases h with ⟨rfl, rfl⟩ | ⟨g, o, cap, cur, rfl, hb, hgg, hnc, hcm, hsz, htake⟩
  · have hr := run_append_nil (P := Try.prog) W 39 39 54 i0 _ Try.underlying39 hi hz0 ⟨gb, 0, none⟩ 1 1 (cellsM m) hl1 hnews (by omega) (by omega) (by rw [hz2]; omega)
    have hgr := grown 0 (by simp) (Value.ownBlock (.slice none 0 0))
    simp only [List.length_nil, Nat.zero_add, List.flatMap_nil, List.nil_append, Array.empty_append] at hgr ⊢
    exact ⟨_, _, _, hr, hgr.1, hgr.2, Or.inr rfl⟩
  · by_cases hroom : ms.length + 1 ≤ cap
    · have h3 : (cellsM m).length = 3 := rfl
      have hfit : o + ms.length * i0.size + (cellsM m).length ≤ cur.size := by rw [hz1, h3]; omega
      have hr := run_append_room_o (P := Try.prog) W 39 39 54 i0 Try.underlying39 hi g o ms.length cap cur hgg ⟨gb, 0, none⟩ 1 1 (cellsM m) hl1 hnews h1 hroom hfit
      refine ⟨_, _, _, hr, .inr ⟨g, o, cap, _, by rw [hml], hb, setRow_heap W g cur _ 54 _ hgg, by rw [hml]; exact hroom, hcm, ?_, ?_⟩, setRow_grown W g _, Or.inl rfl⟩
      · simp only [List.size_toArray, List.length_append, List.length_take, List.length_drop, Array.length_toList, h3, hz1]
        omega
      · rw [hz1, hml, hmm, ← htake]
        have e1 : (cur.toList.take (o + ms.length * 3)).drop o = (cur.toList.drop o).take (ms.length * 3) := by rw [List.drop_take]; congr 1; omega
        have l1 : (cur.toList.take (o + ms.length * 3)).length = o + ms.length * 3 := by have hq : cur.toList.length = cur.size := Array.length_toList; rw [List.length_take, hq]; omega
        have l2 : ((cur.toList.drop o).take (ms.length * 3)).length = ms.length * 3 := by rw [htake, cellsM_len]
        rw [List.toList_toArray, List.append_assoc, List.drop_append_of_le_length (by rw [l1]; omega), e1, ← List.append_assoc]
        have l3 : ((cur.toList.drop o).take (ms.length * 3) ++ cellsM m).length = (ms.length + 1) * 3 := by rw [List.length_append, l2, h3]; omega
        rw [← l3]
        exact List.take_left
    · have h0 : rowAt W base (.slice (some ⟨g, o, none⟩) ms.length cap) ms := .inr ⟨g, o, cap, cur, rfl, hb, hgg, hnc, hcm, hsz, htake⟩
      have hr := run_append_grow (P := Try.prog) W 39 39 54 i0 _ Try.underlying39 hi hz0 ⟨g, o, none⟩ ms.length cap (ms.flatMap cellsM) (by rw [cellsM_len, hz1]) h0.cells ⟨gb, 0, none⟩ 1 1 (cellsM m) hl1 hnews (by omega) (by omega) (growslice_fits (by omega) (by rw [hz2]; omega))
      have hgr := grown cap (by omega) (Value.ownBlock (.slice (some ⟨g, o, none⟩) ms.length cap))
      exact ⟨_, _, _, hr, hgr.1, hgr.2, Or.inr rfl⟩
end

theorem keyedU : Maps.Keyed Try.prog 23 := Maps.int_keyed Try.underlying23
/-- What is kept of an element: itself. -/
def RV (v : Value) : Option (DataW Value × List MemPlace) := some (.held v, [])
theorem zero39 (W : World) : (zeroValue 39).run Try.prog W = .ok (.slice none 0 0) W := by kernel_rfl
theorem key_u {u : Nat} (hu : u < 4) : keyOf Try.prog 23 (.int .u64 (u : Int)) = some (.int .u64 (u : Int)) := by
  refine Maps.keyOf_int_mk Try.underlying23 ?_
  have e1 : IntKind.u64.min = 0 := rfl
  have e2 : IntKind.u64.max = 18446744073709551615 := rfl
  simp only [Lit.wf, Bool.and_eq_true, decide_eq_true_eq]
  omega
/-- m[k] = v by an entry and a store is the update. -/
theorem entry_run {W : World} {b : Nat} {es : Array MapEntry} {clock : Nat} (hb : W.heap[b]? = some (.map es clock)) (hs : MapKept.Stamped es clock) (hks : ∀ e ∈ es.toList, ∃ l, keyOf Try.prog 23 e.key = some l) {key : Value} {kl : Lit} (hkey : keyOf Try.prog 23 key = some kl) :
    ∃ (v0 : Value) (st : Nat) (W1 : World), (Instr.mapEntry 50 (.map (some b)) key).run Try.prog W = .ok (.tuple #[v0, goInt st]) W1 ∧
      ∀ val, ∃ W2, (Instr.entryStore 50 (.map (some b)) (goInt st) val).run Try.prog W1 = .ok () W2 ∧ (Instr.mapUpdate 50 (.map (some b)) key val).run Try.prog W = .ok () W2 := by
  obtain ⟨s1, s2, _⟩ := hs
  have hset : ∀ x y, ChangeMaps.setBlock (ChangeMaps.setBlock W b x) b y = ChangeMaps.setBlock W b y := fun x y => by simp [ChangeMaps.setBlock]
  have hget : ∀ es1 c1, (ChangeMaps.setBlock W b (.map es1 c1)).heap[b]? = some (.map es1 c1) := fun es1 c1 => ChangeMaps.heap_setBlock_same hb _
  rcases keyedU.find W hkey es.toList hks with ⟨f1, f2⟩ | ⟨j, e0, f1, f2, f3⟩
  · refine ⟨.slice none 0 0, clock, ChangeMaps.setBlock W b (.map (es.push ⟨key, .slice none 0 0, clock⟩) (clock + 1)), ?_, fun val => ⟨ChangeMaps.setBlock W b (.map (es.push ⟨key, val, clock⟩) (clock + 1)), ?_, ?_⟩⟩
    · simp [Instr.mapEntry, run_underlying Try.underlying50, MapKept.run_getObj_map hb, keyedU.check W false hkey, f1, zero39, MapKept.run_setObj_map _ hb, Result.andThen, ChangeMaps.setBlock]
    · have hidx : (es.push ⟨key, .slice none 0 0, clock⟩).findIdx? (fun e => ((e.born : Nat) : Int) == ((clock : Nat) : Int)) = some es.size := by
        rw [WideElems.findIdx_arr]
        refine WideElems.findIdx_born (l := (es.push ⟨key, .slice none 0 0, clock⟩).toList) (j := es.size) (e0 := ⟨key, .slice none 0 0, clock⟩) ?_ (by simp)
        rw [Array.toList_push, List.map_append]
        refine List.nodup_append.2 ⟨s2, by simp, fun a ha c hc e1 => ?_⟩
        obtain ⟨x, hx, rfl⟩ := List.mem_map.1 ha
        have h9 := s1 x hx
        have h8 : c = clock := by simpa using hc
        omega
      have hmod : (es.push ⟨key, .slice none 0 0, clock⟩).modify es.size (fun e => { e with val := val }) = es.push ⟨key, val, clock⟩ := by
        apply Array.ext'
        rw [Array.toList_modify, Array.toList_push, Array.toList_push, ← Array.length_toList, WideElems.modify_last]
      have hg := hget (es.push ⟨key, .slice none 0 0, clock⟩) (clock + 1)
      have hset' := hset (.map (es.push ⟨key, .slice none 0 0, clock⟩) (clock + 1)) (.map (es.push ⟨key, val, clock⟩) (clock + 1))
      generalize hW1 : ChangeMaps.setBlock W b (.map (es.push ⟨key, .slice none 0 0, clock⟩) (clock + 1)) = W1 at hg hset'
      rw [← hset']
      simp [Instr.entryStore, MapKept.run_getObj_map hg, asInt, asIntOf, goInt, hidx, hmod, MapKept.run_setObj_map _ hg, Result.andThen, ChangeMaps.setBlock]
    · simp [Instr.mapUpdate, run_underlying Try.underlying50, MapKept.run_getObj_map hb, keyedU.check W false hkey, f1, MapKept.run_setObj_map _ hb, Result.andThen, ChangeMaps.setBlock]
  · have hj : es[j]? = some e0 := by simpa using f2
    have hsame : es.modify j (fun e => { e with key := key }) = es := by
      apply Array.ext'
      rw [Array.toList_modify, ChangeMaps.modify_eq_set _ _ _ _ f2, show ({ e0 with key := key } : MapEntry) = e0 by rw [← f3]]
      exact WideElems.set_self _ _ _ f2
    refine ⟨e0.val, e0.born, ChangeMaps.setBlock W b (.map es clock), ?_, fun val => ⟨ChangeMaps.setBlock W b (.map (es.modify j (fun e' => { e' with key := key, val := val })) clock), ?_, ?_⟩⟩
    · simp [Instr.mapEntry, run_underlying Try.underlying50, MapKept.run_getObj_map hb, keyedU.check W false hkey, f1, hj, f3, keyedU.stays W hkey, hsame, MapKept.run_setObj_map _ hb, Result.andThen, ChangeMaps.setBlock]
    · have hidx : es.findIdx? (fun e => ((e.born : Nat) : Int) == ((e0.born : Nat) : Int)) = some j := by
        rw [WideElems.findIdx_arr]
        exact WideElems.findIdx_born s2 f2
      have hmod : es.modify j (fun e => { e with val := val }) = es.modify j (fun e' => { e' with key := key, val := val }) := by
        apply Array.ext'
        rw [Array.toList_modify, Array.toList_modify, ChangeMaps.modify_eq_set _ _ _ _ f2, ChangeMaps.modify_eq_set _ _ _ _ f2, ← f3]
      have hg := hget es clock
      have hset' := hset (.map es clock) (.map (es.modify j (fun e' => { e' with key := key, val := val })) clock)
      generalize hW1 : ChangeMaps.setBlock W b (.map es clock) = W1 at hg hset'
      rw [← hset']
      simp [Instr.entryStore, MapKept.run_getObj_map hg, asInt, asIntOf, goInt, hidx, hmod, MapKept.run_setObj_map _ hg, Result.andThen, ChangeMaps.setBlock]
    · simp [Instr.mapUpdate, run_underlying Try.underlying50, MapKept.run_getObj_map hb, keyedU.check W false hkey, f1, hj, f3, keyedU.stays W hkey, MapKept.run_setObj_map _ hb, Result.andThen, ChangeMaps.setBlock]
def upd {α : Type} (f : Nat → α) (u : Nat) (x : α) : Nat → α := fun k => if k = u then x else f k
theorem upd_same {α : Type} (f : Nat → α) (u : Nat) (x : α) : upd f u x u = x := if_pos rfl
theorem upd_ne {α : Type} (f : Nat → α) {u k : Nat} (x : α) (h : k ≠ u) : upd f u x k = f k := if_neg h
theorem upd_self {α : Type} (f : Nat → α) (u : Nat) : upd f u (f u) = f := by
  funext k
  unfold upd
  split
  · rename_i h; rw [h]
  · rfl
/-- The map of the users' rows: what it holds (vs), and the rows themselves (vr), which lie apart. -/
structure Hold (base gm n : Nat) (W : World) (vs vr : Nat → Value) (ws : Nat → List S54) : Prop where
  map : ∃ D, W.ownsMap Try.prog 23 RV gm n D ∧ Maps.IsMap D ∧ ∀ u : Nat, u < 4 → D.atKey (.int .u64 (u : Int)) (.held (.slice none 0 0)) = .held (vs u)
  row : ∀ u, u < 4 → rowAt W base (vr u) (ws u)
  ap : ∀ u v, u < 4 → v < 4 → u ≠ v → (vr u).ownBlock = none ∨ (vr u).ownBlock ≠ (vr v).ownBlock
section
variable {base gm n : Nat} {W W' : World} {vs vr : Nat → Value} {ws : Nat → List S54}
theorem Hold.blk (h : Hold base gm n W vs vr ws) : ∃ es clock, W.heap[gm]? = some (.map es clock) := by
  obtain ⟨D, ⟨es, clock, hb, _⟩, _⟩ := h.map
  exact ⟨es, clock, hb⟩
theorem Hold.gm_lt (h : Hold base gm n W vs vr ws) : gm < W.heap.size := by
  obtain ⟨es, clock, hb⟩ := h.blk
  exact blk_lt hb
theorem Hold.gm_ne (h : Hold base gm n W vs vr ws) {u : Nat} (hu : u < 4) : some gm ≠ (vr u).ownBlock := by
  obtain ⟨es, clock, hb⟩ := h.blk
  rcases h.row u hu with ⟨e, _⟩ | ⟨g, o, cap, cur, e, _, hg, _⟩
  · rw [e]; simp [Value.ownBlock]
  · rw [e]
    intro h2
    injection h2 with h2
    subst h2
    rw [hg] at hb
    cases hb
theorem Hold.grown (h : Hold base gm n W vs vr ws) {row : Option Nat} (hg : W.grownBy W' row) (h0 : some gm ≠ row) (h1 : ∀ u, u < 4 → (vr u).ownBlock = none ∨ (vr u).ownBlock ≠ row) : Hold base gm n W' vs vr ws := by
  obtain ⟨D, hD, hM, hA⟩ := h.map
  exact ⟨⟨D, hD.kept hg h0, hM, hA⟩, fun u hu => (h.row u hu).kept hg (h1 u hu), h.ap⟩
theorem Hold.on (h : Hold base gm n W vs vr ws) (hb : Below W.heap.size W W') : Hold base gm n W' vs vr ws := h.grown (below_grown hb) (by simp) (fun u _ => by cases (vr u).ownBlock <;> simp)
/-- A box that is no row of mails is written. -/
theorem Hold.box (h : Hold base gm n W vs vr ws) {g t : Nat} {cur : Array Value} (hK : W.heap[g]? = some (.cells cur t (0, 0))) (ht : t ≠ 54) (hg : W.grownBy W' (some g)) : Hold base gm n W' vs vr ws := by
  refine h.grown hg (fun e => ?_) (fun u hu => ?_)
  · injection e with e
    obtain ⟨es, clock, hb⟩ := h.blk
    rw [e, hK] at hb
    cases hb
  · rcases h.row u hu with ⟨e, _⟩ | ⟨g', o, cap, cur', e, _, hg', _⟩
    · rw [e]; exact .inl rfl
    · right
      rw [e]
      intro h2
      have h2 : g' = g := by simpa [Value.ownBlock] using h2
      subst h2
      rw [hK] at hg'
      injection hg' with hg'
      injection hg' with _ hg'
      exact ht hg'
theorem Hold.lookup (h : Hold base gm n W vs vr ws) {u : Nat} (hu : u < 4) : (Instr.lookup 50 (.map (some gm)) (.int .u64 (u : Int)) false).run Try.prog W = .ok (vs u) W := by
  obtain ⟨D, hD, hM, hA⟩ := h.map
  obtain ⟨v, ps, hr, hv⟩ := hD.lookup keyedU Try.underlying50 (zero39 W) (zd := .held (.slice none 0 0)) (zp := []) rfl (key_u hu)
  rw [hA u hu] at hv
  simp only [RV, Option.some.injEq, Prod.mk.injEq, DataW.held.injEq] at hv
  rw [hr, hv.1]
theorem Hold.append (h : Hold base gm n W vs vr ws) {u gb : Nat} (hu : u < 4) {m : S54} (hlen : (ws u).length ≤ 1000000) (hbase : base ≤ W.heap.size) (hgb : W.heap[gb]? = some (.cells #[.int .u64 m.f0, .string m.f1, .int .u64 m.f2] 54 (0, 0))) :
    ∃ A c W', (Builtin.append_ #[39, 39] 39 #[vr u, .slice (some ⟨gb, 0, none⟩) 1 1]).run Try.prog W = .ok (.slice A ((ws u).length + 1) c) W' ∧ Hold base gm n W' vs (upd vr u (.slice A ((ws u).length + 1) c)) (upd ws u (ws u ++ [m])) ∧ W.grownBy W' (vr u).ownBlock ∧
      ((Value.slice A ((ws u).length + 1) c).ownBlock = (vr u).ownBlock ∨ (Value.slice A ((ws u).length + 1) c).ownBlock = some W.heap.size) := by
  obtain ⟨A, c, W', hr, h1, h2, h3⟩ := (h.row u hu).append hlen hbase hgb
  obtain ⟨D, hD, hM, hA⟩ := h.map
  have hfar : ∀ v, v < 4 → v ≠ u → (vr v).ownBlock = none ∨ (vr v).ownBlock ≠ (Value.slice A ((ws u).length + 1) c).ownBlock := fun v hv hne => by
    rcases h3 with e | e
    · rw [e]; exact h.ap v u hv hu hne
    · rw [e]
      cases hb : (vr v).ownBlock with
      | none => exact .inl rfl
      | some k =>
        right
        intro h4
        injection h4 with h4
        have := ((h.row v hv).lt k hb).2
        omega
  refine ⟨A, c, W', hr, ⟨⟨D, hD.kept h2 (h.gm_ne hu), hM, hA⟩, fun v hv => ?_, fun v k hv hk hne => ?_⟩, h2, h3⟩
  · by_cases e : v = u
    · subst e; rw [upd_same, upd_same]; exact h1
    · rw [upd_ne _ _ e, upd_ne _ _ e]; exact (h.row v hv).kept h2 (h.ap v u hv hu e)
  · by_cases e : v = u
    · subst e
      rw [upd_same, upd_ne _ _ (Ne.symm hne)]
      rcases hfar k hk (Ne.symm hne) with e2 | e2
      · rw [e2]
        cases (Value.slice A ((ws v).length + 1) c).ownBlock with
        | none => exact .inl rfl
        | some _ => exact .inr (by simp)
      · exact .inr (Ne.symm e2)
    · rw [upd_ne _ _ e]
      by_cases e2 : k = u
      · subst e2; rw [upd_same]; exact hfar v hv e
      · rw [upd_ne _ _ e2]; exact h.ap v k hv hk hne
theorem Hold.cut (h : Hold base gm n W vs vr ws) {u : Nat} (hu : u < 4) {m : S54} {r : List S54} (hw : ws u = m :: r) :
    ∃ A c, (∀ W1, (Instr.slice 39 (vr u) (some (.int .i64 1)) none none).run Try.prog W1 = .ok (.slice A r.length c) W1) ∧ Hold base gm n W vs (upd vr u (.slice A r.length c)) (upd ws u r) ∧ (Value.slice A r.length c).ownBlock = (vr u).ownBlock := by
  have h0 := h.row u hu
  rw [hw] at h0
  obtain ⟨v', hr, h1, h2, A, c, rfl⟩ := h0.cut
  refine ⟨A, c, hr, ⟨h.map, fun v hv => ?_, fun v k hv hk hne => ?_⟩, h2⟩
  · by_cases e : v = u
    · subst e; rw [upd_same, upd_same]; exact h1
    · rw [upd_ne _ _ e, upd_ne _ _ e]; exact h.row v hv
  · have hb : ∀ j, (upd vr u (.slice A r.length c) j).ownBlock = (vr j).ownBlock := fun j => by
      by_cases e : j = u
      · subst e; rw [upd_same]; exact h2
      · rw [upd_ne _ _ e]
    rw [hb, hb]
    exact h.ap v k hv hk hne
/-- What is stored in the map. -/
theorem Hold.stored (h : Hold base gm n W vs vr ws) {u : Nat} (hu : u < 4) (hn : n < maxLen) :
    (∃ W2, (Instr.mapUpdate 50 (.map (some gm)) (.int .u64 (u : Int)) (vr u)).run Try.prog W = .ok () W2 ∧ Hold base gm (n + 1) W2 (upd vs u (vr u)) vr ws ∧ W.grownBy W2 (some gm)) ∧
    ∃ (v0 : Value) (st : Nat) (W1 : World), (Instr.mapEntry 50 (.map (some gm)) (.int .u64 (u : Int))).run Try.prog W = .ok (.tuple #[v0, .int .i64 (st : Int)]) W1 ∧ ∃ W2, (Instr.entryStore 50 (.map (some gm)) (.int .i64 (st : Int)) (vr u)).run Try.prog W1 = .ok () W2 ∧ Hold base gm (n + 1) W2 (upd vs u (vr u)) vr ws ∧ W.grownBy W2 (some gm) := by
  obtain ⟨D, hD, hM, hA⟩ := h.map
  obtain ⟨W2, hr, hD2, hg2⟩ := hD.update keyedU Try.underlying50 hn (key_u hu) (show RV (vr u) = some (.held (vr u), []) from rfl)
  have hH : Hold base gm (n + 1) W2 (upd vs u (vr u)) vr ws := by
    have hM2 : Maps.IsMap (D.put (.int .u64 (u : Int)) (.held (vr u))) := by
      obtain ⟨es, rfl⟩ := hM
      exact ⟨_, rfl⟩
    refine ⟨⟨_, hD2, hM2, fun v hv => ?_⟩, fun v hv => (h.row v hv).kept hg2 ?_, h.ap⟩
    · by_cases e : v = u
      · subst e; rw [upd_same]; exact Maps.atKey_put_same hM (keyedU.key (key_u hu)) _ _
      · rw [upd_ne _ _ e, Maps.atKey_put_other (by
          intro h2
          injection h2 with _ h2
          omega)]
        exact hA v hv
    · have := h.gm_ne hv
      cases hb : (vr v).ownBlock with
      | none => exact .inl rfl
      | some k => exact .inr (fun e => this (by rw [hb, e]))
  refine ⟨⟨W2, hr, hH, hg2⟩, ?_⟩
  obtain ⟨es, clock, hb, F, hs, hDe⟩ := hD
  obtain ⟨v0, st, W1, h1, h2⟩ := entry_run hb F.stamped F.keys (key_u hu)
  obtain ⟨W3, h3, h4⟩ := h2 (vr u)
  rw [hr] at h4
  injection h4 with _ h4
  subst h4
  exact ⟨v0, st, W1, h1, W2, h3, hH, hg2⟩
end
theorem Hold.made (W : World) : Hold W.heap.size W.heap.size 0 (W.alloc (.map #[] 0)) (fun _ => .slice none 0 0) (fun _ => .slice none 0 0) (fun _ => []) :=
  ⟨⟨.map [], World.ownsMap_made _ _ _ _, ⟨_, rfl⟩, fun _ _ => rfl⟩, fun _ _ => rowAt_nil, fun _ _ _ _ _ => .inl rfl⟩
end Go.Proofs.Ytbmfcikjhnnnbaa.Q
