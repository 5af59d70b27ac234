/- RelayWaits: the relay and the lists of mails that wait, step by step.
   Conditions: the relay may be. -/
import Derived.Test.YtbmfcikjhnnnbaaHPure5
import Derived.Test.YtbmfcikjhnnnbaaHRow
namespace Go.Proofs.Ytbmfcikjhnnnbaa.Q
open Go.RowKit Go.Proofs.YtbmfcikjhnnnbaaW.PrintWords Go.Proofs.YtbmfcikjhnnnbaaW.PrintLast Go.Proofs.YtbmfcikjhnnnbaaW.PrintMore
set_option linter.unusedVariables false
set_option linter.unusedSimpArgs false

structure MailsOk (now next : Int) (l : List S54) : Prop where
  len : l.length ≤ 16
  each : ∀ m ∈ l, m.f1.size ≤ 1400 ∧ m.f0 < next ∧ m.f2 ≤ now ∧ now - m.f2 ≤ 50
  ids : l.Pairwise (fun a b => a.f0 < b.f0)
  txts : l.Pairwise (fun a b => txt a.f1 ≠ txt b.f1)
theorem box_ok {now next : Int} {b : S57} (h : boxB now next b = true) : MailsOk now next b.f1 := by
  have hok := box_okM h
  unfold boxB at h
  rw [Bool.and_eq_true, Bool.and_eq_true] at h
  have hp : ∀ i, i < b.f1.length → (((b.f1.take i).map (fun p => txt p.f1)).contains (txt (rd_T54 b.f1 (i : Int)).f1) = false) ∧ ((rd_T54 b.f1 (i : Int)).f1.size ≤ 1400 ∧ (rd_T54 b.f1 (i : Int)).f0 < next) ∧ (i = 0 ∨ (rd_T54 b.f1 ((i : Int) - 1)).f0 < (rd_T54 b.f1 (i : Int)).f0) ∧ (rd_T54 b.f1 (i : Int)).f2 ≤ now ∧ now - (rd_T54 b.f1 (i : Int)).f2 ≤ 50 := by
    intro i hi
    have h1 := hok i hi
    unfold okM at h1
    simp only [Bool.and_eq_true, Bool.or_eq_true, decide_eq_true_eq, Bool.not_eq_true'] at h1
    exact ⟨h1.1, ⟨h1.2.1, h1.2.2.1⟩, h1.2.2.2.1, h1.2.2.2.2.1, h1.2.2.2.2.2⟩
  refine ⟨of_decide_eq_true h.2.2, fun m hm => ?_, ?_, ?_⟩
  · obtain ⟨i, hi, rfl⟩ := List.getElem_of_mem hm
    obtain ⟨_, h2, _, h4, h5⟩ := hp i hi
    rw [rd54_nat _ i hi] at h2 h4 h5
    exact ⟨h2.1, h2.2, h4, h5⟩
  · have hstep : ∀ k i, i + k < b.f1.length → 0 < k → (rd_T54 b.f1 (i : Int)).f0 < (rd_T54 b.f1 ((i + k : Nat) : Int)).f0 := by
      intro k
      induction k with
      | zero => intro i _ h0; omega
      | succ k ih =>
        intro i hi _
        have h3 := (hp (i + (k + 1)) hi).2.2.1
        rcases h3 with h3 | h3
        · omega
        · rw [show (((i + (k + 1) : Nat) : Int) - 1) = ((i + k : Nat) : Int) by omega] at h3
          rcases Nat.eq_zero_or_pos k with rfl | hk
          · exact h3
          · have := ih i (by omega) hk
            omega
    rw [List.pairwise_iff_getElem]
    intro i j hi hj hij
    have := hstep (j - i) i (by omega) (by omega)
    rw [show i + (j - i) = j by omega, rd54_nat _ i hi, rd54_nat _ j hj] at this
    exact this
  · rw [List.pairwise_iff_getElem]
    intro i j hi hj hij e
    have h1 := (hp j hj).1
    rw [rd54_nat _ j hj] at h1
    have h2 : ((b.f1.take j).map (fun p => txt p.f1)).contains (txt b.f1[j].f1) = true := by
      rw [List.contains_iff_mem]
      rw [← e]
      refine List.mem_map.2 ⟨b.f1[i], ?_, rfl⟩
      exact List.mem_take_iff_getElem.2 ⟨i, by omega, rfl⟩
    rw [h2] at h1
    cases h1
theorem ok_box {now next u : Int} {l : List S54} (h : MailsOk now next l) (h0 : 0 < l.length) : boxB now next { f0 := u, f1 := l } = true := by
  rw [boxB_yes (x := { f0 := u, f1 := l })]
  · show (decide (1 ≤ l.length) && decide (l.length ≤ 16)) = true
    have := h.len
    rw [decide_eq_true (show 1 ≤ l.length from h0), decide_eq_true this]
    rfl
  · intro i hi
    have hi : i < l.length := hi
    show okM now next l i = true
    unfold okM
    obtain ⟨e1, e2, e3, e4⟩ := h.each _ (List.getElem_mem hi)
    rw [rd54_nat l i hi, decide_eq_true e1, decide_eq_true e2, decide_eq_true e3, decide_eq_true e4]
    have hc : ((l.take i).map (fun p => txt p.f1)).contains (txt l[i].f1) = false := by
      rw [Bool.eq_false_iff]
      intro hc
      rw [List.contains_iff_mem] at hc
      obtain ⟨a, ha, e⟩ := List.mem_map.1 hc
      obtain ⟨j, hj, rfl⟩ := List.mem_take_iff_getElem.1 ha
      exact List.pairwise_iff_getElem.1 h.txts j i (by omega) hi (by omega) e
    rw [hc]
    rcases Nat.eq_zero_or_pos i with h0 | h0
    · rw [decide_eq_true h0]; rfl
    · have h3 := List.pairwise_iff_getElem.1 h.ids (i - 1) i (by omega) hi (by omega)
      rw [show ((i : Int) - 1) = ((i - 1 : Nat) : Int) by omega, rd54_nat l (i - 1) (by omega), decide_eq_true h3, Bool.or_true]
      rfl
theorem MailsOk.filter {now now' next : Int} {l : List S54} (h : MailsOk now next l) (q : S54 → Bool) (hq : ∀ m ∈ l, q m = true → m.f2 ≤ now' ∧ now' - m.f2 ≤ 50) : MailsOk now' next (l.filter q) := by
  refine ⟨Nat.le_trans (List.length_filter_le _ _) h.len, fun m hm => ?_, h.ids.filter _, h.txts.filter _⟩
  obtain ⟨h1, h2⟩ := List.mem_filter.1 hm
  obtain ⟨e1, e2, _, _⟩ := h.each m h1
  exact ⟨e1, e2, hq m h1 h2⟩
theorem without_rel {p : S57 → S54 → Bool} {l : List S57} {now next now' : Int} (h : relB l now next = true) (h62 : now' < 4611686018427387904) (hk : ∀ b ∈ l, ∀ m ∈ b.f1, p b m = false → m.f2 ≤ now' ∧ now' - m.f2 ≤ 50) : relB (withoutL p l) now' next = true := by
  have hrow := row_iff.1 (rel_row h)
  refine rel_of (Nat.le_trans (withoutL_le p l) (rel_len h)) h62 (rel_next h) (row_iff.2 ⟨fun b hb => ?_, ?_⟩)
  · unfold withoutL at hb
    obtain ⟨h1, h2⟩ := List.mem_filter.1 hb
    obtain ⟨b0, h3, rfl⟩ := List.mem_map.1 h1
    exact ok_box ((box_ok (hrow.1 b0 h3)).filter _ (fun m hm hq => hk b0 h3 m hm (by simpa using hq))) (of_decide_eq_true h2)
  · unfold withoutL
    refine List.Pairwise.filter _ ?_
    rw [List.pairwise_map]
    exact hrow.2
theorem mails_without {p : S57 → S54 → Bool} {q : S54 → Bool} {u : Int} (hq : ∀ b : S57, b.f0 = u → ∀ m, p b m = q m) : ∀ {l : List S57}, Ord l → mailsL (withoutL p l) u = (mailsL l u).filter fun m => !q m := by
  intro l
  induction l with
  | nil => intro _; rfl
  | cons b l ih =>
    intro h
    obtain ⟨h1, h2⟩ := h
    rw [List.pairwise_cons] at h1
    have hl : Ord l := ⟨h1.2, fun c hc => h2 c (by simp [hc])⟩
    have hf : (keepB p b).f1 = b.f1.filter fun m => !p b m := rfl
    rw [withoutL_cons, mails_cons]
    by_cases hu : b.f0 = u
    · rw [if_pos hu]
      have e : (b.f1.filter fun m => !p b m) = b.f1.filter fun m => !q m := List.filter_congr (fun m _ => by rw [hq b hu m])
      by_cases hz : 0 < (keepB p b).f1.length
      · rw [if_pos hz, List.singleton_append, mails_cons, if_pos (show (keepB p b).f0 = u from hu), hf, e]
      · rw [if_neg hz, List.nil_append, ih hl, find_none (fun c hc => by have := h1.1 c hc; omega), ← e, ← hf]
        exact (List.eq_nil_of_length_eq_zero (by omega)).symm
    · rw [if_neg hu, ← ih hl]
      by_cases hz : 0 < (keepB p b).f1.length
      · rw [if_pos hz, List.singleton_append, mails_cons, if_neg (show ¬ (keepB p b).f0 = u from hu)]
      · rw [if_neg hz, List.nil_append]
theorem mem_without {p : S57 → S54 → Bool} {l : List S57} {b : S57} (h : b ∈ withoutL p l) : ∃ c ∈ l, c.f0 = b.f0 := by
  unfold withoutL at h
  obtain ⟨h1, _⟩ := List.mem_filter.1 h
  obtain ⟨b0, h3, rfl⟩ := List.mem_map.1 h1
  exact ⟨b0, h3, rfl⟩
theorem mails_of_mem {l : List S57} (h : Ord l) : ∀ {b : S57}, b ∈ l → mailsL l b.f0 = b.f1 := by
  induction l with
  | nil => intro b hb; cases hb
  | cons a l ih =>
    intro b hb
    obtain ⟨h1, h2⟩ := h
    rw [List.pairwise_cons] at h1
    rw [mails_cons]
    rcases List.mem_cons.1 hb with rfl | hb
    · rw [if_pos rfl]
    · have := h1.1 b hb
      rw [if_neg (by omega)]
      exact ih ⟨h1.2, fun c hc => h2 c (by simp [hc])⟩ hb
theorem few_users : ∀ (l : List S57) (lo : Int), lo ≤ 4 → l.Pairwise (fun a b => a.f0 < b.f0) → (∀ b ∈ l, lo ≤ b.f0 ∧ b.f0 < 4) → (l.length : Int) ≤ 4 - lo := by
  intro l
  induction l with
  | nil => intro lo h _ _; simp; omega
  | cons a l ih =>
    intro lo hlo hp hr
    rw [List.pairwise_cons] at hp
    have ha := hr a (by simp)
    have := ih (a.f0 + 1) (by omega) hp.2 (fun b hb => ⟨by have := hp.1 b hb; omega, (hr b (by simp [hb])).2⟩)
    rw [List.length_cons]
    omega
/-- The relay, and what waits. -/
structure Rel (i : Nat) (l : List S57) (now next : Int) (ws : Nat → List S54) : Prop where
  rel : relB l now next = true
  us : ∀ b ∈ l, 0 ≤ b.f0 ∧ b.f0 < 4
  mails : ∀ u : Nat, u < 4 → mailsL l (u : Int) = ws u
  born : ∀ u, u < 4 → (ws u).Pairwise (fun a b => a.f2 ≤ b.f2)
  lo : ∀ u, u < 4 → ∀ m ∈ ws u, 0 ≤ m.f2 ∧ m.f1.size ≤ 50
  bnd : 0 ≤ now ∧ now ≤ 50 * (i : Int) ∧ 0 ≤ next ∧ next ≤ (i : Int)
section
variable {i : Nat} {l : List S57} {now next : Int} {ws : Nat → List S54}
theorem Rel.len (h : Rel i l now next ws) : l.length ≤ 4 := by
  have := few_users l 0 (by omega) (ord_of h.rel).1 h.us
  omega
theorem Rel.nat (h : Rel i l now next ws) {b : S57} (hb : b ∈ l) : ∃ u : Nat, u < 4 ∧ b.f0 = (u : Int) ∧ b.f1 = ws u := by
  have h1 := h.us b hb
  have h2 := h.mails b.f0.toNat (by omega)
  rw [Int.toNat_of_nonneg h1.1, mails_of_mem (ord_of h.rel) hb] at h2
  exact ⟨b.f0.toNat, by omega, (Int.toNat_of_nonneg h1.1).symm, h2⟩
theorem Rel.ok (h : Rel i l now next ws) {u : Nat} (hu : u < 4) : MailsOk now next (ws u) := by
  rw [← h.mails u hu]
  rcases find_mem57 (l := l) (u := (u : Int)) with e | ⟨b, hb, _, e⟩
  · rw [e]; exact ⟨by simp, by simp, List.Pairwise.nil, List.Pairwise.nil⟩
  · rw [e]; exact box_ok ((row_iff.1 (rel_row h.rel)).1 b hb)
theorem Rel.wf (h : Rel i l now next ws) : wfB l := fun b hb => by
  obtain ⟨u, hu, _, e⟩ := h.nat hb
  rw [e]
  have := (h.ok hu).len
  exact ⟨by omega, fun m hm => Nat.le_trans (h.lo u hu m hm).2 (by decide), fun m hm => (h.lo u hu m hm).1⟩
theorem Rel.start : Rel 0 [] 0 0 (fun _ => []) := ⟨rfl, by simp, fun _ _ => rfl, fun _ _ => List.Pairwise.nil, by simp, by simp⟩
theorem Rel.more (h : Rel i l now next ws) : Rel (i + 1) l now next ws := ⟨h.rel, h.us, h.mails, h.born, h.lo, by have := h.bnd; omega⟩
theorem Rel.why (h : Rel i l now next ws) (hi : i ≤ 1000) {u : Nat} (hu : u < 4) {s : ByteArray} (hs : s.size ≤ 50) :
    whyL l now next (u : Int) s = if hasB (ws u) s = true then 7 else if (ws u).length = 16 then 6 else 0 := by
  have h1 := h.len
  have h2 := h.bnd
  unfold whyL
  rw [if_pos h.rel, if_neg (by omega), h.mails u hu]
  by_cases h3 : hasB (ws u) s = true
  · rw [if_pos h3, if_pos h3]
  · rw [if_neg h3, if_neg h3]
    by_cases h4 : (ws u).length = 16
    · rw [if_pos (.inl h4), if_pos h4]
    · rw [if_neg (by rintro (e | ⟨_, e⟩); exact h4 e; omega), if_neg h4, if_neg (by omega)]
theorem Rel.push (h : Rel i l now next ws) {u : Nat} (hu : u < 4) {s : ByteArray} (hs : s.size ≤ 50) (hw : whyL l now next (u : Int) s = 0) :
    Rel (i + 1) (pushL l now next (u : Int) s) now (next + 1) (upd ws u (ws u ++ [{ f0 := next, f1 := s, f2 := now }])) := by
  have hord := ord_of h.rel
  have hb := h.bnd
  refine ⟨(push_rel hw).2.2.1, fun b hb => ?_, fun v hv => ?_, fun v hv => ?_, fun v hv m hm => ?_, by omega⟩
  · rcases mem_with hb with e | e
    · exact h.us b e
    · rw [e]; show 0 ≤ (u : Int) ∧ (u : Int) < 4; omega
  · unfold pushL
    by_cases e : v = u
    · subst e
      rw [mails_with_same hord (by simp), upd_same, h.mails v hv]
    · rw [mails_with_other _ hord (by omega), upd_ne _ _ e, h.mails v hv]
  · by_cases e : v = u
    · subst e
      rw [upd_same]
      refine List.pairwise_append.2 ⟨h.born v hv, by simp, fun a ha b hb => ?_⟩
      rw [List.mem_singleton.1 hb]
      exact ((h.ok hv).each a ha).2.2.1
    · rw [upd_ne _ _ e]; exact h.born v hv
  · by_cases e : v = u
    · subst e
      rw [upd_same] at hm
      rcases List.mem_append.1 hm with hm | hm
      · exact h.lo v hv m hm
      · rw [List.mem_singleton.1 hm]; exact ⟨hb.1, hs⟩
    · rw [upd_ne _ _ e] at hm; exact h.lo v hv m hm
theorem Rel.first (h : Rel i l now next ws) {u : Nat} (hu : u < 4) {m : S54} {r : List S54} (hw : ws u = m :: r) : ((ws u).filter fun x => !(x.f0 == m.f0)) = r := by
  have h1 := (h.ok hu).ids
  rw [hw, List.pairwise_cons] at h1
  rw [hw, List.filter_cons, if_neg (by simp)]
  exact List.filter_eq_self.2 (fun x hx => by have := h1.1 x hx; simp; omega)
theorem Rel.ack (h : Rel i l now next ws) {u : Nat} (hu : u < 4) {m : S54} {r : List S54} (hw : ws u = m :: r) :
    anyL (ackB (u : Int) m.f0) l = true ∧ Rel (i + 1) (withoutL (ackB (u : Int) m.f0) l) now next (upd ws u r) := by
  have hord := ord_of h.rel
  have hb := h.bnd
  refine ⟨by rw [any_ack _ _ hord, h.mails u hu, hw]; simp, without_rel h.rel (rel_now h.rel) (fun b hb m' hm' _ => ?_), fun b hb => ?_, fun v hv => ?_, fun v hv => ?_, fun v hv m' hm' => ?_, by omega⟩
  · have := (box_ok ((row_iff.1 (rel_row h.rel)).1 b hb)).each m' hm'
    exact this.2.2
  · obtain ⟨c, hc, e⟩ := mem_without hb
    rw [← e]; exact h.us c hc
  · by_cases e : v = u
    · subst e
      rw [upd_same, mails_without (q := fun x => x.f0 == m.f0) (fun b hb x => by unfold ackB; rw [hb]; simp) hord, h.mails v hv]
      exact h.first hv hw
    · rw [upd_ne _ _ e, mails_without (q := fun _ => false) (fun b hb x => by unfold ackB; rw [hb, show ((v : Int) == (u : Int)) = false from beq_eq_false_iff_ne.2 (by omega)]; rfl) hord, h.mails v hv]
      exact List.filter_eq_self.2 (fun _ _ => rfl)
  · by_cases e : v = u
    · subst e
      rw [upd_same]
      have := h.born v hv
      rw [hw, List.pairwise_cons] at this
      exact this.2
    · rw [upd_ne _ _ e]; exact h.born v hv
  · by_cases e : v = u
    · subst e
      rw [upd_same] at hm'
      exact h.lo v hv m' (by rw [hw]; exact List.mem_cons_of_mem _ hm')
    · rw [upd_ne _ _ e] at hm'; exact h.lo v hv m' hm'
theorem old_is {now : Int} {m : S54} (h0 : 0 ≤ m.f2) (h1 : m.f2 ≤ now) (h2 : now ≤ 1000000) : oldB now m = decide (50 < now - m.f2) := by
  unfold oldB
  rw [u64_sub h0 h1 (by omega)]
/-- What is too old lies ahead. -/
theorem drop_old {now : Int} : ∀ {l : List S54}, l.Pairwise (fun a b => a.f2 ≤ b.f2) → (∀ m ∈ l, 0 ≤ m.f2 ∧ m.f2 ≤ now) → now ≤ 1000000 → (l.filter fun m => !oldB now m) = l.dropWhile (oldB now) := by
  intro l
  induction l with
  | nil => intro _ _ _; rfl
  | cons a l ih =>
    intro hp hr hn
    rw [List.pairwise_cons] at hp
    have ha := hr a (by simp)
    rw [List.filter_cons, List.dropWhile_cons]
    cases ho : oldB now a with
    | true =>
      rw [if_neg (by simp), if_pos rfl]
      exact ih hp.2 (fun m hm => hr m (by simp [hm])) hn
    | false =>
      rw [if_pos (by rfl), if_neg (by simp)]
      congr 1
      refine List.filter_eq_self.2 (fun m hm => ?_)
      rw [old_is ha.1 ha.2 hn] at ho
      have hm' := hr m (by simp [hm])
      have h3 := hp.1 m hm
      rw [old_is hm'.1 hm'.2 hn, decide_eq_false (by have := of_decide_eq_false ho; omega)]
      rfl
theorem Rel.tick (h : Rel i l now next ws) (hi : i ≤ 1000) {t : Int} (h0 : 0 ≤ t) (h1 : t ≤ 50) :
    Rel (i + 1) (withoutL (fun _ m => oldB (now + t) m) l) (now + t) next (fun u => (ws u).dropWhile (oldB (now + t))) := by
  have hord := ord_of h.rel
  have hb := h.bnd
  have hlo : ∀ u, u < 4 → ∀ m ∈ ws u, 0 ≤ m.f2 ∧ m.f2 ≤ now + t := fun u hu m hm => by
    have h2 := h.lo u hu m hm
    have h3 := ((h.ok hu).each m hm).2.2.1
    omega
  refine ⟨without_rel h.rel (by omega) (fun b hb m hm ho => ?_), fun b hb => ?_, fun v hv => ?_, fun v hv => ?_, fun v hv m hm => ?_, by omega⟩
  · obtain ⟨u, hu, _, e⟩ := h.nat hb
    rw [e] at hm
    have h2 := hlo u hu m hm
    rw [old_is h2.1 h2.2 (by omega)] at ho
    have := of_decide_eq_false ho
    omega
  · obtain ⟨c, hc, e⟩ := mem_without hb
    rw [← e]; exact h.us c hc
  · rw [mails_without (q := oldB (now + t)) (fun _ _ _ => rfl) hord, h.mails v hv]
    exact drop_old (h.born v hv) (hlo v hv) (by omega)
  · exact (h.born v hv).sublist (List.dropWhile_sublist _)
  · exact h.lo v hv m ((List.dropWhile_sublist _).subset hm)
end

/-- The blocks that the round may write. -/
def Own (gm g3 : Nat) (vr : Nat → Value) (k : Nat) : Prop := k = gm ∨ k = g3 ∨ ∃ u, u < 4 ∧ (vr u).ownBlock = some k
structure Keeps (S : Nat → Prop) (W0 W : World) : Prop where
  size : W0.heap.size ≤ W.heap.size
  block : ∀ k, k < W0.heap.size → ¬ S k → W.heap[k]? = W0.heap[k]?
section
variable {S S' : Nat → Prop} {W0 W W' : World}
theorem Keeps.refl : Keeps S W W := ⟨Nat.le_refl _, fun _ _ _ => rfl⟩
theorem Keeps.on (h : Keeps S W0 W) (hb : Below W.heap.size W W') : Keeps S W0 W' := ⟨Nat.le_trans h.size hb.size, fun k hk hs => (hb.block k (Nat.lt_of_lt_of_le hk h.size)).trans (h.block k hk hs)⟩
theorem Keeps.grown {row : Option Nat} (h : Keeps S W0 W) (hg : W.grownBy W' row) (hr : ∀ k, row = some k → S k ∨ W0.heap.size ≤ k) : Keeps S W0 W' :=
  ⟨Nat.le_trans h.size hg.size, fun k hk hs => (hg.block k (Nat.lt_of_lt_of_le hk h.size) (fun e => by
    rcases hr k e.symm with e | e
    · exact hs e
    · omega)).trans (h.block k hk hs)⟩
theorem Keeps.sees (h : Keeps S W0 W) (hS : ∀ k, S' k → S k ∨ W0.heap.size ≤ k) : Sees (bs S W0) (bs S' W) := bs_step h.block hS
end
theorem own_upd {gm g3 : Nat} {vr : Nat → Value} {u : Nat} {v : Value} {n : Nat} (hu : u < 4) (h : v.ownBlock = (vr u).ownBlock ∨ v.ownBlock = none ∨ ∃ k, v.ownBlock = some k ∧ n ≤ k) : ∀ k, Own gm g3 (upd vr u v) k → Own gm g3 vr k ∨ n ≤ k := by
  intro k hk
  rcases hk with e | e | ⟨x, hx, e⟩
  · exact .inl (.inl e)
  · exact .inl (.inr (.inl e))
  · by_cases hxu : x = u
    · subst hxu
      rw [upd_same] at e
      rcases h with h | h | ⟨k', h, hk'⟩
      · exact .inl (.inr (.inr ⟨x, hx, by rw [← h]; exact e⟩))
      · rw [h] at e; cases e
      · rw [h] at e
        injection e with e
        exact .inr (by omega)
    · rw [upd_ne _ _ hxu] at e
      exact .inl (.inr (.inr ⟨x, hx, e⟩))
/-- The state between two acts. -/
structure St (wb : World) (gm g3 i : Nat) (W : World) (A : Option Addr) (c : Nat) (l : List S57) (now next : Int) (vs : Nat → Value) (ws : Nat → List S54) : Prop where
  box : W.heap[g3]? = some (.cells #[.slice A l.length c, .int .u64 now, .int .u64 next] 25 (0, 0))
  cap : l.length ≤ c
  C : k57.C (bs (Own gm g3 vs) W) A l.length l
  hold : ∃ n, n ≤ 200 * i ∧ Hold gm gm n W vs vs ws
  rel : Rel i l now next ws
  below : Below wb.heap.size wb W
  g3b : wb.heap.size ≤ g3
  gmb : wb.heap.size ≤ gm
section
variable {wb W W' : World} {gm g3 i c : Nat} {A : Option Addr} {l : List S57} {now next : Int} {vs : Nat → Value} {ws : Nat → List S54}
theorem hold_own {base n : Nat} {vr : Nat → Value} {o : Obj} (h : Hold base gm n W vs vr ws) (h3 : W.heap[g3]? = some o) : ∀ k, Own gm g3 vr k → k < W.heap.size := by
  intro k hk
  rcases hk with e | e | ⟨u, hu, e⟩
  · rw [e]; exact h.gm_lt
  · rw [e]; exact blk_lt h3
  · exact ((h.row u hu).lt k e).2
theorem St.own_lt (h : St wb gm g3 i W A c l now next vs ws) : ∀ k, Own gm g3 vs k → k < W.heap.size := by
  obtain ⟨n, _, hH⟩ := h.hold
  exact hold_own hH h.box
theorem St.on (h : St wb gm g3 i W A c l now next vs ws) (hb : Below W.heap.size W W') : St wb gm g3 i W' A c l now next vs ws := by
  obtain ⟨n, hn, hH⟩ := h.hold
  exact ⟨(hb.block _ (blk_lt h.box)).trans h.box, h.cap, sees_B57 ((Keeps.refl (S := Own gm g3 vs)).on hb |>.sees (fun k hk => .inl hk)) h.C, ⟨n, hn, hH.on hb⟩, h.rel, below_step h.below hb, h.g3b, h.gmb⟩
theorem St.lookup (h : St wb gm g3 i W A c l now next vs ws) {u : Nat} (hu : u < 4) : (Instr.lookup 50 (.map (some gm)) (.int .u64 (u : Int)) false).run Try.prog W = .ok (vs u) W := by
  obtain ⟨n, hn, hH⟩ := h.hold
  exact hH.lookup hu
theorem St.row (h : St wb gm g3 i W A c l now next vs ws) {u : Nat} (hu : u < 4) : rowAt W gm (vs u) (ws u) := by
  obtain ⟨n, hn, hH⟩ := h.hold
  exact hH.row u hu
theorem St.more (h : St wb gm g3 i W A c l now next vs ws) : St wb gm g3 (i + 1) W A c l now next vs ws := by
  obtain ⟨n, hn, hH⟩ := h.hold
  exact ⟨h.box, h.cap, h.C, ⟨n, by omega, hH⟩, h.rel.more, h.below, h.g3b, h.gmb⟩
theorem St.start (w : World) : St w (w.heap.size + 1) w.heap.size 0 ((w.alloc (.cells #[.slice none 0 0, .int .u64 0, .int .u64 0] 25)).alloc (.map #[] 0)) none 0 [] 0 0 (fun _ => .slice none 0 0) (fun _ => []) := by
  have hm := Hold.made (w.alloc (.cells #[.slice none 0 0, .int .u64 0, .int .u64 0] 25))
  have hs : (w.alloc (.cells #[.slice none 0 0, .int .u64 0, .int .u64 0] 25)).heap.size = w.heap.size + 1 := by simp
  rw [hs] at hm
  have hb := below_alloc (below_alloc (Below.refl w.heap.size w) (.cells #[.slice none 0 0, .int .u64 0, .int .u64 0] 25)) (.map #[] 0)
  refine ⟨?_, Nat.le_refl _, Kd.C_nil _ _, ⟨0, Nat.le_refl _, hm⟩, Rel.start, hb, Nat.le_refl _, by omega⟩
  rw [(below_alloc (Below.refl (w.alloc (.cells #[.slice none 0 0, .int .u64 0, .int .u64 0] 25)).heap.size (w.alloc (.cells #[.slice none 0 0, .int .u64 0, .int .u64 0] 25))) (.map #[] 0)).block _ (by rw [hs]; omega)]
  exact heap_alloc_new w _
end
/-- A text's equal is met among the first ones. -/
def hasI (l : List S54) (s : ByteArray) (n : Nat) : Bool := (List.range n).any fun i => (rd_T54 l (i : Int)).f1.toList == s.toList
theorem hasI_succ (l : List S54) (s : ByteArray) (n : Nat) : hasI l s (n + 1) = (hasI l s n || ((rd_T54 l (n : Int)).f1.toList == s.toList)) := by
  unfold hasI
  rw [List.range_succ, List.any_append]
  simp

section
variable {wb W W1 W' : World} {gm g3 i c n u : Nat} {A : Option Addr} {l : List S57} {now next : Int} {vs vr : Nat → Value} {ws : Nat → List S54}
theorem St.turn (h : St wb gm g3 i W A c l now next vs ws) {A' : Option Addr} {c' : Nat} {l' : List S57} {now' next' : Int} {ws' : Nat → List S54} {v : Value} (hu : u < 4) (hk : Keeps (Own gm g3 vs) W W1) (hb : Below wb.heap.size wb W1)
    (hbox : W1.heap[g3]? = some (.cells #[.slice A' l'.length c', .int .u64 now', .int .u64 next'] 25 (0, 0))) (hc : l'.length ≤ c') (hC : k57.C (bs (Own gm g3 vs) W) A' l'.length l') (hH : Hold gm gm n W1 (upd vs u v) (upd vs u v) ws') (hn : n ≤ 200 * (i + 1))
    (hv : v.ownBlock = (vs u).ownBlock ∨ v.ownBlock = none ∨ ∃ k, v.ownBlock = some k ∧ W.heap.size ≤ k) (hR : Rel (i + 1) l' now' next' ws') : St wb gm g3 (i + 1) W1 A' c' l' now' next' (upd vs u v) ws' :=
  ⟨hbox, hc, sees_B57 (hk.sees (own_upd hu hv)) hC, ⟨n, hn, hH⟩, hR, hb, h.g3b, h.gmb⟩
theorem Hold.ne_box {base g t : Nat} {cur : Array Value} (h : Hold base gm n W vs vr ws) (hK : W.heap[g]? = some (.cells cur t (0, 0))) (ht : t ≠ 54) (hu : u < 4) : some g ≠ (vr u).ownBlock := by
  rcases h.row u hu with ⟨e, _⟩ | ⟨g', o, cap, cur', e, _, hg', _⟩
  · rw [e]; simp [Value.ownBlock]
  · rw [e]
    intro h2
    have h2 : g = g' := by simpa [Value.ownBlock] using h2
    subst h2
    rw [hK] at hg'
    injection hg' with hg'
    injection hg' with _ hg'
    exact ht hg'
theorem Hold.own_base {base : Nat} (h : Hold base gm n W vs vr ws) (hu : u < 4) : ∀ k, (vr u).ownBlock = some k → base ≤ k := fun k hk => ((h.row u hu).lt k hk).1
theorem upd_upd {α : Type} (f : Nat → α) (x y : α) : upd (upd f u x) u y = upd f u y := by
  funext k
  unfold upd
  split <;> rfl
end

/-- The state while the rows are cut, the relay being later already. -/
structure Ts (wb : World) (gm g3 n : Nat) (W : World) (A : Option Addr) (c : Nat) (l : List S57) (now next : Int) (vs : Nat → Value) (ws : Nat → List S54) : Prop where
  box : W.heap[g3]? = some (.cells #[.slice A l.length c, .int .u64 now, .int .u64 next] 25 (0, 0))
  C : k57.C (bs (Own gm g3 vs) W) A l.length l
  hold : Hold gm gm n W vs vs ws
  below : Below wb.heap.size wb W
section
variable {wb W W' : World} {gm g3 n c u : Nat} {A : Option Addr} {l : List S57} {now next : Int} {vs : Nat → Value} {ws : Nat → List S54}
theorem Ts.on (h : Ts wb gm g3 n W A c l now next vs ws) (hb : Below W.heap.size W W') : Ts wb gm g3 n W' A c l now next vs ws :=
  ⟨(hb.block _ (blk_lt h.box)).trans h.box, sees_B57 ((Keeps.refl (S := Own gm g3 vs)).on hb |>.sees (fun k hk => .inl hk)) h.C, h.hold.on hb, below_step h.below hb⟩
/-- The user's first one is cut off, and the rest stored. -/
theorem Ts.cut (h : Ts wb gm g3 n W A c l now next vs ws) (hu : u < 4) (hn : n < maxLen) (hb : wb.heap.size ≤ gm) {m : S54} {r : List S54} (hw : ws u = m :: r) :
    ∃ A5 c5, (∀ W1, (Instr.slice 39 (vs u) (some (.int .i64 1)) none none).run Try.prog W1 = .ok (.slice A5 r.length c5) W1) ∧
      ∃ W2, (Instr.mapUpdate 50 (.map (some gm)) (.int .u64 (u : Int)) (.slice A5 r.length c5)).run Try.prog W = .ok () W2 ∧ Ts wb gm g3 (n + 1) W2 A c l now next (upd vs u (.slice A5 r.length c5)) (upd ws u r) := by
  obtain ⟨A5, c5, h1, h2, h3⟩ := h.hold.cut hu hw
  obtain ⟨⟨W2, h4, h5, h6⟩, -⟩ := h2.stored hu hn
  rw [upd_same] at h4 h5
  have hne : some g3 ≠ some gm := fun e => by
    injection e with e
    obtain ⟨es, clock, hb⟩ := h.hold.blk
    have := h.box
    rw [e, hb] at this
    cases this
  have hk : Keeps (Own gm g3 vs) W W2 := Keeps.refl.grown h6 (fun k hk => by injection hk with hk; exact .inl (.inl hk.symm))
  exact ⟨A5, c5, h1, W2, h4, (h6.block _ (blk_lt h.box) hne).trans h.box, sees_B57 (hk.sees (own_upd hu (.inl h3))) h.C, h5, h.below.grown h6 h.below.size (fun k hk => by injection hk with hk; omega)⟩
end
/-- What is left when the first ones that are too old are dropped, while that is under way. -/
def CutR (p : S54 → Bool) (l0 l : List S54) : Prop := l.dropWhile p = l0.dropWhile p ∧ l.length ≤ l0.length ∧ l.Sublist l0
theorem CutR.start (p : S54 → Bool) (l : List S54) : CutR p l l := ⟨rfl, Nat.le_refl _, List.Sublist.refl _⟩
theorem CutR.step {p : S54 → Bool} {l0 r : List S54} {m : S54} (h : CutR p l0 (m :: r)) (hm : p m = true) : CutR p l0 r := by
  obtain ⟨h1, h2, h3⟩ := h
  rw [List.dropWhile_cons, if_pos hm] at h1
  rw [List.length_cons] at h2
  exact ⟨h1, by omega, (List.sublist_cons_self _ _).trans h3⟩
theorem CutR.done {p : S54 → Bool} {l0 l : List S54} (h : CutR p l0 l) (hl : ∀ m r, l = m :: r → p m = false) : l = l0.dropWhile p := by
  rw [← h.1]
  cases l with
  | nil => rfl
  | cons m r => rw [List.dropWhile_cons, hl m r rfl]; rfl

theorem add0 (a : Addr) : a.add 0 = a := by unfold Addr.add; split <;> simp_all
theorem add3 (a : Addr) : a.add 3 = ⟨a.block, a.off + 3, none⟩ := by first | rfl | (unfold Addr.add; simp)
theorem cut_is {ad : Addr} {c2 n c5 : Nat} {A5 : Option Addr} (hc : n + 1 ≤ c2) (h : ∀ W1, (Instr.slice 39 (.slice (some ad) (n + 1) c2) (some (.int .i64 1)) none none).run Try.prog W1 = .ok (.slice A5 n c5) W1) (W : World) :
    A5 = (if c2 = 1 then some ad else some (ad.add 3)) ∧ c5 = c2 - 1 := by
  obtain ⟨i0, hi, hz0, hz1, hz2⟩ := info_parts info54
  have h1 := h W
  have hle : (1 : Int) ≤ ((n : Int) + 1) := by omega
  simp [Instr.slice, Instr.sliceBounds, Instr.sliceBound, asIntOf, run_underlying Try.underlying39, sizeOf, typeInfo, hi, hz1, hle] at h1
  exact ⟨h1.1.symm, h1.2.symm⟩
end Go.Proofs.Ytbmfcikjhnnnbaa.Q
