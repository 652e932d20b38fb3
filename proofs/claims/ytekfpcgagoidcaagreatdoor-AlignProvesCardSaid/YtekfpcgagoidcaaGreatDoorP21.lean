/- Alignments in plain words: well-formed scores, a score and itself, a score without a bar.  Alignments in plain words: notes that belong together, in the order of their score. No statement is proved here. -/
import Derived.Test.YtekfpcgagoidcaaGreatDoorP20
set_option linter.unusedVariables false
set_option linter.unusedSimpArgs false
namespace Go.Proofs.YtekfpcgagoidcaaGreatDoor.Al
open Go.Ab Go.Sort
theorem ok_parts {s : Score} (h : scoreOk s = true) : inB s.version 1 1000000 = true ∧ barsOk s.bars = true ∧ partsOk s.parts = true ∧ notesOk s.bars s.notes = true ∧ wrongR s.parts s.notes = 0 := by
  unfold scoreOk scoreBad at h
  simp only [Bool.and_eq_true, Bool.not_eq_true', Bool.or_eq_false_iff, Bool.not_eq_false', bne_eq_false_iff_eq] at h
  exact ⟨h.1.1.1.1.1, h.1.1.1.1.2, h.1.1.1.2, h.1.1.2, h.1.2⟩
theorem ok_ord {s : Score} (h : scoreOk s = true) : s.notes.Pairwise fun a b => bef (idxAL s.bars) a b = true := by
  rw [scoreOk_eq] at h
  unfold scoreX at h
  simp only [Bool.and_eq_true] at h
  exact steps_ord.1 h.2
theorem ticks_rat {r : Rat} (h : (ticksR r).2 = true) : ratOk r = true := by
  unfold ticksR at h
  split at h
  · rename_i h1; exact (durOk_iff.1 h1).1
  · cases h
theorem formed_bIn {b : Bar} {n : Note} (h : nformed b n = true) : bIn n := by
  unfold nformed fits noteForm noteP pitchOk inB at h
  simp only [Bool.and_eq_true, dEt] at h
  have r1 := ratOk_iff.1 (ticks_rat h.1.1.1.1)
  have r2 := ratOk_iff.1 (ticks_rat h.1.1.1.2)
  intro x hx
  simp only [keyB, List.mem_cons, List.not_mem_nil, or_false] at hx
  rcases hx with rfl | rfl | rfl | rfl | rfl | rfl | rfl | rfl | rfl | rfl <;> omega
theorem note_bar {bars : List Bar} {n : Note} (h : noteOk bars n = true) : ∃ j : Nat, j < bars.length ∧ (bars.getD j default).id = n.bar ∧ nformed (bars.getD j default) n = true := by
  unfold noteOk at h
  split at h
  · rename_i i hi
    obtain ⟨j, rfl, h2, h3⟩ := lk_idx bars n.bar _ _ hi
    exact ⟨j, h2, h3, h⟩
  · cases h
theorem ok_sc {s : Score} (h : scoreOk s = true) : Sc s := by
  obtain ⟨_, h2, _, h4, _⟩ := ok_parts h
  exact ⟨notesOk_nodup h4, barsOk_nodup h2⟩
theorem ok_nts {s : Score} (h : scoreOk s = true) : Nts s := by
  obtain ⟨_, h2, _, h4, _⟩ := ok_parts h
  obtain ⟨_, h5, h6⟩ := notesOk_all h4
  refine ⟨by omega, ?_, fun n hn => ?_⟩
  · unfold barsOk at h2
    simp only [Bool.and_eq_true, dEt] at h2
    omega
  · obtain ⟨j, _, _, h7⟩ := note_bar (h6 n hn)
    exact formed_bIn h7
theorem ok_bar {s : Score} (h : scoreOk s = true) {n : Note} (hn : n ∈ s.notes) : ∃ j : Nat, j < s.bars.length ∧ n.bar = (barI s j).id := by
  obtain ⟨_, _, _, h4, _⟩ := ok_parts h
  obtain ⟨_, _, h6⟩ := notesOk_all h4
  obtain ⟨j, h7, h8, _⟩ := note_bar (h6 n hn)
  exact ⟨j, h7, h8.symm⟩
theorem idx_at {bars : List Bar} (hn : (bars.map (·.id)).Nodup) {j : Nat} (hj : j < bars.length) : lk (idxAL bars) (bars.getD j default).id = some (j : Int) := by
  rw [idxAL_eq]
  cases h : lk (idxALk bars bars.length) (bars.getD j default).id with
  | none => exact absurd rfl (lk_idx_none bars _ _ h j hj)
  | some i =>
    obtain ⟨i, rfl, h2, h3⟩ := lk_idx bars _ _ _ h
    rw [nodup_at (fun b : Bar => b.id) hn h2 hj h3]
theorem T_congr {c d : Nat → Nat → Int} : ∀ i k : Nat, (∀ x y, x < i → y < k → c x y = d x y) → T c i k = T d i k
  | 0, k, _ => by rw [T_zero, T_zero]
  | i + 1, 0, _ => by rw [T_left, T_left]
  | i + 1, k + 1, h => by
    rw [T_succ, T_succ, T_congr i (k + 1) fun x y hx hy => h x y (by omega) hy, T_congr (i + 1) k fun x y hx hy => h x y hx (by omega), T_congr i k fun x y hx hy => h x y (by omega) (by omega), h i k (by omega) (by omega)]
termination_by i k => (i, k)
theorem back_congr {c d : Nat → Nat → Int} : ∀ i k : Nat, (∀ x y, x < i → y < k → c x y = d x y) → back c i k = back d i k
  | 0, 0, _ => by rw [back, back]
  | 0, k + 1, h => by rw [back, back]; exact back_congr 0 k fun x y hx hy => h x y hx (by omega)
  | i + 1, 0, h => by rw [back, back]; exact back_congr i 0 fun x y hx hy => h x y (by omega) hy
  | i + 1, k + 1, h => by
    rw [back, back, T_congr (i + 1) (k + 1) h, T_congr i (k + 1) fun x y hx hy => h x y (by omega) hy, T_congr i k fun x y hx hy => h x y (by omega) (by omega), h i k (by omega) (by omega), back_congr i (k + 1) fun x y hx hy => h x y (by omega) hy, back_congr (i + 1) k fun x y hx hy => h x y hx (by omega), back_congr i k fun x y hx hy => h x y (by omega) (by omega)]
termination_by i k => (i, k)
theorem filterMap_own {α β : Type} {f : α → Option β} {q : α → Bool} {g : α → β} : ∀ {l : List α}, (∀ n ∈ l, f n = if q n = true then some (g n) else none) → l.filterMap f = (l.filter q).map g
  | [], _ => rfl
  | x :: l, h => by
    have ih := filterMap_own (l := l) fun n hn => h n (List.mem_cons_of_mem _ hn)
    have hx := h x (List.mem_cons_self ..)
    cases hq : q x with
    | true => rw [hq, if_pos rfl] at hx; rw [List.filterMap_cons, hx, List.filter_cons_of_pos hq, List.map_cons, ih]
    | false => rw [hq, if_neg (by decide)] at hx; rw [List.filterMap_cons, hx, List.filter_cons_of_neg (by rw [hq]; decide), ih]
theorem notes_own {a b : Score} (ha : Sc a) (hb : Sc b) {l : List (Nat × Nat)} (hp : Pairs a b l) (q : Note → Bool) (hq : b.notes = a.notes.filter q) (h1 : ∀ n ∈ a.notes, q n = true → ∃ p ∈ l, n.bar = (barI a p.1).id ∧ n.bar = (barI b p.2).id) (h2 : ∀ n ∈ a.notes, q n = false → ∀ p ∈ l, n.bar ≠ (barI a p.1).id) :
    notesM a b l = b.notes.map fun n => (n.id, n.id) := by
  have hm := pairsM_spec ha hb hp
  unfold notesM outM
  rw [hq]
  refine filterMap_own fun n hn => ?_
  cases hqn : q n with
  | true =>
    obtain ⟨p, hpl, e1, e2⟩ := h1 n hn hqn
    have hnb : n ∈ b.notes := by rw [hq]; exact List.mem_filter.2 ⟨hn, hqn⟩
    have := hm.one p hpl n (inBar_mem.2 ⟨hn, e1⟩) n (inBar_mem.2 ⟨hnb, e2⟩) (by simp [f1])
    rw [lk_of_mem hm.fst this]; rfl
  | false =>
    cases hl : lk (pairsM a b l []) n.id with
    | none => rfl
    | some v =>
      obtain ⟨x, hx, y, hy, e, _, r, hr, e3, _⟩ := hm.of _ (lk_mem hl)
      simp only [Prod.mk.injEq] at e
      have := inj_of_nodup ha.notes hn hx e.1
      subst this
      exact absurd e3 (h2 n hn hqn r hr)
theorem same_align {a : Score} : T (costR a a) a.bars.length a.bars.length = 0 ∧ alignR (costR a a) a.bars.length a.bars.length = (List.range a.bars.length).map (fun j : Nat => ((j : Int), (j : Int))) := by
  have hc : ∀ i k, 0 ≤ costR a a i k := fun i k => (costR_in a a i k).1
  refine ⟨T_diag hc (costR_self a) _, ?_⟩
  unfold alignR ip
  rw [back_diag hc (costR_self a), ← List.map_reverse, List.reverse_reverse, List.map_map]; rfl
theorem np_map {n : Nat} (f g : Nat → Nat) : np ((List.range n).map (fun j : Nat => ((f j : Int), (g j : Int)))) = (List.range n).map (fun j : Nat => (f j, g j)) := by
  unfold np; rw [List.map_map]; rfl
theorem same_notes {a : Score} (h : scoreOk a = true) : notesM a a (np (alignR (costR a a) a.bars.length a.bars.length)) = a.notes.map fun n => (n.id, n.id) := by
  rw [same_align.2, np_map (fun j => j) (fun j => j)]
  have hs := ok_sc h
  refine notes_own hs hs ⟨?_, fun p hp => ?_⟩ (fun _ => true) (List.filter_eq_self.2 fun _ _ => rfl).symm (fun n hn _ => ?_) (fun n hn hq => by cases hq)
  · rw [List.pairwise_map]
    exact List.pairwise_lt_range.imp fun h => ⟨h, h⟩
  · obtain ⟨j, hj, rfl⟩ := List.mem_map.1 hp
    have := List.mem_range.1 hj
    exact ⟨this, this⟩
  · obtain ⟨j, hj, e⟩ := ok_bar h hn
    exact ⟨(j, j), List.mem_map.2 ⟨j, List.mem_range.2 hj, rfl⟩, e, e⟩
def cutB (a : Score) (k : Nat) : Score := ⟨a.version, a.bars.take k ++ a.bars.drop (k + 1), a.parts, a.notes.filter fun n => n.bar != (barI a k).id⟩
theorem cut_at {α : Type} (l : List α) (k j : Nat) (d : α) : (l.take k ++ l.drop (k + 1)).getD j d = l.getD (skip k j) d := by
  rw [← List.eraseIdx_eq_take_drop_succ, List.getD_eq_getElem?_getD, List.getD_eq_getElem?_getD, List.getElem?_eraseIdx]
  unfold skip; split <;> rfl
theorem cut_len {α : Type} {l : List α} {k : Nat} (h : k < l.length) : (l.take k ++ l.drop (k + 1)).length + 1 = l.length := by
  rw [List.length_append, List.length_take, List.length_drop]; omega
theorem cut_bar (a : Score) (k j : Nat) : barI (cutB a k) j = barI a (skip k j) := cut_at a.bars k j default
theorem skip_ne (k j : Nat) : skip k j ≠ k := by unfold skip; split <;> omega
theorem skip_lt {n k j : Nat} (h : j + 1 < n) : skip k j < n := by unfold skip; split <;> omega
theorem skip_of {n k i : Nat} (h : i ≠ k) (hi : i < n) (hk : k < n) : ∃ j, j + 1 < n ∧ skip k j = i := by
  rcases Nat.lt_or_ge i k with g | g
  · exact ⟨i, by omega, by unfold skip; rw [if_pos g]⟩
  · exact ⟨i - 1, by omega, by unfold skip; rw [if_neg (by omega)]; omega⟩
theorem skip_sign (k x y : Nat) : (((skip k x : Nat) : Int) - (skip k y : Nat) = 0 ↔ (x : Int) - y = 0) ∧ (((skip k x : Nat) : Int) - (skip k y : Nat) < 0 ↔ (x : Int) - y < 0) := by
  unfold skip; constructor <;> (split <;> split <;> omega)
theorem findI_exA {α : Type} [Inhabited α] {p : α → Bool} {l : List α} : findI p l ≥ 0 ↔ ∃ x ∈ l, p x = true := by
  constructor
  · intro h
    obtain ⟨k, _, h2, h3, _⟩ := findI_lt h
    exact ⟨_, by rw [getD_lt h2]; exact List.getElem_mem h2, h3⟩
  · rintro ⟨x, hx, hp⟩
    rcases (show findI p l ≥ 0 ∨ findI p l < 0 by omega) with h | h
    · exact h
    · exfalso
      have h2 := findI_neg.1 h
      unfold findI at h2
      split at h2
      · omega
      · rename_i h3
        rw [List.findIdx?_eq_none_iff] at h3
        rw [h3 x hx] at hp; cases hp
theorem wrong_sub {parts : List Part} {l m : List Note} (h : wrongR parts l = 0) (hs : ∀ x ∈ m, x ∈ l) : wrongR parts m = 0 := by
  have e : ∀ p : Note → Bool, findI p m ≥ 0 → findI p l ≥ 0 := fun p hp => by
    rw [findI_exA] at hp ⊢
    obtain ⟨x, hx, hy⟩ := hp
    exact ⟨x, hs x hx, hy⟩
  unfold wrongR at h ⊢
  split at h
  · cases h
  · rename_i h1
    split at h
    · cases h
    · rename_i h2
      rw [if_neg fun g => h1 (e _ g), if_neg fun g => h2 (e _ g)]
theorem cut_ok {a : Score} (h : scoreOk a = true) {k : Nat} (hk : k < a.bars.length) (h2 : 2 ≤ a.bars.length) : scoreOk (cutB a k) = true := by
  obtain ⟨p1, p2, p3, p4, p5⟩ := ok_parts h
  obtain ⟨_, q2, q3⟩ := notesOk_all p4
  have hnd := barsOk_nodup p2
  have hl := cut_len (l := a.bars) hk
  have hsub : (cutB a k).bars.Sublist a.bars := by
    show (a.bars.take k ++ a.bars.drop (k + 1)).Sublist a.bars
    rw [← List.eraseIdx_eq_take_drop_succ]; exact List.eraseIdx_sublist ..
  have hnd' : ((cutB a k).bars.map (·.id)).Nodup := (hsub.map _).nodup hnd
  have hlen : (cutB a k).bars.length + 1 = a.bars.length := hl
  have hb' : barsOk (cutB a k).bars = true := by
    unfold barsOk at p2 ⊢
    simp only [Bool.and_eq_true, dEt, List.all_eq_true] at p2 ⊢
    exact ⟨⟨⟨fun x hx => p2.1.1.1 x (hsub.subset hx), hnd'⟩, by omega⟩, by omega⟩
  have hix : ∀ n ∈ (cutB a k).notes, ∃ j : Nat, j < (cutB a k).bars.length ∧ lk (idxAL (cutB a k).bars) n.bar = some (j : Int) ∧ lk (idxAL a.bars) n.bar = some ((skip k j : Nat) : Int) ∧ nformed ((cutB a k).bars.getD j default) n = true := by
    intro n hn
    obtain ⟨hn1, hn2⟩ := List.mem_filter.1 hn
    obtain ⟨i, g1, g2, g3⟩ := note_bar (q3 n hn1)
    have hne : i ≠ k := by
      rintro rfl
      have : (n.bar != (barI a i).id) = true := hn2
      rw [← g2] at this
      simp [barI] at this
    obtain ⟨j, j1, j2⟩ := skip_of hne g1 hk
    have e : (cutB a k).bars.getD j default = a.bars.getD i default := by rw [← j2]; exact cut_at a.bars k j default
    refine ⟨j, by omega, ?_, ?_, by rw [e]; exact g3⟩
    · rw [← g2, ← e]; exact idx_at hnd' (by omega)
    · rw [← g2, j2]; exact idx_at hnd g1
  have hn' : notesOk (cutB a k).bars (cutB a k).notes = true := by
    have hlf : (cutB a k).notes.length ≤ a.notes.length := List.length_filter_le _ _
    unfold notesOk
    simp only [Bool.and_eq_true, dEt, List.all_eq_true]
    refine ⟨⟨⟨hb', by omega⟩, fun n hn => ?_⟩, (List.filter_sublist.map _).nodup (notesOk_nodup p4)⟩
    obtain ⟨j, j1, j2, _, j4⟩ := hix n hn
    unfold noteOk; rw [j2]; exact j4
  rw [scoreOk_eq]
  unfold scoreX scoreBad
  rw [show (cutB a k).version = a.version from rfl, show (cutB a k).parts = a.parts from rfl, p1, hb', p3, hn', wrong_sub (m := (cutB a k).notes) p5 fun x hx => (List.mem_filter.1 hx).1, steps_ord.2 ?_]
  · rfl
  · refine ((ok_ord h).sublist (List.filter_sublist (p := fun n : Note => n.bar != (barI a k).id))).imp_of_mem fun {x y} hx hy hxy => ?_
    obtain ⟨i, _, i2, i3, _⟩ := hix x hx
    obtain ⟨j, _, j2, j3, _⟩ := hix y hy
    rw [bef_iff] at hxy ⊢
    have s := skip_sign k i j
    unfold keyN lk0 at hxy ⊢
    rw [i3, j3, cmpK_cons] at hxy
    rw [i2, j2, cmpK_cons]
    dsimp only [Option.getD_some] at hxy ⊢
    split at hxy
    · rename_i g; rw [if_pos (s.1.1 g)]; exact hxy
    · rename_i g; rw [if_neg fun u => g (s.1.2 u)]; exact s.2.1 hxy
theorem cost_pos {a b : Score} {i j : Nat} (h : barI a i ≠ barI b j) : 0 < costR a b i j := by
  unfold costR
  dsimp only
  split
  · rename_i g
    simp only [Bool.and_eq_true, beq_iff_eq] at g
    exact absurd g.1 h
  · split <;> decide
theorem cut_cost {a : Score} (hs : Sc a) {k j : Nat} (hk : k < a.bars.length) (hj : j + 1 < a.bars.length) : costR a (cutB a k) (skip k j) j = 0 := by
  have g : (barI a (skip k j)).id ≠ (barI a k).id := fun e => skip_ne k j (bar_inj hs.bars (skip_lt hj) hk e)
  have e : inBar (cutB a k) (barI a (skip k j)).id = inBar a (barI a (skip k j)).id := by
    unfold inBar cutB
    dsimp only
    rw [List.filter_filter]
    refine List.filter_congr fun n _ => ?_
    by_cases u : n.bar = (barI a (skip k j)).id
    · rw [u]; simpa using g
    · rw [show (n.bar == (barI a (skip k j)).id) = false by simpa using u]; rfl
  unfold costR
  dsimp only
  rw [cut_bar, e, sameMu_refl]
  simp
theorem cut_align {a : Score} (hs : Sc a) {k : Nat} (hk : k < a.bars.length) (h2 : 2 ≤ a.bars.length) : T (costR a (cutB a k)) a.bars.length (cutB a k).bars.length = 2 ∧ alignR (costR a (cutB a k)) a.bars.length (cutB a k).bars.length = (List.range (cutB a k).bars.length).map (fun j : Nat => (((skip k j : Nat) : Int), (j : Int))) := by
  have hlen : (cutB a k).bars.length + 1 = a.bars.length := cut_len (l := a.bars) hk
  obtain ⟨m, hm⟩ : ∃ m, (cutB a k).bars.length = m := ⟨_, rfl⟩
  rw [hm] at hlen ⊢
  obtain ⟨d, hd⟩ : ∃ d, m = k + d := ⟨m - k, by omega⟩
  let c : Nat → Nat → Int := fun i j => if i < m + 1 ∧ j < m then costR a (cutB a k) i j else if i = skip k j then 0 else 1
  have hc : ∀ i j, 0 ≤ c i j := fun i j => by
    dsimp only [c]
    split
    · exact (costR_in _ _ _ _).1
    · split <;> decide
  have h0 : ∀ j, c (skip k j) j = 0 := fun j => by
    dsimp only [c]
    split
    · exact cut_cost hs hk (by omega)
    · rw [if_pos rfl]
  have h1 : ∀ i j, i ≠ skip k j → 0 < c i j := fun i j hij => by
    dsimp only [c]
    split
    · rename_i g
      refine cost_pos ?_
      rw [cut_bar]
      intro e
      exact hij (bar_inj hs.bars (by omega) (skip_lt (by omega)) (congrArg (·.id) e))
    · first | (rw [if_neg hij]; decide) | decide
  have hcg : ∀ x y, x < m + 1 → y < m → costR a (cutB a k) x y = c x y := fun x y hx hy => by
    dsimp only [c]
    rw [if_pos ⟨hx, hy⟩]
  obtain ⟨r1, r2⟩ := less_to hc h0 h1 d
  rw [← hd] at r1 r2
  rw [← hlen]
  refine ⟨by rw [T_congr (m + 1) m hcg]; exact r1, ?_⟩
  unfold alignR ip
  rw [back_congr (m + 1) m hcg, r2, ← List.map_reverse, List.reverse_reverse, List.map_map]; rfl
theorem cut_notes {a : Score} (h : scoreOk a = true) {k : Nat} (hk : k < a.bars.length) (h2 : 2 ≤ a.bars.length) : notesM a (cutB a k) (np (alignR (costR a (cutB a k)) a.bars.length (cutB a k).bars.length)) = (cutB a k).notes.map fun n => (n.id, n.id) := by
  have hs := ok_sc h
  have hlen : (cutB a k).bars.length + 1 = a.bars.length := cut_len (l := a.bars) hk
  rw [(cut_align hs hk h2).2, np_map (skip k) (fun j => j)]
  refine notes_own hs (ok_sc (cut_ok h hk h2)) ⟨?_, fun p hp => ?_⟩ (fun n => n.bar != (barI a k).id) rfl (fun n hn hq => ?_) (fun n hn hq p hp => ?_)
  · rw [List.pairwise_map]
    refine List.pairwise_lt_range.imp fun {x y} h => ⟨?_, h⟩
    unfold skip; split <;> split <;> omega
  · obtain ⟨j, hj, rfl⟩ := List.mem_map.1 hp
    have := List.mem_range.1 hj
    exact ⟨skip_lt (by omega), this⟩
  · obtain ⟨i, hi, e⟩ := ok_bar h hn
    have hne : i ≠ k := by rintro rfl; rw [e] at hq; simp at hq
    obtain ⟨j, j1, j2⟩ := skip_of hne hi hk
    refine ⟨(skip k j, j), List.mem_map.2 ⟨j, List.mem_range.2 (by omega), rfl⟩, by rw [j2]; exact e, ?_⟩
    show n.bar = (barI (cutB a k) j).id
    rw [cut_bar, j2]; exact e
  · obtain ⟨j, hj, rfl⟩ := List.mem_map.1 hp
    have hj := List.mem_range.1 hj
    have e : n.bar = (barI a k).id := by simpa using hq
    intro u
    exact skip_ne k j (bar_inj hs.bars (skip_lt (by omega)) hk (u.symm.trans e))
end Go.Proofs.YtekfpcgagoidcaaGreatDoor.Al


namespace Go.Proofs.YtekfpcgagoidcaaGreatDoor.Al
open Go.Ab Go.Sort
theorem find_id {l : List Note} (hn : (l.map (·.id)).Nodup) {i : Nat} (hi : i < l.length) : findI (fun x : Note => x.id == (l.getD i default).id) l = i :=
  findI_at hi (by simp) fun j hj => by
    have : (l.getD j default).id ≠ (l.getD i default).id := fun e => by
      have := nodup_at (fun b : Note => b.id) hn (show j < l.length by omega) hi e
      omega
    simpa using this
theorem noteAt_of {l : List Note} (hn : (l.map (·.id)).Nodup) {n : Note} (h : n ∈ l) : ∃ i : Nat, i < l.length ∧ l.getD i default = n ∧ noteAt l n.id = i := by
  obtain ⟨i, hi, e⟩ := List.mem_iff_getElem.1 h
  have e2 : l.getD i default = n := by rw [getD_lt hi]; exact e
  exact ⟨i, hi, e2, by rw [← e2]; exact find_id hn hi⟩
theorem outM_mem {a : Score} {ps : PL} {p : Int × Int} : p ∈ outM a ps ↔ ∃ n ∈ a.notes, n.id = p.1 ∧ lk ps p.1 = some p.2 := by
  unfold outM
  rw [List.mem_filterMap]
  constructor
  · rintro ⟨n, hn, e⟩
    cases h : lk ps n.id with
    | none => rw [h] at e; cases e
    | some v =>
      rw [h] at e
      cases e
      exact ⟨n, hn, rfl, h⟩
  · rintro ⟨n, hn, e, h⟩
    refine ⟨n, hn, ?_⟩
    rw [e, h]; rfl
theorem pairwise_nodup {l : PL} {f : Int × Int → Int} (h : l.Pairwise fun p q => f p ≠ f q) : (l.map f).Nodup := by
  rw [List.Nodup, List.pairwise_map]; exact h
structure OutF (a b : Score) (l : List (Nat × Nat)) (o : PL) : Prop where
  fst : (o.map (·.1)).Nodup
  snd : (o.map (·.2)).Nodup
  ord : o.Pairwise fun p q => noteAt a.notes p.1 < noteAt a.notes q.1
  of : ∀ p ∈ o, ∃ i k : Nat, i < a.notes.length ∧ k < b.notes.length ∧ noteAt a.notes p.1 = i ∧ noteAt b.notes p.2 = k ∧ (a.notes.getD i default).part = (b.notes.getD k default).part ∧ ∃ q ∈ l, (a.notes.getD i default).bar = (barI a q.1).id ∧ (b.notes.getD k default).bar = (barI b q.2).id
  one : ∀ x ∈ a.notes, ∀ y ∈ b.notes, y.id = x.id → y.part = x.part → (∃ q ∈ l, x.bar = (barI a q.1).id ∧ y.bar = (barI b q.2).id) → (x.id, x.id) ∈ o
theorem out_facts {a b : Score} (ha : Sc a) (hb : Sc b) {l : List (Nat × Nat)} (hp : Pairs a b l) : OutF a b l (notesM a b l) := by
  have hm := pairsM_spec ha hb hp
  unfold notesM
  generalize pairsM a b l [] = ps at hm
  have hord : (outM a ps).Pairwise fun p q => noteAt a.notes p.1 < noteAt a.notes q.1 := by
    unfold outM
    rw [List.pairwise_filterMap]
    have h0 : a.notes.Pairwise fun x y => noteAt a.notes x.id < noteAt a.notes y.id := by
      rw [List.pairwise_iff_getElem]
      intro i j hi hj hij
      have e1 := find_id ha.notes hi
      have e2 := find_id ha.notes hj
      rw [getD_lt hi] at e1
      rw [getD_lt hj] at e2
      show findI _ _ < findI _ _
      rw [e1, e2]; omega
    refine h0.imp fun {x y} h p hp q hq => ?_
    cases hx : lk ps x.id with
    | none => rw [hx] at hp; cases hp
    | some u =>
      cases hy : lk ps y.id with
      | none => rw [hy] at hq; cases hq
      | some v =>
        rw [hx] at hp; rw [hy] at hq
        cases hp; cases hq
        exact h
  have hfst : ((outM a ps).map (·.1)).Nodup := pairwise_nodup (f := (·.1)) (hord.imp fun {p q} h e => by
    have e : p.1 = q.1 := e
    rw [e] at h; omega)
  refine ⟨hfst, pairwise_nodup (f := (·.2)) ?_, hord, fun p hp => ?_, fun x hx y hy e1 e2 h => ?_⟩
  · refine hord.imp_of_mem fun {p q} hp hq h e => ?_
    obtain ⟨_, _, _, h1⟩ := outM_mem.1 hp
    obtain ⟨_, _, _, h2⟩ := outM_mem.1 hq
    have e3 := inj_of_nodup (f := (·.2)) hm.snd (lk_mem h1) (lk_mem h2) e
    have e4 : p.1 = q.1 := congrArg (·.1) e3
    rw [e4] at h; omega
  · obtain ⟨n, hn, h1, h2⟩ := outM_mem.1 hp
    obtain ⟨x, hx, y, hy, e, e2, q, hq, e3, e4⟩ := hm.of _ (lk_mem h2)
    have e5 : p.1 = x.id := congrArg (·.1) e
    have e6 : p.2 = y.id := congrArg (·.2) e
    obtain ⟨i, i1, i2, i3⟩ := noteAt_of ha.notes hx
    obtain ⟨k, k1, k2, k3⟩ := noteAt_of hb.notes hy
    exact ⟨i, k, i1, k1, by rw [e5]; exact i3, by rw [e6]; exact k3, by rw [i2, k2]; exact e2, q, hq, by rw [i2]; exact e3, by rw [k2]; exact e4⟩
  · obtain ⟨q, hq, g1, g2⟩ := h
    have := hm.one q hq x (inBar_mem.2 ⟨hx, g1⟩) y (inBar_mem.2 ⟨hy, g2⟩) (by simp [f1, e1, e2])
    exact outM_mem.2 ⟨x, hx, rfl, lk_of_mem hm.fst this⟩
theorem back_pair {c : Nat → Nat → Int} {i k : Nat} (h : T c (i + 1) (k + 1) = T c i k + c i k) : back c (i + 1) (k + 1) = (i, k) :: back c i k := by rw [back, if_pos h]
theorem back_up {c : Nat → Nat → Int} {i k : Nat} (h : k = 0 ∨ ∃ j, k = j + 1 ∧ T c (i + 1) k ≠ T c i j + c i j) (h2 : T c (i + 1) k = T c i k + 2) : back c (i + 1) k = back c i k := by
  rcases h with rfl | ⟨j, rfl, h⟩
  · rw [back]
  · rw [back, if_neg h, if_pos h2]
theorem back_side {c : Nat → Nat → Int} {i k : Nat} (h : i = 0 ∨ ∃ j, i = j + 1 ∧ T c i (k + 1) ≠ T c j k + c j k ∧ T c i (k + 1) ≠ T c j (k + 1) + 2) : back c i (k + 1) = back c i k := by
  rcases h with rfl | ⟨j, rfl, h1, h2⟩
  · rw [back]
  · rw [back, if_neg h1, if_neg h2]
theorem back_nil {c : Nat → Nat → Int} : back c 0 0 = [] := by rw [back]
end Go.Proofs.YtekfpcgagoidcaaGreatDoor.Al

