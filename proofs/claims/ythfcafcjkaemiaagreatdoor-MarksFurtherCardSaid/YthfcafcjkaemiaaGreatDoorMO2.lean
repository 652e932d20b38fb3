/- Marks: plain laws of the best one, and of the marks that a reader sees; contracts of usable and reads. No statement is proved here. -/
import Derived.Test.YthfcafcjkaemiaaGreatDoorML2
set_option linter.unusedVariables false
set_option linter.unusedSimpArgs false
namespace Go.Proofs.YthfcafcjkaemiaaGreatDoor.Mk
open Go.Ab Go.Jo

theorem cnt_self (a : Jo.Mark) : cnt a a = false := by unfold cnt; rw [if_pos rfl]; simp
theorem cnt_asym (a b : Jo.Mark) : (cnt a b && cnt b a) = false := by
  cases h1 : cnt a b with
  | false => rfl
  | true =>
    cases h2 : cnt b a with
    | false => rfl
    | true =>
      exfalso
      unfold cnt at h1 h2
      by_cases h : a.layer = b.layer
      · rw [if_pos h] at h1
        rw [if_pos h.symm] at h2
        simp at h1 h2; omega
      · rw [if_neg h] at h1
        rw [if_neg (Ne.symm h)] at h2
        simp at h1 h2; omega
theorem cnt_total {a b : Jo.Mark} (h : a.id ≠ b.id) : cnt a b = !cnt b a := by
  unfold cnt
  by_cases h2 : a.layer = b.layer
  · rw [if_pos h2, if_pos h2.symm, Bool.eq_iff_iff]; simp; omega
  · rw [if_neg h2, if_neg (Ne.symm h2), Bool.eq_iff_iff]; simp; omega
theorem cnt_trans {a b c : Jo.Mark} (h1 : cnt a b = true) (h2 : cnt b c = true) : cnt a c = true := by
  unfold cnt at *
  split at h1 <;> split at h2 <;> split <;> simp only [decide_eq_true_eq] at * <;> omega
theorem before_ok {a b : Jo.Mark} (ha : markOk a = true) (hb : markOk b = true) : beforeR a b = (cnt a b, 0) := by
  unfold beforeR; rw [ha, hb]; rfl
theorem meant_ok {m : Jo.Mark} {p : Part} {r : Rdr} (hm : markOk m = true) (hr : isRdr r = true) (hp : r.part = p.id) : meantR m p r = (forM m p.section_ r, 0) := by
  unfold meantR; rw [hm, hr, show (true && true) = true from rfl, if_pos rfl, if_pos hp]
theorem few_notes {s : Score} (h : s.few = true) : s.notes.length ≤ 60 := by
  unfold Score.few at h; simp only [Bool.and_eq_true, decide_eq_true_eq] at h; omega
theorem mem_take_of {α : Type} {l : List α} {k : Nat} {x : α} (h : x ∈ l.take k) : x ∈ l := List.mem_of_mem_take h
theorem bestM_take_good (q : Jo.Mark → Bool) {l : List Jo.Mark} (hn : (l.map (·.id)).Nodup) : ∀ k, k ≤ l.length →
    (∀ b, bestM q (l.take k) = some b → b ∈ l.take k ∧ q b = true ∧ ∀ m ∈ l.take k, q m = true → m = b ∨ cnt b m = true) ∧ (bestM q (l.take k) = none → ∀ m ∈ l.take k, q m = false)
  | 0, _ => ⟨fun b h => by simp [bestM] at h, fun _ m h => by simp at h⟩
  | k + 1, hk => by
    obtain ⟨ih1, ih2⟩ := bestM_take_good q hn k (by omega)
    have hkl : k < l.length := by omega
    have hns := (nodup_succ (fun b : Jo.Mark => b.id) l k hkl).1 (by
      rw [← List.take_append_drop (k + 1) l, List.map_append] at hn
      exact (List.nodup_append.1 hn).1)
    rw [take_snoc hkl, bestM_snoc]
    generalize hm : l.getD k default = m at *
    have hid : ∀ w ∈ l.take k, w.id ≠ m.id := fun w hw e => hns.2 (List.mem_map.2 ⟨w, hw, e⟩)
    by_cases hq : q m = true
    · rw [if_pos hq]
      cases hb : bestM q (l.take k) with
      | none =>
        have h2 := ih2 hb
        refine ⟨fun b h => ?_, fun h => by simp [better] at h⟩
        simp only [better, Option.some.injEq] at h
        subst h
        refine ⟨by simp, hq, fun x hx hqx => ?_⟩
        rcases List.mem_append.1 hx with h | h
        · have := h2 x h; rw [hqx] at this; cases this
        · exact .inl (by simpa using h)
      | some w =>
        obtain ⟨w1, w2, w3⟩ := ih1 w hb
        refine ⟨fun b h => ?_, fun h => by simp only [better] at h; split at h <;> cases h⟩
        simp only [better] at h
        by_cases hc : cnt m w = true
        · rw [if_pos hc] at h
          simp only [Option.some.injEq] at h
          subst h
          refine ⟨by simp, hq, fun x hx hqx => ?_⟩
          rcases List.mem_append.1 hx with h | h
          · rcases w3 x h hqx with rfl | h3
            · exact .inr hc
            · exact .inr (cnt_trans hc h3)
          · exact .inl (by simpa using h)
        · rw [if_neg hc] at h
          simp only [Option.some.injEq] at h
          subst h
          refine ⟨List.mem_append_left _ w1, w2, fun x hx hqx => ?_⟩
          rcases List.mem_append.1 hx with h | h
          · exact w3 x h hqx
          · have hx : x = m := by simpa using h
            subst hx
            refine .inr ?_
            rw [cnt_total (hid w w1)]
            simpa using hc
    · rw [if_neg hq]
      have hq2 : q m = false := by simpa using hq
      refine ⟨fun b h => ?_, fun h x hx => ?_⟩
      · obtain ⟨w1, w2, w3⟩ := ih1 b h
        refine ⟨List.mem_append_left _ w1, w2, fun x hx hqx => ?_⟩
        rcases List.mem_append.1 hx with h | h
        · exact w3 x h hqx
        · have hx : x = m := by simpa using h
          subst hx; rw [hqx] at hq2; cases hq2
      · rcases List.mem_append.1 hx with h2 | h2
        · exact ih2 h x h2
        · have hx : x = m := by simpa using h2
          subst hx; exact hq2
theorem bestM_some {q : Jo.Mark → Bool} {l : List Jo.Mark} (hn : (l.map (·.id)).Nodup) {b : Jo.Mark} (h : bestM q l = some b) : b ∈ l ∧ q b = true ∧ ∀ m ∈ l, q m = true → m = b ∨ cnt b m = true := by
  have := (bestM_take_good q hn l.length (Nat.le_refl _)).1 b
  rw [List.take_length] at this
  exact this h
theorem bestM_none {q : Jo.Mark → Bool} {l : List Jo.Mark} (hn : (l.map (·.id)).Nodup) (h : bestM q l = none) : ∀ m ∈ l, q m = false := by
  have := (bestM_take_good q hn l.length (Nat.le_refl _)).2
  rw [List.take_length] at this
  exact this h
theorem mem_shownL {f : Int → Int → Option Jo.Mark} {ns : List Note} {m : Jo.Mark} : m ∈ shownL f ns ↔ ∃ n ∈ ns, ∃ k ∈ kinds, f n.id k = some m := by
  unfold shownL
  rw [List.mem_flatMap]
  constructor
  · rintro ⟨n, hn, h⟩
    obtain ⟨k, hk, e⟩ := List.mem_filterMap.1 h
    exact ⟨n, hn, k, hk, e⟩
  · rintro ⟨n, hn, k, hk, e⟩
    exact ⟨n, hn, List.mem_filterMap.2 ⟨k, hk, e⟩⟩
abbrev keyM (m : Jo.Mark) : Int × Int := (m.note, m.kind)
theorem kinds_nodup_key {g : Int → Option Jo.Mark} (hg : ∀ k m, g k = some m → m.kind = k) : ∀ ks : List Int, ks.Nodup → ((ks.filterMap g).map keyM).Nodup
  | [], _ => by simp
  | k :: t, h => by
    obtain ⟨h1, h2⟩ := List.nodup_cons.1 h
    have ih := kinds_nodup_key hg t h2
    rw [List.filterMap_cons]
    cases hk : g k with
    | none => exact ih
    | some m =>
      rw [List.map_cons, List.nodup_cons]
      refine ⟨fun hm => ?_, ih⟩
      obtain ⟨m', hm', e⟩ := List.mem_map.1 hm
      obtain ⟨k', hk', e'⟩ := List.mem_filterMap.1 hm'
      have e1 := hg _ _ hk
      have e2 := hg _ _ e'
      have e3 : m'.kind = m.kind := congrArg Prod.snd e
      rw [e1, e2] at e3
      exact h1 (e3 ▸ hk')
theorem shown_nodup_key {f : Int → Int → Option Jo.Mark} (hf : ∀ n k m, f n k = some m → m.note = n ∧ m.kind = k) : ∀ ns : List Note, (ns.map (·.id)).Nodup → ((shownL f ns).map keyM).Nodup
  | [], _ => by simp [shownL]
  | n :: t, h => by
    rw [List.map_cons, List.nodup_cons] at h
    have ih := shown_nodup_key hf t h.2
    have e : shownL f (n :: t) = kinds.filterMap (f n.id) ++ shownL f t := by unfold shownL; rw [List.flatMap_cons]
    rw [e, List.map_append, List.nodup_append]
    refine ⟨kinds_nodup_key (fun k m h => (hf n.id k m h).2) kinds (by decide), ih, fun a ha b hb e => ?_⟩
    obtain ⟨m, hm, rfl⟩ := List.mem_map.1 ha
    obtain ⟨k, _, e1⟩ := List.mem_filterMap.1 hm
    obtain ⟨m', hm', rfl⟩ := List.mem_map.1 hb
    obtain ⟨n', hn', k', _, e2⟩ := mem_shownL.1 hm'
    have e3 : m.note = m'.note := congrArg Prod.fst e
    rw [(hf _ _ _ e1).1, (hf _ _ _ e2).1] at e3
    exact h.1 (List.mem_map.2 ⟨n', hn', e3.symm⟩)
theorem played_ids (l : List Note) (p : Part) : (playedL l p).map (·.id) = (l.filter fun n => n.part == srcOf p).map (·.id) := by
  unfold playedL; rw [List.map_map]; rfl
theorem played_nodup {l : List Note} (h : (l.map (·.id)).Nodup) (p : Part) : ((playedL l p).map (·.id)).Nodup := by
  rw [played_ids]
  exact List.Sublist.nodup (List.Sublist.map _ List.filter_sublist) h
/-- Marks under their keys. -/
def keyAL (x : List Jo.Mark) : List ((Int × Int) × Jo.Mark) := x.map fun m => (keyM m, m)
theorem keyAL_keys (x : List Jo.Mark) : (keyAL x).map (·.1) = x.map keyM := by unfold keyAL; rw [List.map_map]; rfl
theorem lk_none {κ α : Type} [DecidableEq κ] {al : List (κ × α)} {k : κ} (h : k ∉ al.map (·.1)) : lk al k = none := by
  induction al with
  | nil => rfl
  | cons p r ih =>
    obtain ⟨k', v'⟩ := p
    simp only [List.map_cons, List.mem_cons, not_or] at h
    simp only [lk]
    rw [if_neg (Ne.symm h.1), ih h.2]
theorem lk_keyAL_none {x : List Jo.Mark} {k : Int × Int} (h : k ∉ x.map keyM) : lk (keyAL x) k = none := lk_none (by rw [keyAL_keys]; exact h)
theorem lk_keyAL : ∀ {x : List Jo.Mark}, (x.map keyM).Nodup → ∀ {m : Jo.Mark}, m ∈ x → lk (keyAL x) (keyM m) = some m
  | [], _, m, hm => by cases hm
  | a :: t, h, m, hm => by
    rw [List.map_cons, List.nodup_cons] at h
    show (if keyM a = keyM m then some a else lk (keyAL t) (keyM m)) = some m
    by_cases e : keyM a = keyM m
    · rw [if_pos e]
      rcases List.mem_cons.1 hm with rfl | h2
      · rfl
      · exact absurd (List.mem_map.2 ⟨m, h2, e.symm⟩) h.1
    · rw [if_neg e]
      rcases List.mem_cons.1 hm with rfl | h2
      · exact absurd rfl e
      · exact lk_keyAL h.2 h2
theorem keyAL_succ {x : List Jo.Mark} (hn : (x.map keyM).Nodup) {k : Nat} (hk : k < x.length) : keyM (x.getD k default) ∉ (x.take k).map keyM ∧ ins (keyAL (x.take k)) (keyM (x.getD k default)) (x.getD k default) = keyAL (x.take (k + 1)) := by
  have h1 : ((x.take (k + 1)).map keyM).Nodup := by
    rw [← List.take_append_drop (k + 1) x, List.map_append] at hn
    exact (List.nodup_append.1 hn).1
  rw [take_snoc hk, List.map_append, List.nodup_append] at h1
  have h2 : keyM (x.getD k default) ∉ (x.take k).map keyM := fun h => h1.2.2 _ h _ (by simp) rfl
  refine ⟨h2, ?_⟩
  rw [ins_new _ _ _ (by rw [keyAL_keys]; exact h2), take_snoc hk]
  unfold keyAL; rw [List.map_append]; rfl
/-- What is known of a mark that a reader sees. -/
theorem shownF_some {s : Score} {l : List Jo.Mark} {p : Part} {r : Rdr} (hn : (l.map (·.id)).Nodup) {n k : Int} {m : Jo.Mark} (h : shownF s l p r n k = some m) :
    m ∈ l ∧ (m.note = n ∧ m.kind = k) ∧ m.version = s.version ∧ forM m p.section_ r = true := by
  obtain ⟨h1, h2, _⟩ := bestM_some hn h
  unfold okFor at h2
  simp only [Bool.not_eq_true', Bool.or_eq_false_iff, bne_eq_false_iff_eq, Bool.not_eq_false'] at h2
  exact ⟨h1, ⟨h2.1.1.2, h2.1.2⟩, h2.1.1.1, h2.2⟩
theorem marksOk_nodup {l : List Jo.Mark} (h : marksOk l = true) : (l.map (·.id)).Nodup := by
  unfold marksOk at h
  simp only [Bool.and_eq_true, decide_eq_true_eq] at h
  exact h.1.2
theorem marksOk_mem {l : List Jo.Mark} (h : marksOk l = true) {m : Jo.Mark} (hm : m ∈ l) : markOk m = true := by
  unfold marksOk at h
  simp only [Bool.and_eq_true, List.all_eq_true] at h
  exact h.1.1 m hm
theorem markOk_kind {m : Jo.Mark} (h : markOk m = true) : m.kind ∈ kinds := by
  unfold markOk at h
  simp only [Bool.and_eq_true] at h
  have := inR_iff.1 h.1.1.2
  simp [kinds]; omega
theorem okFor_own {m : Jo.Mark} {v sec : Int} {r : Rdr} (hv : m.version = v) (hf : forM m sec r = true) : okFor v m.note m.kind sec r m = true := by
  unfold okFor; rw [hv, hf]; simp

attribute [local irreducible] AWP AOps EStep AQ PStep PRun PCall TCall VCall DStep TDies AWD DCall

def usableR (s : Score) (l : List Jo.Mark) : Bool := ((s.few && decide ((l.length : Int) ≤ 40)) && scoreOk s) && marksOk l
theorem usable_spec (s : Score) (hz : s.Sized) (l : List Jo.Mark) (hl : l.length ≤ 9223372036854775807) (ht : TextsIn l) : PCall Tryz.prog 43 [.agg (encS s), .sl 10 (l.map encMk) .no] (.b (usableR s l)) := by
  have h1 := few8_spec s hz
  have h2 := few19_spec l hl
  have h4 := marks19_spec l hl ht
  unfold usableR
  cases hf : s.few with
  | false =>
    rw [hf] at h1
    refine PCall.body Tryz.func43 rfl rfl Tryz.ntmps43 rfl rfl ?_
    repeat' (first | refine AOps.q rfl rfl rfl (fun hg => by first | exact std0 | exact PRun.callW (h1) rfl rfl nd rfl nds | exact (Bool.noConfusion (show false = true from hg) : PRun _ _ _ _ (.b false)) | exact std1) (by exact rfl) ?_ | refine AWP.seq ?_ | refine AWP.regionK (fun K' hK => ?_) | (refine AOps.nil (hK _ _ ?_); clear hK K') | refine AOps.e (EStep.boxW rfl rfl rfl rfl rfl True.intro rfl rfl ?_) | refine AOps.e (EStep.storeW tabOk rfl rfl rfl True.intro rfl rfl True.intro rfl rfl rfl rfl rfl rfl rfl ?_) | refine AOps.e (EStep.allocW tabOk rfl rfl rfl rfl rfl rfl ?_) | (refine AWP.condW rfl True.intro (fun hc => ?_) (fun hc => ?_) <;> (first | (simp only [decide_eq_true_eq] at hc) | (simp only [decide_eq_false_iff_not, Int.not_lt, Int.not_le] at hc) | skip)) | refine AWP.block ?_ | refine AWP.exit ?_ | refine AWP.skip ?_ | refine AWP.ret ?_ | (refine AQ.nil (hK _ ?_); clear hK K') | refine AQ.nil ?_ | refine AQ.q rfl rfl (fun hg => by first | exact std0 | exact PRun.callW (h1) rfl rfl nd rfl nds | exact (Bool.noConfusion (show false = true from hg) : PRun _ _ _ _ (.b false)) | exact std1) (by exact rfl) ?_)
    exact ⟨.inr rfl, Ent.b (by simp)⟩
  | true =>
    have h3 := valid8_spec s (Score.few_small hf)
    rw [hf] at h1
    refine PCall.body Tryz.func43 rfl rfl Tryz.ntmps43 rfl rfl ?_
    repeat' (first | refine AOps.q rfl rfl rfl (fun hg => by first | exact std0 | exact PRun.callW (h1) rfl rfl nd rfl nds | exact PRun.callW (h2) rfl rfl nd rfl nds | exact PRun.callW (h3) rfl rfl nd rfl nds | exact PRun.callW (h4) rfl rfl nd rfl nds | exact std1) (by exact rfl) ?_ | refine AWP.seq ?_ | refine AWP.regionK (fun K' hK => ?_) | (refine AOps.nil (hK _ _ ?_); clear hK K') | refine AOps.e (EStep.boxW rfl rfl rfl rfl rfl True.intro rfl rfl ?_) | refine AOps.e (EStep.storeW tabOk rfl rfl rfl True.intro rfl rfl True.intro rfl rfl rfl rfl rfl rfl rfl ?_) | refine AOps.e (EStep.allocW tabOk rfl rfl rfl rfl rfl rfl ?_) | (refine AWP.condW rfl True.intro (fun hc => ?_) (fun hc => ?_) <;> (first | (simp only [decide_eq_true_eq] at hc) | (simp only [decide_eq_false_iff_not, Int.not_lt, Int.not_le] at hc) | skip)) | refine AWP.block ?_ | refine AWP.exit ?_ | refine AWP.skip ?_ | refine AWP.ret ?_ | refine AWP.drawK2 (by decide +kernel) (by kernel_rfl) (by decide +kernel) rfl (fun K' hK => ?_) | refine AWP.drawL2 (by kernel_rfl) (by decide +kernel) rfl (fun K' hK => ?_) | (refine AQ.nil (hK _ ?_); clear hK K') | refine AQ.nil ?_ | refine AQ.q rfl rfl (fun hg => by first | exact std0 | exact PRun.callW (h1) rfl rfl nd rfl nds | exact PRun.callW (h2) rfl rfl nd rfl nds | exact PRun.callW (h3) rfl rfl nd rfl nds | exact PRun.callW (h4) rfl rfl nd rfl nds | exact std1) (by exact rfl) ?_)
    exact ⟨.inr rfl, Ent.b rfl⟩
def noPart : Part := ⟨0, 0, 0, 0, 0, ⟨0, 0⟩, ⟨0, 0, 0⟩, ⟨0, 0, 0⟩⟩
/-- A reader of a score, and the part. -/
def readsI (s : Score) (r : Rdr) : Bool := isRdr r && decide (partI s r.part ≥ 0) && !decide ((s.parts.getD (partI s r.part).toNat default).desks < r.desk)
theorem reads_yes (s : Score) (hs : s.Small) (r : Rdr) (hr : isRdr r = true) {k : Nat} {p : Part} (e : partI s r.part = k) (hk : k < s.parts.length) (hP : s.parts.getD k default = p) (hd : ¬ p.desks < r.desk) :
    PCall Tryz.prog 44 [.agg (encS s), .agg (encRd r)] (.tup [.agg (encP p), .b true]) := by
  have h1 := rdr19_spec r
  rw [hr] at h1
  obtain ⟨s1, s2, s3⟩ := hs
  have h2 := partAt_spec s.parts r.part (by omega)
  rw [show partAt s.parts r.part = (k : Int) from e] at h2
  refine PCall.bodyS tabOk Tryz.func44 rfl rfl Tryz.ntmps44 rfl ?_
  repeat' (first | refine AOps.q rfl rfl rfl (fun hg => by first | exact PRun.eq (v := .iptr (encP (s.parts.getD ((k : Nat) : Int).toNat default))) (PRun.indexMW tabOk rfl rfl nd rfl nd rfl rfl (by omega)) (congrArg (fun x => AV.iptr (encP x)) hP) | exact std0 | exact PRun.callW (h1) rfl rfl nd rfl nds | exact PRun.callW (h2) rfl rfl nd rfl nds | exact PRun.buildW tabOk rfl rfl nds | exact std1) (by exact rfl) ?_ | refine AWP.seq ?_ | refine AWP.regionK (fun K' hK => ?_) | (refine AOps.nil (hK _ _ ?_); clear hK K') | refine AOps.e (EStep.boxW rfl rfl rfl rfl rfl True.intro rfl rfl ?_) | refine AOps.e (EStep.storeW tabOk rfl rfl rfl True.intro rfl rfl True.intro rfl rfl rfl rfl rfl rfl rfl ?_) | refine AOps.e (EStep.allocW tabOk rfl rfl rfl rfl rfl rfl ?_) | (refine AWP.condW rfl True.intro (fun hc => ?_) (fun hc => ?_) <;> (first | (simp only [decide_eq_true_eq] at hc) | (simp only [decide_eq_false_iff_not, Int.not_lt, Int.not_le] at hc) | skip)) | refine AWP.block ?_ | refine AWP.exit ?_ | refine AWP.skip ?_ | refine AWP.ret ?_ | refine AWP.drawK2 (by decide +kernel) (by kernel_rfl) (by decide +kernel) rfl (fun K' hK => ?_) | refine AWP.drawL2 (by kernel_rfl) (by decide +kernel) rfl (fun K' hK => ?_) | (refine AQ.nil (hK _ ?_); clear hK K') | refine AQ.nil ?_ | refine AQ.q rfl rfl (fun hg => by first | exact PRun.eq (v := .iptr (encP (s.parts.getD ((k : Nat) : Int).toNat default))) (PRun.indexMW tabOk rfl rfl nd rfl nd rfl rfl (by omega)) (congrArg (fun x => AV.iptr (encP x)) hP) | exact std0 | exact PRun.callW (h1) rfl rfl nd rfl nds | exact PRun.callW (h2) rfl rfl nd rfl nds | exact PRun.buildW tabOk rfl rfl nds | exact std1) (by exact rfl) ?_)
  · exfalso; simp at hc; omega
  · exact ⟨.inr rfl, _, rfl, Ent.of rfl⟩
theorem reads_no (s : Score) (hs : s.Small) (r : Rdr) (h : readsI s r = false) : PCall Tryz.prog 44 [.agg (encS s), .agg (encRd r)] (.tup [.agg (encP noPart), .b false]) := by
  have h1 := rdr19_spec r
  obtain ⟨s1, s2, s3⟩ := hs
  have h2 := partAt_spec s.parts r.part (by omega)
  cases hr : isRdr r with
  | false =>
    rw [hr] at h1
    refine PCall.bodyS tabOk Tryz.func44 rfl rfl Tryz.ntmps44 rfl ?_
    repeat' (first | refine AOps.q rfl rfl rfl (fun hg => by first | exact std0 | exact PRun.callW (h1) rfl rfl nd rfl nds | exact PRun.callW (h2) rfl rfl nd rfl nds | exact (Bool.noConfusion (show false = true from hg) : PRun _ _ _ _ (.b false)) | exact PRun.buildW tabOk rfl rfl nds | exact std1) (by exact rfl) ?_ | refine AWP.seq ?_ | refine AWP.regionK (fun K' hK => ?_) | (refine AOps.nil (hK _ _ ?_); clear hK K') | refine AOps.e (EStep.boxW rfl rfl rfl rfl rfl True.intro rfl rfl ?_) | refine AOps.e (EStep.storeW tabOk rfl rfl rfl True.intro rfl rfl True.intro rfl rfl rfl rfl rfl rfl rfl ?_) | refine AOps.e (EStep.allocW tabOk rfl rfl rfl rfl rfl rfl ?_) | (refine AWP.condW rfl True.intro (fun hc => ?_) (fun hc => ?_) <;> (first | (simp only [decide_eq_true_eq] at hc) | (simp only [decide_eq_false_iff_not, Int.not_lt, Int.not_le] at hc) | skip)) | refine AWP.block ?_ | refine AWP.exit ?_ | refine AWP.skip ?_ | refine AWP.ret ?_ | refine AWP.drawK2 (by decide +kernel) (by kernel_rfl) (by decide +kernel) rfl (fun K' hK => ?_) | refine AWP.drawL2 (by kernel_rfl) (by decide +kernel) rfl (fun K' hK => ?_) | (refine AQ.nil (hK _ ?_); clear hK K') | refine AQ.nil ?_ | refine AQ.q rfl rfl (fun hg => by first | exact std0 | exact PRun.callW (h1) rfl rfl nd rfl nds | exact PRun.callW (h2) rfl rfl nd rfl nds | exact (Bool.noConfusion (show false = true from hg) : PRun _ _ _ _ (.b false)) | exact PRun.buildW tabOk rfl rfl nds | exact std1) (by exact rfl) ?_)
    · exact ⟨.inr rfl, _, rfl, Ent.of rfl⟩
    all_goals (exfalso; simp at hc)
  | true =>
    rw [hr] at h1
    by_cases hf : partI s r.part ≥ 0
    · obtain ⟨k, e1, e2, e3, e4⟩ := findI_lt hf
      have e1' : partI s r.part = k := e1
      rw [show partAt s.parts r.part = (k : Int) from e1] at h2
      have hd : (s.parts.getD k default).desks < r.desk := by
        unfold readsI at h
        rw [hr, e1', show decide ((k : Int) ≥ 0) = true from decide_eq_true (by omega)] at h
        simpa using h
      obtain ⟨p, hP⟩ : ∃ p, s.parts.getD k default = p := ⟨_, rfl⟩
      rw [hP] at hd
      refine PCall.bodyS tabOk Tryz.func44 rfl rfl Tryz.ntmps44 rfl ?_
      repeat' (first | refine AOps.q rfl rfl rfl (fun hg => by first | exact PRun.eq (v := .iptr (encP (s.parts.getD ((k : Nat) : Int).toNat default))) (PRun.indexMW tabOk rfl rfl nd rfl nd rfl rfl (by omega)) (congrArg (fun x => AV.iptr (encP x)) hP) | exact std0 | exact PRun.callW (h1) rfl rfl nd rfl nds | exact PRun.callW (h2) rfl rfl nd rfl nds | exact PRun.buildW tabOk rfl rfl nds | exact std1) (by exact rfl) ?_ | refine AWP.seq ?_ | refine AWP.regionK (fun K' hK => ?_) | (refine AOps.nil (hK _ _ ?_); clear hK K') | refine AOps.e (EStep.boxW rfl rfl rfl rfl rfl True.intro rfl rfl ?_) | refine AOps.e (EStep.storeW tabOk rfl rfl rfl True.intro rfl rfl True.intro rfl rfl rfl rfl rfl rfl rfl ?_) | refine AOps.e (EStep.allocW tabOk rfl rfl rfl rfl rfl rfl ?_) | (refine AWP.condW rfl True.intro (fun hc => ?_) (fun hc => ?_) <;> (first | (simp only [decide_eq_true_eq] at hc) | (simp only [decide_eq_false_iff_not, Int.not_lt, Int.not_le] at hc) | skip)) | refine AWP.block ?_ | refine AWP.exit ?_ | refine AWP.skip ?_ | refine AWP.ret ?_ | refine AWP.drawK2 (by decide +kernel) (by kernel_rfl) (by decide +kernel) rfl (fun K' hK => ?_) | refine AWP.drawL2 (by kernel_rfl) (by decide +kernel) rfl (fun K' hK => ?_) | (refine AQ.nil (hK _ ?_); clear hK K') | refine AQ.nil ?_ | refine AQ.q rfl rfl (fun hg => by first | exact PRun.eq (v := .iptr (encP (s.parts.getD ((k : Nat) : Int).toNat default))) (PRun.indexMW tabOk rfl rfl nd rfl nd rfl rfl (by omega)) (congrArg (fun x => AV.iptr (encP x)) hP) | exact std0 | exact PRun.callW (h1) rfl rfl nd rfl nds | exact PRun.callW (h2) rfl rfl nd rfl nds | exact PRun.buildW tabOk rfl rfl nds | exact std1) (by exact rfl) ?_)
      · exact ⟨.inr rfl, _, rfl, Ent.of rfl⟩
      · exfalso; simp at hc; omega
    · have e : partAt s.parts r.part = -1 := by
        have h8 := findI_ge (fun x : Part => x.id == r.part) s.parts
        have h9 : partI s r.part = partAt s.parts r.part := rfl
        have h7 : partAt s.parts r.part = findI (fun x : Part => x.id == r.part) s.parts := rfl
        omega
      rw [e] at h2
      refine PCall.bodyS tabOk Tryz.func44 rfl rfl Tryz.ntmps44 rfl ?_
      repeat' (first | refine AOps.q rfl rfl rfl (fun hg => by first | exact std0 | exact PRun.callW (h1) rfl rfl nd rfl nds | exact PRun.callW (h2) rfl rfl nd rfl nds | exact (Bool.noConfusion (show false = true from hg) : PRun _ _ _ _ (.b false)) | exact PRun.buildW tabOk rfl rfl nds | exact std1) (by exact rfl) ?_ | refine AWP.seq ?_ | refine AWP.regionK (fun K' hK => ?_) | (refine AOps.nil (hK _ _ ?_); clear hK K') | refine AOps.e (EStep.boxW rfl rfl rfl rfl rfl True.intro rfl rfl ?_) | refine AOps.e (EStep.storeW tabOk rfl rfl rfl True.intro rfl rfl True.intro rfl rfl rfl rfl rfl rfl rfl ?_) | refine AOps.e (EStep.allocW tabOk rfl rfl rfl rfl rfl rfl ?_) | (refine AWP.condW rfl True.intro (fun hc => ?_) (fun hc => ?_) <;> (first | (simp only [decide_eq_true_eq] at hc) | (simp only [decide_eq_false_iff_not, Int.not_lt, Int.not_le] at hc) | skip)) | refine AWP.block ?_ | refine AWP.exit ?_ | refine AWP.skip ?_ | refine AWP.ret ?_ | refine AWP.drawK2 (by decide +kernel) (by kernel_rfl) (by decide +kernel) rfl (fun K' hK => ?_) | refine AWP.drawL2 (by kernel_rfl) (by decide +kernel) rfl (fun K' hK => ?_) | (refine AQ.nil (hK _ ?_); clear hK K') | refine AQ.nil ?_ | refine AQ.q rfl rfl (fun hg => by first | exact std0 | exact PRun.callW (h1) rfl rfl nd rfl nds | exact PRun.callW (h2) rfl rfl nd rfl nds | exact (Bool.noConfusion (show false = true from hg) : PRun _ _ _ _ (.b false)) | exact PRun.buildW tabOk rfl rfl nds | exact std1) (by exact rfl) ?_)
      · exact ⟨.inr rfl, _, rfl, Ent.of rfl⟩
      all_goals (exfalso; simp at hc)
theorem shownR_no {s : Score} {l : List Jo.Mark} {r : Rdr} (h : readsI s r = false) : shownR s l r = ([], 22) ∨ shownR s l r = ([], 1) := by
  unfold shownR
  split
  · rename_i hg
    simp only [Bool.and_eq_true] at hg
    unfold readsI at h
    rw [hg.2] at h
    split
    · rename_i hf
      rw [decide_eq_true hf] at h
      rw [if_pos (by simpa using h)]; exact .inl rfl
    · exact .inl rfl
  · exact .inr rfl
theorem reads_split {s : Score} {r : Rdr} (h : readsI s r = true) : isRdr r = true ∧ ∃ k : Nat, partI s r.part = k ∧ k < s.parts.length ∧ ¬ (s.parts.getD k default).desks < r.desk ∧ (s.parts.getD k default).id = r.part := by
  unfold readsI at h
  simp only [Bool.and_eq_true, Bool.not_eq_true', decide_eq_true_eq, decide_eq_false_iff_not] at h
  obtain ⟨⟨h1, h2⟩, h3⟩ := h
  obtain ⟨k, e1, e2, e3, e4⟩ := findI_lt h2
  have e1' : partI s r.part = k := e1
  rw [e1'] at h3
  exact ⟨h1, k, e1', e2, h3, by simpa using e3⟩
theorem shownR_yes {s : Score} {l : List Jo.Mark} {r : Rdr} (hok : scoreOk s = true) (hm : marksOk l = true) (hr : isRdr r = true) {k : Nat} {p : Part} (e : partI s r.part = k) (hP : s.parts.getD k default = p) (hd : ¬ p.desks < r.desk) :
    shownR s l r = (shownL (shownF s l p r) (playedL s.notes p), 0) := by
  unfold shownR
  rw [hok, hm, hr, if_pos (by rfl), e, if_pos (Int.natCast_nonneg k), Int.toNat_natCast, hP, if_neg hd]
theorem playsR_yes {s : Score} {id : Int} (hok : scoreOk s = true) {k : Nat} {p : Part} (e : partI s id = k) (hP : s.parts.getD k default = p) : playsR s id = (playedL s.notes p, 0) := by
  unfold playsR
  rw [if_pos hok, show findI (fun x : Part => x.id == id) s.parts = (k : Int) from e, if_pos (Int.natCast_nonneg k), Int.toNat_natCast, hP]
theorem usableR_split {s : Score} {l : List Jo.Mark} (h : usableR s l = true) : s.few = true ∧ l.length ≤ 40 ∧ scoreOk s = true ∧ marksOk l = true := by
  unfold usableR at h
  simp only [Bool.and_eq_true, decide_eq_true_eq] at h
  exact ⟨h.1.1.1, by omega, h.1.2, h.2⟩
theorem scoreOk_nodup {s : Score} (h : scoreOk s = true) : (s.notes.map (·.id)).Nodup := by
  unfold scoreOk scoreBad at h
  simp only [Bool.and_eq_true, Bool.not_eq_true', Bool.or_eq_false_iff, Bool.not_eq_false'] at h
  exact notesOk_nodup h.1.1.2
theorem lk_seen_yes {α : Type} (f : α → Int) {l : List α} {k : Int} (h : k ∈ l.map f) : lk (seenAL f l) k = some true := by
  have h1 := lk_seen f l k
  rw [decide_eq_true h] at h1
  cases hl : lk (seenAL f l) k with
  | none => rw [hl] at h1; cases h1
  | some b => rw [hl] at h1; simp at h1; rw [h1]
end Go.Proofs.YthfcafcjkaemiaaGreatDoor.Mk
