/- The law NotesOthers by content. -/
import Derived.Test.YtnmdmmfdnnmdfaaDoorNK
set_option linter.unusedVariables false
set_option linter.unusedSimpArgs false
namespace Go.Proofs.YtnmdmmfdnnmdfaaDoor.Nt
open Go.Ab
attribute [local irreducible] AWP AOps EStep AQ PStep PRun PCall TCall VCall

/-- A note with other numbers, and another pitch where it may have it. -/
def modV (i : Nat) (n : Note) : Note := { n with voice := ((i % 10 : Nat) : Int), ossia := ((i % 21 : Nat) : Int) }
def modN (bars : List Bar) (pt : Pitch) (i : Nat) (n : Note) : Note := if noteOk bars { modV i n with pitch := pt } then { modV i n with pitch := pt } else modV i n
def ownP (bars : List Bar) (pt : Pitch) (p b : Int) (l : List Note) (k : Nat) : List Note := (List.range k).foldl (fun out i => if isOf p b (l.getD i default) then out ++ [modN bars pt i (l.getD i default)] else out) []
theorem ownP_succ (bars : List Bar) (pt : Pitch) (p b : Int) (l : List Note) (k : Nat) : ownP bars pt p b l (k + 1) = if isOf p b (l.getD k default) then ownP bars pt p b l k ++ [modN bars pt k (l.getD k default)] else ownP bars pt p b l k := by
  unfold ownP; rw [List.range_succ, List.foldl_append]; rfl
theorem modN_same (bars : List Bar) (pt : Pitch) (i : Nat) (n : Note) : (modN bars pt i n).id = n.id ∧ (modN bars pt i n).part = n.part ∧ (modN bars pt i n).bar = n.bar ∧ iv (modN bars pt i n) = iv n := by
  unfold modN; split <;> exact ⟨rfl, rfl, rfl, rfl⟩
theorem modV_ok {bars : List Bar} {n : Note} (h : noteOk bars n = true) (i : Nat) : noteOk bars (modV i n) = true := by
  unfold noteOk at h ⊢
  show (match lk (idxAL bars) n.bar with | some i' => nformed (bars.getD i'.toNat default) (modV i n) | none => false) = true
  split at h
  · rename_i i' hi
    rw [hi]
    show nformed (bars.getD i'.toNat default) (modV i n) = true
    unfold nformed at h ⊢
    rw [Bool.and_eq_true] at h ⊢
    refine ⟨h.1, ?_⟩
    have h2 := h.2
    unfold noteForm at h2 ⊢
    simp only [Bool.and_eq_true] at h2 ⊢
    refine ⟨⟨⟨h2.1.1.1, ?_⟩, ?_⟩, h2.2⟩
    · show inB ((i % 10 : Nat) : Int) 0 9 = true
      simp only [inB, Bool.and_eq_true, decide_eq_true_eq]; omega
    · show inB ((i % 21 : Nat) : Int) 0 20 = true
      simp only [inB, Bool.and_eq_true, decide_eq_true_eq]; omega
  · cases h
theorem modN_ok {bars : List Bar} {n : Note} (h : noteOk bars n = true) (pt : Pitch) (i : Nat) : noteOk bars (modN bars pt i n) = true := by
  unfold modN
  split
  · assumption
  · exact modV_ok h i
theorem ownP_facts {bars : List Bar} {l : List Note} (hn : ∀ n ∈ l, noteOk bars n = true) (pt : Pitch) (p b : Int) : ∀ k, k ≤ l.length → (∀ x ∈ ownP bars pt p b l k, noteOk bars x = true ∧ isOf p b x = true) ∧ (ownP bars pt p b l k).map iv = ((l.take k).filter (isOf p b)).map iv ∧ (ownP bars pt p b l k).map (·.id) = ((l.take k).filter (isOf p b)).map (·.id)
  | 0, _ => ⟨fun x hx => by simp [ownP] at hx, by simp [ownP], by simp [ownP]⟩
  | k + 1, hk => by
    obtain ⟨h1, h2, h3⟩ := ownP_facts hn pt p b k (by omega)
    rw [ownP_succ, take_snoc' (show k < l.length by omega), List.filter_append]
    obtain ⟨m1, m2, m3, m4⟩ := modN_same bars pt k (l.getD k default)
    by_cases h : isOf p b (l.getD k default) = true
    · rw [if_pos h, List.filter_cons_of_pos h, List.filter_nil]
      refine ⟨fun x hx => ?_, ?_, ?_⟩
      · rcases List.mem_append.1 hx with hx | hx
        · exact h1 x hx
        · rw [List.mem_singleton.1 hx]
          refine ⟨modN_ok (hn _ (getD_mem (by omega))) pt k, ?_⟩
          unfold isOf at h ⊢
          rw [m2, m3]; exact h
      · rw [List.map_append, List.map_append, h2, List.map_singleton, List.map_singleton, m4]
      · rw [List.map_append, List.map_append, h3, List.map_singleton, List.map_singleton, m1]
    · rw [if_neg h, List.filter_cons_of_neg h, List.filter_nil, List.append_nil]
      exact ⟨h1, h2, h3⟩
theorem ownP_len (bars : List Bar) (pt : Pitch) (p b : Int) (l : List Note) : ∀ k, (ownP bars pt p b l k).length ≤ k
  | 0 => by simp [ownP]
  | k + 1 => by
    have := ownP_len bars pt p b l k
    rw [ownP_succ]; split
    · simp; omega
    · omega
theorem others_same {bars : List Bar} {l : List Note} (h : notesOk bars l = true) (hl : l.length ≤ 60) (pt : Pitch) {p : Int} (hp : 1 ≤ p ∧ p ≤ 1000000) {b : Bar} (hb : b ∈ bars) :
    restsR bars (ownP bars pt p b.id l l.length) p b.id = restsR bars l p b.id ∧ (restsR bars l p b.id).2 = 0 := by
  obtain ⟨hbo, hno⟩ := notesOk_bars h
  obtain ⟨f1, f2, f3⟩ := ownP_facts hno pt p b.id l.length (Nat.le_refl _)
  rw [List.take_length] at f2 f3
  have hlen := ownP_len bars pt p b.id l l.length
  have hok : notesOk bars (ownP bars pt p b.id l l.length) = true := by
    unfold notesOk
    simp only [Bool.and_eq_true, decide_eq_true_eq, List.all_eq_true]
    refine ⟨⟨⟨hbo, by omega⟩, fun x hx => (f1 x hx).1⟩, ?_⟩
    rw [f3]; exact nodup_filter (notesOk_nodup h) _
  have h0 := ofR_some h hp hb
  have h1 := ofR_some hok hp hb
  have hfil : (ownP bars pt p b.id l l.length).filter (isOf p b.id) = ownP bars pt p b.id l l.length := List.filter_eq_self.2 fun x hx => (f1 x hx).2
  have he := spans_ext h1 h0 (fun t => by rw [hfil, f2])
  unfold restsR
  rw [if_pos h0, if_pos h1, he]
  exact ⟨rfl, rfl⟩
set_option maxHeartbeats 16000000 in
set_option maxRecDepth 40000 in
theorem others_law (bars : List Bar) (hb : bars.length ≤ 9223372036854775807) (l : List Note) (hl : l.length ≤ 9223372036854775807) (p : Int) (w : Int) (hw : 0 ≤ w ∧ w ≤ 255) (pt : Pitch) :
    PCall Tryd.prog 9 [.sl 4 (bars.map encB) .no, .sl 12 (l.map encN) .no, .int p, .prim (.int .u8 w), .agg (encPi pt)] (.b true) := by
  have hh := head_spec
  have hu := usable7_spec bars l hb hl
  by_cases hg0 : ((decide ((bars.length : Int) ≤ 60) && decide ((l.length : Int) ≤ 60)) && notesOk bars l) = true ∧ 1 ≤ p ∧ p ≤ 1000000
  · obtain ⟨hg, hp⟩ := hg0
    obtain ⟨hb60, hl60, hn⟩ := usable_iff hg
    rw [hg] at hu
    obtain ⟨hbo, hno⟩ := notesOk_bars hn
    have hpos := bars_pos hbo
    obtain ⟨j, hj⟩ : ∃ j : Nat, w.tmod (bars.length : Nat) = (j : Int) := ⟨(w.tmod (bars.length : Nat)).toNat, by have := tmod_in hw.1 (w := (bars.length : Nat)) (by omega); omega⟩
    have hjl : j < bars.length := by have := (tmod_in hw.1 (w := (bars.length : Nat)) (by omega)).2; omega
    have hb0 : ((bars.length : Nat) : Int) ≠ 0 := by omega
    obtain ⟨b, hbj⟩ : ∃ b, bars.getD j default = b := ⟨_, rfl⟩
    have hbm : b ∈ bars := by rw [← hbj]; exact getD_mem hjl
    obtain ⟨s1, s2⟩ := others_same hn hl60 pt hp hbm
    have hlen := ownP_len bars pt p b.id l
    have c1 := rests_spec bars l (by omega) (by omega) p b.id
    have c2 := rests_spec bars (ownP bars pt p b.id l l.length) (by omega) (by have := hlen l.length; omega) p b.id
    rw [s1] at c2
    rw [s2] at c1 c2
    have lr := restsR_len bars l p b.id
    have c3 := sameX (restsR bars l p b.id).1 (by omega)
    generalize (restsR bars l p b.id).1 = xs at *
    clear s1 s2
    refine PCall.body Tryd.func9 rfl rfl Tryd.ntmps9 rfl rfl ?_
    repeat' (first | refine AOps.q rfl rfl rfl (fun hg => by first | exact PRun.eq (v := .iptr (encB (bars.getD ((j : Nat) : Int).toNat default))) (PRun.indexMW tabOk rfl rfl nd rfl nd rfl rfl ⟨Int.natCast_nonneg _, Int.ofNat_lt.2 hjl⟩) (congrArg (fun x => AV.iptr (encB x)) hbj) | exact PRun.convV tabOk (wrap64 ⟨by omega, by omega⟩) rfl rfl nd rfl rfl | exact PRun.remV hj hb0 rfl rfl nd rfl nd | exact std0 | exact PRun.callW (hh) rfl rfl nd rfl nds | exact PRun.callW (hu) rfl rfl nd rfl nds | exact std1) (by exact rfl) ?_ | refine AWP.seq ?_ | refine AWP.regionK (fun K' hK => ?_) | (refine AOps.nil (hK _ _ ?_); clear hK K') | refine AOps.e (EStep.boxW rfl rfl rfl rfl rfl True.intro rfl rfl ?_) | refine AOps.e (EStep.storeW tabOk rfl rfl rfl True.intro rfl rfl True.intro rfl rfl rfl rfl rfl rfl rfl ?_) | refine AOps.e (EStep.allocW tabOk rfl rfl rfl rfl rfl rfl ?_) | (refine AWP.condW rfl True.intro (fun hc => ?_) (fun hc => ?_) <;> (first | (simp only [decide_eq_true_eq] at hc) | (simp only [decide_eq_false_iff_not, Int.not_lt, Int.not_le] at hc) | skip)) | refine AWP.block ?_ | refine AWP.exit ?_ | refine AWP.skip ?_ | refine AWP.ret ?_ | (refine AQ.nil (hK _ ?_); clear hK K') | refine AQ.nil ?_ | refine AQ.q rfl rfl (fun hg => by first | exact PRun.eq (v := .iptr (encB (bars.getD ((j : Nat) : Int).toNat default))) (PRun.indexMW tabOk rfl rfl nd rfl nd rfl rfl ⟨Int.natCast_nonneg _, Int.ofNat_lt.2 hjl⟩) (congrArg (fun x => AV.iptr (encB x)) hbj) | exact PRun.convV tabOk (wrap64 ⟨by omega, by omega⟩) rfl rfl nd rfl rfl | exact PRun.remV hj hb0 rfl rfl nd rfl nd | exact std0 | exact PRun.callW (hh) rfl rfl nd rfl nds | exact PRun.callW (hu) rfl rfl nd rfl nds | exact std1) (by exact rfl) ?_)
    all_goals (first | (exfalso; simp at hc; omega) | (exfalso; simp at hc; done) | skip)
    refine AWP.ownNil (d := 13) (sz := 12) rfl ?_
    refine AWP.loopD (ι := Nat) (fun k => [(0, .sl 4 (bars.map encB) .no), (1, .sl 12 (l.map encN) .no), (2, .int p), (9, .ptr 0 0), (11, .b true), (12, .ptr 1 0), (13, .sl 12 ((ownP bars pt p b.id l k).map encN) (.own 2)), (43, .sl 12 (l.map encN) .no), (44, .int l.length), (45, .int k)])
      (fun k => [.var (encPi pt), .var (encB b), .own 12 ((ownP bars pt p b.id l k).map encN).length]) (fun k => k ≤ l.length) (fun k => l.length - k) 3 (fun _ => rfl) 0 (Nat.zero_le _) ⟨rfl, rfl, rfl, rfl, rfl, rfl, rfl, rfl, rfl, rfl, True.intro⟩ rfl (fun _ _ => rfl) (fun _ _ => rfl) ?_
    intro k hk
    by_cases hlt : k < l.length
    · obtain ⟨n, hnk⟩ : ∃ n, l.getD k default = n := ⟨_, rfl⟩
      have hr10 : Int.tmod ((k : Nat) : Int) 10 = ((k % 10 : Nat) : Int) := (Int.ofNat_tmod k 10).symm
      have hr21 : Int.tmod ((k : Nat) : Int) 21 = ((k % 21 : Nat) : Int) := (Int.ofNat_tmod k 21).symm
      have hsuc := ownP_succ bars pt p b.id l k
      rw [hnk] at hsuc
      have hol := hlen k
      have cn := r7note_spec bars { modV k n with pitch := pt } hb
      rw [noteX_ok hbo] at cn
      have hll : ((ownP bars pt p b.id l k).map encN).length ≤ 60 := by simp; omega
      by_cases hof : isOf p b.id n = true
      · have hof2 : (n.part != p || n.bar != b.id) = false := by
          unfold isOf at hof
          simp only [Bool.and_eq_true, beq_iff_eq] at hof
          rw [hof.1, hof.2]; simp
        rw [if_pos hof] at hsuc
        by_cases hok : noteOk bars { modV k n with pitch := pt } = true
        · rw [hok] at cn
          have hm : modN bars pt k n = { modV k n with pitch := pt } := if_pos hok
          rw [hm] at hsuc
          have hsm : (ownP bars pt p b.id l (k + 1)).map encN = (ownP bars pt p b.id l k).map encN ++ [encN { modV k n with pitch := pt }] := by rw [hsuc, List.map_append]; rfl
          generalize (ownP bars pt p b.id l k).map encN = L at *
          clear hsuc hm
          repeat' (first | refine AOps.q rfl rfl rfl (fun hg => by first | exact PRun.remV hr21 (by decide) rfl rfl nd rfl nd | exact PRun.remV hr10 (by decide) rfl rfl nd rfl nd | exact PRun.eq (v := .iptr (encN (l.getD ((k : Nat) : Int).toNat default))) (PRun.indexMW tabOk rfl rfl nd rfl nd rfl rfl (by omega)) (congrArg (fun x => AV.iptr (encN x)) hnk) | exact std0 | exact PRun.callW (cn) rfl rfl nd rfl nds | exact PRun.buildSlW tabOk rfl rfl nds | exact std1) (by exact rfl) ?_ | refine AWP.seq ?_ | refine AWP.regionK (fun K' hK => ?_) | (refine AOps.nil (hK _ _ ?_); clear hK K') | refine AOps.e (EStep.boxW rfl rfl rfl rfl rfl True.intro rfl rfl ?_) | refine AOps.e (EStep.storeW tabOk rfl rfl rfl True.intro rfl rfl True.intro rfl rfl rfl rfl rfl rfl rfl ?_) | refine AOps.e (EStep.allocW tabOk rfl rfl rfl rfl rfl rfl ?_) | refine AOps.e (EStep.appendOwn' tabOk rfl rfl rfl (by decide) (Rd.w rfl True.intro) rfl (Rd.w rfl True.intro) (.sl rfl (by first | (intro x hx; rcases List.mem_singleton.1 hx with rfl; rfl) | exact one_encN _)) (LOk.of (tabOk.get rfl)) (LOk.of (tabOk.get rfl)) rfl rfl (by simp only [List.length_map, List.length_append, List.length_cons, List.length_nil, List.length_take, List.length_drop]; omega) (by simp only [List.length_map, List.length_append, List.length_cons, List.length_nil, List.length_take, List.length_drop]; omega) ?_) | (refine AWP.condW rfl True.intro (fun hc => ?_) (fun hc => ?_) <;> (first | (simp only [decide_eq_true_eq] at hc) | (simp only [decide_eq_false_iff_not, Int.not_lt, Int.not_le] at hc) | skip)) | refine AWP.block ?_ | refine AWP.exit ?_ | refine AWP.skip ?_ | refine AWP.ret ?_ | refine AWP.drawK2 (by decide +kernel) (by kernel_rfl) (by decide +kernel) rfl (fun K' hK => ?_) | refine AWP.drawL2 (by kernel_rfl) (by decide +kernel) rfl (fun K' hK => ?_) | (refine AQ.nil (hK _ ?_); clear hK K') | refine AQ.nil ?_ | refine AQ.q rfl rfl (fun hg => by first | exact PRun.remV hr21 (by decide) rfl rfl nd rfl nd | exact PRun.remV hr10 (by decide) rfl rfl nd rfl nd | exact PRun.eq (v := .iptr (encN (l.getD ((k : Nat) : Int).toNat default))) (PRun.indexMW tabOk rfl rfl nd rfl nd rfl rfl (by omega)) (congrArg (fun x => AV.iptr (encN x)) hnk) | exact std0 | exact PRun.callW (cn) rfl rfl nd rfl nds | exact PRun.buildSlW tabOk rfl rfl nds | exact std1) (by exact rfl) ?_)
          all_goals (first | (exfalso; omega) | (exact absurd (hof2.symm.trans hc) (by decide)) | (exfalso; simp at hc; done) | (exfalso; simp at hc; omega) | skip)
          refine ⟨k + 1, hlt, by omega, ⟨rfl, rfl, rfl, rfl, rfl, rfl, ?_, rfl, rfl, rfl, True.intro⟩, ?_⟩
          · rw [hsm]; rfl
          · rw [hsm]; rfl
        · have hok2 : noteOk bars { modV k n with pitch := pt } = false := by simpa using hok
          rw [hok2] at cn
          have hm : modN bars pt k n = modV k n := if_neg hok
          rw [hm] at hsuc
          have hsm : (ownP bars pt p b.id l (k + 1)).map encN = (ownP bars pt p b.id l k).map encN ++ [encN (modV k n)] := by rw [hsuc, List.map_append]; rfl
          generalize (ownP bars pt p b.id l k).map encN = L at *
          clear hsuc hm
          repeat' (first | refine AOps.q rfl rfl rfl (fun hg => by first | exact PRun.remV hr21 (by decide) rfl rfl nd rfl nd | exact PRun.remV hr10 (by decide) rfl rfl nd rfl nd | exact PRun.eq (v := .iptr (encN (l.getD ((k : Nat) : Int).toNat default))) (PRun.indexMW tabOk rfl rfl nd rfl nd rfl rfl (by omega)) (congrArg (fun x => AV.iptr (encN x)) hnk) | exact std0 | exact PRun.callW (cn) rfl rfl nd rfl nds | exact PRun.buildSlW tabOk rfl rfl nds | exact std1) (by exact rfl) ?_ | refine AWP.seq ?_ | refine AWP.regionK (fun K' hK => ?_) | (refine AOps.nil (hK _ _ ?_); clear hK K') | refine AOps.e (EStep.boxW rfl rfl rfl rfl rfl True.intro rfl rfl ?_) | refine AOps.e (EStep.storeW tabOk rfl rfl rfl True.intro rfl rfl True.intro rfl rfl rfl rfl rfl rfl rfl ?_) | refine AOps.e (EStep.allocW tabOk rfl rfl rfl rfl rfl rfl ?_) | refine AOps.e (EStep.appendOwn' tabOk rfl rfl rfl (by decide) (Rd.w rfl True.intro) rfl (Rd.w rfl True.intro) (.sl rfl (by first | (intro x hx; rcases List.mem_singleton.1 hx with rfl; rfl) | exact one_encN _)) (LOk.of (tabOk.get rfl)) (LOk.of (tabOk.get rfl)) rfl rfl (by simp only [List.length_map, List.length_append, List.length_cons, List.length_nil, List.length_take, List.length_drop]; omega) (by simp only [List.length_map, List.length_append, List.length_cons, List.length_nil, List.length_take, List.length_drop]; omega) ?_) | (refine AWP.condW rfl True.intro (fun hc => ?_) (fun hc => ?_) <;> (first | (simp only [decide_eq_true_eq] at hc) | (simp only [decide_eq_false_iff_not, Int.not_lt, Int.not_le] at hc) | skip)) | refine AWP.block ?_ | refine AWP.exit ?_ | refine AWP.skip ?_ | refine AWP.ret ?_ | refine AWP.drawK2 (by decide +kernel) (by kernel_rfl) (by decide +kernel) rfl (fun K' hK => ?_) | refine AWP.drawL2 (by kernel_rfl) (by decide +kernel) rfl (fun K' hK => ?_) | (refine AQ.nil (hK _ ?_); clear hK K') | refine AQ.nil ?_ | refine AQ.q rfl rfl (fun hg => by first | exact PRun.remV hr21 (by decide) rfl rfl nd rfl nd | exact PRun.remV hr10 (by decide) rfl rfl nd rfl nd | exact PRun.eq (v := .iptr (encN (l.getD ((k : Nat) : Int).toNat default))) (PRun.indexMW tabOk rfl rfl nd rfl nd rfl rfl (by omega)) (congrArg (fun x => AV.iptr (encN x)) hnk) | exact std0 | exact PRun.callW (cn) rfl rfl nd rfl nds | exact PRun.buildSlW tabOk rfl rfl nds | exact std1) (by exact rfl) ?_)
          all_goals (first | (exfalso; omega) | (exact absurd (hof2.symm.trans hc) (by decide)) | (exfalso; simp at hc; done) | (exfalso; simp at hc; omega) | skip)
          refine ⟨k + 1, hlt, by omega, ⟨rfl, rfl, rfl, rfl, rfl, rfl, ?_, rfl, rfl, rfl, True.intro⟩, ?_⟩
          · rw [hsm]; rfl
          · rw [hsm]; rfl
      · have hof2 : (n.part != p || n.bar != b.id) = true := by
          unfold isOf at hof
          simp only [Bool.and_eq_true, beq_iff_eq, not_and] at hof
          simp only [Bool.or_eq_true, bne_iff_ne]
          by_cases h : n.part = p
          · exact .inr (hof h)
          · exact .inl h
        rw [if_neg hof] at hsuc
        repeat' (first | refine AOps.q rfl rfl rfl (fun hg => by first | exact PRun.eq (v := .iptr (encN (l.getD ((k : Nat) : Int).toNat default))) (PRun.indexMW tabOk rfl rfl nd rfl nd rfl rfl (by omega)) (congrArg (fun x => AV.iptr (encN x)) hnk) | exact std0 | exact std1) (by exact rfl) ?_ | refine AWP.seq ?_ | refine AWP.regionK (fun K' hK => ?_) | (refine AOps.nil (hK _ _ ?_); clear hK K') | refine AOps.e (EStep.boxW rfl rfl rfl rfl rfl True.intro rfl rfl ?_) | refine AOps.e (EStep.storeW tabOk rfl rfl rfl True.intro rfl rfl True.intro rfl rfl rfl rfl rfl rfl rfl ?_) | refine AOps.e (EStep.allocW tabOk rfl rfl rfl rfl rfl rfl ?_) | (refine AWP.condW rfl True.intro (fun hc => ?_) (fun hc => ?_) <;> (first | (simp only [decide_eq_true_eq] at hc) | (simp only [decide_eq_false_iff_not, Int.not_lt, Int.not_le] at hc) | skip)) | refine AWP.block ?_ | refine AWP.exit ?_ | refine AWP.skip ?_ | refine AWP.ret ?_ | (refine AQ.nil (hK _ ?_); clear hK K') | refine AQ.nil ?_ | refine AQ.q rfl rfl (fun hg => by first | exact PRun.eq (v := .iptr (encN (l.getD ((k : Nat) : Int).toNat default))) (PRun.indexMW tabOk rfl rfl nd rfl nd rfl rfl (by omega)) (congrArg (fun x => AV.iptr (encN x)) hnk) | exact std0 | exact std1) (by exact rfl) ?_)
        all_goals (first | (exfalso; omega) | (exact absurd (hc.symm.trans hof2) (by decide)) | (exfalso; simp at hc; done) | (rename_i h0; exfalso; simp at h0; omega) | skip)
        all_goals (first | (refine ⟨k + 1, hlt, by omega, ⟨rfl, rfl, rfl, rfl, rfl, rfl, ?_, rfl, rfl, rfl, True.intro⟩, ?_⟩ <;> (rw [hsuc]; rfl)) | (rename_i h0; exact absurd (h0.symm.trans hof2) (by decide)) | skip)
    · obtain rfl : k = l.length := by omega
      repeat' (first | refine AOps.q rfl rfl rfl (fun hg => by first | exact std0 | exact PRun.callW (c1) rfl rfl nd rfl nds | exact PRun.callW (c2) rfl rfl nd rfl nds | exact PRun.callW (c3) rfl rfl nd rfl nds | exact std1) (by exact rfl) ?_ | refine AWP.seq ?_ | refine AWP.regionK (fun K' hK => ?_) | (refine AOps.nil (hK _ _ ?_); clear hK K') | refine AOps.e (EStep.boxW rfl rfl rfl rfl rfl True.intro rfl rfl ?_) | refine AOps.e (EStep.storeW tabOk rfl rfl rfl True.intro rfl rfl True.intro rfl rfl rfl rfl rfl rfl rfl ?_) | refine AOps.e (EStep.allocW tabOk rfl rfl rfl rfl rfl rfl ?_) | (refine AWP.condW rfl True.intro (fun hc => ?_) (fun hc => ?_) <;> (first | (simp only [decide_eq_true_eq] at hc) | (simp only [decide_eq_false_iff_not, Int.not_lt, Int.not_le] at hc) | skip)) | refine AWP.block ?_ | refine AWP.exit ?_ | refine AWP.skip ?_ | refine AWP.ret ?_ | refine AWP.drawK2 (by decide +kernel) (by kernel_rfl) (by decide +kernel) rfl (fun K' hK => ?_) | refine AWP.drawL2 (by kernel_rfl) (by decide +kernel) rfl (fun K' hK => ?_) | (refine AQ.nil (hK _ ?_); clear hK K') | refine AQ.nil ?_ | refine AQ.q rfl rfl (fun hg => by first | exact std0 | exact PRun.callW (c1) rfl rfl nd rfl nds | exact PRun.callW (c2) rfl rfl nd rfl nds | exact PRun.callW (c3) rfl rfl nd rfl nds | exact std1) (by exact rfl) ?_)
      all_goals (first | (exfalso; omega) | (exfalso; simp at hc; omega) | skip)
      exact ⟨.inr rfl, Ent.b (by simp)⟩
  · refine PCall.body Tryd.func9 rfl rfl Tryd.ntmps9 rfl rfl ?_
    repeat' (first | refine AOps.q rfl rfl rfl (fun hg => by first | exact std0 | exact PRun.callW (hh) rfl rfl nd rfl nds | exact PRun.callW (hu) rfl rfl nd rfl nds | exact (Bool.noConfusion (show false = true from hg) : PRun _ _ _ _ (.b false)) | exact std1) (by exact rfl) ?_ | refine AWP.seq ?_ | refine AWP.regionK (fun K' hK => ?_) | (refine AOps.nil (hK _ _ ?_); clear hK K') | refine AOps.e (EStep.boxW rfl rfl rfl rfl rfl True.intro rfl rfl ?_) | refine AOps.e (EStep.storeW tabOk rfl rfl rfl True.intro rfl rfl True.intro rfl rfl rfl rfl rfl rfl rfl ?_) | refine AOps.e (EStep.allocW tabOk rfl rfl rfl rfl rfl rfl ?_) | fail | refine AWP.block ?_ | refine AWP.exit ?_ | refine AWP.skip ?_ | refine AWP.ret ?_ | (refine AQ.nil (hK _ ?_); clear hK K') | refine AQ.nil ?_ | refine AQ.q rfl rfl (fun hg => by first | exact std0 | exact PRun.callW (hh) rfl rfl nd rfl nds | exact PRun.callW (hu) rfl rfl nd rfl nds | exact (Bool.noConfusion (show false = true from hg) : PRun _ _ _ _ (.b false)) | exact std1) (by exact rfl) ?_)
    refine AWP.condW rfl True.intro (fun hc => ?_) (fun hc => ?_)
    · repeat' (first | refine AOps.q rfl rfl rfl (fun hg => by first | exact std0 | exact std1) (by exact rfl) ?_ | refine AWP.seq ?_ | refine AWP.regionK (fun K' hK => ?_) | (refine AOps.nil (hK _ _ ?_); clear hK K') | refine AOps.e (EStep.boxW rfl rfl rfl rfl rfl True.intro rfl rfl ?_) | refine AOps.e (EStep.storeW tabOk rfl rfl rfl True.intro rfl rfl True.intro rfl rfl rfl rfl rfl rfl rfl ?_) | refine AOps.e (EStep.allocW tabOk rfl rfl rfl rfl rfl rfl ?_) | (refine AWP.condW rfl True.intro (fun hc => ?_) (fun hc => ?_) <;> (first | (simp only [decide_eq_true_eq] at hc) | (simp only [decide_eq_false_iff_not, Int.not_lt, Int.not_le] at hc) | skip)) | refine AWP.block ?_ | refine AWP.exit ?_ | refine AWP.skip ?_ | refine AWP.ret ?_ | (refine AQ.nil (hK _ ?_); clear hK K') | refine AQ.nil ?_ | refine AQ.q rfl rfl (fun hg => by first | exact std0 | exact std1) (by exact rfl) ?_)
      exact ⟨.inr rfl, Ent.b rfl⟩
    · exfalso
      apply hg0
      simp only [Bool.or_eq_false_iff, Bool.not_eq_false', decide_eq_false_iff_not] at hc
      exact ⟨hc.1.1, by omega, by omega⟩
end Go.Proofs.YtnmdmmfdnnmdfaaDoor.Nt
