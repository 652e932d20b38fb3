/- Contracts by content: the reference's order and sort of notes.  Contracts by content: the reference of scores: Range, Wrong, Same, Valid, Bar, Part, Note.  Contracts by content: the reference of align: alike, the notes of a bar, the same music, what it costs. No statement is proved here. -/
import Derived.Test.YtekfpcgagoidcaaGreatDoorQ10
import Derived.Test.YtekfpcgagoidcaaGreatDoorQ12
import Derived.Test.YtekfpcgagoidcaaGreatDoorQ15
import Derived.Test.YtekfpcgagoidcaaGreatDoorQ17
set_option linter.unusedVariables false
set_option linter.unusedSimpArgs false
namespace Go.Ab
theorem EStep.gd {P : Program} {n : Nat} {ops : Array Oper} {o : Oper} {k : Env → Store → Prop} {env : Env} {σ : Store} {g : GG} (hg : gOf ops env o = some g) (hh : g.holds) (h : EStep P n ops { o with guard := none } k env σ) : EStep P n ops o k env σ := by
  intro G a w hr
  have h' := h G a w hr
  rw [if_pos (by simp [Region.wanted])] at h'
  have hw : Region.wanted o (yielded ops a.tmps) = true := by
    unfold gOf at hg
    split at hg
    · rename_i hgd; simp [Region.wanted, hgd]
    · rename_i j want hgd
      split at hg
      · rename_i d hd
        have hz := hr.vals d
        have key : ∀ t, (t == want) = true → a.tmps.getD d undef = .bool t → Region.wanted o (yielded ops a.tmps) = true := fun t ht h1 => by
          have h2 : a.tmps[d]? = some (.bool t) := by
            cases h : a.tmps[d]? with
            | none => simp [h, undef] at h1
            | some y => simp [h] at h1; rw [h1]
          simp only [Region.wanted, hgd, yielded, hd, Option.bind_some, h2]
          cases t <;> cases want <;> first | rfl | cases ht
        split at hg
        · rename_i t he
          simp at hg; subst hg
          rw [he] at hz
          exact key t hh (VRel.prim_eq hz)
        · rename_i g' t he
          simp at hg; subst hg
          have hh' : g' = true ∧ (t == want) = true := by simpa using hh
          rw [he] at hz
          cases hz with
          | when _ _ _ h0 h1 => exact key t hh'.2 (VRel.prim_eq (h0 hh'.1))
        · simp at hg
      · simp at hg
  rw [if_pos hw]
  exact h'
end Go.Ab


namespace Go.Proofs.YtekfpcgagoidcaaGreatDoor
open Go.Ab Go.Sort
attribute [local irreducible] AWP AOps EStep AQ PStep PRun PCall TCall VCall

theorem bneF {a b : Int} (h : (a != b) = false) : (a == b) = true := by simpa using h
theorem bneT {a b : Int} (h : (a != b) = true) : (a == b) = false := by simpa using h
theorem lk0_bar {bars : List Bar} {n : Note} (hb : barsOk bars = true) (h : noteOk bars n = true) : barAt bars n.bar = lk0 (idxAL bars) n.bar := by
  rcases lk_bar (barsOk_nodup hb) n.bar with ⟨h1, h2⟩ | ⟨j, h1, h2, h3, h4⟩
  · unfold noteOk at h; rw [h1] at h; cases h
  · unfold lk0; rw [h1, h2]; rfl
theorem noteOk_form {bars : List Bar} {n : Note} (h : noteOk bars n = true) : durOk n.start = true ∧ pitchOk n.pitch = true := by
  unfold noteOk at h
  split at h
  · unfold nformed fits noteForm noteP at h
    simp only [Bool.and_eq_true] at h
    refine ⟨?_, h.2.2.1.1⟩
    have := h.1.1.1.1
    unfold ticksR at this
    by_cases h2 : durOk n.start = true
    · exact h2
    · rw [if_neg h2] at this; cases this
  · cases h
set_option maxHeartbeats 4000000 in
theorem keys_spec (bars : List Bar) (n : Note) (hl : bars.length ≤ 9223372036854775807) (hb : barsOk bars = true) (h : noteOk bars n = true) : PCall Tryz.prog 121 [.sl 4 (bars.map encB) .no, .agg (encN n)] (.sl 1 ((keyN (idxAL bars) n).map fun n => [AV.int n]) .no) := by
  obtain ⟨f1, f2⟩ := noteOk_form h
  have h1 := r7bar_spec bars n.bar hl
  rw [lk0_bar hb h] at h1
  have h2 := ticks6_spec n.start
  have e2 : ticksX n.start = (ticksR n.start).1 := by unfold ticksX ticksR; rw [if_pos f1, if_pos f1]
  rw [e2] at h2
  have h3 := sound_spec n.pitch (pitchIn_ok f2)
  rw [soundR_num f2] at h3
  refine PCall.body Tryz.func121 rfl rfl Tryz.ntmps121 rfl rfl ?_
  repeat' (first | refine AOps.q rfl rfl rfl (fun hg => by exact std0) (by exact rfl) ?_ | refine AWP.seq ?_ | refine AWP.regionK (fun K' hK => ?_) | (refine AOps.nil (hK _ _ ?_); clear hK K') | refine AOps.e (EStep.boxW rfl rfl rfl rfl rfl True.intro rfl rfl ?_) | refine AWP.ret ?_ | refine AWP.drawK2 (by decide +kernel) (by kernel_rfl) (by decide +kernel) rfl (fun K' hK => ?_) | (refine AQ.nil (hK _ ?_); clear hK K') | refine AQ.q rfl rfl (fun hg => by first | exact std0 | exact PRun.callW (h1) rfl rfl nd rfl nds | exact PRun.callW (h2) rfl rfl nd rfl nds | exact PRun.callW (h3) rfl rfl nd rfl nds | exact PRun.buildSlW tabOk rfl rfl nds) (by exact rfl) ?_)
  exact ⟨.inr rfl, Ent.of rfl⟩
theorem cmpK_diff {a b : List Int} {k : Nat} (hl : a.length = b.length) (hk : k < a.length) (h : ∀ j, j < k → a.getD j default = b.getD j default) (h1 : a.getD k default ≠ b.getD k default) : cmpK a b = a.getD k default - b.getD k default := by
  unfold cmpK
  have hz : ∀ j, j < a.length → (List.zipWith (· - ·) a b).getD j default = a.getD j default - b.getD j default := fun j hj => by
    rw [getD_lt (show j < (List.zipWith (· - ·) a b).length by simp; omega), getD_lt hj, getD_lt (show j < b.length by omega), List.getElem_zipWith]
  rw [orL_first (k := k) (by simp; omega) (fun j hj => by rw [hz j (by omega), h j hj]; show _ - _ = (0 : Int); omega) (by rw [hz k hk]; omega), hz k hk]
theorem cmpK_same {a b : List Int} (hl : a.length = b.length) (h : ∀ j, j < a.length → a.getD j default = b.getD j default) : cmpK a b = 0 := by
  unfold cmpK
  refine orL_zero fun j hj => ?_
  simp only [List.length_zipWith] at hj
  rw [getD_lt (show j < (List.zipWith (· - ·) a b).length by simp; omega), List.getElem_zipWith]
  have := h j (by omega)
  rw [getD_lt (by omega), getD_lt (by omega)] at this
  omega
theorem before_spec (bars : List Bar) (a b : Note) (hl : bars.length ≤ 9223372036854775807) (hb : barsOk bars = true) (ha' : noteOk bars a = true) (hb' : noteOk bars b = true) :
    PCall Tryz.prog 91 [.sl 4 (bars.map encB) .no, .agg (encN a), .agg (encN b)] (.b (bef (idxAL bars) a b)) := by
  have h1 := keys_spec bars a hl hb ha'
  have h2 := keys_spec bars b hl hb hb'
  have l1 : (keyN (idxAL bars) a).length = 6 := rfl
  have l2 : (keyN (idxAL bars) b).length = 6 := rfl
  unfold bef
  generalize keyN (idxAL bars) a = x at *
  generalize keyN (idxAL bars) b = y at *
  refine PCall.body Tryz.func91 rfl rfl Tryz.ntmps91 rfl rfl ?_
  repeat' (first | refine AOps.q rfl rfl rfl (fun hg => by first | exact std0 | exact PRun.callW (h1) rfl rfl nd rfl nds | exact PRun.callW (h2) rfl rfl nd rfl nds) (by exact rfl) ?_ | refine AWP.seq ?_ | refine AWP.regionK (fun K' hK => ?_) | (refine AOps.nil (hK _ _ ?_); clear hK K') | refine AOps.e (EStep.boxW rfl rfl rfl rfl rfl True.intro rfl rfl ?_) | refine AWP.block ?_)
  refine AWP.loopW (ι := Nat) (fun k => [(7, .sl 1 (x.map fun n => [AV.int n]) .no), (8, .sl 1 (y.map fun n => [AV.int n]) .no), (9, .int k)]) (fun _ => [.var (encN a), .var (encN b)]) (fun k => k ≤ x.length ∧ ∀ j, j < k → x.getD j default = y.getD j default) (fun k => x.length - k) 0 ⟨Nat.zero_le _, fun j h => absurd h (by omega)⟩ ⟨rfl, rfl, rfl, True.intro⟩ rfl ?_
  rintro k ⟨hk, hall⟩
  by_cases hlt : k < x.length
  · repeat' (first | refine AOps.q rfl rfl rfl (fun hg => by first | exact std0 | exact std1) (by exact rfl) ?_ | refine AWP.seq ?_ | refine AWP.regionK (fun K' hK => ?_) | (refine AOps.nil (hK _ _ ?_); clear hK K') | (refine AWP.condW rfl True.intro (fun hc => ?_) (fun hc => ?_) <;> (first | (simp only [dEt] at hc) | (simp only [dEf, iNl, iNe] at hc) | skip)) | refine AWP.block ?_ | refine AWP.exit ?_ | refine AWP.skip ?_ | refine AWP.ret ?_ | refine AWP.drawK2 (by decide +kernel) (by kernel_rfl) (by decide +kernel) rfl (fun K' hK => ?_) | (refine AQ.nil (hK _ ?_); clear hK K') | refine AQ.q rfl rfl (fun hg => by first | exact std0 | exact std1) (by exact rfl) ?_)
    all_goals (first | (exfalso; omega) | skip)
    · refine ⟨.inr rfl, Ent.b ?_⟩
      have h5 : x.getD k default ≠ y.getD k default := by
        have := bneT hc
        rw [Int.toNat_natCast] at this
        simpa using this
      rw [cmpK_diff (by omega) hlt hall h5, Int.toNat_natCast, decide_eq_decide]
      omega
    · refine ⟨k + 1, ⟨by omega, fun j hj => lt_succ_cases hall ?_ hj⟩, by omega, ⟨rfl, rfl, rfl, True.intro⟩, rfl⟩
      have := bneF hc
      rw [Int.toNat_natCast] at this
      simpa using this
  · repeat' (first | refine AOps.q rfl rfl rfl (fun hg => by first | exact std0 | exact std1) (by exact rfl) ?_ | refine AWP.seq ?_ | refine AWP.regionK (fun K' hK => ?_) | (refine AOps.nil (hK _ _ ?_); clear hK K') | (refine AWP.condW rfl True.intro (fun hc => ?_) (fun hc => ?_) <;> (first | (simp only [dEt] at hc) | (simp only [dEf, iNl, iNe] at hc) | skip)) | refine AWP.block ?_ | refine AWP.exit ?_ | refine AWP.skip ?_ | refine AWP.ret ?_ | refine AWP.drawK2 (by decide +kernel) (by kernel_rfl) (by decide +kernel) rfl (fun K' hK => ?_) | (refine AQ.nil (hK _ ?_); clear hK K') | refine AQ.q rfl rfl (fun hg => by first | exact std0 | exact std1) (by exact rfl) ?_)
    all_goals (first | (exfalso; omega) | skip)
    refine ⟨.inr rfl, Ent.b ?_⟩
    rw [cmpK_same (by omega) fun j hj => hall j (by omega)]; rfl
theorem all_mem {α : Type} [Inhabited α] {p : α → Bool} {l : List α} (h : ∀ x ∈ l, p x = true) {k : Nat} (hk : k < l.length) : p (l.getD k default) = true := h _ (by rw [getD_lt hk]; exact List.getElem_mem hk)
end Go.Proofs.YtekfpcgagoidcaaGreatDoor


namespace Go.Proofs.YtekfpcgagoidcaaGreatDoor
open Go.Ab
attribute [local irreducible] AWP AOps EStep AQ PStep PRun PCall TCall VCall

theorem range_spec (p : Part) (x : Pitch) (h1 : pitchOk p.low = true) (h2 : pitchOk p.high = true) (h3 : pitchOk x = true) : PCall Tryz.prog 120 [.agg (encP p), .agg (encPi x)] (.b (inB (numR2 x).1 (numR2 p.low).1 (numR2 p.high).1)) := by
  have s1 := sound_spec p.low (pitchIn_ok h1)
  have s2 := sound_spec p.high (pitchIn_ok h2)
  have s3 := sound_spec x (pitchIn_ok h3)
  rw [soundR_num h1] at s1
  rw [soundR_num h2] at s2
  rw [soundR_num h3] at s3
  refine PCall.body Tryz.func120 rfl rfl Tryz.ntmps120 rfl rfl ?_
  repeat' (first | refine AOps.q rfl rfl rfl (fun hg => by exact std0) (by exact rfl) ?_ | refine AWP.seq ?_ | refine AWP.regionK (fun K' hK => ?_) | (refine AOps.nil (hK _ _ ?_); clear hK K') | refine AOps.e (EStep.boxW rfl rfl rfl rfl rfl True.intro rfl rfl ?_) | refine AWP.ret ?_ | refine AWP.drawK2 (by decide +kernel) (by kernel_rfl) (by decide +kernel) rfl (fun K' hK => ?_) | (refine AQ.nil (hK _ ?_); clear hK K') | refine AQ.q rfl rfl (fun hg => by first | exact std0 | exact PRun.callW (s1) rfl rfl nd rfl nds | exact PRun.callW (s2) rfl rfl nd rfl nds | exact PRun.callW (s3) rfl rfl nd rfl nds | exact PRun.callW (r8in_spec _ _ _) rfl rfl nd rfl nds) (by exact rfl) ?_)
  exact ⟨.inr rfl, Ent.b rfl⟩
theorem stranger_own {l : List Part} (hn : (l.map (·.id)).Nodup) (n : Note) : stranger (ownAL l) n = decide (ownX l n < 0) := by
  unfold stranger
  rcases own_lk hn n with ⟨h1, h2⟩ | ⟨j, h1, h2, _⟩
  · rw [h1, h2]; rfl
  · rw [h1, h2]
    rw [decide_eq_false (by omega)]; rfl
theorem farN_own {l : List Part} (hn : (l.map (·.id)).Nodup) {n : Note} (h : ¬ ownX l n < 0) : farN (ownAL l) n = !inB (numR2 n.pitch).1 (numR2 (l.getD (ownX l n).toNat default).low).1 (numR2 (l.getD (ownX l n).toNat default).high).1 := by
  unfold farN
  rcases own_lk hn n with ⟨h1, h2⟩ | ⟨j, h1, h2, _⟩
  · omega
  · rw [h1, h2, Int.toNat_natCast]; rfl
theorem ownX_lt (l : List Part) (n : Note) : ownX l n < l.length := by
  unfold ownX
  split
  · omega
  · split
    · omega
    · rcases partAt_in l n.part with ⟨h, _⟩ | ⟨j, h, h2, _⟩ <;> omega
theorem partOk_pitch {p : Part} (h : partOk p = true) : pitchOk p.low = true ∧ pitchOk p.high = true := by
  unfold partOk at h
  simp only [Bool.and_eq_true] at h
  exact ⟨h.2.1.1, h.2.1.2⟩
theorem wrong8_spec (l : List Part) (ns : List Note) (hl : l.length ≤ 9223372036854775807) (hns : ns.length ≤ 9223372036854775807) (hp : partsOk l = true) (hq : ∀ n ∈ ns, pitchOk n.pitch = true) :
    PCall Tryz.prog 90 [.sl 13 (l.map encP) .no, .sl 12 (ns.map encN) .no] (.int (wrongR l ns)) := by
  have hn := partsOk_nodup hp
  refine PCall.body Tryz.func90 rfl rfl Tryz.ntmps90 rfl rfl ?_
  repeat' (first | refine AOps.q rfl rfl rfl (fun hg => by exact std0) (by exact rfl) ?_ | refine AWP.seq ?_ | refine AWP.regionK (fun K' hK => ?_) | (refine AOps.nil (hK _ _ ?_); clear hK K') | refine AWP.block ?_)
  refine AWP.loopW (ι := Nat) (fun k => [(0, .sl 13 (l.map encP) .no), (1, .sl 12 (ns.map encN) .no), (5, .int k)]) (fun _ => []) (fun k => k ≤ ns.length ∧ ∀ j, j < k → stranger (ownAL l) (ns.getD j default) = false) (fun k => ns.length - k) 0 ⟨Nat.zero_le _, fun j h => absurd h (by omega)⟩ ⟨rfl, rfl, rfl, True.intro⟩ rfl ?_
  rintro k ⟨hk, hall⟩
  by_cases hlt : k < ns.length
  · have ho := own_spec l (ns.getD k default) hl
    have hs := stranger_own hn (ns.getD k default)
    repeat' (first | refine AOps.q rfl rfl rfl (fun hg => by first | exact std0 | exact PRun.callW (ho) rfl rfl nd rfl nds | exact std1) (by exact rfl) ?_ | refine AWP.seq ?_ | refine AWP.regionK (fun K' hK => ?_) | (refine AOps.nil (hK _ _ ?_); clear hK K') | (refine AWP.condW rfl True.intro (fun hc => ?_) (fun hc => ?_) <;> (first | (simp only [dEt] at hc) | (simp only [dEf, iNl, iNe] at hc) | skip)) | refine AWP.block ?_ | refine AWP.exit ?_ | refine AWP.skip ?_ | refine AWP.ret ?_)
    all_goals (first | (exfalso; omega) | skip)
    · refine ⟨.inr rfl, Ent.int (Eq.symm ?_)⟩
      rw [decide_eq_true hc] at hs
      unfold wrongR
      rw [findI_at hlt hs hall, if_pos (Int.natCast_nonneg k)]
    · rw [decide_eq_false (by omega)] at hs
      exact ⟨k + 1, ⟨by omega, fun j hj => lt_succ_cases hall hs hj⟩, by omega, ⟨rfl, rfl, rfl, True.intro⟩, rfl⟩
  · have hno : ¬ findI (stranger (ownAL l)) ns ≥ 0 := by rw [findI_no fun j hj => hall j (by omega)]; decide
    have hown : ∀ j, j < ns.length → 0 ≤ ownX l (ns.getD j default) := fun j hj => by
      have h1 := hall j (by omega)
      rw [stranger_own hn] at h1
      have := of_decide_eq_false h1
      omega
    clear hall
    repeat' (first | refine AOps.q rfl rfl rfl (fun hg => by first | exact std0 | exact std1) (by exact rfl) ?_ | refine AWP.seq ?_ | refine AWP.regionK (fun K' hK => ?_) | (refine AOps.nil (hK _ _ ?_); clear hK K') | (refine AWP.condW rfl True.intro (fun hc => ?_) (fun hc => ?_) <;> (first | (simp only [dEt] at hc) | (simp only [dEf, iNl, iNe] at hc) | skip)) | refine AWP.block ?_ | refine AWP.exit ?_ | refine AWP.skip ?_)
    all_goals (first | (exfalso; omega) | skip)
    refine AWP.loopW (ι := Nat) (fun k => [(0, .sl 13 (l.map encP) .no), (1, .sl 12 (ns.map encN) .no), (6, .int k)]) (fun _ => []) (fun k => k ≤ ns.length ∧ ∀ j, j < k → farN (ownAL l) (ns.getD j default) = false) (fun k => ns.length - k) 0 ⟨Nat.zero_le _, fun j h => absurd h (by omega)⟩ ⟨rfl, rfl, rfl, True.intro⟩ rfl ?_
    rintro k2 ⟨hk2, hall⟩
    by_cases hlt : k2 < ns.length
    · have ho := own_spec l (ns.getD k2 default) hl
      have h1 := hown k2 hlt
      have h2 := ownX_lt l (ns.getD k2 default)
      have h3 := partsOk_all hp (l.getD (ownX l (ns.getD k2 default)).toNat default) (by rw [getD_lt (by omega)]; exact List.getElem_mem (by omega))
      obtain ⟨h4, h5⟩ := partOk_pitch h3
      have hr := range_spec (l.getD (ownX l (ns.getD k2 default)).toNat default) (ns.getD k2 default).pitch h4 h5 (hq _ (by rw [getD_lt hlt]; exact List.getElem_mem hlt))
      have hs := farN_own hn (n := ns.getD k2 default) (by omega)
      repeat' (first | refine AOps.q rfl rfl rfl (fun hg => by first | exact std0 | exact std1) (by exact rfl) ?_ | refine AWP.seq ?_ | refine AWP.regionK (fun K' hK => ?_) | (refine AOps.nil (hK _ _ ?_); clear hK K') | (refine AWP.condW rfl True.intro (fun hc => ?_) (fun hc => ?_) <;> (first | (simp only [dEt] at hc) | (simp only [dEf, iNl, iNe] at hc) | skip)) | refine AWP.block ?_ | refine AWP.exit ?_ | refine AWP.skip ?_ | refine AWP.ret ?_ | refine AWP.drawK2 (by decide +kernel) (by kernel_rfl) (by decide +kernel) rfl (fun K' hK => ?_) | (refine AQ.nil (hK _ ?_); clear hK K') | refine AQ.q rfl rfl (fun hg => by first | exact std0 | exact PRun.callW (ho) rfl rfl nd rfl nds | exact PRun.callW (hr) rfl rfl nd rfl nds | exact std1) (by exact rfl) ?_)
      all_goals (first | (exfalso; omega) | skip)
      · refine ⟨.inr rfl, Ent.int (Eq.symm ?_)⟩
        have hf : farN (ownAL l) (ns.getD k2 default) = true := hs.trans hc
        unfold wrongR
        rw [if_neg hno, findI_at hlt hf hall, if_pos (Int.natCast_nonneg k2)]
      · have hf : farN (ownAL l) (ns.getD k2 default) = false := hs.trans hc
        exact ⟨k2 + 1, ⟨by omega, fun j hj => lt_succ_cases hall hf hj⟩, by omega, ⟨rfl, rfl, rfl, True.intro⟩, rfl⟩
    · repeat' (first | refine AOps.q rfl rfl rfl (fun hg => by first | exact std0 | exact std1) (by exact rfl) ?_ | refine AWP.seq ?_ | refine AWP.regionK (fun K' hK => ?_) | (refine AOps.nil (hK _ _ ?_); clear hK K') | (refine AWP.condW rfl True.intro (fun hc => ?_) (fun hc => ?_) <;> (first | (simp only [dEt] at hc) | (simp only [dEf, iNl, iNe] at hc) | skip)) | refine AWP.block ?_ | refine AWP.exit ?_ | refine AWP.skip ?_ | refine AWP.ret ?_ | refine AWP.drawK2 (by decide +kernel) (by kernel_rfl) (by decide +kernel) rfl (fun K' hK => ?_) | refine AQ.q rfl rfl (fun hg => by first | exact std0 | exact std1) (by exact rfl) ?_)
      all_goals (first | (exfalso; omega) | skip)
      refine ⟨.inr rfl, Ent.int (Eq.symm ?_)⟩
      have hno2 : ¬ findI (farN (ownAL l)) ns ≥ 0 := by rw [findI_no fun j hj => hall j (by omega)]; decide
      unfold wrongR
      rw [if_neg hno, if_neg hno2]
def eqBa (a b : Bar) : Bool := a.id == b.id && (a.len.n == b.len.n && (a.len.d == b.len.d && (a.key == b.key && true)))
theorem eqBa_eq (a b : Bar) : eqBa a b = (a == b) := by
  unfold eqBa
  rw [Bool.eq_iff_iff]
  obtain ⟨a1, ⟨a2, a3⟩, a4⟩ := a
  obtain ⟨b1, ⟨b2, b3⟩, b4⟩ := b
  simp [and_assoc]
theorem flBa : flatN Tryz.prog 59 = some [.int .i64, .int .i64, .int .i64, .int .i64] := by kernel_rfl
end Go.Proofs.YtekfpcgagoidcaaGreatDoor


namespace Go.Proofs.YtekfpcgagoidcaaGreatDoor.Al
open Go.Ab Go.Sort
attribute [local irreducible] AWP AOps EStep AQ PStep PRun PCall TCall VCall
theorem flRtA : flatN Tryz.prog 52 = some [.int .i64, .int .i64] := by kernel_rfl
def eqRa (a b : Go.Proofs.YtekfpcgagoidcaaGreatDoor.Rat) : Bool := a.n == b.n && (a.d == b.d && true)
theorem eqRa_eq (a b : Go.Proofs.YtekfpcgagoidcaaGreatDoor.Rat) : eqRa a b = (a == b) := by
  unfold eqRa
  rw [Bool.eq_iff_iff]
  obtain ⟨a1, a2⟩ := a
  obtain ⟨b1, b2⟩ := b
  simp
theorem alike_sub (x y : Note) : eqNo { x with id := y.id, bar := y.bar } y = alike x y := by
  rw [eqNo_eq]
  unfold alike bareN
  rw [Bool.eq_iff_iff]
  obtain ⟨a1, a2, a3, a4, a5, ⟨a6, a7⟩, ⟨a8, a9⟩, ⟨a10, a11, a12⟩⟩ := x
  obtain ⟨b1, b2, b3, b4, b5, ⟨b6, b7⟩, ⟨b8, b9⟩, ⟨b10, b11, b12⟩⟩ := y
  simp
theorem alike12_spec (x y : Note) : PCall Tryz.prog 124 [.agg (encN x), .agg (encN y)] (.b (alike x y)) := by
  refine PCall.body Tryz.func124 rfl rfl Tryz.ntmps124 rfl rfl ?_
  repeat' (first | refine AOps.q rfl rfl rfl (fun hg => by first | exact std0 | exact PRun.eqN flN rfl rfl nd rfl nd rfl) (by exact rfl) ?_ | refine AWP.seq ?_ | refine AWP.regionK (fun K' hK => ?_) | (refine AOps.nil (hK _ _ ?_); clear hK K') | refine AOps.e (EStep.boxW rfl rfl rfl rfl rfl True.intro rfl rfl ?_) | refine AOps.e (EStep.storeW tabOk rfl rfl rfl True.intro rfl rfl True.intro rfl rfl rfl rfl rfl rfl rfl ?_) | refine AWP.ret ?_)
  exact ⟨.inr rfl, Ent.b (alike_sub x y)⟩
theorem inBar_take {l : List Note} {id : Int} {k : Nat} (h : k < l.length) : (l.take (k + 1)).filter (fun n => n.bar == id) = if (l.getD k default).bar == id then (l.take k).filter (fun n => n.bar == id) ++ [l.getD k default] else (l.take k).filter (fun n => n.bar == id) := by
  rw [takeS h, List.filter_append]
  split
  · rename_i h2; rw [List.filter_cons_of_pos (by exact h2)]; rfl
  · rename_i h2; rw [List.filter_cons_of_neg (by exact h2)]; simp
set_option maxRecDepth 20000 in
theorem in12_spec (s : Score) (hs : s.Small) (i : Nat) (hi : i < s.bars.length) : PCall Tryz.prog 65 [.agg (encS s), .int i] (.sl 12 ((inBar s (barI s i).id).map encN) .no) := by
  have h1 := hs.1
  have h2 := hs.2.2
  refine PCall.body Tryz.func65 rfl rfl Tryz.ntmps65 rfl rfl ?_
  repeat' (first | refine AOps.q rfl rfl rfl (fun hg => by exact std0) (by exact rfl) ?_ | refine AWP.seq ?_ | refine AWP.regionK (fun K' hK => ?_) | (refine AOps.nil (hK _ _ ?_); clear hK K') | refine AOps.e (EStep.boxW rfl rfl rfl rfl rfl True.intro rfl rfl ?_) | refine AWP.block ?_)
  refine AWP.ownNil (d := 5) (sz := 12) rfl ?_
  refine AWP.loopD (ι := Nat) (fun k => [(1, .int i), (2, .ptr 0 0), (5, .sl 12 (((s.notes.take k).filter (fun n => n.bar == (barI s i).id)).map encN) (.own 1)), (6, .int k)]) (fun k => [.var (encS s), .own 12 (((s.notes.take k).filter (fun n => n.bar == (barI s i).id)).map encN).length])
    (fun k => k ≤ s.notes.length) (fun k => s.notes.length - k) 2 (fun _ => rfl) 0 (Nat.zero_le _) ⟨rfl, rfl, rfl, rfl, True.intro⟩ rfl (fun _ _ => rfl) (fun _ _ => rfl) ?_
  intro k hk
  have hlen : ((s.notes.take k).filter (fun n => n.bar == (barI s i).id)).length ≤ 1000000000 := by
    have := List.length_filter_le (fun n : Note => n.bar == (barI s i).id) (s.notes.take k)
    rw [List.length_take] at this; omega
  by_cases hlt : k < s.notes.length
  · have ht := inBar_take (id := (barI s i).id) hlt
    obtain ⟨n, hn⟩ : ∃ n, s.notes.getD k default = n := ⟨_, rfl⟩
    rw [hn] at ht
    have hb : s.bars.getD ((i : Nat) : Int).toNat default = barI s i := rfl
    repeat' (first | refine AOps.q rfl rfl rfl (fun hg => by first | exact iX encN s.notes ((k : Nat) : Int) hn (hb := by omega) | exact std0 | exact PRun.buildSlW tabOk rfl rfl nds | exact std1) (by exact rfl) ?_ | refine AWP.seq ?_ | refine AWP.regionK (fun K' hK => ?_) | (refine AOps.nil (hK _ _ ?_); clear hK K') | refine AOps.e (EStep.appendOwn' tabOk rfl rfl rfl (by decide) (Rd.w rfl True.intro) rfl (Rd.w rfl True.intro) (.sl rfl (by first | (intro x hx; rcases List.mem_singleton.1 hx with rfl; rfl) | exact one_encN _)) (LOk.of (tabOk.get rfl)) (LOk.of (tabOk.get rfl)) rfl rfl (by simp only [List.length_map, List.length_append, List.length_cons, List.length_nil, List.length_take, List.length_drop]; omega) (by simp only [List.length_map, List.length_append, List.length_cons, List.length_nil, List.length_take, List.length_drop]; omega) ?_) | (refine AWP.condW rfl True.intro (fun hc => ?_) (fun hc => ?_) <;> (first | (simp only [dEt] at hc) | (simp only [dEf, iNl, iNe] at hc) | skip)) | refine AWP.block ?_ | refine AWP.exit ?_ | refine AWP.skip ?_ | refine AWP.ret ?_ | refine AWP.drawK2 (by decide +kernel) (by kernel_rfl) (by decide +kernel) rfl (fun K' hK => ?_) | (refine AQ.nil (hK _ ?_); clear hK K') | refine AQ.q rfl rfl (fun hg => by first | exact iX encB s.bars ((i : Nat) : Int) hb (hb := by omega) | exact iX encN s.notes ((k : Nat) : Int) hn (hb := by omega) | exact std0) (by exact rfl) ?_)
    all_goals (first | (exfalso; omega) | skip)
    · rw [if_pos hc] at ht
      refine ⟨k + 1, by omega, by omega, ⟨rfl, rfl, ?_, rfl, True.intro⟩, ?_⟩
      · rw [ht, List.map_append]; rfl
      · rw [ht, List.map_append]; rfl
    · rw [if_neg (show ¬ ((n.bar == (barI s i).id) = true) by rw [show (n.bar == (barI s i).id) = false from hc]; decide)] at ht
      refine ⟨k + 1, by omega, by omega, ⟨rfl, rfl, ?_, rfl, True.intro⟩, ?_⟩
      · rw [ht]; rfl
      · rw [ht]; rfl
  · repeat' (first | refine AOps.q rfl rfl rfl (fun hg => by first | exact std0 | exact std1) (by exact rfl) ?_ | refine AWP.seq ?_ | refine AWP.regionK (fun K' hK => ?_) | (refine AOps.nil (hK _ _ ?_); clear hK K') | (refine AWP.condW rfl True.intro (fun hc => ?_) (fun hc => ?_) <;> (first | (simp only [dEt] at hc) | (simp only [dEf, iNl, iNe] at hc) | skip)) | refine AWP.block ?_ | refine AWP.exit ?_ | refine AWP.skip ?_ | refine AWP.ret ?_ | refine AWP.drawK2 (by decide +kernel) (by kernel_rfl) (by decide +kernel) rfl (fun K' hK => ?_) | (refine AQ.nil (hK _ ?_); clear hK K') | refine AQ.q rfl rfl (fun hg => by first | exact std0 | exact std1) (by exact rfl) ?_)
    all_goals (first | (exfalso; omega) | skip)
    refine ⟨.inr rfl, Ent.of ?_⟩
    rw [List.take_of_length_le (by omega)]; rfl
theorem cntL_take {l : List Note} {n : Note} {k : Nat} (h : k < l.length) : cntL (l.take (k + 1)) n = if alike (l.getD k default) n then cntL (l.take k) n + 1 else cntL (l.take k) n := by
  rw [takeS h]; unfold cntL
  rw [List.countP_append]
  simp [List.countP_cons]
  split <;> rfl
theorem count12_spec (l : List Note) (hl : l.length ≤ 1000000000) (n : Note) : PCall Tryz.prog 122 [.sl 12 (l.map encN) .no, .agg (encN n)] (.int (cntL l n)) := by
  refine PCall.body Tryz.func122 rfl rfl Tryz.ntmps122 rfl rfl ?_
  repeat' (first | refine AOps.q rfl rfl rfl (fun hg => by exact std0) (by exact rfl) ?_ | refine AWP.seq ?_ | refine AWP.regionK (fun K' hK => ?_) | (refine AOps.nil (hK _ _ ?_); clear hK K') | refine AOps.e (EStep.boxW rfl rfl rfl rfl rfl True.intro rfl rfl ?_) | refine AWP.block ?_)
  refine AWP.loopD (ι := Nat) (fun k => [(0, .sl 12 (l.map encN) .no), (3, .ptr 0 0), (5, .int (cntL (l.take k) n)), (6, .int k)]) (fun _ => [.var (encN n)]) (fun k => k ≤ l.length) (fun k => l.length - k) 1 (fun _ => rfl) 0 (Nat.zero_le _) ⟨rfl, rfl, rfl, rfl, True.intro⟩ rfl (fun _ _ => rfl) (fun _ _ => rfl) ?_
  intro k hk
  by_cases hlt : k < l.length
  · have ht := cntL_take (n := n) hlt
    have hle : cntL (l.take k) n ≤ 1000000000 := by
      have := List.countP_le_length (p := fun x => alike x n) (l := l.take k)
      rw [List.length_take] at this
      unfold cntL; omega
    obtain ⟨m, hm⟩ : ∃ m, l.getD k default = m := ⟨_, rfl⟩
    rw [hm] at ht
    have ha := alike12_spec m n
    generalize cntL (l.take k) n = c at *
    repeat' (first | refine AOps.q rfl rfl rfl (fun hg => by first | exact std0 | exact std1) (by exact rfl) ?_ | refine AWP.seq ?_ | refine AWP.regionK (fun K' hK => ?_) | (refine AOps.nil (hK _ _ ?_); clear hK K') | (refine AWP.condW rfl True.intro (fun hc => ?_) (fun hc => ?_) <;> (first | (simp only [dEt] at hc) | (simp only [dEf, iNl, iNe] at hc) | skip)) | refine AWP.block ?_ | refine AWP.exit ?_ | refine AWP.skip ?_ | refine AWP.ret ?_ | refine AWP.drawK2 (by decide +kernel) (by kernel_rfl) (by decide +kernel) rfl (fun K' hK => ?_) | (refine AQ.nil (hK _ ?_); clear hK K') | refine AQ.q rfl rfl (fun hg => by first | exact iX encN l ((k : Nat) : Int) hm (hb := by omega) | exact std0 | exact PRun.callW (ha) rfl rfl nd rfl nds) (by exact rfl) ?_)
    all_goals (first | (exfalso; omega) | skip)
    · rw [if_pos hc] at ht
      exact ⟨k + 1, by omega, by omega, ⟨rfl, rfl, (by rw [ht]; rfl), rfl, True.intro⟩, rfl⟩
    · rw [if_neg (by rw [hc]; decide)] at ht
      exact ⟨k + 1, by omega, by omega, ⟨rfl, rfl, (by rw [ht]; rfl), rfl, True.intro⟩, rfl⟩
  · repeat' (first | refine AOps.q rfl rfl rfl (fun hg => by first | exact std0 | exact std1) (by exact rfl) ?_ | refine AWP.seq ?_ | refine AWP.regionK (fun K' hK => ?_) | (refine AOps.nil (hK _ _ ?_); clear hK K') | (refine AWP.condW rfl True.intro (fun hc => ?_) (fun hc => ?_) <;> (first | (simp only [dEt] at hc) | (simp only [dEf, iNl, iNe] at hc) | skip)) | refine AWP.block ?_ | refine AWP.exit ?_ | refine AWP.skip ?_ | refine AWP.ret ?_ | refine AWP.drawK2 (by decide +kernel) (by kernel_rfl) (by decide +kernel) rfl (fun K' hK => ?_) | refine AQ.q rfl rfl (fun hg => by first | exact std0 | exact std1) (by exact rfl) ?_)
    all_goals (first | (exfalso; omega) | skip)
    refine ⟨.inr rfl, Ent.of ?_⟩
    rw [List.take_of_length_le (by omega)]; rfl
theorem music12_spec (a b : List Note) (ha : a.length ≤ 1000000000) (hb : b.length ≤ 1000000000) : PCall Tryz.prog 92 [.sl 12 (a.map encN) .no, .sl 12 (b.map encN) .no] (.b (sameMu a b)) := by
  rw [← music_eq]
  refine PCall.body Tryz.func92 rfl rfl Tryz.ntmps92 rfl rfl ?_
  repeat' (first | refine AOps.q rfl rfl rfl (fun hg => by first | exact std0 | exact std1) (by exact rfl) ?_ | refine AWP.seq ?_ | refine AWP.regionK (fun K' hK => ?_) | (refine AOps.nil (hK _ _ ?_); clear hK K') | (refine AWP.condW rfl True.intro (fun hc => ?_) (fun hc => ?_) <;> (first | (simp only [dEt] at hc) | (simp only [dEf, iNl, iNe] at hc) | skip)) | refine AWP.block ?_ | refine AWP.skip ?_ | refine AWP.ret ?_)
  · refine ⟨.inr rfl, Ent.b ?_⟩
    rw [decide_eq_false (by intro h; simp only [Int.toNat_natCast, Bool.or_eq_true, Bool.and_eq_true, Bool.or_eq_false_iff, Bool.and_eq_false_iff, dEt, dEf, Bool.not_eq_true', Bool.not_eq_false', beq_iff_eq, beq_eq_false_iff_ne, bne_iff_ne, bne_eq_false_iff_eq, gt_iff_lt, ge_iff_le, ne_eq] at hc; omega)]; rfl
  have hlen : a.length = b.length := by simp only [Int.toNat_natCast, Bool.or_eq_true, Bool.and_eq_true, Bool.or_eq_false_iff, Bool.and_eq_false_iff, dEt, dEf, Bool.not_eq_true', Bool.not_eq_false', beq_iff_eq, beq_eq_false_iff_ne, bne_iff_ne, bne_eq_false_iff_eq, gt_iff_lt, ge_iff_le, ne_eq] at hc; omega
  rw [decide_eq_true hlen, Bool.true_and]
  refine AWP.loopW (ι := Nat) (fun k => [(0, .sl 12 (a.map encN) .no), (1, .sl 12 (b.map encN) .no), (5, .int k)]) (fun _ => []) (fun k => k ≤ a.length ∧ ∀ j, j < k → decide (cntL a (a.getD j default) = cntL b (a.getD j default)) = true) (fun k => a.length - k) 0 ⟨Nat.zero_le _, fun j h => absurd h (by omega)⟩ ⟨rfl, rfl, rfl, True.intro⟩ rfl ?_
  rintro k ⟨hk, hall⟩
  by_cases hlt : k < a.length
  · obtain ⟨m, hm⟩ : ∃ m, a.getD k default = m := ⟨_, rfl⟩
    have c1 := count12_spec a ha m
    have c2 := count12_spec b hb m
    clear hc
    repeat' (first | refine AOps.q rfl rfl rfl (fun hg => by first | exact std0 | exact std1) (by exact rfl) ?_ | refine AWP.seq ?_ | refine AWP.regionK (fun K' hK => ?_) | (refine AOps.nil (hK _ _ ?_); clear hK K') | (refine AWP.condW rfl True.intro (fun hc => ?_) (fun hc => ?_) <;> (first | (simp only [dEt] at hc) | (simp only [dEf, iNl, iNe] at hc) | skip)) | refine AWP.block ?_ | refine AWP.exit ?_ | refine AWP.skip ?_ | refine AWP.ret ?_ | refine AWP.drawK2 (by decide +kernel) (by kernel_rfl) (by decide +kernel) rfl (fun K' hK => ?_) | (refine AQ.nil (hK _ ?_); clear hK K') | refine AQ.q rfl rfl (fun hg => by first | exact iX encN a ((k : Nat) : Int) hm (hb := by omega) | exact std0 | exact PRun.callW (c1) rfl rfl nd rfl nds | exact PRun.callW (c2) rfl rfl nd rfl nds) (by exact rfl) ?_)
    all_goals (first | (exfalso; omega) | skip)
    · refine ⟨.inr rfl, Ent.b (Eq.symm ?_)⟩
      refine all_no (p := fun x => decide (cntL a x = cntL b x)) hlt ?_
      rw [hm]
      simp only [Int.toNat_natCast, Bool.or_eq_true, Bool.and_eq_true, Bool.or_eq_false_iff, Bool.and_eq_false_iff, dEt, dEf, Bool.not_eq_true', Bool.not_eq_false', beq_iff_eq, beq_eq_false_iff_ne, bne_iff_ne, bne_eq_false_iff_eq, gt_iff_lt, ge_iff_le, ne_eq] at hc
      exact decide_eq_false (by omega)
    · refine ⟨k + 1, ⟨by omega, fun j hj => lt_succ_cases hall ?_ hj⟩, by omega, ⟨rfl, rfl, rfl, True.intro⟩, rfl⟩
      rw [hm]
      simp only [Int.toNat_natCast, Bool.or_eq_true, Bool.and_eq_true, Bool.or_eq_false_iff, Bool.and_eq_false_iff, dEt, dEf, Bool.not_eq_true', Bool.not_eq_false', beq_iff_eq, beq_eq_false_iff_ne, bne_iff_ne, bne_eq_false_iff_eq, gt_iff_lt, ge_iff_le, ne_eq] at hc
      exact decide_eq_true (by omega)
  · repeat' (first | refine AOps.q rfl rfl rfl (fun hg => by first | exact std0 | exact std1) (by exact rfl) ?_ | refine AWP.seq ?_ | refine AWP.regionK (fun K' hK => ?_) | (refine AOps.nil (hK _ _ ?_); clear hK K') | (refine AWP.condW rfl True.intro (fun hc => ?_) (fun hc => ?_) <;> (first | (simp only [dEt] at hc) | (simp only [dEf, iNl, iNe] at hc) | skip)) | refine AWP.block ?_ | refine AWP.exit ?_ | refine AWP.skip ?_ | refine AWP.ret ?_ | refine AWP.drawK2 (by decide +kernel) (by kernel_rfl) (by decide +kernel) rfl (fun K' hK => ?_) | refine AQ.q rfl rfl (fun hg => by first | exact std0 | exact std1) (by exact rfl) ?_)
    all_goals (first | (exfalso; omega) | skip)
    exact ⟨.inr rfl, Ent.b (Eq.symm (all_yes fun j hj => hall j (by omega)))⟩
theorem costR_is (a b : Score) (i k : Nat) : costR a b i k = if (eqBa (barI a i) (barI b k) && (sameMu (inBar a (barI a i).id) (inBar b (barI b k).id) && eqRa (barI a i).len (barI b k).len)) = true then 0 else if ((barI a i).id == (barI b k).id || ((sameMu (inBar a (barI a i).id) (inBar b (barI b k).id) && eqRa (barI a i).len (barI b k).len) && decide (((inBar a (barI a i).id).length : Int) > 0))) = true then 1 else 5 := by
  rw [eqBa_eq, eqRa_eq]
  have e : decide (((inBar a (barI a i).id).length : Int) > 0) = !(inBar a (barI a i).id).isEmpty := by
    cases inBar a (barI a i).id <;> simp
  rw [e, Bool.and_comm (sameMu _ _)]
  rfl
set_option maxHeartbeats 4000000 in
theorem cost12_spec (a b : Score) (ha : a.Small) (hb : b.Small) (i k : Nat) (hi : i < a.bars.length) (hk : k < b.bars.length) : PCall Tryz.prog 46 [.agg (encS a), .agg (encS b), .int i, .int k] (.int (costR a b i k)) := by
  have a1 := ha.1
  have a2 := ha.2.2
  have b1 := hb.1
  have b2 := hb.2.2
  have i1 := in12_spec a ha i hi
  have i2 := in12_spec b hb k hk
  have lx : (inBar a (barI a i).id).length ≤ 1000000000 := Nat.le_trans (List.length_filter_le _ _) a2
  have ly : (inBar b (barI b k).id).length ≤ 1000000000 := Nat.le_trans (List.length_filter_le _ _) b2
  have mm := music12_spec _ _ lx ly
  have ex : a.bars.getD ((i : Nat) : Int).toNat default = barI a i := rfl
  have ey : b.bars.getD ((k : Nat) : Int).toNat default = barI b k := rfl
  rw [costR_is]
  refine PCall.body Tryz.func46 rfl rfl Tryz.ntmps46 rfl rfl ?_
  repeat' (first | refine AOps.q rfl rfl rfl (fun hg => by first | exact iX encB b.bars ((k : Nat) : Int) ey (hb := by omega) | exact iX encB a.bars ((i : Nat) : Int) ex (hb := by omega) | exact std0 | exact PRun.callW (i1) rfl rfl nd rfl nds | exact PRun.callW (i2) rfl rfl nd rfl nds | exact PRun.callW (mm) rfl rfl nd rfl nds | exact PRun.eqN flRtA rfl rfl nd rfl nd rfl | exact PRun.eqN flBa rfl rfl nd rfl nd rfl | exact std1) (by exact rfl) ?_ | refine AWP.seq ?_ | refine AWP.regionK (fun K' hK => ?_) | (refine AOps.nil (hK _ _ ?_); clear hK K') | refine AOps.e (EStep.boxW rfl rfl rfl rfl rfl True.intro rfl rfl ?_) | refine AOps.e (EStep.storeW tabOk rfl rfl rfl True.intro rfl rfl True.intro rfl rfl rfl rfl rfl rfl rfl ?_) | refine AOps.e (EStep.allocW tabOk rfl rfl rfl rfl rfl rfl ?_) | (refine AWP.condW rfl True.intro (fun hc => ?_) (fun hc => ?_) <;> (first | (simp only [dEt] at hc) | (simp only [dEf, iNl, iNe] at hc) | skip)) | refine AWP.skip ?_ | refine AWP.ret ?_)
  · exact ⟨.inr rfl, Ent.int (Eq.symm (if_pos hc))⟩
  · rename_i h1
    exact ⟨.inr rfl, Ent.int (Eq.symm ((if_neg (fun h => Bool.noConfusion (Eq.trans (Eq.symm (show _ = false from h1)) h))).trans (if_pos hc)))⟩
  · rename_i h1
    exact ⟨.inr rfl, Ent.int (Eq.symm ((if_neg (fun h => Bool.noConfusion (Eq.trans (Eq.symm (show _ = false from h1)) h))).trans (if_neg (fun h => Bool.noConfusion (Eq.trans (Eq.symm (show _ = false from hc)) h)))))⟩
end Go.Proofs.YtekfpcgagoidcaaGreatDoor.Al

