/- The law AlignNotes by content. No statement is proved here. -/
import Derived.Test.YtekfpcgagoidcaaGreatDoorP32
set_option linter.unusedVariables false
set_option linter.unusedSimpArgs false
namespace Go.Ab
theorem PRun.lookupA {P : Program} {o : Oper} {env : Env} {σ : Store} {κ α : Type} [DecidableEq κ] {ek : κ → Value} {ev : α → AV} {t kt et : TypeId} {m x : Operand} {al : List (κ × α)} {key : κ} {zv : α} {uk um : AV} {ok : Bool} {s1 b1 : Nat} {z : List Z} {le : LI} {r : Option α} (h : lk al key = r)
    (K : KeyLaw P kt ek) (hl : LOk P t ⟨.map kt et, s1, b1, z⟩) (he : LOk P et le) (hz : zeroAV le = ev zv) (ho : o.op = .lookup t m x ok) (hm : Rd env m um)
    (hum : um = .imap (encM ek ev al) ∨ ∃ l, um = .map l ∧ σ[l]? = some (.map (encM ek ev al)))
    (hx : Rd env x uk) (hex : exactV uk = some (ek key)) : PRun P o env σ (if ok then .tup [ev (r.getD zv), .b r.isSome] else ev (r.getD zv)) := h ▸ PRun.lookup K hl he hz ho hm hum hx hex
def insL {κ α : Type} [DecidableEq κ] (al l : List (κ × α)) : List (κ × α) := l.foldl (fun al p => ins al p.1 p.2) al
theorem insL_snoc {κ α : Type} [DecidableEq κ] (al l : List (κ × α)) (p : κ × α) : insL al (l ++ [p]) = ins (insL al l) p.1 p.2 := by unfold insL; rw [List.foldl_append]; rfl
theorem lk_insL {κ α : Type} [DecidableEq κ] : ∀ (l al : List (κ × α)) (k : κ), (∀ p ∈ l, p.1 ≠ k) → lk (insL al l) k = lk al k
  | [], _, _, _ => rfl
  | p :: l, al, k, h => by
    show lk (insL (ins al p.1 p.2) l) k = _
    rw [lk_insL l _ k fun q hq => h q (List.mem_cons_of_mem _ hq), Go.Proofs.YtekfpcgagoidcaaGreatDoor.lk_ins', if_neg (h p (List.mem_cons_self ..))]
theorem lk_insL_mem {κ α : Type} [DecidableEq κ] : ∀ {l al : List (κ × α)} {k : κ} {v : α}, (l.map (·.1)).Nodup → (k, v) ∈ l → lk (insL al l) k = some v
  | [], _, _, _, _, h => by cases h
  | p :: l, al, k, v, hn, h => by
    rw [List.map_cons, List.nodup_cons] at hn
    rcases List.mem_cons.1 h with h | h
    · subst h
      show lk (insL (ins al k v) l) k = _
      rw [lk_insL l _ k fun q hq e => hn.1 (List.mem_map.2 ⟨q, hq, e⟩), Go.Proofs.YtekfpcgagoidcaaGreatDoor.lk_ins', if_pos rfl]
    · exact lk_insL_mem (l := l) hn.2 h
theorem lk_insL_some {κ α : Type} [DecidableEq κ] {l : List (κ × α)} {k : κ} {v : α} : ∀ {al : List (κ × α)}, lk (insL al l) k = some v → lk al k = some v ∨ (k, v) ∈ l := by
  induction l with
  | nil => intro al h; exact .inl h
  | cons p l ih =>
    intro al h
    rcases ih (al := ins al p.1 p.2) h with h | h
    · rw [Go.Proofs.YtekfpcgagoidcaaGreatDoor.lk_ins'] at h
      split at h
      · rename_i e
        cases h
        exact .inr (by rw [← e]; exact List.mem_cons_self ..)
      · exact .inl h
    · exact .inr (List.mem_cons_of_mem _ h)
theorem lk_insL_true {κ : Type} [DecidableEq κ] {l : List (κ × Bool)} {k : κ} : ∀ {al : List (κ × Bool)}, (∀ p ∈ l, p.2 = true) → (k, true) ∈ l → lk (insL al l) k = some true := by
  induction l with
  | nil => intro al _ h; cases h
  | cons p l ih =>
    intro al ht h
    by_cases hm : (k, true) ∈ l
    · exact ih (al := ins al p.1 p.2) (fun q hq => ht q (List.mem_cons_of_mem _ hq)) hm
    · have e : p = (k, true) := by
        rcases List.mem_cons.1 h with h | h
        · exact h.symm
        · exact absurd h hm
      show lk (insL (ins al p.1 p.2) l) k = _
      rw [lk_insL l _ k fun q hq e2 => hm (by rw [← e2, ← ht q (List.mem_cons_of_mem _ hq)]; exact hq), Go.Proofs.YtekfpcgagoidcaaGreatDoor.lk_ins', e, if_pos rfl]
end Go.Ab
namespace Go.Proofs.YtekfpcgagoidcaaGreatDoor.Al
open Go.Ab Go.Sort
attribute [local irreducible] AWP AOps EStep AQ PStep PRun PCall TCall VCall
set_option maxHeartbeats 8000000 in
set_option maxRecDepth 20000 in
theorem find12_spec (s : Score) (hs : s.notes.length ≤ 1000000) (id : Int) : PCall Tryz.prog 29 [.agg (encS s), .int id] (.int (noteAt s.notes id)) := by
  refine PCall.body Tryz.func29 rfl rfl Tryz.ntmps29 rfl rfl ?_
  repeat' (first | refine AOps.q rfl rfl rfl (fun hg => by first | exact std0 | exact std1) (by exact rfl) ?_ | refine AWP.seq ?_ | refine AWP.regionK (fun K' hK => ?_) | (refine AOps.nil (hK _ _ ?_); clear hK K') | refine AOps.e (EStep.boxW rfl rfl rfl rfl rfl True.intro rfl rfl ?_) | refine AOps.e (EStep.storeW tabOk rfl rfl rfl True.intro rfl rfl True.intro rfl rfl rfl rfl rfl rfl rfl ?_) | refine AOps.e (EStep.allocW tabOk rfl rfl rfl rfl rfl rfl ?_) | (refine AWP.condW rfl True.intro (fun hc => ?_) (fun hc => ?_) <;> (first | (simp only [dEt] at hc) | (simp only [dEf, iNl, iNe] at hc) | skip)) | refine AWP.block ?_ | refine AWP.exit ?_ | refine AWP.skip ?_ | refine AWP.ret ?_ | refine AWP.drawK2 (by decide +kernel) (by kernel_rfl) (by decide +kernel) rfl (fun K' hK => ?_) | refine AWP.drawL2 (by kernel_rfl) (by decide +kernel) rfl (fun K' hK => ?_) | (refine AQ.nil (hK _ ?_); clear hK K') | refine AQ.nil ?_ | refine AQ.q rfl rfl (fun hg => by first | exact std0 | exact std1) (by exact rfl) ?_)
  refine AWP.loopD (ι := Nat) (fun k => [(1, .int id), (8, .sl 12 (s.notes.map encN) .no), (9, .int s.notes.length), (10, .int k)]) (fun _ => [.var (encS s)])
    (fun k => k ≤ s.notes.length ∧ ∀ j, j < k → ((s.notes.getD j default).id == id) = false) (fun k => s.notes.length - k) 1 (fun _ => rfl) 0 ⟨Nat.zero_le _, fun j h => absurd h (by omega)⟩ ⟨rfl, rfl, rfl, rfl, True.intro⟩ rfl (fun _ _ => rfl) (fun _ _ => rfl) ?_
  rintro k ⟨hk, hall⟩
  by_cases hlt : k < s.notes.length
  · obtain ⟨n, hn⟩ : ∃ n, s.notes.getD k default = n := ⟨_, rfl⟩
    repeat' (first | refine AOps.q rfl rfl rfl (fun hg => by first | exact PRun.eq (v := .iptr (encN (s.notes.getD ((k : Nat) : Int).toNat default))) (PRun.indexMW tabOk rfl rfl nd rfl nd rfl rfl (by omega)) (congrArg (fun x => AV.iptr (encN x)) hn) | exact std0 | exact std1) (by exact rfl) ?_ | refine AWP.seq ?_ | refine AWP.regionK (fun K' hK => ?_) | (refine AOps.nil (hK _ _ ?_); clear hK K') | refine AOps.e (EStep.boxW rfl rfl rfl rfl rfl True.intro rfl rfl ?_) | refine AOps.e (EStep.storeW tabOk rfl rfl rfl True.intro rfl rfl True.intro rfl rfl rfl rfl rfl rfl rfl ?_) | refine AOps.e (EStep.allocW tabOk rfl rfl rfl rfl rfl rfl ?_) | (refine AWP.condW rfl True.intro (fun hc => ?_) (fun hc => ?_) <;> (first | (simp only [dEt] at hc) | (simp only [dEf, iNl, iNe] at hc) | skip)) | refine AWP.block ?_ | refine AWP.exit ?_ | refine AWP.skip ?_ | refine AWP.ret ?_ | refine AWP.drawK2 (by decide +kernel) (by kernel_rfl) (by decide +kernel) rfl (fun K' hK => ?_) | refine AWP.drawL2 (by kernel_rfl) (by decide +kernel) rfl (fun K' hK => ?_) | (refine AQ.nil (hK _ ?_); clear hK K') | refine AQ.nil ?_ | refine AQ.q rfl rfl (fun hg => by first | exact PRun.eq (v := .iptr (encN (s.notes.getD ((k : Nat) : Int).toNat default))) (PRun.indexMW tabOk rfl rfl nd rfl nd rfl rfl (by omega)) (congrArg (fun x => AV.iptr (encN x)) hn) | exact std0 | exact std1) (by exact rfl) ?_)
    all_goals (first | (exfalso; omega) | (exfalso; simp at hc; done) | (exfalso; simp at hc; omega) | (exfalso; simp only [dEf, dEt] at hc; omega) | (rename_i h0; exfalso; simp at h0; done) | (rename_i h0; exfalso; simp at h0; omega) | skip)
    · exact ⟨.inr rfl, Ent.int (Eq.symm (findI_at hlt (by rw [hn]; exact hc) hall))⟩
    · exact ⟨k + 1, ⟨hlt, fun j hj => lt_succ_cases hall (by rw [hn]; exact hc) hj⟩, by show s.notes.length - (k + 1) < s.notes.length - k; omega, ⟨rfl, rfl, rfl, rfl, True.intro⟩, rfl⟩
  · repeat' (first | refine AOps.q rfl rfl rfl (fun hg => by first | exact std0 | exact std1) (by exact rfl) ?_ | refine AWP.seq ?_ | refine AWP.regionK (fun K' hK => ?_) | (refine AOps.nil (hK _ _ ?_); clear hK K') | refine AOps.e (EStep.boxW rfl rfl rfl rfl rfl True.intro rfl rfl ?_) | refine AOps.e (EStep.storeW tabOk rfl rfl rfl True.intro rfl rfl True.intro rfl rfl rfl rfl rfl rfl rfl ?_) | refine AOps.e (EStep.allocW tabOk rfl rfl rfl rfl rfl rfl ?_) | (refine AWP.condW rfl True.intro (fun hc => ?_) (fun hc => ?_) <;> (first | (simp only [dEt] at hc) | (simp only [dEf, iNl, iNe] at hc) | skip)) | refine AWP.block ?_ | refine AWP.exit ?_ | refine AWP.skip ?_ | refine AWP.ret ?_ | refine AWP.drawK2 (by decide +kernel) (by kernel_rfl) (by decide +kernel) rfl (fun K' hK => ?_) | refine AWP.drawL2 (by kernel_rfl) (by decide +kernel) rfl (fun K' hK => ?_) | (refine AQ.nil (hK _ ?_); clear hK K') | refine AQ.nil ?_ | refine AQ.q rfl rfl (fun hg => by first | exact std0 | exact std1) (by exact rfl) ?_)
    all_goals (first | (exfalso; omega) | (exfalso; simp at hc; done) | (exfalso; simp at hc; omega) | (exfalso; simp only [dEf, dEt] at hc; omega) | (rename_i h0; exfalso; simp at h0; done) | (rename_i h0; exfalso; simp at h0; omega) | skip)
    exact ⟨.inr rfl, Ent.int (Eq.symm (findI_no fun j hj => hall j (by omega)))⟩
def keyB2 (a b : Score) (q : Nat × Nat) : KeyP × Bool := (((barI a q.1).id, (barI b q.2).id), true)
def prM (a b : Score) (Q : List (Nat × Nat)) : List (KeyP × Bool) := insL [] (Q.map (keyB2 a b))
theorem prM_true {a b : Score} {Q : List (Nat × Nat)} {q : Nat × Nat} (h : q ∈ Q) : lk (prM a b Q) ((barI a q.1).id, (barI b q.2).id) = some true :=
  lk_insL_true (fun p hp => by obtain ⟨_, _, rfl⟩ := List.mem_map.1 hp; rfl) (List.mem_map.2 ⟨q, h, rfl⟩)
theorem prM_some {a b : Score} {Q : List (Nat × Nat)} {x y : Int} {v : Bool} (h : lk (prM a b Q) (x, y) = some v) : v = true ∧ ∃ q ∈ Q, x = (barI a q.1).id ∧ y = (barI b q.2).id := by
  rcases lk_insL_some h with h | h
  · cases h
  · obtain ⟨q, hq, e⟩ := List.mem_map.1 h
    unfold keyB2 at e
    simp only [Prod.mk.injEq] at e
    exact ⟨e.2.symm, q, hq, e.1.1.symm, e.1.2.symm⟩
def fsM (L : PL) : List (Int × Bool) := insL [] (L.map fun p => (p.1, true))
def snM (L : PL) : List (Int × Bool) := insL [] (L.map fun p => (p.2, true))
def wiM (L : PL) : List (Int × Int) := insL [] L
def lastN (a : Score) (L : PL) (j : Nat) : Int := if j = 0 then -1 else noteAt a.notes (L.getD (j - 1) default).1
theorem alignR_ip (c : Nat → Nat → Int) (n m : Nat) : alignR c n m = ip (back c n m).reverse := rfl
theorem ip_getD {Q : List (Nat × Nat)} {k : Nat} (h : k < Q.length) : (ip Q).getD k default = (((Q.getD k default).1 : Int), ((Q.getD k default).2 : Int)) := by
  unfold ip; exact map_getD' _ h
theorem prM_succ {a b : Score} {Q : List (Nat × Nat)} {k : Nat} (h : k < Q.length) : prM a b (Q.take (k + 1)) = ins (prM a b (Q.take k)) ((barI a (Q.getD k default).1).id, (barI b (Q.getD k default).2).id) true := by
  unfold prM; rw [takeS h, List.map_append]; exact insL_snoc _ _ _
theorem fsM_succ {L : PL} {k : Nat} (h : k < L.length) : fsM (L.take (k + 1)) = ins (fsM (L.take k)) (L.getD k default).1 true := by
  unfold fsM; rw [takeS h, List.map_append]; exact insL_snoc _ _ _
theorem snM_succ {L : PL} {k : Nat} (h : k < L.length) : snM (L.take (k + 1)) = ins (snM (L.take k)) (L.getD k default).2 true := by
  unfold snM; rw [takeS h, List.map_append]; exact insL_snoc _ _ _
theorem wiM_succ {L : PL} {k : Nat} (h : k < L.length) : wiM (L.take (k + 1)) = ins (wiM (L.take k)) (L.getD k default).1 (L.getD k default).2 := by
  unfold wiM; rw [takeS h]; exact insL_snoc _ _ _
theorem take_no {L : PL} {f : Int × Int → Int} (hn : (L.map f).Nodup) {k : Nat} (h : k < L.length) : ∀ p ∈ L.take k, f p ≠ f (L.getD k default) := fun p hp e => by
  have hn2 : ((L.take (k + 1)).map f).Nodup := ((List.take_sublist (k + 1) L).map f).nodup hn
  rw [takeS h, List.map_append, List.nodup_append] at hn2
  exact hn2.2.2 (f p) (List.mem_map.2 ⟨p, hp, rfl⟩) (f (L.getD k default)) (by simp) e
theorem fsM_no {L : PL} (hn : (L.map (·.1)).Nodup) {k : Nat} (h : k < L.length) : lk (fsM (L.take k)) (L.getD k default).1 = none := by
  refine (lk_insL _ _ _ fun q hq => ?_).trans rfl
  obtain ⟨p, hp, rfl⟩ := List.mem_map.1 hq
  exact take_no hn h p hp
theorem snM_no {L : PL} (hn : (L.map (·.2)).Nodup) {k : Nat} (h : k < L.length) : lk (snM (L.take k)) (L.getD k default).2 = none := by
  refine (lk_insL _ _ _ fun q hq => ?_).trans rfl
  obtain ⟨p, hp, rfl⟩ := List.mem_map.1 hq
  exact take_no hn h p hp
end Go.Proofs.YtekfpcgagoidcaaGreatDoor.Al

