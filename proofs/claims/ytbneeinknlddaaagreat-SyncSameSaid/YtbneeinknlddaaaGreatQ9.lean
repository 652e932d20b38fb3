/- The laws of tablets in plain words: what is written, lost, found again and exchanged. No program is in sight. Tablets that exchange, in plain words. No program is in sight. Some tablets that write, crash, wake and exchange: they never contradict each other. No program is in sight. Tablets that begin without events: the law of what they do, in plain words. No program is in sight. Tablets that exchange among others, and the end of SyncSame in plain words. No program is in sight. The laws SyncCrashes and SyncKeeps, and the end of SyncSame, in plain words. No program is in sight. No statement is proved here. -/
import Derived.Test.YtbneeinknlddaaaGreatQ8
set_option linter.unusedVariables false
set_option linter.unusedSimpArgs false
namespace Go.Sy
open Go.Jo
theorem add_ok {l more : List Ev} (h : (addE l more).2 = 0) : validE l = true ∧ (∀ e ∈ more, evOk e = true) ∧ NoFork (l ++ more) ∧ (unE l more).length ≤ 20000 ∧ addE l more = (unE l more, 0) := by
 unfold addE at h ⊢
 by_cases h1 : (validE l && more.all evOk) = true
 · rw [if_pos h1] at h ⊢
   by_cases h2 : NoFork (l ++ more)
   · rw [if_pos h2] at h ⊢
     by_cases h3 : (unE l more).length ≤ 20000
     · rw [if_pos h3]
       rw [zA2, zAb] at h1
       exact ⟨h1.1, h1.2, h2, h3, rfl⟩
     · rw [if_neg h3] at h; cases h
   · rw [if_neg h2] at h; cases h
 · rw [if_neg h1] at h; cases h
theorem add_of {l more : List Ev} (h1 : validE l = true) (h2 : ∀ e ∈ more, evOk e = true) (h3 : NoFork (l ++ more)) (h4 : (unE l more).length ≤ 20000) : addE l more = (unE l more, 0) := by
 unfold addE
 rw [h1, show more.all evOk = true from zAb.2 h2, if_pos (show (true && true) = true from rfl), if_pos h3, if_pos h4]
theorem un_app (a b : List Ev) : unE [] (a ++ b) = unE (unE [] a) b := by unfold unE; rw [zCr]
theorem log_valid {t : Tab} {raw : List Ev} (hl : Log t raw) : validE t.s.evs = true := by
 obtain ⟨u1, u2⟩ := un0 hl.nf
 rw [validE_iff, hl.evs]
 refine ⟨fun e he => hl.ok e ((u2 e).1 he), u1, ?_⟩
 have := un_len raw []
 have := cat_min hl.ok
 have := hl.len
 simp only [zA9] at *
 omega
theorem log_mem {t : Tab} {raw : List Ev} (hl : Log t raw) (x : Ev) : x ∈ t.s.evs ↔ x ∈ raw := by rw [hl.evs]; exact (un0 hl.nf).2 x
def fuller (t : Tab) (more : List Ev) : Tab := ⟨{ t.s with evs := unE t.s.evs more, known := knownE (unE t.s.evs more) t.s.id }, t.b ++ cat more, t.sure, t.up⟩
theorem take_ok {t : Tab} {raw more : List Ev} (hl : Log t raw) (h : (takeT t more).2 = 0) : takeT t more = (fuller t more, 0) ∧ Log (fuller t more) (raw ++ more) := by
 unfold takeT at h ⊢
 by_cases h1 : more ≠ [] ∧ 200000 < t.b.length + (cat more).length
 · rw [if_pos h1] at h; cases h
 · rw [if_neg h1] at h ⊢
   by_cases h2 : (addE t.s.evs more).2 ≠ 0
   · rw [if_pos h2] at h; exact absurd h h2
   · rw [if_neg h2]
     obtain ⟨g1, g2, g3, g4, g5⟩ := add_ok (Classical.not_not.1 h2)
     rw [g5]
     have hnf : NoFork (raw ++ more) := fun a ha b hb => g3 a (zAe.2 ((zAe.1 ha).imp_left (log_mem hl a).2)) b (zAe.2 ((zAe.1 hb).imp_left (log_mem hl b).2))
     refine ⟨rfl, ?_, fun e he => (zAe.1 he).elim (hl.ok e) (g2 e), hnf, ?_, ?_, rfl⟩
     · show t.b ++ cat more = _
       rw [cat_app, hl.b]
     · rw [cat_app, zAt]
       have := hl.len
       rw [hl.b] at h1
       by_cases hm : more = []
       · subst hm; simpa [cat] using this
       · have : ¬ 200000 < (cat raw).length + (cat more).length := fun g => h1 ⟨hm, g⟩
         omega
     · show unE t.s.evs more = _
       rw [un_app, hl.evs]
theorem take_of {t : Tab} {raw more : List Ev} (hl : Log t raw) (h1 : more = [] ∨ t.b.length + (cat more).length ≤ 200000) (h2 : ∀ e ∈ more, evOk e = true) (h3 : NoFork (t.s.evs ++ more)) (h4 : (unE t.s.evs more).length ≤ 20000) : takeT t more = (fuller t more, 0) := by
 unfold takeT
 rw [if_neg (by rintro ⟨a, b⟩; rcases h1 with h1 | h1; exact a h1; omega), add_of (log_valid hl) h2 h3 h4, if_neg (by simp)]
 rfl
theorem log_sure {t : Tab} {raw : List Ev} (hl : Log t raw) (n : Int) : Log { t with sure := n } raw := ⟨hl.b, hl.ok, hl.nf, hl.len, hl.evs, hl.kn⟩
theorem fit_sure {t : Tab} (hl : Fit t) (n : Int) : Fit { t with sure := n } := ⟨hl.ed, hl.who, hl.id⟩
theorem fit_full {t : Tab} (hl : Fit t) (more : List Ev) : Fit (fuller t more) := ⟨hl.ed, hl.who, hl.id⟩
theorem upto_app : ∀ (a b : List Ev) (n : Nat), (cat a).length ≤ n → upto (a ++ b) n = (a.length + (upto b (n - (cat a).length)).1, (cat a).length + (upto b (n - (cat a).length)).2)
 | [], b, n, _ => by simp [cat]
 | e :: a, b, n, h => by
   have e1 : cat (e :: a) = fr e ++ cat a := by simp [cat]
   rw [e1, zAt] at h ⊢
   have e0 : upto (e :: (a ++ b)) n = if (fr e).length ≤ n then (1 + (upto (a ++ b) (n - (fr e).length)).1, (fr e).length + (upto (a ++ b) (n - (fr e).length)).2) else (0, 0) := rfl
   rw [zC5, e0, if_pos (by omega), upto_app a b _ (by omega), show n - ((fr e).length + (cat a).length) = n - (fr e).length - (cat a).length by omega, zA1]
   simp only [Prod.mk.injEq]
   constructor <;> omega
theorem load_cut {raw : List Ev} {e : Ev} (h : ∀ x ∈ raw ++ [e], evOk x = true) {n : Nat} (h1 : (cat raw).length ≤ n) (h2 : n ≤ (cat (raw ++ [e])).length) :
 Jo.load ((cat (raw ++ [e])).take n) = if n = (cat (raw ++ [e])).length then (raw ++ [e], (cat (raw ++ [e])).length) else (raw, (cat raw).length) := by
 rw [load_take _ n h h2, upto_app raw [e] n h1]
 have e1 : (cat (raw ++ [e])).length = (cat raw).length + (fr e).length := by rw [cat_app, cat_one, zAt]
 rw [e1] at h2 ⊢
 unfold upto
 by_cases hn : n = (cat raw).length + (fr e).length
 · rw [if_pos hn, if_pos (by omega)]
   unfold upto
   simp only [Prod.mk.injEq]
   exact ⟨by rw [show raw.length + (1 + 0) = (raw ++ [e]).length by simp, zB1], by omega⟩
 · rw [if_neg hn, if_neg (by omega)]
   simp only [Prod.mk.injEq]
   exact ⟨by rw [zBk, List.take_left], by omega⟩
theorem wake_of {t : Tab} {raw : List Ev} (hf : Fit t) (hd : t.up = false) (hb : t.b.length ≤ 200000) (hl : Jo.load t.b = (raw, (cat raw).length)) (hn : NoFork raw) (s1 : 0 ≤ t.sure) (s2 : t.sure ≤ ((cat raw).length : Int)) (e1 : t.s.evs = []) (e2 : t.s.known = 0) :
 ∃ v, wakeT t = (v, 0) ∧ validT t = true ∧ validT v = true ∧ v = ⟨{ t.s with evs := unE [] raw, known := knownE (unE [] raw) t.s.id }, cat raw, ((cat raw).length : Int), true⟩ ∧ Log v raw := by
 have hv := valid_down.2 ⟨hb, by rw [hl]; exact hn, hf, s1, by rw [hl]; exact s2, e1, e2, hd⟩
 obtain ⟨i1, i2, i3, i4⟩ := load_inv t.b _ (zAi _)
 have hlen := hb
 rw [hl] at i1 i2 i4
 have hs : saidE t.b = (unE [] raw, (cat raw).length, true) := by rw [said_eq hb, hl, if_pos hn]
 refine ⟨⟨{ t.s with evs := unE [] raw, known := knownE (unE [] raw) t.s.id }, cat raw, ((cat raw).length : Int), true⟩, ?_, hv.1, ?_, rfl, ?_⟩
 · unfold wakeT
   rw [if_pos hv.1, if_neg (by rw [hd]; decide), hs]
   dsimp only at i2 ⊢
   rw [i2]
 · exact ((valid_up (t := ⟨{ t.s with evs := unE [] raw, known := knownE (unE [] raw) t.s.id }, cat raw, ((cat raw).length : Int), true⟩)).2 ⟨raw, ⟨rfl, i1, hn, by dsimp only at i4; omega, rfl, rfl⟩, ⟨hf.ed, hf.who, hf.id⟩, by show (0 : Int) ≤ ((cat raw).length : Int); omega, zAq _, rfl⟩).1
 · exact ⟨rfl, i1, hn, by dsimp only at i4; omega, rfl, rfl⟩
theorem nofork_swap {a b : List Ev} (h : NoFork (a ++ b)) : NoFork (b ++ a) := fun x hx y hy => h x (zAe.2 (zAe.1 hx).symm) y (zAe.2 (zAe.1 hy).symm)
theorem un_comm {a b : List Ev} (ha : Srt a) (hb : Srt b) (h : NoFork (a ++ b)) : unE a b = unE b a := un_uniq ha h hb fun _ => or_comm
theorem mem_miss {l there : List Ev} {x : Ev} : x ∈ missE l there ↔ x ∈ l ∧ x ∉ there := by
 unfold missE; rw [zBt, dEt]
theorem un_miss {a b : List Ev} (ha : Srt a) (h : NoFork (a ++ b)) : unE a (missE b a) = unE a b := by
 refine un_uniq ha (fun x hx y hy => h x ?_ y ?_) ha fun x => ?_
 · exact zAe.2 ((zAe.1 hx).imp_right fun g => (mem_miss.1 g).1)
 · exact zAe.2 ((zAe.1 hy).imp_right fun g => (mem_miss.1 g).1)
 · rw [mem_miss]
   constructor
   · rintro (g | g)
     · exact .inl g
     · exact .inr g.1
   · rintro (g | g)
     · exact .inl g
     · by_cases hx : x ∈ a
       · exact .inl hx
       · exact .inr ⟨g, hx⟩
theorem exch_ok {a b : Tab} (h : (exchT a b).2.2 = 0) :
 ∃ ra rb, Log a ra ∧ Log b rb ∧ Fit a ∧ Fit b ∧ a.up = true ∧ b.up = true ∧ a.s.id ≠ b.s.id ∧ NoFork (a.s.evs ++ b.s.evs) ∧ addE a.s.evs b.s.evs = (unE a.s.evs b.s.evs, 0) ∧
  exchT a b = (surely (fuller a (missE b.s.evs a.s.evs)), surely (fuller b (missE a.s.evs b.s.evs)), 0) ∧
  Log (surely (fuller a (missE b.s.evs a.s.evs))) (ra ++ missE b.s.evs a.s.evs) ∧ Log (surely (fuller b (missE a.s.evs b.s.evs))) (rb ++ missE a.s.evs b.s.evs) ∧
  (surely (fuller a (missE b.s.evs a.s.evs))).s.evs = unE a.s.evs b.s.evs ∧ (surely (fuller b (missE a.s.evs b.s.evs))).s.evs = unE a.s.evs b.s.evs := by
 unfold exchT at h ⊢
 by_cases h1 : (validT a && validT b && decide (a.s.id ≠ b.s.id)) = true
 · rw [if_pos h1] at h ⊢
   by_cases h2 : (a.up && b.up) = true
   · rw [if_pos h2] at h ⊢
     simp only [zA2, dEt] at h1 h2
     by_cases h3 : (addE a.s.evs b.s.evs).2 = 0
     · rw [if_pos h3] at h ⊢
       by_cases h4 : (takeT a (missE b.s.evs a.s.evs)).2 = 0 ∧ (takeT b (missE a.s.evs b.s.evs)).2 = 0
       · rw [if_pos h4]
         obtain ⟨ra, la, fa, _⟩ := valid_up.1 ⟨h1.1.1, h2.1⟩
         obtain ⟨rb, lb, fb, _⟩ := valid_up.1 ⟨h1.1.2, h2.2⟩
         obtain ⟨g1, g2, g3, g4, g5⟩ := add_ok h3
         obtain ⟨t1, t2⟩ := take_ok la h4.1
         obtain ⟨t3, t4⟩ := take_ok lb h4.2
         have sa := (validE_iff.1 (log_valid la)).2.1
         have sb := (validE_iff.1 (log_valid lb)).2.1
         refine ⟨ra, rb, la, lb, fa, fb, h2.1, h2.2, h1.2, g3, g5, by rw [t1, t3], log_sure t2 _, log_sure t4 _, un_miss sa g3, ?_⟩
         show unE b.s.evs (missE a.s.evs b.s.evs) = _
         rw [un_miss sb (nofork_swap g3), un_comm sa sb g3]
       · rw [if_neg h4] at h; cases h
     · rw [if_neg h3] at h; exact absurd h h3
   · rw [if_neg h2] at h; cases h
 · rw [if_neg h1] at h; cases h
theorem crash_gen {w : Tab} {raw raw' : List Ev} (hl : Log w raw) (hf : Fit w) (hu : w.up = true) (s0 : 0 ≤ w.sure) {n : Int} (h1 : w.sure ≤ n) (h2 : n ≤ (w.b.length : Int))
 (hd : Jo.load (w.b.take n.toNat) = (raw', (cat raw').length)) (hn : NoFork raw') (hs : w.sure ≤ ((cat raw').length : Int)) :
 ∃ c v, crashT w n = (c, 0) ∧ wakeT c = (v, 0) ∧ validT c = true ∧ validT v = true ∧ c = ⟨{ w.s with evs := [], known := 0 }, w.b.take n.toNat, w.sure, false⟩ ∧
  v = ⟨{ w.s with evs := unE [] raw', known := knownE (unE [] raw') w.s.id }, cat raw', ((cat raw').length : Int), true⟩ ∧ Log v raw' := by
 have hv : validT w = true := (valid_up.2 ⟨_, hl, hf, s0, by omega, hu⟩).1
 have hc : crashT w n = (⟨{ w.s with evs := [], known := 0 }, w.b.take n.toNat, w.sure, false⟩, 0) := by
  unfold crashT; rw [if_pos hv, if_pos hu, if_pos ⟨h1, h2⟩]
 have hbl : (w.b.take n.toNat).length ≤ 200000 := by have := hl.len; rw [← hl.b] at this; rw [zAk]; omega
 obtain ⟨v, g1, g2, g3, g4, g5⟩ := wake_of (t := ⟨{ w.s with evs := [], known := 0 }, w.b.take n.toNat, w.sure, false⟩) (raw := raw') ⟨hf.ed, hf.who, hf.id⟩ rfl hbl hd hn s0 hs rfl rfl
 exact ⟨_, v, hc, g1, g2, g3, rfl, g4, g5⟩
theorem load_raw {raw : List Ev} (h : ∀ e ∈ raw, evOk e = true) : Jo.load (cat raw) = (raw, (cat raw).length) := by
 have e1 := load_cat raw [] h
 rw [zBp, load_nil, zBp] at e1
 exact e1
theorem load_lost {raw : List Ev} {k : Nat} (h : ∀ e ∈ raw, evOk e = true) (k1 : k ≤ raw.length) (k2 : raw.length ≤ k + 1) {n : Nat} (h1 : (cat (raw.take k)).length ≤ n) (h2 : n ≤ (cat raw).length) :
 Jo.load ((cat raw).take n) = (raw, (cat raw).length) ∨ Jo.load ((cat raw).take n) = (raw.take k, (cat (raw.take k)).length) := by
 by_cases hk : raw.length = k
 · have e1 : raw.take k = raw := by rw [← hk, zB1]
   rw [e1] at h1
   rw [show n = (cat raw).length by omega, zB1]
   exact .inl (load_raw h)
 · obtain ⟨p, e, rfl⟩ : ∃ p e, raw = p ++ [e] := by
    have hne : raw ≠ [] := fun g => by rw [g] at hk k1; simp at hk k1; omega
    exact ⟨raw.dropLast, raw.getLast hne, (zCl hne).symm⟩
   rw [zAt, zCn] at k1 k2 hk
   have hp : (p ++ [e]).take k = p := by rw [show k = p.length by omega, List.take_left]
   rw [hp] at h1 ⊢
   rw [load_cut h h1 h2]
   split
   · exact .inl rfl
   · exact .inr rfl
structure TOk (id : Int) (t : Tab) (raw : List Ev) (k : Nat) : Prop where
 id : t.s.id = id
 fit : Fit t
 ld : Jo.load t.b = (raw, (cat raw).length)
 nf : NoFork raw
 nd : raw.Nodup
 ok : ∀ e ∈ raw, evOk e = true
 small : t.b.length ≤ 200000
 k1 : k ≤ raw.length
 k2 : raw.length ≤ k + 1
 sure : t.sure = ((cat (raw.take k)).length : Int)
 up : t.up = true → Log t raw
 down : t.up = false → t.s.evs = [] ∧ t.s.known = 0
theorem cat_take_le (raw : List Ev) (k : Nat) : (cat (raw.take k)).length ≤ (cat raw).length := by
 conv => rhs; rw [← zCb k raw, cat_app, zAt]
 omega
theorem TOk.valid {id : Int} {t : Tab} {raw : List Ev} {k : Nat} (h : TOk id t raw k) : validT t = true := by
 have h1 := h.sure
 have h2 := cat_take_le raw k
 cases hu : t.up with
 | true =>
   have hl := h.up hu
   exact (valid_up.2 ⟨raw, hl, h.fit, by omega, by rw [hl.b]; omega, hu⟩).1
 | false =>
   obtain ⟨d1, d2⟩ := h.down hu
   exact (valid_down.2 ⟨h.small, by rw [h.ld]; exact h.nf, h.fit, by omega, by rw [h.ld]; show t.sure ≤ ((cat raw).length : Int); omega, d1, d2, hu⟩).1
theorem log_nodup {raw : List Ev} {e : Ev} (h : raw.Nodup) (he : e ∉ raw) : (raw ++ [e]).Nodup := by
 rw [List.nodup_append]
 exact ⟨h, by simp, fun a ha b hb => by rw [zAa.1 hb]; exact fun g => he (g ▸ ha)⟩
theorem TOk.write {id : Int} {t : Tab} {raw : List Ev} {k : Nat} (h : TOk id t raw k) (hu : t.up = true) {e : Ev} (he : evOk e = true) (hs : e.stand = id) (hc : ∀ x ∈ t.s.evs, x.clock < e.clock) (hb : (cat (raw ++ [e])).length ≤ 200000) :
 ∃ w, writeT t e = (w, 0) ∧ TOk id w (raw ++ [e]) raw.length ∧ w.up = true ∧ validT w = true := by
 have hl := h.up hu
 have hv := h.valid
 have hnr : e ∉ raw := fun g => by have := hc e ((log_mem hl e).2 g); omega
 have hve : validE [e] = true := validE_iff.2 ⟨fun x hx => by rw [zAa.1 hx]; exact he, by simp [Srt], by simp⟩
 have hla : laterT t e = true := zAb.2 fun x hx => decide_eq_true (hc x hx)
 have hnf : NoFork (t.s.evs ++ [e]) := fun a ha b hb hst => by
  rcases zAe.1 ha with ha | ha <;> rcases zAe.1 hb with hb | hb
  · exact h.nf a ((log_mem hl a).1 ha) b ((log_mem hl b).1 hb) hst
  · rw [zAa.1 hb] at hst; have := hc a ha; unfold stamp at hst; omega
  · rw [zAa.1 ha] at hst; have := hc b hb; unfold stamp at hst; omega
  · rw [zAa.1 ha, zAa.1 hb]
 have hall : ∀ x ∈ raw ++ [e], evOk x = true := fun x hx => (zAe.1 hx).elim (h.ok x) fun g => by rw [zAa.1 g]; exact he
 have hle : (unE t.s.evs [e]).length ≤ 20000 := by
  have := un_len [e] t.s.evs
  have h3 := un_len raw []
  rw [← hl.evs] at h3
  have := cat_min hall
  simp only [zAt, zCn, zA9] at *
  omega
 have hbl : (surely t).b.length + (cat [e]).length ≤ 200000 := by
  rw [cat_app, zAt] at hb
  show t.b.length + _ ≤ _
  rw [hl.b]; exact hb
 have ht := take_of (log_sure hl t.b.length) (more := [e]) (.inr hbl) (fun x hx => by rw [zAa.1 hx]; exact he) hnf hle
 obtain ⟨_, hl2⟩ := take_ok (log_sure hl t.b.length) (more := [e]) (by rw [ht])
 have hw : writeT t e = (fuller (surely t) [e], 0) := by
  unfold writeT
  rw [hv, hve, decide_eq_true (hs.trans h.id.symm), if_pos (by rfl), if_pos (show (t.up && laterT t e) = true by rw [hu, hla]; rfl)]
  exact ht
 have hok : TOk id (fuller (surely t) [e]) (raw ++ [e]) raw.length := by
  refine ⟨h.id, fit_full (fit_sure h.fit _) _, ?_, hl2.nf, log_nodup h.nd hnr, hall, ?_, by simp, by simp, ?_, fun _ => hl2, fun g => ?_⟩
  · rw [show (fuller (surely t) [e]).b = cat (raw ++ [e]) from hl2.b, load_raw hall]
  · rw [show (fuller (surely t) [e]).b = cat (raw ++ [e]) from hl2.b]; exact hb
  · rw [List.take_left]
    show (t.b.length : Int) = _
    rw [hl.b]
  · have : t.up = false := g
    rw [hu] at this; cases this
 exact ⟨_, hw, hok, hu, hok.valid⟩
theorem TOk.crash {id : Int} {t : Tab} {raw : List Ev} {k : Nat} (h : TOk id t raw k) (hu : t.up = true) {n : Int} (h1 : t.sure ≤ n) (h2 : n ≤ (t.b.length : Int)) :
 ∃ c, crashT t n = (c, 0) ∧ c.up = false ∧ validT c = true ∧ (TOk id c raw k ∨ TOk id c (raw.take k) k) := by
 have hl := h.up hu
 have hsu := h.sure
 have hb := hl.b
 have key : ∀ raw', Jo.load (t.b.take n.toNat) = (raw', (cat raw').length) → NoFork raw' → raw'.Nodup → (∀ e ∈ raw', evOk e = true) → k ≤ raw'.length → raw'.length ≤ k + 1 → raw'.take k = raw.take k →
  ∃ c, crashT t n = (c, 0) ∧ c.up = false ∧ validT c = true ∧ TOk id c raw' k := fun raw' hd hn hnd hok g1 g2 g3 => by
  obtain ⟨c, v, c1, c2, c3, c4, c5, _⟩ := crash_gen hl h.fit hu (by omega) h1 h2 hd hn (by rw [hsu, ← g3]; have := cat_take_le raw' k; omega)
  refine ⟨c, c1, by rw [c5], c3, ?_⟩
  rw [c5]
  have hlen : t.b.length ≤ 200000 := h.small
  exact ⟨h.id, ⟨h.fit.ed, h.fit.who, h.fit.id⟩, hd, hn, hnd, hok, by show (t.b.take n.toNat).length ≤ 200000; rw [zAk]; omega, g1, g2, by show t.sure = _; rw [hsu, g3], (fun g => by cases g), fun _ => ⟨rfl, rfl⟩⟩
 have hcut := load_lost h.ok h.k1 h.k2 (n := n.toNat) (by omega) (by rw [hb] at h2; omega)
 rw [← hb] at hcut
 have hsub : ∀ e ∈ raw.take k, e ∈ raw := fun e he => zC2 he
 rcases hcut with hc | hc
 · obtain ⟨c, c1, c2, c3, c4⟩ := key raw (by rw [hc, hb]) h.nf h.nd h.ok h.k1 h.k2 rfl
   exact ⟨c, c1, c2, c3, .inl c4⟩
 · have hk := h.k1
   obtain ⟨c, c1, c2, c3, c4⟩ := key (raw.take k) hc (fun a ha b hb => h.nf a (hsub a ha) b (hsub b hb)) (h.nd.sublist (List.take_sublist k raw)) (fun e he => h.ok e (hsub e he)) (by rw [zAk]; omega) (by rw [zAk]; omega) (by rw [List.take_take, Nat.min_self])
   exact ⟨c, c1, c2, c3, .inr c4⟩
theorem TOk.wake {id : Int} {t : Tab} {raw : List Ev} {k : Nat} (h : TOk id t raw k) (hu : t.up = false) : ∃ v, wakeT t = (v, 0) ∧ v.up = true ∧ validT v = true ∧ TOk id v raw raw.length := by
 obtain ⟨d1, d2⟩ := h.down hu
 have hsu := h.sure
 have := cat_take_le raw k
 obtain ⟨v, g1, g2, g3, g4, g5⟩ := wake_of h.fit hu h.small h.ld h.nf (by omega) (by omega) d1 d2
 refine ⟨v, g1, by rw [g4], g3, ⟨by rw [g4]; exact h.id, by rw [g4]; exact ⟨h.fit.ed, h.fit.who, h.fit.id⟩, by rw [g5.b]; exact load_raw h.ok, h.nf, h.nd, h.ok, by rw [g5.b]; exact g5.len, zAi _, by omega, by rw [g4, zB1], fun _ => g5, fun g => by rw [g4] at g; cases g⟩⟩
theorem TOk.mem {id : Int} {t : Tab} {raw : List Ev} {k : Nat} (h : TOk id t raw k) (hu : t.up = true) (x : Ev) : x ∈ t.s.evs ↔ x ∈ raw := log_mem (h.up hu) x
theorem fr_max {e : Ev} (h : evOk e = true) : (fr e).length ≤ 2141 := by
 have h1 := (ints_len h).2
 have h2 := flat_len (ints e)
 have h3 := (num_len ((ints e).length : Int)).2
 unfold fr
 rw [frame_len]
 unfold putL
 rw [zAt]
 omega
theorem cat_max : ∀ {l : List Ev}, (∀ e ∈ l, evOk e = true) → (cat l).length ≤ 2141 * l.length
 | [], _ => by simp [cat]
 | e :: l, h => by
   have h1 := cat_max (l := l) fun x hx => h x (zAj _ hx)
   have h2 := fr_max (h e (zAn ..))
   have e1 : cat (e :: l) = fr e ++ cat l := by simp [cat]
   rw [e1, zAt, zA1]; omega
theorem nodup_le : ∀ {a b : List Ev}, a.Nodup → (∀ x ∈ a, x ∈ b) → a.length ≤ b.length
 | [], _, _, _ => zD2 _
 | x :: a, b, h, hs => by
   rw [List.nodup_cons] at h
   have hx := hs x (zAn ..)
   have := nodup_le (a := a) (b := b.erase x) h.2 fun y hy => (List.mem_erase_of_ne (fun g : y = x => h.1 (by rw [← g]; exact hy))).2 (hs y (zAj _ hy))
   rw [List.length_erase_of_mem hx] at this
   have := List.length_pos_of_mem hx
   rw [zA1]; omega
structure World (n : Nat) (t : Nat → Tab) (raw : Nat → List Ev) (k : Nat → Nat) (W : List Ev) : Prop where
 each : ∀ i, i < n → TOk ((i : Int) + 1) (t i) (raw i) (k i)
 all : ∀ i, i < n → ∀ e ∈ raw i, e ∈ W
 own : ∀ i, i < n → ∀ e ∈ raw i, ∃ j, j < n ∧ e.stand = (j : Int) + 1 ∧ e ∈ raw j ∧ (j ≠ i → e ∈ (raw j).take (k j))
def set1 {α : Type} (f : Nat → α) (i : Nat) (x : α) : Nat → α := fun j => if j = i then x else f j
theorem set1_eq {α : Type} (f : Nat → α) (i : Nat) (x : α) : set1 f i x i = x := by simp [set1]
theorem set1_ne {α : Type} (f : Nat → α) {i j : Nat} (x : α) (h : j ≠ i) : set1 f i x j = f j := by simp [set1, h]
theorem World.nofork {n : Nat} {t : Nat → Tab} {raw : Nat → List Ev} {k : Nat → Nat} {W : List Ev} (h : World n t raw k W) {i j : Nat} (hi : i < n) (hj : j < n) : NoFork (raw i ++ raw j) := by
 have key : ∀ x, x ∈ raw i ++ raw j → ∃ m, m < n ∧ x.stand = (m : Int) + 1 ∧ x ∈ raw m := fun x hx => by
  rcases zAe.1 hx with g | g
  · obtain ⟨m, m1, m2, m3, _⟩ := h.own i hi x g; exact ⟨m, m1, m2, m3⟩
  · obtain ⟨m, m1, m2, m3, _⟩ := h.own j hj x g; exact ⟨m, m1, m2, m3⟩
 intro a ha b hb hs
 obtain ⟨m, m1, m2, m3⟩ := key a ha
 obtain ⟨m', n1, n2, n3⟩ := key b hb
 have : m' = m := by have := hs.2; omega
 subst this
 exact (h.each _ n1).nf a m3 b n3 hs
theorem World.size {n : Nat} {t : Nat → Tab} {raw : Nat → List Ev} {k : Nat → Nat} {W : List Ev} (h : World n t raw k W) {i : Nat} (hi : i < n) : (raw i).length ≤ W.length := nodup_le (h.each i hi).nd (h.all i hi)
theorem take_more (a b : List Ev) (k : Nat) {e : Ev} (h : e ∈ a.take k) : e ∈ (a ++ b).take a.length := by
 rw [List.take_left]; exact zC2 h
theorem World.write {n : Nat} {t : Nat → Tab} {raw : Nat → List Ev} {k : Nat → Nat} {W : List Ev} (h : World n t raw k W) {i : Nat} (hi : i < n) (hW : W.length < 90) (hu : (t i).up = true) {e : Ev} (he : evOk e = true) (hs : e.stand = (i : Int) + 1) (hc : ∀ x ∈ (t i).s.evs, x.clock < e.clock) :
 ∃ w, writeT (t i) e = (w, 0) ∧ w.up = true ∧ validT w = true ∧ World n (set1 t i w) (set1 raw i (raw i ++ [e])) (set1 k i (raw i).length) (e :: W) := by
 have ht := h.each i hi
 have hsz := h.size hi
 have hall : ∀ x ∈ raw i ++ [e], evOk x = true := fun x hx => (zAe.1 hx).elim (ht.ok x) fun g => by rw [zAa.1 g]; exact he
 have hmax := cat_max hall
 rw [zAt, zCn] at hmax
 obtain ⟨w, w1, w2, w3, w4⟩ := ht.write hu he hs hc (by omega)
 refine ⟨w, w1, w3, w4, fun j hj => ?_, fun j hj x hx => ?_, fun j hj x hx => ?_⟩
 · by_cases hji : j = i
   · subst hji; rw [set1_eq, set1_eq, set1_eq]; exact w2
   · rw [set1_ne _ _ hji, set1_ne _ _ hji, set1_ne _ _ hji]; exact h.each j hj
 · by_cases hji : j = i
   · subst hji
     rw [set1_eq] at hx
     rcases zAe.1 hx with g | g
     · exact zAj _ (h.all j hj x g)
     · rw [zAa.1 g]; exact zAn ..
   · rw [set1_ne _ _ hji] at hx
     exact zAj _ (h.all j hj x hx)
 · have old : ∀ q, q < n → x ∈ raw q → q = j → ∃ m, m < n ∧ x.stand = (m : Int) + 1 ∧ x ∈ set1 raw i (raw i ++ [e]) m ∧ (m ≠ j → x ∈ (set1 raw i (raw i ++ [e]) m).take (set1 k i (raw i).length m)) := fun q hq hxq hqj => by
    subst hqj
    obtain ⟨m, m1, m2, m3, m4⟩ := h.own q hq x hxq
    refine ⟨m, m1, m2, ?_, fun hm => ?_⟩
    · by_cases hmi : m = i
      · subst hmi; rw [set1_eq]; exact zBh _ m3
      · rw [set1_ne _ _ hmi]; exact m3
    · by_cases hmi : m = i
      · subst hmi; rw [set1_eq, set1_eq]; exact take_more _ _ _ (m4 hm)
      · rw [set1_ne _ _ hmi, set1_ne _ _ hmi]; exact m4 hm
   by_cases hji : j = i
   · subst hji
     rw [set1_eq] at hx
     rcases zAe.1 hx with g | g
     · exact old j hj g rfl
     · have hxe := zAa.1 g
       exact ⟨j, hj, by rw [hxe]; exact hs, by rw [set1_eq]; exact hx, fun g => absurd rfl g⟩
   · rw [set1_ne _ _ hji] at hx
     exact old j hj hx rfl
theorem World.crash {n : Nat} {t : Nat → Tab} {raw : Nat → List Ev} {k : Nat → Nat} {W : List Ev} (h : World n t raw k W) {i : Nat} (hi : i < n) (hu : (t i).up = true) {m : Int} (h1 : (t i).sure ≤ m) (h2 : m ≤ ((t i).b.length : Int)) :
 ∃ c raw', crashT (t i) m = (c, 0) ∧ c.up = false ∧ validT c = true ∧ World n (set1 t i c) (set1 raw i raw') k W := by
 obtain ⟨c, c1, c2, c3, c4⟩ := (h.each i hi).crash hu h1 h2
 have key : ∀ raw', TOk ((i : Int) + 1) c raw' (k i) → (∀ x ∈ raw', x ∈ raw i) → (∀ x ∈ (raw i).take (k i), x ∈ raw'.take (k i)) → World n (set1 t i c) (set1 raw i raw') k W := fun raw' g1 g2 g3 => by
  have sub : ∀ j x, x ∈ set1 raw i raw' j → x ∈ raw j := fun j x hx => by
   by_cases hji : j = i
   · subst hji; rw [set1_eq] at hx; exact g2 x hx
   · rw [set1_ne _ _ hji] at hx; exact hx
  refine ⟨fun j hj => ?_, fun j hj x hx => h.all j hj x (sub j x hx), fun j hj x hx => ?_⟩
  · by_cases hji : j = i
    · subst hji; rw [set1_eq, set1_eq]; exact g1
    · rw [set1_ne _ _ hji, set1_ne _ _ hji]; exact h.each j hj
  · obtain ⟨m, m1, m2, m3, m4⟩ := h.own j hj x (sub j x hx)
    by_cases hmj : m = j
    · subst hmj; exact ⟨m, m1, m2, hx, fun g => absurd rfl g⟩
    · have h4 := m4 hmj
      have h5 : x ∈ (set1 raw i raw' m).take (k m) := by
       by_cases hmi : m = i
       · subst hmi; rw [set1_eq]; exact g3 x h4
       · rw [set1_ne _ _ hmi]; exact h4
      exact ⟨m, m1, m2, zC2 h5, fun _ => h5⟩
 rcases c4 with c4 | c4
 · exact ⟨c, raw i, c1, c2, c3, key _ c4 (fun x hx => hx) fun x hx => hx⟩
 · exact ⟨c, (raw i).take (k i), c1, c2, c3, key _ c4 (fun x hx => zC2 hx) fun x hx => by rw [List.take_take, Nat.min_self]; exact hx⟩
theorem World.wake {n : Nat} {t : Nat → Tab} {raw : Nat → List Ev} {k : Nat → Nat} {W : List Ev} (h : World n t raw k W) {i : Nat} (hi : i < n) (hu : (t i).up = false) :
 ∃ v, wakeT (t i) = (v, 0) ∧ v.up = true ∧ validT v = true ∧ World n (set1 t i v) raw (set1 k i (raw i).length) W := by
 obtain ⟨v, v1, v2, v3, v4⟩ := (h.each i hi).wake hu
 refine ⟨v, v1, v2, v3, fun j hj => ?_, h.all, fun j hj x hx => ?_⟩
 · by_cases hji : j = i
   · subst hji; rw [set1_eq, set1_eq]; exact v4
   · rw [set1_ne _ _ hji, set1_ne _ _ hji]; exact h.each j hj
 · obtain ⟨m, m1, m2, m3, m4⟩ := h.own j hj x hx
   refine ⟨m, m1, m2, m3, fun hm => ?_⟩
   by_cases hmi : m = i
   · subst hmi; rw [set1_eq, zB1]; exact m3
   · rw [set1_ne _ _ hmi]; exact m4 hm
theorem miss_nodup {l there : List Ev} (h : l.Nodup) : (missE l there).Nodup := h.sublist List.filter_sublist
theorem srt_nodup {l : List Ev} (h : Srt l) : l.Nodup := List.Pairwise.imp (fun {a b} hab => fun e => by rw [e, before_irr] at hab; cases hab) h
theorem TOk.full {id : Int} {t : Tab} {raw : List Ev} {k : Nat} (h : TOk id t raw k) {more : List Ev} (hu : t.up = true) (hl : Log (surely (fuller t more)) (raw ++ more)) (hnd : (raw ++ more).Nodup) : TOk id (surely (fuller t more)) (raw ++ more) (raw ++ more).length := by
 refine ⟨h.id, ⟨h.fit.ed, h.fit.who, h.fit.id⟩, ?_, hl.nf, hnd, hl.ok, ?_, zAi _, by omega, ?_, fun _ => hl, fun g => ?_⟩
 · rw [hl.b, load_raw hl.ok]
 · rw [hl.b]; exact hl.len
 · rw [zB1, ← hl.b]; rfl
 · have : t.up = false := g
   rw [hu] at this; cases this
theorem World.exch {n : Nat} {t : Nat → Tab} {raw : Nat → List Ev} {k : Nat → Nat} {W : List Ev} (h : World n t raw k W) {i j : Nat} (hi : i < n) (hj : j < n) (hij : i ≠ j) (hW : W.length ≤ 90) (ui : (t i).up = true) (uj : (t j).up = true) :
 ∃ x y rx ry, exchT (t i) (t j) = (x, y, 0) ∧ x.up = true ∧ y.up = true ∧ x.s.evs = y.s.evs ∧ (∀ e, e ∈ rx ↔ e ∈ raw i ∨ e ∈ raw j) ∧ (∀ e, e ∈ ry ↔ e ∈ raw i ∨ e ∈ raw j) ∧
  World n (set1 (set1 t i x) j y) (set1 (set1 raw i rx) j ry) (set1 (set1 k i rx.length) j ry.length) W := by
 have ti := h.each i hi
 have tj := h.each j hj
 have li := ti.up ui
 have lj := tj.up uj
 have vi := log_valid li
 have vj := log_valid lj
 have si := validE_iff.1 vi
 have sj := validE_iff.1 vj
 have mi := ti.mem ui
 have mj := tj.mem uj
 have hf : NoFork ((t i).s.evs ++ (t j).s.evs) := fun a ha b hb => h.nofork hi hj a (zAe.2 ((zAe.1 ha).imp (mi a).1 (mj a).1)) b (zAe.2 ((zAe.1 hb).imp (mi b).1 (mj b).1))
 have hid : (t i).s.id ≠ (t j).s.id := by rw [ti.id, tj.id]; omega
 -- what is missing fits in
 have small : ∀ {p q : Nat}, p < n → q < n → (t p).up = true → (t q).up = true →
  (raw p ++ missE (t q).s.evs (t p).s.evs).Nodup ∧ (raw p ++ missE (t q).s.evs (t p).s.evs).length ≤ 90 ∧ (∀ e ∈ raw p ++ missE (t q).s.evs (t p).s.evs, evOk e = true) ∧
  (∀ e, e ∈ raw p ++ missE (t q).s.evs (t p).s.evs ↔ e ∈ raw p ∨ e ∈ raw q) := fun {p q} hp hq up uq => by
  have tp := h.each p hp
  have tq := h.each q hq
  have mp := tp.mem up
  have mq := tq.mem uq
  have hm : ∀ e, e ∈ raw p ++ missE (t q).s.evs (t p).s.evs ↔ e ∈ raw p ∨ e ∈ raw q := fun e => by
   rw [zAe, mem_miss, mp, mq]
   constructor
   · rintro (g | g)
     · exact .inl g
     · exact .inr g.1
   · rintro (g | g)
     · exact .inl g
     · by_cases he : e ∈ raw p
       · exact .inl he
       · exact .inr ⟨g, he⟩
  have hnd : (raw p ++ missE (t q).s.evs (t p).s.evs).Nodup := by
   rw [List.nodup_append]
   refine ⟨tp.nd, miss_nodup (srt_nodup (validE_iff.1 (log_valid (tq.up uq))).2.1), fun a ha b hb g => ?_⟩
   subst g
   exact (mem_miss.1 hb).2 ((mp a).2 ha)
  refine ⟨hnd, ?_, fun e he => ?_, hm⟩
  · have := nodup_le hnd (b := W) fun x hx => ((hm x).1 hx).elim (h.all p hp x) (h.all q hq x)
    omega
  · exact ((hm e).1 he).elim (tp.ok e) (tq.ok e)
 obtain ⟨a1, a2, a3, a4⟩ := small hi hj ui uj
 obtain ⟨b1, b2, b3, b4⟩ := small hj hi uj ui
 have un_small : ∀ {p q : Nat}, p < n → q < n → (t p).up = true → (t q).up = true → (unE (t p).s.evs (missE (t q).s.evs (t p).s.evs)).length ≤ 20000 ∧ (unE (t p).s.evs (t q).s.evs).length ≤ 20000 := fun {p q} hp hq up uq => by
  have e1 : (t p).s.evs.length ≤ 90 := by
   have := nodup_le (srt_nodup (validE_iff.1 (log_valid ((h.each p hp).up up))).2.1) (b := W) fun x hx => h.all p hp x (((h.each p hp).mem up x).1 hx)
   omega
  have e2 : (t q).s.evs.length ≤ 90 := by
   have := nodup_le (srt_nodup (validE_iff.1 (log_valid ((h.each q hq).up uq))).2.1) (b := W) fun x hx => h.all q hq x (((h.each q hq).mem uq x).1 hx)
   omega
  have e3 : (missE (t q).s.evs (t p).s.evs).length ≤ (t q).s.evs.length := List.length_filter_le _ _
  have e4 := un_len (missE (t q).s.evs (t p).s.evs) (t p).s.evs
  have e5 := un_len (t q).s.evs (t p).s.evs
  constructor <;> omega
 have hadd := add_of vi sj.1 hf (un_small hi hj ui uj).2
 have nfm : ∀ {p q : List Ev}, NoFork (p ++ q) → NoFork (p ++ missE q p) := fun h a ha b hb => h a (zAe.2 ((zAe.1 ha).imp_right fun g => (mem_miss.1 g).1)) b (zAe.2 ((zAe.1 hb).imp_right fun g => (mem_miss.1 g).1))
 have bytes : ∀ {p : Nat} {more : List Ev}, (Log (t p) (raw p)) → (∀ e ∈ raw p ++ more, evOk e = true) → (raw p ++ more).length ≤ 90 → (t p).b.length + (cat more).length ≤ 200000 := fun {p more} hl hk hlen => by
  have := cat_max hk
  rw [cat_app, zAt, ← hl.b] at this
  omega
 have t1 := take_of li (.inr (bytes li a3 a2)) (fun e he => sj.1 e (mem_miss.1 he).1) (nfm hf) (un_small hi hj ui uj).1
 have t2 := take_of lj (.inr (bytes lj b3 b2)) (fun e he => si.1 e (mem_miss.1 he).1) (nfm (nofork_swap hf)) (un_small hj hi uj ui).1
 have hz : (exchT (t i) (t j)).2.2 = 0 := by
  unfold exchT
  rw [ti.valid, tj.valid, decide_eq_true hid, if_pos (by rfl), ui, uj, if_pos (by rfl), hadd, if_pos rfl, t1, t2, if_pos ⟨rfl, rfl⟩]
 obtain ⟨ra, rb, la, lb, fa, fb, _, _, _, _, _, hx, lx, ly, ex, ey⟩ := exch_ok hz
 have hra : ra = raw i := by
  have e1 := ti.ld
  rw [la.b, load_raw la.ok] at e1
  exact (Prod.mk.inj e1).1
 have hrb : rb = raw j := by
  have e1 := tj.ld
  rw [lb.b, load_raw lb.ok] at e1
  exact (Prod.mk.inj e1).1
 subst hra hrb
 have b4' : ∀ e, e ∈ raw j ++ missE (t i).s.evs (t j).s.evs ↔ e ∈ raw i ∨ e ∈ raw j := fun e => (b4 e).trans or_comm
 refine ⟨_, _, _, _, hx, ui, uj, ex.trans ey.symm, a4, b4', ?_⟩
 have hji : j ≠ i := fun g => hij g.symm
 generalize hX : surely (fuller (t i) (missE (t j).s.evs (t i).s.evs)) = x at *
 generalize hY : surely (fuller (t j) (missE (t i).s.evs (t j).s.evs)) = y at *
 generalize hrx : raw i ++ missE (t j).s.evs (t i).s.evs = rx at *
 generalize hry : raw j ++ missE (t i).s.evs (t j).s.evs = ry at *
 have ox : TOk ((i : Int) + 1) x rx rx.length := by
  rw [← hX, ← hrx]; exact ti.full ui (by rw [hX, hrx]; exact lx) (by rw [hrx]; exact a1)
 have oy : TOk ((j : Int) + 1) y ry ry.length := by
  rw [← hY, ← hry]; exact tj.full uj (by rw [hY, hry]; exact ly) (by rw [hry]; exact b1)
 have up : ∀ m e, e ∈ raw m → e ∈ set1 (set1 raw i rx) j ry m := fun m e he => by
  by_cases hmj : m = j
  · subst hmj; rw [set1_eq]; exact (b4' e).2 (.inr he)
  · rw [set1_ne _ _ hmj]
    by_cases hmi : m = i
    · subst hmi; rw [set1_eq]; exact (a4 e).2 (.inl he)
    · rw [set1_ne _ _ hmi]; exact he
 have sure : ∀ m e, e ∈ (raw m).take (k m) ∨ ((m = i ∨ m = j) ∧ e ∈ raw m) → e ∈ (set1 (set1 raw i rx) j ry m).take (set1 (set1 k i rx.length) j ry.length m) := fun m e he => by
  have hin : e ∈ raw m := he.elim zC2 And.right
  by_cases hmj : m = j
  · subst hmj; rw [set1_eq, set1_eq, zB1]; exact (b4' e).2 (.inr hin)
  · rw [set1_ne _ _ hmj, set1_ne _ _ hmj]
    by_cases hmi : m = i
    · subst hmi; rw [set1_eq, set1_eq, zB1]; exact (a4 e).2 (.inl hin)
    · rw [set1_ne _ _ hmi, set1_ne _ _ hmi]
      rcases he with he | ⟨g | g, _⟩
      · exact he
      · exact absurd g hmi
      · exact absurd g hmj
 have from_ : ∀ m e, m < n → e ∈ set1 (set1 raw i rx) j ry m → ∃ q, q < n ∧ e ∈ raw q ∧ (q = m ∨ (q = i ∨ q = j)) := fun m e hm he => by
  by_cases hmj : m = j
  · subst hmj; rw [set1_eq] at he
    rcases (b4' e).1 he with g | g
    · exact ⟨i, hi, g, .inr (.inl rfl)⟩
    · exact ⟨m, hm, g, .inl rfl⟩
  · rw [set1_ne _ _ hmj] at he
    by_cases hmi : m = i
    · subst hmi; rw [set1_eq] at he
      rcases (a4 e).1 he with g | g
      · exact ⟨m, hm, g, .inl rfl⟩
      · exact ⟨j, hj, g, .inr (.inr rfl)⟩
    · rw [set1_ne _ _ hmi] at he
      exact ⟨m, hm, he, .inl rfl⟩
 refine ⟨fun m hm => ?_, fun m hm e he => ?_, fun m hm e he => ?_⟩
 · by_cases hmj : m = j
   · subst hmj; rw [set1_eq, set1_eq, set1_eq]; exact oy
   · rw [set1_ne _ _ hmj, set1_ne _ _ hmj, set1_ne _ _ hmj]
     by_cases hmi : m = i
     · subst hmi; rw [set1_eq, set1_eq, set1_eq]; exact ox
     · rw [set1_ne _ _ hmi, set1_ne _ _ hmi, set1_ne _ _ hmi]; exact h.each m hm
 · obtain ⟨q, q1, q2, _⟩ := from_ m e hm he
   exact h.all q q1 e q2
 · obtain ⟨q, q1, q2, q3⟩ := from_ m e hm he
   obtain ⟨p, p1, p2, p3, p4⟩ := h.own q q1 e q2
   refine ⟨p, p1, p2, up p e p3, fun hpm => sure p e ?_⟩
   by_cases hpq : p = q
   · rcases q3 with g | g
     · exact absurd (hpq.trans g) hpm
     · exact .inr ⟨hpq ▸ g, p3⟩
   · exact .inl (p4 hpq)
def swap1 (t : Nat → Tab) (i : Nat) : Nat → Tab := set1 (set1 t 0 (exchT (t 0) (t i)).1) i (exchT (t 0) (t i)).2.1
def Up (n : Nat) (t : Nat → Tab) : Prop := (∃ raw k W, World n t raw k W ∧ W.length ≤ 90) ∧ ∀ i, i < n → (t i).up = true
theorem up_swap {n : Nat} {t : Nat → Tab} (h : Up n t) {i : Nat} (hi : i < n) (h0 : 0 < i) :
 (exchT (t 0) (t i)).2.2 = 0 ∧ Up n (swap1 t i) ∧ (swap1 t i 0).s.evs = (swap1 t i i).s.evs ∧ (∀ x, x ∈ (swap1 t i 0).s.evs ↔ x ∈ (t 0).s.evs ∨ x ∈ (t i).s.evs) ∧ (∀ j, j ≠ 0 → j ≠ i → swap1 t i j = t j) := by
 obtain ⟨⟨raw, k, W, hw, hW⟩, hu⟩ := h
 obtain ⟨x, y, rx, ry, h1, ux, uy, he, hx, hy, hw'⟩ := hw.exch (show 0 < n by omega) hi (show 0 ≠ i by omega) hW (hu 0 (by omega)) (hu i hi)
 have hs : swap1 t i = set1 (set1 t 0 x) i y := by unfold swap1; rw [h1]
 have h0i : (0 : Nat) ≠ i := by omega
 have e0 : swap1 t i 0 = x := by rw [hs, set1_ne _ _ h0i, set1_eq]
 have ei : swap1 t i i = y := by rw [hs, set1_eq]
 have o0 := hw'.each 0 (by omega)
 rw [set1_ne _ _ h0i, set1_ne _ _ h0i, set1_ne _ _ h0i, set1_eq, set1_eq, set1_eq] at o0
 refine ⟨by rw [h1], ⟨⟨_, _, W, by rw [hs]; exact hw', hW⟩, fun j hj => ?_⟩, by rw [e0, ei]; exact he, fun z => ?_, fun j j0 ji => ?_⟩
 · rw [hs]
   by_cases hji : j = i
   · subst hji; rw [set1_eq]; exact uy
   · rw [set1_ne _ _ hji]
     by_cases hj0 : j = 0
     · subst hj0; rw [set1_eq]; exact ux
     · rw [set1_ne _ _ hj0]; exact hu j hj
 · rw [e0, o0.mem ux, hx, ← (hw.each 0 (by omega)).mem (hu 0 (by omega)), ← (hw.each i hi).mem (hu i hi)]
 · rw [hs, set1_ne _ _ ji, set1_ne _ _ j0]
def roundT (t : Nat → Tab) : Nat → Nat → Tab
 | 0 => t
 | m + 1 => if m = 0 then roundT t m else swap1 (roundT t m) m
theorem up_evs {n : Nat} {t : Nat → Tab} (h : Up n t) {i : Nat} (hi : i < n) : Srt (t i).s.evs := by
 obtain ⟨⟨raw, k, W, hw, _⟩, hu⟩ := h
 exact (validE_iff.1 (log_valid ((hw.each i hi).up (hu i hi)))).2.1
theorem round1 {n : Nat} {t : Nat → Tab} (h : Up n t) : ∀ m, m ≤ n → Up n (roundT t m) ∧ (∀ j, m ≤ j → roundT t m j = t j ∨ j = 0) ∧ (∀ j, j < m → ∀ x ∈ (roundT t m j).s.evs, x ∈ (roundT t m 0).s.evs)
 | 0, _ => ⟨h, fun _ _ => .inl rfl, fun j hj => by omega⟩
 | m + 1, hm => by
   obtain ⟨g1, g2, g3⟩ := round1 h m (by omega)
   unfold roundT
   by_cases h0 : m = 0
   · rw [if_pos h0]
     subst h0
     exact ⟨g1, fun j hj => g2 j (by omega), fun j hj x hx => by rw [show j = 0 by omega] at hx; exact hx⟩
   · rw [if_neg h0]
     obtain ⟨_, s2, s3, s4, s5⟩ := up_swap g1 (i := m) (by omega) (by omega)
     refine ⟨s2, fun j hj => ?_, fun j hj x hx => ?_⟩
     · by_cases hj0 : j = 0
       · exact .inr hj0
       · left
         rw [s5 j hj0 (by omega)]
         exact (g2 j (by omega)).elim id fun e => absurd e hj0
     · by_cases hj0 : j = 0
       · rw [hj0] at hx; exact hx
       · by_cases hjm : j = m
         · rw [hjm, ← s3] at hx; exact hx
         · rw [s5 j hj0 hjm] at hx
           exact (s4 x).2 (.inl (g3 j (by omega) x hx))
theorem round2 {n : Nat} {t : Nat → Tab} (h : Up n t) (hall : ∀ j, j < n → ∀ x ∈ (t j).s.evs, x ∈ (t 0).s.evs) : ∀ m, m ≤ n → Up n (roundT t m) ∧ (roundT t m 0).s.evs = (t 0).s.evs ∧ (∀ j, m ≤ j → roundT t m j = t j ∨ j = 0) ∧ (∀ j, j < m → (roundT t m j).s.evs = (t 0).s.evs)
 | 0, _ => ⟨h, rfl, fun _ _ => .inl rfl, fun j hj => by omega⟩
 | m + 1, hm => by
   obtain ⟨g1, g2, g3, g4⟩ := round2 h hall m (by omega)
   unfold roundT
   by_cases h0 : m = 0
   · rw [if_pos h0]
     subst h0
     exact ⟨g1, g2, fun j hj => g3 j (by omega), fun j hj => by rw [show j = 0 by omega]; exact g2⟩
   · rw [if_neg h0]
     obtain ⟨_, s2, s3, s4, s5⟩ := up_swap g1 (i := m) (by omega) (by omega)
     have e0 : (swap1 (roundT t m) m 0).s.evs = (t 0).s.evs := by
      refine srt_uniq (up_evs s2 (by omega)) (up_evs h (by omega)) fun x => ?_
      rw [s4, g2]
      constructor
      · rintro (g | g)
        · exact g
        · rcases g3 m (zAi _) with e | e
          · rw [e] at g; exact hall m (by omega) x g
          · exact absurd e h0
      · exact .inl
     refine ⟨s2, e0, fun j hj => ?_, fun j hj => ?_⟩
     · by_cases hj0 : j = 0
       · exact .inr hj0
       · left
         rw [s5 j hj0 (by omega)]
         exact (g3 j (by omega)).elim id fun e => absurd e hj0
     · by_cases hj0 : j = 0
       · rw [hj0]; exact e0
       · by_cases hjm : j = m
         · rw [hjm, ← s3]; exact e0
         · rw [s5 j hj0 hjm]; exact g4 j (by omega)
end Go.Sy
