/- Local maps that are handed on; cuts of slices and strings; structs and slices that are built; struct comparisons. -/
import Derived.Test.YtjjlckhdgnoopaaAb8
namespace Go.Ab

def frz (l : Nat) (kvs : List (Value × AV)) : AV → AV
  | .map l' => if l' = l then .imap kvs else .map l'
  | .any => .any
  | .prim v => .prim v
  | .agg cs => .agg cs
  | .tup cs => .tup cs
  | .nils => .nils
  | .sl sz es t => .sl sz es t
  | .ptr l o => .ptr l o
  | .iptr cs => .iptr cs
  | .fn f a c => .fn f a c
  | .imap k => .imap k
  | .when g v => .when g v
  | .ext v => .ext v

def Mem.addMap (M : Mem) (b : Nat) (es : Array MapEntry) : Mem := { M with map := fun b' => if b' = b then some es else M.map b' }

/-- The values of a map say nothing of the call's own objects. -/
def PureE {α : Type} (ev : α → AV) : Prop := ∀ a M B x, VRel M B (ev a) x → VRel M [] (ev a) x
theorem pureE_int : PureE AV.int := fun _ _ _ _ h => by rw [VRel.prim_eq h]; exact .prim _
theorem pureE_b : PureE AV.b := fun _ _ _ _ h => by rw [VRel.prim_eq h]; exact .prim _
theorem pureE_flat {α : Type} {ev : α → AV} (h : ∀ a, flat (ev a) = true) : PureE ev := fun a _ _ _ hx => flat_rel (h a) hx

theorem AWP.freezeMap {P : Program} {n : Nat} {c : Code} {K : Exit → Env → Store → Prop} {env : Env} {σ : Store} {κ α : Type} {ek : κ → Value} {ev : α → AV} {l : Nat} {al : List (κ × α)} (hσ : σ[l]? = some (.map (encM ek ev al))) (hp : PureE ev)
    (h : AWP P n c K (fun i => frz l (encM ek ev al) (env i)) (σ.set l .dead)) : AWP P n c K env σ := by
  intro G a w hr
  have hll : l < σ.length := by
    rcases Nat.lt_or_ge l σ.length with h | h
    · exact h
    · simp [List.getElem?_eq_none h] at hσ
  have hlb : l < G.B.length := by rw [hr.st.len]; exact hll
  have hobj := hr.st.objs l _ _ (List.getElem?_eq_getElem hlb) hσ
  generalize hg : G.B[l] = g at hobj
  have hBl : G.B[l]? = some g := by rw [List.getElem?_eq_getElem hlb, hg]
  cases hobj with
  | map b _ es clock hb hlen hkk hrr hmm =>
    have hfr := hr.st.fresh l _ b hBl rfl
    have hle : G.M.Le (G.M.addMap b es) := ⟨fun _ _ _ h => h, fun b' es' h => by
      simp only [Mem.addMap]
      split
      · rename_i e; subst e; rw [hmm] at h; cases h
      · exact h⟩
    have hs : SRel { G with M := G.M.addMap b es } (σ.set l .dead) w := by
      refine ⟨⟨hr.st.memok.1, fun b' es' h => ?_⟩, fun b' hb' => ⟨(hr.st.m0 b' hb').1, ?_⟩, hr.st.base, by simp [hr.st.len], fun l' g' o' h1 h2 => ?_, hr.st.fresh, hr.st.inj, hr.st.out⟩
      · simp only [Mem.addMap] at h
        split at h
        · rename_i e; subst e; simp at h; subst h; exact ⟨clock, hb⟩
        · exact hr.st.memok.2 _ _ h
      · have hne : b' ≠ b := by have := hfr.1; have : b' < G.w0.heap.size := hb'; omega
        simp only [Mem.addMap, if_neg hne]
        exact (hr.st.m0 b' hb').2
      · by_cases hll' : l = l'
        · subst hll'
          rw [List.getElem?_set_self hll] at h2
          simp at h2; subst h2; exact .dead _
        · rw [List.getElem?_set_ne hll'] at h2
          have ho := hr.st.objs l' g' o' h1 h2
          have hne : ∀ b', g'.block = some b' → b' ≠ b := fun b' hb' e => hll' (hr.st.inj l l' _ g' b hBl h1 rfl (e ▸ hb'))
          cases ho with
          | var b' cs c T fr h3 h4 h5 h6 h7 => exact .var b' cs c T fr h3 h4 h5 (fun i a hi => (h6 i a hi).mono hle (BLe.refl _)) h7
          | ownz sz => exact .ownz sz
          | own b' cap sz n c T fr h3 h4 h5 h6 h7 => exact .own b' cap sz n c T fr h3 h4 h5 h6 h7
          | map b' kvs es' clock' h3 h4 h5 h6 h7 => exact .map b' kvs es' clock' h3 h4 h5 (fun i k v e x y => (h6 i k v e x y).mono hle (BLe.refl _)) (by simp only [Mem.addMap, if_neg (hne b' rfl)]; exact h7)
          | siter b' s pos h3 => exact .siter b' s pos h3
          | dead => exact .dead _
    have hv : ∀ i, VRel (G.M.addMap b es) G.B (frz l (encM ek ev al) (env i)) (a.tmps.getD i undef) := by
      intro i
      have h1 := (hr.vals i).mono hle (BLe.refl G.B)
      generalize env i = u at h1 ⊢
      generalize a.tmps.getD i undef = x at h1 ⊢
      cases u <;> simp only [frz] <;> try exact h1
      rename_i l'
      split
      · rename_i e; subst e
        cases h1 with
        | map _ b' hb' =>
          rw [hBl] at hb'
          simp at hb'; subst hb'
          refine .imap _ _ es (by simp [Mem.addMap]) hlen hkk fun i k v e h4 h5 => ?_
          obtain ⟨p, h6, rfl, rfl⟩ := encM_get h4
          exact hp _ _ _ _ ((hrr i _ _ e h4 h5).mono hle (BLe.refl _))
      · exact h1
    refine wp_mono (h _ a w ⟨hr.size, hr.defers, hv, hs⟩) ?_
    rintro x a' w' ⟨e, s, G', h1, h2, h3⟩
    exact ⟨e, s, G', h1, Gh.Le.trans (G' := { G with M := G.M.addMap b es }) ⟨rfl, rfl, hle, BLe.refl _⟩ h2, h3⟩

section
variable {P : Program} {o : Oper} {env : Env} {σ : Store} {T : Tab}

theorem run_bound {k : IntKind} {i : Int} {y : Nat} {code : BoundsCode} (w : World) (h : 0 ≤ i ∧ i ≤ y) : (Instr.sliceBound (.int k i) y code).run P w = .ok i.toNat w := by
  simp [Instr.sliceBound, asIntOf, h]

/-- x[lo:hi] of a slice, by what low and high come to. -/
theorem PRun.sliceG {t e : TypeId} {x : Operand} {lo hi : Option Operand} {sz : Nat} {es : List (List AV)} {tk : Tok} {l h : Nat} {s1 b1 : Nat} {z : List Z} {li : LI} (ho : o.op = .slice t x lo hi none) (hx : Rd env x (.sl sz es tk)) (hl : LOk P t ⟨.slice e, s1, b1, z⟩) (hli : LOk P e li) (hsz : li.size = sz)
    (hlo : match lo with | none => l = 0 | some y => ∃ k, Rd env y (.prim (.int k l))) (hhi : match hi with | none => h = es.length | some y => ∃ k, Rd env y (.prim (.int k h))) (h1 : l ≤ h) (h2 : h ≤ es.length) :
    PRun P o env σ (.sl sz ((es.take h).drop l) .no) := by
  refine .of fun G A w hs hv => ?_
  have hX := rd hx (by simp [ho, Op.operands]) hv
  generalize hA : A.eval x = v at hX
  have bounds : ∀ (cap : Nat), es.length ≤ cap → (Instr.sliceBounds true es.length cap (lo.map A.eval) (hi.map A.eval) none).run P w = .ok (l, h, cap) w := by
    intro cap hcap
    unfold Instr.sliceBounds
    cases hi with
    | none =>
      simp only at hhi; subst hhi
      cases lo with
      | none => simp only at hlo; subst hlo; simp
      | some y =>
        obtain ⟨k, hy⟩ := hlo
        have := VRel.prim_eq (rd hy (by simp [ho, Op.operands]) hv)
        simp [this, run_bound (P := P) (k := k) (i := (l : Int)) (y := es.length) w ⟨by omega, by omega⟩]
    | some y' =>
      obtain ⟨k', hy'⟩ := hhi
      have e' := VRel.prim_eq (rd hy' (by simp [ho, Op.operands]) hv)
      cases lo with
      | none => simp only at hlo; subst hlo; simp [e', run_bound (P := P) (k := k') (i := (h : Int)) (y := cap) w ⟨by omega, by omega⟩]
      | some y =>
        obtain ⟨k, hy⟩ := hlo
        have e := VRel.prim_eq (rd hy (by simp [ho, Op.operands]) hv)
        simp [e', run_bound (P := P) (k := k') (i := (h : Int)) (y := cap) w ⟨by omega, by omega⟩, e, run_bound (P := P) (k := k) (i := (l : Int)) (y := h) w ⟨by omega, by omega⟩]
  cases hX with
  | slz =>
    have hl0 : l = 0 := by simp at h2; omega
    have hh0 : h = 0 := by simpa using h2
    refine ⟨.slice none 0 0, ?_, by simpa using VRel.slz sz .no trivial⟩
    have := bounds 0 (Nat.le_refl _)
    simp only [List.length_nil] at this
    simp only [execOp, ho, hA, Instr.sliceAt, Instr.slice]
    simp [hl.slice w, this, hli.run_size w, hl0, hh0]
  | sl _ _ _ b off cap f hz hm hr hc ht =>
    have := bounds cap hc
    refine ⟨.slice (if cap = l then some ⟨b, off, none⟩ else some ⟨b, off + l * sz, none⟩) (h - l) (cap - l), ?_, ?_⟩
    · simp only [execOp, ho, hA, Instr.sliceAt, Instr.slice]
      simp [hl.slice w, this, hli.run_size w, hsz, addr_add]
    · have hlen : ((es.take h).drop l).length = h - l := by simp; omega
      by_cases hcl : cap = l
      · have hz' : (es.take h).drop l = [] := List.eq_nil_of_length_eq_zero (by rw [hlen]; omega)
        have : h - l = 0 := by omega
        rw [if_pos hcl, hz', this]
        exact .sl sz [] .no b off (cap - l) f (by simp) (fun i j hi => by simp at hi) (fun i j e c h => by simp at h) (by simp) trivial
      · rw [if_neg hcl, ← hlen]
        refine .sl sz _ .no b (off + l * sz) (cap - l) (fun i j => f (l + i) j) (fun e he => hz e (List.mem_of_mem_take (List.mem_of_mem_drop he))) (fun i j hi hj => ?_) (fun i j e c hi hj => ?_) (by rw [hlen]; omega) trivial
        · rw [hlen] at hi
          have := hm (l + i) j (by omega) hj
          rw [Nat.add_mul] at this
          rw [← this]; congr 1; omega
        · rw [List.getElem?_drop, List.getElem?_take] at hi
          split at hi
          · exact hr _ _ _ _ hi hj
          · simp at hi

theorem PRun.sliceLoM (hT : T.Ok P) {α : Type} {f : α → List AV} {t : TypeId} {x y : Operand} {sz : Nat} {al : List α} {tk : Tok} {k : IntKind} {i : Int} (ho : o.op = .slice t x (some y) none none) (hx : rdv env x = some (.sl sz (al.map f) tk)) (nx : rdn env x)
    (hy : rdv env y = some (.prim (.int k i))) (ny : rdn env y) (hl : elemSz T t = some sz) (hi : 0 ≤ i ∧ i ≤ al.length) : PRun P o env σ (.sl sz ((al.drop i.toNat).map f) .no) := by
  obtain ⟨e, s1, b1, z, li, h1, h2, h3⟩ := elemSz_spec hT hl
  obtain ⟨n, rfl⟩ := Int.eq_ofNat_of_zero_le hi.1
  have := PRun.sliceG (P := P) (σ := σ) (l := n) (h := (al.map f).length) ho (Rd.w hx nx) h1 h2 h3 ⟨k, Rd.w hy ny⟩ rfl (by simp; omega) (Nat.le_refl _)
  rw [List.take_of_length_le (Nat.le_refl _)] at this
  simpa [List.map_drop] using this
theorem PRun.sliceHiM (hT : T.Ok P) {α : Type} {f : α → List AV} {t : TypeId} {x y : Operand} {sz : Nat} {al : List α} {tk : Tok} {k : IntKind} {i : Int} (ho : o.op = .slice t x none (some y) none) (hx : rdv env x = some (.sl sz (al.map f) tk)) (nx : rdn env x)
    (hy : rdv env y = some (.prim (.int k i))) (ny : rdn env y) (hl : elemSz T t = some sz) (hi : 0 ≤ i ∧ i ≤ al.length) : PRun P o env σ (.sl sz ((al.take i.toNat).map f) .no) := by
  obtain ⟨e, s1, b1, z, li, h1, h2, h3⟩ := elemSz_spec hT hl
  obtain ⟨n, rfl⟩ := Int.eq_ofNat_of_zero_le hi.1
  have := PRun.sliceG (P := P) (σ := σ) (l := 0) (h := n) ho (Rd.w hx nx) h1 h2 h3 rfl ⟨k, Rd.w hy ny⟩ (by omega) (by simp; omega)
  simpa [List.map_take] using this
theorem PRun.sliceM (hT : T.Ok P) {α : Type} {f : α → List AV} {t : TypeId} {x y y' : Operand} {sz : Nat} {al : List α} {tk : Tok} {k k' : IntKind} {i j : Int} (ho : o.op = .slice t x (some y) (some y') none) (hx : rdv env x = some (.sl sz (al.map f) tk)) (nx : rdn env x)
    (hy : rdv env y = some (.prim (.int k i))) (ny : rdn env y) (hy' : rdv env y' = some (.prim (.int k' j))) (ny' : rdn env y') (hl : elemSz T t = some sz) (hi : 0 ≤ i ∧ i ≤ j ∧ j ≤ al.length) : PRun P o env σ (.sl sz (((al.take j.toNat).drop i.toNat).map f) .no) := by
  obtain ⟨e, s1, b1, z, li, h1, h2, h3⟩ := elemSz_spec hT hl
  obtain ⟨n, rfl⟩ := Int.eq_ofNat_of_zero_le hi.1
  obtain ⟨m, rfl⟩ := Int.eq_ofNat_of_zero_le (Int.le_trans hi.1 hi.2.1)
  have := PRun.sliceG (P := P) (σ := σ) (l := n) (h := m) ho (Rd.w hx nx) h1 h2 h3 ⟨k, Rd.w hy ny⟩ ⟨k', Rd.w hy' ny'⟩ (by omega) (by simp; omega)
  simpa [List.map_take, List.map_drop] using this

/-! ### Parts laid into cells -/
def fillA (place : Nat → Option (Nat × Nat)) (cells : List AV) : List (Nat × List AV) → Option (List AV)
  | [] => some cells
  | (i, us) :: r => match place i with
    | some (off, sz) => if us.length = sz ∧ off + sz ≤ cells.length then fillA place (splice cells off us) r else none
    | none => none

theorem fold_set : ∀ (vs : List Value) (k off : Nat) (cs : Array Value), off + k + vs.length ≤ cs.size → ∀ j, (((vs.zipIdx k).foldl (fun cs (c, j) => cs.setIfInBounds (off + j) c) cs)).getD j undef = (if off + k ≤ j ∧ j < off + k + vs.length then vs.getD (j - (off + k)) undef else cs.getD j undef) ∧
    ((vs.zipIdx k).foldl (fun cs (c, j) => cs.setIfInBounds (off + j) c) cs).size = cs.size
  | [], k, off, cs, _, j => ⟨by rw [if_neg (by simp only [List.length_nil]; omega)]; rfl, rfl⟩
  | v :: vs, k, off, cs, h, j => by
    simp only [List.zipIdx_cons, List.foldl_cons, List.length_cons] at h ⊢
    obtain ⟨h1, h2⟩ := fold_set vs (k + 1) off (cs.setIfInBounds (off + k) v) (by rw [Array.size_setIfInBounds]; omega) j
    refine ⟨?_, by rw [h2, Array.size_setIfInBounds]⟩
    rw [h1]
    by_cases h7 : j = off + k
    · subst h7
      rw [if_neg (by omega), if_pos (by omega)]
      have : off + k < cs.size := by omega
      simp [this]
    · by_cases h8 : off + (k + 1) ≤ j ∧ j < off + (k + 1) + vs.length
      · rw [if_pos h8, if_pos (by omega)]
        have : j - (off + k) = (j - (off + (k + 1))) + 1 := by omega
        rw [this]; rfl
      · rw [if_neg h8, if_neg (by omega)]
        simp only [Array.getD_eq_getD_getElem?]
        rw [Array.getElem?_setIfInBounds_ne (Ne.symm h7)]

theorem fill_rel {M : Mem} {B : List GB} {place : Nat → Option (Nat × Nat)} : ∀ (parts : List (Nat × List AV)) (vparts : List (Nat × Value)) (cells : List AV) (vcells : Array Value) (r : List AV), fillA place cells parts = some r → vcells.size = cells.length →
    (∀ (i : Nat) c, cells[i]? = some c → VRel M B c (vcells.getD i undef)) → vparts.length = parts.length →
    (∀ (i : Nat) (p : Nat × List AV) (q : Nat × Value), parts[i]? = some p → vparts[i]? = some q → p.1 = q.1 ∧ q.2.cells.size = p.2.length ∧ ∀ (j : Nat) c, p.2[j]? = some c → VRel M B c (q.2.cells.getD j undef)) →
    ∃ vr, Instr.fill place vcells vparts = some vr ∧ vr.size = r.length ∧ ∀ (i : Nat) c, r[i]? = some c → VRel M B c (vr.getD i undef)
  | [], [], cells, vcells, r, h, hs, hr, _, _ => by simp [fillA] at h; subst h; exact ⟨vcells, rfl, hs, hr⟩
  | [], _ :: _, _, _, _, _, _, _, hl, _ => by simp at hl
  | _ :: _, [], _, _, _, _, _, _, hl, _ => by simp at hl
  | (i, us) :: parts, (i', v) :: vparts, cells, vcells, r, h, hs, hr, hl, hp => by
    obtain ⟨rfl, hsz, hc⟩ := hp 0 _ _ rfl rfl
    simp only at hsz hc
    simp only [fillA] at h
    split at h
    · rename_i off sz hpl
      split at h
      · rename_i hle
        obtain ⟨h1, h2⟩ := hle
        have hfold := fold_set v.cells.toList 0 off vcells (by simp; omega)
        have e0 : v.cells.zipIdx.foldl (fun cs (c, j) => cs.setIfInBounds (off + j) c) vcells = (v.cells.toList.zipIdx 0).foldl (fun cs (c, j) => cs.setIfInBounds (off + j) c) vcells := by
          rw [← Array.foldl_toList]; simp
        obtain ⟨vr, h3, h4, h5⟩ := fill_rel parts vparts (splice cells off us) ((v.cells.toList.zipIdx 0).foldl (fun cs (c, j) => cs.setIfInBounds (off + j) c) vcells) r h (by rw [(hfold 0).2]; simp [splice, hs]; omega) (fun j c hj => by
          rw [(hfold j).1]
          simp only [Nat.add_zero, Array.length_toList]
          unfold splice at hj
          rcases Nat.lt_or_ge j off with h5 | h5
          · rw [if_neg (by omega)]
            rw [List.append_assoc, List.getElem?_append_left (by simp; omega), List.getElem?_take, if_pos h5] at hj
            exact hr j c hj
          · rcases Nat.lt_or_ge j (off + us.length) with h6 | h6
            · rw [if_pos ⟨h5, by omega⟩]
              rw [List.append_assoc, List.getElem?_append_right (by simp; omega), List.getElem?_append_left (by simp; omega)] at hj
              have e : j - (cells.take off).length = j - off := by simp; omega
              rw [e] at hj
              simpa using hc _ _ hj
            · rw [if_neg (by omega)]
              rw [List.getElem?_append_right (by simp; omega)] at hj
              have e : (cells.drop (off + us.length))[j - (cells.take off ++ us).length]? = cells[j]? := by
                rw [List.getElem?_drop]; congr 1; simp; omega
              rw [e] at hj
              exact hr j c hj) (by simpa using hl) (fun j p q h6 h7 => hp (j + 1) p q (by simpa using h6) (by simpa using h7))
        refine ⟨vr, ?_, h4, h5⟩
        simp only [Instr.fill, hpl]
        rw [if_neg (by simp; omega), e0]
        exact h3
      · simp at h
    · simp at h

/-- The cells of the parts. -/
def partsF (env : Env) : List (Nat × Operand) → Option (List (Nat × List AV))
  | [] => some []
  | (i, x) :: r => match rdv env x, partsF env r with
    | some u, some ps => match cellsAV u with
      | some us => some ((i, us) :: ps)
      | none => none
    | _, _ => none

theorem partsF_rel {M : Mem} {B : List GB} {a : Act} : ∀ {l : List (Nat × Operand)} {ps : List (Nat × List AV)}, partsF env l = some ps → (∀ p ∈ l, p.2 ∈ o.op.operands) → rdns env (l.map (·.2)) → (∀ x, .tmp x ∈ o.op.operands → VRel M B (env x) (a.tmps.getD x undef)) →
    ps.length = l.length ∧ ∀ (i : Nat) (p : Nat × List AV) (q : Nat × Value), ps[i]? = some p → (l.map fun (i, x) => (i, a.eval x))[i]? = some q → p.1 = q.1 ∧ q.2.cells.size = p.2.length ∧ ∀ (j : Nat) c, p.2[j]? = some c → VRel M B c (q.2.cells.getD j undef)
  | [], ps, h, _, _, _ => by simp [partsF] at h; subst h; exact ⟨rfl, fun i p q h => by simp at h⟩
  | (i, x) :: r, ps, h, hm, hn, hv => by
    simp only [partsF] at h
    split at h
    · rename_i u ps' hu hps
      split at h
      · rename_i us hus
        simp at h; subst h
        obtain ⟨h1, h2⟩ := partsF_rel hps (fun p hp => hm p (List.mem_cons_of_mem _ hp)) hn.2 hv
        refine ⟨by simp [h1], fun j p q h3 h4 => ?_⟩
        cases j with
        | zero =>
          simp at h3 h4; subst h3; subst h4
          have := cellsAV_rel hus (rd (Rd.w hu hn.1) (hm _ (List.mem_cons_self ..)) hv)
          exact ⟨rfl, this.1, this.2⟩
        | succ j => exact h2 j p q (by simpa using h3) (by simpa using h4)
      · simp at h
    · simp at h

/-- A struct, or an array, that is built. -/
def placesOf (T : Tab) (t : TypeId) : Option (Nat → Option (Nat × Nat)) := match T.get t with
  | some ⟨.struct fs, _, _, _⟩ => some fun i => (fs[i]?).map (·.2)
  | some ⟨.arr _ e, _, _, _⟩ => (T.get e).map fun le => fun i => some (i * le.size, le.size)
  | _ => none

theorem run_places {F : Array Field} {fs : List (Nat × Nat × Nat)} (w : World) (hF : F.toList.map (fun f => (f.type, f.offset, ((P.info? f.type).map (·.size)).getD 0)) = fs) (hall : ∀ f ∈ F.toList, (P.info? f.type).isSome) :
    (F.mapM fun f : Field => (do pure (f.offset, ← sizeOf f.type) : Sem (Nat × Nat))).run P w = .ok (fs.map (·.2)).toArray w := by
  obtain ⟨l, rfl⟩ : ∃ l, F = List.toArray l := ⟨F.toList, by simp⟩
  simp only [List.mapM_toArray, Sem.run_map] at hF hall ⊢
  have key : ∀ l : List Field, (∀ f ∈ l, (P.info? f.type).isSome) → (l.mapM fun f => (do pure (f.offset, ← sizeOf f.type) : Sem (Nat × Nat))).run P w = .ok (l.map fun f => (f.offset, ((P.info? f.type).map (·.size)).getD 0)) w := by
    intro l
    induction l with
    | nil => intro _; rfl
    | cons f r ih =>
      intro h
      have h1 := h f (List.mem_cons_self ..)
      obtain ⟨i, hi⟩ := Option.isSome_iff_exists.1 h1
      simp only [List.mapM_cons, Sem.run_bind, Sem.run_pure, Result.andThen_ok]
      have : (sizeOf f.type).run P w = .ok i.size w := by simp [sizeOf, typeInfo, hi]
      rw [this]
      simp only [Result.andThen_ok]
      rw [ih (fun g hg => h g (List.mem_cons_of_mem _ hg))]
      simp [hi]
  rw [key l hall]
  simp only [Result.andThen_ok]
  subst hF
  simp

theorem PRun.buildS {t : TypeId} {parts : Array (Nat × Operand)} {fs : List (Nat × Nat × Nat)} {s1 b1 : Nat} {zs : List Z} {ps : List (Nat × List AV)} {r : List AV} (ho : o.op = .build t parts) (hl : LOk P t ⟨.struct fs, s1, b1, zs⟩) (hnz : fs.all (fun x => x.2.2 != 0) = true)
    (hp : partsF env parts.toList = some ps) (hn : rdns env (parts.toList.map (·.2))) (hf : fillA (fun i => (fs[i]?).map (·.2)) (zs.map Z.av) ps = some r) : PRun P o env σ (.agg r) := by
  refine .of fun G A w hs hv => ?_
  obtain ⟨h1, h2⟩ := partsF_rel (o := o) (M := G.M) (B := G.B) (a := A) hp (fun p hp => by simp [ho, Op.operands]; exact ⟨p.1, by simpa using hp⟩) hn hv
  obtain ⟨d, hd1, hd2⟩ := hl.und
  cases d <;> simp [ltOf] at hd2
  rename_i F
  have hz := zeroAV_rel hl.one G.M G.B
  simp only [zeroAV, LT.isAgg, if_true, LI.zeroVal] at hz
  cases hz with
  | agg _ _ hzl hzr =>
    obtain ⟨vr, h3, h4, h5⟩ := fill_rel ps (parts.toList.map fun (i, x) => (i, A.eval x)) (zs.map Z.av) (zs.map Z.val).toArray r hf hzl hzr (by simp [h1]) h2
    refine ⟨.agg vr, ?_, .agg _ _ h4 h5⟩
    have hplaces := run_places (P := P) (F := F) (fs := fs) w hd2 (fun f hf' => by
      have : (f.type, f.offset, ((P.info? f.type).map (·.size)).getD 0) ∈ fs := by rw [← hd2]; exact List.mem_map.2 ⟨f, hf', rfl⟩
      have := List.all_eq_true.1 hnz _ this
      simp only [bne_iff_ne] at this
      cases hi : P.info? f.type with
      | none => simp [hi] at this
      | some i => rfl)
    simp only [execOp, ho, Instr.build]
    rw [Sem.run_bind, Sem.run_bind, hl.run_zero w]
    simp only [Result.andThen_ok]
    rw [Sem.run_bind, run_underlying hd1 w]
    simp only [Result.andThen_ok]
    rw [Sem.run_bind, hplaces]
    simp only [Result.andThen_ok, LI.zeroVal, LT.isAgg, if_true, Value.cells]
    have e : (fun i : Nat => (fs.map (fun x : Nat × Nat × Nat => x.2)).toArray[i]?) = (fun i : Nat => (fs[i]?).map (fun x : Nat × Nat × Nat => x.2)) := by funext i; simp
    rw [e]
    have e2 : (parts.map fun (i, x) => (i, A.eval x)).toList = parts.toList.map fun (i, x) => (i, A.eval x) := by simp
    rw [e2, h3]
    rfl

theorem PRun.buildA {t e nn : TypeId} {parts : Array (Nat × Operand)} {s1 b1 : Nat} {zs : List Z} {le : LI} {ps : List (Nat × List AV)} {r : List AV} (ho : o.op = .build t parts) (hl : LOk P t ⟨.arr nn e, s1, b1, zs⟩) (he : LOk P e le)
    (hp : partsF env parts.toList = some ps) (hn : rdns env (parts.toList.map (·.2))) (hf : fillA (fun i => some (i * le.size, le.size)) (zs.map Z.av) ps = some r) : PRun P o env σ (.agg r) := by
  refine .of fun G A w hs hv => ?_
  obtain ⟨h1, h2⟩ := partsF_rel (o := o) (M := G.M) (B := G.B) (a := A) hp (fun p hp => by simp [ho, Op.operands]; exact ⟨p.1, by simpa using hp⟩) hn hv
  have hz := zeroAV_rel hl.one G.M G.B
  simp only [zeroAV, LT.isAgg, if_true, LI.zeroVal] at hz
  cases hz with
  | agg _ _ hzl hzr =>
    obtain ⟨vr, h3, h4, h5⟩ := fill_rel ps (parts.toList.map fun (i, x) => (i, A.eval x)) (zs.map Z.av) (zs.map Z.val).toArray r hf hzl hzr (by simp [h1]) h2
    refine ⟨.agg vr, ?_, .agg _ _ h4 h5⟩
    simp only [execOp, ho, Instr.build]
    rw [Sem.run_bind, Sem.run_bind, hl.run_zero w]
    simp only [Result.andThen_ok]
    rw [Sem.run_bind, hl.arr w]
    simp only [Result.andThen_ok]
    rw [Sem.run_bind, he.run_size w]
    simp only [Result.andThen_ok, LI.zeroVal, LT.isAgg, if_true, Value.cells]
    have e2 : (parts.map fun (i, x) => (i, A.eval x)).toList = parts.toList.map fun (i, x) => (i, A.eval x) := by simp
    rw [e2, h3]
    rfl
end

/-! ### A row of cells that stays -/
def Mem.addBlk (M : Mem) (b : Nat) (c : Array Value) : Mem := { M with cell := fun b' o => if b' = b then c[o]? else M.cell b' o }
theorem Mem.le_addBlk {M : Mem} {b : Nat} (c : Array Value) (h : ∀ o, M.cell b o = none) : M.Le (M.addBlk b c) := ⟨fun b' o v hv => by
  simp only [Mem.addBlk]
  split
  · rename_i e; subst e; rw [h o] at hv; cases hv
  · exact hv, fun _ _ h => h⟩

theorem SRel.allocStay {G : Gh} {σ : Store} {w : World} (h : SRel G σ w) (c : Array Value) (T : TypeId) : SRel { G with M := G.M.addBlk w.heap.size c } σ (w.alloc (.cells c T)) ∧ G.M.Le (G.M.addBlk w.heap.size c) := by
  have hm := (mem_lt h.memok _ (Nat.le_refl _)).1
  have hle := Mem.le_addBlk c hm
  refine ⟨⟨⟨fun b o v hv => ?_, fun b es hb => ?_⟩, fun b hb => ⟨fun o => ?_, (h.m0 b hb).2⟩, ⟨by have := h.base.1; show G.w0.heap.size ≤ _; simp; omega, fun b hb => ?_⟩, h.len, fun l g o h1 h2 => ?_, fun l g b h1 h2 => ?_, h.inj, h.out⟩, hle⟩
  · simp only [Mem.addBlk] at hv
    split at hv
    · rename_i e; subst e
      rw [World.cell?_alloc_new]; exact hv
    · have h1 := h.memok.1 _ _ _ hv
      rw [World.cell?_alloc_lt w _ _ (World.block_lt_of_cell? _ _ h1)]; exact h1
  · obtain ⟨cl, h1⟩ := h.memok.2 _ _ hb
    refine ⟨cl, ?_⟩
    rw [heap_alloc]
    split
    · rename_i e; subst e; simp at h1
    · exact h1
  · have hb' : b < G.w0.heap.size := hb
    have := h.base.1
    simp only [Mem.addBlk]
    rw [if_neg (by omega)]
    exact (h.m0 b hb).1 o
  · have hb' : b < G.w0.heap.size := hb
    rw [heap_alloc, if_neg (by have := h.base.1; omega)]; exact h.base.2 b hb
  · have ho := h.objs l g o h1 h2
    have hfr : ∀ b, g.block = some b → b < w.heap.size := fun b hb => (h.fresh l g b h1 hb).2
    have hh : ∀ b, b < w.heap.size → (w.alloc (.cells c T)).heap[b]? = w.heap[b]? := fun b hb => by rw [heap_alloc, if_neg (by omega)]
    have hc : ∀ b o, b < w.heap.size → (G.M.addBlk w.heap.size c).cell b o = G.M.cell b o := fun b o hb => by simp only [Mem.addBlk]; rw [if_neg (by omega)]
    cases ho with
    | var b cs c' T' fr hb hf hl hr hm' => exact .var b cs c' T' fr ((hh b (hfr b rfl)).trans hb) hf hl (fun i a hi => (hr i a hi).mono hle (BLe.refl _)) fun o => (hc b o (hfr b rfl)).trans (hm' o)
    | ownz sz => exact .ownz sz
    | own b cap sz n c' T' fr hb hf hl hn hm' => exact .own b cap sz n c' T' fr ((hh b (hfr b rfl)).trans hb) hf hl hn fun o ho => (hc b o (hfr b rfl)).trans (hm' o ho)
    | map b kvs es clock hb hl hk hr hm' => exact .map b kvs es clock ((hh b (hfr b rfl)).trans hb) hl hk (fun i k v e x y => (hr i k v e x y).mono hle (BLe.refl _)) hm'
    | siter b s pos hb => exact .siter b s pos ((hh b (hfr b rfl)).trans hb)
    | dead => exact .dead _
  · have := h.fresh l g b h1 h2
    exact ⟨this.1, by simp; omega⟩

def chunk (sz : Nat) : Nat → List AV → List (List AV)
  | 0, _ => []
  | n + 1, l => l.take sz :: chunk sz n (l.drop sz)
theorem chunk_length (sz : Nat) : ∀ (n : Nat) (l : List AV), (chunk sz n l).length = n
  | 0, _ => rfl
  | n + 1, l => by simp [chunk, chunk_length sz n]
theorem chunk_get (sz : Nat) : ∀ (n : Nat) (l : List AV) (i : Nat), i < n → (chunk sz n l)[i]? = some ((l.drop (i * sz)).take sz)
  | 0, _, _, h => by omega
  | n + 1, l, 0, _ => by simp [chunk]
  | n + 1, l, i + 1, h => by
    simp only [chunk, List.getElem?_cons_succ]
    rw [chunk_get sz n _ i (by omega), List.drop_drop]
    congr 3
    rw [Nat.add_mul]; omega

/-- A slice that is written out. -/
theorem PRun.buildSl {P : Program} {o : Oper} {env : Env} {σ : Store} {t e n : Nat} {parts : Array (Nat × Operand)} {s1 b1 : Nat} {z : List Z} {le : LI} {ps : List (Nat × List AV)} {r : List AV} (ho : o.op = .buildSlice t n parts) (hl : LOk P t ⟨.slice e, s1, b1, z⟩) (he : LOk P e le) (hz0 : le.zero.length = le.size)
    (hn0 : 0 < n * le.size) (hn1 : n * le.size ≤ 16777216)
    (hp : partsF env parts.toList = some ps) (hn : rdns env (parts.toList.map (·.2))) (hf : fillA (fun i => some (i * le.size, le.size)) ((List.range (n * le.size)).map fun i => (le.zero.map Z.av).getD (i % le.size) .any) (ps.map fun p => (p.1, p.2.map (unb 4))) = some r) :
    PRun P o env σ (.sl le.size (chunk le.size n r) .fresh) := by
  intro G A w hs hv
  obtain ⟨h1, h2⟩ := partsF_rel (o := o) (M := G.M) (B := G.B) (a := A) hp (fun p hp => by simp [ho, Op.operands]; exact ⟨p.1, by simpa using hp⟩) hn hv
  have hzc : le.zeroVal.cells = (le.zero.map Z.val).toArray := by
    unfold LI.zeroVal
    cases ha : le.lt.isAgg with
    | true => rfl
    | false =>
      obtain ⟨z', hz'⟩ := he.one ha
      rw [hz']; cases z' <;> rfl
  have hzr : ∀ z : Z, VRel G.M [] z.av z.val := fun z => by cases z <;> first | exact .prim _ | exact .nils | exact .imapz
  have hzs : le.zeroVal.cells.size = le.size := by rw [hzc]; simp [hz0]
  obtain ⟨vr, h3, h4, h5⟩ := fill_rel (M := G.M) (B := []) (ps.map fun p => (p.1, p.2.map (unb 4))) (parts.toList.map fun (i, x) => (i, A.eval x)) _ ((Array.range (n * le.size)).map (le.zeroVal.cells[· % le.zeroVal.cells.size]!)) r hf (by simp) (fun i c hi => by
      simp only [List.getElem?_map, Option.map_eq_some_iff] at hi
      obtain ⟨j, hj, rfl⟩ := hi
      have hjr := List.getElem?_eq_some_iff.1 hj
      obtain ⟨hlt, hje⟩ := hjr
      simp at hlt hje; subst hje
      have hpos : 0 < le.size := Nat.pos_of_mul_pos_left hn0
      have hmod : i % le.size < le.zero.length := by rw [hz0]; exact Nat.mod_lt _ hpos
      have e1 : (((Array.range (n * le.size)).map (le.zeroVal.cells[· % le.zeroVal.cells.size]!)).getD i undef) = le.zero[i % le.size].val := by
        simp only [Array.getD_eq_getD_getElem?, Array.getElem?_map]
        rw [Array.getElem?_range, if_pos hlt]
        simp only [Option.map_some, Option.getD_some, hzs]
        rw [hzc]
        simp [hmod]
      have e2 : (le.zero.map Z.av).getD (i % le.size) .any = le.zero[i % le.size].av := by simp [List.getD, hmod]
      rw [e1, e2]; exact hzr _) (by simp [h1]) (fun i p q hi hq => by
      simp only [List.getElem?_map, Option.map_eq_some_iff] at hi
      obtain ⟨p', hp', rfl⟩ := hi
      obtain ⟨g1, g2, g3⟩ := h2 i p' q hp' hq
      refine ⟨g1, by simpa using g2, fun j c hj => ?_⟩
      simp only [List.getElem?_map, Option.map_eq_some_iff] at hj
      obtain ⟨c', hc', rfl⟩ := hj
      exact unb_rel 4 _ _ (g3 j c' hc'))
  have hrun : (execOp A.eval o).run P w = .ok (.value (.slice (some ⟨w.heap.size, 0, none⟩) n n)) (w.alloc (.cells vr e)) := by
    simp only [execOp, ho, Instr.buildSlice]
    rw [Sem.run_bind, Sem.run_bind, hl.slice w]
    simp only [Result.andThen_ok]
    rw [Sem.run_bind, he.run_size w]
    simp only [Result.andThen_ok]
    have hno : ¬ n * le.size > 2 ^ 24 := by omega
    have hne : ¬ n * le.size = 0 := by omega
    simp only [if_neg hno, if_neg hne]
    have e2 : (parts.map fun (i, x) => (i, A.eval x)).toList = parts.toList.map fun (i, x) => (i, A.eval x) := by simp
    simp only [Sem.run_bind, Sem.run_pure, Result.andThen_ok, he.run_zero w]
    rw [e2, h3]
    simp [newRow]
  have hlen : r.length = vr.size := h4.symm
  have hvs : vr.size = n * le.size := by
    have key : ∀ (ps : List (Nat × List AV)) (cells r : List AV) (pl : Nat → Option (Nat × Nat)), fillA pl cells ps = some r → r.length = cells.length := by
      intro ps
      induction ps with
      | nil => intro cells r pl h; simp [fillA] at h; rw [h]
      | cons p ps ih =>
        intro cells r pl h
        obtain ⟨i, us⟩ := p
        simp only [fillA] at h
        split at h
        · split at h
          · rename_i hle
            rw [ih _ _ _ h]; simp [splice]; omega
          · simp at h
        · simp at h
    have := key _ _ _ _ hf
    rw [h4, this]; simp
  obtain ⟨hs', hle⟩ := hs.allocStay vr e
  unfold Oper.wp
  rw [hrun]
  refine ⟨_, { G with M := G.M.addBlk w.heap.size vr }, rfl, ?_, ⟨rfl, rfl, hle, BLe.refl _⟩, hs'⟩
  have hcl := chunk_length le.size n r
  have : VRel (G.M.addBlk w.heap.size vr) G.B (.sl le.size (chunk le.size n r) .fresh) (.slice (some ⟨w.heap.size, 0, none⟩) (chunk le.size n r).length n) := by
    have get : ∀ i, i < n → (chunk le.size n r)[i]? = some ((r.drop (i * le.size)).take le.size) := fun i hi => chunk_get le.size n r i hi
    have bound : ∀ i, i < n → i * le.size + le.size ≤ n * le.size := fun i hi => by
      have := Nat.mul_le_mul_right le.size (show i + 1 ≤ n from hi)
      rwa [Nat.add_mul, Nat.one_mul] at this
    refine .sl le.size _ .fresh w.heap.size 0 n (fun i j => vr.getD (i * le.size + j) undef) (fun es hes => ?_) (fun i j hi hj => ?_) (fun i j es c hi hj => ?_) (by omega) (by show n = _; omega)
    · obtain ⟨i, hi, hie⟩ := List.mem_iff_getElem.1 hes
      rw [hcl] at hi
      have := get i hi
      rw [List.getElem?_eq_getElem (by omega)] at this
      simp at this
      rw [← hie, this]
      have := bound i hi
      simp; omega
    · rw [hcl] at hi
      have := bound i hi
      have hlt : i * le.size + j < vr.size := by omega
      simp [Mem.addBlk, hlt]
    · have hin : i < n := by
        rcases Nat.lt_or_ge i n with h | h
        · exact h
        · rw [List.getElem?_eq_none (by omega)] at hi; simp at hi
      rw [get i hin] at hi
      simp at hi; subst hi
      rw [List.getElem?_take] at hj
      split at hj
      · rw [List.getElem?_drop] at hj
        exact (h5 _ _ hj).mono hle (BLe.refl _)
      · simp at hj
  rwa [hcl] at this
end Go.Ab
