/- An abstract program logic over the model: values by content, a relation between abstract and concrete values, and its monotonicity. -/
import Derived.WalkKit
import Derived.Deep.LoopGhost
namespace Go.Ab

/-- May a slice be appended to? 'no': not known; 'fresh': it has no spare room; 'own l': it is the growing array number l. -/
inductive Tok where
  | no
  | fresh
  | own (l : Nat)

/-- Abstract values. -/
inductive AV where
  | any
  | prim (v : Value)
  | agg (cs : List AV)
  | tup (cs : List AV)
  | nils
  | sl (sz : Nat) (es : List (List AV)) (t : Tok)
  | ptr (l off : Nat)
  | iptr (cs : List AV)
  | fn (f : Fn) (first caps : List AV)
  | map (l : Nat)
  | imap (kvs : List (Value × AV))
  | when (g : Bool) (v : AV)
  | ext (v : AV)

instance : Inhabited AV := ⟨.any⟩

abbrev AV.int (n : Int) : AV := .prim (.int .i64 n)
abbrev AV.b (x : Bool) : AV := .prim (.bool x)
abbrev AV.str (s : ByteArray) : AV := .prim (.string s)

/-- Memory that does not change any more. -/
structure Mem where
  cell : Nat → Nat → Option Value
  map : Nat → Option (Array MapEntry)

def Mem.Le (M M' : Mem) : Prop := (∀ b o v, M.cell b o = some v → M'.cell b o = some v) ∧ (∀ b es, M.map b = some es → M'.map b = some es)
theorem Mem.Le.refl (M : Mem) : M.Le M := ⟨fun _ _ _ h => h, fun _ _ h => h⟩
theorem Mem.Le.trans {M M' M'' : Mem} (h : M.Le M') (h' : M'.Le M'') : M.Le M'' := ⟨fun _ _ _ x => h'.1 _ _ _ (h.1 _ _ _ x), fun _ _ x => h'.2 _ _ (h.2 _ _ x)⟩

def MemOk (M : Mem) (w : World) : Prop :=
  (∀ b o v, M.cell b o = some v → w.cell? ⟨b, o, none⟩ = some v) ∧ (∀ b es, M.map b = some es → ∃ clock, w.heap[b]? = some (.map es clock))

/-- Where an abstract object lies. -/
inductive GB where
  | blk (b : Nat)
  | own (b : Option Nat) (cap n : Nat)

def GB.block : GB → Option Nat
  | .blk b => some b
  | .own b _ _ => b

/-- Later: the same, or an array that has grown. -/
def GB.Le : GB → GB → Prop
  | .blk b, g => g = .blk b
  | .own b cap n, g => g = .own b cap n ∨ ∃ b' cap' n', g = .own b' cap' n' ∧ n < n'

theorem GB.Le.refl (g : GB) : g.Le g := by cases g <;> simp [GB.Le]
theorem GB.Le.trans {a b c : GB} (h : a.Le b) (h' : b.Le c) : a.Le c := by
  cases a with
  | blk x => simp only [GB.Le] at h; subst h; exact h'
  | own x cap n =>
    simp only [GB.Le] at h
    rcases h with rfl | ⟨b', cap', n', rfl, hn⟩
    · exact h'
    · simp only [GB.Le] at h'
      rcases h' with rfl | ⟨b'', cap'', n'', rfl, hn'⟩
      · exact .inr ⟨_, _, _, rfl, hn⟩
      · exact .inr ⟨_, _, _, rfl, by omega⟩

def BLe (B B' : List GB) : Prop := ∀ (l : Nat) (g : GB), B[l]? = some g → ∃ g', B'[l]? = some g' ∧ g.Le g'
theorem BLe.refl (B : List GB) : BLe B B := fun _ g h => ⟨g, h, GB.Le.refl g⟩
theorem BLe.trans {B B' B'' : List GB} (h : BLe B B') (h' : BLe B' B'') : BLe B B'' := fun l g hg =>
  let ⟨g', h1, h2⟩ := h l g hg
  let ⟨g'', h3, h4⟩ := h' l g' h1
  ⟨g'', h3, h2.trans h4⟩
theorem BLe.append (B C : List GB) : BLe B (B ++ C) := fun l g h => ⟨g, by
  rw [List.getElem?_append_left]
  · exact h
  · rcases Nat.lt_or_ge l B.length with h' | h'
    · exact h'
    · simp [List.getElem?_eq_none h'] at h, GB.Le.refl g⟩

/-- What a token says of the slice's place. -/
def TokOk (B : List GB) : Tok → Option (Nat × Nat) → Nat → Nat → Prop
  | .no, _, _, _ => True
  | .fresh, _, len, cap => cap = len
  | .own l, a, len, cap => ∃ ob cp n, B[l]? = some (.own ob cp n) ∧ len ≤ n ∧ (len = n → a = ob.map (·, 0) ∧ cap = cp)

theorem TokOk.mono {B B' : List GB} (h : BLe B B') {t : Tok} {a : Option (Nat × Nat)} {len cap : Nat} (ht : TokOk B t a len cap) : TokOk B' t a len cap := by
  cases t with
  | no => trivial
  | fresh => exact ht
  | own l =>
    obtain ⟨ob, cp, n, h1, h2, h3⟩ := ht
    obtain ⟨g', h4, h5⟩ := h l _ h1
    simp only [GB.Le] at h5
    rcases h5 with rfl | ⟨b', cap', n', rfl, hn⟩
    · exact ⟨_, _, _, h4, h2, h3⟩
    · exact ⟨_, _, _, h4, by omega, fun e => by omega⟩

/-- A concrete value is what the abstract one says, over the memory that stays (M) and the objects of the call (B). What lies in M knows nothing of B. -/
inductive VRel (M : Mem) : List GB → AV → Value → Prop
  | any {B} (v : Value) : VRel M B .any v
  | prim {B} (v : Value) : VRel M B (.prim v) v
  | agg {B} (cs : List AV) (vs : Array Value) (hl : vs.size = cs.length) (h : ∀ (i : Nat) (c : AV), cs[i]? = some c → VRel M B c (vs.getD i undef)) : VRel M B (.agg cs) (.agg vs)
  | tup {B} (cs : List AV) (vs : Array Value) (hl : vs.size = cs.length) (h : ∀ (i : Nat) (c : AV), cs[i]? = some c → VRel M B c (vs.getD i undef)) : VRel M B (.tup cs) (.tuple vs)
  | nils {B} : VRel M B .nils (.slice none 0 0)
  | sl {B} (sz : Nat) (es : List (List AV)) (t : Tok) (b off cap : Nat) (f : Nat → Nat → Value) (hz : ∀ e ∈ es, e.length = sz)
      (hm : ∀ i j, i < es.length → j < sz → M.cell b (off + i * sz + j) = some (f i j))
      (hr : ∀ (i j : Nat) (e : List AV) (c : AV), es[i]? = some e → e[j]? = some c → VRel M [] c (f i j))
      (hc : es.length ≤ cap) (ht : TokOk B t (some (b, off)) es.length cap) : VRel M B (.sl sz es t) (.slice (some ⟨b, off, none⟩) es.length cap)
  | slz {B} (sz : Nat) (t : Tok) (ht : TokOk B t none 0 0) : VRel M B (.sl sz [] t) (.slice none 0 0)
  | ptr {B} (l off b : Nat) (h : B[l]? = some (.blk b)) : VRel M B (.ptr l off) (.pointer (some ⟨b, off, none⟩))
  | iptr {B} (cs : List AV) (b off : Nat) (f : Nat → Value) (hm : ∀ j, j < cs.length → M.cell b (off + j) = some (f j))
      (hr : ∀ (j : Nat) (c : AV), cs[j]? = some c → VRel M [] c (f j)) : VRel M B (.iptr cs) (.pointer (some ⟨b, off, none⟩))
  | fn {B} (f : Fn) (first caps : List AV) (vf vc : Array Value) (hf : vf.size = first.length) (hc : vc.size = caps.length)
      (h1 : ∀ (i : Nat) (c : AV), first[i]? = some c → VRel M B c (vf.getD i undef)) (h2 : ∀ (i : Nat) (c : AV), caps[i]? = some c → VRel M B c (vc.getD i undef)) : VRel M B (.fn f first caps) (.func f vf vc)
  | map {B} (l b : Nat) (h : B[l]? = some (.blk b)) : VRel M B (.map l) (.map (some b))
  | imap {B} (kvs : List (Value × AV)) (b : Nat) (es : Array MapEntry) (hm : M.map b = some es) (hl : es.size = kvs.length)
      (hk : ∀ (i : Nat) (k : Value) (v : AV) (e : MapEntry), kvs[i]? = some (k, v) → es[i]? = some e → e.key = k)
      (hr : ∀ (i : Nat) (k : Value) (v : AV) (e : MapEntry), kvs[i]? = some (k, v) → es[i]? = some e → VRel M [] v e.val) : VRel M B (.imap kvs) (.map (some b))
  | imapz {B} : VRel M B (.imap []) (.map none)
  | when {B} (g : Bool) (v : AV) (x : Value) (h : g = true → VRel M B v x) (h' : g = false → x = undef) : VRel M B (.when g v) x
  | ext {B} (v : AV) (x : Value) (h : VRel M [] v x) : VRel M B (.ext v) x

theorem VRel.mono {M M' : Mem} (hM : M.Le M') {B : List GB} {v : AV} {x : Value} (h : VRel M B v x) : ∀ {B' : List GB}, BLe B B' → VRel M' B' v x := by
  induction h with
  | any v => intro B' _; exact .any v
  | prim v => intro B' _; exact .prim v
  | agg cs vs hl h ih => intro B' hb; exact .agg cs vs hl fun i c hi => ih i c hi hb
  | tup cs vs hl h ih => intro B' hb; exact .tup cs vs hl fun i c hi => ih i c hi hb
  | nils => intro B' _; exact .nils
  | sl sz es t b off cap f hz hm hr hc ht ih => intro B' hb; exact .sl sz es t b off cap f hz (fun i j hi hj => hM.1 _ _ _ (hm i j hi hj)) (fun i j e c he hc => ih i j e c he hc (BLe.refl _)) hc (ht.mono hb)
  | slz sz t ht => intro B' hb; exact .slz sz t (ht.mono hb)
  | ptr l off b h => intro B' hb; obtain ⟨g', h1, h2⟩ := hb _ _ h; simp only [GB.Le] at h2; subst h2; exact .ptr l off b h1
  | iptr cs b off f hm hr ih => intro B' hb; exact .iptr cs b off f (fun j hj => hM.1 _ _ _ (hm j hj)) fun j c hj => ih j c hj (BLe.refl _)
  | fn f first caps vf vc hf hc h1 h2 ih1 ih2 => intro B' hb; exact .fn f first caps vf vc hf hc (fun i c hi => ih1 i c hi hb) (fun i c hi => ih2 i c hi hb)
  | map l b h => intro B' hb; obtain ⟨g', h1, h2⟩ := hb _ _ h; simp only [GB.Le] at h2; subst h2; exact .map l b h1
  | imap kvs b es hm hl hk hr ih => intro B' hb; exact .imap kvs b es (hM.2 _ _ hm) hl hk fun i k v e h1 h2 => ih i k v e h1 h2 (BLe.refl _)
  | imapz => intro B' _; exact .imapz
  | when g v x h h' ih => intro B' hb; exact .when g v x (fun hg => ih hg hb) h'
  | ext v x h ih => intro B' hb; exact .ext v x (ih (BLe.refl _))

/-- Abstract objects that the call may change. -/
inductive AObj where
  | var (cs : List AV)
  | own (sz n : Nat)
  | map (kvs : List (Value × AV))
  | siter (s : ByteArray) (pos : Nat)
  | dead

abbrev Store := List AObj
abbrev Env := Nat → AV

def Env.put (e : Env) (d : Nat) (v : AV) : Env := fun i => if i = d then v else e i

/-- No cell of the block is frozen. -/
def Free (fr : Nat × Nat) (n : Nat) : Prop := ∀ o, o < n → ¬ (fr.1 ≤ o ∧ o < fr.2)

inductive ORel (M : Mem) (B : List GB) (w : World) : GB → AObj → Prop
  | var (b : Nat) (cs : List AV) (c : Array Value) (T : TypeId) (fr : Nat × Nat) (hb : w.heap[b]? = some (.cells c T fr)) (hf : Free fr c.size) (hl : c.size = cs.length)
      (hr : ∀ (i : Nat) (a : AV), cs[i]? = some a → VRel M B a (c.getD i undef)) (hm : ∀ o, M.cell b o = none) : ORel M B w (.blk b) (.var cs)
  | ownz (sz : Nat) : ORel M B w (.own none 0 0) (.own sz 0)
  | own (b cap sz n : Nat) (c : Array Value) (T : TypeId) (fr : Nat × Nat) (hb : w.heap[b]? = some (.cells c T fr)) (hf : Free fr c.size) (hl : c.size = cap * sz) (hn : n ≤ cap)
      (hm : ∀ o, n * sz ≤ o → M.cell b o = none) : ORel M B w (.own (some b) cap n) (.own sz n)
  | map (b : Nat) (kvs : List (Value × AV)) (es : Array MapEntry) (clock : Nat) (hb : w.heap[b]? = some (.map es clock)) (hl : es.size = kvs.length)
      (hk : ∀ (i : Nat) (k : Value) (v : AV) (e : MapEntry), kvs[i]? = some (k, v) → es[i]? = some e → e.key = k)
      (hr : ∀ (i : Nat) (k : Value) (v : AV) (e : MapEntry), kvs[i]? = some (k, v) → es[i]? = some e → VRel M B v e.val)
      (hm : M.map b = none) : ORel M B w (.blk b) (.map kvs)
  | siter (b : Nat) (s : ByteArray) (pos : Nat) (hb : w.heap[b]? = some (.stringIter s pos)) : ORel M B w (.blk b) (.siter s pos)
  | dead (g : GB) : ORel M B w g .dead

/-- The ghost state: the memory that stayed and the world as the call began, what stays now, where the objects lie. -/
structure Gh where
  M0 : Mem
  w0 : World
  M : Mem
  B : List GB

def Gh.Le (G G' : Gh) : Prop := G'.M0 = G.M0 ∧ G'.w0 = G.w0 ∧ G.M.Le G'.M ∧ BLe G.B G'.B
theorem Gh.Le.refl (G : Gh) : G.Le G := ⟨rfl, rfl, Mem.Le.refl _, BLe.refl _⟩
theorem Gh.Le.trans {G G' G'' : Gh} (h : G.Le G') (h' : G'.Le G'') : G.Le G'' := ⟨h'.1.trans h.1, h'.2.1.trans h.2.1, h.2.2.1.trans h'.2.2.1, h.2.2.2.trans h'.2.2.2⟩

structure SRel (G : Gh) (σ : Store) (w : World) : Prop where
  memok : MemOk G.M w
  m0 : ∀ b, b < G.w0.heap.size → (∀ o, G.M.cell b o = G.M0.cell b o) ∧ G.M.map b = G.M0.map b
  base : G.w0.heap.size ≤ w.heap.size ∧ ∀ b, b < G.w0.heap.size → w.heap[b]? = G.w0.heap[b]?
  len : G.B.length = σ.length
  objs : ∀ (l : Nat) (g : GB) (o : AObj), G.B[l]? = some g → σ[l]? = some o → ORel G.M G.B w g o
  fresh : ∀ (l : Nat) (g : GB) b, G.B[l]? = some g → g.block = some b → G.w0.heap.size ≤ b ∧ b < w.heap.size
  inj : ∀ (l l' : Nat) (g g' : GB) b, G.B[l]? = some g → G.B[l']? = some g' → g.block = some b → g'.block = some b → l = l'
  out : w.os = G.w0.os ∧ w.output = G.w0.output

structure ARel (n : Nat) (G : Gh) (env : Env) (σ : Store) (a : Act) (w : World) : Prop where
  size : a.tmps.size = n
  defers : a.defers = []
  vals : ∀ i, VRel G.M G.B (env i) (a.tmps.getD i undef)
  st : SRel G σ w

theorem ARel.put {n : Nat} {G : Gh} {env : Env} {σ : Store} {a : Act} {w : World} (h : ARel n G env σ a w) {d : Nat} (hd : d < n) {v : AV} {x : Value} (hv : VRel G.M G.B v x) :
    ARel n G (env.put d v) σ (a.put (some d) x) w := by
  refine ⟨by simp [Act.put, h.size], by simp [Act.put, h.defers], fun i => ?_, h.st⟩
  simp only [Env.put, Act.put]
  by_cases hi : i = d
  · subst hi
    simp [h.size, hd, hv]
  · have := h.vals i
    rw [if_neg hi]
    simpa [Array.getElem?_setIfInBounds_ne (Ne.symm hi)] using this

theorem ARel.put_none {n : Nat} {G : Gh} {env : Env} {σ : Store} {a : Act} {w : World} (h : ARel n G env σ a w) (x : Value) : ARel n G env σ (a.put none x) w := h

/-- Less is known of the slots. -/
def Env.Weak (env env' : Env) : Prop := ∀ M B i x, VRel M B (env i) x → VRel M B (env' i) x

theorem ARel.weaken {n : Nat} {G : Gh} {env env' : Env} {σ : Store} {a : Act} {w : World} (h : ARel n G env σ a w) (hw : env.Weak env') : ARel n G env' σ a w :=
  ⟨h.size, h.defers, fun i => hw _ _ i _ (h.vals i), h.st⟩

/-- A piece of code, from slots and objects that read so, ends in one of the ways that K allows. -/
def AWP (P : Program) (n : Nat) (c : Code) (K : Exit → Env → Store → Prop) (env : Env) (σ : Store) : Prop :=
  ∀ G a w, ARel n G env σ a w → c.wp P (fun x a' w' => ∃ env' σ' G', K x env' σ' ∧ G.Le G' ∧ ARel n G' env' σ' a' w') a w

section
variable {P : Program} {n : Nat} {K K' : Exit → Env → Store → Prop} {env : Env} {σ : Store}

theorem AWP.mono {c : Code} (h : AWP P n c K env σ) (hk : ∀ x e s, K x e s → K' x e s) : AWP P n c K' env σ :=
  fun G a w hr => wp_mono (h G a w hr) fun _ _ _ ⟨e, s, G', h1, h2⟩ => ⟨e, s, G', hk _ _ _ h1, h2⟩
theorem AWP.weaken {c : Code} {env' : Env} (hw : env.Weak env') (h : AWP P n c K env' σ) : AWP P n c K env σ := fun G a w hr => h G a w (hr.weaken hw)
theorem AWP.skip (h : K .normal env σ) : AWP P n .skip K env σ := fun G _ _ hr => wp_skip ⟨env, σ, G, h, Gh.Le.refl G, hr⟩
theorem AWP.ret (h : K .ret env σ) : AWP P n .ret K env σ := fun G _ _ hr => wp_ret ⟨env, σ, G, h, Gh.Le.refl G, hr⟩
theorem AWP.exit {id : Nat} (h : K (.exit id) env σ) : AWP P n (.exit id) K env σ := fun G _ _ hr => wp_exit ⟨env, σ, G, h, Gh.Le.refl G, hr⟩

/-- The way on: 'normal' goes on with k, all else leaves. -/
def thenK (k : Env → Store → Prop) (K : Exit → Env → Store → Prop) : Exit → Env → Store → Prop
  | .normal, e, s => k e s
  | x, e, s => K x e s

theorem AWP.seq {c d : Code} (h : AWP P n c (thenK (AWP P n d K) K) env σ) : AWP P n (.seq c d) K env σ := by
  intro G a w hr
  refine wp_seq (wp_mono (h G a w hr) ?_)
  rintro x a' w' ⟨e, s, G', h1, h2, h3⟩
  cases x with
  | normal => exact wp_mono (h1 G' a' w' h3) fun _ _ _ ⟨e2, s2, G2, k1, k2, k3⟩ => ⟨e2, s2, G2, k1, h2.trans k2, k3⟩
  | _ => exact ⟨e, s, G', h1, h2, h3⟩

theorem AWP.cond {c : Operand} {x y : Code} {t : Nat} {v : Bool} (hc : c = .tmp t) (hv : ∀ M B z, VRel M B (env t) z → z = .bool v)
    (ht : v = true → AWP P n x K env σ) (hf : v = false → AWP P n y K env σ) : AWP P n (.cond c x y) K env σ := by
  intro G a w hr
  subst hc
  have h := hv _ _ _ (hr.vals t)
  exact wp_cond_split (t := v) (by simpa [Act.eval] using h) (fun e => ht e G a w hr) (fun e => hf e G a w hr)

def blockK (id : Nat) (K : Exit → Env → Store → Prop) : Exit → Env → Store → Prop
  | .exit i, e, s => if i = id then K .normal e s else K (.exit i) e s
  | x, e, s => K x e s

theorem AWP.block {id : Nat} {c : Code} (h : AWP P n c (blockK id K) env σ) : AWP P n (.block id c) K env σ := by
  intro G a w hr
  refine wp_block (wp_mono (h G a w hr) ?_)
  rintro x a' w' ⟨e, s, G', h1, h2, h3⟩
  cases x with
  | exit i =>
    simp only [blockK] at h1
    simp only [Exit.inBlock]
    split
    · rename_i hi; rw [if_pos hi] at h1; exact ⟨e, s, G', h1, h2, h3⟩
    · rename_i hi; rw [if_neg hi] at h1; exact ⟨e, s, G', h1, h2, h3⟩
  | _ => exact ⟨e, s, G', h1, h2, h3⟩

/-- A loop, by what the slots and objects are at the head of each round: a family over ι, with a measure. -/
theorem AWP.loop {c : Code} {ι : Type} (E : ι → Env) (S : ι → Store) (inv : ι → Prop) (μ : ι → Nat) (i0 : ι) (h0 : inv i0) (hE : env.Weak (E i0)) (hS : σ = S i0)
    (round : ∀ i, inv i → AWP P n c (thenK (fun e s => ∃ j, inv j ∧ μ j < μ i ∧ Env.Weak e (E j) ∧ s = S j) K) (E i) (S i)) : AWP P n (.loop c) K env σ := by
  subst hS
  intro G a w hr
  refine wp_loop_ghost (fun m a w => ∃ i G', μ i = m ∧ inv i ∧ G.Le G' ∧ ARel n G' (E i) (S i) a w) (μ i0) ⟨i0, G, rfl, h0, Gh.Le.refl G, hr.weaken hE⟩ ?_
  rintro m a w ⟨i, G', hm, hi, hg, hr⟩
  refine wp_mono (round i hi G' a w hr) ?_
  rintro x a' w' ⟨e, s, G'', h1, h2, h3⟩
  cases x with
  | normal =>
    obtain ⟨j, hj, hlt, hw, rfl⟩ := h1
    exact ⟨μ j, hm ▸ hlt, j, G'', rfl, hj, hg.trans h2, h3.weaken hw⟩
  | _ => exact ⟨e, s, G'', h1, hg.trans h2, h3⟩
end
end Go.Ab
