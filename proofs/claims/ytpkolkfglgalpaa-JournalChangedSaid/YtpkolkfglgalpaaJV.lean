/- Text as runes. No statement is proved here. -/
import Derived.Test.YtpkolkfglgalpaaJU
import Derived.Laws.IdiomStrings
set_option linter.unusedVariables false
set_option linter.unusedSimpArgs false
namespace Go.Ab
def runesN (s : ByteArray) : Nat → Nat → List Nat
  | 0, _ => []
  | f + 1, i => if i < s.size then (Utf8.decode s i).1 :: runesN s f (i + (Utf8.decode s i).2) else []
theorem runesFrom_eq (s : ByteArray) : ∀ (f i : Nat) (acc : Array Value), Conv.runesFrom s f i acc = acc ++ ((runesN s f i).map fun (r : Nat) => Value.int .i32 (r : Int)).toArray
  | 0, i, acc => by simp [Conv.runesFrom, runesN]
  | f + 1, i, acc => by
    unfold Conv.runesFrom runesN
    split
    · show Conv.runesFrom s f (i + (Utf8.decode s i).2) (acc.push (.int .i32 (Int.ofNat (Utf8.decode s i).1))) = _
      rw [runesFrom_eq s f]; simp
    · simp
abbrev runesS (s : ByteArray) : List Nat := runesN s s.size 0
theorem runesN_len (s : ByteArray) : ∀ (f i : Nat), (runesN s f i).length ≤ f
  | 0, i => by simp [runesN]
  | f + 1, i => by
    unfold runesN
    split
    · have := runesN_len s f (i + (Utf8.decode s i).2); simp; omega
    · simp
abbrev r4 (r : Nat) : List AV := [.prim (.int .i32 (r : Int))]
theorem PRun.strRunes {P : Program} {T : Tab} {o : Oper} {env : Env} {σ : Store} (hT : T.Ok P) {s d e : TypeId} {x : Operand} {t : ByteArray} {s1 b1 s2 b2 s3 b3 : Nat} {z z2 z3 : List Z} (ho : o.op = .convert s d x) (hx : rdv env x = some (.str t)) (nx : rdn env x)
    (hs' : T.get s = some ⟨.str, s1, b1, z⟩) (hd : T.get d = some ⟨.slice e, s3, b3, z3⟩) (he : T.get e = some ⟨.int .i32, s2, b2, z2⟩) (hsz : t.size ≤ 70368744177664) : PRun P o env σ (.sl 1 ((runesS t).map r4) .no) := by
  intro G A w hs hv
  have h1 := VRel.prim_eq (rd (Rd.w hx nx) (by simp [ho, Op.operands]) hv)
  have us : P.underlying s = some .string := LOk.undStr (LOk.of (hT.get hs'))
  have ud : P.underlying d = some (.slice e) := LOk.undSlice (LOk.of (hT.get hd))
  have ue : P.underlying e = some (.int .i32) := by
    obtain ⟨dd, k1, k2⟩ := (LOk.of (hT.get he)).und
    cases dd <;> simp [ltOf] at k2
    subst k2; exact k1
  have hrf := runesFrom_eq t t.size 0 #[]
  have hrl := runesN_len t t.size 0
  have hrn : (Conv.runesFrom t t.size 0 #[]).size = (runesS t).length := by rw [hrf]; simp
  obtain ⟨C, hC⟩ : ∃ C, C = (Conv.runesFrom t t.size 0 #[] ++ Array.replicate (grownCap w (Conv.runesFrom t t.size 0 #[]).size 0 e - (Conv.runesFrom t t.size 0 #[]).size) (Value.int .i32 0)) := ⟨_, rfl⟩
  have hrun : (execOp A.eval o).run P w = .ok (.value (.slice (some ⟨w.heap.size, 0, none⟩) (runesS t).length (grownCap w (runesS t).length 0 e))) (w.drew.alloc (.cells C e)) := by
    simp only [execOp, ho, h1]
    rw [Sem.run_bind, run_runes_of_string w s d e t us ud ue (by rw [hrn]; exact Nat.le_trans hrl hsz), hrn, hC, hrn]; rfl
  unfold OWP
  rw [hrun]
  have hsz1 : (w.drew.alloc (.cells C e)).heap.size = w.heap.size + 1 := by
    show (w.heap.push _).size = _
    simp
  have hold : ∀ b, b < w.heap.size → (w.drew.alloc (.cells C e)).heap[b]? = w.heap[b]? := fun b hb => by
    show (w.heap.push _)[b]? = _
    rw [Array.getElem?_push, if_neg (by omega)]
  have hnew : (w.drew.alloc (.cells C e)).heap[w.heap.size]? = some (.cells C e) := by
    show (w.heap.push _)[w.heap.size]? = _
    simp
  obtain ⟨hs2, hle⟩ := hs.newStay C hsz1 hold (fun o v hv => by
    simp only [World.cell?, hnew]; exact hv) ⟨rfl, rfl⟩
  refine ⟨_, _, rfl, ?_, .upM hle, hs2⟩
  have hlen : (runesS t).length = ((runesS t).map r4).length := by rw [List.length_map]
  rw [hlen]
  have hcap : ((runesS t).map r4).length ≤ grownCap w ((runesS t).map r4).length 0 e := grownCap_ge w _ 0 e
  refine .sl 1 _ .no w.heap.size 0 _ (fun i j => .int .i32 ((runesS t).getD i 0 : Nat)) (fun e he => by simp at he; obtain ⟨_, _, rfl⟩ := he; rfl) (fun i j hi hj => ?_) (fun i j e c hi hj => ?_) hcap trivial
  · have hi' : i < (runesS t).length := by simpa using hi
    have hj0 : j = 0 := by omega
    subst hj0
    simp only [Mem.addBlk, if_pos rfl, Nat.zero_add, Nat.mul_one, Nat.add_zero, hC]
    rw [Array.getElem?_append_left (by rw [hrn]; exact hi'), hrf]
    simp [List.getD, hi']
  · simp only [List.getElem?_map, Option.map_eq_some_iff] at hi
    obtain ⟨c', hc', rfl⟩ := hi
    match j, hj with
    | 0, hj =>
      simp at hj; subst hj
      have : (runesS t).getD i 0 = c' := by simp only [List.getD, hc', Option.getD_some]
      rw [this]; exact .prim _
    | j + 1, hj => simp at hj
end Go.Ab
namespace Go.Proofs.Ytpkolkfglgalpaa
open Go.Ab Go.Jo
attribute [local irreducible] AWP AOps EStep AQ PStep PRun PCall TCall VCall DStep TDies AWD DCall

theorem dec_low {s : ByteArray} {i : Nat} (h : (s.get! i).toNat < 128) : Utf8.decode s i = ((s.get! i).toNat, 1) := by
  unfold Utf8.decode
  simp only [Nat.add_zero]
  rw [if_pos h]
theorem dec_high {s : ByteArray} {i : Nat} (h : ¬ (s.get! i).toNat < 128) : 126 < (Utf8.decode s i).1 := by
  unfold Utf8.decode
  simp only [Nat.add_zero]
  rw [if_neg h]
  simp only [Utf8.runeError]
  split
  · split
    · simp only []; omega
    · decide
  · split
    · split
      · rename_i h1; simp only [Bool.and_eq_true, decide_eq_true_eq] at h1; simp only []; omega
      · decide
    · split
      · split
        · rename_i h1; simp only [Bool.and_eq_true, decide_eq_true_eq] at h1; simp only []; omega
        · decide
      · decide
def badR (r : Nat) : Bool := decide (r < 32) || decide (126 < r)
def badB (c : UInt8) : Bool := badR c.toNat
theorem get_at {t : Bs} {i : Nat} (h : i < t.length) : (⟨t.toArray⟩ : ByteArray).get! i = t[i] := by
  show t.toArray[i]! = _
  simp [h]
theorem runes_any (t : Bs) : ∀ (f i : Nat), i + f = t.length → (runesN ⟨t.toArray⟩ f i).any badR = (t.drop i).any badB
  | 0, i, h => by rw [List.drop_eq_nil_of_le (by omega)]; simp [runesN]
  | f + 1, i, h => by
    have hi : i < t.length := by omega
    have hsz : (⟨t.toArray⟩ : ByteArray).size = t.length := by simp [ByteArray.size]
    unfold runesN
    rw [if_pos (by rw [hsz]; exact hi), List.drop_eq_getElem_cons hi, List.any_cons, List.any_cons]
    by_cases hl : (t[i]).toNat < 128
    · rw [dec_low (by rw [get_at hi]; exact hl), get_at hi]
      simp only []
      rw [runes_any t f (i + 1) (by omega)]; rfl
    · have h1 := dec_high (s := ⟨t.toArray⟩) (i := i) (by rw [get_at hi]; exact hl)
      have e1 : badR (Utf8.decode ⟨t.toArray⟩ i).1 = true := by unfold badR; simp; omega
      have e2 : badB t[i] = true := by unfold badB badR; simp; omega
      rw [e1, e2]; rfl
theorem textOk_runes (t : Bs) : textOk t = (decide (t.length ≤ 200) && !(runesS ⟨t.toArray⟩).any badR) := by
  have hsz : (⟨t.toArray⟩ : ByteArray).size = t.length := by simp [ByteArray.size]
  rw [runesS, hsz, runes_any t t.length 0 (by omega), List.drop_zero, Bool.eq_iff_iff, textOk_iff]
  simp only [Bool.and_eq_true, decide_eq_true_eq, Bool.not_eq_true', List.any_eq_false]
  refine and_congr_right fun _ => ⟨fun h c hc => ?_, fun h c hc => ?_⟩
  · have := h c hc
    unfold badB badR; simp; omega
  · have := h c hc
    unfold badB badR at this; simp at this; omega
end Go.Proofs.Ytpkolkfglgalpaa
