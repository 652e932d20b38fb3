/- Parts of the proof. No statement is proved here. -/
import Derived.Laws.Cells
import Derived.OrdersIn
import Derived.RangeFuncFrom
import Derived.RangeFuncLeaves
import Derived.Sort.LoopGhostIn
import Derived.Still
import Derived.TacticsIn
import Derived.WalkKit
set_option linter.unusedVariables false
set_option linter.unusedSimpArgs false
set_option maxHeartbeats 16000000
set_option maxRecDepth 20000
theorem dEt {p:Prop} [Decidable p]:(decide p=true)=p:=decide_eq_true_eq
theorem dEf {p:Prop} {_:Decidable p}:decide p=false↔¬p:=decide_eq_false_iff_not
theorem iNl {a b:Int}:¬a<b↔b≤a:=Int.not_lt
theorem iNe {a b:Int}:¬a≤b↔b<a:=Int.not_le
abbrev zA0:=@Bool.and_eq_true
abbrev zA1:=@List.getElem?_eq_getElem
abbrev zA2:=@Array.getD_eq_getD_getElem?
abbrev zA3:=@List.getElem?_eq_none
abbrev zA4:=@List.all_eq_true
abbrev zA5:=@List.getElem?_map
abbrev zA6:=@Option.map_eq_some_iff
abbrev zA7:=@List.getElem?_append_right
abbrev zA8:=@List.getElem?_append_left
abbrev zA9:=@List.mem_singleton
abbrev zAa:=@Nat.lt_or_ge
abbrev zAb:=@List.getElem?_eq_some_iff
abbrev zAc:=@List.mem_of_getElem?
abbrev zAd:=@List.length_cons
abbrev zAe:=@Int.toNat_natCast
abbrev zAf:=@List.getElem?_set_self
abbrev zAg:=@Bool.or_eq_false_iff
abbrev zAh:=@List.take_of_length_le
abbrev zAi:=@Bool.eq_iff_iff
abbrev zAj:=@Array.getElem?_eq_none
abbrev zAk:=@Array.getElem?_eq_getElem
abbrev zAl:=@Array.getElem?_append_left
abbrev zAm:=@List.length_nil
abbrev zAn:=@List.length_take
abbrev zAo:=@List.mem_cons
abbrev zAp:=@List.getElem?_set_ne
abbrev zAq:=@List.mem_map
abbrev zAr:=@List.eq_nil_of_length_eq_zero
abbrev zAs:=@List.mem_range
abbrev zAt:=@Nat.le_refl
abbrev zAu:=@List.mem_iff_getElem
abbrev zAv:=@Nat.mul_le_mul_right
abbrev zAw:=@List.getElem?_take
abbrev zAx:=@List.mem_append
abbrev zAy:=@Bool.true_and
abbrev zAz:=@Bool.false_eq_true
abbrev zB0:=@List.length_drop
abbrev zB1:=@Array.getElem?_append_right
abbrev zB2:=@List.getD_eq_getElem?_getD
abbrev zB3:=@Bool.not_eq_true'
abbrev zB4:=@List.all_cons
abbrev zB5:=@Nat.add_mul
abbrev zB6:=@List.getElem?_drop
abbrev zB7:=@Array.getElem?_toList
abbrev zB8:=@List.mem_cons_self
abbrev zB9:=@List.mem_cons_of_mem
abbrev zBa:=@Option.map_some
abbrev zBb:=@List.length_singleton
abbrev zBc:=@Bool.not_eq_false'
abbrev zBd:=@Array.getElem?_eq_some_iff
abbrev zBe:=@Nat.eq_zero_or_pos
abbrev zBf:=@List.getElem?_cons_succ
abbrev zBg:=@List.all_nil
abbrev zBh:=@List.drop_eq_nil_of_le
abbrev zBi:=@List.mem_of_find?_eq_some
abbrev zBj:=@List.drop_eq_getElem_cons
abbrev zBk:=@Int.eq_ofNat_of_zero_le
abbrev zBl:=@List.take_length
abbrev zBm:=@List.take_append_of_le_length
abbrev zBn:=@List.take_succ_eq_append_getElem
abbrev zBo:=@List.append_assoc
abbrev zBp:=@Array.length_toList
abbrev zBq:=@Nat.add_zero
abbrev zBr:=@Array.getElem?_modify
abbrev zBs:=@Array.append_assoc
abbrev zBt:=@List.map_cons
abbrev zBu:=@Bool.false_and
abbrev zBv:=@Nat.zero_add
abbrev zBw:=@List.map_append
abbrev zBx:=@List.getElem?_cons_zero
abbrev zBy:=@Int.le_refl
abbrev zBz:=@Nat.succ_pos
abbrev zC0:=@List.mem_of_mem_take
abbrev zC1:=@Array.eq_empty_of_size_eq_zero
abbrev zC2:=@Nat.le_trans
abbrev zC3:=@Nat.lt_of_lt_of_le
abbrev zC4:=@Nat.add_assoc
abbrev zC5:=@Bool.or_eq_true
abbrev zC6:=@List.all_eq_false
abbrev zC7:=@List.nodup_append
abbrev zC8:=@List.take_add_one
abbrev zC9:=@List.mem_of_mem_drop
abbrev zCb:=@Nat.mul_one
abbrev zCc:=@List.pairwise_iff_getElem
abbrev zCd:=@List.mem_take_iff_getElem
abbrev zCe:=@List.not_mem_nil
abbrev zCf:=@Bool.and_true
abbrev zCg:=@List.getElem?_toArray
abbrev zCh:=@List.ext_getElem?
abbrev zCi:=@List.findIdx?_eq_some_iff_getElem
abbrev zCj:=@Nat.add_sub_cancel_left
abbrev zCk:=@Array.getElem?_setIfInBounds_ne
abbrev zCl:=@List.foldl_append
abbrev zCm:=@List.append_nil
abbrev zCn:=@List.take_append_drop
abbrev zCo:=@List.all_append
abbrev zCp:=@Array.setIfInBounds_comm
abbrev zCq:=@Array.size_setIfInBounds
abbrev zCr:=@List.length_append
abbrev zCs:=@List.pairwise_cons
abbrev zCt:=@Nat.le_succ
abbrev zCu:=@List.getElem_mem
abbrev zCv:=@Option.getD_some
abbrev zCw:=@List.any_eq_true
abbrev zCx:=@Bool.false_or
abbrev zCy:=@List.filter_cons_of_pos
abbrev zCz:=@List.filter_cons_of_neg
abbrev zD0:=@Nat.add_comm
abbrev zD1:=@Option.map_none
abbrev zD2:=@Nat.zero_mul
abbrev zD3:=@List.mapM_cons
abbrev zD4:=@List.mem_or_eq_of_mem_set
abbrev zD5:=@Bool.and_false
abbrev zD6:=@List.length_map
abbrev zD7:=@List.mem_filter
abbrev zD8:=@List.size_toArray
abbrev zD9:=@List.map_map
abbrev zDa:=@Int.mul_le_mul_of_nonneg_right
abbrev zDb:=@Array.getElem?_push
abbrev zDc:=@List.length_eq_zero_iff
abbrev zDd:=@List.length_pos_iff
abbrev zDe:=@List.cons_append
abbrev zDf:=@Int.mul_le_mul_of_nonneg_left
abbrev zDg:=@List.drop_append_of_le_length
abbrev zDh:=@Bool.not_false
abbrev zDi:=@List.getElem?_eraseIdx
abbrev zDj:=@List.findIdx?_cons
abbrev zDk:=@Array.any_eq_true'
abbrev zDl:=@List.find?_some
abbrev zDm:=@Nat.one_mul
abbrev zDn:=@Nat.mul_comm
abbrev zDo:=@List.countP_singleton
abbrev zDp:=@Bool.and_eq_false_iff
abbrev zDq:=@List.length_set
abbrev zDr:=@Nat.min_eq_left
abbrev zDs:=@List.length_filter_le
abbrev zDt:=@Array.size_append
abbrev zDu:=@Bool.not_true
abbrev zDv:=@List.length_eraseIdx
abbrev zDw:=@Bool.and_assoc
abbrev zDx:=@Option.bind_some
abbrev zDy:=@List.append_toArray
abbrev zDz:=@List.map_congr_left
abbrev zE0:=@List.getElem_of_mem
abbrev zE1:=@List.nil_append
theorem oM {p:Prop} (h:p:=by omega):p:=h
theorem dKn {p:Prop} (h:p:=by decide +kernel):p:=h
theorem dCd {p:Prop} (h:p:=by decide):p:=h
theorem sMp {p:Prop} (h:p:=by simp):p:=h
/- The package-level variables that the rows lay: their cells. -/
namespace Go.Ab
def Gam:List (Nat×List Value):=[(0,[.iface 338 (.agg #[.pointer (some ⟨2,142,none⟩)])]),(1,[.int .i64 0,.int .i64 2,.int .i64 4,.int .i64 5,.int .i64 7,.int .i64 9,.int .i64 11])]
end Go.Ab
/- An abstract program logic over the model: values by content, a relation between abstract and concrete values, and its monotonicity. -/
namespace Go.Ab
inductive Tok where
 |no
 |fresh
 |own (l:Nat)
inductive AV where
 |any
 |prim (v:Value)
 |agg (cs:List AV)
 |tup (cs:List AV)
 |nils
 |sl (sz:Nat) (es:List (List AV)) (t:Tok)
 |ptr (l off:Nat)
 |iptr (cs:List AV)
 |sla (l sz off len ver:Nat)
 |cm (l sz i o ver:Nat)
 |yld (l:Nat)
 |opq (v:AV)
 |fn (f:Fn) (first aQ:List AV)
 |map (l:Nat)
 |imap (kvs:List (Value×AV))
 |when (g:Bool) (v:AV)
 |ext (v:AV)
instance:Inhabited AV:=⟨.any⟩
abbrev AV.int (n:Int):AV:=.prim (.int .i64 n)
abbrev AV.b (x:Bool):AV:=.prim (.bool x)
abbrev AV.str (s:ByteArray):AV:=.prim (.string s)
structure Mem where
 cell:Nat→Nat→Option Value
 map:Nat→Option (Array MapEntry)
def Mem.Le (M M':Mem):Prop:=(∀b o v,M.cell b o=some v→M'.cell b o=some v)∧(∀b es,M.map b=some es→M'.map b=some es)
theorem Mem.Le.refl (M:Mem):M.Le M:=⟨fun _ _ _ h=>h,fun _ _ h=>h⟩
theorem Mem.Le.trans {M M' M'':Mem} (h:M.Le M') (h':M'.Le M''):M.Le M'':=⟨fun _ _ _ x=>h'.1 _ _ _ (h.1 _ _ _ x),fun _ _ x=>h'.2 _ _ (h.2 _ _ x)⟩
def mf (M:Mem):Prop:=∀p∈Gam,∀(j:Nat) (v:Value),p.2[j]? = some v→M.cell p.1 j=some v
theorem mf.mono {M M':Mem} (h:mf M) (hM:M.Le M'):mf M':=fun p hp j v hv=>hM.1 _ _ _ (h p hp j v hv)
structure dc (M:Mem) (w:World):Prop where
 c:∀b o v,M.cell b o=some v→w.cell? ⟨b,o,none⟩=some v
 m:∀b es,M.map b=some es→∃clock,w.heap[b]? = some (.map es clock)
 g:mf M
inductive GB where
 |blk (b:Nat)
 |own (b:Option Nat) (cap n:Nat)
def GB.block:GB→Option Nat
 |.blk b=>some b
 |.own b _ _=>b
def GB.Le:GB→GB→Prop
 |.blk b,g=>g=.blk b
 |.own b cap n,g=>g=.own b cap n∨∃b' dK n',g=.own b' dK n'∧n<n'
theorem GB.Le.refl (g:GB):g.Le g:=by cases g<;>simp[GB.Le]
theorem GB.Le.trans {a b c:GB} (h:a.Le b) (h':b.Le c):a.Le c:=by
 cases a with
 |blk x=>simp only[GB.Le] at h;subst h;exact h'
 | own x cap n =>
   simp only[GB.Le] at h;rcases h with rfl|⟨b',dK,n',rfl,hn⟩
   · exact h'
   · simp only[GB.Le] at h';rcases h' with rfl|⟨b'',cap'',n'',rfl,hn'⟩
     · exact .inr ⟨_,_,_,rfl,hn⟩
     · exact .inr ⟨_,_,_,rfl,oM⟩
def BLe (B B':List GB):Prop:=∀(l:Nat) (g:GB),B[l]? = some g→∃g',B'[l]? = some g'∧g.Le g'
theorem BLe.refl (B:List GB):BLe B B:=fun _ g h=>⟨g,h,GB.Le.refl g⟩
theorem BLe.trans {B B' B'':List GB} (h:BLe B B') (h':BLe B' B''):BLe B B'':=fun l g hg =>
 let ⟨g',h1,h2⟩:=h l g hg
 let ⟨g'',h3,h4⟩:=h' l g' h1
 ⟨g'',h3,h2.trans h4⟩
theorem BLe.append (B C:List GB):BLe B (B++C):=fun l g h=>⟨g,by
 rw[zA8]
 · exact h
 · rcases zAa l B.length with h'|h'
   · exact h'
   · simp[zA3 h'] at h,GB.Le.refl g⟩
def mg (B:List GB):Tok→Option (Nat×Nat)→Nat→Nat→Prop
 |.no,_,_,_=>True
 |.fresh,_,len,cap=>cap=len
 |.own l,a,len,cap=>∃ob cp n,B[l]? = some (.own ob cp n)∧len≤n∧(len=n→a=ob.map (·,0)∧cap=cp)
theorem mg.mono {B B':List GB} (h:BLe B B') {t:Tok} {a:Option (Nat×Nat)} {len cap:Nat} (ht:mg B t a len cap):mg B' t a len cap:=by
 cases t with
 |no=>trivial
 |fresh=>exact ht
 | own l =>
   obtain⟨ob,cp,n,h1,h2,h3⟩:=ht;obtain⟨g',h4,h5⟩:=h l _ h1;simp only[GB.Le] at h5;rcases h5 with rfl|⟨b',dK,n',rfl,hn⟩
   · exact⟨_,_,_,h4,h2,h3⟩
   · exact⟨_,_,_,h4,oM,fun e=>by omega⟩
theorem Hz.mono {B B':List GB} (h:BLe B B') {l ver:Nat} {p:Option Nat→Nat→Prop} (ht:∃ob cap n,B[l]? = some (.own ob cap n)∧ver≤n∧(ver=n→p ob cap)) :
 ∃ob cap n,B'[l]? = some (.own ob cap n)∧ver≤n∧(ver=n→p ob cap):=by
 obtain⟨ob,cp,n,h1,h2,h3⟩:=ht;obtain⟨g',h4,h5⟩:=h l _ h1;simp only[GB.Le] at h5;rcases h5 with rfl|⟨b',dK,n',rfl,hn⟩
 · exact⟨_,_,_,h4,h2,h3⟩
 · exact⟨_,_,_,h4,oM,fun e=>by omega⟩
inductive ag (M:Mem):List GB→AV→Value→Prop
 |any {B} (v:Value):ag M B .any v
 |prim {B} (v:Value):ag M B (.prim v) v
 |agg {B} (cs:List AV) (vs:Array Value) (hl:vs.size=cs.length) (h:∀(i:Nat) (c:AV),cs[i]? = some c→ag M B c (vs.getD i undef)):ag M B (.agg cs) (.agg vs)
 |tup {B} (cs:List AV) (vs:Array Value) (hl:vs.size=cs.length) (h:∀(i:Nat) (c:AV),cs[i]? = some c→ag M B c (vs.getD i undef)):ag M B (.tup cs) (.tuple vs)
 |nils {B}:ag M B .nils (.slice none 0 0)
 |sl {B} (sz:Nat) (es:List (List AV)) (t:Tok) (b off cap:Nat) (f:Nat→Nat→Value) (hz:∀e∈es,e.length=sz)
  (hm:∀i j,i<es.length→j<sz→M.cell b (off+i * sz+j)=some (f i j))
  (hr:∀(i j:Nat) (e:List AV) (c:AV),es[i]? = some e→e[j]? = some c→ag M [] c (f i j))
  (hc:es.length≤cap) (ht:mg B t (some (b,off)) es.length cap):ag M B (.sl sz es t) (.slice (some ⟨b,off,none⟩) es.length cap)
 |slz {B} (sz:Nat) (t:Tok) (ht:mg B t none 0 0):ag M B (.sl sz [] t) (.slice none 0 0)
 |slzz {B} (sz:Nat) (a:Option Addr) (cap:Nat):ag M B (.sl sz [] .no) (.slice a 0 cap)
 |sla {B} (l sz off len ver:Nat) (a:Option Addr) (c:Nat) (h:∃ob cap n,B[l]? = some (.own ob cap n)∧ver≤n∧(ver=n→off+len≤cap∧(len=0∨(c=cap - off∧a=ob.map fun b=>⟨b,off * sz,none⟩)))):ag M B (.sla l sz off len ver) (.slice a len c)
 |cm {B} (l sz i o ver b:Nat) (x:Nat) (h:∃ob cap n,B[l]? = some (.own ob cap n)∧ver≤n∧(ver=n→i<cap∧o<sz∧x=i * sz+o∧ob=some b)):ag M B (.cm l sz i o ver) (.pointer (some ⟨b,x,none⟩))
 |ptr {B} (l off b:Nat) (h:B[l]? = some (.blk b)):ag M B (.ptr l off) (.pointer (some ⟨b,off,none⟩))
 |yld {B} (l b:Nat) (h:B[l]? = some (.blk b)):ag M B (.yld l) (.func (.yield b) #[] #[])
 |opq {B} (v:AV) (f:Fn) (a b:Array Value) (h:ag M B v (.func f a b)):ag M B (.opq v) (.func f a b)
 |iptr {B} (cs:List AV) (b off:Nat) (f:Nat→Value) (hm:∀j,j<cs.length→M.cell b (off+j)=some (f j))
  (hr:∀(j:Nat) (c:AV),cs[j]? = some c→ag M [] c (f j)):ag M B (.iptr cs) (.pointer (some ⟨b,off,none⟩))
 |fn {B} (f:Fn) (first aQ:List AV) (vf vc:Array Value) (hf:vf.size=first.length) (hc:vc.size=aQ.length)
  (h1:∀(i:Nat) (c:AV),first[i]? = some c→ag M B c (vf.getD i undef)) (h2:∀(i:Nat) (c:AV),aQ[i]? = some c→ag M B c (vc.getD i undef)):ag M B (.fn f first aQ) (.func f vf vc)
 |map {B} (l b:Nat) (h:B[l]? = some (.blk b)):ag M B (.map l) (.map (some b))
 |imap {B} (kvs:List (Value×AV)) (b:Nat) (es:Array MapEntry) (hm:M.map b=some es) (hl:es.size=kvs.length)
  (hk:∀(i:Nat) (k:Value) (v:AV) (e:MapEntry),kvs[i]? = some (k,v)→es[i]? = some e→e.key=k)
  (hr:∀(i:Nat) (k:Value) (v:AV) (e:MapEntry),kvs[i]? = some (k,v)→es[i]? = some e→ag M [] v e.val):ag M B (.imap kvs) (.map (some b))
 |imapz {B}:ag M B (.imap []) (.map none)
 |when {B} (g:Bool) (v:AV) (x:Value) (h:g=true→ag M B v x) (h':g=false→x=undef):ag M B (.when g v) x
 |ext {B} (v:AV) (x:Value) (h:ag M [] v x):ag M B (.ext v) x
theorem ag.mono {M M':Mem} (hM:M.Le M') {B:List GB} {v:AV} {x:Value} (h:ag M B v x):∀{B':List GB},BLe B B'→ag M' B' v x:=by
 induction h with
 |any v=>intro B' _;exact .any v
 |prim v=>intro B' _;exact .prim v
 |agg cs vs hl h ih=>intro B' hb;exact .agg cs vs hl fun i c hi=>ih i c hi hb
 |tup cs vs hl h ih=>intro B' hb;exact .tup cs vs hl fun i c hi=>ih i c hi hb
 |nils=>intro B' _;exact .nils
 |sl sz es t b off cap f hz hm hr hc ht ih=>intro B' hb;exact .sl sz es t b off cap f hz (fun i j hi hj=>hM.1 _ _ _ (hm i j hi hj)) (fun i j e c he hc=>ih i j e c he hc (BLe.refl _)) hc (ht.mono hb)
 |slz sz t ht=>intro B' hb;exact .slz sz t (ht.mono hb)
 |slzz sz a cap=>intro B' _;exact .slzz sz a cap
 |sla l sz off len ver a c h=>intro B' hb;exact .sla l sz off len ver a c (Hz.mono hb h)
 |cm l sz i o ver b x h=>intro B' hb;exact .cm l sz i o ver b x (Hz.mono hb h)
 |yld l b h=>intro B' hb;obtain⟨g',h1,h2⟩:=hb _ _ h;simp only[GB.Le] at h2;subst h2;exact .yld l b h1
 |opq v f a b h ih=>intro B' hb;exact .opq v f a b (ih hb)
 |ptr l off b h=>intro B' hb;obtain⟨g',h1,h2⟩:=hb _ _ h;simp only[GB.Le] at h2;subst h2;exact .ptr l off b h1
 |iptr cs b off f hm hr ih=>intro B' hb;exact .iptr cs b off f (fun j hj=>hM.1 _ _ _ (hm j hj)) fun j c hj=>ih j c hj (BLe.refl _)
 |fn f first aQ vf vc hf hc h1 h2 ih1 ih2=>intro B' hb;exact .fn f first aQ vf vc hf hc (fun i c hi=>ih1 i c hi hb) (fun i c hi=>ih2 i c hi hb)
 |map l b h=>intro B' hb;obtain⟨g',h1,h2⟩:=hb _ _ h;simp only[GB.Le] at h2;subst h2;exact .map l b h1
 |imap kvs b es hm hl hk hr ih=>intro B' hb;exact .imap kvs b es (hM.2 _ _ hm) hl hk fun i k v e h1 h2=>ih i k v e h1 h2 (BLe.refl _)
 |imapz=>intro B' _;exact .imapz
 |when g v x h h' ih=>intro B' hb;exact .when g v x (fun hg=>ih hg hb) h'
 |ext v x h ih=>intro B' hb;exact .ext v x (ih (BLe.refl _))
inductive bc where
 |var (cs:List AV)
 |own (sz n:Nat)
 |arr (sz ver:Nat) (es:List (List AV))
 |map (kvs:List (Value×AV))
 |siter (s:ByteArray) (pos:Nat)
 |mapp (clock:Nat) (bs:List Nat) (kvs:List (Value×AV))
 |miter (l since:Nat) (seen:List Nat) (c0:Nat)
 |loop (r:Loop) (E:List (Nat×AV))
 |dead
abbrev ae:=List bc
abbrev Env:=Nat→AV
def Env.of (l:List (Nat×AV)):Env:=fun i=>match l.find? (fun p=>p.1==i) with|some p=>p.2|none=>.any
def Env.put (e:Env) (d:Nat) (v:AV):Env:=fun i=>if i=d then v else e i
def rC (fr:Nat×Nat) (n:Nat):Prop:=∀o,o≤n→¬(fr.1≤o∧o<fr.2)
inductive cW (M:Mem) (B:List GB) (w:World):GB→bc→Prop
 |var (b:Nat) (cs:List AV) (c:Array Value) (T:TypeId) (fr:Nat×Nat) (hb:w.heap[b]? = some (.cells c T fr)) (hf:rC fr c.size) (hl:c.size=cs.length)
  (hr:∀(i:Nat) (a:AV),cs[i]? = some a→ag M B a (c.getD i undef)) (hm:∀o,M.cell b o=none):cW M B w (.blk b) (.var cs)
 |ownz (sz:Nat):cW M B w (.own none 0 0) (.own sz 0)
 |own (b cap sz n:Nat) (c:Array Value) (T:TypeId) (fr:Nat×Nat) (hb:w.heap[b]? = some (.cells c T fr)) (hf:rC fr c.size) (hl:c.size=cap * sz) (hn:n≤cap)
  (hm:∀o,n * sz≤o→M.cell b o=none):cW M B w (.own (some b) cap n) (.own sz n)
 |arrz (sz ver:Nat):cW M B w (.own none 0 ver) (.arr sz ver [])
 |arr (b cap sz ver:Nat) (es:List (List AV)) (c:Array Value) (T:TypeId) (fr:Nat×Nat) (hb:w.heap[b]? = some (.cells c T fr)) (hf:rC fr c.size) (hl:c.size=cap * sz) (hn:es.length≤cap)
  (hz:∀e∈es,e.length=sz) (hr:∀(i j:Nat) (e:List AV) (a:AV),es[i]? = some e→e[j]? = some a→ag M B a (c.getD (i * sz+j) undef))
  (hm:∀o,M.cell b o=none):cW M B w (.own (some b) cap ver) (.arr sz ver es)
 |map (b:Nat) (kvs:List (Value×AV)) (es:Array MapEntry) (clock:Nat) (hb:w.heap[b]? = some (.map es clock)) (hl:es.size=kvs.length)
  (hk:∀(i:Nat) (k:Value) (v:AV) (e:MapEntry),kvs[i]? = some (k,v)→es[i]? = some e→e.key=k)
  (hr:∀(i:Nat) (k:Value) (v:AV) (e:MapEntry),kvs[i]? = some (k,v)→es[i]? = some e→ag M B v e.val)
  (hm:M.map b=none) (hst:clock=es.size∧∀(i:Nat) (e:MapEntry),es[i]? = some e→e.born=i):cW M B w (.blk b) (.map kvs)
 |siter (b:Nat) (s:ByteArray) (pos:Nat) (hb:w.heap[b]? = some (.stringIter s pos)):cW M B w (.blk b) (.siter s pos)
 |mapp (b clock:Nat) (bs:List Nat) (kvs:List (Value×AV)) (es:Array MapEntry) (hb:w.heap[b]? = some (.map es clock)) (hl:es.size=kvs.length) (hbs:es.toList.map (·.born)=bs)
  (hk:∀(i:Nat) (k:Value) (v:AV) (e:MapEntry),kvs[i]? = some (k,v)→es[i]? = some e→e.key=k)
  (hr:∀(i:Nat) (k:Value) (v:AV) (e:MapEntry),kvs[i]? = some (k,v)→es[i]? = some e→ag M B v e.val)
  (hm:M.map b=none):cW M B w (.blk b) (.mapp clock bs kvs)
 |miter (r bm l since c0:Nat) (seen:List Nat) (hl:B[l]? = some (.blk bm)) (hb:w.heap[r]? = some (.mapIter (some bm) since seen.toArray c0)):cW M B w (.blk r) (.miter l since seen c0)
 |loop (b:Nat) (r:Loop) (E:List (Nat×AV)) (hb:w.heap[b]? = some (.loop r)) (hv:∀i,ag M B (Env.of E i) (r.tmps.getD i undef)):cW M B w (.blk b) (.loop r E)
 |dead (g:GB):cW M B w g .dead
theorem cW.grow {M M':Mem} {B B':List GB} {w w':World} {g:GB} {o:bc} (h:cW M B w g o) (hM:M.Le M') (hB:BLe B B') (hw:∀b,g.block=some b→w'.heap[b]? = w.heap[b]?)
 (hc:∀b,g.block=some b→(∀o,M'.cell b o=M.cell b o)∧M'.map b=M.map b):cW M' B' w' g o:=by
 cases h with
 |var b cs c T fr hb hf hl hr hm=>exact .var b cs c T fr ((hw b rfl).trans hb) hf hl (fun i a hi=>(hr i a hi).mono hM hB) fun o=>((hc b rfl).1 o).trans (hm o)
 |ownz sz=>exact .ownz sz
 |own b cap sz n c T fr hb hf hl hn hm=>exact .own b cap sz n c T fr ((hw b rfl).trans hb) hf hl hn fun o ho=>((hc b rfl).1 o).trans (hm o ho)
 |arrz sz ver=>exact .arrz sz ver
 |arr b cap sz ver es c T fr hb hf hl hn hz hr hm=>exact .arr b cap sz ver es c T fr ((hw b rfl).trans hb) hf hl hn hz (fun i j e a h1 h2=>(hr i j e a h1 h2).mono hM hB) fun o=>((hc b rfl).1 o).trans (hm o)
 |map b kvs es clock hb hl hk hr hm hst=>exact .map b kvs es clock ((hw b rfl).trans hb) hl hk (fun i k v e h1 h2=>(hr i k v e h1 h2).mono hM hB) ((hc b rfl).2.trans hm) hst
 |siter b s pos hb=>exact .siter b s pos ((hw b rfl).trans hb)
 |mapp b clock bs kvs es hb hl hbs hk hr hm=>exact .mapp b clock bs kvs es ((hw b rfl).trans hb) hl hbs hk (fun i k v e h1 h2=>(hr i k v e h1 h2).mono hM hB) ((hc b rfl).2.trans hm)
 |miter r bm l since c0 seen hl hb=>obtain⟨g',h1,h2⟩:=hB _ _ hl;simp only[GB.Le] at h2;subst h2;exact .miter r bm l since c0 seen h1 ((hw r rfl).trans hb)
 |loop b r E hb hv=>exact .loop b r E ((hw b rfl).trans hb) fun i=>(hv i).mono hM hB
 |dead=>exact .dead _
theorem cW.cY {M:Mem} {B B':List GB} {w w':World} {g:GB} {o:bc} (h:cW M B w g o) (hB:BLe B B') (hw:∀b,g.block=some b→w'.heap[b]? = w.heap[b]?):cW M B' w' g o :=
 h.grow (Mem.Le.refl _) hB hw fun _ _=>⟨fun _=>rfl,rfl⟩
theorem cW.same {M:Mem} {B:List GB} {w w':World} {g:GB} {o:bc} (h:cW M B w g o) (hw:w'.heap=w.heap):cW M B w' g o:=h.cY (BLe.refl _) fun b _=>by rw[hw]
structure A3 where
 w:World
 iI:Nat→Prop
 low:∀b,iI b→b<w.heap.size
def A3.all (w:World):A3:=⟨w,fun b=>b<w.heap.size,fun _ h=>h⟩
structure Gh where
 M0:Mem
 w0:A3
 M:Mem
 B:List GB
 D:List (Nat×Obj):=[]
 R:Option Nat:=none
 F:List Deferred:=[]
structure Gh.Le (G G':Gh):Prop where
 m0:G'.M0=G.M0
 w0:G'.w0=G.w0
 m:G.M.Le G'.M
 b:BLe G.B G'.B
 d:∀x∈G.D,x∈G'.D
 r:G'.R=G.R
 f:G'.F=G.F
theorem Gh.Le.up {G:Gh} {M':Mem} {B':List GB} (h:G.M.Le M') (h':BLe G.B B'):G.Le { G with M:=M',B:=B' }:=⟨rfl,rfl,h,h',fun _ h=>h,rfl,rfl⟩
theorem Gh.Le.upM {G:Gh} {M':Mem} (h:G.M.Le M'):G.Le { G with M:=M' }:=.up h (BLe.refl _)
theorem Gh.Le.upB {G:Gh} {B':List GB} (h':BLe G.B B'):G.Le { G with B:=B' }:=.up (Mem.Le.refl _) h'
theorem Gh.Le.refl (G:Gh):G.Le G:=⟨rfl,rfl,Mem.Le.refl _,BLe.refl _,fun _ h=>h,rfl,rfl⟩
theorem Gh.Le.trans {G G' G'':Gh} (h:G.Le G') (h':G'.Le G''):G.Le G'':=⟨h'.m0.trans h.m0,h'.w0.trans h.w0,h.m.trans h'.m,h.b.trans h'.b,fun x hx=>h'.d x (h.d x hx),h'.r.trans h.r,h'.f.trans h.f⟩
def cD (w w':World):Prop:=(w'.os=w.os∧w'.output=w.output)∧w'.tape=w.tape∧w.drawn≤w'.drawn
theorem cD.refl (w:World):cD w w:=⟨⟨rfl,rfl⟩,rfl,zAt _⟩
theorem cD.trans {w w' w'':World} (h:cD w w') (h':cD w' w''):cD w w'':=⟨⟨h'.1.1.trans h.1.1,h'.1.2.trans h.1.2⟩,h'.2.1.trans h.2.1,zC2 h.2.2 h'.2.2⟩
theorem cD.r {w w':World} (h:cD w w':=by first|exact⟨⟨rfl,rfl⟩,rfl,zAt _⟩|exact⟨⟨rfl,rfl⟩,rfl,zCt _⟩):cD w w':=h
structure aC (G:Gh) (σ:ae) (w:World):Prop where
 ay:dc G.M w
 m0:∀b,G.w0.iI b→(∀o,G.M.cell b o=G.M0.cell b o)∧G.M.map b=G.M0.map b
 base:G.w0.w.heap.size≤w.heap.size∧∀b,G.w0.iI b→w.heap[b]? = G.w0.w.heap[b]?
 len:G.B.length=σ.length
 bB:∀(l:Nat) (g:GB) (o:bc),G.B[l]? = some g→σ[l]? = some o→cW G.M G.B w g o
 fresh:∀(l:Nat) (g:GB) b,G.B[l]? = some g→g.block=some b→¬G.w0.iI b∧b<w.heap.size
 inj:∀(l l':Nat) (g g':GB) b,G.B[l]? = some g→G.B[l']? = some g'→g.block=some b→g'.block=some b→l=l'
 out:cD G.w0.w w
 dfr:(∀p∈G.D,w.heap[p.1]? = some p.2∧¬G.w0.iI p.1∧(∀(l:Nat) (g:GB),G.B[l]? = some g→g.block≠some p.1)∧(∀o,G.M.cell p.1 o=none)∧G.M.map p.1=none)∧∀l0,G.R=some l0→∃r,(l0,Obj.loop r)∈G.D
theorem aC.nQ {G:Gh} {σ:ae} {w:World} (h:aC G σ w) {b:Nat} (hb:G.w0.iI b):b<w.heap.size:=zC3 (G.w0.low b hb) h.base.1
theorem aC.Fo {G:Gh} {σ:ae} {w:World} (h:aC G σ w) {b:Nat} (hb:w.heap.size≤b):¬G.w0.iI b:=fun hp=>by have:=h.nQ hp;omega
abbrev marks (ds:List Nat):List Deferred:=ds.map (fun b=>{ target:=.collected b,args:=#[] })
def la (D:List (Nat×Obj)) (F:List Deferred) (l:List Deferred):Prop:=∃ds ds2:List Nat,l=marks ds++F++marks ds2∧(ds++ds2).Nodup∧∀b∈ds++ds2,(b,Obj.deferred (some []))∈D
theorem la.mono {D D':List (Nat×Obj)} {F l:List Deferred} (h:la D F l) (hd:∀x∈D,x∈D'):la D' F l:=let ⟨ds,ds2,h1,h2,h3⟩:=h;⟨ds,ds2,h1,h2,fun b hb=>hd _ (h3 b hb)⟩
theorem la.nil (D:List (Nat×Obj)):la D [] []:=⟨[],[],rfl,List.nodup_nil,fun _ h=>by cases h⟩
structure bf (n:Nat) (G:Gh) (env:Env) (σ:ae) (a:Act) (w:World):Prop where
 size:a.tmps.size=n
 defers:la G.D G.F a.defers
 bh:∀i,ag G.M G.B (env i) (a.tmps.getD i undef)
 st:aC G σ w
theorem bf.put {n:Nat} {G:Gh} {env:Env} {σ:ae} {a:Act} {w:World} (h:bf n G env σ a w) {d:Nat} (hd:d<n) {v:AV} {x:Value} (hv:ag G.M G.B v x) :
 bf n G (env.put d v) σ (a.put (some d) x) w:=by
 refine⟨by simp[Act.put,h.size],h.defers,fun i=>?_,h.st⟩;simp only[Env.put,Act.put];by_cases hi:i=d
 · subst hi;simp[h.size,hd,hv]
 · have:=h.bh i;rw[if_neg hi];simpa[zCk (Ne.symm hi)] using this
theorem bf.later {n:Nat} {G G':Gh} {env:Env} {σ σ':ae} {a:Act} {w w':World} (h:bf n G env σ a w) (hg:G.Le G') (hs:aC G' σ' w'):bf n G' env σ' a w' :=
 ⟨h.size,by rw[hg.f];exact h.defers.mono hg.d,fun i=>(h.bh i).mono hg.m hg.b,hs⟩
def Env.ua (env aw:Env):Prop:=∀M B i x,ag M B (env i) x→ag M B (aw i) x
theorem bf.weaken {n:Nat} {G:Gh} {env aw:Env} {σ:ae} {a:Act} {w:World} (h:bf n G env σ a w) (hw:env.ua aw):bf n G aw σ a w :=
 ⟨h.size,h.defers,fun i=>hw _ _ i _ (h.bh i),h.st⟩
def FR (ro:Option Nat):Fence:={ Fence.wide with round:=ro }
def AWP (P:Program) (n:Nat) (c:Code) (K:Exit→Env→ae→Prop) (env:Env) (σ:ae):Prop :=
 ∀G a w,bf n G env σ a w→c.wpIn (FR G.R) 0 P (fun x a' w'=>∃aw σ' G',K x aw σ'∧G.Le G'∧bf n G' aw σ' a' w') a w
section
variable {P:Program} {n:Nat} {K U:Exit→Env→ae→Prop} {env:Env} {σ:ae}
theorem AWP.mono {c:Code} (h:AWP P n c K env σ) (hk:∀x e s,K x e s→U x e s):AWP P n c U env σ :=
 fun G a w hr=>wpIn_mono (h G a w hr) fun _ _ _ ⟨e,s,G',h1,h2⟩=>⟨e,s,G',hk _ _ _ h1,h2⟩
theorem AWP.weaken {c:Code} {aw:Env} (hw:env.ua aw) (h:AWP P n c K aw σ):AWP P n c K env σ:=fun G a w hr=>h G a w (hr.weaken hw)
theorem AWP.skip (h:K .normal env σ):AWP P n .skip K env σ:=fun G _ _ hr=>wpIn_skip ⟨env,σ,G,h,Gh.Le.refl G,hr⟩
theorem AWP.ret (h:K .ret env σ):AWP P n .ret K env σ:=fun G _ _ hr=>wpIn_ret ⟨env,σ,G,h,Gh.Le.refl G,hr⟩
theorem AWP.exit {id:Nat} (h:K (.exit id) env σ):AWP P n (.exit id) K env σ:=fun G _ _ hr=>wpIn_exit ⟨env,σ,G,h,Gh.Le.refl G,hr⟩
def kq (k:Env→ae→Prop) (K:Exit→Env→ae→Prop):Exit→Env→ae→Prop
 |.normal,e,s=>k e s
 |x,e,s=>K x e s
theorem AWP.seq {c d:Code} (h:AWP P n c (kq (AWP P n d K) K) env σ):AWP P n (.seq c d) K env σ:=by
 intro G a w hr;refine wpIn_seq (wpIn_mono (h G a w hr) ?_);rintro x a' w' ⟨e,s,G',h1,h2,h3⟩;cases x with
 |normal=>exact wpIn_mono (h2.r▸h1 G' a' w' h3) fun _ _ _ ⟨e2,s2,G2,k1,k2,k3⟩=>⟨e2,s2,G2,k1,h2.trans k2,k3⟩
 |_=>exact⟨e,s,G',h1,h2,h3⟩
theorem AWP.cond {c:Operand} {x y:Code} {t:Nat} {v:Bool} (hc:c=.tmp t) (hv:∀M B z,ag M B (env t) z→z=.bool v)
 (ht:v=true→AWP P n x K env σ) (hf:v=false→AWP P n y K env σ):AWP P n (.cond c x y) K env σ:=by
 intro G a w hr;subst hc;have h:=hv _ _ _ (hr.bh t);exact wpIn_cond_split (t:=v) (by simpa[Act.eval] using h) (fun e=>ht e G a w hr) (fun e=>hf e G a w hr)
def C8 (id:Nat) (K:Exit→Env→ae→Prop):Exit→Env→ae→Prop
 |.exit i,e,s=>if i=id then K .normal e s else K (.exit i) e s
 |x,e,s=>K x e s
theorem AWP.block {id:Nat} {c:Code} (h:AWP P n c (C8 id K) env σ):AWP P n (.block id c) K env σ:=by
 intro G a w hr;refine wpIn_block (wpIn_mono (h G a w hr) ?_);rintro x a' w' ⟨e,s,G',h1,h2,h3⟩;cases x with
 | exit i =>
   simp only[C8] at h1;simp only[Exit.inBlock];split
   · rename_i hi;rw[if_pos hi] at h1;exact⟨e,s,G',h1,h2,h3⟩
   · rename_i hi;rw[if_neg hi] at h1;exact⟨e,s,G',h1,h2,h3⟩
 |_=>exact⟨e,s,G',h1,h2,h3⟩
theorem AWP.loop {c:Code} {ι:Type} (E:ι→Env) (S:ι→ae) (inv:ι→Prop) (μ:ι→Nat) (i0:ι) (h0:inv i0) (hE:env.ua (E i0)) (hS:σ=S i0)
 (round:∀i,inv i→AWP P n c (kq (fun e s=>∃j,inv j∧μ j<μ i∧Env.ua e (E j)∧s=S j) K) (E i) (S i)):AWP P n (.loop c) K env σ:=by
 subst hS;intro G a w hr;refine wpIn_loop_ghost (fun m a w=>∃i G',μ i=m∧inv i∧G.Le G'∧bf n G' (E i) (S i) a w) (μ i0) ⟨i0,G,rfl,h0,Gh.Le.refl G,hr.weaken hE⟩ ?_;rintro m a w ⟨i,G',hm,hi,hg,hr⟩;refine wpIn_mono (hg.r▸round i hi G' a w hr) ?_;rintro x a' w' ⟨e,s,G'',h1,h2,h3⟩;cases x with
 | normal =>
   obtain⟨j,hj,hlt,hw,rfl⟩:=h1;exact⟨μ j,hm▸hlt,j,G'',rfl,hj,hg.trans h2,h3.weaken hw⟩
 |_=>exact⟨e,s,G'',h1,hg.trans h2,h3⟩
end
end Go.Ab
/- Regions: one operation after the other, and in any order where all are quiet. -/
namespace Go.Ab
def fb (P:Program) (o:Oper) (a:Act) (K:Act→World→Prop):Result Next→Prop
 |.ok (.value v) w'=>K (a.put o.dst v) w'
 |.ok .skip w'=>K (a.put o.dst undef) w'
 |.ok (.enter f args) w'=>Calls P f args w' fun
  |.returned v,w''=>K (a.put o.dst v) w''
  |_,_=>False
 |.ok (.row row args) w'=>Rows P row args w' fun v w''=>K (a.put o.dst v) w''
 |.ok (.round l f tmps assign body) w'=>∀ro,RoundIn (FR ro) 0 P l f tmps assign body w' fun
  |.returned v,w''=>K (a.put o.dst v) w''
  |_,_=>False
 |_=>False
def OWP (P:Program) (o:Oper) (a:Act) (w:World) (K:Act→World→Prop):Prop:=fb P o a K ((execOp a.eval o).run P w)
theorem zf {n:Nat} {P:Program} {row:String} {args:Array Value} {w:World} {R:Value→World→Prop} (h:Rows P row args w R):RowsIn Fence.wide n P row args w R :=
 fun c cs _=>let ⟨v,w',r,s⟩:=h c cs;⟨v,w',r,stepsIn_wide.2 s⟩
theorem A4 {P:Program} {o:Oper} {a:Act} {K U:Act→World→Prop} {r:Result Next} (h:∀a w,K a w→U a w) (hh:fb P o a K r):fb P o a U r:=by
 cases r with
 | ok n w' =>
   cases n<;>simp only[fb] at hh ⊢ <;>
    first
     |exact h _ _ hh
     |exact hh.elim
     |exact Calls.mono hh (fun e w'' he=>by cases e<;>first|exact h _ _ he|exact he.elim)
     |exact Rows.mono hh (fun _ _ he=>h _ _ he)
     |exact fun ro=>RoundIn.mono (hh ro) (fun e w'' he=>by cases e<;>first|exact h _ _ he|exact he.elim)
 |halt x w'=>cases x<;>simp only[fb] at hh
theorem nR {P:Program} {o:Oper} {a:Act} {w:World} {K U:Act→World→Prop} (h:∀a w,K a w→U a w) (hh:OWP P o a w K):OWP P o a w U:=A4 h hh
theorem OWP.pj {P:Program} {o:Oper} {a:Act} {w:World} {K U:Act→World→Prop} {Q:Exit→Act→World→Prop} {ro:Option Nat} (hh:OWP P o a w K) (h:∀a w,K a w→U a w):o.wpIn (FR ro) 0 P a w U Q:=by
 refine⟨fun _ _=>trivial,?_⟩;have hh:=nR h hh;unfold OWP at hh;have hnd:∀c,o.op≠.defer c:=by
  intro c hc;simp only[execOp,hc,Sem.run_bind] at hh;cases hr:(resolve a.eval c o.type).run P w with
  |ok d w'=>rw[hr] at hh;simp[Result.andThen,fb] at hh
  |halt x w'=>rw[hr] at hh;cases x<;>simp[Result.andThen,fb] at hh
 rw[Oper.semAt_eq _ _ _ hnd];generalize (execOp a.eval o).run P w=r at hh;cases r with
 | ok n w' =>
   cases n<;>simp only[fb] at hh<;>simp only[Oper.uponIn] <;>
    first
     |exact hh
     |exact hh.elim
     |exact⟨fun hd=>by simp[FR,Fence.wide] at hd,(callsIn_wide (n:=0)).2 (Calls.mono hh fun e w'' he=>by cases e<;>first|exact he|exact he.elim)⟩
     |exact⟨fun hd=>by simp[FR,Fence.wide] at hd,zf (n:=0) hh⟩
     |exact⟨fun hd=>by simp[FR,Fence.wide] at hd,(hh ro).mono fun e w'' he=>by cases e<;>first|exact he|exact he.elim⟩
 |halt x w'=>cases x<;>simp only[fb] at hh
def PStep (P:Program) (ops:Array Oper) (o:Oper) (env:Env) (σ:ae) (v:AV):Prop :=
 ∀G a w,aC G σ w→(∀x∈o.looksAt ops,ag G.M G.B (env x) (a.tmps.getD x undef)) →
  if Region.wanted o (yielded ops a.tmps) then OWP P o a w (fun a' w'=>∃x G',a'=a.put o.dst x∧ag G'.M G'.B v x∧G.Le G'∧aC G' σ w')
  else ag G.M G.B v undef
def EStep (P:Program) (n:Nat) (ops:Array Oper) (o:Oper) (k:Env→ae→Prop) (env:Env) (σ:ae):Prop :=
 ∀G a w,bf n G env σ a w →
  if Region.wanted o (yielded ops a.tmps) then OWP P o a w (fun a' w'=>∃aw σ' G',k aw σ'∧G.Le G'∧bf n G' aw σ' a' w')
  else ∃aw σ',k aw σ'∧bf n G aw σ' (a.put o.dst undef) w
def eu (n:Nat) (o:Oper):Bool:=match o.dst with|some d=>d<n|none=>true
def Env.br (e:Env) (d:Option Nat) (v:AV):Env:=match d with|some d=>e.put d v|none=>e
theorem bf.br {n:Nat} {G:Gh} {env:Env} {σ:ae} {a:Act} {w:World} (h:bf n G env σ a w) {d:Option Nat} (hd:∀x,d=some x→x<n) {v:AV} {x:Value} (hv:ag G.M G.B v x) :
 bf n G (env.br d v) σ (a.put d x) w:=by
 cases d with
 |none=>exact h
 |some d=>exact h.put (hd d rfl) hv
theorem cu {n:Nat} {o:Oper} (h:eu n o=true):∀x,o.dst=some x→x<n:=by
 intro x hx;simpa[eu,hx] using h
theorem EStep.Ia {P:Program} {n:Nat} {ops:Array Oper} {o:Oper} {k:Env→ae→Prop} {env:Env} {σ:ae} {v:AV} (hd:eu n o=true)
 (h:PStep P ops o env σ v) (hk:k (env.br o.dst v) σ):EStep P n ops o k env σ:=by
 intro G a w hr;have:=h G a w hr.st (fun x _=>hr.bh x);split
 · rename_i hw;rw[if_pos hw] at this;refine nR ?_ this;rintro a' w' ⟨x,G',rfl,h1,h2,h3⟩;have hr':bf n G' env σ a w':=hr.later h2 h3;exact⟨_,σ,G',hk,h2,hr'.br (cu hd) h1⟩
 · rename_i hw;rw[if_neg hw] at this;exact⟨_,σ,hk,hr.br (cu hd) this⟩
def AOps (P:Program) (n:Nat) (ops:Array Oper) (K:Env→ae→Prop):List Oper→Env→ae→Prop
 |[],e,s=>K e s
 |o::rest,e,s=>EStep P n ops o (AOps P n ops K rest) e s
theorem AOps.pure {P:Program} {n:Nat} {ops:Array Oper} {o:Oper} {rest:List Oper} {K:Env→ae→Prop} {env:Env} {σ:ae} {v:AV} (hd:eu n o=true)
 (h:PStep P ops o env σ v) (hk:AOps P n ops K rest (env.br o.dst v) σ):AOps P n ops K (o::rest) env σ:=EStep.Ia hd h hk
theorem AOps.sound {P:Program} {n:Nat} {ops:Array Oper} {K:Env→ae→Prop} {Q:Exit→Act→World→Prop} (ro:Option Nat):∀(l:List Oper) (env:Env) (σ:ae),AOps P n ops K l env σ→∀G a w,bf n G env σ a w →
 (∀aw σ' G' a' w',K aw σ'→G.Le G'→bf n G' aw σ' a' w'→Q .normal a' w')→wpListIn (FR ro) 0 P ops Q l a w
 |[],env,σ,h,G,a,w,hr,hQ=>hQ env σ G a w h (Gh.Le.refl G) hr
 | o :: rest, env, σ, h, G, a, w, hr, hQ => by
   have:=h G a w hr;unfold wpListIn;split
   · rename_i hw;rw[if_pos hw] at this;exact this.pj fun a' w' ⟨e,s,G',h1,h2,h3⟩=>AOps.sound ro rest e s h1 G' a' w' h3 fun e' s' G'' a'' w'' k1 k2 k3=>hQ e' s' G'' a'' w'' k1 (h2.trans k2) k3
   · rename_i hw;rw[if_neg hw] at this;obtain⟨e,s,h1,h3⟩:=this;exact⟨fun _ _=>trivial,AOps.sound ro rest e s h1 G _ w h3 hQ⟩
theorem AWP.region {P:Program} {n:Nat} {id:Nat} {l:List Oper} {K:Exit→Env→ae→Prop} {env:Env} {σ:ae}
 (h:AOps P n l.toArray (K .normal) l env σ):AWP P n (.region id l.toArray false) K env σ:=by
 intro G a w hr;exact wpIn_region_lit (AOps.sound _ l env σ h G a w hr fun e s G' a' w' h1 h2 h3=>⟨e,s,G',h1,h2,h3⟩)
section
variable {P:Program} {ops:Array Oper} {md:Region.Mode} {σ:ae}
theorem Env.put_comm (e:Env) {i j:Nat} (u v:AV) (h:i≠j):(e.put i u).put j v=(e.put j v).put i u:=by
 funext x;simp only[Env.put];by_cases h1:x=j
 · subst h1;have:¬x=i:=fun e=>h e.symm
   simp[this]
 · simp[h1]
theorem Env.pk (e:Env) {x y:Option Nat} (u v:AV) (h:∀d,x=some d→y≠some d):(e.br x u).br y v=(e.br y v).br x u:=by
 cases x with
 |none=>rfl
 | some i => cases y with
   |none=>rfl
   |some j=>exact Env.put_comm e u v fun hij=>h i rfl (by rw[hij])
theorem Env.iA (e:Env) {d:Option Nat} {v:AV} {x:Nat} (h:∀i,d=some i→i≠x):(e.br d v) x=e x:=by
 cases d with
 |none=>rfl
 |some i=>exact if_neg fun hx=>h i rfl hx.symm
theorem PStep.congr {o:Oper} {env aw:Env} {v:AV} (h:PStep P ops o env σ v) (he:∀x∈o.looksAt ops,aw x=env x):PStep P ops o aw σ v :=
 fun G a w hs hv=>h G a w hs fun x hx=>by rw[←he x hx];exact hv x hx
def aq (P:Program) (ops:Array Oper) (σ:ae) (i:Nat) (K:Env→Prop) (env:Env):Prop :=
 match ops[i]? with
 |none=>K env
 |some o=>∃v,PStep P ops o env σ v∧K (env.br o.dst v)
theorem Ai {i:Nat} {env:Env} {K U:Env→Prop} (h:∀e,K e→U e) (hh:aq P ops σ i K env):aq P ops σ i U env:=by
 unfold aq at *;split
 · exact h _ (by simpa[*] using hh)
 · rename_i o ho;simp only[ho] at hh;obtain⟨v,h1,h2⟩:=hh;exact⟨v,h1,h _ h2⟩
def wO (P:Program) (md:Region.Mode) (ops:Array Oper) (σ:ae) (K:Env→Prop):Nat→Array Bool→Env→Prop
 |0,listed,e=>Region.ready md ops listed=[]∧K e
 | fuel + 1, listed, e =>
   (Region.ready md ops listed=[]→K e)∧∀i∈Region.ready md ops listed,aq P ops σ i (wO P md ops σ K fuel (listed.setIfInBounds i true)) e
theorem C9 {j:Nat} {oi oj:Oper} {v:AV} (hj:ops[j]? = some oj) (hap:oi.apart ops oj=true) {K:Env→Prop} {env:Env}
 (hy:PStep P ops oi env σ v) (h:aq P ops σ j K (env.br oi.dst v)) :
 aq P ops σ j (fun e=>PStep P ops oi e σ v∧K (e.br oi.dst v)) env:=by
 obtain⟨h1,h2,h3⟩:=Oper.apart_spec hap;unfold aq at *;simp only[hj] at *;obtain⟨u,hu,V⟩:=h;refine⟨u,hu.congr fun x hx=>(Env.iA _ fun i hi e=>h1 i hi (e▸hx)).symm,hy.congr fun x hx=>Env.iA _ fun i hi e=>h3 i hi (e▸hx),?_⟩;rw[Env.pk env v u h2] at V;exact V
theorem A5 {K:Env→Prop} {i:Nat} {oi:Oper} {v:AV} (hi:ops[i]? = some oi) :
 ∀(fuel:Nat) (listed:Array Bool) (env:Env),
  (∀j oj,ops[j]? = some oj→j≠i→listed.getD j true=false→(∀e∈oj.after,Region.binds md e=true→e.on≠i)→oi.apart ops oj=true) →
  i∈Region.ready md ops listed→PStep P ops oi env σ v →
  wO P md ops σ K fuel (listed.setIfInBounds i true) (env.br oi.dst v)→wO P md ops σ K (fuel+1) listed env:=by
 have take:∀{env:Env} {K:Env→Prop},PStep P ops oi env σ v→K (env.br oi.dst v)→aq P ops σ i K env:=fun hy h=>by
  unfold aq;simp only[hi];exact⟨v,hy,h⟩
 intro fuel;induction fuel with
 | zero =>
   intro listed env _ hr hy H;refine⟨fun h=>(by rw[h] at hr;cases hr),fun j hj=>?_⟩;by_cases hji:j=i
   · subst hji;exact take hy H
   · have:=ready_mono hj hji;rw[H.1] at this;cases this
 | succ fuel ih =>
   intro listed env hfree hr hy H;refine⟨fun h=>(by rw[h] at hr;cases hr),fun j hj=>?_⟩;by_cases hji:j=i
   · subst hji;exact take hy H
   · have h1:=H.2 j (ready_mono hj hji);obtain⟨ub,oj,hoj,au⟩:=mem_ready.1 hj;have jA:∀e∈oj.after,Region.binds md e=true→e.on≠i:=fun e he hb heq=>by
      have h1:=au e he hb;have h0:=(mem_ready.1 hr).1;rw[heq] at h1;rcases zAa i listed.size with h'|h'
      · simp[h'] at h0 h1;rw[h0] at h1;cases h1
      · simp[zAj h'] at h1
     have h2:=C9 hoj (hfree j oj hoj hji ub jA) hy h1
     have jB:∀k ok,ops[k]? = some ok→k≠i→(listed.setIfInBounds j true).getD k true=false →
      (∀e∈ok.after,Region.binds md e=true→e.on≠i)→oi.apart ops ok=true:=fun k ok hk hki hun hno=>by
      refine hfree k ok hk hki ?_ hno;by_cases hjk:j=k
      · subst hjk;exact ub
      · rw[getD_set_ne true hjk] at hun;exact hun
     refine Ai (fun e' h3=>ih (listed.setIfInBounds j true) e' jB (ready_mono hr (Ne.symm hji)) h3.1 ?_) h2;rw[zCp _ _ hji];exact h3.2
def AQ (P:Program) (ops:Array Oper) (σ:ae) (K:Env→Prop):List Oper→Env→Prop
 |[],e=>K e
 |o::rest,e=>∃v,PStep P ops o e σ v∧AQ P ops σ K rest (e.br o.dst v)
theorem wP {K:Env→Prop}:∀(l:List Oper) (k:Nat) (listed:Array Bool) (env:Env),(∀j,l[j]? = ops[k+j]?) →
 Region.lexFrom md ops l.length k listed=true→AQ P ops σ K l env→wO P md ops σ K l.length listed env
 |[],_,_,_,_,hB,h=>⟨by simpa[Region.lexFrom] using hB,h⟩
 | o :: l, k, listed, env, hl, hB, h => by
   have h0:ops[k]? = some o:=by simpa using(hl 0).symm
   simp only[zAd,Region.lexFrom,zA0] at hB;obtain⟨⟨hr,hf⟩,hB'⟩:=hB;obtain⟨v,hy,V⟩:=h
   exact A5 h0 l.length listed env (Region.free_spec h0 hf) (by simpa using hr) hy
    (wP l (k+1) _ _ (fun j=>by have:=hl (j+1);simpa[zC4,zD0 1 j] using this) hB' V)
def eF (n:Nat) (ops:Array Oper):Bool:=ops.toList.all (eu n)
theorem iZ {n:Nat} {K:Env→Prop} (ro:Option Nat) (hd:eF n ops=true):∀(fuel:Nat) (listed:Array Bool) (env:Env),wO P md ops σ K fuel listed env→∀G a w,bf n G env σ a w →
 ∀Q:Exit→Act→World→Prop,(∀G' aw a' w',G.Le G'→K aw→bf n G' aw σ a' w'→Q .normal a' w')→wpAnyIn (FR ro) 0 P md ops Q fuel listed a w
 |0,_,env,h,G,a,w,hr,Q,hQ=>⟨h.1,hQ G env a w (Gh.Le.refl G) h.2 hr⟩
 | fuel + 1, listed, env, h, G, a, w, hr, Q, hQ => by
   refine⟨fun h0=>hQ G env a w (Gh.Le.refl G) (h.1 h0) hr,fun i hi=>?_⟩;have hq:=h.2 i hi;unfold aq at hq;unfold wpOpIn;split
   · rename_i ho;simp only[ho] at hq;exact iZ ro hd fuel _ env hq G a w hr Q hQ
   · rename_i o ho;simp only[ho] at hq;obtain⟨v,hp,V⟩:=hq;have hdo:∀x,o.dst=some x→x<n:=cu (by
      have:=zA4.1 hd o (by
       obtain⟨hlt,he⟩:=zBd.1 ho;rw[←he];simp)
      exact this)
     have:=hp G a w hr.st (fun x _=>hr.bh x);split
     · rename_i hw;rw[if_pos hw] at this;refine this.pj ?_;rintro a' w' ⟨x,G',rfl,h1,h2,h3⟩;have hr':bf n G' env σ a w':=hr.later h2 h3;exact iZ ro hd fuel _ _ V G' _ w' (hr'.br hdo h1) Q fun G'' e' a'' w'' hg hk hr=>hQ G'' e' a'' w'' (h2.trans hg) hk hr
     · rename_i hw;rw[if_neg hw] at this;exact⟨fun _ _=>trivial,iZ ro hd fuel _ _ V G _ w (hr.br hdo this) Q hQ⟩
end
theorem aC.drew {G:Gh} {σ:ae} {w:World} (h:aC G σ w):aC G σ { w with drawn:=w.drawn+1 } :=
 ⟨⟨h.ay.c,h.ay.m,h.ay.g⟩,h.m0,h.base,h.len,fun l g o h1 h2=>(h.bB l g o h1 h2).same rfl,h.fresh,h.inj,h.out.trans cD.r,h.dfr⟩
theorem AWP.zg {P:Program} {n:Nat} {id:Nat} {l:List Oper} {K:Exit→Env→ae→Prop} {env:Env} {σ:ae}
 (hm:P.follows .mixedOrders=true) (hB:Region.lexB .any l.toArray=true) (hd:eF n l.toArray=true)
 (h:AQ P l.toArray σ (fun e=>K .normal e σ) l env):AWP P n (.region id l.toArray true) K env σ:=by
 intro G a w hr;simp only[Region.lexB,zA0] at hB;refine wpIn_region_any hm ?_;have:=wP (md:=.any) l 0 (Array.replicate l.toArray.size false) env sMp (by simpa using hB.2) h;refine iZ _ hd _ _ env (by simpa using this) G a _ ⟨hr.size,hr.defers,hr.bh,hr.st.drew⟩ _ ?_;intro G' aw a' w' hg hk hr';exact⟨aw,σ,G',hk,hg,hr'⟩
end Go.Ab
/- Layout tables, and the rules for the quiet operations. -/
namespace Go.Ab
inductive Z where
 |i (k:IntKind)|bool|str|slice|ptr|map|func|iface
 deriving DecidableEq
def Z.val:Z→Value
 |.i k=>.int k 0|.bool=>.bool false|.str=>.string ⟨#[]⟩|.slice=>.slice none 0 0|.ptr=>.pointer none|.map=>.map none|.func=>.nilFunc|.iface=>.nilIface
def Z.av:Z→AV
 |.slice=>.nils|.map=>.imap []|z=>.prim z.val
inductive LT where
 |bool|int (k:IntKind)|str
 |struct (fs:List (Nat×Nat×Nat))
 |arr (n:Nat) (e:TypeId)
 |slice (e:TypeId)|map (k e:TypeId)|ptr (e:TypeId)|func|iface|other
 deriving DecidableEq
structure LI where
 lt:LT
 size:Nat
 bytes:Nat
 zero:List Z
 deriving DecidableEq
def ltOf (P:Program):TypeDesc→LT
 |.bool=>.bool|.int k=>.int k|.string=>.str
 |.struct F=>.struct (F.toList.map fun f=>(f.type,f.offset,((P.info? f.type).map (·.size)).getD 0))
 |.array n e=>.arr n e|.slice e=>.slice e|.map k e=>.map k e|.pointer e=>.ptr e|.func _ _ _=>.func|.interface _=>.iface
 |_=>.other
def LT.isAgg:LT→Bool
 |.struct _|.arr _ _=>true
 |_=>false
def zOf:Value→Option Z
 |.int k 0=>some (.i k)|.bool false=>some .bool|.string s=>if s.data.size=0 then some .str else none
 |.slice none 0 0=>some .slice|.pointer none=>some .ptr|.map none=>some .map|.nilFunc=>some .func|.nilIface=>some .iface
 |_=>none
def wQ:List Value→Option (List Z)
 |[]=>some []
 |v::r=>match zOf v,wQ r with|some z,some zs=>some (z::zs)|_,_=>none
def wR (P:Program) (t:TypeId):Option LI :=
 match P.underlying t,P.info? t with
 | some d, some i =>
   match i.zero with
   | some v => match (if (ltOf P d).isAgg then (match v with | .agg cs => wQ cs.toList | _ => none) else (zOf v).map ([·])) with
     |some zs=>some { lt:=ltOf P d,size:=i.size,bytes:=i.bytes,zero:=zs }
     |none=>none
   |none=>none
 |_,_=>none
abbrev Tab:=List (Nat×LI)
def Tab.get (T:Tab) (t:Nat):Option LI:=(T.find? (fun p=>p.1==t)).map (·.2)
def Tab.Ok (T:Tab) (P:Program):Prop:=∀p∈T,wR P p.1=some p.2
def Tab.okB (T:Tab) (P:Program):Bool:=T.all fun p=>wR P p.1==some p.2
theorem Tab.K0 (T:Tab) (P:Program) (h:T.okB P=true):T.Ok P:=fun p hp=>by
 have:=zA4.1 h p hp;simpa using this
theorem Tab.Ok.get {T:Tab} {P:Program} (h:T.Ok P) {t:Nat} {li:LI} (hg:T.get t=some li):wR P t=some li:=by
 unfold Tab.get at hg;cases hf:T.find? (fun p=>p.1==t) with
 |none=>simp[hf] at hg
 | some p =>
   simp only[hf,zBa,Option.some.injEq] at hg;have h1:=zDl hf;have h2:=zBi hf;simp only[beq_iff_eq] at h1;rw[←h1,←hg];exact h p h2
theorem wS {v:Value} {z:Z} (h:zOf v=some z):v=z.val:=by
 unfold zOf at h;split at h<;>simp at h<;>try (subst h;rfl)
 · rename_i s;obtain⟨h1,rfl⟩:=h;rw[h1];rfl
theorem uT:∀{l:List Value} {zs:List Z},wQ l=some zs→l=zs.map Z.val
 |[],zs,h=>by simp[wQ] at h;subst h;rfl
 | v :: r, zs, h => by
   unfold wQ at h;split at h
   · rename_i z zs' h1 h2;simp at h;subst h;rw[wS h1,uT h2];rfl
   · simp at h
structure LOk (P:Program) (t:TypeId) (li:LI):Prop where
 und:∃d,P.underlying t=some d∧ltOf P d=li.lt
 info:∃i,P.info? t=some i∧i.size=li.size∧i.bytes=li.bytes∧i.zero=some (if li.lt.isAgg then .agg (li.zero.map Z.val).toArray else (li.zero.map Z.val).headD undef)
 one:li.lt.isAgg=false→∃z,li.zero=[z]
theorem LOk.of {P:Program} {t:TypeId} {li:LI} (h:wR P t=some li):LOk P t li:=by
 unfold wR at h;split at h<;>try (simp at h;done)
 rename_i d i hd hi;split at h<;>try (simp at h;done)
 rename_i v hv;split at h<;>try (simp at h;done)
 rename_i zs hz;simp only[Option.some.injEq] at h;subst h;by_cases ha:(ltOf P d).isAgg=true
 · refine⟨⟨d,hd,rfl⟩,⟨i,hi,rfl,rfl,?_⟩,fun hn=>by simp[ha] at hn⟩;rw[if_pos ha] at hz ⊢;cases v<;>simp at hz;rename_i cs;rw[hv,←uT hz]
 · refine⟨⟨d,hd,rfl⟩,⟨i,hi,rfl,rfl,?_⟩,fun _=>?_⟩
   · simp only[Bool.not_eq_true] at ha;simp only[ha,zAz,if_false] at hz ⊢;cases hzz:zOf v with
     |none=>simp[hzz] at hz
     |some z=>simp[hzz] at hz;subst hz;rw[hv,wS hzz];rfl
   · simp only[Bool.not_eq_true] at ha;simp only[ha,zAz,if_false] at hz;cases hzz:zOf v with
     |none=>simp[hzz] at hz
     |some z=>simp[hzz] at hz;exact⟨z,hz.symm⟩
section
variable {P:Program}
theorem LOk.Aj {t:TypeId} {li:LI} (h:LOk P t li) (w:World):∃d,(underlying t).run P w=.ok d w∧ltOf P d=li.lt:=by
 obtain⟨d,h1,h2⟩:=h.und;exact⟨d,run_underlying h1 w,h2⟩
theorem LOk.cg {t:TypeId} {li:LI} (h:LOk P t li) (w:World):(sizeOf t).run P w=.ok li.size w:=by
 obtain⟨i,h1,h2,_⟩:=h.info;simp[sizeOf,typeInfo,h1,h2]
theorem LOk.po {t:TypeId} {li:LI} (h:LOk P t li) (w:World):(isAgg t).run P w=.ok li.lt.isAgg w:=by
 obtain⟨d,h1,h2⟩:=h.Aj w;unfold isAgg;rw[Sem.run_bind,h1,←h2];cases d<;>rfl
def LI.aX (li:LI):Value:=if li.lt.isAgg then .agg (li.zero.map Z.val).toArray else (li.zero.map Z.val).headD undef
theorem LOk.jg {t:TypeId} {li:LI} (h:LOk P t li) (w:World):(zeroValue t).run P w=.ok li.aX w:=by
 obtain⟨i,h1,_,_,h2⟩:=h.info;simp[zeroValue,typeInfo,h1,h2,LI.aX]
theorem LOk.struct {t:TypeId} {fs:List (Nat×Nat×Nat)} {sz by':Nat} {z:List Z} (h:LOk P t ⟨.struct fs,sz,by',z⟩) (w:World) :
 ∃F:Array Field,(underlying t).run P w=.ok (.struct F) w∧∀(k ft off s:Nat),fs[k]? = some (ft,off,s)→∃f:Field,F[k]? = some f∧f.type=ft∧f.offset=off∧((P.info? ft).map (·.size)).getD 0=s:=by
 obtain⟨d,h1,h2⟩:=h.und;cases d<;>simp[ltOf] at h2;rename_i F;refine⟨F,run_underlying h1 w,fun k ft off s hk=>?_⟩;subst h2;simp only[zA5,zB7,zA6,Prod.mk.injEq] at hk;obtain⟨f,hf,h1,h2,h3⟩:=hk;exact⟨f,hf,h1,h2,by rw[←h1];exact h3⟩
theorem LOk.slice {t e:TypeId} {sz by':Nat} {z:List Z} (h:LOk P t ⟨.slice e,sz,by',z⟩) (w:World):(underlying t).run P w=.ok (.slice e) w:=by
 obtain⟨d,h1,h2⟩:=h.und;cases d<;>simp[ltOf] at h2;subst h2;exact run_underlying h1 w
theorem LOk.arr {t e n:Nat} {sz by':Nat} {z:List Z} (h:LOk P t ⟨.arr n e,sz,by',z⟩) (w:World):(underlying t).run P w=.ok (.array n e) w:=by
 obtain⟨d,h1,h2⟩:=h.und;cases d<;>simp[ltOf] at h2;obtain⟨rfl,rfl⟩:=h2;exact run_underlying h1 w
theorem LOk.jY {t k e:TypeId} {sz by':Nat} {z:List Z} (h:LOk P t ⟨.map k e,sz,by',z⟩) (w:World):(underlying t).run P w=.ok (.map k e) w:=by
 obtain⟨d,h1,h2⟩:=h.und;cases d<;>simp[ltOf] at h2;obtain⟨rfl,rfl⟩:=h2;exact run_underlying h1 w
theorem LOk.Fp {t:TypeId} {k:IntKind} {sz by':Nat} {z:List Z} (h:LOk P t ⟨.int k,sz,by',z⟩) (w:World):(underlying t).run P w=.ok (.int k) w:=by
 obtain⟨d,h1,h2⟩:=h.und;cases d<;>simp[ltOf] at h2;subst h2;exact run_underlying h1 w
theorem LOk.wT {t:TypeId} {sz by':Nat} {z:List Z} (h:LOk P t ⟨.str,sz,by',z⟩) (w:World):(underlying t).run P w=.ok .string w:=by
 obtain⟨d,h1,h2⟩:=h.und;cases d<;>simp[ltOf] at h2;exact run_underlying h1 w
theorem LOk.K1 {t:TypeId} {sz by':Nat} {z:List Z} (h:LOk P t ⟨.bool,sz,by',z⟩) (w:World):(underlying t).run P w=.ok .bool w:=by
 obtain⟨d,h1,h2⟩:=h.und;cases d<;>simp[ltOf] at h2;exact run_underlying h1 w
end
def nS:Value→AV
 |.slice none 0 0=>.nils
 |.map none=>.imap []
 |v=>.prim v
def ofConst:Value→AV
 |.agg cs=>.agg (cs.toList.map nS)
 |v=>nS v
theorem pq (M:Mem) (B:List GB) (v:Value):ag M B (nS v) v:=by
 unfold nS;split
 · exact .nils
 · exact .imapz
 · exact .prim _
theorem qU (M:Mem) (B:List GB) (v:Value):ag M B (ofConst v) v:=by
 unfold ofConst;split
 · rename_i cs;refine .agg _ _ sMp fun i c hi=>?_
   simp only[zA5,zB7,zA6] at hi;obtain⟨v,hv,rfl⟩:=hi;have:cs.getD i undef=v:=by simp[hv]
   rw[this];exact pq M B v
 · exact pq M B _
def wU (g:Nat):AV:=match Gam.find? (fun p=>p.1==g) with
 |some p=>.iptr (p.2.map .prim)
 |none=>.any
def c9 (env:Env):Operand→AV
 |.tmp t=>env t
 |.const v=>ofConst v
 |.func f=>.fn (.func f) [] []
 |.global g=>wU g
theorem wV {M:Mem} (h:mf M) (B:List GB) (g:Nat) (env:Env):ag M B (c9 env (.global g)) (.pointer (some ⟨g,0,none⟩)):=by
 show ag M B (wU g) _;unfold wU;split
 · rename_i p hp;have h1:=zBi hp;have h2:=zDl hp;simp at h2;subst h2;refine .iptr _ _ 0 (fun j=>p.2.getD j undef) (fun j hj=>?_) fun j c hj=>?_
   · simp at hj;rw[zBv];exact h p h1 j _ (by simp[List.getD,hj])
   · simp only[zA5,zA6] at hj;obtain⟨v,hv,rfl⟩:=hj;simp[List.getD,hv];exact .prim _
 · exact .any _
theorem hI {G:Gh} {env:Env} {a:Act} {w:World} {σ:ae} (hs:aC G σ w) {o:Oper} (hv:∀x,.tmp x∈o.op.operands→ag G.M G.B (env x) (a.tmps.getD x undef)):∀x∈o.op.operands,ag G.M G.B (c9 env x) (a.eval x):=by
 intro x hx;cases x with
 |tmp t=>exact hv t hx
 |const v=>exact qU _ _ v
 |global g=>exact wV hs.ay.g _ g env
 |func f=>exact .fn _ _ _ _ _ rfl rfl (fun i c h=>by simp at h) (fun i c h=>by simp at h)
def Rd (env:Env) (x:Operand) (u:AV):Prop:=∀M B y,ag M B (c9 env x) y→ag M B u y
def PRun (P:Program) (o:Oper) (env:Env) (σ:ae) (v:AV):Prop :=
 ∀(G:Gh) (a:Act) (w:World),aC G σ w→(∀x∈o.op.operands,ag G.M G.B (c9 env x) (a.eval x)) →
  OWP P o a w (fun a' w'=>∃x G',a'=a.put o.dst x∧ag G'.M G'.B v x∧G.Le G'∧aC G' σ w')
theorem rd {env:Env} {x:Operand} {u:AV} (h:Rd env x u) {o:Oper} {M:Mem} {B:List GB} {a:Act} (hx:x∈o.op.operands)
 (hv:∀x∈o.op.operands,ag M B (c9 env x) (a.eval x)):ag M B u (a.eval x):=h _ _ _ (hv x hx)
theorem rD {o:Oper} {ops:Array Oper} {x:Nat} (h:.tmp x∈o.op.operands):x∈o.looksAt ops :=
 List.mem_append_left _ (List.mem_filterMap.2 ⟨.tmp x,by simpa using h,rfl⟩)
theorem PStep.plain {P:Program} {ops:Array Oper} {o:Oper} {env:Env} {σ:ae} {v:AV} (hg:o.guard=none) (h:PRun P o env σ v):PStep P ops o env σ v:=by
 intro G a w hs hv;rw[if_pos (by simp[Region.wanted,hg])];exact h G a w hs (hI hs fun x hx=>hv x (rD hx))
theorem PStep.guarded {P:Program} {ops:Array Oper} {o:Oper} {env:Env} {σ:ae} {v:AV} {j d:Nat} {want t:Bool} (hg:o.guard=some (j,want)) (hd:(ops[j]?).bind (·.dst)=some d)
 (ht:∀M B z,ag M B (env d) z→z=.bool t) (h:(t==want)=true→PRun P o env σ v):PStep P ops o env σ (.when (t==want) v):=by
 intro G a w hs hv;have hz:=ht _ _ _ (hv d (List.mem_append_right _ (by simp[hg,hd])));have hw:Region.wanted o (yielded ops a.tmps)=(t==want):=by
  simp only[Region.wanted,hg,yielded,hd,zDx];have:a.tmps[d]? = some (.bool t):=by
   cases h:a.tmps[d]? with
   |none=>simp[h,undef] at hz
   |some y=>simp[h] at hz;rw[hz]
  simp only[this];cases t<;>cases want<;>rfl
 rw[hw];split
 · rename_i htw;refine nR (fun a' w' ⟨x,G',h1,h2,h3⟩=>⟨x,G',h1,.when _ _ _ (fun _=>h2) (fun e=>by rw[htw] at e;cases e),h3⟩) (h htw G a w hs (hI hs fun x hx=>hv x (rD hx)))
 · rename_i htw;exact .when _ _ _ (fun e=>absurd e htw) fun _=>rfl
theorem wW {env:Env} {d:Nat} {t:Bool} (h:env d=.b t):∀M B z,ag M B (env d) z→z=.bool t:=by
 intro M B z hz;rw[h] at hz;cases hz;rfl
theorem PRun.of {P:Program} {o:Oper} {env:Env} {σ:ae} {v:AV}
 (h:∀(G:Gh) (a:Act) (w:World),aC G σ w→(∀x∈o.op.operands,ag G.M G.B (c9 env x) (a.eval x))→∃x,(execOp a.eval o).run P w=.ok (.value x) w∧ag G.M G.B v x):PRun P o env σ v:=by
 intro G a w hs hv;obtain⟨x,h1,h2⟩:=h G a w hs hv;unfold OWP;rw[h1];exact⟨x,G,rfl,h2,Gh.Le.refl G,hs⟩
section
variable {P:Program} {o:Oper} {env:Env} {σ:ae}
theorem PRun.move {x:Operand} {u:AV} (ho:o.op=.move x) (hx:Rd env x u):PRun P o env σ u :=
 .of fun G a w hs hv=>⟨a.eval x,by simp[execOp,ho],rd hx (by simp[ho,Op.operands]) hv⟩
theorem PRun.assign {x:Operand} {u:AV} (ho:o.op=.assign x) (hx:Rd env x u):PRun P o env σ u :=
 .of fun G a w hs hv=>⟨a.eval x,by simp[execOp,ho],rd hx (by simp[ho,Op.operands]) hv⟩
theorem ag.aJ {M:Mem} {B:List GB} {v x:Value} (h:ag M B (.prim v) x):x=v:=by cases h;rfl
theorem eval_const (a:Act) (v:Value):a.eval (.const v)=v:=rfl
theorem PRun.Ib {c x:Operand} {t u:Bool} (ho:o.op=.pick c x (.const (.bool false))) (hc:Rd env c (.b t)) (hx:t=true→Rd env x (.b u)):PRun P o env σ (.b (t&&u)) :=
 .of fun G a w hs hv=>by
  have h1:=ag.aJ (rd hc (by simp[ho,Op.operands]) hv);cases t with
  |false=>exact⟨.bool false,by simp[execOp,ho,h1,asBool,eval_const],.prim _⟩
  | true =>
    have h2:=ag.aJ (rd (hx rfl) (by simp[ho,Op.operands]) hv);exact⟨.bool u,by simp[execOp,ho,h1,h2,asBool],by simpa using ag.prim _⟩
theorem PRun.JM {c x:Operand} {t u:Bool} (ho:o.op=.pick c (.const (.bool true)) x) (hc:Rd env c (.b t)) (hx:t=false→Rd env x (.b u)):PRun P o env σ (.b (t||u)) :=
 .of fun G a w hs hv=>by
  have h1:=ag.aJ (rd hc (by simp[ho,Op.operands]) hv);cases t with
  |true=>exact⟨.bool true,by simp[execOp,ho,h1,asBool,eval_const],.prim _⟩
  | false =>
    have h2:=ag.aJ (rd (hx rfl) (by simp[ho,Op.operands]) hv);exact⟨.bool u,by simp[execOp,ho,h1,h2,asBool],by simpa using ag.prim _⟩
def jZ:BinOp→Value→Value→Option Value
 |.add,.int k a,.int k' b=>if k=k' then some (.int k (k.wrap (a+b))) else none
 |.sub,.int k a,.int k' b=>if k=k' then some (.int k (k.wrap (a - b))) else none
 |.mul,.int k a,.int k' b=>if k=k' then some (.int k (k.wrap (a * b))) else none
 |.eql,.int k a,.int k' b=>if k=k' then some (.bool (a==b)) else none
 |.neq,.int k a,.int k' b=>if k=k' then some (.bool (a != b)) else none
 |.lss,.int k a,.int k' b=>if k=k' then some (.bool (a<b)) else none
 |.leq,.int k a,.int k' b=>if k=k' then some (.bool (a≤b)) else none
 |.gtr,.int k a,.int k' b=>if k=k' then some (.bool (a>b)) else none
 |.geq,.int k a,.int k' b=>if k=k' then some (.bool (a≥b)) else none
 |.eql,.string a,.string b=>some (.bool (a.toList==b.toList))
 |.neq,.string a,.string b=>some (.bool !(a.toList==b.toList))
 |.lss,.string a,.string b=>some (.bool (Op.bytesLess a.toList b.toList))
 |_,_,_=>none
theorem PRun.bin {op:BinOp} {t t':TypeId} {x y:Operand} {vx vy r:Value} (ho:o.op=.binOp op t x y t') (hx:Rd env x (.prim vx)) (hy:Rd env y (.prim vy)) (hr:jZ op vx vy=some r) :
 PRun P o env σ (.prim r) :=
 .of fun G a w hs hv=>by
  have h1:=ag.aJ (rd hx (by simp[ho,Op.operands]) hv);have h2:=ag.aJ (rd hy (by simp[ho,Op.operands]) hv);refine⟨r,?_,.prim _⟩;unfold jZ at hr
  split at hr<;>first
   |(simp at hr;done)
   | (split at hr <;> simp at hr; subst hr; rename_i hk; subst hk
      simp[execOp,ho,h1,h2,binOp,eqGuard,Op.intArith,Op.intCmp])
   |(simp at hr;subst hr;simp[execOp,ho,h1,h2,binOp,eqGuard,Op.stringOp])
theorem PRun.quo {t t':TypeId} {x y:Operand} {k:IntKind} {a b:Int} (ho:o.op=.binOp .quo t x y t') (hx:Rd env x (.prim (.int k a))) (hy:Rd env y (.prim (.int k b))) (hb:b≠0) :
 PRun P o env σ (.prim (.int k (k.wrap (a.tdiv b)))) :=
 .of fun G A w hs hv=>by
  have h1:=ag.aJ (rd hx (by simp[ho,Op.operands]) hv);have h2:=ag.aJ (rd hy (by simp[ho,Op.operands]) hv);exact⟨_,by simp[execOp,ho,h1,h2,binOp,eqGuard,Op.intDiv,hb],.prim _⟩
theorem PRun.rem {t t':TypeId} {x y:Operand} {k:IntKind} {a b:Int} (ho:o.op=.binOp .rem t x y t') (hx:Rd env x (.prim (.int k a))) (hy:Rd env y (.prim (.int k b))) (hb:b≠0) :
 PRun P o env σ (.prim (.int k (a.tmod b))) :=
 .of fun G A w hs hv=>by
  have h1:=ag.aJ (rd hx (by simp[ho,Op.operands]) hv);have h2:=ag.aJ (rd hy (by simp[ho,Op.operands]) hv);exact⟨_,by simp[execOp,ho,h1,h2,binOp,eqGuard,Op.intDiv,hb],.prim _⟩
theorem PRun.cat {t t':TypeId} {x y:Operand} {a b:ByteArray} (ho:o.op=.binOp .add t x y t') (hx:Rd env x (.str a)) (hy:Rd env y (.str b)) (hb:a.size+b.size≤9223372036854775807) :
 PRun P o env σ (.str (a++b)) :=
 .of fun G A w hs hv=>by
  have h1:=ag.aJ (rd hx (by simp[ho,Op.operands]) hv);have h2:=ag.aJ (rd hy (by simp[ho,Op.operands]) hv);refine⟨_,?_,.prim _⟩;have:¬(((a.size+b.size:Nat):Int)>IntKind.i64.max):=by
   have:IntKind.i64.max=9223372036854775807:=dCd;rw[this];omega
  simp only[execOp,ho,h1,h2,binOp,eqGuard,Op.stringOp,if_neg this];simp
theorem run_equal_bool {t:TypeId} {a b:Bool} {sz by':Nat} {z:List Z} (hl:LOk P t ⟨.bool,sz,by',z⟩) (w:World):(Op.equal t (.bool a) (.bool b)).run P w=.ok (a==b) w:=by
 show(Op.equalIn (9999+1) t (.bool a) (.bool b)).run P w=_;rw[Op.equalIn,Sem.run_bind,hl.K1 w];rfl
theorem PRun.JN {t t' : TypeId} {x y : Operand} {a b : Bool} {sz by' : Nat} {z : List Z} (ho : o.op = .binOp .eql t x y t') (hx : Rd env x (.b a)) (hy : Rd env y (.b b)) (hl : LOk P t ⟨.bool, sz, by', z⟩) :
    PRun P o env σ (.b (a==b)) :=
  .of fun G A w hs hv => by
    have h1:=ag.aJ (rd hx (by simp[ho,Op.operands]) hv);have h2:=ag.aJ (rd hy (by simp[ho,Op.operands]) hv);refine⟨_,?_,.prim _⟩;have e:binOp .eql t (.bool a) (.bool b)=(do pure (.bool (←Op.equal t (.bool a) (.bool b)))):=rfl;simp only[execOp,ho,h1,h2,e];simp[eqGuard,run_equal_bool hl w]
theorem PRun.JO {t t' : TypeId} {x y : Operand} {a b : Bool} {sz by' : Nat} {z : List Z} (ho : o.op = .binOp .neq t x y t') (hx : Rd env x (.b a)) (hy : Rd env y (.b b)) (hl : LOk P t ⟨.bool, sz, by', z⟩) :
    PRun P o env σ (.b (a != b)) :=
  .of fun G A w hs hv => by
    have h1:=ag.aJ (rd hx (by simp[ho,Op.operands]) hv);have h2:=ag.aJ (rd hy (by simp[ho,Op.operands]) hv);refine⟨_,?_,.prim _⟩;have e:binOp .neq t (.bool a) (.bool b)=(do pure (.bool (!(←Op.equal t (.bool a) (.bool b))))):=rfl;simp only[execOp,ho,h1,h2,e];simp[eqGuard,run_equal_bool hl w,bne]
theorem PRun.not {t:TypeId} {x:Operand} {a:Bool} (ho:o.op=.unOp .not t x) (hx:Rd env x (.b a)):PRun P o env σ (.b (!a)) :=
 .of fun G A w hs hv=>by
  have h1:=ag.aJ (rd hx (by simp[ho,Op.operands]) hv);exact⟨_,by simp[execOp,ho,h1,Op.unary],.prim _⟩
theorem PRun.neg {t:TypeId} {x:Operand} {k:IntKind} {a:Int} (ho:o.op=.unOp .neg t x) (hx:Rd env x (.prim (.int k a))):PRun P o env σ (.prim (.int k (k.wrap (0 - a)))) :=
 .of fun G A w hs hv=>by
  have h1:=ag.aJ (rd hx (by simp[ho,Op.operands]) hv);exact⟨_,by simp[execOp,ho,h1,Op.unary,Op.intArith],.prim _⟩
theorem PRun.conv {s d:TypeId} {x:Operand} {k k':IntKind} {a:Int} {lis:LI} {sz by':Nat} {z:List Z} (ho:o.op=.convert s d x) (hx:Rd env x (.prim (.int k a))) (hs':LOk P s lis) (hl:LOk P d ⟨.int k',sz,by',z⟩) :
 PRun P o env σ (.prim (.int k' (k'.wrap a))) :=
 .of fun G A w hs hv=>by
  have h1:=ag.aJ (rd hx (by simp[ho,Op.operands]) hv);obtain⟨d',h2,_⟩:=hs'.Aj w;refine⟨.int k' (k'.wrap a),?_,.prim _⟩;simp[execOp,ho,h1,convert,h2,hl.Fp w,Conv.intToInt]
theorem PRun.len {t:TypeId} {x:Operand} {sz:Nat} {es:List (List AV)} {tk:Tok} {T:TypeId} {ty:TypeId} {s1 b1:Nat} {z:List Z} (ho:o.op=.call { callee:=.builtin .len,args:=#[x],argTypes:=#[T] })
 (hx:Rd env x (.sl sz es tk)) (hl:LOk P T ⟨.slice ty,s1,b1,z⟩):PRun P o env σ (.int es.length) :=
 .of fun G A w hs hv=>by
  have h1:=rd hx (by simp[ho,Op.operands,Call.operands]) hv;generalize hA:A.eval x=y at h1;cases h1 with
  |sl=>exact⟨_,by simp[execOp,ho,hA,resolve,invoke,builtin,Builtin.len_,hl.slice w,goInt],.prim _⟩
  |slz=>exact⟨_,by simp[execOp,ho,hA,resolve,invoke,builtin,Builtin.len_,hl.slice w,goInt],.prim _⟩
  |slzz=>exact⟨_,by simp[execOp,ho,hA,resolve,invoke,builtin,Builtin.len_,hl.slice w,goInt],.prim _⟩
theorem PRun.JP {t:TypeId} {x:Operand} {T:TypeId} {ty:TypeId} {s1 b1:Nat} {z:List Z} (ho:o.op=.call { callee:=.builtin .len,args:=#[x],argTypes:=#[T] })
 (hx:Rd env x .nils) (hl:LOk P T ⟨.slice ty,s1,b1,z⟩):PRun P o env σ (.int 0) :=
 .of fun G A w hs hv=>by
  have h1:=rd hx (by simp[ho,Op.operands,Call.operands]) hv;generalize hA:A.eval x=y at h1;cases h1 with
  |nils=>exact⟨_,by simp[execOp,ho,hA,resolve,invoke,builtin,Builtin.len_,hl.slice w,goInt],.prim _⟩
theorem PRun.JQ {x:Operand} {s:ByteArray} {T:TypeId} {s1 b1:Nat} {z:List Z} (ho:o.op=.call { callee:=.builtin .len,args:=#[x],argTypes:=#[T] })
 (hx:Rd env x (.str s)) (hl:LOk P T ⟨.str,s1,b1,z⟩):PRun P o env σ (.int s.size) :=
 .of fun G A w hs hv=>by
  have h1:=ag.aJ (rd hx (by simp[ho,Op.operands,Call.operands]) hv);exact⟨_,by simp[execOp,ho,h1,resolve,invoke,builtin,Builtin.len_,hl.wT w,goInt],.prim _⟩
theorem PRun.max {x y:Operand} {T:Array TypeId} {k:IntKind} {a b:Int} (ho:o.op=.call { callee:=.builtin .max,args:=#[x,y],argTypes:=T })
 (hx:Rd env x (.prim (.int k a))) (hy:Rd env y (.prim (.int k b))):PRun P o env σ (.prim (.int k (if b>a then b else a))) :=
 .of fun G A w hs hv=>by
  have h1:=ag.aJ (rd hx (by simp[ho,Op.operands,Call.operands]) hv);have h2:=ag.aJ (rd hy (by simp[ho,Op.operands,Call.operands]) hv);exact⟨_,by simp[execOp,ho,h1,h2,resolve,invoke,builtin,Builtin.max_,Builtin.max2],.prim _⟩
theorem PRun.min {x y:Operand} {T:Array TypeId} {k:IntKind} {a b:Int} (ho:o.op=.call { callee:=.builtin .min,args:=#[x,y],argTypes:=T })
 (hx:Rd env x (.prim (.int k a))) (hy:Rd env y (.prim (.int k b))):PRun P o env σ (.prim (.int k (if b<a then b else a))) :=
 .of fun G A w hs hv=>by
  have h1:=ag.aJ (rd hx (by simp[ho,Op.operands,Call.operands]) hv);have h2:=ag.aJ (rd hy (by simp[ho,Op.operands,Call.operands]) hv);exact⟨_,by simp[execOp,ho,h1,h2,resolve,invoke,builtin,Builtin.min_,Builtin.min2],.prim _⟩
theorem cq (b off k:Nat):(⟨b,off,none⟩:Addr).add k=⟨b,off+k,none⟩:=by unfold Addr.add;split<;>simp_all
theorem PRun.JR {s:TypeId} {x:Operand} {f:Nat} {cs:List AV} {fs:List (Nat×Nat×Nat)} {s1 b1:Nat} {z:List Z} {ft off sz:Nat} (ho:o.op=.fieldAddr s x f) (hx:Rd env x (.iptr cs))
 (hl:LOk P s ⟨.struct fs,s1,b1,z⟩) (hf:fs[f]? = some (ft,off,sz)) (hz:sz≠0) (hle:off≤cs.length):PRun P o env σ (.iptr (cs.drop off)) :=
 .of fun G A w hs hv=>by
  have h1:=rd hx (by simp[ho,Op.operands]) hv;generalize hA:A.eval x=y at h1;cases h1 with
  | iptr _ b o' g hm hr =>
    obtain⟨F,h2,h3⟩:=hl.struct w;obtain⟨fd,h4,h5,h6,h7⟩:=h3 _ _ _ _ hf;have hi:∃i,P.info? ft=some i∧i.size=sz:=by
     cases hq:P.info? ft with
     |none=>simp[hq] at h7;exact absurd h7.symm hz
     |some i=>exact⟨i,rfl,by simpa[hq] using h7⟩
    obtain⟨i,hi1,hi2⟩:=hi;refine⟨.pointer (some ⟨b,o'+off,none⟩),?_,.iptr _ b (o'+off) (fun j=>g (off+j)) (fun j hj=>?_) fun j c hj=>?_⟩
    · simp[execOp,ho,hA,Instr.fieldAt,h2,h4,Instr.sureAddr,fieldPlace,sizeOf,typeInfo,h5,h6,hi1,hi2,hz,cq]
    · rw[zC4];exact hm _ (by simp at hj;omega)
    · exact hr _ _ (by simpa[zB6] using hj)
theorem PRun.JS {s:TypeId} {x:Operand} {f:Nat} {l o':Nat} {fs:List (Nat×Nat×Nat)} {s1 b1:Nat} {z:List Z} {ft off sz:Nat} (ho:o.op=.fieldAddr s x f) (hx:Rd env x (.ptr l o'))
 (hl:LOk P s ⟨.struct fs,s1,b1,z⟩) (hf:fs[f]? = some (ft,off,sz)) (hz:sz≠0):PRun P o env σ (.ptr l (o'+off)) :=
 .of fun G A w hs hv=>by
  have h1:=rd hx (by simp[ho,Op.operands]) hv;generalize hA:A.eval x=y at h1;cases h1 with
  | ptr _ _ b hb =>
    obtain⟨F,h2,h3⟩:=hl.struct w;obtain⟨fd,h4,h5,h6,h7⟩:=h3 _ _ _ _ hf;have hi:∃i,P.info? ft=some i∧i.size=sz:=by
     cases hq:P.info? ft with
     |none=>simp[hq] at h7;exact absurd h7.symm hz
     |some i=>exact⟨i,rfl,by simpa[hq] using h7⟩
    obtain⟨i,hi1,hi2⟩:=hi;refine⟨.pointer (some ⟨b,o'+off,none⟩),?_,.ptr _ _ b hb⟩;simp[execOp,ho,hA,Instr.fieldAt,h2,h4,Instr.sureAddr,fieldPlace,sizeOf,typeInfo,h5,h6,hi1,hi2,hz,cq]
def hK (li:LI) (cs:List AV):AV:=if li.lt.isAgg then .agg (cs.take li.size) else cs.headD .any
theorem ku {T:TypeId} {li:LI} (hl:LOk P T li) (w:World) (b off:Nat) (g:Nat→Value) (hc:∀j,j<(if li.lt.isAgg then li.size else 1)→w.cell? ⟨b,off+j,none⟩=some (g j)) :
 (loadVar T ⟨b,off,none⟩).run P w=.ok (if li.lt.isAgg then .agg ((List.range li.size).map g).toArray else g 0) w:=by
 unfold loadVar;rw[Sem.run_bind,hl.po w];simp only[Result.andThen_ok];cases ha:li.lt.isAgg with
 | true =>
   simp only[ha,if_true] at hc ⊢;rw[Sem.run_bind,hl.cg w];simp only[Result.andThen_ok];rw[Sem.run_bind,run_loadCells w ⟨b,off,none⟩ li.size g (fun j hj=>by rw[cq];exact hc j hj)];rfl
 | false =>
   simp only[ha,zAz,if_false] at hc ⊢;have:=hc 0 oM;simp only[zBq] at this;rw[run_load];simp only[this]
theorem PRun.K2 {T:TypeId} {x:Operand} {cs:List AV} {li:LI} (ho:o.op=.load T x) (hx:Rd env x (.iptr cs)) (hl:LOk P T li) (hle:(if li.lt.isAgg then li.size else 1)≤cs.length) :
 PRun P o env σ (hK li cs) :=
 .of fun G A w hs hv=>by
  have h1:=rd hx (by simp[ho,Op.operands]) hv;generalize hA:A.eval x=y at h1;cases h1 with
  | iptr _ b off g hm hr =>
    refine⟨if li.lt.isAgg then .agg ((List.range li.size).map g).toArray else g 0,?_,?_⟩
    · simp only[execOp,ho,hA,Instr.loadAt,Instr.sureAddr];simp only[Sem.run_bind,Sem.run_pure,Result.andThen_ok];rw[ku hl w b off g (fun j hj=>hs.ay.1 _ _ _ (hm j oM))];rfl
    · unfold hK;cases ha:li.lt.isAgg with
      | true =>
        simp only[ha,if_true] at hle ⊢;refine .agg _ _ (by simp;omega) fun i c hi=>?_
        rw[zAw] at hi;split at hi
        · rename_i hlt;have:=(hr i c hi).mono (Mem.Le.refl _) (B':=G.B) (fun l g h=>by simp at h);simpa[hlt] using this
        · simp at hi
      | false =>
        simp only[ha,zAz,if_false] at hle ⊢;cases cs with
        |nil=>simp at hle
        |cons c r=>exact(hr 0 c rfl).mono (Mem.Le.refl _) (fun l g h=>by simp at h)
theorem PRun.K3 {T:TypeId} {x:Operand} {l off:Nat} {cs:List AV} {li:LI} (ho:o.op=.load T x) (hx:Rd env x (.ptr l off)) (hσ:σ[l]? = some (.var cs)) (hl:LOk P T li)
 (hle:off+(if li.lt.isAgg then li.size else 1)≤cs.length):PRun P o env σ (hK li (cs.drop off)) :=
 .of fun G A w hs hv=>by
  have h1:=rd hx (by simp[ho,Op.operands]) hv;generalize hA:A.eval x=y at h1;cases h1 with
  | ptr _ _ b hb =>
    have:=hs.bB l _ _ hb hσ;cases this with
    | var _ _ c T' fr hbb hf hlen hr hm =>
      refine⟨if li.lt.isAgg then .agg ((List.range li.size).map fun j=>c.getD (off+j) undef).toArray else c.getD off undef,?_,?_⟩
      · simp only[execOp,ho,hA,Instr.loadAt,Instr.sureAddr];simp only[Sem.run_bind,Sem.run_pure,Result.andThen_ok];rw[ku hl w b off (fun j=>c.getD (off+j) undef) (fun j hj=>by
         have hlt:off+j<c.size:=oM;simp[World.cell?,hbb,hlt])]
        rfl
      · unfold hK;cases ha:li.lt.isAgg with
        | true =>
          simp only[ha,if_true] at hle ⊢;refine .agg _ _ (by simp;omega) fun i c' hi=>?_
          rw[zAw] at hi;split at hi
          · rename_i hlt;rw[zB6] at hi;have:=hr _ _ hi;simpa[hlt] using this
          · simp at hi
        | false =>
          simp only[ha,zAz,if_false] at hle ⊢;have hlt:off<cs.length:=oM;rw[zBj hlt];exact hr off _ (zA1 hlt)
theorem PRun.field {T:TypeId} {x:Operand} {f:Nat} {cs:List AV} {fs:List (Nat×Nat×Nat)} {s1 b1:Nat} {z:List Z} {ft off sz:Nat} {li:LI} (ho:o.op=.field T x f) (hx:Rd env x (.agg cs))
 (hl:LOk P T ⟨.struct fs,s1,b1,z⟩) (hf:fs[f]? = some (ft,off,sz)) (hli:LOk P ft li) (hle:off+(if li.lt.isAgg then li.size else 1)≤cs.length):PRun P o env σ (hK li (cs.drop off)) :=
 .of fun G A w hs hv=>by
  have h1:=rd hx (by simp[ho,Op.operands]) hv;generalize hA:A.eval x=y at h1;cases h1 with
  | agg _ vs hlen hr =>
    obtain⟨F,h2,h3⟩:=hl.struct w;obtain⟨fd,h4,h5,h6,h7⟩:=h3 _ _ _ _ hf;cases ha:li.lt.isAgg with
    | true =>
      simp only[ha,if_true] at hle;refine⟨.agg (vs.extract off (off+li.size)),?_,?_⟩
      · simp[execOp,ho,hA,Instr.field,h2,h4,asAgg,part,h5,h6,hli.po w,hli.cg w,ha]
      · simp only[hK,ha,if_true];refine .agg _ _ (by simp;omega) fun i c' hi=>?_
        rw[zAw] at hi;split at hi
        · rename_i hlt;rw[zB6] at hi;have:=hr _ _ hi;have e:(vs.extract off (off+li.size))[i]? = vs[off+i]? := by
           rw[Array.getElem?_extract];rw[if_pos oM]
          simp only[zA2] at this ⊢;rw[e];exact this
        · simp at hi
    | false =>
      simp only[ha,zAz,if_false] at hle;have hlt:off<cs.length:=oM;have uc:off<vs.size:=oM;refine⟨vs[off],?_,?_⟩
      · simp[execOp,ho,hA,Instr.field,h2,h4,asAgg,part,h5,h6,hli.po w,ha,uc]
      · simp only[hK,ha,zAz,if_false];rw[zBj hlt];have:=hr off _ (zA1 hlt);rw[show vs.getD off undef=vs[off] by simp[uc]] at this;exact this
theorem PRun.JT {T e:TypeId} {x y:Operand} {sz:Nat} {es:List (List AV)} {tk:Tok} {k:IntKind} {i:Int} {s1 b1:Nat} {z:List Z} {li:LI} (ho:o.op=.indexAddr T x y) (hx:Rd env x (.sl sz es tk))
 (hy:Rd env y (.prim (.int k i))) (hl:LOk P T ⟨.slice e,s1,b1,z⟩) (hli:LOk P e li) (hsz:li.size=sz) (h0:0≤i) (h1:i<es.length):PRun P o env σ (.iptr (es.getD i.toNat [])) :=
 .of fun G A w hs hv=>by
  have hX:=rd hx (by simp[ho,Op.operands]) hv;have hY:=ag.aJ (rd hy (by simp[ho,Op.operands]) hv);generalize hA:A.eval x=v at hX;obtain⟨n,rfl⟩:=zBk h0;have hn:n<es.length:=oM;cases hX with
  |slz=>simp at hn
  |slzz=>simp at hn
  | sl _ _ _ b off cap f hz hm hr hc ht =>
    have hg:es.getD n []=es[n]:=by simp[hn]
    have hlen:(es[n]).length=sz:=hz _ (zCu hn);refine⟨.pointer (some ⟨b,off+n * sz,none⟩),?_,?_⟩
    · simp only[execOp,ho,hA,hY,Instr.indexAt,asIntOf];simp[hl.slice w,hli.cg w,hsz,hn,cq]
    · simp only[zAe,hg];exact .iptr _ b _ (f n) (fun j hj=>hm n j hn oM) fun j c hj=>hr n j _ c (zA1 hn) hj
theorem PRun.JU {α:Type} [Inhabited α] {T e:TypeId} {x y:Operand} {sz:Nat} {l:List α} {f:α→List AV} {tk:Tok} {k:IntKind} {i:Int} {s1 b1:Nat} {z:List Z} {li:LI} (ho:o.op=.indexAddr T x y) (hx:Rd env x (.sl sz (l.map f) tk))
 (hy:Rd env y (.prim (.int k i))) (hl:LOk P T ⟨.slice e,s1,b1,z⟩) (hli:LOk P e li) (hsz:li.size=sz) (h0:0≤i) (h1:i<l.length):PRun P o env σ (.iptr (f (l.getD i.toNat default))):=by
 have:=PRun.JT (σ:=σ) ho hx hy hl hli hsz h0 (by simpa using h1);have e:(l.map f).getD i.toNat []=f (l.getD i.toNat default):=by
  have hn:i.toNat<l.length:=oM;simp[List.getD,hn]
 rwa [e] at this
theorem PRun.JV {T:TypeId} {x y:Operand} {s:ByteArray} {k:IntKind} {i:Int} {s1 b1:Nat} {z:List Z} (ho:o.op=.index T x y) (hx:Rd env x (.str s))
 (hy:Rd env y (.prim (.int k i))) (hl:LOk P T ⟨.str,s1,b1,z⟩) (h0:0≤i) (h1:i<s.size):PRun P o env σ (.prim (.int .u8 ((s.data.toList.getD i.toNat 0).toNat))) :=
 .of fun G A w hs hv=>by
  have hX:=ag.aJ (rd hx (by simp[ho,Op.operands]) hv);have hY:=ag.aJ (rd hy (by simp[ho,Op.operands]) hv);obtain⟨n,rfl⟩:=zBk h0;have hn:n<s.size:=oM;refine⟨_,?_,.prim _⟩;have hn':n<s.data.size:=hn;have e:s[n]? = some s.data[n]:=by
   rw[getElem?_pos s n hn];rfl
  have e2:s.data.toList.getD n 0=s.data[n]:=by rw[zB2,zB7,zAk hn'];rfl
  simp only[zAe,e2];simp[execOp,ho,hX,hY,Instr.index,asIntOf,hl.wT w,e]
theorem PRun.extract {x:Operand} {k:Nat} {cs:List AV} {c:AV} (ho:o.op=.extract x k) (hx:Rd env x (.tup cs)) (hc:cs[k]? = some c):PRun P o env σ c :=
 .of fun G A w hs hv=>by
  have h1:=rd hx (by simp[ho,Op.operands]) hv;generalize hA:A.eval x=y at h1;cases h1 with
  | tup _ vs hlen hr =>
    have hk:k<vs.size:=by
     rcases zAa k cs.length with h|h
     · omega
     · simp[zA3 h] at hc
    refine⟨vs[k],?_,by simpa[hk] using hr k c hc⟩;simp[execOp,ho,hA,Instr.extract,hk]
end
end Go.Ab
/- Calls: contracts by content, the body of a function, operations that make or change the call's own objects. -/
namespace Go.Ab
def unb:Nat→AV→AV
 |0,_=>.any
 | k + 1, v => match v with
   |.prim v=>.prim v
   |.agg cs=>.agg (cs.map (unb k))
   |.tup cs=>.tup (cs.map (unb k))
   |.nils=>.nils
   |.sl sz es _=>.sl sz es .no
   |.iptr cs=>.iptr cs
   |.fn f a c=>.fn f (a.map (unb k)) (c.map (unb k))
   |.imap kvs=>.imap kvs
   |.ext v=>v
   |.opq v=>unb k v
   |_=>.any
theorem fj {M:Mem} {B:List GB}:∀(k:Nat) (v:AV) (x:Value),ag M B v x→ag M [] (unb k v) x
 |0,_,_,_=>.any _
 | k + 1, v, x, h => by
   have l:∀(cs:List AV) (vs:Array Value),(∀(i:Nat) (c:AV),cs[i]? = some c→ag M B c (vs.getD i undef))→∀(i:Nat) (c:AV),(cs.map (unb k))[i]? = some c→ag M [] c (vs.getD i undef):=by
    intro cs vs h i c hi;simp only[zA5,zA6] at hi;obtain⟨c',h1,rfl⟩:=hi;exact fj k _ _ (h i c' h1)
   cases h with
   |any=>exact .any _
   |prim=>exact .prim _
   |agg cs vs hl h=>exact .agg _ _ (by simpa using hl) (l _ _ h)
   |tup cs vs hl h=>exact .tup _ _ (by simpa using hl) (l _ _ h)
   |nils=>exact .nils
   |sl sz es t b off cap f hz hm hr hc ht=>exact .sl sz es .no b off cap f hz hm hr hc trivial
   |slz sz t ht=>exact .slz sz .no trivial
   |slzz sz a cap=>exact .slzz sz a cap
   |sla=>exact .any _
   |cm=>exact .any _
   |yld=>exact .any _
   |opq v f a b h=>exact fj k _ _ h
   |ptr=>exact .any _
   |iptr cs b off f hm hr=>exact .iptr cs b off f hm hr
   |fn f first aQ vf vc hf hc h1 h2=>exact .fn f _ _ vf vc (by simpa using hf) (by simpa using hc) (l _ _ h1) (l _ _ h2)
   |map=>exact .any _
   |imap kvs b es hm hl hk hr=>exact .imap kvs b es hm hl hk hr
   |imapz=>exact .imapz
   |when=>exact .any _
   |ext v x h=>exact h
def bor:Nat→ae→AV→AV
 |0,_,_=>.any
 | k + 1, σ, v => match v with
   |.prim v=>.prim v
   |.agg cs=>.agg (cs.map (bor k σ))
   |.tup cs=>.tup (cs.map (bor k σ))
   |.nils=>.nils
   |.sl sz es _=>.sl sz es .no
   |.iptr cs=>.iptr cs
   | .ptr l off => match σ[l]? with
     |some (.var cs)=>.iptr ((cs.map (bor k σ)).drop off)
     |_=>.any
   | .map l => match σ[l]? with
     |some (.map kvs)=>.imap (kvs.map fun kv=>(kv.1,bor k σ kv.2))
     |_=>.any
   |.fn f a c=>.fn f (a.map (bor k σ)) (c.map (bor k σ))
   |.imap kvs=>.imap kvs
   |.ext v=>v
   |.opq v=>bor k σ v
   |_=>.any
def bH (w:World):Mem where
 cell b o:=w.cell? ⟨b,o,none⟩
 map b:=match w.heap[b]? with|some (.map es _)=>some es|_=>none
theorem rE (w:World) (hg:mf (bH w)):dc (bH w) w:=⟨fun _ _ _ h=>h,fun b es h=>by
 simp only[bH] at h;split at h
 · rename_i es' clock hb;simp at h;subst h;exact⟨clock,hb⟩
 · simp at h,hg⟩
theorem rF {M:Mem} {w:World} (h:dc M w):M.Le (bH w):=⟨h.1,fun b es hb=>by
 obtain⟨clock,hc⟩:=h.2 b es hb;simp[bH,hc]⟩
theorem iB {G:Gh} {σ:ae} {w:World} (hs:aC G σ w):∀(k:Nat) (v:AV) (x:Value),ag G.M G.B v x→ag (bH w) [] (bor k σ v) x
 |0,_,_,_=>.any _
 | k + 1, v, x, h => by
   have hle:=rF hs.ay;have l:∀(cs:List AV) (vs:Array Value),(∀(i:Nat) (c:AV),cs[i]? = some c→ag G.M G.B c (vs.getD i undef))→∀(i:Nat) (c:AV),(cs.map (bor k σ))[i]? = some c→ag (bH w) [] c (vs.getD i undef):=by
    intro cs vs h i c hi;simp only[zA5,zA6] at hi;obtain⟨c',h1,rfl⟩:=hi;exact iB hs k _ _ (h i c' h1)
   cases h with
   |any=>exact .any _
   |prim=>exact .prim _
   |agg cs vs hl h=>exact .agg _ _ (by simpa using hl) (l _ _ h)
   |tup cs vs hl h=>exact .tup _ _ (by simpa using hl) (l _ _ h)
   |nils=>exact .nils
   |sl sz es t b off cap f hz hm hr hc ht=>exact .sl sz es .no b off cap f hz (fun i j hi hj=>hle.1 _ _ _ (hm i j hi hj)) (fun i j e c h1 h2=>(hr i j e c h1 h2).mono hle (BLe.refl _)) hc trivial
   |slz sz t ht=>exact .slz sz .no trivial
   |slzz sz a cap=>exact .slzz sz a cap
   |sla=>exact .any _
   |cm=>exact .any _
   |yld=>exact .any _
   |opq v f a b h=>exact iB hs k _ _ h
   | ptr l' off b hb =>
     unfold bor;simp only;split
     · rename_i cs hσ;have:=hs.bB l' _ _ hb hσ;cases this with
       | var _ _ c T fr hbb hf hlen hr hm =>
         refine .iptr _ b off (fun j=>c.getD (off+j) undef) (fun j hj=>?_) fun j c' hj=>?_
         · simp at hj;have hlt:off+j<c.size:=oM;simp[bH,World.cell?,hbb,hlt]
         · rw[zB6] at hj;exact l cs c hr _ _ hj
     · exact .any _
   |iptr cs b off f hm hr=>exact .iptr cs b off f (fun j hj=>hle.1 _ _ _ (hm j hj)) fun j c hj=>(hr j c hj).mono hle (BLe.refl _)
   |fn f first aQ vf vc hf hc h1 h2=>exact .fn f _ _ vf vc (by simpa using hf) (by simpa using hc) (l _ _ h1) (l _ _ h2)
   | map l' b hb =>
     unfold bor;simp only;split
     · rename_i kvs hσ;have:=hs.bB l' _ _ hb hσ;cases this with
       | map _ _ es clock hbb hlen hk hr hm =>
         refine .imap _ b es (by simp[bH,hbb]) (by simpa using hlen) ?_ ?_
         · intro i k' v' e h1 h2;simp only[zA5,zA6,Prod.mk.injEq] at h1;obtain⟨⟨k2,v2⟩,h3,rfl,rfl⟩:=h1;exact hk i _ _ e h3 h2
         · intro i k' v' e h1 h2;simp only[zA5,zA6,Prod.mk.injEq] at h1;obtain⟨⟨k2,v2⟩,h3,rfl,rfl⟩:=h1;exact iB hs k _ _ (hr i _ _ e h3 h2)
     · exact .any _
   |imap kvs b es hm hl hk hr=>exact .imap kvs b es (hle.2 _ _ hm) hl hk fun i k v e h1 h2=>(hr i k v e h1 h2).mono hle (BLe.refl _)
   |imapz=>exact .imapz
   |when=>exact .any _
   |ext v x h=>exact h.mono hle (BLe.refl _)
structure pt (M:Mem) (w:World) (M':Mem) (w':World):Prop where
 le:M.Le M'
 ok:dc M' w'
 size:w.heap.size≤w'.heap.size
 heap:∀b,b<w.heap.size→w'.heap[b]? = w.heap[b]?
 mem:∀b,b<w.heap.size→(∀o,M'.cell b o=M.cell b o)∧M'.map b=M.map b
 out:cD w w'
def gL (M:Mem) (avs:List AV) (vs:Array Value):Prop:=vs.size=avs.length∧∀(i:Nat) (c:AV),avs[i]? = some c→ag M [] c (vs.getD i undef)
def mO (P : Program) (f : FuncId) : Prop := ∃ fn, P.funcs[f]? = some fn ∧ fn.body.isSome = true ∧ (fn.name == "runtime.NumGoroutine") = false
def PCall (P:Program) (f:FuncId) (avs:List AV) (r:AV):Prop :=
 mO P f∧∀(M:Mem) (w:World) (vs:Array Value),dc M w→gL M avs vs→Calls P f vs w (fun e w'=>∃v M',e=.returned v∧ag M' [] r v∧pt M w M' w')
def bF (P:Program) (fv:AV) (avs:List AV) (r:AV):Prop:=∃k first aQ,fv=.fn (.func k) first aQ∧PCall P k (first++avs++aQ) r
theorem aC.after {G:Gh} {σ:ae} {w w':World} {M':Mem} (h:aC G σ w) (hp:pt G.M w M' w'):aC { G with M:=M' } σ w':=by
 refine⟨hp.ok,fun b hb=>?_,⟨zC2 h.base.1 hp.size,fun b hb=>?_⟩,h.len,fun l g o h1 h2=>?_,fun l g b h1 h2=>?_,h.inj,h.out.trans hp.out,⟨fun d hd=>?_,h.dfr.2⟩⟩
 · have hb':=h.nQ hb;exact⟨fun o=>((hp.mem b hb').1 o).trans ((h.m0 b hb).1 o),((hp.mem b hb').2).trans (h.m0 b hb).2⟩
 · exact(hp.heap b (h.nQ hb)).trans (h.base.2 b hb)
 · have ho:=h.bB l g o h1 h2;have hfr:=h.fresh l g;exact ho.grow hp.le (BLe.refl _) (fun b hb=>hp.heap b (hfr b h1 hb).2) fun b hb=>hp.mem b (hfr b h1 hb).2
 · have:=h.fresh l g b h1 h2;exact⟨this.1,zC3 this.2 hp.size⟩
 · obtain⟨h1,h2,h3,h4,h5⟩:=h.dfr.1 d hd;have hlt:d.1<w.heap.size:=by
    rcases zAa d.1 w.heap.size with h|h
    · exact h
    · simp[zAj h] at h1
   exact⟨(hp.heap _ hlt).trans h1,h2,h3,fun o=>((hp.mem _ hlt).1 o).trans (h4 o),((hp.mem _ hlt).2).trans h5⟩
theorem BLe.nil (B:List GB):BLe [] B:=fun l g h=>by simp at h
def AV.st:AV→AV
 |.when _ v=>v
 |v=>v
def AV.need:AV→Prop
 |.when g _=>g=true
 |_=>True
theorem Rd.st {env:Env} {x:Operand} {u:AV} (h:(c9 env x).st=u) (hn:(c9 env x).need):Rd env x u:=by
 intro M B y hy;subst h;generalize c9 env x=e at *;cases e with
 |when g v=>cases hy;rename_i h2 h;exact h hn
 |_=>exact hy
def nT (env:Env):List Operand→Prop
 |[]=>True
 |x::r=>(c9 env x).need∧nT env r
theorem nT.rd {env:Env}:∀{l:List Operand},nT env l→∀x∈l,Rd env x (c9 env x).st
 | _ :: _, h, x, hx => by
   rcases zAo.1 hx with rfl|hx
   · exact Rd.st rfl h.1
   · exact nT.rd h.2 x hx
section
variable {P:Program} {o:Oper} {env:Env} {σ:ae}
theorem eU {f:FuncId} (h:mO P f) (vs:Array Value) (w:World):(callFunc f vs).run P w=.ok (.enter f vs) w:=by
 obtain⟨fn,h1,h2,h3⟩:=h;unfold callFunc;simp only[Sem.run_bind,run_program,Result.andThen_ok,h1,h3];have:fn.body.isNone=false:=by cases hb:fn.body<;>simp_all
 simp[this]
theorem PRun.K4 {fo:Operand} {args:Array Operand} {T:Array TypeId} {k:Nat} {first aQ:List AV} {avs:List AV} {r:AV}
 (ho:o.op=.call { callee:=.value fo,args:=args,argTypes:=T }) (hf:Rd env fo (.fn (.func k) first aQ)) (hn:nT env args.toList)
 (h:PCall P k avs r) (ha:first.map (unb 4)++(args.toList.map fun x=>unb 4 (c9 env x).st)++aQ.map (unb 4)=avs):PRun P o env σ r:=by
 intro G a w hs hv;have h1:=rd hf (by simp[ho,Op.operands,Call.operands]) hv;generalize hA:a.eval fo=y at h1;cases h1 with
 | fn _ _ _ vf vc hvf hvc h2 h3 =>
   have bl:(execOp a.eval o).run P w=.ok (.enter k (vf++args.map a.eval++vc)) w:=by
    simp only[execOp,ho,resolve,hA,Deferred.ofValue,Sem.run_bind,Sem.run_pure,Result.andThen_ok,invoke];exact eU h.1 _ w
   unfold OWP;rw[bl];simp only[fb];have gT:gL G.M avs (vf++args.map a.eval++vc):=by
    subst ha;have hl:=hvf;have hl2:=hvc;refine⟨by simp[hl,hl2],fun i c hi=>?_⟩;simp only[zBo] at hi;rcases zAa i vf.size with hlt|hge
    · rw[zA8 (by simpa[←hl] using hlt)] at hi;simp only[zA5,zA6] at hi;obtain⟨c',hc',rfl⟩:=hi;have:=h2 i c' hc';have e:(vf++args.map a.eval++vc).getD i undef=vf.getD i undef:=by
       simp only[zA2];rw[zBs,zAl hlt]
      rw[e];exact fj 4 _ _ this
    · rw[zA7 (by simpa[←hl] using hge)] at hi;simp only[zD6,←hl] at hi;rcases zAa (i - vf.size) args.size with cr|hge2
      · rw[zA8 (by simpa using cr)] at hi;simp only[zA5,zA6] at hi;obtain⟨x,hx,rfl⟩:=hi;have hxm:x∈args.toList:=zAc hx;have:=rd (hn.rd x hxm) (by simp[ho,Op.operands,Call.operands];right;simpa using hxm) hv;have e:(vf++args.map a.eval++vc).getD i undef=a.eval x:=by
         simp only[zA2];rw[zBs,zB1 hge,zAl (by simpa using cr)];simp only[zB7] at hx;simp[hx]
        rw[e];exact fj 4 _ _ this
      · rw[zA7 (by simpa using hge2)] at hi;simp only[zD6,zBp,zA5,zA6] at hi;obtain⟨c',hc',rfl⟩:=hi;have:=h3 _ c' hc';have e:(vf++args.map a.eval++vc).getD i undef=vc.getD (i - vf.size - args.size) undef:=by
         simp only[zA2];rw[zBs,zB1 hge,zB1 (by simpa using hge2)];simp
        rw[e];exact fj 4 _ _ this
   refine(h.2 G.M w _ hs.ay gT).mono ?_;rintro e w' ⟨v,M',rfl,hr,hp⟩;exact⟨v,{ G with M:=M' },rfl,hr.mono (Mem.Le.refl _) (BLe.nil _),.upM hp.le,hs.after hp⟩
def flat:AV→Bool
 |.any=>true
 |.prim _=>true
 |.tup cs=>cs.all fun|.prim _=>true|.any=>true|.agg cs=>cs.all (fun|.prim _=>true|.any=>true|_=>false)|_=>false
 |.agg cs=>cs.all fun|.prim _=>true|.any=>true|_=>false
 |_=>false
theorem flat_agg {M M':Mem} {B B':List GB} {cs:List AV} {x:Value} (hf:(cs.all fun|.prim _=>true|.any=>true|_=>false)=true) (h:ag M B (.agg cs) x):ag M' B' (.agg cs) x:=by
 cases h with
 | agg _ vs hl h =>
   refine .agg cs vs hl fun i c hi=>?_
   have h1:=zA4.1 hf c (zAc hi);have h2:=h i c hi;cases c<;>simp at h1
   · exact .any _
   · rw[ag.aJ h2];exact .prim _
theorem rG {M M':Mem} {B B':List GB} {r:AV} {x:Value} (hf:flat r=true) (h:ag M B r x):ag M' B' r x:=by
 cases r with
 |any=>exact .any _
 |prim v=>rw[ag.aJ h];exact .prim _
 |agg cs=>exact flat_agg hf h
 | tup cs =>
   cases h with
   | tup _ vs hl h =>
     refine .tup cs vs hl fun i c hi=>?_
     have h1:=zA4.1 hf c (zAc hi);have h2:=h i c hi;cases c<;>simp only[zAz] at h1
     · exact .any _
     · rw[ag.aJ h2];exact .prim _
     · exact flat_agg h1 h2
 |_=>simp[flat] at hf
theorem PRun.K5 {fo:Operand} {args:Array Operand} {T:Array TypeId} {k:Nat} {first aQ:List AV} {avs:List AV} {r:AV}
 (ho:o.op=.call { callee:=.value fo,args:=args,argTypes:=T }) (hf:Rd env fo (.fn (.func k) first aQ)) (hn:nT env args.toList)
 (h:PCall P k avs r) (ha:first.map (bor 4 σ)++(args.toList.map fun x=>bor 4 σ (c9 env x).st)++aQ.map (bor 4 σ)=avs) (hr:flat r=true):PRun P o env σ r:=by
 intro G a w hs hv;have h1:=rd hf (by simp[ho,Op.operands,Call.operands]) hv;generalize hA:a.eval fo=y at h1;cases h1 with
 | fn _ _ _ vf vc hvf hvc h2 h3 =>
   have bl:(execOp a.eval o).run P w=.ok (.enter k (vf++args.map a.eval++vc)) w:=by
    simp only[execOp,ho,resolve,hA,Deferred.ofValue,Sem.run_bind,Sem.run_pure,Result.andThen_ok,invoke];exact eU h.1 _ w
   unfold OWP;rw[bl];simp only[fb];have gT:gL (bH w) avs (vf++args.map a.eval++vc):=by
    subst ha;have hl:=hvf;have hl2:=hvc;refine⟨by simp[hl,hl2],fun i c hi=>?_⟩;simp only[zBo] at hi;rcases zAa i vf.size with hlt|hge
    · rw[zA8 (by simpa[←hl] using hlt)] at hi;simp only[zA5,zA6] at hi;obtain⟨c',hc',rfl⟩:=hi;have:=h2 i c' hc';have e:(vf++args.map a.eval++vc).getD i undef=vf.getD i undef:=by
       simp only[zA2];rw[zBs,zAl hlt]
      rw[e];exact iB hs 4 _ _ this
    · rw[zA7 (by simpa[←hl] using hge)] at hi;simp only[zD6,←hl] at hi;rcases zAa (i - vf.size) args.size with cr|hge2
      · rw[zA8 (by simpa using cr)] at hi;simp only[zA5,zA6] at hi;obtain⟨x,hx,rfl⟩:=hi;have hxm:x∈args.toList:=zAc hx;have:=rd (hn.rd x hxm) (by simp[ho,Op.operands,Call.operands];right;simpa using hxm) hv;have e:(vf++args.map a.eval++vc).getD i undef=a.eval x:=by
         simp only[zA2];rw[zBs,zB1 hge,zAl (by simpa using cr)];simp only[zB7] at hx;simp[hx]
        rw[e];exact iB hs 4 _ _ this
      · rw[zA7 (by simpa using hge2)] at hi;simp only[zD6,zBp,zA5,zA6] at hi;obtain⟨c',hc',rfl⟩:=hi;have:=h3 _ c' hc';have e:(vf++args.map a.eval++vc).getD i undef=vc.getD (i - vf.size - args.size) undef:=by
         simp only[zA2];rw[zBs,zB1 hge,zB1 (by simpa using hge2)];simp
        rw[e];exact iB hs 4 _ _ this
   refine(h.2 (bH w) w _ (rE w (hs.ay.g.mono (rF hs.ay))) gT).mono ?_;rintro e w' ⟨v,M',rfl,hr',hp⟩;refine⟨v,G,rfl,rG hr hr',Gh.Le.refl G,?_⟩;have hp':pt G.M w G.M w':=⟨Mem.Le.refl _,⟨fun b o v hb=>by
    have h1:=hs.ay.1 b o v hb;have hlt:=World.block_lt_of_cell? _ _ h1;simp only[World.cell?] at h1 ⊢;rw[hp.heap b hlt];exact h1,fun b es hb=>by
    obtain⟨clock,h1⟩:=hs.ay.2 b es hb;have hlt:b<w.heap.size:=by
     rcases zAa b w.heap.size with h|h
     · exact h
     · simp[zAj h] at h1
    exact⟨clock,by rw[hp.heap b hlt];exact h1⟩,hs.ay.g⟩,hp.size,hp.heap,fun _ _=>⟨fun _=>rfl,rfl⟩,hp.out⟩
   exact hs.after hp'
end
def Env.init (avs:List AV):Env:=fun i=>avs.getD i .any
def K6 (rs:List ResultVar) (e:Env):AV :=
 match rs with
 |[.tmp t]=>unb 4 (e t)
 |l=>.tup (l.map fun|.tmp t=>unb 4 (e t)|.cell _ _=>.any)
def Ent (u v:AV):Prop:=∀M x,ag M [] u x→ag M [] v x
theorem Ent.bO (u:AV):Ent u u:=fun _ _ h=>h
def retK (rs:List ResultVar) (r:AV):Exit→Env→ae→Prop:=fun x e _=>(x=.normal∨x=.ret)∧Ent (K6 rs e) r
def lL:List ResultVar→Bool:=fun l=>l.all fun|.tmp _=>true|_=>false
def pv (tmps:Array Value):ResultVar→Value
 |.tmp t=>tmps.getD t undef
 |.cell _ _=>undef
def Da (tmps:Array Value) (l:List ResultVar):Value :=
 match l with
 |[.tmp t]=>tmps.getD t undef
 |l=>.tuple (l.map (pv tmps)).toArray
theorem qV {P:Program} {fn:Func} (h:lL fn.results.toList=true) (tmps:Array Value) (w:World) :
 (results fn tmps).run P w=.ok (Da tmps fn.results.toList) w:=by
 unfold results;obtain⟨l,hl⟩:∃l,fn.results=List.toArray l:=⟨fn.results.toList,by simp⟩
 rw[hl] at h ⊢;simp only at h ⊢;have key:∀(f:ResultVar→Sem Value),(∀t,f (.tmp t)=pure (tmps.getD t undef))→∀l:List ResultVar,lL l=true→Sem.run P (l.mapM f) w=Result.ok (l.map (pv tmps)) w:=by
  intro f hf;intro l;induction l with
  |nil=>intro _;rfl
  | cons x l ih =>
    intro h;simp only[lL,zB4,zA0] at h;cases x with
    |cell=>simp at h
    | tmp t =>
      simp only[zD3,hf,Sem.run_bind,Sem.run_pure,Result.andThen_ok];rw[ih h.2];rfl
 simp only[List.mapM_toArray,Sem.run_bind,Sem.run_map];rw[key _ (fun _=>rfl) l h];simp only[Result.andThen_ok,Sem.run_pure];congr 1
 match l,h with
 |[],_=>rfl
 |[.tmp t],_=>rfl
 |[.cell _ _],h=>simp[lL] at h
 | x :: y :: r, _ =>
   have:¬((x::y::r).map (pv tmps)).toArray.size=1:=sMp;rw[dif_neg this];cases x<;>rfl
theorem aC.qw {G:Gh} {σ:ae} {w:World} (h:aC G σ w) {b:Nat} {D':List (Nat×Obj)} {ob:Obj} (hb:(b,ob)∈G.D) (ob':Obj) (hD:∀p∈D',p∈G.D∧p.1≠b):aC { G with D:=D',R:=none } σ (w.putObj b ob'):=by
 obtain⟨h1,h2,h3,h4,h5⟩:=h.dfr.1 _ hb;have hk:∀b',b'≠b→(w.putObj b ob').heap[b']? = w.heap[b']? := fun b' hne=>World.putObj_heap_other hne
 have hsz:(w.putObj b ob').heap.size=w.heap.size:=by simp[World.putObj]
 refine⟨⟨fun b' o v hc=>?_,fun b' es hc=>?_,h.ay.g⟩,h.m0,⟨by rw[hsz];exact h.base.1,fun b' hb'=>?_⟩,h.len,fun l g o g1 g2=>?_,fun l g b' g1 g2=>⟨(h.fresh l g b' g1 g2).1,by rw[hsz];exact(h.fresh l g b' g1 g2).2⟩,h.inj,h.out,⟨fun p hp=>?_,fun _ e=>by cases e⟩⟩
 · have hne:b'≠b:=fun e=>by subst e;have:=h4 o;simp only at this;rw[this] at hc;cases hc
   have:=h.ay.1 _ _ _ hc;simp only[World.cell?] at this ⊢;rw[hk _ hne];exact this
 · have hne:b'≠b:=fun e=>by subst e;simp only at h5;rw[h5] at hc;cases hc
   obtain⟨c,h6⟩:=h.ay.2 _ _ hc;exact⟨c,by rw[hk _ hne];exact h6⟩
 · rw[hk _ fun e=>h2 (by subst e;exact hb')];exact h.base.2 b' hb'
 · exact(h.bB l g o g1 g2).cY (BLe.refl _) fun b' hb'=>hk b' fun e=>h3 l g g1 (by subst e;exact hb')
 · obtain⟨k1,k2⟩:=hD p hp;obtain⟨k3,k4⟩:=h.dfr.1 p k1;exact⟨(hk _ k2).trans k3,k4⟩
theorem pe {P:Program} {fn:Func} {tmps:Array Value} {R:Ending→World→Prop} {σ:ae} {u:FrameMode} (hu:u≠.run) {rest:List Deferred}:∀(ds:List Nat) (G:Gh) (w:World),aC G σ w→ds.Nodup→(∀b∈ds,(b,Obj.deferred (some []))∈G.D) →
 (∀G' w',G'.M0=G.M0→G'.w0=G.w0→G'.M=G.M→G'.B=G.B→G'.F=G.F→(∀p∈G.D,p.1∉ds→p∈G'.D)→aC G' σ w'→LeavesInM Fence.wide 0 P fn tmps R rest u w') →
 LeavesInM Fence.wide 0 P fn tmps R (marks ds++rest) u w
 |[],G,w,hs,_,_,hR=>hR G w rfl rfl rfl rfl rfl (fun p hp _=>hp) hs
 | b :: ds, G, w, hs, hn, hD, hR => by
   have hb:=hD b (zB8 ..);obtain⟨h1,_⟩:=hs.dfr.1 _ hb;rw[List.nodup_cons] at hn;refine⟨hu,.inl ⟨b,_,rfl,run_takeDeferred h1,?_⟩⟩;have hs':=hs.qw (D':=G.D.filter fun p=>p.1 != b) hb (.deferred none) fun p hp=>by simpa using hp
   refine pe hu ds _ _ hs' hn.2 (fun b' hb'=>?_) fun G' w' k1 k2 k3 k4 k5 k6 hw'=>hR G' w' k1 k2 k3 k4 k5 (fun p hp hnp=>k6 p ?_ fun h=>hnp (zB9 _ h)) hw'
   · simp only[zD7,bne_iff_ne,ne_eq];exact⟨hD b' (zB9 _ hb'),fun e=>hn.1 (by simpa[e] using hb')⟩
   · simp only[zD7,bne_iff_ne,ne_eq];exact⟨hp,fun e=>hnp (by rw[e];exact zB8 ..)⟩
theorem nU {P:Program} {f:FuncId} {fn:Func} {c:Code} {n:Nat} {avs:List AV} {σ:ae} {K:Exit→Env→ae→Prop} (hf:P.funcs[f]? = some fn) (hb:fn.body=some c)
 (hn:fn.ntmps=n) (hle:avs.length≤n) (h:AWP P n c K (Env.init avs) σ) {G:Gh} {w:World} {vs:Array Value} (hs:aC G σ w) (hGR:G.R=none) (hGF:G.F=[])
 (ha:vs.size=avs.length∧∀(i:Nat) (c:AV),avs[i]? = some c→ag G.M G.B c (vs.getD i undef)) {R:Value→World→Prop} (V:∀x e s,K x e s→x=.normal∨x=.ret)
 (fin:∀x e s (G':Gh) (tmps:Array Value) w',K x e s→G'.M0=G.M0→G'.w0=G.w0→G.M.Le G'.M→BLe G.B G'.B→aC G' s w'→(∀i,ag G'.M G'.B (e i) (tmps.getD i undef))→∃v,(results fn tmps).run P w'=.ok v w'∧R v w') :
 Calls P f vs w (fun e w'=>∃v,e=.returned v∧R v w'):=by
 refine callsIn_wide.1 (callsIn_of_wp_marks (F:=Fence.wide) (n:=0) hf hb trivial ?_);have hr:bf n G (Env.init avs) σ { tmps:=vs++Array.replicate (fn.ntmps - vs.size) undef,defers:=[] } w:=by
  refine⟨by simp[hn,ha.1];omega,by rw[hGF];exact la.nil _,fun i=>?_,hs⟩;simp only[Env.init];cases hi:avs[i]? with
  |none=>simp[List.getD,hi];exact .any _
  | some c' =>
    have h1:=ha.2 i c' hi;have hlt:i<vs.size:=by
     rw[ha.1];rcases zAa i avs.length with h|h
     · exact h
     · simp[zA3 h] at hi
    have e:(vs++Array.replicate (fn.ntmps - vs.size) undef).getD i undef=vs.getD i undef:=by
     simp only[zA2];rw[zAl hlt]
    rw[e];simpa[List.getD,hi] using h1
 have hw:=h _ _ _ hr;rw[hGR] at hw;refine wpIn_mono hw ?_;rintro x a' w' ⟨e,s,G',hk,hg,hr'⟩;obtain⟨ds,ds2,hds,hnd,hD⟩:=hr'.defers;rw[hg.f,hGF,zCm] at hds;have hds':a'.defers=marks (ds++ds2)++[]:=by rw[hds];simp[marks]
 have key:LeavesInM Fence.wide 0 P fn a'.tmps (fun e w'=>∃v,e=.returned v∧R v w') a'.defers .returning w':=by
  rw[hds'];refine pe sMp (ds++ds2) G' w' hr'.st hnd hD fun G'' w'' k1 k2 k3 k4 k5 k6 hs''=>?_
  obtain⟨v,h1,h2⟩:=fin x e s G'' a'.tmps w'' hk (k1.trans hg.m0) (k2.trans hg.w0) (k3▸hg.m) (k4▸hg.b) hs'' (by rw[k3,k4];exact hr'.bh);exact⟨v,h1,v,rfl,h2⟩
 rcases V x e s hk with rfl|rfl
 · exact key
 · exact key
theorem PCall.Ak {P : Program} {f : FuncId} {fn : Func} {c : Code} {n : Nat} {avs : List AV} {r : AV} {K : Exit → Env → ae → Prop} (hf : P.funcs[f]? = some fn) (hb : fn.body = some c) (hnm : (fn.name == "runtime.NumGoroutine") = false)
 (hn:fn.ntmps=n) (j0:decide (avs.length≤n)=true) (h:AWP P n c K (Env.init avs) []) (V:∀x e s,K x e s→x=.normal∨x=.ret)
 (fin:∀x e s (G':Gh) (tmps:Array Value) w',K x e s→aC G' s w'→(∀i,ag G'.M G'.B (e i) (tmps.getD i undef))→∃v,(results fn tmps).run P w'=.ok v w'∧ag G'.M [] r v):PCall P f avs r:=by
 refine⟨⟨fn,hf,by simp[hb],hnm⟩,fun M w vs hm ha=>?_⟩;have hs:aC ⟨M,.all w,M,[],[],none,[]⟩ [] w:=⟨hm,fun _ _=>⟨fun _=>rfl,rfl⟩,⟨zAt _,fun _ _=>rfl⟩,rfl,fun l g o h=>by simp at h,fun l g b h=>by simp at h,fun l l' g g' b h=>by simp at h,cD.refl _,⟨fun _ h=>(by cases h),fun _ h=>(by cases h)⟩⟩;refine(nU hf hb hn (of_decide_eq_true j0) h hs rfl rfl ha (R:=fun v w'=>∃M',ag M' [] r v∧pt M w M' w') V ?_).mono ?_
 · intro x e s G' tmps w' hk hm0 hw0 hM hB hs' hv;obtain⟨v,h1,h2⟩:=fin x e s G' tmps w' hk hs' hv;refine⟨v,h1,G'.M,h2,hM,hs'.ay,?_,fun b hb=>?_,fun b hb=>?_,by have:=hs'.out;rwa [hw0] at this⟩
   · have:=hs'.base.1;rwa [hw0] at this
   · have:=hs'.base.2;rw[hw0] at this;exact this b hb
   · have:=hs'.m0;rw[hm0,hw0] at this;exact this b hb
 · rintro e w' ⟨v,rfl,M',h1,h2⟩;exact⟨v,M',rfl,h1,h2⟩
theorem PCall.body {P : Program} {f : FuncId} {fn : Func} {c : Code} {n : Nat} {avs : List AV} {r : AV} (hf : P.funcs[f]? = some fn) (hb : fn.body = some c) (hnm : (fn.name == "runtime.NumGoroutine") = false)
 (hn:fn.ntmps=n) (j0:decide (avs.length≤n)=true) (kV:lL fn.results.toList=true) (h:AWP P n c (retK fn.results.toList r) (Env.init avs) []):PCall P f avs r:=by
 refine PCall.Ak hf hb hnm hn j0 h (fun x e s hk=>hk.1) ?_;rintro x e s G' tmps w' ⟨_,wX⟩ _ hv;refine⟨_,qV kV _ _,wX _ _ ?_⟩;generalize fn.results.toList=l at kV;have many:ag G'.M [] (.tup (l.map fun|.tmp t=>unb 4 (e t)|.cell _ _=>.any)) (.tuple (l.map (pv tmps)).toArray):=by
  refine .tup _ _ sMp fun i c hi=>?_
  simp only[zA5,zA6] at hi;obtain⟨rv,h1,rfl⟩:=hi;simp only[zA2,zCg,zA5,h1,zBa,zCv];cases rv with
  | tmp t =>
    have:=fj 4 _ _ (hv t);simpa[pv,zA2] using this
  |cell=>exact .any _
 match l,many with
 |[],many=>exact many
 |[.tmp t],_=>exact fj 4 _ _ (hv t)
 |[.cell _ _],many=>exact many
 |.tmp _::_::_,many=>exact many
 |.cell _ _::_::_,many=>exact many
end Go.Ab
