/- Parts of the proof. No statement is proved here. -/
import Derived.Lib.AppendZeros
import Derived.Shelf.SlSortCmp.NoneTotal
import Derived.Shelf.SlSortCmp.WholeK
import Derived.Test.YthiaimakjmhegaaGreatDoorP5
set_option linter.unusedVariables false
set_option linter.unusedSimpArgs false
set_option maxHeartbeats 16000000
set_option maxRecDepth 20000
/- From contracts over objects to contracts by content; objects that a piece of code leaves behind are let go. -/
namespace Go.Ab
theorem EStep.Bj {P:Program} {n:Nat} {ops:Array Oper} {o:Oper} {env:Env} {σ:ae} {k:Env→ae→Prop} {T:Tab} (hT:T.Ok P) {s x:Operand} {t tx e:TypeId} {d l sz:Nat} {es es2:List (List AV)} {u:AV} {s1 b1:Nat} {z:List Z} {le:LI} (ho:o.op=.call { callee:=.builtin .append,args:=#[s,x],argTypes:=#[t,tx] })
 (hg:o.guard=none) (hd:o.dst=some d) (hdn:d<n) (hs:Rd env s (.sl sz es (.own l))) (hσ:σ[l]? = some (.own sz es.length)) (hx:Rd env x u) (iJ:fZ T tx sz u es2)
 (hl:LOk P t ⟨.slice e,s1,b1,z⟩) (he:LOk P e le) (hsz:le.size=sz) (hz0:le.zero.length=le.size) (hbound:(es.length+es2.length) * le.bytes≤140737488355328) (hb2:es.length+es2.length≤9223372036854775807)
 (hk:k (env.put d (.sl sz (es++es2) (.own l))) (σ.set l (.own sz (es++es2).length))):EStep P n ops o k env σ :=
 EStep.dH hT ho hg hd hdn hs hσ hx iJ hl he hsz hz0 hbound hb2 (by rw[←zCr];exact hk)
theorem Ent.nil {sz:Nat}:Ent .nils (.sl sz [] .no):=fun M x h=>by cases h;exact .slz sz .no trivial
theorem Ent.tup {us vs:List AV} (hl:us.length=vs.length) (h:∀(i:Nat) (u v:AV),us[i]? = some u→vs[i]? = some v→Ent u v):Ent (.tup us) (.tup vs):=fun M x hx=>by
 cases hx with
 | tup _ xs h1 h2 =>
   refine .tup vs xs (by rw[h1,hl]) fun i c hi=>?_
   have hlt:i<us.length:=by
    rw[hl];rcases zAa i vs.length with h|h
    · exact h
    · simp[zA3 h] at hi
   exact h i us[i] c (zA1 hlt) hi M _ (h2 i _ (zA1 hlt))
theorem Ent.jl {a b x y:AV} (h:Ent a x) (h':Ent b y):Ent (.tup [a,b]) (.tup [x,y]):=Ent.tup rfl fun i u v hu hv=>by
 match i,hu,hv with
 |0,hu,hv=>simp at hu hv;subst hu;subst hv;exact h
 |1,hu,hv=>simp at hu hv;subst hu;subst hv;exact h'
 |i+2,hu,_=>simp at hu
theorem Ent.tup3 {a b c x y z:AV} (h:Ent a x) (h':Ent b y) (h'':Ent c z):Ent (.tup [a,b,c]) (.tup [x,y,z]):=Ent.tup rfl fun i u v hu hv=>by
 match i,hu,hv with
 |0,hu,hv=>simp at hu hv;subst hu;subst hv;exact h
 |1,hu,hv=>simp at hu hv;subst hu;subst hv;exact h'
 |2,hu,hv=>simp at hu hv;subst hu;subst hv;exact h''
 |i+3,hu,_=>simp at hu
section
variable {P:Program} {n:Nat} {K:Exit→Env→ae→Prop} {env:Env} {σ:ae}
end
end Go.Ab
/- Regions that draw their order, with a chain of effects, one of which panics. -/
namespace Go.Ab
section
variable {P:Program} {n:Nat} {ops:Array Oper} {md:Region.Mode} {S:Nat→ae} {kp:List PanicEntry→ae→Prop} {D:Nat} {eff:Oper→Bool} {lo hi aI:Nat→Nat}
end
end Go.Ab
/- append of a make to nil, and what is cut of it: an array of the call's own with room. -/
namespace Go.Ab
section
variable {P:Program} {n:Nat} {ops:Array Oper} {o:Oper} {env:Env} {σ:ae} {T:Tab} {k:Env→ae→Prop}
end
end Go.Ab
/- The library's sort by a comparison, by content: from the kit's proved contract to one over an array of the call's own. -/
namespace Go.Ab
open Go.Sort Go.Proofs
theorem Bl {w w':World} (hs:w.heap.size≤w'.heap.size) (hh:∀b,b<w.heap.size→w'.heap[b]? = w.heap[b]?) (ho:cD w w'):∃q os',w'=grow (w.drewN q) os':=by
 refine⟨w'.drawn - w.drawn,w'.heap.extract w.heap.size w'.heap.size,?_⟩;obtain⟨⟨h1,h2⟩,h3,h4⟩:=ho;have e:w'.heap=w.heap++w'.heap.extract w.heap.size w'.heap.size:=by
  refine Array.ext (by simp;omega) fun i h5 h6=>?_
  by_cases hi:i<w.heap.size
  · have:=hh i hi;rw[Array.getElem_append_left hi];rw[zAk h5,zAk hi] at this;exact Option.some.inj this
  · rw[Array.getElem_append_right oM];simp;congr 1;omega
 have e2:w'.drawn=w.drawn+(w'.drawn - w.drawn):=oM;generalize w'.heap.extract w.heap.size w'.heap.size=os' at e;generalize w'.drawn - w.drawn=q at e2;obtain⟨a1,a2,a3,a4,a5⟩:=w';dsimp only at *;subst e e2 h1 h2 h3;rfl
section
variable {P:Program} {α:Type} [Inhabited α] {enc:α→List Value} {k:Nat} {w:World} {blk off:Nat}
theorem mr (m:Nat) (d:Array α) (os:Array Obj) (b:Nat) (hb:b<w.heap.size) (hne:b≠blk):(sortWorldK enc k w blk off m d os).heap[b]? = w.heap[b]? := by
 simp only[sortWorldK,grow,putRowK,putRow,mapBlock,Go.Sort.ahead];rw[zAl (by simpa using hb),zBr,if_neg (Ne.symm hne)]
theorem Bm {M:Mem} {g:Nat} {cb:Array Value} {wB:List AV} {cf:α→α→Int} {size:Nat} (hc:∀x y:α,PCall P g ([.agg ((enc x).map AV.prim),.agg ((enc y).map AV.prim)]++wB) (.int (cf x y)))
 (hM:dc M w) (hb:(∀o,M.cell blk o=none)∧M.map blk=none) (hblk:blk<w.heap.size) (wC:gL M wB cb):CmpLays P g cb enc k cf blk off size w:=by
 intro m os dk _ x y;have hlt:∀{b:Nat} {o:Nat} {v:Value},w.cell? ⟨b,o,none⟩=some v→b<w.heap.size:=fun {b o v} h=>by
  rcases zAa b w.heap.size with h'|h'
  · exact h'
  · simp[World.cell?,zAj h'] at h
 have hMW:dc M (sortWorldK enc k w blk off m dk os):=by
  refine⟨fun b o v h=>?_,fun b es h=>?_,hM.g⟩
  · have hne:b≠blk:=fun e=>by subst e;rw[hb.1] at h;cases h
    have h1:=hM.c b o v h;simp only[World.cell?] at h1 ⊢;rw[mr m dk os b (hlt (hM.c b o v h)) hne];exact h1
  · have hne:b≠blk:=fun e=>by subst e;rw[hb.2] at h;cases h
    obtain⟨c,h1⟩:=hM.m b es h;have:b<w.heap.size:=by
     rcases zAa b w.heap.size with h'|h'
     · exact h'
     · simp[zAj h'] at h1
    exact⟨c,by rw[mr m dk os b this hne];exact h1⟩
 have hp:∀z:α,ag M [] (.agg ((enc z).map AV.prim)) (.agg (enc z).toArray):=fun z=>.agg _ _ sMp fun i c hi=>by
  simp only[zA5,zA6] at hi;obtain⟨v,hv,rfl⟩:=hi;have:(enc z).toArray.getD i undef=v:=by simp[hv]
  rw[this];exact .prim _
 have ha:gL M ([.agg ((enc x).map AV.prim),.agg ((enc y).map AV.prim)]++wB) (#[.agg (enc x).toArray,.agg (enc y).toArray]++cb):=by
  refine⟨by simp[wC.1];omega,fun i c hi=>?_⟩
  match i,hi with
  |0,hi=>simp at hi;subst hi;simpa[zA2,Array.getElem?_append] using hp x
  |1,hi=>simp at hi;subst hi;simpa[zA2,Array.getElem?_append] using hp y
  | i + 2, hi =>
    have h1:wB[i]? = some c:=by simpa using hi
    have h2:=wC.2 i c h1;have e:(#[Value.agg (enc x).toArray,Value.agg (enc y).toArray]++cb).getD (i+2) undef=cb.getD i undef:=by
     simp only[zA2];rw[zB1 sMp];simp
    rw[e];exact h2
 refine((hc x y).2 M _ _ hMW ha).mono ?_;rintro e w' ⟨v,M',rfl,hv,Bn⟩;exact⟨by rw[ag.aJ hv],Bl Bn.size Bn.heap Bn.out⟩
def kB (cf:α→α→Int) (xs:List α):List α:=(pdq (Go.Proofs.ltOf cf) xs.toArray 0 xs.length (Lib.bitLen xs.length) true true).toList
theorem lh (cf:α→α→Int) (hO:SWO (Go.Proofs.ltOf cf)) (xs:List α):PermIn 0 xs.length xs.toArray (kB cf xs).toArray∧SortedIn (Go.Proofs.ltOf cf) 0 xs.length (kB cf xs).toArray:=by
 have h:=pdq_sorts (Go.Proofs.ltOf cf) hO xs.toArray 0 xs.length (Lib.bitLen xs.length) true true (Nat.zero_le _) sMp (Or.inl rfl);unfold kB;simpa using h
end
def lQ (w:World) (b0:Nat):Mem where
 cell b o:=if b=b0 then none else w.cell? ⟨b,o,none⟩
 map b:=if b=b0 then none else match w.heap[b]? with|some (.map es _)=>some es|_=>none
theorem As {M:Mem} {w:World} {b0:Nat} (h:dc M w) (hb:(∀o,M.cell b0 o=none)∧M.map b0=none):M.Le (lQ w b0):=⟨fun b o v hv=>by
 have hne:b≠b0:=fun e=>by subst e;rw[hb.1] at hv;cases hv
 simp only[lQ,if_neg hne];exact h.1 b o v hv,fun b es hv=>by
 have hne:b≠b0:=fun e=>by subst e;rw[hb.2] at hv;cases hv
 obtain⟨clock,hc⟩:=h.2 b es hv;simp[lQ,hne,hc]⟩
theorem Iy {M:Mem} {w:World} {b0:Nat} (h:dc M w) (hb:(∀o,M.cell b0 o=none)∧M.map b0=none):dc (lQ w b0) w:=⟨fun b o v hv=>by
 simp only[lQ] at hv;split at hv
 · cases hv
 · exact hv,fun b es hv=>by
 simp only[lQ] at hv;split at hv
 · cases hv
 · split at hv
   · rename_i es' clock hb';simp at hv;subst hv;exact⟨clock,hb'⟩
   · exact absurd hv sMp,h.g.mono (As h hb)⟩
theorem oh {G:Gh} {σ:ae} {w:World} (hs:aC G σ w) {M':Mem} (hle:G.M.Le M') (hV:∀(l b o:Nat) (v:Value),G.B[l]? = some (GB.blk b)→w.cell? ⟨b,o,none⟩=some v→M'.cell b o=some v)
 (hMp:∀(l b:Nat) (es:Array MapEntry) (clock:Nat),G.B[l]? = some (GB.blk b)→w.heap[b]? = some (.map es clock)→M'.map b=some es):∀(k:Nat) (v:AV) (x:Value),ag G.M G.B v x→ag M' [] (bor k σ v) x
 |0,_,_,_=>.any _
 | k + 1, v, x, h => by
   have l:∀(cs:List AV) (vs:Array Value),(∀(i:Nat) (c:AV),cs[i]? = some c→ag G.M G.B c (vs.getD i undef))→∀(i:Nat) (c:AV),(cs.map (bor k σ))[i]? = some c→ag M' [] c (vs.getD i undef):=by
    intro cs vs h i c hi;simp only[zA5,zA6] at hi;obtain⟨c',h1,rfl⟩:=hi;exact oh hs hle hV hMp k _ _ (h i c' h1)
   cases h with
   |any=>exact .any _
   |prim=>exact .prim _
   |agg cs vs hl h=>exact .agg _ _ (by simpa using hl) (l _ _ h)
   |tup cs vs hl h=>exact .tup _ _ (by simpa using hl) (l _ _ h)
   |nils=>exact .nils
   |sl sz es t b off cap f hz hm hr hc ht=>exact .sl sz es .no b off cap f hz (fun i j hi hj=>hle.1 _ _ _ (hm i j hi hj)) (fun i j e c h1 h2=>(hr i j e c h1 h2).mono hle (BLe.refl _)) hc trivial
   |slz sz t ht=>exact .slz sz .no trivial
   |slzz sz a cap=>exact .slzz sz a cap
   |sla=>exact .any _
   |cm=>exact .any _
   |yld=>exact .any _
   |opq v f a b h=>exact oh hs hle hV hMp k _ _ h
   | ptr l' off b hb =>
     unfold bor;simp only;split
     · rename_i cs hσ;have:=hs.bB l' _ _ hb hσ;cases this with
       | var _ _ c T fr hbb hf hlen hr hm =>
         refine .iptr _ b off (fun j=>c.getD (off+j) undef) (fun j hj=>?_) fun j c' hj=>?_
         · simp at hj;have hlt:off+j<c.size:=oM;exact hV l' b _ _ hb (by simp[World.cell?,hbb,hlt])
         · rw[zB6] at hj;exact l cs c hr _ _ hj
     · exact .any _
   |iptr cs b off f hm hr=>exact .iptr cs b off f (fun j hj=>hle.1 _ _ _ (hm j hj)) fun j c hj=>(hr j c hj).mono hle (BLe.refl _)
   |fn f first aQ vf vc hf hc h1 h2=>exact .fn f _ _ vf vc (by simpa using hf) (by simpa using hc) (l _ _ h1) (l _ _ h2)
   | map l' b hb =>
     unfold bor;simp only;split
     · rename_i kvs hσ;have:=hs.bB l' _ _ hb hσ;cases this with
       | map _ _ es clock hbb hlen hk hr hm =>
         refine .imap _ b es (hMp l' b es clock hb hbb) (by simpa using hlen) ?_ ?_
         · intro i k' v' e h1 h2;simp only[zA5,zA6,Prod.mk.injEq] at h1;obtain⟨⟨k2,v2⟩,h3,rfl,rfl⟩:=h1;exact hk i _ _ e h3 h2
         · intro i k' v' e h1 h2;simp only[zA5,zA6,Prod.mk.injEq] at h1;obtain⟨⟨k2,v2⟩,h3,rfl,rfl⟩:=h1;exact oh hs hle hV hMp k _ _ (hr i _ _ e h3 h2)
     · exact .any _
   |imap kvs b es hm hl hk hr=>exact .imap kvs b es (hle.2 _ _ hm) hl hk fun i k v e h1 h2=>(hr i k v e h1 h2).mono hle (BLe.refl _)
   |imapz=>exact .imapz
   |when=>exact .any _
   |ext v x h=>exact h.mono hle (BLe.refl _)
theorem EStep.kC {P : Program} {n : Nat} {ops : Array Oper} {o : Oper} {env : Env} {σ : ae} {T : Tab} {k : Env → ae → Prop} (hT : T.Ok P) {t t' e : TypeId} {x : Operand} {d sz : Nat} {es : List (List AV)} {tk : Tok} {s1 b1 : Nat} {z : List Z}
    (ho:o.op=.binOp .eql t x (.const (.slice none 0 0)) t') (hg:o.guard=none) (hd:o.dst=some d) (hdn:decide (d<n)=true) (hx:rdv env x=some (.sl sz es tk)) (nx:rdn env x) (hl:T.get t=some ⟨.slice e,s1,b1,z⟩)
    (hk:∀b,(b=true→es=[])→k (env.put d (.b b)) σ):EStep P n ops o k env σ:=by
  refine EStep.plain hg fun G a w hr=>?_
  have h1:=hr.rd (Rd.w hx nx);generalize hA:a.eval x=sv at h1;have eJ:=(LOk.of (hT.get hl)).dB
  obtain ⟨ad, n', c, rfl, hb⟩ : ∃ ad n' c, sv = .slice ad n' c ∧ (ad.isNone = true → es = []) := by
    cases h1 with
    |sl _ _ _ b off cap f hz hm hr hc ht=>exact⟨_,_,_,rfl,by simp⟩
    |slz=>exact⟨_,_,_,rfl,fun _=>rfl⟩
    |slzz=>exact⟨_,_,_,rfl,fun _=>rfl⟩
  have h2:(binOp .eql t (.slice ad n' c) (.slice none 0 0))=(do pure (.bool (←Op.equal t (.slice ad n' c) (.slice none 0 0)))):=rfl
  have h3 : (Op.equal t (.slice ad n' c) (.slice none 0 0)).run P w = .ok ad.isNone w := by
    cases ad<;>(show(Op.equalIn (9999+1) t (.slice _ n' c) (.slice none 0 0)).run P w=_;rw[Op.equalIn,Sem.run_bind,run_underlying eJ];rfl)
  have e0:a.eval (.const (.slice none 0 0))=.slice none 0 0:=rfl
  have bl : (execOp a.eval o).run P w = .ok (.value (.bool ad.isNone)) w := by
    simp only[execOp,ho,hA,e0];rw[h2];simp[eqGuard,h3]
  unfold OWP;rw[bl];refine⟨_,_,G,hk _ hb,Gh.Le.refl G,?_⟩;rw[hd];exact hr.put (of_decide_eq_true hdn) (.prim _)
theorem TCall.sort {P:Program} {ρ:Shelf.Ren} {α:Type} [Inhabited α] (L:SlLaysF0.n6 P ρ) {sz:Nat} (aE:∀w,(isAgg (ρ.t 24)).run P w=.ok true w) (zE:∀w,(Go.sizeOf (ρ.t 24)).run P w=.ok sz w) (enc:α→List Value) (hk:∀x,(enc x).length=sz) (h1:∀x,∀v∈enc x,v.oneCell'=true)
 (cf:α→α→Int) (hO:SWO (Go.Proofs.ltOf cf)) {g:Nat} {aQ:List AV} {σ:ae} (hfn:mO P (ρ.f 6)) (hg:mO P g) (hc:∀x y:α,PCall P g ([.agg ((enc x).map AV.prim),.agg ((enc y).map AV.prim)]++aQ.map (bor 4 σ)) (.int (cf x y)))
 {l ver:Nat} {xs:List α} (hσ:σ[l]? = some (.arr sz ver (xs.map fun x=>(enc x).map AV.prim))) (hn:xs.length<4611686018427387904) (h0:0<xs.length) :
 TCall P (ρ.f 6) [.sla l sz 0 xs.length ver,.fn (.func g) [] aQ] σ (fun r s=>r=.tup []∧s=σ.set l (.arr sz ver ((kB cf xs).map fun x=>(enc x).map AV.prim))):=by
 refine⟨hfn,fun G w vs hs ha=>?_⟩;obtain⟨ha1,ha2⟩:=ha;have r0:=ha2 0 _ rfl;have r1:=ha2 1 _ rfl;obtain⟨v0,v1,rfl⟩:∃v0 v1,vs=#[v0,v1]:=by
  simp at ha1;exact⟨vs[0]'oM,vs[1]'oM,Array.ext (by simp[ha1]) fun i h1 h2=>by
   have:i=0∨i=1:=by simp at h2;omega
   rcases this with rfl|rfl<;>rfl⟩
 simp at r0 r1;generalize hxs:(xs.map fun x=>(enc x).map AV.prim)=es at hσ;have hel:es.length=xs.length:=by rw[←hxs];simp
 cases r1 with
 |fn _ _ _ vf vc hvf hvc hf1 hf2 =>
 have hvf0:vf=#[]:=zC1 (by simpa using hvf);subst hvf0;cases r0 with
 |sla _ _ _ _ _ a c h =>
 obtain⟨ob,cap,n',hB,hle,hat⟩:=h;have cP:=hs.bB l _ _ hB hσ;cases cP with
 |arrz=>simp at hel;omega
 |arr b _ _ _ _ cc T fr hbb hf hl hnn hz hr hm =>
 obtain⟨k1,k2⟩:=hat rfl;rcases k2 with k2|⟨rfl,rfl⟩
 · omega
 have hblk:=(hs.fresh l _ b hB rfl).2;have fc:∀i j,i<xs.length→j<sz→cc.getD (i * sz+j) undef=(enc (xs.getD i default)).getD j undef:=fun i j hi hj=>by
  have he:es[i]? = some ((enc (xs.getD i default)).map AV.prim):=by rw[←hxs];simp[List.getD,hi]
  have hja:((enc (xs.getD i default)).map AV.prim)[j]? = some (.prim ((enc (xs.getD i default)).getD j undef)):=by
   simp[List.getD,hk,hj]
  exact ag.aJ (hr i j _ _ he hja)
 have hmp:G.M.map b=none:=cQ hs.ay hbb (by intros;simp);have hcs:xs.length * sz≤cc.size:=by rw[hl,←hel];exact zAv sz hnn
 have FH:∀{j:Nat},j<xs.length * sz→0<sz:=fun {j} h=>by
  rcases zBe sz with e|e
  · subst e;simp at h
  · exact e
 have hH:HoldsK enc sz w b 0 xs.toArray:=fun j hj=>by
  rw[size_flatK] at hj;have hj':j<xs.length * sz:=by simpa using hj
  have hp:=FH hj';have q1:j / sz<xs.length:=Nat.div_lt_of_lt_mul (by rw[zDn];exact hj');have q2:j % sz<sz:=Nat.mod_lt _ hp;have q3:j / sz * sz+j % sz=j:=by rw[zDn];exact Nat.div_add_mod j sz
  have h4:=fc (j / sz) (j % sz) q1 q2;rw[q3] at h4;have hlt:j<cc.size:=oM;refine⟨?_,?_⟩
  · rw[get_flatK _ _ _ _ hj];simp only[World.cell?,hbb,zBv];have e1:cc[j]? = some (cc.getD j undef):=by simp[zA2,hlt]
    simp only[Option.isSome_none,zAz,if_false];rw[e1,h4];have e2:xs.toArray[j / sz]! = xs.getD (j / sz) default:=by simp[List.getD,q1]
    rw[e2];have e3:j % sz<(enc (xs.getD (j / sz) default)).length:=by rw[hk];exact q2
    simp only[id];simp only[List.getD] at e3 ⊢;rw[List.getElem!_eq_getElem?_getD,zA1 e3];rfl
  · have:=hf (0+j) oM;simp only[World.frozen?,hbb];simpa using this
 have hbx:∀l' b',G.B[l']? = some (GB.blk b')→b'≠b:=fun l' b' h5 e=>by
  subst e;have:=hs.inj l' l _ _ _ h5 hB rfl rfl;subst this;rw[hB] at h5;cases h5
 have wC:gL (lQ w b) (aQ.map (bor 4 σ)) vc:=⟨by simpa using hvc,fun i c hi=>by
  simp only[zA5,zA6] at hi;obtain⟨c',h5,rfl⟩:=hi;refine oh hs (As hs.ay ⟨hm,hmp⟩) (fun l' b' o v h6 h7=>?_) (fun l' b' es' clock h6 h7=>?_) 4 _ _ (hf2 i c' h5)
  · simp only[lQ,if_neg (hbx l' b' h6)];exact h7
  · simp[lQ,hbx l' b' h6,h7]⟩
 have hcmp:=Bm (k:=sz) (off:=0) (size:=xs.toArray.size) (enc:=enc) hc (Iy hs.ay ⟨hm,hmp⟩) ⟨fun o=>by simp[lQ],by simp[lQ]⟩ hblk wC;have main:=AnyQ.slices_SortFunc_eq L sz aE zE enc hk h1 cf hO g vc b 0 c xs.toArray w (fun args w=>eU hg args w) hcmp hH hblk (by simpa using hn);have hz:(0:Nat) * sz=0:=zD2 _;have hD:=(lh cf hO xs).1;simp only[zBa,hz,zD8] at main ⊢;refine main.mono ?_;rintro e w' ⟨rfl,n,os,rfl⟩;generalize hDD:pdq (Go.Proofs.ltOf cf) xs.toArray 0 xs.length (Lib.bitLen xs.length) true true=D;have hL:kB cf xs=D.toList:=by unfold kB;rw[hDD]
 rw[hL] at hD ⊢;have hDs:D.size=xs.length:=by have:=hD.1;simpa using this
 have hb1:(putRowK enc sz (Go.Sort.ahead w n) b 0 D).heap[b]? = some (.cells (putCells id 0 (flatK enc sz D) cc) T fr):=by
  simp[putRowK,putRow,mapBlock,Go.Sort.ahead,zBr,hbb,onCells]
 have hs1:aC G (σ.set l (.arr sz ver (D.toList.map fun x=>(enc x).map AV.prim))) (putRowK enc sz (Go.Sort.ahead w n) b 0 D):=by
  refine hs.upd hB rfl (by simp[putRowK,putRow,mapBlock,Go.Sort.ahead]) (fun k hk'=>?_) (.arr b _ sz ver _ (putCells id 0 (flatK enc sz D) cc) T fr hb1 ?_ ?_ ?_ ?_ ?_ hm) ⟨hm,hmp⟩ ⟨⟨rfl,rfl⟩,rfl,Nat.le_add_right _ _⟩
  · simp only[putRowK,putRow,mapBlock,Go.Sort.ahead];rw[zBr,if_neg (Ne.symm hk')]
  · have:(putCells id 0 (flatK enc sz D) cc).size=cc.size:=by simp[putCells]
    rw[this];exact hf
  · simp[putCells,hl]
  · simp[hDs];omega
  · intro x hx;obtain⟨z,_,rfl⟩:=zAq.1 hx;simp[hk]
  · intro i j x a hi hj;simp only[zA5,zA6] at hi;obtain⟨z,hz1,rfl⟩:=hi;simp only[zA5,zA6] at hj;obtain⟨v,hv1,rfl⟩:=hj;have hi1:i<D.size:=by
     have:=(zAb.1 hz1).1;simpa using this
    have hj1:j<sz:=by
     have:=(zAb.1 hv1).1;rwa [hk] at this
    have hlt:i * sz+j<D.size * sz:=by
     have:=zAv sz (show i+1≤D.size from hi1);rw[zB5,zDm] at this;omega
    have d1:(i * sz+j) / sz=i:=by rw[zDn,Nat.mul_add_div oM,Nat.div_eq_of_lt hj1,zBq]
    have d2:(i * sz+j) % sz=j:=by rw[zDn,Nat.mul_add_mod,Nat.mod_eq_of_lt hj1]
    have hcl:i * sz+j<cc.size:=by rw[hDs] at hlt;omega
    have e1:(putCells id 0 (flatK enc sz D) cc).getD (i * sz+j) undef=(flatK enc sz D)[i * sz+j]! := by
     simp[putCells,zA2,hcl,hlt]
    rw[e1,get_flatK _ _ _ _ hlt,d1,d2];have e2:D[i]! = z:=by
     have:=(zAb.1 hz1).2;rw[getElem!_pos D i hi1,←this];simp
    rw[e2];have e3:(enc z)[j]! = v:=by
     obtain⟨h7,h8⟩:=zAb.1 hv1;rw[getElem!_pos _ j h7,h8]
    rw[e3];exact .prim _
 have hs2:=hs1.after (M':=G.M) (w':=grow (putRowK enc sz (Go.Sort.ahead w n) b 0 D) os) ⟨Mem.Le.refl _,⟨fun b' o v h=>?_,fun b' es' h=>?_,hs1.ay.g⟩,by simp[grow],fun b' hb'=>by simp only[grow];rw[zAl hb'],fun _ _=>⟨fun _=>rfl,rfl⟩,⟨⟨rfl,rfl⟩,rfl,zAt _⟩⟩
 · exact⟨.tuple #[],.tup [],_,{ G with M:=G.M },rfl,⟨rfl,rfl⟩,Gh.Le.refl _,hs2,.tup [] #[] rfl sMp⟩
 · have h1:=hs1.ay.c b' o v h;have hlt:b'<(putRowK enc sz (Go.Sort.ahead w n) b 0 D).heap.size:=by
    rcases zAa b' (putRowK enc sz (Go.Sort.ahead w n) b 0 D).heap.size with h'|h'
    · exact h'
    · simp[World.cell?,zAj h'] at h1
   simp only[World.cell?,grow] at h1 ⊢;rw[zAl hlt];exact h1
 · obtain⟨clock,h1⟩:=hs1.ay.m b' es' h;refine⟨clock,?_⟩;simp only[grow];rw[zAl (zBd.1 h1).1];exact h1
end Go.Ab
/- The library's sort of nothing, and of whatever length. -/
namespace Go.Ab
open Go.Sort Go.Proofs
theorem PCall.Li {P:Program} {ρ:Shelf.Ren} (L:SlLaysF0.n6 P ρ) (hfn:mO P (ρ.f 6)) (u:AV):PCall P (ρ.f 6) [.nils,u] (.tup []):=by
 refine⟨hfn,fun M w vs hM ha=>?_⟩;obtain⟨ha1,ha2⟩:=ha;have r0:=ha2 0 _ rfl;obtain⟨v0,v1,rfl⟩:∃v0 v1,vs=#[v0,v1]:=by
  simp at ha1;exact⟨vs[0]'oM,vs[1]'oM,Array.ext (by simp[ha1]) fun i h1 h2=>by
   have:i=0∨i=1:=by simp at h2;omega
   rcases this with rfl|rfl<;>rfl⟩
 simp at r0;obtain⟨ad,c,rfl⟩:∃ad c,v0=.slice ad 0 c:=by
  cases r0 with
  |nils=>exact⟨_,_,rfl⟩
 refine(AnyF.slices_SortFunc_none L ad c v1 w).mono ?_;rintro e w' ⟨rfl,rfl⟩;exact⟨_,M,rfl,.tup [] #[] rfl sMp,⟨Mem.Le.refl _,hM,zAt _,fun _ _=>rfl,fun _ _=>⟨fun _=>rfl,rfl⟩,cD.refl _⟩⟩
theorem TCall.Lj {P:Program} {ρ:Shelf.Ren} {α:Type} [Inhabited α] (L:SlLaysF0.n6 P ρ) {sz:Nat} (aE:∀w,(isAgg (ρ.t 24)).run P w=.ok true w) (zE:∀w,(Go.sizeOf (ρ.t 24)).run P w=.ok sz w) (enc:α→List Value) (hk:∀x,(enc x).length=sz) (h1:∀x,∀v∈enc x,v.oneCell'=true)
 (cf:α→α→Int) (hO:SWO (Go.Proofs.ltOf cf)) {g:Nat} {aQ:List AV} {σ:ae} (hfn:mO P (ρ.f 6)) (hg:mO P g) (hc:∀x y:α,PCall P g ([.agg ((enc x).map AV.prim),.agg ((enc y).map AV.prim)]++aQ.map (bor 4 σ)) (.int (cf x y)))
 {l ver:Nat} {xs:List α} (hσ:σ[l]? = some (.arr sz ver (xs.map fun x=>(enc x).map AV.prim))) (hn:xs.length<4611686018427387904) :
 TCall P (ρ.f 6) [.sla l sz 0 xs.length ver,.fn (.func g) [] aQ] σ (fun r s=>r=.tup []∧s=σ.set l (.arr sz ver ((kB cf xs).map fun x=>(enc x).map AV.prim))):=by
 rcases zBe xs.length with hx0|h0
 · have hxe:xs=[]:=zAr hx0;subst hxe;refine⟨hfn,fun G w vs hs ha=>?_⟩;obtain⟨ha1,ha2⟩:=ha;have r0:=ha2 0 _ rfl;obtain⟨v0,v1,rfl⟩:∃v0 v1,vs=#[v0,v1]:=by
    simp at ha1;exact⟨vs[0]'oM,vs[1]'oM,Array.ext (by simp[ha1]) fun i h1 h2=>by
     have:i=0∨i=1:=by simp at h2;omega
     rcases this with rfl|rfl<;>rfl⟩
   simp at r0;cases r0 with
   |sla _ _ _ _ _ a c h =>
   refine(AnyF.slices_SortFunc_none L a c v1 w).mono ?_;rintro e w' ⟨rfl,rfl⟩;have hlt:l<σ.length:=(zAb.1 hσ).1;have e1:kB cf ([]:List α)=[]:=zAr (by
    have:=(lh cf hO ([]:List α)).1.1;simpa using this)
   have hse:σ.set l (.arr sz ver ((kB cf []).map fun x=>(enc x).map AV.prim))=σ:=by
    rw[e1];refine zCh fun i=>?_
    by_cases hi:l=i
    · subst hi;rw[zAf hlt,hσ]
    · rw[zAp hi]
   rw[hse];exact⟨.tuple #[],.tup [],_,G,rfl,⟨rfl,rfl⟩,Gh.Le.refl G,hs,.tup [] #[] rfl sMp⟩
 · exact TCall.sort L aE zE enc hk h1 cf hO hfn hg hc hσ hn h0
end Go.Ab
/- A map that changes no more, told by its content in the slots and in the call's variables. -/
namespace Go.Ab
def FI (l:Nat) (kvs:List (Value×AV)):bc→bc
 |.var cs=>.var (cs.map (frz l kvs))
 |o=>o
theorem aC.mapO {G:Gh} {σ:ae} {w:World} (h:aC G σ w) (f:bc→bc) (hf:∀g o,cW G.M G.B w g o→cW G.M G.B w g (f o)):aC G (σ.map f) w :=
 ⟨h.ay,h.m0,h.base,by simp[h.len],fun l g o h1 h2=>by
  simp only[zA5,zA6] at h2;obtain⟨o',h3,rfl⟩:=h2;exact hf _ _ (h.bB l g o' h1 h3),h.fresh,h.inj,h.out,h.dfr⟩
theorem AWP.lj {P:Program} {n:Nat} {c:Code} {K:Exit→Env→ae→Prop} {env:Env} {σ:ae} {κ α:Type} {ek:κ→Value} {ev:α→AV} {l:Nat} {al:List (κ×α)} (hσ:σ[l]? = some (.map (aT ek ev al))) (hp:nW ev)
 (h:AWP P n c K (fun i=>frz l (aT ek ev al) (env i)) ((σ.set l .dead).map (FI l (aT ek ev al)))):AWP P n c K env σ:=by
 intro G a w hr;have hll:l<σ.length:=by
  rcases zAa l σ.length with h|h
  · exact h
  · simp[zA3 h] at hσ
 have hlb:l<G.B.length:=by rw[hr.st.len];exact hll
 have cP:=hr.st.bB l _ _ (zA1 hlb) hσ;generalize hg:G.B[l]=g at cP;have hBl:G.B[l]? = some g:=by rw[zA1 hlb,hg]
 cases cP with
 | map b _ es clock hb hlen hkk hrr hmm =>
   have hfr:=hr.st.fresh l _ b hBl rfl;have hle:G.M.Le (G.M.cG b es):=⟨fun _ _ _ h=>h,fun b' es' h=>by
    simp only[Mem.cG];split
    · rename_i e;subst e;rw[hmm] at h;cases h
    · exact h⟩
   have hs:aC { G with M:=G.M.cG b es } (σ.set l .dead) w:=by
    refine⟨⟨hr.st.ay.1,fun b' es' h=>?_,hr.st.ay.g.mono hle⟩,fun b' hb'=>⟨(hr.st.m0 b' hb').1,?_⟩,hr.st.base,by simp[hr.st.len],fun l' g' o' h1 h2=>?_,hr.st.fresh,hr.st.inj,hr.st.out,⟨fun p hp=>?_,hr.st.dfr.2⟩⟩
    · simp only[Mem.cG] at h;split at h
      · rename_i e;subst e;simp at h;subst h;exact⟨clock,hb⟩
      · exact hr.st.ay.2 _ _ h
    · have hne:b'≠b:=fun e=>hfr.1 (e▸hb')
      simp only[Mem.cG,if_neg hne];exact(hr.st.m0 b' hb').2
    · by_cases hll':l=l'
      · subst hll';rw[zAf hll] at h2;simp at h2;subst h2;exact .dead _
      · rw[zAp hll'] at h2;have ho:=hr.st.bB l' g' o' h1 h2;have hne:∀b',g'.block=some b'→b'≠b:=fun b' hb' e=>hll' (hr.st.inj l l' _ g' b hBl h1 rfl (e▸hb'))
        exact ho.grow hle (BLe.refl _) (fun _ _=>rfl) fun b' hb'=>⟨fun _=>rfl,by simp only[Mem.cG,if_neg (hne b' hb')]⟩
    · obtain⟨k1,k2,k3,k4,k5⟩:=hr.st.dfr.1 p hp;have hne:p.1≠b:=fun e=>k3 l _ hBl (by rw[e];rfl)
      exact⟨k1,k2,k3,k4,by simp only[Mem.cG,if_neg hne];exact k5⟩
   have hf:∀u x,ag (G.M.cG b es) G.B u x→ag (G.M.cG b es) G.B (frz l (aT ek ev al) u) x:=by
    intro u x h1;cases u<;>simp only[frz]<;>try exact h1
    rename_i l';split
    · rename_i e;subst e;cases h1 with
      | map _ b' hb' =>
        rw[hBl] at hb';simp at hb';subst hb';refine .imap _ _ es (by simp[Mem.cG]) hlen hkk fun i k v e h4 h5=>?_
        obtain⟨p,h6,rfl,rfl⟩:=ia h4;exact hp _ _ _ _ ((hrr i _ _ e h4 h5).mono hle (BLe.refl _))
    · exact h1
   have hv:∀i,ag (G.M.cG b es) G.B (frz l (aT ek ev al) (env i)) (a.tmps.getD i undef):=fun i=>hf _ _ ((hr.bh i).mono hle (BLe.refl G.B))
   have hO:∀g o,cW (G.M.cG b es) G.B w g o→cW (G.M.cG b es) G.B w g (FI l (aT ek ev al) o):=by
    intro g o ho;cases ho with
    | var b' cs c T fr hb2 hf2 hl2 hr2 hm2 =>
      refine .var b' _ c T fr hb2 hf2 (by simpa using hl2) ?_ hm2;intro i a hi;simp only[zA5,zA6] at hi;obtain⟨a',h7,rfl⟩:=hi;exact hf _ _ (hr2 i a' h7)
    |ownz=>exact .ownz _
    |own b' cap sz n c T fr h1 h2 h3 h4 h5=>exact .own b' cap _ _ c T fr h1 h2 h3 h4 h5
    |arrz=>exact .arrz _ _
    |arr b' cap sz ver es' c T fr h1 h2 h3 h4 h5 h6 h7=>exact .arr b' cap _ _ _ c T fr h1 h2 h3 h4 h5 h6 h7
    |map b' kvs es' clock h1 h2 h3 h4 h5 h6=>exact .map b' _ es' clock h1 h2 h3 h4 h5 h6
    |siter b' s pos h1=>exact .siter b' _ _ h1
    |mapp b' cl bs kvs es' h1 h2 h3 h4 h5 h6=>exact .mapp b' cl bs _ es' h1 h2 h3 h4 h5 h6
    |miter r bm l' s c sn h1 h2=>exact .miter r bm _ _ _ _ h1 h2
    |loop b' r E h1 h2=>exact .loop b' _ _ h1 h2
    |dead=>exact .dead _
   have hs':aC { G with M:=G.M.cG b es } ((σ.set l .dead).map (FI l (aT ek ev al))) w:=hs.mapO _ hO;refine wpIn_mono (h { G with M:=G.M.cG b es } a w ⟨hr.size,hr.defers,hv,hs'⟩) ?_;rintro x a' w' ⟨e,s,G',h1,h2,h3⟩;exact⟨e,s,G',h1,Gh.Le.trans (G':={ G with M:=G.M.cG b es }) (.upM hle) h2,h3⟩
end Go.Ab
/- A variable that changes no more, told by its content: in the slots and in function values that have captured it. -/
namespace Go.Ab
def om (l:Nat) (cs:List AV):AV→AV
 |.ptr l' o=>if l'=l then .iptr (cs.drop o) else .ptr l' o
 |.fn f a c=>.fn f a c
 |.any=>.any
 |.prim v=>.prim v
 |.agg cs=>.agg cs
 |.tup cs=>.tup cs
 |.nils=>.nils
 |.sl sz es t=>.sl sz es t
 |.iptr cs=>.iptr cs
 |.map l=>.map l
 |.imap k=>.imap k
 |.when g v=>.when g v
 |.ext v=>.ext v
 |.sla l sz off len ver=>.sla l sz off len ver
 |.cm l sz i o ver=>.cm l sz i o ver
 |.yld l=>.yld l
 |.opq v=>.opq v
def frv (l:Nat) (cs:List AV):AV→AV
 |.fn f a c=>.fn f (a.map (om l cs)) (c.map (om l cs))
 |v=>om l cs v
def qz:AV→Bool
 |.any=>true
 |.prim _=>true
 |.nils=>true
 |.sl _ _ .no=>true
 |.iptr _=>true
 |.imap _=>true
 |_=>false
theorem vj {M:Mem} {B B':List GB} {a:AV} {x:Value} (hp:qz a=true) (h:ag M B a x):ag M B' a x:=by
 cases h with
 |any=>exact .any _
 |prim=>exact .prim _
 |nils=>exact .nils
 |sl sz es t b off cap f hz hm hr hc ht=>cases t<;>simp only[qz,zAz] at hp;exact .sl sz es .no b off cap f hz hm hr hc trivial
 |slz sz t ht=>cases t<;>simp only[qz,zAz] at hp;exact .slz sz .no trivial
 |slzz sz a cap=>exact .slzz sz a cap
 |iptr cs b off f hm hr=>exact .iptr cs b off f hm hr
 |imap kvs b es hm hl hk hr=>exact .imap kvs b es hm hl hk hr
 |imapz=>exact .imapz
 |_=>simp[qz] at hp
theorem AWP.bj {P:Program} {n:Nat} {c:Code} {K:Exit→Env→ae→Prop} {env:Env} {σ:ae} (l:Nat) {cs:List AV} (hσ:σ[l]? = some (.var cs)) (hp:cs.all qz=true)
 (h:AWP P n c K (fun i=>frv l cs (env i)) (σ.set l .dead)):AWP P n c K env σ:=by
 intro G a w hr;have hll:l<σ.length:=by
  rcases zAa l σ.length with h|h
  · exact h
  · simp[zA3 h] at hσ
 have hlb:l<G.B.length:=by rw[hr.st.len];exact hll
 have cP:=hr.st.bB l _ _ (zA1 hlb) hσ;generalize hg:G.B[l]=g at cP;have hBl:G.B[l]? = some g:=by rw[zA1 hlb,hg]
 cases cP with
 | var b _ c0 T fr hb hf hlen hrr hm =>
   have hfr:=hr.st.fresh l _ b hBl rfl;have hle:=Mem.ib (M:=G.M) (b:=b) c0 hm;have hs:aC { G with M:=G.M.bo b c0 } (σ.set l .dead) w:=by
    refine⟨⟨fun b' o v hv=>?_,hr.st.ay.m,hr.st.ay.g.mono hle⟩,fun b' hb'=>⟨fun o=>?_,(hr.st.m0 b' hb').2⟩,hr.st.base,by simp[hr.st.len],fun l' g' o' h1 h2=>?_,hr.st.fresh,hr.st.inj,hr.st.out,⟨fun p hp=>?_,hr.st.dfr.2⟩⟩
    · simp only[Mem.bo] at hv;split at hv
      · rename_i e;subst e;simp only[World.cell?,hb];exact hv
      · exact hr.st.ay.c _ _ _ hv
    · have hne:b'≠b:=fun e=>hfr.1 (e▸hb')
      simp only[Mem.bo,if_neg hne];exact(hr.st.m0 b' hb').1 o
    · by_cases hll':l=l'
      · subst hll';rw[zAf hll] at h2;simp at h2;subst h2;exact .dead _
      · rw[zAp hll'] at h2;have ho:=hr.st.bB l' g' o' h1 h2;have hne:∀b',g'.block=some b'→b'≠b:=fun b' hb' e=>hll' (hr.st.inj l l' _ g' b hBl h1 rfl (e▸hb'))
        exact ho.grow hle (BLe.refl _) (fun _ _=>rfl) fun b' hb'=>⟨fun _=>by simp only[Mem.bo,if_neg (hne b' hb')],rfl⟩
    · obtain⟨k1,k2,k3,k4,k5⟩:=hr.st.dfr.1 p hp;have hne:p.1≠b:=fun e=>k3 l _ hBl (by rw[e];rfl)
      exact⟨k1,k2,k3,fun o=>by simp only[Mem.bo,if_neg hne];exact k4 o,k5⟩
   have hf1:∀u x,ag (G.M.bo b c0) G.B u x→ag (G.M.bo b c0) G.B (om l cs u) x:=by
    intro u x h1;cases u<;>simp only[om]<;>try exact h1
    rename_i l' o;split
    · rename_i e;subst e;cases h1 with
      | ptr _ _ b' hb' =>
        rw[hBl] at hb';simp at hb';subst hb';refine .iptr _ _ _ (fun j=>c0.getD (o+j) undef) (fun j hj=>?_) fun j c1 hj=>?_
        · simp only[zB0] at hj;simp only[Mem.bo,if_pos rfl];have:o+j<c0.size:=oM;simp[this]
        · rw[zB6] at hj;exact vj (zA4.1 hp c1 (zAc hj)) ((hrr _ _ hj).mono hle (BLe.refl _))
    · exact h1
   have hf:∀u x,ag (G.M.bo b c0) G.B u x→ag (G.M.bo b c0) G.B (frv l cs u) x:=by
    intro u x h1;by_cases hu:∃f a c,u=.fn f a c
    · obtain⟨f,a1,c1,rfl⟩:=hu;simp only[frv];cases h1 with
      | fn _ _ _ vf vc hvf hvc k1 k2 =>
        refine .fn _ _ _ vf vc (by simpa using hvf) (by simpa using hvc) (fun i u hi=>?_) fun i u hi=>?_
        · simp only[zA5,zA6] at hi;obtain⟨u',hi,rfl⟩:=hi;exact hf1 _ _ (k1 i u' hi)
        · simp only[zA5,zA6] at hi;obtain⟨u',hi,rfl⟩:=hi;exact hf1 _ _ (k2 i u' hi)
    · have:frv l cs u=om l cs u:=by
       cases u<;>first|rfl|exact absurd ⟨_,_,_,rfl⟩ hu
      rw[this];exact hf1 _ _ h1
   have hv:∀i,ag (G.M.bo b c0) G.B (frv l cs (env i)) (a.tmps.getD i undef):=fun i=>hf _ _ ((hr.bh i).mono hle (BLe.refl G.B))
   refine wpIn_mono (h { G with M:=G.M.bo b c0 } a w ⟨hr.size,hr.defers,hv,hs⟩) ?_;rintro x a' w' ⟨e,s,G',h1,h2,h3⟩;exact⟨e,s,G',h1,Gh.Le.trans (G':={ G with M:=G.M.bo b c0 }) (.upM hle) h2,h3⟩
end Go.Ab
/- Maps whose keys are pairs of integers. No statement is proved here. -/
namespace Go.Ab
theorem mu {P:Program} {kt:TypeId} {κ:Type} [DecidableEq κ] {ek:κ→Value} (heq:∀a b (w:World),(Op.equal kt (ek a) (ek b)).run P w=.ok (decide (b=a)) w) (w:World) (k:κ):∀(es:List MapEntry) (ks:List κ) (j:Nat),es.map (·.key)=ks.map ek →
 (Instr.findAsking kt (ek k) es j).run P w=.ok ((ks.findIdx? (fun x=>decide (x=k))).bind fun i=>(es[i]?).map fun e=>(j+i,e.val)) w
 |[],[],j,_=>rfl
 |[],_::_,j,h=>by simp at h
 |_::_,[],j,h=>by simp at h
 | e :: es, x :: ks, j, h => by
   simp only[zBt,List.cons.injEq] at h;obtain⟨h1,h2⟩:=h;unfold Instr.findAsking;rw[Sem.run_bind,h1,heq];simp only[Result.andThen_ok,zDj];by_cases hx:x=k
   · subst hx;simp
   · simp only[hx,decide_false,zAz,if_false];rw[mu heq w k es ks (j+1) h2];cases ks.findIdx? (fun x=>decide (x=k)) with
     |none=>rfl
     |some i=>simp[zC4,zD0 1 i]
end Go.Ab
