/- Parts of the proof. No statement is proved here. -/
import Derived.Maps.RangeRun
import Derived.Test.YtmjdoencpjpegaaGreatDoorP9
import Derived.Test.YtmjdoencpjpegaaGreatDoorP10
set_option linter.unusedVariables false
set_option linter.unusedSimpArgs false
set_option maxHeartbeats 16000000
set_option maxRecDepth 20000
namespace Go.Ab
section
variable {P:Program} {n:Nat} {ops:Array Oper} {o:Oper} {env:Env} {σ:aa} {k:Env→aa→Prop} {T:Tab}
theorem EStep.tB (hT:T.Ok P) {s x:Operand} {t tx e:TypeId} {d l sz:Nat} {es2:List (List AV)} {u:AV} {s1 b1:Nat} {z:List Z} {le:LI} (ho:o.op=.call { callee:=.builtin .append,args:=#[s,x],argTypes:=#[t,tx] })
 (hg:o.guard=none) (hd:o.dst=some d) (hdn:d<n) (hs:Rd env s (.sl sz [] .fresh)) (hσ:σ[l]? = some (.own sz 0)) (hx:Rd env x u) (gp:fy T tx sz u es2) (cC:0<es2.length)
 (hl:LOk P t ⟨.slice e,s1,b1,z⟩) (he:LOk P e le) (hsz:le.size=sz) (hz0:le.zero.length=le.size) (hbound:es2.length * le.bytes≤140737488355328) (hb2:es2.length≤9223372036854775807)
 (hk:k (env.put d (.sl sz es2 (.own l))) (σ.set l (.own sz es2.length))):EStep P n ops o k env σ:=by
 refine EStep.plain hg fun G a w hr=>?_
 have h1:=hr.rd hs;obtain⟨news,hS,hN⟩:=gp.src hT hr.st.ax (hr.rd hx);generalize hA:a.eval s=sv at h1;obtain⟨i,hi1,hi2,hi3,hi4⟩:=he.info;have fe:=hl.dI;have hS':Src P i.size tx (a.eval x) es2.length news w:=by rw[hi2,hsz];exact hS
 have hNs:news.length=es2.length * sz:=by have:=hN.1;simpa using this
 have hsv:∃ad,sv=.slice ad 0 0:=by
  cases h1 with
  |sl _ _ _ b off cap f hz hm hr hc ht=>exact⟨_,by rw[show cap=0 from ht];rfl⟩
  |slz=>exact⟨none,rfl⟩
 obtain⟨ad,rfl⟩:=hsv;have hgb:∃g,G.B[l]? = some g:=⟨_,zA1 (by
  rw[hr.st.len];rcases zAb l σ.length with h|h
  · exact h
  · simp[zA2 h] at hσ)⟩
 obtain⟨g,hgl⟩:=hgb;have cw:=hr.st.aZ l g _ hgl hσ;have hzc:le.aO.cells.size=sz:=by
  unfold LI.aO;cases ha:le.lt.isAgg with
  |true=>simp[Value.cells,hz0,hsz]
  | false =>
    obtain⟨z',hz'⟩:=he.one ha;rw[hz'] at hz0 ⊢;simp at hz0;rw[←hsz,←hz0];cases z'<;>rfl
 have iK:g.Le (.own (some w.heap.size) (grownCap w es2.length 0 e) es2.length):=by
  cases cw with
  |ownz=>exact .inr ⟨_,_,_,rfl,cC⟩
  |own b cap sz n' c T' fr hb hf hlc hn hm=>exact .inr ⟨_,_,_,rfl,cC⟩
 have hold:(Builtin.firstCells i.size 0 (.slice ad 0 0)).run P w.drew=.ok ([]:List Value).toArray w.drew:=by
  cases ad with
  |none=>rfl
  | some ad =>
    have:=run_loadCells_list (P:=P) w.drew ad [] (fun j v hj=>by simp at hj);simp only[Builtin.firstCells,zDl];simpa using this
 have bg:=run_append_grow_src (P:=P) w t tx o.type e i le.aO fe hi1 (by rw[hi4];rfl) ad 0 0 [] hold (a.eval x) es2.length news hS' oM oM (growslice_fits oM (by rw[hi3];simpa using hbound));simp only[zC3,zE9] at bg;have hI:es2.length≤grownCap w es2.length 0 e:=grownCap_ge _ _ _ _;generalize iL:(news.toArray++Builtin.zeroCells le.aO.cells (grownCap w es2.length 0 e - es2.length))=row at bg;have kq:row.size=grownCap w es2.length 0 e * sz:=by
  rw[←iL];simp only[zDz,zDd,size_zeroCells,hzc,hNs,←zBf];congr 1;omega
 have ew:(execOp a.eval o).run P w=.ok (.value (.slice (some ⟨w.heap.size,0,none⟩) es2.length (grownCap w es2.length 0 e))) (w.drew.alloc (.cells row e)):=by
  simp[execOp,ho,resolve,invoke,builtin,hA,bg]
 unfold OWP;rw[ew];have yw:∀o,o<es2.length * sz→row.getD o undef=news.toArray.getD o undef:=by
  intro o ho;rw[←iL];simp only[zA4];rw[zAo (by simp;omega)]
 have hm0:=(fW hr.st.ax _ (zAt w.heap.size)).1;let M':Mem:={ G.M with cell:=fun b o=>if b=w.heap.size then (if o<es2.length * sz then some (row.getD o undef) else none) else G.M.cell b o }
 have hle:G.M.Le M':=⟨fun b o v hv=>by
  show(if b=w.heap.size then _ else _)=_;split
  · rename_i e;subst e;rw[hm0 o] at hv;cases hv
  · exact hv,fun _ _ h=>h⟩
 have jc:(w.drew.alloc (.cells row e)).heap[w.heap.size]? = some (.cells row e):=by rw[heap_alloc];simp
 have hok:dg M' (w.drew.alloc (.cells row e)):=by
  refine⟨fun b o v hv=>?_,fun b es' hb=>?_,hr.st.ax.g.mono hle⟩
  · change (if b=w.heap.size then _ else _)=_ at hv;split at hv
    · rename_i eb;subst eb;split at hv
      · rename_i ho;have cA:o<row.size:=by
         rw[kq];exact zCf ho (zB6 _ hI)
        simp only[World.cell?,jc];simp at hv;simp[cA,←hv]
      · simp at hv
    · have h2:=hr.st.ax.1 _ _ _ hv;have cA:=World.block_lt_of_cell? _ _ h2;have:(w.drew.alloc (.cells row e)).cell? ⟨b,o,none⟩=w.drew.cell? ⟨b,o,none⟩:=World.cell?_alloc_lt _ _ _ cA;rw[this];exact h2
  · obtain⟨cl,h2⟩:=hr.st.ax.2 _ _ hb;refine⟨cl,?_⟩;rw[heap_alloc];split
    · rename_i eb;subst eb;simp at h2
    · exact h2
 have eV:∀o,o<es2.length * sz→M'.cell w.heap.size o=some (row.getD o undef):=fun o ho=>by
  show(if w.heap.size=w.heap.size then _ else _)=_;rw[if_pos rfl,if_pos ho]
 have hs2:az { G with M:=M',B:=G.B.set l (.own (some w.heap.size) (grownCap w es2.length 0 e) es2.length) } (σ.set l (.own sz es2.length)) (w.drew.alloc (.cells row e)):=by
  refine hr.st.ko hgl hle iK rfl sMp (fun k hk hk2=>by rw[heap_alloc];simp[Nat.ne_of_lt hk2];rfl) rfl (fun b hb o=>if_neg hb) hok (.inr (zAt _)) sMp ct.r ?_;exact .own w.heap.size _ sz _ row e (0,0) jc (by intro o _;simp) kq hI fun o ho=>by
   show(if w.heap.size=w.heap.size then _ else _)=_;rw[if_pos rfl,if_neg oM]
 have hG:G.Le { G with M:=M',B:=G.B.set l (.own (some w.heap.size) (grownCap w es2.length 0 e) es2.length) }:=.up hle (BLe.set hgl iK);refine⟨_,_,_,hk,hG,?_⟩;rw[hd];have hr':bd n { G with M:=M',B:=G.B.set l (.own (some w.heap.size) (grownCap w es2.length 0 e) es2.length) } env (σ.set l (.own sz es2.length)) a (w.drew.alloc (.cells row e)):=⟨hr.size,hr.defers,fun i=>(hr.bf i).mono hle (BLe.set hgl iK),hs2⟩;refine hr'.put hdn ?_;have hN':gZ M' sz es2 news.toArray:=⟨hN.1,hN.2.1,fun i j e a x y=>(hN.2.2 i j e a x y).mono hle (BLe.refl _)⟩;have hO':gZ M' sz [] ([]:List Value).toArray:=⟨by simp,by simp,fun i j e a h=>by simp at h⟩
 have:=te (M:=M') (B:=G.B.set l (.own (some w.heap.size) (grownCap w es2.length 0 e) es2.length)) (sz:=sz) (es:=[]++es2) (t:=.own l) (b:=w.heap.size) (cap:=grownCap w es2.length 0 e) (c:=row)
  (fun e he=>hN.2.1 e (by simpa using he)) (by simpa using hI) (fun o ho=>eV o (by simpa using ho)) (og hO' hN' (fun o ho=>by simp at ho) (fun o ho=>by simpa using yw o ho))
  ⟨some w.heap.size,grownCap w es2.length 0 e,es2.length,by rw[zAh (by
   rcases zAb l G.B.length with h|h
   · exact h
   · simp[zA2 h] at hgl)],by simp,fun _=>⟨by simp,rfl⟩⟩
 simpa using this
theorem EStep.wa (hT:T.Ok P) {s x:Operand} {t tx e:TypeId} {d sz:Nat} {u:AV} {s1 b1:Nat} {z:List Z} {le:LI} (ho:o.op=.call { callee:=.builtin .append,args:=#[s,x],argTypes:=#[t,tx] })
 (hg:o.guard=none) (hd:o.dst=some d) (hdn:d<n) (hs:Rd env s (.sl sz [] .fresh)) (hx:Rd env x u) (gp:fy T tx sz u [])
 (hl:LOk P t ⟨.slice e,s1,b1,z⟩) (he:LOk P e le) (hsz:le.size=sz)
 (hk:k (env.put d (.sl sz [] .fresh)) σ):EStep P n ops o k env σ:=by
 refine EStep.plain hg fun G a w hr=>?_
 have h1:=hr.rd hs;obtain⟨news,hS,hN⟩:=gp.src hT hr.st.ax (hr.rd hx);have h1':=h1;generalize hA:a.eval s=sv at h1 h1';obtain⟨i,hi1,hi2,hi3,hi4⟩:=he.info;have fe:=hl.dI;have hS':Src P i.size tx (a.eval x) 0 news w:=by rw[hi2,hsz];exact hS
 have nE:news=[]:=zAv (by have:=hN.1;simpa using this);have hsv:∃ad,sv=.slice ad 0 0:=by
  cases h1 with
  |sl _ _ _ b off cap f hz hm hr hc ht=>exact⟨_,by rw[show cap=0 from ht];rfl⟩
  |slz=>exact⟨none,rfl⟩
 obtain⟨ad,rfl⟩:=hsv;have bg:(Builtin.append_ #[t,tx] o.type #[.slice ad 0 0,a.eval x]).run P w=.ok (.slice ad 0 0) w:=by
  have hcc:=hS'.cells;have hll:=hS'.len;subst nE;cases ad with
  |none=>rcases hS.kind with ⟨e',hk'⟩|hk'<;>simp[Builtin.append_,run_underlying fe,run_underlying hk',sizeOf,typeInfo,hi1,hll,hcc]
  |some ad=>rcases hS.kind with ⟨e',hk'⟩|hk'<;>simp[Builtin.append_,run_underlying fe,run_underlying hk',sizeOf,typeInfo,hi1,hll,hcc,storeCells]
 have ew:(execOp a.eval o).run P w=.ok (.value (.slice ad 0 0)) w:=by simp[execOp,ho,resolve,invoke,builtin,hA,bg]
 unfold OWP;rw[ew];refine⟨_,_,G,hk,Gh.Le.refl G,?_⟩;rw[hd];exact hr.put hdn h1'
end
end Go.Ab
namespace Go.Ab
open Go.ChangeMaps (setBlock)
def kJ {κ α:Type} [DecidableEq κ] (al:List (κ×α)) (key:κ):Option Nat:=(al.map (·.1)).findIdx? (fun x=>decide (x=key))
def pR {κ α:Type} [DecidableEq κ] (clock:Nat) (al:List (κ×α)) (key:κ):Nat:=if (kJ al key).isSome then clock else clock+1
def pS {κ α:Type} [DecidableEq κ] (clock:Nat) (bs:List Nat) (al:List (κ×α)) (key:κ):List Nat:=if (kJ al key).isSome then bs else bs++[clock]
def wb {κ α:Type} [DecidableEq κ] (al:List (κ×α)) (key:κ):List (κ×α):=match kJ al key with
 |some i=>al.eraseIdx i
 |none=>al
def we {κ α:Type} [DecidableEq κ] (bs:List Nat) (al:List (κ×α)) (key:κ):List Nat:=match kJ al key with
 |some i=>bs.eraseIdx i
 |none=>bs
section
variable {P:Program} {n:Nat} {ops:Array Oper} {o:Oper} {env:Env} {σ:aa} {k:Env→aa→Prop}
theorem AWP.LL {c:Code} {K:Exit→Env→aa→Prop} (l:Nat) {kvs:List (Value×AV)} (hσ:σ[l]? = some (.map kvs)) (hk:AWP P n c K env (σ.set l (.mapp kvs.length (List.range kvs.length) kvs))):AWP P n c K env σ:=by
 intro G a w hr;refine hk G a w ⟨hr.size,hr.defers,hr.bf,az.ku (o':=.mapp kvs.length (List.range kvs.length) kvs) hr.st hσ fun g _ ho=>?_⟩;cases ho with
 | map b _ es clock hb hl hkk hrr hm hst =>
   obtain⟨h1,h2⟩:=hst;rw[hl] at h1;subst h1;refine .mapp b _ _ kvs es hb hl ?_ hkk hrr hm;apply zC5;intro i;rw[zA3,zBb];rcases zAb i es.size with h|h
   · rw[zAm h,zA1 (by simp;omega)];simp only[zB4,List.getElem_range,Option.some.injEq];exact h2 i _ (zAm h)
   · rw[zAp h,zA2 (by simp;omega)];rfl
theorem BV {κ α:Type} {ek:κ→Value} {ev:α→AV} {al:List (κ×α)} {es:Array MapEntry} {M:Mem} {B:List GB} (hlen:es.size=al.length) (hold:∀(i:Nat) p e,al[i]? = some p→es[i]? = some e→e.key=ek p.1∧af M B (ev p.2) e.val) :
 es.toList.map (·.key)=(al.map (·.1)).map ek:=by
 apply zC5;intro i;rw[zA3,zCo,zA3,zBb];rcases zAb i es.size with h|h
 · have h':i<al.length:=oM;rw[zAm h,zA1 h'];simp only[zB4,Function.comp];congr 1;exact(hold i _ _ (zA1 h') (zAm h)).1
 · rw[zAp h,zA2 oM];rfl
theorem tC {κ α:Type} [DecidableEq κ] {key:κ} {v:α}:∀(al:List (κ×α)),(match kJ al key with|some i=>ins al key v=al.set i (key,v)∧i<al.length∧(∀p,al[i]? = some p→p.1=key)|none=>ins al key v=al++[(key,v)])
 |[]=>rfl
 | (k', v') :: r => by
   have ih:=tC (key:=key) (v:=v) r;unfold kJ at ih ⊢;simp only[zBd,zDi];by_cases hkx:k'=key
   · simp[hkx,ins]
   · simp only[hkx,decide_false,zB7,if_false,ins];cases hf:(r.map (·.1)).findIdx? (fun x=>decide (x=key)) with
     |none=>simp only[hf] at ih;simp[ih]
     |some i=>simp only[hf] at ih;simp[ih.1,ih.2.1];exact ih.2.2 _ (zA1 ih.2.1)
theorem EStep.Ko {κ α:Type} [DecidableEq κ] {ek:κ→Value} {ev:α→AV} {t kt et:TypeId} {m x y:Operand} {l clock:Nat} {bs:List Nat} {al:List (κ×α)} {key:κ} {v:α} {uk:AV} {s1 b1:Nat} {z:List Z}
 (K:KeyLaw P kt ek) (hl:LOk P t ⟨.map kt et,s1,b1,z⟩) (ho:o.op=.mapUpdate t m x y) (hg:o.guard=none) (hdn:fa n o=true) (hm:Rd env m (.map l)) (hσ:σ[l]? = some (.mapp clock bs (aD ek ev al)))
 (hx:Rd env x uk) (hex:fx uk=some (ek key)) (hy:Rd env y (ev v)) (hk:k (env.bj o.dst .any) (σ.set l (.mapp (pR clock al key) (pS clock bs al key) (aD ek ev (ins al key v))))):EStep P n ops o k env σ:=by
 refine EStep.plain hg fun G a w hr=>?_
 have h1:=hr.rd hm;have h2:=ie hex (hr.rd hx);have h3:=hr.rd hy;generalize hA:a.eval m=ym at h1;cases h1 with
 | map _ b hb =>
   have cw:=hr.st.aZ l _ _ hb hσ;cases cw with
   | mapp _ _ _ _ es hbb hlen hbs hkk hrr hmm =>
     have hlt:=(hr.st.fresh l _ b hb rfl).2;rw[bS] at hlen;have hold:∀(i:Nat) p e,al[i]? = some p→es[i]? = some e→e.key=ek p.1∧af G.M G.B (ev p.2) e.val:=fun i p e h4 h5 =>
      ⟨hkk i _ (ev p.2) e (by simp[aD,h4]) h5,hrr i (ek p.1) _ e (by simp[aD,h4]) h5⟩
     have cK:=K.find w key es.toList _ (BV hlen hold)
     have step:∀(es':Array MapEntry) (dn:Nat) (bs':List Nat) (al':List (κ×α)),es'.toList.map (·.born)=bs'→(execOp a.eval o).run P w=.ok .skip { w with heap:=w.heap.setIfInBounds b (.map es' dn) }→pR clock al key=dn→pS clock bs al key=bs'→ins al key v=al' →
      es'.size=al'.length→(∀(i:Nat) p e,al'[i]? = some p→es'[i]? = some e→e.key=ek p.1∧af G.M G.B (ev p.2) e.val) →
      eY P o a (fun a' w'=>∃au σ' G',k au σ'∧G.Le G'∧bd n G' au σ' a' w') ((execOp a.eval o).run P w):=by
      intro es' dn bs' al' pj bg hC hB hins hsz bQ;rw[bg]
      have hs:=hr.st.upd (o':=.mapp dn bs' (aD ek ev al')) (w':={ w with heap:=w.heap.setIfInBounds b (.map es' dn) }) hb rfl sMp (fun k hk=>by rw[heap_set w b _ hlt,if_neg hk])
       (.mapp b dn bs' _ es' (by rw[heap_set w b _ hlt,if_pos rfl]) (by rw[bS];exact hsz) pj (fun i k' v' e h4 h5=>by
        obtain⟨p,h6,rfl,rfl⟩:=dA h4;exact(bQ i p e h6 h5).1) (fun i k' v' e h4 h5=>by
        obtain⟨p,h6,rfl,rfl⟩:=dA h4;exact(bQ i p e h6 h5).2) hmm)
       ⟨ef hr.st.ax hbb (by intros;simp),hmm⟩ ct.r
      refine⟨_,_,G,hk,Gh.Le.refl G,?_⟩;rw[hins,hC,hB];have hr':bd n G env (σ.set l (.mapp dn bs' (aD ek ev al'))) a { w with heap:=w.heap.setIfInBounds b (.map es' dn) }:=⟨hr.size,hr.defers,hr.bf,hs⟩;exact hr'.bj (ca hdn) (.any _)
     have hp:=tC (key:=key) (v:=v) al;unfold OWP;cases hf:kJ al key with
     | none =>
       have hf2:(al.map (·.1)).findIdx? (fun x=>decide (x=key))=none:=hf;simp only[hf] at hp;simp only[hf2] at cK;refine step (es.push { key:=ek key,val:=a.eval y,born:=clock }) (clock+1) (bs++[clock]) _ (by simp[hbs]) ?_ (by unfold pR;rw[hf];rfl) (by unfold pS;rw[hf];rfl) hp (by simp[hlen]) ?_
       · simp only[execOp,ho,hA,h2,Instr.mapUpdate];simp[hl.jP w,getObj,setObj,Sem.run,hbb,K.check,cK]
       · intro i p e h4 h5;rw[zCz] at h5;split at h5
         · rename_i hi;simp at h5;subst h5;rw[zA7 oM,hi,hlen] at h4;simp at h4;subst h4;exact⟨rfl,h3⟩
         · rename_i hi;have:i<es.size:=by
            rcases zAb i es.size with h|h
            · exact h
            · simp[zAp h] at h5
           rw[zA8 oM] at h4;exact hold i p e h4 h5
     | some j =>
       have hf2:(al.map (·.1)).findIdx? (fun x=>decide (x=key))=some j:=hf;simp only[hf] at hp;simp only[hf2] at cK;obtain⟨hp1,hp2,hp3⟩:=hp;have hjs:j<es.size:=oM;have vS:es[j].key=ek key:=by
        have:=(hold j al[j] es[j] (zA1 hp2) (zAm hjs)).1;rw[this,hp3 _ (zA1 hp2)]
       refine step (es.modify j fun e=>{ e with key:=ek key,val:=a.eval y }) clock bs _ ?_ ?_ (by unfold pR;rw[hf];rfl) (by unfold pS;rw[hf];rfl) hp1 (by simp[hlen]) ?_
       · rw[←hbs];apply zC5;intro i;rw[zA3,zA3,zBb,zBb,zBc];by_cases hij:j=i
         · subst hij;rw[if_pos rfl];simp[hjs]
         · rw[if_neg hij]
       · simp only[execOp,ho,hA,h2,Instr.mapUpdate];have e1:(Option.bind (some j) fun i=>(es.toList[i]?).map fun e=>(i,e.val))=some (j,es[j].val):=by simp[hjs]
         rw[e1] at cK;simp[hl.jP w,getObj,setObj,Sem.run,hbb,K.check,cK,hjs,vS,K.stays]
       · intro i p e h4 h5;rw[zBc] at h5;by_cases hij:j=i
         · subst hij;rw[zAh hp2] at h4;simp at h4;subst h4;simp[hjs] at h5;subst h5;exact⟨rfl,h3⟩
         · rw[zAs hij] at h4;rw[if_neg hij] at h5;exact hold i p e h4 h5
theorem EStep.Kp {κ α:Type} [DecidableEq κ] {ek:κ→Value} {ev:α→AV} {t kt et tx:TypeId} {m x:Operand} {l clock:Nat} {bs:List Nat} {al:List (κ×α)} {key:κ} {uk:AV} {s1 b1:Nat} {z:List Z}
 (K:KeyLaw P kt ek) (hl:LOk P t ⟨.map kt et,s1,b1,z⟩) (ho:o.op=.call { callee:=.builtin .delete,args:=#[m,x],argTypes:=#[t,tx] }) (hg:o.guard=none) (hdn:fa n o=true) (hm:Rd env m (.map l)) (hσ:σ[l]? = some (.mapp clock bs (aD ek ev al)))
 (hx:Rd env x uk) (hex:fx uk=some (ek key)) (hk:k (env.bj o.dst .any) (σ.set l (.mapp clock (we bs al key) (aD ek ev (wb al key))))):EStep P n ops o k env σ:=by
 refine EStep.plain hg fun G a w hr=>?_
 have h1:=hr.rd hm;have h2:=ie hex (hr.rd hx);generalize hA:a.eval m=ym at h1;cases h1 with
 | map _ b hb =>
   have cw:=hr.st.aZ l _ _ hb hσ;cases cw with
   | mapp _ _ _ _ es hbb hlen hbs hkk hrr hmm =>
     have hlt:=(hr.st.fresh l _ b hb rfl).2;rw[bS] at hlen;have hold:∀(i:Nat) p e,al[i]? = some p→es[i]? = some e→e.key=ek p.1∧af G.M G.B (ev p.2) e.val:=fun i p e h4 h5 =>
      ⟨hkk i _ (ev p.2) e (by simp[aD,h4]) h5,hrr i (ek p.1) _ e (by simp[aD,h4]) h5⟩
     have cK:=K.find w key es.toList _ (BV hlen hold)
     have step:∀(es':Array MapEntry) (bs':List Nat) (al':List (κ×α)),es'.toList.map (·.born)=bs'→(execOp a.eval o).run P w=.ok (.value (.tuple #[])) { w with heap:=w.heap.setIfInBounds b (.map es' clock) }→we bs al key=bs'→wb al key=al' →
      es'.size=al'.length→(∀(i:Nat) p e,al'[i]? = some p→es'[i]? = some e→e.key=ek p.1∧af G.M G.B (ev p.2) e.val) →
      eY P o a (fun a' w'=>∃au σ' G',k au σ'∧G.Le G'∧bd n G' au σ' a' w') ((execOp a.eval o).run P w):=by
      intro es' bs' al' pj bg hB hins hsz bQ;rw[bg]
      have hs:=hr.st.upd (o':=.mapp clock bs' (aD ek ev al')) (w':={ w with heap:=w.heap.setIfInBounds b (.map es' clock) }) hb rfl sMp (fun k hk=>by rw[heap_set w b _ hlt,if_neg hk])
       (.mapp b clock bs' _ es' (by rw[heap_set w b _ hlt,if_pos rfl]) (by rw[bS];exact hsz) pj (fun i k' v' e h4 h5=>by
        obtain⟨p,h6,rfl,rfl⟩:=dA h4;exact(bQ i p e h6 h5).1) (fun i k' v' e h4 h5=>by
        obtain⟨p,h6,rfl,rfl⟩:=dA h4;exact(bQ i p e h6 h5).2) hmm)
       ⟨ef hr.st.ax hbb (by intros;simp),hmm⟩ ct.r
      refine⟨_,_,G,hk,Gh.Le.refl G,?_⟩;rw[hins,hB];have hr':bd n G env (σ.set l (.mapp clock bs' (aD ek ev al'))) a { w with heap:=w.heap.setIfInBounds b (.map es' clock) }:=⟨hr.size,hr.defers,hr.bf,hs⟩;exact hr'.bj (ca hdn) (.any _)
     unfold OWP;cases hf:kJ al key with
     | none =>
       have hf2:(al.map (·.1)).findIdx? (fun x=>decide (x=key))=none:=hf;simp only[hf2] at cK;refine step es bs al hbs ?_ (by unfold we;rw[hf]) (by unfold wb;rw[hf]) hlen hold;simp only[execOp,ho,resolve,invoke,builtin,Builtin.delete_];simp[hA,h2,hl.jP w,getObj,setObj,Sem.run,hbb,K.check,cK]
     | some j =>
       have hf2:(al.map (·.1)).findIdx? (fun x=>decide (x=key))=some j:=hf;have hj:j<al.length:=by
        have h5:=(zCi.1 hf2).1;simpa using h5
       have hjs:j<es.size:=oM;simp only[hf2] at cK;have e1:(Option.bind (some j) fun i=>(es.toList[i]?).map fun e=>(i,e.val))=some (j,es[j].val):=by simp[hjs]
       rw[e1] at cK;have et:(es.eraseIdxIfInBounds j).toList=es.toList.eraseIdx j:=by rw[Array.eraseIdxIfInBounds,dif_pos hjs,Array.toList_eraseIdx]
       have eg:∀i:Nat,(es.eraseIdxIfInBounds j)[i]? = if i<j then es[i]? else es[i+1]? := fun i=>by
        rw[←zBb,et,zDu];split<;>rw[zBb]
       refine step (es.eraseIdxIfInBounds j) (bs.eraseIdx j) (al.eraseIdx j) ?_ ?_ (by unfold we;rw[hf]) (by unfold wb;rw[hf]) ?_ ?_
       · rw[et,←hbs];apply zC5;intro i;rw[zA3,zDu,zDu];split<;>rw[zA3]
       · simp only[execOp,ho,resolve,invoke,builtin,Builtin.delete_];simp[hA,h2,hl.jP w,getObj,setObj,Sem.run,hbb,K.check,cK]
       · rw[←zBp,et,zDa,zDa,zBp,hlen]
       · intro i p e h4 h5;rw[eg] at h5;rw[zDu] at h4;split at h5
         · rename_i hi;rw[if_pos hi] at h4;exact hold i p e h4 h5
         · rename_i hi;rw[if_neg hi] at h4;exact hold (i+1) p e h4 h5
theorem PRun.Kq {κ α:Type} [DecidableEq κ] {ek:κ→Value} {ev:α→AV} {t kt et:TypeId} {m x:Operand} {al:List (κ×α)} {key:κ} {zv:α} {uk:AV} {ok:Bool} {s1 b1:Nat} {z:List Z} {le:LI} {l clock:Nat} {bs:List Nat}
 (K:KeyLaw P kt ek) (hl:LOk P t ⟨.map kt et,s1,b1,z⟩) (he:LOk P et le) (hz:js le=ev zv) (ho:o.op=.lookup t m x ok) (hm:Rd env m (.map l)) (hσ:σ[l]? = some (.mapp clock bs (aD ek ev al)))
 (hx:Rd env x uk) (hex:fx uk=some (ek key)):PRun P o env σ (if ok then .tup [ev ((lk al key).getD zv),.b (lk al key).isSome] else ev ((lk al key).getD zv)):=by
 refine .of fun G a w hs hv=>?_
 have h1:=rd hm (by simp[ho,Op.operands]) hv;have h2:=ie hex (rd hx (by simp[ho,Op.operands]) hv);generalize hA:a.eval m=y at h1;cases h1 with
 | map _ b hb =>
   have cw:=hs.aZ l _ _ hb hσ;cases cw with
   | mapp _ _ _ _ es hbb hlen hbs hkk hrr hmm =>
     rw[bS] at hlen;obtain⟨v,h5,h6⟩:=kk (M:=G.M) (B:=G.B) (ok:=ok) (key:=key) w K he hz es hlen (fun i p e h4 h5=>⟨hkk i _ (ev p.2) e (by simp[aD,h4]) h5,hrr i (ek p.1) _ e (by simp[aD,h4]) h5⟩);refine⟨v,?_,h6⟩;unfold kZ at h5;simp only[execOp,ho,hA,h2,Instr.lookup];rw[Sem.run_bind,Sem.run_bind,hl.jP w];simp only[Result.andThen_ok];have hg:(getObj b).run P w=.ok (.map es clock) w:=by simp[getObj,Sem.run,hbb]
     rw[Sem.run_bind,hg];simp only[Result.andThen_ok];rw[Sem.run_bind,Sem.run_pure];simp only[Result.andThen_ok];erw [h5];rfl
theorem EStep.LM {t kt et:TypeId} {x:Operand} {d l clock:Nat} {bs:List Nat} {kvs:List (Value×AV)} {s1 b1:Nat} {z:List Z} (hl:LOk P t ⟨.map kt et,s1,b1,z⟩) (ho:o.op=.range t x) (hg:o.guard=none) (hd:o.dst=some d) (hdn:decide (d<n)=true)
 (hx:Rd env x (.map l)) (hσ:σ[l]? = some (.mapp clock bs kvs)) (hk:k (env.put d (.ptr σ.length 0)) (σ++[.miter l clock [] clock])):EStep P n ops o k env σ:=by
 refine EStep.plain hg fun G a w hr=>?_
 have h1:=hr.rd hx;generalize hA:a.eval x=y at h1;cases h1 with
 | map _ b hb =>
   have cw:=hr.st.aZ l _ _ hb hσ;cases cw with
   | mapp _ _ _ _ es hbb hlen hbs hkk hrr hmm =>
     have bg:(execOp a.eval o).run P w=.ok (.value (.pointer (some ⟨w.heap.size,0,none⟩))) (w.alloc (.mapIter (some b) clock #[] clock)):=by
      simp only[execOp,ho,hA,Instr.range];simp[hl.jP w,getObj,Sem.run,hbb]
     unfold OWP;rw[bg];have hlB:l<G.B.length:=by
      rcases zAb l G.B.length with h|h
      · exact h
      · simp[zA2 h] at hb
     have hs:az { G with B:=G.B++[.blk w.heap.size] } (σ++[.miter l clock [] clock]) (w.alloc (.mapIter (some b) clock #[] clock)) :=
      hr.st.alloc rfl (.miter _ b l clock clock [] (by rw[zA8 hlB];exact hb) (by rw[heap_alloc,if_pos rfl]))
     refine⟨_,_,{ G with B:=G.B++[.blk w.heap.size] },hk,.upB (BLe.append _ _),?_⟩;rw[hd];have hr':bd n { G with B:=G.B++[.blk w.heap.size] } env (σ++[.miter l clock [] clock]) a (w.alloc (.mapIter (some b) clock #[] clock)):=⟨hr.size,hr.defers,fun i=>(hr.bf i).mono (Mem.Le.refl _) (BLe.append _ _),hs⟩;exact hr'.put (of_decide_eq_true hdn) (.ptr _ 0 _ (by simp[←hr.st.len]))
theorem EStep.MU {it:Operand} {d r l since c0 clock:Nat} {seen bs:List Nat} {kvs:List (Value×AV)} (ho:o.op=.next it false) (hg:o.guard=none) (hd:o.dst=some d) (hdn:decide (d<n)=true) (hx:rdv env it=some (.ptr r 0)) (nx:rdn env it)
 (hr0:σ[r]? = some (.miter l since seen c0)) (hl:σ[l]? = some (.mapp clock bs kvs)) (hold:∀x∈bs,x<since) (hsc:since≤c0)
 (kK:(∀x∈bs,x∈seen)→k (env.put d (.tup [.b false])) σ)
 (MV:∀(i:Nat) (key:Value) (v:AV) (x:Nat),kvs[i]? = some (key,v)→bs[i]? = some x→x∉seen→k (env.put d (.tup [.b true,.prim key,v])) (σ.set r (.miter l since (seen++[x]) clock))):EStep P n ops o k env σ:=by
 refine EStep.plain hg fun G a w hr=>?_
 have h1:=hr.rd (Rd.w hx nx);generalize hA:a.eval it=y at h1;cases h1 with
 | ptr _ _ b hb =>
   have cw:=hr.st.aZ r _ _ hb hr0;cases cw with
   | miter _ bm _ _ _ _ hbm hbb =>
     have C1:=hr.st.aZ l _ _ hbm hl;cases C1 with
     | mapp _ _ _ _ es hmb hlen hbs hkk hrr hmm =>
       have hlt:=(hr.st.fresh r _ b hb rfl).2;have MW:∀x∈es.toList,x.born<since:=fun x hx=>hold _ (by rw[←hbs];exact List.mem_map_of_mem hx)
       unfold OWP;rcases run_next_at (P:=P) w o.type b bm since c0 seen.toArray es clock hbb hmb MW hsc with ⟨h0,bg⟩|⟨e,he,w1,hw1,bg⟩
       · have C2:(execOp a.eval o).run P w=.ok (.value (.tuple #[.bool false])) w:=by simp[execOp,ho,hA,bg,Result.andThen]
         rw[C2];refine⟨_,_,G,kK fun x hx=>?_,Gh.Le.refl G,?_⟩
         · rw[←hbs] at hx;obtain⟨e,he,rfl⟩:=zAf.1 hx;have h9:leftOf es seen.toArray=#[]:=zCp h0;unfold leftOf at h9;rw[Array.filter_eq_empty_iff] at h9;have:=h9 e (by simpa using he);simpa using this
         · rw[hd];exact hr.put (of_decide_eq_true hdn) (.tup _ _ rfl fun i c hi=>by
            match i,hi with
            |0,hi=>simp at hi;subst hi;exact .prim _
            |i+1,hi=>simp at hi)
       · have C2:(execOp a.eval o).run P w=.ok (.value (.tuple #[.bool true,e.key,e.val])) (setBlock w1 b (.mapIter (some bm) since (seen.toArray.push e.born) clock)):=by simp[execOp,ho,hA,bg,Result.andThen]
         rw[C2];have he2:e∈es∧e.born∉seen:=by
          unfold leftOf at he;simpa using he
         obtain⟨i,hi,hie⟩:=Array.getElem_of_mem he2.1;have hik:i<kvs.length:=oM;obtain⟨⟨key,v⟩,hkv⟩:∃p,kvs[i]? = some p:=⟨_,zA1 hik⟩
         have hei:es[i]? = some e:=by rw[zAm hi,hie]
         have hk1:=hkk i key v e hkv hei;have hv1:=hrr i key v e hkv hei;have hbi:bs[i]? = some e.born:=by rw[←hbs,zA3,zBb,hei];rfl
         have zn:=MV i key v e.born hkv hbi he2.2;have hbk:w1.heap=w.heap:=by rcases hw1 with rfl|rfl<;>rfl
         have mJ:ct w (setBlock w1 b (.mapIter (some bm) since (seen.toArray.push e.born) clock)):=by
          rcases hw1 with rfl|rfl
          · exact⟨⟨rfl,rfl⟩,rfl,zAt _⟩
          · exact⟨⟨rfl,rfl⟩,rfl,zBl _⟩
         have hh:∀j,(setBlock w1 b (.mapIter (some bm) since (seen.toArray.push e.born) clock)).heap[j]? = if j=b then some (.mapIter (some bm) since (seen.toArray.push e.born) clock) else w.heap[j]? := fun j=>by
          have:=heap_set w1 b (.mapIter (some bm) since (seen.toArray.push e.born) clock) (by rw[hbk];exact hlt) j;exact this.trans (by rw[hbk])
         have hs:=hr.st.upd (o':=.miter l since (seen++[e.born]) clock) (w':=setBlock w1 b (.mapIter (some bm) since (seen.toArray.push e.born) clock)) hb rfl (by simp[setBlock,hbk]) (fun j hj=>by rw[hh,if_neg hj])
          (.miter b bm l since clock _ hbm (by rw[hh,if_pos rfl];simp)) ⟨ef hr.st.ax hbb (by intros;simp),cE hr.st.ax hbb (by intros;simp)⟩ mJ
         refine⟨_,_,G,zn,Gh.Le.refl G,?_⟩;rw[hd];have hr':bd n G env (σ.set r (.miter l since (seen++[e.born]) clock)) a (setBlock w1 b (.mapIter (some bm) since (seen.toArray.push e.born) clock)):=⟨hr.size,hr.defers,hr.bf,hs⟩;refine hr'.put (of_decide_eq_true hdn) (.tup _ _ rfl fun j c hj=>?_)
         match j,hj with
         |0,hj=>simp at hj;subst hj;exact .prim _
         |1,hj=>simp at hj;subst hj;rw[←hk1];exact .prim _
         |2,hj=>simp at hj;subst hj;exact hv1
         |j+3,hj=>simp at hj
theorem PRun.LN {it:Operand} {r l since clock i x:Nat} {seen bs:List Nat} {kvs:List (Value×AV)} {key:Value} {v:AV} (ho:o.op=.entry it) (hx:rdv env it=some (.ptr r 0)) (nx:rdn env it)
 (hr0:σ[r]? = some (.miter l since (seen++[x]) clock)) (hl:σ[l]? = some (.mapp clock bs kvs)) (hi:kvs[i]? = some (key,v)) (hb:bs[i]? = some x) (hnd:bs.Nodup):PRun P o env σ (.tup [.prim key,v]):=by
 refine .of fun G a w hs hv=>?_
 have h1:=rd (Rd.w hx nx) (by simp[ho,Op.operands]) hv;generalize hA:a.eval it=y at h1;cases h1 with
 | ptr _ _ b hbB =>
   have cw:=hs.aZ r _ _ hbB hr0;cases cw with
   | miter _ bm _ _ _ _ hbm hbb =>
     have C1:=hs.aZ l _ _ hbm hl;cases C1 with
     | mapp _ _ _ _ es hmb hlen hbs hkk hrr hmm =>
       have his:i<es.size:=by
        have:=(zAd.1 hi).1;omega
       have hei:=zAm his;have hk1:=hkk i key v _ hi hei;have hv1:=hrr i key v _ hi hei;have hbn:es[i].born=x:=by
        rw[←hbs,zA3,zBb,hei] at hb;simpa using hb
       have bg:=run_entry_at (P:=P) w b bm since seen.toArray es clock es[i] (by rw[hbb,hbn];simp) hmb sMp (by rw[hbs];exact hnd);refine⟨.tuple #[es[i].key,es[i].val],?_,.tup _ _ rfl fun j c hj=>?_⟩
       · simp[execOp,ho,hA,bg,Result.andThen]
       · match j,hj with
         |0,hj=>simp at hj;subst hj;rw[←hk1];exact .prim _
         |1,hj=>simp at hj;subst hj;exact hv1
         |j+2,hj=>simp at hj
end
def Jl {ι:Type} (P:Program) (k:FuncId) (first aM:List AV) (L:Nat) (S:ι→aa) (inv:ι→Prop) (nx:ι→List AV→ι→Prop) (fin:ι→Prop) (i0:ι):Prop :=
 ∀(yv:AV) (R:ι→aa→Prop),inv i0→(∀i,(S i).length=L∧(S i).all (ak L)=true)→(∀i s,R i s→s.length=L∧s.all (ak L)=true) →
  (∀d,aG L (d+1) yv=true)→(∀i x i',inv i→nx i x i'→VCall P (.opq yv) x (S i) (fun r s=>(r=.b true∧s=S i'∧inv i')∨(r=.b false∧R i s))) →
  TCall P k (first++[.opq yv]++aM) (S i0) (fun _ s=>(∃i,inv i∧fin i∧s=S i)∨∃i,R i s)
theorem AWP.C3 {ι:Type} {P:Program} {n:Nat} {K:Exit→Env→aa→Prop} {env:Env} {σ:aa} {g:Operand} {ps:Array Tmp} {assign body:Code} {k:FuncId} {first aM:List AV}
 (E:List (Nat×AV)) (S:ι→aa) (inv:ι→Prop) (nx:ι→List AV→ι→Prop) (fin:ι→Prop) (i0:ι) (R:ι→Exit→aa→Prop) (iter:∀rc:Loop,Jl P k first aM (σ.length+1) (fun j=>S j++[.loop rc E]) inv nx fin i0) (hP0:inv i0) (hg:rdv env g=some (.fn (.func k) first aM)) (ng:rdn env g)
 (hps:∀i x i',nx i x i'→x.length=ps.size) (hxo:∀i x i',nx i x i'→x.all (aG σ.length 4)=true) (hpn:ps.toList.all (fun d=>decide (d<n))=true) (hE:iy env E) (jS:E.all (fun p=>aG σ.length 4 p.2)=true)
 (hS0:S i0=σ) (hS:∀i,(S i).length=σ.length∧(S i).all (ak σ.length)=true)
 (hR:∀i x s,R i x s→s.length=σ.length∧s.all (ak σ.length)=true)
 (round:∀i x i',inv i→nx i x i'→AWP P n assign (fun x e s=>x=.normal∧AWP P n body (ig σ.length (S i') (inv i') (R i)) e s) ((Env.of E).pv (ps.toList.zip x)) (S i))
 (done:∀i,inv i→fin i→K .normal env (S i)) (left:∀i x s,R i x s→K x env s):AWP P n (.rangeFunc g ps assign body) K env σ:=by
 intro G a w hr;have hgv:=hr.rd (Rd.w hg ng);generalize hA:a.eval g=y at hgv;cases hgv with
 |fn _ _ _ vf vc hvf hvc h1 h2 =>
 refine wpIn_rangeFunc fun fn _=>?_
 obtain⟨l,mark,W1,rc,D1,pg,⟨hc1,hc2,hc3,hc4,hc5,hc6⟩,hD1,G6,hs1⟩:=uj hr E hE.tf fn ps assign body;have hlen:G.B.length=σ.length:=hr.st.len
 have hT:=iter rc (.yld σ.length)
  (fun j s=>∃s0 c,s=s0++[.loop { rc with state:=.done,pending:=some c } E]∧((c=.ret∧R j .ret s0)∨∃id,c=.exit id∧R j (.exit id) s0))
  hP0 (fun j=>by
   obtain⟨k1,k2⟩:=hS j;refine⟨by simp[k1],?_⟩;rw[zBs,dx (zBl _) k2];simpa using kA (o:=.loop rc E) (zBl σ.length) jS)
  (fun j s hs=>by
   obtain⟨s0,c,rfl,hc⟩:=hs;have k:s0.length=σ.length∧s0.all (ak σ.length)=true:=by
    rcases hc with ⟨_,hc⟩|⟨id,_,hc⟩
    · exact hR _ _ _ hc
    · exact hR _ _ _ hc
   refine⟨by simp[k.1],?_⟩;rw[zBs,dx (zBl _) k.2];simpa using kA (o:=.loop { rc with state:=.done,pending:=some c } E) (zBl σ.length) jS)
  (fun d=>by simp[aG])
  (fun j x j' hp hx=>by
   refine rb (n:=n) ⟨hc1,hc2⟩ (hS j).1 (hS j').1 (hS j').2 jS (hS j).2 (hR j) (by rw[hc3];exact hr.size) (by rw[hc4];exact hps j x j' hx) (by rw[hc4];exact hpn) (hxo j x j' hx) ?_;rw[hc4,hc5,hc6];exact round j x j' hp hx)
 have hB1:BLe G.B (G.B++[.blk l]):=BLe.append _ _;have hm:(G.B++[GB.blk l])[σ.length]? = some (.blk l):=by rw[←hlen];simp
 have gC:fJ { G with B:=G.B++[.blk l],D:=D1 } (first++[.opq (.yld σ.length)]++aM) (vf++#[.func (.yield l) #[] #[]]++vc) :=
  ((fJ.append (G := { G with B := G.B ++ [.blk l], D := D1 }) ⟨hvf, fun i c hi => (h1 i c hi).mono (Mem.Le.refl _) hB1⟩ ⟨rfl, fun i c hi => by
    cases i with
    |zero=>simp at hi;subst hi;exact .opq _ _ _ _ (.yld _ l hm)
    |succ i=>simp at hi⟩).append ⟨hvc,fun i c hi=>(h2 i c hi).mono (Mem.Le.refl _) hB1⟩)
 have CJ:=hT.2 { G with B:=G.B++[.blk l],D:=D1 } W1 _ (by show az _ (S i0++[aF.loop rc E]) W1;rw[hS0];exact hs1) gC;refine⟨l,mark,W1,{ target:=.fn (.func k) vc,args:=vf++#[.func (.yield l) #[] #[]] },W1,k,vf++#[.func (.yield l) #[] #[]]++vc,W1,pg,?_,fun _ _=>trivial,?_,?_,?_⟩
 · simp only[resolve,hA];simp[go_sem,Act.eval,Deferred.ofValue]
 · simp only[invoke];exact eD hT.1 _ _
 · intro hd;simp[FR,Fence.wide] at hd
 · refine uo (ro:=G.R) ?_;refine Calls.mono CJ ?_;rintro e w' ⟨v,rv,σ',G',rfl,hQ,hle,hs',_⟩;have hBl:G'.B[σ.length]? = some (.blk l):=by
    obtain⟨g',k1,k2⟩:=hle.b _ _ hm;simp only[GB.Le] at k2;subst k2;exact k1
   have over:∀(s0:aa) (r:Loop),s0.length=σ.length→s0.all (ak σ.length)=true→az G' (s0++[.loop r E]) w'→r.state≠.busy →
    ∃G'' w'',(Instr.endLoop l).run P w'=.ok r.pending w''∧G.Le G''∧bd n G'' env s0 { a with defers:=mark++a.defers } w'':=fun s0 r hl0 ho0 hs0 hbusy=>by
    obtain⟨l',hb',jc,_,hsa⟩:=hs0.aside (by rw[hl0];exact ho0);rw[hl0,hBl] at hb';simp at hb';subst hb';have hne:∀p∈G'.D,p.1≠l:=fun p hp e=>(hs0.dfr.1 p hp).2.2.1 _ _ hBl (by rw[e];rfl)
    have hu:=(hsa.oH (D':=G'.D) (zAr ..) (.loop { r with state:=.exhausted }) fun p hp=>⟨zAk _ hp,hne p hp⟩);have hu2:=az.setR (G:={ G' with B:=G'.B.take s0.length }) (R':=G'.R) hu hs0.dfr.2;have hBe:BLe G.B (G'.B.take s0.length):=fun i g hi=>by
     obtain⟨g',k1,k2⟩:=(hB1.trans hle.b) i g hi;have:i<s0.length:=by
      rcases zAb i G.B.length with h|h
      · omega
      · simp[zA2 h] at hi
     exact⟨g',db k1 this,k2⟩
    refine⟨{ G' with B:=G'.B.take s0.length },_,run_endLoop jc hbusy,⟨hle.m0,hle.w0,hle.m,hBe,fun p hp=>hle.d p (hD1 p hp),hle.r,hle.f⟩,hr.size,by rw[show({ G' with B:=G'.B.take s0.length }:Gh).F=G.F from hle.f];exact G6.mono hle.d,fun i=>(hr.bf i).mono hle.m hBe,hu2⟩
   rcases hQ with ⟨i,hPn,tD,rfl⟩|⟨j,s0,c,rfl,hc⟩
   · obtain⟨k1,k2⟩:=hS i;obtain⟨G'',w'',h3,h4,h5⟩:=over _ rc k1 k2 hs' (by rw[hc1];simp);rw[hc2] at h3;exact⟨none,w'',h3,env,_,G'',done i hPn tD,h4,h5⟩
   · rcases hc with ⟨rfl,hc⟩|⟨id,rfl,hc⟩
     · obtain⟨k1,k2⟩:=hR _ _ _ hc;obtain⟨G'',w'',h3,h4,h5⟩:=over s0 _ k1 k2 hs' sMp;exact⟨some .ret,w'',h3,wpIn_ret ⟨env,_,G'',left _ _ _ hc,h4,h5⟩⟩
     · obtain⟨k1,k2⟩:=hR _ _ _ hc;obtain⟨G'',w'',h3,h4,h5⟩:=over s0 _ k1 k2 hs' sMp;exact⟨some (.exit id),w'',h3,wpIn_exit ⟨env,_,G'',left _ _ _ hc,h4,h5⟩⟩
end Go.Ab
