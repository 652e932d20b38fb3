/- Parts of the proof. No statement is proved here. -/
import Derived.Laws.OwnMore
import Derived.Shelf.Spec.SlicesInsertGrow
import Derived.Test.YthiaimakjmhegaaGreatDoorChecked
import Derived.Test.YthiaimakjmhegaaGreatDoorP7
set_option linter.unusedVariables false
set_option linter.unusedSimpArgs false
set_option maxHeartbeats 16000000
set_option maxRecDepth 20000
/-
 DERIVED: THE SHELF's CONTRACTS AT THIS DUMP,IN PLAIN WORDS (tools/lay-plain.mjs out of 'YthiaimakjmhegaaGreatDoorShelf.lean',which tools/lay-shelf.mjs wrote): THE SAME DECLARATIONS UNDER THE SAME NAMES: 'import','namespace','open','def','theorem' AND NOTHING ELSE: no command of the shelf's: FOR A HAND-IN. Each laying: the table of numbers ('.._ren') and one theorem,a field a fact of the dump's own or the kernel's comparison;each contract: ONE APPLICATION.
-/
namespace Go.Proofs
open Go.Shelf
def Tryz.lV:Go.Shelf.Ren:=⟨fun|6=>266|15=>293|14=>292|28=>313|29=>314|20=>305|21=>306|22=>307|23=>308|24=>309|25=>310|26=>311|27=>312|46=>328|47=>329|48=>330|49=>331|50=>332|57=>335|n=>n,fun|22=>82|24=>225|25=>359|3=>3|39=>361|0=>0|53=>391|55=>242|4=>4|46=>385|45=>384|50=>234|5=>5|9=>9|66=>399|70=>403|76=>406|77=>407|n=>n,fun|n=>n⟩
theorem Tryz.xC:Go.Proofs.SlLaysF0.n6 Tryz.prog Tryz.lV:={
 mixed:=by kernel_rfl
 f6:=⟨Tryz.f266.name,by decide,Tryz.func266.trans (congrArg some (by kernel_rfl))⟩
 f14:=⟨Tryz.f292.name,by decide,Tryz.func292.trans (congrArg some (by kernel_rfl))⟩
 f15:=Tryz.func293.trans (congrArg some (by kernel_rfl))
 f20:=⟨Tryz.f305.name,by decide,Tryz.func305.trans (congrArg some (by kernel_rfl))⟩
 f21:=⟨Tryz.f306.name,by decide,Tryz.func306.trans (congrArg some (by kernel_rfl))⟩
 f22:=⟨Tryz.f307.name,by decide,Tryz.func307.trans (congrArg some (by kernel_rfl))⟩
 f23:=⟨Tryz.f308.name,by decide,Tryz.func308.trans (congrArg some (by kernel_rfl))⟩
 f24:=⟨Tryz.f309.name,by decide,Tryz.func309.trans (congrArg some (by kernel_rfl))⟩
 f25:=⟨Tryz.f310.name,by decide,Tryz.func310.trans (congrArg some (by kernel_rfl))⟩
 f26:=⟨Tryz.f311.name,by decide,Tryz.func311.trans (congrArg some (by kernel_rfl))⟩
 f27:=⟨Tryz.f312.name,by decide,Tryz.func312.trans (congrArg some (by kernel_rfl))⟩
 f28:=Tryz.func313.trans (congrArg some (by kernel_rfl))
 f29:=Tryz.func314.trans (congrArg some (by kernel_rfl))
 f46:=⟨Tryz.f328.name,by decide,Tryz.func328.trans (congrArg some (by kernel_rfl))⟩
 f47:=Tryz.func329.trans (congrArg some (by kernel_rfl))
 f48:=Tryz.func330.trans (congrArg some (by kernel_rfl))
 f49:=⟨Tryz.f331.name,by decide,Tryz.func331.trans (congrArg some (by kernel_rfl))⟩
 f50:=⟨Tryz.f332.name,by decide,Tryz.func332.trans (congrArg some (by kernel_rfl))⟩
 f57:=⟨Tryz.f335.name,by decide,Tryz.func335.trans (congrArg some (by kernel_rfl))⟩
 t0:=Tryz.underlying0
 a0:=Tryz.isAgg0
 z0:=Tryz.sizeOf0
 v0:=Tryz.zeroValue0
 t3:=Tryz.underlying3
 a3:=Tryz.isAgg3
 z3:=Tryz.sizeOf3
 v3:=Tryz.zeroValue3
 t4:=Tryz.underlying4
 a4:=Tryz.isAgg4
 z4:=Tryz.sizeOf4
 v4:=Tryz.zeroValue4
 t5:=Tryz.underlying5
 a5:=Tryz.isAgg5
 z5:=Tryz.sizeOf5
 v5:=Tryz.zeroValue5
 t9:=Tryz.underlying9
 a9:=Tryz.isAgg9
 z9:=Tryz.sizeOf9
 v9:=Tryz.zeroValue9
 t22:=Tryz.underlying82
 a22:=Tryz.isAgg82
 z22:=Tryz.sizeOf82
 v22:=Tryz.zeroValue82
 t25:=Tryz.underlying359
 a25:=Tryz.isAgg359
 z25:=Tryz.sizeOf359
 v25:=Tryz.zeroValue359
 t39:=Tryz.underlying361
 a39:=Tryz.isAgg361
 z39:=Tryz.sizeOf361
 v39:=Tryz.zeroValue361
 t45:=Tryz.underlying384
 a45:=Tryz.isAgg384
 z45:=Tryz.sizeOf384
 v45:=Tryz.zeroValue384
 t46:=Tryz.underlying385
 a46:=Tryz.isAgg385
 z46:=Tryz.sizeOf385
 v46:=Tryz.zeroValue385
 t50:=Tryz.underlying234
 a50:=Tryz.isAgg234
 z50:=Tryz.sizeOf234
 v50:=Tryz.zeroValue234
 t53:=Tryz.underlying391
 a53:=Tryz.isAgg391
 z53:=Tryz.sizeOf391
 v53:=Tryz.zeroValue391
 t55:=Tryz.underlying242
 a55:=Tryz.isAgg242
 z55:=Tryz.sizeOf242
 v55:=Tryz.zeroValue242
 t66:=Tryz.underlying399
 a66:=Tryz.isAgg399
 z66:=Tryz.sizeOf399
 v66:=Tryz.zeroValue399
 t70:=Tryz.underlying403
 a70:=Tryz.isAgg403
 z70:=Tryz.sizeOf403
 v70:=Tryz.zeroValue403
 t76:=Tryz.underlying406
 a76:=Tryz.isAgg406
 z76:=Tryz.sizeOf406
 v76:=Tryz.zeroValue406
 t77:=Tryz.underlying407
 a77:=Tryz.isAgg407
 z77:=Tryz.sizeOf407
 v77:=Tryz.zeroValue407 }
end Go.Proofs
namespace Go.Ab
section
variable {P:Program} {n:Nat} {ops:Array Oper} {o:Oper} {env:Env} {σ:ae} {T:Tab} {k:Env→ae→Prop}
theorem EStep.Dx (hT:T.Ok P) {s x:Operand} {t tx e:TypeId} {d l sz ver:Nat} {es es2:List (List AV)} {u S:AV} {s1 b1:Nat} {z:List Z} {le:LI} (ho:o.op=.call { callee:=.builtin .append,args:=#[s,x],argTypes:=#[t,tx] })
 (hg:o.guard=none) (hd:o.dst=some d) (hdn:d<n) (hs:Rd env s S) (hS0:S=.sla l sz 0 es.length ver∧es≠[]∨S=.sl sz [] (.own l)∧es=[]∧ver=0) (hσ:σ[l]? = some (.arr sz ver es)) (hx:Rd env x u) (iJ:fZ T tx sz u es2) (cK:0<es2.length)
 (hl:LOk P t ⟨.slice e,s1,b1,z⟩) (he:LOk P e le) (hsz:le.size=sz) (hz0:le.zero.length=le.size) (hbound:(es.length+es2.length) * le.bytes≤140737488355328) (hb2:es.length+es2.length≤9223372036854775807)
 (hk:k (env.put d (.sla l sz 0 (es.length+es2.length) (ver+1))) (σ.set l (.arr sz (ver+1) (es++es2)))):EStep P n ops o k env σ:=by
 refine EStep.plain hg fun G a w hr=>?_
 have h1:=hr.rd hs;obtain⟨news,hS,hN⟩:=iJ.src hT hr.st.ay (hr.rd hx);generalize hA:a.eval s=sv at h1;obtain⟨i,hi1,hi2,hi3,hi4⟩:=he.info;have eJ:=hl.dB;have hS':Src P i.size tx (a.eval x) es2.length news w:=by rw[hi2,hsz];exact hS
 have hNs:news.length=es2.length * sz:=by have:=hN.1;simpa using this
 obtain⟨ob,cap,hB,hne,hob⟩:=cR hr.st hσ;have cP:=hr.st.bB l _ _ hB hσ;have hsv:sv=.slice (ob.map fun b=>⟨b,0,none⟩) es.length cap:=by
  rcases hS0 with ⟨rfl,hn⟩|⟨rfl,rfl,rfl⟩
  · cases h1 with
    | sla _ _ _ _ _ a c hr =>
      obtain⟨ob',dK,n',g1,g2,g3⟩:=hr;rw[hB] at g1;simp at g1;obtain⟨rfl,rfl,rfl⟩:=g1;obtain⟨g4,g5⟩:=g3 rfl;rcases g5 with g5|⟨rfl,rfl⟩
      · exact absurd (zAr g5) hn
      · simp
  · cases h1 with
    | sl _ _ _ b off dK f hz hm hr' hc ht =>
      obtain⟨ob',cp,n',g1,g2,g3⟩:=ht;rw[hB] at g1;simp at g1;obtain⟨rfl,rfl,rfl⟩:=g1;obtain⟨g4,g5⟩:=g3 rfl;cases ob with
      |none=>simp at g4
      | some b' =>
        simp at g4;obtain⟨rfl,rfl⟩:=g4;subst g5;rfl
    | slz _ _ ht =>
      obtain⟨ob',cp,n',g1,g2,g3⟩:=ht;rw[hB] at g1;simp at g1;obtain⟨rfl,rfl,rfl⟩:=g1;obtain⟨g4,g5⟩:=g3 rfl;cases ob with
      |none=>subst g5;rfl
      |some b'=>simp at g4
 subst hsv;have ie:∀b' c',(GB.own ob cap ver).Le (.own b' c' (ver+1)):=fun b' c'=>.inr ⟨_,_,_,rfl,Nat.lt_succ_self _⟩
 have hlB:l<G.B.length:=by
  rcases zAa l G.B.length with h'|h'
  · exact h'
  · simp[zA3 h'] at hB
 have hzc:le.aX.cells.size=sz:=by
  unfold LI.aX;cases ha:le.lt.isAgg with
  |true=>simp[Value.cells,hz0,hsz]
  | false =>
    obtain⟨z',hz'⟩:=he.one ha;rw[hz'] at hz0 ⊢;simp at hz0;rw[←hsz,←hz0];cases z'<;>rfl
 -- the end: the new place
 have fin:∀(b c':Nat) (w':World),aC { G with B:=G.B.set l (.own (some b) c' (ver+1)) } (σ.set l (.arr sz (ver+1) (es++es2))) w'→es.length+es2.length≤c' →
  ∃aw σ' G',k aw σ'∧G.Le G'∧bf n G' aw σ' (a.put o.dst (.slice (some ⟨b,0,none⟩) (es.length+es2.length) c')) w':=fun b c' w' hs2 hle=>by
  have hG:G.Le { G with B:=G.B.set l (.own (some b) c' (ver+1)) }:=.upB (BLe.set hB (ie _ _));refine⟨_,_,_,hk,hG,?_⟩;rw[hd];have hr':bf n { G with B:=G.B.set l (.own (some b) c' (ver+1)) } env (σ.set l (.arr sz (ver+1) (es++es2))) a w':=hr.later hG hs2;exact hr'.put hdn (.sla _ sz 0 _ (ver+1) _ _ ⟨some b,c',ver+1,by rw[zAf hlB],zAt _,fun _=>⟨oM,.inr ⟨oM,by simp⟩⟩⟩)
 have HK:∀b,ob=some b→∀x∈es++es2,x.length=sz:=fun b hb x hx=>by
  obtain⟨c,T',fr,_,_,_,_,hz,_,_⟩:=hob b hb;exact(zAx.1 hx).elim (hz x) (hN.2.1 x)
 by_cases i1:es.length+es2.length≤cap
 · cases ob with
   | none =>
     exfalso;cases cP with
     |arrz=>simp only[zAm] at i1;omega
   | some b =>
     obtain⟨c,T',fr,hb,hf,hlc,hn,hz,bU,hm⟩:=hob b rfl;have hcs:(es.length+es2.length) * sz≤c.size:=by rw[hlc];exact zAv _ i1
     rw[zB5] at hcs;obtain⟨w',c',r1,r2,r3,r4,r5,r6,j6⟩:=dw (P:=P) (b:=b) (off:=es.length * sz) (T:=T') (fr:=fr) news 0 c w hb hf hS.one oM;have bl:=ji (P:=P) w w' t tx o.type e i eJ hi1 b 0 es.length cap (a.eval x) es2.length news hS' i1 (by rw[hi2,hsz,zBv];exact r1);have dY:(execOp a.eval o).run P w=.ok (.value (.slice (some ⟨b,0,none⟩) (es.length+es2.length) cap)) w':=by simp[execOp,ho,resolve,invoke,builtin,hA,bl]
     unfold OWP;rw[dY];simp only[zBq] at r6;have n9:G.M.map b=none:=cQ hr.st.ay hb (by intros;simp);have hok:dc G.M w':=by
      refine⟨fun b2 o v hv=>?_,fun b2 es' hb2'=>?_,hr.st.ay.g⟩
      · have ov:b2≠b:=fun e2=>by subst e2;rw[hm o] at hv;cases hv
        have h2:=hr.st.ay.1 _ _ _ hv;simp only[World.cell?] at h2 ⊢;rw[r3 _ ov];exact h2
      · have ov:b2≠b:=fun e2=>by subst e2;rw[n9] at hb2';cases hb2'
        obtain⟨cl,h2⟩:=hr.st.ay.2 _ _ hb2';exact⟨cl,by rw[r3 _ ov];exact h2⟩
     have hblt:=(hr.st.fresh l _ b hB rfl).2;refine fin b cap w' ?_ i1;refine hr.st.kP (M':=G.M) hB (Mem.Le.refl _) (ie _ _) rfl oM (fun k hk _=>r3 k hk) rfl (fun _ _ _=>rfl) hok (.inl rfl) oM j6 ?_;refine .arr b cap sz (ver+1) (es++es2) c' T' fr r4 (by rw[r5];exact hf) (by rw[r5,hlc]) (by simpa using i1) (HK b rfl) (fun i j x v hi hj=>?_) hm;have hxl:x.length=sz:=HK b rfl x (zAc hi);have hjs:j<sz:=by
      have:=(zAb.1 hj).1;omega
     rw[r6];rcases zAa i es.length with h|h
     · rw[zA8 h] at hi;rw[if_neg (by have:=dP h hjs;omega)];exact(bU i j x v hi hj).mono (Mem.Le.refl _) (BLe.set hB (ie _ _))
     · rw[zA7 h] at hi;have FK:i - es.length<es2.length:=(zAb.1 hi).1;have e1:i * sz+j=es.length * sz+((i - es.length) * sz+j):=by
        rw[←zC4,←zB5];congr 2;omega
       have hlt:=dP FK hjs;rw[e1,if_pos ⟨oM,by rw[hNs];omega⟩,zCj];have:=hN.2.2 _ j x v hi hj;have e2:news.toArray.getD ((i - es.length) * sz+j) undef=news.getD ((i - es.length) * sz+j) undef:=by simp[List.getD]
       rw[e2] at this;exact this.mono (Mem.Le.refl _) (BLe.nil _)
 · -- a new row
   have holds:∃iK:List Value,iK.length=es.length * sz∧(Builtin.firstCells i.size es.length (.slice (ob.map fun b=>⟨b,0,none⟩) es.length cap)).run P w.drew=.ok iK.toArray w.drew ∧
    (∀x∈es,x.length=sz)∧∀(i j:Nat) (x:List AV) (v:AV),es[i]? = some x→x[j]? = some v→ag G.M G.B v (iK.getD (i * sz+j) undef):=by
    cases ob with
    | none =>
      have:es=[]:=by
       rcases es with _|⟨x,es⟩
       · rfl
       · obtain⟨b,hb⟩:=hne sMp;cases hb
      subst this;exact⟨[],by simp,rfl,by simp,fun i j x v h=>by simp at h⟩
    | some b =>
      obtain⟨c,T',fr,hb,hf,hlc,hn,hz,bU,hm⟩:=hob b rfl;have hcs:es.length * sz≤c.size:=by rw[hlc];exact zAv _ hn
      refine⟨(List.range (es.length * sz)).map fun k=>c.getD k undef,by simp,?_,hz,fun i j x v hi hj=>?_⟩
      · have:=run_loadCells_list (P:=P) w.drew ⟨b,0,none⟩ ((List.range (es.length * sz)).map fun k=>c.getD k undef) (fun j v hj=>by
         simp only[zA5,zA6] at hj;obtain⟨k,hk,rfl⟩:=hj;have hj2:=(zAb.1 hk).1;simp at hj2;have hk2:k=j:=by have:=(zAb.1 hk).2;simpa using this.symm
         subst hk2;have h3:k<c.size:=oM;show(World.cell? w.drew _)=_;have hb':w.drew.heap[b]? = some (.cells c T' fr):=hb;simp[World.cell?,cq,hb',h3])
        simp only[zD6,List.length_range] at this;simp only[Option.map,Builtin.firstCells,hi2,hsz];exact this
      · have:=bU i j x v hi hj;have hxl:=hz x (zAc hi);have hjs:j<sz:=by
         have:=(zAb.1 hj).1;omega
        have hlt:=dP (zAb.1 hi).1 hjs;have e2:((List.range (es.length * sz)).map fun k=>c.getD k undef).getD (i * sz+j) undef=c.getD (i * sz+j) undef:=by
         simp[List.getD,hlt]
        rw[e2];exact this
   obtain⟨iK,hOs,hold,hz,bU⟩:=holds;have hlt:cap<es.length+es2.length:=oM;have bl:=run_append_grow_src (P:=P) w t tx o.type e i le.aX eJ hi1 (by rw[hi4];rfl) (ob.map fun b=>⟨b,0,none⟩) es.length cap iK hold (a.eval x) es2.length news hS' hlt oM (growslice_fits hlt (by rw[hi3];exact hbound));have gJ:es.length+es2.length≤grownCap w (es.length+es2.length) cap e:=by unfold grownCap Question.cut;exact Nat.le_add_right _ _
   generalize ig:((iK++news).toArray++Builtin.zeroCells le.aX.cells (grownCap w (es.length+es2.length) cap e - (es.length+es2.length)))=row at bl;have jG:row.size=grownCap w (es.length+es2.length) cap e * sz:=by
    rw[←ig];simp only[zDt,zD8,zCr,size_zeroCells,hzc,hOs,hNs,←zB5];congr 1;omega
   have dY:(execOp a.eval o).run P w=.ok (.value (.slice (some ⟨w.heap.size,0,none⟩) (es.length+es2.length) (grownCap w (es.length+es2.length) cap e))) (w.drew.alloc (.cells row e)):=by
    simp[execOp,ho,resolve,invoke,builtin,hA,bl]
   unfold OWP;rw[dY];have Fx:∀o,o<es.length * sz→row.getD o undef=iK.getD o undef:=by
    intro o ho;rw[←ig];simp only[zA2,zDy];rw[zAl (by simp;omega)];simp only[zCg];rw[zA8 oM];simp[List.getD]
   have xa:∀o,o<es2.length * sz→row.getD (es.length * sz+o) undef=news.toArray.getD o undef:=by
    intro o ho;rw[←ig];simp only[zA2,zDy];rw[zAl (by simp;omega)];simp only[zCg];rw[zA7 oM,hOs,zCj]
   have hm0:=eV hr.st.ay _ (zAt w.heap.size);have jH:(w.drew.alloc (.cells row e)).heap[w.heap.size]? = some (.cells row e):=by rw[heap_alloc];simp
   have hok:dc G.M (w.drew.alloc (.cells row e)):=by
    refine⟨fun b o v hv=>?_,fun b es' hb=>?_,hr.st.ay.g⟩
    · have h2:=hr.st.ay.1 _ _ _ hv;have cr:=World.block_lt_of_cell? _ _ h2;have:(w.drew.alloc (.cells row e)).cell? ⟨b,o,none⟩=w.drew.cell? ⟨b,o,none⟩:=World.cell?_alloc_lt _ _ _ cr;rw[this];exact h2
    · obtain⟨cl,h2⟩:=hr.st.ay.2 _ _ hb;refine⟨cl,?_⟩;rw[heap_alloc];split
      · rename_i eb;subst eb;simp at h2
      · exact h2
   refine fin w.heap.size _ _ ?_ gJ;refine hr.st.kP (M':=G.M) hB (Mem.Le.refl _) (ie _ _) rfl sMp (fun k hk hk2=>by rw[heap_alloc];simp[Nat.ne_of_lt hk2];rfl) rfl (fun _ _ _=>rfl) hok (.inr (zAt _)) sMp cD.r ?_;refine .arr w.heap.size _ sz (ver+1) (es++es2) row e (0,0) jH (by intro o _;simp) jG (by simpa using gJ) (fun x hx=>(zAx.1 hx).elim (hz x) (hN.2.1 x)) (fun i j x v hi hj=>?_) hm0.1;have hxl:x.length=sz:=(zAx.1 (zAc hi)).elim (hz x) (hN.2.1 x);have hjs:j<sz:=by
    have:=(zAb.1 hj).1;omega
   rcases zAa i es.length with h|h
   · rw[zA8 h] at hi;rw[Fx _ (dP h hjs)];exact(bU i j x v hi hj).mono (Mem.Le.refl _) (BLe.set hB (ie _ _))
   · rw[zA7 h] at hi;have FK:i - es.length<es2.length:=(zAb.1 hi).1;have e1:i * sz+j=es.length * sz+((i - es.length) * sz+j):=by
      rw[←zC4,←zB5];congr 2;omega
     rw[e1,xa _ (dP FK hjs)];exact(hN.2.2 _ j x v hi hj).mono (Mem.Le.refl _) (BLe.nil _)
theorem EStep.Iz (hT:T.Ok P) {t:TypeId} {x y:Operand} {l sz i off ver:Nat} {es:List (List AV)} {u u1:AV} {li:LI} (ho:o.op=.store t x y) (hg:o.guard=none) (hx:rdv env x=some (.cm l sz i off ver)) (nx:rdn env x)
 (hσ:σ[l]? = some (.arr sz ver es)) (hi:i<es.length) (hy:rdv env y=some u) (ny:rdn env y) (hc:cd u=some [u1]) (jh:eH u1=true) (hl:T.get t=some li) (hsz:li.size=1) (hoff:off<sz) (hdn:eu n o=true)
 (hk:k (env.br o.dst .any) (σ.set l (.arr sz ver (es.set i ((es.getD i []).set off u1))))):EStep P n ops o k env σ:=by
 refine EStep.plain hg fun G a w hr=>?_
 have h1:=hr.rd (Rd.w hx nx);generalize hA:a.eval x=X at h1;obtain⟨ob,cap,hB,hne,hob⟩:=cR hr.st hσ;cases h1 with
 | cm _ _ _ _ _ b q hrr =>
   obtain⟨ob',dK,n',g1,g2,g3⟩:=hrr;rw[hB] at g1;simp at g1;obtain⟨rfl,rfl,rfl⟩:=g1;obtain⟨g4,g5,rfl,rfl⟩:=g3 rfl;obtain⟨c,T',fr,hbb,hf,hlen,hn,hz,bU,hm⟩:=hob b rfl;have hlk:=LOk.of (hT.get hl);have h2:=hr.rd (Rd.w hy ny);obtain⟨h3,h4⟩:=iN hc h2;simp at h3;have nY:i<cap:=oM;have FE:i * sz+off+1≤c.size:=by
    rw[hlen];have:=dP nY hoff;omega
   obtain⟨w',c',r1,r2,r3,r4,r5,r6,j6⟩:=dw (P:=P) (b:=b) (off:=i * sz+off) (T:=T') (fr:=fr) (a.eval y).cells.toList 0 c w hbb hf (fun v hv=>by
    obtain⟨i,hi,rfl⟩:=zAu.1 hv;have hi':i=0:=by simp[h3] at hi;omega
    subst hi';have:=h4 0 u1 rfl;have h6:=js jh this;have hi2:0<(a.eval y).cells.size:=oM;simpa[hi2] using h6) (by simp only[zBp,h3];omega)
   have bl:(execOp a.eval o).run P w=.ok .skip w':=by
    simp only[execOp,ho,hA,Instr.storeAt,Instr.sureAddr,storeVar];simp[hlk.cg w,h3,hsz,r1]
   unfold OWP;rw[bl];have hmm:G.M.map b=none:=cQ hr.st.ay hbb sMp;have hei:es[i]? = some (es.getD i []):=by simp[List.getD,hi]
   have hs:aC G (σ.set l (.arr sz ver (es.set i ((es.getD i []).set off u1)))) w':=by
    refine hr.st.upd hB rfl r2 r3 (.arr b cap sz ver _ c' T' fr r4 (by rw[r5];exact hf) (by rw[r5];exact hlen) (by simpa using hn) (fun e he=>?_) (fun i' j e av he hj=>?_) hm) ⟨hm,hmm⟩ j6
    · rcases zD4 he with h|h
      · exact hz e h
      · rw[h,zDq];exact hz _ (zAc hei)
    · have hjs:j<sz:=by
       have hle:e.length=sz:=by
        rcases zD4 (zAc he) with h|h
        · exact hz e h
        · rw[h,zDq];exact hz _ (zAc hei)
       have:=(zAb.1 hj).1;omega
      rw[r6 (i' * sz+j)];simp only[zBq,zBp,h3];by_cases hii:i=i'
      · subst hii;rw[zAf hi] at he;simp at he;subst he;by_cases hjo:off=j
        · subst hjo;rw[zAf (by have:=hz _ (zAc hei);simp only[zB2] at this;omega)] at hj;simp at hj;subst hj;rw[if_pos ⟨oM,oM⟩];have:=h4 0 _ rfl;simpa using this
        · rw[zAp hjo] at hj;rw[if_neg oM];exact bU i j _ av hei hj
      · rw[zAp hii] at he;have hno:¬(i * sz+off≤i' * sz+j∧i' * sz+j<i * sz+off+1):=by
         rintro⟨q1,q2⟩;rcases zAa i i' with h|h
         · have:=zAv sz (show i+1≤i' from h);rw[zB5,zDm] at this;omega
         · have:=zAv sz (show i'+1≤i by omega);rw[zB5,zDm] at this;omega
        rw[if_neg hno];exact bU i' j e av he hj
   have hr':bf n G env (σ.set l (.arr sz ver (es.set i ((es.getD i []).set off u1)))) a w':=⟨hr.size,hr.defers,hr.bh,hs⟩;exact⟨_,_,G,hk,Gh.Le.refl G,hr'.br (cu hdn) (.any _)⟩
theorem PRun.rQ (hT:T.Ok P) {t:TypeId} {x y:Operand} {l sz off len ver:Nat} {es:List (List AV)} {kd:IntKind} {i:Int} (ho:o.op=.slice t x (some y) none none) (hx:rdv env x=some (.sla l sz off len ver)) (nx:rdn env x)
 (hy:rdv env y=some (.prim (.int kd i))) (ny:rdn env y) (hl:dO T t=some sz) (hσ:σ[l]? = some (.arr sz ver es)) (h:0≤i∧i≤len):PRun P o env σ (.sla l sz (off+i.toNat) (len - i.toNat) ver) :=
 .of fun G A w hs hv=>by
  have hX:=rd (Rd.w hx nx) (by simp[ho,Op.operands]) hv;have e':=ag.aJ (rd (Rd.w hy ny) (by simp[ho,Op.operands]) hv);obtain⟨e,s1,b1,z,li,h1,h2,h3⟩:=dh hT hl;obtain⟨j,rfl⟩:=zBk h.1;have hj:j≤len:=oM;obtain⟨ob,cap,hB,hne,hob⟩:=cR hs hσ;generalize hA:A.eval x=v at hX;cases hX with
  | sla _ _ _ _ _ a c hq =>
    obtain⟨ob',dK,n',g1,g2,g3⟩:=hq;rw[hB] at g1;simp at g1;obtain⟨rfl,rfl,rfl⟩:=g1;obtain⟨g4,g5⟩:=g3 rfl;have hrb:=de (P:=P) (k:=kd) (i:=(j:Int)) (y:=len) (code:=.sliceB) w ⟨oM,oM⟩;rcases zBe len with hz|hz
    · subst hz;have hj0:j=0:=oM;subst hj0;refine⟨.slice a 0 c,?_,.sla _ sz _ _ ver a c ⟨ob,cap,ver,hB,zAt _,fun _=>⟨by simpa using g4,.inl sMp⟩⟩⟩;have FM:=de (P:=P) (k:=kd) (i:=(0:Int)) (y:=0) (code:=.sliceB) w ⟨oM,oM⟩;simp only[execOp,ho,hA,Instr.sliceAt,Instr.slice,zD1,zBa];cases a<;>simp[h1.slice w,h2.cg w,Instr.sliceBounds,e',FM,Addr.add]
    · rcases g5 with g5|⟨rfl,rfl⟩
      · omega
      cases ob with
      | none =>
        exfalso;have ho:=hs.bB l _ _ hB hσ;cases ho;omega
      | some b =>
        refine⟨.slice (if cap - off=j then some ⟨b,off * sz,none⟩ else some ⟨b,off * sz+j * sz,none⟩) (len - j) (cap - off - j),?_,?_⟩
        · simp only[execOp,ho,hA,Instr.sliceAt,Instr.slice,zD1,zBa];simp[h1.slice w,h2.cg w,h3,Instr.sliceBounds,e',hrb,cq]
        · simp only[zAe];refine .sla _ sz _ _ ver _ _ ⟨some b,cap,ver,hB,zAt _,fun _=>⟨oM,?_⟩⟩;by_cases hcj:cap - off=j
          · exact .inl oM
          · refine .inr ⟨oM,?_⟩;rw[if_neg hcj];simp[zB5]
theorem PRun.xD (hT:T.Ok P) {t:TypeId} {x y:Operand} {l sz off len ver:Nat} {es:List (List AV)} {kd:IntKind} {i:Int} (ho:o.op=.slice t x none (some y) none) (hx:rdv env x=some (.sla l sz off len ver)) (nx:rdn env x)
 (hy:rdv env y=some (.prim (.int kd i))) (ny:rdn env y) (hl:dO T t=some sz) (hσ:σ[l]? = some (.arr sz ver es)) (h:0≤i∧i≤len):PRun P o env σ (.sla l sz off i.toNat ver) :=
 .of fun G A w hs hv=>by
  have hX:=rd (Rd.w hx nx) (by simp[ho,Op.operands]) hv;have e':=ag.aJ (rd (Rd.w hy ny) (by simp[ho,Op.operands]) hv);obtain⟨e,s1,b1,z,li,h1,h2,h3⟩:=dh hT hl;obtain⟨j,rfl⟩:=zBk h.1;have hj:j≤len:=oM;obtain⟨ob,cap,hB,hne,hob⟩:=cR hs hσ;generalize hA:A.eval x=v at hX;cases hX with
  | sla _ _ _ _ _ a c hq =>
    obtain⟨ob',dK,n',g1,g2,g3⟩:=hq;rw[hB] at g1;simp at g1;obtain⟨rfl,rfl,rfl⟩:=g1;obtain⟨g4,g5⟩:=g3 rfl;have hjc:j≤c:=by
     rcases g5 with g5|⟨rfl,_⟩<;>omega
    have hrb:=de (P:=P) (k:=kd) (i:=(j:Int)) (y:=c) (code:=.sliceAcap) w ⟨oM,oM⟩;rcases zBe len with hz|hz
    · subst hz;have hj0:j=0:=oM;subst hj0;refine⟨.slice a 0 c,?_,.sla _ sz _ _ ver a c ⟨ob,cap,ver,hB,zAt _,fun _=>⟨by simpa using g4,.inl sMp⟩⟩⟩;have FM:=de (P:=P) (k:=kd) (i:=(0:Int)) (y:=c) (code:=.sliceAcap) w ⟨oM,oM⟩;simp only[execOp,ho,hA,Instr.sliceAt,Instr.slice,zD1,zBa];cases a<;>simp[h1.slice w,h2.cg w,Instr.sliceBounds,e',FM,Addr.add]
    · rcases g5 with g5|⟨rfl,rfl⟩
      · omega
      cases ob with
      | none =>
        exfalso;have ho:=hs.bB l _ _ hB hσ;cases ho;omega
      | some b =>
        refine⟨.slice (some ⟨b,off * sz,none⟩) j (cap - off),?_,.sla _ sz _ _ ver _ _ ⟨some b,cap,ver,hB,zAt _,fun _=>⟨by simp;omega,.inr ⟨rfl,rfl⟩⟩⟩⟩;simp only[execOp,ho,hA,Instr.sliceAt,Instr.slice,zD1,zBa];simp[h1.slice w,h2.cg w,h3,Instr.sliceBounds,e',hrb,cq]
theorem vX {z:Array Value} (h:z.toList.all (·.oneCell')=true) (n:Nat):∀v∈(Builtin.zeroCells z n).toList,v.oneCell'=true:=by
 intro v hv;simp only[Builtin.zeroCells,Array.toList_map,zAq] at hv;obtain⟨i,hi,rfl⟩:=hv;have cK:0<z.size:=by
  rcases zBe z.size with h0|h0
  · rw[h0] at hi;simp at hi
  · exact h0
 have hlt:i % z.size<z.size:=Nat.mod_lt _ cK;rw[getElem!_pos z _ hlt];exact zA4.1 h _ (by rw[←Array.getElem_toList (h:=hlt)];exact zCu _)
theorem EStep.nD (hT:T.Ok P) {t e:TypeId} {x:Operand} {l sz off len ver:Nat} {es:List (List AV)} {s1 b1:Nat} {z:List Z} {le:LI} (ho:o.op=.call { callee:=.builtin .clear,args:=#[x],argTypes:=#[t] }) (hg:o.guard=none)
 (hx:rdv env x=some (.sla l sz off len ver)) (nx:rdn env x) (hσ:σ[l]? = some (.arr sz ver es)) (hl:LOk P t ⟨.slice e,s1,b1,z⟩) (he:LOk P e le) (hz0:le.aX.cells.size=sz) (hz1:le.aX.cells.toList.all (·.oneCell')=true) (hdn:eu n o=true)
 (hk:k (env.br o.dst .any) (σ.set l (.arr sz ver (es.take off)))):EStep P n ops o k env σ:=by
 refine EStep.plain hg fun G a w hr=>?_
 have h1:=hr.rd (Rd.w hx nx);generalize hA:a.eval x=X at h1;obtain⟨ob,cap,hB,hne,hob⟩:=cR hr.st hσ;have eJ:=hl.dB;cases h1 with
 | sla _ _ _ _ _ ad c hq =>
   obtain⟨ob',dK,n',g1,g2,g3⟩:=hq;rw[hB] at g1;simp at g1;obtain⟨rfl,rfl,rfl⟩:=g1;obtain⟨g4,g5⟩:=g3 rfl;have same:(execOp a.eval o).run P w=.ok (.value (.tuple #[])) w→OWP P o a w (fun a' w'=>∃aw σ' G',k aw σ'∧G.Le G'∧bf n G' aw σ' a' w'):=fun bl=>by
    unfold OWP;rw[bl];have hs:=hr.st.pB (o':=.arr sz ver (es.take off)) hσ (fun g hg ho=>by
     cases ho with
     |arrz=>simpa using cW.arrz (M:=G.M) (B:=G.B) (w:=w) sz ver
     | arr b cap _ _ _ c T fr hb hf hl hn hz hr hm =>
       refine .arr b cap sz ver _ c T fr hb hf hl (by simp;omega) (fun e he=>hz e (zC0 he)) (fun i j e a hi hj=>?_) hm;rw[zAw] at hi;split at hi
       · exact hr i j e a hi hj
       · cases hi)
    exact⟨_,_,G,hk,Gh.Le.refl G,(⟨hr.size,hr.defers,hr.bh,hs⟩:bf n G env _ a w).br (cu hdn) (.any _)⟩
   rcases zBe len with hz|hz
   · subst hz;refine same ?_;cases ad<;>simp[execOp,ho,resolve,invoke,builtin,hA,Builtin.clear_,run_underlying eJ]
   · rcases g5 with g5|⟨rfl,rfl⟩
     · omega
     cases ob with
     | none =>
       exfalso;have ho:=hr.st.bB l _ _ hB hσ;cases ho;omega
     | some b =>
       obtain⟨cs,T',fr,hbb,hf,hlen,hn,hz',bU,hm⟩:=hob b rfl;have hvs:(Builtin.zeroCells le.aX.cells len).toList.length=len * sz:=by simp[size_zeroCells,hz0]
       have FE:off * sz+0+(Builtin.zeroCells le.aX.cells len).toList.length≤cs.size:=by
        rw[hvs,hlen,zBq,←zB5];exact zAv _ g4
       obtain⟨w',c',r1,r2,r3,r4,r5,r6,j6⟩:=dw (P:=P) (b:=b) (off:=off * sz) (T:=T') (fr:=fr) (Builtin.zeroCells le.aX.cells len).toList 0 cs w hbb hf (vX hz1 len) FE;obtain⟨lm,rfl⟩:∃m,len=m+1:=⟨len - 1,oM⟩
       have bl:(execOp a.eval o).run P w=.ok (.value (.tuple #[])) w':=by
        simp[execOp,ho,resolve,invoke,builtin,hA,Builtin.clear_,run_underlying eJ,he.jg,r1]
       unfold OWP;rw[bl];have hmm:G.M.map b=none:=cQ hr.st.ay hbb sMp;have hs:aC G (σ.set l (.arr sz ver (es.take off))) w':=by
        refine hr.st.upd hB rfl r2 r3 (.arr b cap sz ver _ c' T' fr r4 (by rw[r5];exact hf) (by rw[r5];exact hlen) (by simp;omega) (fun e he=>hz' e (zC0 he)) (fun i' j e av he hj=>?_) hm) ⟨hm,hmm⟩ j6;rw[zAw] at he;split at he
        · rename_i hio;have hel:=hz' e (zAc he);have hjs:j<sz:=by
           have:=(zAb.1 hj).1;omega
          have:=dP hio hjs;rw[r6,if_neg oM];exact bU i' j e av he hj
        · cases he
       exact⟨_,_,G,hk,Gh.Le.refl G,(⟨hr.size,hr.defers,hr.bh,hs⟩:bf n G env _ a w').br (cu hdn) (.any _)⟩
end
end Go.Ab
/-
 DERIVED: THE SHELF's CONTRACTS AT THIS DUMP,IN PLAIN WORDS (tools/lay-plain.mjs out of 'YthiaimakjmhegaaGreatDoorShelfI.lean',which tools/lay-shelf.mjs wrote): THE SAME DECLARATIONS UNDER THE SAME NAMES: 'import','namespace','open','def','theorem' AND NOTHING ELSE: no command of the shelf's: FOR A HAND-IN. Each laying: the table of numbers ('.._ren') and one theorem,a field a fact of the dump's own or the kernel's comparison;each contract: ONE APPLICATION.
-/
namespace Go.Proofs
open Go.Shelf
def Tryz.ow:Go.Shelf.Ren:=⟨fun|21=>239|27=>280|28=>281|35=>300|39=>324|n=>n,fun|22=>75|3=>3|4=>4|0=>0|n=>n,fun|n=>n⟩
theorem Tryz.insI:Go.Proofs.Lays2.n21 Tryz.prog Tryz.ow:={
 mixed:=by kernel_rfl
 f21:=Tryz.func239.trans (congrArg some (by kernel_rfl))
 f27:=Tryz.func280.trans (congrArg some (by kernel_rfl))
 f28:=Tryz.func281.trans (congrArg some (by kernel_rfl))
 f35:=Tryz.func300.trans (congrArg some (by kernel_rfl))
 f39:=Tryz.func324.trans (congrArg some (by kernel_rfl))
 t0:=Tryz.underlying0
 a0:=Tryz.isAgg0
 z0:=Tryz.sizeOf0
 v0:=Tryz.zeroValue0
 t3:=Tryz.underlying3
 a3:=Tryz.isAgg3
 z3:=Tryz.sizeOf3
 v3:=Tryz.zeroValue3
 t4:=Tryz.underlying4
 a4:=Tryz.isAgg4
 z4:=Tryz.sizeOf4
 v4:=Tryz.zeroValue4
 t22:=Tryz.underlying75
 a22:=Tryz.isAgg75
 z22:=Tryz.sizeOf75
 v22:=Tryz.zeroValue75
 i3:=by kernel_rfl }
end Go.Proofs
namespace Go.Ab
theorem AWP.rR {P:Program} {n:Nat} {c:Code} {K:Exit→Env→ae→Prop} {env:Env} {σ:ae} (l:Nat) {cs:List AV} (hσ:σ[l]? = some (.var cs)) (hp:∀c1∈cs,∀(M:Mem) (B B':List GB) (x:Value),ag M B c1 x→ag M B' c1 x)
 (h:AWP P n c K (fun i=>frv l cs (env i)) (σ.set l .dead)):AWP P n c K env σ:=by
 intro G a w hr;have hll:l<σ.length:=by
  rcases zAa l σ.length with h|h
  · exact h
  · simp[zA3 h] at hσ
 have hlb:l<G.B.length:=by rw[hr.st.len];exact hll
 have cP:=hr.st.bB l _ _ (zA1 hlb) hσ;generalize hg:G.B[l]=g at cP;have hBl:G.B[l]? = some g:=by rw[zA1 hlb,hg]
 cases cP with
 | var b _ c0 T fr hb hf hlen hrr hm =>
   have hfr:=hr.st.fresh l _ b hBl rfl;have hle:=Mem.ib (M:=G.M) (b:=b) c0 hm;have hs:aC { G with M:=G.M.bo b c0 } (σ.set l .dead) w:=by
    refine⟨⟨fun b' o v hv=>?_,hr.st.ay.m,hr.st.ay.g.mono hle⟩,fun b' hb'=>⟨fun o=>?_,(hr.st.m0 b' hb').2⟩,hr.st.base,by simp[hr.st.len],fun l' g' o' h1 h2=>?_,hr.st.fresh,hr.st.inj,hr.st.out,⟨fun p hp=>?_,hr.st.dfr.2⟩⟩
    · simp only[Mem.bo] at hv;split at hv
      · rename_i e;subst e;simp only[World.cell?,hb];exact hv
      · exact hr.st.ay.c _ _ _ hv
    · have hne:b'≠b:=fun e=>hfr.1 (e▸hb')
      simp only[Mem.bo,if_neg hne];exact(hr.st.m0 b' hb').1 o
    · by_cases hll':l=l'
      · subst hll';rw[zAf hll] at h2;simp at h2;subst h2;exact .dead _
      · rw[zAp hll'] at h2;have ho:=hr.st.bB l' g' o' h1 h2;have hne:∀b',g'.block=some b'→b'≠b:=fun b' hb' e=>hll' (hr.st.inj l l' _ g' b hBl h1 rfl (e▸hb'))
        exact ho.grow hle (BLe.refl _) (fun _ _=>rfl) fun b' hb'=>⟨fun _=>by simp only[Mem.bo,if_neg (hne b' hb')],rfl⟩
    · obtain⟨k1,k2,k3,k4,k5⟩:=hr.st.dfr.1 p hp;have hne:p.1≠b:=fun e=>k3 l _ hBl (by rw[e];rfl)
      exact⟨k1,k2,k3,fun o=>by simp only[Mem.bo,if_neg hne];exact k4 o,k5⟩
   have hf1:∀u x,ag (G.M.bo b c0) G.B u x→ag (G.M.bo b c0) G.B (om l cs u) x:=by
    intro u x h1;cases u<;>simp only[om]<;>try exact h1
    rename_i l' o;split
    · rename_i e;subst e;cases h1 with
      | ptr _ _ b' hb' =>
        rw[hBl] at hb';simp at hb';subst hb';refine .iptr _ _ _ (fun j=>c0.getD (o+j) undef) (fun j hj=>?_) fun j c1 hj=>?_
        · simp only[zB0] at hj;simp only[Mem.bo,if_pos rfl];have:o+j<c0.size:=oM;simp[this]
        · rw[zB6] at hj;exact hp c1 (zAc hj) _ _ _ _ ((hrr _ _ hj).mono hle (BLe.refl _))
    · exact h1
   have hf:∀u x,ag (G.M.bo b c0) G.B u x→ag (G.M.bo b c0) G.B (frv l cs u) x:=by
    intro u x h1;by_cases hu:∃f a c,u=.fn f a c
    · obtain⟨f,a1,c1,rfl⟩:=hu;simp only[frv];cases h1 with
      | fn _ _ _ vf vc hvf hvc k1 k2 =>
        refine .fn _ _ _ vf vc (by simpa using hvf) (by simpa using hvc) (fun i u hi=>?_) fun i u hi=>?_
        · simp only[zA5,zA6] at hi;obtain⟨u',hi,rfl⟩:=hi;exact hf1 _ _ (k1 i u' hi)
        · simp only[zA5,zA6] at hi;obtain⟨u',hi,rfl⟩:=hi;exact hf1 _ _ (k2 i u' hi)
    · have:frv l cs u=om l cs u:=by
       cases u<;>first|rfl|exact absurd ⟨_,_,_,rfl⟩ hu
      rw[this];exact hf1 _ _ h1
   have hv:∀i,ag (G.M.bo b c0) G.B (frv l cs (env i)) (a.tmps.getD i undef):=fun i=>hf _ _ ((hr.bh i).mono hle (BLe.refl G.B))
   refine wpIn_mono (h { G with M:=G.M.bo b c0 } a w ⟨hr.size,hr.defers,hv,hs⟩) ?_;rintro x a' w' ⟨e,s,G',h1,h2,h3⟩;exact⟨e,s,G',h1,Gh.Le.trans (G':={ G with M:=G.M.bo b c0 }) (.upM hle) h2,h3⟩
theorem uw (f:Fn):∀c1∈[AV.fn f [] []],∀(M:Mem) (B B':List GB) (x:Value),ag M B c1 x→ag M B' c1 x:=fun c1 hc M B B' x h=>by
 rw[zA9.1 hc] at h ⊢;cases h with
 |fn _ _ _ vf vc hf hc' h1 h2=>exact .fn f [] [] vf vc hf hc' (fun i c hi=>by simp at hi) (fun i c hi=>by simp at hi)
section
variable {P:Program} {n:Nat} {ops:Array Oper} {o:Oper} {env:Env} {σ:ae} {k:Env→ae→Prop}
theorem Lm (m j:Nat) (h:j<m):(madeCells #[.int .i64 0] m).getD j undef=.int .i64 0:=by
 have h1:=toList_madeCells_one (.int .i64 0) m;have h2:j<(madeCells #[.int .i64 0] m).size:=by rw[size_madeCells];exact h
 rw[zA2,zAk h2,zCv,←Array.getElem_toList];simp only[h1,List.getElem_replicate]
theorem EStep.FN {t e:TypeId} {x y:Operand} {i:TypeInfo} {m:Int} {d:Nat} (ht:P.underlying t=some (.slice e)) (hi:P.info? e=some i) (hz:i.zero=some (.int .i64 0)) (hs:i.size=1) (hb:i.bytes=8)
 (ho:o.op=.makeSlice t x y) (hg:o.guard=none) (hd:o.dst=some d) (hdn:decide (d<n)=true) (hx:rdv env x=some (.int m)) (nx:rdn env x) (hy:rdv env y=some (.int m)) (ny:rdn env y) (hm:0≤m∧m≤1000000)
 (hk:k (env.put d (.sla σ.length 1 0 m.toNat 0)) (σ++[.arr 1 0 (List.replicate m.toNat [.int 0])])):EStep P n ops o k env σ:=by
 refine EStep.plain hg fun G a w hr=>?_
 have hX:=ag.aJ (hr.rd (Rd.w hx nx));have hY:=ag.aJ (hr.rd (Rd.w hy ny));have bl:=run_make (P:=P) w t e i (.int .i64 0) ht hi hz .i64 .i64 m m hm.1 (zBy _) (by rw[hb];show(8:Int) * m≤_;omega) oM;rw[hs,zCb] at bl;have e1:(execOp a.eval o).run P w=.ok (.value (.slice (some ⟨w.heap.size,0,none⟩) m.toNat m.toNat)) (w.alloc (.cells (madeCells #[.int .i64 0] m.toNat) e)):=by
  simp only[execOp,ho,hX,hY,Sem.run_bind];rw[bl];rfl
 unfold OWP;rw[e1];have hmm:=eV hr.st.ay;have hle:BLe G.B (G.B++[GB.own (some w.heap.size) m.toNat 0]):=BLe.append _ _
 have hs2:=hr.st.alloc (o:=.cells (madeCells #[.int .i64 0] m.toNat) e) (g:=.own (some w.heap.size) m.toNat 0) (ao:=.arr 1 0 (List.replicate m.toNat [.int 0])) rfl
  (.arr w.heap.size m.toNat 1 0 _ _ e (0,0) (by rw[heap_alloc,if_pos rfl]) (by intro o _;simp) (by rw[size_madeCells,zCb]) sMp (fun x hx=>by rw[List.eq_of_mem_replicate hx];rfl) (fun i j x c h1 h2=>by
   have hi':i<m.toNat:=by
    have:=(zAb.1 h1).1;simpa using this
   rw[List.getElem?_replicate,if_pos hi'] at h1;cases h1;have hj:j=0:=by
    have:=(zAb.1 h2).1;simpa using this
   subst hj;cases h2;rw[zCb,zBq,Lm _ _ hi'];exact .prim _) (hmm _ (zAt _)).1)
 refine⟨_,_,_,hk,.upB hle,?_⟩;rw[hd];have hr':bf n { G with B:=G.B++[GB.own (some w.heap.size) m.toNat 0] } env (σ++[.arr 1 0 (List.replicate m.toNat [.int 0])]) a (w.alloc (.cells (madeCells #[.int .i64 0] m.toNat) e)):=hr.later (.upB hle) hs2;refine hr'.put (of_decide_eq_true hdn) ?_;refine .sla σ.length 1 0 m.toNat 0 _ m.toNat ⟨some w.heap.size,m.toNat,0,?_,zAt _,fun _=>⟨oM,.inr ⟨oM,by simp⟩⟩⟩;rw[←hr.st.len];simp
end
end Go.Ab
