/- Parts of the proof. No statement is proved here. -/
import Derived.Laws.Bits64
import Derived.Laws.Bits64b
import Derived.Laws.BytesArg
import Derived.Lib.ConvBytes
import Derived.RecoverIn
import Derived.Test.YthiaimakjmhegaaGreatDoorP4
set_option linter.unusedVariables false
set_option linter.unusedSimpArgs false
set_option maxHeartbeats 16000000
set_option maxRecDepth 20000
/- Arrays of the call's own whose elements change: length, element, load, store; an array that stays from now on. -/
namespace Go.Ab
section
variable {P:Program} {n:Nat} {ops:Array Oper} {o:Oper} {env:Env} {σ:ae} {T:Tab} {k:Env→ae→Prop}
theorem PRun.j8 (hT:T.Ok P) {x:Operand} {l sz off len ver:Nat} {t ty:TypeId} {s1 b1:Nat} {z:List Z} (ho:o.op=.call { callee:=.builtin .len,args:=#[x],argTypes:=#[t] })
 (hx:rdv env x=some (.sla l sz off len ver)) (nx:rdn env x) (hl:T.get t=some ⟨.slice ty,s1,b1,z⟩):PRun P o env σ (.int len) :=
 .of fun G A w hs hv=>by
  have h1:=rd (Rd.w hx nx) (by simp[ho,Op.operands,Call.operands]) hv;generalize hA:A.eval x=y at h1;cases h1 with
  |sla=>exact⟨_,by simp[execOp,ho,hA,resolve,invoke,builtin,Builtin.len_,(LOk.of (hT.get hl)).slice w,goInt],.prim _⟩
theorem cR {G:Gh} {w:World} (hs:aC G σ w) {l sz ver:Nat} {es:List (List AV)} (hσ:σ[l]? = some (.arr sz ver es)):∃ob cap,G.B[l]? = some (.own ob cap ver)∧(es≠[]→∃b,ob=some b)∧∀b,ob=some b →
 ∃(c:Array Value) (T:TypeId) (fr:Nat×Nat),w.heap[b]? = some (.cells c T fr)∧rC fr c.size∧c.size=cap * sz∧es.length≤cap∧(∀e∈es,e.length=sz) ∧
  (∀(i j:Nat) (e:List AV) (a:AV),es[i]? = some e→e[j]? = some a→ag G.M G.B a (c.getD (i * sz+j) undef))∧∀o,G.M.cell b o=none:=by
 have hlt:l<σ.length:=by
  rcases zAa l σ.length with h|h
  · exact h
  · simp[zA3 h] at hσ
 obtain⟨g,hg⟩:∃g,G.B[l]? = some g:=⟨_,zA1 (by rw[hs.len];exact hlt)⟩
 have ho:=hs.bB l g _ hg hσ;cases ho with
 |arrz=>exact⟨none,0,hg,fun h=>absurd rfl h,fun b hb=>by cases hb⟩
 |arr b cap _ _ _ c T fr hb hf hl hn hz hr hm=>exact⟨some b,cap,hg,fun _=>⟨b,rfl⟩,fun b' hb'=>by cases hb';exact⟨c,T,fr,hb,hf,hl,hn,hz,hr,hm⟩⟩
theorem PRun.J4 (hT:T.Ok P) {t:TypeId} {x y:Operand} {l sz off len ver:Nat} {es:List (List AV)} {kd:IntKind} {i:Int} (ho:o.op=.indexAddr t x y) (hx:rdv env x=some (.sla l sz off len ver)) (nx:rdn env x)
 (hy:rdv env y=some (.prim (.int kd i))) (ny:rdn env y) (hsz:dO T t=some sz) (cK:0<sz) (hσ:σ[l]? = some (.arr sz ver es)) (h:0≤i∧i<len):PRun P o env σ (.cm l sz (off+i.toNat) 0 ver) :=
 .of fun G A w hs hv=>by
  have hX:=rd (Rd.w hx nx) (by simp[ho,Op.operands]) hv;have hY:=ag.aJ (rd (Rd.w hy ny) (by simp[ho,Op.operands]) hv);generalize hA:A.eval x=v at hX;obtain⟨m,rfl⟩:=zBk h.1;have hm:m<len:=oM;obtain⟨e,s1,b1,z,li,h1,h2,h3⟩:=dh hT hsz;obtain⟨ob,cap,hB,hne,hob⟩:=cR hs hσ;cases hX with
  | sla _ _ _ _ _ a c hr =>
    obtain⟨ob',dK,n',g1,g2,g3⟩:=hr;rw[hB] at g1;simp at g1;obtain⟨rfl,rfl,rfl⟩:=g1;obtain⟨g4,g5⟩:=g3 rfl;rcases g5 with g5|⟨rfl,rfl⟩
    · omega
    cases ob with
    | none =>
      exfalso;have ho:=hs.bB l _ _ hB hσ;cases ho;omega
    | some b =>
      refine⟨.pointer (some ⟨b,off * sz+m * sz,none⟩),?_,?_⟩
      · simp only[execOp,ho,hA,hY,Instr.indexAt,asIntOf];simp[h1.slice w,h2.cg w,h3,hm,cq]
      · refine .cm l sz _ 0 ver b _ ⟨_,_,_,hB,zAt _,fun _=>⟨?_,cK,?_,rfl⟩⟩
        · simp;omega
        · simp[zB5]
theorem PRun.qy (hT:T.Ok P) {t:TypeId} {x y:Operand} {l sz len ver:Nat} {es:List (List AV)} {kd:IntKind} {i:Int} (ho:o.op=.indexAddr t x y) (hx:rdv env x=some (.sla l sz 0 len ver)) (nx:rdn env x)
 (hy:rdv env y=some (.prim (.int kd i))) (ny:rdn env y) (hsz:dO T t=some sz) (cK:0<sz) (hσ:σ[l]? = some (.arr sz ver es)) (h:0≤i∧i<len):PRun P o env σ (.cm l sz i.toNat 0 ver):=by
 have:=PRun.J4 hT ho hx nx hy ny hsz cK hσ h;rwa [zBv] at this
theorem PRun.mn (hT:T.Ok P) {t:TypeId} {x:Operand} {l sz i off ver:Nat} {es:List (List AV)} {li:LI} {e:List AV} {u:AV} (ho:o.op=.load t x) (hx:rdv env x=some (.cm l sz i off ver)) (nx:rdn env x)
 (hσ:σ[l]? = some (.arr sz ver es)) (hi:i<es.length) (he:es.getD i []=e) (hl:T.get t=some li) (hu:iC li off e=some u):PRun P o env σ u :=
 .of fun G A w hs hv=>by
  have hX:=rd (Rd.w hx nx) (by simp[ho,Op.operands]) hv;generalize hA:A.eval x=v at hX;obtain⟨ob,cap,hB,hne,hob⟩:=cR hs hσ;cases hX with
  | cm _ _ _ _ _ b q hr =>
    obtain⟨ob',dK,n',g1,g2,g3⟩:=hr;rw[hB] at g1;simp at g1;obtain⟨rfl,rfl,rfl⟩:=g1;obtain⟨g4,g5,rfl,rfl⟩:=g3 rfl;obtain⟨c,T',fr,hb,hf,hl',hn,hz,hrr,hm⟩:=hob b rfl;have hlk:=LOk.of (hT.get hl);have hei:es[i]? = some e:=by rw[←he];simp[List.getD,hi]
    have hez:=hz e (zAc hei);obtain⟨hu1,hu2⟩:=jC hu;have nY:i<cap:=oM;have fc:∀j,j<(if li.lt.isAgg then li.size else 1)→w.cell? ⟨b,i * sz+off+j,none⟩=some (c.getD (i * sz+(off+j)) undef):=fun j hj=>by
     have h1:off+j<sz:=oM;have h2:=dP nY h1;have h3:i * sz+(off+j)<c.size:=by rw[hl'];exact h2
     simp only[World.cell?,hb];rw[show i * sz+off+j=i * sz+(off+j) by omega];simp[h3]
    refine⟨if li.lt.isAgg then .agg ((List.range li.size).map fun j=>c.getD (i * sz+(off+j)) undef).toArray else c.getD (i * sz+(off+0)) undef,?_,?_⟩
    · simp only[execOp,ho,hA,Instr.loadAt,Instr.sureAddr];simp only[Sem.run_bind,Sem.run_pure,Result.andThen_ok];rw[ku hlk w b (i * sz+off) (fun j=>c.getD (i * sz+(off+j)) undef) fc];rfl
    rw[←hu1];unfold hK;cases ha:li.lt.isAgg with
    | true =>
      simp only[ha,if_true] at hu2 ⊢;refine .agg _ _ (by simp;omega) fun j a hj=>?_
      rw[zAw] at hj;split at hj
      · rename_i hlt;rw[zB6] at hj;have:=hrr i (off+j) e a hei hj;simpa[hlt] using this
      · simp at hj
    | false =>
      simp only[ha,zAz,if_false] at hu2 ⊢;have hlt:off<e.length:=oM;have:=hrr i off e e[off] hei (zA1 hlt);have e2:(e.drop off).headD .any=e[off]:=by
       rw[zBj hlt];rfl
      rw[e2];simpa using this
theorem PRun.J5 {α:Type} [Inhabited α] {f:α→List AV} {xs:List α} (hT:T.Ok P) {t:TypeId} {x:Operand} {l sz i off ver:Nat} {li:LI} {u:AV} (ho:o.op=.load t x) (hx:rdv env x=some (.cm l sz i off ver)) (nx:rdn env x)
 (hσ:σ[l]? = some (.arr sz ver (xs.map f))) (hi:i<xs.length) (hl:T.get t=some li) (hu:iC li off (f (xs.getD i default))=some u):PRun P o env σ u :=
 PRun.mn hT ho hx nx hσ (by simpa using hi) (by simp[List.getD,hi]) hl hu
theorem PRun.J6 (hT:T.Ok P) {s:TypeId} {x:Operand} {f ft pw szf l sz i off ver:Nat} (ho:o.op=.fieldAddr s x f) (hx:rdv env x=some (.cm l sz i off ver)) (nx:rdn env x) (hf:ju T s f=some (ft,pw,szf)) (hlt:decide (off+pw<sz)=true) :
 PRun P o env σ (.cm l sz i (off+pw) ver) :=
 .of fun G A w hs hv=>by
  have hX:=rd (Rd.w hx nx) (by simp[ho,Op.operands]) hv;generalize hA:A.eval x=v at hX;obtain⟨h1,fs,s1,b1,z,h2,h3⟩:=jD hT hf;cases hX with
  | cm _ _ _ _ _ b q hr =>
    obtain⟨ob,cap,n',g1,g2,g3⟩:=hr;refine⟨.pointer (some ⟨b,q+pw,none⟩),?_,.cm l sz i _ ver b _ ⟨ob,cap,n',g1,g2,fun e=>?_⟩⟩
    · obtain⟨F,k2,k3⟩:=h2.struct w;obtain⟨fd,k4,k5,k6,k7⟩:=k3 _ _ _ _ h3;have hi:∃i,P.info? ft=some i∧i.size=szf:=by
       cases hq:P.info? ft with
       |none=>simp[hq] at k7;exact absurd k7.symm h1
       |some i=>exact⟨i,rfl,by simpa[hq] using k7⟩
      obtain⟨i,hi1,hi2⟩:=hi;simp[execOp,ho,hA,Instr.fieldAt,k2,k4,Instr.sureAddr,fieldPlace,sizeOf,typeInfo,k5,k6,hi1,hi2,h1,cq]
    · obtain⟨k1,k2,k3,k4⟩:=g3 e;exact⟨k1,of_decide_eq_true hlt,oM,k4⟩
theorem EStep.sP (hT:T.Ok P) {t:TypeId} {x y:Operand} {l sz i ver:Nat} {es:List (List AV)} {u:AV} {us:List AV} {li:LI} (ho:o.op=.store t x y) (hg:o.guard=none) (hx:rdv env x=some (.cm l sz i 0 ver)) (nx:rdn env x)
 (hσ:σ[l]? = some (.arr sz ver es)) (hi:i<es.length) (hy:rdv env y=some u) (ny:rdn env y) (hc:cd u=some us) (jh:us.all eH=true) (hl:T.get t=some li) (hsz:li.size=us.length) (Bh:us.length=sz) (hdn:eu n o=true)
 (hk:k (env.br o.dst .any) (σ.set l (.arr sz ver (es.set i us)))):EStep P n ops o k env σ:=by
 refine EStep.plain hg fun G a w hr=>?_
 have h1:=hr.rd (Rd.w hx nx);generalize hA:a.eval x=X at h1;obtain⟨ob,cap,hB,hne,hob⟩:=cR hr.st hσ;cases h1 with
 | cm _ _ _ _ _ b q hrr =>
   obtain⟨ob',dK,n',g1,g2,g3⟩:=hrr;rw[hB] at g1;simp at g1;obtain⟨rfl,rfl,rfl⟩:=g1;obtain⟨g4,g5,rfl,rfl⟩:=g3 rfl;obtain⟨c,T',fr,hbb,hf,hlen,hn,hz,bU,hm⟩:=hob b rfl;have hlk:=LOk.of (hT.get hl);have h2:=hr.rd (Rd.w hy ny);obtain⟨h3,h4⟩:=iN hc h2;have nY:i<cap:=oM;have FE:i * sz+0+us.length≤c.size:=by
    rw[hlen,Bh];have:=zAv sz (show i+1≤cap from nY);rw[zB5,zDm] at this;omega
   obtain⟨w',c',r1,r2,r3,r4,r5,r6,j6⟩:=dw (P:=P) (b:=b) (off:=i * sz+0) (T:=T') (fr:=fr) (a.eval y).cells.toList 0 c w hbb hf (fun v hv=>by
    obtain⟨i,hi,rfl⟩:=zAu.1 hv;have hi':i<us.length:=by simpa[h3] using hi
    have:=h4 i us[i] (zA1 hi');have h5:=zA4.1 jh us[i] (zCu hi');have h6:=js h5 this;have hi2:i<(a.eval y).cells.size:=oM;simpa[hi2] using h6) (by simp only[zBp,h3];omega)
   have bl:(execOp a.eval o).run P w=.ok .skip w':=by
    simp only[execOp,ho,hA,Instr.storeAt,Instr.sureAddr,storeVar];simp only[zBq] at r1;simp[hlk.cg w,h3,hsz,r1]
   unfold OWP;rw[bl];have hmm:G.M.map b=none:=cQ hr.st.ay hbb sMp;have hs:aC G (σ.set l (.arr sz ver (es.set i us))) w':=by
    refine hr.st.upd hB rfl r2 r3 (.arr b cap sz ver _ c' T' fr r4 (by rw[r5];exact hf) (by rw[r5];exact hlen) (by simpa using hn) (fun e he=>?_) (fun i' j e av he hj=>?_) hm) ⟨hm,hmm⟩ j6
    · rcases zD4 he with h|h
      · exact hz e h
      · rw[h];exact Bh
    · have hjs:j<sz:=by
       have hle:e.length=sz:=by
        rcases zD4 (zAc he) with h|h
        · exact hz e h
        · rw[h];exact Bh
       rcases zAa j e.length with h|h
       · omega
       · simp[zA3 h] at hj
      rw[r6 (i' * sz+j)];simp only[zBq,zBp,h3,Bh];by_cases hii:i=i'
      · subst hii;rw[zAf hi] at he;simp at he;subst he;rw[if_pos ⟨oM,oM⟩];have:=h4 j av hj;simpa using this
      · rw[zAp hii] at he;have hno:¬(i * sz≤i' * sz+j∧i' * sz+j<i * sz+sz):=by
         rintro⟨q1,q2⟩;rcases zAa i i' with h|h
         · have:=zAv sz (show i+1≤i' from h);rw[zB5,zDm] at this;omega
         · have:=zAv sz (show i'+1≤i by omega);rw[zB5,zDm] at this;omega
        rw[if_neg hno];exact bU i' j e av he hj
   have hr':bf n G env (σ.set l (.arr sz ver (es.set i us))) a w':=⟨hr.size,hr.defers,hr.bh,hs⟩;exact⟨_,_,G,hk,Gh.Le.refl G,hr'.br (cu hdn) (.any _)⟩
theorem AWP.gM {c:Code} {K:Exit→Env→ae→Prop} {d l sz ver:Nat} {es:List (List AV)} (hd:env d=.sla l sz 0 es.length ver) (hσ:σ[l]? = some (.arr sz ver es))
 (og:∀e∈es,∀a∈e,∀M B x,ag M B a x→ag M [] a x) (h:AWP P n c K (env.put d (.sl sz es .no)) (σ.set l .dead)):AWP P n c K env σ:=by
 intro G a w hr;obtain⟨ob,cap,hB,hne,hob⟩:=cR hr.st hσ;have hlt:l<σ.length:=by
  rcases zAa l σ.length with h|h
  · exact h
  · simp[zA3 h] at hσ
 have hvd:=hr.bh d;rw[hd] at hvd;generalize hX:a.tmps.getD d undef=X at hvd
 -- the object is dead now
 have dead:∀(M':Mem),G.M.Le M'→(∀b,(∀b0,ob=some b0→b≠b0)→(∀o,M'.cell b o=G.M.cell b o)∧M'.map b=G.M.map b)→dc M' w→aC { G with M:=M' } (σ.set l .dead) w:=fun M' hle hoth hok=>by
  have pG:∀b0,ob=some b0→¬G.w0.iI b0∧∀(l':Nat) (g:GB),G.B[l']? = some g→g.block=some b0→l'=l:=fun b0 e=>by
   subst e;exact⟨(hr.st.fresh l _ b0 hB rfl).1,fun l' g h1 h2=>hr.st.inj l' l g _ b0 h1 hB h2 rfl⟩
  refine⟨hok,fun b hb=>?_,hr.st.base,by simp[hr.st.len],fun l' g' o' h1 h2=>?_,hr.st.fresh,hr.st.inj,hr.st.out,⟨fun p hp=>?_,hr.st.dfr.2⟩⟩
  · have:=hoth b fun b0 e eb=>(pG b0 e).1 (eb▸hb)
    have h0:=hr.st.m0 b hb;exact⟨fun o=>(this.1 o).trans (h0.1 o),this.2.trans h0.2⟩
  · by_cases hll:l=l'
    · subst hll;rw[zAf hlt] at h2;simp at h2;subst h2;exact .dead _
    · rw[zAp hll] at h2;refine(hr.st.bB l' g' o' h1 h2).grow hle (BLe.refl _) (fun _ _=>rfl) fun b hb=>hoth b fun b0 e eb=>?_
      subst eb;exact hll ((pG b e).2 l' g' h1 hb).symm
  · obtain⟨k1,k2,k3,k4,k5⟩:=hr.st.dfr.1 p hp;have:=hoth p.1 fun b0 e eb=>by
     subst e;exact k3 l _ hB (by rw[eb];rfl)
    exact⟨k1,k2,k3,fun o=>(this.1 o).trans (k4 o),this.2.trans k5⟩
 have fin:∀(M':Mem),G.M.Le M'→aC { G with M:=M' } (σ.set l .dead) w→ag M' G.B (.sl sz es .no) X→c.wpIn (FR G.R) 0 P (fun x a' w'=>∃aw σ' G',K x aw σ'∧G.Le G'∧bf n G' aw σ' a' w') a w:=fun M' hle hs hv=>by
  have hr':bf n { G with M:=M' } (env.put d (.sl sz es .no)) (σ.set l .dead) a w:=by
   refine⟨hr.size,hr.defers,fun i=>?_,hs⟩;simp only[Env.put];split
   · rename_i e;subst e;rw[hX];exact hv
   · exact(hr.bh i).mono hle (BLe.refl _)
  refine wpIn_mono (h { G with M:=M' } a w hr') ?_;rintro x a' w' ⟨e,s,G',h1,h2,h3⟩;exact⟨e,s,G',h1,Gh.Le.trans (G':={ G with M:=M' }) (.upM hle) h2,h3⟩
 cases hvd with
 | sla _ _ _ _ _ ad cc hq =>
   obtain⟨ob',dK,n',g1,g2,g3⟩:=hq;rw[hB] at g1;simp at g1;obtain⟨rfl,rfl,rfl⟩:=g1;obtain⟨g4,g5⟩:=g3 rfl;by_cases hes:es=[]
   · subst hes;exact fin G.M (Mem.Le.refl _) (dead G.M (Mem.Le.refl _) (fun _ _=>⟨fun _=>rfl,rfl⟩) hr.st.ay) (.slzz sz ad cc)
   · obtain⟨b,rfl⟩:=hne hes;obtain⟨cs,T',fr,hbb,hf,hlen,hn,hz,bU,hm⟩:=hob b rfl;have sQ:es.length≠0:=fun e=>hes (zAr e)
     rcases g5 with g5|⟨rfl,rfl⟩
     · exact absurd g5 sQ
     have hle:=Mem.ib (M:=G.M) (b:=b) cs hm;refine fin (G.M.bo b cs) hle (dead _ hle (fun b' hb'=>?_) ?_) ?_
     · have:=hb' b rfl;exact⟨fun o=>by simp only[Mem.bo,if_neg this],rfl⟩
     · refine⟨fun b' o v hv=>?_,hr.st.ay.m,hr.st.ay.g.mono hle⟩;simp only[Mem.bo] at hv;split at hv
       · rename_i e;subst e;simp only[World.cell?,hbb];exact hv
       · exact hr.st.ay.c _ _ _ hv
     · simp only[zBa,zD2,Nat.sub_zero];refine .sl sz es .no b 0 _ (fun i j=>cs.getD (i * sz+j) undef) hz (fun i j hi hj=>?_) (fun i j e a he ha=>?_) hn trivial
       · have h1:=dP (zC3 hi hn) hj;have h2:i * sz+j<cs.size:=by rw[hlen];exact h1
         simp only[Mem.bo,if_pos rfl,zBv];simp[h2]
       · exact og e (zAc he) a (zAc ha) _ _ _ ((bU i j e a he ha).mono hle (BLe.refl _))
end
end Go.Ab
/- Structs and arrays of scalars, nested, compared. -/
namespace Go.Ab
def nv (P:Program) (rec:TypeId→Option (List LT)):Nat→List Field→Option (List LT)
 |_,[]=>some []
 | k, f :: r => match rec f.type with
   | some l => if f.name ≠ "_" ∧ f.offset = k ∧ l ≠ [] then (nv P rec (k + l.length) r).map (l ++ ·) else none
   |none=>none
def gw (P:Program):Nat→TypeId→Option (List LT)
 |0,_=>none
 | k + 1, t => match P.underlying t, P.info? t with
   |some (.struct F),some i=>if P.stoodInHeld t=false then (match nv P (gw P k) 0 F.toList with|some l=>if i.size=l.length then some l else none|none=>none) else none
   | some (.array n e), some i => match gw P k e with
     |some l=>if i.size=n * l.length∧l≠[] then some ((List.replicate n l).flatten) else none
     |none=>none
   |some d,some i=>if xd (ltOf P d)=true∧i.size=1 then some [ltOf P d] else none
   |_,_=>none
def Ds (P:Program) (t:TypeId):Bool:=match P.underlying t with
 |some d=>(ltOf P d).isAgg
 |none=>false
def mq (P:Program) (t:TypeId):Option (List LT):=if P.eqGuardType P.depth t=false∧Ds P t=true then gw P 8 t else none
def eZ:List LT→List Value→List Value→Option Bool
 |[],[],[]=>some true
 | t :: ts, a :: r, b :: s => match eqV t a b, eZ ts r s with
   |some h,some u=>some (h&&u)
   |_,_=>none
 |_,_,_=>none
theorem xl:∀{ts:List LT} {us vs:List Value} {r:Bool},eZ ts us vs=some r→us.length=ts.length∧vs.length=ts.length
 |[],[],[],_,_=>⟨rfl,rfl⟩
 | t :: ts, a :: us, b :: vs, r, h => by
   simp only[eZ] at h;split at h
   · rename_i g1 g2;have:=xl g2;simp[this.1,this.2]
   · simp at h
theorem mR:∀{ts us:List LT} {xs ys:List Value} {r:Bool},eZ (ts++us) xs ys=some r→∃a b,eZ ts (xs.take ts.length) (ys.take ts.length)=some a∧eZ us (xs.drop ts.length) (ys.drop ts.length)=some b∧r=(a&&b)
 |[],us,xs,ys,r,h=>⟨true,r,by simp[eZ],by simpa using h,by simp⟩
 |t::ts,us,[],_,r,h=>by simp[eZ] at h
 |t::ts,us,_::_,[],r,h=>by simp[eZ] at h
 | t :: ts, us, x :: xs, y :: ys, r, h => by
   simp only[zDe,eZ] at h;split at h
   · rename_i h0 u0 g1 g2;obtain⟨a,b,e1,e2,e3⟩:=mR g2;simp only[Option.some.injEq] at h;subst h;subst e3;exact⟨h0&&a,b,by simp[eZ,g1,e1],by simpa using e2,by rw[zDw]⟩
   · simp at h
def ga (P:Program) (t:TypeId) (l:List Value):Value:=match P.underlying t with
 |some d=>if (ltOf P d).isAgg then .agg l.toArray else l.headD undef
 |none=>undef
theorem Bi {P:Program} {d:TypeDesc}:(ltOf P d).isAgg=true↔(∃F,d=.struct F)∨∃n e,d=.array n e:=by
 cases d<;>simp[ltOf,LT.isAgg]
theorem sR {P:Program}:∀{k:Nat} {t:TypeId} {ts:List LT},gw P k t=some ts→∃d i,P.underlying t=some d∧P.info? t=some i∧i.size=ts.length∧((ltOf P d).isAgg=false→xd (ltOf P d)=true∧ts=[ltOf P d])
 |0,_,_,h=>by simp[gw] at h
 | k + 1, t, ts, h => by
   simp only[gw] at h;split at h
   · rename_i F i hu hi;split at h
     · split at h
       · split at h
         · rename_i h1;simp only[Option.some.injEq] at h;subst h;exact⟨_,_,hu,hi,h1,fun e=>by simp[ltOf,LT.isAgg] at e⟩
         · simp at h
       · simp at h
     · simp at h
   · rename_i n e i hu hi;split at h
     · rename_i l hl;split at h
       · rename_i h1;simp only[Option.some.injEq] at h;subst h;exact⟨_,_,hu,hi,by rw[h1.1];simp,fun e=>by simp[ltOf,LT.isAgg] at e⟩
       · simp at h
     · simp at h
   · rename_i hn1 hn2 hu hi;split at h
     · rename_i h1;simp only[Option.some.injEq] at h;subst h;exact⟨_,_,hu,hi,by simpa using h1.2,fun _=>⟨h1.1,rfl⟩⟩
     · simp at h
   · simp at h
theorem jk {P:Program} {k:Nat} {t:TypeId} {ts:List LT} (hfl:gw P k t=some ts) (cs:Array Value) (off:Nat) (h:off+ts.length≤cs.size) (w:World) :
 (part t cs off).run P w=.ok (ga P t ((cs.toList.drop off).take ts.length)) w:=by
 obtain⟨d,i,hu,hi,hs,hsc⟩:=sR hfl;have ha:(isAgg t).run P w=.ok (ltOf P d).isAgg w:=by
  unfold isAgg;rw[Sem.run_bind,run_underlying hu w];cases d<;>rfl
 unfold part ga;rw[Sem.run_bind,ha,hu];simp only[Result.andThen_ok];cases hag:(ltOf P d).isAgg with
 | true =>
   simp only[if_true,Sem.run_bind];have hz:(sizeOf t).run P w=.ok ts.length w:=by simp[sizeOf,typeInfo,hi,hs]
   rw[hz];simp only[Result.andThen_ok,Sem.run_pure];congr 2;apply Array.toList_inj.1;simp[Array.toList_extract,List.extract_eq_take_drop]
 | false =>
   obtain⟨_,rfl⟩:=hsc hag;simp only[zBb] at h ⊢;have hlt:off<cs.size:=oM;simp only[zAz,if_false];have e:(List.take 1 (List.drop off cs.toList)).headD undef=cs[off]:=by
    rw[zBj (by simpa using hlt)];simp
   rw[e];simp[hlt]
theorem FF {P : Program} (n : Nat) (w : World) (k0 : Nat) (xs ys : Array Value)
    (uo:∀(t:TypeId) (ts:List LT),gw P k0 t=some ts→∀(as bs:List Value) (r:Bool),eZ ts as bs=some r→(Op.equalIn n t (ga P t as) (ga P t bs)).run P w=.ok r w) :
    ∀(F:List Field) (k:Nat) (ts:List LT) (r:Bool),nv P (gw P k0) k F=some ts→k+ts.length≤xs.size→k+ts.length≤ys.size→eZ ts ((xs.toList.drop k).take ts.length) ((ys.toList.drop k).take ts.length)=some r →
    (do for f in F do
          if f.name ≠ "_" then
            if !(←Op.equalIn n f.type (←part f.type xs f.offset) (←part f.type ys f.offset)) then return false
        pure true:Sem Bool).run P w=.ok r w:=by
  intro F;induction F with
  | nil =>
    intro k ts r h1 _ _ h2;simp only[nv,Option.some.injEq] at h1;subst h1;simp[eZ] at h2;subst h2;rfl
  | cons f F ih =>
    intro k ts r h1 hx hy h2;simp only[nv] at h1;split at h1
    · rename_i l hl;split at h1
      · rename_i hc;obtain⟨c1,c2,c3⟩:=hc;simp only[zA6] at h1;obtain⟨l2,hF,rfl⟩:=h1;simp only[zCr] at hx hy;obtain⟨a,b,e1,e2,rfl⟩:=mR h2;have p1:=jk hl xs k oM w;have p2:=jk hl ys k oM w
        have t1 : ∀ zs : List Value, (((zs.drop k).take (l ++ l2).length).take l.length) = (zs.drop k).take l.length := fun zs => by
          rw[List.take_take];congr 1;simp
        have t2 : ∀ zs : List Value, (((zs.drop k).take (l ++ l2).length).drop l.length) = (zs.drop (k + l.length)).take l2.length := fun zs => by
          rw[List.drop_take,List.drop_drop];congr 1;simp
        rw[t1,t1] at e1;rw[t2,t2] at e2;have e3:=uo _ _ hl _ _ _ e1;have ih':=ih (k+l.length) l2 b hF oM oM e2;simp only[List.forIn_cons,c2];cases a with
        | true =>
          simp only[zAy];rw[←ih'];simp only[ne_eq,c1,not_false_eq_true,if_true,Sem.run_bind,p1,p2,e3,Result.andThen_ok];simp
        | false =>
          simp only[ne_eq,c1,not_false_eq_true,if_true,Sem.run_bind,p1,p2,e3,Result.andThen_ok];simp
      · simp at h1
    · simp at h1
theorem FG {P : Program} (n : Nat) (w : World) (k0 : Nat) (e : TypeId) (l : List LT) (hl : gw P k0 e = some l) (xs ys : Array Value)
    (uo:∀(as bs:List Value) (r:Bool),eZ l as bs=some r→(Op.equalIn n e (ga P e as) (ga P e bs)).run P w=.ok r w) :
    ∀(m i0:Nat) (r:Bool),(i0+m) * l.length≤xs.size→(i0+m) * l.length≤ys.size→eZ ((List.replicate m l).flatten) ((xs.toList.drop (i0 * l.length)).take (m * l.length)) ((ys.toList.drop (i0 * l.length)).take (m * l.length))=some r →
    (do for i in List.range' i0 m do
          if !(←Op.equalIn n e (←part e xs (i * l.length)) (←part e ys (i * l.length))) then return false
        pure true:Sem Bool).run P w=.ok r w:=by
  intro m;induction m with
  | zero =>
    intro i0 r _ _ h;simp[eZ] at h;subst h;rfl
  | succ m ih =>
    intro i0 r hx hy h;rw[List.replicate_succ,List.flatten_cons] at h;obtain⟨a,b,e1,e2,rfl⟩:=mR h;have hm:(i0+(m+1)) * l.length=i0 * l.length+l.length+m * l.length:=by rw[zB5,zB5];omega
    have hm2:(m+1) * l.length=l.length+m * l.length:=by rw[zB5];omega
    have hm3:(i0+1) * l.length=i0 * l.length+l.length:=by rw[zB5];omega
    have hm4:(i0+1+m) * l.length=i0 * l.length+l.length+m * l.length:=by rw[zB5,zB5];omega
    have p1:=jk hl xs (i0 * l.length) oM w;have p2:=jk hl ys (i0 * l.length) oM w
    have t1 : ∀ zs : List Value, (((zs.drop (i0 * l.length)).take ((m + 1) * l.length)).take l.length) = (zs.drop (i0 * l.length)).take l.length := fun zs => by
      rw[List.take_take];congr 1;omega
    have t2 : ∀ zs : List Value, (((zs.drop (i0 * l.length)).take ((m + 1) * l.length)).drop l.length) = (zs.drop ((i0 + 1) * l.length)).take (m * l.length) := fun zs => by
      rw[List.drop_take,List.drop_drop];congr 1
      · omega
      · rw[hm3]
    rw[t1,t1] at e1;rw[t2,t2] at e2;have e3:=uo _ _ _ e1;have ih':=ih (i0+1) b oM oM e2;simp only[List.range'_succ,List.forIn_cons];cases a with
    | true =>
      simp only[zAy];rw[←ih'];simp only[Sem.run_bind,p1,p2,e3,Result.andThen_ok];simp
    | false =>
      simp only[Sem.run_bind,p1,p2,e3,Result.andThen_ok];simp
theorem uq {P:Program} (w:World):∀(k:Nat) (t:TypeId) (ts:List LT),gw P k t=some ts→∀n,k≤n→∀(as bs:List Value) (r:Bool),eZ ts as bs=some r→(Op.equalIn n t (ga P t as) (ga P t bs)).run P w=.ok r w
 |0,_,_,h,_,_,_,_,_,_=>by simp[gw] at h
 |k+1,t,ts,h,0,hn,_,_,_,_=>by omega
 | k + 1, t, ts, h, n + 1, hn, as, bs, r, he => by
   have uo:=uq (P:=P) w k;simp only[gw] at h;obtain⟨l1,l2⟩:=xl he;split at h
   · rename_i F i hu hi;split at h
     · rename_i hsi;split at h
       · rename_i l hF;split at h
         · rename_i h1;simp only[Option.some.injEq] at h;subst h;have hv:∀z:List Value,ga P t z=.agg z.toArray:=fun z=>by simp[ga,hu,ltOf,LT.isAgg]
           rw[hv,hv];have e:=FF n w k as.toArray bs.toArray (fun t ts h as bs r he=>uo t ts h n oM as bs r he) F.toList 0 l r hF (by simp[l1]) (by simp[l2]) (by simp only[List.drop_zero];rw[zAh oM,zAh oM];exact he);rw[Op.equalIn,Sem.run_bind,run_underlying hu w];simp only[Result.andThen_ok];simp only[Sem.run_bind,run_program,Result.andThen_ok,hsi,zAz,if_false];obtain⟨L,rfl⟩:∃L,F=List.toArray L:=⟨F.toList,by simp⟩
           simp only[List.forIn_toArray];simpa[Sem.run_bind] using e
         · simp at h
       · simp at h
     · simp at h
   · rename_i m e i hu hi;split at h
     · rename_i l hl;split at h
       · rename_i h1;simp only[Option.some.injEq] at h;subst h;have hv:∀z:List Value,ga P t z=.agg z.toArray:=fun z=>by simp[ga,hu,ltOf,LT.isAgg]
         rw[hv,hv];have hlen:((List.replicate m l).flatten).length=m * l.length:=sMp;rw[hlen] at l1 l2;have e9:=FG n w k e l hl as.toArray bs.toArray (fun as bs r he=>uo _ _ hl n oM as bs r he) m 0 r (by simp[l1]) (by simp[l2]) (by
          simp only[zD2,List.drop_zero];rw[←l1,zBl,l1,←l2,zBl];exact he)
         obtain⟨_,i2,hu2,hi2,hs2,_⟩:=sR hl;have hz:(sizeOf e).run P w=.ok l.length w:=by simp[sizeOf,typeInfo,hi2,hs2]
         rw[Op.equalIn,Sem.run_bind,run_underlying hu w];simp only[Result.andThen_ok];rw[Sem.run_bind,hz];simp only[Result.andThen_ok];simp only[Std.Legacy.Range.forIn_eq_forIn_range',Std.Legacy.Range.size];simpa[Sem.run_bind] using e9
       · simp at h
     · simp at h
   · rename_i d i hn1 hn2 hu hi;split at h
     · rename_i h1;simp only[Option.some.injEq] at h;subst h;have hag:(ltOf P d).isAgg=false:=by
        cases hh:(ltOf P d).isAgg with
        |false=>rfl
        | true =>
          rcases Bi.1 hh with ⟨F,rfl⟩|⟨m,e,rfl⟩
          · exact(hn1 _ rfl).elim
          · exact(hn2 _ _ rfl).elim
       match as,bs,he with
       | [a], [b], he =>
         simp only[eZ] at he;split at he
         · rename_i h0 u0 g1 g2;simp at g2;subst g2;simp at he;subst he;have hv:∀z:Value,ga P t [z]=z:=fun z=>by simp[ga,hu,hag]
           rw[hv,hv];exact Ao hu g1 n w
         · simp at he
     · simp at h
   · simp at h
theorem ve {M:Mem} {B:List GB}:∀{ts:List LT} {us vs:List AV} {r:Bool} {xs ys:List Value},kW ts us vs=some r→xs.length=us.length→ys.length=vs.length→(∀i c,us[i]? = some c→ag M B c (xs.getD i undef))→(∀i c,vs[i]? = some c→ag M B c (ys.getD i undef))→eZ ts xs ys=some r
 |[],[],[],r,[],[],h,_,_,_,_=>by simp[kW] at h;subst h;rfl
 |[],[],[],_,_::_,_,_,h,_,_,_=>by simp at h
 |[],[],[],_,[],_::_,_,_,h,_,_=>by simp at h
 |t::ts,.prim a::us,.prim b::vs,r,[],_,h,hl,_,_,_=>by simp at hl
 |t::ts,.prim a::us,.prim b::vs,r,_::_,[],h,_,hl,_,_=>by simp at hl
 | t :: ts, .prim a :: us, .prim b :: vs, r, x :: xs, y :: ys, h, h1, h2, hx, hy => by
   simp only[kW] at h;split at h
   · rename_i h0 u0 g1 g2;simp only[Option.some.injEq] at h;subst h;have ex:=ag.aJ (hx 0 _ rfl);have ey:=ag.aJ (hy 0 _ rfl);simp at ex ey;subst ex;subst ey;have:=ve g2 (xs:=xs) (ys:=ys) (by simpa using h1) (by simpa using h2) (fun i c hi=>by simpa using hx (i+1) c (by simpa using hi)) (fun i c hi=>by simpa using hy (i+1) c (by simpa using hi));simp[eZ,g1,this]
   · simp at h
theorem Aq {P:Program} {t:TypeId} {ts:List LT} (hfl:mq P t=some ts) {M:Mem} {B:List GB} {us vs:List AV} {x y:Value} {r:Bool} (hx:ag M B (.agg us) x) (hy:ag M B (.agg vs) y) (h:kW ts us vs=some r) (w:World) :
 ∃xs ys,x=.agg xs∧y=.agg ys∧P.eqGuardType P.depth t=false∧(Op.equal t x y).run P w=.ok r w:=by
 unfold mq at hfl;split at hfl
 · rename_i hg;cases hx with
   | agg _ xs hl hr => cases hy with
     | agg _ ys hl' hr' =>
       refine⟨xs,ys,rfl,rfl,hg.1,?_⟩;have e:=uq w 8 t ts hfl 10000 dCd xs.toList ys.toList r (ve h (by simpa using hl) (by simpa using hl') (fun i c hi=>by simpa[zA2,List.getD] using hr i c hi) (fun i c hi=>by simpa[zA2,List.getD] using hr' i c hi));have hv:∀z:Array Value,ga P t z.toList=.agg z:=fun z=>by
        have h2:=hg.2;unfold Ds at h2;unfold ga;split at h2
        · rename_i d hd;simp[h2]
        · simp at h2
       rw[hv,hv] at e;exact e
 · simp at hfl
section
variable {P:Program} {T:Tab} {o:Oper} {env:Env} {σ:ae}
theorem PRun.eqN {t t' : TypeId} {ts : List LT} (hfl : mq P t = some ts) {x y : Operand} {us vs : List AV} {r : Bool} (ho : o.op = .binOp .eql t x y t') (hx : rdv env x = some (.agg us)) (nx : rdn env x) (hy : rdv env y = some (.agg vs)) (ny : rdn env y) (h : kW ts us vs = some r) :
    PRun P o env σ (.b r) :=
  .of fun G A w hs hv => by
    have h1:=rd (Rd.w hx nx) (by simp[ho,Op.operands]) hv;have h2:=rd (Rd.w hy ny) (by simp[ho,Op.operands]) hv;obtain⟨xs,ys,e1,e2,hg,e3⟩:=Aq hfl h1 h2 h w;refine⟨_,?_,.prim _⟩;rw[e1,e2] at e3;have e:binOp .eql t (.agg xs) (.agg ys)=(do pure (.bool (←Op.equal t (.agg xs) (.agg ys)))):=rfl;simp only[execOp,ho,e1,e2,e];simp[eqGuard,hg,e3]
theorem PRun.neN {t t' : TypeId} {ts : List LT} (hfl : mq P t = some ts) {x y : Operand} {us vs : List AV} {r : Bool} (ho : o.op = .binOp .neq t x y t') (hx : rdv env x = some (.agg us)) (nx : rdn env x) (hy : rdv env y = some (.agg vs)) (ny : rdn env y) (h : kW ts us vs = some r) :
    PRun P o env σ (.b (!r)) :=
  .of fun G A w hs hv => by
    have h1:=rd (Rd.w hx nx) (by simp[ho,Op.operands]) hv;have h2:=rd (Rd.w hy ny) (by simp[ho,Op.operands]) hv;obtain⟨xs,ys,e1,e2,hg,e3⟩:=Aq hfl h1 h2 h w;refine⟨_,?_,.prim _⟩;rw[e1,e2] at e3;have e:binOp .neq t (.agg xs) (.agg ys)=(do pure (.bool (!(←Op.equal t (.agg xs) (.agg ys))))):=rfl;simp only[execOp,ho,e1,e2,e];simp[eqGuard,hg,e3]
end
end Go.Ab
/- Bits and shifts; interface values; bytes, texts and runes; places in arrays. -/
namespace Go.Ab
section
variable {P:Program} {o:Oper} {env:Env} {σ:ae} {T:Tab}
theorem PRun.shlW {t t':TypeId} {x y:Operand} {k k':IntKind} {a b:Int} (ho:o.op=.binOp .shl t x y t') (hx:rdv env x=some (.prim (.int k a))) (nx:rdn env x) (hy:rdv env y=some (.prim (.int k' b))) (ny:rdn env y) (hb:0≤b) :
 PRun P o env σ (.prim (.int k (k.wrap (a * 2 ^ (Min.min b.toNat k.bits))))) :=
 .of fun G A w hs hv=>by
  have h1:=ag.aJ (rd (Rd.w hx nx) (by simp[ho,Op.operands]) hv);have h2:=ag.aJ (rd (Rd.w hy ny) (by simp[ho,Op.operands]) hv);have hb':¬b<0:=oM;exact⟨_,by simp[execOp,ho,h1,h2,binOp,eqGuard,Op.shift,hb'],.prim _⟩
theorem PRun.shrW {t t':TypeId} {x y:Operand} {k k':IntKind} {a b:Int} (ho:o.op=.binOp .shr t x y t') (hx:rdv env x=some (.prim (.int k a))) (nx:rdn env x) (hy:rdv env y=some (.prim (.int k' b))) (ny:rdn env y) (hb:0≤b) :
 PRun P o env σ (.prim (.int k (a.fdiv (2 ^ (Min.min b.toNat k.bits))))) :=
 .of fun G A w hs hv=>by
  have h1:=ag.aJ (rd (Rd.w hx nx) (by simp[ho,Op.operands]) hv);have h2:=ag.aJ (rd (Rd.w hy ny) (by simp[ho,Op.operands]) hv);have hb':¬b<0:=oM;exact⟨_,by simp[execOp,ho,h1,h2,binOp,eqGuard,Op.shift,hb'],.prim _⟩
def xm (P:Program) (t:TypeId):Bool:=match P.underlying t with
 |some (.interface _)=>false
 |some _=>true
 |none=>false
theorem aC.Ar {G:Gh} {w w':World} (h:aC G σ w) (c:Array Value) (hsz:w'.heap.size=w.heap.size+1) (hold:∀b,b<w.heap.size→w'.heap[b]? = w.heap[b]?) (xn:∀o v,c[o]? = some v→w'.cell? ⟨w.heap.size,o,none⟩=some v) (nV:cD w w') :
 aC { G with M:=G.M.bo w.heap.size c } σ w'∧G.M.Le (G.M.bo w.heap.size c):=by
 have hlt:=eV h.ay;have hle:=Mem.ib (M:=G.M) (b:=w.heap.size) c (hlt _ (zAt _)).1;refine⟨h.after ⟨hle,⟨fun b o v hv=>?_,fun b es hb=>?_,h.ay.g.mono hle⟩,oM,hold,fun b hb=>⟨fun o=>?_,rfl⟩,nV⟩,hle⟩
 · simp only[Mem.bo] at hv;split at hv
   · rename_i e;subst e;exact xn o v hv
   · have h1:=h.ay.1 _ _ _ hv;have h2:=World.block_lt_of_cell? _ _ h1;simp only[World.cell?] at h1 ⊢;rw[hold b h2];exact h1
 · obtain⟨clock,h1⟩:=h.ay.2 _ _ hb;have h2:b<w.heap.size:=by
    rcases zAa b w.heap.size with h|h
    · exact h
    · simp[zAj h] at h1
   exact⟨clock,by rw[hold b h2];exact h1⟩
 · simp only[Mem.bo];rw[if_neg oM]
end
end Go.Ab
/- Operations and calls that panic; contracts of calls that panic. -/
namespace Go.Ab
section
variable {P:Program} {n:Nat} {ops:Array Oper} {o:Oper} {env:Env} {σ:ae} {kp:List PanicEntry→ae→Prop}
end
end Go.Ab
/- Functions that defer a call, and deferred functions that recover. -/
namespace Go.Ab
structure FV where
 f:FuncId
 avs:List AV
section
variable {P:Program} {n:Nat} {F:Option FV} {K:Exit→Option FV→Env→ae→Prop} {env:Env} {σ:ae}
end
end Go.Ab
/- Arrays of the call's own that are written out; places in arrays; slices of arrays; more cuts. -/
namespace Go.Ab
section
variable {P:Program} {n:Nat} {ops:Array Oper} {o:Oper} {env:Env} {σ:ae} {T:Tab} {k:Env→ae→Prop}
theorem vg:∀{ps:List (Nat×List AV)} {cells r:List AV} {pl:Nat→Option (Nat×Nat)},fR pl cells ps=some r→r.length=cells.length
 |[],cells,r,pl,h=>by simp[fR] at h;rw[h]
 | (i, us) :: ps, cells, r, pl, h => by
   simp only[fR] at h;split at h
   · split at h
     · rename_i hle;rw[vg h];simp[fX];omega
     · simp at h
   · simp at h
theorem xo {t e m:Nat} {parts:Array (Nat×Operand)} {s1 b1:Nat} {z:List Z} {le:LI} {ps:List (Nat×List AV)} {r:List AV} (ho:o.op=.buildSlice t m parts) (hl:LOk P t ⟨.slice e,s1,b1,z⟩) (he:LOk P e le) (hz0:le.zero.length=le.size)
 (hn1:m * le.size≤16777216) (hp:fw env parts.toList=some ps) (hn:eW env (parts.toList.map (·.2))) (hf:fR (fun i=>some (i * le.size,le.size)) ((List.range (m * le.size)).map fun i=>(le.zero.map Z.av).getD (i % le.size) .any) ps=some r)
 {G:Gh} {A:Act} {w:World} (hv:∀x∈o.op.operands,ag G.M G.B (c9 env x) (A.eval x)) :
 ∃vr:Array Value,(execOp A.eval o).run P w=.ok (.value (.slice (some ⟨w.heap.size,0,none⟩) m m)) (w.alloc (.cells vr e))∧vr.size=m * le.size∧r.length=m * le.size∧∀(i:Nat) c,r[i]? = some c→ag G.M G.B c (vr.getD i undef):=by
 obtain⟨h1,h2⟩:=lb (o:=o) (M:=G.M) (B:=G.B) (a:=A) hp (fun p hp=>by simp[ho,Op.operands];exact⟨p.1,by simpa using hp⟩) hn hv;have hzc:le.aX.cells=(le.zero.map Z.val).toArray:=by
  unfold LI.aX;cases ha:le.lt.isAgg with
  |true=>rfl
  | false =>
    obtain⟨z',hz'⟩:=he.one ha;rw[hz'];cases z'<;>rfl
 have hzr:∀z:Z,ag G.M G.B z.av z.val:=fun z=>by cases z<;>first|exact .prim _|exact .nils|exact .imapz
 have hzs:le.aX.cells.size=le.size:=by rw[hzc];simp[hz0]
 let zero:Array Value:=if m * le.size=0 then #[] else le.aX.cells
 obtain⟨vr,h3,h4,h5⟩:=nZ (M:=G.M) (B:=G.B) ps (parts.toList.map fun (i,x)=>(i,A.eval x)) _ ((Array.range (m * le.size)).map (zero[· % zero.size]!)) r hf sMp (fun i c hi=>by
  simp only[zA5,zA6] at hi;obtain⟨j,hj,rfl⟩:=hi;have hjr:=zAb.1 hj;obtain⟨hlt,hje⟩:=hjr;simp at hlt hje;subst hje;have hn0:¬m * le.size=0:=oM;have cK:0<le.size:=Nat.pos_of_mul_pos_left (by omega:0<m * le.size);have w9:i % le.size<le.zero.length:=by rw[hz0];exact Nat.mod_lt _ cK
  have ez:zero=le.aX.cells:=if_neg hn0;have e1:(((Array.range (m * le.size)).map (zero[· % zero.size]!)).getD i undef)=le.zero[i % le.size].val:=by
   rw[ez];simp only[zA2,Array.getElem?_map];rw[Array.getElem?_range,if_pos hlt];simp only[zBa,zCv,hzs];rw[hzc];simp[w9]
  have e2:(le.zero.map Z.av).getD (i % le.size) .any=le.zero[i % le.size].av:=by simp[List.getD,w9]
  rw[e1,e2];exact hzr _) (by simp[h1]) (fun i p q hi hq=>h2 i p q hi hq)
 have hlen:=vg hf;simp at hlen;refine⟨vr,?_,by rw[h4,hlen],hlen,h5⟩;simp only[execOp,ho,Instr.buildSlice];rw[Sem.run_bind,Sem.run_bind,hl.slice w];simp only[Result.andThen_ok];rw[Sem.run_bind,he.cg w];simp only[Result.andThen_ok];have hno:¬m * le.size>2 ^ 24:=oM;simp only[if_neg hno];have e2:(parts.map fun (i,x)=>(i,A.eval x)).toList=parts.toList.map fun (i,x)=>(i,A.eval x):=sMp
 by_cases hm0:m * le.size=0
 · have ez:zero=#[]:=if_pos hm0;simp only[if_pos hm0,Sem.run_bind,Sem.run_pure,Result.andThen_ok];rw[ez] at h3;rw[e2,h3];simp[newRow]
 · have ez:zero=le.aX.cells:=if_neg hm0;simp only[if_neg hm0,Sem.run_bind,Sem.run_pure,Result.andThen_ok,he.jg w];rw[ez] at h3;rw[e2,h3];simp[newRow]
def pH (T:Tab) (env:Env) (t m:Nat) (parts:List (Nat×Operand)):Option (Nat×List (List AV)):=match T.get t with
 | some ⟨.slice e, _, _, _⟩ => match T.get e, fw env parts with
   |some le,some ps=>if le.zero.length=le.size∧m * le.size≤16777216 then
    (match fR (fun i=>some (i * le.size,le.size)) ((List.range (m * le.size)).map fun i=>(le.zero.map Z.av).getD (i % le.size) .any) ps with
    |some r=>(lE (chunk le.size m r)).map fun es=>(le.size,es)
    |none=>none) else none
   |_,_=>none
 |_=>none
theorem vh (hT:T.Ok P) {t m:Nat} {parts:Array (Nat×Operand)} {sz:Nat} {es:List (List AV)} (h:pH T env t m parts.toList=some (sz,es)) (ho:o.op=.buildSlice t m parts) (hn:eW env (parts.toList.map (·.2)))
 {G:Gh} {A:Act} {w:World} (hv:∀x∈o.op.operands,ag G.M G.B (c9 env x) (A.eval x)) :
 ∃(vr:Array Value) (e:TypeId),(execOp A.eval o).run P w=.ok (.value (.slice (some ⟨w.heap.size,0,none⟩) m m)) (w.alloc (.cells vr e))∧vr.size=m * sz∧es.length=m∧(∀x∈es,x.length=sz) ∧
  ∀(i j:Nat) (x:List AV) (c:AV),es[i]? = some x→x[j]? = some c→ag G.M G.B c (vr.getD (i * sz+j) undef):=by
 unfold pH at h;split at h
 · rename_i e s b zs hg;split at h
   · rename_i le ps hle hp;split at h
     · rename_i hc;split at h
       · rename_i r' hf;simp only[zA6,Prod.mk.injEq] at h;obtain⟨r2,h2,rfl,rfl⟩:=h;obtain⟨vr,k1,k2,k3,k4⟩:=xo (w:=w) ho (LOk.of (hT.get hg)) (LOk.of (hT.get hle)) hc.1 hc.2 hp hn hf hv;have hcl:=lP le.size m r';rw[←oc h2];have get:∀i,i<m→(chunk le.size m r')[i]? = some ((r'.drop (i * le.size)).take le.size):=fun i hi=>pz le.size m r' i hi
         have bound:∀i,i<m→i * le.size+le.size≤m * le.size:=fun i hi=>by
          have:=zAv le.size (show i+1≤m from hi);rwa [zB5,zDm] at this
         refine⟨vr,e,k1,k2,hcl,fun x hx=>?_,fun i j x c hi hj=>?_⟩
         · obtain⟨i,hi,hie⟩:=zAu.1 hx;rw[hcl] at hi;have:=get i hi;rw[zA1 oM] at this;simp at this;rw[←hie,this];have:=bound i hi;simp;omega
         · have hin:i<m:=by
            rcases zAa i m with h|h
            · exact h
            · rw[zA3 oM] at hi;simp at hi
           rw[get i hin] at hi;simp at hi;subst hi;rw[zAw] at hj;split at hj
           · rw[zB6] at hj;exact k4 _ _ hj
           · simp at hj
       · simp at h
     · simp at h
   · simp at h
 · simp at h
theorem EStep.xp (hT:T.Ok P) {t m d sz:Nat} {parts:Array (Nat×Operand)} {es:List (List AV)} (ho:o.op=.buildSlice t m parts) (hg:o.guard=none) (hd:o.dst=some d) (hdn:decide (d<n)=true) (h:pH T env t m parts.toList=some (sz,es)) (hn:eW env (parts.toList.map (·.2)))
 (hk:k (env.put d (.sla σ.length sz 0 m 0)) (σ++[.arr sz 0 es])):EStep P n ops o k env σ:=by
 refine EStep.plain hg fun G a w hr=>?_
 obtain⟨vr,e,k1,k2,k3,k4,k5⟩:=vh (w:=w) hT h ho hn (G:=G) (A:=a) (hI hr.st fun x _=>hr.bh x);unfold OWP;rw[k1];have hm:=eV hr.st.ay;have hle:BLe G.B (G.B++[GB.own (some w.heap.size) m 0]):=BLe.append _ _;have hs2:=hr.st.alloc (o:=.cells vr e) (g:=.own (some w.heap.size) m 0) (ao:=.arr sz 0 es) rfl (.arr w.heap.size m sz 0 es vr e (0,0) (by rw[heap_alloc,if_pos rfl]) (by intro o _;simp) k2 oM k4 (fun i j x c h1 h2=>(k5 i j x c h1 h2).mono (Mem.Le.refl _) hle) (hm _ (zAt _)).1);refine⟨_,_,_,hk,.upB hle,?_⟩;rw[hd];have hr':bf n { G with B:=G.B++[GB.own (some w.heap.size) m 0] } env (σ++[.arr sz 0 es]) a (w.alloc (.cells vr e)):=hr.later (.upB hle) hs2;refine hr'.put (of_decide_eq_true hdn) ?_;refine .sla σ.length sz 0 m 0 _ m ⟨some w.heap.size,m,0,?_,zAt _,fun _=>⟨oM,.inr ⟨oM,by simp⟩⟩⟩;rw[←hr.st.len];simp
theorem PRun.fM (hT:T.Ok P) {t sz:Nat} (ho:o.op=.buildSlice t 0 #[]) (hsz:dO T t=some sz):PRun P o env σ (.sl sz [] .fresh):=by
 intro G A w hs hv;obtain⟨e,s1,b1,z,li,hl,hli,h1⟩:=dh hT hsz;have bl:(execOp A.eval o).run P w=.ok (.value (.slice (some ⟨w.heap.size,0,none⟩) 0 0)) (w.alloc (.cells #[] e)):=by
  simp only[execOp,ho,Instr.buildSlice];rw[Sem.run_bind,Sem.run_bind,hl.slice w];simp only[Result.andThen_ok];rw[Sem.run_bind,hli.cg w];simp[Instr.fill,newRow];rw[show(Array.range 0).map (fun _=>(default:Value))=#[] from zC1 sMp]
 obtain⟨hs1,hleM⟩:=hs.Ar #[] (w':=w.alloc (.cells #[] e)) sMp (fun b hb=>by rw[heap_alloc,if_neg oM]) (fun o v hv=>by simp at hv) cD.r;unfold OWP;rw[bl];exact⟨_,_,rfl,.sl sz [] .fresh w.heap.size 0 0 (fun _ _=>undef) sMp sMp sMp (zAt _) rfl,.upM hleM,hs1⟩
end
end Go.Ab
/- An own array out of an append; places in arrays and slices of arrays; arrays out of slices; runes. -/
namespace Go.Ab
theorem dV (l:List Int):∀x∈l.map (fun n=>[AV.int n]),x.all eH=true:=fun x hx=>by
 obtain⟨c,_,rfl⟩:=zAq.1 hx;rfl
section
variable {P:Program} {n:Nat} {ops:Array Oper} {o:Oper} {env:Env} {σ:ae} {T:Tab} {k:Env→ae→Prop}
theorem EStep.eK (hT:T.Ok P) {s x:Operand} {t tx e:TypeId} {d sz:Nat} {es2:List (List AV)} {u:AV} {s1 b1:Nat} {z:List Z} {le:LI} (ho:o.op=.call { callee:=.builtin .append,args:=#[s,x],argTypes:=#[t,tx] })
 (hg:o.guard=none) (hd:o.dst=some d) (hdn:decide (d<n)=true) (hs:Rd env s (.sl sz [] .fresh)) (hx:Rd env x u) (iJ:fZ T tx sz u es2)
 (hl:LOk P t ⟨.slice e,s1,b1,z⟩) (he:LOk P e le) (hsz:le.size=sz) (hz0:le.zero.length=le.size) (hbound:es2.length * le.bytes≤140737488355328) (hb2:es2.length≤9223372036854775807)
 (hk:k (env.put d (.sla σ.length sz 0 es2.length 0)) (σ++[.arr sz 0 es2])):EStep P n ops o k env σ:=by
 refine EStep.plain hg fun G a w hr=>?_
 have h1:=hr.rd hs;obtain⟨news,hS,hN⟩:=iJ.src hT hr.st.ay (hr.rd hx);generalize hA:a.eval s=sv at h1;obtain⟨i,hi1,hi2,hi3,hi4⟩:=he.info;have eJ:=hl.dB;have hS':Src P i.size tx (a.eval x) es2.length news w:=by rw[hi2,hsz];exact hS
 have hNs:news.length=es2.length * sz:=by have:=hN.1;simpa using this
 have hsv:∃ad,sv=.slice ad 0 0:=by
  cases h1 with
  |sl _ _ _ b off cap f hz hm hr hc ht=>exact⟨_,by rw[show cap=0 from ht];rfl⟩
  |slz=>exact⟨none,rfl⟩
 obtain⟨ad,rfl⟩:=hsv;have HI:(G.B++[GB.own none 0 0])[σ.length]? = some (GB.own none 0 0):=by rw[←hr.st.len];simp
 by_cases hz:es2=[]
 · subst hz;have mm:news=[]:=zAr (by simpa using hNs);have bl:(Builtin.append_ #[t,tx] o.type #[.slice ad 0 0,a.eval x]).run P w=.ok (.slice ad 0 0) w:=by
    have hcc:=hS'.cells;have hll:=hS'.len;simp only[zAm] at hcc hll;subst mm;cases ad with
    |none=>rcases hS.kind with ⟨e',hk'⟩|hk'<;>simp[Builtin.append_,run_underlying eJ,run_underlying hk',sizeOf,typeInfo,hi1,hll,hcc]
    |some ad=>rcases hS.kind with ⟨e',hk'⟩|hk'<;>simp[Builtin.append_,run_underlying eJ,run_underlying hk',sizeOf,typeInfo,hi1,hll,hcc,storeCells]
   have dY:(execOp a.eval o).run P w=.ok (.value (.slice ad 0 0)) w:=by simp[execOp,ho,resolve,invoke,builtin,hA,bl]
   unfold OWP;rw[dY];have hle:BLe G.B (G.B++[GB.own none 0 0]):=BLe.append _ _;have hs1:=hr.st.iQ sz;have hs2:aC { G with B:=G.B++[GB.own none 0 0] } (σ++[.arr sz 0 []]) w:=by
    have:=aC.pB (l:=σ.length) (o:=.own sz 0) (o':=.arr sz 0 []) hs1 sMp (fun g hg _=>by
     rw[HI] at hg;simp at hg;subst hg;exact .arrz sz 0)
    simpa using this
   refine⟨_,_,_,hk,.upB hle,?_⟩;rw[hd];have hr':bf n { G with B:=G.B++[GB.own none 0 0] } env (σ++[.arr sz 0 []]) a w:=hr.later (.upB hle) hs2;exact hr'.put (of_decide_eq_true hdn) (.sla _ sz 0 0 0 ad 0 ⟨none,0,0,HI,zAt _,fun _=>⟨zAt _,.inl rfl⟩⟩)
 · have cK:0<es2.length:=zDd.2 hz;have hold:(Builtin.firstCells i.size 0 (.slice ad 0 0)).run P w.drew=.ok ([]:List Value).toArray w.drew:=by
    cases ad with
    |none=>rfl
    | some ad =>
      have:=run_loadCells_list (P:=P) w.drew ad [] (fun j v hj=>by simp at hj);simp only[Builtin.firstCells,zD2];simpa using this
   have bl:=run_append_grow_src (P:=P) w t tx o.type e i le.aX eJ hi1 (by rw[hi4];rfl) ad 0 0 [] hold (a.eval x) es2.length news hS' oM oM (growslice_fits oM (by rw[hi3];simpa using hbound));simp only[zBv,zE1] at bl;have gJ:es2.length≤grownCap w es2.length 0 e:=grownCap_ge _ _ _ _;have hzc:le.aX.cells.size=sz:=by
    unfold LI.aX;cases ha:le.lt.isAgg with
    |true=>simp[Value.cells,hz0,hsz]
    | false =>
      obtain⟨z',hz'⟩:=he.one ha;rw[hz'] at hz0 ⊢;simp at hz0;rw[←hsz,←hz0];cases z'<;>rfl
   generalize ig:(news.toArray++Builtin.zeroCells le.aX.cells (grownCap w es2.length 0 e - es2.length))=row at bl;have jG:row.size=grownCap w es2.length 0 e * sz:=by
    rw[←ig];simp only[zDt,zD8,size_zeroCells,hzc,hNs,←zB5];congr 1;omega
   have dY:(execOp a.eval o).run P w=.ok (.value (.slice (some ⟨w.heap.size,0,none⟩) es2.length (grownCap w es2.length 0 e))) (w.drew.alloc (.cells row e)):=by
    simp[execOp,ho,resolve,invoke,builtin,hA,bl]
   unfold OWP;rw[dY];have hle:BLe G.B (G.B++[GB.own (some w.heap.size) (grownCap w es2.length 0 e) 0]):=BLe.append _ _;have hsd:aC G σ w.drew:=hr.st.drew;have hs2:=hsd.alloc (o:=.cells row e) (g:=.own (some w.heap.size) (grownCap w es2.length 0 e) 0) (ao:=.arr sz 0 es2) rfl (.arr w.heap.size _ sz 0 es2 row e (0,0) (by rw[heap_alloc];exact if_pos rfl) (by intro o _;simp) jG gJ hN.2.1 (fun i j x c h1 h2=>by
    have h3:=hN.2.2 i j x c h1 h2;have hlt:i * sz+j<es2.length * sz:=by
     have hi:i<es2.length:=(zAb.1 h1).1;have hj:j<sz:=by
      have:=hN.2.1 x (zAc h1);have:=(zAb.1 h2).1;omega
     exact dP hi hj
    have e1:row.getD (i * sz+j) undef=news.toArray.getD (i * sz+j) undef:=by
     rw[←ig];simp only[zA2];rw[zAl (by simp;omega)]
    rw[e1];exact h3.mono (Mem.Le.refl _) (BLe.nil _)) (eV hr.st.ay _ (zAt _)).1)
   refine⟨_,_,_,hk,.upB hle,?_⟩;rw[hd];have hr':bf n { G with B:=G.B++[GB.own (some w.heap.size) (grownCap w es2.length 0 e) 0] } env (σ++[.arr sz 0 es2]) a (w.drew.alloc (.cells row e)):=hr.later (.upB hle) hs2;refine hr'.put (of_decide_eq_true hdn) (.sla _ sz 0 es2.length 0 _ _ ⟨some w.heap.size,grownCap w es2.length 0 e,0,?_,zAt _,fun _=>⟨oM,.inr ⟨oM,by simp⟩⟩⟩);rw[←hr.st.len];simp
end
end Go.Ab
