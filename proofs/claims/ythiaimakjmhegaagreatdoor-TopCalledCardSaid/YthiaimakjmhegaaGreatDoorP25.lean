/- Parts of the proof. No statement is proved here. -/
import Derived.Laws.Externs
import Derived.Lib.Overlaps
import Derived.Test.YthiaimakjmhegaaGreatDoorP17
set_option linter.unusedVariables false
set_option linter.unusedSimpArgs false
set_option maxHeartbeats 16000000
set_option maxRecDepth 20000
namespace Go.Ab
theorem sC {G:Gh} {σ:ae} {w:World} (hs:aC G σ w) {l i n1 v:Nat} {es:List (List AV)} {X:Value} (hσ:σ[l]? = some (.arr 1 v es)) (hX:ag G.M G.B (.sla l 1 i n1 v) X) (h1:0<n1) (hi:i<es.length) :
 ∃b cap c T fr cx,G.B[l]? = some (.own (some b) cap v)∧w.heap[b]? = some (.cells c T fr)∧rC fr c.size∧es.length≤c.size∧X=.slice (some ⟨b,i,none⟩) n1 cx:=by
 obtain⟨ob,cap,hB,hne,hob⟩:=cR hs hσ;obtain⟨b,rfl⟩:=hne (by intro e;rw[e] at hi;simp at hi);obtain⟨c,T',fr,hb,hf,hlc,hn,hz,bU,hmm⟩:=hob b rfl;rw[zCb] at hlc;cases hX with
 | sla _ _ _ _ _ ad cx hq =>
   obtain⟨ob',dK,n',g1,g2,g3⟩:=hq;rw[hB] at g1;simp at g1;obtain⟨rfl,rfl,rfl⟩:=g1;obtain⟨g4,g5⟩:=g3 rfl;rcases g5 with g5|⟨_,rfl⟩
   · omega
   · exact⟨b,cap,c,T',fr,cx,hB,hb,hf,oM,by simp⟩
section
variable {P:Program} {n:Nat} {ops:Array Oper} {o:Oper} {env:Env} {σ:ae} {T:Tab} {k:Env→ae→Prop}
theorem PRun.Ci (hT : T.Ok P) {fo x y : Operand} {Ts : Array TypeId} {t tR : TypeId} {f : FuncId} {fn : Func} {l l' i j n1 n2 v1 v2 : Nat} {es es2 : List (List AV)} (hf : P.funcs[f]? = some fn) (LP : (fn.name == "runtime.NumGoroutine") = false) (hb : fn.body.isNone = true)
 (hn:Extern.findNext fn=none) (he:Extern.find fn=some (Extern.SlicesOverlaps.overlaps #[t,t] #[tR])) (ho:o.op=.call { callee:=.value fo,args:=#[x,y],argTypes:=Ts }) (hfo:Rd env fo (.fn (.func f) [] [])) (hl:dO T t=some 1)
 (hx:Rd env x (.sla l 1 i n1 v1)) (hσ:σ[l]? = some (.arr 1 v1 es)) (hi:i<es.length) (h1:0<n1) (hy:Rd env y (.sla l' 1 j n2 v2)) (Gj:σ[l']? = some (.arr 1 v2 es2)) (hj:j<es2.length) (h2:0<n2) (hne:l≠l'):PRun P o env σ (.b false) :=
 .of fun G a w hs hv=>by
  have hF:=rd hfo (by simp[ho,Op.operands,Call.operands]) hv;have hX:=rd hx (by simp[ho,Op.operands,Call.operands]) hv;have hY:=rd hy (by simp[ho,Op.operands,Call.operands]) hv;obtain⟨e,s1,b1,z,li,k1,k2,k3⟩:=dh hT hl;generalize hA:a.eval fo=F at hF;generalize hB:a.eval x=X at hX;generalize hC:a.eval y=Y at hY;obtain⟨b,cap,c,Tc,fr,cx,g1,g2,g3,g4,rfl⟩:=sC hs hσ hX h1 hi;obtain⟨b',dK,c',Tc',fr',cx',q1,q2,q3,q4,rfl⟩:=sC hs Gj hY h2 hj;have hbb:b≠b':=fun e=>hne (hs.inj l l' _ _ b g1 q1 rfl (by rw[e];rfl))
  have hfz:∀o,o≤c.size→w.frozen? ⟨b,o,none⟩=false:=fun o ho=>by
   have:=g3 o ho;simp only[World.frozen?,g2];by_cases h5:fr.1≤o
   · have h6:¬o<fr.2:=fun h6=>this ⟨h5,h6⟩
     simp[h6]
   · simp[h5]
  cases hF with
  | fn _ _ _ vf vc hvf hvc h3 h4 =>
    have e1:vf=#[]:=zC1 (by simpa using hvf);have e2:vc=#[]:=zC1 (by simpa using hvc);subst e1;subst e2;refine⟨.bool false,?_,.prim _⟩;simp only[execOp,ho,resolve,hA,Deferred.ofValue,Sem.run_bind,Sem.run_pure,Result.andThen_ok,invoke];have e3:(#[]++Array.map a.eval #[x,y]++#[]:Array Value)=#[.slice (some ⟨b,i,none⟩) n1 cx,.slice (some ⟨b',j,none⟩) n2 cx']:=by simp[hB,hC]
    rw[e3,run_callFunc_extern hf LP hb hn he,Lib.run_overlaps_apart w t tR e k1.dB 1 (fun w=>by rw[k2.cg w,k3]) ⟨b,i,none⟩ ⟨b',j,none⟩ n1 cx n2 cx' hbb Tc Tc' c.size c'.size (by simp[World.shape?,g2]) (by simp[World.shape?,q2]) oM (hfz _ oM) (hfz _ (nLr _))];rfl
end
theorem aC.room {G:Gh} {σ:ae} {w:World} (h:aC G σ w) {l ver b cap:Nat} {es:List (List AV)} (hσ:σ[l]? = some (.arr 1 ver es)) (hB:G.B[l]? = some (.own (some b) cap ver)) (hc:es.length<cap):aC G (σ.set l (.arr 1 ver (es++[[.any]]))) w:=by
 obtain⟨ob,dK,hB',hne,hob⟩:=cR h hσ;rw[hB] at hB';simp at hB';obtain⟨rfl,rfl⟩:=hB';obtain⟨c,T',fr,hb,hf,hlc,hn,hz,bU,hmm⟩:=hob b rfl;refine h.upd hB rfl rfl (fun _ _=>rfl) (.arr b cap 1 ver _ c T' fr hb hf hlc (by simp;omega) (fun e he=>?_) (fun p q e1 av he hj=>?_) hmm) ⟨hmm,cQ h.ay hb (by intros;simp)⟩ (cD.refl w)
 · rcases zAx.1 he with he|he
   · exact hz e he
   · rw[zA9.1 he];rfl
 · by_cases hp:p<es.length
   · rw[zA8 hp] at he;exact bU p q e1 av he hj
   · rw[zA7 oM] at he;have:e1=[.any]:=zA9.1 (zAc he);subst this;have:av=.any:=zA9.1 (zAc hj);subst this;exact .any _
theorem aC.newRow {G:Gh} {σ:ae} {w w':World} (h:aC G σ w) {l ver cap:Nat} {ob:Option Nat} {es es':List (List AV)} (hσ:σ[l]? = some (.arr 1 ver es)) (hB:G.B[l]? = some (.own ob cap ver)) {c:Array Value} {T:TypeId} (hN:w'.heap[w.heap.size]? = some (.cells c T))
 (hsz:w'.heap.size=w.heap.size+1) (hk:∀k,k≠w.heap.size→w'.heap[k]? = w.heap[k]?) (nV:cD w w') (hle:es'.length≤c.size) (hz:∀e∈es',e.length=1) (hr:∀(i:Nat) (e:List AV) (a:AV),es'[i]? = some e→e[0]? = some a→ag G.M G.B a (c.getD i undef)) :
 aC { G with M:=G.M,B:=G.B.set l (.own (some w.heap.size) c.size (ver+1)) } (σ.set l (.arr 1 (ver+1) es')) w'∧GB.Le (.own ob cap ver) (.own (some w.heap.size) c.size (ver+1)):=by
 have hm:=eV h.ay;have hgl:GB.Le (.own ob cap ver) (.own (some w.heap.size) c.size (ver+1)):=.inr ⟨_,_,_,rfl,oM⟩;have j0:=BLe.set hB hgl;have hok:dc G.M w':=by
  refine⟨fun b k v hc=>?_,fun b es hc=>?_,h.ay.g⟩
  · have hne:b≠w.heap.size:=fun e=>by rw[(hm b oM).1] at hc;simp at hc
    have:=h.ay.1 _ _ _ hc;simp only[World.cell?] at this ⊢;rw[hk _ hne];exact this
  · have hne:b≠w.heap.size:=fun e=>by rw[(hm b oM).2] at hc;simp at hc
    obtain⟨c,h1⟩:=h.ay.2 _ _ hc;exact⟨c,by rw[hk _ hne];exact h1⟩
 refine⟨h.kP (w':=w') hB (Mem.Le.refl _) hgl rfl oM (fun k hk1 hk2=>hk k oM) rfl (fun b hb o=>rfl) hok (.inr (nLr _)) oM nV ?_,hgl⟩;refine .arr w.heap.size c.size 1 (ver+1) es' c T (0,0) hN (by intro o _;simp) sMp hle hz (fun i j e a h1 h2=>?_) (hm _ (nLr _)).1;have hj:j=0:=by
  have:=(zAb.1 h2).1;rw[hz e (zAc h1)] at this;omega
 subst hj;rw[zCb];exact(hr i e a h1 h2).mono (Mem.Le.refl _) j0
theorem aC.gM {G:Gh} {σ:ae} {w:World} (hs:aC G σ w) {l sz ver:Nat} {es:List (List AV)} {X:Value} (hσ:σ[l]? = some (.arr sz ver es)) (hvd:ag G.M G.B (.sla l sz 0 es.length ver) X)
 (og:∀e∈es,∀a∈e,∀M B x,ag M B a x→ag M [] a x):∃M',G.M.Le M'∧aC { G with M:=M' } (σ.set l .dead) w∧ag M' G.B (.sl sz es .no) X:=by
 obtain⟨ob,cap,hB,hne,hob⟩:=cR hs hσ;have hlt:l<σ.length:=by
  rcases nLg l σ.length with h|h
  · exact h
  · simp[zA3 h] at hσ
 have dead:∀(M':Mem),G.M.Le M'→(∀b,(∀b0,ob=some b0→b≠b0)→(∀o,M'.cell b o=G.M.cell b o)∧M'.map b=G.M.map b)→dc M' w→aC { G with M:=M' } (σ.set l .dead) w:=fun M' hle hoth hok=>by
  have pG:∀b0,ob=some b0→¬G.w0.iI b0∧∀(l':Nat) (g:GB),G.B[l']? = some g→g.block=some b0→l'=l:=fun b0 e=>by
   subst e;exact⟨(hs.fresh l _ b0 hB rfl).1,fun l' g h1 h2=>hs.inj l' l g _ b0 h1 hB h2 rfl⟩
  refine⟨hok,fun b hb=>?_,hs.base,by simp[hs.len],fun l' g' o' h1 h2=>?_,hs.fresh,hs.inj,hs.out,⟨fun p hp=>?_,hs.dfr.2⟩⟩
  · have:=hoth b fun b0 e eb=>(pG b0 e).1 (eb▸hb)
    have h0:=hs.m0 b hb;exact⟨fun o=>(this.1 o).trans (h0.1 o),this.2.trans h0.2⟩
  · by_cases hll:l=l'
    · subst hll;rw[zAf hlt] at h2;simp at h2;subst h2;exact .dead _
    · rw[zAp hll] at h2;refine(hs.bB l' g' o' h1 h2).grow hle (BLe.refl _) (fun _ _=>rfl) fun b hb=>hoth b fun b0 e eb=>?_
      subst eb;exact hll ((pG b e).2 l' g' h1 hb).symm
  · obtain⟨k1,k2,k3,k4,k5⟩:=hs.dfr.1 p hp;have:=hoth p.1 fun b0 e eb=>by
     subst e;exact k3 l _ hB (by rw[eb];rfl)
    exact⟨k1,k2,k3,fun o=>(this.1 o).trans (k4 o),this.2.trans k5⟩
 cases hvd with
 | sla _ _ _ _ _ ad cc hq =>
   obtain⟨ob',dK,n',g1,g2,g3⟩:=hq;rw[hB] at g1;simp at g1;obtain⟨rfl,rfl,rfl⟩:=g1;obtain⟨g4,g5⟩:=g3 rfl;by_cases hes:es=[]
   · subst hes;exact⟨G.M,Mem.Le.refl _,dead G.M (Mem.Le.refl _) (fun _ _=>⟨fun _=>rfl,rfl⟩) hs.ay,.slzz sz ad cc⟩
   · obtain⟨b,rfl⟩:=hne hes;obtain⟨cs,T',fr,hbb,hf,hlen,hn,hz,bU,hm⟩:=hob b rfl;have sQ:es.length≠0:=fun e=>hes (zAr e)
     rcases g5 with g5|⟨rfl,rfl⟩
     · exact absurd g5 sQ
     have hle:=Mem.ib (M:=G.M) (b:=b) cs hm;refine⟨G.M.bo b cs,hle,dead _ hle (fun b' hb'=>?_) ?_,?_⟩
     · have:=hb' b rfl;exact⟨fun o=>by simp only[Mem.bo,if_neg this],rfl⟩
     · refine⟨fun b' o v hv=>?_,hs.ay.m,hs.ay.g.mono hle⟩;simp only[Mem.bo] at hv;split at hv
       · rename_i e;subst e;simp only[World.cell?,hbb];exact hv
       · exact hs.ay.c _ _ _ hv
     · simp only[zBa,zD2,Nat.sub_zero];refine .sl sz es .no b 0 _ (fun i j=>cs.getD (i * sz+j) undef) hz (fun i j hi hj=>?_) (fun i j e a he ha=>?_) hn trivial
       · have h1:=dP (zC3 hi hn) hj;have h2:i * sz+j<cs.size:=by rw[hlen];exact h1
         simp only[Mem.bo,if_pos rfl,zBv];simp[h2]
       · exact og e (zAc he) a (zAc ha) _ _ _ ((bU i j e a he ha).mono hle (BLe.refl _))
theorem TCall.frz {P:Program} {f:FuncId} {avs:List AV} {σ τ':ae} {l sz:Nat} {es:List (List AV)} {τ:Nat→ae} (h:TCall P f avs σ (fun r s=>∃ver,r=.sla l sz 0 es.length ver∧s=τ ver)) (h1:∀ver,(τ ver)[l]? = some (.arr sz ver es)) (h2:∀ver,(τ ver).set l .dead=τ')
 (og:∀e∈es,∀a∈e,∀M B x,ag M B a x→ag M [] a x):TCall P f avs σ (fun r s=>r=.sl sz es .no∧s=τ'):=by
 refine⟨h.1,fun G w vs hs ha=>(h.2 G w vs hs ha).mono ?_⟩;rintro e w' ⟨v,rv,s,G',k1,⟨ver,rfl,rfl⟩,k3,k4,k5⟩;obtain⟨M',m1,m2,m3⟩:=k4.gM (h1 ver) k5 og;rw[h2] at m2;exact⟨v,_,_,_,k1,⟨rfl,rfl⟩,k3.trans (.upM m1),m2,m3⟩
theorem aC.GX {G:Gh} {σ:ae} {w:World} (h:aC G σ w) {l ver cap:Nat} {ob:Option Nat} {es:List (List AV)} (hσ:σ[l]? = some (.arr 1 ver es)) (hB:G.B[l]? = some (.own ob cap ver)) {bh:List Int} {x:Int} {i:Nat} (hi:i≤bh.length) {row:Array Value} {T:TypeId}
 (hlen:bh.length+1≤row.size) (ig:∀j,j<i→row.getD j undef=.int .i64 (bh.getD j 0)) :
 ∃c,aC { G with M:=G.M,B:=G.B.set l (.own (some w.heap.size) c (ver+1)) } (σ.set l (.arr 1 (ver+1) ((bh.take i++x::bh.drop i).map fun n=>[.int n]))) ((((w.alloc (.cells row T)).drew.setCells w.heap.size i [.int .i64 x]).drew).setCells w.heap.size (i+1) ((bh.map (Value.int .i64)).drop i)) ∧
  c=row.size∧GB.Le (.own ob cap ver) (.own (some w.heap.size) c (ver+1)):=by
 have a1:((w.alloc (.cells row T)).drew).heap[w.heap.size]? = some (.cells row T (0,0)):=by
  show(w.alloc (.cells row T)).heap[w.heap.size]? = _;rw[heap_alloc,if_pos rfl]
 obtain⟨c1,g1,g2,g3,g4,g5,g6⟩:=jb w.heap.size [.int .i64 x] i _ a1 (by simp only[zBb];omega);have hdl:((bh.map (Value.int .i64)).drop i).length=bh.length - i:=sMp;obtain⟨c2,q1,q2,q3,q4,q5,q6⟩:=jb w.heap.size ((bh.map (Value.int .i64)).drop i) (i+1) (((w.alloc (.cells row T)).drew.setCells w.heap.size i [.int .i64 x]).drew) (c:=c1) (T:=T) (fr:=(0,0)) g1 (by rw[hdl,g2];omega);have hk:∀k,k≠w.heap.size→((((w.alloc (.cells row T)).drew.setCells w.heap.size i [.int .i64 x]).drew).setCells w.heap.size (i+1) ((bh.map (Value.int .i64)).drop i)).heap[k]? = w.heap[k]? := fun k hk=>by
  rw[q4 k hk];show((w.alloc (.cells row T)).drew.setCells w.heap.size i [.int .i64 x]).heap[k]? = _;rw[g4 k hk];show(w.alloc (.cells row T)).heap[k]? = _;rw[heap_alloc,if_neg hk]
 have hsz:((((w.alloc (.cells row T)).drew.setCells w.heap.size i [.int .i64 x]).drew).setCells w.heap.size (i+1) ((bh.map (Value.int .i64)).drop i)).heap.size=w.heap.size+1:=by
  rw[q5];show((w.alloc (.cells row T)).drew.setCells w.heap.size i [.int .i64 x]).heap.size=_;rw[g5];show(w.alloc (.cells row T)).heap.size=_;simp
 have nV:cD w ((((w.alloc (.cells row T)).drew.setCells w.heap.size i [.int .i64 x]).drew).setCells w.heap.size (i+1) ((bh.map (Value.int .i64)).drop i)) :=
  (cD.trans (w':=(w.alloc (.cells row T)).drew) (by exact⟨⟨rfl,rfl⟩,rfl,zCt _⟩) g6).trans (cD.trans (w':=((w.alloc (.cells row T)).drew.setCells w.heap.size i [.int .i64 x]).drew) (by exact⟨⟨rfl,rfl⟩,rfl,zCt _⟩) q6)
 have hnl:(bh.take i++x::bh.drop i).length=bh.length+1:=by simp;omega
 have oK:∀j,j<bh.length+1→c2.getD j undef=.int .i64 ((bh.take i++x::bh.drop i).getD j 0):=fun j hj=>by
  rw[q3,hdl];by_cases h1:i+1≤j∧j<i+1+(bh.length - i)
  · rw[if_pos h1];have e:j - i=(j - (i+1))+1:=oM;simp only[zB2,zA7 (show(bh.take i).length≤j by rw[zAn];omega),zAn,zDr hi,e,zBf,zB6,zA5];rw[zA1 (show i+(j - (i+1))<bh.length by omega)];rfl
  · rw[if_neg h1,g3];by_cases h2:i≤j∧j<i+[Value.int .i64 x].length
    · rw[if_pos h2];have e:j=i:=by simp only[zBb] at h2;omega
      subst e;simp only[zB2,zA7 (show(bh.take j).length≤j by rw[zAn];omega),zAn,zDr hi,Nat.sub_self];rfl
    · rw[if_neg h2];simp only[zBb] at h2;rw[ig j oM];simp only[zB2,zA8 (show j<(bh.take i).length by rw[zAn];omega),zAw,if_pos (show j<i by omega)]
 have:=h.newRow (es':=(bh.take i++x::bh.drop i).map fun n=>[AV.int n]) hσ hB q1 hsz hk nV (by rw[lLm,hnl,q2,g2];omega) (fun e he=>by
  obtain⟨n,_,rfl⟩:=zAq.1 he;rfl) (fun j e a he ha=>by
  rw[zA5] at he;have hj:j<bh.length+1:=by
   rw[←hnl];rcases nLg j (bh.take i++x::bh.drop i).length with h|h
   · exact h
   · rw[zA3 h] at he;cases he
  rw[oK j hj];rw[zA1 (by rw[hnl];exact hj)] at he;cases he;cases ha;rw[zB2,zA1 (by rw[hnl];exact hj)];exact .prim _)
 exact⟨_,this.1,q2.trans g2,this.2⟩
section
variable {P:Program} {n:Nat} {ops:Array Oper} {o:Oper} {env:Env} {σ:ae} {T:Tab} {k:Env→ae→Prop}
theorem PRun.kn (hT:T.Ok P) (q pw Gr:Nat) {t:TypeId} {x y:Operand} {l sz off len ver:Nat} {es:List (List AV)} {kd:IntKind} {i:Int} (ho:o.op=.slice t x (some y) none none) (hx:rdv env x=some (.sla l sz off len ver)) (nx:rdn env x)
 (hy:rdv env y=some (.prim (.int kd i))) (hie:i=(q:Int)) (ny:rdn env y) (hl:dO T t=some sz) (hσ:σ[l]? = some (.arr sz ver es)) (h1:q≤len) (h2:off+q=pw) (h3:len - q=Gr):PRun P o env σ (.sla l sz pw Gr ver):=by
 subst h2;subst h3;subst hie;exact PRun.rQ hT ho hx nx hy ny hl hσ ⟨oM,oM⟩
end
end Go.Ab
