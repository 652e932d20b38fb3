/- Parts of the proof. No statement is proved here. -/
import Derived.Below
import Derived.Carry
import Derived.ChangeOld
import Derived.Deep.AppendSrc
import Derived.Deep.Slices
import Derived.Deep.Strs
import Derived.Laws.Append
import Derived.Lib.SmallJoins
import Derived.OpenShut
import Derived.ProofKit
import Derived.ShutString
import Derived.Test.YthiaimakjmhegaaGreatDoorP2
set_option linter.unusedVariables false
set_option linter.unusedSimpArgs false
set_option maxHeartbeats 16000000
set_option maxRecDepth 20000
/- Local maps that are handed on; cuts of slices and strings; structs and slices that are built; struct comparisons. -/
namespace Go.Ab
def frz (l:Nat) (kvs:List (Value×AV)):AV→AV
 |.map l'=>if l'=l then .imap kvs else .map l'
 |.any=>.any
 |.prim v=>.prim v
 |.agg cs=>.agg cs
 |.tup cs=>.tup cs
 |.nils=>.nils
 |.sl sz es t=>.sl sz es t
 |.ptr l o=>.ptr l o
 |.iptr cs=>.iptr cs
 |.fn f a c=>.fn f a c
 |.imap k=>.imap k
 |.when g v=>.when g v
 |.ext v=>.ext v
 |.sla l sz off len ver=>.sla l sz off len ver
 |.cm l sz i o ver=>.cm l sz i o ver
 |.yld l=>.yld l
 |.opq v=>.opq v
def Mem.cG (M:Mem) (b:Nat) (es:Array MapEntry):Mem:={ M with map:=fun b'=>if b'=b then some es else M.map b' }
def nW {α:Type} (ev:α→AV):Prop:=∀a M B x,ag M B (ev a) x→ag M [] (ev a) x
theorem uU:nW AV.int:=fun _ _ _ _ h=>by rw[ag.aJ h];exact .prim _
theorem Io:nW AV.b:=fun _ _ _ _ h=>by rw[ag.aJ h];exact .prim _
theorem nX {α:Type} {ev:α→AV} (h:∀a,flat (ev a)=true):nW ev:=fun a _ _ _ hx=>rG (h a) hx
theorem AWP.mj {P:Program} {n:Nat} {c:Code} {K:Exit→Env→ae→Prop} {env:Env} {σ:ae} {κ α:Type} {ek:κ→Value} {ev:α→AV} {l:Nat} {al:List (κ×α)} (hσ:σ[l]? = some (.map (aT ek ev al))) (hp:nW ev)
 (h:AWP P n c K (fun i=>frz l (aT ek ev al) (env i)) (σ.set l .dead)):AWP P n c K env σ:=by
 intro G a w hr;have hll:l<σ.length:=by
  rcases zAa l σ.length with h|h
  · exact h
  · simp[zA3 h] at hσ
 have hlb:l<G.B.length:=by rw[hr.st.len];exact hll
 have cP:=hr.st.bB l _ _ (zA1 hlb) hσ;generalize hg:G.B[l]=g at cP;have hBl:G.B[l]? = some g:=by rw[zA1 hlb,hg]
 cases cP with
 | map b _ es clock hb hlen hkk hrr hmm =>
   have hfr:=hr.st.fresh l _ b hBl rfl;have hle:G.M.Le (G.M.cG b es):=⟨fun _ _ _ h=>h,fun b' es' h=>by
    simp only[Mem.cG];split
    · rename_i e;subst e;rw[hmm] at h;cases h
    · exact h⟩
   have hs:aC { G with M:=G.M.cG b es } (σ.set l .dead) w:=by
    refine⟨⟨hr.st.ay.1,fun b' es' h=>?_,hr.st.ay.g.mono hle⟩,fun b' hb'=>⟨(hr.st.m0 b' hb').1,?_⟩,hr.st.base,by simp[hr.st.len],fun l' g' o' h1 h2=>?_,hr.st.fresh,hr.st.inj,hr.st.out,⟨fun p hp=>?_,hr.st.dfr.2⟩⟩
    · simp only[Mem.cG] at h;split at h
      · rename_i e;subst e;simp at h;subst h;exact⟨clock,hb⟩
      · exact hr.st.ay.2 _ _ h
    · have hne:b'≠b:=fun e=>hfr.1 (e▸hb')
      simp only[Mem.cG,if_neg hne];exact(hr.st.m0 b' hb').2
    · by_cases hll':l=l'
      · subst hll';rw[zAf hll] at h2;simp at h2;subst h2;exact .dead _
      · rw[zAp hll'] at h2;have ho:=hr.st.bB l' g' o' h1 h2;have hne:∀b',g'.block=some b'→b'≠b:=fun b' hb' e=>hll' (hr.st.inj l l' _ g' b hBl h1 rfl (e▸hb'))
        exact ho.grow hle (BLe.refl _) (fun _ _=>rfl) fun b' hb'=>⟨fun _=>rfl,by simp only[Mem.cG,if_neg (hne b' hb')]⟩
    · obtain⟨k1,k2,k3,k4,k5⟩:=hr.st.dfr.1 p hp;have hne:p.1≠b:=fun e=>k3 l _ hBl (by rw[e];rfl)
      exact⟨k1,k2,k3,k4,by simp only[Mem.cG,if_neg hne];exact k5⟩
   have hv:∀i,ag (G.M.cG b es) G.B (frz l (aT ek ev al) (env i)) (a.tmps.getD i undef):=by
    intro i;have h1:=(hr.bh i).mono hle (BLe.refl G.B);generalize env i=u at h1 ⊢;generalize a.tmps.getD i undef=x at h1 ⊢;cases u<;>simp only[frz]<;>try exact h1
    rename_i l';split
    · rename_i e;subst e;cases h1 with
      | map _ b' hb' =>
        rw[hBl] at hb';simp at hb';subst hb';refine .imap _ _ es (by simp[Mem.cG]) hlen hkk fun i k v e h4 h5=>?_
        obtain⟨p,h6,rfl,rfl⟩:=ia h4;exact hp _ _ _ _ ((hrr i _ _ e h4 h5).mono hle (BLe.refl _))
    · exact h1
   refine wpIn_mono (h { G with M:=G.M.cG b es } a w ⟨hr.size,hr.defers,hv,hs⟩) ?_;rintro x a' w' ⟨e,s,G',h1,h2,h3⟩;exact⟨e,s,G',h1,Gh.Le.trans (G':={ G with M:=G.M.cG b es }) (.upM hle) h2,h3⟩
section
variable {P:Program} {o:Oper} {env:Env} {σ:ae} {T:Tab}
theorem de {k:IntKind} {i:Int} {y:Nat} {code:BoundsCode} (w:World) (h:0≤i∧i≤y):(Instr.sliceBound (.int k i) y code).run P w=.ok i.toNat w:=by
 simp[Instr.sliceBound,asIntOf,h]
theorem PRun.Dh {t e:TypeId} {x:Operand} {lo hi:Option Operand} {sz:Nat} {es:List (List AV)} {tk:Tok} {l h:Nat} {s1 b1:Nat} {z:List Z} {li:LI} (ho:o.op=.slice t x lo hi none) (hx:Rd env x (.sl sz es tk)) (hl:LOk P t ⟨.slice e,s1,b1,z⟩) (hli:LOk P e li) (hsz:li.size=sz)
 (hlo:match lo with|none=>l=0|some y=>∃k,Rd env y (.prim (.int k l))) (hhi:match hi with|none=>h=es.length|some y=>∃k,Rd env y (.prim (.int k h))) (h1:l≤h) (h2:h≤es.length) :
 PRun P o env σ (.sl sz ((es.take h).drop l) .no):=by
 refine .of fun G A w hs hv=>?_
 have hX:=rd hx (by simp[ho,Op.operands]) hv;generalize hA:A.eval x=v at hX;have bounds:∀(cap:Nat),es.length≤cap→(Instr.sliceBounds true es.length cap (lo.map A.eval) (hi.map A.eval) none).run P w=.ok (l,h,cap) w:=by
  intro cap nY;unfold Instr.sliceBounds;cases hi with
  | none =>
    simp only at hhi;subst hhi;cases lo with
    |none=>simp only at hlo;subst hlo;simp
    | some y =>
      obtain⟨k,hy⟩:=hlo;have:=ag.aJ (rd hy (by simp[ho,Op.operands]) hv);simp[this,de (P:=P) (k:=k) (i:=(l:Int)) (y:=es.length) w ⟨oM,oM⟩]
  | some y' =>
    obtain⟨k',hy'⟩:=hhi;have e':=ag.aJ (rd hy' (by simp[ho,Op.operands]) hv);cases lo with
    |none=>simp only at hlo;subst hlo;simp[e',de (P:=P) (k:=k') (i:=(h:Int)) (y:=cap) w ⟨oM,oM⟩]
    | some y =>
      obtain⟨k,hy⟩:=hlo;have e:=ag.aJ (rd hy (by simp[ho,Op.operands]) hv);simp[e',de (P:=P) (k:=k') (i:=(h:Int)) (y:=cap) w ⟨oM,oM⟩,e,de (P:=P) (k:=k) (i:=(l:Int)) (y:=h) w ⟨oM,oM⟩]
 cases hX with
 | slzz _ a cap =>
   have hl0:l=0:=by simp at h2;omega
   have hh0:h=0:=by simpa using h2
   refine⟨.slice a 0 cap,?_,by simpa using ag.slzz sz a cap⟩;have:=bounds cap (Nat.zero_le _);simp only[zAm] at this;simp only[execOp,ho,hA,Instr.sliceAt,Instr.slice];cases a<;>simp[hl.slice w,this,hli.cg w,hl0,hh0,Addr.add]
 | slz =>
   have hl0:l=0:=by simp at h2;omega
   have hh0:h=0:=by simpa using h2
   refine⟨.slice none 0 0,?_,by simpa using ag.slz sz .no trivial⟩;have:=bounds 0 (zAt _);simp only[zAm] at this;simp only[execOp,ho,hA,Instr.sliceAt,Instr.slice];simp[hl.slice w,this,hli.cg w,hl0,hh0]
 | sl _ _ _ b off cap f hz hm hr hc ht =>
   have:=bounds cap hc;refine⟨.slice (if cap=l then some ⟨b,off,none⟩ else some ⟨b,off+l * sz,none⟩) (h - l) (cap - l),?_,?_⟩
   · simp only[execOp,ho,hA,Instr.sliceAt,Instr.slice];simp[hl.slice w,this,hli.cg w,hsz,cq]
   · have hlen:((es.take h).drop l).length=h - l:=by simp;omega
     by_cases hcl:cap=l
     · have hz':(es.take h).drop l=[]:=zAr (by rw[hlen];omega);have:h - l=0:=oM;rw[if_pos hcl,hz',this];exact .sl sz [] .no b off (cap - l) f sMp (fun i j hi=>by simp at hi) (fun i j e c h=>by simp at h) sMp trivial
     · rw[if_neg hcl,←hlen];refine .sl sz _ .no b (off+l * sz) (cap - l) (fun i j=>f (l+i) j) (fun e he=>hz e (zC0 (zC9 he))) (fun i j hi hj=>?_) (fun i j e c hi hj=>?_) (by rw[hlen];omega) trivial
       · rw[hlen] at hi;have:=hm (l+i) j oM hj;rw[zB5] at this;rw[←this];congr 1;omega
       · rw[zB6,zAw] at hi;split at hi
         · exact hr _ _ _ _ hi hj
         · simp at hi
theorem PRun.w7 (hT:T.Ok P) {α:Type} {f:α→List AV} {t:TypeId} {x y:Operand} {sz:Nat} {al:List α} {tk:Tok} {k:IntKind} {i:Int} (ho:o.op=.slice t x (some y) none none) (hx:rdv env x=some (.sl sz (al.map f) tk)) (nx:rdn env x)
 (hy:rdv env y=some (.prim (.int k i))) (ny:rdn env y) (hl:dO T t=some sz) (hi:0≤i∧i≤al.length):PRun P o env σ (.sl sz ((al.drop i.toNat).map f) .no):=by
 obtain⟨e,s1,b1,z,li,h1,h2,h3⟩:=dh hT hl;obtain⟨n,rfl⟩:=zBk hi.1;have:=PRun.Dh (P:=P) (σ:=σ) (l:=n) (h:=(al.map f).length) ho (Rd.w hx nx) h1 h2 h3 ⟨k,Rd.w hy ny⟩ rfl (by simp;omega) (zAt _);rw[zAh (zAt _)] at this;simpa[List.map_drop] using this
theorem PRun.Fv (hT:T.Ok P) {α:Type} {f:α→List AV} {t:TypeId} {x y:Operand} {sz:Nat} {al:List α} {tk:Tok} {k:IntKind} {i:Int} (ho:o.op=.slice t x none (some y) none) (hx:rdv env x=some (.sl sz (al.map f) tk)) (nx:rdn env x)
 (hy:rdv env y=some (.prim (.int k i))) (ny:rdn env y) (hl:dO T t=some sz) (hi:0≤i∧i≤al.length):PRun P o env σ (.sl sz ((al.take i.toNat).map f) .no):=by
 obtain⟨e,s1,b1,z,li,h1,h2,h3⟩:=dh hT hl;obtain⟨n,rfl⟩:=zBk hi.1;have:=PRun.Dh (P:=P) (σ:=σ) (l:=0) (h:=n) ho (Rd.w hx nx) h1 h2 h3 rfl ⟨k,Rd.w hy ny⟩ oM (by simp;omega);simpa[List.map_take] using this
def fR (place:Nat→Option (Nat×Nat)) (cells:List AV):List (Nat×List AV)→Option (List AV)
 |[]=>some cells
 | (i, us) :: r => match place i with
   |some (off,sz)=>if us.length=sz∧off+sz≤cells.length then fR place (fX cells off us) r else none
   |none=>none
theorem w8:∀(vs:List Value) (k off:Nat) (cs:Array Value),off+k+vs.length≤cs.size→∀j,(((vs.zipIdx k).foldl (fun cs (c,j)=>cs.setIfInBounds (off+j) c) cs)).getD j undef=(if off+k≤j∧j<off+k+vs.length then vs.getD (j - (off+k)) undef else cs.getD j undef) ∧
 ((vs.zipIdx k).foldl (fun cs (c,j)=>cs.setIfInBounds (off+j) c) cs).size=cs.size
 |[],k,off,cs,_,j=>⟨by rw[if_neg (by simp only[zAm];omega)];rfl,rfl⟩
 | v :: vs, k, off, cs, h, j => by
   simp only[List.zipIdx_cons,List.foldl_cons,zAd] at h ⊢;obtain⟨h1,h2⟩:=w8 vs (k+1) off (cs.setIfInBounds (off+k) v) (by rw[zCq];omega) j;refine⟨?_,by rw[h2,zCq]⟩;rw[h1];by_cases h7:j=off+k
   · subst h7;rw[if_neg oM,if_pos oM];have:off+k<cs.size:=oM;simp[this]
   · by_cases h8:off+(k+1)≤j∧j<off+(k+1)+vs.length
     · rw[if_pos h8,if_pos oM];have:j - (off+k)=(j - (off+(k+1)))+1:=oM;rw[this];rfl
     · rw[if_neg h8,if_neg oM];simp only[zA2];rw[zCk (Ne.symm h7)]
theorem nZ {M:Mem} {B:List GB} {place:Nat→Option (Nat×Nat)}:∀(parts:List (Nat×List AV)) (py:List (Nat×Value)) (cells:List AV) (iP:Array Value) (r:List AV),fR place cells parts=some r→iP.size=cells.length →
 (∀(i:Nat) c,cells[i]? = some c→ag M B c (iP.getD i undef))→py.length=parts.length →
 (∀(i:Nat) (p:Nat×List AV) (q:Nat×Value),parts[i]? = some p→py[i]? = some q→p.1=q.1∧q.2.cells.size=p.2.length∧∀(j:Nat) c,p.2[j]? = some c→ag M B c (q.2.cells.getD j undef)) →
 ∃vr,Instr.fill place iP py=some vr∧vr.size=r.length∧∀(i:Nat) c,r[i]? = some c→ag M B c (vr.getD i undef)
 |[],[],cells,iP,r,h,hs,hr,_,_=>by simp[fR] at h;subst h;exact⟨iP,rfl,hs,hr⟩
 |[],_::_,_,_,_,_,_,_,hl,_=>by simp at hl
 |_::_,[],_,_,_,_,_,_,hl,_=>by simp at hl
 | (i, us) :: parts, (i', v) :: py, cells, iP, r, h, hs, hr, hl, hp => by
   obtain⟨rfl,hsz,hc⟩:=hp 0 _ _ rfl rfl;simp only at hsz hc;simp only[fR] at h;split at h
   · rename_i off sz hpl;split at h
     · rename_i hle;obtain⟨h1,h2⟩:=hle;have HD:=w8 v.cells.toList 0 off iP (by simp;omega);have e0:v.cells.zipIdx.foldl (fun cs (c,j)=>cs.setIfInBounds (off+j) c) iP=(v.cells.toList.zipIdx 0).foldl (fun cs (c,j)=>cs.setIfInBounds (off+j) c) iP:=by
        rw[←Array.foldl_toList];simp
       obtain⟨vr,h3,h4,h5⟩:=nZ parts py (fX cells off us) ((v.cells.toList.zipIdx 0).foldl (fun cs (c,j)=>cs.setIfInBounds (off+j) c) iP) r h (by rw[(HD 0).2];simp[fX,hs];omega) (fun j c hj=>by
        rw[(HD j).1];simp only[zBq,zBp];unfold fX at hj;rcases zAa j off with h5|h5
        · rw[if_neg oM];rw[zBo,zA8 (by simp;omega),zAw,if_pos h5] at hj;exact hr j c hj
        · rcases zAa j (off+us.length) with h6|h6
          · rw[if_pos ⟨h5,oM⟩];rw[zBo,zA7 (by simp;omega),zA8 (by simp;omega)] at hj;have e:j - (cells.take off).length=j - off:=by simp;omega
            rw[e] at hj;simpa using hc _ _ hj
          · rw[if_neg oM];rw[zA7 (by simp;omega)] at hj;have e:(cells.drop (off+us.length))[j - (cells.take off++us).length]? = cells[j]? := by
             rw[zB6];congr 1;simp;omega
            rw[e] at hj;exact hr j c hj) (by simpa using hl) (fun j p q h6 h7=>hp (j+1) p q (by simpa using h6) (by simpa using h7))
       refine⟨vr,?_,h4,h5⟩;simp only[Instr.fill,hpl];rw[if_neg (by simp;omega),e0];exact h3
     · simp at h
   · simp at h
def fw (env:Env):List (Nat×Operand)→Option (List (Nat×List AV))
 |[]=>some []
 | (i, x) :: r => match rdv env x, fw env r with
   | some u, some ps => match cd u with
     |some us=>some ((i,us)::ps)
     |none=>none
   |_,_=>none
theorem lb {M:Mem} {B:List GB} {a:Act}:∀{l:List (Nat×Operand)} {ps:List (Nat×List AV)},fw env l=some ps→(∀p∈l,p.2∈o.op.operands)→eW env (l.map (·.2))→(∀x∈o.op.operands,ag M B (c9 env x) (a.eval x)) →
 ps.length=l.length∧∀(i:Nat) (p:Nat×List AV) (q:Nat×Value),ps[i]? = some p→(l.map fun (i,x)=>(i,a.eval x))[i]? = some q→p.1=q.1∧q.2.cells.size=p.2.length∧∀(j:Nat) c,p.2[j]? = some c→ag M B c (q.2.cells.getD j undef)
 |[],ps,h,_,_,_=>by simp[fw] at h;subst h;exact⟨rfl,fun i p q h=>by simp at h⟩
 | (i, x) :: r, ps, h, hm, hn, hv => by
   simp only[fw] at h;split at h
   · rename_i u ps' hu hps;split at h
     · rename_i us hus;simp at h;subst h;obtain⟨h1,h2⟩:=lb hps (fun p hp=>hm p (zB9 _ hp)) hn.2 hv;refine⟨by simp[h1],fun j p q h3 h4=>?_⟩;cases j with
       | zero =>
         simp at h3 h4;subst h3;subst h4;have:=iN hus (rd (Rd.w hu hn.1) (hm _ (zB8 ..)) hv);exact⟨rfl,this.1,this.2⟩
       |succ j=>exact h2 j p q (by simpa using h3) (by simpa using h4)
     · simp at h
   · simp at h
theorem run_places {F : Array Field} {fs : List (Nat × Nat × Nat)} (w : World) (hF : F.toList.map (fun f => (f.type, f.offset, ((P.info? f.type).map (·.size)).getD 0)) = fs) (au : ∀ f ∈ F.toList, (P.info? f.type).isSome) :
    (F.mapM fun f:Field=>(do pure (f.offset,←sizeOf f.type):Sem (Nat×Nat))).run P w=.ok (fs.map (·.2)).toArray w:=by
  obtain⟨l,rfl⟩:∃l,F=List.toArray l:=⟨F.toList,by simp⟩
  simp only[List.mapM_toArray,Sem.run_map] at hF au ⊢
  have key : ∀ l : List Field, (∀ f ∈ l, (P.info? f.type).isSome) → (l.mapM fun f => (do pure (f.offset, ← sizeOf f.type) : Sem (Nat × Nat))).run P w = .ok (l.map fun f => (f.offset, ((P.info? f.type).map (·.size)).getD 0)) w := by
    intro l;induction l with
    |nil=>intro _;rfl
    | cons f r ih =>
      intro h;have h1:=h f (zB8 ..);obtain⟨i,hi⟩:=Option.isSome_iff_exists.1 h1;simp only[zD3,Sem.run_bind,Sem.run_pure,Result.andThen_ok];have:(sizeOf f.type).run P w=.ok i.size w:=by simp[sizeOf,typeInfo,hi]
      rw[this];simp only[Result.andThen_ok];rw[ih (fun g hg=>h g (zB9 _ hg))];simp[hi]
  rw[key l au];simp only[Result.andThen_ok];subst hF;simp
theorem PRun.J0 {t:TypeId} {parts:Array (Nat×Operand)} {fs:List (Nat×Nat×Nat)} {s1 b1:Nat} {zs:List Z} {ps:List (Nat×List AV)} {r:List AV} (ho:o.op=.build t parts) (hl:LOk P t ⟨.struct fs,s1,b1,zs⟩) (hnz:fs.all (fun x=>x.2.2 != 0)=true)
 (hp:fw env parts.toList=some ps) (hn:eW env (parts.toList.map (·.2))) (hf:fR (fun i=>(fs[i]?).map (·.2)) (zs.map Z.av) ps=some r):PRun P o env σ (.agg r):=by
 refine .of fun G A w hs hv=>?_
 obtain⟨h1,h2⟩:=lb (o:=o) (M:=G.M) (B:=G.B) (a:=A) hp (fun p hp=>by simp[ho,Op.operands];exact⟨p.1,by simpa using hp⟩) hn hv;obtain⟨d,hd1,hd2⟩:=hl.und;cases d<;>simp[ltOf] at hd2;rename_i F;have hz:=sL hl.one G.M G.B;simp only[lO,LT.isAgg,if_true,LI.aX] at hz;cases hz with
 | agg _ _ hzl hzr =>
   obtain⟨vr,h3,h4,h5⟩:=nZ ps (parts.toList.map fun (i,x)=>(i,A.eval x)) (zs.map Z.av) (zs.map Z.val).toArray r hf hzl hzr (by simp[h1]) h2;refine⟨.agg vr,?_,.agg _ _ h4 h5⟩;have Ip:=run_places (P:=P) (F:=F) (fs:=fs) w hd2 (fun f hf'=>by
    have:(f.type,f.offset,((P.info? f.type).map (·.size)).getD 0)∈fs:=by rw[←hd2];exact zAq.2 ⟨f,hf',rfl⟩
    have:=zA4.1 hnz _ this;simp only[bne_iff_ne] at this;cases hi:P.info? f.type with
    |none=>simp[hi] at this
    |some i=>rfl)
   simp only[execOp,ho,Instr.build];rw[Sem.run_bind,Sem.run_bind,hl.jg w];simp only[Result.andThen_ok];rw[Sem.run_bind,run_underlying hd1 w];simp only[Result.andThen_ok];rw[Sem.run_bind,Ip];simp only[Result.andThen_ok,LI.aX,LT.isAgg,if_true,Value.cells];have e:(fun i:Nat=>(fs.map (fun x:Nat×Nat×Nat=>x.2)).toArray[i]?)=(fun i:Nat=>(fs[i]?).map (fun x:Nat×Nat×Nat=>x.2)):=by funext i;simp
   rw[e];have e2:(parts.map fun (i,x)=>(i,A.eval x)).toList=parts.toList.map fun (i,x)=>(i,A.eval x):=sMp
   rw[e2,h3];rfl
end
def Mem.bo (M:Mem) (b:Nat) (c:Array Value):Mem:={ M with cell:=fun b' o=>if b'=b then c[o]? else M.cell b' o }
theorem Mem.ib {M:Mem} {b:Nat} (c:Array Value) (h:∀o,M.cell b o=none):M.Le (M.bo b c):=⟨fun b' o v hv=>by
 simp only[Mem.bo];split
 · rename_i e;subst e;rw[h o] at hv;cases hv
 · exact hv,fun _ _ h=>h⟩
theorem aC.Di {G:Gh} {σ:ae} {w:World} (h:aC G σ w) (c:Array Value) (T:TypeId):aC { G with M:=G.M.bo w.heap.size c } σ (w.alloc (.cells c T))∧G.M.Le (G.M.bo w.heap.size c):=by
 have hm:=(eV h.ay _ (zAt _)).1;have hle:=Mem.ib c hm;refine⟨⟨⟨fun b o v hv=>?_,fun b es hb=>?_,h.ay.g.mono hle⟩,fun b hb=>⟨fun o=>?_,(h.m0 b hb).2⟩,⟨by have:=h.base.1;show G.w0.w.heap.size≤_;simp;omega,fun b hb=>?_⟩,h.len,fun l g o h1 h2=>?_,fun l g b h1 h2=>?_,h.inj,h.out,⟨fun p hp=>?_,h.dfr.2⟩⟩,hle⟩
 · simp only[Mem.bo] at hv;split at hv
   · rename_i e;subst e;rw[World.cell?_alloc_new];exact hv
   · have h1:=h.ay.1 _ _ _ hv;rw[World.cell?_alloc_lt w _ _ (World.block_lt_of_cell? _ _ h1)];exact h1
 · obtain⟨cl,h1⟩:=h.ay.2 _ _ hb;refine⟨cl,?_⟩;rw[heap_alloc];split
   · rename_i e;subst e;simp at h1
   · exact h1
 · have hb':=h.nQ hb;simp only[Mem.bo];rw[if_neg oM];exact(h.m0 b hb).1 o
 · have hb':=h.nQ hb;rw[heap_alloc,if_neg oM];exact h.base.2 b hb
 · have ho:=h.bB l g o h1 h2;have hfr:∀b,g.block=some b→b<w.heap.size:=fun b hb=>(h.fresh l g b h1 hb).2
   have hh:∀b,b<w.heap.size→(w.alloc (.cells c T)).heap[b]? = w.heap[b]? := fun b hb=>by rw[heap_alloc,if_neg oM]
   have hc:∀b o,b<w.heap.size→(G.M.bo w.heap.size c).cell b o=G.M.cell b o:=fun b o hb=>by simp only[Mem.bo];rw[if_neg oM]
   exact ho.grow hle (BLe.refl _) (fun b hb=>hh b (hfr b hb)) fun b hb=>⟨fun o=>hc b o (hfr b hb),rfl⟩
 · have:=h.fresh l g b h1 h2;exact⟨this.1,by simp;omega⟩
 · obtain⟨k1,k2,k3,k4,k5⟩:=h.dfr.1 p hp;have hlt:=h.kO hp;exact⟨by rw[heap_alloc,if_neg oM];exact k1,k2,k3,fun o=>by simp only[Mem.bo];rw[if_neg oM];exact k4 o,k5⟩
def chunk (sz:Nat):Nat→List AV→List (List AV)
 |0,_=>[]
 |n+1,l=>l.take sz::chunk sz n (l.drop sz)
theorem lP (sz:Nat):∀(n:Nat) (l:List AV),(chunk sz n l).length=n
 |0,_=>rfl
 |n+1,l=>by simp[chunk,lP sz n]
theorem pz (sz:Nat):∀(n:Nat) (l:List AV) (i:Nat),i<n→(chunk sz n l)[i]? = some ((l.drop (i * sz)).take sz)
 |0,_,_,h=>by omega
 |n+1,l,0,_=>by simp[chunk]
 | n + 1, l, i + 1, h => by
   simp only[chunk,zBf];rw[pz sz n _ i oM,List.drop_drop];congr 3;rw[zB5];omega
theorem PRun.Iq {P:Program} {o:Oper} {env:Env} {σ:ae} {t e n:Nat} {parts:Array (Nat×Operand)} {s1 b1:Nat} {z:List Z} {le:LI} {ps:List (Nat×List AV)} {r:List AV} (ho:o.op=.buildSlice t n parts) (hl:LOk P t ⟨.slice e,s1,b1,z⟩) (he:LOk P e le) (hz0:le.zero.length=le.size)
 (hn0:0<n * le.size) (hn1:n * le.size≤16777216)
 (hp:fw env parts.toList=some ps) (hn:eW env (parts.toList.map (·.2))) (hf:fR (fun i=>some (i * le.size,le.size)) ((List.range (n * le.size)).map fun i=>(le.zero.map Z.av).getD (i % le.size) .any) (ps.map fun p=>(p.1,p.2.map (unb 4)))=some r) :
 PRun P o env σ (.sl le.size (chunk le.size n r) .fresh):=by
 intro G A w hs hv;obtain⟨h1,h2⟩:=lb (o:=o) (M:=G.M) (B:=G.B) (a:=A) hp (fun p hp=>by simp[ho,Op.operands];exact⟨p.1,by simpa using hp⟩) hn hv;have hzc:le.aX.cells=(le.zero.map Z.val).toArray:=by
  unfold LI.aX;cases ha:le.lt.isAgg with
  |true=>rfl
  | false =>
    obtain⟨z',hz'⟩:=he.one ha;rw[hz'];cases z'<;>rfl
 have hzr:∀z:Z,ag G.M [] z.av z.val:=fun z=>by cases z<;>first|exact .prim _|exact .nils|exact .imapz
 have hzs:le.aX.cells.size=le.size:=by rw[hzc];simp[hz0]
 obtain⟨vr,h3,h4,h5⟩:=nZ (M:=G.M) (B:=[]) (ps.map fun p=>(p.1,p.2.map (unb 4))) (parts.toList.map fun (i,x)=>(i,A.eval x)) _ ((Array.range (n * le.size)).map (le.aX.cells[· % le.aX.cells.size]!)) r hf sMp (fun i c hi=>by
  simp only[zA5,zA6] at hi;obtain⟨j,hj,rfl⟩:=hi;have hjr:=zAb.1 hj;obtain⟨hlt,hje⟩:=hjr;simp at hlt hje;subst hje;have cK:0<le.size:=Nat.pos_of_mul_pos_left hn0;have w9:i % le.size<le.zero.length:=by rw[hz0];exact Nat.mod_lt _ cK
  have e1:(((Array.range (n * le.size)).map (le.aX.cells[· % le.aX.cells.size]!)).getD i undef)=le.zero[i % le.size].val:=by
   simp only[zA2,Array.getElem?_map];rw[Array.getElem?_range,if_pos hlt];simp only[zBa,zCv,hzs];rw[hzc];simp[w9]
  have e2:(le.zero.map Z.av).getD (i % le.size) .any=le.zero[i % le.size].av:=by simp[List.getD,w9]
  rw[e1,e2];exact hzr _) (by simp[h1]) (fun i p q hi hq=>by
  simp only[zA5,zA6] at hi;obtain⟨p',hp',rfl⟩:=hi;obtain⟨g1,g2,g3⟩:=h2 i p' q hp' hq;refine⟨g1,by simpa using g2,fun j c hj=>?_⟩;simp only[zA5,zA6] at hj;obtain⟨c',hc',rfl⟩:=hj;exact fj 4 _ _ (g3 j c' hc'))
 have bl:(execOp A.eval o).run P w=.ok (.value (.slice (some ⟨w.heap.size,0,none⟩) n n)) (w.alloc (.cells vr e)):=by
  simp only[execOp,ho,Instr.buildSlice];rw[Sem.run_bind,Sem.run_bind,hl.slice w];simp only[Result.andThen_ok];rw[Sem.run_bind,he.cg w];simp only[Result.andThen_ok];have hno:¬n * le.size>2 ^ 24:=oM;have hne:¬n * le.size=0:=oM;simp only[if_neg hno,if_neg hne];have e2:(parts.map fun (i,x)=>(i,A.eval x)).toList=parts.toList.map fun (i,x)=>(i,A.eval x):=sMp
  simp only[Sem.run_bind,Sem.run_pure,Result.andThen_ok,he.jg w];rw[e2,h3];simp[newRow]
 have hlen:r.length=vr.size:=h4.symm;have hvs:vr.size=n * le.size:=by
  have key:∀(ps:List (Nat×List AV)) (cells r:List AV) (pl:Nat→Option (Nat×Nat)),fR pl cells ps=some r→r.length=cells.length:=by
   intro ps;induction ps with
   |nil=>intro cells r pl h;simp[fR] at h;rw[h]
   | cons p ps ih =>
     intro cells r pl h;obtain⟨i,us⟩:=p;simp only[fR] at h;split at h
     · split at h
       · rename_i hle;rw[ih _ _ _ h];simp[fX];omega
       · simp at h
     · simp at h
  have:=key _ _ _ _ hf;rw[h4,this];simp
 obtain⟨hs',hle⟩:=hs.Di vr e;unfold OWP;rw[bl];refine⟨_,{ G with M:=G.M.bo w.heap.size vr },rfl,?_,.upM hle,hs'⟩;have hcl:=lP le.size n r;have:ag (G.M.bo w.heap.size vr) G.B (.sl le.size (chunk le.size n r) .fresh) (.slice (some ⟨w.heap.size,0,none⟩) (chunk le.size n r).length n):=by
  have get:∀i,i<n→(chunk le.size n r)[i]? = some ((r.drop (i * le.size)).take le.size):=fun i hi=>pz le.size n r i hi
  have bound:∀i,i<n→i * le.size+le.size≤n * le.size:=fun i hi=>by
   have:=zAv le.size (show i+1≤n from hi);rwa [zB5,zDm] at this
  refine .sl le.size _ .fresh w.heap.size 0 n (fun i j=>vr.getD (i * le.size+j) undef) (fun es hes=>?_) (fun i j hi hj=>?_) (fun i j es c hi hj=>?_) oM (by show n=_;omega)
  · obtain⟨i,hi,hie⟩:=zAu.1 hes;rw[hcl] at hi;have:=get i hi;rw[zA1 oM] at this;simp at this;rw[←hie,this];have:=bound i hi;simp;omega
  · rw[hcl] at hi;have:=bound i hi;have hlt:i * le.size+j<vr.size:=oM;simp[Mem.bo,hlt]
  · have hin:i<n:=by
     rcases zAa i n with h|h
     · exact h
     · rw[zA3 oM] at hi;simp at hi
    rw[get i hin] at hi;simp at hi;subst hi;rw[zAw] at hj;split at hj
    · rw[zB6] at hj;exact(h5 _ _ hj).mono hle (BLe.refl _)
    · simp at hj
 rwa [hcl] at this
end Go.Ab
/- Growing arrays: append. -/
namespace Go.Ab
theorem aC.kP {G:Gh} {σ:ae} {w w':World} (h:aC G σ w) {l bs:Nat} {g g':GB} {o':bc} {M':Mem} (hl:G.B[l]? = some g) (hle:G.M.Le M') (hB:g.Le g') (hg':g'.block=some bs)
 (hsz:w.heap.size≤w'.heap.size) (hh:∀k,k≠bs→k<w.heap.size→w'.heap[k]? = w.heap[k]?) (hmm:M'.map=G.M.map) (hmc:∀b,b≠bs→∀o,M'.cell b o=G.M.cell b o) (hok:dc M' w')
 (hbs:g.block=some bs∨w.heap.size≤bs) (hbs':bs<w'.heap.size) (nV:cD w w') (ho:cW M' (G.B.set l g') w' g' o'):aC { G with M:=M',B:=G.B.set l g' } (σ.set l o') w':=by
 have hlb:l<G.B.length:=by
  rcases zAa l G.B.length with h'|h'
  · exact h'
  · simp[zA3 h'] at hl
 have hls:l<σ.length:=by rw[←h.len];exact hlb
 have hw0:¬G.w0.iI bs:=by
  rcases hbs with hb|hb
  · exact(h.fresh l g bs hl hb).1
  · exact h.Fo hb
 have hBle:BLe G.B (G.B.set l g'):=by
  intro l' g1 h1;by_cases e:l=l'
  · subst e;rw[hl] at h1;simp at h1;subst h1;exact⟨g',by rw[zAf hlb],hB⟩
  · exact⟨g1,by rw[zAp e];exact h1,GB.Le.refl _⟩
 have other:∀(l':Nat) (g1:GB) (b:Nat),l≠l'→G.B[l']? = some g1→g1.block=some b→b≠bs:=by
  intro l' g1 b hne h1 h2 e;subst e;rcases hbs with hb|hb
  · exact hne (h.inj l l' g g1 b hl h1 hb h2)
  · have:=(h.fresh l' g1 b h1 h2).2;omega
 refine⟨hok,fun b hb=>?_,⟨zC2 h.base.1 hsz,fun b hb=>?_⟩,by simp[h.len],fun l' g1 o1 h1 h2=>?_,fun l' g1 b h1 h2=>?_,fun l1 l2 g1 g2 b h1 h2 h3 h4=>?_,h.out.trans nV,⟨fun p hp=>?_,h.dfr.2⟩⟩
 · have:=h.m0 b hb;exact⟨fun o=>(hmc b (fun e=>hw0 (e▸hb)) o).trans (this.1 o),by rw[show M'.map b=G.M.map b by rw[hmm]];exact this.2⟩
 · rw[hh b (fun e=>hw0 (e▸hb)) (h.nQ hb)];exact h.base.2 b hb
 · by_cases e:l=l'
   · subst e;rw[zAf hlb] at h1;rw[zAf hls] at h2;simp at h1 h2;subst h1;subst h2;exact ho
   · rw[zAp e] at h1 h2;have ho1:=h.bB l' g1 o1 h1 h2;have hne:=fun b hb=>other l' g1 b e h1 hb
     have hfr:=fun b hb=>(h.fresh l' g1 b h1 hb).2
     exact ho1.grow hle hBle (fun b hb=>hh b (hne b hb) (hfr b hb)) fun b hb=>⟨fun o=>hmc b (hne b hb) o,by rw[hmm]⟩
 · by_cases e:l=l'
   · subst e;rw[zAf hlb] at h1;simp at h1;subst h1;rw[hg'] at h2;simp at h2;subst h2;exact⟨hw0,hbs'⟩
   · rw[zAp e] at h1;have:=h.fresh l' g1 b h1 h2;exact⟨this.1,zC3 this.2 hsz⟩
 · by_cases e1:l=l1<;>by_cases e2:l=l2
   · rw[←e1,←e2]
   · subst e1;rw[zAf hlb] at h1;rw[zAp e2] at h2;simp at h1;subst h1;rw[hg'] at h3;simp at h3;subst h3;exact absurd rfl (other l2 g2 _ e2 h2 h4)
   · subst e2;rw[zAf hlb] at h2;rw[zAp e1] at h1;simp at h2;subst h2;rw[hg'] at h4;simp at h4;subst h4;exact absurd rfl (other l1 g1 _ e1 h1 h3)
   · rw[zAp e1] at h1;rw[zAp e2] at h2;exact h.inj l1 l2 g1 g2 b h1 h2 h3 h4
 · obtain⟨k1,k2,k3,k4,k5⟩:=h.dfr.1 p hp;have hlt:=h.kO hp;have hne:p.1≠bs:=by
    rcases hbs with hb|hb
    · exact fun e=>k3 l g hl (by rw[hb,e])
    · omega
   refine⟨(hh _ hne hlt).trans k1,k2,fun l' g1 h1 e=>?_,fun o=>(hmc _ hne o).trans (k4 o),by rw[hmm];exact k5⟩;by_cases e1:l=l'
   · subst e1;rw[zAf hlb] at h1;simp at h1;subst h1;rw[hg'] at e;simp at e;exact hne e.symm
   · rw[zAp e1] at h1;exact k3 l' g1 h1 e
theorem cW.Ir {M:Mem} {B:List GB} {w:World} {ob:Option Nat} {cp nf sz m:Nat} (h:cW M B w (.own ob cp nf) (.own sz m)):nf=m∧((ob=none∧cp=0∧m=0) ∨
 ∃b c T fr,ob=some b∧w.heap[b]? = some (.cells c T fr)∧rC fr c.size∧c.size=cp * sz∧m≤cp∧∀o,m * sz≤o→M.cell b o=none):=by
 cases h with
 |ownz=>exact⟨rfl,.inl ⟨rfl,rfl,rfl⟩⟩
 |own b cap _ _ c T fr hb hf hl hn hm=>exact⟨rfl,.inr ⟨b,c,T,fr,rfl,hb,hf,hl,hn,hm⟩⟩
theorem BLe.set {B:List GB} {l:Nat} {g g':GB} (hl:B[l]? = some g) (hg:g.Le g'):BLe B (B.set l g'):=by
 have hlb:l<B.length:=by
  rcases zAa l B.length with h'|h'
  · exact h'
  · simp[zA3 h'] at hl
 intro l' g1 h1;by_cases e:l=l'
 · subst e;rw[hl] at h1;simp at h1;subst h1;exact⟨g',by rw[zAf hlb],hg⟩
 · exact⟨g1,by rw[zAp e];exact h1,GB.Le.refl _⟩
def gI (M:Mem) (sz:Nat) (es:List (List AV)) (c:Array Value):Prop :=
 c.size=es.length * sz∧(∀e∈es,e.length=sz)∧∀(i j:Nat) (e:List AV) (a:AV),es[i]? = some e→e[j]? = some a→ag M [] a (c.getD (i * sz+j) undef)
theorem dP {i n j sz:Nat} (hi:i<n) (hj:j<sz):i * sz+j<n * sz:=by
 have:=zAv sz (show i+1≤n from hi);rw[zB5,zDm] at this;omega
theorem ic {k n sz:Nat} (h:k<n * sz):k / sz<n∧k % sz<sz∧k=k / sz * sz+k % sz:=by
 have hs:0<sz:=by
  rcases zBe sz with h0|h0
  · subst h0;simp at h
  · exact h0
 refine⟨Nat.div_lt_of_lt_mul (by rwa [zDn]),Nat.mod_lt _ hs,?_⟩;rw[zDn];exact(Nat.div_add_mod k sz).symm
theorem ml {P:Program} {M:Mem} {B:List GB} {w:World} {sz:Nat} {es:List (List AV)} {t:Tok} {x:Value} (hm:dc M w) (h:ag M B (.sl sz es t) x) :
 ∃c,(Builtin.firstCells sz es.length x).run P w=.ok c w∧gI M sz es c:=by
 cases h with
 |slz=>exact⟨#[],rfl,by simp,by simp,fun i j e a h=>by simp at h⟩
 |slzz _ a cap=>exact⟨#[],by cases a<;>simp[Builtin.firstCells,loadCells,loadCellsFrom],by simp,by simp,fun i j e a h=>by simp at h⟩
 | sl _ _ _ b off cap f hz hm' hr hc ht =>
   refine⟨((List.range (es.length * sz)).map fun k=>f (k / sz) (k % sz)).toArray,?_,by simp,hz,fun i j e a hi hj=>?_⟩
   · simp only[Builtin.firstCells];refine run_loadCells w _ _ (fun k=>f (k / sz) (k % sz)) fun k hk=>?_
     obtain⟨h1,h2,h3⟩:=ic hk;rw[cq];have:=hm.1 _ _ _ (hm' _ _ h1 h2);rw[show off+k=off+k / sz * sz+k % sz by omega];exact this
   · have hi':i<es.length:=by
      rcases zAa i es.length with h|h
      · exact h
      · simp[zA3 h] at hi
     have hl:=hz e (zAc hi);have hj':j<sz:=by
      rcases zAa j e.length with h|h
      · omega
      · simp[zA3 h] at hj
     have hlt:=dP hi' hj';have e1:(i * sz+j) / sz=i:=by
      rw[zDn,Nat.mul_add_div oM,Nat.div_eq_of_lt hj'];rfl
     have e2:(i * sz+j) % sz=j:=by
      rw[zDn,Nat.mul_add_mod,Nat.mod_eq_of_lt hj']
     have:(((List.range (es.length * sz)).map fun k=>f (k / sz) (k % sz)).toArray).getD (i * sz+j) undef=f i j:=by
      simp[hlt,e1,e2]
     rw[this];exact hr i j e a hi hj
inductive fZ (T:Tab) (tx:TypeId) (sz:Nat):AV→List (List AV)→Prop
 |sl {es:List (List AV)} {t:Tok} {e s1 b1:Nat} {z:List Z} (ht:T.get tx=some ⟨.slice e,s1,b1,z⟩) (h1:∀x∈es,x.all eH=true):fZ T tx sz (.sl sz es t) es
 |nils {e s1 b1:Nat} {z:List Z} (ht:T.get tx=some ⟨.slice e,s1,b1,z⟩):fZ T tx sz .nils []
 |str {s:ByteArray} {s1 b1:Nat} {z:List Z} (ht:T.get tx=some ⟨.str,s1,b1,z⟩) (h1:sz=1):fZ T tx sz (.str s) (s.data.toList.map fun b=>[.prim (.int .u8 b.toNat)])
theorem LOk.dB {P:Program} {t e:TypeId} {sz by':Nat} {z:List Z} (h:LOk P t ⟨.slice e,sz,by',z⟩):P.underlying t=some (.slice e):=by
 obtain⟨d,h1,h2⟩:=h.und;cases d<;>simp[ltOf] at h2;subst h2;exact h1
theorem LOk.Dj {P:Program} {t:TypeId} {sz by':Nat} {z:List Z} (h:LOk P t ⟨.str,sz,by',z⟩):P.underlying t=some .string:=by
 obtain⟨d,h1,h2⟩:=h.und;cases d<;>simp[ltOf] at h2;exact h1
theorem fZ.src {P:Program} {T:Tab} (hT:T.Ok P) {tx:TypeId} {sz:Nat} {u:AV} {es:List (List AV)} (h:fZ T tx sz u es) {M:Mem} {B:List GB} {w:World} {x:Value} (hm:dc M w) (hx:ag M B u x) :
 ∃news,Src P sz tx x es.length news w∧gI M sz es news.toArray:=by
 cases h with
 |nils ht=>cases hx;exact⟨[],Src.ofNil w (LOk.of (hT.get ht)).dB 0,by simp[gI]⟩
 | str ht h1 =>
   subst h1;have:=ag.aJ hx;subst this;rename_i s _ _ _;refine⟨byteCells s,?_,?_⟩
   · have:=Src.ofString (P:=P) w (LOk.of (hT.get ht)).Dj s;have e:s.size=(s.data.toList.map fun b=>[AV.prim (.int .u8 b.toNat)]).length:=sMp;rwa [e] at this
   · refine⟨by simp[byteCells],by simp,fun i j e a hi hj=>?_⟩;simp only[zA5,zA6] at hi;obtain⟨b,hb,rfl⟩:=hi;cases j with
     |succ j=>simp at hj
     | zero =>
       simp at hj;subst hj;have:(byteCells s).toArray.getD (i * 1+0) undef=.int .u8 b.toNat:=by
        simp only[zCb,zBq,zA2,zCg,byteCells,zA5,hb];rfl
       rw[this];exact .prim _
 | sl ht h1 =>
   obtain⟨c,hc1,hc2,hc3,hc4⟩:=ml (P:=P) hm hx;obtain⟨c',hc1',hc2',_,_⟩:=ml (P:=P) (w:=w.drew) (M:=M) ⟨hm.1,hm.2,hm.g⟩ hx;have jh:∀u∈c.toList,u.oneCell'=true:=by
    intro u hu;obtain⟨k,hk,rfl⟩:=zAu.1 hu;have hk':k<es.length * sz:=by rw[←hc2];simpa using hk
    obtain⟨g1,g2,g3⟩:=ic hk';have hl:=hc3 _ (zCu g1);have:=hc4 (k / sz) (k % sz) _ _ (zA1 g1) (zA1 (by omega:k % sz<(es[k / sz]).length));rw[←g3] at this;have h2:=zA4.1 (h1 _ (zCu g1)) _ (zCu (by omega:k % sz<(es[k / sz]).length));have h3:=js h2 this;have hk2:k<c.size:=by simpa using hk
    simpa[hk2] using h3
   have same:c'=c:=by
    have e1:=hc1;have e2:=hc1'
    -- both are the cells of the same slice
    cases hx with
    |slz=>simp[Builtin.firstCells] at e1 e2;rw[e1,e2]
    |slzz _ a cap=>cases a<;>(simp[Builtin.firstCells,loadCells,loadCellsFrom] at e1 e2;rw[e1,e2])
    | sl _ _ _ b off cap f hz hm' hr hcc htt =>
      simp only[Builtin.firstCells] at e1 e2;have l1:=run_loadCells (P:=P) w ⟨b,off,none⟩ (es.length * sz) (fun k=>f (k / sz) (k % sz)) (fun k hk=>by
       obtain⟨g1,g2,g3⟩:=ic hk;rw[cq,show off+k=off+k / sz * sz+k % sz by omega];exact hm.1 _ _ _ (hm' _ _ g1 g2))
      have l2:=run_loadCells (P:=P) w.drew ⟨b,off,none⟩ (es.length * sz) (fun k=>f (k / sz) (k % sz)) (fun k hk=>by
       obtain⟨g1,g2,g3⟩:=ic hk;rw[cq,show off+k=off+k / sz * sz+k % sz by omega];exact hm.1 _ _ _ (hm' _ _ g1 g2))
      rw[l1] at e1;rw[l2] at e2;simp at e1 e2;rw[←e1,←e2]
   subst same;refine⟨c'.toList,⟨.inl ⟨_,(LOk.of (hT.get ht)).dB⟩,fun w'=>?_,by simpa using hc1,by simpa using hc1',by simp[hc2],jh⟩,by simpa using⟨hc2,hc3,hc4⟩⟩;cases hx<;>rfl
theorem ji {P:Program} (w w':World) (t tx ty e:TypeId) (i:TypeInfo) (ht:P.underlying t=some (.slice e)) (hi:P.info? e=some i) (b off A9 Fw:Nat) (x:Value) (n:Nat) (news:List Value) (hs:Src P i.size tx x n news w)
 (i1:A9+n≤Fw) (hst:(storeCells ⟨b,off+A9 * i.size,none⟩ news 0).run P w=.ok () w') :
 (Builtin.append_ #[t,tx] ty #[.slice (some ⟨b,off,none⟩) A9 Fw,x]).run P w=.ok (.slice (some ⟨b,off,none⟩) (A9+n) Fw) w':=by
 rcases hs.kind with ⟨e',hk⟩|hk<;>simp[Builtin.append_,run_underlying ht,run_underlying hk,sizeOf,typeInfo,hi,hs.len,i1,hs.cells,Addr.add_lit,hst]
theorem rH {M:Mem} {B:List GB} {sz:Nat} {es:List (List AV)} {t:Tok} {b cap:Nat} {c:Array Value} (hz:∀e∈es,e.length=sz) (hc:es.length≤cap) (hm:∀o,o<es.length * sz→M.cell b o=some (c.getD o undef))
 (hr:∀(i j:Nat) (e:List AV) (a:AV),es[i]? = some e→e[j]? = some a→ag M [] a (c.getD (i * sz+j) undef)) (ht:mg B t (some (b,0)) es.length cap):ag M B (.sl sz es t) (.slice (some ⟨b,0,none⟩) es.length cap) :=
 .sl sz es t b 0 cap (fun i j=>c.getD (i * sz+j) undef) hz (fun i j hi hj=>by rw[zBv];exact hm _ (dP hi hj)) hr hc ht
theorem mQ {es es2:List (List AV)} {sz:Nat} {M:Mem} {c1 c2 c:Array Value} (h1:gI M sz es c1) (h2:gI M sz es2 c2) (hc1:∀o,o<es.length * sz→c.getD o undef=c1.getD o undef) (hc2:∀o,o<es2.length * sz→c.getD (es.length * sz+o) undef=c2.getD o undef) :
 ∀(i j:Nat) (e:List AV) (a:AV),(es++es2)[i]? = some e→e[j]? = some a→ag M [] a (c.getD (i * sz+j) undef):=by
 intro i j e a hi hj;rcases zAa i es.length with h|h
 · rw[zA8 h] at hi;have hl:=h1.2.1 e (zAc hi);have hj':j<sz:=by
    rcases zAa j e.length with h|h
    · omega
    · simp[zA3 h] at hj
   rw[hc1 _ (dP h hj')];exact h1.2.2 i j e a hi hj
 · rw[zA7 h] at hi;have hl:=h2.2.1 e (zAc hi);have hj':j<sz:=by
    rcases zAa j e.length with h|h
    · omega
    · simp[zA3 h] at hj
   have hi':i - es.length<es2.length:=by
    rcases zAa (i - es.length) es2.length with h'|h'
    · exact h'
    · simp[zA3 h'] at hi
   have:=hc2 _ (dP hi' hj');have e1:es.length * sz+((i - es.length) * sz+j)=i * sz+j:=by
    rw[←zC4,←zB5];congr 2;omega
   rw[e1] at this;rw[this];exact h2.2.2 _ j e a hi hj
section
variable {P:Program} {n:Nat} {ops:Array Oper} {o:Oper} {env:Env} {σ:ae} {k:Env→ae→Prop} {T:Tab}
theorem EStep.dH (hT:T.Ok P) {s x:Operand} {t tx e:TypeId} {d l sz:Nat} {es es2:List (List AV)} {u:AV} {s1 b1:Nat} {z:List Z} {le:LI} (ho:o.op=.call { callee:=.builtin .append,args:=#[s,x],argTypes:=#[t,tx] })
 (hg:o.guard=none) (hd:o.dst=some d) (hdn:d<n) (hs:Rd env s (.sl sz es (.own l))) (hσ:σ[l]? = some (.own sz es.length)) (hx:Rd env x u) (iJ:fZ T tx sz u es2)
 (hl:LOk P t ⟨.slice e,s1,b1,z⟩) (he:LOk P e le) (hsz:le.size=sz) (hz0:le.zero.length=le.size) (hbound:(es.length+es2.length) * le.bytes≤140737488355328) (hb2:es.length+es2.length≤9223372036854775807)
 (hk:k (env.put d (.sl sz (es++es2) (.own l))) (σ.set l (.own sz (es.length+es2.length)))):EStep P n ops o k env σ:=by
 refine EStep.plain hg fun G a w hr=>?_
 have h1:=hr.rd hs;obtain⟨news,hS,hN⟩:=iJ.src hT hr.st.ay (hr.rd hx);generalize hA:a.eval s=sv at h1;obtain⟨i,hi1,hi2,hi3,hi4⟩:=he.info;have eJ:=hl.dB;have hS':Src P i.size tx (a.eval x) es2.length news w:=by rw[hi2,hsz];exact hS
 have hNs:news.length=es2.length * sz:=by have:=hN.1;simpa using this
 -- the array's own place
 have hgb:∃g,G.B[l]? = some g:=⟨_,zA1 (by
  rw[hr.st.len];rcases zAa l σ.length with h|h
  · exact h
  · simp[zA3 h] at hσ)⟩
 obtain⟨g,hgl⟩:=hgb;have cP:=hr.st.bB l g _ hgl hσ;have hzc:le.aX.cells.size=sz:=by
  unfold LI.aX;cases ha:le.lt.isAgg with
  |true=>simp[Value.cells,hz0,hsz]
  | false =>
    obtain⟨z',hz'⟩:=he.one ha;rw[hz'] at hz0 ⊢;simp at hz0;rw[←hsz,←hz0];cases z'<;>rfl
 -- what a new row comes to
 have grow:∀(base:Option Addr) (cap:Nat) (iK:List Value),a.eval s=.slice base es.length cap→gI G.M sz es iK.toArray→(Builtin.firstCells i.size es.length (.slice base es.length cap)).run P w.drew=.ok iK.toArray w.drew→cap<es.length+es2.length→g.Le (.own (some w.heap.size) (grownCap w (es.length+es2.length) cap e) (es.length+es2.length)) →
  OWP P o a w (fun a' w'=>∃aw σ' G',k aw σ'∧G.Le G'∧bf n G' aw σ' a' w'):=by
  intro base cap iK hsv hO hold hlt ie;have bl:=run_append_grow_src (P:=P) w t tx o.type e i le.aX eJ hi1 (by rw[hi4];rfl) base es.length cap iK hold (a.eval x) es2.length news hS' hlt oM (growslice_fits hlt (by rw[hi3];exact hbound));have hOs:iK.length=es.length * sz:=by have:=hO.1;simpa using this
  have gJ:es.length+es2.length≤grownCap w (es.length+es2.length) cap e:=by unfold grownCap Question.cut;exact Nat.le_add_right _ _
  generalize ig:((iK++news).toArray++Builtin.zeroCells le.aX.cells (grownCap w (es.length+es2.length) cap e - (es.length+es2.length)))=row at bl;have jG:row.size=grownCap w (es.length+es2.length) cap e * sz:=by
   rw[←ig];simp only[zDt,zD8,zCr,size_zeroCells,hzc,hOs,hNs,←zB5];congr 1;omega
  have dY:(execOp a.eval o).run P w=.ok (.value (.slice (some ⟨w.heap.size,0,none⟩) (es.length+es2.length) (grownCap w (es.length+es2.length) cap e))) (w.drew.alloc (.cells row e)):=by
   simp[execOp,ho,resolve,invoke,builtin,hsv,bl]
  unfold OWP;rw[dY]
  -- the first cells of the row
  have Fx:∀o,o<es.length * sz→row.getD o undef=iK.toArray.getD o undef:=by
   intro o ho;rw[←ig];simp only[zA2,zDy];rw[zAl (by simp;omega)];simp only[zCg];rw[zA8 oM]
  have xa:∀o,o<es2.length * sz→row.getD (es.length * sz+o) undef=news.toArray.getD o undef:=by
   intro o ho;rw[←ig];simp only[zA2,zDy];rw[zAl (by simp;omega)];simp only[zCg];rw[zA7 oM,hOs,zCj]
  have hm0:=(eV hr.st.ay _ (zAt w.heap.size)).1;let M':Mem:={ G.M with cell:=fun b o=>if b=w.heap.size then (if o<(es.length+es2.length) * sz then some (row.getD o undef) else none) else G.M.cell b o }
  have hle:G.M.Le M':=⟨fun b o v hv=>by
   show(if b=w.heap.size then _ else _)=_;split
   · rename_i e;subst e;rw[hm0 o] at hv;cases hv
   · exact hv,fun _ _ h=>h⟩
  have jH:(w.drew.alloc (.cells row e)).heap[w.heap.size]? = some (.cells row e):=by rw[heap_alloc];simp
  have hok:dc M' (w.drew.alloc (.cells row e)):=by
   refine⟨fun b o v hv=>?_,fun b es' hb=>?_,hr.st.ay.g.mono hle⟩
   · change (if b=w.heap.size then _ else _)=_ at hv;split at hv
     · rename_i eb;subst eb;split at hv
       · rename_i ho;have cr:o<row.size:=by
          rw[jG];exact zC3 ho (zAv _ gJ)
         simp only[World.cell?,jH];simp at hv;simp[cr,←hv]
       · simp at hv
     · have h2:=hr.st.ay.1 _ _ _ hv;have cr:=World.block_lt_of_cell? _ _ h2;have:(w.drew.alloc (.cells row e)).cell? ⟨b,o,none⟩=w.drew.cell? ⟨b,o,none⟩:=World.cell?_alloc_lt _ _ _ cr;rw[this];exact h2
   · obtain⟨cl,h2⟩:=hr.st.ay.2 _ _ hb;refine⟨cl,?_⟩;rw[heap_alloc];split
     · rename_i eb;subst eb;simp at h2
     · exact h2
  have hU:∀o,o<(es.length+es2.length) * sz→M'.cell w.heap.size o=some (row.getD o undef):=fun o ho=>by
   show(if w.heap.size=w.heap.size then _ else _)=_;rw[if_pos rfl,if_pos ho]
  have hs2:aC { G with M:=M',B:=G.B.set l (.own (some w.heap.size) (grownCap w (es.length+es2.length) cap e) (es.length+es2.length)) } (σ.set l (.own sz (es.length+es2.length))) (w.drew.alloc (.cells row e)):=by
   refine hr.st.kP hgl hle ie rfl sMp (fun k hk hk2=>by rw[heap_alloc];simp[Nat.ne_of_lt hk2];rfl) rfl (fun b hb o=>if_neg hb) hok (.inr (zAt _)) sMp cD.r ?_;exact .own w.heap.size _ sz _ row e (0,0) jH (by intro o _;simp) jG gJ fun o ho=>by
    show(if w.heap.size=w.heap.size then _ else _)=_;rw[if_pos rfl,if_neg oM]
  have hG:G.Le { G with M:=M',B:=G.B.set l (.own (some w.heap.size) (grownCap w (es.length+es2.length) cap e) (es.length+es2.length)) }:=.up hle (BLe.set hgl ie);refine⟨_,_,_,hk,hG,?_⟩;rw[hd];have hr':bf n { G with M:=M',B:=G.B.set l (.own (some w.heap.size) (grownCap w (es.length+es2.length) cap e) (es.length+es2.length)) } env (σ.set l (.own sz (es.length+es2.length))) a (w.drew.alloc (.cells row e)):=⟨hr.size,hr.defers,fun i=>(hr.bh i).mono hle (BLe.set hgl ie),hs2⟩;refine hr'.put hdn ?_;have hO':gI M' sz es iK.toArray:=⟨hO.1,hO.2.1,fun i j e a x y=>(hO.2.2 i j e a x y).mono hle (BLe.refl _)⟩;have hN':gI M' sz es2 news.toArray:=⟨hN.1,hN.2.1,fun i j e a x y=>(hN.2.2 i j e a x y).mono hle (BLe.refl _)⟩
  have:=rH (M:=M') (B:=G.B.set l (.own (some w.heap.size) (grownCap w (es.length+es2.length) cap e) (es.length+es2.length))) (sz:=sz) (es:=es++es2) (t:=.own l) (b:=w.heap.size) (cap:=grownCap w (es.length+es2.length) cap e) (c:=row)
   (fun e he=>(zAx.1 he).elim (hO.2.1 e) (hN.2.1 e)) (by simp;exact gJ) (fun o ho=>hU o (by simpa using ho)) (mQ hO' hN' Fx xa)
   ⟨some w.heap.size,grownCap w (es.length+es2.length) cap e,es.length+es2.length,by rw[zAf (by
    rcases zAa l G.B.length with h|h
    · exact h
    · simp[zA3 h] at hgl)],by simp,fun _=>⟨rfl,rfl⟩⟩
  simpa using this
 cases h1 with
 | slz sz t ht =>
   obtain⟨ob,cp,nf,ht1,ht2,ht3⟩:=ht;rw[hgl] at ht1;simp at ht1;subst ht1;cases cP with
   | own b cap sz n' c T' fr hb hf hlc hn hm =>
     -- an array that is not nil, at length 0, and a nil slice: they do not go together
     exact absurd (ht3 rfl).1 sMp
   | ownz sz =>
     by_cases hz:es2.length=0
     · have hes2:es2=[]:=zAr hz;subst hes2;have mm:news=[]:=zAr (by simpa using hNs);have bl:(Builtin.append_ #[t,tx] o.type #[.slice none 0 0,a.eval x]).run P w=.ok (.slice none 0 0) w:=by
        have hcc:=hS'.cells;have hll:=hS'.len;simp only[zAm] at hcc hll;rcases hS.kind with ⟨e',hk'⟩|hk'<;>simp[Builtin.append_,run_underlying eJ,run_underlying hk',sizeOf,typeInfo,hi1,hll,hcc]
       have dY:(execOp a.eval o).run P w=.ok (.value (.slice none 0 0)) w:=by simp[execOp,ho,resolve,invoke,builtin,hA,bl]
       unfold OWP;rw[dY];refine⟨_,_,G,hk,Gh.Le.refl G,?_⟩;rw[hd];have Fq:σ.set l (.own sz (([]:List (List AV)).length+([]:List (List AV)).length))=σ:=by
        apply zCh;intro j;by_cases hj:l=j
        · subst hj;have:l<σ.length:=by
           rcases zAa l σ.length with h|h
           · exact h
           · simp[zA3 h] at hσ
          rw[zAf this,hσ];rfl
        · rw[zAp hj]
       rw[Fq];exact hr.put hdn (.slz sz (.own l) ⟨none,0,0,hgl,zAt _,fun _=>⟨rfl,rfl⟩⟩)
     · exact grow none 0 [] hA ⟨by simp,by simp,fun i j e a h=>by simp at h⟩ rfl (by simpa using Nat.pos_of_ne_zero hz) (.inr ⟨_,_,_,rfl,by simpa using Nat.pos_of_ne_zero hz⟩)
 | sl _ _ _ b off cap f hz hm hr' hc ht =>
   obtain⟨ob,cp,nf,ht1,ht2,ht3⟩:=ht;rw[hgl] at ht1;simp at ht1;subst ht1;obtain⟨rfl,⟨rfl,rfl,h0⟩|⟨b',c,T',fr,rfl,hb,hf,hlc,hn,hmn⟩⟩:=cP.Ir
   · exact absurd (ht3 rfl).1 sMp
   · obtain⟨q1,q2⟩:=ht3 rfl;simp at q1;obtain⟨rfl,rfl⟩:=q1;subst q2;obtain⟨oldc,hO1,hO2⟩:=ml (P:=P) hr.st.ay (ag.sl (B:=G.B) sz es .no b 0 cap f hz hm hr' hc trivial);obtain⟨La,hO1',hO2'⟩:=ml (P:=P) (w:=w.drew) ⟨hr.st.ay.1,hr.st.ay.2,hr.st.ay.g⟩ (ag.sl (B:=G.B) sz es .no b 0 cap f hz hm hr' hc trivial);by_cases i1:es.length+es2.length≤cap
     · -- there is room
       have hcs:(es.length+es2.length) * sz≤c.size:=by rw[hlc];exact zAv _ i1
       rw[zB5] at hcs;obtain⟨w',c',r1,r2,r3,r4,r5,r6,j6⟩:=dw (P:=P) (b:=b) (off:=es.length * sz) (T:=T') (fr:=fr) news 0 c w hb hf hS.one oM;have bl:=ji (P:=P) w w' t tx o.type e i eJ hi1 b 0 es.length cap (a.eval x) es2.length news hS' i1 (by rw[hi2,hsz,zBv];exact r1);have dY:(execOp a.eval o).run P w=.ok (.value (.slice (some ⟨b,0,none⟩) (es.length+es2.length) cap)) w':=by simp[execOp,ho,resolve,invoke,builtin,hA,bl]
       unfold OWP;rw[dY];simp only[zBq] at r6;let M':Mem:={ G.M with cell:=fun b2 o=>if b2=b then (if o<(es.length+es2.length) * sz then some (c'.getD o undef) else none) else G.M.cell b2 o }
       have hold:∀o v,G.M.cell b o=some v→o<es.length * sz∧c'.getD o undef=v:=by
        intro o v hv;have hlt:o<es.length * sz:=by
         rcases zAa o (es.length * sz) with h|h
         · exact h
         · rw[hmn o h] at hv;cases hv
        refine⟨hlt,?_⟩;rw[r6 o,if_neg oM];have h2:=hr.st.ay.1 _ _ _ hv;simp only[World.cell?,hb] at h2;simp at h2;simp[h2]
       have hle:G.M.Le M':=⟨fun b2 o v hv=>by
        show(if b2=b then _ else _)=_;split
        · rename_i e2;subst e2;obtain⟨g1,g2⟩:=hold o v hv;rw[if_pos (by rw[zB5];omega),g2]
        · exact hv,fun _ _ h=>h⟩
       have n9:G.M.map b=none:=cQ hr.st.ay hb (by intros;simp);have hok:dc M' w':=by
        refine⟨fun b2 o v hv=>?_,fun b2 es' hb2'=>?_,hr.st.ay.g.mono hle⟩
        · change (if b2=b then _ else _)=_ at hv;split at hv
          · rename_i e2;subst e2;split at hv
            · rename_i ho2;rw[zB5] at ho2;have cr:o<c'.size:=by rw[r5];omega
              simp at hv;simp only[World.cell?,r4];simp[cr,←hv]
            · simp at hv
          · rename_i e2;have h2:=hr.st.ay.1 _ _ _ hv;simp only[World.cell?] at h2 ⊢;rw[r3 _ e2];exact h2
        · have hne:b2≠b:=fun e2=>by subst e2;rw[show M'.map b2=G.M.map b2 from rfl,n9] at hb2';cases hb2'
          obtain⟨cl,h2⟩:=hr.st.ay.2 _ _ hb2';exact⟨cl,by rw[r3 _ hne];exact h2⟩
       have ie:(GB.own (some b) cap es.length).Le (.own (some b) cap (es.length+es2.length)):=by
        by_cases hz2:es2.length=0
        · rw[hz2];exact .inl rfl
        · exact .inr ⟨_,_,_,rfl,oM⟩
       have hblt:=(hr.st.fresh l _ b hgl rfl).2;have hs2:aC { G with M:=M',B:=G.B.set l (.own (some b) cap (es.length+es2.length)) } (σ.set l (.own sz (es.length+es2.length))) w':=by
        refine hr.st.kP hgl hle ie rfl oM (fun k hk _=>r3 k hk) rfl (fun b2 hb2' o=>if_neg hb2') hok (.inl rfl) oM j6 ?_;exact .own b cap sz _ c' T' fr r4 (by rw[r5];exact hf) (by rw[r5,hlc]) i1 fun o ho2=>by
         show(if b=b then _ else _)=_;rw[if_pos rfl,if_neg oM]
       have hG:G.Le { G with M:=M',B:=G.B.set l (.own (some b) cap (es.length+es2.length)) }:=.up hle (BLe.set hgl ie);refine⟨_,_,_,hk,hG,?_⟩;rw[hd];have hr2:bf n { G with M:=M',B:=G.B.set l (.own (some b) cap (es.length+es2.length)) } env (σ.set l (.own sz (es.length+es2.length))) a w':=⟨hr.size,hr.defers,fun i=>(hr.bh i).mono hle (BLe.set hgl ie),hs2⟩;refine hr2.put hdn ?_;have hOc:gI M' sz es oldc:=⟨hO2.1,hO2.2.1,fun i j e a x y=>(hO2.2.2 i j e a x y).mono hle (BLe.refl _)⟩;have hN':gI M' sz es2 news.toArray:=⟨hN.1,hN.2.1,fun i j e a x y=>(hN.2.2 i j e a x y).mono hle (BLe.refl _)⟩
       -- the old cells
       have hoc:∀o,o<es.length * sz→c'.getD o undef=oldc.getD o undef:=by
        intro o ho2;obtain⟨g1,g2,g3⟩:=ic ho2;have fc:=hm _ _ g1 g2;rw[zBv,←g3] at fc;rw[(hold o _ fc).2];have l1:=run_loadCells (P:=P) w ⟨b,0,none⟩ (es.length * sz) (fun k=>f (k / sz) (k % sz)) (fun k hk=>by
         obtain⟨g1,g2,g3⟩:=ic hk;rw[cq,show 0+k=0+k / sz * sz+k % sz by omega];exact hr.st.ay.1 _ _ _ (hm _ _ g1 g2))
        simp only[Builtin.firstCells] at hO1;rw[l1] at hO1;simp at hO1;rw[←hO1];simp[ho2]
       have hnc:∀o,o<es2.length * sz→c'.getD (es.length * sz+o) undef=news.toArray.getD o undef:=by
        intro o ho2;rw[r6,if_pos oM,zCj];simp[List.getD]
       have:=rH (M:=M') (B:=G.B.set l (.own (some b) cap (es.length+es2.length))) (sz:=sz) (es:=es++es2) (t:=.own l) (b:=b) (cap:=cap) (c:=c')
        (fun e he=>(zAx.1 he).elim (hO2.2.1 e) (hN.2.1 e)) (by simpa using i1) (fun o ho2=>by
         show(if b=b then _ else _)=_;rw[if_pos rfl,if_pos (by simpa using ho2)]) (mQ hOc hN' hoc hnc)
        ⟨some b,cap,es.length+es2.length,by rw[zAf (by
         rcases zAa l G.B.length with h|h
         · exact h
         · simp[zA3 h] at hgl)],by simp,fun _=>⟨rfl,rfl⟩⟩
       simpa using this
     · refine grow _ cap La.toList hA (by simpa using hO2') (by rw[hi2,hsz];simpa using hO1') oM (.inr ⟨_,_,_,rfl,oM⟩)
end
end Go.Ab
/- Loops by lists of slots; growing arrays that begin as nil. -/
namespace Go.Ab
def fe (env:Env):List (Nat×AV)→Prop
 |[]=>True
 |(i,v)::r=>env i=v∧fe env r
theorem fe.mem {env:Env}:∀{l:List (Nat×AV)},fe env l→∀p∈l,env p.1=p.2
 | _ :: _, h, p, hp => by
   rcases zAo.1 hp with rfl|hp
   · exact h.1
   · exact fe.mem h.2 p hp
theorem fe.ug {env:Env} {l:List (Nat×AV)} (h:fe env l):env.ua (Env.of l):=by
 intro M B i x hx;unfold Env.of;cases hf:l.find? (fun p=>p.1==i) with
 |none=>exact .any _
 | some p =>
   have h1:=zDl hf;simp at h1;have:=h.mem p (zBi hf);rw[h1] at this;simp only;rw[←this];exact hx
section
variable {P:Program} {n:Nat} {K:Exit→Env→ae→Prop} {env:Env} {σ:ae}
theorem AWP.Lb {c:Code} {ι:Type} (E:ι→List (Nat×AV)) (S:ι→ae) (inv:ι→Prop) (μ:ι→Nat) (i0:ι) (h0:inv i0) (hE:fe env (E i0)) (hS:σ=S i0)
 (round:∀i,inv i→AWP P n c (kq (fun e s=>∃j,inv j∧μ j<μ i∧fe e (E j)∧s=S j) K) (Env.of (E i)) (S i)):AWP P n (.loop c) K env σ:=by
 refine AWP.loop (fun i=>Env.of (E i)) S inv μ i0 h0 hE.ug hS fun i hi=>?_
 refine AWP.mono (round i hi) ?_;intro x e s h;cases x with
 |normal=>obtain⟨j,h1,h2,h3,h4⟩:=h;exact⟨j,h1,h2,h3.ug,h4⟩
 |_=>exact h
theorem AWP.cY {c:Code} (l:List (Nat×AV)) (h:fe env l) (hk:AWP P n c K (Env.of l) σ):AWP P n c K env σ:=AWP.weaken h.ug hk
theorem AWP.iQ {c:Code} {d sz:Nat} (hd:env d=.nils) (hk:AWP P n c K (env.put d (.sl sz [] (.own σ.length))) (σ++[.own sz 0])):AWP P n c K env σ:=by
 intro G a w hr;have hs:aC { G with B:=G.B++[.own none 0 0] } (σ++[.own sz 0]) w:=by
  have hb:BLe G.B (G.B++[.own none 0 0]):=BLe.append _ _;have new:∀(l:Nat) (g:GB),(G.B++[GB.own none 0 0])[l]? = some g→l<G.B.length∧G.B[l]? = some g∨l=G.B.length∧g=.own none 0 0:=by
   intro l g h;rcases zAa l G.B.length with hlt|hge
   · rw[zA8 hlt] at h;exact .inl ⟨hlt,h⟩
   · rw[zA7 hge] at h;have hz:l - G.B.length=0:=by
      rcases zBe (l - G.B.length) with hz|hp
      · exact hz
      · rw[zA3 (by simp;omega)] at h;simp at h
     rw[hz] at h;simp at h;exact .inr ⟨oM,h.symm⟩
  refine⟨hr.st.ay,hr.st.m0,hr.st.base,by simp[hr.st.len],fun l g o h1 h2=>?_,fun l g b h1 h2=>?_,fun l l' g g' b h1 h2 h3 h4=>?_,hr.st.out,⟨fun p hp=>?_,hr.st.dfr.2⟩⟩
  · rcases new l g h1 with ⟨hlt,h1⟩|⟨rfl,rfl⟩
    · rw[zA8 (by rw[←hr.st.len];exact hlt)] at h2;exact(hr.st.bB l g o h1 h2).cY hb fun b _=>rfl
    · rw[zA7 (by rw[←hr.st.len];exact zAt _)] at h2;simp[hr.st.len] at h2;subst h2;exact .ownz sz
  · rcases new l g h1 with ⟨_,h1⟩|⟨_,rfl⟩
    · exact hr.st.fresh l g b h1 h2
    · simp[GB.block] at h2
  · rcases new l g h1 with ⟨_,h1⟩|⟨_,rfl⟩
    · rcases new l' g' h2 with ⟨_,h2⟩|⟨_,rfl⟩
      · exact hr.st.inj l l' g g' b h1 h2 h3 h4
      · simp[GB.block] at h4
    · simp[GB.block] at h3
  · obtain⟨k1,k2,k3,k4⟩:=hr.st.dfr.1 p hp;refine⟨k1,k2,fun l g h1 e=>?_,k4⟩;rcases new l g h1 with ⟨_,h1⟩|⟨_,rfl⟩
    · exact k3 l g h1 e
    · simp[GB.block] at e
 have hr':bf n { G with B:=G.B++[.own none 0 0] } (env.put d (.sl sz [] (.own σ.length))) (σ++[.own sz 0]) a w:=by
  refine⟨hr.size,hr.defers,fun i=>?_,hs⟩;simp only[Env.put];split
  · rename_i e;subst e;have:=hr.bh i;rw[hd] at this;cases hx:a.tmps.getD i undef<;>rw[hx] at this<;>cases this;exact .slz sz _ ⟨none,0,0,by simp[←hr.st.len],zAt _,fun _=>⟨rfl,rfl⟩⟩
  · exact(hr.bh i).mono (Mem.Le.refl _) (BLe.append _ _)
 refine wpIn_mono (hk { G with B:=G.B++[GB.own none 0 0] } a w hr') ?_;rintro x a' w' ⟨e,s,G',h1,h2,h3⟩;exact⟨e,s,G',h1,Gh.Le.trans (G':={ G with B:=G.B++[.own none 0 0] }) (.upB (BLe.append _ _)) h2,h3⟩
end
def inB (n lo hi:Int):Bool:=decide (lo≤n)&&decide (n≤hi)
def az {α:Type} (p:α→Bool) (l:List α):Int:=match l.findIdx? p with
 |some i=>(i:Int)
 |none => -1
theorem bb {α:Type} [Inhabited α] {l:List α} {k:Nat} (h:k<l.length):l.getD k default=l[k]:=by simp[List.getD,h]
theorem bP {α:Type} [Inhabited α] {p:α→Bool} {l:List α} {k:Nat} (hk:k<l.length) (h:p (l.getD k default)=true) (au:∀j,j<k→p (l.getD j default)=false):az p l=k:=by
 unfold az;have:l.findIdx? p=some k:=by
  rw[zCi];refine⟨hk,by rw[←bb hk];exact h,fun j hj=>?_⟩;have:=au j hj;rw[bb oM] at this;simpa using this
 rw[this]
theorem bX {α:Type} [Inhabited α] {p:α→Bool} {l:List α} (au:∀j,j<l.length→p (l.getD j default)=false):az p l = -1:=by
 unfold az;have:l.findIdx? p=none:=by
  rw[List.findIdx?_eq_none_iff];intro x hx;obtain⟨j,hj,rfl⟩:=zAu.1 hx;have:=au j hj;rwa [bb hj] at this
 rw[this]
theorem uV {α:Type} {p:α→Bool} {l:List α}:az p l<0↔az p l = -1:=by
 unfold az;split<;>omega
theorem bY {α:Type} [Inhabited α] {p:α→Bool} {l:List α} (h:0≤az p l):∃k:Nat,az p l=k∧k<l.length∧p (l.getD k default)=true∧∀j,j<k→p (l.getD j default)=false:=by
 unfold az at h ⊢;cases hf:l.findIdx? p with
 |none=>rw[hf] at h;simp at h
 | some i =>
   obtain⟨h1,h2,h3⟩:=zCi.1 hf;refine⟨i,rfl,h1,by rw[bb h1];exact h2,fun j hj=>?_⟩;rw[bb oM];simpa using h3 j hj
theorem xb {α:Type} [Inhabited α] {p:α→Bool} {l:List α} {k:Nat} (hk:k<l.length) (h:p (l.getD k default)=false):l.all p=false:=by
 rw[zC6];exact⟨l[k],zCu hk,by rw[bb hk] at h;simp[h]⟩
theorem uh {α:Type} [Inhabited α] {p:α→Bool} {l:List α} (h:∀j,j<l.length→p (l.getD j default)=true):l.all p=true:=by
 rw[zA4];intro x hx;obtain⟨j,hj,rfl⟩:=zAu.1 hx;have:=h j hj;rwa [bb hj] at this
theorem aH {P:Nat→Prop} {k j:Nat} (h:∀j,j<k→P j) (hk:P k) (hj:j<k+1):P j:=by
 rcases zAa j k with h1|h1
 · exact h j h1
 · have:j=k:=oM;subst this;exact hk
end Go.Ab
/- Function values that are handed in. -/
namespace Go.Ab
def Env.HE (ks:List Nat) (avs:List AV):Env:=fun i=>if ks.contains i then .ext (avs.getD i .any) else avs.getD i .any
theorem PCall.di {P : Program} {f : FuncId} {fn : Func} {c : Code} {n : Nat} {avs : List AV} {r : AV} (ks : List Nat) (hf : P.funcs[f]? = some fn) (hb : fn.body = some c) (hnm : (fn.name == "runtime.NumGoroutine") = false)
 (hn:fn.ntmps=n) (j0:decide (avs.length≤n)=true) (kV:lL fn.results.toList=true) (h:AWP P n c (retK fn.results.toList r) (Env.HE ks avs) []):PCall P f avs r:=by
 refine PCall.body hf hb hnm hn j0 kV ?_;intro G a w hr
 -- at the beginning the call has no objects of its own
 have hB:G.B=[]:=zDc.1 hr.st.len;refine h G a w ⟨hr.size,hr.defers,fun i=>?_,hr.st⟩;have h1:=hr.bh i;simp only[Env.HE,Env.init] at h1 ⊢;split
 · rw[hB] at h1;exact .ext _ _ h1
 · exact h1
section
variable {P:Program} {o:Oper} {env:Env} {σ:ae}
theorem PRun.fx {fo:Operand} {args:Array Operand} {Ts:Array TypeId} {fv:AV} {avs:List AV} {r:AV} (h:bF P fv avs r)
 (ho:o.op=.call { callee:=.value fo,args:=args,argTypes:=Ts }) (hf:rdv env fo=some (.ext fv)) (nf:rdn env fo)
 (ha:(args.toList.map fun x=>unb 4 (c9 env x).st)=avs) (hn:eW env args.toList):PRun P o env σ r:=by
 obtain⟨k,first,aQ,rfl,hc⟩:=h;intro G a w hs hv;have h1:=rd (Rd.w hf nf) (by simp[ho,Op.operands,Call.operands]) hv;generalize hA:a.eval fo=y at h1;cases h1 with
 |ext _ _ h1 =>
 cases h1 with
 | fn _ _ _ vf vc hvf hvc h2 h3 =>
   have bl:(execOp a.eval o).run P w=.ok (.enter k (vf++args.map a.eval++vc)) w:=by
    simp only[execOp,ho,resolve,hA,Deferred.ofValue,Sem.run_bind,Sem.run_pure,Result.andThen_ok,invoke];exact eU hc.1 _ w
   unfold OWP;rw[bl];simp only[fb];have gT:gL G.M (first++avs++aQ) (vf++args.map a.eval++vc):=by
    subst ha;have hl:=hvf;have hl2:=hvc;refine⟨by simp[hl,hl2],fun i c hi=>?_⟩;simp only[zBo] at hi;rcases zAa i vf.size with hlt|hge
    · rw[zA8 (by simpa[←hl] using hlt)] at hi;have:=h2 i c hi;have e:(vf++args.map a.eval++vc).getD i undef=vf.getD i undef:=by
       simp only[zA2];rw[zBs,zAl hlt]
      rw[e];exact this
    · rw[zA7 (by simpa[←hl] using hge)] at hi;simp only[←hl] at hi;rcases zAa (i - vf.size) args.size with cr|hge2
      · rw[zA8 (by simpa using cr)] at hi;simp only[zA5,zA6] at hi;obtain⟨x,hx,rfl⟩:=hi;have hxm:x∈args.toList:=zAc hx;have:=rd ((jE hn).rd x hxm) (by simp[ho,Op.operands,Call.operands];right;simpa using hxm) hv;have e:(vf++args.map a.eval++vc).getD i undef=a.eval x:=by
         simp only[zA2];rw[zBs,zB1 hge,zAl (by simpa using cr)];simp only[zB7] at hx;simp[hx]
        rw[e];exact fj 4 _ _ this
      · rw[zA7 (by simpa using hge2)] at hi;simp only[zD6,zBp] at hi;have:=h3 _ c hi;have e:(vf++args.map a.eval++vc).getD i undef=vc.getD (i - vf.size - args.size) undef:=by
         simp only[zA2];rw[zBs,zB1 hge,zB1 (by simpa using hge2)];simp
        rw[e];exact this
   refine(hc.2 G.M w _ hs.ay gT).mono ?_;rintro e w' ⟨v,M',rfl,hr,hp⟩;exact⟨v,{ G with M:=M' },rfl,hr.mono (Mem.Le.refl _) (BLe.nil _),.upM hp.le,hs.after hp⟩
end
end Go.Ab
/- Objects that a round makes and leaves behind. -/
namespace Go.Ab
def aO (m:Nat):Nat→AV→Bool
 |0,_=>false
 | k + 1, v => match v with
   |.any|.prim _|.nils|.imap _|.iptr _|.ext _=>true
   |.sl _ _ (.own l)=>decide (l<m)
   |.sl _ _ _=>true
   |.sla l _ _ _ _=>decide (l<m)
   |.cm l _ _ _ _=>decide (l<m)
   |.yld l=>decide (l<m)
   |.opq v=>aO m k v
   |.ptr l _=>decide (l<m)
   |.map l=>decide (l<m)
   |.agg cs=>cs.all (aO m k)
   |.tup cs=>cs.all (aO m k)
   |.fn _ a c=>a.all (aO m k)&&c.all (aO m k)
   |.when _ v=>aO m k v
def aD (m:Nat):bc→Bool
 |.var cs=>cs.all (aO m 3)
 |.map kvs=>kvs.all fun kv=>aO m 3 kv.2
 |.mapp _ _ kvs=>kvs.all fun kv=>aO m 3 kv.2
 |.miter l _ _ _=>decide (l<m)
 |.arr _ _ es=>es.all fun e=>e.all (aO m 3)
 |.loop _ E=>E.all fun p=>aO m 4 p.2
 |_=>true
theorem du {B:List GB} {m l:Nat} {g:GB} (h:B[l]? = some g) (hl:l<m):(B.take m)[l]? = some g:=by
 rw[zAw,if_pos hl];exact h
theorem ag.take {M:Mem} {B:List GB} {m:Nat}:∀(k:Nat) (v:AV) (x:Value),aO m k v=true→ag M B v x→ag M (B.take m) v x
 |0,_,_,h,_=>by simp[aO] at h
 | k + 1, v, x, h, hv => by
   have tok:∀{t:Tok} {a:Option (Nat×Nat)} {len cap:Nat},(∀l,t=.own l→l<m)→mg B t a len cap→mg (B.take m) t a len cap:=by
    intro t a len cap hl ht;cases t with
    |no=>trivial
    |fresh=>exact ht
    | own l =>
      obtain⟨ob,cp,n,h1,h2,h3⟩:=ht;exact⟨ob,cp,n,du h1 (hl l rfl),h2,h3⟩
   have lst:∀(cs:List AV) (vs:Array Value),cs.all (aO m k)=true→(∀(i:Nat) (c:AV),cs[i]? = some c→ag M B c (vs.getD i undef))→∀(i:Nat) (c:AV),cs[i]? = some c→ag M (B.take m) c (vs.getD i undef) :=
    fun cs vs ha hr i c hi=>ag.take k c _ (zA4.1 ha c (zAc hi)) (hr i c hi)
   cases hv with
   |any=>exact .any _
   |prim=>exact .prim _
   |agg cs vs hl hr=>exact .agg _ _ hl (lst _ _ (by simpa[aO] using h) hr)
   |tup cs vs hl hr=>exact .tup _ _ hl (lst _ _ (by simpa[aO] using h) hr)
   |nils=>exact .nils
   |sl sz es t b off cap f hz hm hr hc ht=>exact .sl sz es t b off cap f hz hm hr hc (tok (fun l e=>by subst e;simpa[aO] using h) ht)
   |slz sz t ht=>exact .slz sz t (tok (fun l e=>by subst e;simpa[aO] using h) ht)
   |slzz sz a cap=>exact .slzz sz a cap
   |sla l sz off len ver a c hb=>obtain⟨ob,cp,n,h1,h2⟩:=hb;exact .sla l sz off len ver a c ⟨ob,cp,n,du h1 (by simpa[aO] using h),h2⟩
   |cm l sz i o ver b x hb=>obtain⟨ob,cp,n,h1,h2⟩:=hb;exact .cm l sz i o ver b x ⟨ob,cp,n,du h1 (by simpa[aO] using h),h2⟩
   |yld l b hb=>exact .yld l b (du hb (by simpa[aO] using h))
   |opq v f a b hv=>exact .opq v f a b (ag.take k v _ (by simpa[aO] using h) hv)
   |ptr l off b hb=>exact .ptr l off b (du hb (by simpa[aO] using h))
   |iptr cs b off f hm hr=>exact .iptr cs b off f hm hr
   | fn f first aQ vf vc hf hc h1 h2 =>
     simp only[aO,zA0] at h;exact .fn f first aQ vf vc hf hc (lst _ _ h.1 h1) (lst _ _ h.2 h2)
   |map l b hb=>exact .map l b (du hb (by simpa[aO] using h))
   |imap kvs b es hm hl hk hr=>exact .imap kvs b es hm hl hk hr
   |imapz=>exact .imapz
   |when g v x h1 h2=>exact .when g v x (fun hg=>ag.take k v x (by simpa[aO] using h) (h1 hg)) h2
   |ext v x h=>exact .ext v x h
theorem xc {m:Nat} {l:List (Nat×AV)} (h:l.all (fun p=>aO m 4 p.2)=true) (i:Nat):aO m 4 (Env.of l i)=true:=by
 unfold Env.of;cases hf:l.find? (fun p=>p.1==i) with
 |none=>rfl
 |some p=>exact zA4.1 h p (zBi hf)
theorem aC.take {G:Gh} {σ:ae} {w:World} (h:aC G σ w) (m:Nat) (ho:(σ.take m).all (aD m)=true):aC { G with B:=G.B.take m } (σ.take m) w:=by
 have sub:∀(l:Nat) (g:GB),(G.B.take m)[l]? = some g→G.B[l]? = some g:=fun l g hl=>by
  rw[zAw] at hl;split at hl
  · exact hl
  · simp at hl
 have sub2:∀(l:Nat) (o:bc),(σ.take m)[l]? = some o→σ[l]? = some o:=fun l g hl=>by
  rw[zAw] at hl;split at hl
  · exact hl
  · simp at hl
 refine⟨h.ay,h.m0,h.base,by simp[h.len],fun l g o h1 h2=>?_,fun l g b h1 h2=>h.fresh l g b (sub l g h1) h2,fun l l' g g' b h1 h2 h3 h4=>h.inj l l' g g' b (sub _ _ h1) (sub _ _ h2) h3 h4,h.out,⟨fun p hp=>let ⟨k1,k2,k3,k4⟩:=h.dfr.1 p hp;⟨k1,k2,fun l g hl=>k3 l g (sub l g hl),k4⟩,h.dfr.2⟩⟩;have hok:=zA4.1 ho o (zAc h2);have:=h.bB l g o (sub l g h1) (sub2 l o h2);cases this with
 |var b cs c T fr hb hf hl hr hm=>exact .var b cs c T fr hb hf hl (fun i a hi=>ag.take 3 a _ (zA4.1 (by simpa[aD] using hok) a (zAc hi)) (hr i a hi)) hm
 |ownz sz=>exact .ownz sz
 |own b cap sz n c T fr hb hf hl hn hm=>exact .own b cap sz n c T fr hb hf hl hn hm
 |map b kvs es clock hb hl hk hr hm hst=>exact .map b kvs es clock hb hl hk (fun i k v e x y=>ag.take 3 v _ (zA4.1 (show kvs.all (fun kv=>aO m 3 kv.2)=true from hok) (k,v) (zAc x)) (hr i k v e x y)) hm hst
 |siter b s pos hb=>exact .siter b s pos hb
 |mapp b clock bs kvs es hb hl hbs hk hr hm=>exact .mapp b clock bs kvs es hb hl hbs hk (fun i k v e x y=>ag.take 3 v _ (zA4.1 (show kvs.all (fun kv=>aO m 3 kv.2)=true from hok) (k,v) (zAc x)) (hr i k v e x y)) hm
 |miter r bm l since c0 seen hl hb=>exact .miter r bm l since c0 seen (du hl (by simpa[aD] using hok)) hb
 |loop b r E hb hv=>exact .loop b r E hb fun i=>ag.take 4 _ _ (xc (by simpa[aD] using hok) i) (hv i)
 |arrz sz ver=>exact .arrz sz ver
 |arr b cap sz ver es c T fr hb hf hl hn hz hr hm=>exact .arr b cap sz ver es c T fr hb hf hl hn hz (fun i j e a x y=>ag.take 3 a _ (zA4.1 (zA4.1 (show es.all (fun e=>e.all (aO m 3))=true from hok) e (zAc x)) a (zAc y)) (hr i j e a x y)) hm
 |dead=>exact .dead _
section
variable {P:Program} {n:Nat} {K:Exit→Env→ae→Prop} {env:Env} {σ:ae}
theorem AWP.Lc {c:Code} {ι:Type} (E:ι→List (Nat×AV)) (S:ι→ae) (inv:ι→Prop) (μ:ι→Nat) (m:Nat) (hS':∀i,(S i).length=m) (i0:ι) (h0:inv i0) (hE:fe env (E i0)) (hS:σ=S i0)
 (oa:∀i,inv i→(E i).all (fun p=>aO m 4 p.2)=true) (hokS:∀i,inv i→(S i).all (aD m)=true)
 (round:∀i,inv i→AWP P n c (kq (fun e s=>∃j,inv j∧μ j<μ i∧fe e (E j)∧s.take m=S j) K) (Env.of (E i)) (S i)):AWP P n (.loop c) K env σ:=by
 subst hS;intro G a w hr;refine wpIn_loop_ghost (fun q a w=>∃i G',μ i=q∧inv i∧G.Le G'∧G'.B.length=m∧bf n G' (Env.of (E i)) (S i) a w) (μ i0) ⟨i0,G,rfl,h0,Gh.Le.refl G,by rw[hr.st.len,hS'],hr.weaken hE.ug⟩ ?_;rintro q a w ⟨i,G',hm,hi,hg,hlen,hr⟩;refine wpIn_mono (hg.r▸round i hi G' a w hr) ?_;rintro x a' w' ⟨e,s,G'',h1,h2,h3⟩;cases x with
 | normal =>
   obtain⟨j,hj,hlt,hw,hs⟩:=h1;have hrs:=h3.weaken hw.ug;have hst:=h3.st.take m (by rw[hs];exact hokS j hj);rw[hs] at hst;have hr':bf n { G'' with B:=G''.B.take m } (Env.of (E j)) (S j) a' w':=⟨hrs.size,hrs.defers,fun i=>ag.take 4 _ _ (xc (oa j hj) i) (hrs.bh i),hst⟩;have hB:BLe G'.B (G''.B.take m):=fun l g hl=>by
    obtain⟨g',k1,k2⟩:=h2.b l g hl;have:l<m:=by
     rw[←hlen];rcases zAa l G'.B.length with h|h
     · exact h
     · simp[zA3 h] at hl
    exact⟨g',du k1 this,k2⟩
   exact⟨μ j,hm▸hlt,j,{ G'' with B:=G''.B.take m },rfl,hj,hg.trans ⟨h2.m0,h2.w0,h2.m,hB,h2.d,h2.r,h2.f⟩,by rw[hst.len,hS'],hr'⟩
 |_=>exact⟨e,s,G'',h1,hg.trans h2,h3⟩
end
end Go.Ab
/- Runes of a string, in the walk's form. -/
namespace Go.Ab
theorem EStep.HF {P:Program} {n:Nat} {ops:Array Oper} {o:Oper} {env:Env} {σ:ae} {k:Env→ae→Prop} {it:Operand} {d l pos:Nat} {s:ByteArray} {c wd:Nat} (hdec:Utf8.decode s pos=(c,wd)) (hp:pos<s.size) (ho:o.op=.next it true) (hg:o.guard=none) (hd:o.dst=some d) (hdn:decide (d<n)=true) (hx:rdv env it=some (.ptr l 0)) (nx:rdn env it)
 (hσ:σ[l]? = some (.siter s pos)) (hk:k (env.put d (.tup [.b true,.int pos,.prim (.int .i32 c)])) (σ.set l (.siter s (pos+wd)))):EStep P n ops o k env σ :=
 EStep.K9 ho hg hd hdn hx nx hσ hp (by rw[hdec];exact hk)
theorem J1 {s:ByteArray} {i:Nat} (hi:i<s.size) (h:(s.data.toList.getD i 0).toNat<128):Utf8.decode s i=((s.data.toList.getD i 0).toNat,1):=by
 have e:(s.get! i).toNat=(s.data.toList.getD i 0).toNat:=by
  have hi':i<s.data.size:=hi;rw[zB2,zB7,zAk hi'];have e2:s.get! i=s.data[i]'hi':=by
   cases s with
   |mk d=>show d[i]! = d[i]'hi';rw[Array.getElem!_eq_getD,zA2,zAk hi'];rfl
  rw[e2];rfl
 unfold Utf8.decode;simp only[zBq];have hc:(s.get! i).toNat<0x80:=by rw[e];exact h
 rw[if_pos hc,e]
theorem Is {s:ByteArray} {i:Nat} (hi:i<s.size) (h:128≤(s.data.toList.getD i 0).toNat):128≤(Utf8.decode s i).1:=by
 have e:(s.get! i).toNat=(s.data.toList.getD i 0).toNat:=by
  have hi':i<s.data.size:=hi;rw[zB2,zB7,zAk hi'];have e2:s.get! i=s.data[i]'hi':=by
   cases s with
   |mk d=>show d[i]! = d[i]'hi';rw[Array.getElem!_eq_getD,zA2,zAk hi'];rfl
  rw[e2];rfl
 unfold Utf8.decode;simp only[zBq];have hc:¬(s.get! i).toNat<0x80:=by rw[e];exact Nat.not_lt.2 h
 rw[if_neg hc];simp only[Utf8.runeError];split
 · split
   · rename_i h1;exact h1
   · show 128≤65533;omega
 · split
   · split
     · rename_i h1;simp only[ge_iff_le,zA0,dEt] at h1;show 128≤_;exact zC2 oM h1.1
     · show 128≤65533;omega
   · split
     · split
       · rename_i h1;simp only[ge_iff_le,zA0,dEt] at h1;show 128≤_;exact zC2 oM h1.1
       · show 128≤65533;omega
     · show 128≤65533;omega
end Go.Ab
/- Results that lie in a variable; structs that are compared; structs and slices that are built, in the walk's form. -/
namespace Go.Ab
def rvA (T:Tab) (e:Env) (s:ae):ResultVar→Option AV
 |.tmp t=>some (unb 4 (e t))
 | .cell a t => match e a with
   | .ptr l off => match s[l]?, T.get t with
     |some (.var cs),some li=>(iC li off cs).map (unb 4)
     |_,_=>none
   |_=>none
def rI (T:Tab) (e:Env) (s:ae):List ResultVar→Option (List AV)
 |[]=>some []
 | x :: r => match rvA T e s x, rI T e s r with
   |some u,some us=>some (u::us)
   |_,_=>none
def ui (T:Tab) (e:Env) (s:ae):List ResultVar→Option AV
 |[x]=>rvA T e s x
 |l=>(rI T e s l).map .tup
def Ld (T:Tab) (rs:List ResultVar) (r:AV):Exit→Env→ae→Prop:=fun x e s=>(x=.normal∨x=.ret)∧∃u,ui T e s rs=some u∧Ent u r
theorem qX {P:Program} {G:Gh} {σ:ae} {w:World} (hs:aC G σ w) {t:TypeId} {li:LI} (hl:LOk P t li) {l off:Nat} {cs:List AV} {u:AV} {x:Value} (hx:ag G.M G.B (.ptr l off) x) (hσ:σ[l]? = some (.var cs)) (hu:iC li off cs=some u) :
 ∃a v,x=.pointer (some a)∧(loadVar t a).run P w=.ok v w∧ag G.M G.B u v:=by
 obtain⟨hu1,hle⟩:=jC hu;cases hx with
 | ptr _ _ b hb =>
   have:=hs.bB l _ _ hb hσ;cases this with
   | var _ _ c T' fr hbb hf hlen hr hm =>
     refine⟨_,if li.lt.isAgg then .agg ((List.range li.size).map fun j=>c.getD (off+j) undef).toArray else c.getD off undef,rfl,?_,?_⟩
     · rw[ku hl w b off (fun j=>c.getD (off+j) undef) (fun j hj=>by
        have hlt:off+j<c.size:=oM;simp[World.cell?,hbb,hlt])]
       rfl
     · rw[←hu1];unfold hK;cases ha:li.lt.isAgg with
       | true =>
         simp only[ha,if_true] at hle ⊢;refine .agg _ _ (by simp;omega) fun i c' hi=>?_
         rw[zAw] at hi;split at hi
         · rename_i hlt;rw[zB6] at hi;have:=hr _ _ hi;simpa[hlt] using this
         · simp at hi
       | false =>
         simp only[ha,zAz,if_false] at hle ⊢;have hlt:off<cs.length:=oM;rw[zBj hlt];exact hr off _ (zA1 hlt)
theorem zi {P : Program} {T : Tab} (hT : T.Ok P) {e : Env} {s : ae} {G : Gh} {w : World} {tmps : Array Value} {u : AV} (hs : aC G s w) (hv : ∀ i, ag G.M G.B (e i) (tmps.getD i undef)) (f : ResultVar → Sem Value) (hf1 : ∀ t, f (.tmp t) = pure (tmps.getD t undef))
    (hf2:∀a t,f (.cell a t)=(do loadVar t (←asAddr (tmps.getD a undef)))) (l:List ResultVar) (h:ui T e s l=some u) :
    ∃v,(do let vs ←l.toArray.mapM f;pure (if h:vs.size=1 then vs[0] else .tuple vs):Sem Value).run P w=.ok v w∧ag G.M [] u v:=by
  have one : ∀ (f : ResultVar → Sem Value), (∀ t, f (.tmp t) = pure (tmps.getD t undef)) → (∀ a t, f (.cell a t) = (do loadVar t (← asAddr (tmps.getD a undef)))) → ∀ x u, rvA T e s x = some u → ∃ v, (f x).run P w = .ok v w ∧ ag G.M [] u v := by
    intro f h1 h2 x u hx;cases x with
    | tmp t =>
      simp only[rvA,Option.some.injEq] at hx;subst hx;exact⟨_,by rw[h1];rfl,fj 4 _ _ (hv t)⟩
    | cell a t =>
      simp only[rvA] at hx;have h3:=hv a;cases hea:e a with
      | ptr l' off =>
        rw[hea] at hx h3;simp only at hx;split at hx
        · rename_i cs li hσ hg;simp only[zA6] at hx;obtain⟨u',hu',rfl⟩:=hx;obtain⟨ad,v,g1,g2,g3⟩:=qX hs (LOk.of (hT.get hg)) h3 hσ hu';refine⟨v,?_,fj 4 _ _ g3⟩;rw[h2,g1,Sem.run_bind];exact g2
        · simp at hx
      |_=>rw[hea] at hx;simp at hx
  have key : ∀ (f : ResultVar → Sem Value), (∀ t, f (.tmp t) = pure (tmps.getD t undef)) → (∀ a t, f (.cell a t) = (do loadVar t (← asAddr (tmps.getD a undef)))) → ∀ l us, rI T e s l = some us → ∃ vs : List Value, Sem.run P (l.mapM f) w = Result.ok vs w ∧ vs.length = us.length ∧ us.length = l.length ∧ ∀ (i : Nat) u v, us[i]? = some u → vs[i]? = some v → ag G.M [] u v := by
    intro f h1 h2 l;induction l with
    | nil =>
      intro us hus;simp only[rI,Option.some.injEq] at hus;subst hus;exact⟨[],rfl,rfl,rfl,fun i u v h=>by simp at h⟩
    | cons x l ih =>
      intro us hus;simp only[rI] at hus;split at hus
      · rename_i u us' g1 g2;simp only[Option.some.injEq] at hus;subst hus;obtain⟨v,g3,g4⟩:=one f h1 h2 x u g1;obtain⟨vs,g5,g6,g7,g8⟩:=ih us' g2;refine⟨v::vs,?_,by simp[g6],by simp[g7],fun i u' v' hu' hv'=>?_⟩
        · simp only[zD3,Sem.run_bind,g3,Result.andThen_ok,g5];rfl
        · cases i with
          |zero=>simp at hu' hv';subst hu' hv';exact g4
          |succ i=>exact g8 i u' v' (by simpa using hu') (by simpa using hv')
      · simp at hus
  simp only[List.mapM_toArray,Sem.run_bind,Sem.run_map]
  match l,h with
  | [x], h =>
    simp only[ui] at h;obtain⟨vs,g5,g6,g7,g8⟩:=key f hf1 hf2 [x] [u] (by simp[rI,h]);rw[g5]
    match vs,g6 with
    |[v],_=>exact⟨v,rfl,g8 0 u v rfl rfl⟩
  | [], h =>
    simp only[ui,rI,zBa,Option.some.injEq] at h;subst h;exact⟨.tuple #[],rfl,.tup _ _ rfl fun i c hi=>by simp at hi⟩
  | x :: y :: r, h =>
    simp only[ui,zA6] at h;obtain⟨us,hus,rfl⟩:=h;obtain⟨vs,g5,g6,g7,g8⟩:=key f hf1 hf2 _ us hus;rw[g5];have hlen:vs.length=r.length+2:=by rw[g6,g7];rfl
    have hne:¬vs.toArray.size=1:=by simp;omega
    refine⟨.tuple vs.toArray,?_,.tup _ _ (by simp[g6]) fun i c hi=>?_⟩
    · simp only[Result.andThen_ok,Sem.run_pure];rw[dif_neg hne]
    · have hlt : i < vs.length := by
        rw[g6];rcases zAa i us.length with h|h
        · exact h
        · simp[zA3 h] at hi
      have:=g8 i c _ hi (zA1 hlt);simpa[hlt] using this
theorem zj {P:Program} {T:Tab} (hT:T.Ok P) {fn:Func} {e:Env} {s:ae} {G:Gh} {w:World} {tmps:Array Value} {u:AV} (hs:aC G s w) (hv:∀i,ag G.M G.B (e i) (tmps.getD i undef)) (h:ui T e s fn.results.toList=some u) :
 ∃v,(results fn tmps).run P w=.ok v w∧ag G.M [] u v:=by
 unfold results;obtain⟨l,hl⟩:∃l,fn.results=List.toArray l:=⟨fn.results.toList,by simp⟩
 rw[hl] at h ⊢;refine zi hT hs hv _ ?_ ?_ l h
 · exact fun _=>rfl
 · exact fun _ _=>rfl
theorem PCall.bN {P : Program} {T : Tab} (hT : T.Ok P) {f : FuncId} {fn : Func} {c : Code} {n : Nat} {avs : List AV} {r : AV} (hf : P.funcs[f]? = some fn) (hb : fn.body = some c) (hnm : (fn.name == "runtime.NumGoroutine") = false)
 (hn:fn.ntmps=n) (j0:decide (avs.length≤n)=true) (h:AWP P n c (Ld T fn.results.toList r) (Env.init avs) []):PCall P f avs r:=by
 refine PCall.Ak hf hb hnm hn j0 h (fun x e s hk=>hk.1) ?_;rintro x e s G' tmps w' ⟨_,u,hu,wX⟩ hs hv;obtain⟨v,h1,h2⟩:=zj hT hs hv hu;exact⟨v,h1,wX _ _ h2⟩
def xd:LT→Bool
 |.bool|.int _|.str=>true
 |_=>false
def pA (P:Program):Nat→List Field→Option (List LT)
 |_,[]=>some []
 | k, f :: r => match P.underlying f.type, P.info? f.type, pA P (k + 1) r with
   | some d, some i, some l => if f.name ≠ "_" ∧ f.offset = k ∧ i.size = 1 ∧ xd (ltOf P d) = true then some (ltOf P d :: l) else none
   |_,_,_=>none
def kQ (P:Program) (t:TypeId):Option (List LT):=match P.underlying t with
 |some (.struct F)=>if P.stoodInHeld t=false∧P.eqGuardType P.depth t=false then pA P 0 F.toList else none
 |_=>none
def eqV:LT→Value→Value→Option Bool
 |.bool,.bool a,.bool b=>some (a==b)
 |.int _,.int k a,.int k' b=>if k=k' then some (a==b) else none
 |.str,.string a,.string b=>some (a==b)
 |_,_,_=>none
def kW:List LT→List AV→List AV→Option Bool
 |[],[],[]=>some true
 | t :: ts, .prim a :: r, .prim b :: s => match eqV t a b, kW ts r s with
   |some h,some u=>some (h&&u)
   |_,_=>none
 |_,_,_=>none
theorem Ao {P:Program} {t:TypeId} {d:TypeDesc} {a b:Value} {r:Bool} (hd:P.underlying t=some d) (h:eqV (ltOf P d) a b=some r) (n:Nat) (w:World):(Op.equalIn (n+1) t a b).run P w=.ok r w:=by
 rw[Op.equalIn,Sem.run_bind,run_underlying hd w];simp only[Result.andThen_ok];unfold eqV at h;split at h<;>rename_i hlt
 · cases d<;>simp[ltOf] at hlt;simp at h;subst h;rfl
 · cases d<;>simp[ltOf] at hlt;split at h
   · rename_i hk;simp at h;subst h;subst hk;simp
   · simp at h
 · cases d<;>simp[ltOf] at hlt;simp at h;subst h;rfl
 · simp at h
theorem uW {P:Program} {t:TypeId} {d:TypeDesc} {i:TypeInfo} (hd:P.underlying t=some d) (hi:P.info? t=some i) (hsc:xd (ltOf P d)=true) (cs:Array Value) (off:Nat) (h:off<cs.size) (w:World):(part t cs off).run P w=.ok (cs.getD off undef) w:=by
 have ha:(isAgg t).run P w=.ok false w:=by
  unfold isAgg;rw[Sem.run_bind,run_underlying hd w];cases d<;>simp[ltOf,xd] at hsc<;>rfl
 unfold part;rw[Sem.run_bind,ha];simp[h]
theorem Fy {P : Program} (n : Nat) (w : World) (xs ys : Array Value) : ∀ (F : List Field) (k : Nat) (ts : List LT) (us vs : List AV) (r : Bool), pA P k F = some ts → kW ts us vs = some r →
    (∀i,i<us.length→k+i<xs.size∧∀a,us[i]? = some (.prim a)→xs.getD (k+i) undef=a)→(∀i,i<vs.length→k+i<ys.size∧∀a,vs[i]? = some (.prim a)→ys.getD (k+i) undef=a) →
    (do for f in F do
          if f.name ≠ "_" then
            if !(←Op.equalIn (n+1) f.type (←part f.type xs f.offset) (←part f.type ys f.offset)) then return false
        pure true:Sem Bool).run P w=.ok r w:=by
  intro F;induction F with
  | nil =>
    intro k ts us vs r h1 h2 _ _;simp only[pA,Option.some.injEq] at h1;subst h1
    match us,vs,h2 with
    |[],[],h2=>simp[kW] at h2;subst h2;rfl
  | cons f F ih =>
    intro k ts us vs r h1 h2 hx hy;simp only[pA] at h1;split at h1
    · rename_i d i l hd hi hF;split at h1
      · rename_i hc;obtain⟨c1,c2,c3,c4⟩:=hc;simp only[Option.some.injEq] at h1;subst h1
        match us,vs,h2 with
        | .prim a :: us, .prim b :: vs, h2 =>
          simp only[kW] at h2;split at h2
          · rename_i h0 u0 g1 g2;simp only[Option.some.injEq] at h2;subst h2;obtain⟨x1,x2⟩:=hx 0 sMp;obtain⟨y1,y2⟩:=hy 0 sMp;have ex:=x2 a rfl;have ey:=y2 b rfl;simp only[zBq] at x1 y1 ex ey;have e1:=uW hd hi c4 xs k x1 w;have e2:=uW hd hi c4 ys k y1 w;rw[ex] at e1;rw[ey] at e2;have e3:=Ao hd g1 n w
            have ih' := ih (k + 1) l us vs u0 hF g2 (fun i hi' => by
              have:=hx (i+1) (by simpa using hi');simp only[zBf] at this;have e:k+(i+1)=k+1+i:=oM;rwa [e] at this) (fun i hi'=>by
              have:=hy (i+1) (by simpa using hi');simp only[zBf] at this;have e:k+(i+1)=k+1+i:=oM;rwa [e] at this)
            simp only[List.forIn_cons,c2];cases h0 with
            | true =>
              simp only[zAy];rw[←ih'];simp only[ne_eq,c1,not_false_eq_true,if_true,Sem.run_bind,e1,e2,e3,Result.andThen_ok];simp
            | false =>
              simp only[ne_eq,c1,not_false_eq_true,if_true,Sem.run_bind,e1,e2,e3,Result.andThen_ok];simp
          · simp at h2
      · simp at h1
    · simp at h1
theorem It {P : Program} {t : TypeId} {ts : List LT} (hfl : kQ P t = some ts) {M : Mem} {B : List GB} {us vs : List AV} {x y : Value} {r : Bool} (hx : ag M B (.agg us) x) (hy : ag M B (.agg vs) y) (h : kW ts us vs = some r) (w : World) :
    ∃xs ys,x=.agg xs∧y=.agg ys∧P.eqGuardType P.depth t=false∧(Op.equal t x y).run P w=.ok r w:=by
  unfold kQ at hfl;split at hfl
  · rename_i F hF;split at hfl
    · rename_i hg;obtain⟨g1,g2⟩:=hg
      have key : ∀ {us : List AV} {x : Value}, ag M B (.agg us) x → ∃ xs, x = .agg xs ∧ ∀ i, i < us.length → 0 + i < xs.size ∧ ∀ a, us[i]? = some (.prim a) → xs.getD (0 + i) undef = a := by
        intro us x hx;cases hx with
        | agg _ xs hl hr =>
          refine⟨xs,rfl,fun i hi=>⟨oM,fun a ha=>?_⟩⟩;rw[zBv];exact ag.aJ (hr i _ ha)
      obtain⟨xs,rfl,kx⟩:=key hx;obtain⟨ys,rfl,ky⟩:=key hy;refine⟨xs,ys,rfl,rfl,g2,?_⟩;have e:=Fy 9998 w xs ys F.toList 0 ts us vs r hfl h kx ky;show(Op.equalIn (9999+1) t (.agg xs) (.agg ys)).run P w=_;rw[Op.equalIn,Sem.run_bind,run_underlying hF w];simp only[Result.andThen_ok];have ep:Sem.run P (do let p ←program;pure p:Sem Program) w=.ok P w:=rfl;simp only[Sem.run_bind,run_program,Result.andThen_ok,g1,zAz,if_false];obtain⟨l,rfl⟩:∃l,F=List.toArray l:=⟨F.toList,by simp⟩
      simp only[List.forIn_toArray];simpa[Sem.run_bind] using e
    · simp at hfl
  · simp at hfl
section
variable {P:Program} {T:Tab} {o:Oper} {env:Env} {σ:ae}
theorem PRun.eqS {t t' : TypeId} {ts : List LT} (hfl : kQ P t = some ts) {x y : Operand} {us vs : List AV} {r : Bool} (ho : o.op = .binOp .eql t x y t') (hx : rdv env x = some (.agg us)) (nx : rdn env x) (hy : rdv env y = some (.agg vs)) (ny : rdn env y) (h : kW ts us vs = some r) :
    PRun P o env σ (.b r) :=
  .of fun G A w hs hv => by
    have h1:=rd (Rd.w hx nx) (by simp[ho,Op.operands]) hv;have h2:=rd (Rd.w hy ny) (by simp[ho,Op.operands]) hv;obtain⟨xs,ys,e1,e2,hg,e3⟩:=It hfl h1 h2 h w;refine⟨_,?_,.prim _⟩;rw[e1,e2] at e3;have e:binOp .eql t (.agg xs) (.agg ys)=(do pure (.bool (←Op.equal t (.agg xs) (.agg ys)))):=rfl;simp only[execOp,ho,e1,e2,e];simp[eqGuard,hg,e3]
def Dk (T:Tab) (env:Env) (t:TypeId) (parts:List (Nat×Operand)):Option AV:=match T.get t,fw env parts with
 | some ⟨.struct fs, _, _, zs⟩, some ps => if fs.all (fun x => x.2.2 != 0) then (match fR (fun i => (fs[i]?).map (·.2)) (zs.map Z.av) ps with
   |some r=>(ec r).map .agg
   |none=>none) else none
 |_,_=>none
theorem PRun.J2 (hT:T.Ok P) {t:TypeId} {parts:Array (Nat×Operand)} {r:AV} (ho:o.op=.build t parts) (h:Dk T env t parts.toList=some r) (hn:eW env (parts.toList.map (·.2))):PRun P o env σ r:=by
 unfold Dk at h;split at h
 · rename_i fs s b zs ps hg hp;split at h
   · rename_i hnz;split at h
     · rename_i r' hf;simp only[zA6] at h;obtain⟨r2,h2,rfl⟩:=h;rw[←eS h2];exact PRun.J0 ho (LOk.of (hT.get hg)) hnz hp hn hf
     · simp at h
   · simp at h
 · simp at h
def lE:List (List AV)→Option (List (List AV))
 |[]=>some []
 | a :: l => match ec a, lE l with
   |some a',some l'=>some (a'::l')
   |_,_=>none
theorem oc:∀{l r:List (List AV)},lE l=some r→l=r
 |[],r,h=>by simp[lE] at h;exact h.symm
 | a :: l, r, h => by
   simp only[lE] at h;split at h
   · rename_i g1 g2;simp only[Option.some.injEq] at h;subst h;rw[eS g1,oc g2]
   · simp at h
def xe (T:Tab) (env:Env) (t n:Nat) (parts:List (Nat×Operand)):Option AV:=match T.get t with
 | some ⟨.slice e, _, _, _⟩ => match T.get e, fw env parts with
   |some le,some ps=>if le.zero.length=le.size∧0<n * le.size∧n * le.size≤16777216 then
    (match fR (fun i=>some (i * le.size,le.size)) ((List.range (n * le.size)).map fun i=>(le.zero.map Z.av).getD (i % le.size) .any) (ps.map fun p=>(p.1,p.2.map (unb 4))) with
    |some r=>(lE (chunk le.size n r)).map fun es=>.sl le.size es .fresh
    |none=>none) else none
   |_,_=>none
 |_=>none
theorem PRun.Fz (hT:T.Ok P) {t n:Nat} {parts:Array (Nat×Operand)} {r:AV} (ho:o.op=.buildSlice t n parts) (h:xe T env t n parts.toList=some r) (hn:eW env (parts.toList.map (·.2))):PRun P o env σ r:=by
 unfold xe at h;split at h
 · rename_i e s b zs hg;split at h
   · rename_i le ps hle hp;split at h
     · rename_i hc;split at h
       · rename_i r' hf;simp only[zA6] at h;obtain⟨r2,h2,rfl⟩:=h;rw[←oc h2];exact PRun.Iq ho (LOk.of (hT.get hg)) (LOk.of (hT.get hle)) hc.1 hc.2.1 hc.2.2 hp hn hf
       · simp at h
     · simp at h
   · simp at h
 · simp at h
end
end Go.Ab
/- From a row's readings to contents, and from a contract by content to a row. -/
namespace Go.Ab
open Go.ChangeShapes Go.WideShapes
structure Kept (W W':World):Prop where
 out:W'.os=W.os∧W'.output=W.output
 size:W.heap.size≤W'.heap.size
 block:∀b,b<W.heap.size→W'.heap[b]? = W.heap[b]?
theorem Kept.frame {W W':World} (h:Kept W W') (may:MemPlace→Prop):W.keptBut W' may:=by
 refine⟨h.out.1,h.out.2,fun i hi=>?_⟩;rw[h.block i hi];split<;>simp_all
theorem Kept.same {W W':World} (h:Kept W W') {p:MemPlace} (hp:p.block<W.heap.size):W.sameAt W' p:=by
 cases p with
 |cell b o=>exact World.cell?_of_block (w:=W) (h.block b hp)
 |map b=>exact h.block b hp
theorem Kept.trod {H:Type} {enc:TypeId×Value→H} {P:Program} {t:TypeId} (hl:laidOutB P=true) (hr:P.readableRec t=true) (ig:t<P.types.size) {W W':World} {v:Value} {d:DataW H} {ps:List MemPlace}
 (h:DataW.Trod enc P W 0 (fun _=>true) true t v d ps) (hb:Kept W W'):DataW.Trod enc P W' 0 (fun b=>decide (b<W.heap.size)) true t v d ps:=by
 have hlt:∀x∈ps,x.block<W.heap.size:=by obtain⟨m,hm⟩:=h;exact DataW.trod_lt m _ _ _ hm
 exact WideElems.Trod_stays hl hr ig h (fun x hx=>hb.same (hlt x hx)) (fun x hx=>by simpa using hlt x hx)
theorem PCall.kept {P:Program} {f:FuncId} {avs:List AV} {b:Bool} (h:PCall P f avs (.b b)) (W:World) (hgam:mf (bH W)) {args:Array Value} (ha:gL (bH W) avs args) :
 Calls P f args W fun e W'=>e=.returned (.bool b)∧Kept W W':=by
 unfold PCall at h;refine(h.2 (bH W) W args (rE W hgam) ha).mono ?_;rintro e W' ⟨v,M',rfl,hv,hp⟩;rw[ag.aJ hv];exact⟨rfl,⟨hp.out.1,hp.size,hp.heap⟩⟩
inductive Reads (M:Mem):List AV→List Value→Prop
 |nil:Reads M [] []
 |cons {a:AV} {v:Value} {as:List AV} {vs:List Value} (h:ag M [] a v) (t:Reads M as vs):Reads M (a::as) (v::vs)
theorem Reads.args {M:Mem} {avs:List AV} {vs:List Value} (h:Reads M avs vs):gL M avs vs.toArray:=by
 have h1:vs.length=avs.length:=by induction h with
  |nil=>rfl
  |cons _ _ ih=>simp[ih]
 refine⟨by simpa using h1,?_⟩;induction h with
 |nil=>intro i c hi;simp at hi
 | cons h t ih =>
   intro i c hi;cases i with
   |zero=>simp at hi;subst hi;simpa using h
   | succ i =>
     have:=ih (by simpa using h1) i c (by simpa using hi);simpa[zA2] using this
section
variable {H:Type} {enc:TypeId×Value→H} {P:Program} {w:World} {base:Nat} {held:Bool} {spare:Nat→Bool}
theorem Dl {α:Type} [Inhabited α] (f:α→List AV) (kX:α→Prop) {t e:TypeId} {sz fuel:Nat} {v:Value} {x:DataW H×List MemPlace} (ht:P.underlying t=some (.slice e)) (hsz:P.cellsOf e=sz) (cK:0<sz)
 (elem:∀(n:Nat) (cs:List Value) (y:DataW H×List MemPlace),DataW.trod enc P w base spare held n e cs=some y→∃a:α,(f a).length=sz∧(∀(j:Nat) c,(f a)[j]? = some c→ag (bH w) [] c (cs.getD j undef))∧kX a)
 (Lf:∀a len cap,v=.slice (some a) len cap→a.spot=none)
 (h:DataW.trod enc P w base spare held fuel t [v]=some x):∃al:List α,ag (bH w) [] (.sl sz (al.map f) .no) v∧al.length≤maxLen∧∀a∈al,kX a:=by
 rcases Deep.open_slice ht h with ⟨hc,_⟩|⟨a,len,cap,m,n,D,Pl,hc,_,hl,hm,hmm,_,hx⟩
 · simp at hc;subst hc;exact⟨[],.slz sz .no trivial,by simp,fun a ha=>by simp at ha⟩
 · simp only[List.cons.injEq,and_true] at hc;subst hc;have hle:len≤m:=by rw[hmm];split<;>omega
   rw[hsz] at hx;obtain⟨A,hA⟩:=Deep.choose_lt (n:=len) (p:=fun i (a':α)=>∃cs',w.cells? base (a.add (i * sz)) sz=some cs'∧(f a').length=sz∧(∀(j:Nat) c,(f a')[j]? = some c→ag (bH w) [] c (cs'.getD j undef))∧kX a') (fun i hi=>by
    obtain⟨cs',h1,h2⟩:=hx i oM;obtain⟨a',g1,g2,g3⟩:=elem _ _ _ h2;exact⟨a',cs',h1,g1,g2,g3⟩)
   obtain⟨b,off,sp⟩:=a;have hs:sp=none:=Lf _ _ _ rfl;subst hs;have hadd:∀k,(⟨b,off,none⟩:Addr).add k=⟨b,off+k,none⟩:=fun k=>by
    unfold Addr.add;split
    · rename_i h0;subst h0;rfl
    · rfl
   have cellAt:∀i j,i<len→j<sz→∃cs',w.cells? base ((⟨b,off,none⟩:Addr).add (i * sz)) sz=some cs'∧w.cell? ⟨b,off+i * sz+j,none⟩=cs'[j]? ∧ cs'.length=sz∧(∀(j:Nat) c,(f (A i))[j]? = some c→ag (bH w) [] c (cs'.getD j undef)):=by
    intro i j hi hj;obtain⟨cs',h1,h2,h3,_⟩:=hA i hi;obtain⟨_,h4,h5⟩:=World.cells?_some h1;refine⟨cs',h1,?_,h4,h3⟩;have:=h5 j hj;rw[hadd] at this;rw[←this];congr 1;unfold Addr.add;split
    · rename_i h0;subst h0;rfl
    · simp
   refine⟨(List.range len).map A,?_,by simp;omega,fun a' ha=>?_⟩
   · have hlen:(((List.range len).map A).map f).length=len:=sMp;have:=ag.sl (M:=bH w) (B:=[]) sz (((List.range len).map A).map f) .no b off cap (fun i j=>(w.cell? ⟨b,off+i * sz+j,none⟩).getD undef) ?_ ?_ ?_ (by rw[hlen];exact hl) trivial
     · rwa [hlen] at this
     · intro es hes;simp only[zD9,zAq,zAs] at hes;obtain⟨i,hi,rfl⟩:=hes;exact(hA i hi).choose_spec.2.1
     · intro i j hi hj;rw[hlen] at hi;obtain⟨cs',_,h2,h3,_⟩:=cellAt i j hi hj;have hlt:j<cs'.length:=oM;show w.cell? _=_;rw[h2,zA1 hlt];rfl
     · intro i j es c h1 h2;have hi:i<len:=by
        rcases zAa i len with h|h
        · exact h
        · rw[zA3 (by rw[hlen];exact h)] at h1;cases h1
       simp[hi] at h1;subst h1;have hj:j<sz:=by
        rw[←(hA i hi).choose_spec.2.1];rcases zAa j (f (A i)).length with h|h
        · exact h
        · rw[zA3 h] at h2;cases h2
       obtain⟨cs',_,h3,h4,h5⟩:=cellAt i j hi hj;have:=h5 j c h2;rw[h3];exact this
   · simp only[zAq,zAs] at ha;obtain⟨i,hi,rfl⟩:=ha;exact(hA i hi).choose_spec.2.2.2
theorem LOk.lF {t:TypeId} {k:IntKind} {s1 b1:Nat} {z:List Z} (hl:LOk P t ⟨.int k,s1,b1,z⟩):P.underlying t=some (.int k):=by
 obtain⟨d,h1,h2⟩:=hl.und;cases d<;>simp[ltOf] at h2;subst h2;exact h1
theorem LOk.Iu {t:TypeId} {s1 b1:Nat} {z:List Z} (hl:LOk P t ⟨.str,s1,b1,z⟩):P.underlying t=some .string:=by
 obtain⟨d,h1,h2⟩:=hl.und;cases d<;>simp[ltOf] at h2;exact h1
theorem LOk.FA {t:TypeId} {s1 b1:Nat} {z:List Z} (hl:LOk P t ⟨.bool,s1,b1,z⟩):P.underlying t=some .bool:=by
 obtain⟨d,h1,h2⟩:=hl.und;cases d<;>simp[ltOf] at h2;exact h1
theorem LOk.cv {t e:TypeId} {s1 b1:Nat} {z:List Z} (hl:LOk P t ⟨.slice e,s1,b1,z⟩):P.underlying t=some (.slice e):=by
 obtain⟨d,h1,h2⟩:=hl.und;cases d<;>simp[ltOf] at h2;subst h2;exact h1
theorem aY {t:TypeId} {k:IntKind} {s1 b1 fuel:Nat} {z:List Z} {cs:List Value} {x:DataW H×List MemPlace} (hl:LOk P t ⟨.int k,s1,b1,z⟩) (h:DataW.trod enc P w base spare held fuel t cs=some x):∃n,cs=[.int k n]∧(Lit.int k n).wf=true:=by
 obtain⟨n,h1,_,h3⟩:=DataW.trod_int hl.lF h;exact⟨n,h1,h3⟩
theorem xf {t:TypeId} {s1 b1 fuel:Nat} {z:List Z} {cs:List Value} {x:DataW H×List MemPlace} (hl:LOk P t ⟨.str,s1,b1,z⟩) (h:DataW.trod enc P w base spare held fuel t cs=some x):∃s,cs=[.string s]∧s.size≤maxLen:=by
 obtain⟨s,h1,_,h3⟩:=DataW.trod_string hl.Iu h;exact⟨s,h1,h3⟩
theorem bT {t:TypeId} {fs:List (Nat×Nat×Nat)} {s1 b1 fuel:Nat} {z:List Z} {cs:List Value} {x:DataW H×List MemPlace} (hl:LOk P t ⟨.struct fs,s1,b1,z⟩) (h:DataW.trod enc P w base spare held fuel t cs=some x) :
 cs.length=P.cellsOf t∧∃n,∀(i:Nat) ft off sz,fs[i]? = some (ft,off,sz)→∃y,DataW.trod enc P w base spare held n ft ((cs.drop off).take (P.cellsOf ft))=some y:=by
 obtain⟨d,h1,h2⟩:=hl.und;cases d<;>simp[ltOf] at h2;rename_i F;obtain⟨xs,n,_,_,hlen,hxl,hf⟩:=DataW.trod_struct h1 h;refine⟨hlen,n,fun i ft off sz hi=>?_⟩;rw[←h2] at hi;simp only[zA5,zA6] at hi;obtain⟨f,hfi,hfe⟩:=hi;simp only[Prod.mk.injEq] at hfe;obtain⟨rfl,rfl,_⟩:=hfe;have hlt:i<F.toList.length:=by
  rcases zAa i F.toList.length with h|h
  · exact h
  · rw[zA3 h] at hfi;cases hfi
 have:=hf i f (by simpa using hfi);have cr:i<xs.length:=by rw[hxl];simpa using hlt
 exact⟨xs[i],by rw[this,zA1 cr]⟩
theorem uX {r:Reach} {b0:Nat} {t:TypeId} {fs:List (Nat×Nat×Nat)} {s1 b1:Nat} {z:List Z} {v:Value} {ts:List TypeId} (hl:LOk P t ⟨.struct fs,s1,b1,z⟩) (hct:P.cellTypes P.depth t=some ts) (hv:Value.okWide P w r b0 t v) :
 ∃cs,v=.agg cs∧cs.size=P.cellsOf t∧∀(i:Nat) u e a len cap,i<ts.length→ts[i]? = some u→P.underlying u=some (.slice e)→cs[i]? = some (.slice (some a) len cap)→a.spot=none:=by
 obtain⟨d,h1,h2⟩:=hl.und;cases d<;>simp[ltOf] at h2;unfold Value.okWide at hv;rw[h1] at hv;obtain⟨cs,rfl,hsz,ts',ht',_,hc⟩:=hv;rw[hct] at ht';simp only[Option.some.injEq] at ht';subst ht';refine⟨cs,rfl,hsz,fun i u e a len cap hi hu hun hcs=>?_⟩;obtain⟨u',hu',hok⟩:=hc i _ hcs;rw[Nat.mod_eq_of_lt hi,hu] at hu';simp only[Option.some.injEq] at hu';subst hu';unfold Cell.okWide at hok;simp only[hun] at hok;unfold Cell.ok at hok;simp only[hun] at hok;exact hok.2.2.2.1
end
end Go.Ab
