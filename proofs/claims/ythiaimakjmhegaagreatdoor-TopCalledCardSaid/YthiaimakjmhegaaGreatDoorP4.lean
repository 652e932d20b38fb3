/- Parts of the proof. No statement is proved here. -/
import Derived.RangeFuncIn
import Derived.RangeFuncNested
import Derived.Test.YthiaimakjmhegaaGreatDoorP3
set_option linter.unusedVariables false
set_option linter.unusedSimpArgs false
set_option maxHeartbeats 16000000
set_option maxRecDepth 20000
/- A nil slice in a variable becomes a growing array. -/
namespace Go.Ab
variable {P:Program} {n:Nat} {K:Exit→Env→ae→Prop} {env:Env} {σ:ae}
theorem aC.iQ {G:Gh} {w:World} (sz:Nat) (h0:aC G σ w):aC { G with B:=G.B++[.own none 0 0] } (σ++[.own sz 0]) w:=by
 have hb:BLe G.B (G.B++[.own none 0 0]):=BLe.append _ _;have new:∀(l:Nat) (g:GB),(G.B++[GB.own none 0 0])[l]? = some g→l<G.B.length∧G.B[l]? = some g∨l=G.B.length∧g=.own none 0 0:=by
  intro l g h;rcases zAa l G.B.length with hlt|hge
  · rw[zA8 hlt] at h;exact .inl ⟨hlt,h⟩
  · rw[zA7 hge] at h;have hz:l - G.B.length=0:=by
     rcases zBe (l - G.B.length) with hz|hp
     · exact hz
     · rw[zA3 (by simp;omega)] at h;simp at h
    rw[hz] at h;simp at h;exact .inr ⟨oM,h.symm⟩
 refine⟨h0.ay,h0.m0,h0.base,by simp[h0.len],fun l g o h1 h2=>?_,fun l g b h1 h2=>?_,fun l l' g g' b h1 h2 h3 h4=>?_,h0.out,⟨fun p hp=>?_,h0.dfr.2⟩⟩
 · rcases new l g h1 with ⟨hlt,h1⟩|⟨rfl,rfl⟩
   · rw[zA8 (by rw[←h0.len];exact hlt)] at h2;exact(h0.bB l g o h1 h2).cY hb fun b _=>rfl
   · rw[zA7 (by rw[←h0.len];exact zAt _)] at h2;simp[h0.len] at h2;subst h2;exact .ownz sz
 · rcases new l g h1 with ⟨_,h1⟩|⟨_,rfl⟩
   · exact h0.fresh l g b h1 h2
   · simp[GB.block] at h2
 · rcases new l g h1 with ⟨_,h1⟩|⟨_,rfl⟩
   · rcases new l' g' h2 with ⟨_,h2⟩|⟨_,rfl⟩
     · exact h0.inj l l' g g' b h1 h2 h3 h4
     · simp[GB.block] at h4
   · simp[GB.block] at h3
 · obtain⟨k1,k2,k3,k4⟩:=h0.dfr.1 p hp;refine⟨k1,k2,fun l g h1 e=>?_,k4⟩;rcases new l g h1 with ⟨_,h1⟩|⟨_,rfl⟩
   · exact k3 l g h1 e
   · simp[GB.block] at e
theorem aC.pB {G:Gh} {w:World} {l:Nat} {o o':bc} (h:aC G σ w) (hσ:σ[l]? = some o) (ho:∀g,G.B[l]? = some g→cW G.M G.B w g o→cW G.M G.B w g o'):aC G (σ.set l o') w:=by
 refine⟨h.ay,h.m0,h.base,by simp[h.len],fun l' g o2 h1 h2=>?_,h.fresh,h.inj,h.out,h.dfr⟩;by_cases e:l=l'
 · subst e;have hlt:l<σ.length:=by
    rcases zAa l σ.length with h'|h'
    · exact h'
    · rw[zA3 h'] at hσ;cases hσ
   rw[zAf hlt] at h2;simp at h2;subst h2;exact ho g h1 (h.bB l g o h1 hσ)
 · rw[zAp e] at h2;exact h.bB l' g o2 h1 h2
theorem AWP.nt {c:Code} {v i sz:Nat} {cs:List AV} (hv:σ[v]? = some (.var cs)) (hi:cs[i]? = some .nils)
 (hk:AWP P n c K env (σ.set v (.var (cs.set i (.sl sz [] (.own σ.length))))++[.own sz 0])):AWP P n c K env σ:=by
 intro G a w hr;have hs:=hr.st.iQ sz;have hv':(σ++[bc.own sz 0])[v]? = some (.var cs):=by
  have hlt:v<σ.length:=by
   rcases zAa v σ.length with h'|h'
   · exact h'
   · rw[zA3 h'] at hv;cases hv
  rw[zA8 hlt];exact hv
 have hlt:v<σ.length:=by
  rcases zAa v σ.length with h'|h'
  · exact h'
  · rw[zA3 h'] at hv;cases hv
 have hl:(G.B++[GB.own none 0 0])[σ.length]? = some (.own none 0 0):=by
  rw[zA7 (by rw[hr.st.len];exact zAt _)];simp[hr.st.len]
 have hs2:aC { G with B:=G.B++[GB.own none 0 0] } ((σ++[bc.own sz 0]).set v (.var (cs.set i (.sl sz [] (.own σ.length))))) w:=by
  refine hs.pB hv' fun g hg ho=>?_
  cases ho with
  | var b _ c T fr hb hf hl' hr2 hm =>
    refine .var b _ c T fr hb hf (by simpa using hl') (fun j av hj=>?_) hm;by_cases e:i=j
    · subst e;have hltc:i<cs.length:=by
       rcases zAa i cs.length with h'|h'
       · exact h'
       · rw[zA3 h'] at hi;cases hi
      rw[zAf hltc] at hj;simp at hj;subst hj;have:=hr2 i _ hi;cases hx:c.getD i undef<;>rw[hx] at this<;>cases this;exact .slz sz _ ⟨none,0,0,by rw[hl],zAt _,fun _=>⟨rfl,rfl⟩⟩
    · rw[zAp e] at hj;exact hr2 j av hj
 have e:(σ++[bc.own sz 0]).set v (.var (cs.set i (.sl sz [] (.own σ.length))))=σ.set v (.var (cs.set i (.sl sz [] (.own σ.length))))++[bc.own sz 0]:=by
  rw[List.set_append_left _ _ hlt]
 rw[e] at hs2;refine wpIn_mono (hk { G with B:=G.B++[GB.own none 0 0] } a w ⟨hr.size,hr.defers,fun i=>(hr.bh i).mono (Mem.Le.refl _) (BLe.append _ _),hs2⟩) ?_;rintro x a' w' ⟨e',s',G',h1,h2,h3⟩;exact⟨e',s',G',h1,Gh.Le.trans (G':={ G with B:=G.B++[GB.own none 0 0] }) (.upB (BLe.append _ _)) h2,h3⟩
end Go.Ab
/- Regions that draw their order, with a chain of effects among quiet operations. -/
namespace Go.Ab
section
variable {P:Program} {n:Nat} {ops:Array Oper} {md:Region.Mode} {S:Nat→ae} {m:Nat}
variable {eff:Oper→Bool}
end
end Go.Ab
/- Drawn regions with effects, in the walk's form. -/
namespace Go.Ab
section
variable {P:Program} {n:Nat} {ops:Array Oper} {S:Nat→ae} {m j:Nat} {eff:Oper→Bool} {o:Oper} {rest:List Oper} {K:Env→Nat→Prop} {env:Env}
end
end Go.Ab
/- Calls that change the caller's own objects: contracts over a store; function values; the frame rule. -/
namespace Go.Ab
def fS (G:Gh) (avs:List AV) (vs:Array Value):Prop:=vs.size=avs.length∧∀(i:Nat) (c:AV),avs[i]? = some c→ag G.M G.B c (vs.getD i undef)
def TCall (P:Program) (f:FuncId) (avs:List AV) (σ:ae) (Q:AV→ae→Prop):Prop :=
 mO P f∧∀(G:Gh) (w:World) (vs:Array Value),aC G σ w→fS G avs vs →
  Calls P f vs w (fun e w'=>∃v rv σ' G',e=.returned v∧Q rv σ'∧G.Le G'∧aC G' σ' w'∧ag G'.M G'.B rv v)
def jI (P:Program) (K:Value→World→Prop):Result Next→Prop
 |.ok (.enter f args) w'=>Calls P f args w' fun
  |.returned v,w''=>K v w''
  |_,_=>False
 |.ok (.round l f tmps assign body) w'=>∀ro,RoundIn (FR ro) 0 P l f tmps assign body w' fun
  |.returned v,w''=>K v w''
  |_,_=>False
 |_=>False
theorem sN {P:Program} {K U:Value→World→Prop} {r:Result Next} (h:∀a w,K a w→U a w) (hh:jI P K r):jI P U r:=by
 cases r with
 | ok n w' =>
   cases n<;>simp only[jI] at hh ⊢ <;>
    first
     |exact hh.elim
     |exact Calls.mono hh (fun e w'' he=>by cases e<;>first|exact h _ _ he|exact he.elim)
     |exact fun ro=>RoundIn.mono (hh ro) (fun e w'' he=>by cases e<;>first|exact h _ _ he|exact he.elim)
 |halt x w'=>cases x<;>simp only[jI] at hh
def VCall (P:Program) (fv:AV) (avs:List AV) (σ:ae) (Q:AV→ae→Prop):Prop :=
 ∀(G:Gh) (w:World) (fn:Fn) (vf vc vs:Array Value),aC G σ w→ag G.M G.B fv (.func fn vf vc)→fS G avs vs →
  jI P (fun v w'=>∃rv σ' G',Q rv σ'∧G.Le G'∧aC G' σ' w'∧ag G'.M G'.B rv v) ((invoke (.fn fn vc) (vf++vs)).run P w)
theorem TCall.mono {P:Program} {f:FuncId} {avs:List AV} {σ:ae} {Q Q':AV→ae→Prop} (h:TCall P f avs σ Q) (hq:∀r s,Q r s→Q' r s):TCall P f avs σ Q' :=
 ⟨h.1,fun G w vs hs ha=>(h.2 G w vs hs ha).mono fun _ _ ⟨v,rv,s,G',h1,h2,h3⟩=>⟨v,rv,s,G',h1,hq _ _ h2,h3⟩⟩
theorem VCall.mono {P:Program} {fv:AV} {avs:List AV} {σ:ae} {Q Q':AV→ae→Prop} (h:VCall P fv avs σ Q) (hq:∀r s,Q r s→Q' r s):VCall P fv avs σ Q' :=
 fun G w fn vf vc vs hs hf ha=>sN (fun _ _ ⟨rv,s,G',h2,h3⟩=>⟨rv,s,G',hq _ _ h2,h3⟩) (h G w fn vf vc vs hs hf ha)
theorem fS.append {G:Gh} {a b:List AV} {x y:Array Value} (h:fS G a x) (h':fS G b y):fS G (a++b) (x++y):=by
 refine⟨by simp[h.1,h'.1],fun i c hi=>?_⟩;rcases zAa i x.size with hlt|hge
 · rw[zA8 (by rw[←h.1];exact hlt)] at hi;have:=h.2 i c hi;simp only[zA2] at this ⊢;rwa [zAl hlt]
 · rw[zA7 (by rw[←h.1];exact hge),←h.1] at hi;have:=h'.2 _ c hi;simp only[zA2] at this ⊢;rwa [zB1 hge]
theorem TCall.val {P:Program} {f:FuncId} {first aQ avs:List AV} {σ:ae} {Q:AV→ae→Prop} (h:TCall P f (first++avs++aQ) σ Q):VCall P (.fn (.func f) first aQ) avs σ Q:=by
 intro G w fn vf vc vs hs hf ha;cases hf with
 | fn _ _ _ _ _ hvf hvc h1 h2 =>
   have bl:(invoke (.fn (.func f) vc) (vf++vs)).run P w=.ok (.enter f (vf++vs++vc)) w:=by
    simp only[invoke];exact eU h.1 _ w
   rw[bl];simp only[jI];refine(h.2 G w _ hs ((fS.append ⟨hvf,h1⟩ ha).append ⟨hvc,h2⟩)).mono ?_;rintro e w' ⟨v,rv,s,G',rfl,h3⟩;exact⟨rv,s,G',h3⟩
def Gh.enter (G:Gh) (w:World):Gh :=
 { M0:=G.M,w0:=⟨w,fun b=>b<w.heap.size∧∀(l:Nat) (g:GB),G.B[l]? = some g→g.block≠some b,fun _ h=>h.1⟩,M:=G.M,B:=G.B }
theorem aC.enter {G:Gh} {σ:ae} {w:World} (h:aC G σ w):aC (G.enter w) σ w :=
 ⟨h.ay,fun _ _=>⟨fun _=>rfl,rfl⟩,⟨zAt _,fun _ _=>rfl⟩,h.len,h.bB,fun l g b h1 h2=>⟨fun hp=>hp.2 l g h1 h2,(h.fresh l g b h1 h2).2⟩,h.inj,cD.refl _,⟨fun _ hp=>(by cases hp),fun _ hp=>(by cases hp)⟩⟩
theorem aC.leave {G G':Gh} {σ σ':ae} {w w':World} (h:aC G σ w) (h':aC G' σ' w') (hm0:G'.M0=G.M) (hw0:G'.w0=(G.enter w).w0):aC { G with M:=G'.M,B:=G'.B } σ' w':=by
 have pr:∀b,G.w0.iI b→G'.w0.iI b:=fun b hb=>by
  rw[hw0];exact⟨h.nQ hb,fun l g h1 h2=>(h.fresh l g b h1 h2).1 hb⟩
 have HG:=h'.base;refine⟨h'.ay,fun b hb=>?_,⟨zC2 h.base.1 (by rw[hw0] at HG;exact HG.1),fun b hb=>?_⟩,h'.len,h'.bB,fun l g b h1 h2=>?_,h'.inj,?_,⟨fun p hp=>?_,h.dfr.2⟩⟩
 · have h1:=h'.m0 b (pr b hb);rw[hm0] at h1;exact⟨fun o=>(h1.1 o).trans ((h.m0 b hb).1 o),h1.2.trans (h.m0 b hb).2⟩
 · have h1:=h'.base.2 b (pr b hb);rw[hw0] at h1;exact h1.trans (h.base.2 b hb)
 · have:=h'.fresh l g b h1 h2;exact⟨fun hp=>this.1 (pr b hp),this.2⟩
 · have:=h'.out;rw[hw0] at this;exact h.out.trans this
 · obtain⟨k1,k2,k3,k4,k5⟩:=h.dfr.1 p hp;have hpr:G'.w0.iI p.1:=by rw[hw0];exact⟨h.kO hp,k3⟩
   have h1:=h'.base.2 _ hpr;rw[hw0] at h1;have h2:=h'.m0 _ hpr;rw[hm0] at h2;exact⟨h1.trans k1,k2,fun l g hl e=>(h'.fresh l g _ hl e).1 hpr,fun o=>(h2.1 o).trans (k4 o),h2.2.trans k5⟩
def kz (e:Env):List ResultVar→Option (List AV)
 |[]=>some []
 | .tmp t :: r => match (e t).wh, kz e r with
   |some v,some vs=>some (v::vs)
   |_,_=>none
 |.cell _ _::_=>none
def rJ (e:Env):List ResultVar→Option AV
 |[.tmp t]=>(e t).wh
 |l=>(kz e l).map .tup
theorem uY {e:Env} {M:Mem} {B:List GB} {tmps:Array Value} (hv:∀i,ag M B (e i) (tmps.getD i undef)):∀{l:List ResultVar} {us:List AV},kz e l=some us →
 us.length=l.length∧∀(i:Nat) (c:AV),us[i]? = some c→ag M B c ((l.map (pv tmps)).toArray.getD i undef)
 |[],us,h=>by simp[kz] at h;subst h;exact⟨rfl,fun i c hi=>by simp at hi⟩
 |.cell _ _::_,us,h=>by simp[kz] at h
 | .tmp t :: r, us, h => by
   simp only[kz] at h;split at h
   · rename_i v vs h1 h2;simp at h;subst h;obtain⟨k1,k2⟩:=uY hv h2;refine⟨by simp[k1],fun i c hi=>?_⟩;cases i with
     |zero=>simp at hi;subst hi;rw[←AV.mh h1];simpa[pv] using hv t
     | succ i =>
       simp at hi;have:=k2 i c hi;simpa[zA2] using this
   · simp at h
theorem FB {e:Env} {M:Mem} {B:List GB} {tmps:Array Value} (hv:∀i,ag M B (e i) (tmps.getD i undef)) {l:List ResultVar} {u:AV} (h:rJ e l=some u):ag M B u (Da tmps l):=by
 have many:∀us,kz e l=some us→ag M B (.tup us) (.tuple (l.map (pv tmps)).toArray):=fun us hu=>by
  obtain⟨k1,k2⟩:=uY hv hu;exact .tup _ _ (by simp[k1]) k2
 match l,h,many with
 |[],h,many=>simp[rJ,kz] at h;subst h;exact many [] rfl
 |[.tmp t],h,_=>simp only[rJ] at h;rw[←AV.mh h];exact hv t
 |[.cell _ _],h,_=>simp[rJ,kz] at h
 | .tmp t :: y :: r, h, many =>
   simp only[rJ,zA6] at h;obtain⟨us,h1,rfl⟩:=h;exact many us h1
 |.cell _ _::y::r,h,_=>simp[rJ,kz] at h
theorem TCall.body {P : Program} {f : FuncId} {fn : Func} {c : Code} {n : Nat} {avs : List AV} {σ : ae} {Q : AV → ae → Prop} (hf : P.funcs[f]? = some fn) (hb : fn.body = some c) (hnm : (fn.name == "runtime.NumGoroutine") = false)
 (hn:fn.ntmps=n) (j0:decide (avs.length≤n)=true) (kV:lL fn.results.toList=true)
 (h:AWP P n c (fun x e s=>(x=.normal∨x=.ret)∧∃(rv:AV) (σ':ae),Q rv σ'∧s.take σ'.length=σ'∧σ.length≤σ'.length∧σ'.all (aD σ'.length)=true∧aO σ'.length 4 rv=true ∧
  rJ e fn.results.toList=some rv) (Env.init avs) σ):TCall P f avs σ Q:=by
 refine⟨⟨fn,hf,by simp[hb],hnm⟩,fun G w vs hs ha=>?_⟩;refine(nU hf hb hn (of_decide_eq_true j0) h hs.enter rfl rfl ha (R:=fun v w'=>∃rv σ' G',Q rv σ'∧G.Le G'∧aC G' σ' w'∧ag G'.M G'.B rv v) (fun x e s hk=>hk.1) ?_).mono ?_
 · rintro x e s G' tmps w' ⟨_,rv,σ',hQ,htk,hlen,hok,FC,hv⟩ hm0 hw0 hM hB hs' hvals;refine⟨_,qV kV _ _,rv,σ',{ G with M:=G'.M,B:=G'.B.take σ'.length },hQ,.up hM fun l g hl=>?_,?_,ag.take 4 _ _ FC (FB hvals hv)⟩
   · obtain⟨g',k1,k2⟩:=hB l g hl;have:l<σ'.length:=by
      have h1:l<G.B.length:=by
       rcases zAa l G.B.length with h|h
       · exact h
       · simp[zA3 h] at hl
      rw[hs.len] at h1;omega
     exact⟨g',du k1 this,k2⟩
   · have:=hs'.take σ'.length (by rw[htk];exact hok);rw[htk] at this;exact hs.leave this hm0 hw0
 · rintro e w' ⟨v,rfl,rv,σ',G',h1,h2⟩;exact⟨v,rv,σ',G',rfl,h1,h2⟩
theorem Ba {G:Gh} {σ τ:ae} {w:World} (hs:aC G (σ++τ) w) (hok:σ.all (aD σ.length)=true) :
 aC (Gh.enter { G with B:=G.B.take σ.length } w) σ w∧∀(G':Gh) (σ':ae) (w':World),aC G' σ' w'→σ'.length=σ.length→(Gh.enter { G with B:=G.B.take σ.length } w).Le G' →
  ∃G'':Gh,G.Le G''∧aC G'' (σ'++τ) w'∧G''.M=G'.M∧BLe G'.B G''.B:=by
 have htk:(σ++τ).take σ.length=σ:=sMp;have hs1:aC { G with B:=G.B.take σ.length } σ w:=by
  have:=hs.take σ.length (by rw[htk];exact hok);rwa [htk] at this
 have hlen:G.B.length=σ.length+τ.length:=by rw[hs.len];simp
 refine⟨hs1.enter,fun G' σ' w' h' hl hle=>?_⟩;have hs2:=hs1.leave h' hle.m0 hle.w0;have hl':G'.B.length=σ.length:=by rw[h'.len,hl]
 have hsz:w.heap.size≤w'.heap.size:=by have:=h'.base.1;rw[hle.w0] at this;exact this
 -- the blocks of what lies further on
 have tail:∀(l:Nat) (g:GB),(G'.B++G.B.drop σ.length)[l]? = some g→σ.length≤l→G.B[l]? = some g:=fun l g h1 hge=>by
  rw[zA7 oM,hl',zB6] at h1;rwa [show σ.length+(l - σ.length)=l by omega] at h1
 have front:∀(l:Nat) (g:GB),(G'.B++G.B.drop σ.length)[l]? = some g→l<σ.length→G'.B[l]? = some g:=fun l g h1 hlt=>by
  rwa [zA8 oM] at h1
 have pr:∀(l:Nat) (g:GB) b,G.B[l]? = some g→σ.length≤l→g.block=some b→G'.w0.iI b:=fun l g b h1 hge h2=>by
  rw[hle.w0];refine⟨(hs.fresh l g b h1 h2).2,fun l2 g2 h3 h4=>?_⟩;simp only[zAw] at h3;split at h3
  · rename_i hlt;have:=hs.inj l l2 g g2 b h1 h3 h2 h4;omega
  · simp at h3
 have same:∀b,G'.w0.iI b→w'.heap[b]? = w.heap[b]? ∧ (∀o,G'.M.cell b o=G.M.cell b o)∧G'.M.map b=G.M.map b:=fun b hb=>by
  have h1:=h'.base.2 b hb;have h2:=h'.m0 b hb;rw[hle.w0] at h1;rw[hle.m0] at h2;exact⟨h1,h2.1,h2.2⟩
 have hB:BLe G.B (G'.B++G.B.drop σ.length):=fun l g h1=>by
  rcases zAa l σ.length with hlt|hge
  · obtain⟨g',k1,k2⟩:=hle.b l g (du h1 hlt);exact⟨g',by rw[zA8 oM];exact k1,k2⟩
  · refine⟨g,?_,GB.Le.refl _⟩;rw[zA7 oM,hl',zB6,show σ.length+(l - σ.length)=l by omega];exact h1
 refine⟨{ G with M:=G'.M,B:=G'.B++G.B.drop σ.length },.up hle.m hB,?_,rfl,BLe.append _ _⟩;refine⟨hs2.ay,hs2.m0,hs2.base,?_,fun l g o h1 h2=>?_,fun l g b h1 h2=>?_,fun l l2 g g2 b h1 h2 h3 h4=>?_,hs2.out,⟨fun p hp=>?_,hs.dfr.2⟩⟩
 · simp only[zCr,zB0,hl',hl,hlen];omega
 · rcases zAa l σ.length with hlt|hge
   · rw[zA8 oM] at h2;exact(h'.bB l g o (front l g h1 hlt) h2).cY (BLe.append _ _) fun _ _=>rfl
   · have hg:=tail l g h1 hge;have ho:(σ++τ)[l]? = some o:=by
      rw[zA7 oM,hl] at h2;rw[zA7 hge];exact h2
     exact(hs.bB l g o hg ho).grow hle.m hB (fun b hb=>(same b (pr l g b hg hge hb)).1) fun b hb=>(same b (pr l g b hg hge hb)).2
 · rcases zAa l σ.length with hlt|hge
   · exact hs2.fresh l g b (front l g h1 hlt) h2
   · have:=hs.fresh l g b (tail l g h1 hge) h2;exact⟨this.1,zC3 this.2 hsz⟩
 · rcases zAa l σ.length with hlt|hge<;>rcases zAa l2 σ.length with cr|hge2
   · exact h'.inj l l2 g g2 b (front _ _ h1 hlt) (front _ _ h2 cr) h3 h4
   · exact absurd (pr l2 g2 b (tail _ _ h2 hge2) hge2 h4) (h'.fresh l g b (front _ _ h1 hlt) h3).1
   · exact absurd (pr l g b (tail _ _ h1 hge) hge h3) (h'.fresh l2 g2 b (front _ _ h2 cr) h4).1
   · exact hs.inj l l2 g g2 b (tail _ _ h1 hge) (tail _ _ h2 hge2) h3 h4
 · obtain⟨k1,k2,k3,k4⟩:=hs2.dfr.1 p hp;refine⟨k1,k2,fun l g h1=>?_,k4⟩;rcases zAa l σ.length with hlt|hge
   · exact k3 l g (front l g h1 hlt)
   · exact(hs.dfr.1 p hp).2.2.1 l g (tail l g h1 hge)
theorem fS.take {G:Gh} {avs:List AV} {vs:Array Value} {m:Nat} (h:fS G avs vs) (ho:avs.all (aO m 4)=true):fS { G with B:=G.B.take m } avs vs :=
 ⟨h.1,fun i c hi=>ag.take 4 c _ (zA4.1 ho c (zAc hi)) (h.2 i c hi)⟩
theorem VCall.frame {P:Program} {fv:AV} {avs:List AV} {σ:ae} {Q:AV→ae→Prop} (h:VCall P fv avs σ Q) (τ:ae) (hok:σ.all (aD σ.length)=true) (hf:aO σ.length 4 fv=true)
 (ha:avs.all (aO σ.length 4)=true) (hQ:∀rv s,Q rv s→s.length=σ.length):VCall P fv avs (σ++τ) (fun rv s=>∃σ',s=σ'++τ∧Q rv σ'):=by
 intro G w fn vf vc vs hs hfv hav;obtain⟨h1,h2⟩:=Ba hs hok;refine sN ?_ (h _ w fn vf vc vs h1 (ag.take 4 _ _ hf hfv) (hav.take ha));rintro v w' ⟨rv,σ',G',k1,k2,k3,k4⟩;obtain⟨G'',g1,g2,g3,g4⟩:=h2 G' σ' w' k3 (hQ _ _ k1) k2;exact⟨rv,_,G'',⟨σ',rfl,k1⟩,g1,g2,k4.mono (by rw[g3];exact Mem.Le.refl _) g4⟩
section
variable {P:Program} {n:Nat} {ops:Array Oper} {o:Oper} {env:Env} {σ:ae} {k:Env→ae→Prop}
theorem PCall.lf {f:FuncId} {avs:List AV} {r:AV} (h:PCall P f avs r) (hr:∀v∈avs,unb 4 v=v):TCall P f avs σ (fun rv s=>rv=r∧s=σ):=by
 refine⟨h.1,fun G w vs hs ha=>(h.2 G.M w vs hs.ay ⟨ha.1,fun i c hi=>?_⟩).mono ?_⟩
 · have:=fj 4 _ _ (ha.2 i c hi);rwa [hr c (zAc hi)] at this
 · rintro e w' ⟨v,M',rfl,h1,h2⟩;exact⟨v,r,σ,{ G with M:=M' },rfl,⟨rfl,rfl⟩,.upM h2.le,hs.after h2,h1.mono (Mem.Le.refl _) (BLe.nil _)⟩
def Bb:AV→Bool
 |.fn _ _ _|.opq _|.yld _=>true
 |_=>false
theorem xg {fv:AV} (h:Bb fv=true) {M:Mem} {B:List GB} {y:Value} (hy:ag M B fv y):∃fn vf vc,y=.func fn vf vc:=by
 cases hy<;>simp[Bb] at h<;>exact⟨_,_,_,rfl⟩
theorem xh {G:Gh} {a:Act} {w:World} (hr:bf n G env σ a w):∀{l:List Operand} {avs:List AV},rds env l=some avs→eW env l→fS G avs (l.map a.eval).toArray
 |[],avs,h,_=>by simp[rds] at h;subst h;exact⟨rfl,fun i c hi=>by simp at hi⟩
 | x :: r, avs, h, hn => by
   have h1:=px h;have h2:=lM hn;simp only[zD3,Option.bind_eq_bind,Option.bind_eq_some_iff,Option.pure_def,Option.some.injEq] at h1;obtain⟨u,hu,us,hus,rfl⟩:=h1;have h3:fS G [u] #[a.eval x]:=⟨rfl,fun i c hi=>by
    cases i with
    |zero=>simp at hi;subst hi;exact hr.rd (Rd.w hu (h2 x (zB8 ..)))
    |succ i=>simp at hi⟩
   have hr':rds env r=some us:=by
    simp only[rds] at h;split at h
    · rename_i u' us' e1 e2;simp at h;rw[e2,h.2]
    · simp at h
   have h4:=h3.append (xh hr hr' (by exact hn.2));simpa using h4
theorem EStep.Lg {fo:Operand} {args:Array Operand} {Ts:Array TypeId} {fv:AV} {avs:List AV} {Q:AV→ae→Prop} {d:Option Nat} (h:VCall P fv avs σ Q)
 (ho:o.op=.call { callee:=.value fo,args:=args,argTypes:=Ts }) (hg:o.guard=none) (hd:o.dst=d) (hdn:eu n o=true) (hf:rdv env fo=some fv) (nf:rdn env fo) (hfv:Bb fv=true)
 (ha:rds env args.toList=some avs) (na:eW env args.toList) (hk:∀rv s,Q rv s→k (env.br d rv) s):EStep P n ops o k env σ:=by
 subst hd;refine EStep.plain hg fun G a w hr=>?_
 have hv:=hr.rd (Rd.w hf nf);have gT:=xh hr ha na;generalize hA:a.eval fo=y at hv;obtain⟨fn,vf,vc,rfl⟩:=xg hfv hv;have h1:=h G w fn vf vc _ hr.st hv gT;have e:(execOp a.eval o).run P w=(invoke (.fn fn vc) (vf++(args.toList.map a.eval).toArray)).run P w:=by
  have e2:(args.toList.map a.eval).toArray=args.map a.eval:=by cases args;simp
  rw[e2];simp only[execOp,ho,resolve,hA,Deferred.ofValue,Sem.run_bind,Sem.run_pure,Result.andThen_ok]
 unfold OWP;rw[e];generalize (invoke (.fn fn vc) (vf++(args.toList.map a.eval).toArray)).run P w=r at h1;cases r with
 | ok nx w' =>
   cases nx<;>simp only[jI] at h1<;>simp only[fb] <;>
    first
     |exact h1.elim
     |exact Calls.mono h1 (fun e w'' he=>by cases e<;>first|(obtain⟨rv,s,G',k1,k2,k3,k4⟩:=he;exact⟨_,s,G',hk rv s k1,k2,(hr.later k2 k3).br (cu hdn) k4⟩)|exact he.elim)
     |exact fun ro=>RoundIn.mono (h1 ro) (fun e w'' he=>by cases e<;>first|(obtain⟨rv,s,G',k1,k2,k3,k4⟩:=he;exact⟨_,s,G',hk rv s k1,k2,(hr.later k2 k3).br (cu hdn) k4⟩)|exact he.elim)
 |halt x w'=>cases x<;>simp only[jI] at h1
end
end Go.Ab
/- A range over a function: the rule, over stores; what an iterator promises. -/
namespace Go.Ab
theorem aC.J3 {G:Gh} {σ:ae} {w:World} (h:aC G σ w) (ob:Obj):aC { G with D:=(w.heap.size,ob)::G.D } σ (w.alloc ob):=by
 have hh:∀b,b<w.heap.size→(w.alloc ob).heap[b]? = w.heap[b]? := fun b hb=>by rw[heap_alloc,if_neg oM]
 have hm:=eV h.ay _ (zAt _)
 refine⟨mP h.ay ob,h.m0,⟨by have:=h.base.1;show G.w0.w.heap.size≤_;simp;omega,fun b hb=>(hh b (h.nQ hb)).trans (h.base.2 b hb)⟩,h.len,
  fun l g o h1 h2=>(h.bB l g o h1 h2).cY (BLe.refl _) fun b hb=>hh b (h.fresh l g b h1 hb).2,fun l g b h1 h2=>⟨(h.fresh l g b h1 h2).1,by have:=(h.fresh l g b h1 h2).2;simp;omega⟩,h.inj,h.out,⟨fun p hp=>?_,fun l0 hl=>?_⟩⟩
 · rcases zAo.1 hp with rfl|hp
   · exact⟨by rw[heap_alloc,if_pos rfl],h.Fo (zAt _),fun l g hl e=>by have:=(h.fresh l g _ hl e).2;simp at this,hm.1,hm.2⟩
   · obtain⟨k1,k2⟩:=h.dfr.1 p hp;exact⟨(hh _ (h.kO hp)).trans k1,k2⟩
 · obtain⟨r,hr⟩:=h.dfr.2 l0 hl;exact⟨r,zB9 _ hr⟩
theorem aC.aside {G:Gh} {σ:ae} {w:World} {r:Loop} {E:List (Nat×AV)} (h:aC G (σ++[.loop r E]) w) (hok:σ.all (aD σ.length)=true) :
 ∃l,G.B[σ.length]? = some (.blk l)∧w.heap[l]? = some (.loop r)∧(∀i,ag G.M G.B (Env.of E i) (r.tmps.getD i undef))∧aC { G with B:=G.B.take σ.length,D:=(l,.loop r)::G.D,R:=some l } σ w:=by
 have hlen:G.B.length=σ.length+1:=by rw[h.len];simp
 obtain⟨g,hg⟩:∃g,G.B[σ.length]? = some g:=⟨_,zA1 oM⟩
 have ho:=h.bB σ.length g (.loop r E) hg sMp;cases ho with
 | loop l _ _ hb hv =>
   have htk:(σ++[bc.loop r E]).take σ.length=σ:=sMp;have ht:=h.take σ.length (by rw[htk];exact hok);rw[htk] at ht;have hfr:=h.fresh σ.length _ l hg rfl;refine⟨l,hg,hb,hv,ht.ay,ht.m0,ht.base,ht.len,ht.bB,ht.fresh,ht.inj,ht.out,⟨fun p hp=>?_,fun l0 hl=>⟨r,by simp at hl;subst hl;simp⟩⟩⟩;rcases zAo.1 hp with rfl|hp
   · refine⟨hb,hfr.1,fun l' g' hl' e=>?_,fY h.ay hb sMp,cQ h.ay hb sMp⟩;simp only[zAw] at hl';split at hl'
     · have:=h.inj l' σ.length _ _ _ hl' hg e rfl;omega
     · simp at hl'
   · exact ht.dfr.1 p hp
theorem aC.Iv {G:Gh} {σ:ae} {w:World} {l:Nat} {r:Loop} (h:aC G σ w) (hl:(l,Obj.loop r)∈G.D) (r':Loop) (E:List (Nat×AV)) (hE:∀i,ag G.M (G.B++[.blk l]) (Env.of E i) (r'.tmps.getD i undef)) {D':List (Nat×Obj)} {R':Option Nat} (hD:∀p∈D',p∈G.D∧p.1≠l) (hR:∀l0,R'=some l0→∃r,(l0,Obj.loop r)∈D') :
 aC { G with B:=G.B++[.blk l],D:=D',R:=R' } (σ++[.loop r' E]) (w.putObj l (.loop r')):=by
 have h0:=h.dfr.1 _ hl;have hlt:=h.kO hl;have hu:=h.qw (D':=D') hl (.loop r') hD;have new:∀(l2:Nat) (g:GB),(G.B++[GB.blk l])[l2]? = some g→(l2<G.B.length∧G.B[l2]? = some g)∨(l2=G.B.length∧g=.blk l):=by
  intro l2 g hg;rcases zAa l2 G.B.length with hlt|hge
  · rw[zA8 hlt] at hg;exact .inl ⟨hlt,hg⟩
  · rw[zA7 hge] at hg;have hz:l2 - G.B.length=0:=by
     rcases zBe (l2 - G.B.length) with hz|hp
     · exact hz
     · rw[zA3 (by simp;omega)] at hg;simp at hg
    rw[hz] at hg;simp at hg;exact .inr ⟨oM,hg.symm⟩
 refine⟨hu.ay,hu.m0,hu.base,by simp[h.len],fun l2 g o h1 h2=>?_,fun l2 g b h1 h2=>?_,fun l1 l2 g g' b h1 h2 h3 h4=>?_,hu.out,⟨fun p hp=>?_,hR⟩⟩
 · rcases new l2 g h1 with ⟨cr,h1⟩|⟨rfl,rfl⟩
   · rw[zA8 (by rw[←h.len];exact cr)] at h2;exact(hu.bB l2 g o h1 h2).cY (BLe.append _ _) fun _ _=>rfl
   · rw[zA7 (by rw[←h.len];exact zAt _)] at h2;simp[h.len] at h2;subst h2;exact .loop l r' E (World.putObj_heap_same hlt) hE
 · rcases new l2 g h1 with ⟨_,h1⟩|⟨_,rfl⟩
   · exact hu.fresh l2 g b h1 h2
   · simp[GB.block] at h2;subst h2;exact⟨h0.2.1,by simpa[World.putObj] using hlt⟩
 · rcases new l1 g h1 with ⟨_,h1⟩|⟨e1,rfl⟩<;>rcases new l2 g' h2 with ⟨_,h2⟩|⟨e2,rfl⟩
   · exact h.inj l1 l2 g g' b h1 h2 h3 h4
   · simp[GB.block] at h4;subst h4;exact absurd h3 (h0.2.2.1 l1 g h1)
   · simp[GB.block] at h3;subst h3;exact absurd h4 (h0.2.2.1 l2 g' h2)
   · omega
 · obtain⟨k1,k2,k3,k4⟩:=hu.dfr.1 p hp;refine⟨k1,k2,fun l2 g h1 e=>?_,k4⟩;rcases new l2 g h1 with ⟨_,h1⟩|⟨_,rfl⟩
   · exact k3 l2 g h1 e
   · simp[GB.block] at e;exact(hD p hp).2 e.symm
def Env.rK (e:Env):List (Nat×AV)→Env
 |[]=>e
 |(d,v)::r=>(e.put d v).rK r
theorem bf.rK {n:Nat} {G:Gh} {σ:ae} {w:World}:∀(ps:List Nat) (us:List AV) (vs:List Value) (env:Env) (a:Act),bf n G env σ a w→ps.length=us.length→vs.length=us.length→(∀d∈ps,d<n) →
 (∀(i:Nat) (c:AV),us[i]? = some c→ag G.M G.B c (vs.getD i undef))→bf n G (env.rK (ps.zip us)) σ { a with tmps:=(ps.zip vs).foldl (fun t (p,v)=>t.setIfInBounds p v) a.tmps } w
 |[],_,_,env,a,h,_,_,_,_=>h
 |p::ps,[],_,env,a,h,hl,_,_,_=>by simp at hl
 |p::ps,u::us,[],env,a,h,_,hl,_,_=>by simp at hl
 | p :: ps, u :: us, v :: vs, env, a, h, h1, h2, hn, hv => by
   have hp:=h.put (hn p (zB8 ..)) (v:=u) (x:=v) (by simpa using hv 0 u rfl);have:=bf.rK ps us vs _ _ hp (by simpa using h1) (by simpa using h2) (fun d hd=>hn d (zB9 _ hd)) fun i c hi=>by
    have:=hv (i+1) c (by simpa using hi);simpa[List.getD] using this
   exact this
theorem aC.setF {G:Gh} {σ:ae} {w:World} (h:aC G σ w) (F:List Deferred):aC { G with F:=F } σ w:=⟨h.ay,h.m0,h.base,h.len,h.bB,h.fresh,h.inj,h.out,h.dfr⟩
theorem aC.FD {G:Gh} {σ:ae} {w:World} (h:aC { G with R:=none } σ w) {R':Option Nat} (hR:∀l0,R'=some l0→∃r,(l0,Obj.loop r)∈G.D):aC { G with R:=R' } σ w :=
 ⟨h.ay,h.m0,h.base,h.len,h.bB,h.fresh,h.inj,h.out,⟨h.dfr.1,hR⟩⟩
theorem Bc {P:Program} {n:Nat} {G:Gh} {env:Env} {σ:ae} {a:Act} {w:World} (hr:bf n G env σ a w) (E:List (Nat×AV)) (hE:env.ua (Env.of E)) (fn:FuncId) (ps:Array Tmp) (assign body:Code) :
 ∃l mark W1 rc D1,(Instr.enterLoop fn a.tmps ps assign body G.R).run P w=.ok (l,mark) W1∧(rc.state=.ready∧rc.pending=none∧rc.tmps=a.tmps∧rc.params=ps∧rc.assign=assign∧rc.body=body)∧(∀x∈G.D,x∈D1)∧la D1 G.F (mark++a.defers) ∧
  aC { G with B:=G.B++[.blk l],D:=D1 } (σ++[.loop rc E]) W1:=by
 have obj:∀(G1:Gh) (W:World) (rc:Loop),G1.M=G.M→G1.B=G.B→rc.tmps=a.tmps→cW G1.M (G1.B++[.blk W.heap.size]) (W.alloc (.loop rc)) (.blk W.heap.size) (.loop rc E):=fun G1 W rc h1 h2 h3 =>
  .loop _ _ _ (by rw[heap_alloc,if_pos rfl]) fun i=>by rw[h3,h1,h2];exact(hE _ _ _ _ (hr.bh i)).mono (Mem.Le.refl _) (BLe.append _ _)
 obtain⟨ds,ds2,hds,hnd,hD⟩:=hr.defers;cases hR:G.R with
 | none =>
   have h1:=hr.st.J3 (.deferred (some []));refine⟨_,_,_,{ state:=.ready,pending:=none,fn,tmps:=a.tmps,params:=ps,assign,body,defers:=w.heap.size },(w.heap.size,.deferred (some []))::G.D,run_enterLoop_outer fn a.tmps ps assign body,⟨rfl,rfl,rfl,rfl,rfl,rfl⟩,fun x hx=>zB9 _ hx,⟨w.heap.size::ds,ds2,by rw[hds];rfl,List.nodup_cons.2 ⟨fun hm=>?_,hnd⟩,fun b hb=>?_⟩,?_⟩
   · have:=hr.st.kO (hD _ hm);simp at this
   · rcases zAo.1 hb with rfl|hb
     · exact zB8 ..
     · exact zB9 _ (hD b hb)
   · have:=h1.alloc (o:=.loop { state:=.ready,pending:=none,fn,tmps:=a.tmps,params:=ps,assign,body,defers:=w.heap.size }) (g:=.blk (w.alloc (.deferred (some []))).heap.size) rfl (obj _ _ _ rfl rfl rfl);rw[World.size_alloc] at this;rw[hR] at this;exact this
 | some l0 =>
   obtain⟨r0,hr0⟩:=hr.st.dfr.2 l0 hR;have hl0:=(hr.st.dfr.1 _ hr0).1;refine⟨_,_,_,{ state:=.ready,pending:=none,fn,tmps:=a.tmps,params:=ps,assign,body,defers:=r0.defers },G.D,run_enterLoop_inner hl0 fn a.tmps ps assign body,⟨rfl,rfl,rfl,rfl,rfl,rfl⟩,fun x hx=>hx,⟨ds,ds2,by rw[hds];rfl,hnd,hD⟩,?_⟩;have:=hr.st.alloc (o:=.loop { state:=.ready,pending:=none,fn,tmps:=a.tmps,params:=ps,assign,body,defers:=r0.defers }) (g:=.blk w.heap.size) rfl (obj _ _ _ rfl rfl rfl);rw[←hR];exact this
theorem aC.reD {G:Gh} {σ:ae} {w:World} (h:aC G σ w) {b:Nat} {ob:Obj} (hb:(b,ob)∈G.D) (r':Loop):aC { G with D:=(b,.loop r')::G.D.filter (fun p=>p.1 != b),R:=some b } σ (w.putObj b (.loop r')):=by
 have hu:=h.qw (D':=G.D.filter fun p=>p.1 != b) hb (.loop r') fun p hp=>by simpa using hp
 obtain⟨_,k2,k3,k4⟩:=h.dfr.1 _ hb;refine⟨hu.ay,hu.m0,hu.base,hu.len,hu.bB,hu.fresh,hu.inj,hu.out,⟨fun p hp=>?_,fun l0 hl=>⟨r',by simp at hl;subst hl;simp⟩⟩⟩;rcases zAo.1 hp with rfl|hp
 · exact⟨World.putObj_heap_same (h.kO hb),k2,k3,k4⟩
 · exact hu.dfr.1 p hp
theorem dt {m m':Nat} (h:m≤m'):∀(k:Nat) (v:AV),aO m k v=true→aO m' k v=true
 |0,_,hv=>by simp[aO] at hv
 | k + 1, v, hv => by
   have lst:∀cs:List AV,cs.all (aO m k)=true→cs.all (aO m' k)=true:=fun cs hc=>zA4.2 fun x hx=>dt h k x (zA4.1 hc x hx)
   cases v with
   |sl sz es t=>cases t<;>simp[aO] at hv ⊢<;>omega
   |ptr|map|sla|cm|yld=>simp[aO] at hv ⊢;omega
   |agg cs=>exact lst cs hv
   |tup cs=>exact lst cs hv
   |fn f a c=>simp only[aO,zA0] at hv ⊢;exact⟨lst _ hv.1,lst _ hv.2⟩
   |when g v=>exact dt h k v hv
   |opq v=>exact dt h k v hv
   |_=>rfl
theorem od {m m':Nat} (h:m≤m') {o:bc} (ho:aD m o=true):aD m' o=true:=by
 cases o with
 |var cs=>exact zA4.2 fun x hx=>dt h 3 x (zA4.1 ho x hx)
 |map kvs=>exact zA4.2 fun x hx=>dt h 3 x.2 (zA4.1 (show kvs.all (fun kv=>aO m 3 kv.2)=true from ho) x hx)
 |mapp c bs kvs=>exact zA4.2 fun x hx=>dt h 3 x.2 (zA4.1 (show kvs.all (fun kv=>aO m 3 kv.2)=true from ho) x hx)
 |miter l s e c=>exact decide_eq_true (zC3 (of_decide_eq_true ho) h)
 |arr sz ver es=>exact zA4.2 fun e he=>zA4.2 fun x hx=>dt h 3 x (zA4.1 (zA4.1 (show es.all (fun e=>e.all (aO m 3))=true from ho) e he) x hx)
 |loop r E=>exact zA4.2 fun x hx=>dt h 4 x.2 (zA4.1 (show E.all (fun p=>aO m 4 p.2)=true from ho) x hx)
 |_=>rfl
theorem fL {m m':Nat} (h:m≤m') {s:ae} (ho:s.all (aD m)=true):s.all (aD m')=true:=zA4.2 fun x hx=>od h (zA4.1 ho x hx)
theorem Bd {P:Program} {ro:Option Nat} {n:Nat} {f:FuncId} {args:Array Value} {w:World} {R:Ending→World→Prop} (h:Calls P f args w R):CallsIn (FR ro) n P f args w R:=(callsIn_wide (n:=n)).2 h
end Go.Ab
/- Regions that draw their order and end in effects that come last; calls without effects through function values. -/
namespace Go.Ab
section
variable {P:Program} {n:Nat} {ops:Array Oper} {md:Region.Mode} {σ:ae}
def lg (md:Region.Mode) (ops:Array Oper) (m:Nat):Bool :=
 (List.range ops.size).all fun j=>decide (j<m)||match ops[j]? with
  |some o=>((List.range j).all fun i=>o.after.any fun e=>Region.binds md e&&e.on==i)&&o.after.all fun e=>!Region.binds md e||decide (e.on<j)
  |none=>true
theorem oe {m:Nat} (h:lg md ops m=true) {j:Nat} (hj:m≤j) {o:Oper} (ho:ops[j]? = some o) :
 (∀i,i<j→∃e∈o.after,Region.binds md e=true∧e.on=i)∧∀e∈o.after,Region.binds md e=true→e.on<j:=by
 have hlt:=(zBd.1 ho).1;have h1:=zA4.1 h j (zAs.2 hlt);have:decide (j<m)=false:=by simp;omega
 simp only[this,zCx,ho,zA0,zA4,zAs,zDk,Array.all_eq_true',beq_iff_eq,zC5,zB3,dEt] at h1;refine⟨fun i hi=>?_,fun e he hb=>?_⟩
 · obtain⟨e,he,h2,h3⟩:=h1.1 i hi;exact⟨e,he,h2,h3⟩
 · rcases h1.2 e he with h2|h2
   · rw[hb] at h2;cases h2
   · exact h2
def sO (P:Program) (md:Region.Mode) (ops:Array Oper) (σ:ae) (K:Env→Prop):Nat→Array Bool→Env→Prop
 |0,_,e=>K e
 |fuel+1,listed,e=>Region.ready md ops listed≠[]∧∀i∈Region.ready md ops listed,aq P ops σ i (sO P md ops σ K fuel (listed.setIfInBounds i true)) e
def uj (md:Region.Mode) (ops:Array Oper):Nat→Nat→Array Bool→Bool
 |0,_,_=>true
 |fuel+1,k,listed=>(Region.ready md ops listed).contains k&&Region.free md ops listed k&&uj md ops fuel (k+1) (listed.setIfInBounds k true)
def unl (listed:Array Bool) (m:Nat):Nat:=(List.range m).countP fun i=>listed.getD i true==false
theorem qx {listed:Array Bool} {m i:Nat} (hi:i<m) (hu:listed.getD i true=false):unl (listed.setIfInBounds i true) m+1=unl listed m:=by
 unfold unl;have hlt:i<listed.size:=by
  rcases zAa i listed.size with h|h
  · exact h
  · simp[zAj h] at hu
 induction m with
 |zero=>omega
 | succ m ih =>
   rw[List.range_succ,List.countP_append,List.countP_append];by_cases h:i<m
   · have:=ih h;rw[zDo,zDo,getD_set_ne true (by omega:i≠m)];omega
   · have him:i=m:=oM;subst him;have h1:(List.range i).countP (fun j=>(listed.setIfInBounds i true).getD j true==false)=(List.range i).countP (fun j=>listed.getD j true==false):=by
      refine List.countP_congr fun j hj=>?_
      have:=zAs.1 hj;rw[getD_set_ne true (by omega:i≠j)]
     rw[h1,zDo,zDo,hu];simp[hlt]
theorem xi {listed:Array Bool} {m:Nat} (h:unl listed m=0) {i:Nat} (hi:i<m):listed.getD i true=true:=by
 unfold unl at h;rw[List.countP_eq_zero] at h;have:=h i (zAs.2 hi);simpa using this
theorem Iw {listed:Array Bool} {m i j:Nat} (h:unl listed m=1) (hi:i<m) (hj:j<m) (hui:listed.getD i true=false) (huj:listed.getD j true=false):j=i:=by
 by_cases e:j=i
 · exact e
 · exfalso;have h1:=qx hi hui;have h2:=xi (listed:=listed.setIfInBounds i true) (m:=m) oM hj;rw[getD_set_ne true (Ne.symm e),huj] at h2;cases h2
theorem Ix {listed:Array Bool} {m k:Nat} (h:unl listed m=k+1):∃i,i<m∧listed.getD i true=false:=by
 have:0<unl listed m:=oM;unfold unl at this;rw[List.countP_pos_iff] at this;obtain⟨i,hi,h2⟩:=this;exact⟨i,zAs.1 hi,by simpa using h2⟩
theorem rL {m:Nat} (hL:lg md ops m=true) {listed:Array Bool} {i0:Nat} (hi0:i0<m) (hun:listed.getD i0 true=false) {j:Nat} (hj:j∈Region.ready md ops listed):j<m:=by
 rcases zAa j m with h|h
 · exact h
 · exfalso;obtain⟨_,o,ho,au⟩:=mem_ready.1 hj;obtain⟨e,he,hb,rfl⟩:=(oe hL h ho).1 i0 oM;have:=au e he hb;rcases zAa e.on listed.size with h'|h'
   · simp[h'] at this hun;rw[this] at hun;cases hun
   · simp[zAj h'] at this
theorem zk {K:Env→Prop} {m i:Nat} {oi:Oper} {v:AV} (hL:lg md ops m=true) (him:i<m) (hi:ops[i]? = some oi) :
 ∀(fuel:Nat) (listed:Array Bool) (env:Env),
  (∀j oj,ops[j]? = some oj→j≠i→listed.getD j true=false→(∀e∈oj.after,Region.binds md e=true→e.on≠i)→oi.apart ops oj=true) →
  i∈Region.ready md ops listed→PStep P ops oi env σ v→unl listed m=fuel+1 →
  sO P md ops σ K fuel (listed.setIfInBounds i true) (env.br oi.dst v)→sO P md ops σ K (fuel+1) listed env:=by
 have take:∀{env:Env} {K:Env→Prop},PStep P ops oi env σ v→K (env.br oi.dst v)→aq P ops σ i K env:=fun hy h=>by
  unfold aq;simp only[hi];exact⟨v,hy,h⟩
 intro fuel;induction fuel with
 | zero =>
   intro listed env _ hr hy hz H;refine⟨fun h=>(by rw[h] at hr;cases hr),fun j hj=>?_⟩;have hui:=(mem_ready.1 hr).1;have:j=i:=Iw hz him (rL hL him hui hj) hui (mem_ready.1 hj).1;subst this;exact take hy H
 | succ fuel ih =>
   intro listed env hfree hr hy hz H;refine⟨fun h=>(by rw[h] at hr;cases hr),fun j hj=>?_⟩;by_cases hji:j=i
   · subst hji;exact take hy H
   · have h1:=H.2 j (ready_mono hj hji);obtain⟨ub,oj,hoj,au⟩:=mem_ready.1 hj;have jA:∀e∈oj.after,Region.binds md e=true→e.on≠i:=fun e he hb heq=>by
      have h1:=au e he hb;have h0:=(mem_ready.1 hr).1;rw[heq] at h1;rcases zAa i listed.size with h'|h'
      · simp[h'] at h0 h1;rw[h0] at h1;cases h1
      · simp[zAj h'] at h1
     have h2:=C9 hoj (hfree j oj hoj hji ub jA) hy h1
     have jB:∀k ok,ops[k]? = some ok→k≠i→(listed.setIfInBounds j true).getD k true=false →
      (∀e∈ok.after,Region.binds md e=true→e.on≠i)→oi.apart ops ok=true:=fun k ok hk hki hun hno=>by
      refine hfree k ok hk hki ?_ hno;by_cases hjk:j=k
      · subst hjk;exact ub
      · rw[getD_set_ne true hjk] at hun;exact hun
     have hjm:=rL hL him (mem_ready.1 hr).1 hj;refine Ai (fun e' h3=>ih (listed.setIfInBounds j true) e' jB (ready_mono hr (Ne.symm hji)) h3.1 (by have:=qx hjm ub;omega) ?_) h2;rw[zCp _ _ hji];exact h3.2
theorem uZ {m:Nat} (hL:lg md ops m=true) {K:Env→Prop}:∀(l:List Oper) (k:Nat) (listed:Array Bool) (env:Env),(∀j,j<l.length→l[j]? = ops[k+j]?)→k+l.length=m→unl listed m=l.length →
 uj md ops l.length k listed=true→AQ P ops σ K l env→sO P md ops σ K l.length listed env
 |[],_,_,_,_,_,_,_,h=>h
 | o :: l, k, listed, env, hl, hk, hu, hB, h => by
   have h0:ops[k]? = some o:=by simpa using(hl 0 sMp).symm
   simp only[zAd,uj,zA0] at hB;obtain⟨⟨hr,hf⟩,hB'⟩:=hB;obtain⟨v,hy,V⟩:=h;have hr':k∈Region.ready md ops listed:=by simpa using hr
   have hkm:k<m:=by simp at hk;omega
   exact zk hL hkm h0 l.length listed env (Region.free_spec h0 hf) hr' hy hu
    (uZ hL l (k+1) _ _ (fun j hj=>by have:=hl (j+1) (by simp;omega);simpa[zC4,zD0 1 j] using this) (by simp at hk;omega) (by have:=qx hkm (mem_ready.1 hr').1;simp at hu;omega) hB' V)
theorem Be {n:Nat} (ro:Option Nat) {m:Nat} (hL:lg md ops m=true) {K:Env→ae→Prop} {Q:Exit→Act→World→Prop}:∀(l:List Oper) (k:Nat) (listed:Array Bool) (env:Env) (σ:ae),(∀j,l[j]? = ops[k+j]?)→m≤k→listed.size=ops.size →
 (∀i,i<ops.size→listed.getD i true=decide (i<k))→AOps P n ops K l env σ→∀G a w,bf n G env σ a w →
 (∀aw σ' G' a' w',K aw σ'→G.Le G'→bf n G' aw σ' a' w'→Q .normal a' w')→wpAnyIn (FR ro) 0 P md ops Q l.length listed a w:=by
 have rdy:∀(k:Nat) (listed:Array Bool),m≤k→(∀i,i<ops.size→listed.getD i true=decide (i<k))→∀i∈Region.ready md ops listed,i=k∧k<ops.size:=fun k listed hk hli i hi=>by
  obtain⟨hun,o,ho,au⟩:=mem_ready.1 hi;have hlt:=(zBd.1 ho).1;rw[hli i hlt] at hun;have h1:k≤i:=by simpa using hun
  rcases zAa k i with h2|h2
  · exfalso;obtain⟨e,he,hb,rfl⟩:=(oe hL oM ho).1 k h2;have h3:=au e he hb;have h4:=hli e.on oM;simp at h4;rcases zAa e.on listed.size with h'|h'
    · simp[h'] at h3 h4;rw[h3] at h4;cases h4
    · simp[zAj h'] at h3
  · exact⟨oM,oM⟩
 intro l;induction l with
 | nil =>
   intro k listed env σ hl hk hsz hli h G a w hr hQ;refine⟨?_,hQ env σ G a w h (Gh.Le.refl G) hr⟩;refine List.eq_nil_iff_forall_not_mem.2 fun i hi=>?_
   obtain⟨rfl,h2⟩:=rdy k listed hk hli i hi;have:=hl 0;simp[h2] at this
 | cons o rest ih =>
   intro k listed env σ hl hk hsz hli h G a w hr hQ;have h0:ops[k]? = some o:=by simpa using(hl 0).symm
   have hlt:=(zBd.1 h0).1;refine⟨fun h0'=>?_,fun i hi=>?_⟩
   · exfalso;have:k∈Region.ready md ops listed:=by
      refine mem_ready.2 ⟨by rw[hli k hlt];simp,o,h0,fun e he hb=>?_⟩;have h2:=(oe hL hk h0).2 e he hb;have h3:=hli e.on oM;have cr:e.on<listed.size:=oM;simp[cr] at h3 ⊢;rw[h3];simp;exact h2
     rw[h0'] at this;cases this
   · obtain⟨rfl,_⟩:=rdy k listed hk hli i hi;unfold wpOpIn;simp only[h0];have hli':∀j,j<ops.size→(listed.setIfInBounds i true).getD j true=decide (j<i+1):=fun j hj=>by
      by_cases e:i=j
      · subst e;have:i<listed.size:=oM;simp[this]
      · rw[getD_set_ne true e,hli j hj];simp;omega
     have next:=fun env σ h G a w hr hQ=>ih (i+1) (listed.setIfInBounds i true) env σ (fun j=>by have:=hl (j+1);simpa[zC4,zD0 1 j] using this) oM (by simpa using hsz) hli' h G a w hr hQ
     have:=h G a w hr;split
     · rename_i hw;rw[if_pos hw] at this;exact this.pj fun a' w' ⟨e,s,G',h1,h2,h3⟩=>next e s h1 G' a' w' h3 fun e' s' G'' a'' w'' k1 k2 k3=>hQ e' s' G'' a'' w'' k1 (h2.trans k2) k3
     · rename_i hw;rw[if_neg hw] at this;obtain⟨e,s,h1,h3⟩:=this;exact⟨fun _ _=>trivial,next e s h1 G _ w h3 hQ⟩
theorem iD {n:Nat} {m:Nat} (hmn:m≤ops.size) (hL:lg md ops m=true) {K:Env→Prop} (ro:Option Nat) (hd:eF n ops=true) (r:Nat) {Q:Exit→Act→World→Prop}:∀(fuel:Nat) (listed:Array Bool) (env:Env),unl listed m=fuel→listed.size=ops.size →
 (∀j,m≤j→j<ops.size→listed.getD j true=false)→sO P md ops σ K fuel listed env→∀G a w,bf n G env σ a w →
 (∀(nu:Array Bool) G' aw a' w',nu.size=ops.size→(∀i,i<ops.size→nu.getD i true=decide (i<m))→G.Le G'→K aw→bf n G' aw σ a' w'→wpAnyIn (FR ro) 0 P md ops Q r nu a' w')→wpAnyIn (FR ro) 0 P md ops Q (fuel+r) listed a w
 | 0, listed, env, hu, hsz, hj, h, G, a, w, hr, hQ => by
   rw[zBv];refine hQ listed G env a w hsz (fun i hi=>?_) (Gh.Le.refl G) h hr;rcases zAa i m with h1|h1
   · rw[xi hu h1];simp[h1]
   · rw[hj i h1 hi];simp;omega
 | fuel + 1, listed, env, hu, hsz, hj, h, G, a, w, hr, hQ => by
   rw[show fuel+1+r=(fuel+r)+1 by omega];refine⟨fun h0=>absurd h0 h.1,fun i hi=>?_⟩;have hq:=h.2 i hi;obtain⟨i0,hi0,hun0⟩:=Ix hu;have him:=rL hL hi0 hun0 hi;have hun:=(mem_ready.1 hi).1;have hu':unl (listed.setIfInBounds i true) m=fuel:=by have:=qx him hun;omega
   have hj':∀j,m≤j→j<ops.size→(listed.setIfInBounds i true).getD j true=false:=fun j h1 h2=>by
    rw[getD_set_ne true oM];exact hj j h1 h2
   unfold aq at hq;unfold wpOpIn;split
   · rename_i ho;simp only[ho] at hq;exact iD hmn hL ro hd r fuel _ env hu' (by simpa using hsz) hj' hq G a w hr hQ
   · rename_i o ho;simp only[ho] at hq;obtain⟨v,hp,V⟩:=hq;have hdo:∀x,o.dst=some x→x<n:=cu (by
      have:=zA4.1 hd o (by
       obtain⟨hlt,he⟩:=zBd.1 ho;rw[←he];simp)
      exact this)
     have:=hp G a w hr.st (fun x _=>hr.bh x);split
     · rename_i hw;rw[if_pos hw] at this;refine this.pj ?_;rintro a' w' ⟨x,G',rfl,h1,h2,h3⟩;have hr':bf n G' env σ a w':=hr.later h2 h3;exact iD hmn hL ro hd r fuel _ _ hu' (by simpa using hsz) hj' V G' _ w' (hr'.br hdo h1) fun l' G'' e' a'' w'' k1 k2 hg hk hr=>hQ l' G'' e' a'' w'' k1 k2 (h2.trans hg) hk hr
     · rename_i hw;rw[if_neg hw] at this;exact⟨fun _ _=>trivial,iD hmn hL ro hd r fuel _ _ hu' (by simpa using hsz) hj' V G _ w (hr.br hdo this) hQ⟩
theorem xj (N m:Nat) (h:m≤N):unl (Array.replicate N false) m=m:=by
 unfold unl;rw[List.countP_eq_length.2,List.length_range];intro i hi;have:=zAs.1 hi;have hlt:i<N:=oM;simp[hlt]
theorem AWP.Lh {n:Nat} {id:Nat} {l:List Oper} {K:Exit→Env→ae→Prop} {env:Env} {σ:ae} (m:Nat)
 (hm:P.follows .mixedOrders=true) (hB:(decide (m≤l.length)&&uj .any l.toArray m 0 (Array.replicate l.length false)&&lg .any l.toArray m)=true) (hd:eF n l.toArray=true)
 (h:∀U:Env→ae→Prop,(∀e s,K .normal e s→U e s)→AQ P l.toArray σ (fun e=>AOps P n l.toArray U (l.drop m) e σ) (l.take m) env):AWP P n (.region id l.toArray true) K env σ:=by
 simp only[zA0,dEt] at hB;obtain⟨⟨hml,hX⟩,hL⟩:=hB;intro G a w hr;refine wpIn_region_any hm ?_;have hlen:(l.take m).length=m:=by simp;omega
 have h1:=uZ (md:=.any) hL (l.take m) 0 (Array.replicate l.length false) env (fun j hj=>by simp at hj ⊢;rw[zAw,if_pos oM]) (by simp;omega) (by rw[xj _ _ hml,hlen]) (by rw[hlen];exact hX) (h (K .normal) fun _ _ h=>h);rw[hlen] at h1
 have h2:=iD (md:=.any) (n:=n) (by simpa using hml) hL G.R hd (l.drop m).length (Q:=fun x a' w'=>∃aw σ' G',K x aw σ'∧G.Le G'∧bf n G' aw σ' a' w') m (Array.replicate l.length false) env (xj _ _ hml) sMp (fun j h1 h2=>by simp at h2;simp[h2]) h1 G a
  { w with drawn:=w.drawn+1 } ⟨hr.size,hr.defers,hr.bh,hr.st.drew⟩ ?_
 · have:m+(l.drop m).length=l.toArray.size:=by simp;omega
   rw[this] at h2;simpa using h2
 · intro nu G' aw a' w' k1 k2 hg hk hr';refine Be G.R hL (l.drop m) m nu aw σ (fun j=>by simp) (zAt _) k1 k2 hk G' a' w' hr' ?_;intro e s G'' a'' w'' g1 g2 g3;exact⟨e,s,G'',g1,hg.trans g2,g3⟩
end
section
variable {P:Program} {o:Oper} {env:Env} {σ:ae}
theorem vd {G:Gh} {a:Act} {env:Env}:∀{l:List Operand} {avs:List AV},(∀x∈l,ag G.M G.B (c9 env x) (a.eval x))→rds env l=some avs→eW env l→fS G avs (l.map a.eval).toArray
 |[],avs,_,h,_=>by simp[rds] at h;subst h;exact⟨rfl,fun i c hi=>by simp at hi⟩
 | x :: r, avs, hv, h, hn => by
   have h1:=px h;have h2:=lM hn;simp only[zD3,Option.bind_eq_bind,Option.bind_eq_some_iff,Option.pure_def,Option.some.injEq] at h1;obtain⟨u,hu,us,hus,rfl⟩:=h1;have h3:fS G [u] #[a.eval x]:=⟨rfl,fun i c hi=>by
    cases i with
    |zero=>simp at hi;subst hi;exact(Rd.w hu (h2 x (zB8 ..))) _ _ _ (hv x (zB8 ..))
    |succ i=>simp at hi⟩
   have hr':rds env r=some us:=by
    simp only[rds] at h;split at h
    · rename_i u' us' e1 e2;simp at h;rw[e2,h.2]
    · simp at h
   have h4:=h3.append (vd (fun y hy=>hv y (zB9 _ hy)) hr' hn.2);simpa using h4
theorem PRun.kA {fo:Operand} {args:Array Operand} {Ts:Array TypeId} {fv:AV} {avs:List AV} {r:AV} (h:VCall P fv avs σ (fun rv s=>rv=r∧s=σ))
 (ho:o.op=.call { callee:=.value fo,args:=args,argTypes:=Ts }) (hf:rdv env fo=some fv) (nf:rdn env fo) (hfv:Bb fv=true)
 (ha:rds env args.toList=some avs) (na:eW env args.toList):PRun P o env σ r:=by
 intro G a w hs hv;have hy:=rd (Rd.w hf nf) (by simp[ho,Op.operands,Call.operands]) hv;have gT:=vd (fun x hx=>hv x (by simp[ho,Op.operands,Call.operands];right;simpa using hx)) ha na;generalize hA:a.eval fo=y at hy;obtain⟨fn,vf,vc,rfl⟩:=xg hfv hy;have h1:=h G w fn vf vc _ hs hy gT;have e:(execOp a.eval o).run P w=(invoke (.fn fn vc) (vf++(args.toList.map a.eval).toArray)).run P w:=by
  have e2:(args.toList.map a.eval).toArray=args.map a.eval:=by cases args;simp
  rw[e2];simp only[execOp,ho,resolve,hA,Deferred.ofValue,Sem.run_bind,Sem.run_pure,Result.andThen_ok]
 unfold OWP;rw[e];generalize (invoke (.fn fn vc) (vf++(args.toList.map a.eval).toArray)).run P w=r' at h1;cases r' with
 | ok nx w' =>
   cases nx<;>simp only[jI] at h1<;>simp only[fb] <;>
    first
     |exact h1.elim
     |exact Calls.mono h1 (fun e w'' he=>by cases e<;>first|(obtain⟨rv,s,G',⟨rfl,rfl⟩,k2,k3,k4⟩:=he;exact⟨_,G',rfl,k4,k2,k3⟩)|exact he.elim)
     |exact fun ro=>RoundIn.mono (h1 ro) (fun e w'' he=>by cases e<;>first|(obtain⟨rv,s,G',⟨rfl,rfl⟩,k2,k3,k4⟩:=he;exact⟨_,G',rfl,k4,k2,k3⟩)|exact he.elim)
 |halt x w'=>cases x<;>simp only[jI] at h1
end
end Go.Ab
/- The drawn regions, told apart by what they hold. -/
namespace Go.Ab
def i6 (o:Oper):Bool:=match o.op with
 |.store _ _ _|.alloc _|.box _ _|.mapUpdate _ _ _ _|.makeMap _ _|.makeSlice _ _ _|.range _ _|.next _ _|.insert _ _ _ _|.entryStore _ _ _ _=>true
 |.call { callee:=.builtin .append,args:=_,argTypes:=_ }=>true
 |_=>false
def eY:List Oper→Nat
 |[]=>0
 |o::r=>if i6 o then 0 else eY r+1
theorem AWP.Dm {P:Program} {n:Nat} {id:Nat} {l:List Oper} {K:Exit→Env→ae→Prop} {env:Env} {σ:ae} (_hq:l.all (fun o=>!i6 o)=true)
 (hm:P.follows .mixedOrders=true) (hB:Region.lexB .any l.toArray=true) (hd:eF n l.toArray=true)
 (h:∀U:Env→Prop,(∀e,K .normal e σ→U e)→AQ P l.toArray σ U l env):AWP P n (.region id l.toArray true) K env σ:=AWP.K8 hm hB hd h
theorem AWP.Dn {P:Program} {n:Nat} {id:Nat} {l:List Oper} {K:Exit→Env→ae→Prop} {env:Env} {σ:ae}
 (hm:P.follows .mixedOrders=true) (hB:(decide (eY l≤l.length)&&uj .any l.toArray (eY l) 0 (Array.replicate l.length false)&&lg .any l.toArray (eY l))=true) (hd:eF n l.toArray=true)
 (h:∀U:Env→ae→Prop,(∀e s,K .normal e s→U e s)→AQ P l.toArray σ (fun e=>AOps P n l.toArray U (l.drop (eY l)) e σ) (l.take (eY l)) env):AWP P n (.region id l.toArray true) K env σ:=AWP.Lh _ hm hB hd h
theorem Ent.of {u v:AV} (h:u=v):Ent u v:=h▸Ent.bO u
theorem Ent.b {x y:Bool} (h:x=y):Ent (.b x) (.b y):=h▸Ent.bO _
theorem Ent.int {x y:Int} (h:x=y):Ent (.int x) (.int y):=h▸Ent.bO _
theorem Ent.t2 {a b:AV} {x y:AV} (h:a=x) (h':b=y):Ent (.tup [a,b]) (.tup [x,y]):=h▸h'▸Ent.bO _
end Go.Ab
/- An element of an array of integers that does not change. -/
namespace Go.Ab
section
variable {P:Program} {o:Oper} {env:Env} {σ:ae} {T:Tab}
theorem PRun.Dp (ints:List Int) (hT:T.Ok P) {t e:TypeId} {x y:Operand} {m s1 b1:Nat} {z:List Z} {k:IntKind} {i:Int} (ho:o.op=.indexAddr t x y) (hx:rdv env x=some (.iptr (ints.map AV.int))) (nx:rdn env x)
 (hy:rdv env y=some (.prim (.int k i))) (ny:rdn env y) (hl:T.get t=some ⟨.arr m e,s1,b1,z⟩) (he:(T.get e).map (·.size)=some 1) (hm:m=ints.length) (h:0≤i∧i<ints.length) :
 PRun P o env σ (.iptr [.int (ints.getD i.toNat 0)]) :=
 .of fun G A w hs hv=>by
  have hX:=rd (Rd.w hx nx) (by simp[ho,Op.operands]) hv;have hY:=ag.aJ (rd (Rd.w hy ny) (by simp[ho,Op.operands]) hv);generalize hA:A.eval x=v at hX;obtain⟨n,rfl⟩:=zBk h.1;have hn:n<ints.length:=oM;obtain⟨li,hli,hsz⟩:∃li,T.get e=some li∧li.size=1:=by
   cases hq:T.get e with
   |none=>rw[hq] at he;simp at he
   |some li=>rw[hq] at he;simp at he;exact⟨li,rfl,he⟩
  cases hX with
  | iptr _ b off f hm' hr =>
    have h1:=hm' n (by simpa using hn);have h2:=hr n _ (by simp[hn];rfl);refine⟨.pointer (some ⟨b,off+n,none⟩),?_,?_⟩
    · have hle:=LOk.of (hT.get hli);have hla:=LOk.of (hT.get hl);simp only[execOp,ho,hA,hY,Instr.indexAt,asIntOf];have hnm:(n:Int)<m:=by rw[hm];exact h.2
      have hnm2:n<m:=oM;simp[hla.arr w,hle.cg w,hsz,cq,Instr.sureAddr,hnm2]
    · refine .iptr _ b _ (fun j=>f (n+j)) (fun j hj=>?_) fun j c hj=>?_
      · simp at hj;subst hj;simpa using h1
      · cases j with
        |zero=>simp at hj;subst hj;simpa[hn] using h2
        |succ j=>simp at hj
theorem PRun.Dq {x:Operand} {l off:Nat} (ho:o.op=.nilCheck x) (hx:rdv env x=some (.ptr l off)) (nx:rdn env x):PRun P o env σ (.ptr l off) :=
 .of fun G A w hs hv=>by
  have hX:=rd (Rd.w hx nx) (by simp[ho,Op.operands]) hv;generalize hA:A.eval x=v at hX;cases hX with
  |ptr _ _ b hb=>exact⟨_,by simp[execOp,ho,hA,Instr.sureAddr],.ptr l off b hb⟩
end
end Go.Ab
/- Regions that draw their order, with a chain of effects, each quiet operation told at the states of the store at which it may come. -/
namespace Go.Ab
section
variable {P:Program} {n:Nat} {ops:Array Oper} {md:Region.Mode} {S:Nat→ae} {eff:Oper→Bool} {lo hi aI:Nat→Nat}
inductive YS (P:Program) (n:Nat) (ops:Array Oper) (S:Nat→ae) (eff:Oper→Bool) (lo hi aI:Nat→Nat) (i:Nat) (o:Oper) (env:Env):Nat→AV→Nat→Prop
 |quiet {j:Nat} {v:AV} (hl:lo i≤j) (hh:j≤hi i) (he:eff o=false) (h:∀k,lo i≤k→k≤hi i→PStep P ops o env (S k) v):YS P n ops S eff lo hi aI i o env j v j
 |eff {j:Nat} {v:AV} (hr:aI i=j+1) (he:eff o=true) (h:∀aw,(∀x∈o.looksAt ops,aw x=env x)→EStep P n ops o (fun e s=>e=aw.br o.dst v∧s=S (j+1)) aw (S j)):YS P n ops S eff lo hi aI i o env j v (j+1)
theorem YS.congr {i:Nat} {o:Oper} {env aw:Env} {j j':Nat} {v:AV} (h:YS P n ops S eff lo hi aI i o env j v j') (he:∀x∈o.looksAt ops,aw x=env x):YS P n ops S eff lo hi aI i o aw j v j':=by
 cases h with
 |quiet hl hh hf h=>exact .quiet hl hh hf fun k h1 h2=>(h k h1 h2).congr he
 |eff hj hf h=>exact .eff hj hf fun e2 h2=>h e2 fun x hx=>(h2 x hx).trans (he x hx)
def yq (P:Program) (n:Nat) (ops:Array Oper) (S:Nat→ae) (eff:Oper→Bool) (lo hi aI:Nat→Nat) (i:Nat) (K:Env→Nat→Prop) (env:Env) (j:Nat):Prop :=
 match ops[i]? with
 |none=>K env j
 |some o=>∃v j',YS P n ops S eff lo hi aI i o env j v j'∧K (env.br o.dst v) j'
theorem Ap {i:Nat} {env:Env} {j:Nat} {K U:Env→Nat→Prop} (h:∀e j,K e j→U e j) (hh:yq P n ops S eff lo hi aI i K env j):yq P n ops S eff lo hi aI i U env j:=by
 unfold yq at *;split
 · exact h _ _ (by simpa[*] using hh)
 · rename_i o ho;simp only[ho] at hh;obtain⟨v,j',h1,h2⟩:=hh;exact⟨v,j',h1,h _ _ h2⟩
def pC (P:Program) (n:Nat) (md:Region.Mode) (ops:Array Oper) (S:Nat→ae) (eff:Oper→Bool) (lo hi aI:Nat→Nat) (K:Env→Nat→Prop):Nat→Array Bool→Env→Nat→Prop
 |0,listed,e,j=>Region.ready md ops listed=[]∧K e j
 | fuel + 1, listed, e, j =>
   (Region.ready md ops listed=[]→K e j)∧∀i∈Region.ready md ops listed,yq P n ops S eff lo hi aI i (pC P n md ops S eff lo hi aI K fuel (listed.setIfInBounds i true)) e j
def jJ (eff:Oper→Bool) (lo hi aI:Nat→Nat) (i k:Nat) (oi ok:Oper):Prop :=
 (eff oi&&eff ok)=false∧(eff oi=false→eff ok=true→aI k≤hi i)∧(eff oi=true→eff ok=false→lo k<aI i)
theorem Dr {i i0:Nat} {oi oj:Oper} {v:AV} {j j1:Nat} (hj:ops[i0]? = some oj) (hap:oi.apart ops oj=true) (hef:jJ eff lo hi aI i i0 oi oj) {K:Env→Nat→Prop} {env:Env}
 (hy:YS P n ops S eff lo hi aI i oi env j v j1) (h:yq P n ops S eff lo hi aI i0 K (env.br oi.dst v) j1) :
 yq P n ops S eff lo hi aI i0 (fun e j'=>∃j2,YS P n ops S eff lo hi aI i oi e j' v j2∧K (e.br oi.dst v) j2) env j:=by
 obtain⟨h1,h2,h3⟩:=Oper.apart_spec hap;obtain⟨e1,e2,e3⟩:=hef;unfold yq at *;simp only[hj] at *;obtain⟨u,j2,hu,V⟩:=h;have hu':=hu.congr (aw:=env) fun x hx=>(Env.iA _ fun i hi e=>h1 i hi (e▸hx)).symm
 have hy':=hy.congr (aw:=env.br oj.dst u) fun x hx=>Env.iA _ fun i hi e=>h3 i hi (e▸hx)
 rw[Env.pk env v u h2] at V;cases hu' with
 | quiet g0 g1 g2 g3 =>
   cases hy' with
   |quiet k0 k1 k2 k3=>exact⟨u,_,.quiet g0 g1 g2 g3,_,.quiet k0 k1 k2 k3,V⟩
   |eff k1 k2 k3=>exact⟨u,_,.quiet (by have:=e3 k2 g2;omega) oM g2 g3,_,.eff k1 k2 k3,V⟩
 | eff g1 g2 g3 =>
   cases hy' with
   |quiet k0 k1 k2 k3=>exact⟨u,_,.eff g1 g2 g3,_,.quiet oM (by have:=e2 k2 g2;omega) k2 k3,V⟩
   |eff k1 k2 k3=>rw[k2,g2] at e1;cases e1
theorem Bf {K:Env→Nat→Prop} {i:Nat} {oi:Oper} {v:AV} (hio:ops[i]? = some oi) :
 ∀(fuel:Nat) (listed:Array Bool) (env:Env) (j j1:Nat),
  (∀k ok,ops[k]? = some ok→k≠i→listed.getD k true=false→(∀e∈ok.after,Region.binds md e=true→e.on≠i)→oi.apart ops ok=true∧jJ eff lo hi aI i k oi ok) →
  i∈Region.ready md ops listed→YS P n ops S eff lo hi aI i oi env j v j1 →
  pC P n md ops S eff lo hi aI K fuel (listed.setIfInBounds i true) (env.br oi.dst v) j1→pC P n md ops S eff lo hi aI K (fuel+1) listed env j:=by
 have take:∀{env:Env} {j j1:Nat} {K:Env→Nat→Prop},YS P n ops S eff lo hi aI i oi env j v j1→K (env.br oi.dst v) j1→yq P n ops S eff lo hi aI i K env j:=fun hy h=>by
  unfold yq;simp only[hio];exact⟨v,_,hy,h⟩
 intro fuel;induction fuel with
 | zero =>
   intro listed env j j1 _ hr hy H;refine⟨fun h=>(by rw[h] at hr;cases hr),fun k hk=>?_⟩;by_cases hki:k=i
   · subst hki;exact take hy H
   · have:=ready_mono hk hki;rw[H.1] at this;cases this
 | succ fuel ih =>
   intro listed env j j1 hfree hr hy H;refine⟨fun h=>(by rw[h] at hr;cases hr),fun k hk=>?_⟩;by_cases hki:k=i
   · subst hki;exact take hy H
   · have h1:=H.2 k (ready_mono hk hki);obtain⟨pD,ok,hok,au⟩:=mem_ready.1 hk;have jA:∀e∈ok.after,Region.binds md e=true→e.on≠i:=fun e he hb heq=>by
      have h1:=au e he hb;have h0:=(mem_ready.1 hr).1;rw[heq] at h1;rcases zAa i listed.size with h'|h'
      · simp[h'] at h0 h1;rw[h0] at h1;cases h1
      · simp[zAj h'] at h1
     obtain⟨f1,f2⟩:=hfree k ok hok hki pD jA;have h2:=Dr hok f1 f2 hy h1
     have jB:∀l ol,ops[l]? = some ol→l≠i→(listed.setIfInBounds k true).getD l true=false →
      (∀e∈ol.after,Region.binds md e=true→e.on≠i)→oi.apart ops ol=true∧jJ eff lo hi aI i l oi ol:=fun l ol hl hli hun hno=>by
      refine hfree l ol hl hli ?_ hno;by_cases hkl:k=l
      · subst hkl;exact pD
      · rw[getD_set_ne true hkl] at hun;exact hun
     refine Ap (fun e' j' h3=>?_) h2;obtain⟨j2,h4,h5⟩:=h3;refine ih (listed.setIfInBounds k true) e' j' j2 jB (ready_mono hr (Ne.symm hki)) h4 ?_;rw[zCp _ _ hki];exact h5
def YQ (P:Program) (n:Nat) (ops:Array Oper) (S:Nat→ae) (eff:Oper→Bool) (lo hi aI:Nat→Nat) (K:Env→Nat→Prop):List Oper→Nat→Env→Nat→Prop
 |[],_,e,j=>K e j
 |o::rest,i,e,j=>∃v j',YS P n ops S eff lo hi aI i o e j v j'∧YQ P n ops S eff lo hi aI K rest (i+1) (e.br o.dst v) j'
def gU (md:Region.Mode) (o:Oper) (i:Nat):Bool:=o.after.any fun e=>Region.binds md e&&e.on==i
def HH (md:Region.Mode) (ops:Array Oper) (eff:Oper→Bool) (lo hi aI:Nat→Nat) (listed:Array Bool) (i:Nat):Bool:=(List.range ops.size).all fun k=>i==k||listed.getD k true||match ops[i]?,ops[k]? with
 |some o,some o'=>gU md o' i||!(o.apart ops o')||(!(eff o&&eff o')&&(eff o||!eff o'||decide (aI k≤hi i))&&(!eff o||eff o'||decide (lo k<aI i)))
 |_,_=>true
def xk (md:Region.Mode) (ops:Array Oper) (eff:Oper→Bool) (lo hi aI:Nat→Nat):Nat→Nat→Array Bool→Bool
 |0,_,_=>true
 |f+1,i,listed=>HH md ops eff lo hi aI listed i&&xk md ops eff lo hi aI f (i+1) (listed.setIfInBounds i true)
theorem Bg {listed:Array Bool} {i k:Nat} (h:HH md ops eff lo hi aI listed i=true) {o o':Oper} (hne:k≠i) (h1:ops[i]? = some o) (h2:ops[k]? = some o') (hun:listed.getD k true=false) (hno:∀e∈o'.after,Region.binds md e=true→e.on≠i) (hap:o.apart ops o'=true):jJ eff lo hi aI i k o o':=by
 have m2:=(zBd.1 h2).1;have h3:=zA4.1 h k (zAs.2 m2);have e:(i==k)=false:=by simp;exact fun e=>hne e.symm
 have e2:gU md o' i=false:=by
  cases hb:gU md o' i with
  |false=>rfl
  | true =>
    unfold gU at hb;obtain⟨x,hx,hy⟩:=zDk.1 hb;simp only[zA0,beq_iff_eq] at hy;exact absurd hy.2 (hno x hx hy.1)
 simp only[e,zCx,h1,h2,e2,hap,zDu,hun] at h3;unfold jJ;cases ho:eff o<;>cases ho':eff o'<;>simp_all
theorem rM {K:Env→Nat→Prop}:∀(l:List Oper) (k:Nat) (listed:Array Bool) (env:Env) (j:Nat),(∀i,l[i]? = ops[k+i]?) →
 xk md ops eff lo hi aI l.length k listed=true→Region.lexFrom md ops l.length k listed=true→YQ P n ops S eff lo hi aI K l k env j→pC P n md ops S eff lo hi aI K l.length listed env j
 |[],_,_,_,_,_,_,hB,h=>⟨by simpa[Region.lexFrom] using hB,h⟩
 | o :: l, k, listed, env, j, hl, hE, hB, h => by
   simp only[zAd,xk,zA0] at hE;have h0:ops[k]? = some o:=by simpa using(hl 0).symm
   simp only[zAd,Region.lexFrom,zA0] at hB;obtain⟨⟨hr,hf⟩,hB'⟩:=hB;obtain⟨v,j',hy,V⟩:=h
   exact Bf h0 l.length listed env j j' (fun k2 ok h1 h2 h3 h4=>let ap:=Region.free_spec h0 hf k2 ok h1 h2 h3 h4;⟨ap,Bg hE.1 h2 h0 h1 h3 h4 ap⟩) (by simpa using hr) hy
    (rM l (k+1) _ _ j' (fun i=>by have:=hl (i+1);simpa[zC4,zD0 1 i] using this) hE.2 hB' V)
theorem dI {K:Env→Nat→Prop} (ro:Option Nat) (hd:eF n ops=true):∀(fuel:Nat) (listed:Array Bool) (env:Env) (j:Nat),pC P n md ops S eff lo hi aI K fuel listed env j→∀G a w,bf n G env (S j) a w →
 ∀Q:Exit→Act→World→Prop,(∀G' aw j' a' w',G.Le G'→K aw j'→bf n G' aw (S j') a' w'→Q .normal a' w')→wpAnyIn (FR ro) 0 P md ops Q fuel listed a w
 |0,_,env,j,h,G,a,w,hr,Q,hQ=>⟨h.1,hQ G env j a w (Gh.Le.refl G) h.2 hr⟩
 | fuel + 1, listed, env, j, h, G, a, w, hr, Q, hQ => by
   refine⟨fun h0=>hQ G env j a w (Gh.Le.refl G) (h.1 h0) hr,fun i hi=>?_⟩;have hq:=h.2 i hi;unfold yq at hq;unfold wpOpIn;split
   · rename_i ho;simp only[ho] at hq;exact dI ro hd fuel _ env j hq G a w hr Q hQ
   · rename_i o ho;simp only[ho] at hq;obtain⟨v,j',hx,V⟩:=hq;have hdo:∀x,o.dst=some x→x<n:=cu (by
      have:=zA4.1 hd o (by
       obtain⟨hlt,he⟩:=zBd.1 ho;rw[←he];simp)
      exact this)
     cases hx with
     | quiet hl hh hf hp =>
       have:=hp j hl hh G a w hr.st (fun x _=>hr.bh x);split
       · rename_i hw;rw[if_pos hw] at this;refine this.pj ?_;rintro a' w' ⟨x,G',rfl,h1,h2,h3⟩;have hr':bf n G' env (S j) a w':=hr.later h2 h3;exact dI ro hd fuel _ _ j V G' _ w' (hr'.br hdo h1) Q fun G'' e' j'' a'' w'' hg hk hr=>hQ G'' e' j'' a'' w'' (h2.trans hg) hk hr
       · rename_i hw;rw[if_neg hw] at this;exact⟨fun _ _=>trivial,dI ro hd fuel _ _ j V G _ w (hr.br hdo this) Q hQ⟩
     | eff hj hf hp =>
       have:=hp env (fun _ _=>rfl) G a w hr;split
       · rename_i hw;rw[if_pos hw] at this;refine this.pj ?_;rintro a' w' ⟨e',s',G',⟨rfl,rfl⟩,h2,h3⟩;exact dI ro hd fuel _ _ _ V G' a' w' h3 Q fun G'' e' j'' a'' w'' hg hk hr=>hQ G'' e' j'' a'' w'' (h2.trans hg) hk hr
       · rename_i hw;rw[if_neg hw] at this;obtain⟨aw,σ',⟨rfl,rfl⟩,h3⟩:=this;exact⟨fun _ _=>trivial,dI ro hd fuel _ _ _ V G _ w h3 Q hQ⟩
def fy (ops:List Oper) (eff:Oper→Bool) (k:Nat):Nat:=((ops.take k).filter eff).length+1
def pE (ops:List Oper) (eff:Oper→Bool) (i:Nat):Nat:=(ops.zipIdx.filter fun p=>eff p.1&&!gU .any p.1 i).foldl (fun m p=>max m (fy ops eff p.2)) 0
def pF (ops:List Oper) (eff:Oper→Bool) (i:Nat):Nat:=match ops[i]? with
 |some o=>(ops.zipIdx.filter fun p=>eff p.1&&!gU .any o p.2).foldl (fun m p=>min m (fy ops eff p.2 - 1)) ((ops.filter eff).length)
 |none=>0
theorem AWP.dZ {id:Nat} {l:List Oper} {K:Exit→Env→ae→Prop} {env:Env} {σ:ae} (S:Nat→ae) (h0:S 0=σ)
 (hm:P.follows .mixedOrders=true) (hB:Region.lexB .any l.toArray=true) (hd:eF n l.toArray=true) (hE:xk .any l.toArray i6 (pF l i6) (pE l i6) (fy l i6) l.length 0 (Array.replicate l.length false)=true)
 (h:∀U:Env→Nat→Prop,(∀e j,K .normal e (S j)→U e j)→YQ P n l.toArray S i6 (pF l i6) (pE l i6) (fy l i6) U l 0 env 0):AWP P n (.region id l.toArray true) K env σ:=by
 subst h0;intro G a w hr;simp only[Region.lexB,zA0] at hB;refine wpIn_region_any hm ?_;have:=rM (md:=.any) l 0 (Array.replicate l.toArray.size false) env 0 sMp (by simpa using hE) (by simpa using hB.2) (h (fun e j=>K .normal e (S j)) fun _ _ h=>h);refine dI _ hd _ _ env 0 (by simpa using this) G a _ ⟨hr.size,hr.defers,hr.bh,hr.st.drew⟩ _ ?_;intro G' aw j' a' w' hg hk hr';exact⟨aw,S j',G',hk,hg,hr'⟩
theorem YQ.nil {K:Env→Nat→Prop} {env:Env} {i j:Nat} (h:K env j):YQ P n ops S eff lo hi aI K [] i env j:=h
theorem YQ.q {K:Env→Nat→Prop} {env:Env} {i j:Nat} {o:Oper} {rest:List Oper} {v v':AV} {g:GG} {d a b:Nat} (he:eff o=false) (hlo:lo i=a) (hhi:hi i=b) (hj:(decide (a≤j)&&decide (j≤b))=true) (hd:o.dst=some d) (hg:gOf ops env o=some g)
 (h:∀k,a≤k→k≤b→g.holds→PRun P o env (S k) v) (hv:g.wrap v=v') (hk:YQ P n ops S eff lo hi aI K rest (i+1) (env.put d v') j):YQ P n ops S eff lo hi aI K (o::rest) i env j:=by
 subst hv;subst hlo;subst hhi;simp only[zA0,dEt] at hj;refine⟨g.wrap v,j,.quiet hj.1 hj.2 he fun k h1 h2=>PStep.g hg (h k h1 h2),?_⟩;rw[hd];exact hk
theorem YQ.e {K:Env→Nat→Prop} {env:Env} {i j:Nat} {o:Oper} {rest:List Oper} {v:AV} {d:Option Nat} (he:eff o=true) (hr:aI i=j+1) (hd:o.dst=d) (h:∀aw,(∀x∈o.looksAt ops,aw x=env x)→EStep P n ops o (fun e s=>e=aw.br o.dst v∧s=S (j+1)) aw (S j))
 (hk:YQ P n ops S eff lo hi aI K rest (i+1) (env.br d v) (j+1)):YQ P n ops S eff lo hi aI K (o::rest) i env j:=by
 subst hd;exact⟨v,j+1,.eff hr he h,hk⟩
theorem ai {env aw:Env} {t:Nat} (h:aw t=env t):rdv aw (.tmp t)=rdv env (.tmp t):=by simp only[rdv,c9,h]
theorem aj {env aw:Env} {t:Nat} (h:aw t=env t):rdn aw (.tmp t)=rdn env (.tmp t):=by simp only[rdn,c9,h]
end
end Go.Ab
