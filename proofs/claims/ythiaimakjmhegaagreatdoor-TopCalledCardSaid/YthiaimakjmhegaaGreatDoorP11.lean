/- Parts of the proof. No statement is proved here. -/
import Derived.Maps.RangeRun
import Derived.Test.YthiaimakjmhegaaGreatDoorP7
set_option linter.unusedVariables false
set_option linter.unusedSimpArgs false
set_option maxHeartbeats 16000000
set_option maxRecDepth 20000
namespace Go.Ab
def lG (m:Nat) (S':ae) (pn:Prop) (R:Exit→ae→Prop):Exit→Env→ae→Prop
 |.normal,_,s=>s.take m=S'∧pn
 |.ret,_,s=>R .ret (s.take m)
 |.exit id,_,s=>R (.exit id) (s.take m)
 |_,_,_=>False
theorem xI {P:Program} {pn:Prop} {n m:Nat} {rc:Loop} {E:List (Nat×AV)} {x:List AV} {Sj Sj':ae} {R:Exit→ae→Prop} (hrc:rc.state=.ready∧rc.pending=none) (hlen:Sj.length=m) (Lo:Sj'.length=m) (hok':Sj'.all (aD m)=true)
 (oa:E.all (fun p=>aO m 4 p.2)=true) (hok:Sj.all (aD m)=true) (hR:∀x s,R x s→s.length=m∧s.all (aD m)=true) (hsz:rc.tmps.size=n) (hx:x.length=rc.params.size) (hpn:rc.params.toList.all (fun d=>decide (d<n))=true) (hxo:x.all (aO m 4)=true)
 (round:AWP P n rc.assign (fun x e s=>x=.normal∧AWP P n rc.body (lG m Sj' pn R) e s) ((Env.of E).rK (rc.params.toList.zip x)) Sj) :
 VCall P (.opq (.yld m)) x (Sj++[.loop rc E]) (fun r s=>(r=.b true∧s=Sj'++[.loop rc E]∧pn)∨(r=.b false∧∃s0 c,s=s0++[.loop { rc with state:=.done,pending:=some c } E]∧((c=.ret∧R .ret s0)∨∃id,c=.exit id∧R (.exit id) s0))):=by
 subst hlen;intro G w fn' vf vc vs hs hf ha;cases hf with
 |opq _ _ _ _ hf =>
 cases hf with
 |yld _ b hb =>
 obtain⟨b',hb',jH,hv,hs1⟩:=hs.aside hok;rw[hb] at hb';simp at hb';subst hb';have bl:(invoke (.fn (.yield b) #[]) (#[]++vs)).run P w=.ok (.round b rc.fn ((rc.params.zip vs).foldl (fun tmps (t,a)=>tmps.setIfInBounds t a) rc.tmps) rc.assign rc.body) w:=by
  have:(invoke (.fn (.yield b) #[]) (#[]++vs))=Instr.yield b vs:=by simp[invoke]
  rw[this];exact run_yield jH (by rw[ha.1,hx])
 rw[bl];simp only[jI];intro ro;have hGlen:G.B.length=Sj.length+1:=by rw[hs.len];simp
 refine roundIn_of_wpIn (F:=FR ro) trivial ?_
 have hr1:bf n { G with B:=G.B.take Sj.length,D:=(b,.loop rc)::G.D,R:=some b,F:=[] } (Env.of E) Sj { tmps:=rc.tmps,defers:=[] } w :=
  ⟨hsz,la.nil _,fun i=>ag.take 4 _ _ (xc oa i) (hv i),hs1.setF []⟩
 have hr2:=bf.rK rc.params.toList x vs.toList (Env.of E) _ hr1 (by simp[hx]) (by simpa using ha.1) (fun d hd=>by simpa using zA4.1 hpn d hd) fun i c hi=>by
  have:=ag.take (m:=Sj.length) 4 c _ (zA4.1 hxo c (zAc hi)) (ha.2 i c hi);simpa[zA2,List.getD] using this
 have etm:(rc.params.zip vs).foldl (fun tmps (t,a)=>tmps.setIfInBounds t a) rc.tmps=(rc.params.toList.zip vs.toList).foldl (fun t (p,v)=>t.setIfInBounds p v) rc.tmps:=by
  rw[←Array.foldl_toList,Array.toList_zip]
 rw[etm];have h3:=round _ _ w hr2;refine wpIn_mono (F:=(FR ro).inRound b) h3 ?_;rintro xx a1 w1 ⟨e1,s1,G2,⟨rfl,Lp⟩,rT,hr3⟩;have hD2:(b,Obj.loop rc)∈G2.D:=rT.d _ (zB8 ..);have hb2:=(hr3.st.dfr.1 _ hD2).1;refine⟨_,run_beginRound hb2 hrc.1,?_⟩;have hs4:=hr3.st.reD hD2 { rc with state:=.busy };have hr4:bf n { G2 with D:=(b,.loop { rc with state:=.busy })::G2.D.filter (fun p=>p.1 != b),R:=some b } e1 s1 a1 (w1.putObj b (.loop { rc with state:=.busy })):=by
  obtain⟨ds,ds2,hds,hnd,hD⟩:=hr3.defers;refine⟨hr3.size,⟨ds,ds2,hds,hnd,fun b' hb'=>zB9 _ (zD7.2 ⟨hD b' hb',?_⟩)⟩,hr3.bh,hs4⟩;have h5:=(hr3.st.dfr.1 _ (hD b' hb')).1;simp only[bne_iff_ne,ne_eq];intro e;subst e;rw[hb2] at h5;simp at h5
 have h4:=Lp _ a1 _ hr4;refine wpIn_mono (F:=(FR ro).inRound b) h4 ?_;rintro xx a3 w3 ⟨e3,s3,G4,hk,rU,hr5⟩;have hD4:(b,Obj.loop { rc with state:=.busy })∈G4.D:=rU.d _ (zB8 ..);have hb4:=(hr5.st.dfr.1 _ hD4).1;have hne:∀p∈G.D,p.1≠b:=fun p hp e=>(hs.dfr.1 p hp).2.2.1 Sj.length _ hb (by rw[e];rfl)
 have hB:BLe G.B (G4.B.take Sj.length++[.blk b]):=by
  intro l g hl;rcases zAa l Sj.length with hlt|hge
  · obtain⟨g2,k1,k2⟩:=rT.b l g (du hl hlt);obtain⟨g4,k3,k4⟩:=rU.b l g2 k1;refine⟨g4,?_,k2.trans k4⟩;have h6:(G4.B.take Sj.length)[l]? = some g4:=du k3 hlt;have:l<(G4.B.take Sj.length).length:=by
     rcases zAa l (G4.B.take Sj.length).length with h|h
     · exact h
     · simp[zA3 h] at h6
    rw[zA8 this];exact h6
  · have hl2:l=Sj.length:=by
     rcases zAa l G.B.length with h|h
     · omega
     · simp[zA3 h] at hl
    subst hl2;rw[hb] at hl;simp at hl;subst hl;have h4l:Sj.length≤G4.B.length:=by
     rcases zAa G4.B.length Sj.length with h|h
     · obtain⟨g2,k1,_⟩:=rT.b _ _ (du (zA1 (show G4.B.length<G.B.length by omega)) h);obtain⟨g4,k3,_⟩:=rU.b _ _ k1;simp at k3
     · exact h
    have hl4:(G4.B.take Sj.length).length=Sj.length:=by simp;omega
    exact⟨.blk b,by rw[zA7 oM,hl4];simp,GB.Le.refl _⟩
 have hM:G.M.Le G4.M:=rT.m.trans rU.m;have fin:∀(jump:Option Code) (r0:LoopState),(Instr.endRound b jump).run P w3=.ok (.bool jump.isNone) (w3.putObj b (.loop { { rc with state:=LoopState.busy } with state:=if jump.isNone then .ready else .done,pending:=jump })):=fun jump _=>run_endRound jump hb4
 have back:∀(r':Loop),r'.tmps=rc.tmps→(s3.take Sj.length).length=Sj.length→(s3.take Sj.length).all (aD Sj.length)=true →
  ∃G5:Gh,G.Le G5∧aC G5 (s3.take Sj.length++[.loop r' E]) (w3.putObj b (.loop r')):=fun r' htm hl5 hok5=>by
  have h7:=hr5.st.take Sj.length hok5;refine⟨{ G4 with B:=G4.B.take Sj.length++[.blk b],D:=G.D,R:=G.R,F:=G.F },⟨rU.m0.trans rT.m0,rU.w0.trans rT.w0,hM,hB,fun _ h=>h,rfl,rfl⟩,?_⟩;refine aC.setF (G:={ G4 with B:=G4.B.take Sj.length++[.blk b],D:=G.D,R:=G.R }) ?_ G.F;exact h7.Iv hD4 r' E (fun i=>by rw[htm];exact(hv i).mono hM hB) (fun p hp=>⟨rU.d _ (zB9 _ (zD7.2 ⟨rT.d _ (zB9 _ hp),by simpa using hne p hp⟩)),hne p hp⟩) hs.dfr.2
 cases xx with
 | normal =>
   obtain⟨hk,hpn'⟩:=hk;obtain⟨G5,g1,g2⟩:=back { rc with state:=.ready,pending:=none } rfl (by rw[hk];exact Lo) (by rw[hk];exact hok');refine⟨_,_,fin none .ready,.b true,_,G5,.inl ⟨rfl,?_,hpn'⟩,g1,g2,.prim _⟩;have:({ rc with state:=.ready,pending:=none }:Loop)=rc:=by
    obtain⟨h1,h2⟩:=hrc;cases rc;simp at h1 h2;subst h1;subst h2;rfl
   rw[hk,this]
 | ret =>
   simp only[lG] at hk;obtain⟨h8,h9⟩:=hR _ _ hk;obtain⟨G5,g1,g2⟩:=back { rc with state:=.done,pending:=some .ret } rfl h8 h9;exact⟨_,_,fin (some .ret) .ready,.b false,_,G5,.inr ⟨rfl,_,.ret,rfl,.inl ⟨rfl,hk⟩⟩,g1,g2,.prim _⟩
 | exit id =>
   simp only[lG] at hk;obtain⟨h8,h9⟩:=hR _ _ hk;obtain⟨G5,g1,g2⟩:=back { rc with state:=.done,pending:=some (.exit id) } rfl h8 h9;exact⟨_,_,fin (some (.exit id)) .ready,.b false,_,G5,.inr ⟨rfl,_,.exit id,rfl,.inr ⟨id,rfl,hk⟩⟩,g1,g2,.prim _⟩
 |_=>exact hk.elim
def ox (P:Program) (k:FuncId) (first aQ:List AV) (xs:List (List AV)) (L:Nat) (S:Nat→ae) (Pj:Nat→Prop):Prop :=
 ∀(yv:AV) (R:Nat→ae→Prop),Pj 0→(∀j,j≤xs.length→(S j).length=L∧(S j).all (aD L)=true)→(∀j s,R j s→s.length=L∧s.all (aD L)=true) →
  (∀d,aO L (d+1) yv=true)→(∀j x,xs[j]? = some x→Pj j→VCall P (.opq yv) x (S j) (fun r s=>(r=.b true∧s=S (j+1)∧Pj (j+1))∨(r=.b false∧R j s))) →
  TCall P k (first++[.opq yv]++aQ) (S 0) (fun _ s=>(s=S xs.length∧Pj xs.length)∨∃j,j<xs.length∧R j s)
theorem AWP.iF {P:Program} {n:Nat} {K:Exit→Env→ae→Prop} {env:Env} {σ:ae} {g:Operand} {ps:Array Tmp} {assign body:Code} {k:FuncId} {first aQ:List AV}
 (xs:List (List AV)) (E:List (Nat×AV)) (S:Nat→ae) (Pj:Nat→Prop) (R:Nat→Exit→ae→Prop) (iter:∀rc:Loop,ox P k first aQ xs (σ.length+1) (fun j=>S j++[.loop rc E]) Pj) (hP0:Pj 0) (hg:rdv env g=some (.fn (.func k) first aQ)) (ng:rdn env g)
 (hps:∀x∈xs,x.length=ps.size) (hxo:∀x∈xs,x.all (aO σ.length 4)=true) (hpn:ps.toList.all (fun d=>decide (d<n))=true) (hE:fe env E) (oa:E.all (fun p=>aO σ.length 4 p.2)=true)
 (hS0:S 0=σ) (hS:∀j,j≤xs.length→(S j).length=σ.length∧(S j).all (aD σ.length)=true)
 (hR:∀j x s,R j x s→s.length=σ.length∧s.all (aD σ.length)=true)
 (round:∀j x,xs[j]? = some x→Pj j→AWP P n assign (fun x e s=>x=.normal∧AWP P n body (lG σ.length (S (j+1)) (Pj (j+1)) (R j)) e s) ((Env.of E).rK (ps.toList.zip x)) (S j))
 (done:Pj xs.length→K .normal env (S xs.length)) (left:∀j x s,j<xs.length→R j x s→K x env s):AWP P n (.rangeFunc g ps assign body) K env σ:=by
 intro G a w hr;have hgv:=hr.rd (Rd.w hg ng);generalize hA:a.eval g=y at hgv;cases hgv with
 |fn _ _ _ vf vc hvf hvc h1 h2 =>
 refine wpIn_rangeFunc fun fn _=>?_
 obtain⟨l,mark,W1,rc,D1,wX,⟨hc1,hc2,hc3,hc4,hc5,hc6⟩,hD1,hdef,hs1⟩:=Bc hr E hE.ug fn ps assign body;have hlen:G.B.length=σ.length:=hr.st.len
 have hT:=iter rc (.yld σ.length)
  (fun j s=>∃s0 c,s=s0++[.loop { rc with state:=.done,pending:=some c } E]∧((c=.ret∧R j .ret s0)∨∃id,c=.exit id∧R j (.exit id) s0))
  hP0 (fun j hj=>by
   obtain⟨k1,k2⟩:=hS j hj;refine⟨by simp[k1],?_⟩;rw[zCo,fL (zCt _) k2];simpa using od (o:=.loop rc E) (zCt σ.length) oa)
  (fun j s hs=>by
   obtain⟨s0,c,rfl,hc⟩:=hs;have k:s0.length=σ.length∧s0.all (aD σ.length)=true:=by
    rcases hc with ⟨_,hc⟩|⟨id,_,hc⟩
    · exact hR _ _ _ hc
    · exact hR _ _ _ hc
   refine⟨by simp[k.1],?_⟩;rw[zCo,fL (zCt _) k.2];simpa using od (o:=.loop { rc with state:=.done,pending:=some c } E) (zCt σ.length) oa)
  (fun d=>by simp[aO])
  (fun j x hx hp=>by
   have hj:j<xs.length:=by
    rcases zAa j xs.length with h|h
    · exact h
    · simp[zA3 h] at hx
   have hxm:=zAc hx;refine xI (n:=n) ⟨hc1,hc2⟩ (hS j oM).1 (hS (j+1) oM).1 (hS (j+1) oM).2 oa (hS j oM).2 (hR j) (by rw[hc3];exact hr.size) (by rw[hc4];exact hps x hxm) (by rw[hc4];exact hpn) (hxo x hxm) ?_;rw[hc4,hc5,hc6];exact round j x hx hp)
 have hB1:BLe G.B (G.B++[.blk l]):=BLe.append _ _;have hm:(G.B++[GB.blk l])[σ.length]? = some (.blk l):=by rw[←hlen];simp
 have gT:fS { G with B:=G.B++[.blk l],D:=D1 } (first++[.opq (.yld σ.length)]++aQ) (vf++#[.func (.yield l) #[] #[]]++vc) :=
  ((fS.append (G := { G with B := G.B ++ [.blk l], D := D1 }) ⟨hvf, fun i c hi => (h1 i c hi).mono (Mem.Le.refl _) hB1⟩ ⟨rfl, fun i c hi => by
    cases i with
    |zero=>simp at hi;subst hi;exact .opq _ _ _ _ (.yld _ l hm)
    |succ i=>simp at hi⟩).append ⟨hvc,fun i c hi=>(h2 i c hi).mono (Mem.Le.refl _) hB1⟩)
 have Lq:=hT.2 { G with B:=G.B++[.blk l],D:=D1 } W1 _ (by show aC _ (S 0++[bc.loop rc E]) W1;rw[hS0];exact hs1) gT;refine⟨l,mark,W1,{ target:=.fn (.func k) vc,args:=vf++#[.func (.yield l) #[] #[]] },W1,k,vf++#[.func (.yield l) #[] #[]]++vc,W1,wX,?_,fun _ _=>trivial,?_,?_,?_⟩
 · simp only[resolve,hA];simp[go_sem,Act.eval,Deferred.ofValue]
 · simp only[invoke];exact eU hT.1 _ _
 · intro hd;simp[FR,Fence.wide] at hd
 · refine Bd (ro:=G.R) ?_;refine Calls.mono Lq ?_;rintro e w' ⟨v,rv,σ',G',rfl,hQ,hle,hs',_⟩;have hBl:G'.B[σ.length]? = some (.blk l):=by
    obtain⟨g',k1,k2⟩:=hle.b _ _ hm;simp only[GB.Le] at k2;subst k2;exact k1
   -- what is left when the loop is over
   have over:∀(s0:ae) (r:Loop),s0.length=σ.length→s0.all (aD σ.length)=true→aC G' (s0++[.loop r E]) w'→r.state≠.busy →
    ∃G'' w'',(Instr.endLoop l).run P w'=.ok r.pending w''∧G.Le G''∧bf n G'' env s0 { a with defers:=mark++a.defers } w'':=fun s0 r hl0 ho0 hs0 hbusy=>by
    obtain⟨l',hb',jH,_,hsa⟩:=hs0.aside (by rw[hl0];exact ho0);rw[hl0,hBl] at hb';simp at hb';subst hb';have hne:∀p∈G'.D,p.1≠l:=fun p hp e=>(hs0.dfr.1 p hp).2.2.1 _ _ hBl (by rw[e];rfl)
    have hu:=(hsa.qw (D':=G'.D) (zB8 ..) (.loop { r with state:=.exhausted }) fun p hp=>⟨zB9 _ hp,hne p hp⟩);have hu2:=aC.FD (G:={ G' with B:=G'.B.take s0.length }) (R':=G'.R) hu hs0.dfr.2;have hBe:BLe G.B (G'.B.take s0.length):=fun i g hi=>by
     obtain⟨g',k1,k2⟩:=(hB1.trans hle.b) i g hi;have:i<s0.length:=by
      rcases zAa i G.B.length with h|h
      · omega
      · simp[zA3 h] at hi
     exact⟨g',du k1 this,k2⟩
    refine⟨{ G' with B:=G'.B.take s0.length },_,run_endLoop jH hbusy,⟨hle.m0,hle.w0,hle.m,hBe,fun p hp=>hle.d p (hD1 p hp),hle.r,hle.f⟩,hr.size,by rw[show({ G' with B:=G'.B.take s0.length }:Gh).F=G.F from hle.f];exact hdef.mono hle.d,fun i=>(hr.bh i).mono hle.m hBe,hu2⟩
   rcases hQ with ⟨rfl,hPn⟩|⟨j,hj,s0,c,rfl,hc⟩
   · obtain⟨k1,k2⟩:=hS xs.length (zAt _);obtain⟨G'',w'',h3,h4,h5⟩:=over _ rc k1 k2 hs' (by rw[hc1];simp);rw[hc2] at h3;exact⟨none,w'',h3,env,_,G'',done hPn,h4,h5⟩
   · rcases hc with ⟨rfl,hc⟩|⟨id,rfl,hc⟩
     · obtain⟨k1,k2⟩:=hR _ _ _ hc;obtain⟨G'',w'',h3,h4,h5⟩:=over s0 _ k1 k2 hs' sMp;exact⟨some .ret,w'',h3,wpIn_ret ⟨env,_,G'',left _ _ _ hj hc,h4,h5⟩⟩
     · obtain⟨k1,k2⟩:=hR _ _ _ hc;obtain⟨G'',w'',h3,h4,h5⟩:=over s0 _ k1 k2 hs' sMp;exact⟨some (.exit id),w'',h3,wpIn_exit ⟨env,_,G'',left _ _ _ hj hc,h4,h5⟩⟩
theorem AWP.ux {P:Program} {n:Nat} {c:Code} {K:Exit→Env→ae→Prop} {env:Env} {σ:ae} (l:Nat) {cs cs':List AV} (hσ:σ[l]? = some (.var cs)) (hl:cs'.length=cs.length)
 (he:∀(i:Nat) u v,cs[i]? = some u→cs'[i]? = some v→∀M B x,ag M B u x→ag M B v x) (hk:AWP P n c K env (σ.set l (.var cs'))):AWP P n c K env σ:=by
 intro G a w hr;exact hk G a w ⟨hr.size,hr.defers,hr.bh,aC.pB (o':=.var cs') hr.st hσ fun g _ h=>by
  cases h with
  | var b _ c T fr hb hf hl2 hr2 hm =>
    refine .var b cs' c T fr hb hf (hl2.trans hl.symm) (fun i a hi=>?_) hm;have hlt:i<cs.length:=by
     rw[←hl];exact(zAb.1 hi).1
    exact he i _ a (zA1 hlt) hi _ _ _ (hr2 i _ (zA1 hlt))⟩
end Go.Ab
namespace Go.Pl
structure bV where
 from_:Int
 ak:Int
 times:Int
 deriving DecidableEq,Inhabited
structure ik where
 from_:Int
 ak:Int
 pass:Int
 deriving DecidableEq,Inhabited
structure PJmp where
 at_:Int
 to:Int
 ch:Int
 deriving DecidableEq,Inhabited
structure bI where
 from_:Int
 ak:Int
 pass:Int
 deriving DecidableEq,Inhabited
structure aG where
 bars:Int
 ar:List bV
 ends:List ik
 jump:PJmp
 cuts:List bI
 deriving DecidableEq,Inhabited
structure cB where
 bar:Int
 pass:Int
 deriving DecidableEq,Inhabited
def cT (bars:Int):Int→List bV→Bool
 |_,[]=>true
 |last,r::l=>!(decide (r.from_<last)||decide (r.ak≤r.from_)||decide (bars<r.ak)||decide (r.times<1)||decide (9<r.times))&&cT bars r.ak l
def eT (l:List bV) (a b:Int):Bool:=l.any fun r=>decide (r.from_≤a)&&decide (b≤r.ak)
def iG (l:List bV) (bar:Int):Bool:=l.any fun r=>decide (r.from_<bar)&&decide (bar<r.ak)
def gb (l:List ik) (bar pass:Int):Bool:=l.all fun x=>!(decide (x.from_≤bar)&&decide (bar<x.ak)&&decide (x.pass≠pass))
def gg (a b:Int):List Int:=(List.range (b - a).toNat).map fun (i:Nat)=>a+(i:Int)
theorem ka {a b:Int} (h:b≤a):gg a b=[]:=by
 unfold gg;rw[show(b - a).toNat=0 by omega];rfl
theorem jw {a b:Int} (h:a<b):gg a b=a::gg (a+1) b:=by
 unfold gg;obtain⟨k,hk⟩:∃k,(b - a).toNat=k+1:=⟨(b - a).toNat - 1,oM⟩
 rw[hk,show(b - (a+1)).toNat=k by omega,List.range_succ_eq_map,zBt,zD9];congr 1
 · simp
 · refine zDz fun i _=>?_
   show a+((i+1:Nat):Int)=a+1+(i:Int);omega
def jL (f:aG) (r:bV) (pass:Int):List Int:=(gg r.from_ r.ak).filter fun i=>gb f.ends i pass
def rV (f:aG) (r:bV) (all:Bool):List Int:=(gg (if all then 1 else r.times) (r.times+1)).flatMap (jL f r)
def dW (l:List bV) (bar:Int):Option bV:=l.find? fun r=>r.from_==bar
def fE (f:aG) (ak:Int) (all:Bool):Nat→Int→List Int
 |0,_=>[]
 |k+1,bar=>if bar<ak then (match dW f.ar bar with|none=>bar::fE f ak all k (bar+1)|some r=>rV f r all++fE f ak all k r.ak) else []
def bu (f:aG) (from_ ak:Int) (all:Bool):List Int:=fE f ak all (ak - from_).toNat from_
theorem lq {f:aG} (h:∀r∈f.ar,r.from_<r.ak) (u:Int) (all:Bool):∀(k m:Nat) (bar:Int),(u - bar).toNat≤k→(u - bar).toNat≤m→fE f u all k bar=fE f u all m bar
 |0,0,_,_,_=>rfl
 | 0, m + 1, bar, h1, _ => by
   unfold fE;rw[if_neg oM]
 | k + 1, 0, bar, _, h2 => by
   unfold fE;rw[if_neg oM]
 | k + 1, m + 1, bar, h1, h2 => by
   unfold fE;by_cases hb:bar<u
   · rw[if_pos hb,if_pos hb];cases hs:dW f.ar bar with
     | none =>
       simp only;rw[lq h u all k m (bar+1) oM oM]
     | some r =>
       simp only;have hr:=h r (zBi hs);have he:r.from_=bar:=by
        have:=zDl hs;simpa using this
       rw[lq h u all k m r.ak oM oM]
   · rw[if_neg hb,if_neg hb]
theorem oy {f:aG} {a u:Int} (h:u≤a) (all:Bool):bu f a u all=[]:=by
 unfold bu;rw[show(u - a).toNat=0 by omega];rfl
theorem rW {f:aG} (h:∀r∈f.ar,r.from_<r.ak) {a u:Int} (hl:a<u) (all:Bool) (hs:dW f.ar a=none):bu f a u all=a::bu f (a+1) u all:=by
 unfold bu;obtain⟨k,hk⟩:∃k,(u - a).toNat=k+1:=⟨(u - a).toNat - 1,oM⟩
 rw[hk];show(if a<u then _ else _)=_;rw[if_pos hl,hs];simp only;rw[lq h u all k (u - (a+1)).toNat (a+1) oM (zAt _)]
theorem rX {f:aG} (h:∀r∈f.ar,r.from_<r.ak) {a u:Int} (hl:a<u) (all:Bool) {r:bV} (hs:dW f.ar a=some r):bu f a u all=rV f r all++bu f r.ak u all:=by
 have hr:=h r (zBi hs);have he:r.from_=a:=by
  have:=zDl hs;simpa using this
 unfold bu;obtain⟨k,hk⟩:∃k,(u - a).toNat=k+1:=⟨(u - a).toNat - 1,oM⟩
 rw[hk];show(if a<u then _ else _)=_;rw[if_pos hl,hs];simp only;rw[lq h u all k (u - r.ak).toNat r.ak oM (zAt _)]
def aK (f:aG):List Int:=if f.jump.at_=0 then bu f 0 f.bars true++bu f f.jump.to f.jump.ch false else bu f 0 f.jump.at_ true++bu f f.jump.to f.jump.ch false
def cj (l:List Int):List cB:=(List.range l.length).map fun i=>⟨l.getD i 0,((l.take (i+1)).count (l.getD i 0):Int)⟩
def leaves (c:bI) (v:cB):Bool:=decide (c.from_≤v.bar)&&decide (v.bar<c.ak)&&(decide (c.pass=0)||decide (c.pass=v.pass))
def bM (f:aG):List cB:=(cj (aK f)).filter fun v=>!(f.cuts.any fun c=>leaves c v)
theorem DC (l:List Int) (b:Int):cj (l++[b])=cj l++[⟨b,(l.count b:Int)+1⟩]:=by
 unfold cj;rw[zCr,zBb,List.range_succ,zBw];congr 1
 · refine zDz fun i hi=>?_
   have hi:=zAs.1 hi;have e1:(l++[b]).getD i 0=l.getD i 0:=by simp[List.getD,zA8 hi]
   rw[e1,zBm oM]
 · have e1:(l++[b]).getD l.length 0=b:=by simp[List.getD]
   rw[List.map_singleton,e1,zAh sMp,List.count_append,List.count_singleton_self];simp
def dy (ar:List bV):Int→List ik→Bool
 |_,[]=>true
 |last,x::l=>!(decide (x.from_<last)||decide (x.ak≤x.from_)||!eT ar x.from_ x.ak||decide (x.pass<1)||decide (9<x.pass))&&dy ar x.ak l
def dC (f:aG):Bool :=
 decide (f.jump=⟨0,0,0⟩) ||
 (!(decide (f.jump.at_<1)||decide (f.bars<f.jump.at_)||decide (f.jump.to<0)||decide (f.jump.at_≤f.jump.to)||decide (f.jump.ch≤f.jump.to)||decide (f.bars<f.jump.ch)) &&
  (!iG f.ar f.jump.at_&&!iG f.ar f.jump.to&&!iG f.ar f.jump.ch))
def fU (bars:Int) (c:bI):Bool:=decide (0≤c.from_)&&decide (c.from_<c.ak)&&decide (c.ak≤bars)&&decide (0≤c.pass)&&decide (c.pass≤20)
def eh (bars:Int) (l:List bI):Bool:=l.all (fU bars)&&decide l.Nodup
def aW (f:aG):Bool :=
 decide (1≤f.bars)&&decide (f.bars≤4000)&&(cT f.bars 0 f.ar&&decide (f.ar.length≤100))&&(dy f.ar 0 f.ends&&decide (f.ends.length≤100))&&dC f&&(eh f.bars f.cuts&&decide (f.cuts.length≤100))&&decide ((aK f).length≤20000)
theorem rY {bars:Int}:∀{l:List bV} {last:Int},cT bars last l=true→∀r∈l,last≤r.from_∧r.from_<r.ak∧r.ak≤bars∧1≤r.times∧r.times≤9
 |[],_,_,r,hr=>by cases hr
 | x :: l, last, h, r, hr => by
   unfold cT at h;simp only[zA0,zB3,zAg,dEf] at h;obtain⟨⟨⟨⟨⟨h1,h2⟩,h3⟩,h4⟩,h5⟩,h6⟩:=h;rcases zAo.1 hr with rfl|hr
   · omega
   · have:=rY h6 r hr;omega
def lH (f:aG) (c:bI):aG:={ f with cuts:=f.cuts++[c] }
theorem pN (f:aG) (c:List bI) (u:Int) (all:Bool):∀(k:Nat) (bar:Int),fE { f with cuts:=c } u all k bar=fE f u all k bar
 |0,_=>rfl
 | k + 1, bar => by
   unfold fE;split
   · show(match dW f.ar bar with|none=>bar::fE { f with cuts:=c } u all k (bar+1)|some r=>rV f r all++fE { f with cuts:=c } u all k r.ak)=_;cases dW f.ar bar with
     |none=>simp only;rw[pN f c u all k]
     |some r=>simp only;rw[pN f c u all k]
   · rfl
theorem lr (f:aG) (c:List bI):aK { f with cuts:=c }=aK f:=by
 unfold aK bu;simp only[pN]
theorem DD (f:aG) (c:bI):aK (lH f c)=aK f:=lr f _
theorem FQ {f:aG} {c:bI} (h:aW f=true) (hc:fU f.bars c=true) (hn:c∉f.cuts) (hl:f.cuts.length<100):aW (lH f c)=true:=by
 unfold aW at h ⊢;simp only[zA0,dEt] at h ⊢;obtain⟨⟨⟨⟨⟨⟨h1,h2⟩,h3⟩,h4⟩,h5⟩,h6,h7⟩,h8⟩:=h;refine⟨⟨⟨⟨⟨⟨h1,h2⟩,h3⟩,h4⟩,h5⟩,?_,?_⟩,by rw[DD];exact h8⟩
 · unfold eh at h6 ⊢;simp only[zA0,dEt,zA4] at h6 ⊢;refine⟨fun x hx=>?_,?_⟩
   · rcases zAx.1 hx with hx|hx
     · exact h6.1 x hx
     · rw[zA9.1 hx];exact hc
   · show(f.cuts++[c]).Nodup;rw[zC7];refine⟨h6.2,by simp,fun a ha b hb=>?_⟩;rw[zA9.1 hb];exact fun g=>hn (g▸ha)
 · show(f.cuts++[c]).length≤100;rw[zCr,zBb];omega
def jx (f:aG) (c:bI):aG:={ f with cuts:=f.cuts.erase c }
inductive HL where
 |yes
 |cut
 |never
 deriving DecidableEq
def force (f:aG) (v:cB):HL:=if v∈bM f then .yes else if v∈cj (aK f) then .cut else .never
theorem DE {f:aG} {v:cB}:force f v=.yes↔v∈bM f:=by
 unfold force;split
 · rename_i h;exact⟨fun _=>h,fun _=>rfl⟩
 · rename_i h;split<;>exact⟨fun g=>(nomatch g),fun g=>absurd g h⟩
end Go.Pl
namespace Go.Ab
def xJ (T:Tab) (e:Env) (s:ae):ResultVar→Option AV
 |.tmp t=>some (e t)
 | .cell a t => match e a with
   | .ptr l off => match s[l]?, T.get t with
     |some (.var cs),some li=>iC li off cs
     |_,_=>none
   |_=>none
def oA (T:Tab) (e:Env) (s:ae):List ResultVar→Option (List AV)
 |[]=>some []
 | x :: r => match xJ T e s x, oA T e s r with
   |some u,some us=>some (u::us)
   |_,_=>none
def qC (T:Tab) (e:Env) (s:ae):List ResultVar→Option AV
 |[x]=>xJ T e s x
 |l=>(oA T e s l).map .tup
theorem xK {P : Program} {T : Tab} (hT : T.Ok P) {e : Env} {s : ae} {G : Gh} {w : World} {tmps : Array Value} {u : AV} (hs : aC G s w) (hv : ∀ i, ag G.M G.B (e i) (tmps.getD i undef)) (f : ResultVar → Sem Value) (hf1 : ∀ t, f (.tmp t) = pure (tmps.getD t undef))
    (hf2:∀a t,f (.cell a t)=(do loadVar t (←asAddr (tmps.getD a undef)))) (l:List ResultVar) (h:qC T e s l=some u) :
    ∃v,(do let vs ←l.toArray.mapM f;pure (if h:vs.size=1 then vs[0] else .tuple vs):Sem Value).run P w=.ok v w∧ag G.M G.B u v:=by
  have one : ∀ (f : ResultVar → Sem Value), (∀ t, f (.tmp t) = pure (tmps.getD t undef)) → (∀ a t, f (.cell a t) = (do loadVar t (← asAddr (tmps.getD a undef)))) → ∀ x u, xJ T e s x = some u → ∃ v, (f x).run P w = .ok v w ∧ ag G.M G.B u v := by
    intro f h1 h2 x u hx;cases x with
    | tmp t =>
      simp only[xJ,Option.some.injEq] at hx;subst hx;exact⟨_,by rw[h1];rfl,hv t⟩
    | cell a t =>
      simp only[xJ] at hx;have h3:=hv a;cases hea:e a with
      | ptr l' off =>
        rw[hea] at hx h3;simp only at hx;split at hx
        · rename_i cs li hσ hg;obtain⟨ad,v,g1,g2,g3⟩:=qX hs (LOk.of (hT.get hg)) h3 hσ hx;refine⟨v,?_,g3⟩;rw[h2,g1,Sem.run_bind];exact g2
        · simp at hx
      |_=>rw[hea] at hx;simp at hx
  have key : ∀ (f : ResultVar → Sem Value), (∀ t, f (.tmp t) = pure (tmps.getD t undef)) → (∀ a t, f (.cell a t) = (do loadVar t (← asAddr (tmps.getD a undef)))) → ∀ l us, oA T e s l = some us → ∃ vs : List Value, Sem.run P (l.mapM f) w = Result.ok vs w ∧ vs.length = us.length ∧ us.length = l.length ∧ ∀ (i : Nat) u v, us[i]? = some u → vs[i]? = some v → ag G.M G.B u v := by
    intro f h1 h2 l;induction l with
    | nil =>
      intro us hus;simp only[oA,Option.some.injEq] at hus;subst hus;exact⟨[],rfl,rfl,rfl,fun i u v h=>by simp at h⟩
    | cons x l ih =>
      intro us hus;simp only[oA] at hus;split at hus
      · rename_i u us' g1 g2;simp only[Option.some.injEq] at hus;subst hus;obtain⟨v,g3,g4⟩:=one f h1 h2 x u g1;obtain⟨vs,g5,g6,g7,g8⟩:=ih us' g2;refine⟨v::vs,?_,by simp[g6],by simp[g7],fun i u' v' hu' hv'=>?_⟩
        · simp only[zD3,Sem.run_bind,g3,Result.andThen_ok,g5];rfl
        · cases i with
          |zero=>simp at hu' hv';subst hu' hv';exact g4
          |succ i=>exact g8 i u' v' (by simpa using hu') (by simpa using hv')
      · simp at hus
  simp only[List.mapM_toArray,Sem.run_bind,Sem.run_map]
  match l,h with
  | [x], h =>
    simp only[qC] at h;obtain⟨vs,g5,g6,g7,g8⟩:=key f hf1 hf2 [x] [u] (by simp[oA,h]);rw[g5]
    match vs,g6 with
    |[v],_=>exact⟨v,rfl,g8 0 u v rfl rfl⟩
  | [], h =>
    simp only[qC,oA,zBa,Option.some.injEq] at h;subst h;exact⟨.tuple #[],rfl,.tup _ _ rfl fun i c hi=>by simp at hi⟩
  | x :: y :: r, h =>
    simp only[qC,zA6] at h;obtain⟨us,hus,rfl⟩:=h;obtain⟨vs,g5,g6,g7,g8⟩:=key f hf1 hf2 _ us hus;rw[g5];have hlen:vs.length=r.length+2:=by rw[g6,g7];rfl
    have hne:¬vs.toArray.size=1:=by simp;omega
    refine⟨.tuple vs.toArray,?_,.tup _ _ (by simp[g6]) fun i c hi=>?_⟩
    · simp only[Result.andThen_ok,Sem.run_pure];rw[dif_neg hne]
    · have hlt : i < vs.length := by
        rw[g6];rcases zAa i us.length with h|h
        · exact h
        · simp[zA3 h] at hi
      have:=g8 i c _ hi (zA1 hlt);simpa[hlt] using this
theorem xL {P:Program} {T:Tab} (hT:T.Ok P) {fn:Func} {e:Env} {s:ae} {G:Gh} {w:World} {tmps:Array Value} {u:AV} (hs:aC G s w) (hv:∀i,ag G.M G.B (e i) (tmps.getD i undef)) (h:qC T e s fn.results.toList=some u) :
 ∃v,(results fn tmps).run P w=.ok v w∧ag G.M G.B u v:=by
 unfold results;obtain⟨l,hl⟩:∃l,fn.results=List.toArray l:=⟨fn.results.toList,by simp⟩
 rw[hl] at h ⊢;refine xK hT hs hv _ ?_ ?_ l h
 · exact fun _=>rfl
 · exact fun _ _=>rfl
theorem TCall.pO {P : Program} {T : Tab} (hT : T.Ok P) {f : FuncId} {fn : Func} {c : Code} {n : Nat} {avs : List AV} {σ : ae} {Q : AV → ae → Prop} (hf : P.funcs[f]? = some fn) (hb : fn.body = some c) (hnm : (fn.name == "runtime.NumGoroutine") = false)
 (hn:fn.ntmps=n) (j0:decide (avs.length≤n)=true)
 (h:AWP P n c (fun x e s=>(x=.normal∨x=.ret)∧∃(rv:AV) (σ':ae),Q rv σ'∧s.take σ'.length=σ'∧σ.length≤σ'.length∧σ'.all (aD σ'.length)=true∧aO σ'.length 4 rv=true∧qC T e s fn.results.toList=some rv) (Env.init avs) σ):TCall P f avs σ Q:=by
 refine⟨⟨fn,hf,by simp[hb],hnm⟩,fun G w vs hs ha=>?_⟩;refine(nU hf hb hn (of_decide_eq_true j0) h hs.enter rfl rfl ha (R:=fun v w'=>∃rv σ' G',Q rv σ'∧G.Le G'∧aC G' σ' w'∧ag G'.M G'.B rv v) (fun x e s hk=>hk.1) ?_).mono ?_
 · rintro x e s G' tmps w' ⟨_,rv,σ',hQ,htk,hlen,hok,FC,hu⟩ hm0 hw0 hM hB hs' hvals;obtain⟨v,g1,g2⟩:=xL hT hs' hvals hu;refine⟨v,g1,rv,σ',{ G with M:=G'.M,B:=G'.B.take σ'.length },hQ,.up hM fun l g hl=>?_,?_,ag.take 4 _ _ FC g2⟩
   · obtain⟨g',k1,k2⟩:=hB l g hl;have:l<σ'.length:=by
      have h1:l<G.B.length:=by
       rcases zAa l G.B.length with h|h
       · exact h
       · simp[zA3 h] at hl
      rw[hs.len] at h1;omega
     exact⟨g',du k1 this,k2⟩
   · have:=hs'.take σ'.length (by rw[htk];exact hok);rw[htk] at this;exact hs.leave this hm0 hw0
 · rintro e w' ⟨v,rfl,rv,σ',G',h1,h2⟩;exact⟨v,rv,σ',G',rfl,h1,h2⟩
end Go.Ab
namespace Go.Ab
open Go.ChangeMaps (setBlock)
def pP {κ α:Type} [DecidableEq κ] (al:List (κ×α)) (key:κ):Option Nat:=(al.map (·.1)).findIdx? (fun x=>decide (x=key))
def uy {κ α:Type} [DecidableEq κ] (clock:Nat) (al:List (κ×α)) (key:κ):Nat:=if (pP al key).isSome then clock else clock+1
def uz {κ α:Type} [DecidableEq κ] (clock:Nat) (bs:List Nat) (al:List (κ×α)) (key:κ):List Nat:=if (pP al key).isSome then bs else bs++[clock]
def uA {κ α:Type} [DecidableEq κ] (al:List (κ×α)) (key:κ):List (κ×α):=match pP al key with
 |some i=>al.eraseIdx i
 |none=>al
def uB {κ α:Type} [DecidableEq κ] (bs:List Nat) (al:List (κ×α)) (key:κ):List Nat:=match pP al key with
 |some i=>bs.eraseIdx i
 |none=>bs
section
variable {P:Program} {n:Nat} {ops:Array Oper} {o:Oper} {env:Env} {σ:ae} {k:Env→ae→Prop}
theorem AWP.J9 {c:Code} {K:Exit→Env→ae→Prop} (l:Nat) {kvs:List (Value×AV)} (hσ:σ[l]? = some (.map kvs)) (hk:AWP P n c K env (σ.set l (.mapp kvs.length (List.range kvs.length) kvs))):AWP P n c K env σ:=by
 intro G a w hr;refine hk G a w ⟨hr.size,hr.defers,hr.bh,aC.pB (o':=.mapp kvs.length (List.range kvs.length) kvs) hr.st hσ fun g _ ho=>?_⟩;cases ho with
 | map b _ es clock hb hl hkk hrr hm hst =>
   obtain⟨h1,h2⟩:=hst;rw[hl] at h1;subst h1;refine .mapp b _ _ kvs es hb hl ?_ hkk hrr hm;apply zCh;intro i;rw[zA5,zB7];rcases zAa i es.size with h|h
   · rw[zAk h,zA1 (by simp;omega)];simp only[zBa,List.getElem_range,Option.some.injEq];exact h2 i _ (zAk h)
   · rw[zAj h,zA3 (by simp;omega)];rfl
theorem Aw {κ α:Type} {ek:κ→Value} {ev:α→AV} {al:List (κ×α)} {es:Array MapEntry} {M:Mem} {B:List GB} (hlen:es.size=al.length) (hold:∀(i:Nat) p e,al[i]? = some p→es[i]? = some e→e.key=ek p.1∧ag M B (ev p.2) e.val) :
 es.toList.map (·.key)=(al.map (·.1)).map ek:=by
 apply zCh;intro i;rw[zA5,zD9,zA5,zB7];rcases zAa i es.size with h|h
 · have h':i<al.length:=oM;rw[zAk h,zA1 h'];simp only[zBa,Function.comp];congr 1;exact(hold i _ _ (zA1 h') (zAk h)).1
 · rw[zAj h,zA3 oM];rfl
theorem xM {κ α:Type} [DecidableEq κ] {key:κ} {v:α}:∀(al:List (κ×α)),(match pP al key with|some i=>ins al key v=al.set i (key,v)∧i<al.length∧(∀p,al[i]? = some p→p.1=key)|none=>ins al key v=al++[(key,v)])
 |[]=>rfl
 | (k', v') :: r => by
   have ih:=xM (key:=key) (v:=v) r;unfold pP at ih ⊢;simp only[zBt,zDj];by_cases hkx:k'=key
   · simp[hkx,ins]
   · simp only[hkx,decide_false,zAz,if_false,ins];cases hf:(r.map (·.1)).findIdx? (fun x=>decide (x=key)) with
     |none=>simp only[hf] at ih;simp[ih]
     |some i=>simp only[hf] at ih;simp[ih.1,ih.2.1];exact ih.2.2 _ (zA1 ih.2.1)
theorem EStep.IC {κ α:Type} [DecidableEq κ] {ek:κ→Value} {ev:α→AV} {t kt et:TypeId} {m x y:Operand} {l clock:Nat} {bs:List Nat} {al:List (κ×α)} {key:κ} {v:α} {uk:AV} {s1 b1:Nat} {z:List Z}
 (K:KeyLaw P kt ek) (hl:LOk P t ⟨.map kt et,s1,b1,z⟩) (ho:o.op=.mapUpdate t m x y) (hg:o.guard=none) (hdn:eu n o=true) (hm:Rd env m (.map l)) (hσ:σ[l]? = some (.mapp clock bs (aT ek ev al)))
 (hx:Rd env x uk) (hex:gH uk=some (ek key)) (hy:Rd env y (ev v)) (hk:k (env.br o.dst .any) (σ.set l (.mapp (uy clock al key) (uz clock bs al key) (aT ek ev (ins al key v))))):EStep P n ops o k env σ:=by
 refine EStep.plain hg fun G a w hr=>?_
 have h1:=hr.rd hm;have h2:=iO hex (hr.rd hx);have h3:=hr.rd hy;generalize hA:a.eval m=ym at h1;cases h1 with
 | map _ b hb =>
   have cP:=hr.st.bB l _ _ hb hσ;cases cP with
   | mapp _ _ _ _ es hbb hlen hbs hkk hrr hmm =>
     have hlt:=(hr.st.fresh l _ b hb rfl).2;rw[cV] at hlen;have hold:∀(i:Nat) p e,al[i]? = some p→es[i]? = some e→e.key=ek p.1∧ag G.M G.B (ev p.2) e.val:=fun i p e h4 h5 =>
      ⟨hkk i _ (ev p.2) e (by simp[aT,h4]) h5,hrr i (ek p.1) _ e (by simp[aT,h4]) h5⟩
     have dA:=K.find w key es.toList _ (Aw hlen hold)
     have step:∀(es':Array MapEntry) (eX:Nat) (bs':List Nat) (al':List (κ×α)),es'.toList.map (·.born)=bs'→(execOp a.eval o).run P w=.ok .skip { w with heap:=w.heap.setIfInBounds b (.map es' eX) }→uy clock al key=eX→uz clock bs al key=bs'→ins al key v=al' →
      es'.size=al'.length→(∀(i:Nat) p e,al'[i]? = some p→es'[i]? = some e→e.key=ek p.1∧ag G.M G.B (ev p.2) e.val) →
      fb P o a (fun a' w'=>∃aw σ' G',k aw σ'∧G.Le G'∧bf n G' aw σ' a' w') ((execOp a.eval o).run P w):=by
      intro es' eX bs' al' hst' bl hC hB hins hsz bU;rw[bl]
      have hs:=hr.st.upd (o':=.mapp eX bs' (aT ek ev al')) (w':={ w with heap:=w.heap.setIfInBounds b (.map es' eX) }) hb rfl sMp (fun k hk=>by rw[heap_set w b _ hlt,if_neg hk])
       (.mapp b eX bs' _ es' (by rw[heap_set w b _ hlt,if_pos rfl]) (by rw[cV];exact hsz) hst' (fun i k' v' e h4 h5=>by
        obtain⟨p,h6,rfl,rfl⟩:=ia h4;exact(bU i p e h6 h5).1) (fun i k' v' e h4 h5=>by
        obtain⟨p,h6,rfl,rfl⟩:=ia h4;exact(bU i p e h6 h5).2) hmm)
       ⟨fY hr.st.ay hbb (by intros;simp),hmm⟩ cD.r
      refine⟨_,_,G,hk,Gh.Le.refl G,?_⟩;rw[hins,hC,hB];have hr':bf n G env (σ.set l (.mapp eX bs' (aT ek ev al'))) a { w with heap:=w.heap.setIfInBounds b (.map es' eX) }:=⟨hr.size,hr.defers,hr.bh,hs⟩;exact hr'.br (cu hdn) (.any _)
     have hp:=xM (key:=key) (v:=v) al;unfold OWP;cases hf:pP al key with
     | none =>
       have hf2:(al.map (·.1)).findIdx? (fun x=>decide (x=key))=none:=hf;simp only[hf] at hp;simp only[hf2] at dA;refine step (es.push { key:=ek key,val:=a.eval y,born:=clock }) (clock+1) (bs++[clock]) _ (by simp[hbs]) ?_ (by unfold uy;rw[hf];rfl) (by unfold uz;rw[hf];rfl) hp (by simp[hlen]) ?_
       · simp only[execOp,ho,hA,h2,Instr.mapUpdate];simp[hl.jY w,getObj,setObj,Sem.run,hbb,K.check,dA]
       · intro i p e h4 h5;rw[zDb] at h5;split at h5
         · rename_i hi;simp at h5;subst h5;rw[zA7 oM,hi,hlen] at h4;simp at h4;subst h4;exact⟨rfl,h3⟩
         · rename_i hi;have:i<es.size:=by
            rcases zAa i es.size with h|h
            · exact h
            · simp[zAj h] at h5
           rw[zA8 oM] at h4;exact hold i p e h4 h5
     | some j =>
       have hf2:(al.map (·.1)).findIdx? (fun x=>decide (x=key))=some j:=hf;simp only[hf] at hp;simp only[hf2] at dA;obtain⟨hp1,hp2,hp3⟩:=hp;have hjs:j<es.size:=oM;have Fu:es[j].key=ek key:=by
        have:=(hold j al[j] es[j] (zA1 hp2) (zAk hjs)).1;rw[this,hp3 _ (zA1 hp2)]
       refine step (es.modify j fun e=>{ e with key:=ek key,val:=a.eval y }) clock bs _ ?_ ?_ (by unfold uy;rw[hf];rfl) (by unfold uz;rw[hf];rfl) hp1 (by simp[hlen]) ?_
       · rw[←hbs];apply zCh;intro i;rw[zA5,zA5,zB7,zB7,zBr];by_cases hij:j=i
         · subst hij;rw[if_pos rfl];simp[hjs]
         · rw[if_neg hij]
       · simp only[execOp,ho,hA,h2,Instr.mapUpdate];have e1:(Option.bind (some j) fun i=>(es.toList[i]?).map fun e=>(i,e.val))=some (j,es[j].val):=by simp[hjs]
         rw[e1] at dA;simp[hl.jY w,getObj,setObj,Sem.run,hbb,K.check,dA,hjs,Fu,K.stays]
       · intro i p e h4 h5;rw[zBr] at h5;by_cases hij:j=i
         · subst hij;rw[zAf hp2] at h4;simp at h4;subst h4;simp[hjs] at h5;subst h5;exact⟨rfl,h3⟩
         · rw[zAp hij] at h4;rw[if_neg hij] at h5;exact hold i p e h4 h5
theorem EStep.ID {κ α:Type} [DecidableEq κ] {ek:κ→Value} {ev:α→AV} {t kt et tx:TypeId} {m x:Operand} {l clock:Nat} {bs:List Nat} {al:List (κ×α)} {key:κ} {uk:AV} {s1 b1:Nat} {z:List Z}
 (K:KeyLaw P kt ek) (hl:LOk P t ⟨.map kt et,s1,b1,z⟩) (ho:o.op=.call { callee:=.builtin .delete,args:=#[m,x],argTypes:=#[t,tx] }) (hg:o.guard=none) (hdn:eu n o=true) (hm:Rd env m (.map l)) (hσ:σ[l]? = some (.mapp clock bs (aT ek ev al)))
 (hx:Rd env x uk) (hex:gH uk=some (ek key)) (hk:k (env.br o.dst .any) (σ.set l (.mapp clock (uB bs al key) (aT ek ev (uA al key))))):EStep P n ops o k env σ:=by
 refine EStep.plain hg fun G a w hr=>?_
 have h1:=hr.rd hm;have h2:=iO hex (hr.rd hx);generalize hA:a.eval m=ym at h1;cases h1 with
 | map _ b hb =>
   have cP:=hr.st.bB l _ _ hb hσ;cases cP with
   | mapp _ _ _ _ es hbb hlen hbs hkk hrr hmm =>
     have hlt:=(hr.st.fresh l _ b hb rfl).2;rw[cV] at hlen;have hold:∀(i:Nat) p e,al[i]? = some p→es[i]? = some e→e.key=ek p.1∧ag G.M G.B (ev p.2) e.val:=fun i p e h4 h5 =>
      ⟨hkk i _ (ev p.2) e (by simp[aT,h4]) h5,hrr i (ek p.1) _ e (by simp[aT,h4]) h5⟩
     have dA:=K.find w key es.toList _ (Aw hlen hold)
     have step:∀(es':Array MapEntry) (bs':List Nat) (al':List (κ×α)),es'.toList.map (·.born)=bs'→(execOp a.eval o).run P w=.ok (.value (.tuple #[])) { w with heap:=w.heap.setIfInBounds b (.map es' clock) }→uB bs al key=bs'→uA al key=al' →
      es'.size=al'.length→(∀(i:Nat) p e,al'[i]? = some p→es'[i]? = some e→e.key=ek p.1∧ag G.M G.B (ev p.2) e.val) →
      fb P o a (fun a' w'=>∃aw σ' G',k aw σ'∧G.Le G'∧bf n G' aw σ' a' w') ((execOp a.eval o).run P w):=by
      intro es' bs' al' hst' bl hB hins hsz bU;rw[bl]
      have hs:=hr.st.upd (o':=.mapp clock bs' (aT ek ev al')) (w':={ w with heap:=w.heap.setIfInBounds b (.map es' clock) }) hb rfl sMp (fun k hk=>by rw[heap_set w b _ hlt,if_neg hk])
       (.mapp b clock bs' _ es' (by rw[heap_set w b _ hlt,if_pos rfl]) (by rw[cV];exact hsz) hst' (fun i k' v' e h4 h5=>by
        obtain⟨p,h6,rfl,rfl⟩:=ia h4;exact(bU i p e h6 h5).1) (fun i k' v' e h4 h5=>by
        obtain⟨p,h6,rfl,rfl⟩:=ia h4;exact(bU i p e h6 h5).2) hmm)
       ⟨fY hr.st.ay hbb (by intros;simp),hmm⟩ cD.r
      refine⟨_,_,G,hk,Gh.Le.refl G,?_⟩;rw[hins,hB];have hr':bf n G env (σ.set l (.mapp clock bs' (aT ek ev al'))) a { w with heap:=w.heap.setIfInBounds b (.map es' clock) }:=⟨hr.size,hr.defers,hr.bh,hs⟩;exact hr'.br (cu hdn) (.any _)
     unfold OWP;cases hf:pP al key with
     | none =>
       have hf2:(al.map (·.1)).findIdx? (fun x=>decide (x=key))=none:=hf;simp only[hf2] at dA;refine step es bs al hbs ?_ (by unfold uB;rw[hf]) (by unfold uA;rw[hf]) hlen hold;simp only[execOp,ho,resolve,invoke,builtin,Builtin.delete_];simp[hA,h2,hl.jY w,getObj,setObj,Sem.run,hbb,K.check,dA]
     | some j =>
       have hf2:(al.map (·.1)).findIdx? (fun x=>decide (x=key))=some j:=hf;have hj:j<al.length:=by
        have h5:=(zCi.1 hf2).1;simpa using h5
       have hjs:j<es.size:=oM;simp only[hf2] at dA;have e1:(Option.bind (some j) fun i=>(es.toList[i]?).map fun e=>(i,e.val))=some (j,es[j].val):=by simp[hjs]
       rw[e1] at dA;have et:(es.eraseIdxIfInBounds j).toList=es.toList.eraseIdx j:=by rw[Array.eraseIdxIfInBounds,dif_pos hjs,Array.toList_eraseIdx]
       have eg:∀i:Nat,(es.eraseIdxIfInBounds j)[i]? = if i<j then es[i]? else es[i+1]? := fun i=>by
        rw[←zB7,et,zDi];split<;>rw[zB7]
       refine step (es.eraseIdxIfInBounds j) (bs.eraseIdx j) (al.eraseIdx j) ?_ ?_ (by unfold uB;rw[hf]) (by unfold uA;rw[hf]) ?_ ?_
       · rw[et,←hbs];apply zCh;intro i;rw[zA5,zDi,zDi];split<;>rw[zA5]
       · simp only[execOp,ho,resolve,invoke,builtin,Builtin.delete_];simp[hA,h2,hl.jY w,getObj,setObj,Sem.run,hbb,K.check,dA]
       · rw[←zBp,et,zDv,zDv,zBp,hlen]
       · intro i p e h4 h5;rw[eg] at h5;rw[zDi] at h4;split at h5
         · rename_i hi;rw[if_pos hi] at h4;exact hold i p e h4 h5
         · rename_i hi;rw[if_neg hi] at h4;exact hold (i+1) p e h4 h5
theorem PRun.IE {κ α:Type} [DecidableEq κ] {ek:κ→Value} {ev:α→AV} {t kt et:TypeId} {m x:Operand} {al:List (κ×α)} {key:κ} {zv:α} {uk:AV} {ok:Bool} {s1 b1:Nat} {z:List Z} {le:LI} {l clock:Nat} {bs:List Nat}
 (K:KeyLaw P kt ek) (hl:LOk P t ⟨.map kt et,s1,b1,z⟩) (he:LOk P et le) (hz:lO le=ev zv) (ho:o.op=.lookup t m x ok) (hm:Rd env m (.map l)) (hσ:σ[l]? = some (.mapp clock bs (aT ek ev al)))
 (hx:Rd env x uk) (hex:gH uk=some (ek key)):PRun P o env σ (if ok then .tup [ev ((lk al key).getD zv),.b (lk al key).isSome] else ev ((lk al key).getD zv)):=by
 refine .of fun G a w hs hv=>?_
 have h1:=rd hm (by simp[ho,Op.operands]) hv;have h2:=iO hex (rd hx (by simp[ho,Op.operands]) hv);generalize hA:a.eval m=y at h1;cases h1 with
 | map _ b hb =>
   have cP:=hs.bB l _ _ hb hσ;cases cP with
   | mapp _ _ _ _ es hbb hlen hbs hkk hrr hmm =>
     rw[cV] at hlen;obtain⟨v,h5,h6⟩:=jF (M:=G.M) (B:=G.B) (ok:=ok) (key:=key) w K he hz es hlen (fun i p e h4 h5=>⟨hkk i _ (ev p.2) e (by simp[aT,h4]) h5,hrr i (ek p.1) _ e (by simp[aT,h4]) h5⟩);refine⟨v,?_,h6⟩;unfold j7 at h5;simp only[execOp,ho,hA,h2,Instr.lookup];rw[Sem.run_bind,Sem.run_bind,hl.jY w];simp only[Result.andThen_ok];have hg:(getObj b).run P w=.ok (.map es clock) w:=by simp[getObj,Sem.run,hbb]
     rw[Sem.run_bind,hg];simp only[Result.andThen_ok];rw[Sem.run_bind,Sem.run_pure];simp only[Result.andThen_ok];erw [h5];rfl
end
end Go.Ab
namespace Go.Pl
theorem FT {a b x:Int} (h:x∈gg a b):a≤x∧x<b:=by
 unfold gg at h;obtain⟨i,hi,rfl⟩:=zAq.1 h;have:=zAs.1 hi;omega
theorem IF {f:aG} {r:bV} {all:Bool} {x:Int} (h:x∈rV f r all):r.from_≤x∧x<r.ak:=by
 unfold rV at h;obtain⟨p,_,hx⟩:=List.mem_flatMap.1 h;unfold jL at hx;exact FT (zD7.1 hx).1
theorem jy {f:aG} {M:Int} (hr:∀r∈f.ar,0≤r.from_∧r.from_<r.ak∧r.ak≤M) {u:Int} (hu:u≤M) {all:Bool}:∀(k:Nat) (bar x:Int),0≤bar→x∈fE f u all k bar→0≤x∧x<M
 |0,_,_,_,h=>by cases h
 | k + 1, bar, x, hb, h => by
   unfold fE at h;by_cases hlt:bar<u
   · rw[if_pos hlt] at h;cases hs:dW f.ar bar with
     | none =>
       rw[hs] at h;simp only[zAo] at h;rcases h with rfl|h
       · omega
       · exact jy hr hu k (bar+1) x oM h
     | some r =>
       rw[hs] at h;simp only[zAx] at h;have hm:=hr r (zBi hs);rcases h with h|h
       · have:=IF h;omega
       · exact jy hr hu k r.ak x oM h
   · rw[if_neg hlt] at h;cases h
theorem DF {f:aG} (h:aW f=true):0≤f.jump.to∧f.jump.at_≤f.bars∧f.jump.ch≤f.bars:=by
 unfold aW at h;simp only[zA0,dEt] at h;have hj:=h.1.1.2;have hb:=h.1.1.1.1.1.1;unfold dC at hj;rw[zC5] at hj;rcases hj with hj|hj
 · rw[of_decide_eq_true hj];exact⟨zBy _,by show(0:Int)≤_;omega,by show(0:Int)≤_;omega⟩
 · simp only[zA0,zB3,zAg,dEf] at hj;omega
theorem DG {f:aG} (h:aW f=true) {x:Int} (hx:x∈aK f):0≤x∧x<f.bars:=by
 obtain⟨j1,j2,j3⟩:=DF h;have hr:∀r∈f.ar,0≤r.from_∧r.from_<r.ak∧r.ak≤f.bars:=fun r hm=>by
  unfold aW at h;simp only[zA0,dEt] at h;have:=rY h.1.1.1.1.2.1 r hm;omega
 unfold aK bu at hx;split at hx
 · rcases zAx.1 hx with hx|hx
   · exact jy hr (zBy _) _ _ _ (zBy _) hx
   · exact jy hr j3 _ _ _ j1 hx
 · rcases zAx.1 hx with hx|hx
   · exact jy hr j2 _ _ _ (zBy _) hx
   · exact jy hr j3 _ _ _ j1 hx
end Go.Pl
