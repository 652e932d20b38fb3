/- Parts of the proof. No statement is proved here. -/
import Derived.Shelf.SortM.Plain
import Derived.Shelf.SortM.SortNone
import Derived.Shelf.Spec.SlicesInsertGrow
import Derived.Test.YtmjdoencpjpegaaGreatDoorChecked
import Derived.Test.YtmjdoencpjpegaaGreatDoorP7
set_option linter.unusedVariables false
set_option linter.unusedSimpArgs false
set_option maxHeartbeats 16000000
set_option maxRecDepth 20000
/-
 DERIVED: THE SHELF's CONTRACTS AT THIS DUMP,IN PLAIN WORDS (tools/lay-plain.mjs out of 'YtmjdoencpjpegaaGreatDoorShelf.lean',which tools/lay-shelf.mjs wrote): THE SAME DECLARATIONS UNDER THE SAME NAMES: 'import','namespace','open','def','theorem' AND NOTHING ELSE: no command of the shelf's: FOR A HAND-IN. Each laying: the table of numbers ('.._ren') and one theorem,a field a fact of the dump's own or the kernel's comparison;each contract: ONE APPLICATION.
-/
namespace Go.Proofs
open Go.Shelf
def Tryz.iN:Go.Shelf.Ren:=⟨fun|6=>186|15=>105|14=>216|28=>165|29=>166|20=>230|21=>231|22=>232|23=>233|24=>234|25=>235|26=>236|27=>237|46=>243|47=>192|48=>193|49=>244|50=>245|57=>248|n=>n,fun|22=>53|24=>106|25=>271|3=>3|39=>192|0=>0|53=>243|55=>245|4=>4|46=>236|45=>235|50=>137|5=>5|9=>9|66=>275|70=>279|76=>304|77=>305|n=>n,fun|n=>n⟩
theorem Tryz.pE:Go.Proofs.SlLaysF0.n6 Tryz.prog Tryz.iN:={
 mixed:=by kernel_rfl
 f6:=⟨Tryz.f186.name,by decide,Tryz.func186.trans (congrArg some (by kernel_rfl))⟩
 f14:=⟨Tryz.f216.name,by decide,Tryz.func216.trans (congrArg some (by kernel_rfl))⟩
 f15:=Tryz.func105.trans (congrArg some (by kernel_rfl))
 f20:=⟨Tryz.f230.name,by decide,Tryz.func230.trans (congrArg some (by kernel_rfl))⟩
 f21:=⟨Tryz.f231.name,by decide,Tryz.func231.trans (congrArg some (by kernel_rfl))⟩
 f22:=⟨Tryz.f232.name,by decide,Tryz.func232.trans (congrArg some (by kernel_rfl))⟩
 f23:=⟨Tryz.f233.name,by decide,Tryz.func233.trans (congrArg some (by kernel_rfl))⟩
 f24:=⟨Tryz.f234.name,by decide,Tryz.func234.trans (congrArg some (by kernel_rfl))⟩
 f25:=⟨Tryz.f235.name,by decide,Tryz.func235.trans (congrArg some (by kernel_rfl))⟩
 f26:=⟨Tryz.f236.name,by decide,Tryz.func236.trans (congrArg some (by kernel_rfl))⟩
 f27:=⟨Tryz.f237.name,by decide,Tryz.func237.trans (congrArg some (by kernel_rfl))⟩
 f28:=Tryz.func165.trans (congrArg some (by kernel_rfl))
 f29:=Tryz.func166.trans (congrArg some (by kernel_rfl))
 f46:=⟨Tryz.f243.name,by decide,Tryz.func243.trans (congrArg some (by kernel_rfl))⟩
 f47:=Tryz.func192.trans (congrArg some (by kernel_rfl))
 f48:=Tryz.func193.trans (congrArg some (by kernel_rfl))
 f49:=⟨Tryz.f244.name,by decide,Tryz.func244.trans (congrArg some (by kernel_rfl))⟩
 f50:=⟨Tryz.f245.name,by decide,Tryz.func245.trans (congrArg some (by kernel_rfl))⟩
 f57:=⟨Tryz.f248.name,by decide,Tryz.func248.trans (congrArg some (by kernel_rfl))⟩
 t0:=Tryz.underlying0
 a0:=Tryz.isAgg0
 z0:=Tryz.sizeOf0
 v0:=Tryz.zeroValue0
 t3:=Tryz.underlying3
 a3:=Tryz.isAgg3
 z3:=Tryz.sizeOf3
 v3:=Tryz.zeroValue3
 t4:=Tryz.underlying4
 a4:=Tryz.isAgg4
 z4:=Tryz.sizeOf4
 v4:=Tryz.zeroValue4
 t5:=Tryz.underlying5
 a5:=Tryz.isAgg5
 z5:=Tryz.sizeOf5
 v5:=Tryz.zeroValue5
 t9:=Tryz.underlying9
 a9:=Tryz.isAgg9
 z9:=Tryz.sizeOf9
 v9:=Tryz.zeroValue9
 t22:=Tryz.underlying53
 a22:=Tryz.isAgg53
 z22:=Tryz.sizeOf53
 v22:=Tryz.zeroValue53
 t25:=Tryz.underlying271
 a25:=Tryz.isAgg271
 z25:=Tryz.sizeOf271
 v25:=Tryz.zeroValue271
 t39:=Tryz.underlying192
 a39:=Tryz.isAgg192
 z39:=Tryz.sizeOf192
 v39:=Tryz.zeroValue192
 t45:=Tryz.underlying235
 a45:=Tryz.isAgg235
 z45:=Tryz.sizeOf235
 v45:=Tryz.zeroValue235
 t46:=Tryz.underlying236
 a46:=Tryz.isAgg236
 z46:=Tryz.sizeOf236
 v46:=Tryz.zeroValue236
 t50:=Tryz.underlying137
 a50:=Tryz.isAgg137
 z50:=Tryz.sizeOf137
 v50:=Tryz.zeroValue137
 t53:=Tryz.underlying243
 a53:=Tryz.isAgg243
 z53:=Tryz.sizeOf243
 v53:=Tryz.zeroValue243
 t55:=Tryz.underlying245
 a55:=Tryz.isAgg245
 z55:=Tryz.sizeOf245
 v55:=Tryz.zeroValue245
 t66:=Tryz.underlying275
 a66:=Tryz.isAgg275
 z66:=Tryz.sizeOf275
 v66:=Tryz.zeroValue275
 t70:=Tryz.underlying279
 a70:=Tryz.isAgg279
 z70:=Tryz.sizeOf279
 v70:=Tryz.zeroValue279
 t76:=Tryz.underlying304
 a76:=Tryz.isAgg304
 z76:=Tryz.sizeOf304
 v76:=Tryz.zeroValue304
 t77:=Tryz.underlying305
 a77:=Tryz.isAgg305
 z77:=Tryz.sizeOf305
 v77:=Tryz.zeroValue305 }
end Go.Proofs
namespace Go.Ab
def ig (m:Nat) (S':aa) (pn:Prop) (R:Exit→aa→Prop):Exit→Env→aa→Prop
 |.normal,_,s=>s.take m=S'∧pn
 |.ret,_,s=>R .ret (s.take m)
 |.exit id,_,s=>R (.exit id) (s.take m)
 |_,_,_=>False
theorem rb {P:Program} {pn:Prop} {n m:Nat} {rc:Loop} {E:List (Nat×AV)} {x:List AV} {Sj Sj':aa} {R:Exit→aa→Prop} (hrc:rc.state=.ready∧rc.pending=none) (hlen:Sj.length=m) (MM:Sj'.length=m) (hok':Sj'.all (ak m)=true)
 (jS:E.all (fun p=>aG m 4 p.2)=true) (hok:Sj.all (ak m)=true) (hR:∀x s,R x s→s.length=m∧s.all (ak m)=true) (hsz:rc.tmps.size=n) (hx:x.length=rc.params.size) (hpn:rc.params.toList.all (fun d=>decide (d<n))=true) (hxo:x.all (aG m 4)=true)
 (round:AWP P n rc.assign (fun x e s=>x=.normal∧AWP P n rc.body (ig m Sj' pn R) e s) ((Env.of E).pv (rc.params.toList.zip x)) Sj) :
 VCall P (.opq (.yld m)) x (Sj++[.loop rc E]) (fun r s=>(r=.b true∧s=Sj'++[.loop rc E]∧pn)∨(r=.b false∧∃s0 c,s=s0++[.loop { rc with state:=.done,pending:=some c } E]∧((c=.ret∧R .ret s0)∨∃id,c=.exit id∧R (.exit id) s0))):=by
 subst hlen;intro G w fn' vf vc vs hs hf ha;cases hf with
 |opq _ _ _ _ hf =>
 cases hf with
 |yld _ b hb =>
 obtain⟨b',hb',jc,hv,hs1⟩:=hs.aside hok;rw[hb] at hb';simp at hb';subst hb';have bg:(invoke (.fn (.yield b) #[]) (#[]++vs)).run P w=.ok (.round b rc.fn ((rc.params.zip vs).foldl (fun tmps (t,a)=>tmps.setIfInBounds t a) rc.tmps) rc.assign rc.body) w:=by
  have:(invoke (.fn (.yield b) #[]) (#[]++vs))=Instr.yield b vs:=by simp[invoke]
  rw[this];exact run_yield jc (by rw[ha.1,hx])
 rw[bg];simp only[kz];intro ro;have hGlen:G.B.length=Sj.length+1:=by rw[hs.len];simp
 refine roundIn_of_wpIn (F:=FR ro) trivial ?_
 have hr1:bd n { G with B:=G.B.take Sj.length,D:=(b,.loop rc)::G.D,R:=some b,F:=[] } (Env.of E) Sj { tmps:=rc.tmps,defers:=[] } w :=
  ⟨hsz,mg.nil _,fun i=>af.take 4 _ _ (yx jS i) (hv i),hs1.setF []⟩
 have hr2:=bd.pv rc.params.toList x vs.toList (Env.of E) _ hr1 (by simp[hx]) (by simpa using ha.1) (fun d hd=>by simpa using zA6.1 hpn d hd) fun i c hi=>by
  have:=af.take (m:=Sj.length) 4 c _ (zA6.1 hxo c (zAe hi)) (ha.2 i c hi);simpa[zA4,List.getD] using this
 have etm:(rc.params.zip vs).foldl (fun tmps (t,a)=>tmps.setIfInBounds t a) rc.tmps=(rc.params.toList.zip vs.toList).foldl (fun t (p,v)=>t.setIfInBounds p v) rc.tmps:=by
  rw[←Array.foldl_toList,Array.toList_zip]
 rw[etm];have h3:=round _ _ w hr2;refine wpIn_mono (F:=(FR ro).inRound b) h3 ?_;rintro xx a1 w1 ⟨e1,s1,G2,⟨rfl,MN⟩,tu,hr3⟩;have hD2:(b,Obj.loop rc)∈G2.D:=tu.d _ (zAr ..);have hb2:=(hr3.st.dfr.1 _ hD2).1;refine⟨_,run_beginRound hb2 hrc.1,?_⟩;have hs4:=hr3.st.reD hD2 { rc with state:=.busy };have hr4:bd n { G2 with D:=(b,.loop { rc with state:=.busy })::G2.D.filter (fun p=>p.1 != b),R:=some b } e1 s1 a1 (w1.putObj b (.loop { rc with state:=.busy })):=by
  obtain⟨ds,ds2,hds,hnd,hD⟩:=hr3.defers;refine⟨hr3.size,⟨ds,ds2,hds,hnd,fun b' hb'=>zAk _ (zCb.2 ⟨hD b' hb',?_⟩)⟩,hr3.bf,hs4⟩;have h5:=(hr3.st.dfr.1 _ (hD b' hb')).1;simp only[bne_iff_ne,ne_eq];intro e;subst e;rw[hb2] at h5;simp at h5
 have h4:=MN _ a1 _ hr4;refine wpIn_mono (F:=(FR ro).inRound b) h4 ?_;rintro xx a3 w3 ⟨e3,s3,G4,hk,tv,hr5⟩;have hD4:(b,Obj.loop { rc with state:=.busy })∈G4.D:=tv.d _ (zAr ..);have hb4:=(hr5.st.dfr.1 _ hD4).1;have hne:∀p∈G.D,p.1≠b:=fun p hp e=>(hs.dfr.1 p hp).2.2.1 Sj.length _ hb (by rw[e];rfl)
 have hB:BLe G.B (G4.B.take Sj.length++[.blk b]):=by
  intro l g hl;rcases zAb l Sj.length with hlt|hge
  · obtain⟨g2,k1,k2⟩:=tu.b l g (db hl hlt);obtain⟨g4,k3,k4⟩:=tv.b l g2 k1;refine⟨g4,?_,k2.trans k4⟩;have h6:(G4.B.take Sj.length)[l]? = some g4:=db k3 hlt;have:l<(G4.B.take Sj.length).length:=by
     rcases zAb l (G4.B.take Sj.length).length with h|h
     · exact h
     · simp[zA2 h] at h6
    rw[zA8 this];exact h6
  · have hl2:l=Sj.length:=by
     rcases zAb l G.B.length with h|h
     · omega
     · simp[zA2 h] at hl
    subst hl2;rw[hb] at hl;simp at hl;subst hl;have h4l:Sj.length≤G4.B.length:=by
     rcases zAb G4.B.length Sj.length with h|h
     · obtain⟨g2,k1,_⟩:=tu.b _ _ (db (zA1 (show G4.B.length<G.B.length by omega)) h);obtain⟨g4,k3,_⟩:=tv.b _ _ k1;simp at k3
     · exact h
    have hl4:(G4.B.take Sj.length).length=Sj.length:=by simp;omega
    exact⟨.blk b,by rw[zA7 oM,hl4];simp,GB.Le.refl _⟩
 have hM:G.M.Le G4.M:=tu.m.trans tv.m;have fin:∀(jump:Option Code) (r0:LoopState),(Instr.endRound b jump).run P w3=.ok (.bool jump.isNone) (w3.putObj b (.loop { { rc with state:=LoopState.busy } with state:=if jump.isNone then .ready else .done,pending:=jump })):=fun jump _=>run_endRound jump hb4
 have back:∀(r':Loop),r'.tmps=rc.tmps→(s3.take Sj.length).length=Sj.length→(s3.take Sj.length).all (ak Sj.length)=true →
  ∃G5:Gh,G.Le G5∧az G5 (s3.take Sj.length++[.loop r' E]) (w3.putObj b (.loop r')):=fun r' htm hl5 hok5=>by
  have h7:=hr5.st.take Sj.length hok5;refine⟨{ G4 with B:=G4.B.take Sj.length++[.blk b],D:=G.D,R:=G.R,F:=G.F },⟨tv.m0.trans tu.m0,tv.w0.trans tu.w0,hM,hB,fun _ h=>h,rfl,rfl⟩,?_⟩;refine az.setF (G:={ G4 with B:=G4.B.take Sj.length++[.blk b],D:=G.D,R:=G.R }) ?_ G.F;exact h7.J6 hD4 r' E (fun i=>by rw[htm];exact(hv i).mono hM hB) (fun p hp=>⟨tv.d _ (zAk _ (zCb.2 ⟨tu.d _ (zAk _ hp),by simpa using hne p hp⟩)),hne p hp⟩) hs.dfr.2
 cases xx with
 | normal =>
   obtain⟨hk,hpn'⟩:=hk;obtain⟨G5,g1,g2⟩:=back { rc with state:=.ready,pending:=none } rfl (by rw[hk];exact MM) (by rw[hk];exact hok');refine⟨_,_,fin none .ready,.b true,_,G5,.inl ⟨rfl,?_,hpn'⟩,g1,g2,.prim _⟩;have:({ rc with state:=.ready,pending:=none }:Loop)=rc:=by
    obtain⟨h1,h2⟩:=hrc;cases rc;simp at h1 h2;subst h1;subst h2;rfl
   rw[hk,this]
 | ret =>
   simp only[ig] at hk;obtain⟨h8,h9⟩:=hR _ _ hk;obtain⟨G5,g1,g2⟩:=back { rc with state:=.done,pending:=some .ret } rfl h8 h9;exact⟨_,_,fin (some .ret) .ready,.b false,_,G5,.inr ⟨rfl,_,.ret,rfl,.inl ⟨rfl,hk⟩⟩,g1,g2,.prim _⟩
 | exit id =>
   simp only[ig] at hk;obtain⟨h8,h9⟩:=hR _ _ hk;obtain⟨G5,g1,g2⟩:=back { rc with state:=.done,pending:=some (.exit id) } rfl h8 h9;exact⟨_,_,fin (some (.exit id)) .ready,.b false,_,G5,.inr ⟨rfl,_,.exit id,rfl,.inr ⟨id,rfl,hk⟩⟩,g1,g2,.prim _⟩
 |_=>exact hk.elim
def nK (P:Program) (k:FuncId) (first aM:List AV) (xs:List (List AV)) (L:Nat) (S:Nat→aa) (Pj:Nat→Prop):Prop :=
 ∀(yv:AV) (R:Nat→aa→Prop),Pj 0→(∀j,j≤xs.length→(S j).length=L∧(S j).all (ak L)=true)→(∀j s,R j s→s.length=L∧s.all (ak L)=true) →
  (∀d,aG L (d+1) yv=true)→(∀j x,xs[j]? = some x→Pj j→VCall P (.opq yv) x (S j) (fun r s=>(r=.b true∧s=S (j+1)∧Pj (j+1))∨(r=.b false∧R j s))) →
  TCall P k (first++[.opq yv]++aM) (S 0) (fun _ s=>(s=S xs.length∧Pj xs.length)∨∃j,j<xs.length∧R j s)
theorem AWP.gU {P:Program} {n:Nat} {K:Exit→Env→aa→Prop} {env:Env} {σ:aa} {g:Operand} {ps:Array Tmp} {assign body:Code} {k:FuncId} {first aM:List AV}
 (xs:List (List AV)) (E:List (Nat×AV)) (S:Nat→aa) (Pj:Nat→Prop) (R:Nat→Exit→aa→Prop) (iter:∀rc:Loop,nK P k first aM xs (σ.length+1) (fun j=>S j++[.loop rc E]) Pj) (hP0:Pj 0) (hg:rdv env g=some (.fn (.func k) first aM)) (ng:rdn env g)
 (hps:∀x∈xs,x.length=ps.size) (hxo:∀x∈xs,x.all (aG σ.length 4)=true) (hpn:ps.toList.all (fun d=>decide (d<n))=true) (hE:iy env E) (jS:E.all (fun p=>aG σ.length 4 p.2)=true)
 (hS0:S 0=σ) (hS:∀j,j≤xs.length→(S j).length=σ.length∧(S j).all (ak σ.length)=true)
 (hR:∀j x s,R j x s→s.length=σ.length∧s.all (ak σ.length)=true)
 (round:∀j x,xs[j]? = some x→Pj j→AWP P n assign (fun x e s=>x=.normal∧AWP P n body (ig σ.length (S (j+1)) (Pj (j+1)) (R j)) e s) ((Env.of E).pv (ps.toList.zip x)) (S j))
 (done:Pj xs.length→K .normal env (S xs.length)) (left:∀j x s,j<xs.length→R j x s→K x env s):AWP P n (.rangeFunc g ps assign body) K env σ:=by
 intro G a w hr;have hgv:=hr.rd (Rd.w hg ng);generalize hA:a.eval g=y at hgv;cases hgv with
 |fn _ _ _ vf vc hvf hvc h1 h2 =>
 refine wpIn_rangeFunc fun fn _=>?_
 obtain⟨l,mark,W1,rc,D1,pg,⟨hc1,hc2,hc3,hc4,hc5,hc6⟩,hD1,G6,hs1⟩:=uj hr E hE.tf fn ps assign body;have hlen:G.B.length=σ.length:=hr.st.len
 have hT:=iter rc (.yld σ.length)
  (fun j s=>∃s0 c,s=s0++[.loop { rc with state:=.done,pending:=some c } E]∧((c=.ret∧R j .ret s0)∨∃id,c=.exit id∧R j (.exit id) s0))
  hP0 (fun j hj=>by
   obtain⟨k1,k2⟩:=hS j hj;refine⟨by simp[k1],?_⟩;rw[zBs,dx (zBl _) k2];simpa using kA (o:=.loop rc E) (zBl σ.length) jS)
  (fun j s hs=>by
   obtain⟨s0,c,rfl,hc⟩:=hs;have k:s0.length=σ.length∧s0.all (ak σ.length)=true:=by
    rcases hc with ⟨_,hc⟩|⟨id,_,hc⟩
    · exact hR _ _ _ hc
    · exact hR _ _ _ hc
   refine⟨by simp[k.1],?_⟩;rw[zBs,dx (zBl _) k.2];simpa using kA (o:=.loop { rc with state:=.done,pending:=some c } E) (zBl σ.length) jS)
  (fun d=>by simp[aG])
  (fun j x hx hp=>by
   have hj:j<xs.length:=by
    rcases zAb j xs.length with h|h
    · exact h
    · simp[zA2 h] at hx
   have hxm:=zAe hx;refine rb (n:=n) ⟨hc1,hc2⟩ (hS j oM).1 (hS (j+1) oM).1 (hS (j+1) oM).2 jS (hS j oM).2 (hR j) (by rw[hc3];exact hr.size) (by rw[hc4];exact hps x hxm) (by rw[hc4];exact hpn) (hxo x hxm) ?_;rw[hc4,hc5,hc6];exact round j x hx hp)
 have hB1:BLe G.B (G.B++[.blk l]):=BLe.append _ _;have hm:(G.B++[GB.blk l])[σ.length]? = some (.blk l):=by rw[←hlen];simp
 have gC:fJ { G with B:=G.B++[.blk l],D:=D1 } (first++[.opq (.yld σ.length)]++aM) (vf++#[.func (.yield l) #[] #[]]++vc) :=
  ((fJ.append (G := { G with B := G.B ++ [.blk l], D := D1 }) ⟨hvf, fun i c hi => (h1 i c hi).mono (Mem.Le.refl _) hB1⟩ ⟨rfl, fun i c hi => by
    cases i with
    |zero=>simp at hi;subst hi;exact .opq _ _ _ _ (.yld _ l hm)
    |succ i=>simp at hi⟩).append ⟨hvc,fun i c hi=>(h2 i c hi).mono (Mem.Le.refl _) hB1⟩)
 have CJ:=hT.2 { G with B:=G.B++[.blk l],D:=D1 } W1 _ (by show az _ (S 0++[aF.loop rc E]) W1;rw[hS0];exact hs1) gC;refine⟨l,mark,W1,{ target:=.fn (.func k) vc,args:=vf++#[.func (.yield l) #[] #[]] },W1,k,vf++#[.func (.yield l) #[] #[]]++vc,W1,pg,?_,fun _ _=>trivial,?_,?_,?_⟩
 · simp only[resolve,hA];simp[go_sem,Act.eval,Deferred.ofValue]
 · simp only[invoke];exact eD hT.1 _ _
 · intro hd;simp[FR,Fence.wide] at hd
 · refine uo (ro:=G.R) ?_;refine Calls.mono CJ ?_;rintro e w' ⟨v,rv,σ',G',rfl,hQ,hle,hs',_⟩;have hBl:G'.B[σ.length]? = some (.blk l):=by
    obtain⟨g',k1,k2⟩:=hle.b _ _ hm;simp only[GB.Le] at k2;subst k2;exact k1
   -- what is left when the loop is over
   have over:∀(s0:aa) (r:Loop),s0.length=σ.length→s0.all (ak σ.length)=true→az G' (s0++[.loop r E]) w'→r.state≠.busy →
    ∃G'' w'',(Instr.endLoop l).run P w'=.ok r.pending w''∧G.Le G''∧bd n G'' env s0 { a with defers:=mark++a.defers } w'':=fun s0 r hl0 ho0 hs0 hbusy=>by
    obtain⟨l',hb',jc,_,hsa⟩:=hs0.aside (by rw[hl0];exact ho0);rw[hl0,hBl] at hb';simp at hb';subst hb';have hne:∀p∈G'.D,p.1≠l:=fun p hp e=>(hs0.dfr.1 p hp).2.2.1 _ _ hBl (by rw[e];rfl)
    have hu:=(hsa.oH (D':=G'.D) (zAr ..) (.loop { r with state:=.exhausted }) fun p hp=>⟨zAk _ hp,hne p hp⟩);have hu2:=az.setR (G:={ G' with B:=G'.B.take s0.length }) (R':=G'.R) hu hs0.dfr.2;have hBe:BLe G.B (G'.B.take s0.length):=fun i g hi=>by
     obtain⟨g',k1,k2⟩:=(hB1.trans hle.b) i g hi;have:i<s0.length:=by
      rcases zAb i G.B.length with h|h
      · omega
      · simp[zA2 h] at hi
     exact⟨g',db k1 this,k2⟩
    refine⟨{ G' with B:=G'.B.take s0.length },_,run_endLoop jc hbusy,⟨hle.m0,hle.w0,hle.m,hBe,fun p hp=>hle.d p (hD1 p hp),hle.r,hle.f⟩,hr.size,by rw[show({ G' with B:=G'.B.take s0.length }:Gh).F=G.F from hle.f];exact G6.mono hle.d,fun i=>(hr.bf i).mono hle.m hBe,hu2⟩
   rcases hQ with ⟨rfl,hPn⟩|⟨j,hj,s0,c,rfl,hc⟩
   · obtain⟨k1,k2⟩:=hS xs.length (zAt _);obtain⟨G'',w'',h3,h4,h5⟩:=over _ rc k1 k2 hs' (by rw[hc1];simp);rw[hc2] at h3;exact⟨none,w'',h3,env,_,G'',done hPn,h4,h5⟩
   · rcases hc with ⟨rfl,hc⟩|⟨id,rfl,hc⟩
     · obtain⟨k1,k2⟩:=hR _ _ _ hc;obtain⟨G'',w'',h3,h4,h5⟩:=over s0 _ k1 k2 hs' sMp;exact⟨some .ret,w'',h3,wpIn_ret ⟨env,_,G'',left _ _ _ hj hc,h4,h5⟩⟩
     · obtain⟨k1,k2⟩:=hR _ _ _ hc;obtain⟨G'',w'',h3,h4,h5⟩:=over s0 _ k1 k2 hs' sMp;exact⟨some (.exit id),w'',h3,wpIn_exit ⟨env,_,G'',left _ _ _ hj hc,h4,h5⟩⟩
end Go.Ab
namespace Go.Pl
structure cL where
 from_:Int
 aI:Int
 times:Int
 deriving DecidableEq,Inhabited
structure jT where
 from_:Int
 aI:Int
 pass:Int
 deriving DecidableEq,Inhabited
structure PJmp where
 at_:Int
 to:Int
 dc:Int
 deriving DecidableEq,Inhabited
structure cd where
 from_:Int
 aI:Int
 pass:Int
 deriving DecidableEq,Inhabited
structure aR where
 bars:Int
 aC:List cL
 ends:List jT
 jump:PJmp
 cuts:List cd
 deriving DecidableEq,Inhabited
structure om where
 bar:Int
 pass:Int
 deriving DecidableEq,Inhabited
def eG (bars:Int):Int→List cL→Bool
 |_,[]=>true
 |last,r::l=>!(decide (r.from_<last)||decide (r.aI≤r.from_)||decide (bars<r.aI)||decide (r.times<1)||decide (9<r.times))&&eG bars r.aI l
def je (l:List cL) (a b:Int):Bool:=l.any fun r=>decide (r.from_≤a)&&decide (b≤r.aI)
def j7 (l:List cL) (bar:Int):Bool:=l.any fun r=>decide (r.from_<bar)&&decide (bar<r.aI)
def mC (l:List jT) (bar pass:Int):Bool:=l.all fun x=>!(decide (x.from_≤bar)&&decide (bar<x.aI)&&decide (x.pass≠pass))
def l8 (a b:Int):List Int:=(List.range (b - a).toNat).map fun (i:Nat)=>a+(i:Int)
theorem yQ {a b:Int} (h:b≤a):l8 a b=[]:=by
 unfold l8;rw[show(b - a).toNat=0 by omega];rfl
theorem wP {a b:Int} (h:a<b):l8 a b=a::l8 (a+1) b:=by
 unfold l8;obtain⟨k,hk⟩:∃k,(b - a).toNat=k+1:=⟨(b - a).toNat - 1,oM⟩
 rw[hk,show(b - (a+1)).toNat=k by omega,List.range_succ_eq_map,zBd,zCo];congr 1
 · simp
 · refine zCs fun i _=>?_
   show a+((i+1:Nat):Int)=a+1+(i:Int);omega
def sj (f:aR) (r:cL) (pass:Int):List Int:=(l8 r.from_ r.aI).filter fun i=>mC f.ends i pass
def yS (f:aR) (r:cL) (all:Bool):List Int:=(l8 (if all then 1 else r.times) (r.times+1)).flatMap (sj f r)
def fS (l:List cL) (bar:Int):Option cL:=l.find? fun r=>r.from_==bar
def cV (f:aR) (aI:Int) (all:Bool):Nat→Int→List Int
 |0,_=>[]
 |k+1,bar=>if bar<aI then (match fS f.aC bar with|none=>bar::cV f aI all k (bar+1)|some r=>yS f r all++cV f aI all k r.aI) else []
def ck (f:aR) (from_ aI:Int) (all:Bool):List Int:=cV f aI all (aI - from_).toNat from_
theorem mm {f:aR} (h:∀r∈f.aC,r.from_<r.aI) (u:Int) (all:Bool):∀(k m:Nat) (bar:Int),(u - bar).toNat≤k→(u - bar).toNat≤m→cV f u all k bar=cV f u all m bar
 |0,0,_,_,_=>rfl
 | 0, m + 1, bar, h1, _ => by
   unfold cV;rw[if_neg oM]
 | k + 1, 0, bar, _, h2 => by
   unfold cV;rw[if_neg oM]
 | k + 1, m + 1, bar, h1, h2 => by
   unfold cV;by_cases hb:bar<u
   · rw[if_pos hb,if_pos hb];cases hs:fS f.aC bar with
     | none =>
       simp only;rw[mm h u all k m (bar+1) oM oM]
     | some r =>
       simp only;have hr:=h r (zBy hs);have he:r.from_=bar:=by
        have:=zD2 hs;simpa using this
       rw[mm h u all k m r.aI oM oM]
   · rw[if_neg hb,if_neg hb]
theorem G7 {f:aR} {a u:Int} (h:u≤a) (all:Bool):ck f a u all=[]:=by
 unfold ck;rw[show(u - a).toNat=0 by omega];rfl
theorem G8 {f:aR} (h:∀r∈f.aC,r.from_<r.aI) {a u:Int} (hl:a<u) (all:Bool) (hs:fS f.aC a=none):ck f a u all=a::ck f (a+1) u all:=by
 unfold ck;obtain⟨k,hk⟩:∃k,(u - a).toNat=k+1:=⟨(u - a).toNat - 1,oM⟩
 rw[hk];show(if a<u then _ else _)=_;rw[if_pos hl,hs];simp only;rw[mm h u all k (u - (a+1)).toNat (a+1) oM (zAt _)]
theorem G9 {f:aR} (h:∀r∈f.aC,r.from_<r.aI) {a u:Int} (hl:a<u) (all:Bool) {r:cL} (hs:fS f.aC a=some r):ck f a u all=yS f r all++ck f r.aI u all:=by
 have hr:=h r (zBy hs);have he:r.from_=a:=by
  have:=zD2 hs;simpa using this
 unfold ck;obtain⟨k,hk⟩:∃k,(u - a).toNat=k+1:=⟨(u - a).toNat - 1,oM⟩
 rw[hk];show(if a<u then _ else _)=_;rw[if_pos hl,hs];simp only;rw[mm h u all k (u - r.aI).toNat r.aI oM (zAt _)]
def br (f:aR):List Int:=if f.jump.at_=0 then ck f 0 f.bars true++ck f f.jump.to f.jump.dc false else ck f 0 f.jump.at_ true++ck f f.jump.to f.jump.dc false
def k9 (l:List Int):List om:=(List.range l.length).map fun i=>⟨l.getD i 0,((l.take (i+1)).count (l.getD i 0):Int)⟩
def leaves (c:cd) (v:om):Bool:=decide (c.from_≤v.bar)&&decide (v.bar<c.aI)&&(decide (c.pass=0)||decide (c.pass=v.pass))
def LD (f:aR):List om:=(k9 (br f)).filter fun v=>!(f.cuts.any fun c=>leaves c v)
def hK (aC:List cL):Int→List jT→Bool
 |_,[]=>true
 |last,x::l=>!(decide (x.from_<last)||decide (x.aI≤x.from_)||!je aC x.from_ x.aI||decide (x.pass<1)||decide (9<x.pass))&&hK aC x.aI l
def jx (f:aR):Bool :=
 decide (f.jump=⟨0,0,0⟩) ||
 (!(decide (f.jump.at_<1)||decide (f.bars<f.jump.at_)||decide (f.jump.to<0)||decide (f.jump.at_≤f.jump.to)||decide (f.jump.dc≤f.jump.to)||decide (f.bars<f.jump.dc)) &&
  (!j7 f.aC f.jump.at_&&!j7 f.aC f.jump.to&&!j7 f.aC f.jump.dc))
def iB (bars:Int) (c:cd):Bool:=decide (0≤c.from_)&&decide (c.from_<c.aI)&&decide (c.aI≤bars)&&decide (0≤c.pass)&&decide (c.pass≤20)
def jy (bars:Int) (l:List cd):Bool:=l.all (iB bars)&&decide l.Nodup
def bB (f:aR):Bool :=
 decide (1≤f.bars)&&decide (f.bars≤4000)&&(eG f.bars 0 f.aC&&decide (f.aC.length≤100))&&(hK f.aC 0 f.ends&&decide (f.ends.length≤100))&&jx f&&(jy f.bars f.cuts&&decide (f.cuts.length≤100))&&decide ((br f).length≤20000)
theorem yT {bars:Int}:∀{l:List cL} {last:Int},eG bars last l=true→∀r∈l,last≤r.from_∧r.from_<r.aI∧r.aI≤bars∧1≤r.times∧r.times≤9
 |[],_,_,r,hr=>by cases hr
 | x :: l, last, h, r, hr => by
   unfold eG at h;simp only[zA0,zB1,zAl,dEf] at h;obtain⟨⟨⟨⟨⟨h1,h2⟩,h3⟩,h4⟩,h5⟩,h6⟩:=h;rcases zAw.1 hr with rfl|hr
   · omega
   · have:=yT h6 r hr;omega
def mD (f:aR) (c:cd):aR:={ f with cuts:=f.cuts++[c] }
theorem re (f:aR) (c:List cd) (u:Int) (all:Bool):∀(k:Nat) (bar:Int),cV { f with cuts:=c } u all k bar=cV f u all k bar
 |0,_=>rfl
 | k + 1, bar => by
   unfold cV;split
   · show(match fS f.aC bar with|none=>bar::cV { f with cuts:=c } u all k (bar+1)|some r=>yS f r all++cV { f with cuts:=c } u all k r.aI)=_;cases fS f.aC bar with
     |none=>simp only;rw[re f c u all k]
     |some r=>simp only;rw[re f c u all k]
   · rfl
theorem uB (f:aR) (c:List cd):br { f with cuts:=c }=br f:=by
 unfold br ck;simp only[re]
theorem EG (f:aR) (c:cd):br (mD f c)=br f:=uB f _
theorem Ha {f:aR} {c:cd} (h:bB f=true) (hc:iB f.bars c=true) (hn:c∉f.cuts) (hl:f.cuts.length<100):bB (mD f c)=true:=by
 unfold bB at h ⊢;simp only[zA0,dEt] at h ⊢;obtain⟨⟨⟨⟨⟨⟨h1,h2⟩,h3⟩,h4⟩,h5⟩,h6,h7⟩,h8⟩:=h;refine⟨⟨⟨⟨⟨⟨h1,h2⟩,h3⟩,h4⟩,h5⟩,?_,?_⟩,by rw[EG];exact h8⟩
 · unfold jy at h6 ⊢;simp only[zA0,dEt,zA6] at h6 ⊢;refine⟨fun x hx=>?_,?_⟩
   · rcases zAy.1 hx with hx|hx
     · exact h6.1 x hx
     · rw[zA9.1 hx];exact hc
   · show(f.cuts++[c]).Nodup;rw[zBz];refine⟨h6.2,by simp,fun a ha b hb=>?_⟩;rw[zA9.1 hb];exact fun g=>hn (g▸ha)
 · show(f.cuts++[c]).length≤100;rw[zDj,zC9];omega
def j8 (f:aR) (c:cd):aR:={ f with cuts:=f.cuts.erase c }
inductive Jg where
 |yes
 |cut
 |never
 deriving DecidableEq
def force (f:aR) (v:om):Jg:=if v∈LD f then .yes else if v∈k9 (br f) then .cut else .never
end Go.Pl
namespace Go.Ab
open Go.Sort Go.Proofs
def dG (xs:List Int):List Int:=xs.mergeSort fun x y=>decide (x≤y)
theorem nL (xs:List Int):(dG xs).length=xs.length:=by unfold dG;simp
theorem mn (xs:List Int):(dG xs).Perm xs:=List.mergeSort_perm _ _
theorem rf (xs:List Int):(dG xs).Pairwise (·≤·):=by
 have h:=List.pairwise_mergeSort (le:=fun x y:Int=>decide (x≤y)) (fun a b c h1 h2=>by simp at *;omega) (fun a b=>by simp;omega) xs;exact h.imp fun h=>by simpa using h
theorem xz {xs ys:List Int} (h:xs.Perm ys):dG xs=dG ys:=by
 refine List.Perm.eq_of_pairwise (le:=(·≤·)) (fun a b _ _ h1 h2=>Int.le_antisymm h1 h2) (rf xs) (rf ys) ?_;exact((mn xs).trans h).trans (mn ys).symm
abbrev eZ (x:Int):List AV:=[AV.int x]
theorem TCall.LF {P:Program} {ρ:Shelf.Ren} (L:SlLaysM.n5 P ρ) (hfn:ke P (ρ.f 5)) {σ:aa} {t:Tok}:TCall P (ρ.f 5) [.sl 1 [] t] σ (fun r s=>r=.tup []∧s=σ):=by
 refine⟨hfn,fun G w vs hs ha=>?_⟩;obtain⟨ha1,ha2⟩:=ha;have r0:=ha2 0 _ rfl;obtain⟨v0,rfl⟩:∃v0,vs=#[v0]:=by
  simp at ha1;exact⟨vs[0]'oM,Array.ext (by simp[ha1]) fun i h1 h2=>by
   have:i=0:=by simp at h2;omega
   subst this;rfl⟩
 simp at r0;obtain⟨ad,c,rfl⟩:∃ad c,v0=.slice ad 0 c:=by
  cases r0 with
  |sl=>exact⟨_,_,rfl⟩
  |slz=>exact⟨_,_,rfl⟩
  |slzz=>exact⟨_,_,rfl⟩
 refine(AnyM.slices_Sort_int_none L ad c w).mono ?_;rintro e w' ⟨rfl,rfl⟩;exact⟨.tuple #[],.tup [],_,G,rfl,⟨rfl,rfl⟩,Gh.Le.refl G,hs,.tup [] #[] rfl sMp⟩
theorem TCall.dG {P:Program} {ρ:Shelf.Ren} (L:SlLaysM.n5 P ρ) (hfn:ke P (ρ.f 5)) {σ:aa} {l ver:Nat} {xs:List Int} (hσ:σ[l]? = some (.arr 1 ver (xs.map eZ))) (hn:xs.length<4611686018427387904) (h0:0<xs.length) :
 TCall P (ρ.f 5) [.sla l 1 0 xs.length ver] σ (fun r s=>r=.tup []∧s=σ.set l (.arr 1 ver ((Go.Ab.dG xs).map eZ))):=by
 refine⟨hfn,fun G w vs hs ha=>?_⟩;obtain⟨ha1,ha2⟩:=ha;have r0:=ha2 0 _ rfl;obtain⟨v0,rfl⟩:∃v0,vs=#[v0]:=by
  simp at ha1;exact⟨vs[0]'oM,Array.ext (by simp[ha1]) fun i h1 h2=>by
   have:i=0:=by simp at h2;omega
   subst this;rfl⟩
 simp at r0;generalize hxs:xs.map eZ=es at hσ;have hel:es.length=xs.length:=by rw[←hxs];simp
 cases r0 with
 |sla _ _ _ _ _ a c h =>
 obtain⟨ob,cap,n',hB,hle,hat⟩:=h;have cw:=hs.aZ l _ _ hB hσ;cases cw with
 |arrz=>simp at hel;omega
 |arr b _ _ _ _ cc T fr hbb hf hl hnn hz hr hm =>
 obtain⟨k1,k2⟩:=hat rfl;rcases k2 with k2|⟨rfl,rfl⟩
 · omega
 have hblk:=(hs.fresh l _ b hB rfl).2;have dY:∀i,i<xs.length→cc.getD i undef=Value.int .i64 (xs.getD i default):=fun i hi=>by
  have he:es[i]? = some (eZ (xs.getD i default)):=by rw[←hxs];simp[List.getD,hi]
  have:=af.aP (hr i 0 _ _ he rfl);simpa using this
 have hmp:G.M.map b=none:=cE hs.ax hbb (by intros;simp);have hcs:xs.length≤cc.size:=by rw[hl,←hel];omega
 have hH:Holds (Value.int .i64) w b 0 xs.toArray:=fun j hj=>by
  have hj':j<xs.length:=by simpa using hj
  have h4:=dY j hj';have hlt:j<cc.size:=oM;refine⟨?_,?_⟩
  · simp only[World.cell?,hbb,zC3];have e1:cc[j]? = some (cc.getD j undef):=by simp[zA4,hlt]
    simp only[Option.isSome_none,zB7,if_false];rw[e1,h4];have e2:xs.toArray[j]! = xs.getD j default:=by simp[List.getD,hj']
    rw[e2]
  · have:=hf (0+j) oM;simp only[World.frozen?,hbb];simpa using this
 have main:=AnyM.slices_Sort_int L b 0 c xs w hH hblk hn;have hz0:(0:Nat) * 1=0:=rfl;simp only[zB4,hz0] at main ⊢;refine main.mono ?_;rintro e w' ⟨rfl,n,os,rfl⟩;have hDL:(xs.mergeSort fun x y=>decide (x≤y))=Go.Ab.dG xs:=rfl;rw[hDL];obtain⟨D,hD⟩:∃D,D=(Go.Ab.dG xs).toArray:=⟨_,rfl⟩
 have hDt:Go.Ab.dG xs=D.toList:=by rw[hD]
 have hDs:D.size=xs.length:=by rw[hD];simp[nL]
 rw[←hD,hDt];have hb1:(putRow (Value.int .i64) (Go.Sort.ahead w n) b 0 D).heap[b]? = some (.cells (putCells (Value.int .i64) 0 D cc) T fr):=by
  simp[putRow,mapBlock,Go.Sort.ahead,zBc,hbb,onCells]
 have hs1:az G (σ.set l (.arr 1 ver (D.toList.map eZ))) (putRow (Value.int .i64) (Go.Sort.ahead w n) b 0 D):=by
  refine hs.upd hB rfl (by simp[putRow,mapBlock,Go.Sort.ahead]) (fun k hk'=>?_) (.arr b _ 1 ver _ (putCells (Value.int .i64) 0 D cc) T fr hb1 ?_ ?_ ?_ ?_ ?_ hm) ⟨hm,hmp⟩ ⟨⟨rfl,rfl⟩,rfl,zE5 _ _⟩
  · simp only[putRow,mapBlock,Go.Sort.ahead];rw[zBc,if_neg (Ne.symm hk')]
  · have:(putCells (Value.int .i64) 0 D cc).size=cc.size:=by simp[putCells]
    rw[this];exact hf
  · simp[putCells,hl]
  · simp[hDs];omega
  · intro x hx;obtain⟨z,_,rfl⟩:=zAf.1 hx;rfl
  · intro i j x a hi hj;simp only[zA3,zA5] at hi;obtain⟨z,hz1,rfl⟩:=hi;have hi1:i<D.size:=by
     have:=(zAd.1 hz1).1;simpa using this
    have hj0:j=0:=by
     have:=(zAd.1 hj).1;simp at this;omega
    subst hj0;simp at hj;subst hj;have hcl:i<cc.size:=oM;have e2:D[i]! = z:=by
     have:=(zAd.1 hz1).2;rw[getElem!_pos D i hi1,←this];simp
    have e1:(putCells (Value.int .i64) 0 D cc).getD (i * 1+0) undef=Value.int .i64 z:=by
     rw[←e2];simp[putCells,zA4,hcl,hi1]
    rw[e1];exact .prim _
 have hs2:=hs1.after (M':=G.M) (w':=grow (putRow (Value.int .i64) (Go.Sort.ahead w n) b 0 D) os) ⟨Mem.Le.refl _,⟨fun b' o v h=>?_,fun b' es' h=>?_,hs1.ax.g⟩,by simp[grow],fun b' hb'=>by simp only[grow];rw[zAo hb'],fun _ _=>⟨fun _=>rfl,rfl⟩,⟨⟨rfl,rfl⟩,rfl,zAt _⟩⟩
 · exact⟨.tuple #[],.tup [],_,{ G with M:=G.M },rfl,⟨rfl,rfl⟩,Gh.Le.refl _,hs2,.tup [] #[] rfl sMp⟩
 · have h1:=hs1.ax.c b' o v h;have hlt:b'<(putRow (Value.int .i64) (Go.Sort.ahead w n) b 0 D).heap.size:=by
    rcases zAb b' (putRow (Value.int .i64) (Go.Sort.ahead w n) b 0 D).heap.size with h'|h'
    · exact h'
    · simp[World.cell?,zAp h'] at h1
   simp only[grow,World.cell?] at h1 ⊢;rw[zAo hlt];exact h1
 · obtain⟨clk,h1⟩:=hs1.ax.m b' es' h;have hlt:b'<(putRow (Value.int .i64) (Go.Sort.ahead w n) b 0 D).heap.size:=by
    rcases zAb b' (putRow (Value.int .i64) (Go.Sort.ahead w n) b 0 D).heap.size with h'|h'
    · exact h'
    · simp[zAp h'] at h1
   refine⟨clk,?_⟩;simp only[grow];rw[zAo hlt];exact h1
theorem AWP.CK {P:Program} {n:Nat} {c:Code} {K:Exit→Env→aa→Prop} {env:Env} {σ:aa} {t:Tok} (d sz:Nat) (hd:env d=.sl sz [] t) (hk:AWP P n c K (env.put d (.sl sz [] .no)) σ):AWP P n c K env σ :=
 AWP.weaken (fun M B i x hx=>by
  unfold Env.put;by_cases hi:i=d
  · subst hi;rw[if_pos rfl];rw[hd] at hx;cases hx with
    |sl _ _ _ b off cap f hz hm hr hc ht=>exact .sl sz [] .no b off cap f hz hm hr hc trivial
    |slz _ _ ht=>exact .slz sz .no trivial
    |slzz _ a cap=>exact .slzz sz a cap
  · rw[if_neg hi];exact hx) hk
theorem MP (l:List Int):∀e∈l.map eZ,∀a∈e,∀M B x,af M B a x→af M [] a x:=fun e he a ha M B x hx=>by
 obtain⟨c,_,rfl⟩:=zAf.1 he;rw[zA9.1 ha] at hx ⊢;cases hx;exact .prim _
end Go.Ab
/-
 DERIVED: THE SHELF's CONTRACTS AT THIS DUMP,IN PLAIN WORDS (tools/lay-plain.mjs out of 'YtmjdoencpjpegaaGreatDoorShelfI.lean',which tools/lay-shelf.mjs wrote): THE SAME DECLARATIONS UNDER THE SAME NAMES: 'import','namespace','open','def','theorem' AND NOTHING ELSE: no command of the shelf's: FOR A HAND-IN. Each laying: the table of numbers ('.._ren') and one theorem,a field a fact of the dump's own or the kernel's comparison;each contract: ONE APPLICATION.
-/
namespace Go.Proofs
open Go.Shelf
def Tryz.pF:Go.Shelf.Ren:=⟨fun|21=>133|27=>173|28=>174|35=>211|39=>226|n=>n,fun|22=>43|3=>3|4=>4|0=>0|n=>n,fun|n=>n⟩
theorem Tryz.insI:Go.Proofs.Lays2.n21 Tryz.prog Tryz.pF:={
 mixed:=by kernel_rfl
 f21:=Tryz.func133.trans (congrArg some (by kernel_rfl))
 f27:=Tryz.func173.trans (congrArg some (by kernel_rfl))
 f28:=Tryz.func174.trans (congrArg some (by kernel_rfl))
 f35:=Tryz.func211.trans (congrArg some (by kernel_rfl))
 f39:=Tryz.func226.trans (congrArg some (by kernel_rfl))
 t0:=Tryz.underlying0
 a0:=Tryz.isAgg0
 z0:=Tryz.sizeOf0
 v0:=Tryz.zeroValue0
 t3:=Tryz.underlying3
 a3:=Tryz.isAgg3
 z3:=Tryz.sizeOf3
 v3:=Tryz.zeroValue3
 t4:=Tryz.underlying4
 a4:=Tryz.isAgg4
 z4:=Tryz.sizeOf4
 v4:=Tryz.zeroValue4
 t22:=Tryz.underlying43
 a22:=Tryz.isAgg43
 z22:=Tryz.sizeOf43
 v22:=Tryz.zeroValue43
 i3:=by kernel_rfl }
end Go.Proofs
