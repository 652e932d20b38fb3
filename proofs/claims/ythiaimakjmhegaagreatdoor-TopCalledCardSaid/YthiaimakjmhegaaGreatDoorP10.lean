/- Parts of the proof. No statement is proved here. -/
import Derived.Test.YthiaimakjmhegaaGreatDoorP7
set_option linter.unusedVariables false
set_option linter.unusedSimpArgs false
set_option maxHeartbeats 16000000
set_option maxRecDepth 20000
namespace Go.Ab
section
variable {cls:Oper→Nat} {lo hi aI:Nat→Nat→Nat}
def sX (cls:Oper→Nat) (lo hi aI:Nat→Nat→Nat) (c i k:Nat) (oi ok:Oper):Prop :=
 ¬(cls oi=c∧cls ok=c)∧(cls oi≠c→cls ok=c→aI c k≤hi c i)∧(cls oi=c→cls ok≠c→lo c k<aI c i)
def FO (cls:Oper→Nat) (lo hi aI:Nat→Nat→Nat) (c i k:Nat) (o o':Oper):Bool :=
 !(cls o==c&&cls o'==c)&&(cls o==c||!(cls o'==c)||decide (aI c k≤hi c i))&&(!(cls o==c)||cls o'==c||decide (lo c k<aI c i))
theorem Dy {c i k:Nat} {o o':Oper} (h:FO cls lo hi aI c i k o o'=true):sX cls lo hi aI c i k o o':=by
 unfold FO at h;simp only[zA0,zC5,zB3,zDp,beq_iff_eq,beq_eq_false_iff_ne,dEt,ne_eq] at h;obtain⟨⟨h1,h2⟩,h3⟩:=h;refine⟨fun ⟨a,b⟩=>?_,fun a b=>?_,fun a b=>?_⟩
 · rcases h1 with h1|h1
   · exact h1 a
   · exact h1 b
 · rcases h2 with (h2|h2)|h2
   · exact absurd h2 a
   · exact absurd b h2
   · exact h2
 · rcases h3 with (h3|h3)|h3
   · exact absurd a h3
   · exact absurd h3 b
   · exact h3
abbrev cOf (cls:Oper→Nat) (c:Nat) (o:Oper):Bool:=cls o==c
end
end Go.Ab
namespace Go.Ab
def bump (J:Nat→Nat) (c:Nat):Nat→Nat:=fun x=>if x=c then J x+1 else J x
theorem gp (J:Nat→Nat) (c:Nat):bump J c c=J c+1:=if_pos rfl
theorem gN {J:Nat→Nat} {c d:Nat} (h:d≠c):bump J c d=J d:=if_neg h
theorem Dz (J:Nat→Nat) (c d:Nat) (h:c≠d):bump (bump J c) d=bump (bump J d) c:=by
 funext x;unfold bump;by_cases h1:x=c
 · subst h1;simp[h]
 · by_cases h2:x=d
   · subst h2;simp[h1]
   · simp[h1,h2]
section
variable {P:Program} {n:Nat} {ops:Array Oper} {md:Region.Mode} {S:(Nat→Nat)→ae} {m:Nat} {cls:Oper→Nat} {lo hi aI:Nat→Nat→Nat}
inductive VS (P:Program) (n:Nat) (ops:Array Oper) (S:(Nat→Nat)→ae) (m:Nat) (cls:Oper→Nat) (lo hi aI:Nat→Nat→Nat) (i:Nat) (o:Oper) (env:Env):(Nat→Nat)→AV→(Nat→Nat)→Prop
 |q {J:Nat→Nat} {v:AV} (h1:∀c,1≤c→c≤m→lo c i≤J c∧J c≤hi c i) (he:cls o=0) (h:∀J',(∀c,1≤c→c≤m→lo c i≤J' c∧J' c≤hi c i)→PStep P ops o env (S J') v):VS P n ops S m cls lo hi aI i o env J v J
 |e {J:Nat→Nat} {v:AV} (c:Nat) (he:cls o=c) (hc:1≤c∧c≤m) (hr:aI c i=J c+1) (h1:∀d,1≤d→d≤m→d≠c→lo d i≤J d∧J d≤hi d i)
  (h:∀aw,(∀x∈o.looksAt ops,aw x=env x)→∀J',J' c+1=aI c i→(∀d,1≤d→d≤m→d≠c→lo d i≤J' d∧J' d≤hi d i)→EStep P n ops o (fun e s=>e=aw.br o.dst v∧s=S (bump J' c)) aw (S J')):VS P n ops S m cls lo hi aI i o env J v (bump J c)
theorem VS.congr {i:Nat} {o:Oper} {env aw:Env} {J J':Nat→Nat} {v:AV} (h:VS P n ops S m cls lo hi aI i o env J v J') (he:∀x∈o.looksAt ops,aw x=env x):VS P n ops S m cls lo hi aI i o aw J v J':=by
 cases h with
 |q h1 hf h=>exact .q h1 hf fun k r=>(h k r).congr he
 |e c hf hc hr h1 h=>exact .e c hf hc hr h1 fun e2 g2=>h e2 fun x hx=>(g2 x hx).trans (he x hx)
def vq (P:Program) (n:Nat) (ops:Array Oper) (S:(Nat→Nat)→ae) (m:Nat) (cls:Oper→Nat) (lo hi aI:Nat→Nat→Nat) (i:Nat) (K:Env→(Nat→Nat)→Prop) (env:Env) (J:Nat→Nat):Prop :=
 match ops[i]? with
 |none=>K env J
 |some o=>∃v J',VS P n ops S m cls lo hi aI i o env J v J'∧K (env.br o.dst v) J'
theorem IA {i:Nat} {env:Env} {J:Nat→Nat} {K U:Env→(Nat→Nat)→Prop} (h:∀e J,K e J→U e J) (hh:vq P n ops S m cls lo hi aI i K env J):vq P n ops S m cls lo hi aI i U env J:=by
 unfold vq at *;split
 · exact h _ _ (by simpa[*] using hh)
 · rename_i o ho;simp only[ho] at hh;obtain⟨v,a,h1,h2⟩:=hh;exact⟨v,a,h1,h _ _ h2⟩
def xE (P:Program) (n:Nat) (md:Region.Mode) (ops:Array Oper) (S:(Nat→Nat)→ae) (m:Nat) (cls:Oper→Nat) (lo hi aI:Nat→Nat→Nat) (K:Env→(Nat→Nat)→Prop):Nat→Array Bool→Env→(Nat→Nat)→Prop
 |0,listed,e,J=>Region.ready md ops listed=[]∧K e J
 | fuel + 1, listed, e, J =>
   (Region.ready md ops listed=[]→K e J)∧∀i∈Region.ready md ops listed,vq P n ops S m cls lo hi aI i (xE P n md ops S m cls lo hi aI K fuel (listed.setIfInBounds i true)) e J
theorem J8 {i i0:Nat} {oi oj:Oper} {v:AV} {J A:Nat→Nat} (hj:ops[i0]? = some oj) (hap:oi.apart ops oj=true) (hp:∀c,1≤c→c≤m→sX cls lo hi aI c i i0 oi oj) {K:Env→(Nat→Nat)→Prop} {env:Env}
 (hy:VS P n ops S m cls lo hi aI i oi env J v A) (h:vq P n ops S m cls lo hi aI i0 K (env.br oi.dst v) A) :
 vq P n ops S m cls lo hi aI i0 (fun e B=>∃C,VS P n ops S m cls lo hi aI i oi e B v C∧K (e.br oi.dst v) C) env J:=by
 obtain⟨h1,h2,h3⟩:=Oper.apart_spec hap;unfold vq at *;simp only[hj] at *;obtain⟨u,C,hu,V⟩:=h;have hu':=hu.congr (aw:=env) fun x hx=>(Env.iA _ fun i hi e=>h1 i hi (e▸hx)).symm
 have hy':=hy.congr (aw:=env.br oj.dst u) fun x hx=>Env.iA _ fun i hi e=>h3 i hi (e▸hx)
 rw[Env.pk env v u h2] at V;cases hu' with
 | q g1 gf gh =>
   cases hy' with
   |q k1 kf kh=>exact⟨u,_,.q g1 gf gh,_,.q k1 kf kh,V⟩
   | e c kf kc kr k1 kh =>
     refine⟨u,_,.q (fun d d1 d2=>?_) gf gh,_,.e c kf kc kr k1 kh,V⟩;have g:=g1 d d1 d2;by_cases hd:d=c
     · subst hd;have:=(hp d d1 d2).2.2 kf oM;rw[gp] at g;omega
     · rwa [gN hd] at g
 | e c gf gc gr g1 gh =>
   cases hy' with
   | q k1 kf kh =>
     refine⟨u,_,.e c gf gc gr g1 gh,_,.q (fun d d1 d2=>?_) kf kh,V⟩;have k:=k1 d d1 d2;by_cases hd:d=c
     · subst hd;have:=(hp d d1 d2).2.1 oM gf;rw[gp];omega
     · rwa [gN hd]
   | e c2 kf kc kr k1 kh =>
     have hne:c≠c2:=fun e=>by subst e;exact(hp c gc.1 gc.2).1 ⟨kf,gf⟩
     rw[gN hne] at gr;have a:=(hp c2 kc.1 kc.2).2.2 kf oM;have b:=(hp c gc.1 gc.2).2.1 oM gf;refine⟨u,_,.e c gf gc gr (fun d d1 d2 hd=>?_) gh,bump (bump J c) c2,.e c2 kf kc (by rw[gN (Ne.symm hne)];exact kr) (fun d d1 d2 hd=>?_) kh,by rw[Dz J c c2 hne];exact V⟩
     · have g:=g1 d d1 d2 hd;by_cases hd2:d=c2
       · subst hd2;rw[gp] at g;omega
       · rwa [gN hd2] at g
     · have k:=k1 d d1 d2 hd;by_cases hd2:d=c
       · subst hd2;rw[gp];omega
       · rwa [gN hd2]
theorem Bq {K:Env→(Nat→Nat)→Prop} {i:Nat} {oi:Oper} {v:AV} (hio:ops[i]? = some oi) :
 ∀(fuel:Nat) (listed:Array Bool) (env:Env) (J A:Nat→Nat),
  (∀k ok,ops[k]? = some ok→k≠i→listed.getD k true=false→(∀e∈ok.after,Region.binds md e=true→e.on≠i)→oi.apart ops ok=true∧∀c,1≤c→c≤m→sX cls lo hi aI c i k oi ok) →
  i∈Region.ready md ops listed→VS P n ops S m cls lo hi aI i oi env J v A →
  xE P n md ops S m cls lo hi aI K fuel (listed.setIfInBounds i true) (env.br oi.dst v) A→xE P n md ops S m cls lo hi aI K (fuel+1) listed env J:=by
 have take:∀{env:Env} {J A:Nat→Nat} {K:Env→(Nat→Nat)→Prop},VS P n ops S m cls lo hi aI i oi env J v A→K (env.br oi.dst v) A→vq P n ops S m cls lo hi aI i K env J:=fun hy h=>by
  unfold vq;simp only[hio];exact⟨v,_,hy,h⟩
 intro fuel;induction fuel with
 | zero =>
   intro listed env J A _ hr hy H;refine⟨fun h=>(by rw[h] at hr;cases hr),fun k hk=>?_⟩;by_cases hki:k=i
   · subst hki;exact take hy H
   · have:=ready_mono hk hki;rw[H.1] at this;cases this
 | succ fuel ih =>
   intro listed env J A hfree hr hy H;refine⟨fun h=>(by rw[h] at hr;cases hr),fun k hk=>?_⟩;by_cases hki:k=i
   · subst hki;exact take hy H
   · have h1:=H.2 k (ready_mono hk hki);obtain⟨pD,ok,hok,au⟩:=mem_ready.1 hk;have jA:∀e∈ok.after,Region.binds md e=true→e.on≠i:=fun e he hb heq=>by
      have h1:=au e he hb;have h0:=(mem_ready.1 hr).1;rw[heq] at h1;rcases zAa i listed.size with h'|h'
      · simp[h'] at h0 h1;rw[h0] at h1;cases h1
      · simp[zAj h'] at h1
     obtain⟨f1,f2⟩:=hfree k ok hok hki pD jA;have h2:=J8 hok f1 f2 hy h1
     have jB:∀l ol,ops[l]? = some ol→l≠i→(listed.setIfInBounds k true).getD l true=false →
      (∀e∈ol.after,Region.binds md e=true→e.on≠i)→oi.apart ops ol=true∧∀c,1≤c→c≤m→sX cls lo hi aI c i l oi ol:=fun l ol hl hli hun hno=>by
      refine hfree l ol hl hli ?_ hno;by_cases hkl:k=l
      · subst hkl;exact pD
      · rw[getD_set_ne true hkl] at hun;exact hun
     refine IA (fun e' B h3=>?_) h2;obtain⟨C,h4,h5⟩:=h3;refine ih (listed.setIfInBounds k true) e' B C jB (ready_mono hr (Ne.symm hki)) h4 ?_;rw[zCp _ _ hki];exact h5
def VQ (P:Program) (n:Nat) (ops:Array Oper) (S:(Nat→Nat)→ae) (m:Nat) (cls:Oper→Nat) (lo hi aI:Nat→Nat→Nat) (K:Env→(Nat→Nat)→Prop):List Oper→Nat→Env→(Nat→Nat)→Prop
 |[],_,e,J=>K e J
 |o::rest,i,e,J=>∃v A,VS P n ops S m cls lo hi aI i o e J v A∧VQ P n ops S m cls lo hi aI K rest (i+1) (e.br o.dst v) A
def DA (md:Region.Mode) (ops:Array Oper) (m:Nat) (cls:Oper→Nat) (lo hi aI:Nat→Nat→Nat) (listed:Array Bool) (i:Nat):Bool:=(List.range ops.size).all fun k=>i==k||listed.getD k true||match ops[i]?,ops[k]? with
 |some o,some o'=>gU md o' i||!(o.apart ops o')||(List.range (m+1)).all fun c=>c==0||FO cls lo hi aI c i k o o'
 |_,_=>true
def xF (md:Region.Mode) (ops:Array Oper) (m:Nat) (cls:Oper→Nat) (lo hi aI:Nat→Nat→Nat):Nat→Nat→Array Bool→Bool
 |0,_,_=>true
 |f+1,i,listed=>DA md ops m cls lo hi aI listed i&&xF md ops m cls lo hi aI f (i+1) (listed.setIfInBounds i true)
theorem zq {listed:Array Bool} {i k:Nat} (h:DA md ops m cls lo hi aI listed i=true) {o o':Oper} (hne:k≠i) (h1:ops[i]? = some o) (h2:ops[k]? = some o') (hun:listed.getD k true=false) (hno:∀e∈o'.after,Region.binds md e=true→e.on≠i) (hap:o.apart ops o'=true) :
 ∀c,1≤c→c≤m→sX cls lo hi aI c i k o o':=by
 have m2:=(zBd.1 h2).1;have h3:=zA4.1 h k (zAs.2 m2);have e:(i==k)=false:=by simp;exact fun e=>hne e.symm
 have e2:gU md o' i=false:=by
  cases hb:gU md o' i with
  |false=>rfl
  | true =>
    unfold gU at hb;obtain⟨x,hx,hy⟩:=zDk.1 hb;simp only[zA0,beq_iff_eq] at hy;exact absurd hy.2 (hno x hx hy.1)
 simp only[e,zCx,h1,h2,e2,hap,zDu,hun] at h3;intro c c1 c2;have h4:=zA4.1 h3 c (zAs.2 oM);simp only[zC5,beq_iff_eq] at h4;rcases h4 with h4|h4
 · omega
 · exact Dy h4
theorem xG {K:Env→(Nat→Nat)→Prop}:∀(l:List Oper) (k:Nat) (listed:Array Bool) (env:Env) (J:Nat→Nat),(∀i,l[i]? = ops[k+i]?) →
 xF md ops m cls lo hi aI l.length k listed=true→Region.lexFrom md ops l.length k listed=true→VQ P n ops S m cls lo hi aI K l k env J→xE P n md ops S m cls lo hi aI K l.length listed env J
 |[],_,_,_,_,_,_,hB,h=>⟨by simpa[Region.lexFrom] using hB,h⟩
 | o :: l, k, listed, env, J, hl, hE, hB, h => by
   simp only[zAd,xF,zA0] at hE;have h0:ops[k]? = some o:=by simpa using(hl 0).symm
   simp only[zAd,Region.lexFrom,zA0] at hB;obtain⟨⟨hr,hf⟩,hB'⟩:=hB;obtain⟨v,A,hy,V⟩:=h
   exact Bq h0 l.length listed env J A (fun k2 ok h1 h2 h3 h4=>let ap:=Region.free_spec h0 hf k2 ok h1 h2 h3 h4;⟨ap,zq hE.1 h2 h0 h1 h3 h4 ap⟩) (by simpa using hr) hy
    (xG l (k+1) _ _ A (fun i=>by have:=hl (i+1);simpa[zC4,zD0 1 i] using this) hE.2 hB' V)
theorem fp {K:Env→(Nat→Nat)→Prop} (ro:Option Nat) (hd:eF n ops=true):∀(fuel:Nat) (listed:Array Bool) (env:Env) (J:Nat→Nat),xE P n md ops S m cls lo hi aI K fuel listed env J→∀G a w,bf n G env (S J) a w →
 ∀Q:Exit→Act→World→Prop,(∀G' aw J' a' w',G.Le G'→K aw J'→bf n G' aw (S J') a' w'→Q .normal a' w')→wpAnyIn (FR ro) 0 P md ops Q fuel listed a w
 |0,_,env,J,h,G,a,w,hr,Q,hQ=>⟨h.1,hQ G env J a w (Gh.Le.refl G) h.2 hr⟩
 | fuel + 1, listed, env, J, h, G, a, w, hr, Q, hQ => by
   refine⟨fun h0=>hQ G env J a w (Gh.Le.refl G) (h.1 h0) hr,fun i hi=>?_⟩;have hq:=h.2 i hi;unfold vq at hq;unfold wpOpIn;split
   · rename_i ho;simp only[ho] at hq;exact fp ro hd fuel _ env J hq G a w hr Q hQ
   · rename_i o ho;simp only[ho] at hq;obtain⟨v,A,hx,V⟩:=hq;have hdo:∀x,o.dst=some x→x<n:=cu (by
      have:=zA4.1 hd o (by
       obtain⟨hlt,he⟩:=zBd.1 ho;rw[←he];simp)
      exact this)
     have effect:EStep P n ops o (fun e s=>e=env.br o.dst v∧s=S A) env (S J) →
      if Region.wanted o (yielded ops a.tmps) then OWP P o a w (fun a' w'=>∃aw σ' G',(aw=env.br o.dst v∧σ'=S A)∧G.Le G'∧bf n G' aw σ' a' w')
      else ∃aw σ',(aw=env.br o.dst v∧σ'=S A)∧bf n G aw σ' (a.put o.dst undef) w:=fun h=>h G a w hr
     cases hx with
     | q g1 hf hp =>
       have:=hp J g1 G a w hr.st (fun x _=>hr.bh x);split
       · rename_i hw;rw[if_pos hw] at this;refine this.pj ?_;rintro a' w' ⟨x,G',rfl,h1,h2,h3⟩;have hr':bf n G' env (S J) a w':=hr.later h2 h3;exact fp ro hd fuel _ _ J V G' _ w' (hr'.br hdo h1) Q fun G'' e' B a'' w'' hg hk hr=>hQ G'' e' B a'' w'' (h2.trans hg) hk hr
       · rename_i hw;rw[if_neg hw] at this;exact⟨fun _ _=>trivial,fp ro hd fuel _ _ J V G _ w (hr.br hdo this) Q hQ⟩
     | e c gf gc gr g1 hp =>
       have:=effect (hp env (fun _ _=>rfl) J gr.symm g1);split
       · rename_i hw;rw[if_pos hw] at this;refine this.pj ?_;rintro a' w' ⟨e',s',G',⟨rfl,rfl⟩,h2,h3⟩;exact fp ro hd fuel _ _ _ V G' a' w' h3 Q fun G'' e' B a'' w'' hg hk hr=>hQ G'' e' B a'' w'' (h2.trans hg) hk hr
       · rename_i hw;rw[if_neg hw] at this;obtain⟨aw,σ',⟨rfl,rfl⟩,h3⟩:=this;exact⟨fun _ _=>trivial,fp ro hd fuel _ _ _ V G _ w h3 Q hQ⟩
theorem AWP.Ln {id:Nat} {l:List Oper} {K:Exit→Env→ae→Prop} {env:Env} {σ:ae} (m:Nat) (cls:Oper→Nat) (S:(Nat→Nat)→ae) (h0:S (fun _=>0)=σ)
 (hm:P.follows .mixedOrders=true) (hB:Region.lexB .any l.toArray=true) (hd:eF n l.toArray=true) (hE:xF .any l.toArray m cls (fun c=>pF l (cOf cls c)) (fun c=>pE l (cOf cls c)) (fun c=>fy l (cOf cls c)) l.length 0 (Array.replicate l.length false)=true)
 (h:∀U:Env→(Nat→Nat)→Prop,(∀e J,K .normal e (S J)→U e J)→VQ P n l.toArray S m cls (fun c=>pF l (cOf cls c)) (fun c=>pE l (cOf cls c)) (fun c=>fy l (cOf cls c)) U l 0 env (fun _=>0)):AWP P n (.region id l.toArray true) K env σ:=by
 subst h0;intro G a w hr;simp only[Region.lexB,zA0] at hB;refine wpIn_region_any hm ?_;have:=xG (md:=.any) l 0 (Array.replicate l.toArray.size false) env (fun _=>0) sMp (by simpa using hE) (by simpa using hB.2) (h (fun e J=>K .normal e (S J)) fun _ _ h=>h);refine fp _ hd _ _ env (fun _=>0) (by simpa using this) G a _ ⟨hr.size,hr.defers,hr.bh,hr.st.drew⟩ _ ?_;intro G' aw B a' w' hg hk hr';exact⟨aw,S B,G',hk,hg,hr'⟩
theorem VQ.mono {K U:Env→(Nat→Nat)→Prop} (hk:∀e J,K e J→U e J):∀{l:List Oper} {i:Nat} {e:Env} {J:Nat→Nat},VQ P n ops S m cls lo hi aI K l i e J→VQ P n ops S m cls lo hi aI U l i e J
 |[],_,_,_,h=>hk _ _ h
 |_::_,_,_,_,⟨v,A,h1,h2⟩=>⟨v,A,h1,VQ.mono hk h2⟩
end
theorem AWP.xH {P:Program} {n:Nat} {c:Code} {K:Exit→Env→ae→Prop} {env:Env} {σ:ae} (sz:Nat) (hk:AWP P n c K env (σ++[.arr sz 0 []])):AWP P n c K env σ:=by
 intro G a w hr;have hle:G.Le { G with B:=G.B++[.own none 0 0] }:=.upB (BLe.append _ _);have hs:aC { G with B:=G.B++[GB.own none 0 0] } (σ++[.arr sz 0 []]) w:=by
  have h0:=hr.st.iQ sz;refine⟨h0.ay,h0.m0,h0.base,by simpa using h0.len,fun l g o h1 h2=>?_,h0.fresh,h0.inj,h0.out,h0.dfr⟩;rcases zAa l σ.length with hl|hl
  · exact h0.bB l g o h1 (by rw[zA8 hl] at h2 ⊢;exact h2)
  · have h3:=h2;rw[zA7 hl] at h3;have h4:l - σ.length=0:=by
     rcases zBe (l - σ.length) with h|h
     · exact h
     · rw[zA3 (by simp;omega)] at h3;cases h3
    rw[h4] at h3;simp at h3;subst h3;rw[zA7 (by rw[hr.st.len];exact hl),hr.st.len,h4] at h1;simp at h1;subst h1;exact .arrz sz 0
 refine wpIn_mono (hk { G with B:=G.B++[GB.own none 0 0] } a w (hr.later hle hs)) ?_;rintro x a' w' ⟨e,s,G',h1,h2,h3⟩;exact⟨e,s,G',h1,Gh.Le.trans hle h2,h3⟩
end Go.Ab
namespace Go.Ab
theorem EStep.pM {P:Program} {T:Tab} {n:Nat} {ops:Array Oper} {o:Oper} {env:Env} {σ:ae} {k:Env→ae→Prop} (hT:T.Ok P) {t:TypeId} {d l sz ver:Nat} {es0:List (List AV)} {li:LI} {cs:List AV} (ho:o.op=.alloc t) (hg:o.guard=none) (hd:o.dst=some d) (hdn:(decide (d<n))=true) (hl:T.get t=some li) (hf:ec (li.zero.map Z.av)=some cs) (hsz:decide (li.zero.length=sz∧0<sz)=true)
 (hσ:σ[l]? = some (.arr sz ver es0)) (hk:k (env.put d (.cm l sz 0 0 (ver+1))) (σ.set l (.arr sz (ver+1) [cs]))):EStep P n ops o k env σ:=by
 refine EStep.plain hg fun G a w hr=>?_
 have hl:=LOk.of (hT.get hl);have hzl:=(of_decide_eq_true hsz).1;have bl:(execOp a.eval o).run P w=.ok (.value (.pointer (some ⟨w.heap.size,0,none⟩))) (w.alloc (.cells li.aX.cells t)):=by
  simp[execOp,ho,Instr.alloc,newVar,newRow,hl.jg w]
 have hU:li.aX.cells=(li.zero.map Z.val).toArray:=by
  unfold LI.aX;cases ha:li.lt.isAgg with
  |true=>rfl
  | false =>
    obtain⟨z,hz⟩:=hl.one ha;rw[hz];cases z<;>rfl
 unfold OWP;rw[bl];have hcs:cs=li.zero.map Z.av:=(eS hf).symm;obtain⟨ob,cap,hB,_,_⟩:=cR hr.st hσ;have hm:=eV hr.st.ay;have hls:l<G.B.length:=by
  rcases zAa l G.B.length with h|h
  · exact h
  · simp[zA3 h] at hB
 have hgl:GB.Le (.own ob cap ver) (.own (some w.heap.size) 1 (ver+1)):=.inr ⟨_,_,_,rfl,oM⟩;have hal:=hr.st.alloc (o:=.cells li.aX.cells t) (g:=.own (some w.heap.size) 1 (ver+1)) (ao:=.arr sz (ver+1) [cs]) rfl (.arr w.heap.size 1 sz (ver+1) [cs] li.aX.cells t (0,0) (by rw[heap_alloc,if_pos rfl]) (by intro o _;simp) (by rw[hU];simp[hzl]) sMp (fun e he=>by
  simp at he;subst he;rw[hcs];simp[hzl]) (fun i j e c h1 h2=>by
  match i,h1 with
  | 0, h1 =>
    simp at h1;subst h1;rw[hcs] at h2;simp only[zA5,zA6] at h2;obtain⟨z,hz,rfl⟩:=h2;rw[hU];have:(li.zero.map Z.val).toArray.getD (0 * sz+j) undef=z.val:=by simp[hz,zA2]
    rw[this];cases z<;>first|exact .prim _|exact .nils|exact .imapz
  |i+1,h1=>simp at h1) (hm _ (zAt _)).1)
 have hs:aC { G with M:=G.M,B:=G.B.set l (.own (some w.heap.size) 1 (ver+1)) } (σ.set l (.arr sz (ver+1) [cs])) (w.alloc (.cells li.aX.cells t)):=by
  refine hr.st.kP (w':=w.alloc (.cells li.aX.cells t)) hB (Mem.Le.refl _) hgl rfl sMp (fun k hk hk2=>by rw[heap_alloc,if_neg oM]) rfl (fun b hb o=>rfl) hal.ay (.inr (zAt _)) sMp cD.r ?_;refine .arr w.heap.size 1 sz (ver+1) [cs] li.aX.cells t (0,0) (by rw[heap_alloc,if_pos rfl]) (by intro o _;simp) (by rw[hU];simp[hzl]) sMp (fun e he=>by
   simp at he;subst he;rw[hcs];simp[hzl]) (fun i j e c h1 h2=>?_) (hm _ (zAt _)).1
  match i,h1 with
  | 0, h1 =>
    simp at h1;subst h1;rw[hcs] at h2;simp only[zA5,zA6] at h2;obtain⟨z,hz,rfl⟩:=h2;rw[hU];have:(li.zero.map Z.val).toArray.getD (0 * sz+j) undef=z.val:=by simp[hz,zA2]
    rw[this];cases z<;>first|exact .prim _|exact .nils|exact .imapz
  |i+1,h1=>simp at h1
 have hle:BLe G.B (G.B.set l (.own (some w.heap.size) 1 (ver+1))):=by
  intro l' g1 h1;by_cases e:l=l'
  · subst e;rw[hB] at h1;simp at h1;subst h1;exact⟨_,by rw[zAf hls],hgl⟩
  · exact⟨g1,by rw[zAp e];exact h1,GB.Le.refl _⟩
 refine⟨_,_,_,hk,.upB hle,?_⟩;rw[hd];have hr':bf n { G with B:=G.B.set l (.own (some w.heap.size) 1 (ver+1)) } env (σ.set l (.arr sz (ver+1) [cs])) a (w.alloc (.cells li.aX.cells t)):=hr.later (.upB hle) hs;refine hr'.put (of_decide_eq_true hdn) ?_;exact .cm l sz 0 0 (ver+1) w.heap.size 0 ⟨some w.heap.size,1,ver+1,by rw[zAf hls],zAt _,fun _=>⟨oM,(of_decide_eq_true hsz).2,by simp,rfl⟩⟩
section
variable {P:Program} {n:Nat} {ops:Array Oper} {o:Oper} {env:Env} {σ:ae} {T:Tab} {k:Env→ae→Prop}
def j9 (l sz ver:Nat) (es:List (List AV)):AV→AV
 |.sla l' sz' off len ver'=>if l'=l∧sz'=sz∧off=0∧len=es.length∧ver'=ver then .sl sz es .no else .sla l' sz' off len ver'
 |v=>v
def Br (l sz ver:Nat) (es:List (List AV)):bc→bc
 |.var cs=>.var (cs.map (j9 l sz ver es))
 |o=>o
theorem AWP.rS {c:Code} {K:Exit→Env→ae→Prop} {l sz ver:Nat} {es:List (List AV)} (hσ:σ[l]? = some (.arr sz ver es))
 (og:∀e∈es,∀a∈e,∀M B x,ag M B a x→ag M [] a x) (h:AWP P n c K (fun i=>j9 l sz ver es (env i)) ((σ.set l .dead).map (Br l sz ver es))):AWP P n c K env σ:=by
 intro G a w hr;obtain⟨ob,cap,hB,hne,hob⟩:=cR hr.st hσ;have hlt:l<σ.length:=by
  rcases zAa l σ.length with h|h
  · exact h
  · simp[zA3 h] at hσ
 have dead:∀(M':Mem),G.M.Le M'→(∀b,(∀b0,ob=some b0→b≠b0)→(∀o,M'.cell b o=G.M.cell b o)∧M'.map b=G.M.map b)→dc M' w→aC { G with M:=M' } (σ.set l .dead) w:=fun M' hle hoth hok=>by
  have pG:∀b0,ob=some b0→¬G.w0.iI b0∧∀(l':Nat) (g:GB),G.B[l']? = some g→g.block=some b0→l'=l:=fun b0 e=>by
   subst e;exact⟨(hr.st.fresh l _ b0 hB rfl).1,fun l' g h1 h2=>hr.st.inj l' l g _ b0 h1 hB h2 rfl⟩
  refine⟨hok,fun b hb=>?_,hr.st.base,by simp[hr.st.len],fun l' g' o' h1 h2=>?_,hr.st.fresh,hr.st.inj,hr.st.out,⟨fun p hp=>?_,hr.st.dfr.2⟩⟩
  · have:=hoth b fun b0 e eb=>(pG b0 e).1 (eb▸hb)
    have h0:=hr.st.m0 b hb;exact⟨fun o=>(this.1 o).trans (h0.1 o),this.2.trans h0.2⟩
  · by_cases hll:l=l'
    · subst hll;rw[zAf hlt] at h2;simp at h2;subst h2;exact .dead _
    · rw[zAp hll] at h2;refine(hr.st.bB l' g' o' h1 h2).grow hle (BLe.refl _) (fun _ _=>rfl) fun b hb=>hoth b fun b0 e eb=>?_
      subst eb;exact hll ((pG b e).2 l' g' h1 hb).symm
  · obtain⟨k1,k2,k3,k4,k5⟩:=hr.st.dfr.1 p hp;have:=hoth p.1 fun b0 e eb=>by
     subst e;exact k3 l _ hB (by rw[eb];rfl)
    exact⟨k1,k2,k3,fun o=>(this.1 o).trans (k4 o),this.2.trans k5⟩
 have fin:∀(M':Mem),G.M.Le M'→aC { G with M:=M' } (σ.set l .dead) w→(∀(X:Value),ag M' G.B (.sla l sz 0 es.length ver) X→ag M' G.B (.sl sz es .no) X)→c.wpIn (FR G.R) 0 P (fun x a' w'=>∃aw σ' G',K x aw σ'∧G.Le G'∧bf n G' aw σ' a' w') a w:=fun M' hle hs hv=>by
  have hf:∀u x,ag M' G.B u x→ag M' G.B (j9 l sz ver es u) x:=by
   intro u x h1;cases u<;>simp only[j9]<;>try exact h1
   split
   · rename_i e;obtain⟨rfl,rfl,rfl,rfl,rfl⟩:=e;exact hv _ h1
   · exact h1
  have hO:∀g o,cW M' G.B w g o→cW M' G.B w g (Br l sz ver es o):=by
   intro g o ho;cases ho with
   | var b' cs c T fr hb2 hf2 hl2 hr2 hm2 =>
     refine .var b' _ c T fr hb2 hf2 (by simpa using hl2) ?_ hm2;intro i a hi;simp only[zA5,zA6] at hi;obtain⟨a',h7,rfl⟩:=hi;exact hf _ _ (hr2 i a' h7)
   |ownz=>exact .ownz _
   |own b' cap sz n c T fr h1 h2 h3 h4 h5=>exact .own b' cap _ _ c T fr h1 h2 h3 h4 h5
   |arrz=>exact .arrz _ _
   |arr b' cap sz ver es' c T fr h1 h2 h3 h4 h5 h6 h7=>exact .arr b' cap _ _ _ c T fr h1 h2 h3 h4 h5 h6 h7
   |map b' kvs es' clock h1 h2 h3 h4 h5 h6=>exact .map b' _ es' clock h1 h2 h3 h4 h5 h6
   |siter b' s pos h1=>exact .siter b' _ _ h1
   |mapp b' cl bs kvs es' h1 h2 h3 h4 h5 h6=>exact .mapp b' cl bs _ es' h1 h2 h3 h4 h5 h6
   |miter r bm l' s c sn h1 h2=>exact .miter r bm _ _ _ _ h1 h2
   |loop b' r E h1 h2=>exact .loop b' _ _ h1 h2
   |dead=>exact .dead _
  have hs':aC { G with M:=M' } ((σ.set l .dead).map (Br l sz ver es)) w:=aC.mapO hs _ hO;refine wpIn_mono (h { G with M:=M' } a w ⟨hr.size,hr.defers,fun i=>hf _ _ ((hr.bh i).mono hle (BLe.refl _)),hs'⟩) ?_;rintro x a' w' ⟨e,s,G',h1,h2,h3⟩;exact⟨e,s,G',h1,Gh.Le.trans (G':={ G with M:=M' }) (.upM hle) h2,h3⟩
 by_cases hes:es=[]
 · subst hes;exact fin G.M (Mem.Le.refl _) (dead G.M (Mem.Le.refl _) (fun _ _=>⟨fun _=>rfl,rfl⟩) hr.st.ay) fun X hX=>by
    cases hX with
    |sla _ _ _ _ _ ad cc hq=>exact .slzz sz ad cc
 · obtain⟨b,rfl⟩:=hne hes;obtain⟨cs,T',fr,hbb,hf,hlen,hn,hz,bU,hm⟩:=hob b rfl;have sQ:es.length≠0:=fun e=>hes (zAr e)
   have hle:=Mem.ib (M:=G.M) (b:=b) cs hm;refine fin (G.M.bo b cs) hle (dead _ hle (fun b' hb'=>?_) ?_) fun X hX=>?_
   · have:=hb' b rfl;exact⟨fun o=>by simp only[Mem.bo,if_neg this],rfl⟩
   · refine⟨fun b' o v hv=>?_,hr.st.ay.m,hr.st.ay.g.mono hle⟩;simp only[Mem.bo] at hv;split at hv
     · rename_i e;subst e;simp only[World.cell?,hbb];exact hv
     · exact hr.st.ay.c _ _ _ hv
   · cases hX with
     | sla _ _ _ _ _ ad cc hq =>
       obtain⟨ob',dK,n',g1,g2,g3⟩:=hq;rw[hB] at g1;simp at g1;obtain⟨rfl,rfl,rfl⟩:=g1;obtain⟨g4,g5⟩:=g3 rfl;rcases g5 with g5|⟨rfl,rfl⟩
       · exact absurd g5 sQ
       simp only[zBa,zD2,Nat.sub_zero];refine .sl sz es .no b 0 _ (fun i j=>cs.getD (i * sz+j) undef) hz (fun i j hi hj=>?_) (fun i j e a he ha=>?_) hn trivial
       · have h1:=dP (zC3 hi hn) hj;have h2:i * sz+j<cs.size:=by rw[hlen];exact h1
         simp only[Mem.bo,if_pos rfl,zBv];simp[h2]
       · exact og e (zAc he) a (zAc ha) _ _ _ ((bU i j e a he ha).mono hle (BLe.refl _))
end
end Go.Ab
namespace Go.Ab
section
variable {P:Program} {n:Nat} {ops:Array Oper} {S:Nat→Nat→ae} {cls:Oper→Nat} {lo hi aI:Nat→Nat→Nat}
def WQ (P:Program) (n:Nat) (ops:Array Oper) (S:Nat→Nat→ae) (cls:Oper→Nat) (lo hi aI:Nat→Nat→Nat) (K:Env→Nat→Nat→Prop) (l:List Oper) (i:Nat) (e:Env) (j1 j2:Nat):Prop :=
 ∀J:Nat→Nat,J 1=j1→J 2=j2→VQ P n ops (fun J=>S (J 1) (J 2)) 2 cls lo hi aI (fun e J=>K e (J 1) (J 2)) l i e J
theorem AWP.wD {id:Nat} {l:List Oper} {K:Exit→Env→ae→Prop} {env:Env} {σ:ae} (cls:Oper→Nat) (S:Nat→Nat→ae) (h0:S 0 0=σ)
 (hm:P.follows .mixedOrders=true) (hB:Region.lexB .any l.toArray=true) (hd:eF n l.toArray=true) (hE:xF .any l.toArray 2 cls (fun c=>pF l (cOf cls c)) (fun c=>pE l (cOf cls c)) (fun c=>fy l (cOf cls c)) l.length 0 (Array.replicate l.length false)=true)
 (h:∀U:Env→Nat→Nat→Prop,(∀e j1 j2,K .normal e (S j1 j2)→U e j1 j2)→WQ P n l.toArray S cls (fun c=>pF l (cOf cls c)) (fun c=>pE l (cOf cls c)) (fun c=>fy l (cOf cls c)) U l 0 env 0 0):AWP P n (.region id l.toArray true) K env σ :=
 AWP.Ln 2 cls (fun J=>S (J 1) (J 2)) h0 hm hB hd hE fun U V=>by
  have h2:=h (fun e j1 j2=>∀J:Nat→Nat,J 1=j1→J 2=j2→U e J) (fun e j1 j2 hk J e1 e2=>V e J (by rw[e1,e2];exact hk)) (fun _=>0) rfl rfl;exact VQ.mono (fun e J hk=>hk J rfl rfl) h2
theorem WQ.nil {K:Env→Nat→Nat→Prop} {env:Env} {i j1 j2:Nat} (h:K env j1 j2):WQ P n ops S cls lo hi aI K [] i env j1 j2:=fun J e1 e2=>by
 subst e1;subst e2;exact h
theorem IB {i j1 j2:Nat} {J:Nat→Nat} (e1:J 1=j1) (e2:J 2=j2) (h1:lo 1 i≤j1∧j1≤hi 1 i) (h2:lo 2 i≤j2∧j2≤hi 2 i):∀c,1≤c→c≤2→lo c i≤J c∧J c≤hi c i:=fun c c1 c2=>by
 have:c=1∨c=2:=oM;rcases this with rfl|rfl
 · rw[e1];exact h1
 · rw[e2];exact h2
theorem WQ.qb (B1 B2:Nat) {K:Env→Nat→Nat→Prop} {env:Env} {i j1 j2:Nat} {o:Oper} {rest:List Oper} {v v':AV} {g:GG} {d:Nat} (he:cls o=0)
 (hj:(decide (lo 1 i≤j1)&&decide (j1≤hi 1 i)&&decide (lo 2 i≤j2)&&decide (j2≤hi 2 i)&&decide (hi 1 i≤B1)&&decide (hi 2 i≤B2))=true) (hd:o.dst=some d) (hg:gOf ops env o=some g)
 (h:∀k1 k2,k1≤B1→k2≤B2→g.holds→PRun P o env (S k1 k2) v) (hv:g.wrap v=v') (hk:WQ P n ops S cls lo hi aI K rest (i+1) (env.put d v') j1 j2):WQ P n ops S cls lo hi aI K (o::rest) i env j1 j2:=fun J e1 e2=>by
 subst hv;simp only[zA0,dEt] at hj;obtain⟨⟨⟨⟨⟨a1,a2⟩,a3⟩,a4⟩,a5⟩,a6⟩:=hj;refine⟨g.wrap v,J,.q (IB e1 e2 ⟨a1,a2⟩ ⟨a3,a4⟩) he fun J' hr=>PStep.g hg (h (J' 1) (J' 2) (zC2 (hr 1 oM oM).2 a5) (zC2 (hr 2 oM oM).2 a6)),?_⟩;rw[hd];exact hk J e1 e2
theorem WQ.q {K:Env→Nat→Nat→Prop} {env:Env} {i j1 j2:Nat} {o:Oper} {rest:List Oper} {v v':AV} {g:GG} {d:Nat} (he:cls o=0) (hj:(decide (lo 1 i≤j1)&&decide (j1≤hi 1 i)&&decide (lo 2 i≤j2)&&decide (j2≤hi 2 i)&&decide (hi 1 i≤2)&&decide (hi 2 i≤2))=true) (hd:o.dst=some d) (hg:gOf ops env o=some g)
 (h:∀k1 k2,k1≤2→k2≤2→g.holds→PRun P o env (S k1 k2) v) (hv:g.wrap v=v') (hk:WQ P n ops S cls lo hi aI K rest (i+1) (env.put d v') j1 j2):WQ P n ops S cls lo hi aI K (o::rest) i env j1 j2:=WQ.qb 2 2 he hj hd hg h hv hk
theorem WQ.e1 (B:Nat) {K:Env→Nat→Nat→Prop} {env:Env} {i j1 j2:Nat} {o:Oper} {rest:List Oper} {v:AV} {d:Option Nat} (he:cls o=1) (hj:(aI 1 i==j1+1&&decide (lo 2 i≤j2)&&decide (j2≤hi 2 i)&&decide (hi 2 i≤B))=true) (hd:o.dst=d)
 (h:∀aw,(∀x∈o.looksAt ops,aw x=env x)→∀k2,k2≤B→EStep P n ops o (fun e s=>e=aw.br o.dst v∧s=S (j1+1) k2) aw (S j1 k2))
 (hk:WQ P n ops S cls lo hi aI K rest (i+1) (env.br d v) (j1+1) j2):WQ P n ops S cls lo hi aI K (o::rest) i env j1 j2:=fun J e1 e2=>by
 subst hd;simp only[zA0,dEt,beq_iff_eq] at hj;obtain⟨⟨⟨a1,a2⟩,a3⟩,a4⟩:=hj;refine⟨v,bump J 1,.e 1 he oM oM (fun d d1 d2 hd=>?_) fun aw g1 J' g2 g3=>?_,hk _ (by rw[gp];omega) (by rw[gN dCd];exact e2)⟩
 · obtain rfl:d=2:=oM;omega
 · have:=(g3 2 oM oM dCd).2;have q:=h aw g1 (J' 2) oM;have e3:J' 1=j1:=oM;show EStep P n ops o (fun e s=>e=aw.br o.dst v∧s=S (bump J' 1 1) (bump J' 1 2)) aw (S (J' 1) (J' 2));rw[gp,gN dCd,e3];exact q
theorem WQ.e2 (A B:Nat) {K:Env→Nat→Nat→Prop} {env:Env} {i j1 j2:Nat} {o:Oper} {rest:List Oper} {v:AV} {d:Option Nat} (he:cls o=2) (hj:(aI 2 i==j2+1&&decide (lo 1 i≤j1)&&decide (j1≤hi 1 i)&&decide (hi 1 i≤B)&&decide (A≤lo 1 i))=true) (hd:o.dst=d)
 (h:∀aw,(∀x∈o.looksAt ops,aw x=env x)→∀k1,A≤k1→k1≤B→EStep P n ops o (fun e s=>e=aw.br o.dst v∧s=S k1 (j2+1)) aw (S k1 j2))
 (hk:WQ P n ops S cls lo hi aI K rest (i+1) (env.br d v) j1 (j2+1)):WQ P n ops S cls lo hi aI K (o::rest) i env j1 j2:=fun J e1 e2=>by
 subst hd;simp only[zA0,dEt,beq_iff_eq] at hj;obtain⟨⟨⟨⟨a1,a2⟩,a3⟩,a4⟩,a5⟩:=hj;refine⟨v,bump J 2,.e 2 he oM oM (fun d d1 d2 hd=>?_) fun aw g1 J' g2 g3=>?_,hk _ (by rw[gN dCd];exact e1) (by rw[gp];omega)⟩
 · obtain rfl:d=1:=oM;omega
 · have:=g3 1 oM oM dCd;have q:=h aw g1 (J' 1) oM oM;have e3:J' 2=j2:=oM;show EStep P n ops o (fun e s=>e=aw.br o.dst v∧s=S (bump J' 2 1) (bump J' 2 2)) aw (S (J' 1) (J' 2));rw[gp,gN dCd,e3];exact q
end
theorem AWP.DB {P:Program} {n:Nat} {c:Code} {K:Exit→Env→ae→Prop} {env:Env} {σ:ae} (sz:Nat) (hk:AWP P n c K env (σ++[.own sz 0])):AWP P n c K env σ:=by
 intro G a w hr;have hle:G.Le { G with B:=G.B++[.own none 0 0] }:=.upB (BLe.append _ _);refine wpIn_mono (hk { G with B:=G.B++[GB.own none 0 0] } a w (hr.later hle (hr.st.iQ sz))) ?_;rintro x a' w' ⟨e,s,G',h1,h2,h3⟩;exact⟨e,s,G',h1,Gh.Le.trans hle h2,h3⟩
end Go.Ab
namespace Go.Ab
section
variable {P:Program} {n:Nat} {ops:Array Oper} {o:Oper} {env:Env} {σ:ae} {k:Env→ae→Prop} {T:Tab}
theorem EStep.FP (hT:T.Ok P) {s x:Operand} {t tx e:TypeId} {d l sz:Nat} {es2:List (List AV)} {u:AV} {s1 b1:Nat} {z:List Z} {le:LI} (ho:o.op=.call { callee:=.builtin .append,args:=#[s,x],argTypes:=#[t,tx] })
 (hg:o.guard=none) (hd:o.dst=some d) (hdn:d<n) (hs:Rd env s (.sl sz [] .fresh)) (hσ:σ[l]? = some (.own sz 0)) (hx:Rd env x u) (iJ:fZ T tx sz u es2) (cK:0<es2.length)
 (hl:LOk P t ⟨.slice e,s1,b1,z⟩) (he:LOk P e le) (hsz:le.size=sz) (hz0:le.zero.length=le.size) (hbound:es2.length * le.bytes≤140737488355328) (hb2:es2.length≤9223372036854775807)
 (hk:k (env.put d (.sl sz es2 (.own l))) (σ.set l (.own sz es2.length))):EStep P n ops o k env σ:=by
 refine EStep.plain hg fun G a w hr=>?_
 have h1:=hr.rd hs;obtain⟨news,hS,hN⟩:=iJ.src hT hr.st.ay (hr.rd hx);generalize hA:a.eval s=sv at h1;obtain⟨i,hi1,hi2,hi3,hi4⟩:=he.info;have eJ:=hl.dB;have hS':Src P i.size tx (a.eval x) es2.length news w:=by rw[hi2,hsz];exact hS
 have hNs:news.length=es2.length * sz:=by have:=hN.1;simpa using this
 have hsv:∃ad,sv=.slice ad 0 0:=by
  cases h1 with
  |sl _ _ _ b off cap f hz hm hr hc ht=>exact⟨_,by rw[show cap=0 from ht];rfl⟩
  |slz=>exact⟨none,rfl⟩
 obtain⟨ad,rfl⟩:=hsv;have hgb:∃g,G.B[l]? = some g:=⟨_,zA1 (by
  rw[hr.st.len];rcases zAa l σ.length with h|h
  · exact h
  · simp[zA3 h] at hσ)⟩
 obtain⟨g,hgl⟩:=hgb;have cP:=hr.st.bB l g _ hgl hσ;have hzc:le.aX.cells.size=sz:=by
  unfold LI.aX;cases ha:le.lt.isAgg with
  |true=>simp[Value.cells,hz0,hsz]
  | false =>
    obtain⟨z',hz'⟩:=he.one ha;rw[hz'] at hz0 ⊢;simp at hz0;rw[←hsz,←hz0];cases z'<;>rfl
 have ie:g.Le (.own (some w.heap.size) (grownCap w es2.length 0 e) es2.length):=by
  cases cP with
  |ownz=>exact .inr ⟨_,_,_,rfl,cK⟩
  |own b cap sz n' c T' fr hb hf hlc hn hm=>exact .inr ⟨_,_,_,rfl,cK⟩
 have hold:(Builtin.firstCells i.size 0 (.slice ad 0 0)).run P w.drew=.ok ([]:List Value).toArray w.drew:=by
  cases ad with
  |none=>rfl
  | some ad =>
    have:=run_loadCells_list (P:=P) w.drew ad [] (fun j v hj=>by simp at hj);simp only[Builtin.firstCells,zD2];simpa using this
 have bl:=run_append_grow_src (P:=P) w t tx o.type e i le.aX eJ hi1 (by rw[hi4];rfl) ad 0 0 [] hold (a.eval x) es2.length news hS' oM oM (growslice_fits oM (by rw[hi3];simpa using hbound));simp only[zBv,zE1] at bl;have gJ:es2.length≤grownCap w es2.length 0 e:=grownCap_ge _ _ _ _;generalize ig:(news.toArray++Builtin.zeroCells le.aX.cells (grownCap w es2.length 0 e - es2.length))=row at bl;have jG:row.size=grownCap w es2.length 0 e * sz:=by
  rw[←ig];simp only[zDt,zD8,size_zeroCells,hzc,hNs,←zB5];congr 1;omega
 have dY:(execOp a.eval o).run P w=.ok (.value (.slice (some ⟨w.heap.size,0,none⟩) es2.length (grownCap w es2.length 0 e))) (w.drew.alloc (.cells row e)):=by
  simp[execOp,ho,resolve,invoke,builtin,hA,bl]
 unfold OWP;rw[dY];have xa:∀o,o<es2.length * sz→row.getD o undef=news.toArray.getD o undef:=by
  intro o ho;rw[←ig];simp only[zA2];rw[zAl (by simp;omega)]
 have hm0:=(eV hr.st.ay _ (zAt w.heap.size)).1;let M':Mem:={ G.M with cell:=fun b o=>if b=w.heap.size then (if o<es2.length * sz then some (row.getD o undef) else none) else G.M.cell b o }
 have hle:G.M.Le M':=⟨fun b o v hv=>by
  show(if b=w.heap.size then _ else _)=_;split
  · rename_i e;subst e;rw[hm0 o] at hv;cases hv
  · exact hv,fun _ _ h=>h⟩
 have jH:(w.drew.alloc (.cells row e)).heap[w.heap.size]? = some (.cells row e):=by rw[heap_alloc];simp
 have hok:dc M' (w.drew.alloc (.cells row e)):=by
  refine⟨fun b o v hv=>?_,fun b es' hb=>?_,hr.st.ay.g.mono hle⟩
  · change (if b=w.heap.size then _ else _)=_ at hv;split at hv
    · rename_i eb;subst eb;split at hv
      · rename_i ho;have cr:o<row.size:=by
         rw[jG];exact zC3 ho (zAv _ gJ)
        simp only[World.cell?,jH];simp at hv;simp[cr,←hv]
      · simp at hv
    · have h2:=hr.st.ay.1 _ _ _ hv;have cr:=World.block_lt_of_cell? _ _ h2;have:(w.drew.alloc (.cells row e)).cell? ⟨b,o,none⟩=w.drew.cell? ⟨b,o,none⟩:=World.cell?_alloc_lt _ _ _ cr;rw[this];exact h2
  · obtain⟨cl,h2⟩:=hr.st.ay.2 _ _ hb;refine⟨cl,?_⟩;rw[heap_alloc];split
    · rename_i eb;subst eb;simp at h2
    · exact h2
 have hU:∀o,o<es2.length * sz→M'.cell w.heap.size o=some (row.getD o undef):=fun o ho=>by
  show(if w.heap.size=w.heap.size then _ else _)=_;rw[if_pos rfl,if_pos ho]
 have hs2:aC { G with M:=M',B:=G.B.set l (.own (some w.heap.size) (grownCap w es2.length 0 e) es2.length) } (σ.set l (.own sz es2.length)) (w.drew.alloc (.cells row e)):=by
  refine hr.st.kP hgl hle ie rfl sMp (fun k hk hk2=>by rw[heap_alloc];simp[Nat.ne_of_lt hk2];rfl) rfl (fun b hb o=>if_neg hb) hok (.inr (zAt _)) sMp cD.r ?_;exact .own w.heap.size _ sz _ row e (0,0) jH (by intro o _;simp) jG gJ fun o ho=>by
   show(if w.heap.size=w.heap.size then _ else _)=_;rw[if_pos rfl,if_neg oM]
 have hG:G.Le { G with M:=M',B:=G.B.set l (.own (some w.heap.size) (grownCap w es2.length 0 e) es2.length) }:=.up hle (BLe.set hgl ie);refine⟨_,_,_,hk,hG,?_⟩;rw[hd];have hr':bf n { G with M:=M',B:=G.B.set l (.own (some w.heap.size) (grownCap w es2.length 0 e) es2.length) } env (σ.set l (.own sz es2.length)) a (w.drew.alloc (.cells row e)):=⟨hr.size,hr.defers,fun i=>(hr.bh i).mono hle (BLe.set hgl ie),hs2⟩;refine hr'.put hdn ?_;have hN':gI M' sz es2 news.toArray:=⟨hN.1,hN.2.1,fun i j e a x y=>(hN.2.2 i j e a x y).mono hle (BLe.refl _)⟩;have hO':gI M' sz [] ([]:List Value).toArray:=⟨by simp,by simp,fun i j e a h=>by simp at h⟩
 have:=rH (M:=M') (B:=G.B.set l (.own (some w.heap.size) (grownCap w es2.length 0 e) es2.length)) (sz:=sz) (es:=[]++es2) (t:=.own l) (b:=w.heap.size) (cap:=grownCap w es2.length 0 e) (c:=row)
  (fun e he=>hN.2.1 e (by simpa using he)) (by simpa using gJ) (fun o ho=>hU o (by simpa using ho)) (mQ hO' hN' (fun o ho=>by simp at ho) (fun o ho=>by simpa using xa o ho))
  ⟨some w.heap.size,grownCap w es2.length 0 e,es2.length,by rw[zAf (by
   rcases zAa l G.B.length with h|h
   · exact h
   · simp[zA3 h] at hgl)],by simp,fun _=>⟨by simp,rfl⟩⟩
 simpa using this
theorem EStep.Av (hT:T.Ok P) {s x:Operand} {t tx e:TypeId} {d sz:Nat} {u:AV} {s1 b1:Nat} {z:List Z} {le:LI} (ho:o.op=.call { callee:=.builtin .append,args:=#[s,x],argTypes:=#[t,tx] })
 (hg:o.guard=none) (hd:o.dst=some d) (hdn:d<n) (hs:Rd env s (.sl sz [] .fresh)) (hx:Rd env x u) (iJ:fZ T tx sz u [])
 (hl:LOk P t ⟨.slice e,s1,b1,z⟩) (he:LOk P e le) (hsz:le.size=sz)
 (hk:k (env.put d (.sl sz [] .fresh)) σ):EStep P n ops o k env σ:=by
 refine EStep.plain hg fun G a w hr=>?_
 have h1:=hr.rd hs;obtain⟨news,hS,hN⟩:=iJ.src hT hr.st.ay (hr.rd hx);have h1':=h1;generalize hA:a.eval s=sv at h1 h1';obtain⟨i,hi1,hi2,hi3,hi4⟩:=he.info;have eJ:=hl.dB;have hS':Src P i.size tx (a.eval x) 0 news w:=by rw[hi2,hsz];exact hS
 have mm:news=[]:=zAr (by have:=hN.1;simpa using this);have hsv:∃ad,sv=.slice ad 0 0:=by
  cases h1 with
  |sl _ _ _ b off cap f hz hm hr hc ht=>exact⟨_,by rw[show cap=0 from ht];rfl⟩
  |slz=>exact⟨none,rfl⟩
 obtain⟨ad,rfl⟩:=hsv;have bl:(Builtin.append_ #[t,tx] o.type #[.slice ad 0 0,a.eval x]).run P w=.ok (.slice ad 0 0) w:=by
  have hcc:=hS'.cells;have hll:=hS'.len;subst mm;cases ad with
  |none=>rcases hS.kind with ⟨e',hk'⟩|hk'<;>simp[Builtin.append_,run_underlying eJ,run_underlying hk',sizeOf,typeInfo,hi1,hll,hcc]
  |some ad=>rcases hS.kind with ⟨e',hk'⟩|hk'<;>simp[Builtin.append_,run_underlying eJ,run_underlying hk',sizeOf,typeInfo,hi1,hll,hcc,storeCells]
 have dY:(execOp a.eval o).run P w=.ok (.value (.slice ad 0 0)) w:=by simp[execOp,ho,resolve,invoke,builtin,hA,bl]
 unfold OWP;rw[dY];refine⟨_,_,G,hk,Gh.Le.refl G,?_⟩;rw[hd];exact hr.put hdn h1'
end
end Go.Ab
