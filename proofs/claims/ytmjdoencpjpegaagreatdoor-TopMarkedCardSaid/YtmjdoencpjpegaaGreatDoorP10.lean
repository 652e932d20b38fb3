/- Parts of the proof. No statement is proved here. -/
import Derived.Test.YtmjdoencpjpegaaGreatDoorP7
set_option linter.unusedVariables false
set_option linter.unusedSimpArgs false
set_option maxHeartbeats 16000000
set_option maxRecDepth 20000
namespace Go.Ab
section
variable {cls:Oper→Nat} {lo hi aK:Nat→Nat→Nat}
def uC (cls:Oper→Nat) (lo hi aK:Nat→Nat→Nat) (c i k:Nat) (oi ok:Oper):Prop :=
 ¬(cls oi=c∧cls ok=c)∧(cls oi≠c→cls ok=c→aK c k≤hi c i)∧(cls oi=c→cls ok≠c→lo c k<aK c i)
def Hb (cls:Oper→Nat) (lo hi aK:Nat→Nat→Nat) (c i k:Nat) (o o':Oper):Bool :=
 !(cls o==c&&cls o'==c)&&(cls o==c||!(cls o'==c)||decide (aK c k≤hi c i))&&(!(cls o==c)||cls o'==c||decide (lo c k<aK c i))
theorem EH {c i k:Nat} {o o':Oper} (h:Hb cls lo hi aK c i k o o'=true):uC cls lo hi aK c i k o o':=by
 unfold Hb at h;simp only[zA0,zBn,zB1,zBr,beq_iff_eq,beq_eq_false_iff_ne,dEt,ne_eq] at h;obtain⟨⟨h1,h2⟩,h3⟩:=h;refine⟨fun ⟨a,b⟩=>?_,fun a b=>?_,fun a b=>?_⟩
 · rcases h1 with h1|h1
   · exact h1 a
   · exact h1 b
 · rcases h2 with (h2|h2)|h2
   · exact absurd h2 a
   · exact absurd b h2
   · exact h2
 · rcases h3 with (h3|h3)|h3
   · exact absurd a h3
   · exact absurd h3 b
   · exact h3
abbrev cOf (cls:Oper→Nat) (c:Nat) (o:Oper):Bool:=cls o==c
end
end Go.Ab
namespace Go.Ab
def bump (J:Nat→Nat) (c:Nat):Nat→Nat:=fun x=>if x=c then J x+1 else J x
theorem gO (J:Nat→Nat) (c:Nat):bump J c c=J c+1:=if_pos rfl
theorem ij {J:Nat→Nat} {c d:Nat} (h:d≠c):bump J c d=J d:=if_neg h
theorem EI (J:Nat→Nat) (c d:Nat) (h:c≠d):bump (bump J c) d=bump (bump J d) c:=by
 funext x;unfold bump;by_cases h1:x=c
 · subst h1;simp[h]
 · by_cases h2:x=d
   · subst h2;simp[h1]
   · simp[h1,h2]
section
variable {P:Program} {n:Nat} {ops:Array Oper} {md:Region.Mode} {S:(Nat→Nat)→aa} {m:Nat} {cls:Oper→Nat} {lo hi aK:Nat→Nat→Nat}
inductive VS (P:Program) (n:Nat) (ops:Array Oper) (S:(Nat→Nat)→aa) (m:Nat) (cls:Oper→Nat) (lo hi aK:Nat→Nat→Nat) (i:Nat) (o:Oper) (env:Env):(Nat→Nat)→AV→(Nat→Nat)→Prop
 |q {J:Nat→Nat} {v:AV} (h1:∀c,1≤c→c≤m→lo c i≤J c∧J c≤hi c i) (he:cls o=0) (h:∀J',(∀c,1≤c→c≤m→lo c i≤J' c∧J' c≤hi c i)→PStep P ops o env (S J') v):VS P n ops S m cls lo hi aK i o env J v J
 |e {J:Nat→Nat} {v:AV} (c:Nat) (he:cls o=c) (hc:1≤c∧c≤m) (hr:aK c i=J c+1) (h1:∀d,1≤d→d≤m→d≠c→lo d i≤J d∧J d≤hi d i)
  (h:∀au,(∀x∈o.looksAt ops,au x=env x)→∀J',J' c+1=aK c i→(∀d,1≤d→d≤m→d≠c→lo d i≤J' d∧J' d≤hi d i)→EStep P n ops o (fun e s=>e=au.bj o.dst v∧s=S (bump J' c)) au (S J')):VS P n ops S m cls lo hi aK i o env J v (bump J c)
theorem VS.congr {i:Nat} {o:Oper} {env au:Env} {J J':Nat→Nat} {v:AV} (h:VS P n ops S m cls lo hi aK i o env J v J') (he:∀x∈o.looksAt ops,au x=env x):VS P n ops S m cls lo hi aK i o au J v J':=by
 cases h with
 |q h1 hf h=>exact .q h1 hf fun k r=>(h k r).congr he
 |e c hf hc hr h1 h=>exact .e c hf hc hr h1 fun e2 g2=>h e2 fun x hx=>(g2 x hx).trans (he x hx)
def vq (P:Program) (n:Nat) (ops:Array Oper) (S:(Nat→Nat)→aa) (m:Nat) (cls:Oper→Nat) (lo hi aK:Nat→Nat→Nat) (i:Nat) (K:Env→(Nat→Nat)→Prop) (env:Env) (J:Nat→Nat):Prop :=
 match ops[i]? with
 |none=>K env J
 |some o=>∃v J',VS P n ops S m cls lo hi aK i o env J v J'∧K (env.bj o.dst v) J'
theorem Ka {i:Nat} {env:Env} {J:Nat→Nat} {K U:Env→(Nat→Nat)→Prop} (h:∀e J,K e J→U e J) (hh:vq P n ops S m cls lo hi aK i K env J):vq P n ops S m cls lo hi aK i U env J:=by
 unfold vq at *;split
 · exact h _ _ (by simpa[*] using hh)
 · rename_i o ho;simp only[ho] at hh;obtain⟨v,a,h1,h2⟩:=hh;exact⟨v,a,h1,h _ _ h2⟩
def yU (P:Program) (n:Nat) (md:Region.Mode) (ops:Array Oper) (S:(Nat→Nat)→aa) (m:Nat) (cls:Oper→Nat) (lo hi aK:Nat→Nat→Nat) (K:Env→(Nat→Nat)→Prop):Nat→Array Bool→Env→(Nat→Nat)→Prop
 |0,listed,e,J=>Region.ready md ops listed=[]∧K e J
 | fuel + 1, listed, e, J =>
   (Region.ready md ops listed=[]→K e J)∧∀i∈Region.ready md ops listed,vq P n ops S m cls lo hi aK i (yU P n md ops S m cls lo hi aK K fuel (listed.setIfInBounds i true)) e J
theorem LG {i i0:Nat} {oi oj:Oper} {v:AV} {J A:Nat→Nat} (hj:ops[i0]? = some oj) (hap:oi.apart ops oj=true) (hp:∀c,1≤c→c≤m→uC cls lo hi aK c i i0 oi oj) {K:Env→(Nat→Nat)→Prop} {env:Env}
 (hy:VS P n ops S m cls lo hi aK i oi env J v A) (h:vq P n ops S m cls lo hi aK i0 K (env.bj oi.dst v) A) :
 vq P n ops S m cls lo hi aK i0 (fun e B=>∃C,VS P n ops S m cls lo hi aK i oi e B v C∧K (e.bj oi.dst v) C) env J:=by
 obtain⟨h1,h2,h3⟩:=Oper.apart_spec hap;unfold vq at *;simp only[hj] at *;obtain⟨u,C,hu,V⟩:=h;have hu':=hu.congr (au:=env) fun x hx=>(Env.i6 _ fun i hi e=>h1 i hi (e▸hx)).symm
 have hy':=hy.congr (au:=env.bj oj.dst u) fun x hx=>Env.i6 _ fun i hi e=>h3 i hi (e▸hx)
 rw[Env.qD env v u h2] at V;cases hu' with
 | q g1 gf gh =>
   cases hy' with
   |q k1 kf kh=>exact⟨u,_,.q g1 gf gh,_,.q k1 kf kh,V⟩
   | e c kf kc kr k1 kh =>
     refine⟨u,_,.q (fun d d1 d2=>?_) gf gh,_,.e c kf kc kr k1 kh,V⟩;have g:=g1 d d1 d2;by_cases hd:d=c
     · subst hd;have:=(hp d d1 d2).2.2 kf oM;rw[gO] at g;omega
     · rwa [ij hd] at g
 | e c gf gc gr g1 gh =>
   cases hy' with
   | q k1 kf kh =>
     refine⟨u,_,.e c gf gc gr g1 gh,_,.q (fun d d1 d2=>?_) kf kh,V⟩;have k:=k1 d d1 d2;by_cases hd:d=c
     · subst hd;have:=(hp d d1 d2).2.1 oM gf;rw[gO];omega
     · rwa [ij hd]
   | e c2 kf kc kr k1 kh =>
     have hne:c≠c2:=fun e=>by subst e;exact(hp c gc.1 gc.2).1 ⟨kf,gf⟩
     rw[ij hne] at gr;have a:=(hp c2 kc.1 kc.2).2.2 kf oM;have b:=(hp c gc.1 gc.2).2.1 oM gf;refine⟨u,_,.e c gf gc gr (fun d d1 d2 hd=>?_) gh,bump (bump J c) c2,.e c2 kf kc (by rw[ij (Ne.symm hne)];exact kr) (fun d d1 d2 hd=>?_) kh,by rw[EI J c c2 hne];exact V⟩
     · have g:=g1 d d1 d2 hd;by_cases hd2:d=c2
       · subst hd2;rw[gO] at g;omega
       · rwa [ij hd2] at g
     · have k:=k1 d d1 d2 hd;by_cases hd2:d=c
       · subst hd2;rw[gO];omega
       · rwa [ij hd2]
theorem CL {K:Env→(Nat→Nat)→Prop} {i:Nat} {oi:Oper} {v:AV} (hio:ops[i]? = some oi) :
 ∀(fuel:Nat) (listed:Array Bool) (env:Env) (J A:Nat→Nat),
  (∀k ok,ops[k]? = some ok→k≠i→listed.getD k true=false→(∀e∈ok.after,Region.binds md e=true→e.on≠i)→oi.apart ops ok=true∧∀c,1≤c→c≤m→uC cls lo hi aK c i k oi ok) →
  i∈Region.ready md ops listed→VS P n ops S m cls lo hi aK i oi env J v A →
  yU P n md ops S m cls lo hi aK K fuel (listed.setIfInBounds i true) (env.bj oi.dst v) A→yU P n md ops S m cls lo hi aK K (fuel+1) listed env J:=by
 have take:∀{env:Env} {J A:Nat→Nat} {K:Env→(Nat→Nat)→Prop},VS P n ops S m cls lo hi aK i oi env J v A→K (env.bj oi.dst v) A→vq P n ops S m cls lo hi aK i K env J:=fun hy h=>by
  unfold vq;simp only[hio];exact⟨v,_,hy,h⟩
 intro fuel;induction fuel with
 | zero =>
   intro listed env J A _ hr hy H;refine⟨fun h=>(by rw[h] at hr;cases hr),fun k hk=>?_⟩;by_cases hki:k=i
   · subst hki;exact take hy H
   · have:=ready_mono hk hki;rw[H.1] at this;cases this
 | succ fuel ih =>
   intro listed env J A hfree hr hy H;refine⟨fun h=>(by rw[h] at hr;cases hr),fun k hk=>?_⟩;by_cases hki:k=i
   · subst hki;exact take hy H
   · have h1:=H.2 k (ready_mono hk hki);obtain⟨qU,ok,hok,aT⟩:=mem_ready.1 hk;have j9:∀e∈ok.after,Region.binds md e=true→e.on≠i:=fun e he hb heq=>by
      have h1:=aT e he hb;have h0:=(mem_ready.1 hr).1;rw[heq] at h1;rcases zAb i listed.size with h'|h'
      · simp[h'] at h0 h1;rw[h0] at h1;cases h1
      · simp[zAp h'] at h1
     obtain⟨f1,f2⟩:=hfree k ok hok hki qU j9;have h2:=LG hok f1 f2 hy h1
     have ka:∀l ol,ops[l]? = some ol→l≠i→(listed.setIfInBounds k true).getD l true=false →
      (∀e∈ol.after,Region.binds md e=true→e.on≠i)→oi.apart ops ol=true∧∀c,1≤c→c≤m→uC cls lo hi aK c i l oi ol:=fun l ol hl hli hun hno=>by
      refine hfree l ol hl hli ?_ hno;by_cases hkl:k=l
      · subst hkl;exact qU
      · rw[getD_set_ne true hkl] at hun;exact hun
     refine Ka (fun e' B h3=>?_) h2;obtain⟨C,h4,h5⟩:=h3;refine ih (listed.setIfInBounds k true) e' B C ka (ready_mono hr (Ne.symm hki)) h4 ?_;rw[zD5 _ _ hki];exact h5
def VQ (P:Program) (n:Nat) (ops:Array Oper) (S:(Nat→Nat)→aa) (m:Nat) (cls:Oper→Nat) (lo hi aK:Nat→Nat→Nat) (K:Env→(Nat→Nat)→Prop):List Oper→Nat→Env→(Nat→Nat)→Prop
 |[],_,e,J=>K e J
 |o::rest,i,e,J=>∃v A,VS P n ops S m cls lo hi aK i o e J v A∧VQ P n ops S m cls lo hi aK K rest (i+1) (e.bj o.dst v) A
def EJ (md:Region.Mode) (ops:Array Oper) (m:Nat) (cls:Oper→Nat) (lo hi aK:Nat→Nat→Nat) (listed:Array Bool) (i:Nat):Bool:=(List.range ops.size).all fun k=>i==k||listed.getD k true||match ops[i]?,ops[k]? with
 |some o,some o'=>iz md o' i||!(o.apart ops o')||(List.range (m+1)).all fun c=>c==0||Hb cls lo hi aK c i k o o'
 |_,_=>true
def yW (md:Region.Mode) (ops:Array Oper) (m:Nat) (cls:Oper→Nat) (lo hi aK:Nat→Nat→Nat):Nat→Nat→Array Bool→Bool
 |0,_,_=>true
 |f+1,i,listed=>EJ md ops m cls lo hi aK listed i&&yW md ops m cls lo hi aK f (i+1) (listed.setIfInBounds i true)
theorem AH {listed:Array Bool} {i k:Nat} (h:EJ md ops m cls lo hi aK listed i=true) {o o':Oper} (hne:k≠i) (h1:ops[i]? = some o) (h2:ops[k]? = some o') (hun:listed.getD k true=false) (hno:∀e∈o'.after,Region.binds md e=true→e.on≠i) (hap:o.apart ops o'=true) :
 ∀c,1≤c→c≤m→uC cls lo hi aK c i k o o':=by
 have m2:=(zBh.1 h2).1;have h3:=zA6.1 h k (zBk.2 m2);have e:(i==k)=false:=by simp;exact fun e=>hne e.symm
 have e2:iz md o' i=false:=by
  cases hb:iz md o' i with
  |false=>rfl
  | true =>
    unfold iz at hb;obtain⟨x,hx,hy⟩:=zDv.1 hb;simp only[zA0,beq_iff_eq] at hy;exact absurd hy.2 (hno x hx hy.1)
 simp only[e,zDq,h1,h2,e2,hap,zE8,hun] at h3;intro c c1 c2;have h4:=zA6.1 h3 c (zBk.2 oM);simp only[zBn,beq_iff_eq] at h4;rcases h4 with h4|h4
 · omega
 · exact EH h4
theorem yX {K:Env→(Nat→Nat)→Prop}:∀(l:List Oper) (k:Nat) (listed:Array Bool) (env:Env) (J:Nat→Nat),(∀i,l[i]? = ops[k+i]?) →
 yW md ops m cls lo hi aK l.length k listed=true→Region.lexFrom md ops l.length k listed=true→VQ P n ops S m cls lo hi aK K l k env J→yU P n md ops S m cls lo hi aK K l.length listed env J
 |[],_,_,_,_,_,_,hB,h=>⟨by simpa[Region.lexFrom] using hB,h⟩
 | o :: l, k, listed, env, J, hl, hE, hB, h => by
   simp only[zAc,yW,zA0] at hE;have h0:ops[k]? = some o:=by simpa using(hl 0).symm
   simp only[zAc,Region.lexFrom,zA0] at hB;obtain⟨⟨hr,hf⟩,hB'⟩:=hB;obtain⟨v,A,hy,V⟩:=h
   exact CL h0 l.length listed env J A (fun k2 ok h1 h2 h3 h4=>let ap:=Region.free_spec h0 hf k2 ok h1 h2 h3 h4;⟨ap,AH hE.1 h2 h0 h1 h3 h4 ap⟩) (by simpa using hr) hy
    (yX l (k+1) _ _ A (fun i=>by have:=hl (i+1);simpa[zCg,zDc 1 i] using this) hE.2 hB' V)
theorem fT {K:Env→(Nat→Nat)→Prop} (ro:Option Nat) (hd:eU n ops=true):∀(fuel:Nat) (listed:Array Bool) (env:Env) (J:Nat→Nat),yU P n md ops S m cls lo hi aK K fuel listed env J→∀G a w,bd n G env (S J) a w →
 ∀Q:Exit→Act→World→Prop,(∀G' au J' a' w',G.Le G'→K au J'→bd n G' au (S J') a' w'→Q .normal a' w')→wpAnyIn (FR ro) 0 P md ops Q fuel listed a w
 |0,_,env,J,h,G,a,w,hr,Q,hQ=>⟨h.1,hQ G env J a w (Gh.Le.refl G) h.2 hr⟩
 | fuel + 1, listed, env, J, h, G, a, w, hr, Q, hQ => by
   refine⟨fun h0=>hQ G env J a w (Gh.Le.refl G) (h.1 h0) hr,fun i hi=>?_⟩;have hq:=h.2 i hi;unfold vq at hq;unfold wpOpIn;split
   · rename_i ho;simp only[ho] at hq;exact fT ro hd fuel _ env J hq G a w hr Q hQ
   · rename_i o ho;simp only[ho] at hq;obtain⟨v,A,hx,V⟩:=hq;have hdo:∀x,o.dst=some x→x<n:=ca (by
      have:=zA6.1 hd o (by
       obtain⟨hlt,he⟩:=zBh.1 ho;rw[←he];simp)
      exact this)
     have effect:EStep P n ops o (fun e s=>e=env.bj o.dst v∧s=S A) env (S J) →
      if Region.wanted o (yielded ops a.tmps) then OWP P o a w (fun a' w'=>∃au σ' G',(au=env.bj o.dst v∧σ'=S A)∧G.Le G'∧bd n G' au σ' a' w')
      else ∃au σ',(au=env.bj o.dst v∧σ'=S A)∧bd n G au σ' (a.put o.dst undef) w:=fun h=>h G a w hr
     cases hx with
     | q g1 hf hp =>
       have:=hp J g1 G a w hr.st (fun x _=>hr.bf x);split
       · rename_i hw;rw[if_pos hw] at this;refine this.qC ?_;rintro a' w' ⟨x,G',rfl,h1,h2,h3⟩;have hr':bd n G' env (S J) a w':=hr.later h2 h3;exact fT ro hd fuel _ _ J V G' _ w' (hr'.bj hdo h1) Q fun G'' e' B a'' w'' hg hk hr=>hQ G'' e' B a'' w'' (h2.trans hg) hk hr
       · rename_i hw;rw[if_neg hw] at this;exact⟨fun _ _=>trivial,fT ro hd fuel _ _ J V G _ w (hr.bj hdo this) Q hQ⟩
     | e c gf gc gr g1 hp =>
       have:=effect (hp env (fun _ _=>rfl) J gr.symm g1);split
       · rename_i hw;rw[if_pos hw] at this;refine this.qC ?_;rintro a' w' ⟨e',s',G',⟨rfl,rfl⟩,h2,h3⟩;exact fT ro hd fuel _ _ _ V G' a' w' h3 Q fun G'' e' B a'' w'' hg hk hr=>hQ G'' e' B a'' w'' (h2.trans hg) hk hr
       · rename_i hw;rw[if_neg hw] at this;obtain⟨au,σ',⟨rfl,rfl⟩,h3⟩:=this;exact⟨fun _ _=>trivial,fT ro hd fuel _ _ _ V G _ w h3 Q hQ⟩
theorem AWP.CM {id:Nat} {l:List Oper} {K:Exit→Env→aa→Prop} {env:Env} {σ:aa} (m:Nat) (cls:Oper→Nat) (S:(Nat→Nat)→aa) (h0:S (fun _=>0)=σ)
 (hm:P.follows .mixedOrders=true) (hB:Region.lexB .any l.toArray=true) (hd:eU n l.toArray=true) (hE:yW .any l.toArray m cls (fun c=>qW l (cOf cls c)) (fun c=>qV l (cOf cls c)) (fun c=>fY l (cOf cls c)) l.length 0 (Array.replicate l.length false)=true)
 (h:∀U:Env→(Nat→Nat)→Prop,(∀e J,K .normal e (S J)→U e J)→VQ P n l.toArray S m cls (fun c=>qW l (cOf cls c)) (fun c=>qV l (cOf cls c)) (fun c=>fY l (cOf cls c)) U l 0 env (fun _=>0)):AWP P n (.region id l.toArray true) K env σ:=by
 subst h0;intro G a w hr;simp only[Region.lexB,zA0] at hB;refine wpIn_region_any hm ?_;have:=yX (md:=.any) l 0 (Array.replicate l.toArray.size false) env (fun _=>0) sMp (by simpa using hE) (by simpa using hB.2) (h (fun e J=>K .normal e (S J)) fun _ _ h=>h);refine fT _ hd _ _ env (fun _=>0) (by simpa using this) G a _ ⟨hr.size,hr.defers,hr.bf,hr.st.drew⟩ _ ?_;intro G' au B a' w' hg hk hr';exact⟨au,S B,G',hk,hg,hr'⟩
def inV (m:Nat) (lo hi:Nat→Nat→Nat) (i x:Nat) (J:Nat→Nat):Bool:=(List.range (m+1)).all fun c=>c==0||c==x||(decide (lo c i≤J c)&&decide (J c≤hi c i))
theorem yY {i x:Nat} {J:Nat→Nat} (h:inV m lo hi i x J=true):∀d,1≤d→d≤m→d≠x→lo d i≤J d∧J d≤hi d i:=fun d d1 d2 d3=>by
 have h4:=zA6.1 h d (zBk.2 oM);simp only[zBn,beq_iff_eq,zA0,dEt] at h4;rcases h4 with (h4|h4)|h4
 · omega
 · omega
 · exact h4
theorem VQ.mono {K U:Env→(Nat→Nat)→Prop} (hk:∀e J,K e J→U e J):∀{l:List Oper} {i:Nat} {e:Env} {J:Nat→Nat},VQ P n ops S m cls lo hi aK K l i e J→VQ P n ops S m cls lo hi aK U l i e J
 |[],_,_,_,h=>hk _ _ h
 |_::_,_,_,_,⟨v,A,h1,h2⟩=>⟨v,A,h1,VQ.mono hk h2⟩
theorem VQ.nil {K:Env→(Nat→Nat)→Prop} {env:Env} {i:Nat} {J:Nat→Nat} (h:K env J):VQ P n ops S m cls lo hi aK K [] i env J:=h
theorem VQ.q {K:Env→(Nat→Nat)→Prop} {env:Env} {i:Nat} {J:Nat→Nat} {o:Oper} {rest:List Oper} {v v':AV} {g:GG} {d:Nat} (he:cls o=0) (hj:inV m lo hi i 0 J=true) (hd:o.dst=some d) (hg:gOf ops env o=some g)
 (h:∀J',g.holds→PRun P o env (S J') v) (hv:g.wrap v=v') (hk:VQ P n ops S m cls lo hi aK K rest (i+1) (env.put d v') J):VQ P n ops S m cls lo hi aK K (o::rest) i env J:=by
 subst hv;refine⟨g.wrap v,J,.q (fun c c1 c2=>yY hj c c1 c2 oM) he fun J' _=>PStep.g hg (h J'),?_⟩;rw[hd];exact hk
theorem VQ.e (c r:Nat) {K:Env→(Nat→Nat)→Prop} {env:Env} {i:Nat} {J:Nat→Nat} {o:Oper} {rest:List Oper} {v:AV} {d:Option Nat} (he:cls o=c) (hc:(decide (1≤c)&&decide (c≤m)&&(aK c i==r+1)&&(J c==r)&&inV m lo hi i c J)=true) (hd:o.dst=d)
 (h:∀au,(∀x∈o.looksAt ops,au x=env x)→∀J',J' c=r→EStep P n ops o (fun e s=>e=au.bj o.dst v∧s=S (bump J' c)) au (S J'))
 (hk:VQ P n ops S m cls lo hi aK K rest (i+1) (env.bj d v) (bump J c)):VQ P n ops S m cls lo hi aK K (o::rest) i env J:=by
 subst hd;simp only[zA0,dEt,beq_iff_eq] at hc;obtain⟨⟨⟨⟨a1,a2⟩,a3⟩,a4⟩,a5⟩:=hc;exact⟨v,bump J c,.e c he ⟨a1,a2⟩ oM (yY a5) fun e1 h1 J' g2 _=>h e1 h1 J' oM,hk⟩
end
theorem AWP.kG {P:Program} {n:Nat} {c:Code} {K:Exit→Env→aa→Prop} {env:Env} {σ:aa} (sz:Nat) (hk:AWP P n c K env (σ++[.arr sz 0 []])):AWP P n c K env σ:=by
 intro G a w hr;have hle:G.Le { G with B:=G.B++[.own none 0 0] }:=.upB (BLe.append _ _);have hs:az { G with B:=G.B++[GB.own none 0 0] } (σ++[.arr sz 0 []]) w:=by
  have h0:=hr.st.fX sz;refine⟨h0.ax,h0.m0,h0.base,by simpa using h0.len,fun l g o h1 h2=>?_,h0.fresh,h0.inj,h0.out,h0.dfr⟩;rcases zAb l σ.length with hl|hl
  · exact h0.aZ l g o h1 (by rw[zA8 hl] at h2 ⊢;exact h2)
  · have h3:=h2;rw[zA7 hl] at h3;have h4:l - σ.length=0:=by
     rcases zBi (l - σ.length) with h|h
     · exact h
     · rw[zA2 (by simp;omega)] at h3;cases h3
    rw[h4] at h3;simp at h3;subst h3;rw[zA7 (by rw[hr.st.len];exact hl),hr.st.len,h4] at h1;simp at h1;subst h1;exact .arrz sz 0
 refine wpIn_mono (hk { G with B:=G.B++[GB.own none 0 0] } a w (hr.later hle hs)) ?_;rintro x a' w' ⟨e,s,G',h1,h2,h3⟩;exact⟨e,s,G',h1,Gh.Le.trans hle h2,h3⟩
theorem EStep.pG {P:Program} {T:Tab} {n:Nat} {ops:Array Oper} {o:Oper} {env:Env} {σ:aa} {k:Env→aa→Prop} (hT:T.Ok P) {t:TypeId} {d l sz:Nat} {li:LI} {cs:List AV} (ho:o.op=.alloc t) (hg:o.guard=none) (hd:o.dst=some d) (hdn:(decide (d<n))=true) (hl:T.get t=some li) (hf:dH (li.zero.map Z.av)=some cs) (hsz:decide (li.zero.length=sz∧0<sz)=true)
 (hσ:σ[l]? = some (.arr sz 0 [])) (hk:k (env.put d (.bo l sz 0 0 1)) (σ.set l (.arr sz 1 [cs]))):EStep P n ops o k env σ:=by
 refine EStep.plain hg fun G a w hr=>?_
 have hl:=LOk.of (hT.get hl);have hzl:=(of_decide_eq_true hsz).1;have bg:(execOp a.eval o).run P w=.ok (.value (.pointer (some ⟨w.heap.size,0,none⟩))) (w.alloc (.cells li.aO.cells t)):=by
  simp[execOp,ho,Instr.alloc,newVar,newRow,hl.gn w]
 have eV:li.aO.cells=(li.zero.map Z.val).toArray:=by
  unfold LI.aO;cases ha:li.lt.isAgg with
  |true=>rfl
  | false =>
    obtain⟨z,hz⟩:=hl.one ha;rw[hz];cases z<;>rfl
 unfold OWP;rw[bg];have hcs:cs=li.zero.map Z.av:=(dU hf).symm;obtain⟨ob,cap,hB,_,_⟩:=cJ hr.st hσ;have hm:=fW hr.st.ax;have hls:l<G.B.length:=by
  rcases zAb l G.B.length with h|h
  · exact h
  · simp[zA2 h] at hB
 have hgl:GB.Le (.own ob cap 0) (.own (some w.heap.size) 1 1):=.inr ⟨_,_,_,rfl,oM⟩;have hal:=hr.st.alloc (o:=.cells li.aO.cells t) (g:=.own (some w.heap.size) 1 1) (ao:=.arr sz 1 [cs]) rfl (.arr w.heap.size 1 sz 1 [cs] li.aO.cells t (0,0) (by rw[heap_alloc,if_pos rfl]) (by intro o _;simp) (by rw[eV];simp[hzl]) sMp (fun e he=>by
  simp at he;subst he;rw[hcs];simp[hzl]) (fun i j e c h1 h2=>by
  match i,h1 with
  | 0, h1 =>
    simp at h1;subst h1;rw[hcs] at h2;simp only[zA3,zA5] at h2;obtain⟨z,hz,rfl⟩:=h2;rw[eV];have:(li.zero.map Z.val).toArray.getD (0 * sz+j) undef=z.val:=by simp[hz,zA4]
    rw[this];cases z<;>first|exact .prim _|exact .nils|exact .imapz
  |i+1,h1=>simp at h1) (hm _ (zAt _)).1)
 have hs:az { G with M:=G.M,B:=G.B.set l (.own (some w.heap.size) 1 1) } (σ.set l (.arr sz 1 [cs])) (w.alloc (.cells li.aO.cells t)):=by
  refine hr.st.ko (w':=w.alloc (.cells li.aO.cells t)) hB (Mem.Le.refl _) hgl rfl sMp (fun k hk hk2=>by rw[heap_alloc,if_neg oM]) rfl (fun b hb o=>rfl) hal.ax (.inr (zAt _)) sMp ct.r ?_;refine .arr w.heap.size 1 sz 1 [cs] li.aO.cells t (0,0) (by rw[heap_alloc,if_pos rfl]) (by intro o _;simp) (by rw[eV];simp[hzl]) sMp (fun e he=>by
   simp at he;subst he;rw[hcs];simp[hzl]) (fun i j e c h1 h2=>?_) (hm _ (zAt _)).1
  match i,h1 with
  | 0, h1 =>
    simp at h1;subst h1;rw[hcs] at h2;simp only[zA3,zA5] at h2;obtain⟨z,hz,rfl⟩:=h2;rw[eV];have:(li.zero.map Z.val).toArray.getD (0 * sz+j) undef=z.val:=by simp[hz,zA4]
    rw[this];cases z<;>first|exact .prim _|exact .nils|exact .imapz
  |i+1,h1=>simp at h1
 have hle:BLe G.B (G.B.set l (.own (some w.heap.size) 1 1)):=by
  intro l' g1 h1;by_cases e:l=l'
  · subst e;rw[hB] at h1;simp at h1;subst h1;exact⟨_,by rw[zAh hls],hgl⟩
  · exact⟨g1,by rw[zAs e];exact h1,GB.Le.refl _⟩
 refine⟨_,_,_,hk,.upB hle,?_⟩;rw[hd];have hr':bd n { G with B:=G.B.set l (.own (some w.heap.size) 1 1) } env (σ.set l (.arr sz 1 [cs])) a (w.alloc (.cells li.aO.cells t)):=hr.later (.upB hle) hs;refine hr'.put (of_decide_eq_true hdn) ?_;exact .bo l sz 0 0 1 w.heap.size 0 ⟨some w.heap.size,1,1,by rw[zAh hls],zAt _,fun _=>⟨oM,(of_decide_eq_true hsz).2,by simp,rfl⟩⟩
end Go.Ab
namespace Go.Ab
theorem EStep.lT {P:Program} {T:Tab} {n:Nat} {ops:Array Oper} {o:Oper} {env:Env} {σ:aa} {k:Env→aa→Prop} (hT:T.Ok P) {t:TypeId} {d l sz ver:Nat} {es0:List (List AV)} {li:LI} {cs:List AV} (ho:o.op=.alloc t) (hg:o.guard=none) (hd:o.dst=some d) (hdn:(decide (d<n))=true) (hl:T.get t=some li) (hf:dH (li.zero.map Z.av)=some cs) (hsz:decide (li.zero.length=sz∧0<sz)=true)
 (hσ:σ[l]? = some (.arr sz ver es0)) (hk:k (env.put d (.bo l sz 0 0 (ver+1))) (σ.set l (.arr sz (ver+1) [cs]))):EStep P n ops o k env σ:=by
 refine EStep.plain hg fun G a w hr=>?_
 have hl:=LOk.of (hT.get hl);have hzl:=(of_decide_eq_true hsz).1;have bg:(execOp a.eval o).run P w=.ok (.value (.pointer (some ⟨w.heap.size,0,none⟩))) (w.alloc (.cells li.aO.cells t)):=by
  simp[execOp,ho,Instr.alloc,newVar,newRow,hl.gn w]
 have eV:li.aO.cells=(li.zero.map Z.val).toArray:=by
  unfold LI.aO;cases ha:li.lt.isAgg with
  |true=>rfl
  | false =>
    obtain⟨z,hz⟩:=hl.one ha;rw[hz];cases z<;>rfl
 unfold OWP;rw[bg];have hcs:cs=li.zero.map Z.av:=(dU hf).symm;obtain⟨ob,cap,hB,_,_⟩:=cJ hr.st hσ;have hm:=fW hr.st.ax;have hls:l<G.B.length:=by
  rcases zAb l G.B.length with h|h
  · exact h
  · simp[zA2 h] at hB
 have hgl:GB.Le (.own ob cap ver) (.own (some w.heap.size) 1 (ver+1)):=.inr ⟨_,_,_,rfl,oM⟩;have hal:=hr.st.alloc (o:=.cells li.aO.cells t) (g:=.own (some w.heap.size) 1 (ver+1)) (ao:=.arr sz (ver+1) [cs]) rfl (.arr w.heap.size 1 sz (ver+1) [cs] li.aO.cells t (0,0) (by rw[heap_alloc,if_pos rfl]) (by intro o _;simp) (by rw[eV];simp[hzl]) sMp (fun e he=>by
  simp at he;subst he;rw[hcs];simp[hzl]) (fun i j e c h1 h2=>by
  match i,h1 with
  | 0, h1 =>
    simp at h1;subst h1;rw[hcs] at h2;simp only[zA3,zA5] at h2;obtain⟨z,hz,rfl⟩:=h2;rw[eV];have:(li.zero.map Z.val).toArray.getD (0 * sz+j) undef=z.val:=by simp[hz,zA4]
    rw[this];cases z<;>first|exact .prim _|exact .nils|exact .imapz
  |i+1,h1=>simp at h1) (hm _ (zAt _)).1)
 have hs:az { G with M:=G.M,B:=G.B.set l (.own (some w.heap.size) 1 (ver+1)) } (σ.set l (.arr sz (ver+1) [cs])) (w.alloc (.cells li.aO.cells t)):=by
  refine hr.st.ko (w':=w.alloc (.cells li.aO.cells t)) hB (Mem.Le.refl _) hgl rfl sMp (fun k hk hk2=>by rw[heap_alloc,if_neg oM]) rfl (fun b hb o=>rfl) hal.ax (.inr (zAt _)) sMp ct.r ?_;refine .arr w.heap.size 1 sz (ver+1) [cs] li.aO.cells t (0,0) (by rw[heap_alloc,if_pos rfl]) (by intro o _;simp) (by rw[eV];simp[hzl]) sMp (fun e he=>by
   simp at he;subst he;rw[hcs];simp[hzl]) (fun i j e c h1 h2=>?_) (hm _ (zAt _)).1
  match i,h1 with
  | 0, h1 =>
    simp at h1;subst h1;rw[hcs] at h2;simp only[zA3,zA5] at h2;obtain⟨z,hz,rfl⟩:=h2;rw[eV];have:(li.zero.map Z.val).toArray.getD (0 * sz+j) undef=z.val:=by simp[hz,zA4]
    rw[this];cases z<;>first|exact .prim _|exact .nils|exact .imapz
  |i+1,h1=>simp at h1
 have hle:BLe G.B (G.B.set l (.own (some w.heap.size) 1 (ver+1))):=by
  intro l' g1 h1;by_cases e:l=l'
  · subst e;rw[hB] at h1;simp at h1;subst h1;exact⟨_,by rw[zAh hls],hgl⟩
  · exact⟨g1,by rw[zAs e];exact h1,GB.Le.refl _⟩
 refine⟨_,_,_,hk,.upB hle,?_⟩;rw[hd];have hr':bd n { G with B:=G.B.set l (.own (some w.heap.size) 1 (ver+1)) } env (σ.set l (.arr sz (ver+1) [cs])) a (w.alloc (.cells li.aO.cells t)):=hr.later (.upB hle) hs;refine hr'.put (of_decide_eq_true hdn) ?_;exact .bo l sz 0 0 (ver+1) w.heap.size 0 ⟨some w.heap.size,1,ver+1,by rw[zAh hls],zAt _,fun _=>⟨oM,(of_decide_eq_true hsz).2,by simp,rfl⟩⟩
section
variable {P:Program} {n:Nat} {ops:Array Oper} {o:Oper} {env:Env} {σ:aa} {T:Tab} {k:Env→aa→Prop}
theorem PRun.ent {v v':AV} (h:PRun P o env σ v) (he:∀M B x,af M B v x→af M B v' x):PRun P o env σ v':=fun G a w hs hv =>
 ub (fun _ _ ⟨x,G',h1,h2,h3,h4⟩=>⟨x,G',h1,he _ _ _ h2,h3,h4⟩) (h G a w hs hv)
def posOf {κ α:Type} [DecidableEq κ]:List (κ×α)→κ→Nat
 |[],_=>0
 |p::r,key=>if p.1=key then 0 else posOf r key+1
theorem ik {κ α:Type} [DecidableEq κ] (key:κ):∀al:List (κ×α),(al.map (·.1)).findIdx? (fun x=>decide (x=key))=(if (lk al key).isSome then some (posOf al key) else none)∧((lk al key).isSome=true→∃v,lk al key=some v∧al[posOf al key]? = some (key,v))∧((lk al key).isSome=false→posOf al key=al.length)
 |[]=>⟨rfl,(fun h=>nomatch h),fun _=>rfl⟩
 | (k', v') :: r => by
   obtain⟨h1,h2,h3⟩:=ik key r;simp only[zBd,zDi,lk,posOf];by_cases e:k'=key
   · subst e;simp
   · simp only[e,if_false,decide_false,zB7];refine⟨?_,fun h=>?_,fun h=>?_⟩
     · rw[h1];split<;>rfl
     · obtain⟨v,h4,h5⟩:=h2 h;exact⟨v,h4,by simpa using h5⟩
     · rw[h3 h];rfl
theorem EStep.LH {κ α:Type} [DecidableEq κ] {ek:κ→Value} {ev:α→AV} {t kt et:TypeId} {m x:Operand} {d l:Nat} {al:List (κ×α)} {key:κ} {v0:α} {uk:AV} {s1 b1:Nat} {z:List Z} {le:LI}
 (K:KeyLaw P kt ek) (hl:LOk P t ⟨.map kt et,s1,b1,z⟩) (he:LOk P et le) (ho:o.op=.mapEntry t m x) (hg:o.guard=none) (hd:o.dst=some d) (hdn:decide (d<n)=true) (hm:Rd env m (.map l)) (hσ:σ[l]? = some (.map (aD ek ev al)))
 (hx:Rd env x uk) (hex:fx uk=some (ek key)) (hz:∀(G:Gh) (w:World),az G σ w→af G.M G.B (ev v0) le.aO)
 (hk:k (env.put d (.tup [ev ((lk al key).getD v0),.int (posOf al key)])) (σ.set l (.map (aD ek ev (if (lk al key).isSome then al else al++[(key,v0)]))))):EStep P n ops o k env σ:=by
 refine EStep.plain hg fun G a w hr=>?_
 have h1:=hr.rd hm;have h2:=ie hex (hr.rd hx);have hzv:=hz G w hr.st;generalize hA:a.eval m=ym at h1;cases h1 with
 | map _ b hb =>
   have cw:=hr.st.aZ l _ _ hb hσ;cases cw with
   | map _ _ es clock hbb hlen hkk hrr hmm hst =>
     have hlt:=(hr.st.fresh l _ b hb rfl).2;rw[bS] at hlen;have uc:es.toList.map (·.key)=(al.map (·.1)).map ek:=by
      apply zC5;intro i;rw[zA3,zCo,zA3,zBb];rcases zAb i es.size with h|h
      · have h':i<al.length:=oM;rw[zAm h,zA1 h'];simp only[zB4,Function.comp];congr 1;exact hkk i (ek al[i].1) (ev al[i].2) _ (by simp[aD,zA3,zA1 h']) (zAm h)
      · rw[zAp h,zA2 oM];rfl
     have cK:=K.find w key es.toList _ uc;have hold:∀(i:Nat) p e,al[i]? = some p→es[i]? = some e→e.key=ek p.1∧af G.M G.B (ev p.2) e.val:=fun i p e h4 h5 =>
      ⟨hkk i _ (ev p.2) e (by simp[aD,h4]) h5,hrr i (ek p.1) _ e (by simp[aD,h4]) h5⟩
     have step:∀(es':Array MapEntry) (dn:Nat) (al':List (κ×α)) (v:AV) (y:Value) (i:Nat),(execOp a.eval o).run P w=.ok (.value (.tuple #[y,goInt (i:Int)])) { w with heap:=w.heap.setIfInBounds b (.map es' dn) } →
      es'.size=al'.length→(dn=es'.size∧∀(i:Nat) (e:MapEntry),es'[i]? = some e→e.born=i)→(∀(i:Nat) p e,al'[i]? = some p→es'[i]? = some e→e.key=ek p.1∧af G.M G.B (ev p.2) e.val)→af G.M G.B v y →
      k (env.put d (.tup [v,.int i])) (σ.set l (.map (aD ek ev al'))) →
      eY P o a (fun a' w'=>∃au σ' G',k au σ'∧G.Le G'∧bd n G' au σ' a' w') ((execOp a.eval o).run P w):=by
      intro es' dn al' v y i bg hsz pj bQ hvy hk';rw[bg]
      have hs:=hr.st.upd (o':=.map (aD ek ev al')) (w':={ w with heap:=w.heap.setIfInBounds b (.map es' dn) }) hb rfl sMp (fun k hk=>by rw[heap_set w b _ hlt,if_neg hk])
       (.map b _ es' dn (by rw[heap_set w b _ hlt,if_pos rfl]) (by rw[bS];exact hsz) (fun i k' v' e h4 h5=>by
        obtain⟨p,h6,rfl,rfl⟩:=dA h4;exact(bQ i p e h6 h5).1) (fun i k' v' e h4 h5=>by
        obtain⟨p,h6,rfl,rfl⟩:=dA h4;exact(bQ i p e h6 h5).2) hmm pj)
       ⟨ef hr.st.ax hbb (by intros;simp),hmm⟩ ct.r
      refine⟨_,_,G,hk',Gh.Le.refl G,?_⟩;have hr':bd n G env (σ.set l (.map (aD ek ev al'))) a { w with heap:=w.heap.setIfInBounds b (.map es' dn) }:=⟨hr.size,hr.defers,hr.bf,hs⟩;rw[hd];exact hr'.put (of_decide_eq_true hdn) (.tup _ _ rfl fun i c hi=>by
       match i,hi with
       |0,hi=>simp at hi;subst hi;exact hvy
       |1,hi=>simp at hi;subst hi;exact .prim _
       |i+2,hi=>simp at hi)
     obtain⟨p1,p2,p3⟩:=ik key al;unfold OWP;cases hf:(lk al key).isSome with
     | false =>
       rw[hf] at p1 hk;simp only[zB7,if_false] at p1 hk;rw[p1] at cK;have hno:lk al key=none:=by cases h:lk al key with|none=>rfl|some v=>rw[h] at hf;cases hf
       rw[hno,Option.getD_none,p3 hf,←hlen,←hst.1] at hk;refine step (es.push { key:=ek key,val:=le.aO,born:=clock }) (clock+1) _ _ le.aO clock ?_ (by simp[hlen]) ⟨by simp[hst.1],fun i e he=>?_⟩ ?_ hzv hk
       · simp only[execOp,ho,hA,h2,Instr.mapEntry];simp[hl.jP w,getObj,setObj,Sem.run,hbb,K.check,cK];simp[he.gn w,hbb,goInt]
       · rw[zCz] at he;split at he
         · rename_i hi;simp at he;subst he;rw[hi];exact hst.1
         · exact hst.2 i e he
       · intro i p e h4 h5;rw[zCz] at h5;split at h5
         · rename_i hi;simp at h5;subst h5;rw[zA7 oM,hi,hlen] at h4;simp at h4;subst h4;exact⟨rfl,hzv⟩
         · rename_i hi;have:i<es.size:=by
            rcases zAb i es.size with h|h
            · exact h
            · simp[zAp h] at h5
           rw[zA8 oM] at h4;exact hold i p e h4 h5
     | true =>
       rw[hf] at p1 hk;simp only[if_true] at p1 hk;obtain⟨v,hv,hp⟩:=p2 hf;rw[hv,zCr] at hk;rw[p1] at cK;have hpl:posOf al key<al.length:=by
        rcases zAb (posOf al key) al.length with h|h
        · exact h
        · rw[zA2 h] at hp;cases hp
       have hjs:posOf al key<es.size:=oM;obtain⟨o1,o2⟩:=hold _ _ es[posOf al key] hp (zAm hjs);have MQ:=hst.2 _ _ (zAm hjs);refine step (es.modify (posOf al key) fun e=>{ e with key:=ek key }) clock al _ es[posOf al key].val (posOf al key) ?_ (by simp[hlen]) ⟨by simp[hst.1],fun i e he=>?_⟩ ?_ o2 hk
       · simp only[execOp,ho,hA,h2,Instr.mapEntry];have e1:(Option.bind (some (posOf al key)) fun i=>(es.toList[i]?).map fun e=>(i,e.val))=some (posOf al key,es[posOf al key].val):=by simp[hjs]
         rw[e1] at cK;simp[hl.jP w,getObj,setObj,Sem.run,hbb,K.check,cK,hjs,o1,K.stays,MQ,goInt]
       · rw[zBc] at he;split at he
         · simp only[zA5] at he;obtain⟨e0,h1,rfl⟩:=he;exact hst.2 i e0 h1
         · exact hst.2 i e he
       · intro i p e h4 h5;rw[zBc] at h5;by_cases hij:posOf al key=i
         · subst hij;rw[hp] at h4;simp at h4;subst h4;simp[hjs] at h5;subst h5;exact⟨rfl,o2⟩
         · rw[if_neg hij] at h5;exact hold i p e h4 h5
theorem EStep.Hc {κ α:Type} {ek:κ→Value} {ev:α→AV} {t:TypeId} {m s y:Operand} {l i:Nat} {al:List (κ×α)} {key:κ} {v1 v:α}
 (ho:o.op=.entryStore t m s y) (hg:o.guard=none) (hdn:fa n o=true) (hm:Rd env m (.map l)) (hσ:σ[l]? = some (.map (aD ek ev al))) (hs:Rd env s (.int i)) (hi:al[i]? = some (key,v1)) (hy:Rd env y (ev v))
 (hk:k (env.bj o.dst .any) (σ.set l (.map (aD ek ev (al.set i (key,v)))))):EStep P n ops o k env σ:=by
 refine EStep.plain hg fun G a w hr=>?_
 have h1:=hr.rd hm;have h2:=af.aP (hr.rd hs);have h3:=hr.rd hy;generalize hA:a.eval m=ym at h1;cases h1 with
 | map _ b hb =>
   have cw:=hr.st.aZ l _ _ hb hσ;cases cw with
   | map _ _ es clock hbb hlen hkk hrr hmm hst =>
     have hlt:=(hr.st.fresh l _ b hb rfl).2;rw[bS] at hlen;have hold:∀(i:Nat) p e,al[i]? = some p→es[i]? = some e→e.key=ek p.1∧af G.M G.B (ev p.2) e.val:=fun i p e h4 h5 =>
      ⟨hkk i _ (ev p.2) e (by simp[aD,h4]) h5,hrr i (ek p.1) _ e (by simp[aD,h4]) h5⟩
     have hil:i<al.length:=by
      rcases zAb i al.length with h|h
      · exact h
      · rw[zA2 h] at hi;cases hi
     have his:i<es.size:=oM;obtain⟨o1,o2⟩:=hold _ _ es[i] hi (zAm his);have cK:es.findIdx? (fun e=>decide ((e.born:Int)=(i:Int)))=some i:=by
      rw[Array.findIdx?_eq_some_iff_getElem];refine⟨his,?_,fun j hj=>?_⟩
      · have:=hst.2 i _ (zAm his);simp[this]
      · have:=hst.2 j _ (zAm (show j<es.size by omega));simp[this];omega
     have bg:(execOp a.eval o).run P w=.ok .skip { w with heap:=w.heap.setIfInBounds b (.map (es.modify i fun e=>{ e with val:=a.eval y }) clock) }:=by
      simp only[execOp,ho,hA,h2,Instr.entryStore];simp only[BEq.beq] at *;simp[getObj,setObj,Sem.run,hbb,asInt,asIntOf,cK]
     unfold OWP;rw[bg]
     have hs:=hr.st.upd (o':=.map (aD ek ev (al.set i (key,v)))) (w':={ w with heap:=w.heap.setIfInBounds b (.map (es.modify i fun e=>{ e with val:=a.eval y }) clock) }) hb rfl sMp (fun k hk=>by rw[heap_set w b _ hlt,if_neg hk])
      (.map b _ (es.modify i fun e=>{ e with val:=a.eval y }) clock (by rw[heap_set w b _ hlt,if_pos rfl]) (by rw[bS];simp[hlen]) (fun i' k' v' e h4 h5=>by
       obtain⟨p,h6,rfl,rfl⟩:=dA h4;rw[zBc] at h5;by_cases hij:i=i'
       · subst hij;rw[zAh hil] at h6;simp at h6;subst h6;simp[his] at h5;subst h5;exact o1
       · rw[if_neg hij] at h5;rw[zAs hij] at h6;exact(hold i' p e h6 h5).1) (fun i' k' v' e h4 h5=>by
       obtain⟨p,h6,rfl,rfl⟩:=dA h4;rw[zBc] at h5;by_cases hij:i=i'
       · subst hij;rw[zAh hil] at h6;simp at h6;subst h6;simp[his] at h5;subst h5;exact h3
       · rw[if_neg hij] at h5;rw[zAs hij] at h6;exact(hold i' p e h6 h5).2) hmm ⟨by simp[hst.1],fun j e he=>by
          rw[zBc] at he;split at he
          · simp only[zA5] at he;obtain⟨e0,h1,rfl⟩:=he;exact hst.2 j e0 h1
          · exact hst.2 j e he⟩)
      ⟨ef hr.st.ax hbb (by intros;simp),hmm⟩ ct.r
     refine⟨_,_,G,hk,Gh.Le.refl G,?_⟩;have hr':bd n G env (σ.set l (.map (aD ek ev (al.set i (key,v))))) a { w with heap:=w.heap.setIfInBounds b (.map (es.modify i fun e=>{ e with val:=a.eval y }) clock) }:=⟨hr.size,hr.defers,hr.bf,hs⟩;exact hr'.bj (ca hdn) (.any _)
theorem AWP.BI {c:Code} {K:Exit→Env→aa→Prop} {κ α β:Type} {ek:κ→Value} {ev:α→AV} {ev':β→AV} {al:List (κ×α)} (l:Nat) (f:α→β) (hσ:σ[l]? = some (.map (aD ek ev al))) (hf:∀a M B x,af M B (ev a) x→af M B (ev' (f a)) x)
 (h:AWP P n c K env (σ.set l (.map (aD ek ev' (al.map fun p=>(p.1,f p.2)))))):AWP P n c K env σ:=by
 intro G a w hr;have hs:=az.ku (o':=.map (aD ek ev' (al.map fun p=>(p.1,f p.2)))) hr.st hσ fun g hg ho=>by
  cases ho with
  | map b _ es clock hbb hlen hkk hrr hmm hst =>
    refine .map b _ es clock hbb (by rw[bS] at hlen ⊢;simpa using hlen) (fun i k v e h1 h2=>?_) (fun i k v e h1 h2=>?_) hmm hst
    · obtain⟨p,h6,rfl,rfl⟩:=dA h1;rw[zA3,zA5] at h6;obtain⟨q,h7,rfl⟩:=h6;exact hkk i _ (ev q.2) e (by simp[aD,h7]) h2
    · obtain⟨p,h6,rfl,rfl⟩:=dA h1;rw[zA3,zA5] at h6;obtain⟨q,h7,rfl⟩:=h6;exact hf _ _ _ _ (hrr i (ek q.1) (ev q.2) e (by simp[aD,h7]) h2)
 exact h G a w ⟨hr.size,hr.defers,hr.bf,hs⟩
theorem AWP.BJ {c:Code} {K:Exit→Env→aa→Prop} {v i sz:Nat} {cs:List AV} (hv:σ[v]? = some (.var cs)) (hi:cs[i]? = some .nils)
 (hk:AWP P n c K env (σ.set v (.var (cs.set i (.sl sz [] (.own σ.length))))++[.arr sz 0 []])):AWP P n c K env σ:=by
 refine AWP.j5 (sz:=sz) hv hi ?_;intro G a w hr;have hlen:(σ.set v (.var (cs.set i (.sl sz [] (.own σ.length))))).length=σ.length:=sMp;have hs:az G (σ.set v (.var (cs.set i (.sl sz [] (.own σ.length))))++[.arr sz 0 []]) w:=by
  have:=az.ku (l:=σ.length) (o:=.own sz 0) (o':=.arr sz 0 []) hr.st (by rw[zA7 (by rw[hlen];exact zAt _),hlen];simp) (fun g hg ho=>by
   cases ho with
   |ownz=>exact .arrz sz 0
   |own b cap _ _ c T fr hb hf hl hn hm=>exact .arr b cap sz 0 [] c T fr hb hf hl (Nat.zero_le _) (fun e he=>by cases he) (fun i j e a h1=>by simp at h1) fun o=>hm o oM)
  rw[List.set_append_right _ _ (by rw[hlen];exact zAt _),hlen] at this;simpa using this
 exact hk G a w ⟨hr.size,hr.defers,hr.bf,hs⟩
def jk (l sz ver:Nat) (es:List (List AV)):AV→AV
 |.sla l' sz' off len ver'=>if l'=l∧sz'=sz∧off=0∧len=es.length∧ver'=ver then .sl sz es .no else .sla l' sz' off len ver'
 |v=>v
def iC (l sz ver:Nat) (es:List (List AV)):aF→aF
 |.var cs=>.var (cs.map (jk l sz ver es))
 |o=>o
theorem AWP.pH {c:Code} {K:Exit→Env→aa→Prop} {l sz ver:Nat} {es:List (List AV)} (hσ:σ[l]? = some (.arr sz ver es))
 (px:∀e∈es,∀a∈e,∀M B x,af M B a x→af M [] a x) (h:AWP P n c K (fun i=>jk l sz ver es (env i)) ((σ.set l .dead).map (iC l sz ver es))):AWP P n c K env σ:=by
 intro G a w hr;obtain⟨ob,cap,hB,hne,hob⟩:=cJ hr.st hσ;have hlt:l<σ.length:=by
  rcases zAb l σ.length with h|h
  · exact h
  · simp[zA2 h] at hσ
 have dead:∀(M':Mem),G.M.Le M'→(∀b,(∀b0,ob=some b0→b≠b0)→(∀o,M'.cell b o=G.M.cell b o)∧M'.map b=G.M.map b)→dg M' w→az { G with M:=M' } (σ.set l .dead) w:=fun M' hle hoth hok=>by
  have mN:∀b0,ob=some b0→¬G.w0.ji b0∧∀(l':Nat) (g:GB),G.B[l']? = some g→g.block=some b0→l'=l:=fun b0 e=>by
   subst e;exact⟨(hr.st.fresh l _ b0 hB rfl).1,fun l' g h1 h2=>hr.st.inj l' l g _ b0 h1 hB h2 rfl⟩
  refine⟨hok,fun b hb=>?_,hr.st.base,by simp[hr.st.len],fun l' g' o' h1 h2=>?_,hr.st.fresh,hr.st.inj,hr.st.out,⟨fun p hp=>?_,hr.st.dfr.2⟩⟩
  · have:=hoth b fun b0 e eb=>(mN b0 e).1 (eb▸hb)
    have h0:=hr.st.m0 b hb;exact⟨fun o=>(this.1 o).trans (h0.1 o),this.2.trans h0.2⟩
  · by_cases hll:l=l'
    · subst hll;rw[zAh hlt] at h2;simp at h2;subst h2;exact .dead _
    · rw[zAs hll] at h2;refine(hr.st.aZ l' g' o' h1 h2).grow hle (BLe.refl _) (fun _ _=>rfl) fun b hb=>hoth b fun b0 e eb=>?_
      subst eb;exact hll ((mN b e).2 l' g' h1 hb).symm
  · obtain⟨k1,k2,k3,k4,k5⟩:=hr.st.dfr.1 p hp;have:=hoth p.1 fun b0 e eb=>by
     subst e;exact k3 l _ hB (by rw[eb];rfl)
    exact⟨k1,k2,k3,fun o=>(this.1 o).trans (k4 o),this.2.trans k5⟩
 have fin:∀(M':Mem),G.M.Le M'→az { G with M:=M' } (σ.set l .dead) w→(∀(X:Value),af M' G.B (.sla l sz 0 es.length ver) X→af M' G.B (.sl sz es .no) X)→c.wpIn (FR G.R) 0 P (fun x a' w'=>∃au σ' G',K x au σ'∧G.Le G'∧bd n G' au σ' a' w') a w:=fun M' hle hs hv=>by
  have hf:∀u x,af M' G.B u x→af M' G.B (jk l sz ver es u) x:=by
   intro u x h1;cases u<;>simp only[jk]<;>try exact h1
   split
   · rename_i e;obtain⟨rfl,rfl,rfl,rfl,rfl⟩:=e;exact hv _ h1
   · exact h1
  have hO:∀g o,cS M' G.B w g o→cS M' G.B w g (iC l sz ver es o):=by
   intro g o ho;cases ho with
   | var b' cs c T fr hb2 hf2 hl2 hr2 hm2 =>
     refine .var b' _ c T fr hb2 hf2 (by simpa using hl2) ?_ hm2;intro i a hi;simp only[zA3,zA5] at hi;obtain⟨a',h7,rfl⟩:=hi;exact hf _ _ (hr2 i a' h7)
   |ownz=>exact .ownz _
   |own b' cap sz n c T fr h1 h2 h3 h4 h5=>exact .own b' cap _ _ c T fr h1 h2 h3 h4 h5
   |arrz=>exact .arrz _ _
   |arr b' cap sz ver es' c T fr h1 h2 h3 h4 h5 h6 h7=>exact .arr b' cap _ _ _ c T fr h1 h2 h3 h4 h5 h6 h7
   |map b' kvs es' clock h1 h2 h3 h4 h5 h6=>exact .map b' _ es' clock h1 h2 h3 h4 h5 h6
   |siter b' s pos h1=>exact .siter b' _ _ h1
   |mapp b' cl bs kvs es' h1 h2 h3 h4 h5 h6=>exact .mapp b' cl bs _ es' h1 h2 h3 h4 h5 h6
   |miter r bm l' s c sn h1 h2=>exact .miter r bm _ _ _ _ h1 h2
   |loop b' r E h1 h2=>exact .loop b' _ _ h1 h2
   |dead=>exact .dead _
  have hs':az { G with M:=M' } ((σ.set l .dead).map (iC l sz ver es)) w:=az.mapO hs _ hO;refine wpIn_mono (h { G with M:=M' } a w ⟨hr.size,hr.defers,fun i=>hf _ _ ((hr.bf i).mono hle (BLe.refl _)),hs'⟩) ?_;rintro x a' w' ⟨e,s,G',h1,h2,h3⟩;exact⟨e,s,G',h1,Gh.Le.trans (G':={ G with M:=M' }) (.upM hle) h2,h3⟩
 by_cases hes:es=[]
 · subst hes;exact fin G.M (Mem.Le.refl _) (dead G.M (Mem.Le.refl _) (fun _ _=>⟨fun _=>rfl,rfl⟩) hr.st.ax) fun X hX=>by
    cases hX with
    |sla _ _ _ _ _ ad cc hq=>exact .slzz sz ad cc
 · obtain⟨b,rfl⟩:=hne hes;obtain⟨cs,T',fr,hbb,hf,hlen,hn,hz,bQ,hm⟩:=hob b rfl;have nF:es.length≠0:=fun e=>hes (zAv e)
   have hle:=Mem.j4 (M:=G.M) (b:=b) cs hm;refine fin (G.M.bF b cs) hle (dead _ hle (fun b' hb'=>?_) ?_) fun X hX=>?_
   · have:=hb' b rfl;exact⟨fun o=>by simp only[Mem.bF,if_neg this],rfl⟩
   · refine⟨fun b' o v hv=>?_,hr.st.ax.m,hr.st.ax.g.mono hle⟩;simp only[Mem.bF] at hv;split at hv
     · rename_i e;subst e;simp only[World.cell?,hbb];exact hv
     · exact hr.st.ax.c _ _ _ hv
   · cases hX with
     | sla _ _ _ _ _ ad cc hq =>
       obtain⟨ob',dW,n',g1,g2,g3⟩:=hq;rw[hB] at g1;simp at g1;obtain⟨rfl,rfl,rfl⟩:=g1;obtain⟨g4,g5⟩:=g3 rfl;rcases g5 with g5|⟨rfl,rfl⟩
       · exact absurd g5 nF
       simp only[zB4,zDl,Nat.sub_zero];refine .sl sz es .no b 0 _ (fun i j=>cs.getD (i * sz+j) undef) hz (fun i j hi hj=>?_) (fun i j e a he ha=>?_) hn trivial
       · have h1:=ea (zCf hi hn) hj;have h2:i * sz+j<cs.size:=by rw[hlen];exact h1
         simp only[Mem.bF,if_pos rfl,zC3];simp[h2]
       · exact px e (zAe he) a (zAe ha) _ _ _ ((bQ i j e a he ha).mono hle (BLe.refl _))
end
end Go.Ab
namespace Go.Ab
section
variable {P:Program} {n:Nat} {ops:Array Oper} {S:Nat→Nat→aa} {cls:Oper→Nat} {lo hi aK:Nat→Nat→Nat}
def WQ (P:Program) (n:Nat) (ops:Array Oper) (S:Nat→Nat→aa) (cls:Oper→Nat) (lo hi aK:Nat→Nat→Nat) (K:Env→Nat→Nat→Prop) (l:List Oper) (i:Nat) (e:Env) (j1 j2:Nat):Prop :=
 ∀J:Nat→Nat,J 1=j1→J 2=j2→VQ P n ops (fun J=>S (J 1) (J 2)) 2 cls lo hi aK (fun e J=>K e (J 1) (J 2)) l i e J
theorem AWP.xY {id:Nat} {l:List Oper} {K:Exit→Env→aa→Prop} {env:Env} {σ:aa} (cls:Oper→Nat) (S:Nat→Nat→aa) (h0:S 0 0=σ)
 (hm:P.follows .mixedOrders=true) (hB:Region.lexB .any l.toArray=true) (hd:eU n l.toArray=true) (hE:yW .any l.toArray 2 cls (fun c=>qW l (cOf cls c)) (fun c=>qV l (cOf cls c)) (fun c=>fY l (cOf cls c)) l.length 0 (Array.replicate l.length false)=true)
 (h:∀U:Env→Nat→Nat→Prop,(∀e j1 j2,K .normal e (S j1 j2)→U e j1 j2)→WQ P n l.toArray S cls (fun c=>qW l (cOf cls c)) (fun c=>qV l (cOf cls c)) (fun c=>fY l (cOf cls c)) U l 0 env 0 0):AWP P n (.region id l.toArray true) K env σ :=
 AWP.CM 2 cls (fun J=>S (J 1) (J 2)) h0 hm hB hd hE fun U V=>by
  have h2:=h (fun e j1 j2=>∀J:Nat→Nat,J 1=j1→J 2=j2→U e J) (fun e j1 j2 hk J e1 e2=>V e J (by rw[e1,e2];exact hk)) (fun _=>0) rfl rfl;exact VQ.mono (fun e J hk=>hk J rfl rfl) h2
theorem WQ.nil {K:Env→Nat→Nat→Prop} {env:Env} {i j1 j2:Nat} (h:K env j1 j2):WQ P n ops S cls lo hi aK K [] i env j1 j2:=fun J e1 e2=>by
 subst e1;subst e2;exact h
theorem Kb {i j1 j2:Nat} {J:Nat→Nat} (e1:J 1=j1) (e2:J 2=j2) (h1:lo 1 i≤j1∧j1≤hi 1 i) (h2:lo 2 i≤j2∧j2≤hi 2 i):∀c,1≤c→c≤2→lo c i≤J c∧J c≤hi c i:=fun c c1 c2=>by
 have:c=1∨c=2:=oM;rcases this with rfl|rfl
 · rw[e1];exact h1
 · rw[e2];exact h2
theorem WQ.qb (B1 B2:Nat) {K:Env→Nat→Nat→Prop} {env:Env} {i j1 j2:Nat} {o:Oper} {rest:List Oper} {v v':AV} {g:GG} {d:Nat} (he:cls o=0)
 (hj:(decide (lo 1 i≤j1)&&decide (j1≤hi 1 i)&&decide (lo 2 i≤j2)&&decide (j2≤hi 2 i)&&decide (hi 1 i≤B1)&&decide (hi 2 i≤B2))=true) (hd:o.dst=some d) (hg:gOf ops env o=some g)
 (h:∀k1 k2,k1≤B1→k2≤B2→g.holds→PRun P o env (S k1 k2) v) (hv:g.wrap v=v') (hk:WQ P n ops S cls lo hi aK K rest (i+1) (env.put d v') j1 j2):WQ P n ops S cls lo hi aK K (o::rest) i env j1 j2:=fun J e1 e2=>by
 subst hv;simp only[zA0,dEt] at hj;obtain⟨⟨⟨⟨⟨a1,a2⟩,a3⟩,a4⟩,a5⟩,a6⟩:=hj;refine⟨g.wrap v,J,.q (Kb e1 e2 ⟨a1,a2⟩ ⟨a3,a4⟩) he fun J' hr=>PStep.g hg (h (J' 1) (J' 2) (zBu (hr 1 oM oM).2 a5) (zBu (hr 2 oM oM).2 a6)),?_⟩;rw[hd];exact hk J e1 e2
theorem WQ.q {K:Env→Nat→Nat→Prop} {env:Env} {i j1 j2:Nat} {o:Oper} {rest:List Oper} {v v':AV} {g:GG} {d:Nat} (he:cls o=0) (hj:(decide (lo 1 i≤j1)&&decide (j1≤hi 1 i)&&decide (lo 2 i≤j2)&&decide (j2≤hi 2 i)&&decide (hi 1 i≤2)&&decide (hi 2 i≤2))=true) (hd:o.dst=some d) (hg:gOf ops env o=some g)
 (h:∀k1 k2,k1≤2→k2≤2→g.holds→PRun P o env (S k1 k2) v) (hv:g.wrap v=v') (hk:WQ P n ops S cls lo hi aK K rest (i+1) (env.put d v') j1 j2):WQ P n ops S cls lo hi aK K (o::rest) i env j1 j2:=WQ.qb 2 2 he hj hd hg h hv hk
theorem WQ.e1 (B:Nat) {K:Env→Nat→Nat→Prop} {env:Env} {i j1 j2:Nat} {o:Oper} {rest:List Oper} {v:AV} {d:Option Nat} (he:cls o=1) (hj:(aK 1 i==j1+1&&decide (lo 2 i≤j2)&&decide (j2≤hi 2 i)&&decide (hi 2 i≤B))=true) (hd:o.dst=d)
 (h:∀au,(∀x∈o.looksAt ops,au x=env x)→∀k2,k2≤B→EStep P n ops o (fun e s=>e=au.bj o.dst v∧s=S (j1+1) k2) au (S j1 k2))
 (hk:WQ P n ops S cls lo hi aK K rest (i+1) (env.bj d v) (j1+1) j2):WQ P n ops S cls lo hi aK K (o::rest) i env j1 j2:=fun J e1 e2=>by
 subst hd;simp only[zA0,dEt,beq_iff_eq] at hj;obtain⟨⟨⟨a1,a2⟩,a3⟩,a4⟩:=hj;refine⟨v,bump J 1,.e 1 he oM oM (fun d d1 d2 hd=>?_) fun au g1 J' g2 g3=>?_,hk _ (by rw[gO];omega) (by rw[ij dCd];exact e2)⟩
 · obtain rfl:d=2:=oM;omega
 · have:=(g3 2 oM oM dCd).2;have q:=h au g1 (J' 2) oM;have e3:J' 1=j1:=oM;show EStep P n ops o (fun e s=>e=au.bj o.dst v∧s=S (bump J' 1 1) (bump J' 1 2)) au (S (J' 1) (J' 2));rw[gO,ij dCd,e3];exact q
theorem WQ.e2 (A B:Nat) {K:Env→Nat→Nat→Prop} {env:Env} {i j1 j2:Nat} {o:Oper} {rest:List Oper} {v:AV} {d:Option Nat} (he:cls o=2) (hj:(aK 2 i==j2+1&&decide (lo 1 i≤j1)&&decide (j1≤hi 1 i)&&decide (hi 1 i≤B)&&decide (A≤lo 1 i))=true) (hd:o.dst=d)
 (h:∀au,(∀x∈o.looksAt ops,au x=env x)→∀k1,A≤k1→k1≤B→EStep P n ops o (fun e s=>e=au.bj o.dst v∧s=S k1 (j2+1)) au (S k1 j2))
 (hk:WQ P n ops S cls lo hi aK K rest (i+1) (env.bj d v) j1 (j2+1)):WQ P n ops S cls lo hi aK K (o::rest) i env j1 j2:=fun J e1 e2=>by
 subst hd;simp only[zA0,dEt,beq_iff_eq] at hj;obtain⟨⟨⟨⟨a1,a2⟩,a3⟩,a4⟩,a5⟩:=hj;refine⟨v,bump J 2,.e 2 he oM oM (fun d d1 d2 hd=>?_) fun au g1 J' g2 g3=>?_,hk _ (by rw[ij dCd];exact e1) (by rw[gO];omega)⟩
 · obtain rfl:d=1:=oM;omega
 · have:=g3 1 oM oM dCd;have q:=h au g1 (J' 1) oM oM;have e3:J' 2=j2:=oM;show EStep P n ops o (fun e s=>e=au.bj o.dst v∧s=S (bump J' 2 1) (bump J' 2 2)) au (S (J' 1) (J' 2));rw[gO,ij dCd,e3];exact q
end
theorem AWP.oS {P:Program} {n:Nat} {c:Code} {K:Exit→Env→aa→Prop} {env:Env} {σ:aa} (sz:Nat) (hk:AWP P n c K env (σ++[.own sz 0])):AWP P n c K env σ:=by
 intro G a w hr;have hle:G.Le { G with B:=G.B++[.own none 0 0] }:=.upB (BLe.append _ _);refine wpIn_mono (hk { G with B:=G.B++[GB.own none 0 0] } a w (hr.later hle (hr.st.fX sz))) ?_;rintro x a' w' ⟨e,s,G',h1,h2,h3⟩;exact⟨e,s,G',h1,Gh.Le.trans hle h2,h3⟩
end Go.Ab
