/- Parts of the proof. No statement is proved here. -/
import Derived.Test.YtmjdoencpjpegaaGreatDoorP14
import Derived.Test.YtmjdoencpjpegaaGreatDoorP15
import Derived.Test.YtmjdoencpjpegaaGreatDoorP16
set_option linter.unusedVariables false
set_option linter.unusedSimpArgs false
set_option maxHeartbeats 16000000
set_option maxRecDepth 20000
namespace Go.Ab
theorem AWP.kill {P:Program} {n:Nat} {c:Code} {K:Exit→Env→aa→Prop} {env:Env} {σ:aa} (l:Nat) {o:aF} (hσ:σ[l]? = some o) (hk:AWP P n c K env (σ.set l .dead)):AWP P n c K env σ:=by
 intro G a w hr;exact hk G a w ⟨hr.size,hr.defers,hr.bf,az.ku (o':=.dead) hr.st hσ fun g _ _=>.dead g⟩
theorem AWP.gj {P:Program} {n:Nat} (eff:Oper→Bool) {id:Nat} {l:List Oper} {K:Exit→Env→aa→Prop} {env:Env} {σ:aa} (S:Nat→aa) (h0:S 0=σ)
 (hm:P.follows .mixedOrders=true) (hB:Region.lexB .any l.toArray=true) (hd:eU n l.toArray=true) (hE:yE .any l.toArray eff (qW l eff) (qV l eff) (fY l eff) l.length 0 (Array.replicate l.length false)=true)
 (h:∀U:Env→Nat→Prop,(∀e j,K .normal e (S j)→U e j)→YQ P n l.toArray S eff (qW l eff) (qV l eff) (fY l eff) U l 0 env 0):AWP P n (.region id l.toArray true) K env σ:=by
 subst h0;intro G a w hr;simp only[Region.lexB,zA0] at hB;refine wpIn_region_any hm ?_;have:=tn (md:=.any) l 0 (Array.replicate l.toArray.size false) env 0 sMp (by simpa using hE) (by simpa using hB.2) (h (fun e j=>K .normal e (S j)) fun _ _ h=>h);refine dV _ hd _ _ env 0 (by simpa using this) G a _ ⟨hr.size,hr.defers,hr.bf,hr.st.drew⟩ _ ?_;intro G' au j' a' w' hg hk hr';exact⟨au,S j',G',hk,hg,hr'⟩
end Go.Ab
namespace Go.Proofs.YtmjdoencpjpegaaGreatDoor.Al
open Go.Ab Go.Sort
attribute [local irreducible] AWP AOps EStep AQ PStep PRun PCall TCall VCall
def effM (o:Oper):Bool:=dJ o||match o.op with|.mapEntry _ _ _=>true|_=>false
theorem mV:KeyLaw Tryz.prog 183 ekP:=sP (e:=3) (by kernel_rfl) (by kernel_rfl) (by kernel_rfl) (by kernel_rfl)
def pcS (a b:Score) (m k:Nat):List AV:=encS a++encS b++[.map m,.map k]
def cM (o0 o1 o2:aF) (a b:Score) (al:NL) (kn:List (cP×Int)):aa:=[o0,o1,o2,.dead,.dead,.map (Go.Ab.aD ekP evN al),.map (Go.Ab.aD ekP AV.int kn),.var (pcS a b 5 6)]
theorem LS (m:Nat) (al:NL):ak m (.map (Go.Ab.aD ekP evN al))=true:=by
 show(Go.Ab.aD ekP evN al).all (fun kv=>aG m 3 kv.2)=true;rw[zA6];intro x hx;obtain⟨p,_,rfl⟩:=zAf.1 hx;rfl
theorem LU (m:Nat) (kn:List (cP×Int)):ak m (.map (Go.Ab.aD ekP AV.int kn))=true:=by
 show(Go.Ab.aD ekP AV.int kn).all (fun kv=>aG m 3 kv.2)=true;rw[zA6];intro x hx;obtain⟨p,_,rfl⟩:=zAf.1 hx;rfl
theorem B5 (m:Nat) (hm:8≤m) (a b:Score):ak m (.var (pcS a b 5 6))=true:=by
 show(decide (5<m)&&(decide (6<m)&&true))=true;rw[decide_eq_true (show 5<m by omega),decide_eq_true (show 6<m by omega)];rfl
def nS (o0 o1 o2:aF):Prop:=∀m,ak m o0=true∧ak m o1=true∧ak m o2=true
theorem cT {o0 o1 o2:aF} (h:nS o0 o1 o2) {m:Nat} (hm:8≤m) (a b:Score) (al:NL) (kn:List (cP×Int)):(cM o0 o1 o2 a b al kn).all (ak m)=true:=by
 obtain⟨h0,h1,h2⟩:=h m;simp only[cM,zAq,zAu,h0,h1,h2,LS,LU,B5 m hm];rfl
def nT (m:Nat) (al:GL):Prop:=∀p∈al,aG m 3 (evT p.2)=true
theorem Hw {m base:Nat} {al:GL} (h:nT m al) (hb:base+al.length<m) (key:cP) (n:ag):nT m (eR base al key n):=by
 obtain⟨_,h2,h3⟩:=ik key al;have hp:posOf al key≤al.length:=by
  cases hs:(lk al key).isSome with
  | true =>
    obtain⟨v,_,hp⟩:=h2 hs;rcases nLg (posOf al key) al.length with h|h
    · omega
    · rw[zA2 h] at hp;cases hp
  |false=>rw[h3 hs];exact nLr _
 intro p hp2;unfold eR iU at hp2;rcases zCe hp2 with hq|hq
 · split at hq
   · exact h p hq
   · rcases zAy.1 hq with hq|hq
     · exact h p hq
     · rw[zA9.1 hq];rfl
 · rw[hq];show decide (base+posOf al key<m)=true;exact decide_eq_true oM
theorem w4 {m base:Nat} (i:Int):∀(l:List ag) {al:GL},nT m al→base+al.length+l.length≤m→nT m (dN base i al l)
 |[],_,h,_=>h
 | n :: r, al, h, hb => by
   rw[zAc] at hb;have:=zx (base:=base) (al:=al) (key:=(i,n.bar)) (n:=n);exact w4 (al:=eR base al (i,n.bar) n) i r (Hw h oM _ n) oM
theorem LV {m:Nat} {al:GL} (h:nT m al):ak m (.map (Go.Ab.aD ekP evT al))=true:=by
 show(Go.Ab.aD ekP evT al).all (fun kv=>aG m 3 kv.2)=true;rw[zA6];intro x hx;obtain⟨p,hp,rfl⟩:=zAf.1 hx;exact h p hp
def cNo:Option ag→List (List AV)
 |none=>[]
 |some n=>[ar n]
def cKo (i:Int):Option ag→List (List AV)
 |none=>[]
 |some n=>[[.int i,.int n.bar]]
def Dh (l:List ag):Nat→Option ag
 |0=>none
 |k+1=>some (l.getD k default)
def lr (o0 o1 o2:aF) (a b s:Score) (i:Int) (al:GL) (k:Nat) (o:Option ag):aa:=[o0,o1,o2,.dead,.dead,.map (Go.Ab.aD ekP evT al),.map [],.var (pcS a b 5 6),.var (encS s),.arr 12 k (cNo o),.arr 2 k (cKo i o)]
theorem KA {o0 o1 o2:aF} (h:nS o0 o1 o2) {m:Nat} (hm:8≤m) (a b s:Score) (i:Int) {al:GL} (ht:nT m al) (k:Nat) (o:Option ag):(lr o0 o1 o2 a b s i al k o).all (ak m)=true:=by
 obtain⟨h0,h1,h2⟩:=h m;have h3:ak m (.arr 12 k (cNo o))=true:=by cases o<;>rfl
 have h4:ak m (.arr 2 k (cKo i o))=true:=by cases o<;>rfl
 simp only[lr,zAq,zAu,h0,h1,h2,LV ht,B5 m hm,h3,h4];rfl
theorem EStep.KB {P:Program} {n:Nat} {ops:Array Oper} {o:Oper} {env:Env} {σ:aa} {T:Tab} {k:Env→aa→Prop} (hT:T.Ok P) {s x:Operand} {t tx e:TypeId} {d l:Nat} {v:List ag×Tok} {m:ag} {s1 b1:Nat} {z:List Z} {le:LI} (ho:o.op=.call { callee:=.builtin .append,args:=#[s,x],argTypes:=#[t,tx] })
 (hg:o.guard=none) (hd:o.dst=some d) (hdn:d<n) (hv:v.2=.own l∨v=([],.fresh)) (hs:Rd env s (evT v)) (hσ:σ[l]? = some (.own 12 (v.1.map ar).length)) {u:AV} (hx:Rd env x u) (gp:fy T tx 12 u [ar m])
 (hl:LOk P t ⟨.slice e,s1,b1,z⟩) (he:LOk P e le) (hsz:le.size=12) (hz0:le.zero.length=le.size) (hb:le.bytes≤1000) (hbound:v.1.length≤1000000000)
 (hk:k (env.put d (evT (v.1++[m],.own l))) (σ.set l (.own 12 (v.1.map ar++[ar m]).length))):EStep P n ops o k env σ:=by
 obtain⟨es,tk⟩:=v;rcases hv with hv|hv
 · have hv:tk=.own l:=hv;subst hv;have hbd:((es.map ar).length+[ar m].length) * le.bytes≤140737488355328:=by
    have h1:(es.map ar).length+[ar m].length≤1000000001:=by simp;exact hbound
    calc ((es.map ar).length+[ar m].length) * le.bytes≤1000000001 * 1000:=Nat.mul_le_mul h1 hb
     _≤_:=oM
   refine apO hT ho hg hd hdn hs hσ hx gp hl he hsz hz0 hbd (by simp;have:es.length≤1000000000:=hbound;omega) ?_;have e1:evT (es++[m],.own l)=.sl 12 (es.map ar++[ar m]) (.own l):=by show AV.sl 12 ((es++[m]).map ar) (.own l)=_;rw[zAz];rfl
   rw[e1] at hk;exact hk
 · cases hv;exact EStep.tB hT ho hg hd hdn hs hσ hx gp (zAa _) hl he hsz hz0 (by simp;omega) sMp hk
end Go.Proofs.YtmjdoencpjpegaaGreatDoor.Al
namespace Go.Ab
section
variable {P:Program} {n:Nat} {K:Exit→Env→aa→Prop} {env:Env} {σ:aa}
theorem AWP.tK {c:Code} (d sz:Nat) (hd:env d=.nils) (hk:AWP P n c K (env.put d (.sl sz [] .fresh)) σ):AWP P n c K env σ :=
 AWP.weaken (fun M B i x hx=>by
  unfold Env.put;by_cases hi:i=d
  · subst hi;rw[hd] at hx;rw[if_pos rfl];cases hx with
    |nils=>exact .slz sz .fresh rfl
  · rw[if_neg hi];exact hx) hk
theorem EStep.KC {ops:Array Oper} {o:Oper} {T:Tab} {k:Env→aa→Prop} (hT:T.Ok P) {s x:Operand} {t tx e:TypeId} {d l sz m:Nat} {es es2 es3:List (List AV)} {tk:Tok} {u:AV} {s1 b1:Nat} {z:List Z} {le:LI} (ho:o.op=.call { callee:=.builtin .append,args:=#[s,x],argTypes:=#[t,tx] })
 (hg:o.guard=none) (hd:o.dst=some d) (hdn:d<n) (Di:tk=.own l∨es=[]∧tk=.fresh) (hs:Rd env s (.sl sz es tk)) (hσ:σ[l]? = some (.own sz es.length)) (hx:Rd env x u) (gp:fy T tx sz u es2) (cC:0<es2.length)
 (hl:LOk P t ⟨.slice e,s1,b1,z⟩) (he:LOk P e le) (hsz:le.size=sz) (hz0:le.zero.length=le.size) (hbound:(es.length+es2.length) * le.bytes≤140737488355328) (hb2:es.length+es2.length≤9223372036854775807) (h3:es++es2=es3) (hm:es.length+es2.length=m)
 (hk:k (env.put d (.sl sz es3 (.own l))) (σ.set l (.own sz m))):EStep P n ops o k env σ:=by
 subst h3;subst hm;rcases Di with rfl|⟨rfl,rfl⟩
 · exact EStep.qN hT ho hg hd hdn hs hσ hx gp hl he hsz hz0 hbound hb2 hk
 · refine EStep.tB hT ho hg hd hdn hs hσ hx gp cC hl he hsz hz0 (by simpa using hbound) (by simpa using hb2) ?_;simpa using hk
def bX (σ:aa) (u v:AV):Prop:=∀(G:Gh) (w:World),az G σ w→∀x,af G.M G.B u x→af (bR w) [] v x
theorem bX.bor (k:Nat) (u:AV):bX σ u (bor k σ u):=fun _ _ hs x h=>i7 hs k u x h
theorem bX.of {u v:AV} (k:Nat) (h:Go.Ab.bor k σ u=v):bX σ u v:=h▸bX.bor k u
theorem bX.bo {l sz i ver:Nat} {es:List (List AV)} {e:List AV} (hσ:σ[l]? = some (.arr sz ver es)) (hi:i<es.length) (he:(es.getD i []).map (Go.Ab.bor 3 σ)=e):bX σ (.bo l sz i 0 ver) (.iptr e):=fun G w hs x h=>by
 subst he;cases h with
 | bo _ _ _ _ _ b q hrr =>
   obtain⟨ob,cap,n,hB,hle,heq⟩:=hrr;have ho:=hs.aZ l _ _ hB hσ;cases ho with
   |arrz=>simp at hi
   | arr b2 cap2 sz2 wm es2 c T fr hb hf hl hn hz hr hm =>
     obtain⟨g1,g2,g3,g4⟩:=heq rfl;obtain rfl:b2=b:=Option.some.inj g4;subst g3;have e1:es[i]? = some es[i]:=zA1 hi;have e2:es.getD i []=es[i]:=by rw[zB5,e1];rfl
     have hzl:=hz es[i] (lGm hi);refine .iptr _ b2 _ (fun j=>c.getD (i * sz+0+j) undef) (fun j hj=>?_) fun j c' hj=>?_
     · rw[e2,lLm,hzl] at hj;have hlt:i * sz+0+j<c.size:=by
        rw[hl];have:(i+1) * sz≤cap * sz:=zB6 _ oM;rw[zBf] at this;omega
       have cA:i * sz+j<c.size:=by rw[zC7] at hlt;exact hlt
       simp[bR,World.cell?,hb,cA]
     · rw[e2,zA3,zA5] at hj;obtain⟨a,ha,rfl⟩:=hj;exact i7 hs 3 _ _ (hr i j es[i] a e1 ha)
theorem bX.fn {f:Fn} {a c a' c':List AV} (ha:a'.length=a.length) (hc:c'.length=c.length) (h1:∀(i:Nat) u v,a[i]? = some u→a'[i]? = some v→bX σ u v) (h2:∀(i:Nat) u v,c[i]? = some u→c'[i]? = some v→bX σ u v):bX σ (.fn f a c) (.fn f a' c'):=fun G w hs x h=>by
 cases h with
 | fn _ _ _ vf vc hf hc0 g1 g2 =>
   refine .fn f a' c' vf vc (hf.trans ha.symm) (hc0.trans hc.symm) (fun i v hi=>?_) fun i v hi=>?_
   · have hlt:i<a.length:=by rw[←ha];exact(zAd.1 hi).1
     exact h1 i _ v (zA1 hlt) hi G w hs _ (g1 i _ (zA1 hlt))
   · have hlt:i<c.length:=by rw[←hc];exact(zAd.1 hi).1
     exact h2 i _ v (zA1 hlt) hi G w hs _ (g2 i _ (zA1 hlt))
def sw (σ:aa):List AV→List AV→Prop
 |[],[]=>True
 |u::l,v::m=>bX σ u v∧sw σ l m
 |_,_=>False
theorem sw.get:∀{l m:List AV},sw σ l m→m.length=l.length∧∀(i:Nat) (c:AV),m[i]? = some c→∃u,l[i]? = some u∧bX σ u c
 |[],[],_=>⟨rfl,fun i c h=>by cases h⟩
 | u :: l, v :: m, h => by
   obtain⟨h1,h2⟩:=sw.get h.2;refine⟨by rw[zAc,zAc,h1],fun i c hi=>?_⟩
   match i,hi with
   |0,hi=>cases hi;exact⟨u,rfl,h.1⟩
   |i+1,hi=>exact h2 i c hi
 |[],_::_,h=>h.elim
 |_::_,[],h=>h.elim
theorem bX.fn1 {f:Fn} {u v:AV} (h:bX σ u v):bX σ (.fn f [] [u]) (.fn f [] [v]):=bX.fn rfl rfl (fun i _ _ hi _=>by cases hi) fun i a b hi hj=>by
 match i,hi,hj with
 |0,hi,hj=>cases hi;cases hj;exact h
 |i+1,hi,_=>cases hi
theorem PRun.x4 {o:Oper} {fo:Operand} {args:Array Operand} {Ts:Array TypeId} {k:Nat} {first aM avs:List AV} {r:AV} (h:PCall P k avs r)
 (ho:o.op=.call { callee:=.value fo,args:=args,argTypes:=Ts }) (hf0:rdv env fo=some (.fn (.func k) first aM)) (nf:rdn env fo)
 (ha:sw σ (first++((args.toList.map fun x=>(cU env x).st)++aM)) avs) (hr:flat r=true) (hn:fc env args.toList):PRun P o env σ r:=by
 have hf:=Rd.w hf0 nf;have hn:=kj hn;intro G a w hs hv;have h1:=rd hf (by simp[ho,Op.operands,Call.operands]) hv;generalize hA:a.eval fo=y at h1;cases h1 with
 | fn _ _ _ vf vc hvf hvc h2 h3 =>
   have bg:(execOp a.eval o).run P w=.ok (.enter k (vf++args.map a.eval++vc)) w:=by
    simp only[execOp,ho,resolve,hA,Deferred.ofValue,Sem.run_bind,Sem.run_pure,Result.andThen_ok,invoke];exact eD h.1 _ w
   unfold OWP;rw[bg];simp only[eY];have gC:ic (bR w) avs (vf++args.map a.eval++vc):=by
    obtain⟨ha1,ha2⟩:=ha.get;have hl:=hvf;have hl2:=hvc;refine⟨by simp only[ha1,lLa,lLm,zDz,Array.size_map,zBp,hl,hl2,zCg],fun i c hi0=>?_⟩;obtain⟨c',hi,hle⟩:=ha2 i c hi0;refine hle G w hs _ ?_;rcases nLg i vf.size with hlt|hge
    · rw[zA8 (by simpa[←hl] using hlt)] at hi;have:=h2 i c' hi;have e:(vf++args.map a.eval++vc).getD i undef=vf.getD i undef:=by
       simp only[zA4];rw[zC0,zAo hlt]
      rw[e];exact this
    · rw[zA7 (by simpa[←hl] using hge)] at hi;simp only[←hl] at hi;rcases nLg (i - vf.size) args.size with cA|hge2
      · rw[zA8 (by simpa using cA)] at hi;simp only[zA3,zA5] at hi;obtain⟨x,hx,rfl⟩:=hi;have hxm:x∈args.toList:=zAe hx;have:=rd (hn.rd x hxm) (by simp[ho,Op.operands,Call.operands];right;simpa using hxm) hv;have e:(vf++args.map a.eval++vc).getD i undef=a.eval x:=by
         simp only[zA4];rw[zC0,zBa hge,zAo (by simpa using cA)];simp only[zBb] at hx;simp[hx]
        rw[e];exact this
      · rw[zA7 (by simpa using hge2)] at hi;simp only[lLm,zBp] at hi;have:=h3 _ c' hi;have e:(vf++args.map a.eval++vc).getD i undef=vc.getD (i - vf.size - args.size) undef:=by
         simp only[zA4];rw[zC0,zBa hge,zBa (by simpa using hge2)];simp
        rw[e];exact this
   refine(h.2 (bR w) w _ (tb w (hs.ax.g.mono (tc hs.ax))) gC).mono ?_;rintro e w' ⟨v,M',rfl,hr',hp⟩;refine⟨v,G,rfl,td hr hr',Gh.Le.refl G,?_⟩;have hp':yo G.M w G.M w':=⟨Mem.Le.refl _,⟨fun b o v hb=>by
    have h1:=hs.ax.1 b o v hb;have hlt:=World.block_lt_of_cell? _ _ h1;simp only[World.cell?] at h1 ⊢;rw[hp.heap b hlt];exact h1,fun b es hb=>by
    obtain⟨clock,h1⟩:=hs.ax.2 b es hb;have hlt:b<w.heap.size:=by
     rcases nLg b w.heap.size with h|h
     · exact h
     · simp[zAp h] at h1
    exact⟨clock,by rw[hp.heap b hlt];exact h1⟩,hs.ax.g⟩,hp.size,hp.heap,fun _ _=>⟨fun _=>rfl,rfl⟩,hp.out⟩
   exact hs.after hp'
end
end Go.Ab
namespace Go.Ab
theorem zA {ops:Array Oper} {o:Oper} {env:Env} {j d:Nat} {want t:Bool} (h1:o.guard=some (j,want)) (h2:(ops[j]?).bind (·.dst)=some d) (h3:env d=.prim (.bool t)):gOf ops env o=some (.yes (t==want)):=by
 simp[gOf,h1,h2,h3]
theorem ex10 {σ:aa} (h:σ.length=10):σ=[σ.getD 0 .dead,σ.getD 1 .dead,σ.getD 2 .dead,σ.getD 3 .dead,σ.getD 4 .dead,σ.getD 5 .dead,σ.getD 6 .dead,σ.getD 7 .dead,σ.getD 8 .dead,σ.getD 9 .dead]:=by
 match σ,h with
 |[a,b,c,d,e,f,g,h,i,j],_=>rfl
end Go.Ab
namespace Go.Proofs.YtmjdoencpjpegaaGreatDoor.Pl
open Go.Ab Go.Pl
attribute [local irreducible] AWP AOps EStep AQ PStep PRun PCall TCall VCall
theorem Fh (r:cL) (bar:Int):PCall Tryz.prog 224 [.agg (bk r),.iptr [.int bar]] (.b (r.from_==bar)):=by
 refine PCall.body Tryz.func224 rfl rfl Tryz.ntmps224 rfl rfl ?_
 repeat' (first|refine qS ?_|apply sqW|refine rgK fun U V=>?_|(refine aN V ?_;clear V U)|refine aB ?_|refine rtW ?_)
 exact⟨.inr rfl,Ent.b rfl⟩
theorem Fi {l:List cL} {bar:Int} (h:fS l bar=none):aX (fun r:cL=>r.from_==bar) l = -1:=by
 refine gq fun j hj=>?_
 unfold fS at h;rw[List.find?_eq_none] at h;have:=h _ (il hj);simpa using this
theorem Fj {l:List cL} {bar:Int} {r:cL} (h:fS l bar=some r):∃k:Nat,k<l.length∧l.getD k default=r∧aX (fun r:cL=>r.from_==bar) l=k∧r.from_=bar:=by
 unfold fS at h;rw[List.find?_eq_some_iff_getElem] at h;obtain⟨h1,k,hk,h2,h3⟩:=h;refine⟨k,hk,by rw[lj hk];exact h2,eP hk (by rw[lj hk,h2];exact h1) fun j hj=>?_,by simpa using h1⟩;have:=h3 j hj;rw[lj oM];simpa using this
abbrev s10 (s:aa):aa:=[s.getD 0 .dead,s.getD 1 .dead,s.getD 2 .dead,s.getD 3 .dead,s.getD 4 .dead,s.getD 5 .dead,s.getD 6 .dead,s.getD 7 .dead,s.getD 8 .dead,s.getD 9 .dead]
abbrev zB (s:aa) (ver:Nat) (bar:Int):aa:=[s.getD 0 .dead,s.getD 1 .dead,s.getD 2 .dead,s.getD 3 .dead,s.getD 4 .dead,s.getD 5 .dead,s.getD 6 .dead,s.getD 7 .dead,s.getD 8 .dead,s.getD 9 .dead,.arr 1 ver [[.int bar]]]
abbrev zC (s:aa) (ver:Nat) (bar:Int) (r:cL):aa:=[s.getD 0 .dead,s.getD 1 .dead,s.getD 2 .dead,s.getD 3 .dead,s.getD 4 .dead,s.getD 5 .dead,s.getD 6 .dead,s.getD 7 .dead,s.getD 8 .dead,s.getD 9 .dead,.arr 1 ver [[.int bar]],.var (bk r)]
abbrev yI (l:List Int):List (List AV):=l.map fun i=>[.int i]
theorem w5 {l rest:List Int} {j:Nat} {b:Int} (h:l.drop j=b::rest):j<l.length∧l[j]? = some b∧l.drop (j+1)=rest:=by
 have hj:j<l.length:=by
  rcases nLg j l.length with h1|h1
  · exact h1
  · rw[zCx h1] at h;cases h
 rw[zBj hj] at h;injection h with h1 h2;exact⟨hj,by rw[zA1 hj,h1],h2⟩
structure FOk (f:aR):Prop where
 bars:f.bars≤4000
 aC:∀r∈f.aC,0≤r.from_∧r.from_<r.aI∧r.aI≤f.bars∧1≤r.times∧r.times≤9
theorem Fk {yv:AV} {xs:List (List AV)} {S:Nat→aa} {Pj:Nat→Prop} {R:Nat→aa→Prop} {L:Nat} (hS:∀j,j≤xs.length→(S j).length=L∧(S j).all (ak L)=true) (hR:∀j s,R j s→s.length=L∧s.all (ak L)=true)
 (hy:aG L 3 yv=true) (cv:∀j x,xs[j]? = some x→Pj j→VCall Tryz.prog (.opq yv) x (S j) (fun r s=>(r=.b true∧s=S (j+1)∧Pj (j+1))∨(r=.b false∧R j s))) {j:Nat} {b:List AV} (hb:xs[j]? = some b) (ho:b.all (aG L 4)=true) (hP:Pj j) (τ:aa) :
 VCall Tryz.prog (.opq yv) b (S j++τ) (fun r t=>(r=.b true∧t=S (j+1)++τ∧Pj (j+1))∨(r=.b false∧∃t',t=t'++τ∧R j t')):=by
 have hj:j<xs.length:=(zAd.1 hb).1
 have hv:=VCall.frame (cv j b hb hP) τ
  (by rw[(hS _ oM).1];exact(hS _ oM).2) (by rw[(hS _ oM).1];exact hy) (by rw[(hS _ oM).1];exact ho) (by
   rintro rv s' (⟨_,rfl,_⟩|⟨_,hh⟩)
   · rw[(hS _ oM).1,(hS _ oM).1]
   · rw[(hS _ oM).1,(hR _ _ hh).1])
 refine VCall.mono hv ?_;rintro r t ⟨t',rfl,(⟨rfl,rfl,hp⟩|⟨rfl,hh⟩)⟩
 · exact .inl ⟨rfl,rfl,hp⟩
 · exact .inr ⟨rfl,t',rfl,hh⟩
theorem w6 (f:aR) (hf:FIn f) (hB:FOk f) (a u:Int) (all:Bool) (ha:0≤a∧a≤4000) (hu:u≤4000) (S:Nat→aa) (Pj:Nat→Prop) :
 nK Tryz.prog 223 [] [.iptr [.int a],.iptr [.int u],.iptr (bl f),.iptr [.b all]] (yI (ck f a u all)) 10 S Pj:=by
 intro yv R hP0 hS hR hyd cv;have hy:=hyd 2;clear hyd;have hy2:=@Fk yv (yI (ck f a u all)) S Pj R 10 hS hR hy cv;clear cv;have hyo:aG 11 4 (.opq yv)=true:=dh (zBl 10) 3 yv hy;rw[lLm] at *;have hr1:∀r∈f.aC,r.from_<r.aI:=fun r hr=>(hB.aC r hr).2.1
 have hb:=hB.bars;generalize hxs:ck f a u all=xs at *;have ex:∀j,j≤xs.length→S j=s10 (S j):=fun j hj=>ex10 (hS j hj).1
 have hok:∀j,j≤xs.length→(s10 (S j)).all (ak 10)=true:=fun j hj=>by rw[←ex j hj];exact(hS j hj).2
 have zD:∀j,j≤xs.length→∀ver bar,(zB (S j) ver bar).all (ak 11)=true:=fun j hj ver bar=>by
  show(s10 (S j)++[aF.arr 1 ver [[AV.int bar]]]:aa).all (ak 11)=true;rw[zBs,dx (zBl _) (hok j hj)];rfl
 have zG:∀j,j≤xs.length→∀ver bar r,(zC (S j) ver bar r).all (ak 12)=true:=fun j hj ver bar r=>by
  show(zB (S j) ver bar++[aF.var (bk r)]:aa).all (ak 12)=true;rw[zBs,dx (zBl _) (zD j hj ver bar)];rfl
 have hv1:∀j b,xs[j]? = some b→Pj j→∀ver bar,VCall Tryz.prog (.opq yv) [.int b] (zB (S j) ver bar) (fun r t=>(r=.b true∧t=zB (S (j+1)) ver bar∧Pj (j+1))∨(r=.b false∧∃t',t=t'++[.arr 1 ver [[.int bar]]]∧R j t')):=fun j b hjb hp ver bar=>by
  have h:=hy2 (show(yI xs)[j]? = some [.int b] by rw[zA3,hjb];rfl) rfl hp [.arr 1 ver [[.int bar]]];have hj:=(zAd.1 hjb).1;rw[ex j oM,ex (j+1) hj] at h;exact h
 have hv2:∀j b,xs[j]? = some b→Pj j→∀ver bar r0,VCall Tryz.prog (.opq yv) [.int b] (zC (S j) ver bar r0) (fun r t=>(r=.b true∧t=zC (S (j+1)) ver bar r0∧Pj (j+1))∨(r=.b false∧∃t',t=t'++[.arr 1 ver [[.int bar]],.var (bk r0)]∧R j t')):=fun j b hjb hp ver bar r0=>by
  have h:=hy2 (show(yI xs)[j]? = some [.int b] by rw[zA3,hjb];rfl) rfl hp [.arr 1 ver [[.int bar]],.var (bk r0)];have hj:=(zAd.1 hjb).1;rw[ex j oM,ex (j+1) hj] at h;exact h
 have kK:=ex xs.length (nLr _);have hS0:=ex 0 (nZl _);clear hy2 ex hok;show TCall _ _ [.opq yv,.iptr [.int a],.iptr [.int u],.iptr (bl f),.iptr [.b all]] (S 0) _;rw[hS0];clear hS0;refine TCall.body Tryz.func223 rfl rfl Tryz.ntmps223 rfl rfl ?_;refine AWP.kG 1 ?_
 repeat' (first|refine aoE (EStep.lT (l:=10) (sz:=1) ab rfl rfl rfl rfl rfl rfl rfl rfl ?_)|refine qS ?_|apply sqW|refine rgK fun U V=>?_|(refine aN V ?_;clear V U)|refine aoE (EStep.dK (l:=10) ab rfl rfl rfl tI rfl (zAa _) rfl tI rfl rfl rfl rfl rfl rfl ?_)|refine blK ?_)
 refine lpD (ι:=Nat×Nat×Int) (fun q=>[(0,.opq yv),(2,.iptr [.int u]),(3,.iptr (bl f)),(4,.iptr [.b all]),(6,.bo 10 1 0 0 q.1)]) (fun q=>zB (S q.2.1) q.1 q.2.2)
  (fun q=>q.2.1≤xs.length∧Pj q.2.1∧(0≤q.2.2∧q.2.2≤4000)∧xs.drop q.2.1=ck f q.2.2 u all) (fun q=>(u - q.2.2).toNat) 11 (fun _=>rfl) (1,0,a) ⟨nZl _,hP0,ha,by rw[hxs];rfl⟩ ⟨rfl,rfl,rfl,rfl,rfl,tI⟩ rfl (fun q _=>by
   simp only[zAq,zAu,zC2,zA0];exact⟨hyo,rfl,rfl,rfl,rfl⟩) (fun q hq=>zD _ hq.1 _ _) ?_
 rintro⟨ver,j,bar⟩ ⟨hj,hPj,hbar,hdr⟩;dsimp only at hj hPj hbar hdr ⊢;by_cases hlt:bar<u
 · have hix:=wS f.aC (.fn (.func 224) [] [.iptr [.int bar]]) (fun r=>r.from_==bar) (fun x _=>⟨_,[],_,rfl,Fh x bar⟩) hf.aC;cases hs:fS f.aC bar with
   | none =>
     rw[Fi hs] at hix;rw[G8 hr1 hlt all hs] at hdr;obtain⟨hj1,hjb,hdr2⟩:=w5 hdr;have hv:=hv1 j bar hjb hPj ver bar;clear hv1 hv2 zD zG
     repeat' (first|refine qP ?_ (h:=fun hg=>by first|exact PRun.x4 hix rfl rfl nd ⟨bX.of 1 rfl,bX.fn1 (bX.bo rfl (zAa _) rfl),tI⟩ rfl nds|exact ae|exact PRun.cZ ab rfl rfl nd rfl (zAa _) rfl rfl rfl|exact ah)|apply sqW|refine rgK fun U V=>?_|(refine aN V ?_;clear V U)|refine aS ?_|refine aA ?_|refine aoE (scT (hv) rfl rfl rfl rfl rfl nd rfl rfl nds ?_)|refine cX ?_ ?_<;>intro hc<;>try simp only[dE] at hc|refine blK ?_|refine exW ?_|refine skW ?_)
     all_goals first|(exfalso;omega)|skip
     rintro r t (⟨rfl,rfl,hp⟩|⟨rfl,t',rfl,hh⟩)
     · repeat' (first|refine aoE (EStep.lT (l:=10) (sz:=1) ab rfl rfl rfl rfl rfl rfl rfl rfl ?_)|refine qP ?_ (h:=fun hg=>by first|exact ae|exact PRun.cZ ab rfl rfl nd rfl (zAa _) rfl rfl rfl|exact ah)|apply sqW|refine rgK fun U V=>?_|(refine aN V ?_;clear V U)|refine aoE (EStep.dK (l:=10) ab rfl rfl rfl tI rfl (zAa _) rfl tI rfl rfl rfl rfl rfl rfl ?_)|refine cX ?_ ?_<;>intro hc<;>try simp only[dE] at hc|refine exW ?_|refine skW ?_|refine rtW ?_)
       · exfalso;simp at hc
       · exact⟨(ver+1,j+1,bar+1),⟨hj1,hp,⟨show 0≤bar+1 by omega,show bar+1≤4000 by omega⟩,hdr2⟩,by show(u - (bar+1)).toNat<(u - bar).toNat;omega,⟨rfl,rfl,rfl,rfl,rfl,tI⟩,rfl⟩
     · repeat' (first|refine qS ?_|apply sqW|refine rgK fun U V=>?_|(refine aN V ?_;clear V U)|refine cX ?_ ?_<;>intro hc<;>try simp only[dE] at hc|refine exW ?_|refine skW ?_|refine rtW ?_)
       · obtain⟨k1,k2⟩:=hR _ _ hh;exact⟨.inr rfl,.tup [],t',.inr ⟨_,hj1,hh⟩,by simp,by rw[k1];exact nLr _,by rw[k1];exact k2,rfl,rfl⟩
       · exfalso;simp at hc
   | some r =>
     obtain⟨k,hk,hkr,hfi,hfr⟩:=Fj hs;rw[hfi] at hix;rw[G9 hr1 hlt all hs] at hdr;have hrb:=hB.aC r (zBy hs);have hkl:=hf.aC;clear hv1
     repeat' (first|refine qP ?_ (h:=fun hg=>by first|exact iX bk f.aC ((k:Nat):Int) hkr (hb:=oM)|exact PRun.x4 hix rfl rfl nd ⟨bX.of 1 rfl,bX.fn1 (bX.bo rfl (zAa _) rfl),tI⟩ rfl nds|exact ae|exact PRun.cZ ab rfl rfl nd rfl (zAa _) rfl rfl rfl|exact ah)|apply sqW|refine rgK fun U V=>?_|(refine aN V ?_;clear V U)|refine aS ?_|refine aA ?_|refine cX ?_ ?_<;>intro hc<;>try simp only[dE] at hc|refine blK ?_|refine exW ?_|refine skW ?_)
     all_goals (first|(exfalso;omega)|skip)
     all_goals
      refine lpD (ι:=Nat×Int) (fun q=>[(0,.opq yv),(2,.iptr [.int u]),(3,.iptr (bl f)),(4,.iptr [.b all]),(6,.bo 10 1 0 0 ver),(8,.ptr 11 0),(10,.int q.2)]) (fun q=>zC (S q.1) ver bar r)
       (fun q=>q.1≤xs.length∧Pj q.1∧(1≤q.2∧q.2≤r.times+1)∧xs.drop q.1=(l8 q.2 (r.times+1)).flatMap (sj f r)++ck f r.aI u all) (fun q=>(r.times+1 - q.2).toNat) 12 (fun _=>rfl) (j,if all then 1 else r.times) ⟨hj,hPj,by dsimp only;split<;>omega,hdr⟩ ⟨rfl,rfl,rfl,rfl,rfl,rfl,by rw[hc];rfl,tI⟩ rfl (fun q _=>by
        simp only[zAq,zAu,zC2,zA0];exact⟨dh (zBl 11) 4 _ hyo,rfl,rfl,rfl,rfl,rfl,rfl⟩) (fun q hq=>zG _ hq.1 _ _ _) ?_
      rintro⟨j1,pass⟩ ⟨hj1,hP1,hps,hd1⟩;dsimp only at hj1 hP1 hps hd1 ⊢;by_cases hlp:pass≤r.times
      · rw[wP oM,List.flatMap_cons,zBo] at hd1
        repeat' (first|refine qS ?_|apply sqW|refine rgK fun U V=>?_|(refine aN V ?_;clear V U)|refine cX ?_ ?_<;>intro hc<;>try simp only[dE] at hc|refine blK ?_|refine exW ?_|refine skW ?_)
        all_goals (first|(exfalso;omega)|skip)
        refine lpD (ι:=Nat×Int) (fun q=>[(0,.opq yv),(2,.iptr [.int u]),(3,.iptr (bl f)),(4,.iptr [.b all]),(6,.bo 10 1 0 0 ver),(8,.ptr 11 0),(10,.int pass),(11,.int q.2)]) (fun q=>zC (S q.1) ver bar r)
         (fun q=>q.1≤xs.length∧Pj q.1∧(r.from_≤q.2∧q.2≤r.aI)∧xs.drop q.1=(l8 q.2 r.aI).filter (fun i=>mC f.ends i pass)++((l8 (pass+1) (r.times+1)).flatMap (sj f r)++ck f r.aI u all)) (fun q=>(r.aI - q.2).toNat) 12 (fun _=>rfl) (j1,r.from_) ⟨hj1,hP1,⟨Int.le_refl _,by dsimp only;omega⟩,hd1⟩ ⟨rfl,rfl,rfl,rfl,rfl,rfl,rfl,rfl,tI⟩ rfl (fun q _=>by
          simp only[zAq,zAu,zC2,zA0];exact⟨dh (zBl 11) 4 _ hyo,rfl,rfl,rfl,rfl,rfl,rfl,rfl⟩) (fun q hq=>zG _ hq.1 _ _ _) ?_
        rintro⟨j2,i⟩ ⟨hj2,hP2,hi,hd2⟩;dsimp only at hj2 hP2 hi hd2 ⊢;by_cases hli:i<r.aI
        · rw[wP hli] at hd2;have hen:=xF f hf i pass;cases hpl:mC f.ends i pass with
          | false =>
            rw[zBx (by rw[hpl];decide)] at hd2;rw[hpl] at hen;clear hv2 zD zG
            repeat' (first|refine qP ?_ (h:=fun hg=>by first|exact ae|exact pc hen|exact(Bool.noConfusion (show false=true from hg):PRun _ _ _ _ (.b false))|exact ah|fail)|apply sqW|refine rgK fun U V=>?_|(refine aN V ?_;clear V U)|refine cX ?_ ?_<;>intro hc<;>try simp only[dE] at hc|refine blK ?_|refine exW ?_|refine skW ?_|refine rtW ?_)
            all_goals (first|(exfalso;omega)|skip)
            all_goals first|exact⟨(j2,i+1),⟨hj2,hP2,⟨by dsimp only;omega,by dsimp only;omega⟩,hd2⟩,by dsimp only;omega,⟨rfl,rfl,rfl,rfl,rfl,rfl,rfl,rfl,tI⟩,rfl⟩|(exfalso;cases hc;done)|(exfalso;simp at hc;done)
          | true =>
            rw[zBq (by exact hpl),List.cons_append] at hd2;rw[hpl] at hen;obtain⟨hj3,hjb,hd3⟩:=w5 hd2;have hv:=hv2 j2 i hjb hP2 ver bar r;clear hv2 zD zG
            repeat' (first|refine qP ?_ (h:=fun hg=>by first|exact ae|exact pc hen|exact ah)|apply sqW|refine rgK fun U V=>?_|(refine aN V ?_;clear V U)|refine cX ?_ ?_<;>intro hc<;>try simp only[dE] at hc|refine blK ?_|refine exW ?_|refine aoE (EStep.gd (zA rfl rfl rfl) rfl <| scT hv rfl rfl rfl rfl rfl (by exact rfl) rfl rfl (by repeat' (first|exact tI|exact rfl|refine⟨?_,?_⟩)) ?_)|refine skW ?_)
            all_goals (first|(exfalso;omega)|skip)
            rintro r1 t (⟨rfl,rfl,hp⟩|⟨rfl,t',rfl,hh⟩)
            · repeat' (first|refine qS ?_|refine rgK fun U V=>?_|(refine aN V ?_;clear V U)|refine cX ?_ ?_<;>intro hc<;>try simp only[dE] at hc|refine skW ?_|refine rtW ?_)
              · exfalso;simp at hc
              · exact⟨(j2+1,i+1),⟨hj3,hp,⟨by dsimp only;omega,by dsimp only;omega⟩,hd3⟩,by dsimp only;omega,⟨rfl,rfl,rfl,rfl,rfl,rfl,rfl,rfl,tI⟩,rfl⟩
            · repeat' (first|refine qS ?_|refine rgK fun U V=>?_|(refine aN V ?_;clear V U)|refine cX ?_ ?_<;>intro hc<;>try simp only[dE] at hc|refine skW ?_|refine rtW ?_)
              · obtain⟨k1,k2⟩:=hR _ _ hh;exact⟨.inr rfl,.tup [],t',.inr ⟨_,hj3,hh⟩,by simp,by rw[k1];exact nLr _,by rw[k1];exact k2,rfl,rfl⟩
              · exfalso;simp at hc
        · rw[yQ oM] at hd2
          repeat' (first|refine qS ?_|apply sqW|refine rgK fun U V=>?_|(refine aN V ?_;clear V U)|refine cX ?_ ?_<;>intro hc<;>try simp only[dE] at hc|refine blK ?_|refine exW ?_|refine skW ?_)
          all_goals (first|(exfalso;omega)|skip)
          exact⟨(j2,pass+1),⟨hj2,hP2,⟨by dsimp only;omega,by dsimp only;omega⟩,hd2⟩,by dsimp only;omega,⟨rfl,rfl,rfl,rfl,rfl,rfl,rfl,tI⟩,rfl⟩
      · rw[yQ oM] at hd1
        repeat' (first|refine aoE (EStep.lT (l:=10) (sz:=1) ab rfl rfl rfl rfl rfl rfl rfl rfl ?_)|refine qP ?_ (h:=fun hg=>by first|exact ae|exact PRun.cZ ab rfl rfl nd rfl (zAa _) rfl rfl rfl|exact ah)|apply sqW|refine rgK fun U V=>?_|(refine aN V ?_;clear V U)|refine aoE (EStep.dK (l:=10) ab rfl rfl rfl tI rfl (zAa _) rfl tI rfl rfl rfl rfl rfl rfl ?_)|refine cX ?_ ?_<;>intro hc<;>try simp only[dE] at hc|refine blK ?_|refine exW ?_|refine skW ?_)
        all_goals (first|(exfalso;omega)|skip)
        have e5:r.aI - 1+1=r.aI:=oM;refine⟨(ver+1,j1,r.aI - 1+1),⟨hj1,hP1,⟨show 0≤r.aI - 1+1 by omega,show r.aI - 1+1≤4000 by omega⟩,?_⟩,?_,⟨rfl,rfl,rfl,rfl,rfl,tI⟩,rfl⟩
        · show xs.drop j1=ck f (r.aI - 1+1) u all;rw[e5];exact hd1
        · show(u - (r.aI - 1+1)).toNat<(u - bar).toNat;omega
 · rw[G7 oM] at hdr
   repeat' (first|refine qP ?_ (h:=fun hg=>by first|exact ae|exact PRun.cZ ab rfl rfl nd rfl (zAa _) rfl rfl rfl|exact ah)|apply sqW|refine rgK fun U V=>?_|(refine aN V ?_;clear V U)|refine cX ?_ ?_<;>intro hc<;>try simp only[dE] at hc|refine blK ?_|refine exW ?_|refine skW ?_)
   all_goals (first|(exfalso;omega)|skip)
   have hjl:j=xs.length:=by
    have:=congrArg List.length hdr;rw[zAx] at this;have h0:([]:List Int).length=0:=rfl;omega
   subst hjl;refine⟨.inl rfl,.tup [],S xs.length,.inl ⟨rfl,hPj⟩,?_,?_,?_,rfl,rfl⟩
   · rw[(hS _ (nLr _)).1]
     conv=>rhs;rw[kK]
     rfl
   · rw[(hS _ (nLr _)).1];exact nLr _
   · rw[(hS _ (nLr _)).1];exact(hS _ (nLr _)).2
theorem rB (f:aR) (a u:Int) (all:Bool):PCall Tryz.prog 210 [.agg (bl f),.int a,.int u,.b all] (.fn (.func 223) [] [.iptr [.int a],.iptr [.int u],.iptr (bl f),.iptr [.b all]]):=by
 refine PCall.body Tryz.func210 rfl rfl Tryz.ntmps210 rfl rfl ?_
 repeat' (first|refine qS ?_|apply sqW|refine rgK fun U V=>?_|(refine aN V ?_;clear V U)|refine aB ?_)
 refine AWP.ei 0 rfl rfl ?_;refine AWP.ei 1 rfl rfl ?_;refine AWP.ei 2 rfl rfl ?_;refine AWP.ei 3 rfl rfl ?_;exact rtW ⟨.inr rfl,fun _ _ h=>h⟩
theorem A2 (f:aR):PCall Tryz.prog 171 [.agg (bl f)] (.fn (.func 208) [] [.iptr (bl f)]):=by
 refine PCall.body Tryz.func171 rfl rfl Tryz.ntmps171 rfl rfl ?_
 repeat' (first|refine qS ?_|apply sqW|refine rgK fun U V=>?_|(refine aN V ?_;clear V U)|refine aB ?_)
 refine AWP.ei 0 rfl rfl ?_;exact rtW ⟨.inr rfl,fun _ _ h=>h⟩
def eB (l:List Int):List (Int×Int):=l.foldl (fun al b=>ins al b ((lk al b).getD 0+1)) []
theorem uQ (l:List Int) (b:Int):eB (l++[b])=ins (eB l) b ((lk (eB l) b).getD 0+1):=by
 unfold eB;rw[zC6];rfl
theorem Fl (l:List Int):∀b:Int,(lk (eB l) b).getD 0=(l.count b:Int):=by
 rw[←List.reverse_reverse l];induction l.reverse with
 |nil=>intro b;rfl
 | cons a l ih =>
   intro b;rw[List.reverse_cons,uQ,fR,List.count_append,List.count_singleton];by_cases h:a=b
   · subst h;rw[if_pos rfl,zCr,ih a];simp
   · rw[if_neg h,ih b];simp[h]
abbrev visF:AV:=.fn (.func 209) [] [.ptr 6 0,.ptr 4 0]
abbrev iD (yv:AV) (f:aR) (al:List (Int×Int)):aa:=[.var [.opq yv],.map (aD ekI AV.int al),.var [.map 5],.var [visF],.var [.int f.jump.at_,.int f.jump.to,.int f.jump.dc]]
abbrev s4 (s:aa):aa:=[s.getD 0 .dead,s.getD 1 .dead,s.getD 2 .dead,s.getD 3 .dead]
abbrev vSt (s:aa) (yv:AV) (f:aR) (al:List (Int×Int)):aa:=[s.getD 0 .dead,s.getD 1 .dead,s.getD 2 .dead,s.getD 3 .dead,.var [.opq yv],.map (aD ekI AV.int al),.var [.map 5],.var [visF],.var [.int f.jump.at_,.int f.jump.to,.int f.jump.dc]]
def pK (v:om):List AV:=[.int v.bar,.int v.pass]
abbrev yV (l:List om):List (List AV):=l.map fun v=>[.agg (pK v)]
theorem zH {yv:AV} (hy:∀d,aG 4 (d+1) yv=true) (f:aR) (al:List (Int×Int)):(iD yv f al).all (ak 9)=true:=by
 have h:aG 9 2 yv=true:=dh (show 4≤9 by decide) 2 yv (hy 1);have h2:(aD ekI AV.int al).all (fun p=>aG 9 3 p.2)=true:=by
  unfold aD;rw[List.all_map,zA6];intro p _;rfl
 simp only[zAq,zAu,zC2,zA0];refine⟨?_,?_,rfl,rfl,rfl⟩
 · show aG 9 2 yv&&true=true;rw[h];rfl
 · simp[ak,aD,aG]
theorem ex4 {σ:aa} (h:σ.length=4):σ=s4 σ:=by
 match σ,h with
 |[a,b,c,d],_=>rfl
theorem okSt {yv:AV} (hy:∀d,aG 4 (d+1) yv=true) {s:aa} (hs:s.length=4) (hok:s.all (ak 4)=true) (f:aR) (al:List (Int×Int)):(vSt s yv f al).all (ak 9)=true:=by
 show(s4 s++iD yv f al:aa).all (ak 9)=true;rw[←ex4 hs,zBs,zH hy f al,dx (show 4≤9 by decide) hok];rfl
theorem Dj {yv:AV} (hy:∀d,aG 4 (d+1) yv=true) {f:aR} {al:List (Int×Int)} {b c:Int} {s s2:aa} {P2:Prop} {R:aa→Prop} (hc0:(lk al b).getD 0+1=c) (hcb:0≤c∧c≤1000000000)
 (hv:VCall Tryz.prog (.opq yv) [.agg [.int b,.int c]] (vSt s yv f (ins al b c)) (fun r t=>(r=.b true∧t=vSt s2 yv f (ins al b c)∧P2)∨(r=.b false∧∃t',t=t'++iD yv f (ins al b c)∧R t')))
 (hR:∀s,R s→s.length=4∧s.all (ak 4)=true) (hs2:s2.length=4∧s2.all (ak 4)=true) :
 TCall Tryz.prog 209 [.int b,.ptr 6 0,.ptr 4 0] (vSt s yv f al) (fun r t=>(r=.b true∧t=vSt s2 yv f (ins al b c)∧P2)∨(r=.b false∧∃t',t=t'++iD yv f (ins al b c)∧R t')):=by
 have hc1:(lk (ins al b c) b).getD 0=c:=by rw[fR,if_pos rfl];rfl
 subst hc0;refine TCall.body Tryz.func209 rfl rfl Tryz.ntmps209 rfl rfl ?_;have hv':VCall Tryz.prog (.opq yv) [.agg [.int b,.int ((lk (ins al b ((lk al b).getD 0+1)) b).getD 0)]] (vSt s yv f (ins al b ((lk al b).getD 0+1))) (fun r t=>(r=.b true∧t=vSt s2 yv f (ins al b ((lk al b).getD 0+1))∧P2)∨(r=.b false∧∃t',t=t'++iD yv f (ins al b ((lk al b).getD 0+1))∧R t')):=by rw[hc1];exact hv
 repeat' (first|refine qP ?_ (h:=fun hg=>by first|exact ae|exact PRun.lookup (ek:=ekI) (ev:=AV.int) (zv:=0) (ay (lkG rfl)) (lkG rfl) (lkG rfl) rfl rfl (Rd.w rfl nd) (Or.inr ⟨_,rfl,rfl⟩) (Rd.w rfl nd) rfl|exact pbD ab rfl rfl nds|exact ah)|apply sqW|refine rgK fun U V=>?_|(refine aN V ?_;clear V U)|refine aoE (scT (hv') rfl rfl rfl rfl rfl nd rfl rfl nds ?_)|refine aoE (EStep.dm (ek:=ekI) (ev:=AV.int) (v:=(lk al b).getD 0+1) (ay (lkG rfl)) (lkG rfl) rfl rfl rfl (Rd.w rfl tI) rfl (Rd.w rfl tI) rfl (Rd.w rfl tI) ?_))
 rintro r t (⟨rfl,rfl,hp⟩|⟨rfl,t',rfl,hh⟩)
 · repeat' (first|refine qS ?_|(refine aN V ?_;clear V U)|refine rtW ?_)
   exact⟨.inr rfl,_,_,.inl ⟨rfl,rfl,hp⟩,rfl,nLr _,okSt hy hs2.1 hs2.2 f _,rfl,rfl⟩
 · repeat' (first|refine qS ?_|(refine aN V ?_;clear V U)|refine rtW ?_)
   obtain⟨k1,k2⟩:=hR _ hh;refine⟨.inr rfl,.b false,t'++iD yv f (ins al b ((lk al b).getD 0+1)),.inr ⟨rfl,t',rfl,hh⟩,?_,?_,?_,rfl,rfl⟩
   · rw[zAn (nLr _)]
   · rw[lLa,k1];exact nLr _
   · rw[show(t'++iD yv f (ins al b ((lk al b).getD 0+1))).length=9 by rw[lLa,k1];rfl,zBs,dx (show 4≤9 by decide) k2,zH hy f _];rfl
theorem Fm (f:aR):br f=(ck f 0 (if f.jump.at_=0 then f.bars else f.jump.at_) true)++ck f f.jump.to f.jump.dc false:=by
 unfold br;split<;>rfl
theorem KD (l:List Int) {j:Nat} {b:Int} (h:l[j]? = some b):(k9 l)[j]? = some ⟨b,((l.take j).count b:Int)+1⟩∧eB (l.take (j+1))=ins (eB (l.take j)) b (((l.take j).count b:Int)+1):=by
 have hj:=(zAd.1 h).1;have hb:l[j]=b:=(zAd.1 h).2;have e1:l.take (j+1)=l.take j++[b]:=by rw[zCu,h];rfl
 constructor
 · unfold k9;rw[zA3,zDg hj];show some (om.mk (l.getD j 0) ((l.take (j+1)).count (l.getD j 0):Int))=_;rw[show l.getD j 0=b by simp[List.getD,h],e1,List.count_append,List.count_singleton_self];rfl
 · rw[e1,uQ,Fl]
theorem A3 (f:aR) (hf:FIn f) (hB:FOk f) (hJ:0≤f.jump.at_∧0≤f.jump.to∧f.jump.at_≤4000∧f.jump.to≤4000∧f.jump.dc≤4000) (hl:(br f).length≤1000000) (S:Nat→aa) (Pj:Nat→Prop) :
 nK Tryz.prog 208 [] [.iptr (bl f)] (yV (k9 (br f))) 4 S Pj:=by
 intro yv R hP0 hS hR hy cv;have hvl:(yV (k9 (br f))).length=(br f).length:=by unfold k9;simp
 have hy2:=@Fk yv (yV (k9 (br f))) S Pj R 4 hS hR (hy 2) cv;clear cv;rw[hvl] at hS ⊢;have hbars:=hB.bars;have hw:=Fm f;generalize hu:(if f.jump.at_=0 then f.bars else f.jump.at_)=u at hw;have hu4:u≤4000:=by rw[←hu];split<;>omega
 -- one visit, over what the iterator has of its own
 have Dk:∀j b,(br f)[j]? = some b→Pj j→TCall Tryz.prog 209 [.int b,.ptr 6 0,.ptr 4 0] (vSt (S j) yv f (eB ((br f).take j))) (fun r t=>(r=.b true∧t=vSt (S (j+1)) yv f (eB ((br f).take (j+1)))∧Pj (j+1))∨(r=.b false∧∃t',t=t'++iD yv f (eB ((br f).take (j+1)))∧R j t')):=fun j b hjb hp=>by
  have hj:=(zAd.1 hjb).1;obtain⟨e1,e2⟩:=KD (br f) hjb;rw[e2];have hcl:((br f).take j).count b≤(br f).length:=zBu (List.count_le_length ..) (by rw[zAg];omega);refine Dj (c:=(((br f).take j).count b:Int)+1) (P2:=Pj (j+1)) (R:=R j) hy (by rw[Fl]) ⟨oM,oM⟩ ?_ (hR j) (hS (j+1) hj);have h:=hy2 (show(yV (k9 (br f)))[j]? = some [.agg [.int b,.int ((((br f).take j).count b:Int)+1)]] by rw[zA3,e1];rfl) rfl hp (iD yv f (ins (eB ((br f).take j)) b ((((br f).take j).count b:Int)+1)));have x1:=ex4 (hS j oM).1;have x2:=ex4 (hS (j+1) hj).1;rw[x1,x2] at h;exact h
 have hok:∀j,j≤(br f).length→∀al,(vSt (S j) yv f al).length=9∧(vSt (S j) yv f al).all (ak 9)=true:=fun j hj al=>⟨rfl,okSt hy (hS j hj).1 (hS j hj).2 f al⟩
 have hRok:∀(j:Nat) (x:Exit) (s:aa),(x=.ret∧∃t' al,s=t'++iD yv f al∧R j t')→s.length=9∧s.all (ak 9)=true:=by
  rintro j x s ⟨_,t',al,rfl,hh⟩;obtain⟨k1,k2⟩:=hR _ _ hh;exact⟨by rw[lLa,k1];rfl,by rw[zBs,dx (show 4≤9 by decide) k2,zH hy f _];rfl⟩
 have hS0:=ex4 (hS 0 (nZl _)).1;have kK:=ex4 (hS (br f).length (nLr _)).1;have b1:=rB f 0 f.bars true;have b3:=rB f 0 f.jump.at_ true;have b2:=rB f f.jump.to f.jump.dc false;clear hy2;have hl1:(ck f 0 u true).length+(ck f f.jump.to f.jump.dc false).length=(br f).length:=by rw[hw,lLa]
 have hg1:∀j b,(ck f 0 u true)[j]? = some b→(br f)[j]? = some b:=fun j b h=>by
  rw[hw,zA8 (zAd.1 h).1];exact h
 have hg2:∀j b,(ck f f.jump.to f.jump.dc false)[j]? = some b→(br f)[(ck f 0 u true).length+j]? = some b:=fun j b h=>by
  rw[hw,zA7 (zE5 _ _),zCa];exact h
 have Hy:∀(rc:Loop) (u':Int),u'=u→nK Tryz.prog 223 [] [.iptr [.int 0],.iptr [.int u'],.iptr (bl f),.iptr [.b true]] (yI (ck f 0 u true)) 10 (fun j=>vSt (S j) yv f (eB ((br f).take j))++[.loop rc [(4,.ptr 7 0)]]) Pj:=fun rc u' e=>e▸w6 f hf hB 0 u' true ⟨oM,oM⟩ (e▸hu4) _ _
 have Hz:∀rc:Loop,nK Tryz.prog 223 [] [.iptr [.int f.jump.to],.iptr [.int f.jump.dc],.iptr (bl f),.iptr [.b false]] (yI (ck f f.jump.to f.jump.dc false)) 10 (fun j=>vSt (S ((ck f 0 u true).length+j)) yv f (eB ((br f).take ((ck f 0 u true).length+j)))++[.loop rc [(4,.ptr 7 0)]]) (fun j=>Pj ((ck f 0 u true).length+j)):=fun rc=>w6 f hf hB f.jump.to f.jump.dc false ⟨oM,oM⟩ oM _ _
 have hwl:br f=br f:=rfl;generalize hn1:ck f 0 u true=l1 at *;generalize hn2:ck f f.jump.to f.jump.dc false=l2 at *;generalize hww:br f=W at *;show TCall _ _ [.opq yv,.iptr (bl f)] (S 0) _;rw[hS0];clear hS0;refine TCall.body Tryz.func208 rfl rfl Tryz.ntmps208 rfl rfl ?_;by_cases h0:f.jump.at_=0
 all_goals
  repeat' (first|refine qP ?_ (h:=fun hg=>by first|exact ae|exact pc b1|exact pc b3|exact pc b2|exact ah)|apply sqW|refine rgK fun U V=>?_|(refine aN V ?_;clear V U)|refine aB ?_|refine aS ?_|refine aA ?_|refine aoE (EStep.cz rfl rfl rfl rfl ?_)|refine cX ?_ ?_<;>intro hc<;>try simp only[dE] at hc|refine blK ?_|refine skW ?_)
  all_goals (first|(exfalso;simp[h0] at hc;done)|skip)
  first|(have heq:f.bars=u:=by rw[←hu,if_pos h0])|(have heq:f.jump.at_=u:=by rw[←hu,if_neg h0])
  refine AWP.gU (yI l1) [(4,.ptr 7 0)] (fun j=>vSt (S j) yv f (eB (W.take j))) Pj (fun j x s=>x=.ret∧∃t' al,s=t'++iD yv f al∧R j t') (fun rc=>Hy rc _ heq) hP0 rfl tI ?_ ?_ rfl ⟨rfl,tI⟩ rfl rfl (fun j hj=>hok j (by rw[lLm] at hj;omega) _) hRok ?_ ?_ ?_
  · intro x hx;obtain⟨n,_,rfl⟩:=zAf.1 hx;rfl
  · intro x hx;obtain⟨n,_,rfl⟩:=zAf.1 hx;rfl
  · intro j x hx hp;obtain⟨b,hb,rfl⟩:∃b,l1[j]? = some b∧x=[.int b]:=by
     rw[zA3,zA5] at hx;obtain⟨b,h1,h2⟩:=hx;exact⟨b,h1,h2.symm⟩
    have hv:=TCall.val (first:=[]) (aM:=[.ptr 6 0,.ptr 4 0]) (avs:=[.int b]) (Dk (j) b (hg1 j b hb) hp);clear Dk Hy Hz hok;show AWP _ _ _ (fun x e s=>x=.normal∧AWP _ _ _ (ig 9 (vSt (S (j+1)) yv f (eB (W.take (j+1)))) (Pj (j+1)) (fun x s=>x=.ret∧∃t' al,s=t'++iD yv f al∧R (j) t')) e s) _ (vSt (S (j)) yv f (eB (W.take (j))))
    repeat' (first|refine qS ?_|refine rgK fun U V=>?_|(refine aN V ?_;clear V U))
    refine⟨rfl,?_⟩
    repeat' (first|refine qS ?_|apply sqW|refine rgK fun U V=>?_|refine aoE (scT (hv) rfl rfl rfl rfl rfl nd rfl rfl nds ?_)|refine blK ?_)
    rintro r t (⟨rfl,rfl,hp'⟩|⟨rfl,t',rfl,hh⟩)
    · repeat' (first|refine qS ?_|(refine aN V ?_;clear V U)|refine cX ?_ ?_<;>intro hc<;>try simp only[dE] at hc|refine skW ?_|refine rtW ?_)
      · exfalso;simp at hc
      · exact⟨rfl,hp'⟩
    · repeat' (first|refine qS ?_|(refine aN V ?_;clear V U)|refine cX ?_ ?_<;>intro hc<;>try simp only[dE] at hc|refine skW ?_|refine rtW ?_)
      · refine⟨rfl,t',eB (W.take (j+1)),?_,hh⟩;rw[zAn (by rw[lLa,(hR _ _ hh).1];exact nLr _)]
      · exfalso;simp at hc
  · intro hPn;have eL:(yI l1).length=l1.length:=lLm ..;rw[eL] at hPn ⊢
    repeat' (first|refine qP ?_ (h:=fun hg=>by first|exact ae|exact pc b2|exact ah)|apply sqW|refine rgK fun U V=>?_|(refine aN V ?_;clear V U)|refine blK ?_)
    refine AWP.gU (yI l2) [(4,.ptr 7 0)] (fun j=>vSt (S (l1.length+j)) yv f (eB (W.take (l1.length+j)))) (fun j=>Pj (l1.length+j)) (fun j x s=>x=.ret∧∃t' al,s=t'++iD yv f al∧R (l1.length+j) t') (fun rc=>Hz rc) hPn rfl tI ?_ ?_ rfl ⟨rfl,tI⟩ rfl rfl (fun j hj=>hok _ (by rw[lLm] at hj;omega) _) (fun j=>hRok (l1.length+j)) ?_ ?_ ?_
    · intro x hx;obtain⟨n,_,rfl⟩:=zAf.1 hx;rfl
    · intro x hx;obtain⟨n,_,rfl⟩:=zAf.1 hx;rfl
    · intro j x hx hp;obtain⟨b,hb,rfl⟩:∃b,l2[j]? = some b∧x=[.int b]:=by
       rw[zA3,zA5] at hx;obtain⟨b,h1,h2⟩:=hx;exact⟨b,h1,h2.symm⟩
      have hv:=TCall.val (first:=[]) (aM:=[.ptr 6 0,.ptr 4 0]) (avs:=[.int b]) (Dk (l1.length+j) b (hg2 j b hb) hp);clear Dk Hy Hz hok;show AWP _ _ _ (fun x e s=>x=.normal∧AWP _ _ _ (ig 9 (vSt (S (l1.length+j+1)) yv f (eB (W.take (l1.length+j+1)))) (Pj (l1.length+j+1)) (fun x s=>x=.ret∧∃t' al,s=t'++iD yv f al∧R (l1.length+j) t')) e s) _ (vSt (S (l1.length+j)) yv f (eB (W.take (l1.length+j))))
      repeat' (first|refine qS ?_|refine rgK fun U V=>?_|(refine aN V ?_;clear V U))
      refine⟨rfl,?_⟩
      repeat' (first|refine qS ?_|apply sqW|refine rgK fun U V=>?_|refine aoE (scT (hv) rfl rfl rfl rfl rfl nd rfl rfl nds ?_)|refine blK ?_)
      rintro r t (⟨rfl,rfl,hp'⟩|⟨rfl,t',rfl,hh⟩)
      · repeat' (first|refine qS ?_|(refine aN V ?_;clear V U)|refine cX ?_ ?_<;>intro hc<;>try simp only[dE] at hc|refine skW ?_|refine rtW ?_)
        · exfalso;simp at hc
        · exact⟨rfl,hp'⟩
      · repeat' (first|refine qS ?_|(refine aN V ?_;clear V U)|refine cX ?_ ?_<;>intro hc<;>try simp only[dE] at hc|refine skW ?_|refine rtW ?_)
        · refine⟨rfl,t',eB (W.take (l1.length+j+1)),?_,hh⟩;rw[zAn (by rw[lLa,(hR _ _ hh).1];exact nLr _)]
        · exfalso;simp at hc
    · intro hPn2;have eL2:(yI l2).length=l2.length:=lLm ..;rw[eL2,hl1] at hPn2 ⊢;obtain⟨k1,k2⟩:=hS W.length (nLr _);refine⟨.inl rfl,.tup [],S W.length,.inl ⟨rfl,hPn2⟩,?_,?_,?_,rfl,rfl⟩
      · rw[k1]
        conv=>rhs;rw[kK]
        rfl
      · rw[k1];exact nLr _
      · rw[k1];exact k2
    · rintro j x s hj ⟨rfl,t',al,rfl,hh⟩;rw[lLm] at hj;obtain⟨k1,k2⟩:=hR _ _ hh;exact⟨.inr rfl,.tup [],t',.inr ⟨_,oM,hh⟩,by rw[k1];exact zBt oM |>.trans (zAn oM),by rw[k1];exact nLr _,by rw[k1];exact k2,rfl,rfl⟩
  · rintro j x s hj ⟨rfl,t',al,rfl,hh⟩;rw[lLm] at hj;obtain⟨k1,k2⟩:=hR _ _ hh;exact⟨.inr rfl,.tup [],t',.inr ⟨_,oM,hh⟩,by rw[k1];exact zBt oM |>.trans (zAn oM),by rw[k1];exact nLr _,by rw[k1];exact k2,rfl,rfl⟩
end Go.Proofs.YtmjdoencpjpegaaGreatDoor.Pl
