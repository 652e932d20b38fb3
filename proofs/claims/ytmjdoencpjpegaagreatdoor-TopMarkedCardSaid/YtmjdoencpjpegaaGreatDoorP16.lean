/- Parts of the proof. No statement is proved here. -/
import Derived.Test.YtmjdoencpjpegaaGreatDoorP10
import Derived.Test.YtmjdoencpjpegaaGreatDoorP11
import Derived.Test.YtmjdoencpjpegaaGreatDoorP12
import Derived.Test.YtmjdoencpjpegaaGreatDoorP13
set_option linter.unusedVariables false
set_option linter.unusedSimpArgs false
set_option maxHeartbeats 16000000
set_option maxRecDepth 20000
namespace Go.Proofs.YtmjdoencpjpegaaGreatDoor.Al
open Go.Ab Go.Sort
deriving instance DecidableEq for Score
def di (n:ag):ag:={ n with id:=0,bar:=0 }
def bq (s:Score) (id:Int):List ag:=s.notes.filter fun n=>n.bar==id
def bJ (s:Score) (i:Nat):Bar:=s.bars.getD i default
def alike (x y:ag):Bool:=di x==di y
def kL (l m:List ag):Bool:=(l.map di).isPerm (m.map di)
theorem C4 {l m:List ag}:kL l m=true↔(l.map di).Perm (m.map di):=List.isPerm_iff
def aw (a b:Score) (i k:Nat):Int :=
 let x:=bJ a i
 let y:=bJ b k
 let same:=x.len==y.len&&kL (bq a x.id) (bq b y.id)
 if x==y&&same then 0 else if x.id==y.id||(same&&!(bq a x.id).isEmpty) then 1 else 5
theorem tE (a b:Score) (i k:Nat):0≤aw a b i k∧aw a b i k≤5:=by
 unfold aw;dsimp only;split
 · omega
 · split<;>omega
abbrev PL:=List (Int×Int)
def bC (ps:PL) (i:Int):Bool:=ps.any fun p=>p.1==i
def bV (ps:PL) (i:Int):Bool:=ps.any fun p=>p.2==i
def cI (f:ag→ag→Bool) (b:List ag) (ps:PL) (x:ag):PL :=
 if bC ps x.id then ps else match b.find? (fun y=>!bV ps y.id&&f x y) with
  |some y=>ps++[(x.id,y.id)]
  |none=>ps
def cj (f:ag→ag→Bool) (a b:List ag) (ps:PL):PL:=a.foldl (cI f b) ps
def f1 (x y:ag):Bool:=x.id==y.id&&x.part==y.part
def f2 (x y:ag):Bool:=alike x y
def f3 (x y:ag):Bool:=x.part==y.part&&(x.eA==y.eA&&(x.iA==y.iA&&x.start==y.start))
def three (a b:List ag) (ps:PL):PL:=cj f3 a b (cj f2 a b (cj f1 a b ps))
def hU (a b:Score) (l:List (Nat×Nat)) (ps:PL):PL:=l.foldl (fun ps y=>three (bq a (bJ a y.1).id) (bq b (bJ b y.2).id) ps) ps
def wg (a:Score) (al:PL):PL:=a.notes.filterMap fun n=>(lk al n.id).map fun y=>(n.id,y)
def hZ (a b:Score) (l:List (Nat×Nat)):PL:=wg a (hU a b l [])
theorem rm (p q:PL) (i:Int):bC (p++q) i=(bC p i||bC q i):=List.any_append
theorem zo (p q:PL) (i:Int):bV (p++q) i=(bV p i||bV q i):=List.any_append
theorem iS {p:PL} {i:Int}:bC p i=true↔∃k,(i,k)∈p:=by
 unfold bC;rw[zDh];constructor
 · rintro⟨⟨x,y⟩,h1,h2⟩;exact⟨y,by rw[←(beq_iff_eq.1 h2:x=i)];exact h1⟩
 · rintro⟨k,h⟩;exact⟨_,h,beq_self_eq_true _⟩
theorem nQ {p:PL} {k:Int}:bV p k=true↔∃i,(i,k)∈p:=by
 unfold bV;rw[zDh];constructor
 · rintro⟨⟨x,y⟩,h1,h2⟩;exact⟨x,by rw[←(beq_iff_eq.1 h2:y=k)];exact h1⟩
 · rintro⟨i,h⟩;exact⟨_,h,beq_self_eq_true _⟩
theorem find_congr {α:Type} {p q:α→Bool}:∀{l:List α},(∀x∈l,p x=q x)→l.find? p=l.find? q
 |[],_=>rfl
 | x :: l, h => by
   rw[zDe,zDe,h x (zAr ..),find_congr fun y hy=>h y (zAk _ hy)]
theorem AU {f:ag→ag→Bool} {b:List ag} {ps qs:PL} {x:ag} (h1:bC ps x.id=false) (h2:∀y∈b,bV ps y.id=false):cI f b (ps++qs) x=ps++cI f b qs x:=by
 unfold cI;rw[rm,h1,zDq];split
 · rfl
 · rw[find_congr (q:=fun y=>!bV qs y.id&&f x y) fun y hy=>by rw[zo,h2 y hy,zDq]];split
   · rw[zBo]
   · rfl
theorem rn {f:ag→ag→Bool} {b:List ag} {ps:PL} (h2:∀y∈b,bV ps y.id=false):∀{a:List ag} {qs:PL},(∀x∈a,bC ps x.id=false)→cj f a b (ps++qs)=ps++cj f a b qs
 |[],_,_=>rfl
 | x :: a, qs, h1 => by
   show cj f a b (cI f b (ps++qs) x)=ps++cj f a b (cI f b qs x);rw[AU (h1 x (zAr ..)) h2,rn h2 fun y hy=>h1 y (zAk _ hy)]
theorem AW {a b:List ag} {ps:PL} (h1:∀x∈a,bC ps x.id=false) (h2:∀y∈b,bV ps y.id=false):three a b ps=ps++three a b []:=by
 unfold three;have e:=fun f qs=>rn (f:=f) (qs:=qs) h2 h1
 have e1:=e f1 [];rw[zCc] at e1;rw[e1,e f2,e f3]
structure fu (a b:List ag) (ps:PL):Prop where
 fst:(ps.map (·.1)).Nodup
 snd:(ps.map (·.2)).Nodup
 of:∀p∈ps,∃x∈a,∃y∈b,p=(x.id,y.id)∧x.part=y.part
theorem fu.nil (a b:List ag):fu a b []:=⟨zDb,zDb,fun p h=>by cases h⟩
theorem uL {α:Type} {l:List α} {x:α} (h:l.Nodup) (hx:x∉l):(l++[x]).Nodup:=by
 rw[zBz];exact⟨h,by simp,fun a ha b hb=>by rw[zA9.1 hb];rintro rfl;exact hx ha⟩
theorem fu.add {a b:List ag} {ps:PL} (h:fu a b ps) {x y:ag} (hx:x∈a) (hy:y∈b) (h1:bC ps x.id=false) (h2:bV ps y.id=false) (hp:x.part=y.part):fu a b (ps++[(x.id,y.id)]):=by
 refine⟨?_,?_,fun p hm=>?_⟩
 · rw[zAz];refine uL h.fst fun hm=>?_
   obtain⟨p,hp,e⟩:=zAf.1 hm;have:bC ps x.id=true:=iS.2 ⟨p.2,by rw[←(show p.1=x.id from e)];exact hp⟩;rw[h1] at this;cases this
 · rw[zAz];refine uL h.snd fun hm=>?_
   obtain⟨p,hp,e⟩:=zAf.1 hm;have:bV ps y.id=true:=nQ.2 ⟨p.1,by rw[←(show p.2=y.id from e)];exact hp⟩;rw[h2] at this;cases this
 · rcases zAy.1 hm with hm|hm
   · exact h.of p hm
   · rw[zA9.1 hm];exact⟨x,hx,y,hy,rfl,hp⟩
theorem Hn {f:ag→ag→Bool} (hf:∀x y,f x y=true→x.part=y.part) {a b:List ag} {ps:PL} (h:fu a b ps) {x:ag} (hx:x∈a):fu a b (cI f b ps x):=by
 unfold cI;split
 · exact h
 · rename_i h1;split
   · rename_i y hy;have h2:=zD2 hy;simp only[zA0,zB1] at h2;exact h.add hx (zBy hy) (by simpa using h1) h2.1 (hf _ _ h2.2)
   · exact h
theorem nR {f:ag→ag→Bool} (hf:∀x y,f x y=true→x.part=y.part) {a b:List ag}:∀{l:List ag} {ps:PL},(∀x∈l,x∈a)→fu a b ps→fu a b (cj f l b ps)
 |[],_,_,h=>h
 | x :: l, ps, hl, h => by
   show fu a b (cj f l b (cI f b ps x));exact nR hf (fun y hy=>hl y (zAk _ hy)) (Hn hf h (hl x (zAr ..)))
theorem Kr (x y:ag) (h:f1 x y=true):x.part=y.part:=by unfold f1 at h;simp only[zA0,beq_iff_eq] at h;exact h.2
theorem Ks (x y:ag) (h:f2 x y=true):x.part=y.part:=by
 unfold f2 alike at h;have:=congrArg ag.part (eq_of_beq h);exact this
theorem Kt (x y:ag) (h:f3 x y=true):x.part=y.part:=by unfold f3 at h;simp only[zA0,beq_iff_eq] at h;exact h.1
theorem Ho {a b:List ag} {ps:PL} (h:fu a b ps):fu a b (three a b ps) :=
 nR Kt (fun _ h=>h) (nR Ks (fun _ h=>h) (nR Kr (fun _ h=>h) h))
theorem wT {f:ag→ag→Bool} {b:List ag} {ps:PL} {x:ag} {p:Int×Int} (h:p∈ps):p∈cI f b ps x:=by
 unfold cI;split
 · exact h
 · split
   · exact zCw _ h
   · exact h
theorem mr {f:ag→ag→Bool} {b:List ag} {p:Int×Int}:∀{l:List ag} {ps:PL},p∈ps→p∈cj f l b ps
 |[],_,h=>h
 | x :: l, ps, h => by
   show p∈cj f l b (cI f b ps x);exact mr (wT h)
theorem uM {b:List ag} (hb:(b.map (·.id)).Nodup):∀{l:List ag} {ps:PL},(l.map (·.id)).Nodup→(∀p∈ps,p.1=p.2)→(∀p∈cj f1 l b ps,p.1=p.2)∧∀x∈l,∀y∈b,f1 x y=true→(x.id,x.id)∈cj f1 l b ps
 |[],ps,_,h=>⟨h,fun x hx=>by cases hx⟩
 | x :: l, ps, hn, h => by
   rw[zBd,zC1] at hn;have hst:∀p∈cI f1 b ps x,p.1=p.2:=by
    unfold cI;split
    · exact h
    · split
      · rename_i y hy;have h2:=zD2 hy;simp only[zA0,f1,beq_iff_eq] at h2;intro p hp;rcases zAy.1 hp with hp|hp
        · exact h p hp
        · rw[zA9.1 hp];exact h2.2.1
      · exact h
   obtain⟨r1,r2⟩:=uM hb hn.2 hst;show(∀p∈cj f1 l b (cI f1 b ps x),p.1=p.2)∧∀z∈x::l,∀y∈b,f1 z y=true→(z.id,z.id)∈cj f1 l b (cI f1 b ps x)
   refine⟨r1,fun z hz y hy hf=>?_⟩;rcases zAw.1 hz with rfl|hz
   · refine mr ?_;unfold cI;split
     · rename_i h1;obtain⟨k,hk⟩:=iS.1 h1;have e:z.id=k:=h _ hk;rw[e] at hk ⊢;exact hk
     · rename_i h1;split
       · rename_i y' hy';have h2:=zD2 hy';simp only[zA0,f1,beq_iff_eq] at h2;rw[←h2.2.1];exact zD3 _ (zA9.2 rfl)
       · rename_i hno;exfalso;have:=List.find?_eq_none.1 hno y hy;simp only[zA0,zB1,not_and] at this;refine this ?_ hf;cases hs:bV ps y.id with
         |false=>rfl
         | true =>
           obtain⟨i,hi⟩:=nQ.1 hs;have e:i=y.id:=h _ hi;have e2:z.id=y.id:=by unfold f1 at hf;simp only[zA0,beq_iff_eq] at hf;exact hf.1
           exfalso;refine h1 (iS.2 ⟨y.id,?_⟩);rw[e2,←e];rw[←e] at hi;exact hi
   · exact r2 z hz y hy hf
theorem iT {s:Score} {id:Int} {x:ag}:x∈bq s id↔x∈s.notes∧x.bar=id:=by
 unfold bq;rw[zCb,beq_iff_eq]
theorem oq {s:Score} (hn:(s.notes.map (·.id)).Nodup) (id:Int):((bq s id).map (·.id)).Nodup:=(List.filter_sublist.map _).nodup hn
theorem fF {α:Type} {f:α→Int}:∀{l:List α},(l.map f).Nodup→∀{x y:α},x∈l→y∈l→f x=f y→x=y
 |[],_,_,_,h,_,_=>by cases h
 | z :: l, hn, x, y, hx, hy, e => by
   rw[zBd,zC1] at hn;rcases zAw.1 hx with rfl|hx1<;>rcases zAw.1 hy with rfl|hy1
   · rfl
   · exact(hn.1 (zAf.2 ⟨y,hy1,e.symm⟩)).elim
   · exact(hn.1 (zAf.2 ⟨x,hx1,e⟩)).elim
   · exact fF hn.2 hx1 hy1 e
theorem BW {s:Score} {i:Nat} (h:i<s.bars.length):bJ s i=s.bars[i]:=by unfold bJ;simp[List.getD,h]
theorem BZ {s:Score} (hb:(s.bars.map (·.id)).Nodup) {i j:Nat} (hi:i<s.bars.length) (hj:j<s.bars.length) (e:(bJ s i).id=(bJ s j).id):i=j:=by
 rw[BW hi,BW hj] at e;have h1:(s.bars.map (·.id))[i]'(by simpa using hi)=(s.bars.map (·.id))[j]'(by simpa using hj):=by simpa using e
 exact(List.getElem_inj hb).1 h1
structure PM (a b:Score) (l:List (Nat×Nat)) (ps:PL):Prop where
 fst:(ps.map (·.1)).Nodup
 snd:(ps.map (·.2)).Nodup
 of:∀p∈ps,∃x∈a.notes,∃y∈b.notes,p=(x.id,y.id)∧x.part=y.part∧∃q∈l,x.bar=(bJ a q.1).id∧y.bar=(bJ b q.2).id
 flat:ps=(l.map fun q=>three (bq a (bJ a q.1).id) (bq b (bJ b q.2).id) []).flatten
 one:∀q∈l,∀x∈bq a (bJ a q.1).id,∀y∈bq b (bJ b q.2).id,f1 x y=true→(x.id,x.id)∈ps
theorem PM.nil (a b:Score):PM a b [] []:=⟨zDb,zDb,fun p h=>(by cases h),rfl,fun q h=>by cases h⟩
structure Sc (s:Score):Prop where
 notes:(s.notes.map (·.id)).Nodup
 bars:(s.bars.map (·.id)).Nodup
theorem PM.add {a b:Score} (ha:Sc a) (hb:Sc b) {l:List (Nat×Nat)} {ps:PL} (h:PM a b l ps) (hl:∀p∈l,p.1<a.bars.length∧p.2<b.bars.length) {q:Nat×Nat} (hq:q.1<a.bars.length∧q.2<b.bars.length) (hne:∀p∈l,p.1≠q.1∧p.2≠q.2) :
 PM a b (l++[q]) (three (bq a (bJ a q.1).id) (bq b (bJ b q.2).id) ps):=by
 have h1:∀x∈bq a (bJ a q.1).id,bC ps x.id=false:=fun x hx=>by
  cases hh:bC ps x.id with
  |false=>rfl
  | true =>
    obtain⟨k,hk⟩:=iS.1 hh;obtain⟨z,hz,y,_,e,_,p,hp,e2,_⟩:=h.of _ hk;simp only[Prod.mk.injEq] at e;obtain⟨hx1,hx2⟩:=iT.1 hx;have:=fF ha.notes hx1 hz e.1;subst this;exact absurd (BZ ha.bars (hl p hp).1 hq.1 (e2.symm.trans hx2)) (hne p hp).1
 have h2:∀y∈bq b (bJ b q.2).id,bV ps y.id=false:=fun y hy=>by
  cases hh:bV ps y.id with
  |false=>rfl
  | true =>
    obtain⟨k,hk⟩:=nQ.1 hh;obtain⟨x,_,z,hz,e,_,p,hp,_,e2⟩:=h.of _ hk;simp only[Prod.mk.injEq] at e;obtain⟨hy1,hy2⟩:=iT.1 hy;have:=fF hb.notes hy1 hz e.2;subst this;exact absurd (BZ hb.bars (hl p hp).2 hq.2 (e2.symm.trans hy2)) (hne p hp).2
 have hok:=Ho (fu.nil (bq a (bJ a q.1).id) (bq b (bJ b q.2).id));rw[AW h1 h2];refine⟨?_,?_,fun p hp=>?_,?_,fun r hr x hx y hy hf=>?_⟩
 · rw[zAz,zBz];refine⟨h.fst,hok.fst,fun u hu v hv=>?_⟩;rintro rfl;obtain⟨p,hp,rfl⟩:=zAf.1 hu;obtain⟨p2,hp2,e⟩:=zAf.1 hv;obtain⟨x,hx,y,_,rfl,_⟩:=hok.of _ hp2;have:=h1 x hx;rw[iS.2 ⟨p.2,by rw[show x.id=p.1 from e];exact hp⟩] at this;cases this
 · rw[zAz,zBz];refine⟨h.snd,hok.snd,fun u hu v hv=>?_⟩;rintro rfl;obtain⟨p,hp,rfl⟩:=zAf.1 hu;obtain⟨p2,hp2,e⟩:=zAf.1 hv;obtain⟨x,_,y,hy,rfl,_⟩:=hok.of _ hp2;have:=h2 y hy;rw[nQ.2 ⟨p.1,by rw[show y.id=p.2 from e];exact hp⟩] at this;cases this
 · rcases zAy.1 hp with hp|hp
   · obtain⟨x,hx,y,hy,e,e2,r,hr,e3⟩:=h.of p hp;exact⟨x,hx,y,hy,e,e2,r,zCw _ hr,e3⟩
   · obtain⟨x,hx,y,hy,e,e2⟩:=hok.of p hp;obtain⟨k1,k2⟩:=iT.1 hx;obtain⟨k3,k4⟩:=iT.1 hy;exact⟨x,k1,y,k3,e,e2,q,zD3 _ (zA9.2 rfl),k2,k4⟩
 · rw[zAz,List.flatten_append,←h.flat];simp
 · rcases zAy.1 hr with hr|hr
   · exact zCw _ (h.one r hr x hx y hy hf)
   · rw[zA9.1 hr] at hx hy;refine zD3 _ ?_;unfold three;exact mr (mr ((uM (oq hb.notes _) (oq ha.notes _) (fun p h=>by cases h)).2 x hx y hy hf))
def x0 (a b:Score) (l:List (Nat×Nat)):Prop:=l.Pairwise (fun p q=>p.1<q.1∧p.2<q.2)∧∀p∈l,p.1<a.bars.length∧p.2<b.bars.length
theorem sT {a b:Score} (ha:Sc a) (hb:Sc b):∀(r l:List (Nat×Nat)) (ps:PL),x0 a b (l++r)→PM a b l ps→PM a b (l++r) (hU a b r ps)
 |[],l,ps,_,h=>by rw[zCc];exact h
 | q :: r, l, ps, hp, h => by
   have e:l++q::r=(l++[q])++r:=sMp;have hpw:=hp.1;rw[List.pairwise_append] at hpw;have GN:=h.add ha hb (fun p hm=>hp.2 p (zCw _ hm)) (hp.2 q (zD3 _ (zAr ..))) fun p hm=>by
    have:=hpw.2.2 p hm q (zAr ..);exact⟨Nat.ne_of_lt this.1,Nat.ne_of_lt this.2⟩
   rw[e] at hp ⊢;exact sT ha hb r (l++[q]) _ hp GN
theorem AX {a b:Score} (ha:Sc a) (hb:Sc b) {l:List (Nat×Nat)} (hp:x0 a b l):PM a b l (hU a b l []):=sT ha hb l [] [] hp (PM.nil a b)
theorem rp {ps:PL}:∀{u v:Int},lk ps u=some v→(u,v)∈ps:=by
 induction ps with
 |nil=>intro u v h;simp[lk] at h
 | cons p r ih =>
   intro u v h;obtain⟨x,y⟩:=p;simp only[lk] at h;split at h
   · rename_i e;simp at h;subst h;subst e;exact zAr ..
   · exact zAk _ (ih h)
theorem E7 {ps:PL}:(ps.map (·.1)).Nodup→∀{u v:Int},(u,v)∈ps→lk ps u=some v:=by
 induction ps with
 |nil=>intro _ u v h;cases h
 | cons p r ih =>
   intro hn u v h;obtain⟨x,y⟩:=p;rw[zBd,zC1] at hn;simp only[lk];rcases zAw.1 h with e|h
   · cases e;rw[if_pos rfl]
   · rw[if_neg,ih hn.2 h];rintro rfl;exact hn.1 (zAf.2 ⟨_,h,rfl⟩)
theorem zp {ps:PL} {u:Int}:(lk ps u).isSome=bC ps u:=by
 induction ps with
 |nil=>rfl
 | cons p r ih =>
   obtain⟨x,y⟩:=p;simp only[lk];unfold bC at ih ⊢;rw[List.any_cons,←ih];by_cases e:x=u
   · rw[if_pos e];simp[e]
   · rw[if_neg e];simp[e]
end Go.Proofs.YtmjdoencpjpegaaGreatDoor.Al
namespace Go.Ab
theorem EStep.gW {P:Program} {n:Nat} {ops:Array Oper} {o:Oper} {env:Env} {σ:aa} {T:Tab} {k:Env→aa→Prop} (hT:T.Ok P) {s x:Operand} {t tx e:TypeId} {d l sz ver m:Nat} {es es2 es3:List (List AV)} {u S:AV} {s1 b1:Nat} {z:List Z} {le:LI} (ho:o.op=.call { callee:=.builtin .append,args:=#[s,x],argTypes:=#[t,tx] })
 (hg:o.guard=none) (hd:o.dst=some d) (hdn:d<n) (hs:Rd env s S) (hS0:S=.sla l sz 0 es.length ver∧es≠[]∨S=.sl sz [] (.own l)∧es=[]∧ver=0) (hσ:σ[l]? = some (.arr sz ver es)) (hx:Rd env x u) (gp:fy T tx sz u es2) (cC:0<es2.length)
 (hl:LOk P t ⟨.slice e,s1,b1,z⟩) (he:LOk P e le) (hsz:le.size=sz) (hz0:le.zero.length=le.size) (hbound:(es.length+es2.length) * le.bytes≤140737488355328) (hb2:es.length+es2.length≤9223372036854775807) (hm:es.length+es2.length=m) (h3:es++es2=es3)
 (hk:k (env.put d (.sla l sz 0 m (ver+1))) (σ.set l (.arr sz (ver+1) es3))):EStep P n ops o k env σ:=by
 subst hm;subst h3;exact EStep.EK hT ho hg hd hdn hs hS0 hσ hx gp cC hl he hsz hz0 hbound hb2 hk
end Go.Ab
namespace Go.Proofs.YtmjdoencpjpegaaGreatDoor.Al
open Go.Ab Go.Sort
attribute [local irreducible] AWP AOps EStep AQ PStep PRun PCall TCall VCall
theorem rq (n:ag):PCall Tryz.prog 206 [.agg (ar n)] (.agg (ar (di n))):=by
 refine PCall.bO ab Tryz.func206 rfl rfl Tryz.ntmps206 rfl ?_
 repeat' (first|refine qS ?_|apply sqW|refine rgK fun U V=>?_|(refine aN V ?_;clear V U)|refine aB ?_|refine aS ?_|refine aA ?_|refine rtW ?_)
 exact⟨.inr rfl,_,rfl,Ent.of rfl⟩
def dj (n:ag):List Int:=[n.part,n.eA,n.iA,n.start.n,n.start.d,n.len.n,n.len.d,n.pitch.step,n.pitch.alter,n.pitch.oct]
def bIn (n:ag):Prop:=∀x∈dj n,-1000000000000000000≤x∧x≤1000000000000000000
instance (n:ag):Decidable (bIn n):=by unfold bIn;infer_instance
theorem zq {n:ag} (h:bIn n):bIn (di n):=h
def iu (n:ag):ag:=if bIn n then n else ⟨0,0,0,0,0,⟨0,0⟩,⟨0,0⟩,⟨0,0,0⟩⟩
theorem B0 (n:ag):bIn (iu n):=by
 unfold iu;split
 · assumption
 · decide
theorem sr {n:ag} (h:bIn n):iu n=n:=if_pos h
def su (n:ag):List Value:=let m:=iu n;[.int .i64 m.id,.int .i64 m.part,.int .i64 m.bar,.int .i64 m.eA,.int .i64 m.iA,.int .i64 m.start.n,.int .i64 m.start.d,.int .i64 m.len.n,.int .i64 m.len.d,.int .i64 m.pitch.step,.int .i64 m.pitch.alter,.int .i64 m.pitch.oct]
theorem wU (n:ag):(su n).map AV.prim=ar (iu n):=rfl
def tF (x y:ag):Int:=fM (dj x) (dj y)
theorem gH (x y:ag) (hx:bIn x) (hy:bIn y):PCall Tryz.prog 238 [.agg (ar x),.agg (ar y)] (.int (tF x y)):=by
 have a:=fun v h=>hx v h
 have b:=fun v h=>hy v h
 simp only[dj,zAw,zCm,or_false,forall_eq_or_imp,forall_eq] at a b;obtain⟨a0,a1,a2,a3,a4,a5,a6,a7,a8,a9⟩:=a;obtain⟨b0,b1,b2,b3,b4,b5,b6,b7,b8,b9⟩:=b;have ho:=vX [x.part - y.part,x.eA - y.eA,x.iA - y.iA,x.start.n - y.start.n,x.start.d - y.start.d,x.len.n - y.len.n,x.len.d - y.len.d,x.pitch.step - y.pitch.step,x.pitch.alter - y.pitch.alter,x.pitch.oct - y.pitch.oct] sMp;refine PCall.body Tryz.func238 rfl rfl Tryz.ntmps238 rfl rfl ?_
 repeat' (first|refine qP ?_ (h:=fun hg=>by first|exact ae|exact pbS (r:=.sl 1 [[.int (x.part - y.part)],[.int (x.eA - y.eA)],[.int (x.iA - y.iA)],[.int (x.start.n - y.start.n)],[.int (x.start.d - y.start.d)],[.int (x.len.n - y.len.n)],[.int (x.len.d - y.len.d)],[.int (x.pitch.step - y.pitch.step)],[.int (x.pitch.alter - y.pitch.alter)],[.int (x.pitch.oct - y.pitch.oct)]] .fresh) ab rfl (by kernel_rfl) nds|exact pc ho|exact ah)|apply sqW|refine rgK fun U V=>?_|(refine aN V ?_;clear V U)|refine aB ?_|refine rtW ?_)
 exact⟨.inr rfl,Ent.int rfl⟩
theorem ltB (f:ag→ag) (x y:ag):Go.Proofs.ltOf (fun x y:ag=>tF (f x) (f y)) x y=true↔fM (dj (f x)) (dj (f y))<0:=decide_eq_true_iff
theorem Hp (f:ag→ag) (x y:ag):Go.Proofs.ltOf (fun x y:ag=>tF (f x) (f y)) x y=false↔¬fM (dj (f x)) (dj (f y))<0:=dEf
theorem C5 (f:ag→ag):SWO (Go.Proofs.ltOf fun x y:ag=>tF (f x) (f y)) where
 irrefl x:=by
  have:=fq (dj (f x)) (dj (f x));rw[Hp];omega
 trans x y z h1 h2:=by
  rw[ltB] at *;exact vZ (a:=dj (f x)) (b:=dj (f y)) (c:=dj (f z)) rfl rfl h1 h2
 ntrans x y z h1 h2:=by
  have a1:=fq (dj (f x)) (dj (f y));have a2:=fq (dj (f y)) (dj (f z));have a3:=fq (dj (f x)) (dj (f z));rw[Hp] at *;have:=v7 (a:=dj (f z)) (b:=dj (f y)) (c:=dj (f x)) rfl rfl oM oM;omega
def gX (l:List ag):List ag:=jI (fun x y=>tF (iu x) (iu y)) l
theorem rr (l:List ag):(gX l).length=l.length:=by
 have:=(gT _ (C5 iu) l).1.1;simpa[gX] using this
theorem gi (l:List ag):(gX l).Perm l:=by
 have h:=(gT _ (C5 iu) l).1.2.2;have hl:=rr l;rw[←hl] at h;unfold gX at h hl ⊢;simp only[zDd,List.extract_toArray,List.extract_eq_take_drop,Nat.sub_zero,zE4] at h;rw[zAn (nLr _),hl,zAn (nLr _)] at h;exact h
theorem E8 {l:List ag} (h:∀n∈l,bIn n):(gX l).map (fun x=>(su x).map AV.prim)=(gX l).map ar:=by
 refine zCs fun x hx=>?_
 rw[wU,sr (h x ((gi l).mem_iff.1 hx))]
theorem Hq {l:List ag} (h:∀n∈l,bIn n):l.map (fun x=>(su x).map AV.prim)=l.map ar:=by
 refine zCs fun x hx=>?_
 rw[wU,sr (h x hx)]
theorem zr:ke Tryz.prog 238:=⟨_,Tryz.func238,rfl,rfl⟩
theorem LO (l:List ag) (hl:l.length≤1000000000) (hin:∀n∈l,bIn n) (ver:Nat) :
 TCall Tryz.prog 186 [.sla 0 12 0 l.length ver,.fn (.func 238) [] []] [.arr 12 ver (l.map ar)]
  (fun r s=>r=.tup []∧s=[.arr 12 ver ((gX l).map ar)]):=by
 have h:=TCall.Jf (P:=Tryz.prog) (ρ:=Tryz.iN) Tryz.pE (sz:=12) Tryz.isAgg106 Tryz.sizeOf106 su (fun _=>rfl) (fun x v hv=>by
  simp only[su,zAw,zCm,or_false] at hv;rcases hv with rfl|rfl|rfl|rfl|rfl|rfl|rfl|rfl|rfl|rfl|rfl|rfl<;>rfl)
  (fun x y=>tF (iu x) (iu y)) (C5 iu) (g:=238) (aM:=[]) (σ:=[.arr 12 ver (l.map ar)]) nN zr
  (fun x y=>gH (iu x) (iu y) (B0 x) (B0 y)) (l:=0) (ver:=ver) (xs:=l) (by rw[Hq hin];rfl) oM
 refine TCall.mono h ?_;rintro r s ⟨h1,h2⟩;refine⟨h1,?_⟩;rw[h2];show[aF.arr 12 ver ((gX l).map fun x=>(su x).map AV.prim)]=_;rw[E8 hin]
def pT (l:List ag):List ag:=gX (l.map di)
theorem pU (l:List ag):(pT l).length=l.length:=by unfold pT;rw[rr,lLm]
theorem jK {α:Type} [Inhabited α] {l:List α} {k:Nat} (h:k<l.length):l.take (k+1)=l.take k++[l.getD k default]:=by rw[zCu];simp[List.getD,h]
theorem LP (m k:Nat) (l:List ag):ak m (.arr 12 k (l.map ar))=true:=by
 show(l.map ar).all (fun e=>e.all (aG m 3))=true;rw[zA6];intro e he;obtain⟨n,_,rfl⟩:=zAf.1 he;rfl
def mS:Nat→AV
 |0=>.sl 12 [] (.own 0)
 |k+1=>.sla 0 12 0 (k+1) (k+1)
theorem uN (l:List ag) (hl:l.length≤1000000) (hin:∀n∈l,bIn n):PCall Tryz.prog 221 [.sl 12 (l.map ar) .no] (.sl 12 ((pT l).map ar) .no):=by
 by_cases h0:l=[]
 · subst h0;have hs0:=fun u=>PCall.Je (P:=Tryz.prog) (ρ:=Tryz.iN) Tryz.pE nN u
   refine PCall.body Tryz.func221 rfl rfl Tryz.ntmps221 rfl rfl ?_
   repeat' (first|refine qT ?_|apply sqW|refine rgK fun U V=>?_|(refine aN V ?_;clear V U)|refine blK ?_)
   refine lpD (ι:=Unit) (fun _=>[(3,.nils),(6,.sl 12 [] .no),(7,.int 0),(8,.int 0)]) (fun _=>[]) (fun _=>True) (fun _=>0) 0 (fun _=>rfl) () tI ⟨rfl,rfl,rfl,rfl,tI⟩ rfl (fun _ _=>rfl) (fun _ _=>rfl) ?_;rintro⟨⟩ _
   repeat' (first|refine qP ?_ (h:=fun hg=>by first|exact ae|exact pc (hs0 _)|exact ah)|apply sqW|refine rgK fun U V=>?_|(refine aN V ?_;clear V U)|refine cX ?_ ?_<;>intro hc<;>try simp only[dE] at hc|refine blK ?_|refine exW ?_|refine skW ?_|refine rtW ?_)
   all_goals (first|(exfalso;omega)|(exfalso;simp at hc;done)|skip)
   refine⟨.inr rfl,?_⟩;rw[zAv (pU [])];exact Ent.nil
 · have hb:∀n∈l.map di,bIn n:=fun n hn=>by
    obtain⟨m,hm,rfl⟩:=zAf.1 hn;exact zq (hin m hm)
   have hs:=TCall.val (first:=[]) (aM:=[]) (avs:=[.sla 0 12 0 (l.map di).length l.length,.fn (.func 238) [] []]) (LO (l.map di) (by simp;omega) hb l.length);rw[lLm] at hs;refine PCall.body Tryz.func221 rfl rfl Tryz.ntmps221 rfl rfl ?_
   repeat' (first|refine qT ?_|apply sqW|refine rgK fun U V=>?_|(refine aN V ?_;clear V U)|refine blK ?_)
   refine AWP.LJ 12 (d:=3) rfl ?_
   refine lpD (ι:=Nat) (fun k=>[(3,mS k),(6,.sl 12 (l.map ar) .no),(7,.int l.length),(8,.int k)]) (fun k=>[.arr 12 k (((l.take k).map di).map ar)])
    (fun k=>k≤l.length) (fun k=>l.length - k) 1 (fun _=>rfl) 0 (nZl _) ⟨rfl,rfl,rfl,rfl,tI⟩ rfl (fun k _=>by cases k<;>rfl) (fun k _=>by simp only[zAq,zAu,zC2];exact LP _ _ _) ?_
   intro k hk;by_cases hlt:k<l.length
   · obtain⟨n,hn⟩:∃n,l.getD k default=n:=⟨_,rfl⟩
     have e3:((l.take k).map di).map ar++[ar (di n)]=((l.take (k+1)).map di).map ar:=by
      rw[jK hlt,hn];simp
     have em:(((l.take k).map di).map ar).length=k:=by simp;omega
     have b1:=rq n;rcases zBi k with hk0|hk0
     · have es:mS k=.sl 12 [] (.own 0):=by rw[hk0];rfl
       rw[es]
       repeat' (first|refine qP ?_ (h:=fun hg=>by first|exact iX ar l ((k:Nat):Int) hn (hb:=oM)|exact ae|exact pc b1|exact pbS ab rfl rfl nds|exact ah)|apply sqW|refine rgK fun U V=>?_|(refine aN V ?_;clear V U)|refine aS ?_|refine aA ?_|refine aoE (EStep.gW (m:=k+1) (es3:=((l.take (k+1)).map di).map ar) ab rfl rfl rfl dCd (Rd.w rfl tI) (.inr ⟨rfl,by rw[hk0];rfl,hk0⟩) rfl (Rd.w rfl tI) (.sl rfl (by intro x hx;rcases zA9.1 hx with rfl;rfl)) (zAa _) (lkG rfl) (lkG rfl) rfl rfl (by rw[em];simp only[zAc,zAi];omega) (by rw[em];simp only[zAc,zAi];omega) (by rw[em];rfl) e3 ?_)|refine cX ?_ ?_<;>intro hc<;>try simp only[dE] at hc|refine blK ?_|refine exW ?_|refine skW ?_)
       all_goals (first|(exfalso;omega)|skip)
       exact⟨k+1,oM,oM,⟨(by rw[hk0];rfl),rfl,rfl,rfl,tI⟩,rfl⟩
     · have es:mS k=.sla 0 12 0 k k:=by cases k with|zero=>omega|succ k=>rfl
       rw[es]
       repeat' (first|refine qP ?_ (h:=fun hg=>by first|exact iX ar l ((k:Nat):Int) hn (hb:=oM)|exact ae|exact pc b1|exact pbS ab rfl rfl nds|exact ah)|apply sqW|refine rgK fun U V=>?_|(refine aN V ?_;clear V U)|refine aS ?_|refine aA ?_|refine aoE (EStep.gW (m:=k+1) (es3:=((l.take (k+1)).map di).map ar) ab rfl rfl rfl dCd (Rd.w rfl tI) (.inl ⟨by rw[em],by intro h;rw[h] at em;exact absurd em (by simp only[zAi];omega)⟩) rfl (Rd.w rfl tI) (.sl rfl (by intro x hx;rcases zA9.1 hx with rfl;rfl)) (zAa _) (lkG rfl) (lkG rfl) rfl rfl (by rw[em];simp only[zAc,zAi];omega) (by rw[em];simp only[zAc,zAi];omega) (by rw[em];rfl) e3 ?_)|refine cX ?_ ?_<;>intro hc<;>try simp only[dE] at hc|refine blK ?_|refine exW ?_|refine skW ?_)
       all_goals (first|(exfalso;omega)|skip)
       exact⟨k+1,oM,oM,⟨rfl,rfl,rfl,rfl,tI⟩,rfl⟩
   · obtain rfl:k=l.length:=oM;rw[zB2];obtain⟨m,hm⟩:∃m,l.length=m+1:=⟨l.length - 1,by have:l.length≠0:=fun h=>h0 (zAv h);omega⟩
     have em:mS l.length=.sla 0 12 0 l.length l.length:=by rw[hm];rfl
     rw[em]
     repeat' (first|refine qT ?_|apply sqW|refine rgK fun U V=>?_|(refine aN V ?_;clear V U)|refine aS ?_|refine aA ?_|refine aoE (scT (hs) rfl rfl rfl rfl rfl nd rfl rfl nds ?_)|refine cX ?_ ?_<;>intro hc<;>try simp only[dE] at hc|refine blK ?_|refine exW ?_|refine skW ?_)
     all_goals (first|(exfalso;omega)|skip)
     rintro r s ⟨rfl,rfl⟩
     repeat' (first|refine qS ?_|apply sqW|refine rgK fun U V=>?_|(refine aN V ?_;clear V U))
     refine AWP.fP (d:=2) (l:=0) (sz:=12) (ver:=l.length) (es:=(pT l).map ar) (by show AV.sla 0 12 0 l.length l.length=_;rw[lLm,pU]) rfl (Ji _) ?_;refine rtW ⟨.inr rfl,?_⟩;exact fun _ _ h=>h
end Go.Proofs.YtmjdoencpjpegaaGreatDoor.Al
namespace Go.Proofs.YtmjdoencpjpegaaGreatDoor.Al
open Go.Ab Go.Sort
theorem sU {α:Type} {le:α→α→Prop}:∀{l m:List α},(∀a∈l,∀b∈l,le a b→le b a→a=b)→l.Perm m→l.Pairwise le→m.Pairwise le→l=m
 |[],m,_,h,_,_=>(List.Perm.nil_eq h)
 |a::l,[],_,h,_,_=>by have:=h.length_eq;simp at this
 | a :: l, b :: m, ha, h, h1, h2 => by
   rw[zCq] at h1 h2;have e:a=b:=by
    rcases zAw.1 (h.mem_iff.1 (zAr ..)) with e|e
    · exact e
    · rcases zAw.1 (h.symm.mem_iff.1 (zAr ..)) with e2|e2
      · exact e2.symm
      · exact ha a (zAr ..) b (zAk _ e2) (h1.1 b e2) (h2.1 a e)
   subst e;rw[sU (fun x hx y hy=>ha x (zAk _ hx) y (zAk _ hy)) (List.Perm.cons_inv h) h1.2 h2.2]
theorem wV:∀{a b:List Int},a.length=b.length→fM a b=0→a=b
 |[],[],_,_=>rfl
 |[],_::_,h,_=>by simp at h
 |_::_,[],h,_=>by simp at h
 | x :: a, y :: b, h, hc => by
   rw[ri] at hc;split at hc
   · rw[wV (by simpa using h) hc,show x=y by omega]
   · omega
theorem E9 {x y:ag} (h:dj x=dj y):di x=di y:=by
 obtain⟨a0,a1,a2,a3,a4,⟨a5,a6⟩,⟨a7,a8⟩,⟨a9,a10,a11⟩⟩:=x;obtain⟨b0,b1,b2,b3,b4,⟨b5,b6⟩,⟨b7,b8⟩,⟨b9,b10,b11⟩⟩:=y;simp only[dj,List.cons.injEq,and_true] at h;obtain⟨h1,h2,h3,h4,h5,h6,h7,h8,h9,h10⟩:=h;simp only[di];subst h1;subst h2;subst h3;subst h4;subst h5;subst h6;subst h7;subst h8;subst h9;subst h10;rfl
theorem wW {l:List ag} (hin:∀n∈l,bIn n):(gX l).Pairwise fun x y=>fM (dj x) (dj y)≤0:=by
 have hs:=(gT _ (C5 iu) l).2;have hp:=gi l;have hlen:=rr l;rw[zDo];intro i j hi hj hij;have h1:=hs i j (nZl _) hij oM;have e:∀k (hk:k<(gX l).length),(jI (fun x y=>tF (iu x) (iu y)) l).toArray[k]! = (gX l)[k]:=fun k hk=>by
  unfold gX at hk ⊢;simp[hk]
 rw[e i hi,e j hj] at h1;have m1:=hin _ (hp.mem_iff.1 (lGm hi));have m2:=hin _ (hp.mem_iff.1 (lGm hj));have h3:=(Hp iu _ _).1 h1;rw[sr m1,sr m2] at h3;have:=fq (dj (gX l)[i]) (dj (gX l)[j]);omega
theorem Ku {l m:List ag} (hl:∀n∈l,bIn n) (hm:∀n∈m,bIn n):(pT l==pT m)=kL l m:=by
 have hb:∀{l:List ag},(∀n∈l,bIn n)→∀n∈l.map di,bIn n:=fun h n hn=>by
  obtain⟨k,hk,rfl⟩:=zAf.1 hn;exact zq (h k hk)
 rw[zB3,beq_iff_eq,C4];constructor
 · intro e;have h1:=gi (l.map di);have h2:=gi (m.map di);unfold pT at e;rw[e] at h1;exact h1.symm.trans h2
 · intro h;refine sU (le:=fun x y=>fM (dj x) (dj y)≤0) (fun x hx y hy h1 h2=>?_) ((gi _).trans (h.trans (gi _).symm)) (wW (hb hl)) (wW (hb hm));have h3:=fq (dj x) (dj y);obtain⟨x',_,rfl⟩:=zAf.1 ((gi _).mem_iff.1 hx);obtain⟨y',_,rfl⟩:=zAf.1 ((gi _).mem_iff.1 hy);exact E9 (x:=di x') (y:=di y') (wV rfl oM)
def pOk (n m:Nat):Int→Int→PL→Bool
 |_,_,[]=>true
 |a,b,x::r=>decide (a<x.1)&&(decide (b<x.2)&&(decide (x.1<n)&&(decide (x.2<m)&&pOk n m x.1 x.2 r)))
def np (l:PL):List (Nat×Nat):=l.map fun p=>(p.1.toNat,p.2.toNat)
def ip (l:List (Nat×Nat)):PL:=l.map fun p=>((p.1:Int),(p.2:Int))
theorem MX (l:List (Nat×Nat)):np (ip l)=l:=by
 unfold np ip;rw[zCo]
 conv=>rhs;rw[←List.map_id l]
 rfl
theorem tG {n m:Nat}:∀{l:PL} {a b:Int},-1≤a → -1≤b→pOk n m a b l=true→(np l).Pairwise (fun p q=>p.1<q.1∧p.2<q.2)∧∀p∈np l,a<(p.1:Int)∧b<(p.2:Int)∧p.1<n∧p.2<m
 |[],_,_,_,_,_=>⟨List.Pairwise.nil,fun p h=>by cases h⟩
 | x :: r, a, b, ha, hb, h => by
   simp only[pOk,zA0,dEt] at h;obtain⟨h1,h2,h3,h4,h5⟩:=h;obtain⟨r1,r2⟩:=tG oM oM h5;refine⟨zCq.2 ⟨fun p hp=>?_,r1⟩,fun p hp=>?_⟩
   · have:=r2 p hp;show x.1.toNat<p.1∧x.2.toNat<p.2;omega
   · rcases zAw.1 (show p∈(x.1.toNat,x.2.toNat)::np r from hp) with rfl|hp
     · show a<(x.1.toNat:Int)∧b<(x.2.toNat:Int)∧x.1.toNat<n∧x.2.toNat<m;omega
     · have:=r2 p hp;omega
theorem Jm {n m:Nat}:∀{l:PL} {a b:Int},-1≤a → -1≤b→pOk n m a b l=true→ip (np l)=l
 |[],_,_,_,_,_=>rfl
 | x :: r, a, b, ha, hb, h => by
   simp only[pOk,zA0,dEt] at h;obtain⟨h1,h2,h3,h4,h5⟩:=h;have ih:=Jm (l:=r) (a:=x.1) (b:=x.2) oM oM h5;show((x.1.toNat:Int),(x.2.toNat:Int))::ip (np r)=x::r;rw[ih,Int.toNat_of_nonneg oM,Int.toNat_of_nonneg oM]
theorem C6 {a b:Score} {l:PL} (h:pOk a.bars.length b.bars.length (-1) (-1) l=true):x0 a b (np l):=by
 obtain⟨h1,h2⟩:=tG oM oM h;exact⟨h1,fun p hp=>by have:=h2 p hp;exact⟨this.2.2.1,this.2.2.2⟩⟩
theorem Fa {n m:Nat}:∀{l:List (Nat×Nat)} {a b:Int},l.Pairwise (fun p q=>p.1<q.1∧p.2<q.2)→(∀p∈l,a<(p.1:Int)∧b<(p.2:Int)∧p.1<n∧p.2<m)→pOk n m a b (ip l)=true
 |[],_,_,_,_=>rfl
 | x :: r, a, b, h1, h2 => by
   rw[zCq] at h1;have hx:=h2 x (zAr ..);show pOk n m a b (((x.1:Int),(x.2:Int))::ip r)=true;simp only[pOk,zA0,dEt];refine⟨hx.1,hx.2.1,oM,oM,Fa h1.2 fun p hp=>?_⟩;have h3:=h1.1 p hp;have h4:=h2 p (zAk _ hp);omega
theorem Jn:∀{l:List (Nat×Nat)} {n m:Nat},RP n m l→l.reverse.Pairwise (fun p q=>p.1<q.1∧p.2<q.2)∧∀p∈l,p.1<n∧p.2<m
 |[],_,_,_=>⟨by simp,fun p h=>by cases h⟩
 | x :: r, n, m, h => by
   obtain⟨h1,h2,h3⟩:=h;obtain⟨r1,r2⟩:=Jn h3;refine⟨?_,fun p hp=>?_⟩
   · rw[List.reverse_cons,List.pairwise_append];refine⟨r1,by simp,fun p hp q hq=>?_⟩;rw[zA9.1 hq];exact r2 p (List.mem_reverse.1 hp)
   · rcases zAw.1 hp with rfl|hp
     · exact⟨h1,h2⟩
     · have:=r2 p hp;omega
def C7 (c:Nat→Nat→Int) (n m:Nat) (l:PL):Int:=2 * ((n:Int)+m - 2 * l.length)+(l.map fun p=>c p.1.toNat p.2.toNat).sum
theorem C8 (c:Nat→Nat→Int) (n m:Nat) (l:PL):total c n m (np l).reverse=C7 c n m l:=by
 unfold total C7 gS np;rw[zDs,lLm,List.map_reverse,List.sum_reverse,zCo];rfl
theorem Kv (c:Nat→Nat→Int) (n m:Nat) (l:List (Nat×Nat)):C7 c n m (ip l.reverse)=total c n m l:=by
 rw[←C8,MX,List.reverse_reverse]
def bU (c:Nat→Nat→Int) (i w:Nat):List Int:=(List.range w).map fun k=>T c i k
def bK (c:Nat→Nat→Int) (h w:Nat):List (List Int):=(List.range h).map fun i=>bU c i w
def get2 (t:List (List Int)) (i k:Nat):Int:=(t.getD i []).getD k 0
theorem Fb (c:Nat→Nat→Int) (i w:Nat):bU c i (w+1)=bU c i w++[T c i w]:=by unfold bU;rw[List.range_succ,zAz];rfl
theorem AY (c:Nat→Nat→Int) (h w:Nat):bK c (h+1) w=bK c h w++[bU c h w]:=by unfold bK;rw[List.range_succ,zAz];rfl
theorem fG (c:Nat→Nat→Int) (i w:Nat):(bU c i w).length=w:=by simp[bU]
theorem kM (c:Nat→Nat→Int) (h w:Nat):(bK c h w).length=h:=by simp[bK]
theorem dM {c:Nat→Nat→Int} {i w k:Nat} (h:k<w) (d:Int):(bU c i w).getD k d=T c i k:=by unfold bU;simp[List.getD,h]
theorem fm {c:Nat→Nat→Int} {h w i:Nat} (hi:i<h) (d:List Int):(bK c h w).getD i d=bU c i w:=by unfold bK;simp[List.getD,hi]
def dD (c:Nat→Nat→Int) (n m:Nat):PL:=ip (back c n m).reverse
theorem wX (c:Nat→Nat→Int) (n m:Nat):pOk n m (-1) (-1) (dD c n m)=true∧C7 c n m (dD c n m)=T c n m:=by
 obtain⟨h1,h2⟩:=ga (c:=c) n m;obtain⟨h3,h4⟩:=Jn h1;refine⟨Fa h3 fun p hp=>?_,by unfold dD;rw[Kv];exact h2⟩;have:=h4 p (List.mem_reverse.1 hp);omega
theorem lK {α:Type} (p:α→Bool):∀(l:List α) (k:Nat),(l.take k).filter p=(l.filter p).take ((l.take k).filter p).length
 |[],k=>by simp
 |x::l,0=>by simp
 | x :: l, k + 1 => by
   rw[List.take_succ_cons];by_cases h:p x=true
   · rw[zBq h,zBq h,zAc,List.take_succ_cons,←lK p l k]
   · rw[zBx h,zBx h];exact lK p l k
theorem fU {α:Type} (p:α→Bool) (l:List α) (k:Nat):((l.take k).filter p).length≤(l.filter p).length :=
 ((zE1 k l).filter p).length_le
theorem wY {α:Type} [Inhabited α] (p:α→Bool) (l:List α) {k:Nat} (hk:k<l.length) (h:p (l.getD k default)=true) :
 (l.filter p)[((l.take k).filter p).length]? = some (l.getD k default)∧((l.take (k+1)).filter p).length=((l.take k).filter p).length+1:=by
 have e:l.take (k+1)=l.take k++[l.getD k default]:=jK hk;have e2:(l.take (k+1)).filter p=(l.take k).filter p++[l.getD k default]:=by
  rw[e,zCj,zBq h];rfl
 refine⟨?_,by rw[e2];simp⟩;have h3:=lK p l (k+1);rw[e2] at h3;have h4:((l.filter p).take ((l.take k).filter p++[l.getD k default]).length)[((l.take k).filter p).length]? = some (l.getD k default):=by
  rw[←h3];simp
 rw[zB8] at h4;simpa using h4
theorem uO {α:Type} [Inhabited α] (p:α→Bool) (l:List α) {k:Nat} (hk:k<l.length) (h:p (l.getD k default)=false):((l.take (k+1)).filter p).length=((l.take k).filter p).length:=by
 rw[jK hk,zCj,zBx (by rw[h];decide)];simp
theorem C9 {α:Type} [Inhabited α] {f:α→Int} (p:α→Bool) {l:List α} (hn:(l.map f).Nodup) {k:Nat} (hk:k<l.length):∀x∈(l.filter p).take ((l.take k).filter p).length,f x≠f (l.getD k default):=by
 intro x hx e;rw[←lK] at hx;have hx1:=(zCb.1 hx).1;have hn2:((l.take (k+1)).map f).Nodup:=((zE1 (k+1) l).map f).nodup hn;exact((fi f l k hk).1 hn2).2 (zAf.2 ⟨x,hx1,e⟩)
end Go.Proofs.YtmjdoencpjpegaaGreatDoor.Al
namespace Go.Ab
def ll (u v:AV):Prop:=∀M B x,af M B u x→af M B v x
theorem ll.refl (u:AV):ll u u:=fun _ _ _ h=>h
theorem ll.no (sz:Nat) (es:List (List AV)) (t:Tok):ll (.sl sz es t) (.sl sz es .no):=fun _ _ _ h=>by
 cases h with
 |sl _ _ _ b off cap f hz hm hr hc ht=>exact .sl sz es .no b off cap f hz hm hr hc trivial
 |slz _ t ht=>exact .slz sz .no trivial
 |slzz sz a cap=>exact .slzz sz a cap
theorem ll.nil (sz:Nat):ll .nils (.sl sz [] .no):=fun _ _ _ h=>by cases h;exact .slz sz .no trivial
theorem TCall.args {P:Program} {f:FuncId} {avs zt:List AV} {σ:aa} {Q:AV→aa→Prop} (h:TCall P f avs σ Q) (hl:zt.length=avs.length) (he:∀(i:Nat) (u v:AV),zt[i]? = some u→avs[i]? = some v→ll u v):TCall P f zt σ Q :=
 ⟨h.1,fun G w vs hs ha=>h.2 G w vs hs ⟨ha.1.trans hl,fun i c hi=>by
  have:i<zt.length:=by
   rw[hl];rcases nLg i avs.length with h|h
   · exact h
   · rw[zA2 h] at hi;cases hi
  exact he i _ c (zA1 this) hi _ _ _ (ha.2 i _ (zA1 this))⟩⟩
section
variable {P:Program} {n:Nat} {K:Exit→Env→aa→Prop} {env:Env}
theorem AWP.B3 {c:Code} (sz:Nat):∀(N:Nat) {σ:aa},AWP P n c K env (σ++List.replicate N (.own sz 0))→AWP P n c K env σ
 |0,σ,h=>by simpa using h
 | N + 1, σ, h => by
   refine AWP.oS sz (AWP.B3 sz N ?_);rw[zBo];exact h
end
end Go.Ab
namespace Go.Proofs.YtmjdoencpjpegaaGreatDoor.Al
open Go.Ab Go.Sort
abbrev cP:=Int×Int
abbrev GL:=List (cP×(List ag×Tok))
abbrev NL:=List (cP×List ag)
def evT (v:List ag×Tok):AV:=.sl 12 (v.1.map ar) v.2
def evN (v:List ag):AV:=.sl 12 (v.map ar) .no
def ru (v:List ag×Tok):Nat:=match v.2 with|.own _=>v.1.length|_=>0
def aZ (al:GL) (N:Nat):aa:=(List.range N).map fun j=>.own 12 (match al[j]? with|some p=>ru p.2|none=>0)
theorem zu (al:GL) (N:Nat):(aZ al N).length=N:=by simp[aZ]
theorem Kw (m:Nat) (al:GL) (N:Nat):(aZ al N).all (ak m)=true:=by
 unfold aZ;rw[zA6];intro o ho;obtain⟨j,_,rfl⟩:=zAf.1 ho;rfl
def toG (al:NL):GL:=al.map fun p=>(p.1,(p.2,Tok.no))
def toN (al:GL):NL:=al.map fun p=>(p.1,p.2.1)
theorem Hr (al:NL) (N:Nat):aZ (toG al) N=List.replicate N (.own 12 0):=by
 unfold aZ toG;apply zC5;intro i;rw[zA3,List.getElem?_replicate];split
 · rename_i h;rw[zDg h,zB4];congr 2;rw[zA3];cases al[i]?<;>rfl
 · rename_i h;rw[zA2 (by simpa using h)];rfl
theorem wj {κ α β:Type} [DecidableEq κ] (f:α→β) (k:κ):∀al:List (κ×α),lk (al.map fun p=>(p.1,f p.2)) k=(lk al k).map f
 |[]=>rfl
 | p :: r => by
   simp only[zBd,lk];split
   · rfl
   · exact wj f k r
theorem B4 {κ α:Type} [DecidableEq κ] (k k':κ) (v:α):∀al:List (κ×α),lk al k=none→lk (al++[(k,v)]) k'=if k=k' then some v else lk al k'
 |[],_=>by simp[lk]
 | p :: r, h => by
   obtain⟨a,b⟩:=p;simp only[lk] at h;split at h
   · cases h
   rename_i hne;simp only[List.cons_append,lk];rw[B4 k k' v r h];by_cases e:a=k'
   · rw[if_pos e,if_pos e,if_neg (fun e2=>hne (e.trans e2.symm))]
   · rw[if_neg e,if_neg e]
theorem Fc {κ α:Type} [DecidableEq κ] (k k':κ) (v:α):∀al:List (κ×α),(lk al k).isSome=true→lk (al.set (posOf al k) (k,v)) k'=if k=k' then some v else lk al k'
 |[],h=>by cases h
 | p :: r, h => by
   obtain⟨a,b⟩:=p;simp only[lk] at h;simp only[posOf];by_cases e:a=k
   · rw[if_pos e,List.set_cons_zero];simp only[lk];by_cases e2:k=k'
     · rw[if_pos e2,if_pos e2]
     · rw[if_neg e2,if_neg e2,if_neg (fun h=>e2 (e.symm.trans h))]
   · rw[if_neg e] at h;rw[if_neg e,List.set_cons_succ];simp only[lk];rw[Fc k k' v r h];by_cases e2:a=k'
     · rw[if_pos e2,if_pos e2,if_neg (fun h=>e (e2.trans h.symm))]
     · rw[if_neg e2,if_neg e2]
def iU (al:GL) (key:cP):GL:=if (lk al key).isSome then al else al++[(key,([],.fresh))]
def iv (al:GL) (key:cP):List ag×Tok:=(lk al key).getD ([],.fresh)
def eR (base:Nat) (al:GL) (key:cP) (n:ag):GL:=(iU al key).set (posOf al key) (key,((iv al key).1++[n],.own (base+posOf al key)))
def pV (base:Nat) (i:Int) (al:GL):Prop:=∀(j:Nat) (p:cP×(List ag×Tok)),al[j]? = some p→p.1.1=i→p.2.2=.own (base+j)
theorem oX {base:Nat} {i:Int} {al:GL} (h:pV base i al) {key:cP} (hk:key.1=i) :
 posOf al key≤al.length∧((iv al key).2=.own (base+posOf al key)∨iv al key=([],.fresh))∧(iU al key)[posOf al key]? = some (key,iv al key)∧posOf al key<(iU al key).length:=by
 obtain⟨_,h2,h3⟩:=ik key al;unfold iU iv;cases hs:(lk al key).isSome with
 | true =>
   obtain⟨v,hv,hp⟩:=h2 hs;have hlt:posOf al key<al.length:=by
    rcases nLg (posOf al key) al.length with h|h
    · exact h
    · rw[zA2 h] at hp;cases hp
   rw[hv,zCr,if_pos rfl];exact⟨oM,.inl (h _ _ hp hk),hp,hlt⟩
 | false =>
   have hp:=h3 hs;have hn:lk al key=none:=by simpa using hs
   rw[hn,hp,Option.getD_none];simp
theorem lenG {base:Nat} {i:Int} {al:GL} (h:pV base i al) {key:cP} (hk:key.1=i):ru (iv al key)=(iv al key).1.length:=by
 rcases(oX h hk).2.1 with e|e
 · unfold ru;rw[e]
 · rw[e];rfl
theorem zw {al:GL} {key:cP} {N:Nat}:aZ (iU al key) N=aZ al N:=by
 unfold iU;split
 · rfl
 · unfold aZ;refine zCs fun j _=>?_
   congr 1;rcases Nat.lt_trichotomy j al.length with h|h|h
   · rw[zA8 h]
   · subst h;simp[ru]
   · rw[zA2 (by simp;omega),zA2 oM]
theorem Kx {base:Nat} {i:Int} {al:GL} (h:pV base i al) {key:cP} (hk:key.1=i) {N:Nat} (hN:al.length<N):(aZ al N)[posOf al key]? = some (.own 12 ((iv al key).1.map ar).length):=by
 obtain⟨h1,h2,h3,h4⟩:=oX h hk;rw[←zw (key:=key)];unfold aZ;rw[zA3,zDg oM,zB4,h3];simp only[lenG h hk,lLm]
theorem Hs {base:Nat} {i:Int} {al:GL} (h:pV base i al) {key:cP} (hk:key.1=i) (n:ag) {N:Nat} (hN:al.length<N) :
 (aZ al N).set (posOf al key) (.own 12 ((iv al key).1.map ar++[ar n]).length)=aZ (eR base al key n) N:=by
 obtain⟨h1,h2,h3,h4⟩:=oX h hk;rw[←zw (key:=key)];unfold aZ eR;apply zC5;intro j;rw[zE2];simp only[lLm,List.length_range,zA3];by_cases e:posOf al key=j
 · subst e;rw[if_pos rfl,if_pos oM,zDg oM,zB4,zAh h4];simp[ru]
 · rw[if_neg e];rcases nLg j N with hj|hj
   · rw[zDg hj,zB4,zB4,zAs e]
   · rw[zA2 (by simpa using hj)];rfl
theorem zx {base:Nat} {al:GL} {key:cP} {n:ag}:(eR base al key n).length≤al.length+1:=by
 unfold eR iU;rw[zCk];split<;>simp
theorem Ht {base:Nat} {i:Int} {al:GL} (h:pV base i al) {key:cP} (hk:key.1=i) (n:ag):pV base i (eR base al key n):=by
 obtain⟨h1,h2,h3,h4⟩:=oX h hk;intro j p hj hp;unfold eR at hj;rw[zE2] at hj;by_cases e:posOf al key=j
 · rw[if_pos e,if_pos h4] at hj;simp at hj;subst hj;subst e;rfl
 · rw[if_neg e] at hj;unfold iU at hj;split at hj
   · exact h _ _ hj hp
   · rcases Nat.lt_trichotomy j al.length with h5|h5|h5
     · rw[zA8 h5] at hj;exact h _ _ hj hp
     · rename_i hno;exact absurd ((ik key al).2.2 (by simpa using hno)) (fun h=>e (h.trans h5.symm))
     · rw[zA2 (by simp;omega)] at hj;cases hj
theorem Ky {base:Nat} {al:GL} {key:cP} {n:ag} (k:cP):((lk (eR base al key n) k).map (·.1)).getD []=if key=k then ((lk al key).map (·.1)).getD []++[n] else ((lk al k).map (·.1)).getD []:=by
 obtain⟨_,h2,h3⟩:=ik key al;unfold eR iU iv;cases hs:(lk al key).isSome with
 | true =>
   obtain⟨v,hv,hp⟩:=h2 hs;rw[if_pos rfl,hv,Fc _ _ _ _ hs];by_cases e:key=k
   · rw[if_pos e,if_pos e];rfl
   · rw[if_neg e,if_neg e]
 | false =>
   have hn:lk al key=none:=by simpa using hs
   have hp:=h3 hs;rw[if_neg dCd,hn];have e0:(al++[(key,(([]:List ag),Tok.fresh))]).set (posOf al key) (key,((none.getD (([]:List ag),Tok.fresh)).1++[n],.own (base+posOf al key)))=al++[(key,([n],.own (base+al.length)))]:=by
    rw[hp,List.set_append_right _ _ (nLr _)];simp
   rw[e0,B4 _ _ _ _ hn];by_cases e:key=k
   · rw[if_pos e,if_pos e];rfl
   · rw[if_neg e,if_neg e]
def dN (base:Nat) (i:Int) (al:GL) (l:List ag):GL:=l.foldl (fun al n=>eR base al (i,n.bar) n) al
theorem Da (base:Nat) (i:Int) (al:GL) (l:List ag) (n:ag):dN base i al (l++[n])=eR base (dN base i al l) (i,n.bar) n:=by unfold dN;rw[zC6];rfl
theorem mu (base:Nat) (i:Int):∀(l:List ag) (al:GL),pV base i al→pV base i (dN base i al l)∧(dN base i al l).length≤al.length+l.length ∧
 ∀k:cP,((lk (dN base i al l) k).map (·.1)).getD []=((lk al k).map (·.1)).getD []++if k.1=i then l.filter (fun n=>n.bar==k.2) else []
 |[],al,h=>⟨h,nLr _,fun k=>by simp[dN]⟩
 | n :: r, al, h => by
   obtain⟨h1,h2,h3⟩:=mu base i r (eR base al (i,n.bar) n) (Ht h rfl n);refine⟨h1,?_,fun k=>?_⟩
   · have:=zx (base:=base) (al:=al) (key:=(i,n.bar)) (n:=n);show(dN base i (eR base al (i,n.bar) n) r).length≤_;rw[zAc];omega
   · show((lk (dN base i (eR base al (i,n.bar) n) r) k).map (·.1)).getD []=_;rw[h3 k,Ky];by_cases e:(i,n.bar)=k
     · subst e;rw[if_pos rfl,if_pos rfl,if_pos rfl,zBq sMp,zBo];rfl
     · rw[if_neg e];by_cases e2:k.1=i
       · rw[if_pos e2,if_pos e2,zBx];intro h9;exact e (by rw[←e2,eq_of_beq h9])
       · rw[if_neg e2,if_neg e2]
def Grp (a b:Score) (al:NL):Prop:=∀bar:Int,(lk al (0,bar)).getD []=bq a bar∧(lk al (1,bar)).getD []=bq b bar
theorem wk {base:Nat} {i:Int} {al:NL} (h:∀p∈al,p.1.1≠i):pV base i (toG al):=by
 intro j p hj hp;unfold toG at hj;rw[zA3,zA5] at hj;obtain⟨q,hq,rfl⟩:=hj;exact absurd hp (h q (zAe hq))
theorem zy (al:GL) (k:cP):lk (toN al) k=(lk al k).map (·.1):=wj (fun v:List ag×Tok=>v.1) k al
theorem zz (al:NL) (k:cP):((lk (toG al) k).map (·.1)).getD []=(lk al k).getD []:=by
 rw[show lk (toG al) k=(lk al k).map (fun v:List ag=>(v,Tok.no)) from wj (fun v:List ag=>(v,Tok.no)) k al,Option.map_map];cases lk al k<;>rfl
theorem uP (base:Nat) (i:Int):∀(l:List ag) (al:GL) (p:cP×(List ag×Tok)),p∈dN base i al l→p.1.1=i∨∃q∈al,q.1=p.1
 |[],al,p,h=>.inr ⟨p,h,rfl⟩
 | n :: r, al, p, h => by
   rcases uP base i r (eR base al (i,n.bar) n) p h with h|⟨q,hq,e⟩
   · exact .inl h
   · unfold eR iU at hq;rcases zCe hq with hq|hq
     · split at hq
       · exact .inr ⟨q,hq,e⟩
       · rcases zAy.1 hq with hq|hq
         · exact .inr ⟨q,hq,e⟩
         · rw[zA9.1 hq] at e;left;rw[←e]
     · rw[hq] at e;left;rw[←e]
def tH (base:Nat) (a:Score):NL:=toN (dN base 0 (toG []) a.notes)
def Hu (base x3:Nat) (a b:Score):NL:=toN (dN x3 1 (toG (tH base a)) b.notes)
theorem wZ (base:Nat) (a:Score):∀p∈tH base a,p.1.1≠1:=fun p hp e=>by
 unfold tH toN at hp;obtain⟨q,hq,rfl⟩:=zAf.1 hp;rcases uP base 0 _ _ _ hq with h|⟨r,hr,_⟩
 · have e:q.1.1=1:=e;rw[h] at e;exact absurd e dCd
 · cases hr
theorem LQ (base x3:Nat) (a b:Score):Grp a b (Hu base x3 a b):=fun bar=>by
 have h0:=(mu base 0 a.notes (toG []) (wk fun p h=>by cases h)).2.2;have h1:=(mu x3 1 b.notes (toG (tH base a)) (wk (wZ base a))).2.2;have g0:∀k:cP,(lk (tH base a) k).getD []=if k.1=0 then a.notes.filter (fun n=>n.bar==k.2) else []:=fun k=>by
  unfold tH;rw[zy,h0];simp[toG,lk]
 unfold Hu;constructor
 · rw[zy,h1,zz,g0];simp[bq]
 · rw[zy,h1,zz,g0];simp[bq]
end Go.Proofs.YtmjdoencpjpegaaGreatDoor.Al
