/- Parts of the proof. No statement is proved here. -/
import Derived.Test.YthiaimakjmhegaaGreatDoorP21
import Derived.Test.YthiaimakjmhegaaGreatDoorP22
set_option linter.unusedVariables false
set_option linter.unusedSimpArgs false
set_option maxHeartbeats 16000000
set_option maxRecDepth 20000
namespace Go.Pl
open Go.Ab
def cO (f:aG) (i n:Int):aG:={ f with ar:=f.ar.set i.toNat { f.ar.getD i.toNat ⟨0,0,0⟩ with times:=n } }
theorem EF {α β:Type} {g:α→β} {l:List α} {k:Nat} {d x:α} (h:g x=g (l.getD k d)):(l.set k x).map g=l.map g:=by
 refine zCh fun j=>?_
 rw[zA5,zA5,List.getElem?_set];by_cases hj:k=j
 · subst hj;rw[if_pos rfl];by_cases hl:k<l.length
   · rw[if_pos hl,zA1 hl];simp only[zBa,h];congr 2;simp[List.getD,hl]
   · rw[if_neg hl,zA3 oM]
 · rw[if_neg hj]
def kK (r:bV):Int×Int:=(r.from_,r.ak)
theorem jc (f:aG) (i n:Int):(cO f i n).ar.map kK=f.ar.map kK:=EF (d:=⟨0,0,0⟩) rfl
theorem yE {l m:List bV} (h:l.map kK=m.map kK) (a b:Int):eT l a b=eT m a b:=by
 have e:∀l:List bV,eT l a b=(l.map kK).any fun p=>decide (p.1≤a)&&decide (b≤p.2):=fun l=>by
  unfold eT;rw[List.any_map];rfl
 rw[e,e,h]
theorem l7 {l m:List bV} (h:l.map kK=m.map kK) (b:Int):iG l b=iG m b:=by
 have e:∀l:List bV,iG l b=(l.map kK).any fun p=>decide (p.1<b)&&decide (b<p.2):=fun l=>by
  unfold iG;rw[List.any_map];rfl
 rw[e,e,h]
theorem rn {l m:List bV} (h:l.map kK=m.map kK):∀(last:Int) (es:List ik),dy l last es=dy m last es
 |_,[]=>rfl
 | last, x :: es => by
   unfold dy;rw[yE h,rn h]
theorem tG {bars:Int}:∀{l:List bV} {last:Int} {k:Nat} {n:Int},cT bars last l=true→1≤n∧n≤9→cT bars last (l.set k { l.getD k ⟨0,0,0⟩ with times:=n })=true
 |[],_,_,_,_,_=>rfl
 | r :: l, last, 0, n, h, hn => by
   show cT bars last ({ r with times:=n }::l)=true;unfold cT at h ⊢;simp only[zA0,zB3,zAg,dEf] at h ⊢;obtain⟨⟨⟨⟨⟨h1,h2⟩,h3⟩,h4⟩,h5⟩,h6⟩:=h;exact⟨⟨⟨⟨⟨h1,h2⟩,h3⟩,oM⟩,oM⟩,h6⟩
 | r :: l, last, k + 1, n, h, hn => by
   show cT bars last (r::l.set k { l.getD k ⟨0,0,0⟩ with times:=n })=true;unfold cT at h ⊢;rw[zA0] at h ⊢;exact⟨h.1,tG h.2 hn⟩
theorem vH {f:aG} {i n:Int} (h:aW f=true) (hn:1≤n∧n≤9):jR (cO f i n)=true:=by
 rw[dJ,zA0] at h;have h:=h.1;unfold jR at h ⊢;simp only[zA0,dEt] at h ⊢;obtain⟨⟨⟨⟨⟨h1,h2⟩,h3,h3'⟩,h4,h4'⟩,h5⟩,h6,h7⟩:=h;refine⟨⟨⟨⟨⟨h1,h2⟩,tG h3 hn,?_⟩,?_,h4'⟩,?_⟩,h6,h7⟩
 · show(f.ar.set _ _).length≤100;rw[zDq];exact h3'
 · rw[rn (jc f i n)];exact h4
 · unfold dC at h5 ⊢;rw[l7 (jc f i n),l7 (jc f i n),l7 (jc f i n)];exact h5
end Go.Pl
namespace Go.Proofs.YthiaimakjmhegaaGreatDoor.De
open Go.Ab Go.Pl Pl
structure Tm where
 bar:Int
 q:Rat
structure aV where
 score:Score
 form:aG
 gK:List Tm
structure Dec where
 number:Int
 time:Int
 kind:Int
 a:Int
 b:Int
 c:Int
instance:Inhabited aV:=⟨⟨⟨0,[],[],[]⟩,⟨0,[],[],⟨0,0,0⟩,[]⟩,[]⟩⟩
instance:Inhabited Dec:=⟨⟨0,0,0,0,0,0⟩⟩
def dS (f:aG) (i n:Int):aG×Int :=
 if aW f=false then (noF,1)
 else if (decide (i<0)||decide (i≥(f.ar.length:Int)))=true then (noF,4)
 else if (decide (n<1)||decide (n>9))=true then (noF,1)
 else if (aK (cO f i n)).length≤20000 then (cO f i n,0) else (noF,2)
def mZ (x:Int):List Int→List Int
 |[]=>[x]
 |y::l=>if y<x then y::mZ x l else x::y::l
def l8 (d:Dec):Bool:=decide (d.a<1)||decide (d.a>20)||decide (d.b<0)||decide (d.b>1)||decide (d.c≠0)
def dT (l:List Int) (d:Dec):List Int×Int :=
 if l8 d=true then (l,1)
 else if (decide (d.a∈l)==decide (d.b=1))=true then (l,6)
 else if d.a∈l then (l.erase d.a,0) else (mZ d.a l,0)
def fJ (v:Int) (w:aV):Bool:=w.score.version==v
def jd (w:aV):Room:=⟨w.score.version,w.form,[]⟩
def eE (ws:List aV) (r:Room) (d:Dec):Room×Int :=
 if (decide (d.b≠0)||decide (d.c≠0))=true then (r,1)
 else if az (fJ d.a) ws<0 then (r,4) else (jd (ws.getD (az (fJ d.a) ws).toNat default),0)
def ct (r:Room) (x:aG×Int):Room×Int:=if x.2=0 then ({ r with form:=x.1 },0) else (r,x.2)
def doR (ws:List aV) (r:Room) (d:Dec):Room×Int :=
 if d.kind=1 then eE ws r d
 else if d.kind=2 then ct r (iM r.form ⟨d.a,d.b,d.c⟩)
 else if d.kind=3 then ct r (gX r.form ⟨d.a,d.b,d.c⟩)
 else if d.kind=4 then (if d.c≠0 then (r,1) else ct r (dS r.form d.a d.b))
 else if d.kind=5 then ({ r with aZ:=(dT r.aZ d).1 },(dT r.aZ d).2)
 else (r,1)
def gZ (known time:Int) (d:Dec):Bool:=decide (d.number>known)||decide (d.time>time)
def fP (ws:List aV) (known time:Int):List Dec→Room→Room×Bool
 |[],r=>(r,true)
 |d::l,r=>if gZ known time d=true then (r,true) else if (doR ws r d).2≠0 then ((doR ws r d).1,false) else fP ws known time l (doR ws r d).1
def l9 (last:Int) (w:aV):Bool:=!(decide (w.score.version≤last)||decide (w.score.version>1000000)||decide (w.form.bars≠(w.score.bars.length:Int))||!aW w.form)
def gk:Int→List aV→Bool
 |_,[]=>true
 |last,w::l=>l9 last w&&gk w.score.version l
def cC (l:List aV):Bool:=gk 0 l&&(decide (l.length≥1)&&decide (l.length≤100))
def jV (n:Int):Bool:=decide (0≤n)&&decide (n≤1000000000)
def qK (i last:Int) (d:Dec):Bool:=!(decide (d.number≠i+1)||decide (d.time<last)||!jV d.time)
def kT:Int→Int→List Dec→Bool
 |_,_,[]=>true
 |i,last,d::l=>qK i last d&&kT (i+1) d.time l
def cA (ws:List aV):Room:=jd (ws.getD 0 default)
def kL (ws:List aV) (ds:List Dec):Bool:=!(!cC ws||decide (ds.length>1000))&&kT 0 0 ds
def jr (ws:List aV) (ds:List Dec):Bool:=kL ws ds&&(fP ws (ds.length:Int) 1000000000 ds (cA ws)).2
def noRoom:Room:=⟨0,noF,[]⟩
def atR (ws:List aV) (ds:List Dec) (known time:Int):Room×Int :=
 if (!jr ws ds||decide (known<0)||decide (known>(ds.length:Int))||!jV time)=true then (noRoom,1) else ((fP ws known time ds (cA ws)).1,0)
structure fK (ws:List aV) (r:Room):Prop where
 form:aW r.form=true
 work:∃w∈ws,w.score.version=r.version∧r.form.bars=(w.score.bars.length:Int)
 sorted:r.aZ.Pairwise (·<·)
 range:∀x∈r.aZ,1≤x∧x≤20
theorem vJ {l:List aV}:∀{last:Int},gk last l=true→∀w∈l,aW w.form=true∧w.form.bars=(w.score.bars.length:Int)∧last<w.score.version∧w.score.version≤1000000:=by
 induction l with
 |nil=>intro last _ w hw;cases hw
 | cons x l ih =>
   intro last h w hw;unfold gk at h;rw[zA0] at h;have h1:=h.1;unfold l9 at h1;simp only[zB3,zAg,dEf,zBc,ne_eq,Decidable.not_not] at h1;rcases zAo.1 hw with rfl|hw
   · exact⟨h1.2,h1.1.2,oM,oM⟩
   · have:=ih h.2 w hw;exact⟨this.1,this.2.1,oM,this.2.2.2⟩
theorem AO {ws:List aV} (h:cC ws=true) {w:aV} (hw:w∈ws):fK ws (jd w):=by
 unfold cC at h;rw[zA0] at h;obtain⟨h1,h2,_⟩:=vJ h.1 w hw;exact⟨h1,⟨w,hw,rfl,h2⟩,List.Pairwise.nil,fun x hx=>by cases hx⟩
theorem sB {x y:Int}:∀{l:List Int},y∈mZ x l↔y=x∨y∈l
 |[]=>by simp[mZ]
 | z :: l => by
   unfold mZ;split
   · rw[zAo,sB,zAo];constructor
     · rintro(h|h|h)
       · exact .inr (.inl h)
       · exact .inl h
       · exact .inr (.inr h)
     · rintro(h|h|h)
       · exact .inr (.inl h)
       · exact .inl h
       · exact .inr (.inr h)
   · rw[zAo]
theorem rp {x:Int}:∀{l:List Int},l.Pairwise (·<·)→x∉l→(mZ x l).Pairwise (·<·)
 |[],_,_=>by simp[mZ]
 | z :: l, h, hx => by
   rw[zCs] at h;simp only[zAo,not_or] at hx;unfold mZ;split
   · rename_i hz;rw[zCs];refine⟨fun y hy=>?_,rp h.2 hx.2⟩;rcases sB.1 hy with rfl|hy
     · exact hz
     · exact h.1 y hy
   · rename_i hz;rw[zCs,zCs];refine⟨fun y hy=>?_,h.1,h.2⟩;rcases zAo.1 hy with rfl|hy
     · omega
     · have:=h.1 y hy;omega
theorem GN {f:aG} {i n:Int} (h:(dS f i n).2=0):aW (dS f i n).1=true∧(dS f i n).1.bars=f.bars:=by
 unfold dS at h ⊢;by_cases h1:aW f=false
 · rw[if_pos h1] at h;cases h
 rw[if_neg h1] at h ⊢;by_cases h2:(decide (i<0)||decide (i≥(f.ar.length:Int)))=true
 · rw[if_pos h2] at h;cases h
 rw[if_neg h2] at h ⊢;by_cases h3:(decide (n<1)||decide (n>9))=true
 · rw[if_pos h3] at h;cases h
 rw[if_neg h3] at h ⊢;by_cases h4:(aK (cO f i n)).length≤20000
 · rw[if_pos h4] at h ⊢;refine⟨?_,rfl⟩;have h3':1≤n∧n≤9:=by simp at h3;omega
   rw[dJ,vH (by simpa using h1) h3',decide_eq_true h4];rfl
 · rw[if_neg h4] at h;cases h
theorem Kr {f:aG} {k:bI} (h:(iM f k).2=0):aW (iM f k).1=true∧(iM f k).1.bars=f.bars:=by
 unfold iM at h ⊢;by_cases hA:(!aW f||!fU f.bars k)=true
 · rw[if_pos hA] at h;cases h
 rw[if_neg hA] at h ⊢;by_cases hB:k∈f.cuts
 · rw[if_pos hB] at h;cases h
 rw[if_neg hB] at h ⊢;by_cases hC:f.cuts.length=100
 · rw[if_pos hC] at h;cases h
 rw[if_neg hC];have hA2:(!aW f||!fU f.bars k)=false:=by simpa using hA
 rw[zAg] at hA2;have h1:aW f=true:=by simpa using hA2.1
 have:=sq h1;exact⟨FQ h1 (by simpa using hA2.2) hB oM,rfl⟩
theorem EG {f:aG} {k:bI} (h:aW f=true):aW (jx f k)=true:=by
 unfold aW at h ⊢;simp only[zA0,dEt] at h ⊢;obtain⟨⟨⟨⟨⟨⟨h1,h2⟩,h3⟩,h4⟩,h5⟩,h6,h7⟩,h8⟩:=h;refine⟨⟨⟨⟨⟨⟨h1,h2⟩,h3⟩,h4⟩,h5⟩,?_,?_⟩,by unfold jx;rw[lr];exact h8⟩
 · unfold eh at h6 ⊢;simp only[zA0,dEt,zA4] at h6 ⊢;exact⟨fun x hx=>h6.1 x (List.mem_of_mem_erase hx),h6.2.sublist List.erase_sublist⟩
 · exact zC2 (List.erase_sublist.length_le) h7
theorem Jh {f:aG} {k:bI} (h:(gX f k).2=0):aW (gX f k).1=true∧(gX f k).1.bars=f.bars:=by
 unfold gX at h ⊢;by_cases hA:aW f=false
 · rw[if_pos hA] at h;cases h
 rw[if_neg hA] at h ⊢;by_cases hB:k∉f.cuts
 · rw[if_pos hB] at h;cases h
 rw[if_neg hB];exact⟨EG (by simpa using hA),rfl⟩
theorem ql {ws:List aV} {r:Room} (hr:fK ws r) {x:aG×Int} (h:x.2=0→aW x.1=true∧x.1.bars=r.form.bars):fK ws (ct r x).1:=by
 unfold ct;by_cases hx:x.2=0
 · rw[if_pos hx];obtain⟨h1,h2⟩:=h hx;obtain⟨w,k1,k2,k3⟩:=hr.work;exact⟨h1,⟨w,k1,k2,by show x.1.bars=_;rw[h2];exact k3⟩,hr.sorted,hr.range⟩
 · rw[if_neg hx];exact hr
theorem Cf {ws:List aV} (hws:cC ws=true) {r:Room} (hr:fK ws r) (d:Dec):fK ws (doR ws r d).1:=by
 unfold doR;split
 · unfold eE;split
   · exact hr
   · split
     · exact hr
     · rename_i h;obtain⟨k,h1,h2,_⟩:=bY (p:=fJ d.a) (l:=ws) oM;rw[h1,zAe];exact AO hws (bD h2)
 split
 · exact ql hr fun h=>Kr h
 split
 · exact ql hr fun h=>Jh h
 split
 · split
   · exact hr
   · exact ql hr fun h=>GN h
 split
 · refine⟨hr.form,hr.work,?_,?_⟩
   · show(dT r.aZ d).1.Pairwise _;unfold dT;split
     · exact hr.sorted
     · split
       · exact hr.sorted
       · split
         · exact hr.sorted.sublist List.erase_sublist
         · rename_i h;exact rp hr.sorted h
   · show ∀x∈(dT r.aZ d).1,_
     unfold dT;split
     · exact hr.range
     · rename_i hb;split
       · exact hr.range
       · split
         · exact fun x hx=>hr.range x (List.mem_of_mem_erase hx)
         · intro x hx;rcases sB.1 hx with rfl|hx
           · unfold l8 at hb;simp at hb;omega
           · exact hr.range x hx
 · exact hr
theorem EH {ws:List aV} (hws:cC ws=true) (known time:Int):∀(ds:List Dec) {r:Room},fK ws r→fK ws (fP ws known time ds r).1
 |[],_,h=>h
 | d :: l, r, h => by
   unfold fP;split
   · exact h
   · split
     · exact Cf hws h d
     · exact EH hws known time l (Cf hws h d)
theorem yF {ws:List aV} (hws:cC ws=true):fK ws (cA ws):=by
 have h:=hws;unfold cC at h;simp only[zA0,dEt] at h;exact AO hws (bD oM)
theorem HW {ws:List aV} {ds:List Dec} {known time:Int} (h:(atR ws ds known time).2=0):fK ws (atR ws ds known time).1∧cC ws=true:=by
 unfold atR at h ⊢;by_cases hA:(!jr ws ds||decide (known<0)||decide (known>(ds.length:Int))||!jV time)=true
 · rw[if_pos hA] at h;cases h
 rw[if_neg hA];simp only[Bool.not_eq_true,zAg,zBc] at hA;have hal:=hA.1.1.1;unfold jr kL at hal;simp only[zA0,zB3,zAg,zBc] at hal;have hw:=hal.1.1.1;exact⟨EH hw known time ds (yF hw),hw⟩
end Go.Proofs.YthiaimakjmhegaaGreatDoor.De
namespace Go.Proofs.YthiaimakjmhegaaGreatDoor.De
open Go.Ab Go.Pl Pl
attribute [local irreducible] AWP AOps EStep AQ PStep PRun PCall TCall VCall
theorem EI (l:List bV):OkA (.arr 3 0 (l.map ba)):=fun m=>by simp[aD,ba,aO]
theorem EJ {l:List bV} (hl:l.length≤1000000) (hne:l≠[]) {o0 o1 o2 o3 o4:bc} (ho:∀o∈[o0,o1,o2,o3,o4],OkA o):TCall Tryz.prog 226 [.sl 3 (l.map ba) .no] [o0,o1,o2,o3,o4]
 (fun r s=>r=.sla 5 3 0 l.length 0∧s=[o0,o1,o2,o3,o4,.arr 3 0 (l.map ba)]):=by
 have hll:(l.map ba).length=l.length:=sMp;have hok:([o0,o1,o2,o3,o4,.arr 3 0 (l.map ba)]:ae).all (aD 6)=true:=mF (fun o h=>by
  rcases zAx.1 (show o∈[o0,o1,o2,o3,o4]++[.arr 3 0 (l.map ba)] from h) with h|h
  · exact ho o h
  · rw[zA9.1 h];exact EI l) 6
 refine TCall.body Tryz.func226 rfl rfl Tryz.ntmps226 rfl rfl ?_
 repeat' (first|refine qS ?_|apply sqW|refine rgK fun U V=>?_|(refine aN V ?_;clear V U)|refine aoE (EStep.kC ab rfl rfl rfl rfl rfl tI rfl ?_))
 intro b hb
 repeat' (first|refine qP ?_ (h:=fun hg=>by first|exact PRun.fM ab rfl rfl|exact aa|exact af|fail)|apply sqW|refine rgK fun U V=>?_|(refine aN V ?_;clear V U)|refine aoE (EStep.eK ab rfl rfl rfl rfl (Rd.w rfl tI) (Rd.w rfl tI) (.sl rfl (vE _)) (lkG rfl) (lkG rfl) rfl rfl (by simp only[hll];omega) oM ?_)|refine cX ?_ ?_<;>intro hc<;>try simp only[dE] at hc|refine skW ?_|refine rtW ?_)
 · exact absurd (by simpa using hb hc) hne
 · exact⟨.inr rfl,.sla 5 3 0 (l.map ba).length 0,[o0,o1,o2,o3,o4,.arr 3 0 (l.map ba)],⟨by rw[hll],rfl⟩,rfl,by simp,hok,rfl,rfl⟩
theorem qm (l:List bI) (hl:l.length≤1000000000):PCall Tryz.prog 228 [.sl 3 (l.map aM) .no] (.sl 3 (l.map aM) .no):=by
 have hll:(l.map aM).length=l.length:=sMp;refine PCall.body Tryz.func228 rfl rfl Tryz.ntmps228 rfl rfl ?_
 repeat' (first|refine qS ?_|apply sqW|refine rgK fun U V=>?_|(refine aN V ?_;clear V U)|refine aoE (EStep.kC ab rfl rfl rfl rfl rfl tI rfl ?_))
 intro b hb
 repeat' (first|refine qP ?_ (h:=fun hg=>by first|exact PRun.fM ab rfl rfl|exact aa|exact af|fail)|apply sqW|refine rgK fun U V=>?_|(refine aN V ?_;clear V U)|refine aoE (EStep.eK ab rfl rfl rfl rfl (Rd.w rfl tI) (Rd.w rfl tI) (.sl rfl (gv _)) (lkG rfl) (lkG rfl) rfl rfl (by simp only[hll];omega) oM ?_)|refine cX ?_ ?_<;>intro hc<;>try simp only[dE] at hc|refine skW ?_)
 · have:l=[]:=by simpa using hb hc
   subst this;refine rtW ⟨.inr rfl,Ent.nil⟩
 · refine AWP.gM (d:=2) (l:=0) (sz:=3) (ver:=0) (es:=l.map aM) rfl rfl (GD l) ?_;exact rtW ⟨.inr rfl,fun _ _ h=>h⟩
abbrev gG (f:aG) (c:AV):List AV:=[.int f.bars,c,.sl 3 (f.ends.map ck) .no,.int f.jump.at_,.int f.jump.to,.int f.jump.ch,.sl 3 (f.cuts.map aM) .no]
def clsR (o:Oper):Nat:=match o.dst with
 |some 5=>1
 |some _=>0
 |none=>2
def copR (o0 o1 o2:bc) (f:aG) (c:AV) (more:ae):Nat→Nat→ae
 |j1,j2=>[o0,o1,o2,.var (match j2 with|0=>aP f|_=>gG f c),.var zF]++(match j1 with|0=>[]|_=>more)
theorem GO (f:aG) (hf:FIn f) (hl:f.ar.length≤1000000) (hne:f.ar≠[]) {o0 o1 o2:bc} (ho:∀o∈[o0,o1,o2],OkA o):TCall Tryz.prog 233 [.agg (aP f)] [o0,o1,o2]
 (fun r s=>r=.agg (gG f (.sla 5 3 0 f.ar.length 0))∧s=[o0,o1,o2,.var (gG f (.sla 5 3 0 f.ar.length 0)),.var (gG f (.sla 5 3 0 f.ar.length 0)),.arr 3 0 (f.ar.map ba)]):=by
 have ho5:∀o∈[o0,o1,o2,.var (aP f),.var zF],OkA o:=fun o h=>by
  rcases zAx.1 (show o∈[o0,o1,o2]++[.var (aP f),.var zF] from h) with h|h
  · exact ho o h
  · rcases zAo.1 h with h|h
    · rw[h];exact okF f
    · rw[zA9.1 h];exact fun m=>rfl
 have w1:=TCall.val (first:=[]) (aQ:=[]) (avs:=[.sl 3 (f.ar.map ba) .no]) (EJ hl hne ho5);have w2:=l3 f.ends hf.ends;have w3:=qm f.cuts hf.cuts;have hok:([o0,o1,o2,.var (gG f (.sla 5 3 0 f.ar.length 0)),.var (gG f (.sla 5 3 0 f.ar.length 0)),.arr 3 0 (f.ar.map ba)]:ae).all (aD 6)=true:=by
  have e1:=ho o0 sMp 6;have e2:=ho o1 sMp 6;have e3:=ho o2 sMp 6;have e4:=EI f.ar 6;have e5:aD 6 (.var (gG f (.sla 5 3 0 f.ar.length 0)))=true:=by simp[aD,gG,aO,aM,ck]
  simp only[zB4,zBg,e1,e2,e3,e4,e5];rfl
 refine TCall.pO ab Tryz.func233 rfl rfl Tryz.ntmps233 rfl ?_
 repeat' (first|apply sqW|refine rgK fun U V=>?_|(refine aN V ?_;clear V U)|refine aB ?_|refine aA ?_)
 refine AWP.wD clsR (copR o0 o1 o2 f (.sla 5 3 0 f.ar.length 0) [.arr 3 0 (f.ar.map ba)]) rfl (by kernel_rfl) dKn rfl dKn (fun U V=>?_)
 repeat' (first|refine WQ.q rfl dKn rfl rfl (fun k1 k2 g1 g2 hg=>by exact aa) (by exact rfl) ?_|refine WQ.qb 0 0 rfl dKn rfl rfl (fun k1 k2 g2 g4 hg=>by(have GP:k1=0:=oM);(rcases GP with rfl)<;>((have GQ:k2=0:=oM);(rcases GQ with rfl)<;>(exact aa))) (by exact rfl) ?_)
 refine WQ.e1 0 (v:=.sla 5 3 0 f.ar.length 0) (d:=some 5) rfl dKn rfl ?_ ?_
 · intro aw he k2 hk2;obtain rfl:k2=0:=oM;refine scT w1 rfl rfl rfl rfl rfl tI rfl (by simp only[rds,ai (he 4 dKn)];rfl) ⟨(by rw[aj (he 4 dKn)];first|exact tI|exact rfl),tI⟩ ?_;rintro r s ⟨rfl,rfl⟩;exact⟨rfl,rfl⟩
 repeat' (first|refine WQ.q rfl dKn rfl rfl (fun k1 k2 g1 g2 hg=>by first|exact aa|exact pc w2|exact pc w3|exact af|fail) (by exact rfl) ?_|refine WQ.qb 1 0 rfl dKn rfl rfl (fun k1 k2 g2 g4 hg=>by(have GP:k1=0∨k1=1:=oM);(rcases GP with rfl|rfl)<;>((have GQ:k2=0:=oM);(rcases GQ with rfl)<;>(exact aa))) (by exact rfl) ?_)
 refine WQ.e2 1 1 (v:=.any) (d:=none) rfl dKn rfl ?_ ?_
 · intro aw he k1 hk0 hk1;obtain rfl:k1=1:=oM;exact stW ab rfl rfl ((ai (he 12 dKn)).trans rfl) (by rw[aj (he 12 dKn)];first|exact tI|exact rfl) rfl ((ai (he 5 dKn)).trans rfl) (by rw[aj (he 5 dKn)];first|exact tI|exact rfl) rfl rfl rfl rfl rfl rfl rfl ⟨rfl,rfl⟩
 repeat' (first|refine WQ.q rfl dKn rfl rfl (fun k1 k2 g1 g2 hg=>by exact aa) (by exact rfl) ?_)
 refine WQ.e2 1 1 (v:=.any) (d:=none) rfl dKn rfl ?_ ?_
 · intro aw he k1 hk0 hk1;obtain rfl:k1=1:=oM;exact stW ab rfl rfl ((ai (he 13 dKn)).trans rfl) (by rw[aj (he 13 dKn)];first|exact tI|exact rfl) rfl ((ai (he 8 dKn)).trans rfl) (by rw[aj (he 8 dKn)];first|exact tI|exact rfl) rfl rfl rfl rfl rfl rfl rfl ⟨rfl,rfl⟩
 repeat' (first|refine WQ.q rfl dKn rfl rfl (fun k1 k2 g1 g2 hg=>by exact aa) (by exact rfl) ?_)
 refine WQ.e2 1 1 (v:=.any) (d:=none) rfl dKn rfl ?_ ?_
 · intro aw he k1 hk0 hk1;obtain rfl:k1=1:=oM;exact stW ab rfl rfl ((ai (he 14 dKn)).trans rfl) (by rw[aj (he 14 dKn)];first|exact tI|exact rfl) rfl ((ai (he 11 dKn)).trans rfl) (by rw[aj (he 11 dKn)];first|exact tI|exact rfl) rfl rfl rfl rfl rfl rfl rfl ⟨rfl,rfl⟩
 refine WQ.nil (V _ _ _ ?_);clear V U;show AWP _ _ _ _ _ [o0,o1,o2,.var (gG f (.sla 5 3 0 f.ar.length 0)),.var zF,.arr 3 0 (f.ar.map ba)]
 repeat' (first|refine qS ?_|apply sqW|refine rgK fun U V=>?_|(refine aN V ?_;clear V U)|refine aS ?_|refine rtW ?_)
 exact⟨.inr rfl,_,[o0,o1,o2,.var (gG f (.sla 5 3 0 f.ar.length 0)),.var (gG f (.sla 5 3 0 f.ar.length 0)),.arr 3 0 (f.ar.map ba)],⟨rfl,rfl⟩,rfl,by simp,hok,rfl,rfl⟩
theorem yG {f:aG} {i n:Int} (h:i.toNat<f.ar.length):(f.ar.map ba).set i.toNat (((f.ar.map ba).getD i.toNat []).set 2 (.int n))=(cO f i n).ar.map ba:=by
 unfold cO;dsimp only;rw[List.map_set];congr 1;rw[zB2,zA5,zA1 h,zB2,zA1 h];rfl
theorem HX {σ:ae} {l:List bV} {len:Nat} (hσ:σ[5]? = some (.arr 3 0 (l.map ba))) (h:len=l.length) (cK:0<len):bZ σ (.sla 5 3 0 len 0) (.sl 3 (l.map ba) .no):=by
 have:=bZ.sla (len:=len) hσ (by rw[lLm];exact h) cK;rw[zD9] at this;exact this
theorem GR {f:aG} {i n:Int} (h:aW f=true) (hn:1≤n∧n≤9):kI (cO f i n):=kI.of (vH h hn)
theorem Ji {f:aG} (hf:FIn f) (i n:Int):FIn (cO f i n):=⟨by unfold cO;dsimp only;rw[zDq];exact hf.ar,hf.ends,hf.cuts⟩
theorem GS {f:aG} (h:aW f=true):f.ar.length≤100:=by
 unfold aW at h;simp only[zA0,dEt] at h;exact h.1.1.1.1.2.2
theorem Cg (f:aG) (hf:FIn f) (i n:Int):PCall Tryz.prog 171 [.agg (aP f),.int i,.int n] (GA (dS f i n)):=by
 have h1:=gD f hf;by_cases hA:aW f=false
 · have e:dS f i n=(noF,1):=if_pos hA;rw[e];rw[hA] at h1;refine PCall.bN ab Tryz.func171 rfl rfl Tryz.ntmps171 rfl ?_
   repeat' (first|refine qP ?_ (h:=fun hg=>by first|exact aa|exact pc h1|exact af|fail)|apply sqW|refine rgK fun U V=>?_|(refine aN V ?_;clear V U)|refine aB ?_|refine aA ?_|refine blK ?_)
   refine cdW rfl tI (fun hc=>?_) (fun hc=>absurd hc dCd)
   repeat' (first|refine qP ?_ (h:=fun hg=>by first|exact aa|exact pbD ab rfl rfl nds|exact af|fail)|apply sqW|refine rgK fun U V=>?_|(refine aN V ?_;clear V U)|refine aS ?_|refine rtW ?_)
   exact⟨.inr rfl,_,rfl,Ent.jl jU (Ent.bO _)⟩
 have bL:aW f=true:=by simpa using hA
 rw[bL] at h1;have hlen:=GS bL;by_cases hB:(decide (i<0)||decide (i≥(f.ar.length:Int)))=true
 · have e:dS f i n=(noF,4):=by unfold dS;rw[if_neg hA,if_pos hB]
   rw[e];refine PCall.bN ab Tryz.func171 rfl rfl Tryz.ntmps171 rfl ?_
   repeat' (first|refine qP ?_ (h:=fun hg=>by first|exact aa|exact pc h1|exact af|fail)|apply sqW|refine rgK fun U V=>?_|(refine aN V ?_;clear V U)|refine aB ?_|refine aA ?_|refine blK ?_)
   refine cdW rfl tI (fun hc=>absurd hc dCd) (fun hc=>?_)
   repeat' (first|refine qT ?_|apply sqW|refine rgK fun U V=>?_|(refine aN V ?_;clear V U))
   refine cdW rfl tI (fun hc=>?_) (fun hc=>absurd (hB.symm.trans hc) dCd)
   repeat' (first|refine qP ?_ (h:=fun hg=>by first|exact aa|exact pbD ab rfl rfl nds|exact af|fail)|apply sqW|refine rgK fun U V=>?_|(refine aN V ?_;clear V U)|refine aS ?_|refine rtW ?_)
   exact⟨.inr rfl,_,rfl,Ent.jl jU (Ent.bO _)⟩
 have hB2:(decide (i<0)||decide (i≥(f.ar.length:Int)))=false:=by simpa using hB
 have hi:0≤i∧i<(f.ar.length:Int):=by simp at hB2;omega
 by_cases hC:(decide (n<1)||decide (n>9))=true
 · have e:dS f i n=(noF,1):=by unfold dS;rw[if_neg hA,if_neg hB,if_pos hC]
   rw[e];refine PCall.bN ab Tryz.func171 rfl rfl Tryz.ntmps171 rfl ?_
   repeat' (first|refine qP ?_ (h:=fun hg=>by first|exact aa|exact pc h1|exact af|fail)|apply sqW|refine rgK fun U V=>?_|(refine aN V ?_;clear V U)|refine aB ?_|refine aA ?_|refine blK ?_)
   refine cdW rfl tI (fun hc=>absurd hc dCd) (fun hc=>?_)
   repeat' (first|refine qT ?_|apply sqW|refine rgK fun U V=>?_|(refine aN V ?_;clear V U))
   refine cdW rfl tI (fun hc=>absurd (hB2.symm.trans hc) dCd) (fun hc=>?_)
   repeat' (first|refine qS ?_|apply sqW|refine rgK fun U V=>?_|(refine aN V ?_;clear V U))
   refine cdW rfl tI (fun hc=>?_) (fun hc=>absurd (hC.symm.trans hc) dCd)
   repeat' (first|refine qP ?_ (h:=fun hg=>by first|exact aa|exact pbD ab rfl rfl nds|exact af|fail)|apply sqW|refine rgK fun U V=>?_|(refine aN V ?_;clear V U)|refine aS ?_|refine rtW ?_)
   exact⟨.inr rfl,_,rfl,Ent.jl jU (Ent.bO _)⟩
 have hC2:(decide (n<1)||decide (n>9))=false:=by simpa using hC
 have hn:1≤n∧n≤9:=by simp at hC2;omega
 have cK:0<f.ar.length:=oM;have hne:f.ar≠[]:=zDd.1 cK;have hsl:(cO f i n).ar.length=f.ar.length:=by unfold cO;dsimp only;rw[zDq]
 have hes:=yG (f:=f) (i:=i) (n:=n) oM;have h4:=TCall.val (first:=[]) (aQ:=[]) (avs:=[.agg (aP f)]) (GO f hf oM hne (o0:=.own 1 0) (o1:=.var (aP f)) (o2:=.var zF) (fun o ho=>by
  simp only[zAo,zCe,or_false] at ho;rcases ho with rfl|rfl|rfl
  · exact fun m=>rfl
  · exact okF f
  · exact fun m=>rfl))
 have h5:=qf (cO f i n) (Ji hf i n) (GR bL hn);have hll:(f.ar.map ba).length=f.ar.length:=sMp;have fc:j9 5 3 0 ((cO f i n).ar.map ba) (.sla 5 3 0 f.ar.length 0)=.sl 3 ((cO f i n).ar.map ba) .no:=by
  unfold j9;dsimp only;rw[if_pos ⟨rfl,rfl,rfl,by rw[lLm,hsl],rfl⟩]
 refine PCall.bN ab Tryz.func171 rfl rfl Tryz.ntmps171 rfl ?_;refine AWP.DB 1 ?_;show AWP _ _ _ _ _ [.own 1 0]
 repeat' (first|refine qP ?_ (h:=fun hg=>by first|exact aa|exact pc h1|exact af|fail)|apply sqW|refine rgK fun U V=>?_|(refine aN V ?_;clear V U)|refine aB ?_|refine aA ?_|refine blK ?_)
 refine cdW rfl tI (fun hc=>absurd hc dCd) (fun hc=>?_)
 repeat' (first|refine qT ?_|apply sqW|refine rgK fun U V=>?_|(refine aN V ?_;clear V U))
 refine cdW rfl tI (fun hc=>absurd (hB2.symm.trans hc) dCd) (fun hc=>?_)
 repeat' (first|refine qS ?_|apply sqW|refine rgK fun U V=>?_|(refine aN V ?_;clear V U))
 refine cdW rfl tI (fun hc=>absurd (hC2.symm.trans hc) dCd) (fun hc=>?_)
 repeat' (first|refine qS ?_|apply sqW|refine rgK fun U V=>?_|refine aoE (scT (h4) rfl rfl rfl rfl rfl nd rfl rfl nds ?_)|refine skW ?_)
 rintro r s ⟨rfl,rfl⟩
 repeat' (first|refine aS ?_|(refine aN V ?_;clear V U))
 refine AWP.cY [(1,.int i),(2,.int n),(3,.ptr 1 0),(6,.ptr 2 0),(7,.int 0)] ⟨rfl,rfl,rfl,rfl,rfl,tI⟩ ?_
 repeat refine sqW ?_
 refine rgK fun U V=>?_
 repeat' (first|refine qP ?_ (h:=fun hg=>by first|exact aa|exact PRun.qy ab rfl rfl nd rfl nd rfl dCd rfl hi|exact PRun.J6 ab rfl rfl nd rfl rfl|exact af|fail)|refine aoE (EStep.Iz (l:=5) ab rfl rfl rfl tI rfl (by rw[hll];omega) rfl tI rfl rfl rfl rfl dCd rfl ?_))
 refine aoN (V _ _ ?_);clear V U;show AWP _ _ _ _ _ [.own 1 0,.var (gG f (.sla 5 3 0 f.ar.length 0)),.var zF,.var (gG f (.sla 5 3 0 f.ar.length 0)),.var (gG f (.sla 5 3 0 f.ar.length 0)),.arr 3 0 ((f.ar.map ba).set i.toNat (((f.ar.map ba).getD i.toNat []).set 2 (.int n)))];rw[hes];by_cases hD:(aK (cO f i n)).length≤20000
 · have e:dS f i n=(cO f i n,0):=by unfold dS;rw[if_neg hA,if_neg hB,if_neg hC,if_pos hD]
   rw[e];rw[decide_eq_true hD] at h5
   repeat' (first|refine qP ?_ (h:=fun hg=>by first|exact PRun.wF h5 rfl rfl nd ⟨bZ.agg ⟨bZ.pr _,HX rfl hsl.symm cK,bZ.sl _ _ _,bZ.pr _,bZ.pr _,bZ.pr _,bZ.sl _ _ _,tI⟩,tI⟩ rfl nds|exact aa|exact pbD ab rfl rfl nds|exact af|fail)|apply sqW|refine rgK fun U V=>?_|(refine aN V ?_;clear V U))
   refine cdW rfl tI (fun hc=>absurd hc dCd) (fun hc=>?_)
   repeat' (first|refine qS ?_|apply sqW|refine rgK fun U V=>?_|(refine aN V ?_;clear V U)|refine aS ?_|refine skW ?_)
   refine AWP.rS (l:=5) (sz:=3) (ver:=0) (es:=(cO f i n).ar.map ba) rfl (lu fun e he=>by obtain⟨c,_,rfl⟩:=zAq.1 he;rfl) ?_;refine AWP.cY [(6,.ptr 2 0),(7,.int 0)] ⟨rfl,rfl,tI⟩ ?_;show AWP _ _ _ _ _ [_,_,.var (gG f (j9 5 3 0 ((cO f i n).ar.map ba) (.sla 5 3 0 f.ar.length 0))),_,_,_];rw[fc];exact rtW ⟨.inr rfl,_,rfl,Ent.of rfl⟩
 · have e:dS f i n=(noF,2):=by unfold dS;rw[if_neg hA,if_neg hB,if_neg hC,if_neg hD]
   rw[e];rw[decide_eq_false hD] at h5
   repeat' (first|refine qP ?_ (h:=fun hg=>by first|exact PRun.wF h5 rfl rfl nd ⟨bZ.agg ⟨bZ.pr _,HX rfl hsl.symm cK,bZ.sl _ _ _,bZ.pr _,bZ.pr _,bZ.pr _,bZ.sl _ _ _,tI⟩,tI⟩ rfl nds|exact aa|exact pbD ab rfl rfl nds|exact af|fail)|apply sqW|refine rgK fun U V=>?_|(refine aN V ?_;clear V U))
   refine cdW rfl tI (fun hc=>?_) (fun hc=>absurd hc dCd)
   repeat' (first|refine qP ?_ (h:=fun hg=>by first|exact aa|exact pbD ab rfl rfl nds|exact af|fail)|apply sqW|refine rgK fun U V=>?_|(refine aN V ?_;clear V U)|refine aS ?_|refine rtW ?_)
   exact⟨.inr rfl,_,rfl,Ent.jl jU (Ent.bO _)⟩
def eI (n:Int):List AV:=[.int n]
theorem nN (l:List Int):∀x∈l.map eI,x.all eH=true:=fun x hx=>by
 obtain⟨c,_,rfl⟩:=zAq.1 hx;rfl
theorem oN (n:Int):PCall Tryz.prog 279 [.int n] (.b false):=by
 refine PCall.body Tryz.func279 rfl rfl Tryz.ntmps279 rfl rfl ?_
 repeat' (first|refine qS ?_|apply sqW|refine rgK fun U V=>?_|(refine aN V ?_;clear V U)|refine rtW ?_)
 exact⟨.inr rfl,Ent.b sMp⟩
theorem rq (n:Int):PCall Tryz.prog 299 [.int n] (.b false):=by
 refine PCall.body Tryz.func299 rfl rfl Tryz.ntmps299 rfl rfl ?_
 repeat' (first|refine qS ?_|apply sqW|refine rgK fun U V=>?_|(refine aN V ?_;clear V U)|refine rtW ?_)
 exact⟨.inr rfl,Ent.b sMp⟩
theorem Ch (a b:Int):PCall Tryz.prog 278 [.int a,.int b] (.b (decide (a<b))):=by
 have n1:=rq a;have n2:=rq b;refine PCall.body Tryz.func278 rfl rfl Tryz.ntmps278 rfl rfl ?_
 repeat' (first|refine qP ?_ (h:=fun hg=>by first|exact aa|exact pc n1|exact pc n2|exact af|fail)|apply sqW|refine rgK fun U V=>?_|(refine aN V ?_;clear V U)|refine rtW ?_)
 exact⟨.inr rfl,Ent.b sMp⟩
def dF (x:Int) (l:List Int):Nat:=(l.filter fun y=>decide (y<x)).length
theorem GU {l:List Int} {x:Int} {k:Nat} (hk:k≤l.length) (h1:∀j,j<k→l.getD j default<x) (h2:∀j,k≤j→j<l.length→x≤l.getD j default):dF x l=k:=by
 unfold dF;have e:l.filter (fun y=>decide (y<x))=l.take k:=by
  conv=>lhs;rw[←zCn k l,List.filter_append]
  rw[List.filter_eq_self.2,List.filter_eq_nil_iff.2,zCm]
  · intro y hy;obtain⟨j,hj,rfl⟩:=zAu.1 hy;rw[zB0] at hj;have:=h2 (k+j) oM oM;rw[bb oM] at this;simp only[List.getElem_drop,dEt];omega
  · intro y hy;obtain⟨j,hj,rfl⟩:=zAu.1 hy;rw[zAn] at hj;have:=h1 j oM;rw[bb oM] at this;simpa using this
 rw[e,zAn];omega
theorem vK {l:List Int} (h:l.Pairwise (·<·)) {i j:Nat} (hij:i≤j) (hj:j<l.length):l.getD i default≤l.getD j default:=by
 rcases Nat.eq_or_lt_of_le hij with rfl|hlt
 · exact zBy _
 · have:=zCc.1 h i j oM hj hlt;rw[bb oM,bb hj];omega
theorem yH (l:List Int) (hs:l.Pairwise (·<·)) (hl:l.length≤1000000) (x:Int):PCall Tryz.prog 236 [.sl 1 (l.map eI) .no,.int x] (.tup [.int (dF x l),.b (decide (x∈l))]):=by
 have hn:=oN;refine PCall.body Tryz.func236 rfl rfl Tryz.ntmps236 rfl rfl ?_
 repeat' (first|refine qT ?_|apply sqW|refine rgK fun U V=>?_|(refine aN V ?_;clear V U)|refine blK ?_)
 refine lpD (ι:=Nat×Nat) (fun p=>[(0,.sl 1 (l.map eI) .no),(1,.int x),(6,.int l.length),(7,.int p.1),(8,.int p.2)]) (fun _=>[]) (fun p=>p.1≤p.2∧p.2≤l.length∧(∀j,j<p.1→l.getD j default<x)∧∀j,p.2≤j→j<l.length→x≤l.getD j default) (fun p=>p.2 - p.1) 0 (fun _=>rfl) (0,l.length) ⟨nZl _,nLr _,fun j h=>absurd h oM,fun j h1 h2=>absurd h1 oM⟩ ⟨rfl,rfl,rfl,rfl,rfl,tI⟩ rfl (fun _ _=>rfl) (fun _ _=>rfl) ?_;rintro⟨i,j⟩ ⟨hij,hjl,h1,h2⟩;dsimp only at hij hjl h1 h2 ⊢;by_cases hlt:i<j
 · have c1:IntKind.u64.wrap ((i:Int)+(j:Int))=((i+j:Nat):Int):=by rw[IntKind.wrap_u64];omega
   have c2:((i+j:Nat):Int).fdiv (2 ^ (Min.min (1:Int).toNat IntKind.u64.bits))=(((i+j) / 2:Nat):Int):=by
    show((i+j:Nat):Int).fdiv 2=_;rw[Int.fdiv_eq_ediv_of_nonneg _ oM];omega
   have c3:IntKind.i64.wrap (((i+j) / 2:Nat):Int)=(((i+j) / 2:Nat):Int):=by rw[IntKind.wrap_i64];omega
   obtain⟨h,hh⟩:∃h,(i+j) / 2=h:=⟨_,rfl⟩
   rw[hh] at c2 c3;have hhl:h<l.length:=oM;obtain⟨y,hy⟩:∃y,l.getD h default=y:=⟨_,rfl⟩
   have cl:=Ch y x;have hshr:∀{o:Oper} {env:Env} {σ:ae} {t t':TypeId} {a b:Operand},o.op=.binOp .shr t a b t'→rdv env a=some (.prim (.int .u64 ((i+j:Nat):Int)))→rdn env a→rdv env b=some (.prim (.int .u64 1))→rdn env b→PRun Tryz.prog o env σ (.prim (.int .u64 (h:Int))):=@fun o env σ t t' a b a1 a2 a3 a4 a5=>by
    have:=PRun.shrW (P:=Tryz.prog) (σ:=σ) a1 a2 a3 a4 a5 oM;rw[c2] at this;exact this
   repeat' (first|refine qP ?_ (h:=fun hg=>by first|exact iX eI l ((h:Nat):Int) hy (hb:=oM)|exact PRun.qB ab c3 rfl rfl nd rfl rfl|exact hshr rfl rfl nd rfl nd|exact PRun.qB ab c1 rfl rfl nd rfl rfl|exact aa|exact pc cl|exact af)|apply sqW|refine rgK fun U V=>?_|(refine aN V ?_;clear V U)|refine cX ?_ ?_<;>intro hc<;>try simp only[dE] at hc|refine blK ?_|refine exW ?_|refine skW ?_)
   all_goals (first|(exfalso;omega)|skip)
   · refine⟨(h+1,j),⟨oM,hjl,fun q hq=>?_,h2⟩,by show j - (h+1)<j - i;omega,⟨rfl,rfl,rfl,rfl,rfl,tI⟩,rfl⟩;have:=vK hs (show q≤h by omega) hhl;omega
   · refine⟨(i,h),⟨oM,oM,h1,fun q hq hql=>?_⟩,by show h - i<j - i;omega,⟨rfl,rfl,rfl,rfl,rfl,tI⟩,rfl⟩;dsimp only at hq hql;have:=vK hs hq hql;omega
 · obtain rfl:i=j:=oM;have hb:=GU hjl h1 h2;by_cases hi:i<l.length
   · obtain⟨y,hy⟩:∃y,l.getD i default=y:=⟨_,rfl⟩
     have hm:decide (x∈l)=decide (y=x):=by
      rw[decide_eq_decide];constructor
      · intro hx;obtain⟨q,hq,rfl⟩:=zAu.1 hx;rcases Nat.lt_trichotomy q i with hlt|rfl|hlt
        · have:=h1 q hlt;rw[bb hq] at this;omega
        · rw[←hy,bb hq]
        · have h3:=h2 i (nLr _) hi;have h4:=zCc.1 hs i q hi hq hlt;rw[bb hi] at h3;omega
      · rintro rfl;rw[←hy,bb hi];exact lGm _
     rw[hb,hm]
     repeat' (first|refine qP ?_ (h:=fun hg=>by first|exact iX eI l ((i:Nat):Int) hy (hb:=oM)|exact aa|exact pc (hn _)|exact af|fail)|apply sqW|refine rgK fun U V=>?_|(refine aN V ?_;clear V U)|refine cX ?_ ?_<;>intro hc<;>try simp only[dE] at hc|refine blK ?_|refine exW ?_|refine skW ?_|refine rtW ?_)
     all_goals (first|(exfalso;omega)|skip)
     refine⟨.inr rfl,Ent.jl (Ent.bO _) (Ent.b ?_)⟩;simp[hi];exact zAi.2 sMp
   · have hm:decide (x∈l)=false:=by
      rw[dEf];intro hx;obtain⟨q,hq,rfl⟩:=zAu.1 hx;have:=h1 q oM;rw[bb hq] at this;omega
     have hno:¬((i:Int)<(l.length:Int)):=oM;rw[hb,hm]
     repeat' (first|refine qP ?_ (h:=fun hg=>by first|exact aa|exact pc (hn _)|exact(absurd (of_decide_eq_true (eq_of_beq (show(decide ((i:Int)<(l.length:Int))==true)=true from hg))) hno:PRun _ _ _ _ (.iptr [.int 0]))|exact(absurd (of_decide_eq_true (eq_of_beq (Bool.and_eq_true_iff.1 (show((decide ((i:Int)<(l.length:Int))==true)&&(((0:Int)==x)==false))=true from hg)).1)) hno:PRun _ _ _ _ (.iptr [.int 0]))|exact af|fail)|apply sqW|refine rgK fun U V=>?_|(refine aN V ?_;clear V U)|refine cX ?_ ?_<;>intro hc<;>try simp only[dE] at hc|refine blK ?_|refine exW ?_|refine skW ?_|refine rtW ?_)
     all_goals (first|(exfalso;omega)|skip)
     refine⟨.inr rfl,Ent.jl (Ent.bO _) (Ent.b ?_)⟩;simp[hi]
theorem yJ (l:List Int):OkA (.arr 1 0 (l.map eI)):=fun m=>by simp[aD,eI,aO]
theorem GV {l:List Int} (hl:l.length≤1000000) (hne:l≠[]) {o0 o1 o2 o3 o4:bc} (ho:∀o∈[o0,o1,o2,o3,o4],OkA o):TCall Tryz.prog 238 [.sl 1 (l.map eI) .no] [o0,o1,o2,o3,o4]
 (fun r s=>r=.sla 5 1 0 l.length 0∧s=[o0,o1,o2,o3,o4,.arr 1 0 (l.map eI)]):=by
 have hll:(l.map eI).length=l.length:=sMp;have hok:([o0,o1,o2,o3,o4,.arr 1 0 (l.map eI)]:ae).all (aD 6)=true:=mF (fun o h=>by
  rcases zAx.1 (show o∈[o0,o1,o2,o3,o4]++[.arr 1 0 (l.map eI)] from h) with h|h
  · exact ho o h
  · rw[zA9.1 h];exact yJ l) 6
 refine TCall.body Tryz.func238 rfl rfl Tryz.ntmps238 rfl rfl ?_
 repeat' (first|refine qS ?_|apply sqW|refine rgK fun U V=>?_|(refine aN V ?_;clear V U)|refine aoE (EStep.kC ab rfl rfl rfl rfl rfl tI rfl ?_))
 intro b hb
 repeat' (first|refine qP ?_ (h:=fun hg=>by first|exact PRun.fM ab rfl rfl|exact aa|exact af|fail)|apply sqW|refine rgK fun U V=>?_|(refine aN V ?_;clear V U)|refine aoE (EStep.eK ab rfl rfl rfl rfl (Rd.w rfl tI) (Rd.w rfl tI) (.sl rfl (nN _)) (lkG rfl) (lkG rfl) rfl rfl (by simp only[hll];omega) oM ?_)|refine cX ?_ ?_<;>intro hc<;>try simp only[dE] at hc|refine skW ?_|refine rtW ?_)
 · exact absurd (by simpa using hb hc) hne
 · exact⟨.inr rfl,.sla 5 1 0 (l.map eI).length 0,[o0,o1,o2,o3,o4,.arr 1 0 (l.map eI)],⟨by rw[hll],rfl⟩,rfl,by simp,hok,rfl,rfl⟩
def ma (l:List Int) (i j m:Nat):List (List AV):=(l.map eI).take i++(((l.map eI).drop j).take m++(l.map eI).drop (i+m))
theorem GW {l:List Int} {i j m:Nat} (h1:i+m≤l.length) (h2:j+m≤l.length):(ma l i j m).length=l.length:=by
 unfold ma;simp only[lLa,zAn,zB0,lLm];omega
theorem EK {l:List Int} {i j m q:Nat} (hj:j=i+1) (hm:i+m=q) (hl:j+m=l.length):(ma l i j m).take q=(l.eraseIdx i).map eI:=by
 unfold ma;rw[List.eraseIdx_eq_take_drop_succ,zBw,List.map_take,List.map_drop,←hj,←zBo,zBm (by simp only[lLa,zAn,zB0,lLm];omega)];rw[zAh (by simp only[lLa,zAn,zB0,lLm];omega)];congr 1;rw[zAh (by simp only[zB0,lLm];omega)]
theorem EL {l:List Int} (hl:l.length≤1000000) {i:Nat} (hi:i<l.length) {o0 o1 o2 o3 o4:bc} (hok:([o0,o1,o2,o3,o4]:ae).all (aD 6)=true) :
 TCall Tryz.prog 237 [.sla 5 1 0 l.length 0,.int i,.int ((i:Int)+1)] [o0,o1,o2,o3,o4,.arr 1 0 (l.map eI)]
 (fun r s=>r=At 5 1 (l.length - 1)∧s=[o0,o1,o2,o3,o4,.arr 1 0 ((l.eraseIdx i).map eI)]):=by
 have so:([o0,o1,o2,o3,o4,.arr 1 0 ((l.eraseIdx i).map eI)]:ae).all (aD 6)=true:=by
  have e4:=yJ (l.eraseIdx i) 6;rw[show([o0,o1,o2,o3,o4,.arr 1 0 ((l.eraseIdx i).map eI)]:ae)=[o0,o1,o2,o3,o4]++[.arr 1 0 ((l.eraseIdx i).map eI)] from rfl,zCo,hok,zAy];simp only[zB4,zBg,e4];rfl
 have hll:(l.map eI).length=l.length:=sMp;have ej:0+((i:Int)+1).toNat=i+1:=oM;have em:l.length - ((i:Int)+1).toNat=l.length - (i+1):=oM;obtain⟨J,hJ⟩:∃J,0+((i:Int)+1).toNat=J:=⟨_,rfl⟩
 obtain⟨M,hM⟩:∃M,l.length - ((i:Int)+1).toNat=M:=⟨_,rfl⟩
 have hdl:(ma l i J M).length=l.length:=GW oM oM;have hdt:=EK (l:=l) (i:=i) (j:=J) (m:=M) (q:=l.length - 1) oM oM oM;have hlo:∀{o:Oper} {env:Env} {x y:Operand} {t:TypeId},o.op=.slice t x (some y) none none→rdv env x=some (.sla 5 1 0 l.length 0)→rdn env x→rdv env y=some (.int ((i:Int)+1))→rdn env y→dO tab t=some 1→PRun Tryz.prog o env [o0,o1,o2,o3,o4,.arr 1 0 (l.map eI)] (.sla 5 1 J M 0):=fun a1 a2 a3 a4 a5 a6=>by
  have:=PRun.rQ (σ:=[o0,o1,o2,o3,o4,.arr 1 0 (l.map eI)]) ab a1 a2 a3 a4 a5 a6 rfl ⟨oM,oM⟩;rw[hJ,hM] at this;exact this
 rcases i with _|i
 · rcases hn:l.length with _|_|k
   · omega
   · rw[hn] at hl hll hdl hdt hlo hi hM em;refine TCall.body Tryz.func237 rfl rfl Tryz.ntmps237 rfl rfl ?_
     repeat' (first|refine qP ?_ (h:=fun hg=>by first|exact aa|exact PRun.lJ ab rfl rfl nd rfl nd rfl nd rfl nd rfl rfl oM ⟨oM,oM,oM⟩ oM|exact PRun.j8 ab rfl rfl nd rfl|exact af|fail)|apply sqW|refine rgK fun U V=>?_|(refine aN V ?_;clear V U)|refine cX ?_ ?_<;>intro hc<;>try simp only[dE] at hc|refine skW ?_|refine rtW ?_)
     all_goals (first|(exfalso;simp at hc;done)|(exfalso;omega)|skip)
     refine AWP.dZ (fun j=>match j with|0=>[o0,o1,o2,o3,o4,.arr 1 0 (l.map eI)]|_=>[o0,o1,o2,o3,o4,.arr 1 0 (ma l 0 J M)]) rfl (by kernel_rfl) dKn rfl dKn (fun U V=>?_)
     repeat' (first
      |refine yt (h:=by refine⟨?_,?_,?_,?_⟩<;>intro hh hg<;>first|exact absurd hh dKn|exact hlo rfl rfl nd rfl nd rfl|exact PRun.oJ ab rfl rfl nd rfl nd rfl rfl oM|exact aa|exact af|fail) (hk:=?_)|fail)
     refine YQ.e (v:=.sl 1 [] (.own 5)) (d:=some 26) rfl rfl rfl ?_ ?_
     · intro aw he;exact EStep.kj (l:=5) ab 0 J M rfl rfl rfl dCd (Rd.w ((ai (he 22 dKn)).trans rfl) (by rw[aj (he 22 dKn)];first|exact tI|exact rfl)) rfl (show _=At 5 1 (0+M) by rw[show 0+M=0 by omega];rfl) rfl (Rd.w ((ai (he 25 dKn)).trans rfl) (by rw[aj (he 25 dKn)];first|exact tI|exact rfl)) (nN l) (lkG rfl) (lkG rfl) (lkG rfl) rfl oM oM oM rfl ⟨rfl,rfl⟩
     repeat' (first
      |refine yt (hk:=?_)|fail)
     refine YQ.nil (V _ _ ?_);clear V U
     repeat' (first|refine qP ?_ (h:=fun hg=>by first|exact aa|exact PRun.ki ab 0 1 rfl rfl nd rfl rfl nd rfl nd rfl rfl ⟨oM,oM⟩|exact af)|apply sqW|refine rgK fun U V=>?_|(refine aN V ?_;clear V U)|refine aoE (EStep.nD ab rfl rfl rfl tI rfl (lkG rfl) (lkG rfl) rfl rfl rfl ?_)|refine rtW ?_)
     refine⟨.inr rfl,At 5 1 0,[o0,o1,o2,o3,o4,.arr 1 0 ((l.eraseIdx 0).map eI)],⟨rfl,rfl⟩,?_,by simp,so,rfl,rfl⟩;show[o0,o1,o2,o3,o4,.arr 1 0 ((ma l 0 J M).take 0)]=_;rw[hdt]
   · rw[hn] at hl hll hdl hdt hlo hi hM em;refine TCall.body Tryz.func237 rfl rfl Tryz.ntmps237 rfl rfl ?_
     repeat' (first|refine qP ?_ (h:=fun hg=>by first|exact aa|exact PRun.lJ ab rfl rfl nd rfl nd rfl nd rfl nd rfl rfl oM ⟨oM,oM,oM⟩ oM|exact PRun.j8 ab rfl rfl nd rfl|exact af|fail)|apply sqW|refine rgK fun U V=>?_|(refine aN V ?_;clear V U)|refine cX ?_ ?_<;>intro hc<;>try simp only[dE] at hc|refine skW ?_|refine rtW ?_)
     all_goals (first|(exfalso;simp at hc;done)|(exfalso;omega)|skip)
     refine AWP.dZ (fun j=>match j with|0=>[o0,o1,o2,o3,o4,.arr 1 0 (l.map eI)]|_=>[o0,o1,o2,o3,o4,.arr 1 0 (ma l 0 J M)]) rfl (by kernel_rfl) dKn rfl dKn (fun U V=>?_)
     repeat' (first
      |refine yt (h:=by refine⟨?_,?_,?_,?_⟩<;>intro hh hg<;>first|exact absurd hh dKn|exact hlo rfl rfl nd rfl nd rfl|exact PRun.oJ ab rfl rfl nd rfl nd rfl rfl oM|exact aa|exact af|fail) (hk:=?_)|fail)
     refine YQ.e (v:=.sla 5 1 0 (k+1) 0) (d:=some 26) rfl rfl rfl ?_ ?_
     · intro aw he;exact EStep.kj (l:=5) ab 0 J M rfl rfl rfl dCd (Rd.w ((ai (he 22 dKn)).trans rfl) (by rw[aj (he 22 dKn)];first|exact tI|exact rfl)) rfl (show _=At 5 1 (0+M) by rw[show 0+M=k+1 by omega];rfl) rfl (Rd.w ((ai (he 25 dKn)).trans rfl) (by rw[aj (he 25 dKn)];first|exact tI|exact rfl)) (nN l) (lkG rfl) (lkG rfl) (lkG rfl) rfl oM oM oM rfl ⟨rfl,rfl⟩
     repeat' (first
      |refine yt (hk:=?_)|fail)
     refine YQ.nil (V _ _ ?_);clear V U
     repeat' (first|refine qP ?_ (h:=fun hg=>by first|exact aa|exact PRun.j8 ab rfl rfl nd rfl|exact PRun.ki ab (k+1) (k+1+1) rfl rfl nd rfl rfl nd rfl nd rfl rfl ⟨oM,oM⟩|exact af|fail)|apply sqW|refine rgK fun U V=>?_|(refine aN V ?_;clear V U)|refine aoE (EStep.nD ab rfl rfl rfl tI rfl (lkG rfl) (lkG rfl) rfl rfl rfl ?_)|refine rtW ?_)
     refine⟨.inr rfl,At 5 1 (k+1),[o0,o1,o2,o3,o4,.arr 1 0 ((l.eraseIdx 0).map eI)],⟨rfl,rfl⟩,?_,by simp,so,rfl,rfl⟩;show[o0,o1,o2,o3,o4,.arr 1 0 ((ma l 0 J M).take (k+1))]=_;rw[show k+1=k+1+1 - 1 from rfl,hdt]
 · rcases hn:l.length with _|_|k
   · omega
   · omega
   · rw[hn] at hl hll hdl hdt hlo hi hM em;refine TCall.body Tryz.func237 rfl rfl Tryz.ntmps237 rfl rfl ?_
     repeat' (first|refine qP ?_ (h:=fun hg=>by first|exact aa|exact PRun.lJ ab rfl rfl nd rfl nd rfl nd rfl nd rfl rfl oM ⟨oM,oM,oM⟩ oM|exact PRun.j8 ab rfl rfl nd rfl|exact af|fail)|apply sqW|refine rgK fun U V=>?_|(refine aN V ?_;clear V U)|refine cX ?_ ?_<;>intro hc<;>try simp only[dE] at hc|refine skW ?_|refine rtW ?_)
     all_goals (first|(exfalso;simp at hc;done)|(exfalso;simp at hc;omega)|(exfalso;omega)|skip)
     refine AWP.dZ (fun j=>match j with|0=>[o0,o1,o2,o3,o4,.arr 1 0 (l.map eI)]|_=>[o0,o1,o2,o3,o4,.arr 1 0 (ma l (i+1) J M)]) rfl (by kernel_rfl) dKn rfl dKn (fun U V=>?_)
     repeat' (first
      |refine yt (h:=by refine⟨?_,?_,?_,?_⟩<;>intro hh hg<;>first|exact absurd hh dKn|exact hlo rfl rfl nd rfl nd rfl|exact PRun.xD ab rfl rfl nd rfl nd rfl rfl ⟨oM,oM⟩|exact aa|exact af|fail) (hk:=?_)|fail)
     refine YQ.e (v:=.sla 5 1 0 (k+1) 0) (d:=some 26) rfl rfl rfl ?_ ?_
     · intro aw he;exact EStep.kj (l:=5) ab (i+1) J M rfl rfl rfl dCd (Rd.w ((ai (he 22 dKn)).trans rfl) (by rw[aj (he 22 dKn)];first|exact tI|exact rfl)) rfl (show _=At 5 1 (i+1+M) by rw[show i+1+M=k+1 by omega];rfl) rfl (Rd.w ((ai (he 25 dKn)).trans rfl) (by rw[aj (he 25 dKn)];first|exact tI|exact rfl)) (nN l) (lkG rfl) (lkG rfl) (lkG rfl) rfl oM oM oM rfl ⟨rfl,rfl⟩
     repeat' (first
      |refine yt (hk:=?_)|fail)
     refine YQ.nil (V _ _ ?_);clear V U
     repeat' (first|refine qP ?_ (h:=fun hg=>by first|exact aa|exact PRun.j8 ab rfl rfl nd rfl|exact PRun.ki ab (k+1) (k+1+1) rfl rfl nd rfl rfl nd rfl nd rfl rfl ⟨oM,oM⟩|exact af|fail)|apply sqW|refine rgK fun U V=>?_|(refine aN V ?_;clear V U)|refine aoE (EStep.nD ab rfl rfl rfl tI rfl (lkG rfl) (lkG rfl) rfl rfl rfl ?_)|refine rtW ?_)
     refine⟨.inr rfl,At 5 1 (k+1),[o0,o1,o2,o3,o4,.arr 1 0 ((l.eraseIdx (i+1)).map eI)],⟨rfl,rfl⟩,?_,by simp,so,rfl,rfl⟩;show[o0,o1,o2,o3,o4,.arr 1 0 ((ma l (i+1) J M).take (k+1))]=_;rw[show k+1=k+1+1 - 1 from rfl,hdt]
end Go.Proofs.YthiaimakjmhegaaGreatDoor.De
