/- Parts of the proof. No statement is proved here. -/
import Derived.Test.YtmjdoencpjpegaaGreatDoorP21
import Derived.Test.YtmjdoencpjpegaaGreatDoorP26
set_option linter.unusedVariables false
set_option linter.unusedSimpArgs false
set_option maxHeartbeats 16000000
set_option maxRecDepth 20000
namespace Go.Pl
open Go.Ab
def cN (f:aR) (i n:Int):aR:={ f with aC:=f.aC.set i.toNat { f.aC.getD i.toNat ⟨0,0,0⟩ with times:=n } }
theorem FQ {α β:Type} {g:α→β} {l:List α} {k:Nat} {d x:α} (h:g x=g (l.getD k d)):(l.set k x).map g=l.map g:=by
 refine zC5 fun j=>?_
 rw[zA3,zA3,zE2];by_cases hj:k=j
 · subst hj;rw[if_pos rfl];by_cases hl:k<l.length
   · rw[if_pos hl,zA1 hl];simp only[zB4,h];congr 2;simp[List.getD,hl]
   · rw[if_neg hl,zA2 oM]
 · rw[if_neg hj]
def lN (r:cL):Int×Int:=(r.from_,r.aI)
theorem jN (f:aR) (i n:Int):(cN f i n).aC.map lN=f.aC.map lN:=FQ (d:=⟨0,0,0⟩) rfl
theorem zU {l m:List cL} (h:l.map lN=m.map lN) (a b:Int):je l a b=je m a b:=by
 have e:∀l:List cL,je l a b=(l.map lN).any fun p=>decide (p.1≤a)&&decide (b≤p.2):=fun l=>by
  unfold je;rw[List.any_map];rfl
 rw[e,e,h]
theorem ni {l m:List cL} (h:l.map lN=m.map lN) (b:Int):j7 l b=j7 m b:=by
 have e:∀l:List cL,j7 l b=(l.map lN).any fun p=>decide (p.1<b)&&decide (b<p.2):=fun l=>by
  unfold j7;rw[List.any_map];rfl
 rw[e,e,h]
theorem sZ {l m:List cL} (h:l.map lN=m.map lN):∀(last:Int) (es:List jT),hK l last es=hK m last es
 |_,[]=>rfl
 | last, x :: es => by
   unfold hK;rw[zU h,sZ h]
theorem vo {bars:Int}:∀{l:List cL} {last:Int} {k:Nat} {n:Int},eG bars last l=true→1≤n∧n≤9→eG bars last (l.set k { l.getD k ⟨0,0,0⟩ with times:=n })=true
 |[],_,_,_,_,_=>rfl
 | r :: l, last, 0, n, h, hn => by
   show eG bars last ({ r with times:=n }::l)=true;unfold eG at h ⊢;simp only[zA0,zB1,zAl,dEf] at h ⊢;obtain⟨⟨⟨⟨⟨h1,h2⟩,h3⟩,h4⟩,h5⟩,h6⟩:=h;exact⟨⟨⟨⟨⟨h1,h2⟩,h3⟩,oM⟩,oM⟩,h6⟩
 | r :: l, last, k + 1, n, h, hn => by
   show eG bars last (r::l.set k { l.getD k ⟨0,0,0⟩ with times:=n })=true;unfold eG at h ⊢;rw[zA0] at h ⊢;exact⟨h.1,vo h.2 hn⟩
theorem xl {f:aR} {i n:Int} (h:bB f=true) (hn:1≤n∧n≤9):p6 (cN f i n)=true:=by
 rw[rE,zA0] at h;have h:=h.1;unfold p6 at h ⊢;simp only[zA0,dEt] at h ⊢;obtain⟨⟨⟨⟨⟨h1,h2⟩,h3,h3'⟩,h4,h4'⟩,h5⟩,h6,h7⟩:=h;refine⟨⟨⟨⟨⟨h1,h2⟩,vo h3 hn,?_⟩,?_,h4'⟩,?_⟩,h6,h7⟩
 · show(f.aC.set _ _).length≤100;rw[zCk];exact h3'
 · rw[sZ (jN f i n)];exact h4
 · unfold jx at h5 ⊢;rw[ni (jN f i n),ni (jN f i n),ni (jN f i n)];exact h5
end Go.Pl
namespace Go.Proofs.YtmjdoencpjpegaaGreatDoor.De
open Go.Ab Go.Pl Pl
structure Tm where
 bar:Int
 q:Rat
structure ba where
 score:Score
 form:aR
 Md:List Tm
structure Dec where
 number:Int
 time:Int
 kind:Int
 a:Int
 b:Int
 c:Int
instance:Inhabited ba:=⟨⟨⟨0,[],[],[]⟩,⟨0,[],[],⟨0,0,0⟩,[]⟩,[]⟩⟩
instance:Inhabited Dec:=⟨⟨0,0,0,0,0,0⟩⟩
def ec (f:aR) (i n:Int):aR×Int :=
 if bB f=false then (noF,1)
 else if (decide (i<0)||decide (i≥(f.aC.length:Int)))=true then (noF,4)
 else if (decide (n<1)||decide (n>9))=true then (noF,1)
 else if (br (cN f i n)).length≤20000 then (cN f i n,0) else (noF,2)
def oA (x:Int):List Int→List Int
 |[]=>[x]
 |y::l=>if y<x then y::oA x l else x::y::l
def nj (d:Dec):Bool:=decide (d.a<1)||decide (d.a>20)||decide (d.b<0)||decide (d.b>1)||decide (d.c≠0)
def ee (l:List Int) (d:Dec):List Int×Int :=
 if nj d=true then (l,1)
 else if (decide (d.a∈l)==decide (d.b=1))=true then (l,6)
 else if d.a∈l then (l.erase d.a,0) else (oA d.a l,0)
def qg (v:Int) (w:ba):Bool:=w.score.version==v
def jO (w:ba):Room:=⟨w.score.version,w.form,[]⟩
def eS (ws:List ba) (r:Room) (d:Dec):Room×Int :=
 if (decide (d.b≠0)||decide (d.c≠0))=true then (r,1)
 else if aX (qg d.a) ws<0 then (r,4) else (jO (ws.getD (aX (qg d.a) ws).toNat default),0)
def cq (r:Room) (x:aR×Int):Room×Int:=if x.2=0 then ({ r with form:=x.1 },0) else (r,x.2)
def doR (ws:List ba) (r:Room) (d:Dec):Room×Int :=
 if d.kind=1 then eS ws r d
 else if d.kind=2 then cq r (jn r.form ⟨d.a,d.b,d.c⟩)
 else if d.kind=3 then cq r (iF r.form ⟨d.a,d.b,d.c⟩)
 else if d.kind=4 then (if d.c≠0 then (r,1) else cq r (ec r.form d.a d.b))
 else if d.kind=5 then ({ r with aY:=(ee r.aY d).1 },(ee r.aY d).2)
 else (r,1)
def iG (known time:Int) (d:Dec):Bool:=decide (d.number>known)||decide (d.time>time)
def fO (ws:List ba) (known time:Int):List Dec→Room→Room×Bool
 |[],r=>(r,true)
 |d::l,r=>if iG known time d=true then (r,true) else if (doR ws r d).2≠0 then ((doR ws r d).1,false) else fO ws known time l (doR ws r d).1
def lY (last:Int) (w:ba):Bool:=!(decide (w.score.version≤last)||decide (w.score.version>1000000)||decide (w.form.bars≠(w.score.bars.length:Int))||!bB w.form)
def fV:Int→List ba→Bool
 |_,[]=>true
 |last,w::l=>lY last w&&fV w.score.version l
def cr (l:List ba):Bool:=fV 0 l&&(decide (l.length≥1)&&decide (l.length≤100))
def lZ (n:Int):Bool:=decide (0≤n)&&decide (n≤1000000000)
def sE (i last:Int) (d:Dec):Bool:=!(decide (d.number≠i+1)||decide (d.time<last)||!lZ d.time)
def l4:Int→Int→List Dec→Bool
 |_,_,[]=>true
 |i,last,d::l=>sE i last d&&l4 (i+1) d.time l
def bZ (ws:List ba):Room:=jO (ws.getD 0 default)
def kQ (ws:List ba) (ds:List Dec):Bool:=!(!cr ws||decide (ds.length>1000))&&l4 0 0 ds
def jo (ws:List ba) (ds:List Dec):Bool:=kQ ws ds&&(fO ws (ds.length:Int) 1000000000 ds (bZ ws)).2
def noRoom:Room:=⟨0,noF,[]⟩
def atR (ws:List ba) (ds:List Dec) (known time:Int):Room×Int :=
 if (!jo ws ds||decide (known<0)||decide (known>(ds.length:Int))||!lZ time)=true then (noRoom,1) else ((fO ws known time ds (bZ ws)).1,0)
structure gk (ws:List ba) (r:Room):Prop where
 form:bB r.form=true
 work:∃w∈ws,w.score.version=r.version∧r.form.bars=(w.score.bars.length:Int)
 sorted:r.aY.Pairwise (·<·)
 range:∀x∈r.aY,1≤x∧x≤20
theorem FT {l:List ba}:∀{last:Int},fV last l=true→∀w∈l,bB w.form=true∧w.form.bars=(w.score.bars.length:Int)∧last<w.score.version∧w.score.version≤1000000:=by
 induction l with
 |nil=>intro last _ w hw;cases hw
 | cons x l ih =>
   intro last h w hw;unfold fV at h;rw[zA0] at h;have h1:=h.1;unfold lY at h1;simp only[zB1,zAl,dEf,zB0,ne_eq,Decidable.not_not] at h1;rcases zAw.1 hw with rfl|hw
   · exact⟨h1.2,h1.1.2,oM,oM⟩
   · have:=ih h.2 w hw;exact⟨this.1,this.2.1,oM,this.2.2.2⟩
theorem Ca {ws:List ba} (h:cr ws=true) {w:ba} (hw:w∈ws):gk ws (jO w):=by
 unfold cr at h;rw[zA0] at h;obtain⟨h1,h2,_⟩:=FT h.1 w hw;exact⟨h1,⟨w,hw,rfl,h2⟩,List.Pairwise.nil,fun x hx=>by cases hx⟩
theorem tV {x y:Int}:∀{l:List Int},y∈oA x l↔y=x∨y∈l
 |[]=>by simp[oA]
 | z :: l => by
   unfold oA;split
   · rw[zAw,tV,zAw];constructor
     · rintro(h|h|h)
       · exact .inr (.inl h)
       · exact .inl h
       · exact .inr (.inr h)
     · rintro(h|h|h)
       · exact .inr (.inl h)
       · exact .inl h
       · exact .inr (.inr h)
   · rw[zAw]
theorem s5 {x:Int}:∀{l:List Int},l.Pairwise (·<·)→x∉l→(oA x l).Pairwise (·<·)
 |[],_,_=>by simp[oA]
 | z :: l, h, hx => by
   rw[zCq] at h;simp only[zAw,not_or] at hx;unfold oA;split
   · rename_i hz;rw[zCq];refine⟨fun y hy=>?_,s5 h.2 hx.2⟩;rcases tV.1 hy with rfl|hy
     · exact hz
     · exact h.1 y hy
   · rename_i hz;rw[zCq,zCq];refine⟨fun y hy=>?_,h.1,h.2⟩;rcases zAw.1 hy with rfl|hy
     · omega
     · have:=h.1 y hy;omega
theorem Ic {f:aR} {i n:Int} (h:(ec f i n).2=0):bB (ec f i n).1=true∧(ec f i n).1.bars=f.bars:=by
 unfold ec at h ⊢;by_cases h1:bB f=false
 · rw[if_pos h1] at h;cases h
 rw[if_neg h1] at h ⊢;by_cases h2:(decide (i<0)||decide (i≥(f.aC.length:Int)))=true
 · rw[if_pos h2] at h;cases h
 rw[if_neg h2] at h ⊢;by_cases h3:(decide (n<1)||decide (n>9))=true
 · rw[if_pos h3] at h;cases h
 rw[if_neg h3] at h ⊢;by_cases h4:(br (cN f i n)).length≤20000
 · rw[if_pos h4] at h ⊢;refine⟨?_,rfl⟩;have h3':1≤n∧n≤9:=by simp at h3;omega
   rw[rE,xl (by simpa using h1) h3',decide_eq_true h4];rfl
 · rw[if_neg h4] at h;cases h
theorem Me {f:aR} {k:cd} (h:(jn f k).2=0):bB (jn f k).1=true∧(jn f k).1.bars=f.bars:=by
 unfold jn at h ⊢;by_cases hA:(!bB f||!iB f.bars k)=true
 · rw[if_pos hA] at h;cases h
 rw[if_neg hA] at h ⊢;by_cases hB:k∈f.cuts
 · rw[if_pos hB] at h;cases h
 rw[if_neg hB] at h ⊢;by_cases hC:f.cuts.length=100
 · rw[if_pos hC] at h;cases h
 rw[if_neg hC];have hA2:(!bB f||!iB f.bars k)=false:=by simpa using hA
 rw[zAl] at hA2;have h1:bB f=true:=by simpa using hA2.1
 have:=tS h1;exact⟨Ha h1 (by simpa using hA2.2) hB oM,rfl⟩
theorem FU {f:aR} {k:cd} (h:bB f=true):bB (j8 f k)=true:=by
 unfold bB at h ⊢;simp only[zA0,dEt] at h ⊢;obtain⟨⟨⟨⟨⟨⟨h1,h2⟩,h3⟩,h4⟩,h5⟩,h6,h7⟩,h8⟩:=h;refine⟨⟨⟨⟨⟨⟨h1,h2⟩,h3⟩,h4⟩,h5⟩,?_,?_⟩,by unfold j8;rw[uB];exact h8⟩
 · unfold jy at h6 ⊢;simp only[zA0,dEt,zA6] at h6 ⊢;exact⟨fun x hx=>h6.1 x (List.mem_of_mem_erase hx),h6.2.sublist List.erase_sublist⟩
 · exact zBu (List.erase_sublist.length_le) h7
theorem K1 {f:aR} {k:cd} (h:(iF f k).2=0):bB (iF f k).1=true∧(iF f k).1.bars=f.bars:=by
 unfold iF at h ⊢;by_cases hA:bB f=false
 · rw[if_pos hA] at h;cases h
 rw[if_neg hA] at h ⊢;by_cases hB:k∉f.cuts
 · rw[if_pos hB] at h;cases h
 rw[if_neg hB];exact⟨FU (by simpa using hA),rfl⟩
theorem rO {ws:List ba} {r:Room} (hr:gk ws r) {x:aR×Int} (h:x.2=0→bB x.1=true∧x.1.bars=r.form.bars):gk ws (cq r x).1:=by
 unfold cq;by_cases hx:x.2=0
 · rw[if_pos hx];obtain⟨h1,h2⟩:=h hx;obtain⟨w,k1,k2,k3⟩:=hr.work;exact⟨h1,⟨w,k1,k2,by show x.1.bars=_;rw[h2];exact k3⟩,hr.sorted,hr.range⟩
 · rw[if_neg hx];exact hr
theorem DK {ws:List ba} (hws:cr ws=true) {r:Room} (hr:gk ws r) (d:Dec):gk ws (doR ws r d).1:=by
 unfold doR;split
 · unfold eS;split
   · exact hr
   · split
     · exact hr
     · rename_i h;obtain⟨k,h1,h2,_⟩:=eh (p:=qg d.a) (l:=ws) oM;rw[h1,zAj];exact Ca hws (il h2)
 split
 · exact rO hr fun h=>Me h
 split
 · exact rO hr fun h=>K1 h
 split
 · split
   · exact hr
   · exact rO hr fun h=>Ic h
 split
 · refine⟨hr.form,hr.work,?_,?_⟩
   · show(ee r.aY d).1.Pairwise _;unfold ee;split
     · exact hr.sorted
     · split
       · exact hr.sorted
       · split
         · exact hr.sorted.sublist List.erase_sublist
         · rename_i h;exact s5 hr.sorted h
   · show ∀x∈(ee r.aY d).1,_
     unfold ee;split
     · exact hr.range
     · rename_i hb;split
       · exact hr.range
       · split
         · exact fun x hx=>hr.range x (List.mem_of_mem_erase hx)
         · intro x hx;rcases tV.1 hx with rfl|hx
           · unfold nj at hb;simp at hb;omega
           · exact hr.range x hx
 · exact hr
theorem FW {ws:List ba} (hws:cr ws=true) (known time:Int):∀(ds:List Dec) {r:Room},gk ws r→gk ws (fO ws known time ds r).1
 |[],_,h=>h
 | d :: l, r, h => by
   unfold fO;split
   · exact h
   · split
     · exact DK hws h d
     · exact FW hws known time l (DK hws h d)
theorem tW {ws:List ba} (hws:cr ws=true):gk ws (bZ ws):=by
 have h:=hws;unfold cr at h;simp only[zA0,dEt] at h;exact Ca hws (il oM)
theorem Nh {ws:List ba} {ds:List Dec} {known time:Int} (h:(atR ws ds known time).2=0):gk ws (atR ws ds known time).1∧cr ws=true:=by
 unfold atR at h ⊢;by_cases hA:(!jo ws ds||decide (known<0)||decide (known>(ds.length:Int))||!lZ time)=true
 · rw[if_pos hA] at h;cases h
 rw[if_neg hA];simp only[Bool.not_eq_true,zAl,zB0] at hA;have hal:=hA.1.1.1;unfold jo kQ at hal;simp only[zA0,zB1,zAl,zB0] at hal;have hw:=hal.1.1.1;exact⟨FW hw known time ds (tW hw),hw⟩
end Go.Proofs.YtmjdoencpjpegaaGreatDoor.De
namespace Go.Proofs.YtmjdoencpjpegaaGreatDoor.De
open Go.Ab Go.Pl Pl
attribute [local irreducible] AWP AOps EStep AQ PStep PRun PCall TCall VCall
def lO (t:Tm):List AV:=[.int t.bar,.int t.q.n,.int t.q.d]
def bb (w:ba):List AV:=[.int w.score.version,.sl 4 (w.score.bars.map bD) .no,.sl 13 (w.score.parts.map bt) .no,.sl 12 (w.score.notes.map ar) .no,
 .int w.form.bars,.sl 3 (w.form.aC.map bk) .no,.sl 3 (w.form.ends.map cD) .no,.int w.form.jump.at_,.int w.form.jump.to,.int w.form.jump.dc,.sl 3 (w.form.cuts.map aW) .no,.sl 3 (w.Md.map lO) .no]
def bu (d:Dec):List AV:=[.int d.number,.int d.time,.int d.kind,.int d.a,.int d.b,.int d.c]
structure WIn (w:ba):Prop where
 form:FIn w.form
 score:w.score.Small
theorem oB (n:Int):PCall Tryz.prog 22 [.int n] (.b (lZ n)):=by
 refine PCall.body Tryz.func22 rfl rfl Tryz.ntmps22 rfl rfl ?_
 repeat' (first|refine qS ?_|apply sqW|refine rgK fun U V=>?_|(refine aN V ?_;clear V U)|refine rtW ?_)
 exact⟨.inr rfl,Ent.b rfl⟩
theorem DL (l:List ba) (fv:AV) (p:ba→Bool) (hp:∀x∈l,fw Tryz.prog fv [.agg (bb x)] (.b (p x))) (hl:l.length≤1000000000) :
 PCall Tryz.prog 122 [.sl 12 (l.map bb) .no,fv] (.int (aX p l)):=by
 refine PCall.lG [1] Tryz.func122 rfl rfl Tryz.ntmps122 rfl rfl ?_
 repeat' (first|refine qT ?_|apply sqW|refine rgK fun U V=>?_|(refine aN V ?_;clear V U)|refine blK ?_)
 refine lpW (ι:=Nat) (fun k=>[(0,.sl 12 (l.map bb) .no),(1,.ext fv),(7,.int l.length),(8,.int k)]) (fun _=>[]) (fun k=>k≤l.length∧∀j,j<k→p (l.getD j default)=false) (fun k=>l.length - k) 0 ⟨nZl _,fun j h=>absurd h oM⟩ ⟨rfl,rfl,rfl,rfl,tI⟩ rfl ?_;rintro k ⟨hk,aT⟩;by_cases hlt:k<l.length
 · repeat' (first|refine qP ?_ (h:=fun hg=>by first|exact ae|exact PRun.r9 (hp _ (il hlt)) rfl rfl nd rfl nds|exact ah)|apply sqW|refine rgK fun U V=>?_|(refine aN V ?_;clear V U)|refine cX ?_ ?_<;>intro hc<;>try simp only[dE] at hc|refine blK ?_|refine exW ?_|refine skW ?_|refine rtW ?_)
   · refine⟨.inr rfl,?_⟩;rw[show aX p l=k from eP hlt hc aT];exact fun _ _ h=>h
   · exact⟨k+1,⟨oM,fun j hj=>bA aT hc hj⟩,oM,⟨rfl,rfl,rfl,rfl,tI⟩,rfl⟩
   · exfalso;omega
 · repeat' (first|refine qT ?_|apply sqW|refine rgK fun U V=>?_|(refine aN V ?_;clear V U)|refine cX ?_ ?_<;>intro hc<;>try simp only[dE] at hc|refine blK ?_|refine exW ?_|refine skW ?_|refine rtW ?_)
   · exfalso;omega
   · refine⟨.inr rfl,?_⟩;rw[show aX p l = -1 from gq fun j hj=>aT j oM];exact fun _ _ h=>h
theorem zV (a b:Int):(a != b)=decide (a≠b):=zB3.2 sMp
def nY (l:List ba):Nat→Int
 |0=>0
 |k+1=>(l.getD k default).score.version
theorem zW {l:List ba} {k:Nat} (h:k<l.length):fV (nY l k) (l.drop k)=(lY (nY l k) (l.getD k default)&&fV (nY l (k+1)) (l.drop (k+1))):=by
 rw[mE h];rfl
theorem xL (l:List ba) (hl:l.length≤1000000000) (hw:∀w∈l,WIn w):PCall Tryz.prog 47 [.sl 12 (l.map bb) .no] (.b (cr l)):=by
 refine PCall.body Tryz.func47 rfl rfl Tryz.ntmps47 rfl rfl ?_
 repeat' (first|refine qT ?_|apply sqW|refine rgK fun U V=>?_|(refine aN V ?_;clear V U)|refine blK ?_)
 refine lpD (ι:=Nat) (fun k=>[(0,.sl 12 (l.map bb) .no),(3,.int (nY l k)),(6,.sl 12 (l.map bb) .no),(7,.int l.length),(8,.int k)]) (fun _=>[]) (fun k=>k≤l.length∧fV 0 l=fV (nY l k) (l.drop k)) (fun k=>l.length - k) 0 (fun _=>rfl) 0 ⟨nZl _,rfl⟩ ⟨rfl,rfl,rfl,rfl,rfl,tI⟩ rfl (fun _ _=>rfl) (fun _ _=>rfl) ?_;rintro k ⟨hk,hinv⟩;by_cases hlt:k<l.length
 · have e1:=zW hlt;obtain⟨w,hwk⟩:∃w,l.getD k default=w:=⟨_,rfl⟩
   have hin:=hw w (hwk▸il hlt);have hv:=mz w.form hin.form;have el:nY l (k+1)=w.score.version:=hwk▸rfl;rw[hwk,el] at e1
   repeat' (first|refine qP ?_ (h:=fun hg=>by first|exact iX bb l ((k:Nat):Int) hwk (hb:=oM)|exact ae|exact pc hv|exact ah)|apply sqW|refine rgK fun U V=>?_|(refine aN V ?_;clear V U)|refine aS ?_|refine aA ?_|refine cX ?_ ?_<;>intro hc<;>try simp only[dE] at hc|refine blK ?_|refine exW ?_|refine skW ?_|refine rtW ?_)
   all_goals first|(exfalso;omega)|skip
   · have hb:lY (nY l k) w=false:=by
      unfold lY;rw[zB0,←zV];exact hc
     refine⟨.inr rfl,Ent.b ?_⟩;unfold cr;rw[hinv,e1,hb];rfl
   · have hb:lY (nY l k) w=true:=by
      unfold lY;rw[zB1,←zV];exact hc
     rw[hb,zBw,←el] at e1;exact⟨k+1,⟨hlt,hinv.trans e1⟩,oM,⟨rfl,by rw[el];rfl,rfl,rfl,rfl,tI⟩,rfl⟩
 · obtain rfl:k=l.length:=oM;have e2:fV 0 l=true:=by rw[hinv,List.drop_length];rfl
   repeat' (first|refine qT ?_|apply sqW|refine rgK fun U V=>?_|(refine aN V ?_;clear V U)|refine aS ?_|refine aA ?_|refine cX ?_ ?_<;>intro hc<;>try simp only[dE] at hc|refine blK ?_|refine exW ?_|refine skW ?_|refine rtW ?_)
   all_goals first|(exfalso;omega)|skip
   refine⟨.inr rfl,Ent.b ?_⟩;unfold cr;rw[e2,zBw];congr 1<;>exact decide_eq_decide.2 oM
theorem FX (l:List cL):OkA (.arr 3 0 (l.map bk)):=fun m=>by simp[ak,bk,aG]
theorem FY {l:List cL} (hl:l.length≤1000000) (hne:l≠[]) {o0 o1 o2 o3 o4:aF} (ho:∀o∈[o0,o1,o2,o3,o4],OkA o):TCall Tryz.prog 152 [.sl 3 (l.map bk) .no] [o0,o1,o2,o3,o4]
 (fun r s=>r=.sla 5 3 0 l.length 0∧s=[o0,o1,o2,o3,o4,.arr 3 0 (l.map bk)]):=by
 have hll:(l.map bk).length=l.length:=sMp;have hok:([o0,o1,o2,o3,o4,.arr 3 0 (l.map bk)]:aa).all (ak 6)=true:=mA (fun o h=>by
  rcases zAy.1 (show o∈[o0,o1,o2,o3,o4]++[.arr 3 0 (l.map bk)] from h) with h|h
  · exact ho o h
  · rw[zA9.1 h];exact FX l) 6
 refine TCall.body Tryz.func152 rfl rfl Tryz.ntmps152 rfl rfl ?_
 repeat' (first|refine qS ?_|apply sqW|refine rgK fun U V=>?_|(refine aN V ?_;clear V U)|refine aoE (EStep.kC ab rfl rfl rfl rfl rfl tI rfl ?_))
 intro b hb
 repeat' (first|refine qP ?_ (h:=fun hg=>by first|exact PRun.fD ab rfl rfl|exact ae|fail)|apply sqW|refine rgK fun U V=>?_|(refine aN V ?_;clear V U)|refine aoE (EStep.fg ab rfl rfl rfl rfl (Rd.w rfl tI) (Rd.w rfl tI) (.sl rfl (xj _)) (lkG rfl) (lkG rfl) rfl rfl (by simp only[hll];omega) oM ?_)|refine cX ?_ ?_<;>intro hc<;>try simp only[dE] at hc|refine skW ?_|refine rtW ?_)
 · exact absurd (by simpa using hb hc) hne
 · exact⟨.inr rfl,.sla 5 3 0 (l.map bk).length 0,[o0,o1,o2,o3,o4,.arr 3 0 (l.map bk)],⟨by rw[hll],rfl⟩,rfl,by simp,hok,rfl,rfl⟩
theorem rP (l:List cd) (hl:l.length≤1000000000):PCall Tryz.prog 154 [.sl 3 (l.map aW) .no] (.sl 3 (l.map aW) .no):=by
 have hll:(l.map aW).length=l.length:=sMp;refine PCall.body Tryz.func154 rfl rfl Tryz.ntmps154 rfl rfl ?_
 repeat' (first|refine qS ?_|apply sqW|refine rgK fun U V=>?_|(refine aN V ?_;clear V U)|refine aoE (EStep.kC ab rfl rfl rfl rfl rfl tI rfl ?_))
 intro b hb
 repeat' (first|refine qP ?_ (h:=fun hg=>by first|exact PRun.fD ab rfl rfl|exact ae|fail)|apply sqW|refine rgK fun U V=>?_|(refine aN V ?_;clear V U)|refine aoE (EStep.fg ab rfl rfl rfl rfl (Rd.w rfl tI) (Rd.w rfl tI) (.sl rfl (gP _)) (lkG rfl) (lkG rfl) rfl rfl (by simp only[hll];omega) oM ?_)|refine cX ?_ ?_<;>intro hc<;>try simp only[dE] at hc|refine skW ?_)
 · have:l=[]:=by simpa using hb hc
   subst this;refine rtW ⟨.inr rfl,Ent.nil⟩
 · refine AWP.fP (d:=2) (l:=0) (sz:=3) (ver:=0) (es:=l.map aW) rfl rfl (H5 l) ?_;exact rtW ⟨.inr rfl,fun _ _ h=>h⟩
abbrev gY (f:aR) (c:AV):List AV:=[.int f.bars,c,.sl 3 (f.ends.map cD) .no,.int f.jump.at_,.int f.jump.to,.int f.jump.dc,.sl 3 (f.cuts.map aW) .no]
def clsR (o:Oper):Nat:=match o.dst with
 |some 5=>1
 |some _=>0
 |none=>2
def copR (o0 o1 o2:aF) (f:aR) (c:AV) (more:aa):Nat→Nat→aa
 |j1,j2=>[o0,o1,o2,.var (match j2 with|0=>bl f|_=>gY f c),.var zF]++(match j1 with|0=>[]|_=>more)
theorem Ie (f:aR) (hf:FIn f) (hl:f.aC.length≤1000000) (hne:f.aC≠[]) {o0 o1 o2:aF} (ho:∀o∈[o0,o1,o2],OkA o):TCall Tryz.prog 126 [.agg (bl f)] [o0,o1,o2]
 (fun r s=>r=.agg (gY f (.sla 5 3 0 f.aC.length 0))∧s=[o0,o1,o2,.var (gY f (.sla 5 3 0 f.aC.length 0)),.var (gY f (.sla 5 3 0 f.aC.length 0)),.arr 3 0 (f.aC.map bk)]):=by
 have ho5:∀o∈[o0,o1,o2,.var (bl f),.var zF],OkA o:=fun o h=>by
  rcases zAy.1 (show o∈[o0,o1,o2]++[.var (bl f),.var zF] from h) with h|h
  · exact ho o h
  · rcases zAw.1 h with h|h
    · rw[h];exact okF f
    · rw[zA9.1 h];exact fun m=>rfl
 have w1:=TCall.val (first:=[]) (aM:=[]) (avs:=[.sl 3 (f.aC.map bk) .no]) (FY hl hne ho5);have w2:=mZ f.ends hf.ends;have w3:=rP f.cuts hf.cuts;have hok:([o0,o1,o2,.var (gY f (.sla 5 3 0 f.aC.length 0)),.var (gY f (.sla 5 3 0 f.aC.length 0)),.arr 3 0 (f.aC.map bk)]:aa).all (ak 6)=true:=by
  have e1:=ho o0 sMp 6;have e2:=ho o1 sMp 6;have e3:=ho o2 sMp 6;have e4:=FX f.aC 6;have e5:ak 6 (.var (gY f (.sla 5 3 0 f.aC.length 0)))=true:=by simp[ak,gY,aG,aW,cD]
  simp only[zAq,zAu,e1,e2,e3,e4,e5];rfl
 refine TCall.rh ab Tryz.func126 rfl rfl Tryz.ntmps126 rfl ?_
 repeat' (first|apply sqW|refine rgK fun U V=>?_|(refine aN V ?_;clear V U)|refine aB ?_|refine aA ?_)
 refine AWP.xY clsR (copR o0 o1 o2 f (.sla 5 3 0 f.aC.length 0) [.arr 3 0 (f.aC.map bk)]) rfl (by kernel_rfl) dKn rfl dKn (fun U V=>?_)
 repeat' (first|refine WQ.q rfl dKn rfl rfl (fun k1 k2 g1 g2 hg=>by exact ae) (by exact rfl) ?_|refine WQ.qb 0 0 rfl dKn rfl rfl (fun k1 k2 g2 g4 hg=>by(have Ig:k1=0:=oM);(rcases Ig with rfl)<;>((have zn:k2=0:=oM);(rcases zn with rfl)<;>(exact ae))) (by exact rfl) ?_)
 refine WQ.e1 0 (v:=.sla 5 3 0 f.aC.length 0) (d:=some 5) rfl dKn rfl ?_ ?_
 · intro au he k2 hk2;obtain rfl:k2=0:=oM;refine scT w1 rfl rfl rfl rfl rfl tI rfl (by simp only[rds,ai (he 4 dKn)];rfl) ⟨(by rw[aj (he 4 dKn)];first|exact tI|exact rfl),tI⟩ ?_;rintro r s ⟨rfl,rfl⟩;exact⟨rfl,rfl⟩
 repeat' (first|refine WQ.q rfl dKn rfl rfl (fun k1 k2 g1 g2 hg=>by first|exact ae|exact pc w2|exact pc w3|fail) (by exact rfl) ?_|refine WQ.qb 1 0 rfl dKn rfl rfl (fun k1 k2 g2 g4 hg=>by(have Ig:k1=0∨k1=1:=oM);(rcases Ig with rfl|rfl)<;>((have zn:k2=0:=oM);(rcases zn with rfl)<;>(exact ae))) (by exact rfl) ?_)
 refine WQ.e2 1 1 (v:=.any) (d:=none) rfl dKn rfl ?_ ?_
 · intro au he k1 hk0 hk1;obtain rfl:k1=1:=oM;exact stW ab rfl rfl ((ai (he 12 dKn)).trans rfl) (by rw[aj (he 12 dKn)];first|exact tI|exact rfl) rfl ((ai (he 5 dKn)).trans rfl) (by rw[aj (he 5 dKn)];first|exact tI|exact rfl) rfl rfl rfl rfl rfl rfl rfl ⟨rfl,rfl⟩
 repeat' (first|refine WQ.q rfl dKn rfl rfl (fun k1 k2 g1 g2 hg=>by exact ae) (by exact rfl) ?_)
 refine WQ.e2 1 1 (v:=.any) (d:=none) rfl dKn rfl ?_ ?_
 · intro au he k1 hk0 hk1;obtain rfl:k1=1:=oM;exact stW ab rfl rfl ((ai (he 13 dKn)).trans rfl) (by rw[aj (he 13 dKn)];first|exact tI|exact rfl) rfl ((ai (he 8 dKn)).trans rfl) (by rw[aj (he 8 dKn)];first|exact tI|exact rfl) rfl rfl rfl rfl rfl rfl rfl ⟨rfl,rfl⟩
 repeat' (first|refine WQ.q rfl dKn rfl rfl (fun k1 k2 g1 g2 hg=>by exact ae) (by exact rfl) ?_)
 refine WQ.e2 1 1 (v:=.any) (d:=none) rfl dKn rfl ?_ ?_
 · intro au he k1 hk0 hk1;obtain rfl:k1=1:=oM;exact stW ab rfl rfl ((ai (he 14 dKn)).trans rfl) (by rw[aj (he 14 dKn)];first|exact tI|exact rfl) rfl ((ai (he 11 dKn)).trans rfl) (by rw[aj (he 11 dKn)];first|exact tI|exact rfl) rfl rfl rfl rfl rfl rfl rfl ⟨rfl,rfl⟩
 refine WQ.nil (V _ _ _ ?_);clear V U;show AWP _ _ _ _ _ [o0,o1,o2,.var (gY f (.sla 5 3 0 f.aC.length 0)),.var zF,.arr 3 0 (f.aC.map bk)]
 repeat' (first|refine qS ?_|apply sqW|refine rgK fun U V=>?_|(refine aN V ?_;clear V U)|refine aS ?_|refine rtW ?_)
 exact⟨.inr rfl,_,[o0,o1,o2,.var (gY f (.sla 5 3 0 f.aC.length 0)),.var (gY f (.sla 5 3 0 f.aC.length 0)),.arr 3 0 (f.aC.map bk)],⟨rfl,rfl⟩,rfl,by simp,hok,rfl,rfl⟩
theorem zY {f:aR} {i n:Int} (h:i.toNat<f.aC.length):(f.aC.map bk).set i.toNat (((f.aC.map bk).getD i.toNat []).set 2 (.int n))=(cN f i n).aC.map bk:=by
 unfold cN;dsimp only;rw[List.map_set];congr 1;rw[zB5,zA3,zA1 h,zB5,zA1 h];rfl
theorem JB {σ:aa} {l:List cL} {len:Nat} (hσ:σ[5]? = some (.arr 3 0 (l.map bk))) (h:len=l.length) (cC:0<len):bX σ (.sla 5 3 0 len 0) (.sl 3 (l.map bk) .no):=by
 have:=bX.sla (len:=len) hσ (by rw[lLm];exact h) cC;rw[zCo] at this;exact this
theorem Ih {f:aR} {i n:Int} (h:bB f=true) (hn:1≤n∧n≤9):sA (cN f i n):=sA.of (xl h hn)
theorem K2 {f:aR} (hf:FIn f) (i n:Int):FIn (cN f i n):=⟨by unfold cN;dsimp only;rw[zCk];exact hf.aC,hf.ends,hf.cuts⟩
theorem Ii {f:aR} (h:bB f=true):f.aC.length≤100:=by
 unfold bB at h;simp only[zA0,dEt] at h;exact h.1.1.1.1.2.2
theorem DM (f:aR) (hf:FIn f) (i n:Int):PCall Tryz.prog 75 [.agg (bl f),.int i,.int n] (H4 (ec f i n)):=by
 have h1:=mz f hf;by_cases hA:bB f=false
 · have e:ec f i n=(noF,1):=if_pos hA;rw[e];rw[hA] at h1;refine PCall.bO ab Tryz.func75 rfl rfl Tryz.ntmps75 rfl ?_
   repeat' (first|refine qP ?_ (h:=fun hg=>by first|exact ae|exact pc h1|fail)|apply sqW|refine rgK fun U V=>?_|(refine aN V ?_;clear V U)|refine aB ?_|refine aA ?_|refine blK ?_)
   refine cdW rfl tI (fun hc=>?_) (fun hc=>absurd hc dCd)
   repeat' (first|refine qP ?_ (h:=fun hg=>by first|exact ae|exact pbD ab rfl rfl nds|fail)|apply sqW|refine rgK fun U V=>?_|(refine aN V ?_;clear V U)|refine aS ?_|refine rtW ?_)
   exact⟨.inr rfl,_,rfl,Ent.fL kO (Ent.cB _)⟩
 have nX:bB f=true:=by simpa using hA
 rw[nX] at h1;have hlen:=Ii nX;by_cases hB:(decide (i<0)||decide (i≥(f.aC.length:Int)))=true
 · have e:ec f i n=(noF,4):=by unfold ec;rw[if_neg hA,if_pos hB]
   rw[e];refine PCall.bO ab Tryz.func75 rfl rfl Tryz.ntmps75 rfl ?_
   repeat' (first|refine qP ?_ (h:=fun hg=>by first|exact ae|exact pc h1|fail)|apply sqW|refine rgK fun U V=>?_|(refine aN V ?_;clear V U)|refine aB ?_|refine aA ?_|refine blK ?_)
   refine cdW rfl tI (fun hc=>absurd hc dCd) (fun hc=>?_)
   repeat' (first|refine qT ?_|apply sqW|refine rgK fun U V=>?_|(refine aN V ?_;clear V U))
   refine cdW rfl tI (fun hc=>?_) (fun hc=>absurd (hB.symm.trans hc) dCd)
   repeat' (first|refine qP ?_ (h:=fun hg=>by first|exact ae|exact pbD ab rfl rfl nds|fail)|apply sqW|refine rgK fun U V=>?_|(refine aN V ?_;clear V U)|refine aS ?_|refine rtW ?_)
   exact⟨.inr rfl,_,rfl,Ent.fL kO (Ent.cB _)⟩
 have hB2:(decide (i<0)||decide (i≥(f.aC.length:Int)))=false:=by simpa using hB
 have hi:0≤i∧i<(f.aC.length:Int):=by simp at hB2;omega
 by_cases hC:(decide (n<1)||decide (n>9))=true
 · have e:ec f i n=(noF,1):=by unfold ec;rw[if_neg hA,if_neg hB,if_pos hC]
   rw[e];refine PCall.bO ab Tryz.func75 rfl rfl Tryz.ntmps75 rfl ?_
   repeat' (first|refine qP ?_ (h:=fun hg=>by first|exact ae|exact pc h1|fail)|apply sqW|refine rgK fun U V=>?_|(refine aN V ?_;clear V U)|refine aB ?_|refine aA ?_|refine blK ?_)
   refine cdW rfl tI (fun hc=>absurd hc dCd) (fun hc=>?_)
   repeat' (first|refine qT ?_|apply sqW|refine rgK fun U V=>?_|(refine aN V ?_;clear V U))
   refine cdW rfl tI (fun hc=>absurd (hB2.symm.trans hc) dCd) (fun hc=>?_)
   repeat' (first|refine qS ?_|apply sqW|refine rgK fun U V=>?_|(refine aN V ?_;clear V U))
   refine cdW rfl tI (fun hc=>?_) (fun hc=>absurd (hC.symm.trans hc) dCd)
   repeat' (first|refine qP ?_ (h:=fun hg=>by first|exact ae|exact pbD ab rfl rfl nds|fail)|apply sqW|refine rgK fun U V=>?_|(refine aN V ?_;clear V U)|refine aS ?_|refine rtW ?_)
   exact⟨.inr rfl,_,rfl,Ent.fL kO (Ent.cB _)⟩
 have hC2:(decide (n<1)||decide (n>9))=false:=by simpa using hC
 have hn:1≤n∧n≤9:=by simp at hC2;omega
 have cC:0<f.aC.length:=oM;have hne:f.aC≠[]:=zDr.1 cC;have hsl:(cN f i n).aC.length=f.aC.length:=by unfold cN;dsimp only;rw[zCk]
 have hes:=zY (f:=f) (i:=i) (n:=n) oM;have h4:=TCall.val (first:=[]) (aM:=[]) (avs:=[.agg (bl f)]) (Ie f hf oM hne (o0:=.own 1 0) (o1:=.var (bl f)) (o2:=.var zF) (fun o ho=>by
  simp only[zAw,zCm,or_false] at ho;rcases ho with rfl|rfl|rfl
  · exact fun m=>rfl
  · exact okF f
  · exact fun m=>rfl))
 have h5:=rF (cN f i n) (K2 hf i n) (Ih nX hn);have hll:(f.aC.map bk).length=f.aC.length:=sMp;have dY:jk 5 3 0 ((cN f i n).aC.map bk) (.sla 5 3 0 f.aC.length 0)=.sl 3 ((cN f i n).aC.map bk) .no:=by
  unfold jk;dsimp only;rw[if_pos ⟨rfl,rfl,rfl,by rw[lLm,hsl],rfl⟩]
 refine PCall.bO ab Tryz.func75 rfl rfl Tryz.ntmps75 rfl ?_;refine AWP.oS 1 ?_;show AWP _ _ _ _ _ [.own 1 0]
 repeat' (first|refine qP ?_ (h:=fun hg=>by first|exact ae|exact pc h1|fail)|apply sqW|refine rgK fun U V=>?_|(refine aN V ?_;clear V U)|refine aB ?_|refine aA ?_|refine blK ?_)
 refine cdW rfl tI (fun hc=>absurd hc dCd) (fun hc=>?_)
 repeat' (first|refine qT ?_|apply sqW|refine rgK fun U V=>?_|(refine aN V ?_;clear V U))
 refine cdW rfl tI (fun hc=>absurd (hB2.symm.trans hc) dCd) (fun hc=>?_)
 repeat' (first|refine qS ?_|apply sqW|refine rgK fun U V=>?_|(refine aN V ?_;clear V U))
 refine cdW rfl tI (fun hc=>absurd (hC2.symm.trans hc) dCd) (fun hc=>?_)
 repeat' (first|refine qS ?_|apply sqW|refine rgK fun U V=>?_|refine aoE (scT (h4) rfl rfl rfl rfl rfl nd rfl rfl nds ?_)|refine skW ?_)
 rintro r s ⟨rfl,rfl⟩
 repeat' (first|refine aS ?_|(refine aN V ?_;clear V U))
 refine AWP.dX [(1,.int i),(2,.int n),(3,.ptr 1 0),(6,.ptr 2 0),(7,.int 0)] ⟨rfl,rfl,rfl,rfl,rfl,tI⟩ ?_
 repeat refine sqW ?_
 refine rgK fun U V=>?_
 repeat' (first|refine qP ?_ (h:=fun hg=>by first|exact ae|exact PRun.se ab rfl rfl nd rfl nd rfl dCd rfl hi|exact PRun.qX ab rfl rfl nd rfl rfl|fail)|refine aoE (EStep.Kc (l:=5) ab rfl rfl rfl tI rfl (by rw[hll];omega) rfl tI rfl rfl rfl rfl dCd rfl ?_))
 refine aoN (V _ _ ?_);clear V U;show AWP _ _ _ _ _ [.own 1 0,.var (gY f (.sla 5 3 0 f.aC.length 0)),.var zF,.var (gY f (.sla 5 3 0 f.aC.length 0)),.var (gY f (.sla 5 3 0 f.aC.length 0)),.arr 3 0 ((f.aC.map bk).set i.toNat (((f.aC.map bk).getD i.toNat []).set 2 (.int n)))];rw[hes];by_cases hD:(br (cN f i n)).length≤20000
 · have e:ec f i n=(cN f i n,0):=by unfold ec;rw[if_neg hA,if_neg hB,if_neg hC,if_pos hD]
   rw[e];rw[decide_eq_true hD] at h5
   repeat' (first|refine qP ?_ (h:=fun hg=>by first|exact PRun.x4 h5 rfl rfl nd ⟨bX.agg ⟨bX.pr _,JB rfl hsl.symm cC,bX.sl _ _ _,bX.pr _,bX.pr _,bX.pr _,bX.sl _ _ _,tI⟩,tI⟩ rfl nds|exact ae|exact pbD ab rfl rfl nds|fail)|apply sqW|refine rgK fun U V=>?_|(refine aN V ?_;clear V U))
   refine cdW rfl tI (fun hc=>absurd hc dCd) (fun hc=>?_)
   repeat' (first|refine qS ?_|apply sqW|refine rgK fun U V=>?_|(refine aN V ?_;clear V U)|refine aS ?_|refine skW ?_)
   refine AWP.pH (l:=5) (sz:=3) (ver:=0) (es:=(cN f i n).aC.map bk) rfl (mo fun e he=>by obtain⟨c,_,rfl⟩:=zAf.1 he;rfl) ?_;refine AWP.dX [(6,.ptr 2 0),(7,.int 0)] ⟨rfl,rfl,tI⟩ ?_;show AWP _ _ _ _ _ [_,_,.var (gY f (jk 5 3 0 ((cN f i n).aC.map bk) (.sla 5 3 0 f.aC.length 0))),_,_,_];rw[dY];exact rtW ⟨.inr rfl,_,rfl,Ent.of rfl⟩
 · have e:ec f i n=(noF,2):=by unfold ec;rw[if_neg hA,if_neg hB,if_neg hC,if_neg hD]
   rw[e];rw[decide_eq_false hD] at h5
   repeat' (first|refine qP ?_ (h:=fun hg=>by first|exact PRun.x4 h5 rfl rfl nd ⟨bX.agg ⟨bX.pr _,JB rfl hsl.symm cC,bX.sl _ _ _,bX.pr _,bX.pr _,bX.pr _,bX.sl _ _ _,tI⟩,tI⟩ rfl nds|exact ae|exact pbD ab rfl rfl nds|fail)|apply sqW|refine rgK fun U V=>?_|(refine aN V ?_;clear V U))
   refine cdW rfl tI (fun hc=>?_) (fun hc=>absurd hc dCd)
   repeat' (first|refine qP ?_ (h:=fun hg=>by first|exact ae|exact pbD ab rfl rfl nds|fail)|apply sqW|refine rgK fun U V=>?_|(refine aN V ?_;clear V U)|refine aS ?_|refine rtW ?_)
   exact⟨.inr rfl,_,rfl,Ent.fL kO (Ent.cB _)⟩
def eI (n:Int):List AV:=[.int n]
theorem oY (l:List Int):∀x∈l.map eI,x.all fb=true:=fun x hx=>by
 obtain⟨c,_,rfl⟩:=zAf.1 hx;rfl
theorem pX (n:Int):PCall Tryz.prog 172 [.int n] (.b false):=by
 refine PCall.body Tryz.func172 rfl rfl Tryz.ntmps172 rfl rfl ?_
 repeat' (first|refine qS ?_|apply sqW|refine rgK fun U V=>?_|(refine aN V ?_;clear V U)|refine rtW ?_)
 exact⟨.inr rfl,Ent.b sMp⟩
theorem s6 (n:Int):PCall Tryz.prog 155 [.int n] (.b false):=by
 refine PCall.body Tryz.func155 rfl rfl Tryz.ntmps155 rfl rfl ?_
 repeat' (first|refine qS ?_|apply sqW|refine rgK fun U V=>?_|(refine aN V ?_;clear V U)|refine rtW ?_)
 exact⟨.inr rfl,Ent.b sMp⟩
theorem DN (a b:Int):PCall Tryz.prog 162 [.int a,.int b] (.b (decide (a<b))):=by
 have n1:=s6 a;have n2:=s6 b;refine PCall.body Tryz.func162 rfl rfl Tryz.ntmps162 rfl rfl ?_
 repeat' (first|refine qP ?_ (h:=fun hg=>by first|exact ae|exact pc n1|exact pc n2|fail)|apply sqW|refine rgK fun U V=>?_|(refine aN V ?_;clear V U)|refine rtW ?_)
 exact⟨.inr rfl,Ent.b sMp⟩
def dQ (x:Int) (l:List Int):Nat:=(l.filter fun y=>decide (y<x)).length
theorem Ij {l:List Int} {x:Int} {k:Nat} (hk:k≤l.length) (h1:∀j,j<k→l.getD j default<x) (h2:∀j,k≤j→j<l.length→x≤l.getD j default):dQ x l=k:=by
 unfold dQ;have e:l.filter (fun y=>decide (y<x))=l.take k:=by
  conv=>lhs;rw[←zD4 k l,zCj]
  rw[List.filter_eq_self.2,List.filter_eq_nil_iff.2,zCc]
  · intro y hy;obtain⟨j,hj,rfl⟩:=zB9.1 hy;rw[zAx] at hj;have:=h2 (k+j) oM oM;rw[aU oM] at this;simp only[List.getElem_drop,dEt];omega
  · intro y hy;obtain⟨j,hj,rfl⟩:=zB9.1 hy;rw[zAg] at hj;have:=h1 j oM;rw[aU oM] at this;simpa using this
 rw[e,zAg];omega
theorem xm {l:List Int} (h:l.Pairwise (·<·)) {i j:Nat} (hij:i≤j) (hj:j<l.length):l.getD i default≤l.getD j default:=by
 rcases Nat.eq_or_lt_of_le hij with rfl|hlt
 · exact Int.le_refl _
 · have:=zDo.1 h i j oM hj hlt;rw[aU oM,aU hj];omega
theorem zZ (l:List Int) (hs:l.Pairwise (·<·)) (hl:l.length≤1000000) (x:Int):PCall Tryz.prog 130 [.sl 1 (l.map eI) .no,.int x] (.tup [.int (dQ x l),.b (decide (x∈l))]):=by
 have hn:=pX;refine PCall.body Tryz.func130 rfl rfl Tryz.ntmps130 rfl rfl ?_
 repeat' (first|refine qT ?_|apply sqW|refine rgK fun U V=>?_|(refine aN V ?_;clear V U)|refine blK ?_)
 refine lpD (ι:=Nat×Nat) (fun p=>[(0,.sl 1 (l.map eI) .no),(1,.int x),(6,.int l.length),(7,.int p.1),(8,.int p.2)]) (fun _=>[]) (fun p=>p.1≤p.2∧p.2≤l.length∧(∀j,j<p.1→l.getD j default<x)∧∀j,p.2≤j→j<l.length→x≤l.getD j default) (fun p=>p.2 - p.1) 0 (fun _=>rfl) (0,l.length) ⟨nZl _,nLr _,fun j h=>absurd h oM,fun j h1 h2=>absurd h1 oM⟩ ⟨rfl,rfl,rfl,rfl,rfl,tI⟩ rfl (fun _ _=>rfl) (fun _ _=>rfl) ?_;rintro⟨i,j⟩ ⟨hij,hjl,h1,h2⟩;dsimp only at hij hjl h1 h2 ⊢;by_cases hlt:i<j
 · have c1:IntKind.u64.wrap ((i:Int)+(j:Int))=((i+j:Nat):Int):=by rw[IntKind.wrap_u64];omega
   have c2:((i+j:Nat):Int).fdiv (2 ^ (Min.min (1:Int).toNat IntKind.u64.bits))=(((i+j) / 2:Nat):Int):=by
    show((i+j:Nat):Int).fdiv 2=_;rw[Int.fdiv_eq_ediv_of_nonneg _ oM];omega
   have c3:IntKind.i64.wrap (((i+j) / 2:Nat):Int)=(((i+j) / 2:Nat):Int):=by rw[IntKind.wrap_i64];omega
   obtain⟨h,hh⟩:∃h,(i+j) / 2=h:=⟨_,rfl⟩
   rw[hh] at c2 c3;have hhl:h<l.length:=oM;obtain⟨y,hy⟩:∃y,l.getD h default=y:=⟨_,rfl⟩
   have cl:=DN y x;have hshr:∀{o:Oper} {env:Env} {σ:aa} {t t':TypeId} {a b:Operand},o.op=.binOp .shr t a b t'→rdv env a=some (.prim (.int .u64 ((i+j:Nat):Int)))→rdn env a→rdv env b=some (.prim (.int .u64 1))→rdn env b→PRun Tryz.prog o env σ (.prim (.int .u64 (h:Int))):=@fun o env σ t t' a b a1 a2 a3 a4 a5=>by
    have:=PRun.shrW (P:=Tryz.prog) (σ:=σ) a1 a2 a3 a4 a5 oM;rw[c2] at this;exact this
   repeat' (first|refine qP ?_ (h:=fun hg=>by first|exact iX eI l ((h:Nat):Int) hy (hb:=oM)|exact PRun.Jj ab c3 rfl rfl nd rfl rfl|exact hshr rfl rfl nd rfl nd|exact PRun.Jj ab c1 rfl rfl nd rfl rfl|exact ae|exact pc cl|exact ah)|apply sqW|refine rgK fun U V=>?_|(refine aN V ?_;clear V U)|refine cX ?_ ?_<;>intro hc<;>try simp only[dE] at hc|refine blK ?_|refine exW ?_|refine skW ?_)
   all_goals (first|(exfalso;omega)|skip)
   · refine⟨(h+1,j),⟨oM,hjl,fun q hq=>?_,h2⟩,by show j - (h+1)<j - i;omega,⟨rfl,rfl,rfl,rfl,rfl,tI⟩,rfl⟩;have:=xm hs (show q≤h by omega) hhl;omega
   · refine⟨(i,h),⟨oM,oM,h1,fun q hq hql=>?_⟩,by show h - i<j - i;omega,⟨rfl,rfl,rfl,rfl,rfl,tI⟩,rfl⟩;dsimp only at hq hql;have:=xm hs hq hql;omega
 · obtain rfl:i=j:=oM;have hb:=Ij hjl h1 h2;by_cases hi:i<l.length
   · obtain⟨y,hy⟩:∃y,l.getD i default=y:=⟨_,rfl⟩
     have hm:decide (x∈l)=decide (y=x):=by
      rw[decide_eq_decide];constructor
      · intro hx;obtain⟨q,hq,rfl⟩:=zB9.1 hx;rcases Nat.lt_trichotomy q i with hlt|rfl|hlt
        · have:=h1 q hlt;rw[aU hq] at this;omega
        · rw[←hy,aU hq]
        · have h3:=h2 i (nLr _) hi;have h4:=zDo.1 hs i q hi hq hlt;rw[aU hi] at h3;omega
      · rintro rfl;rw[←hy,aU hi];exact lGm _
     rw[hb,hm]
     repeat' (first|refine qP ?_ (h:=fun hg=>by first|exact iX eI l ((i:Nat):Int) hy (hb:=oM)|exact ae|exact pc (hn _)|fail)|apply sqW|refine rgK fun U V=>?_|(refine aN V ?_;clear V U)|refine cX ?_ ?_<;>intro hc<;>try simp only[dE] at hc|refine blK ?_|refine exW ?_|refine skW ?_|refine rtW ?_)
     all_goals (first|(exfalso;omega)|skip)
     refine⟨.inr rfl,Ent.fL (Ent.cB _) (Ent.b ?_)⟩;simp[hi];exact zB3.2 sMp
   · have hm:decide (x∈l)=false:=by
      rw[dEf];intro hx;obtain⟨q,hq,rfl⟩:=zB9.1 hx;have:=h1 q oM;rw[aU hq] at this;omega
     have hno:¬((i:Int)<(l.length:Int)):=oM;rw[hb,hm]
     repeat' (first|refine qP ?_ (h:=fun hg=>by first|exact ae|exact pc (hn _)|exact(absurd (of_decide_eq_true (eq_of_beq (show(decide ((i:Int)<(l.length:Int))==true)=true from hg))) hno:PRun _ _ _ _ (.iptr [.int 0]))|exact(absurd (of_decide_eq_true (eq_of_beq (Bool.and_eq_true_iff.1 (show((decide ((i:Int)<(l.length:Int))==true)&&(((0:Int)==x)==false))=true from hg)).1)) hno:PRun _ _ _ _ (.iptr [.int 0]))|fail)|apply sqW|refine rgK fun U V=>?_|(refine aN V ?_;clear V U)|refine cX ?_ ?_<;>intro hc<;>try simp only[dE] at hc|refine blK ?_|refine exW ?_|refine skW ?_|refine rtW ?_)
     all_goals (first|(exfalso;omega)|skip)
     refine⟨.inr rfl,Ent.fL (Ent.cB _) (Ent.b ?_)⟩;simp[hi]
theorem Aa (l:List Int):OkA (.arr 1 0 (l.map eI)):=fun m=>by simp[ak,eI,aG]
theorem Ik {l:List Int} (hl:l.length≤1000000) (hne:l≠[]) {o0 o1 o2 o3 o4:aF} (ho:∀o∈[o0,o1,o2,o3,o4],OkA o):TCall Tryz.prog 132 [.sl 1 (l.map eI) .no] [o0,o1,o2,o3,o4]
 (fun r s=>r=.sla 5 1 0 l.length 0∧s=[o0,o1,o2,o3,o4,.arr 1 0 (l.map eI)]):=by
 have hll:(l.map eI).length=l.length:=sMp;have hok:([o0,o1,o2,o3,o4,.arr 1 0 (l.map eI)]:aa).all (ak 6)=true:=mA (fun o h=>by
  rcases zAy.1 (show o∈[o0,o1,o2,o3,o4]++[.arr 1 0 (l.map eI)] from h) with h|h
  · exact ho o h
  · rw[zA9.1 h];exact Aa l) 6
 refine TCall.body Tryz.func132 rfl rfl Tryz.ntmps132 rfl rfl ?_
 repeat' (first|refine qS ?_|apply sqW|refine rgK fun U V=>?_|(refine aN V ?_;clear V U)|refine aoE (EStep.kC ab rfl rfl rfl rfl rfl tI rfl ?_))
 intro b hb
 repeat' (first|refine qP ?_ (h:=fun hg=>by first|exact PRun.fD ab rfl rfl|exact ae|fail)|apply sqW|refine rgK fun U V=>?_|(refine aN V ?_;clear V U)|refine aoE (EStep.fg ab rfl rfl rfl rfl (Rd.w rfl tI) (Rd.w rfl tI) (.sl rfl (oY _)) (lkG rfl) (lkG rfl) rfl rfl (by simp only[hll];omega) oM ?_)|refine cX ?_ ?_<;>intro hc<;>try simp only[dE] at hc|refine skW ?_|refine rtW ?_)
 · exact absurd (by simpa using hb hc) hne
 · exact⟨.inr rfl,.sla 5 1 0 (l.map eI).length 0,[o0,o1,o2,o3,o4,.arr 1 0 (l.map eI)],⟨by rw[hll],rfl⟩,rfl,by simp,hok,rfl,rfl⟩
end Go.Proofs.YtmjdoencpjpegaaGreatDoor.De
