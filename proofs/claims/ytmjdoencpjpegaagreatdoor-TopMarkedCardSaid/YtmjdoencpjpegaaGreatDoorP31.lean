/- Parts of the proof. No statement is proved here. -/
import Derived.Test.YtmjdoencpjpegaaGreatDoorP24
set_option linter.unusedVariables false
set_option linter.unusedSimpArgs false
set_option maxHeartbeats 16000000
set_option maxRecDepth 20000
namespace Go.Proofs.YtmjdoencpjpegaaGreatDoor.Al
open Go.Ab Go.Sort
theorem wz {l:List ag} (hn:(l.map (·.id)).Nodup) {i:Nat} (hi:i<l.length):aX (fun x:ag=>x.id==(l.getD i default).id) l=i :=
 eP hi sMp fun j hj=>by
  have:(l.getD j default).id≠(l.getD i default).id:=fun e=>by
   have:=G3 (fun b:ag=>b.id) hn (show j<l.length by omega) hi e;omega
  simpa using this
theorem xn {l:List ag} (hn:(l.map (·.id)).Nodup) {n:ag} (h:n∈l):∃i:Nat,i<l.length∧l.getD i default=n∧dO l n.id=i:=by
 obtain⟨i,hi,e⟩:=zB9.1 h;have e2:l.getD i default=n:=by rw[aU hi];exact e
 exact⟨i,hi,e2,by rw[←e2];exact wz hn hi⟩
theorem qh {a:Score} {ps:PL} {p:Int×Int}:p∈wg a ps↔∃n∈a.notes,n.id=p.1∧lk ps p.1=some p.2:=by
 unfold wg;rw[zCh];constructor
 · rintro⟨n,hn,e⟩;cases h:lk ps n.id with
   |none=>rw[h] at e;cases e
   | some v =>
     rw[h] at e;cases e;exact⟨n,hn,rfl,h⟩
 · rintro⟨n,hn,e,h⟩;refine⟨n,hn,?_⟩;rw[e,h];rfl
theorem oZ {l:PL} {f:Int×Int→Int} (h:l.Pairwise fun p q=>f p≠f q):(l.map f).Nodup:=by
 rw[List.Nodup,List.pairwise_map];exact h
structure OutF (a b:Score) (l:List (Nat×Nat)) (o:PL):Prop where
 fst:(o.map (·.1)).Nodup
 snd:(o.map (·.2)).Nodup
 ord:o.Pairwise fun p q=>dO a.notes p.1<dO a.notes q.1
 of:∀p∈o,∃i k:Nat,i<a.notes.length∧k<b.notes.length∧dO a.notes p.1=i∧dO b.notes p.2=k∧(a.notes.getD i default).part=(b.notes.getD k default).part∧∃q∈l,(a.notes.getD i default).bar=(bJ a q.1).id∧(b.notes.getD k default).bar=(bJ b q.2).id
 one:∀x∈a.notes,∀y∈b.notes,y.id=x.id→y.part=x.part→(∃q∈l,x.bar=(bJ a q.1).id∧y.bar=(bJ b q.2).id)→(x.id,x.id)∈o
theorem FZ {a b:Score} (ha:Sc a) (hb:Sc b) {l:List (Nat×Nat)} (hp:x0 a b l):OutF a b l (hZ a b l):=by
 have hm:=AX ha hb hp;unfold hZ;generalize hU a b l []=ps at hm;have Il:(wg a ps).Pairwise fun p q=>dO a.notes p.1<dO a.notes q.1:=by
  unfold wg;rw[List.pairwise_filterMap];have h0:a.notes.Pairwise fun x y=>dO a.notes x.id<dO a.notes y.id:=by
   rw[zDo];intro i j hi hj hij;have e1:=wz ha.notes hi;have e2:=wz ha.notes hj;rw[aU hi] at e1;rw[aU hj] at e2;show aX _ _<aX _ _;rw[e1,e2];omega
  refine h0.imp fun {x y} h p hp q hq=>?_
  cases hx:lk ps x.id with
  |none=>rw[hx] at hp;cases hp
  | some u =>
    cases hy:lk ps y.id with
    |none=>rw[hy] at hq;cases hq
    | some v =>
      rw[hx] at hp;rw[hy] at hq;cases hp;cases hq;exact h
 have hfst:((wg a ps).map (·.1)).Nodup:=oZ (f:=(·.1)) (Il.imp fun {p q} h e=>by
  have e:p.1=q.1:=e;rw[e] at h;omega)
 refine⟨hfst,oZ (f:=(·.2)) ?_,Il,fun p hp=>?_,fun x hx y hy e1 e2 h=>?_⟩
 · refine Il.imp_of_mem fun {p q} hp hq h e=>?_
   obtain⟨_,_,_,h1⟩:=qh.1 hp;obtain⟨_,_,_,h2⟩:=qh.1 hq;have e3:=fF (f:=(·.2)) hm.snd (rp h1) (rp h2) e;have e4:p.1=q.1:=congrArg (·.1) e3;rw[e4] at h;omega
 · obtain⟨n,hn,h1,h2⟩:=qh.1 hp;obtain⟨x,hx,y,hy,e,e2,q,hq,e3,e4⟩:=hm.of _ (rp h2);have e5:p.1=x.id:=congrArg (·.1) e;have e6:p.2=y.id:=congrArg (·.2) e;obtain⟨i,i1,i2,i3⟩:=xn ha.notes hx;obtain⟨k,k1,k2,k3⟩:=xn hb.notes hy;exact⟨i,k,i1,k1,by rw[e5];exact i3,by rw[e6];exact k3,by rw[i2,k2];exact e2,q,hq,by rw[i2];exact e3,by rw[k2];exact e4⟩
 · obtain⟨q,hq,g1,g2⟩:=h;have:=hm.one q hq x (iT.2 ⟨hx,g1⟩) y (iT.2 ⟨hy,g2⟩) (by simp[f1,e1,e2]);exact qh.2 ⟨x,hx,rfl,E7 hm.fst this⟩
theorem F0 {c:Nat→Nat→Int} {i k:Nat} (h:T c (i+1) (k+1)=T c i k+c i k):back c (i+1) (k+1)=(i,k)::back c i k:=by rw[back,if_pos h]
theorem Cb {c:Nat→Nat→Int} {i k:Nat} (h:k=0∨∃j,k=j+1∧T c (i+1) k≠T c i j+c i j) (h2:T c (i+1) k=T c i k+2):back c (i+1) k=back c i k:=by
 rcases h with rfl|⟨j,rfl,h⟩
 · rw[back]
 · rw[back,if_neg h,if_pos h2]
theorem xo {c:Nat→Nat→Int} {i k:Nat} (h:i=0∨∃j,i=j+1∧T c i (k+1)≠T c j k+c j k∧T c i (k+1)≠T c j (k+1)+2):back c i (k+1)=back c i k:=by
 rcases h with rfl|⟨j,rfl,h1,h2⟩
 · rw[back]
 · rw[back,if_neg h1,if_neg h2]
theorem Ac {c:Nat→Nat→Int}:back c 0 0=[]:=by rw[back]
end Go.Proofs.YtmjdoencpjpegaaGreatDoor.Al
