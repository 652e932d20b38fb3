/- Parts of the proof. No statement is proved here. -/
import Derived.Test.YtmjdoencpjpegaaGreatDoorP41
import Derived.Test.YtmjdoencpjpegaaGreatDoorP42
set_option linter.unusedVariables false
set_option linter.unusedSimpArgs false
set_option maxHeartbeats 16000000
set_option maxRecDepth 20000
namespace Go.Proofs.YtmjdoencpjpegaaGreatDoor.Top
open Go.Ab Go.Jo Go.Sy Go.Sort Go.Pl Al Mk Cy De Pl
attribute [local irreducible] AWP AOps EStep AQ PStep PRun PCall TCall VCall
theorem Mr {ws:List ba} {ds:List Dec} (hf:mc (aH ws) 0=true) (hw:nu ws ds=true):ws.length≤4∧ds.length≤30∧(∀w∈ws,dt w.score=true)∧∀w∈ws,WIn w:=by
 obtain⟨h1,h2,_⟩:=Iw hf;rw[lLm] at h2;have h3:∀w∈ws,dt w.score=true:=fun w hm=>h1 _ (zAf.2 ⟨w,hm,rfl⟩)
 unfold nu at hw;simp only[zA0,dEt,zA6,zB1,zAl] at hw;obtain⟨h4,h5,h6⟩:=hw;refine⟨h2,oM,h3,fun w hm=>⟨?_,gA (h3 w hm)⟩⟩;have h7:=(h4 w (by rw[zAn oM];exact hm)).1;unfold rQ at h7;simp only[zB0,zA0,dEt] at h7;exact⟨oM,oM,oM⟩
abbrev gS (L ms:List Jo.Mark) (j:Nat):Int:=((ms.take j).map fun m=>bw L m.id).sum
theorem xy {L ms:List Jo.Mark} {j:Nat} {m:Jo.Mark} (hj:j<ms.length) (h:ms.getD j default=m):gS L ms (j+1)=gS L ms j+(bw L m.id:Nat):=by
 unfold gS;rw[Ar hj,h,zAz,List.sum_append];simp
theorem Co {L ms:List Jo.Mark} (j:Nat):0≤gS L ms j∧gS L ms j≤L.length * j:=by
 unfold gS;refine⟨oM,?_⟩;have:∀l:List Jo.Mark,(l.map fun m=>bw L m.id).sum≤L.length * l.length:=fun l=>by
  induction l with
  |nil=>simp
  | cons a l ih =>
    rw[zBd,List.sum_cons,zAc,Nat.mul_succ];have:=vL L a.id;omega
 have h2:=this (ms.take j);have h3:L.length * (ms.take j).length≤L.length * j:=Nat.mul_le_mul_left _ (by rw[zAg];omega)
 exact_mod_cast zBu h2 h3
theorem Ef (ws:List ba) (hl:ws.length≤1000000000000) (hz:∀w∈ws,o6 w) (ds:List Dec) (hd:ds.length≤9223372036854775807) (s:Std) (ht:Txt s.evs) (hle:s.evs.length≤9223372036854775807) (time:Int) :
 PCall Tryz.prog 3 [.sl 12 (ws.map bb) .no,.sl 6 (ds.map bu) .no,.agg (fH s),.int time] (.b true):=by
 have c0:=xR;have c1:=xO ws hl hz ds hd;have c2:=DT s hle;by_cases zL:(!(mc (aH ws) 0&&nu ws ds)||!decide ((s.evs.length:Int)≤30))=true
 · refine PCall.bO ab Tryz.func3 rfl rfl Tryz.ntmps3 rfl ?_
   repeat' (first|refine qP ?_ (h:=fun hg=>by first|exact ae|exact pc c0|exact pc c1|exact pc c2|fail)|apply sqW|refine rgK fun U V=>?_|(refine aN V ?_;clear V U)|refine aB ?_|refine cX ?_ ?_<;>intro hc<;>try simp only[dE] at hc|refine skW ?_|refine rtW ?_)
   · exact⟨.inr rfl,_,rfl,Ent.b rfl⟩
   all_goals exact absurd zL (by rw[show(!(mc (aH ws) 0&&nu ws ds)||!decide ((s.evs.length:Int)≤30))=false from hc];decide)
 have JN:(!(mc (aH ws) 0&&nu ws ds)||!decide ((s.evs.length:Int)≤30))=false:=by simpa using zL
 have hf3:=JN;rw[zAl,zB0,zB0,zA0,dEt] at hf3;obtain⟨⟨hA,hB⟩,hE⟩:=hf3;obtain⟨g1,g2,g3,g4⟩:=Mr hA hB;rw[hA,hB] at c1;rw[decide_eq_true hE] at c2;clear zL JN;by_cases h0:dS ws ds s time≠0
 · have c3:=IV ws ds s time oM g4 oM ht oM h0;generalize dS ws ds s time=e at *;refine PCall.bO ab Tryz.func3 rfl rfl Tryz.ntmps3 rfl ?_
   repeat' (first|refine qP ?_ (h:=fun hg=>by first|exact ae|exact pc c0|exact pc c1|exact pc c2|exact pc c3|exact ah)|apply sqW|refine rgK fun U V=>?_|(refine aN V ?_;clear V U)|refine aB ?_|refine cX ?_ ?_<;>intro hc<;>try simp only[dE] at hc|refine skW ?_|refine rtW ?_)
   all_goals first|exact⟨.inr rfl,_,rfl,Ent.b rfl⟩|(exfalso;simp at hc;omega)
 have h1:dS ws ds s time=0:=oM;obtain⟨k,sc,G,hat⟩:=ua h1 g3;have c3:=rZ ws ds s time oM g4 oM ht oM h1 G;by_cases hb:(decide (cV s sc<0)||decide ((bN s sc).jg<s.who.cY))=true
 · have e9:ib s (aH ws) sc=(([],[]),22):=by unfold ib;rw[if_pos hb]
   rw[e9] at c3;refine PCall.bO ab Tryz.func3 rfl rfl Tryz.ntmps3 rfl ?_
   repeat' (first|refine qP ?_ (h:=fun hg=>by first|exact ae|exact pc c0|exact pc c1|exact pc c2|exact pc c3|exact ah)|apply sqW|refine rgK fun U V=>?_|(refine aN V ?_;clear V U)|refine aB ?_|refine cX ?_ ?_<;>intro hc<;>try simp only[dE] at hc|refine skW ?_|refine rtW ?_)
   all_goals first|exact⟨.inr rfl,_,rfl,Ent.b rfl⟩|(exfalso;simp at hc;done)
 have F:=G.fr hb;have e9:ib s (aH ws) sc=((bM (aH ws) sc s.who (bN s sc) (bE s.evs),eX (aH ws) sc s.who (bN s sc) (bE s.evs)),0):=by unfold ib;rw[if_neg hb]
 rw[e9] at c3;have c4:=oG ws ds oM g4 oM s.known time;rw[hat] at c4;have c5:=vk s.evs ht oM;rw[show jF s.evs=(bE s.evs,0) by unfold jF;rw[if_pos G.ev]] at c5;have Aq:sc∈aH ws:=by rw[←G.at_];exact bT G.kl
 have hsf:=gA (G.few sc Aq);have hsn:sc.notes.length≤60:=by
  have:=G.few sc Aq;unfold dt at this;simp only[zA0,dEt] at this;omega
 have c6:=As ws oM F hsf oM;rw[←G.rv] at c6;have hml:(bE s.evs).length≤30:=zBu (qc G.ev) oM;have hsum:=IU F;have NC:∀z∈bM (aH ws) sc s.who (bN s sc) (bE s.evs),z.text.length≤9223372036854775807:=fun z hz=>lE (Mk.ch (oe F) (jX F hz).1)
 have hpn:(aL sc.notes (bN s sc)).length≤60:=by
  have:=zBm (fun n:ag=>n.part==iE (bN s sc)) sc.notes;unfold aL;rw[lLm];omega
 have hshl:(bM (aH ws) sc s.who (bN s sc) (bE s.evs)).length≤30:=by
  have h9:=(xw F);have h8:(bM (aH ws) sc s.who (bN s sc) (bE s.evs)).map (·.id) ⊆ (bE s.evs).map (·.id):=fun x hx=>by
   obtain⟨z,hz,rfl⟩:=zAf.1 hx;obtain⟨a,ha,_,h7⟩:=od F (jX F hz).1;exact zAf.2 ⟨a,ha,h7.symm⟩
  have:=List.Nodup.length_le_of_subset h9 h8;rw[lLm,lLm] at this;omega
 have hhl:(eX (aH ws) sc s.who (bN s sc) (bE s.evs)).length≤30:=by
  refine zBu (zBm _ _) (zBu (zBm _ _) hml)
 have JO:∀i,(lk (kW (aL sc.notes (bN s sc))) i).getD false=true↔∃n∈aL sc.notes (bN s sc),n.id=i:=fun i=>by
  rw[oP,dEt,lMm]
 have JP:∀m∈bE s.evs,PCall Tryz.prog 11 [.agg (kV (aH ws) sc (bN s sc) (aL sc.notes (bN s sc)) (qt (aL sc.notes (bN s sc)))),.agg (cQ s.who),.agg (aJ m),.sl 10 ((bM (aH ws) sc s.who (bN s sc) (bE s.evs)).map aJ) .no,.sl 10 ((eX (aH ws) sc s.who (bN s sc) (bE s.evs)).map aJ) .no] (.b true):=fun m hm=>by
  have hs:=IQ F hm (sI:=fun i=>(lk (kW (aL sc.notes (bN s sc))) i).getD false) JO;have hmt:=lE (Mk.ch F.marks hm);unfold D8 at hs;cases hc:gB (aH ws) sc m with
  | none =>
    rw[hc] at hs;have:=Bu F G.len G.few hm hmt (aL sc.notes (bN s sc)) (bM (aH ws) sc s.who (bN s sc) (bE s.evs)) (eX (aH ws) sc s.who (bN s sc) (bE s.evs)) oM oM hc;dsimp only at hs;rw[hs] at this;exact this
  | some y =>
    rw[hc] at hs;dsimp only at hs;rw[zA0] at hs;have hyt:y.text.length≤9223372036854775807:=lE (jW F hc (Mk.ch F.marks hm)).2;have gQ:∀z∈bM (aH ws) sc s.who (bN s sc) (bE s.evs),z.id=m.id→z=y:=fun z hz e=>by
     have h9:=hs.1;rw[zB1,zE3] at h9;have:=h9 z hz;simpa[e] using this
    have:=Bv F G.len G.few hm hmt (aL sc.notes (bN s sc)) (bM (aH ws) sc s.who (bN s sc) (bE s.evs)) (eX (aH ws) sc s.who (bN s sc) (bE s.evs)) oM oM hc NC hyt gQ;rw[hs.2] at this;exact this
 have k1:=fun id=>gN (bM (aH ws) sc s.who (bN s sc) (bE s.evs)) oM id
 have k2:=fun id=>gN (eX (aH ws) sc s.who (bN s sc) (bE s.evs)) oM id
 clear F JO hpn e9 G hb hat;generalize bM (aH ws) sc s.who (bN s sc) (bE s.evs)=SF at *;generalize eX (aH ws) sc s.who (bN s sc) (bE s.evs)=HF at *;generalize bE s.evs=ms at *;generalize hX:kV (aH ws) sc (bN s sc) (aL sc.notes (bN s sc)) (qt (aL sc.notes (bN s sc)))=X at *;generalize (atR ws ds s.known time).1=r at *;refine PCall.bO ab Tryz.func3 rfl rfl Tryz.ntmps3 rfl ?_;subst hX
 repeat' (first|refine qP ?_ (h:=fun hg=>by first|exact ae|exact pc c0|exact pc c1|exact pc c2|exact pc c3|exact pc c4|exact pc c5|exact pc c6|exact ah)|apply sqW|refine rgK fun U V=>?_|(refine aN V ?_;clear V U)|refine aB ?_|refine aS ?_|refine aA ?_|refine cX ?_ ?_<;>intro hc<;>try simp only[dE] at hc|refine blK ?_|refine skW ?_|refine rtW ?_)
 all_goals (first|(exfalso;simp at hc;done)|skip)
 generalize hX:kV (aH ws) sc (bN s sc) (aL sc.notes (bN s sc)) (qt (aL sc.notes (bN s sc)))=X at *
 refine lpD (ι:=Nat) (fun j=>[(6,.ptr 0 0),(9,.b true),(10,.sl 10 (SF.map aJ) .no),(11,.sl 10 (HF.map aJ) .no),(17,.ptr 2 0),(19,.int (gS SF ms j)),(20,.int (gS HF ms j)),(90,.sl 10 (ms.map aJ) .no),(91,.int ms.length),(92,.int j)]) (fun _=>[.var (fH s),.var (yc r),.var X])
  (fun j=>j≤ms.length) (fun j=>ms.length - j) 3 (fun _=>rfl) 0 (nZl _) ⟨rfl,rfl,rfl,rfl,rfl,rfl,rfl,rfl,rfl,rfl,tI⟩ (by rw[←hX];rfl) (fun _ _=>rfl) (fun _ _=>by rw[←hX];rfl) ?_
 intro j hj;clear c0 c1 c2 c3 c4 c5 c6;have s1:=Co (L:=SF) (ms:=ms) j;have s2:=Co (L:=HF) (ms:=ms) j;have b1:(SF.length:Int) * j≤30 * 30:=by
  have:SF.length * j≤30 * 30:=Nat.mul_le_mul hshl oM
  exact_mod_cast this
 have b2:(HF.length:Int) * j≤30 * 30:=by
  have:HF.length * j≤30 * 30:=Nat.mul_le_mul hhl oM
  exact_mod_cast this
 by_cases hlt:j<ms.length
 · obtain⟨m,hm⟩:∃m,ms.getD j default=m:=⟨_,rfl⟩
   have q:=JP m (by rw[←hm];exact bT hlt);have q1:=k1 m.id;have q2:=k2 m.id;have r1:=xy (L:=SF) hlt hm;have r2:=xy (L:=HF) hlt hm;have v1:=vL SF m.id;have v2:=vL HF m.id;have e1:(SF.length:Int)≤30:=oM;generalize gS SF ms j=x1 at *;generalize gS HF ms j=x2 at *;generalize bw SF m.id=n1 at *;generalize bw HF m.id=n2 at *;clear JP k1 k2;subst hX
   repeat' (first|refine qP ?_ (h:=fun hg=>by first|exact iX aJ ms ((j:Nat):Int) hm (hb:=oM)|exact ae|exact pc q|exact pc q1|exact pc q2|exact ah)|apply sqW|refine rgK fun U V=>?_|(refine aN V ?_;clear V U)|refine aS ?_|refine aA ?_|refine cX ?_ ?_<;>intro hc<;>try simp only[dE] at hc|refine blK ?_|refine exW ?_|refine skW ?_|refine rtW ?_)
   all_goals (first|exact dd|skip)
   refine⟨j+1,hlt,oM,⟨rfl,rfl,rfl,rfl,rfl,?_,?_,rfl,rfl,rfl,tI⟩,rfl⟩
   · rw[r1];rfl
   · rw[r2];rfl
 · obtain rfl:j=ms.length:=oM;have z1:gS SF ms ms.length=SF.length:=by unfold gS;rw[zB2];exact_mod_cast hsum.1
   have z2:gS HF ms ms.length=HF.length:=by unfold gS;rw[zB2];exact_mod_cast hsum.2
   rw[z1,z2]
   repeat' (first|refine qT ?_|apply sqW|refine rgK fun U V=>?_|(refine aN V ?_;clear V U)|refine aS ?_|refine aA ?_|refine cX ?_ ?_<;>intro hc<;>try simp only[dE] at hc|refine blK ?_|refine exW ?_|refine skW ?_|refine rtW ?_)
   all_goals (first|exact dd|skip)
   exact⟨.inr rfl,_,rfl,Ent.b sMp⟩
end Go.Proofs.YtmjdoencpjpegaaGreatDoor.Top
