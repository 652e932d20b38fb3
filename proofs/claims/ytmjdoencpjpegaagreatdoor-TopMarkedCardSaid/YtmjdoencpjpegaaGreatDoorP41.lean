/- Parts of the proof. No statement is proved here. -/
import Derived.Test.YtmjdoencpjpegaaGreatDoorP39
set_option linter.unusedVariables false
set_option linter.unusedSimpArgs false
set_option maxHeartbeats 16000000
set_option maxRecDepth 20000
namespace Go.Proofs.YtmjdoencpjpegaaGreatDoor.Top
open Go.Ab Go.Jo Go.Sy Go.Sort Go.Pl Al Mk Cy De Pl
attribute [local irreducible] AWP AOps EStep AQ PStep PRun PCall TCall VCall
theorem Ar {α:Type} [Inhabited α] {l:List α} {k:Nat} (h:k<l.length):l.take (k+1)=l.take k++[l.getD k default]:=by
 rw[aU h];exact zBe h
theorem IW (l:List Jo.Mark) (m:Jo.Mark) (id:Int):bw (l++[m]) id=bw l id+if m.id=id then 1 else 0:=by
 unfold bw;rw[List.countP_append,zDk];by_cases h:m.id=id<;>simp[h]
theorem vL (l:List Jo.Mark) (id:Int):bw l id≤l.length:=List.countP_le_length
theorem gN (l:List Jo.Mark) (hl:l.length≤1000000000) (id:Int):PCall Tryz.prog 12 [.sl 10 (l.map aJ) .no,.int id] (.int (bw l id:Nat)):=by
 refine PCall.body Tryz.func12 rfl rfl Tryz.ntmps12 rfl rfl ?_
 repeat' (first|refine qT ?_|apply sqW|refine rgK fun U V=>?_|(refine aN V ?_;clear V U)|refine blK ?_)
 refine lpD (ι:=Nat) (fun k=>[(1,.int id),(5,.int (bw (l.take k) id:Nat)),(8,.sl 10 (l.map aJ) .no),(9,.int l.length),(10,.int k)]) (fun _=>[]) (fun k=>k≤l.length) (fun k=>l.length - k) 0 (fun _=>rfl) 0 (nZl _) ⟨rfl,rfl,rfl,rfl,rfl,tI⟩ rfl (fun _ _=>rfl) (fun _ _=>rfl) ?_;intro k hk;by_cases hlt:k<l.length
 · obtain⟨m,hm⟩:∃m,l.getD k default=m:=⟨_,rfl⟩
   have hs:bw (l.take (k+1)) id=bw (l.take k) id+if m.id=id then 1 else 0:=by rw[Ar hlt,hm,IW]
   have hle:=vL (l.take k) id;rw[zAg] at hle;generalize bw (l.take k) id=c at *
   repeat' (first|refine qP ?_ (h:=fun hg=>by first|exact iX aJ l ((k:Nat):Int) hm (hb:=oM)|exact ae|fail)|apply sqW|refine rgK fun U V=>?_|(refine aN V ?_;clear V U)|refine aS ?_|refine aA ?_|refine cX ?_ ?_<;>intro hc<;>try simp only[dE] at hc|refine blK ?_|refine exW ?_|refine skW ?_|refine rtW ?_)
   all_goals (first|exact dd|skip)
   · refine⟨k+1,hlt,oM,⟨rfl,?_,rfl,rfl,rfl,tI⟩,rfl⟩;rw[hs,if_pos (eq_of_beq hc)];rfl
   · refine⟨k+1,hlt,oM,⟨rfl,?_,rfl,rfl,rfl,tI⟩,rfl⟩;rw[hs,if_neg (fun h=>by rw[h] at hc;simp at hc)];rfl
 · obtain rfl:k=l.length:=oM;rw[zB2]
   repeat' (first|refine qT ?_|apply sqW|refine rgK fun U V=>?_|(refine aN V ?_;clear V U)|refine aS ?_|refine aA ?_|refine cX ?_ ?_<;>intro hc<;>try simp only[dE] at hc|refine blK ?_|refine exW ?_|refine skW ?_|refine rtW ?_)
   all_goals (first|exact dd|skip)
   exact⟨.inr rfl,Ent.int rfl⟩
theorem xQ (ws:List ba) (hl:ws.length≤1000000):PCall Tryz.prog 27 [.sl 12 (ws.map bb) .no] (.sl 4 ((aH ws).map encS) .no):=by
 refine PCall.body Tryz.func27 rfl rfl Tryz.ntmps27 rfl rfl ?_
 repeat' (first|refine qT ?_|apply sqW|refine rgK fun U V=>?_|(refine aN V ?_;clear V U)|refine blK ?_)
 refine AWP.fX (d:=3) (sz:=4) rfl ?_
 refine lpD (ι:=Nat) (fun k=>[(3,.sl 4 ((aH (ws.take k)).map encS) (.own 0)),(6,.sl 12 (ws.map bb) .no),(7,.int ws.length),(8,.int k)]) (fun k=>[.own 4 ((aH (ws.take k)).map encS).length])
  (fun k=>k≤ws.length) (fun k=>ws.length - k) 1 (fun _=>rfl) 0 (nZl _) ⟨rfl,rfl,rfl,rfl,tI⟩ rfl (fun _ _=>rfl) (fun _ _=>rfl) ?_
 intro k hk;by_cases hlt:k<ws.length
 · obtain⟨w,hw⟩:∃w,ws.getD k default=w:=⟨_,rfl⟩
   have hst:=qk hlt hw;have hlen:((aH (ws.take k)).map encS).length=k:=by simp;omega
   generalize (aH (ws.take k)).map encS=A at *
   repeat' (first|refine qP ?_ (h:=fun hg=>by first|exact iX bb ws ((k:Nat):Int) hw (hb:=oM)|exact ae|exact pbS ab rfl rfl nds|fail)|apply sqW|refine rgK fun U V=>?_|(refine aN V ?_;clear V U)|refine aS ?_|refine aA ?_|refine aoE (apO ab rfl rfl rfl dCd (Rd.w rfl tI) rfl (Rd.w rfl tI) (.sl rfl (by first|(intro x hx;rcases zA9.1 hx with rfl;rfl)|exact one_by8 _|exact one_ints _)) (lkG rfl) (lkG rfl) rfl rfl (by simp only[lLm,lLa,zAc,zAi];omega) (by simp only[lLm,lLa,zAc,zAi];omega) ?_)|refine cX ?_ ?_<;>intro hc<;>try simp only[dE] at hc|refine blK ?_|refine exW ?_|refine skW ?_|refine rtW ?_)
   all_goals (first|exact dd|skip)
   refine⟨k+1,hlt,oM,⟨?_,rfl,rfl,rfl,tI⟩,?_⟩
   · rw[←hst];rfl
   · rw[←hst];rfl
 · obtain rfl:k=ws.length:=oM;rw[zB2]
   repeat' (first|refine qT ?_|apply sqW|refine rgK fun U V=>?_|(refine aN V ?_;clear V U)|refine aS ?_|refine aA ?_|refine cX ?_ ?_<;>intro hc<;>try simp only[dE] at hc|refine blK ?_|refine exW ?_|refine skW ?_|refine rtW ?_)
   all_goals (first|exact dd|skip)
   exact⟨.inr rfl,Ent.of rfl⟩
def kV (l:List Score) (sc:Score) (p:Part) (ns:List ag) (pm:AV):List AV:=[.sl 4 (l.map encS) .no,.int sc.version,.sl 4 (sc.bars.map bD) .no,.sl 13 (sc.parts.map bt) .no,.sl 12 (sc.notes.map ar) .no,
 .int p.id,.int p.aV,.int p.of_,.int p.jz,.int p.jg,.int p.shift.steps,.int p.shift.l7,.int p.low.step,.int p.low.alter,.int p.low.oct,.int p.high.step,.int p.high.alter,.int p.high.oct,pm]
abbrev kW (ns:List ag):List (Int×Bool):=gI (fun n:ag=>n.id) ns
abbrev qt (ns:List ag):AV:=.imap (Go.Ab.aD ekI AV.b (kW ns))
def FS (who:Rdr) (x:List AV) (ns:List ag):aa:=[.var (cQ who),.var [.nils,.int 0,.nils,.nils,.nils,.int 0,.int 0,.int 0,.int 0,.int 0,.int 0,.int 0,.int 0,.int 0,.int 0,.int 0,.int 0,.int 0,.imap []],.map (Go.Ab.aD ekI AV.b (kW ns)),.var x]
def zX (l:List Score):List AV:=[.sl 4 (l.map encS) .no,.int 0,.nils,.nils,.nils,.int 0,.int 0,.int 0,.int 0,.int 0,.int 0,.int 0,.int 0,.int 0,.int 0,.int 0,.int 0,.int 0,.map 2]
def scX (l:List Score) (sc:Score):List AV:=[.sl 4 (l.map encS) .no,.int sc.version,.sl 4 (sc.bars.map bD) .no,.sl 13 (sc.parts.map bt) .no,.sl 12 (sc.notes.map ar) .no,.int 0,.int 0,.int 0,.int 0,.int 0,.int 0,.int 0,.int 0,.int 0,.int 0,.int 0,.int 0,.int 0,.map 2]
def atX (l:List Score) (sc:Score) (k j:Nat):List AV:=if j≤k then zX l else scX l sc
theorem As (ws:List ba) (hl:ws.length≤1000000) {k:Nat} {sc:Score} {who:Rdr} {kp:Nat} {p:Part} {ms:List Jo.Mark} (F:Fr (aH ws) k sc who kp p ms) (hsm:sc.Small) (hn:sc.notes.length≤1000000) :
 PCall Tryz.prog 10 [.sl 12 (ws.map bb) .no,.int sc.version,.agg (cQ who)] (.tup [.agg (kV (aH ws) sc p (aL sc.notes p) (qt (aL sc.notes p))),.b true]):=by
 have h1:=xQ ws hl;have h2:=AZ sc.parts who.part (by obtain⟨_,h,_⟩:=hsm;omega);have h3:=uS sc hsm who.part;have hpa:partAt sc.parts who.part=kp:=F.pi;rw[hpa] at h2;rw[DA F.ok F.pi F.pat] at h3;dsimp only at h3;have hll:(aH ws).length≤1000000:=by simp;omega
 have hkl:=F.kl;have hpl:=F.pl;have hpat:=F.pat;have hvn:∀j,j<(aH ws).length→j≠k→((aH ws).getD j default).version≠sc.version:=fun j hj hne=>by
  have e:=F.at_;rw[←e];rcases nLg j k with g|g
  · have:=wD F.mf g hkl;unfold atS at this ⊢;omega
  · have:=wD F.mf (show k<j by omega) hj;unfold atS at this ⊢;omega
 have hat:(aH ws).getD k default=sc:=F.at_;have hnd:=rG (qA F.ok) p;have hpn:(aL sc.notes p).length≤1000000:=by
  have:=zBm (fun n:ag=>n.part==iE p) sc.notes;unfold aL;rw[lLm];omega
 clear F;generalize aL sc.notes p=ns at *;generalize aH ws=l at *;refine PCall.bO ab Tryz.func10 rfl rfl Tryz.ntmps10 rfl ?_
 repeat' (first|refine qP ?_ (h:=fun hg=>by first|exact ae|exact pc h1|exact pbD ab rfl rfl nds|exact ah)|apply sqW|refine rgK fun U V=>?_|(refine aN V ?_;clear V U)|refine aB ?_|refine aS ?_|refine aA ?_|refine aoE (EStep.cz rfl rfl rfl rfl ?_)|refine blK ?_)
 refine lpD (ι:=Nat) (fun j=>[(1,.int sc.version),(5,.ptr 0 0),(6,.ptr 1 0),(8,.ptr 3 0),(21,.sl 4 (l.map encS) .no),(22,.int l.length),(23,.int j)]) (fun j=>FS who (atX l sc k j) [])
  (fun j=>j≤l.length) (fun j=>l.length - j) 4 (fun _=>rfl) 0 (nZl _) ⟨rfl,rfl,rfl,rfl,rfl,rfl,rfl,tI⟩ rfl (fun _ _=>rfl) (fun j _=>by
   unfold atX FS;split<;>rfl) ?_
 intro j hj;by_cases hlt:j<l.length
 · obtain⟨s,hs⟩:∃s,l.getD j default=s:=⟨_,rfl⟩
   by_cases hjk:j=k
   · subst hjk;rw[hat] at hs;subst hs;have e1:atX l sc j j=zX l:=by unfold atX;rw[if_pos (nLr _)]
     have e2:atX l sc j (j+1)=scX l sc:=by unfold atX;rw[if_neg oM]
     rw[e1];show AWP _ _ _ _ _ (FS who (zX l) []);unfold FS zX
     repeat' (first|refine qP ?_ (h:=fun hg=>by first|exact iX encS l ((j:Nat):Int) hat (hb:=oM)|exact ae|fail)|apply sqW|refine rgK fun U V=>?_|(refine aN V ?_;clear V U)|refine aS ?_|refine aA ?_|refine cX ?_ ?_<;>intro hc<;>try simp only[dE] at hc|refine blK ?_|refine exW ?_|refine skW ?_)
     all_goals (first|exact dd|skip)
     exact⟨j+1,hlt,oM,⟨rfl,rfl,rfl,rfl,rfl,rfl,rfl,tI⟩,by rw[e2];rfl⟩
   · have hne:=hvn j hlt hjk;rw[hs] at hne;rcases nLg k j with hkj|hkj
     · have e1:atX l sc k j=scX l sc:=by unfold atX;rw[if_neg oM]
       have e2:atX l sc k (j+1)=scX l sc:=by unfold atX;rw[if_neg oM]
       rw[e1];show AWP _ _ _ _ _ (FS who (scX l sc) []);unfold FS scX
       repeat' (first|refine qP ?_ (h:=fun hg=>by first|exact iX encS l ((j:Nat):Int) hs (hb:=oM)|exact ae|fail)|apply sqW|refine rgK fun U V=>?_|(refine aN V ?_;clear V U)|refine aS ?_|refine aA ?_|refine cX ?_ ?_<;>intro hc<;>try simp only[dE] at hc|refine blK ?_|refine exW ?_|refine skW ?_)
       all_goals (first|exact dd|skip)
       exact⟨j+1,hlt,oM,⟨rfl,rfl,rfl,rfl,rfl,rfl,rfl,tI⟩,by rw[e2];rfl⟩
     · have e1:atX l sc k j=zX l:=by unfold atX;rw[if_pos oM]
       have e2:atX l sc k (j+1)=zX l:=by unfold atX;rw[if_pos oM]
       rw[e1];show AWP _ _ _ _ _ (FS who (zX l) []);unfold FS zX
       repeat' (first|refine qP ?_ (h:=fun hg=>by first|exact iX encS l ((j:Nat):Int) hs (hb:=oM)|exact ae|fail)|apply sqW|refine rgK fun U V=>?_|(refine aN V ?_;clear V U)|refine aS ?_|refine aA ?_|refine cX ?_ ?_<;>intro hc<;>try simp only[dE] at hc|refine blK ?_|refine exW ?_|refine skW ?_)
       all_goals (first|exact dd|skip)
       exact⟨j+1,hlt,oM,⟨rfl,rfl,rfl,rfl,rfl,rfl,rfl,tI⟩,by rw[e2];rfl⟩
 · obtain rfl:j=l.length:=oM;have e1:atX l sc k l.length=scX l sc:=by unfold atX;rw[if_neg oM]
   rw[e1];clear hvn e1 hat;show AWP _ _ _ _ _ (FS who (scX l sc) []);unfold FS scX
   repeat' (first|refine qP ?_ (h:=fun hg=>by first|exact iX bt sc.parts ((kp:Nat):Int) hpat (hb:=oM)|exact ae|exact pc h2|exact pc h3|exact ah)|apply sqW|refine rgK fun U V=>?_|(refine aN V ?_;clear V U)|refine aS ?_|refine aA ?_|refine cX ?_ ?_<;>intro hc<;>try simp only[dE] at hc|refine blK ?_|refine exW ?_|refine skW ?_|refine rtW ?_)
   all_goals (first|exact dd|skip)
   refine lpD (ι:=Nat) (fun j=>[(6,.ptr 1 0),(8,.ptr 3 0),(13,.int 0),(58,.sl 12 (ns.map ar) .no),(59,.int ns.length),(60,.int j)]) (fun j=>FS who (kV l sc p ns (.map 2)) (ns.take j))
    (fun j=>j≤ns.length) (fun j=>ns.length - j) 4 (fun _=>rfl) 0 (nZl _) ⟨rfl,rfl,rfl,rfl,rfl,rfl,tI⟩ rfl (fun _ _=>rfl) (fun j _=>by
     unfold FS kV;simp only[zAq,zAu,zC2,zA0];exact⟨rfl,rfl,by simp[ak,Go.Ab.aD,aG],rfl⟩) ?_
   intro j hj;by_cases hlt:j<ns.length
   · obtain⟨n,hn9⟩:∃n,ns.getD j default=n:=⟨_,rfl⟩
     have yG:(ns.getD j default).id∉(ns.take j).map (fun n:ag=>n.id):=by
      have h9:((ns.take (j+1)).map (fun n:ag=>n.id)).Nodup:=by
       rw[←zD4 (j+1) ns,zAz] at hnd;exact(zBz.1 hnd).1
      exact((fi (fun n:ag=>n.id) ns j hlt).1 h9).2
     have JH:=lS (fun n:ag=>n.id) ns j hlt yG;rw[hn9] at JH;show AWP _ _ _ _ _ (FS who (kV l sc p ns (.map 2)) (ns.take j));unfold FS kV
     repeat' (first|refine qP ?_ (h:=fun hg=>by first|exact iX ar ns ((j:Nat):Int) hn9 (hb:=oM)|exact ae|fail)|apply sqW|refine rgK fun U V=>?_|(refine aN V ?_;clear V U)|refine aS ?_|refine aA ?_|refine aoE (EStep.dm (ek:=ekI) (ev:=AV.b) (v:=true) (ay (lkG rfl)) (lkG rfl) rfl rfl rfl (Rd.w rfl tI) rfl (Rd.w rfl tI) rfl (Rd.w rfl tI) ?_)|refine cX ?_ ?_<;>intro hc<;>try simp only[dE] at hc|refine blK ?_|refine exW ?_|refine skW ?_|refine rtW ?_)
     all_goals (first|exact dd|skip)
     refine⟨j+1,hlt,oM,⟨rfl,rfl,rfl,rfl,rfl,rfl,tI⟩,?_⟩;show _=FS who (kV l sc p ns (.map 2)) (ns.take (j+1));unfold FS kW;rw[←JH];rfl
   · obtain rfl:j=ns.length:=oM;rw[zB2];show AWP _ _ _ _ _ (FS who (kV l sc p ns (.map 2)) ns);unfold FS kV;refine AWP.pA (ek:=ekI) (ev:=AV.b) (l:=2) (al:=kW ns) rfl J0 ?_;refine AWP.dX [(6,.ptr 1 0),(8,.ptr 3 0),(13,.int 0),(58,.sl 12 (ns.map ar) .no),(59,.int ns.length),(60,.int ns.length)] ⟨rfl,rfl,rfl,rfl,rfl,rfl,tI⟩ ?_
     repeat' (first|refine qT ?_|apply sqW|refine rgK fun U V=>?_|(refine aN V ?_;clear V U)|refine aS ?_|refine aA ?_|refine cX ?_ ?_<;>intro hc<;>try simp only[dE] at hc|refine blK ?_|refine exW ?_|refine skW ?_|refine rtW ?_)
     all_goals (first|exact dd|skip)
     exact⟨.inr rfl,_,rfl,Ent.of rfl⟩
theorem Cm (a b:Nat):(((a:Nat):Int)==((b:Nat):Int))=(a==b):=by
 rw[zB3];simp only[beq_iff_eq];omega
theorem pa (a:Nat):((a:Int)==0)=(a==0):=Cm a 0
theorem Cn (a:Nat):((a:Int)==1)=(a==1):=Cm a 1
theorem Bt (l:List Jo.Mark) (z y:Jo.Mark):behind (l++[z]) y=(behind l y||((z.note==y.note&&z.kind==y.kind)&&z.id != y.id&&(en z y).2==0&&(en z y).1)):=by
 unfold behind;rw[List.any_append];simp
section
variable {l:List Score} {k:Nat} {sc:Score} {who:Rdr} {kp:Nat} {p:Part} {ms:List Jo.Mark}
theorem Bu (F:Fr l k sc who kp p ms) (hl:l.length≤1000000) (hf:∀s∈l,dt s=true) {m:Jo.Mark} (hm:m∈ms) (ht:m.text.length≤9223372036854775807) (ns:List ag) (shown held:List Jo.Mark) (h1:shown.length≤1000000000) (h2:held.length≤1000000000) (hc:gB l sc m=none) :
 PCall Tryz.prog 11 [.agg (kV l sc p ns (qt ns)),.agg (cQ who),.agg (aJ m),.sl 10 (shown.map aJ) .no,.sl 10 (held.map aJ) .no]
  (.b (bw shown m.id==0&&(((bw held m.id==1)==(bp m p who).1)&&decide (bw held m.id≤1)))):=by
 have c1:=vD l hl hf m ht sc.version;have c2:=pY m p who ht;have c3:=gN shown h1 m.id;have c4:=gN held h2 m.id;have hfv:bL l sc.version=k:=by rw[←F.at_];exact kT F.mf F.kl
 have hcr:=xu F.mf (Mk.ch F.marks hm) (sH F.ok) hfv;rw[F.at_,show bH l sc.version sc m=none from hc] at hcr;rw[hcr] at c1;rw[tZ F hm] at c2 ⊢;unfold DZ at c1;unfold at2 at c2;dsimp only at c1 c2 ⊢;clear F hcr hfv;generalize forM m p.aV who=M at *;generalize bw shown m.id=a at *;generalize bw held m.id=b at *;refine PCall.body Tryz.func11 rfl rfl Tryz.ntmps11 rfl rfl ?_
 repeat' (first|refine qP ?_ (h:=fun hg=>by first|exact ae|exact pc c1|exact pc c2|fail)|apply sqW|refine rgK fun U V=>?_|(refine aN V ?_;clear V U)|refine aB ?_|refine aS ?_|refine aA ?_|refine cX ?_ ?_<;>intro hc<;>try simp only[dE] at hc|refine skW ?_|refine rtW ?_|refine kD fun U V=>?_|(refine aqN (V _ ?_);clear V U)|refine aqQ rfl rfl (fun hg=>by first|exact ae|exact pc c3|exact pc c4|fail) (by exact rfl) ?_)
 all_goals (first|exact dd|skip)
 all_goals first|(exfalso;exact Bool.noConfusion hc)|skip
 refine⟨.inr rfl,Ent.b ?_⟩;show((((a:Int)==0)&&(((b:Int)==1)==M))&&decide ((b:Int)≤1))=_;rw[pa,Cn,show decide ((b:Int)≤1)=decide (b≤1) from decide_eq_decide.2 oM,Bool.and_assoc]
theorem Bv (F:Fr l k sc who kp p ms) (hl:l.length≤1000000) (hf:∀s∈l,dt s=true) {m:Jo.Mark} (hm:m∈ms) (ht:m.text.length≤9223372036854775807) (ns:List ag) (shown held:List Jo.Mark) (h1:shown.length≤1000000000) (h2:held.length≤1000000000) {y:Jo.Mark} (hc:gB l sc m=some y)
 (hts:∀z∈shown,z.text.length≤9223372036854775807) (hty:y.text.length≤9223372036854775807) (gQ:∀z∈shown,z.id=m.id→z=y) :
 PCall Tryz.prog 11 [.agg (kV l sc p ns (qt ns)),.agg (cQ who),.agg (aJ m),.sl 10 (shown.map aJ) .no,.sl 10 (held.map aJ) .no]
  (.b (if (bp m p who).1&&(lk (kW ns) y.note).getD false then bw held m.id==0&&((bw shown m.id==1&&!behind shown y)||(bw shown m.id==0&&behind shown y)) else bw held m.id==0&&bw shown m.id==0)):=by
 have c1:=vD l hl hf m ht sc.version;have c2:=pY m p who ht;have c3:=gN shown h1 m.id;have c4:=gN held h2 m.id;have hfv:bL l sc.version=k:=by rw[←F.at_];exact kT F.mf F.kl
 have hcr:=xu F.mf (Mk.ch F.marks hm) (sH F.ok) hfv;rw[F.at_,show bH l sc.version sc m=some y from hc] at hcr;rw[hcr] at c1;rw[tZ F hm] at c2 ⊢;unfold DZ at c1;unfold at2 at c2;dsimp only at c1 c2 ⊢;clear F hcr hfv;generalize forM m p.aV who=M at *;generalize bw shown m.id=a at *;generalize bw held m.id=b at *;refine PCall.body Tryz.func11 rfl rfl Tryz.ntmps11 rfl rfl ?_
 repeat' (first|refine qP ?_ (h:=fun hg=>by first|exact ae|exact pc c1|exact pc c2|exact PRun.lookup (ok:=false) (ek:=ekI) (ev:=AV.b) (zv:=false) (ay (lkG rfl)) (lkG rfl) (lkG rfl) rfl rfl (Rd.w rfl nd) (Or.inl rfl) (Rd.w rfl nd) rfl|exact ah)|apply sqW|refine rgK fun U V=>?_|(refine aN V ?_;clear V U)|refine aB ?_|refine aS ?_|refine aA ?_|refine cX ?_ ?_<;>intro hc<;>try simp only[dE] at hc|refine blK ?_|refine skW ?_|refine rtW ?_|refine kD fun U V=>?_|(refine aqN (V _ ?_);clear V U)|refine aqQ rfl rfl (fun hg=>by first|exact ae|exact pc c3|exact pc c4|fail) (by exact rfl) ?_)
 all_goals (first|exact dd|skip)
 refine lpD (ι:=Nat) (fun j=>[(3,.sl 10 (shown.map aJ) .no),(7,.ptr 2 0),(11,.ptr 3 0),(16,.int a),(17,.int b),(18,.b (M&&(lk (kW ns) y.note).getD false)),(19,.b (behind (shown.take j) y)),(79,.sl 10 (shown.map aJ) .no),(80,.int shown.length),(81,.int j)]) (fun _=>[.var (kV l sc p ns (qt ns)),.var (cQ who),.var (aJ m),.var (aJ y)])
  (fun j=>j≤shown.length) (fun j=>shown.length - j) 4 (fun _=>rfl) 0 (nZl _) ⟨rfl,rfl,rfl,rfl,rfl,rfl,rfl,rfl,rfl,rfl,tI⟩ rfl (fun _ _=>rfl) (fun _ _=>rfl) ?_
 intro j hj;by_cases hlt:j<shown.length
 · obtain⟨z,hz⟩:∃z,shown.getD j default=z:=⟨_,rfl⟩
   have hzm:z∈shown:=by rw[←hz];exact bT hlt
   have c5:=xH z y (hts z hzm) hty;have hst:behind (shown.take (j+1)) y=(behind (shown.take j) y||((z.note==y.note&&z.kind==y.kind)&&z.id != y.id&&(en z y).2==0&&(en z y).1)):=by rw[Ar hlt,hz];exact Bt _ z y
   have hzy:=gQ z hzm;unfold at2 at c5;generalize en z y=B at *;obtain⟨B1,B2⟩:=B;dsimp only at c5 hst;generalize behind (shown.take j) y=bh at *
   repeat' (first|refine qP ?_ (h:=fun hg=>by first|exact iX aJ shown ((j:Nat):Int) hz (hb:=oM)|exact ae|exact pc c5|exact PRun.neN flM rfl rfl nd rfl nd rfl|fail)|apply sqW|refine rgK fun U V=>?_|(refine aN V ?_;clear V U)|refine aS ?_|refine aA ?_|refine cX ?_ ?_<;>intro hc<;>try simp only[dE] at hc|refine blK ?_|refine exW ?_|refine skW ?_|refine rtW ?_)
   all_goals (first|exact dd|skip)
   · exfalso;rw[zA0] at hc;have h9:=hzy (eq_of_beq hc.1);subst h9;have h8:=hc.2;simp at h8;rw[EU] at h8;simp at h8
   · refine⟨j+1,hlt,oM,⟨rfl,rfl,rfl,rfl,rfl,rfl,?_,rfl,rfl,rfl,tI⟩,rfl⟩;show AV.b (bh||(B2==0&&B1))=_;rw[hst,show(z.note==y.note&&z.kind==y.kind&&z.id != y.id)=true from hc,zBw]
   · refine⟨j+1,hlt,oM,⟨rfl,rfl,rfl,rfl,rfl,rfl,?_,rfl,rfl,rfl,tI⟩,rfl⟩;show AV.b bh=_;rw[hst,show(z.note==y.note&&z.kind==y.kind&&z.id != y.id)=false from hc,Bool.false_and,Bool.false_and,Bool.or_false]
 · obtain rfl:j=shown.length:=oM;rw[zB2];generalize hP:(M&&(lk (kW ns) y.note).getD false)=P at *;generalize behind shown y=bh at *
   repeat' (first|refine qT ?_|apply sqW|refine rgK fun U V=>?_|(refine aN V ?_;clear V U)|refine aS ?_|refine aA ?_|refine cX ?_ ?_<;>intro hc<;>try simp only[dE] at hc|refine blK ?_|refine exW ?_|refine skW ?_|refine rtW ?_)
   all_goals (first|exact dd|skip)
   · rw[show P=false by simpa using hc,if_neg dCd];refine⟨.inr rfl,Ent.b ?_⟩;show(((b:Int)==0)&&((a:Int)==0))=_;rw[pa,pa]
   · rw[show P=true by simpa using hc,if_pos rfl];refine⟨.inr rfl,Ent.b ?_⟩;show(((b:Int)==0)&&((((a:Int)==1)&&!bh)||(((a:Int)==0)&&bh)))=_;rw[pa,pa,Cn]
end
end Go.Proofs.YtmjdoencpjpegaaGreatDoor.Top
