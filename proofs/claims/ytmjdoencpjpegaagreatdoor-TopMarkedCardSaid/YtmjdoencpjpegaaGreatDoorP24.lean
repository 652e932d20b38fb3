/- Parts of the proof. No statement is proved here. -/
import Derived.Test.YtmjdoencpjpegaaGreatDoorP18
import Derived.Test.YtmjdoencpjpegaaGreatDoorP19
import Derived.Test.YtmjdoencpjpegaaGreatDoorP20
set_option linter.unusedVariables false
set_option linter.unusedSimpArgs false
set_option maxHeartbeats 16000000
set_option maxRecDepth 20000
namespace Go.Proofs.YtmjdoencpjpegaaGreatDoor.Al
open Go.Ab Go.Sort
attribute [local irreducible] AWP AOps EStep AQ PStep PRun PCall TCall VCall
def alO (a b:Score):Nat→NL
 |0=>[]
 |1=>tH 11 a
 |_=>Hu 11 11 a b
theorem L8 (a b:Score) (ha:a.Small) (hb:b.Small) {i:Nat} (hi:i<2):∃s:Score,[a,b].getD i default=s∧s.Small∧(∀p∈alO a b i,p.1.1≠(i:Int))∧alO a b (i+1)=toN (dN 11 i (toG (alO a b i)) s.notes):=by
 have h2:i=0∨i=1:=oM;rcases h2 with rfl|rfl
 · exact⟨a,rfl,ha,(fun p hp=>by cases hp),rfl⟩
 · exact⟨b,rfl,hb,wZ 11 a,rfl⟩
theorem KX {m:Nat} (al:NL):nT m (toG al):=fun p hp=>by
 obtain⟨q,_,rfl⟩:=zAf.1 hp;rfl
theorem vi {κ α:Type} [DecidableEq κ] (k:κ):∀{al:List (κ×α)},(∀p∈al,p.1≠k)→lk al k=none
 |[],_=>rfl
 | p :: r, h => by
   simp only[lk];rw[if_neg (h p (zAr ..))];exact vi k fun q hq=>h q (zAk _ hq)
theorem HR {al:NL} {i b:Int} (h:∀p∈al,p.1.1≠i):((lk (toG al) (i,b)).map (·.1)).getD []=[]:=by
 rw[zz,vi _ fun p hp e=>h p hp (by rw[e])];rfl
theorem HS (al:GL) (k:cP):(iv al k).1=((lk al k).map (·.1)).getD []:=by
 unfold iv;cases lk al k<;>rfl
def npR (o0 o1 o2:aF) (a b:Score) (r:AV) (s:aa):Prop :=
 if aQ a&&aQ b then r=.tup [.ptr 7 0,.b true]∧∃al,Grp a b al∧s=cM o0 o1 o2 a b al [] else r=.tup [.prim (.pointer none),.b false]∧s=[o0,o1,o2]
theorem rH {o0 o1 o2:aF} (h3:nS o0 o1 o2) (a b:Score) (ha:a.Small) (hb:b.Small):TCall Tryz.prog 196 [.agg (encS a),.agg (encS b)] [o0,o1,o2] (npR o0 o1 o2 a b):=by
 have va:=dy a ha;have vb:=dy b hb;have hn2:=ha.2.2;have hn3:=hb.2.2;refine TCall.body Tryz.func196 rfl rfl Tryz.ntmps196 rfl rfl ?_
 repeat' (first|refine qP ?_ (h:=fun hg=>by first|exact ae|exact pc va|exact pc vb|exact pbD ab rfl rfl nds|exact pbS ab rfl rfl nds|exact ah)|apply sqW|refine rgK fun U V=>?_|(refine aN V ?_;clear V U)|refine aB ?_|refine aoE (EStep.cz rfl rfl rfl rfl ?_)|refine cX ?_ ?_<;>intro hc<;>try simp only[dE] at hc|refine blK ?_|refine skW ?_|refine rtW ?_)
 · have hv:(aQ a&&aQ b)=false:=by
    cases h1:aQ a<;>cases h2:aQ b<;>simp_all
   refine⟨.inr rfl,_,[o0,o1,o2],?_,rfl,nLr _,?_,rfl,rfl⟩
   · unfold npR;rw[hv];exact⟨rfl,rfl⟩
   · obtain⟨k0,k1,k2⟩:=h3 3;simp only[zAc,zAi,zAq,zAu,k0,k1,k2];rfl
 have hv:(aQ a&&aQ b)=true:=by
  cases h1:aQ a<;>cases h2:aQ b<;>simp_all
 clear hc va vb;refine AWP.kill 3 rfl (AWP.kill 4 rfl ?_);refine lpD (ι:=Nat) (fun i=>[(6,.ptr 7 0),(28,.sl 4 ([a,b].map encS) .fresh),(29,.int 2),(30,.int i)]) (fun i=>cM o0 o1 o2 a b (alO a b i) []) (fun i=>i≤2) (fun i=>2 - i) 8 (fun _=>rfl) 0 (nZl _) ⟨rfl,rfl,rfl,rfl,tI⟩ rfl (fun _ _=>rfl) (fun i _=>cT h3 (nLr _) a b _ _) ?_;intro i hi;by_cases hlt:i<2
 · obtain⟨s,hs,hsm,vS,hst⟩:=L8 a b ha hb hlt;have hn1:=hsm.2.2;have hs':([a,b].getD ((i:Nat):Int).toNat default)=s:=by rw[zAj];exact hs
   repeat' (first|refine qP ?_ (h:=fun hg=>by first|exact iX encS ([a,b]) ((i:Nat):Int) hs' (hb:=⟨zD7 _,Int.ofNat_lt.2 (show _<2 by omega)⟩)|exact ae|exact ah)|apply sqW|refine rgK fun U V=>?_|(refine aN V ?_;clear V U)|refine aS ?_|refine aA ?_|refine cX ?_ ?_<;>intro hc<;>try simp only[dE] at hc|refine blK ?_|refine exW ?_|refine skW ?_|refine rtW ?_)
   all_goals (first|(exfalso;omega)|skip)
   generalize hal:alO a b i=al0 at *;refine AWP.BI (ek:=ekP) (ev:=evN) (ev':=evT) (al:=al0) 5 (fun l:List ag=>(l,Tok.no)) (by rfl) (fun _ _ _ _ h=>h) ?_;refine AWP.kG 12 (AWP.kG 2 (AWP.B3 12 (al0.length+s.notes.length+1) ?_));have mN:=fun k:Nat=>mu 11 i (s.notes.take k) (toG al0) (wk vS)
   have nF:(toG al0).length=al0.length:=by simp[toG]
   have Di:∀k,k≤s.notes.length→nT (11+(al0.length+s.notes.length+1)) (dN 11 i (toG al0) (s.notes.take k)):=fun k hk=>w4 i _ (KX al0) (by rw[nF,zAg];omega)
   refine lpD (ι:=Nat) (fun k=>[(6,.ptr 7 0),(7,.int i),(28,.sl 4 ([a,b].map encS) .fresh),(29,.int 2),(30,.int i),(36,.sl 12 (s.notes.map ar) .no),(37,.int s.notes.length),(38,.int k)])
    (fun k=>lr o0 o1 o2 a b s i (dN 11 i (toG al0) (s.notes.take k)) k (Dh s.notes k)++aZ (dN 11 i (toG al0) (s.notes.take k)) (al0.length+s.notes.length+1))
    (fun k=>k≤s.notes.length) (fun k=>s.notes.length - k) (11+(al0.length+s.notes.length+1)) (fun k=>by rw[lLa,zu];rfl) 0 (nZl _) ⟨rfl,rfl,rfl,rfl,rfl,rfl,rfl,rfl,tI⟩
    (by rw[List.take_zero];show _=lr o0 o1 o2 a b s i (toG al0) 0 none++aZ (toG al0) _;rw[Hr];rfl)
    (fun _ _=>by show(decide (7<11+_)&&_)=true;rw[decide_eq_true oM];rfl) (fun k hk=>by rw[zBs,Kw,KA h3 oM a b s i (Di k hk)];rfl) ?_
   intro k hk;by_cases hkl:k<s.notes.length
   · obtain⟨n,hn⟩:∃n,s.notes.getD k default=n:=⟨_,rfl⟩
     have Nb:dN 11 i (toG al0) (s.notes.take (k+1))=eR 11 (dN 11 i (toG al0) (s.notes.take k)) ((i:Int),n.bar) n:=by rw[jK hkl,hn,Da]
     have Nc:Dh s.notes (k+1)=some n:=by rw[←hn];rfl
     obtain⟨g1,g2,g3⟩:=mN k;rw[nF,zAg] at g2;obtain⟨e1,e2,e3,e4⟩:=oX g1 (key:=((i:Int),n.bar)) rfl;have e5:=Kx g1 (key:=((i:Int),n.bar)) rfl (N:=al0.length+s.notes.length+1) oM;have e6:=Hs g1 (key:=((i:Int),n.bar)) rfl n (N:=al0.length+s.notes.length+1) oM;have e7:(iv (dN 11 i (toG al0) (s.notes.take k)) ((i:Int),n.bar)).1.length≤1000000000:=by
      rw[HS,g3,HR vS,if_pos rfl];have:=zBm (fun m:ag=>m.bar==n.bar) (s.notes.take k);rw[zAg] at this;simp only[zE9];omega
     generalize dN 11 i (toG al0) (s.notes.take k)=G at *;generalize al0.length+s.notes.length+1=N at *;clear hs' mN Di hst hs
     repeat' (first|refine aoE (EStep.lT (l:=9) ab rfl rfl rfl rfl rfl rfl rfl rfl ?_)|refine aoE (EStep.lT (l:=10) ab rfl rfl rfl rfl rfl rfl rfl rfl ?_)|refine qP ?_ (h:=fun hg=>by first|exact iX ar s.notes ((k:Nat):Int) hn (hb:=oM)|exact ae|exact PRun.qX ab rfl rfl nd rfl rfl|exact PRun.cZ ab rfl rfl nd rfl (zAa _) rfl rfl rfl|exact PRun.gL ab rfl rfl nds|exact ah)|apply sqW|refine rgK fun U V=>?_|(refine aN V ?_;clear V U)|refine aoE (EStep.dK (l:=9) ab rfl rfl rfl tI rfl (zAa _) rfl tI rfl rfl rfl rfl rfl rfl ?_)|refine aoE (EStep.dK (l:=10) ab rfl rfl rfl tI rfl (zAa _) rfl tI rfl rfl rfl rfl rfl rfl ?_)|refine cX ?_ ?_<;>intro hc<;>try simp only[dE] at hc|refine blK ?_|refine exW ?_|refine skW ?_)
     all_goals (first|(exfalso;omega)|skip)
     refine AWP.gj effM (fun j=>match j with|0=>lr o0 o1 o2 a b s i G (k+1) (some n)++aZ G N|1=>lr o0 o1 o2 a b s i (iU G ((i:Int),n.bar)) (k+1) (some n)++aZ G N|2=>lr o0 o1 o2 a b s i (iU G ((i:Int),n.bar)) (k+1) (some n)++aZ (eR 11 G ((i:Int),n.bar) n) N|_=>lr o0 o1 o2 a b s i (eR 11 G ((i:Int),n.bar) n) (k+1) (some n)++aZ (eR 11 G ((i:Int),n.bar) n) N) rfl (by kernel_rfl) dKn rfl dKn (fun U V=>?_)
     repeat' (first
      |refine yt (h:=by refine⟨?_,?_,?_,?_⟩<;>intro hh hg<;>first|exact absurd hh dKn|exact ae|exact PRun.qX ab rfl rfl nd rfl rfl|exact PRun.cZ ab rfl rfl nd rfl (zAa _) rfl rfl rfl|exact pbS ab rfl rfl nds|exact ah|fail) (hk:=?_)|fail)
     refine YQ.e (v:=.tup [evT (iv G ((i:Int),n.bar)),.int (posOf G ((i:Int),n.bar))]) (d:=some 54) rfl rfl rfl ?_ ?_
     · intro au he;exact EStep.LH (l:=5) (ek:=ekP) (ev:=evT) (al:=G) (key:=((i:Int),n.bar)) (v0:=([],.fresh)) mV (lkG rfl) (lkG rfl) rfl rfl rfl rfl (Rd.w ((ai (he 49 dKn)).trans rfl) (by rw[aj (he 49 dKn)];first|exact tI|exact rfl)) rfl (Rd.w ((ai (he 50 dKn)).trans rfl) (by rw[aj (he 50 dKn)];first|exact tI|exact rfl)) rfl (fun _ _ _=>.slz 12 .fresh rfl) ⟨rfl,rfl⟩
     repeat' (first
      |refine yt (hk:=?_)|fail)
     refine YQ.e (v:=evT ((iv G ((i:Int),n.bar)).1++[n],.own (11+posOf G ((i:Int),n.bar)))) (d:=some 55) rfl rfl rfl ?_ ?_
     · intro au he;refine EStep.KB (l:=11+posOf G ((i:Int),n.bar)) (v:=iv G ((i:Int),n.bar)) (m:=n) ab rfl rfl rfl dCd e2 (Rd.w ((ai (he 51 dKn)).trans rfl) (by rw[aj (he 51 dKn)];first|exact tI|exact rfl)) ?_ (Rd.w ((ai (he 53 dKn)).trans rfl) (by rw[aj (he 53 dKn)];first|exact tI|exact rfl)) (.sl rfl (by intro x hx;rcases zA9.1 hx with rfl;rfl)) (lkG rfl) (lkG rfl) rfl rfl dCd e7 ⟨rfl,?_⟩
       · show(lr o0 o1 o2 a b s i (iU G ((i:Int),n.bar)) (k+1) (some n)++aZ G N)[11+posOf G ((i:Int),n.bar)]? = _;rw[zA7 (by show 11≤_;omega)];show(aZ G N)[11+posOf G ((i:Int),n.bar) - 11]? = _;rw[zCa];exact e5
       · show(lr o0 o1 o2 a b s i (iU G ((i:Int),n.bar)) (k+1) (some n)++aZ G N).set (11+posOf G ((i:Int),n.bar)) _=lr o0 o1 o2 a b s i (iU G ((i:Int),n.bar)) (k+1) (some n)++aZ (eR 11 G ((i:Int),n.bar) n) N;rw[List.set_append_right _ _ (by show 11≤_;omega)];show _++(aZ G N).set (11+posOf G ((i:Int),n.bar) - 11) _=_;rw[zCa,e6]
     repeat' (first
      |refine yt (hk:=?_)|fail)
     refine YQ.e (v:=.any) (d:=none) rfl rfl rfl ?_ ?_
     · intro au he;exact EStep.Hc (l:=5) (i:=posOf G ((i:Int),n.bar)) (al:=iU G ((i:Int),n.bar)) (key:=((i:Int),n.bar)) (v1:=iv G ((i:Int),n.bar)) (v:=((iv G ((i:Int),n.bar)).1++[n],.own (11+posOf G ((i:Int),n.bar)))) rfl rfl rfl (Rd.w ((ai (he 49 dKn)).trans rfl) (by rw[aj (he 49 dKn)];first|exact tI|exact rfl)) rfl (Rd.w ((ai (he 56 dKn)).trans rfl) (by rw[aj (he 56 dKn)];first|exact tI|exact rfl)) e3 (Rd.w ((ai (he 55 dKn)).trans rfl) (by rw[aj (he 55 dKn)];first|exact tI|exact rfl)) ⟨rfl,rfl⟩
     refine YQ.nil (V _ _ ?_);clear V U
     repeat' (first|refine qS ?_|refine rgK fun U V=>?_|(refine aN V ?_;clear V U))
     refine⟨k+1,oM,oM,⟨rfl,rfl,rfl,rfl,rfl,rfl,rfl,rfl,tI⟩,?_⟩;show _=lr o0 o1 o2 a b s i (dN 11 i (toG al0) (s.notes.take (k+1))) (k+1) (Dh s.notes (k+1))++aZ (dN 11 i (toG al0) (s.notes.take (k+1))) N;rw[Nb,Nc];exact zAn (by show(lr o0 o1 o2 a b s i (eR 11 G ((i:Int),n.bar) n) (k+1) (some n)++aZ (eR 11 G ((i:Int),n.bar) n) N).length≤_;rw[lLa,zu];exact nLr _)
   · obtain rfl:k=s.notes.length:=oM;refine AWP.BI (ev':=evN) 5 (fun v:List ag×Tok=>v.1) (by rfl) (fun v M B x h=>ll.no _ _ _ _ _ _ h) ?_
     repeat' (first|refine qT ?_|apply sqW|refine rgK fun U V=>?_|(refine aN V ?_;clear V U)|refine aA ?_|refine cX ?_ ?_<;>intro hc<;>try simp only[dE] at hc|refine blK ?_|refine exW ?_|refine skW ?_)
     all_goals (first|(exfalso;omega)|skip)
     refine⟨i+1,oM,oM,⟨rfl,rfl,rfl,rfl,tI⟩,?_⟩;rw[hst,zB2];rfl
 · obtain rfl:i=2:=oM
   repeat' (first|refine qT ?_|apply sqW|refine rgK fun U V=>?_|(refine aN V ?_;clear V U)|refine aS ?_|refine aA ?_|refine cX ?_ ?_<;>intro hc<;>try simp only[dE] at hc|refine blK ?_|refine exW ?_|refine skW ?_|refine rtW ?_)
   all_goals (first|(exfalso;omega)|skip)
   refine⟨.inr rfl,_,cM o0 o1 o2 a b (alO a b 2) [],?_,rfl,(by show 3≤8;decide),cT h3 (nLr _) a b _ _,rfl,rfl⟩;unfold npR;rw[hv];exact⟨rfl,_,LQ 11 11 a b,rfl⟩
end Go.Proofs.YtmjdoencpjpegaaGreatDoor.Al
namespace Go.Ab
theorem PRun.sB {P:Program} {o:Oper} {env:Env} {σ:aa} {β:Type} {ek:(Int×Int)→Value} {f:β→List AV} {sz:Nat} {t kt et:TypeId} {m x:Operand} {al:List ((Int×Int)×List β)} {key:Int×Int} {uk um:AV} {s1 b1:Nat} {z:List Z} {le:LI}
 (K:KeyLaw P kt ek) (hl:LOk P t ⟨.map kt et,s1,b1,z⟩) (he:LOk P et le) (hz:js le=.nils) (ho:o.op=.lookup t m x false) (hm:Rd env m um)
 (hum:um=.imap (aD ek (fun l:List β=>AV.sl sz (l.map f) .no) al)∨∃l,um=.map l∧σ[l]? = some (.map (aD ek (fun l:List β=>AV.sl sz (l.map f) .no) al)))
 (hx:Rd env x uk) (hex:fx uk=some (ek key)):PRun P o env σ (.sl sz (((lk al key).getD []).map f) .no):=by
 have e0:aD ek (fun l:List β=>AV.sl sz (l.map f) .no) al=aD ek (fun v:Option (List β)=>match v with|some l=>AV.sl sz (l.map f) .no|none=>.nils) (al.map fun p=>(p.1,some p.2)):=by
  unfold aD;rw[zCo];rfl
 rw[e0] at hum;have h:=PRun.lookup (ok:=false) (zv:=none) (ev:=fun v:Option (List β)=>match v with|some l=>AV.sl sz (l.map f) .no|none=>.nils) K hl he hz ho hm hum hx hex;have e1:∀al:List ((Int×Int)×List β),lk (al.map fun p=>(p.1,some p.2)) key=(lk al key).map some:=by
  intro al;induction al with
  |nil=>rfl
  | cons p r ih =>
    simp only[zBd,lk];split
    · rfl
    · exact ih
 refine PRun.ent h fun M B y hy=>?_
 rw[e1] at hy;cases hk:lk al key with
 |none=>rw[hk] at hy;exact ll.nil sz M B y hy
 |some l=>rw[hk] at hy;exact hy
theorem PRun.xc {P:Program} {o:Oper} {env:Env} {σ:aa} {x:Operand} {cs:List AV} (ho:o.op=.nilCheck x) (hx:rdv env x=some (.iptr cs)) (nx:rdn env x):PRun P o env σ (.iptr cs) :=
 .of fun G A w hs hv=>by
  have hX:=rd (Rd.w hx nx) (by simp[ho,Op.operands]) hv;generalize hA:A.eval x=y at hX;cases hX with
  |iptr _ b off f hm hr=>exact⟨_,by simp[execOp,ho,hA,Instr.sureAddr],.iptr cs b off f hm hr⟩
end Go.Ab
namespace Go.Proofs.YtmjdoencpjpegaaGreatDoor.Al
open Go.Ab Go.Sort
attribute [local irreducible] AWP AOps EStep AQ PStep PRun PCall TCall VCall
def bz (p:Int×Int):List AV:=[.int p.1,.int p.2]
def pcI (a b:Score) (x y:AV):AV:=.iptr (encS a++encS b++[x,y])
theorem Bc (a b:Score) (x y:AV) (ha:a.Small) (hb:b.Small):PCall Tryz.prog 197 [pcI a b x y] (.b (decide (a.bars.length>200∨b.bars.length>200))):=by
 have h1:=ha.1;have h2:=hb.1;refine PCall.body Tryz.func197 rfl rfl Tryz.ntmps197 rfl rfl ?_
 repeat' (first|refine qS ?_|apply sqW|refine rgK fun U V=>?_|(refine aN V ?_;clear V U)|refine rtW ?_|refine kD fun U V=>?_|(refine aqN (V _ ?_);clear V U)|refine aqQ rfl rfl (fun hg=>by first|exact ae|exact PRun.xc rfl rfl nd|exact ah) (by exact rfl) ?_)
 refine⟨.inr rfl,Ent.b ?_⟩;rw[decide_eq_decide];omega
theorem KY {n m:Nat} {a b:Int} {x:Int×Int} {r:PL} (h:x.1≤a∨x.2≤b∨(n:Int)≤x.1∨(m:Int)≤x.2):pOk n m a b (x::r)=false:=by
 cases hp:pOk n m a b (x::r) with
 |false=>rfl
 | true =>
   simp only[pOk,zA0,dEt] at hp;omega
theorem HT {n m:Nat} {a b:Int} {x:Int×Int} {r:PL} (h:¬(x.1≤a∨x.2≤b∨(n:Int)≤x.1∨(m:Int)≤x.2)):pOk n m a b (x::r)=pOk n m x.1 x.2 r:=by
 simp only[pOk];rw[decide_eq_true (show a<x.1 by omega),decide_eq_true (show b<x.2 by omega),decide_eq_true (show x.1<(n:Int) by omega),decide_eq_true (show x.2<(m:Int) by omega)];rfl
theorem mE {α:Type} [Inhabited α] {l:List α} {k:Nat} (h:k<l.length):l.drop k=l.getD k default::l.drop (k+1):=by
 rw[zBj h,aU h]
theorem xJ (a b:Score) (x y:AV) (ha:a.Small) (hb:b.Small) (l:PL) (hl:l.length≤1000000):PCall Tryz.prog 202 [pcI a b x y,.sl 2 (l.map bz) .no] (.b (pOk a.bars.length b.bars.length (-1) (-1) l)):=by
 have h1:=ha.1;have h2:=hb.1;refine PCall.body Tryz.func202 rfl rfl Tryz.ntmps202 rfl rfl ?_
 repeat' (first|refine qP ?_ (h:=fun hg=>by first|exact ae|exact pbD ab rfl rfl nds|exact ah)|apply sqW|refine rgK fun U V=>?_|(refine aN V ?_;clear V U)|refine aS ?_|refine aA ?_|refine blK ?_)
 refine lpD (ι:=Nat×Int×Int) (fun q=>[(0,pcI a b x y),(5,.ptr 0 0),(9,.sl 2 (l.map bz) .no),(10,.int l.length),(11,.int q.1)]) (fun q=>[.var (bz q.2)])
  (fun q=>q.1≤l.length∧pOk a.bars.length b.bars.length (-1) (-1) l=pOk a.bars.length b.bars.length q.2.1 q.2.2 (l.drop q.1)) (fun q=>l.length - q.1) 1 (fun _=>rfl) (0,-1,-1) ⟨nZl _,rfl⟩ ⟨rfl,rfl,rfl,rfl,rfl,tI⟩ rfl (fun _ _=>rfl) (fun _ _=>rfl) ?_
 rintro⟨k,la,lb⟩ ⟨hk,hp⟩;dsimp only at hk hp;by_cases hlt:k<l.length
 · obtain⟨z,hz⟩:∃z,l.getD k default=z:=⟨_,rfl⟩
   rw[mE hlt,hz] at hp
   repeat' (first|refine qP ?_ (h:=fun hg=>by first|exact iX bz l ((k:Nat):Int) hz (hb:=oM)|exact ae|exact ah)|apply sqW|refine rgK fun U V=>?_|(refine aN V ?_;clear V U)|refine aS ?_|refine aA ?_|refine cX ?_ ?_<;>intro hc<;>try simp only[dE] at hc|refine blK ?_|refine exW ?_|refine skW ?_|refine rtW ?_|refine kD fun U V=>?_|(refine aqN (V _ ?_);clear V U)|refine aqQ rfl rfl (fun hg=>by first|exact ae|exact PRun.xc rfl rfl nd|exact ah) (by exact rfl) ?_)
   all_goals (first|(exfalso;omega)|(exfalso;simp at hc;omega)|skip)
   · refine⟨.inr rfl,Ent.b (Eq.symm ?_)⟩;rw[hp];refine KY ?_;simp only[zAj,zBn,zA0,zAl,zBr,dEt,dEf,zB1,zB0,beq_iff_eq,beq_eq_false_iff_ne,bne_iff_ne,bne_eq_false_iff_eq,gt_iff_lt,ge_iff_le,ne_eq] at hc;omega
   · have hn:¬(z.1≤la∨z.2≤lb∨(a.bars.length:Int)≤z.1∨(b.bars.length:Int)≤z.2):=by
      simp only[zAj,zBn,zA0,zAl,zBr,dEt,dEf,zB1,zB0,beq_iff_eq,beq_eq_false_iff_ne,bne_iff_ne,bne_eq_false_iff_eq,gt_iff_lt,ge_iff_le,ne_eq] at hc;omega
     rw[HT hn] at hp;exact⟨(k+1,z.1,z.2),⟨hlt,hp⟩,by show l.length - (k+1)<l.length - k;omega,⟨rfl,rfl,rfl,rfl,rfl,tI⟩,rfl⟩
 · repeat' (first|refine qT ?_|apply sqW|refine rgK fun U V=>?_|(refine aN V ?_;clear V U)|refine aS ?_|refine aA ?_|refine cX ?_ ?_<;>intro hc<;>try simp only[dE] at hc|refine blK ?_|refine exW ?_|refine skW ?_|refine rtW ?_|refine kD fun U V=>?_|refine aqQ rfl rfl (fun hg=>by exact ae) (by exact rfl) ?_)
   all_goals (first|(exfalso;omega)|skip)
   refine⟨.inr rfl,Ent.b (Eq.symm ?_)⟩;rw[hp,zCx oM];rfl
def gv (a b:Score) (kn:List (cP×Int)):Prop:=∀(i k:Nat) (v:Int),lk kn ((i:Int),(k:Int))=some v→v=aw a b i k
theorem gv.nil (a b:Score):gv a b []:=fun i k v h=>by simp[lk] at h
theorem gv.ins {a b:Score} {kn:List (cP×Int)} (h:gv a b kn) (i k:Nat):gv a b (ins kn ((i:Int),(k:Int)) (aw a b i k)):=fun i' k' v hv=>by
 rw[fR] at hv;split at hv
 · rename_i e;simp only[Prod.mk.injEq] at e;have e1:i=i':=oM;have e2:k=k':=oM;subst e1;subst e2;simpa using hv.symm
 · exact h i' k' v hv
structure Nts (s:Score):Prop where
 len:s.notes.length≤1000000
 bars:s.bars.length≤1000000
 bf:∀n∈s.notes,bIn n
theorem Nts.bq {s:Score} (h:Nts s) (id:Int):(bq s id).length≤1000000∧∀n∈Al.bq s id,bIn n :=
 ⟨zBu (zBm _ _) h.len,fun n hn=>h.bf n (iT.1 hn).1⟩
def clsT (l:List Nat) (o:Oper):Nat:=match o.op,o.dst with
 |.alloc _,some d=>((l.idxOf? d).map (·+1)).getD 0
 |.store _ (.tmp t) _,_=>((l.idxOf? t).map (·+1)).getD 0
 |_,_=>0
def Jw (x:Bar) (k:Nat):aF:=match k with
 |0=>.arr 4 0 []
 |1=>.arr 4 1 [bD default]
 |_=>.arr 4 1 [bD x]
abbrev jE (s:aa) (x y:Bar) (i j:Nat):aa:=s++[Jw x i,Jw y j]
def knI (a b:Score) (kn:List (cP×Int)) (i k:Nat):List (cP×Int):=if (lk kn ((i:Int),(k:Int))).isSome then kn else ins kn ((i:Int),(k:Int)) (aw a b i k)
theorem gv.knI {a b:Score} {kn:List (cP×Int)} (h:gv a b kn) (i k:Nat):gv a b (knI a b kn i k):=by
 unfold Al.knI;split
 · exact h
 · exact h.ins i k
def Nd (o0 o1 o2:aF) (a b:Score) (al:NL) (kn:List (cP×Int)) (i k:Nat) (r:AV) (s:aa):Prop:=r=.int (aw a b i k)∧s=cM o0 o1 o2 a b al (knI a b kn i k)
theorem HU (a b:Score) (i k:Nat):aw a b i k=if (Db (bJ a i) (bJ b k)&&(wo (bJ a i).len (bJ b k).len&&kL (bq a (bJ a i).id) (bq b (bJ b k).id)))=true then 0 else if ((bJ a i).id==(bJ b k).id||((wo (bJ a i).len (bJ b k).len&&kL (bq a (bJ a i).id) (bq b (bJ b k).id))&&decide (((bq a (bJ a i).id).length:Int)>0)))=true then 1 else 5:=by
 rw[HA,Bool.and_comm (kL _ _)]
theorem xd {o0 o1 o2:aF} (h3:nS o0 o1 o2) {a b:Score} (ha:Nts a) (hb:Nts b) {al:NL} (hg0:Grp a b al) {kn:List (cP×Int)} (hkn:gv a b kn) {i k:Nat} (hi:i<a.bars.length) (hk:k<b.bars.length) :
 TCall Tryz.prog 200 [.ptr 7 0,.int i,.int k] (cM o0 o1 o2 a b al kn) (Nd o0 o1 o2 a b al kn i k):=by
 have ha1:=ha.bars;have hb1:=hb.bars;refine TCall.body Tryz.func200 rfl rfl Tryz.ntmps200 rfl rfl ?_;obtain⟨x,hx⟩:∃x,bJ a i=x:=⟨_,rfl⟩
 obtain⟨y,hy⟩:∃y,bJ b k=y:=⟨_,rfl⟩
 have ex:a.bars.getD ((i:Nat):Int).toNat default=x:=hx;have ey:b.bars.getD ((k:Nat):Int).toNat default=y:=hy;obtain⟨lx,vx⟩:=ha.bq x.id;obtain⟨ly,vy⟩:=hb.bq y.id;have m1:=uN _ lx vx;have m2:=uN _ ly vy;have m3:=sS (pT (bq a x.id)) (pT (bq b y.id)) (by rw[pU];omega) (by rw[pU];omega);rw[Ku vx vy] at m3;have hC:=HU a b i k;rw[hx,hy] at hC;have gx:=(hg0 x.id).1;have gy:=(hg0 y.id).2
 repeat' (first|refine qP ?_ (h:=fun hg=>by first|exact ae|exact PRun.gL ab rfl rfl nds|exact PRun.lookup (ok:=true) (ek:=ekP) (ev:=AV.int) (zv:=0) (al:=kn) (key:=((i:Int),(k:Int))) mV (lkG rfl) (lkG rfl) rfl rfl (Rd.w rfl nd) (Or.inr ⟨_,rfl,rfl⟩) (Rd.w rfl nd) rfl|exact ah)|apply sqW|refine rgK fun U V=>?_|(refine aN V ?_;clear V U)|refine cX ?_ ?_<;>intro hc<;>try simp only[dE] at hc|refine skW ?_|refine rtW ?_)
 · refine⟨.inr rfl,_,_,⟨?_,by unfold knI;rw[if_pos hc]⟩,rfl,nLr _,cT h3 (nLr _) a b al kn,rfl,rfl⟩;cases hl:lk kn ((i:Int),(k:Int)) with
   |none=>rw[hl] at hc;cases hc
   |some v=>rw[zCr,hkn i k v hl]
 have hkI:knI a b kn i k=ins kn ((i:Int),(k:Int)) (aw a b i k):=by unfold knI;rw[if_neg (by rw[hc];decide)]
 clear hc;refine AWP.kG 4 (AWP.kG 4 ?_);refine AWP.CM 2 (clsT [9,10]) (fun J=>jE (cM o0 o1 o2 a b al kn) x y (J 1) (J 2)) rfl (by kernel_rfl) dKn rfl dKn (fun U V=>?_)
 repeat' (first
  |refine VQ.q rfl dKn rfl rfl (fun J' hg=>by first|exact iX bD b.bars ((k:Nat):Int) ey (hb:=oM)|exact iX bD a.bars ((i:Nat):Int) ex (hb:=oM)|exact ae|exact ah) (by exact rfl) ?_)
 refine VQ.e 1 0 (v:=.bo 8 4 0 0 1) (d:=some 9) rfl dKn rfl ?_ ?_
 · intro au he J' hJ;show EStep _ _ _ _ (fun e s=>_∧s=jE _ x y (J' 1+1) (J' 2)) au (jE _ x y (J' 1) (J' 2));rw[hJ];exact EStep.pG (l:=8) (sz:=4) ab rfl rfl rfl rfl rfl rfl rfl rfl ⟨rfl,rfl⟩
 refine VQ.e 2 0 (v:=.bo 9 4 0 0 1) (d:=some 10) rfl dKn rfl ?_ ?_
 · intro au he J' hJ;show EStep _ _ _ _ (fun e s=>_∧s=jE _ x y (J' 1) (J' 2+1)) au (jE _ x y (J' 1) (J' 2));rw[hJ];exact EStep.pG (l:=9) (sz:=4) ab rfl rfl rfl rfl rfl rfl rfl rfl ⟨rfl,rfl⟩
 refine VQ.e 1 1 (v:=.any) (d:=none) rfl dKn rfl ?_ ?_
 · intro au he J' hJ;show EStep _ _ _ _ (fun e s=>_∧s=jE _ x y (J' 1+1) (J' 2)) au (jE _ x y (J' 1) (J' 2));rw[hJ];exact EStep.dK (l:=8) ab rfl rfl ((ai (he 9 dKn)).trans rfl) (by rw[aj (he 9 dKn)];first|exact tI|exact rfl) rfl dCd ((ai (he 34 dKn)).trans rfl) (by rw[aj (he 34 dKn)];first|exact tI|exact rfl) rfl rfl rfl rfl rfl rfl ⟨rfl,rfl⟩
 refine VQ.e 2 1 (v:=.any) (d:=none) rfl dKn rfl ?_ ?_
 · intro au he J' hJ;show EStep _ _ _ _ (fun e s=>_∧s=jE _ x y (J' 1) (J' 2+1)) au (jE _ x y (J' 1) (J' 2));rw[hJ];exact EStep.dK (l:=9) ab rfl rfl ((ai (he 10 dKn)).trans rfl) (by rw[aj (he 10 dKn)];first|exact tI|exact rfl) rfl dCd ((ai (he 42 dKn)).trans rfl) (by rw[aj (he 42 dKn)];first|exact tI|exact rfl) rfl rfl rfl rfl rfl rfl ⟨rfl,rfl⟩
 refine VQ.nil (V _ _ ?_);clear V U;show AWP _ _ _ _ _ (jE (cM o0 o1 o2 a b al kn) x y 2 2);refine AWP.dX [(0,.ptr 7 0),(1,.int i),(2,.int k),(9,.bo 8 4 0 0 1),(10,.bo 9 4 0 0 1)] ⟨rfl,rfl,rfl,rfl,rfl,tI⟩ ?_;generalize hCe:aw a b i k=C at *
 repeat' (first|refine qP ?_ (h:=fun hg=>by first|exact ae|exact PRun.qX ab rfl rfl nd rfl rfl|exact PRun.cZ ab rfl rfl nd rfl (zAa _) rfl rfl rfl|exact PRun.gL ab rfl rfl nds|exact PRun.eqN flBa rfl rfl nd rfl nd rfl|exact ah)|apply sqW|refine rgK fun U V=>?_|(refine aN V ?_;clear V U)|refine aoE (EStep.dm (ek:=ekP) (ev:=AV.int) (al:=kn) (key:=((i:Int),(k:Int))) mV (lkG rfl) rfl rfl rfl (Rd.w rfl tI) rfl (Rd.w rfl tI) rfl (Rd.w rfl tI) ?_)|refine cX ?_ ?_<;>intro hc<;>try simp only[dE] at hc|refine blK ?_|refine skW ?_|refine rtW ?_|refine kD fun U V=>?_|(refine aqN (V _ ?_);clear V U)|refine aqQ rfl rfl (fun hg=>by first|exact PRun.eq (PRun.sB (ek:=ekP) (sz:=12) (f:=ar) (al:=al) (key:=((1:Int),y.id)) mV (lkG rfl) (lkG rfl) rfl rfl (Rd.w rfl nd) (Or.inr ⟨_,rfl,rfl⟩) (Rd.w rfl nd) rfl) (show AV.sl 12 (((lk al ((1:Int),y.id)).getD []).map ar) .no=AV.sl 12 ((bq b y.id).map ar) .no by rw[gy])|exact PRun.eq (PRun.sB (ek:=ekP) (sz:=12) (f:=ar) (al:=al) (key:=((0:Int),x.id)) mV (lkG rfl) (lkG rfl) rfl rfl (Rd.w rfl nd) (Or.inr ⟨_,rfl,rfl⟩) (Rd.w rfl nd) rfl) (show AV.sl 12 (((lk al ((0:Int),x.id)).getD []).map ar) .no=AV.sl 12 ((bq a x.id).map ar) .no by rw[gx])|exact ae|exact PRun.qX ab rfl rfl nd rfl rfl|exact PRun.cZ ab rfl rfl nd rfl (zAa _) rfl rfl rfl|exact PRun.gL ab rfl rfl nds|exact pc m1|exact pc m2|exact pc m3|exact PRun.eqN Jq rfl rfl nd rfl nd rfl|exact ah) (by exact rfl) ?_)
 · have h2:=hC.trans (if_pos hc);rw[h2] at hkI hCe;exact⟨.inr rfl,_,cM o0 o1 o2 a b al (ins kn ((i:Int),(k:Int)) 0),⟨by rw[hCe],by rw[hkI]⟩,rfl,nLr _,cT h3 (nLr _) a b al _,rfl,rfl⟩
 · rename_i h1;have h2:=hC.trans ((if_neg (fun h=>Bool.noConfusion (Eq.trans (Eq.symm (show _=false from h1)) h))).trans (if_pos hc));rw[h2] at hkI hCe;exact⟨.inr rfl,_,cM o0 o1 o2 a b al (ins kn ((i:Int),(k:Int)) 1),⟨by rw[hCe],by rw[hkI]⟩,rfl,nLr _,cT h3 (nLr _) a b al _,rfl,rfl⟩
 · rename_i h1;have h2:=hC.trans ((if_neg (fun h=>Bool.noConfusion (Eq.trans (Eq.symm (show _=false from h1)) h))).trans (if_neg (fun h=>Bool.noConfusion (Eq.trans (Eq.symm (show _=false from hc)) h))));rw[h2] at hkI hCe;exact⟨.inr rfl,_,cM o0 o1 o2 a b al (ins kn ((i:Int),(k:Int)) 5),⟨by rw[hCe],by rw[hkI]⟩,rfl,nLr _,cT h3 (nLr _) a b al _,rfl,rfl⟩
def swp (ps:PL):PL:=ps.map fun p=>(p.2,p.1)
theorem xe (ps:PL) (i:Int):(lk (swp ps) i).isSome=bV ps i:=by
 rw[zp];unfold bC swp bV;rw[List.any_map];rfl
theorem oQ {ps:PL} {i k:Int} (h:bC ps i=false):ins ps i k=ps++[(i,k)]:=by
 induction ps with
 |nil=>rfl
 | cons p r ih =>
   obtain⟨x,y⟩:=p;unfold bC at h ih;rw[List.any_cons,zAl] at h;have hne:x≠i:=by simpa using h.1
   simp only[ins];rw[if_neg hne,ih h.2];rfl
def c9 (a:List ag) (ps:PL):List ag:=a.filter fun x=>!bC ps x.id
def dr (b:List ag) (ps:PL):List ag:=b.filter fun y=>!bV ps y.id
theorem DB {f:ag→ag→Bool} {b:List ag} {ps:PL} {x:ag} (h:bC ps x.id=true):cI f b ps x=ps:=by unfold cI;rw[if_pos h]
theorem ox {f:ag→ag→Bool} {b:List ag} (q:PL):∀{l:List ag} {ps:PL},(∀i,bC q i=true→bC ps i=true)→cj f l b ps=cj f (c9 l q) b ps
 |[],_,_=>rfl
 | x :: l, ps, h => by
   unfold c9;by_cases hx:bC q x.id=true
   · rw[zBx (by rw[hx];decide)];show cj f l b (cI f b ps x)=_;rw[DB (h _ hx)];exact ox q h
   · rw[zBq (by simpa using hx)];show cj f l b (cI f b ps x)=cj f (c9 l q) b (cI f b ps x);exact ox q fun i hi=>by
      obtain⟨k,hk⟩:=iS.1 (h i hi);exact iS.2 ⟨k,wT hk⟩
def df (f:ag→ag→Bool) (a b:List ag) (ps:PL) (j:Nat):PL:=cj f ((c9 a ps).take j) b ps
theorem FD {f:ag→ag→Bool} {a b:List ag} {ps:PL} {j:Nat} (h:j<(c9 a ps).length):df f a b ps (j+1)=cI f b (df f a b ps j) ((c9 a ps).getD j default):=by
 unfold df cj;rw[jK h,zC6];rfl
theorem HV {f:ag→ag→Bool} {a b:List ag} {ps:PL}:df f a b ps (c9 a ps).length=cj f a b ps:=by
 unfold df;rw[zB2];exact(ox ps (fun _ h=>h)).symm
theorem FE {f:ag→ag→Bool} {b:List ag} {ps:PL} {x:ag} {i:Int} (h:i≠x.id):bC (cI f b ps x) i=bC ps i:=by
 unfold cI;split
 · rfl
 · split
   · rw[rm];simp[bC];intro e;exact absurd e.symm h
   · rfl
theorem p9 {f:ag→ag→Bool} {b:List ag}:∀{l:List ag} {ps:PL} {i:Int},(∀x∈l,x.id≠i)→bC (cj f l b ps) i=bC ps i
 |[],_,_,_=>rfl
 | x :: l, ps, i, h => by
   show bC (cj f l b (cI f b ps x)) i=_;rw[p9 (l:=l) fun y hy=>h y (zAk _ hy),FE (h x (zAr ..)).symm]
theorem KZ {f:ag→ag→Bool} {a b:List ag} {ps:PL} (hn:(a.map (·.id)).Nodup) {k:Nat} (hk:k<a.length) :
 (lk (df f a b ps ((a.take k).filter fun x=>!bC ps x.id).length) (a.getD k default).id).isSome=bC ps (a.getD k default).id:=by
 rw[zp];unfold df c9;exact p9 (C9 (f:=fun n:ag=>n.id) (fun x=>!bC ps x.id) hn hk)
theorem xf {α:Type} [Inhabited α] {p:α→Bool}:∀{l:List α} {j:Nat},j<l.length→(∀i,i<j→p (l.getD i default)=false)→p (l.getD j default)=true→l.find? p=some (l.getD j default)
 | x :: l, 0, _, _, h => by
   rw[zDe];have h:p x=true:=h;rw[h];rfl
 | x :: l, j + 1, hj, h1, h2 => by
   rw[zDe];have h0:p x=false:=h1 0 (zAa _);rw[h0];exact xf (l:=l) (j:=j) (by simpa using hj) (fun i hi=>h1 (i+1) oM) h2
theorem lM {α:Type} (p q:α→Bool):∀l:List α,l.find? (fun y=>p y&&q y)=(l.filter p).find? q
 |[]=>rfl
 | y :: l => by
   rw[zDe];by_cases hp:p y=true
   · rw[zBq hp,zDe,hp,zBw,lM p q l]
   · have hp':p y=false:=by simpa using hp
     rw[zBx hp,hp',Bool.false_and,lM p q l]
theorem HW {f:ag→ag→Bool} {b:List ag} {ps:PL} {x:ag} (hx:bC ps x.id=false) {j:Nat} (hj:j<(dr b ps).length) (h1:∀i,i<j→f x ((dr b ps).getD i default)=false) (h2:f x ((dr b ps).getD j default)=true) :
 cI f b ps x=ps++[(x.id,((dr b ps).getD j default).id)]:=by
 unfold cI;rw[if_neg (by rw[hx];decide),lM (fun y=>!bV ps y.id) (f x)];rw[xf (l:=b.filter fun y=>!bV ps y.id) hj h1 h2];rfl
theorem DC {f:ag→ag→Bool} {b:List ag} {ps:PL} {x:ag} (hx:bC ps x.id=false) (h1:∀i,i<(dr b ps).length→f x ((dr b ps).getD i default)=false):cI f b ps x=ps:=by
 unfold cI;rw[if_neg (by rw[hx];decide),lM (fun y=>!bV ps y.id) (f x)];have:(b.filter fun y=>!bV ps y.id).find? (f x)=none:=by
  rw[List.find?_eq_none];intro y hy;obtain⟨i,hi,rfl⟩:=zB9.1 hy;have h9:f x ((b.filter fun y=>!bV ps y.id).getD i default)=false:=h1 i hi;rw[aU hi] at h9;rw[h9];decide
 rw[this]
end Go.Proofs.YtmjdoencpjpegaaGreatDoor.Al
namespace Go.Proofs.YtmjdoencpjpegaaGreatDoor.Al
open Go.Ab Go.Sort
theorem mX {s:Score} (h:aQ s=true):inB s.version 1 1000000=true∧fE s.bars=true∧lf s.parts=true∧du s.bars s.notes=true∧oW s.parts s.notes=0:=by
 unfold aQ lg at h;simp only[zA0,zB1,zAl,zB0,bne_eq_false_iff_eq] at h;exact⟨h.1.1.1.1.1,h.1.1.1.1.2,h.1.1.1.2,h.1.1.2,h.1.2⟩
theorem xg {r:Rat} (h:(dp r).2=true):eM r=true:=by
 unfold dp at h;split at h
 · rename_i h1;exact(nI.1 h1).1
 · cases h
theorem DD {b:Bar} {n:ag} (h:gJ b n=true):bIn n:=by
 unfold gJ fits iM si fQ inB at h;simp only[zA0,dEt] at h;have r1:=eF.1 (xg h.1.1.1.1);have r2:=eF.1 (xg h.1.1.1.2);intro x hx;simp only[dj,zAw,zCm,or_false] at hx;rcases hx with rfl|rfl|rfl|rfl|rfl|rfl|rfl|rfl|rfl|rfl<;>omega
theorem tM {bars:List Bar} {n:ag} (h:jw bars n=true):∃j:Nat,j<bars.length∧(bars.getD j default).id=n.bar∧gJ (bars.getD j default) n=true:=by
 unfold jw at h;split at h
 · rename_i i hi;obtain⟨j,rfl,h2,h3⟩:=uA bars n.bar _ _ hi;exact⟨j,h2,h3,h⟩
 · cases h
theorem x6 {s:Score} (h:aQ s=true):Sc s:=by
 obtain⟨_,h2,_,h4,_⟩:=mX h;exact⟨qx h4,yP h2⟩
theorem vj {s:Score} (h:aQ s=true):Nts s:=by
 obtain⟨_,h2,_,h4,_⟩:=mX h;obtain⟨_,h5,h6⟩:=ou h4;refine⟨oM,?_,fun n hn=>?_⟩
 · unfold fE at h2;simp only[zA0,dEt] at h2;omega
 · obtain⟨j,_,_,h7⟩:=tM (h6 n hn);exact DD h7
theorem FF {α:Type} [Inhabited α] {p:α→Bool} {l:List α}:aX p l≥0↔∃x∈l,p x=true:=by
 constructor
 · intro h;obtain⟨k,_,h2,h3,_⟩:=eh h;exact⟨_,by rw[aU h2];exact lGm h2,h3⟩
 · rintro⟨x,hx,hp⟩;rcases(show aX p l≥0∨aX p l<0 by omega) with h|h
   · exact h
   · exfalso;have h2:=Er.1 h;unfold aX at h2;split at h2
     · omega
     · rename_i h3;rw[zDn] at h3;rw[h3 x hx] at hp;cases hp
end Go.Proofs.YtmjdoencpjpegaaGreatDoor.Al
namespace Go.Ab
theorem AWP.L9 {P:Program} {n:Nat} {c:Code} {K:Exit→Env→aa→Prop} {env:Env} {σ:aa} (d:Nat) {sz:Nat} {t:Tok} {es:List (List AV)} (hd:env d=.sl sz es t) (hk:AWP P n c K (env.put d (.sl sz es .no)) σ):AWP P n c K env σ :=
 fun G a w hr=>hk G a w ⟨hr.size,hr.defers,fun i=>by
  by_cases h:i=d
  · subst h;have:=hr.bf i;rw[hd] at this;simp only[Env.put,if_true];exact ll.no _ _ _ _ _ _ this
  · simp only[Env.put,if_neg h];exact hr.bf i,hr.st⟩
def Jx (o:Oper):Bool:=match o.op with
 |.call { callee:=.value _,.. }=>true
 |_=>dJ o
end Go.Ab
namespace Go.Proofs.YtmjdoencpjpegaaGreatDoor.Al
open Go.Ab Go.Sort
attribute [local irreducible] AWP AOps EStep AQ PStep PRun PCall TCall VCall
def encI (n:Int):List AV:=[.int n]
def cG (r:List Int):List AV:=[.sl 1 (r.map encI) .no]
def Ma (o0 o1 o2:aF) (a b:Score) (al:NL) (kn:List (cP×Int)) (i k:Nat) (r:AV) (s:aa):Prop :=
 r=.int (T (aw a b) i k)∧s=cM o0 o1 o2 a b al (if i=0 then kn else if k=0 then kn else knI a b kn (i - 1) (k - 1))
theorem tN (a b:Score) (i k:Nat):0≤T (aw a b) i k∧T (aw a b) i k≤2 * ((i:Int)+k):=⟨(xV (fun i k=>(tE a b i k).1) i k).1,GV i k⟩
theorem DE {o0 o1 o2:aF} (h3:nS o0 o1 o2) {a b:Score} (ha:Nts a) (hb:Nts b) {al:NL} (hg0:Grp a b al) {kn:List (cP×Int)} (hkn:gv a b kn) {i k w:Nat} (hi:i≤a.bars.length) (hk:k≤b.bars.length) (hkw:k<w) :
 TCall Tryz.prog 220 [.ptr 7 0,.sl 1 ((bK (aw a b) i w).map cG) .no,.sl 1 ((bU (aw a b) i k).map encI) .no] (cM o0 o1 o2 a b al kn) (Ma o0 o1 o2 a b al kn i k):=by
 have ha1:=ha.bars;have hb1:=hb.bars;have l1:=kM (aw a b) i w;have l2:=fG (aw a b) i k;cases i with
 | zero =>
   cases k with
   | zero =>
     refine TCall.body Tryz.func220 rfl rfl Tryz.ntmps220 rfl rfl ?_
     repeat' (first|refine qP ?_ (h:=fun hg=>by first|exact PRun.eq (v:=.int (bU (aw a b) 0 0).length) (PRun.ph ab rfl rfl nd rfl) (congrArg (fun n:Nat=>AV.int n) l2)|exact PRun.eq (v:=.int (bK (aw a b) 0 w).length) (PRun.ph ab rfl rfl nd rfl) (congrArg (fun n:Nat=>AV.int n) l1)|exact ae|exact ah)|apply sqW|refine rgK fun U V=>?_|(refine aN V ?_;clear V U)|refine cX ?_ ?_<;>intro hc<;>try simp only[dE] at hc|refine skW ?_|refine rtW ?_|refine kD fun U V=>?_|refine aqQ rfl rfl (fun hg=>by first|exact ae|exact ah) (by exact rfl) ?_)
     all_goals (first|(exfalso;omega)|(exfalso;simp at hc;done)|skip)
     exact⟨.inr rfl,_,cM o0 o1 o2 a b al kn,⟨congrArg AV.int (by rw[lR];rfl),rfl⟩,rfl,nLr _,cT h3 (nLr _) a b al kn,rfl,rfl⟩
   | succ k =>
     obtain⟨t1,t2⟩:=tN a b 0 k;have e1:(bU (aw a b) 0 (k+1)).getD (((k+1:Nat):Int) - 1).toNat default=T (aw a b) 0 k:=by
      rw[show(((k+1:Nat):Int) - 1).toNat=k by omega];exact dM (zCd _) _
     have e2:=lR (c:=aw a b) (k+1);have e3:=lR (c:=aw a b) k;refine TCall.body Tryz.func220 rfl rfl Tryz.ntmps220 rfl rfl ?_
     repeat' (first|refine qP ?_ (h:=fun hg=>by first|exact iX encI (bU (aw a b) 0 (k+1)) (((k+1:Nat):Int) - 1) e1 (hb:=by rw[l2];omega)|exact PRun.eq (v:=.int (bU (aw a b) 0 (k+1)).length) (PRun.ph ab rfl rfl nd rfl) (congrArg (fun n:Nat=>AV.int n) l2)|exact PRun.eq (v:=.int (bK (aw a b) 0 w).length) (PRun.ph ab rfl rfl nd rfl) (congrArg (fun n:Nat=>AV.int n) l1)|exact ae|exact ah)|apply sqW|refine rgK fun U V=>?_|(refine aN V ?_;clear V U)|refine cX ?_ ?_<;>intro hc<;>try simp only[dE] at hc|refine skW ?_|refine rtW ?_|refine kD fun U V=>?_|refine aqQ rfl rfl (fun hg=>by first|exact ae|exact ah) (by exact rfl) ?_)
     all_goals (first|(exfalso;omega)|(exfalso;simp at hc;done)|(exfalso;simp at hc;omega)|skip)
     exact⟨.inr rfl,_,cM o0 o1 o2 a b al kn,⟨congrArg AV.int oM,rfl⟩,rfl,nLr _,cT h3 (nLr _) a b al kn,rfl,rfl⟩
 | succ i =>
   have e0:(bK (aw a b) (i+1) w).getD (((i+1:Nat):Int) - 1).toNat default=bU (aw a b) i w:=by
    rw[show(((i+1:Nat):Int) - 1).toNat=i by omega];exact fm (zCd _) _
   have l3:=fG (aw a b) i w;obtain⟨t1,t2⟩:=tN a b i k;have e4:(bU (aw a b) i w).getD ((k:Nat):Int).toNat default=T (aw a b) i k:=dM hkw _;cases k with
   | zero =>
     have e2:=jv (c:=aw a b) (i+1);have e3:=jv (c:=aw a b) i;refine TCall.body Tryz.func220 rfl rfl Tryz.ntmps220 rfl rfl ?_
     repeat' (first|refine qP ?_ (h:=fun hg=>by first|exact iX encI (bU (aw a b) i w) ((0:Nat):Int) e4 (hb:=by rw[l3];omega)|exact iX cG (bK (aw a b) (i+1) w) (((i+1:Nat):Int) - 1) e0 (hb:=by rw[l1];omega)|exact PRun.eq (v:=.int (bU (aw a b) (i+1) 0).length) (PRun.ph ab rfl rfl nd rfl) (congrArg (fun n:Nat=>AV.int n) l2)|exact PRun.eq (v:=.int (bK (aw a b) (i+1) w).length) (PRun.ph ab rfl rfl nd rfl) (congrArg (fun n:Nat=>AV.int n) l1)|exact ae|exact ah)|apply sqW|refine rgK fun U V=>?_|(refine aN V ?_;clear V U)|refine cX ?_ ?_<;>intro hc<;>try simp only[dE] at hc|refine skW ?_|refine rtW ?_|refine kD fun U V=>?_|refine aqQ rfl rfl (fun hg=>by first|exact iX encI (bU (aw a b) i w) ((0:Nat):Int) e4 (hb:=by rw[l3];omega)|exact iX cG (bK (aw a b) (i+1) w) (((i+1:Nat):Int) - 1) e0 (hb:=by rw[l1];omega)|exact ae|exact ah) (by exact rfl) ?_)
     all_goals (first|(exfalso;omega)|(exfalso;simp at hc;done)|(exfalso;simp at hc;omega)|skip)
     exact⟨.inr rfl,_,cM o0 o1 o2 a b al kn,⟨congrArg AV.int oM,rfl⟩,rfl,nLr _,cT h3 (nLr _) a b al kn,rfl,rfl⟩
   | succ k =>
     have e5:(bU (aw a b) (i+1) (k+1)).getD (((k+1:Nat):Int) - 1).toNat default=T (aw a b) (i+1) k:=by
      rw[show(((k+1:Nat):Int) - 1).toNat=k by omega];exact dM (zCd _) _
     have e6:(bU (aw a b) i w).getD (((k+1:Nat):Int) - 1).toNat default=T (aw a b) i k:=by
      rw[show(((k+1:Nat):Int) - 1).toNat=k by omega];exact dM oM _
     have e7:=oN (c:=aw a b) i k;have e8:=GV (c:=aw a b) i (k+1);obtain⟨t3,t4⟩:=tN a b (i+1) k;obtain⟨t5,t6⟩:=tN a b i k;have c1:=tE a b i k;have hc0:=TCall.val (first:=[]) (aM:=[]) (avs:=[.ptr 7 0,.int i,.int k]) (xd h3 ha hb hg0 hkn (show i<a.bars.length by omega) (show k<b.bars.length by omega));have hi1:AV.int (((i+1:Nat):Int) - 1)=AV.int i:=congrArg AV.int oM;have hk1:AV.int (((k+1:Nat):Int) - 1)=AV.int k:=congrArg AV.int oM;refine TCall.body Tryz.func220 rfl rfl Tryz.ntmps220 rfl rfl ?_
     repeat' (first|refine qP ?_ (h:=fun hg=>by first|exact iX encI (bU (aw a b) (i+1) (k+1)) (((k+1:Nat):Int) - 1) e5 (hb:=by rw[l2];omega)|exact iX encI (bU (aw a b) i w) ((k+1:Nat):Int) (x:=T (aw a b) i (k+1)) (dM hkw _) (hb:=by rw[l3];omega)|exact iX cG (bK (aw a b) (i+1) w) (((i+1:Nat):Int) - 1) e0 (hb:=by rw[l1];omega)|exact PRun.eq (v:=.int (bU (aw a b) (i+1) (k+1)).length) (PRun.ph ab rfl rfl nd rfl) (congrArg (fun n:Nat=>AV.int n) l2)|exact PRun.eq (v:=.int (bK (aw a b) (i+1) w).length) (PRun.ph ab rfl rfl nd rfl) (congrArg (fun n:Nat=>AV.int n) l1)|exact ae|exact ah)|apply sqW|refine rgK fun U V=>?_|(refine aN V ?_;clear V U)|refine cX ?_ ?_<;>intro hc<;>try simp only[dE] at hc|refine skW ?_|refine rtW ?_)
     all_goals (first|(exfalso;omega)|(exfalso;simp at hc;done)|(exfalso;simp at hc;omega)|skip)
     refine AWP.gj Jx (fun j=>match j with|0=>cM o0 o1 o2 a b al kn|_=>cM o0 o1 o2 a b al (knI a b kn i k)) rfl (by kernel_rfl) dKn rfl dKn (fun U V=>?_)
     repeat' (first
      |refine yt (h:=by refine⟨?_,?_,?_,?_⟩<;>intro hh hg<;>first|exact absurd hh dKn|exact iX encI (bU (aw a b) i w) ((k:Nat):Int) (x:=T (aw a b) i k) (dM oM _) (hb:=by rw[l3];omega)|exact iX cG (bK (aw a b) (i+1) w) ((i:Nat):Int) (fm (zCd _) _) (hb:=by rw[l1];omega)|exact PRun.eq (PRun.step ab rfl sd) hk1|exact PRun.eq (PRun.step ab rfl sd) hi1|exact ae|exact ah|fail) (hk:=?_)|fail)
     refine YQ.e (v:=.int (aw a b i k)) (d:=some 62) rfl rfl rfl ?_ ?_
     · intro au he;refine scT hc0 rfl rfl rfl rfl rfl tI rfl (by simp only[rds,ai (he 57 dKn),ai (he 59 dKn),ai (he 61 dKn)];rfl) ⟨(by rw[aj (he 57 dKn)];first|exact tI|exact rfl),(by rw[aj (he 59 dKn)];first|exact tI|exact rfl),(by rw[aj (he 61 dKn)];first|exact tI|exact rfl),tI⟩ ?_;rintro _ _ ⟨rfl,rfl⟩;exact⟨rfl,rfl⟩
     repeat' (first
      |refine yt (hk:=?_)|fail)
     refine YQ.nil (V _ _ ?_);clear V U
     repeat' (first|refine qS ?_|apply sqW|refine rgK fun U V=>?_|(refine aN V ?_;clear V U)|refine rtW ?_)
     exact⟨.inr rfl,_,cM o0 o1 o2 a b al (knI a b kn i k),⟨congrArg AV.int oM,rfl⟩,rfl,nLr _,cT h3 (nLr _) a b al _,rfl,rfl⟩
end Go.Proofs.YtmjdoencpjpegaaGreatDoor.Al
namespace Go.Proofs.YtmjdoencpjpegaaGreatDoor.Al
open Go.Ab Go.Sort
abbrev KL:=List (cP×Int)
end Go.Proofs.YtmjdoencpjpegaaGreatDoor.Al
