/- Parts of the proof. No statement is proved here. -/
import Derived.Test.YtmjdoencpjpegaaGreatDoorP36
import Derived.Test.YtmjdoencpjpegaaGreatDoorP37
set_option linter.unusedVariables false
set_option linter.unusedSimpArgs false
set_option maxHeartbeats 16000000
set_option maxRecDepth 20000
namespace Go.Proofs.YtmjdoencpjpegaaGreatDoor.De
open Go.Ab Go.Pl Pl
attribute [local irreducible] AWP AOps EStep AQ PStep PRun PCall TCall VCall
theorem Nw {o0 o1 o2 o7:aF} (h0:OkA o0) (h1:OkA o1) (h2:OkA o2) (h7:ak 8 o7=true) (ws:List ba) (r:Room) (hr:r.aY.Pairwise (·<·)) (hl:r.aY.length≤1000) (d:Dec) :
 TCall Tryz.prog 76 [.ptr 4 0,.ptr 5 0] (st8 o0 o1 o2 ws r d o7) (fun rv s=>rv=.int (ee r.aY d).2∧s=st8 o0 o1 o2 ws { r with aY:=(ee r.aY d).1 } d o7):=by
 have w:=nq (K7 h0 h1 h2 ws r hr hl d) h0 h1 h2 (eO ws r) rfl (tl8 d o7);refine TCall.body Tryz.func76 rfl rfl Tryz.ntmps76 rfl rfl ?_
 repeat' (first|refine qS ?_|apply sqW|refine rgK fun U V=>?_|(refine aN V ?_;clear V U)|refine aoE (scT (w) rfl rfl rfl rfl rfl nd rfl rfl nds ?_))
 rintro _ _ ⟨rfl,rfl⟩
 repeat' (first|refine qS ?_|(refine aN V ?_;clear V U)|refine rtW ?_)
 exact⟨.inr rfl,_,st8 o0 o1 o2 ws { r with aY:=(ee r.aY d).1 } d o7,⟨rfl,rfl⟩,rfl,by simp,ok8 h0 h1 h2 h7 ws _ d,rfl,rfl⟩
abbrev fnO (f:FuncId) (a b:Nat):AV:=.fn (.func f) [] [.ptr a 0,.ptr b 0]
def dq:List (Int×AV):=[(1,fnO 67 4 5),(2,fnO 69 4 6),(3,fnO 72 4 6),(4,fnO 74 5 4),(5,fnO 76 4 5)]
abbrev Ak (l:List (Int×AV)):aF:=.map (aD (fun n:Int=>Value.int .i64 n) (fun v:AV=>v) l)
theorem okK:ak 8 (Ak dq)=true:=by kernel_rfl
theorem lC (k:Int):lk dq k=if k=1 then some (fnO 67 4 5) else if k=2 then some (fnO 69 4 6) else if k=3 then some (fnO 72 4 6) else if k=4 then some (fnO 74 5 4) else if k=5 then some (fnO 76 4 5) else none:=by
 by_cases h1:k=1
 · subst h1;rfl
 by_cases h2:k=2
 · subst h2;rfl
 by_cases h3:k=3
 · subst h3;rfl
 by_cases h4:k=4
 · subst h4;rfl
 by_cases h5:k=5
 · subst h5;rfl
 rw[if_neg h1,if_neg h2,if_neg h3,if_neg h4,if_neg h5];unfold dq lk;rw[if_neg (fun e=>h1 e.symm)];unfold lk;rw[if_neg (fun e=>h2 e.symm)];unfold lk;rw[if_neg (fun e=>h3 e.symm)];unfold lk;rw[if_neg (fun e=>h4 e.symm)];unfold lk;rw[if_neg (fun e=>h5 e.symm)];rfl
theorem IC (k:Int) (h:k≠1∧k≠2∧k≠3∧k≠4∧k≠5):lk dq k=none:=by
 rw[lC,if_neg h.1,if_neg h.2.1,if_neg h.2.2.1,if_neg h.2.2.2.1,if_neg h.2.2.2.2]
abbrev me:Int→Value:=fun n=>Value.int .i64 n
abbrev evA:AV→AV:=fun v=>v
theorem vA {o0 o1 o2:aF} (h0:OkA o0) (h1:OkA o1) (h2:OkA o2) (ws:List ba) (r r':Room) (e:Int) (d:Dec) (f:FuncId) (a b:Nat) (hf:lk dq d.kind=some (fnO f a b))
 (w:TCall Tryz.prog f [.ptr a 0,.ptr b 0] (st8 o0 o1 o2 ws r d (Ak dq)) (fun rv s=>rv=.int e∧s=st8 o0 o1 o2 ws r' d (Ak dq))) :
 TCall Tryz.prog 34 [.ptr 3 0,.agg (bu d)] [o0,o1,o2,.var (stC ws r)] (fun rv s=>rv=.int e∧s=[o0,o1,o2,.var (stC ws r')]):=by
 have hok:∀r,([o0,o1,o2,.var (stC ws r)]:aa).all (ak 4)=true:=fun r=>by
  simp only[zAq,zAu,h0 4,h1 4,h2 4,eO ws r 4];rfl
 have wv:VCall Tryz.prog (fnO f a b) [] (st8 o0 o1 o2 ws r d (Ak dq)) (fun rv s=>rv=.int e∧s=st8 o0 o1 o2 ws r' d (Ak dq)):=TCall.val (first:=[]) (aM:=[.ptr a 0,.ptr b 0]) (avs:=[]) w;refine TCall.body Tryz.func34 rfl rfl Tryz.ntmps34 rfl rfl ?_
 repeat' (first|refine qP ?_ (h:=fun hg=>by first|exact ae|exact pbD ab rfl rfl nds|exact PRun.dv (ek:=me) (ev:=evA) (al:=dq) (zv:=.prim .nilFunc) hf (ay (lkG rfl)) (lkG rfl) (lkG rfl) rfl rfl (Rd.w rfl nd) (Or.inr ⟨7,rfl,rfl⟩) (Rd.w rfl nd) rfl|fail)|apply sqW|refine rgK fun U V=>?_|(refine aN V ?_;clear V U)|refine aB ?_|refine aS ?_|refine aA ?_|refine aoE (EStep.cz rfl rfl rfl rfl ?_)|refine aoE (EStep.insert (ek:=me) (ev:=evA) (al:=dq.take 0) (ay (lkG rfl)) (lkG rfl) rfl rfl rfl (Rd.w rfl tI) rfl (Rd.w rfl tI) rfl (Rd.w rfl tI) ?_)|refine aoE (EStep.insert (ek:=me) (ev:=evA) (al:=dq.take 1) (ay (lkG rfl)) (lkG rfl) rfl rfl rfl (Rd.w rfl tI) rfl (Rd.w rfl tI) rfl (Rd.w rfl tI) ?_)|refine aoE (EStep.insert (ek:=me) (ev:=evA) (al:=dq.take 2) (ay (lkG rfl)) (lkG rfl) rfl rfl rfl (Rd.w rfl tI) rfl (Rd.w rfl tI) rfl (Rd.w rfl tI) ?_)|refine aoE (EStep.insert (ek:=me) (ev:=evA) (al:=dq.take 3) (ay (lkG rfl)) (lkG rfl) rfl rfl rfl (Rd.w rfl tI) rfl (Rd.w rfl tI) rfl (Rd.w rfl tI) ?_)|refine aoE (EStep.insert (ek:=me) (ev:=evA) (al:=dq.take 4) (ay (lkG rfl)) (lkG rfl) rfl rfl rfl (Rd.w rfl tI) rfl (Rd.w rfl tI) rfl (Rd.w rfl tI) ?_))
 repeat' (first|refine qS ?_|apply sqW|refine rgK fun U V=>?_|(refine aN V ?_;clear V U)|refine aoE (scT (wv) rfl rfl rfl rfl rfl nd rfl rfl nds ?_)|refine cX ?_ ?_<;>intro hc<;>try simp only[dE] at hc|refine skW ?_|refine rtW ?_)
 · exact Bool.noConfusion hc
 rintro _ _ ⟨rfl,rfl⟩
 repeat' (first|refine qS ?_|(refine aN V ?_;clear V U)|refine rtW ?_)
 exact⟨.inr rfl,_,[o0,o1,o2,.var (stC ws r')],⟨rfl,rfl⟩,rfl,by simp,hok _,rfl,rfl⟩
theorem Nx {o0 o1 o2:aF} (h0:OkA o0) (h1:OkA o1) (h2:OkA o2) (ws:List ba) (r:Room) (d:Dec) (hf:lk dq d.kind=none) :
 TCall Tryz.prog 34 [.ptr 3 0,.agg (bu d)] [o0,o1,o2,.var (stC ws r)] (fun rv s=>rv=.int 1∧s=[o0,o1,o2,.var (stC ws r)]):=by
 have hok:∀r,([o0,o1,o2,.var (stC ws r)]:aa).all (ak 4)=true:=fun r=>by
  simp only[zAq,zAu,h0 4,h1 4,h2 4,eO ws r 4];rfl
 refine TCall.body Tryz.func34 rfl rfl Tryz.ntmps34 rfl rfl ?_
 repeat' (first|refine qP ?_ (h:=fun hg=>by first|exact ae|exact pbD ab rfl rfl nds|exact PRun.dv (ek:=me) (ev:=evA) (al:=dq) (zv:=.prim .nilFunc) hf (ay (lkG rfl)) (lkG rfl) (lkG rfl) rfl rfl (Rd.w rfl nd) (Or.inr ⟨7,rfl,rfl⟩) (Rd.w rfl nd) rfl|fail)|apply sqW|refine rgK fun U V=>?_|(refine aN V ?_;clear V U)|refine aB ?_|refine aS ?_|refine aA ?_|refine aoE (EStep.cz rfl rfl rfl rfl ?_)|refine aoE (EStep.insert (ek:=me) (ev:=evA) (al:=dq.take 0) (ay (lkG rfl)) (lkG rfl) rfl rfl rfl (Rd.w rfl tI) rfl (Rd.w rfl tI) rfl (Rd.w rfl tI) ?_)|refine aoE (EStep.insert (ek:=me) (ev:=evA) (al:=dq.take 1) (ay (lkG rfl)) (lkG rfl) rfl rfl rfl (Rd.w rfl tI) rfl (Rd.w rfl tI) rfl (Rd.w rfl tI) ?_)|refine aoE (EStep.insert (ek:=me) (ev:=evA) (al:=dq.take 2) (ay (lkG rfl)) (lkG rfl) rfl rfl rfl (Rd.w rfl tI) rfl (Rd.w rfl tI) rfl (Rd.w rfl tI) ?_)|refine aoE (EStep.insert (ek:=me) (ev:=evA) (al:=dq.take 3) (ay (lkG rfl)) (lkG rfl) rfl rfl rfl (Rd.w rfl tI) rfl (Rd.w rfl tI) rfl (Rd.w rfl tI) ?_)|refine aoE (EStep.insert (ek:=me) (ev:=evA) (al:=dq.take 4) (ay (lkG rfl)) (lkG rfl) rfl rfl rfl (Rd.w rfl tI) rfl (Rd.w rfl tI) rfl (Rd.w rfl tI) ?_))
 repeat' (first|refine qS ?_|apply sqW|refine rgK fun U V=>?_|(refine aN V ?_;clear V U)|refine cX ?_ ?_<;>intro hc<;>try simp only[dE] at hc|refine skW ?_|refine rtW ?_)
 · exact⟨.inr rfl,_,[o0,o1,o2,.var (stC ws r)],⟨rfl,rfl⟩,rfl,by simp,hok _,rfl,rfl⟩
 all_goals exact Bool.noConfusion hc
end Go.Proofs.YtmjdoencpjpegaaGreatDoor.De
namespace Go.Ab
theorem TCall.dummy {P:Program} {f:FuncId} {avs:List AV} {Q:AV→aa→Prop} (h:TCall P f avs [.dead] Q):TCall P f avs [] Q:=by
 refine⟨h.1,fun G w vs hs ha=>?_⟩;have hB:G.B=[]:=zAv (by simpa using hs.len);have hle:BLe G.B [GB.own none 0 0]:=by rw[hB];intro l g hg;simp at hg
 have hs':az { G with M:=G.M,B:=[.own none 0 0] } [.dead] w:=by
  refine⟨hs.ax,hs.m0,hs.base,rfl,fun l g o h1 h2=>?_,fun l g b h1 h2=>?_,fun l l' g g' b h1 h2 h3 h4=>?_,hs.out,⟨fun p hp=>?_,hs.dfr.2⟩⟩
  · have:o=.dead:=zA9.1 (zAe h2);subst this;exact .dead _
  · have:g=.own none 0 0:=zA9.1 (zAe h1);subst this;cases h2
  · have:g=.own none 0 0:=zA9.1 (zAe h1);subst this;cases h3
  · obtain⟨k1,k2,k3,k4⟩:=hs.dfr.1 p hp;refine⟨k1,k2,fun l g hg=>?_,k4⟩;have:g=.own none 0 0:=zA9.1 (zAe hg);subst this;simp[GB.block]
 refine(h.2 _ w vs hs' ⟨ha.1,fun i c hc=>(ha.2 i c hc).mono (Mem.Le.refl _) hle⟩).mono ?_;rintro e w' ⟨v,rv,s,G',k1,k2,k3,k4,k5⟩;exact⟨v,rv,s,G',k1,k2,Gh.Le.trans (.up (Mem.Le.refl _) hle) k3,k4,k5⟩
end Go.Ab
namespace Go.Proofs.YtmjdoencpjpegaaGreatDoor.De
open Go.Ab Go.Pl Pl
attribute [local irreducible] AWP AOps EStep AQ PStep PRun PCall TCall VCall
theorem D3 {o0 o1 o2:aF} (h0:OkA o0) (h1:OkA o1) (h2:OkA o2) (ws:List ba) (hne:ws≠[]) (hl:ws.length≤1000000000) (hws:∀w∈ws,WIn w) :
 TCall Tryz.prog 48 [.sl 12 (ws.map bb) .no] [o0,o1,o2] (fun rv s=>rv=.ptr 3 0∧s=[o0,o1,o2,.var (stC ws (bZ ws))]):=by
 have cC:0<ws.length:=zDr.2 hne;obtain⟨w,hwk⟩:∃w,ws.getD 0 default=w:=⟨_,rfl⟩
 have hin:=hws w (hwk▸il cC);have e:bZ ws=jO w:=by unfold bZ;rw[hwk]
 rw[e];have hok:([o0,o1,o2,.var (stC ws (jO w))]:aa).all (ak 4)=true:=by
  simp only[zAq,zAu,h0 4,h1 4,h2 4,eO ws (jO w) 4];rfl
 have ht:=TCall.val (first:=[]) (aM:=[]) (avs:=[.ptr 3 0,.agg (bb w)]) (F5 h0 h1 h2 ws (.int 0) (.int 0) .nils .nils (.int 0) (.int 0) (.int 0) .nils .nils w hin.form);refine TCall.body Tryz.func48 rfl rfl Tryz.ntmps48 rfl rfl ?_
 repeat' (first|refine qP ?_ (h:=fun hg=>by first|exact iX bb ws (0:Int) hwk (hb:=oM)|exact ae|exact pbD ab rfl rfl nds|fail)|apply sqW|refine rgK fun U V=>?_|(refine aN V ?_;clear V U)|refine aB ?_|refine aoE (scT (ht) rfl rfl rfl rfl rfl nd rfl rfl nds ?_))
 rintro _ _ ⟨rfl,rfl⟩
 repeat' (first|(refine aN V ?_;clear V U))
 refine AWP.BK 3 (cs':=stC ws (jO w)) rfl rfl (Ad ws w) ?_
 repeat' (first|refine qS ?_|apply sqW|refine rgK fun U V=>?_|(refine aN V ?_;clear V U)|refine rtW ?_)
 exact⟨.inr rfl,_,[o0,o1,o2,.var (stC ws (jO w))],⟨rfl,rfl⟩,rfl,by simp,hok,rfl,rfl⟩
theorem D4 (l:List Dec) (known time:Int):PCall Tryz.prog 49 [.sl 6 (l.map bu) .no,.int known,.int time] (.fn (.func 98) [] [.iptr [.sl 6 (l.map bu) .no],.iptr [.int known],.iptr [.int time]]):=by
 refine PCall.body Tryz.func49 rfl rfl Tryz.ntmps49 rfl rfl ?_
 repeat' (first|refine qS ?_|apply sqW|refine rgK fun U V=>?_|(refine aN V ?_;clear V U)|refine aB ?_)
 refine AWP.ei 0 rfl rfl ?_;refine AWP.ei 1 rfl rfl ?_;refine AWP.ei 2 rfl rfl ?_;refine rtW ⟨.inr rfl,?_⟩;exact fun _ _ h=>h
def bI (known time:Int) (l:List Dec):List Dec:=l.takeWhile fun d=>!iG known time d
def evD (d:Dec):List AV:=[.agg (bu d)]
theorem xr {known time:Int}:∀{l:List Dec} {k:Nat},k<(bI known time l).length→(bI known time l)[k]? = some (l.getD k default)∧iG known time (l.getD k default)=false∧k<l.length
 |[],k,h=>by simp[bI] at h
 | d :: l, k, h => by
   unfold bI at h ⊢;rw[List.takeWhile_cons] at h ⊢;by_cases hd:iG known time d=true
   · simp[hd] at h
   · have hd2:iG known time d=false:=by simpa using hd
     simp only[hd2,Bool.not_false,if_true,zAc] at h ⊢;cases k with
     |zero=>exact⟨rfl,hd2,oM⟩
     | succ k =>
       obtain⟨h1,h2,h3⟩:=xr (known:=known) (time:=time) (l:=l) (k:=k) (by unfold bI;omega);exact⟨h1,h2,oM⟩
theorem vB {known time:Int}:∀{l:List Dec},(bI known time l).length<l.length→iG known time (l.getD (bI known time l).length default)=true
 |[],h=>by simp at h
 | d :: l, h => by
   unfold bI at h ⊢;rw[List.takeWhile_cons] at h ⊢;by_cases hd:iG known time d=true
   · simp only[hd,zE8,zB7,if_false];exact hd
   · have hd2:iG known time d=false:=by simpa using hd
     simp only[hd2,Bool.not_false,if_true,zAc] at h ⊢;exact vB (known:=known) (time:=time) (l:=l) (by unfold bI;omega)
theorem Gn (known time:Int) (l:List Dec):(bI known time l).length≤l.length:=by
 unfold bI;exact(List.takeWhile_sublist _).length_le
def oF (o0:aF) (ws:List ba) (r:Room):aa:=[o0,.var [.prim (.pointer none)],.var [.b false],.var (stC ws r),.var [.ptr 3 0]]
theorem D5 (o0:aF) (ws:List ba) (rAt:Nat→Room) (l:List Dec) (hl:l.length≤1000000000) (known time:Int) (rc:Loop) (E:List (Nat×AV)) (Pj:Nat→Prop) :
 nK Tryz.prog 98 [] [.iptr [.sl 6 (l.map bu) .no],.iptr [.int known],.iptr [.int time]] ((bI known time l).map evD) 6 (fun j=>oF o0 ws (rAt j)++[.loop rc E]) Pj:=by
 intro yv R hP0 hS hR hyd cv;have hy:=hyd 2;rw[lLm] at *;have hyc:∀(c:Nat) (d:Dec),(bI known time l)[c]? = some d→Pj c→VCall Tryz.prog (.opq yv) [.agg (bu d)] ((oF o0 ws (rAt c)++[.loop rc E])++[.var (bu d)]) (fun r t=>∃t',t=t'++[.var (bu d)]∧((r=.b true∧t'=oF o0 ws (rAt (c+1))++[.loop rc E]∧Pj (c+1))∨(r=.b false∧R c t'))):=fun c d hc hp=>by
  have hlt:c<(bI known time l).length:=by
   rcases nLg c (bI known time l).length with h|h
   · exact h
   · rw[zA2 h] at hc;cases hc
  have hv:=VCall.frame (cv c [.agg (bu d)] (by rw[zA3,hc];rfl) hp) [.var (bu d)] (by have h9:=(hS c oM).2;exact h9) (by show aG _ 3 yv=true;exact hy) rfl (by
   rintro rv s' (⟨_,rfl,_⟩|⟨_,hh⟩)
   · exact((hS (c+1) oM).1).trans ((hS c oM).1).symm
   · exact((hR _ _ hh).1).trans ((hS c oM).1).symm)
  exact hv
 show TCall _ _ [.opq yv,.iptr [.sl 6 (l.map bu) .no],.iptr [.int known],.iptr [.int time]] (oF o0 ws (rAt 0)++[.loop rc E]) _;have hle:=Gn known time l;refine TCall.body Tryz.func98 rfl rfl Tryz.ntmps98 rfl rfl ?_
 repeat' (first|refine qT ?_|apply sqW|refine rgK fun U V=>?_|(refine aN V ?_;clear V U)|refine blK ?_)
 refine lpD (ι:=Nat) (fun k=>[(0,.opq yv),(2,.iptr [.int known]),(3,.iptr [.int time]),(7,.sl 6 (l.map bu) .no),(8,.int l.length),(9,.int k)]) (fun k=>oF o0 ws (rAt k)++[.loop rc E])
  (fun k=>k≤(bI known time l).length∧Pj k) (fun k=>l.length - k) 6 (fun _=>rfl) 0 ⟨nZl _,hP0⟩ ⟨rfl,rfl,rfl,rfl,rfl,rfl,tI⟩ rfl (fun k _=>by
   simp only[zAq,zAu,zC2,zA0];exact⟨hy,rfl,rfl,rfl,rfl,rfl⟩) (fun k hk=>(hS k hk.1).2) ?_
 rintro k ⟨hk,hPk⟩;by_cases hlt:k<(bI known time l).length
 · obtain⟨d,hd⟩:∃d,l.getD k default=d:=⟨_,rfl⟩
   obtain⟨h1,h2,h3⟩:=xr hlt;rw[hd] at h1 h2;have hv:=hyc k d h1 hPk;unfold iG at h2;rw[zAl] at h2;obtain⟨h2a,h2b⟩:=h2;clear hyc cv
   repeat' (first|refine qP ?_ (h:=fun hg=>by first|exact iX bu l ((k:Nat):Int) hd (hb:=oM)|exact PRun.eq (v:=.b (decide (d.time>time))) (PRun.qI rfl rfl nd rfl nd rfl) (congrArg AV.b h2b)|exact PRun.eq (v:=.b (decide (d.number>known))) (PRun.qI rfl rfl nd rfl nd rfl) (congrArg AV.b h2a)|exact ae|fail)|apply sqW|refine rgK fun U V=>?_|(refine aN V ?_;clear V U)|refine aS ?_|refine aA ?_|refine aoE (EStep.gd (zA rfl rfl rfl) rfl <| scT hv rfl rfl rfl rfl rfl (by exact rfl) rfl rfl (by repeat' (first|exact tI|exact rfl|refine⟨?_,?_⟩)) ?_)|refine cX ?_ ?_<;>intro hc<;>try simp only[dE] at hc|refine blK ?_|refine exW ?_|refine skW ?_)
   all_goals (first|(exfalso;omega)|skip)
   rintro r1 t ⟨t',rfl,⟨rfl,rfl,hp⟩|⟨rfl,hh⟩⟩
   · repeat' (first|refine qS ?_|refine rgK fun U V=>?_|(refine aN V ?_;clear V U)|refine cX ?_ ?_<;>intro hc<;>try simp only[dE] at hc|refine skW ?_|refine rtW ?_)
     · exfalso;simp at hc
     · exact⟨k+1,⟨oM,hp⟩,oM,⟨rfl,rfl,rfl,rfl,rfl,rfl,tI⟩,rfl⟩
   · obtain⟨k1,k2⟩:=hR _ _ hh
     repeat' (first|refine qS ?_|refine rgK fun U V=>?_|(refine aN V ?_;clear V U)|refine cX ?_ ?_<;>intro hc<;>try simp only[dE] at hc|refine skW ?_|refine rtW ?_)
     · exact⟨.inr rfl,.tup [],t',.inr ⟨k,hlt,hh⟩,by simp,by rw[k1];exact nLr _,by rw[k1];exact k2,rfl,rfl⟩
     · exfalso;simp at hc
 · obtain hke:k=(bI known time l).length:=oM;subst hke;clear hyc cv;have sD:=hS (bI known time l).length (nLr _);by_cases kK:(bI known time l).length<l.length
   · obtain⟨d,hd⟩:∃d,l.getD (bI known time l).length default=d:=⟨_,rfl⟩
     have h2:=vB (known:=known) (time:=time) kK;rw[hd] at h2;have h2':(decide (d.number>known)||decide (d.time>time))=true:=h2
     repeat' (first|refine qP ?_ (h:=fun hg=>by first|exact iX bu l ((((bI known time l).length:Nat)):Int) hd (hb:=oM)|exact ae|exact(Bool.noConfusion (show false=true from(congrArg (fun b:Bool=>b==false) h2').symm.trans hg):PRun _ _ _ _ (.b false))|fail)|apply sqW|refine rgK fun U V=>?_|(refine aN V ?_;clear V U)|refine aS ?_|refine aA ?_|refine cX ?_ ?_<;>intro hc<;>try simp only[dE] at hc|refine blK ?_|refine exW ?_|refine skW ?_|refine rtW ?_)
     all_goals (first|(exfalso;omega)|skip)
     · exact⟨.inr rfl,.tup [],_,.inl ⟨rfl,hPk⟩,by simp[oF],nLr _,sD.2,rfl,rfl⟩
     · exfalso;have h9:((decide (d.number>known)||decide (d.time>time))||!false)=false:=hc;rw[h2'] at h9;cases h9
   · repeat' (first|refine qT ?_|apply sqW|refine rgK fun U V=>?_|(refine aN V ?_;clear V U)|refine aS ?_|refine aA ?_|refine cX ?_ ?_<;>intro hc<;>try simp only[dE] at hc|refine blK ?_|refine exW ?_|refine skW ?_)
     all_goals (first|(exfalso;omega)|skip)
     exact⟨.inl rfl,.tup [],_,.inl ⟨rfl,hPk⟩,by simp[oF],nLr _,sD.2,rfl,rfl⟩
end Go.Proofs.YtmjdoencpjpegaaGreatDoor.De
namespace Go.Ab
theorem PCall.ofT {P:Program} {f:FuncId} {avs:List AV} {r:AV} {Q:AV→aa→Prop} (h:TCall P f avs [] Q) (hq:∀rv s M B v,Q rv s→af M B rv v→af M [] r v):PCall P f avs r:=by
 refine⟨h.1,fun M w vs hm ha=>?_⟩;have hs:az ⟨M,.all w,M,[],[],none,[]⟩ [] w:=⟨hm,fun _ _=>⟨fun _=>rfl,rfl⟩,⟨nLr _,fun _ _=>rfl⟩,rfl,fun l g o h=>by simp at h,fun l g b h=>by simp at h,fun l l' g g' b h=>by simp at h,ct.refl _,⟨fun _ h=>(by cases h),fun _ h=>(by cases h)⟩⟩;refine(h.2 _ w vs hs ha).mono ?_;rintro e w' ⟨v,rv,s,G',e1,hQ,hle,hs',hv⟩;have hw0:G'.w0=Cp.all w:=hle.w0;have hm0:G'.M0=M:=hle.m0;refine⟨v,G'.M,e1,hq _ _ _ _ _ hQ hv,hle.m,hs'.ax,?_,fun b hb=>?_,fun b hb=>?_,by have:=hs'.out;rwa [hw0] at this⟩
 · have:=hs'.base.1;rwa [hw0] at this
 · have:=hs'.base.2 b;rw[hw0] at this;exact this hb
 · have:=hs'.m0 b;rw[hw0,hm0] at this;exact this hb
end Go.Ab
namespace Go.Proofs.YtmjdoencpjpegaaGreatDoor.De
open Go.Ab Go.Pl Pl
attribute [local irreducible] AWP AOps EStep AQ PStep PRun PCall TCall VCall
def gD (ws:List ba) (l:List Dec) (r:Room):Room:=l.foldl (fun r d=>(doR ws r d).1) r
theorem D6 (ws:List ba) (l:List Dec) (r:Room) {j:Nat} (hj:j<l.length) {d:Dec} (hd:l.getD j default=d):gD ws (l.take (j+1)) r=(doR ws (gD ws (l.take j) r) d).1:=by
 have:l.take (j+1)=l.take j++[d]:=by rw[←hd,aU hj];exact zBe hj
 rw[this];unfold gD;rw[zC6];rfl
theorem s7 {known time:Int} {d:Dec} {l:List Dec}:bI known time (d::l)=if iG known time d=true then [] else d::bI known time l:=by
 unfold bI;rw[List.takeWhile_cons];by_cases h:iG known time d=true
 · simp[h]
 · have h2:iG known time d=false:=by simpa using h
   simp[h2]
theorem Cg {ws:List ba} {known time:Int}:∀(ds:List Dec) (r:Room),(∀j,j<(bI known time ds).length→(doR ws (gD ws ((bI known time ds).take j) r) ((bI known time ds).getD j default)).2=0)→fO ws known time ds r=(gD ws (bI known time ds) r,true)
 |[],r,_=>rfl
 | d :: l, r, h => by
   unfold fO;rw[s7] at h ⊢;by_cases hd:iG known time d=true
   · rw[if_pos hd,if_pos hd];rfl
   · rw[if_neg hd] at h ⊢;rw[if_neg hd];have h0:(doR ws r d).2=0:=h 0 sMp;rw[if_neg (by rw[h0];decide),Cg l _ fun j hj=>h (j+1) (by simpa using hj)];rfl
theorem Am {ws:List ba} {known time:Int}:∀(ds:List Dec) (r:Room) (k:Nat),k<(bI known time ds).length→(∀j,j<k→(doR ws (gD ws ((bI known time ds).take j) r) ((bI known time ds).getD j default)).2=0) →
 (doR ws (gD ws ((bI known time ds).take k) r) ((bI known time ds).getD k default)).2≠0→fO ws known time ds r=((doR ws (gD ws ((bI known time ds).take k) r) ((bI known time ds).getD k default)).1,false)
 |[],r,k,hk,_,_=>by simp[bI] at hk
 | d :: l, r, k, hk, h, hn => by
   unfold fO;rw[s7] at hk h hn ⊢;by_cases hd:iG known time d=true
   · rw[if_pos hd] at hk;simp at hk
   · rw[if_neg hd] at hk h hn ⊢;rw[if_neg hd];cases k with
     | zero =>
       have hn':(doR ws r d).2≠0:=hn;rw[if_pos hn'];rfl
     | succ k =>
       have h0:(doR ws r d).2=0:=h 0 (zAa _);rw[if_neg (by rw[h0];decide)];exact Am l _ k (by simpa using hk) (fun j hj=>h (j+1) (Nat.succ_lt_succ hj)) hn
theorem Ch {ws:List ba} (hws:cr ws=true):∀(l:List Dec) {r:Room},gk ws r→gk ws (gD ws l r)
 |[],_,h=>h
 |d::l,r,h=>Ch hws l (DK hws h d)
theorem K8 {f:aR} (h:bB f=true):FIn f:=by
 unfold bB at h;simp only[zA0,dEt] at h;exact⟨oM,oM,oM⟩
theorem K9 {ws:List ba} {r:Room} (h:gk ws r):r.aY.length≤1000:=by
 have h1:r.aY.Nodup:=h.sorted.imp fun h=>by omega
 have h2:r.aY ⊆ (List.range 21).map fun n:Nat=>(n:Int):=fun x hx=>by
  have:=h.range x hx;exact zAf.2 ⟨x.toNat,zBk.2 oM,oM⟩
 have:=List.Nodup.length_le_of_subset h1 h2;simp at this;omega
theorem do_T {o0 o1 o2:aF} (h0:OkA o0) (h1:OkA o1) (h2:OkA o2) (ws:List ba) (hl:ws.length≤1000000000) (hws:∀w∈ws,WIn w) (r:Room) (hr:gk ws r) (d:Dec) :
 TCall Tryz.prog 34 [.ptr 3 0,.agg (bu d)] [o0,o1,o2,.var (stC ws r)] (fun rv s=>rv=.int (doR ws r d).2∧s=[o0,o1,o2,.var (stC ws (doR ws r d).1)]):=by
 have hf:=K8 hr.form;unfold doR;by_cases k1:d.kind=1
 · rw[if_pos k1];exact vA h0 h1 h2 ws r _ _ d _ 4 5 (by rw[lC,if_pos k1]) (Ns h0 h1 h2 okK ws hl hws r d)
 rw[if_neg k1];by_cases k2:d.kind=2
 · rw[if_pos k2];exact vA h0 h1 h2 ws r _ _ d _ 4 6 (by rw[lC,if_neg k1,if_pos k2]) (Nt h0 h1 h2 okK ws r hf d)
 rw[if_neg k2];by_cases k3:d.kind=3
 · rw[if_pos k3];exact vA h0 h1 h2 ws r _ _ d _ 4 6 (by rw[lC,if_neg k1,if_neg k2,if_pos k3]) (Nu h0 h1 h2 okK ws r hf d)
 rw[if_neg k3];by_cases k4:d.kind=4
 · rw[if_pos k4];exact vA h0 h1 h2 ws r _ _ d _ 5 4 (by rw[lC,if_neg k1,if_neg k2,if_neg k3,if_pos k4]) (Nv h0 h1 h2 okK ws r hf d)
 rw[if_neg k4];by_cases k5:d.kind=5
 · rw[if_pos k5];exact vA h0 h1 h2 ws r _ _ d _ 4 5 (by rw[lC,if_neg k1,if_neg k2,if_neg k3,if_neg k4,if_pos k5]) (Nw h0 h1 h2 okK ws r hr.sorted (K9 hr) d)
 rw[if_neg k5];exact Nx h0 h1 h2 ws r d (IC _ ⟨k1,k2,k3,k4,k5⟩)
abbrev rT (o0:aF) (ws:List ba) (r:Room) (ok:Bool):aa:=[o0,.var [.ptr 3 0],.var [.b ok],.var (stC ws r)]
def Ao (ws:List ba) (L:List Dec) (r:Room) (j:Nat):Prop:=∀i,i<j→(doR ws (gD ws (L.take i) r) (L.getD i default)).2=0
def runL (o0:aF) (ws:List ba) (L:List Dec) (r:Room) (j:Nat) (x:Exit) (s:aa):Prop :=
 x=.ret∧s=[o0,.var [.ptr 3 0],.var [.b false],.var (stC ws (doR ws (gD ws (L.take j) r) (L.getD j default)).1),.var [.ptr 3 0]]∧Ao ws L r j∧(doR ws (gD ws (L.take j) r) (L.getD j default)).2≠0
theorem JD {o0:aF} (h0:OkA o0) (ws:List ba) (hwo:cr ws=true) (hl:ws.length≤1000000000) (hws:∀w∈ws,WIn w) (ds:List Dec) (hd:ds.length≤1000000000) (known time:Int) :
 TCall Tryz.prog 23 [.sl 12 (ws.map bb) .no,.sl 6 (ds.map bu) .no,.int known,.int time] [o0]
  (fun rv s=>rv=.tup [.ptr 3 0,.b (fO ws known time ds (bZ ws)).2]∧s=rT o0 ws (fO ws known time ds (bZ ws)).1 (fO ws known time ds (bZ ws)).2):=by
 have hne:ws≠[]:=by
  unfold cr at hwo;simp only[zA0,dEt] at hwo;intro e;rw[e] at hwo;exact absurd hwo.2.1 dCd
 have o1:OkA (.var [.prim (.pointer none)]):=fun m=>rfl
 have o2:OkA (.var [.b false]):=fun m=>rfl
 have hn:=TCall.val (first:=[]) (aM:=[]) (avs:=[.sl 12 (ws.map bb) .no]) (D3 h0 o1 o2 ws hne hl hws);have hu:=D4 ds known time;have hdo:=fun r hr d=>nq (do_T h0 o1 o2 ws hl hws r hr d) h0 o1 o2 (eO ws r) rfl [.var [.ptr 3 0],.var (bu d)]
 have hit:=fun rc E Pj=>D5 o0 ws (fun j=>gD ws ((bI known time ds).take j) (bZ ws)) ds hd known time rc E Pj
 have hok:∀r ok,(rT o0 ws r ok).all (ak 4)=true:=fun r ok=>by
  simp only[zAq,zAu,h0 4,eO ws r 4];rfl
 have hS5:∀r,(oF o0 ws r).all (ak 5)=true:=fun r=>by
  unfold oF;simp only[zAq,zAu,h0 5,eO ws r 5];rfl
 have hS6:∀r b,([o0,.var [.ptr 3 0],.var [.b b],.var (stC ws r),.var [.ptr 3 0]]:aa).all (ak 5)=true:=fun r b=>by
  simp only[zAq,zAu,h0 5,eO ws r 5];rfl
 have hra:=Cg (ws:=ws) (known:=known) (time:=time) ds (bZ ws);have hrs:=fun k=>Am (ws:=ws) (known:=known) (time:=time) ds (bZ ws) k
 have hin:=fun j=>Ch hwo ((bI known time ds).take j) (tW hwo)
 generalize hR:fO ws known time ds (bZ ws)=R at *;refine TCall.rh ab Tryz.func23 rfl rfl Tryz.ntmps23 rfl ?_
 repeat' (first|refine qS ?_|apply sqW|refine rgK fun U V=>?_|(refine aN V ?_;clear V U)|refine aA ?_|refine aoE (scT (hn) rfl rfl rfl rfl rfl nd rfl rfl nds ?_))
 rintro _ _ ⟨rfl,rfl⟩
 repeat' (first|refine qP ?_ (h:=fun hg=>by first|exact ae|exact pc hu|fail)|apply sqW|refine rgK fun U V=>?_|(refine aN V ?_;clear V U)|refine aS ?_|refine aA ?_|refine blK ?_)
 generalize hL:bI known time ds=L at *;refine AWP.gU (L.map evD) [(8,.ptr 1 0),(9,.ptr 2 0),(10,.ptr 4 0)] (fun j=>oF o0 ws (gD ws (L.take j) (bZ ws))) (Ao ws L (bZ ws)) (runL o0 ws L (bZ ws)) (fun rc=>hit rc _ _) (fun i hi=>absurd hi (zEa _)) rfl tI ?_ ?_ rfl ⟨rfl,rfl,rfl,tI⟩ rfl rfl (fun j hj=>⟨rfl,hS5 _⟩) ?_ ?_ ?_ ?_
 · intro x hx;obtain⟨d,_,rfl⟩:=zAf.1 hx;rfl
 · intro x hx;obtain⟨d,_,rfl⟩:=zAf.1 hx;rfl
 · rintro j x s ⟨_,rfl,_⟩;exact⟨rfl,hS6 _ _⟩
 · intro j x hx hp;have hj:j<L.length:=by
    rcases nLg j L.length with h|h
    · exact h
    · rw[zA2 (by rw[lLm];exact h)] at hx;cases hx
   obtain⟨d,hd9⟩:∃d,L.getD j default=d:=⟨_,rfl⟩
   obtain rfl:x=evD d:=by
    rw[zA3,zA1 hj] at hx;rw[←hd9,aU hj];exact(Option.some.inj hx).symm
   have hv:=hdo _ (hin j) d;have hsn:=D6 ws L (bZ ws) hj hd9;obtain⟨r1,hr1⟩:∃r1,gD ws (L.take j) (bZ ws)=r1:=⟨_,rfl⟩
   obtain⟨q,hq⟩:∃q,doR ws r1 d=q:=⟨_,rfl⟩
   rw[hr1,hq] at hsn;have hrl:∀s,s=[o0,.var [.ptr 3 0],.var [.b false],.var (stC ws q.1),.var [.ptr 3 0]]→q.2≠0→runL o0 ws L (bZ ws) j .ret s:=fun s hs hn9=>by
    refine⟨rfl,?_,hp,?_⟩
    · rw[hd9,hr1,hq];exact hs
    · rw[hd9,hr1,hq];exact hn9
   have hpn:q.2=0→Ao ws L (bZ ws) (j+1):=fun h9 i hi=>by
    by_cases hij:i<j
    · exact hp i hij
    · obtain rfl:i=j:=oM;rw[hd9,hr1,hq];exact h9
   rw[hr1,hq] at hv;clear hdo hit hin hra hrs hn hu;dsimp only;rw[hr1,hsn]
   repeat' (first|refine rgK fun U V=>?_|(refine aN V ?_;clear V U)|refine aS ?_|refine aA ?_)
   refine⟨rfl,?_⟩
   repeat' (first|refine qS ?_|apply sqW|refine rgK fun U V=>?_|refine aoE (scT (hv) rfl rfl rfl rfl rfl nd rfl rfl nds ?_)|refine blK ?_)
   rintro _ _ ⟨rfl,rfl⟩
   repeat' (first|refine qS ?_|apply sqW|refine rgK fun U V=>?_|(refine aN V ?_;clear V U)|refine aS ?_|refine cX ?_ ?_<;>intro hc<;>try simp only[dE] at hc|refine skW ?_|refine rtW ?_)
   · refine hrl _ rfl ?_;simpa using hc
   · exact⟨rfl,hpn (by simpa using hc)⟩
 · intro hp;rw[lLm] at hp ⊢;have tD:=hra fun j hj=>hp j hj
   rw[tD] at hR ⊢;rw[zB2]
   repeat' (first|refine qS ?_|apply sqW|refine rgK fun U V=>?_|(refine aN V ?_;clear V U)|refine aS ?_|refine rtW ?_)
   exact⟨.inr rfl,_,rT o0 ws (gD ws L (bZ ws)) true,⟨rfl,rfl⟩,rfl,by simp,hok _ _,rfl,rfl⟩
 · rintro j x s hj ⟨rfl,rfl,hp,hn9⟩;rw[lLm] at hj;have tD:=hrs j hj (fun i hi=>hp i hi) hn9;rw[tD];exact⟨.inr rfl,_,rT o0 ws _ false,⟨rfl,rfl⟩,rfl,by simp,hok _ _,rfl,rfl⟩
theorem drop_cons {α:Type} [Inhabited α] {l:List α} {k:Nat} (h:k<l.length) {d:α} (hd:l.getD k default=d):l.drop k=d::l.drop (k+1):=by
 rw[zBj h,←hd,aU h]
def rU (o0:aF) (ws:List ba) (ds:List Dec):AV→aa→Prop:=fun rv s =>
 if kQ ws ds=true then rv=.tup [.ptr 3 0,.b (fO ws (ds.length:Int) 1000000000 ds (bZ ws)).2]∧s=rT o0 ws (fO ws (ds.length:Int) 1000000000 ds (bZ ws)).1 (fO ws (ds.length:Int) 1000000000 ds (bZ ws)).2
 else rv=.tup [.prim (.pointer none),.b false]∧s=[o0]
theorem JE {o0:aF} (h0:OkA o0) (ws:List ba) (hl:ws.length≤1000000000) (hws:∀w∈ws,WIn w) (ds:List Dec) (hd:ds.length≤1000000000) :
 TCall Tryz.prog 21 [.sl 12 (ws.map bb) .no,.sl 6 (ds.map bu) .no] [o0] (rU o0 ws ds):=by
 have hw:=xL ws hl hws;have ID:([o0]:aa).all (ak 1)=true:=by simp only[zAq,zAu,h0 1];rfl
 have hno:kQ ws ds=false→rU o0 ws ds (.tup [.prim (.pointer none),.b false]) [o0]:=fun h=>by
  unfold rU;rw[if_neg (by rw[h];decide)];exact⟨rfl,rfl⟩
 have e1:decide ((ds.length:Int)>1000)=decide (ds.length>1000):=decide_eq_decide.2 oM;by_cases hg0:(!cr ws||decide (ds.length>1000))=true
 · have hgd:kQ ws ds=false:=by unfold kQ;rw[hg0];rfl
   have hno:=hno hgd;rw[←e1] at hg0;refine TCall.rh ab Tryz.func21 rfl rfl Tryz.ntmps21 rfl ?_
   repeat' (first|refine qP ?_ (h:=fun hg=>by first|exact ae|exact pc hw|exact ah)|apply sqW|refine rgK fun U V=>?_|(refine aN V ?_;clear V U)|refine cX ?_ ?_<;>intro hc<;>try simp only[dE] at hc|refine blK ?_|refine skW ?_|refine rtW ?_)
   · exact⟨.inr rfl,_,[o0],hno,rfl,nLr _,ID,rfl,rfl⟩
   all_goals exact absurd hg0 (by rw[show(!cr ws||decide ((ds.length:Int)>1000))=false from hc];decide)
 · have hg1:(!cr ws||decide (ds.length>1000))=false:=by simpa using hg0
   have hg2:=hg1;rw[←e1] at hg2;have hwo:cr ws=true:=by
    cases h:cr ws with
    |true=>rfl
    |false=>rw[h] at hg1;cases hg1
   have hgd:kQ ws ds=l4 0 0 ds:=by unfold kQ;rw[hg1];rfl
   rw[hgd] at hno;have bg:=TCall.val (first:=[]) (aM:=[]) (avs:=[.sl 12 (ws.map bb) .no,.sl 6 (ds.map bu) .no,.int ds.length,.int 1000000000]) (JD h0 ws hwo hl hws ds hd (ds.length:Int) 1000000000);have hyes:l4 0 0 ds=true→rU o0 ws ds (.tup [.ptr 3 0,.b (fO ws (ds.length:Int) 1000000000 ds (bZ ws)).2]) (rT o0 ws (fO ws (ds.length:Int) 1000000000 ds (bZ ws)).1 (fO ws (ds.length:Int) 1000000000 ds (bZ ws)).2):=fun h=>by
    unfold rU;rw[hgd,if_pos h];exact⟨rfl,rfl⟩
   have jS:∀r ok,(rT o0 ws r ok).all (ak 4)=true:=fun r ok=>by
    simp only[zAq,zAu,h0 4,eO ws r 4];rfl
   generalize fO ws (ds.length:Int) 1000000000 ds (bZ ws)=R at *;refine TCall.rh ab Tryz.func21 rfl rfl Tryz.ntmps21 rfl ?_
   repeat' (first|refine qP ?_ (h:=fun hg=>by first|exact ae|exact pc hw|exact ah)|apply sqW|refine rgK fun U V=>?_|(refine aN V ?_;clear V U)|refine cX ?_ ?_<;>intro hc<;>try simp only[dE] at hc|refine blK ?_|refine skW ?_|refine rtW ?_)
   · exact absurd hg2 (by rw[show(!cr ws||decide ((ds.length:Int)>1000))=true from hc];decide)
   clear hc
   refine lpD (ι:=Nat×Int) (fun i=>[(0,.sl 12 (ws.map bb) .no),(1,.sl 6 (ds.map bu) .no),(6,.int i.2),(17,.sl 6 (ds.map bu) .no),(18,.int ds.length),(19,.int i.1)]) (fun _=>[o0])
    (fun i=>i.1≤ds.length∧l4 0 0 ds=l4 i.1 i.2 (ds.drop i.1)) (fun i=>ds.length - i.1) 1 (fun _=>rfl) (0,0) ⟨nZl _,rfl⟩ ⟨rfl,rfl,rfl,rfl,rfl,rfl,tI⟩ rfl (fun k _=>rfl) (fun k hk=>ID) ?_
   rintro⟨k,last⟩ ⟨hk,hin⟩;dsimp only at hk hin ⊢;rcases nLg k ds.length with hlt|hge
   · obtain⟨d,hd9⟩:∃d,ds.getD k default=d:=⟨_,rfl⟩
     rw[drop_cons hlt hd9] at hin;have hin2:l4 k last (d::ds.drop (k+1))=(sE k last d&&l4 ((k+1:Nat):Int) d.time (ds.drop (k+1))):=rfl;rw[hin2] at hin;have ht:=oB d.time;have eb:(d.number != (k:Int)+1)=decide (d.number≠(k:Int)+1):=by rw[zB3];simp
     clear bg
     repeat' (first|refine qP ?_ (h:=fun hg=>by first|exact iX bu ds ((k:Nat):Int) hd9 (hb:=oM)|exact ae|exact pc ht|exact ah)|apply sqW|refine rgK fun U V=>?_|(refine aN V ?_;clear V U)|refine aS ?_|refine aA ?_|refine cX ?_ ?_<;>intro hc<;>try simp only[dE] at hc|refine blK ?_|refine exW ?_|refine skW ?_|refine rtW ?_)
     all_goals (first|(exfalso;omega)|skip)
     · have h9:sE k last d=false:=by
        unfold sE;rw[eb] at hc;rw[show(decide (d.number≠(k:Int)+1)||decide (d.time<last)||!lZ d.time)=true from hc];rfl
       rw[h9] at hin;exact⟨.inr rfl,_,[o0],hno hin,rfl,nLr _,ID,rfl,rfl⟩
     · have h9:sE k last d=true:=by
        unfold sE;rw[eb] at hc;rw[show(decide (d.number≠(k:Int)+1)||decide (d.time<last)||!lZ d.time)=false from hc];rfl
       rw[h9,zBw] at hin;exact⟨(k+1,d.time),⟨hlt,hin⟩,by dsimp only;omega,⟨rfl,rfl,rfl,rfl,rfl,rfl,tI⟩,rfl⟩
   · obtain rfl:k=ds.length:=oM;rw[List.drop_length] at hin
     repeat' (first|refine qT ?_|apply sqW|refine rgK fun U V=>?_|(refine aN V ?_;clear V U)|refine aS ?_|refine aA ?_|refine aoE (scT (bg) rfl rfl rfl rfl rfl nd rfl rfl nds ?_)|refine cX ?_ ?_<;>intro hc<;>try simp only[dE] at hc|refine blK ?_|refine exW ?_|refine skW ?_)
     all_goals (first|(exfalso;omega)|skip)
     rintro _ _ ⟨rfl,rfl⟩
     repeat' (first|refine qS ?_|(refine aN V ?_;clear V U)|refine rtW ?_)
     exact⟨.inr rfl,_,rT o0 ws R.1 R.2,hyes hin,rfl,by simp,jS _ _,rfl,rfl⟩
theorem Mn:OkA .dead:=fun m=>rfl
theorem Gp (ws:List ba) (hl:ws.length≤1000000000) (hws:∀w∈ws,WIn w) (ds:List Dec) (hd:ds.length≤1000000000) :
 PCall Tryz.prog 21 [.sl 12 (ws.map bb) .no,.sl 6 (ds.map bu) .no] (.tup [.any,.b (jo ws ds)]):=by
 refine PCall.ofT (TCall.dummy (JE Mn ws hl hws ds hd)) ?_;intro rv s M B v hq hv;have key:∀a ok,af M B (.tup [a,.b ok]) v→af M [] (.tup [.any,.b ok]) v:=fun a ok h=>by
  cases h with
  | tup _ vs hl h =>
    refine .tup _ vs hl fun i c hc=>?_
    match i,hc with
    |0,hc=>cases hc;exact .any _
    | 1, hc =>
      cases hc;have:=h 1 _ rfl;generalize vs.getD 1 undef=x at this ⊢;cases this;exact .prim _
 unfold rU at hq;unfold jo;cases hg:kQ ws ds with
 | true =>
   rw[hg,if_pos rfl] at hq;rw[hq.1] at hv;exact key _ _ hv
 | false =>
   rw[hg,if_neg dCd] at hq;rw[hq.1] at hv;exact key _ _ hv
def yc (r:Room):List AV:=[.int r.version,.int r.form.bars,.sl 3 (r.form.aC.map bk) .no,.sl 3 (r.form.ends.map cD) .no,.int r.form.jump.at_,.int r.form.jump.to,.int r.form.jump.dc,.sl 3 (r.form.cuts.map aW) .no,.sl 1 (r.aY.map eI) .no]
theorem IE {x:Int}:Ent (.tup [.agg [.int 0,.int 0,.nils,.nils,.int 0,.int 0,.int 0,.nils,.nils],.int x]) (.tup [.agg (yc noRoom),.int x]):=by
 refine Ent.fL (Ent.agg rfl fun i a b ha hb=>?_) (Ent.of rfl)
 match i,ha,hb with
 |0,ha,hb=>cases ha;cases hb;exact Ent.of rfl
 |1,ha,hb=>cases ha;cases hb;exact Ent.of rfl
 |2,ha,hb=>cases ha;cases hb;exact Ent.nil
 |3,ha,hb=>cases ha;cases hb;exact Ent.nil
 |4,ha,hb=>cases ha;cases hb;exact Ent.of rfl
 |5,ha,hb=>cases ha;cases hb;exact Ent.of rfl
 |6,ha,hb=>cases ha;cases hb;exact Ent.of rfl
 |7,ha,hb=>cases ha;cases hb;exact Ent.nil
 |8,ha,hb=>cases ha;cases hb;exact Ent.nil
 |(n+9),ha,hb=>simp at ha
theorem oG (ws:List ba) (ds:List Dec) (hl:ws.length≤1000000000) (hws:∀w∈ws,WIn w) (hd:ds.length≤1000000000) (known time:Int) :
 PCall Tryz.prog 8 [.sl 12 (ws.map bb) .no,.sl 6 (ds.map bu) .no,.int known,.int time] (.tup [.agg (yc (atR ws ds known time).1),.int (atR ws ds known time).2]):=by
 have ha:=Gp ws hl hws ds hd;have ht:=oB time;unfold atR;by_cases hc0:(!jo ws ds||decide (known<0)||decide (known>(ds.length:Int))||!lZ time)=true
 · rw[if_pos hc0];dsimp only;refine PCall.bO ab Tryz.func8 rfl rfl Tryz.ntmps8 rfl ?_
   repeat' (first|refine qP ?_ (h:=fun hg=>by first|exact ae|exact pc ha|exact pc ht|exact pbD ab rfl rfl nds|exact ah)|apply sqW|refine rgK fun U V=>?_|(refine aN V ?_;clear V U)|refine aS ?_|refine aA ?_|refine cX ?_ ?_<;>intro hc<;>try simp only[dE] at hc|refine skW ?_|refine rtW ?_)
   · exact⟨.inr rfl,_,rfl,IE⟩
   all_goals exact absurd hc0 (by rw[show(!jo ws ds||decide (known<0)||decide (known>(ds.length:Int))||!lZ time)=false from hc];decide)
 · rw[if_neg hc0];dsimp only;have hal:jo ws ds=true:=by
    cases h:jo ws ds with
    |true=>rfl
    |false=>rw[h] at hc0;exact absurd rfl hc0
   have hwo:cr ws=true:=by
    unfold jo kQ at hal;cases h:cr ws with
    |true=>rfl
    |false=>rw[h] at hal;cases hal
   have oz:OkA (.var [.int 0,.int 0,.nils,.nils,.int 0,.int 0,.int 0,.nils,.nils]):=fun m=>rfl
   have bg:=TCall.val (first:=[]) (aM:=[]) (avs:=[.sl 12 (ws.map bb) .no,.sl 6 (ds.map bu) .no,.int known,.int time]) (JD oz ws hwo hl hws ds hd known time);generalize fO ws known time ds (bZ ws)=R at *;refine PCall.bO ab Tryz.func8 rfl rfl Tryz.ntmps8 rfl ?_
   repeat' (first|refine qP ?_ (h:=fun hg=>by first|exact ae|exact pc ha|exact pc ht|exact pbD ab rfl rfl nds|exact ah)|apply sqW|refine rgK fun U V=>?_|(refine aN V ?_;clear V U)|refine aS ?_|refine aA ?_|refine aoE (scT (bg) rfl rfl rfl rfl rfl nd rfl rfl nds ?_)|refine cX ?_ ?_<;>intro hc<;>try simp only[dE] at hc|refine skW ?_|refine rtW ?_)
   · exact absurd (show _=true from hc) hc0
   rintro _ _ ⟨rfl,rfl⟩
   repeat' (first|refine qT ?_|apply sqW|refine rgK fun U V=>?_|(refine aN V ?_;clear V U)|refine aS ?_|refine rtW ?_)
   exact⟨.inr rfl,_,rfl,Ent.of rfl⟩
end Go.Proofs.YtmjdoencpjpegaaGreatDoor.De
