/- Parts of the proof. No statement is proved here. -/
import Derived.Test.YtmjdoencpjpegaaGreatDoorP29
set_option linter.unusedVariables false
set_option linter.unusedSimpArgs false
set_option maxHeartbeats 16000000
set_option maxRecDepth 20000
namespace Go.Proofs.YtmjdoencpjpegaaGreatDoor.De
open Go.Ab Go.Pl Pl
attribute [local irreducible] AWP AOps EStep AQ PStep PRun PCall TCall VCall
def nk (l:List Int) (i j m:Nat):List (List AV):=(l.map eI).take i++(((l.map eI).drop j).take m++(l.map eI).drop (i+m))
theorem Ip {l:List Int} {i j m:Nat} (h1:i+m≤l.length) (h2:j+m≤l.length):(nk l i j m).length=l.length:=by
 unfold nk;simp only[lLa,zAg,zAx,lLm];omega
theorem F3 {l:List Int} {i j m q:Nat} (hj:j=i+1) (hm:i+m=q) (hl:j+m=l.length):(nk l i j m).take q=(l.eraseIdx i).map eI:=by
 unfold nk;rw[List.eraseIdx_eq_take_drop_succ,zAz,List.map_take,List.map_drop,←hj,←zBo,zBt (by simp only[lLa,zAg,zAx,lLm];omega)];rw[zAn (by simp only[lLa,zAg,zAx,lLm];omega)];congr 1;rw[zAn (by simp only[zAx,lLm];omega)]
theorem F4 {l:List Int} (hl:l.length≤1000000) {i:Nat} (hi:i<l.length) {o0 o1 o2 o3 o4:aF} (hok:([o0,o1,o2,o3,o4]:aa).all (ak 6)=true) :
 TCall Tryz.prog 131 [.sla 5 1 0 l.length 0,.int i,.int ((i:Int)+1)] [o0,o1,o2,o3,o4,.arr 1 0 (l.map eI)]
 (fun r s=>r=At 5 1 (l.length - 1)∧s=[o0,o1,o2,o3,o4,.arr 1 0 ((l.eraseIdx i).map eI)]):=by
 have tQ:([o0,o1,o2,o3,o4,.arr 1 0 ((l.eraseIdx i).map eI)]:aa).all (ak 6)=true:=by
  have e4:=Aa (l.eraseIdx i) 6;rw[show([o0,o1,o2,o3,o4,.arr 1 0 ((l.eraseIdx i).map eI)]:aa)=[o0,o1,o2,o3,o4]++[.arr 1 0 ((l.eraseIdx i).map eI)] from rfl,zBs,hok,zBw];simp only[zAq,zAu,e4];rfl
 have hll:(l.map eI).length=l.length:=sMp;have ej:0+((i:Int)+1).toNat=i+1:=oM;have em:l.length - ((i:Int)+1).toNat=l.length - (i+1):=oM;obtain⟨J,hJ⟩:∃J,0+((i:Int)+1).toNat=J:=⟨_,rfl⟩
 obtain⟨M,hM⟩:∃M,l.length - ((i:Int)+1).toNat=M:=⟨_,rfl⟩
 have hdl:(nk l i J M).length=l.length:=Ip oM oM;have hdt:=F3 (l:=l) (i:=i) (j:=J) (m:=M) (q:=l.length - 1) oM oM oM;have hlo:∀{o:Oper} {env:Env} {x y:Operand} {t:TypeId},o.op=.slice t x (some y) none none→rdv env x=some (.sla 5 1 0 l.length 0)→rdn env x→rdv env y=some (.int ((i:Int)+1))→rdn env y→eE tab t=some 1→PRun Tryz.prog o env [o0,o1,o2,o3,o4,.arr 1 0 (l.map eI)] (.sla 5 1 J M 0):=fun a1 a2 a3 a4 a5 a6=>by
  have:=PRun.tw (σ:=[o0,o1,o2,o3,o4,.arr 1 0 (l.map eI)]) ab a1 a2 a3 a4 a5 a6 rfl ⟨oM,oM⟩;rw[hJ,hM] at this;exact this
 rcases i with _|i
 · rcases hn:l.length with _|_|k
   · omega
   · rw[hn] at hl hll hdl hdt hlo hi hM em;refine TCall.body Tryz.func131 rfl rfl Tryz.ntmps131 rfl rfl ?_
     repeat' (first|refine qP ?_ (h:=fun hg=>by first|exact ae|exact PRun.mF ab rfl rfl nd rfl nd rfl nd rfl nd rfl rfl oM ⟨oM,oM,oM⟩ oM|exact PRun.k8 ab rfl rfl nd rfl|fail)|apply sqW|refine rgK fun U V=>?_|(refine aN V ?_;clear V U)|refine cX ?_ ?_<;>intro hc<;>try simp only[dE] at hc|refine skW ?_|refine rtW ?_)
     all_goals (first|(exfalso;simp at hc;done)|(exfalso;omega)|skip)
     refine AWP.mj (fun j=>match j with|0=>[o0,o1,o2,o3,o4,.arr 1 0 (l.map eI)]|_=>[o0,o1,o2,o3,o4,.arr 1 0 (nk l 0 J M)]) rfl (by kernel_rfl) dKn rfl dKn (fun U V=>?_)
     repeat' (first
      |refine yt (h:=by refine⟨?_,?_,?_,?_⟩<;>intro hh hg<;>first|exact absurd hh dKn|exact hlo rfl rfl nd rfl nd rfl|exact PRun.p5 ab rfl rfl nd rfl nd rfl rfl oM|exact ae|exact ah|fail) (hk:=?_)|fail)
     refine YQ.e (v:=.sl 1 [] (.own 5)) (d:=some 26) rfl rfl rfl ?_ ?_
     · intro au he;exact EStep.lz (l:=5) ab 0 J M rfl rfl rfl dCd (Rd.w ((ai (he 22 dKn)).trans rfl) (by rw[aj (he 22 dKn)];first|exact tI|exact rfl)) rfl (show _=At 5 1 (0+M) by rw[show 0+M=0 by omega];rfl) rfl (Rd.w ((ai (he 25 dKn)).trans rfl) (by rw[aj (he 25 dKn)];first|exact tI|exact rfl)) (oY l) (lkG rfl) (lkG rfl) (lkG rfl) rfl oM oM oM rfl ⟨rfl,rfl⟩
     repeat' (first
      |refine yt (hk:=?_)|fail)
     refine YQ.nil (V _ _ ?_);clear V U
     repeat' (first|refine qP ?_ (h:=fun hg=>by first|exact ae|exact PRun.lv ab 0 1 rfl rfl nd rfl rfl nd rfl nd rfl rfl ⟨oM,oM⟩|exact ah)|apply sqW|refine rgK fun U V=>?_|(refine aN V ?_;clear V U)|refine aoE (EStep.oT ab rfl rfl rfl tI rfl (lkG rfl) (lkG rfl) rfl rfl rfl ?_)|refine rtW ?_)
     refine⟨.inr rfl,At 5 1 0,[o0,o1,o2,o3,o4,.arr 1 0 ((l.eraseIdx 0).map eI)],⟨rfl,rfl⟩,?_,by simp,tQ,rfl,rfl⟩;show[o0,o1,o2,o3,o4,.arr 1 0 ((nk l 0 J M).take 0)]=_;rw[hdt]
   · rw[hn] at hl hll hdl hdt hlo hi hM em;refine TCall.body Tryz.func131 rfl rfl Tryz.ntmps131 rfl rfl ?_
     repeat' (first|refine qP ?_ (h:=fun hg=>by first|exact ae|exact PRun.mF ab rfl rfl nd rfl nd rfl nd rfl nd rfl rfl oM ⟨oM,oM,oM⟩ oM|exact PRun.k8 ab rfl rfl nd rfl|fail)|apply sqW|refine rgK fun U V=>?_|(refine aN V ?_;clear V U)|refine cX ?_ ?_<;>intro hc<;>try simp only[dE] at hc|refine skW ?_|refine rtW ?_)
     all_goals (first|(exfalso;simp at hc;done)|(exfalso;omega)|skip)
     refine AWP.mj (fun j=>match j with|0=>[o0,o1,o2,o3,o4,.arr 1 0 (l.map eI)]|_=>[o0,o1,o2,o3,o4,.arr 1 0 (nk l 0 J M)]) rfl (by kernel_rfl) dKn rfl dKn (fun U V=>?_)
     repeat' (first
      |refine yt (h:=by refine⟨?_,?_,?_,?_⟩<;>intro hh hg<;>first|exact absurd hh dKn|exact hlo rfl rfl nd rfl nd rfl|exact PRun.p5 ab rfl rfl nd rfl nd rfl rfl oM|exact ae|exact ah|fail) (hk:=?_)|fail)
     refine YQ.e (v:=.sla 5 1 0 (k+1) 0) (d:=some 26) rfl rfl rfl ?_ ?_
     · intro au he;exact EStep.lz (l:=5) ab 0 J M rfl rfl rfl dCd (Rd.w ((ai (he 22 dKn)).trans rfl) (by rw[aj (he 22 dKn)];first|exact tI|exact rfl)) rfl (show _=At 5 1 (0+M) by rw[show 0+M=k+1 by omega];rfl) rfl (Rd.w ((ai (he 25 dKn)).trans rfl) (by rw[aj (he 25 dKn)];first|exact tI|exact rfl)) (oY l) (lkG rfl) (lkG rfl) (lkG rfl) rfl oM oM oM rfl ⟨rfl,rfl⟩
     repeat' (first
      |refine yt (hk:=?_)|fail)
     refine YQ.nil (V _ _ ?_);clear V U
     repeat' (first|refine qP ?_ (h:=fun hg=>by first|exact ae|exact PRun.k8 ab rfl rfl nd rfl|exact PRun.lv ab (k+1) (k+1+1) rfl rfl nd rfl rfl nd rfl nd rfl rfl ⟨oM,oM⟩|fail)|apply sqW|refine rgK fun U V=>?_|(refine aN V ?_;clear V U)|refine aoE (EStep.oT ab rfl rfl rfl tI rfl (lkG rfl) (lkG rfl) rfl rfl rfl ?_)|refine rtW ?_)
     refine⟨.inr rfl,At 5 1 (k+1),[o0,o1,o2,o3,o4,.arr 1 0 ((l.eraseIdx 0).map eI)],⟨rfl,rfl⟩,?_,by simp,tQ,rfl,rfl⟩;show[o0,o1,o2,o3,o4,.arr 1 0 ((nk l 0 J M).take (k+1))]=_;rw[show k+1=k+1+1 - 1 from rfl,hdt]
 · rcases hn:l.length with _|_|k
   · omega
   · omega
   · rw[hn] at hl hll hdl hdt hlo hi hM em;refine TCall.body Tryz.func131 rfl rfl Tryz.ntmps131 rfl rfl ?_
     repeat' (first|refine qP ?_ (h:=fun hg=>by first|exact ae|exact PRun.mF ab rfl rfl nd rfl nd rfl nd rfl nd rfl rfl oM ⟨oM,oM,oM⟩ oM|exact PRun.k8 ab rfl rfl nd rfl|fail)|apply sqW|refine rgK fun U V=>?_|(refine aN V ?_;clear V U)|refine cX ?_ ?_<;>intro hc<;>try simp only[dE] at hc|refine skW ?_|refine rtW ?_)
     all_goals (first|(exfalso;simp at hc;done)|(exfalso;simp at hc;omega)|(exfalso;omega)|skip)
     refine AWP.mj (fun j=>match j with|0=>[o0,o1,o2,o3,o4,.arr 1 0 (l.map eI)]|_=>[o0,o1,o2,o3,o4,.arr 1 0 (nk l (i+1) J M)]) rfl (by kernel_rfl) dKn rfl dKn (fun U V=>?_)
     repeat' (first
      |refine yt (h:=by refine⟨?_,?_,?_,?_⟩<;>intro hh hg<;>first|exact absurd hh dKn|exact hlo rfl rfl nd rfl nd rfl|exact PRun.yZ ab rfl rfl nd rfl nd rfl rfl ⟨oM,oM⟩|exact ae|exact ah|fail) (hk:=?_)|fail)
     refine YQ.e (v:=.sla 5 1 0 (k+1) 0) (d:=some 26) rfl rfl rfl ?_ ?_
     · intro au he;exact EStep.lz (l:=5) ab (i+1) J M rfl rfl rfl dCd (Rd.w ((ai (he 22 dKn)).trans rfl) (by rw[aj (he 22 dKn)];first|exact tI|exact rfl)) rfl (show _=At 5 1 (i+1+M) by rw[show i+1+M=k+1 by omega];rfl) rfl (Rd.w ((ai (he 25 dKn)).trans rfl) (by rw[aj (he 25 dKn)];first|exact tI|exact rfl)) (oY l) (lkG rfl) (lkG rfl) (lkG rfl) rfl oM oM oM rfl ⟨rfl,rfl⟩
     repeat' (first
      |refine yt (hk:=?_)|fail)
     refine YQ.nil (V _ _ ?_);clear V U
     repeat' (first|refine qP ?_ (h:=fun hg=>by first|exact ae|exact PRun.k8 ab rfl rfl nd rfl|exact PRun.lv ab (k+1) (k+1+1) rfl rfl nd rfl rfl nd rfl nd rfl rfl ⟨oM,oM⟩|fail)|apply sqW|refine rgK fun U V=>?_|(refine aN V ?_;clear V U)|refine aoE (EStep.oT ab rfl rfl rfl tI rfl (lkG rfl) (lkG rfl) rfl rfl rfl ?_)|refine rtW ?_)
     refine⟨.inr rfl,At 5 1 (k+1),[o0,o1,o2,o3,o4,.arr 1 0 ((l.eraseIdx (i+1)).map eI)],⟨rfl,rfl⟩,?_,by simp,tQ,rfl,rfl⟩;show[o0,o1,o2,o3,o4,.arr 1 0 ((nk l (i+1) J M).take (k+1))]=_;rw[show k+1=k+1+1 - 1 from rfl,hdt]
def stC (ws:List ba) (r:Room):List AV:=[.int r.version,.int r.form.bars,.sl 3 (r.form.aC.map bk) .no,.sl 3 (r.form.ends.map cD) .no,.int r.form.jump.at_,.int r.form.jump.to,.int r.form.jump.dc,.sl 3 (r.form.cuts.map aW) .no,.sl 1 (r.aY.map eI) .no,.sl 12 (ws.map bb) .no]
def stN (ws:List ba) (w:ba):List AV:=[.int w.score.version,.int w.form.bars,.sl 3 (w.form.aC.map bk) .no,.sl 3 (w.form.ends.map cD) .no,.int w.form.jump.at_,.int w.form.jump.to,.int w.form.jump.dc,.sl 3 (w.form.cuts.map aW) .no,.nils,.sl 12 (ws.map bb) .no]
theorem eO (ws:List ba) (r:Room):OkA (.var (stC ws r)):=fun m=>by simp[ak,stC,aG,bk,cD,aW,eI,bb,bD,bt,ar,lO]
theorem Nj (ws:List ba) (w:ba):OkA (.var (stN ws w)):=fun m=>by simp[ak,stN,aG,bk,cD,aW,eI,bb,bD,bt,ar,lO]
theorem Ad (ws:List ba) (w:ba):∀(i:Nat) u v,(stN ws w)[i]? = some u→(stC ws (jO w))[i]? = some v→∀M B x,af M B u x→af M B v x:=by
 intro i u v hu hv M B x hx
 match i,hu,hv with
 |0,hu,hv=>cases hu;cases hv;exact hx
 |1,hu,hv=>cases hu;cases hv;exact hx
 |2,hu,hv=>cases hu;cases hv;exact hx
 |3,hu,hv=>cases hu;cases hv;exact hx
 |4,hu,hv=>cases hu;cases hv;exact hx
 |5,hu,hv=>cases hu;cases hv;exact hx
 |6,hu,hv=>cases hu;cases hv;exact hx
 |7,hu,hv=>cases hu;cases hv;exact hx
 |8,hu,hv=>cases hu;cases hv;cases hx;exact .slz 1 .no trivial
 |9,hu,hv=>cases hu;cases hv;exact hx
 |k+10,hu,hv=>cases hu
theorem F5 {o0 o1 o2:aF} (h0:OkA o0) (h1:OkA o1) (h2:OkA o2) (ws:List ba) (c0 c1 c2 c3 c4 c5 c6 c7 c8:AV) (w:ba) (hw:FIn w.form) :
 TCall Tryz.prog 97 [.ptr 3 0,.agg (bb w)] [o0,o1,o2,.var [c0,c1,c2,c3,c4,c5,c6,c7,c8,.sl 12 (ws.map bb) .no]] (fun rv s=>rv=.tup []∧s=[o0,o1,o2,.var (stN ws w)]):=by
 have w1:=rK w.form.aC hw.aC;have w2:=mZ w.form.ends hw.ends;have w3:=rP w.form.cuts hw.cuts;have hok:([o0,o1,o2,.var (stN ws w)]:aa).all (ak 4)=true:=by
  simp only[zAq,zAu,h0 4,h1 4,h2 4,Nj ws w 4];rfl
 generalize hcs:[c0,c1,c2,c3,c4,c5,c6,c7,c8,.sl 12 (ws.map bb) .no]=cs;refine TCall.body Tryz.func97 rfl rfl Tryz.ntmps97 rfl rfl ?_
 repeat' (first|refine qS ?_|apply sqW|refine rgK fun U V=>?_|(refine aN V ?_;clear V U)|refine aB ?_|refine aS ?_|refine aA ?_)
 refine AWP.mj (fun j=>match j with|0=>[o0,o1,o2,.var cs,.var (bb w),.var (bl w.form)]|1=>[o0,o1,o2,.var cs,.var (bb w),.var (bl w.form)]|2=>[o0,o1,o2,.var cs,.var (bb w),.var (bl w.form)]|_=>[o0,o1,o2,.var cs,.var (bb w),.var (bl w.form)]) rfl (by kernel_rfl) dKn rfl dKn (fun U V=>?_)
 repeat' (first
  |refine yt (h:=by refine⟨?_,?_,?_,?_⟩<;>intro hh hg<;>first|exact absurd hh dKn|exact ae|exact pc w1|exact pc w2|exact pc w3|exact ah|fail) (hk:=?_)|fail)
 refine YQ.e (v:=.any) (d:=none) rfl rfl rfl ?_ ?_
 · intro au he;exact stW ab rfl rfl ((ai (he 16 dKn)).trans rfl) (by rw[aj (he 16 dKn)];first|exact tI|exact rfl) rfl ((ai (he 9 dKn)).trans rfl) (by rw[aj (he 9 dKn)];first|exact tI|exact rfl) rfl rfl rfl rfl rfl rfl rfl ⟨rfl,rfl⟩
 repeat' (first
  |refine yt (h:=by refine⟨?_,?_,?_,?_⟩<;>intro hh hg<;>first|exact absurd hh dKn|exact ae|exact pc w1|exact pc w2|exact pc w3|exact ah|fail) (hk:=?_)|fail)
 refine YQ.e (v:=.any) (d:=none) rfl rfl rfl ?_ ?_
 · intro au he;exact stW ab rfl rfl ((ai (he 17 dKn)).trans rfl) (by rw[aj (he 17 dKn)];first|exact tI|exact rfl) rfl ((ai (he 12 dKn)).trans rfl) (by rw[aj (he 12 dKn)];first|exact tI|exact rfl) rfl rfl rfl rfl rfl rfl rfl ⟨rfl,rfl⟩
 repeat' (first
  |refine yt (h:=by refine⟨?_,?_,?_,?_⟩<;>intro hh hg<;>first|exact absurd hh dKn|exact ae|exact pc w1|exact pc w2|exact pc w3|exact ah|fail) (hk:=?_)|fail)
 refine YQ.e (v:=.any) (d:=none) rfl rfl rfl ?_ ?_
 · intro au he;exact stW ab rfl rfl ((ai (he 18 dKn)).trans rfl) (by rw[aj (he 18 dKn)];first|exact tI|exact rfl) rfl ((ai (he 15 dKn)).trans rfl) (by rw[aj (he 15 dKn)];first|exact tI|exact rfl) rfl rfl rfl rfl rfl rfl rfl ⟨rfl,rfl⟩
 repeat' (first
  |refine yt (h:=by refine⟨?_,?_,?_,?_⟩<;>intro hh hg<;>first|exact absurd hh dKn|exact ae|exact pc w1|exact pc w2|exact pc w3|exact ah|fail) (hk:=?_)|fail)
 refine YQ.nil (V _ _ ?_);clear V U;subst hcs
 repeat' (first|refine qP ?_ (h:=fun hg=>by first|exact ae|exact pbD ab rfl rfl nds|exact ah)|refine rgK fun U V=>?_|(refine aN V ?_;clear V U)|refine aS ?_)
 exact⟨.inl rfl,_,[o0,o1,o2,.var (stN ws w)],⟨rfl,rfl⟩,rfl,by simp,hok,rfl,rfl⟩
theorem xM (w:ba) (d:Dec):PCall Tryz.prog 123 [.agg (bb w),.iptr (bu d)] (.b (qg d.a w)):=by
 refine PCall.body Tryz.func123 rfl rfl Tryz.ntmps123 rfl rfl ?_
 repeat' (first|refine qS ?_|apply sqW|refine rgK fun U V=>?_|(refine aN V ?_;clear V U)|refine aB ?_|refine rtW ?_)
 exact⟨.inr rfl,Ent.b rfl⟩
theorem nq {f:FuncId} {avs:List AV} {o0 o1 o2 o3 o3':aF} {v:AV} (h:TCall Tryz.prog f avs [o0,o1,o2,o3] (fun rv s=>rv=v∧s=[o0,o1,o2,o3'])) (h0:OkA o0) (h1:OkA o1) (h2:OkA o2) (h3:OkA o3) (ha:avs.all (aG 4 4)=true) (τ:aa) :
 VCall Tryz.prog (.fn (.func f) [] []) avs ([o0,o1,o2,o3]++τ) (fun rv s=>rv=v∧s=[o0,o1,o2,o3']++τ):=by
 have hk:([o0,o1,o2,o3]:aa).all (ak 4)=true:=by simp only[zAq,zAu,h0 4,h1 4,h2 4,h3 4];rfl
 have:=VCall.frame (TCall.val (first:=[]) (aM:=[]) (avs:=avs) (by rw[zE9,zCc];exact h)) τ hk rfl ha (by rintro rv s' ⟨_,rfl⟩;rfl);refine VCall.mono this ?_;rintro r t ⟨t',rfl,h,rfl⟩;exact⟨h,rfl⟩
theorem F6 {o0 o1 o2:aF} (h0:OkA o0) (h1:OkA o1) (h2:OkA o2) (ws:List ba) (hl:ws.length≤1000000000) (hws:∀w∈ws,WIn w) (r:Room) (d:Dec) :
 TCall Tryz.prog 68 [.ptr 3 0,.agg (bu d)] [o0,o1,o2,.var (stC ws r)] (fun rv s=>rv=.int (eS ws r d).2∧s=[o0,o1,o2,.var (stC ws (eS ws r d).1)]):=by
 have hix:=DL ws (.fn (.func 123) [] [.iptr (bu d)]) (qg d.a) (fun x _=>⟨_,[],_,rfl,xM x d⟩) hl;have hok:∀r,([o0,o1,o2,.var (stC ws r)]:aa).all (ak 4)=true:=fun r=>by
  simp only[zAq,zAu,h0 4,h1 4,h2 4,eO ws r 4];rfl
 by_cases hA:(decide (d.b≠0)||decide (d.c≠0))=true
 · have e:eS ws r d=(r,1):=if_pos hA;rw[e];refine TCall.body Tryz.func68 rfl rfl Tryz.ntmps68 rfl rfl ?_
   repeat' (first|refine qS ?_|apply sqW|refine rgK fun U V=>?_|(refine aN V ?_;clear V U)|refine aB ?_)
   refine cdW rfl tI (fun hc=>?_) (fun hc=>absurd hc (by simp at hA ⊢;omega))
   repeat' (first|refine qS ?_|apply sqW|refine rgK fun U V=>?_|(refine aN V ?_;clear V U)|refine rtW ?_)
   exact⟨.inr rfl,_,[o0,o1,o2,.var (stC ws r)],⟨rfl,rfl⟩,rfl,by simp,hok r,rfl,rfl⟩
 have hA2:d.b=0∧d.c=0:=by simp at hA;omega
 by_cases hB:aX (qg d.a) ws<0
 · have e:eS ws r d=(r,4):=by unfold eS;rw[if_neg hA,if_pos hB]
   rw[e];refine TCall.body Tryz.func68 rfl rfl Tryz.ntmps68 rfl rfl ?_
   repeat' (first|refine qS ?_|apply sqW|refine rgK fun U V=>?_|(refine aN V ?_;clear V U)|refine aB ?_)
   refine cdW rfl tI (fun hc=>absurd hc (by simp[hA2])) (fun hc=>?_)
   repeat' (first|refine qP ?_ (h:=fun hg=>by first|exact ae|exact pbW (hix) rfl rfl nd rfl rfl nds|exact ah)|apply sqW|refine rgK fun U V=>?_|(refine aN V ?_;clear V U)|refine skW ?_)
   refine cdW rfl tI (fun hc=>?_) (fun hc=>absurd hc (by first|(simp;done)|(simp;omega)))
   repeat' (first|refine qS ?_|apply sqW|refine rgK fun U V=>?_|(refine aN V ?_;clear V U)|refine rtW ?_)
   exact⟨.inr rfl,_,[o0,o1,o2,.var (stC ws r)],⟨rfl,rfl⟩,rfl,by simp,hok r,rfl,rfl⟩
 · obtain⟨k,hk,hkl,_,_⟩:=eh (p:=qg d.a) (l:=ws) oM;obtain⟨w,hwk⟩:∃w,ws.getD k default=w:=⟨_,rfl⟩
   have e:eS ws r d=(jO w,0):=by unfold eS;rw[if_neg hA,if_neg hB,hk,zAj,hwk]
   rw[e];rw[hk] at hix;have hin:=hws w (hwk▸il hkl);have ht:=nq (F5 h0 h1 h2 ws _ _ _ _ _ _ _ _ _ w hin.form) h0 h1 h2 (eO ws r) rfl [.var (bu d)];refine TCall.body Tryz.func68 rfl rfl Tryz.ntmps68 rfl rfl ?_
   repeat' (first|refine qS ?_|apply sqW|refine rgK fun U V=>?_|(refine aN V ?_;clear V U)|refine aB ?_)
   refine cdW rfl tI (fun hc=>absurd hc (by simp[hA2])) (fun hc=>?_)
   repeat' (first|refine qP ?_ (h:=fun hg=>by first|exact ae|exact pbW (hix) rfl rfl nd rfl rfl nds|exact ah)|apply sqW|refine rgK fun U V=>?_|(refine aN V ?_;clear V U)|refine skW ?_)
   refine cdW rfl tI (fun hc=>absurd hc (by first|(simp;done)|(simp;omega))) (fun hc=>?_)
   repeat' (first|refine qP ?_ (h:=fun hg=>by first|exact iX bb ws ((k:Nat):Int) hwk (hb:=oM)|exact ae|exact ah)|apply sqW|refine rgK fun U V=>?_|refine aoE (scT (ht) rfl rfl rfl rfl rfl nd rfl rfl nds ?_)|refine skW ?_)
   rintro _ _ ⟨rfl,rfl⟩
   repeat' (first|(refine aN V ?_;clear V U))
   refine AWP.BK 3 (cs':=stC ws (jO w)) rfl rfl (Ad ws w) ?_
   repeat' (first|refine qS ?_|apply sqW|refine rgK fun U V=>?_|(refine aN V ?_;clear V U)|refine rtW ?_)
   exact⟨.inr rfl,_,[o0,o1,o2,.var (stC ws (jO w))],⟨rfl,rfl⟩,rfl,by simp,hok _,rfl,rfl⟩
theorem tY {o0 o1 o2:aF} (h0:OkA o0) (h1:OkA o1) (h2:OkA o2) (ws:List ba) (r:Room) (x:aR×Int) :
 TCall Tryz.prog 70 [.ptr 3 0,.agg (bl x.1),.int x.2] [o0,o1,o2,.var (stC ws r)] (fun rv s=>rv=.int (cq r x).2∧s=[o0,o1,o2,.var (stC ws (cq r x).1)]):=by
 have hok:∀r,([o0,o1,o2,.var (stC ws r)]:aa).all (ak 4)=true:=fun r=>by
  simp only[zAq,zAu,h0 4,h1 4,h2 4,eO ws r 4];rfl
 obtain⟨f,e⟩:=x;by_cases he:e=0
 · subst he;have e1:cq r (f,0)=({ r with form:=f },0):=rfl;rw[e1];dsimp only;refine TCall.body Tryz.func70 rfl rfl Tryz.ntmps70 rfl rfl ?_
   repeat' (first|refine qS ?_|apply sqW|refine rgK fun U V=>?_|(refine aN V ?_;clear V U)|refine aB ?_)
   refine cdW rfl tI (fun hc=>?_) (fun hc=>absurd hc sMp)
   repeat' (first|refine qT ?_|apply sqW|refine rgK fun U V=>?_|(refine aN V ?_;clear V U)|refine aS ?_|refine rtW ?_)
   exact⟨.inr rfl,_,[o0,o1,o2,.var (stC ws { r with form:=f })],⟨rfl,rfl⟩,rfl,by simp,hok _,rfl,rfl⟩
 · have e1:cq r (f,e)=(r,e):=by unfold cq;rw[if_neg he]
   rw[e1];refine TCall.body Tryz.func70 rfl rfl Tryz.ntmps70 rfl rfl ?_
   repeat' (first|refine qS ?_|apply sqW|refine rgK fun U V=>?_|(refine aN V ?_;clear V U)|refine aB ?_)
   refine cdW rfl tI (fun hc=>absurd hc (by simpa using he)) (fun hc=>?_)
   repeat' (first|refine qS ?_|apply sqW|refine rgK fun U V=>?_|(refine aN V ?_;clear V U)|refine skW ?_|refine rtW ?_)
   exact⟨.inr rfl,_,[o0,o1,o2,.var (stC ws r)],⟨rfl,rfl⟩,rfl,by simp,hok _,rfl,rfl⟩
theorem qj {E:List (List AV)} (hE:∀e∈E,∃c:Int,e=eI c):∀e∈E,∀a∈e,∀M B x,af M B a x→af M [] a x:=fun e he a ha M B x hx=>by
 obtain⟨c,rfl⟩:=hE e he;rw[zA9.1 ha] at hx ⊢;cases hx;exact .prim _
theorem DP {E:List (List AV)} (hE:∀e∈E,∃c:Int,e=eI c):∀e∈E,e.all fb=true:=fun e he=>by
 obtain⟨c,rfl⟩:=hE e he;rfl
theorem okI {E:List (List AV)} (hE:∀e∈E,∃c:Int,e=eI c) (ver:Nat):OkA (.arr 1 ver E):=fun m=>by
 simp only[ak,zA6];intro e he a ha;obtain⟨c,rfl⟩:=hE e he;rw[zA9.1 ha];rfl
theorem DQ {o0 o1 o2 o3 o4:aF} (ho:∀o∈[o0,o1,o2,o3,o4],OkA o) {E:List (List AV)} (hE:∀e∈E,∃c:Int,e=eI c) (ver:Nat):([o0,o1,o2,o3,o4,.dead,.arr 1 ver E]:aa).all (ak 7)=true:=mA (fun o h=>by
 rcases zAy.1 (show o∈[o0,o1,o2,o3,o4]++[.dead,.arr 1 ver E] from h) with h|h
 · exact ho o h
 · rcases zAw.1 h with rfl|h
   · exact fun _=>rfl
   · rw[zA9.1 h];exact okI hE ver) 7
theorem Cc {E:List (List AV)} (hE:∀e∈E,∃c:Int,e=eI c) (i:Nat) (x:Int):∀e∈E.take i++eI x::E.drop i,∃c:Int,e=eI c:=fun e he=>by
 rcases zAy.1 he with h|h
 · exact hE e (zC4 h)
 · rcases zAw.1 h with rfl|h
   · exact⟨x,rfl⟩
   · exact hE e (zCn h)
theorem Mg {E:List (List AV)} (hE:∀e∈E,∃c:Int,e=eI c) (hne:E≠[]) (hl:E.length≤1000) (x:Int) {o0 o1 o2 o3 o4:aF} (ho:∀o∈[o0,o1,o2,o3,o4],OkA o) :
 TCall Tryz.prog 133 [.sla 6 1 0 E.length 0,.int E.length,.sla 5 1 0 1 1] [o0,o1,o2,o3,o4,.arr 1 1 [eI x],.arr 1 0 E] (fun r s=>∃ver,r=.sla 6 1 0 (E.length+1) ver∧s=[o0,o1,o2,o3,o4,.dead,.arr 1 ver (E++[eI x])]):=by
 have cC:0<E.length:=zDr.2 hne;have hok:=DQ ho (E:=E++[eI x]) (fun e he=>by
  rcases zAy.1 he with h|h
  · exact hE e h
  · exact⟨x,zA9.1 h⟩) 1
 refine TCall.body Tryz.func133 rfl rfl Tryz.ntmps133 rfl rfl ?_;refine AWP.fP (d:=2) (l:=5) (es:=[eI x]) rfl rfl (qj fun e he=>⟨x,zA9.1 he⟩) ?_
 repeat' (first|refine qP ?_ (h:=fun hg=>by first|exact PRun.lA ab E.length E.length 0 rfl rfl nd rfl oM nd rfl rfl oM oM oM|exact ae|exact PRun.k8 ab rfl rfl nd rfl|exact ah)|apply sqW|refine rgK fun U V=>?_|(refine aN V ?_;clear V U)|refine aoE (EStep.gW ab rfl rfl rfl dCd (Rd.w rfl tI) (.inl ⟨rfl,hne⟩) rfl (Rd.w rfl tI) (.sl rfl (DP fun e he=>⟨x,zA9.1 he⟩)) (zAa _) (lkG rfl) (lkG rfl) rfl rfl (by simp only[zC9];omega) (by simp only[zC9];omega) rfl rfl ?_)|refine cX ?_ ?_<;>intro hc<;>try simp only[dE] at hc|refine skW ?_|refine rtW ?_)
 all_goals (first|(exfalso;simp at hc;done)|(exfalso;simp at hc;omega)|(exfalso;omega)|skip)
 exact⟨.inr rfl,.sla 6 1 0 (E.length+1) 1,[o0,o1,o2,o3,o4,.dead,.arr 1 1 (E++[eI x])],⟨1,rfl,rfl⟩,rfl,by simp,hok,rfl,rfl⟩
theorem Mh {E:List (List AV)} (hE:∀e∈E,∃c:Int,e=eI c) (hl:E.length≤1000) {i:Nat} (hi:i<E.length) (x:Int) {o0 o1 o2 o3 o4:aF} (ho:∀o∈[o0,o1,o2,o3,o4],OkA o) :
 TCall Tryz.prog 133 [.sla 6 1 0 E.length 0,.int i,.sla 5 1 0 1 1] [o0,o1,o2,o3,o4,.arr 1 1 [eI x],.arr 1 0 (E++[[.any]])] (fun r s=>∃ver,r=.sla 6 1 0 (E.length+1) ver∧s=[o0,o1,o2,o3,o4,.dead,.arr 1 ver (E.take i++eI x::E.drop i)]):=by
 have hok:=DQ ho (Cc hE i x) 0;have hxe:∀e∈[eI x],∃c:Int,e=eI c:=fun e he=>⟨x,zA9.1 he⟩
 have hEx:(E++[[AV.any]]).length=E.length+1:=sMp;obtain⟨E2,hE2⟩:∃E2,E2=(E++[[AV.any]]).take (i+1)++(((E++[[AV.any]]).drop i).take (E.length - i)++(E++[[AV.any]]).drop (i+1+(E.length - i))):=⟨_,rfl⟩
 have e2l:E2.length=E.length+1:=by
  rw[hE2];simp only[lLa,zAg,zAx,hEx];omega
 have e2:E2.take i++(([eI x].drop 0).take 1++E2.drop (i+1))=E.take i++eI x::E.drop i:=by
  rw[hE2];have h1:(E++[[AV.any]]).take (i+1)=E.take (i+1):=zBt oM;have h2:((E++[[AV.any]]).drop i).take (E.length - i)=E.drop i:=by
   rw[zDt oM,zBt (by rw[zAx];omega),zAn (by rw[zAx];omega)]
  have h3:(E++[[AV.any]]).drop (i+1+(E.length - i))=[]:=zCx oM;have hlt:(E.take (i+1)).length=i+1:=by rw[zAg];omega
  rw[h1,h2,h3,zCc];have a1:(E.take (i+1)++E.drop i).take i=E.take i:=by rw[zBt oM,List.take_take,zDy oM]
  have a2:(E.take (i+1)++E.drop i).drop (i+1)=E.drop i:=by rw[zDt oM,List.drop_of_length_le oM,zE9]
  rw[a1,a2];rfl
 have hov:Extern.find Tryz.f173=some (Extern.SlicesOverlaps.overlaps #[43,43] #[4]):=by kernel_rfl
 refine TCall.body Tryz.func133 rfl rfl Tryz.ntmps133 rfl rfl ?_
 repeat' (first|refine qP ?_ (h:=fun hg=>by first|exact PRun.lA ab i i (E.length - i) rfl rfl nd rfl oM nd rfl rfl oM oM rfl|exact ae|exact PRun.k8 ab rfl rfl nd rfl|fail)|apply sqW|refine rgK fun U V=>?_|(refine aN V ?_;clear V U)|refine aoE (EStep.M8 ab rfl rfl rfl dCd (Rd.w rfl tI) oM rfl (lkG rfl) ?_)|refine cX ?_ ?_<;>intro hc<;>try simp only[dE] at hc|refine skW ?_|refine rtW ?_)
 all_goals (first|(exfalso;simp at hc;done)|(exfalso;simp at hc;omega)|(exfalso;omega)|skip)
 intro m
 repeat' (first|refine qP ?_ (h:=fun hg=>by first|exact PRun.Du ab (f:=173) (fn:=Tryz.f173) Tryz.func173 rfl rfl (by kernel_rfl) hov rfl (Rd.w rfl tI) rfl (Rd.w rfl tI) rfl (zAa _) (zAa _) (Rd.w rfl tI) rfl oM oM dCd|exact PRun.lA ab (i+1) (i+1) (E.length - i) rfl rfl nd rfl oM nd rfl rfl oM oM oM|exact PRun.HH ab (E.length+1) rfl rfl nd rfl oM nd rfl rfl oM oM oM|exact ae|fail)|apply sqW|refine rgK fun U V=>?_|(refine aN V ?_;clear V U)|refine cX ?_ ?_<;>intro hc<;>try simp only[dE] at hc|refine skW ?_)
 all_goals (first|(exfalso;simp at hc;done)|(exfalso;simp at hc;omega)|(exfalso;omega)|skip)
 refine AWP.gj (DF [77]) (fun j=>match j with|0=>[o0,o1,o2,o3,o4,.arr 1 1 [eI x],.arr 1 0 (E++[[.any]])]|_=>[o0,o1,o2,o3,o4,.arr 1 1 [eI x],.arr 1 0 E2]) rfl (by kernel_rfl) dKn rfl dKn (fun U V=>?_)
 repeat' (first
  |refine yt (h:=by refine⟨?_,?_,?_,?_⟩<;>intro hh hg<;>first|exact absurd hh dKn|exact PRun.lA ab i i (E.length+1 - i) rfl rfl nd rfl oM nd rfl rfl oM oM rfl|exact PRun.lA ab (i+1) (i+1) (E.length - i) rfl rfl nd rfl oM nd rfl rfl oM oM oM|exact ae|exact ah|fail) (hk:=?_)|fail)
 refine YQ.e (v:=.int ((E.length - i:Nat):Int)) (d:=some 77) rfl rfl rfl ?_ ?_
 · intro au he;exact EStep.Fw ab (E.length - i) (l:=6) (l':=6) rfl rfl rfl (Rd.w ((ai (he 73 dKn)).trans rfl) (by rw[aj (he 73 dKn)];first|exact tI|exact rfl)) rfl (Rd.w ((ai (he 76 dKn)).trans rfl) (by rw[aj (he 76 dKn)];first|exact tI|exact rfl)) rfl (fun y hy=>DP hE y (by
    rw[zDt oM,zBt (by rw[zAx];exact nLr _)] at hy;exact zCn (zC4 hy))) (lkG rfl) (lkG rfl) rfl (by simp only[Nat.min_def];split<;>omega) oM oM oM hE2 ⟨rfl,rfl⟩
 repeat' (first
  |refine yt (hk:=?_)|fail)
 refine YQ.nil (V _ _ ?_);clear V U
 repeat' (first|refine qP ?_ (h:=fun hg=>by first|exact PRun.lA ab i i (E.length+1 - i) rfl rfl nd rfl oM nd rfl rfl oM oM rfl|exact ae|fail)|apply sqW|refine rgK fun U V=>?_|(refine aN V ?_;clear V U)|refine aoE (EStep.Fw ab 1 (l:=6) (l':=5) rfl rfl rfl (Rd.w rfl tI) rfl (Rd.w rfl tI) rfl (fun y hy=>DP hxe y (zCn (zC4 hy))) (lkG rfl) (lkG rfl) rfl (by simp only[Nat.min_def];split<;>omega) oM oM (nLr _) rfl ?_))
 refine AWP.fP (d:=2) (l:=5) (es:=[eI x]) rfl rfl (qj hxe) ?_;refine rtW ⟨.inr rfl,.sla 6 1 0 (E.length+1) 0,[o0,o1,o2,o3,o4,.dead,.arr 1 0 (E.take i++eI x::E.drop i)],⟨0,rfl,rfl⟩,?_,by simp,hok,rfl,rfl⟩;show[o0,o1,o2,o3,o4,.dead,.arr 1 0 (E2.take i++(([eI x].drop 0).take 1++E2.drop (i+1)))]=_;rw[e2]
theorem Iq {l:List Int} (hne:l≠[]) (hl:l.length≤1000) {i:Nat} (hi:i≤l.length) (x:Int) {o0 o1 o2 o3 o4:aF} (ho:∀o∈[o0,o1,o2,o3,o4],OkA o) :
 TCall Tryz.prog 133 [.sla 6 1 0 l.length 0,.int i,.sla 5 1 0 1 1] [o0,o1,o2,o3,o4,.arr 1 1 [eI x],.arr 1 0 (l.map eI)] (fun r s=>r=.sl 1 ((l.take i++x::l.drop i).map eI) .no∧s=[o0,o1,o2,o3,o4,.dead,.dead]):=by
 have hE:∀e∈l.map eI,∃c:Int,e=eI c:=fun e he=>by
  obtain⟨c,_,rfl⟩:=zAf.1 he;exact⟨c,rfl⟩
 have hll:(l.map eI).length=l.length:=sMp;have cC:0<l.length:=zDr.2 hne;have hmap:(l.take i++x::l.drop i).map eI=(l.map eI).take i++eI x::(l.map eI).drop i:=by simp[List.map_take,List.map_drop]
 have hml:((l.take i++x::l.drop i).map eI).length=l.length+1:=by simp;omega
 refine TCall.frz (l:=6) (es:=(l.take i++x::l.drop i).map eI) (τ:=fun ver=>[o0,o1,o2,o3,o4,.dead,.arr 1 ver ((l.take i++x::l.drop i).map eI)]) ?_ (fun _=>rfl) (fun _=>rfl) (by rw[hmap];exact qj (Cc hE i x));rw[hml];rcases nLg i l.length with hlt|hge
 · have hB:=Mh hE oM (i:=i) oM x ho;rw[hll,←hmap] at hB;unfold TCall at hB ⊢;refine⟨hB.1,fun G w vs hs ha=>?_⟩;obtain⟨ob,cap,hGB,hne',hob⟩:=cJ hs (l:=6) rfl;obtain⟨b,rfl⟩:=hne' (by simpa using hne);obtain⟨c,T',fr,hb,hf,hlc,hn,hz,bQ,hmm⟩:=hob b rfl;rw[hll] at hn;rw[zD0] at hlc;by_cases hr:l.length<cap
   · exact hB.2 G w vs (hs.room (l:=6) rfl hGB (by rw[hll];exact hr)) ha
   · have po:cap=l.length:=oM;obtain⟨ha1,ha2⟩:=ha;obtain⟨v0,v1,v2,rfl⟩:∃v0 v1 v2,vs=#[v0,v1,v2]:=by
      simp at ha1;exact⟨vs[0]'oM,vs[1]'oM,vs[2]'oM,Array.ext (by simp[ha1]) fun i h1 h2=>by
       have:i=0∨i=1∨i=2:=by simp at h2;omega
       rcases this with rfl|rfl|rfl<;>rfl⟩
     have r0:af G.M G.B (.sla 6 1 0 l.length 0) v0:=by simpa using ha2 0 _ rfl
     have r1:af G.M G.B (.int i) v1:=by simpa using ha2 1 _ rfl
     have r2:af G.M G.B (.sla 5 1 0 1 1) v2:=by simpa using ha2 2 _ rfl
     obtain⟨q,hq⟩:∃q,l.length=q+1:=⟨l.length - 1,oM⟩
     have e0:v0=.slice (some ⟨b,0,none⟩) l.length cap:=by
      rw[hq] at r0 ⊢;exact At.val (len:=q+1) hGB r0
     have e1:v1=.int .i64 i:=af.aP r1;obtain⟨vb,vcap,vc,vT,vfr,vcx,k1,k2,k3,k4,e2⟩:=tL hs (l:=5) rfl r2 oM (zAa _);subst e0;subst e1;subst e2;have dY:∀j,j<l.length→c[j]? = some (.int .i64 (l.getD j 0)):=fun j hj=>by
      have h1:=bQ j 0 (eI (l.getD j 0)) (.int (l.getD j 0)) (by rw[zA3,zB5,zA1 hj];rfl) rfl;have h2:=af.aP h1;have h3:j<c.size:=oM;rw[zD0,zC7,zA4,zAm h3] at h2;rw[zAm h3,show c[j]=_ from h2]
     have Mi:vc[0]? = some (.int .i64 x):=by
      obtain⟨ob4,cap4,Ir,_,hob4⟩:=cJ hs (l:=5) rfl;rw[k1] at Ir;simp at Ir;obtain⟨rfl,rfl⟩:=Ir;obtain⟨c4,T4,fr4,hb4,_,_,_,_,Nk,_⟩:=hob4 vb rfl;rw[k2] at hb4;simp at hb4;obtain⟨rfl,rfl,rfl⟩:=hb4;have h2:=af.aP (Nk 0 0 (eI x) (.int x) rfl rfl);have h3:0<vc.size:=by have:=k4;simp only[zC9] at this;omega
      rw[zA4,zAm h3] at h2;rw[zAm h3,show vc[0]=_ from h2]
     have K:=Any2.slices_Insert_int_grow Tryz.insI b 0 l.length cap i vb 0 1 vcx (l.map (Value.int .i64)) [.int .i64 x] w hlt oM oM oM oM sMp rfl
      (fun j v hj=>by
       rw[zA3] at hj;have hjl:j<l.length:=by
        rcases nLg j l.length with h|h
        · exact h
        · rw[zA2 h] at hj;cases hj
       rw[zA1 hjl] at hj;cases hj;have:=dY j hjl;rw[zB5,zA1 hjl] at this;simp only[World.cell?,hb,zC3];exact this)
      (fun j v hj=>by
       have:j=0:=by
        have:=(zAd.1 hj).1;simp at this;exact this
       subst this;cases hj;simp only[World.cell?,k2,zC3];exact Mi)
      (fun v hv=>by obtain⟨z,_,rfl⟩:=zAf.1 hv;rfl) (fun v hv=>by rw[zA9.1 hv];rfl)
     have hBl:G.B.length=7:=hs.len;obtain⟨GC,hGC⟩:∃GC,grownCap w (l.length+1) cap (Tryz.pF.t 3)=GC:=⟨_,rfl⟩
     have hge:l.length+1≤GC:=hGC▸grownCap_ge w (l.length+1) cap (Tryz.pF.t 3);rw[hGC] at K;refine Calls.mono K ?_;rintro e w' ⟨rfl,rfl⟩;obtain⟨M',m1,m2,_⟩:=hs.fP (l:=5) rfl r2 (qj fun e he=>⟨x,zA9.1 he⟩)
     obtain⟨cc,n1,n2,n3⟩:=m2.HJ (l:=6) (x:=x) (bf:=l) (i:=i) rfl hGB oM (T:=Tryz.pF.t 3) (row:=((l.map (Value.int .i64)).take i).toArray++Builtin.zeroCells (Value.int .i64 0).cells (l.length+1 - i)++Builtin.zeroCells (Value.int .i64 0).cells (GC - (l.length+1)))
      (by simp[Builtin.zeroCells,Value.cells];omega) (fun j hj=>by
       rw[zA4,zC0,zAo (by simp;omega)];simp[zB8,hj,zB5,zA1 (show j<l.length by omega)])
     have hcc:cc=GC:=by rw[n2];simp[Builtin.zeroCells,Value.cells];omega
     refine⟨_,.sla 6 1 0 (l.length+1) 1,_,_,rfl,⟨1,rfl,rfl⟩,?_,n1,?_⟩
     · exact(Gh.Le.upM m1).trans (.upB (BLe.set hGB n3))
     · refine .sla 6 1 0 (l.length+1) 1 (some ⟨w.heap.size,0,none⟩) _ ⟨some w.heap.size,cc,1,?_,nLr _,fun _=>⟨?_,.inr ⟨?_,rfl⟩⟩⟩
       · exact zAh (show 6<G.B.length by omega)
       · show 0+(l.length+1)≤cc;omega
       · show _=cc;omega
 · obtain rfl:i=l.length:=oM;have hA:=Mg hE (by simpa using hne) oM x ho;rw[hll] at hA;have e:(l.take l.length++x::l.drop l.length).map eI=l.map eI++[eI x]:=sMp;rw[e];exact hA
theorem F7 (x:Int) {o0 o1 o2 o3 o4:aF} (ho:∀o∈[o0,o1,o2,o3,o4],OkA o) :
 TCall Tryz.prog 133 [.sl 1 [] .fresh,.int 0,.sla 5 1 0 1 1] [o0,o1,o2,o3,o4,.arr 1 1 [eI x]] (fun r s=>r=.sl 1 [eI x] .no∧s=[o0,o1,o2,o3,o4,.dead,.dead]):=by
 have hxe:∀e∈[eI x],∃c:Int,e=eI c:=fun e he=>⟨x,zA9.1 he⟩
 have hok:=DQ ho hxe 0;refine TCall.frz (l:=6) (es:=[eI x]) (τ:=fun ver=>[o0,o1,o2,o3,o4,.dead,.arr 1 ver [eI x]]) ?_ (fun _=>rfl) (fun _=>rfl) (qj hxe);refine TCall.body Tryz.func133 rfl rfl Tryz.ntmps133 rfl rfl ?_;refine AWP.fP (d:=2) (l:=5) (es:=[eI x]) rfl rfl (qj hxe) ?_
 repeat' (first|refine qP ?_ (h:=fun hg=>by first|exact PRun.GH (al:=([]:List Int)) (f:=eI) ab rfl rfl nd rfl nd rfl dCd|exact ae|exact ah)|apply sqW|refine rgK fun U V=>?_|(refine aN V ?_;clear V U)|refine aoE (EStep.fg ab rfl rfl rfl rfl (Rd.w rfl tI) (Rd.w rfl tI) (.sl rfl (DP hxe)) (lkG rfl) (lkG rfl) rfl rfl (by simp only[zC9];omega) (by simp only[zC9];omega) ?_)|refine cX ?_ ?_<;>intro hc<;>try simp only[dE] at hc|refine skW ?_|refine rtW ?_)
 all_goals (first|(exfalso;simp at hc;done)|(exfalso;simp at hc;omega)|(exfalso;omega)|skip)
 exact⟨.inr rfl,.sla 6 1 0 1 0,[o0,o1,o2,o3,o4,.dead,.arr 1 0 [eI x]],⟨0,rfl,rfl⟩,rfl,by simp,hok,rfl,rfl⟩
end Go.Proofs.YtmjdoencpjpegaaGreatDoor.De
