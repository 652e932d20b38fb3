/- Parts of the proof. No statement is proved here. -/
import Derived.Test.YtmjdoencpjpegaaGreatDoorP25
import Derived.Test.YtmjdoencpjpegaaGreatDoorP33
set_option linter.unusedVariables false
set_option linter.unusedSimpArgs false
set_option maxHeartbeats 16000000
set_option maxRecDepth 20000
namespace Go.Proofs.YtmjdoencpjpegaaGreatDoor.De
open Go.Ab Go.Pl Pl
attribute [local irreducible] AWP AOps EStep AQ PStep PRun PCall TCall VCall
abbrev oE (d:Dec):cd:=⟨d.a,d.b,d.c⟩
abbrev tl8 (d:Dec) (o7:aF):aa:=[.var [.ptr 3 0],.var (bu d),.var (aW (oE d)),o7]
abbrev st8 (o0 o1 o2:aF) (ws:List ba) (r:Room) (d:Dec) (o7:aF):aa:=[o0,o1,o2,.var (stC ws r)]++tl8 d o7
theorem ok8 {o0 o1 o2 o7:aF} (h0:OkA o0) (h1:OkA o1) (h2:OkA o2) (h7:ak 8 o7=true) (ws:List ba) (r:Room) (d:Dec):(st8 o0 o1 o2 ws r d o7).all (ak 8)=true:=by
 show([o0,o1,o2,.var (stC ws r),.var [.ptr 3 0],.var (bu d),.var (aW (oE d)),o7]:aa).all (ak 8)=true;simp only[zAq,zAu,h0 8,h1 8,h2 8,h7,eO ws r 8];rfl
theorem Ns {o0 o1 o2 o7:aF} (h0:OkA o0) (h1:OkA o1) (h2:OkA o2) (h7:ak 8 o7=true) (ws:List ba) (hl:ws.length≤1000000000) (hws:∀w∈ws,WIn w) (r:Room) (d:Dec) :
 TCall Tryz.prog 67 [.ptr 4 0,.ptr 5 0] (st8 o0 o1 o2 ws r d o7) (fun rv s=>rv=.int (eS ws r d).2∧s=st8 o0 o1 o2 ws (eS ws r d).1 d o7):=by
 have w:=nq (F6 h0 h1 h2 ws hl hws r d) h0 h1 h2 (eO ws r) rfl (tl8 d o7);refine TCall.body Tryz.func67 rfl rfl Tryz.ntmps67 rfl rfl ?_
 repeat' (first|refine qS ?_|apply sqW|refine rgK fun U V=>?_|(refine aN V ?_;clear V U)|refine aoE (scT (w) rfl rfl rfl rfl rfl nd rfl rfl nds ?_))
 rintro _ _ ⟨rfl,rfl⟩
 repeat' (first|refine qS ?_|(refine aN V ?_;clear V U)|refine rtW ?_)
 exact⟨.inr rfl,_,st8 o0 o1 o2 ws (eS ws r d).1 d o7,⟨rfl,rfl⟩,rfl,by simp,ok8 h0 h1 h2 h7 ws _ d,rfl,rfl⟩
theorem Nt {o0 o1 o2 o7:aF} (h0:OkA o0) (h1:OkA o1) (h2:OkA o2) (h7:ak 8 o7=true) (ws:List ba) (r:Room) (hf:FIn r.form) (d:Dec) :
 TCall Tryz.prog 69 [.ptr 4 0,.ptr 6 0] (st8 o0 o1 o2 ws r d o7) (fun rv s=>rv=.int (cq r (jn r.form (oE d))).2∧s=st8 o0 o1 o2 ws (cq r (jn r.form (oE d))).1 d o7):=by
 have w:=H6 r.form hf (oE d);generalize jn r.form (oE d)=X at *;have w2:=nq (tY h0 h1 h2 ws r X) h0 h1 h2 (eO ws r) rfl (tl8 d o7);obtain⟨F,e⟩:=X;refine TCall.body Tryz.func69 rfl rfl Tryz.ntmps69 rfl rfl ?_
 repeat' (first|refine qS ?_|apply sqW|refine rgK fun U V=>?_|(refine aN V ?_;clear V U))
 refine AWP.zO (DF [13]) (fun j=>match j with|0=>st8 o0 o1 o2 ws r d o7|_=>st8 o0 o1 o2 ws (cq r (F,e)).1 d o7) rfl (by kernel_rfl) dKn rfl dKn (fun U V=>?_)
 repeat' (first
  |refine yt (h:=by refine⟨?_,?_,?_,?_⟩<;>intro hh hg<;>first|exact absurd hh dKn|exact ae|exact pc w|exact ah|fail) (hk:=?_)|fail)
 refine YQ.e (v:=.int (cq r (F,e)).2) (d:=some 13) rfl rfl rfl ?_ ?_
 · intro au he;refine scT w2 rfl rfl rfl rfl rfl tI rfl (by simp only[rds,ai (he 3 dKn),ai (he 11 dKn),ai (he 12 dKn)];rfl) ⟨(by rw[aj (he 3 dKn)];first|exact tI|exact rfl),(by rw[aj (he 11 dKn)];first|exact tI|exact rfl),(by rw[aj (he 12 dKn)];first|exact tI|exact rfl),tI⟩ ?_;rintro _ _ ⟨rfl,rfl⟩;exact⟨rfl,rfl⟩
 repeat' (first
  |refine yt (hk:=?_)|fail)
 refine YQ.nil (V _ _ ?_);clear V U
 repeat' (first|refine rtW ?_)
 exact⟨.inr rfl,_,st8 o0 o1 o2 ws (cq r (F,e)).1 d o7,⟨rfl,rfl⟩,rfl,by simp,ok8 h0 h1 h2 h7 ws _ d,rfl,rfl⟩
theorem Nu {o0 o1 o2 o7:aF} (h0:OkA o0) (h1:OkA o1) (h2:OkA o2) (h7:ak 8 o7=true) (ws:List ba) (r:Room) (hf:FIn r.form) (d:Dec) :
 TCall Tryz.prog 72 [.ptr 4 0,.ptr 6 0] (st8 o0 o1 o2 ws r d o7) (fun rv s=>rv=.int (cq r (iF r.form (oE d))).2∧s=st8 o0 o1 o2 ws (cq r (iF r.form (oE d))).1 d o7):=by
 have w:=FM r.form hf (oE d);generalize iF r.form (oE d)=X at *;have w2:=nq (tY h0 h1 h2 ws r X) h0 h1 h2 (eO ws r) rfl (tl8 d o7);obtain⟨F,e⟩:=X;refine TCall.body Tryz.func72 rfl rfl Tryz.ntmps72 rfl rfl ?_
 repeat' (first|refine qS ?_|apply sqW|refine rgK fun U V=>?_|(refine aN V ?_;clear V U))
 refine AWP.zO (DF [13]) (fun j=>match j with|0=>st8 o0 o1 o2 ws r d o7|_=>st8 o0 o1 o2 ws (cq r (F,e)).1 d o7) rfl (by kernel_rfl) dKn rfl dKn (fun U V=>?_)
 repeat' (first
  |refine yt (h:=by refine⟨?_,?_,?_,?_⟩<;>intro hh hg<;>first|exact absurd hh dKn|exact ae|exact pc w|exact ah|fail) (hk:=?_)|fail)
 refine YQ.e (v:=.int (cq r (F,e)).2) (d:=some 13) rfl rfl rfl ?_ ?_
 · intro au he;refine scT w2 rfl rfl rfl rfl rfl tI rfl (by simp only[rds,ai (he 3 dKn),ai (he 11 dKn),ai (he 12 dKn)];rfl) ⟨(by rw[aj (he 3 dKn)];first|exact tI|exact rfl),(by rw[aj (he 11 dKn)];first|exact tI|exact rfl),(by rw[aj (he 12 dKn)];first|exact tI|exact rfl),tI⟩ ?_;rintro _ _ ⟨rfl,rfl⟩;exact⟨rfl,rfl⟩
 repeat' (first
  |refine yt (hk:=?_)|fail)
 refine YQ.nil (V _ _ ?_);clear V U
 repeat' (first|refine rtW ?_)
 exact⟨.inr rfl,_,st8 o0 o1 o2 ws (cq r (F,e)).1 d o7,⟨rfl,rfl⟩,rfl,by simp,ok8 h0 h1 h2 h7 ws _ d,rfl,rfl⟩
def vz (r:Room) (d:Dec):Room×Int:=if d.c≠0 then (r,1) else cq r (ec r.form d.a d.b)
theorem Nv {o0 o1 o2 o7:aF} (h0:OkA o0) (h1:OkA o1) (h2:OkA o2) (h7:ak 8 o7=true) (ws:List ba) (r:Room) (hf:FIn r.form) (d:Dec) :
 TCall Tryz.prog 74 [.ptr 5 0,.ptr 4 0] (st8 o0 o1 o2 ws r d o7) (fun rv s=>rv=.int (vz r d).2∧s=st8 o0 o1 o2 ws (vz r d).1 d o7):=by
 by_cases hc0:d.c≠0
 · have e1:vz r d=(r,1):=if_pos hc0;rw[e1];refine TCall.body Tryz.func74 rfl rfl Tryz.ntmps74 rfl rfl ?_
   repeat' (first|refine qS ?_|apply sqW|refine rgK fun U V=>?_|(refine aN V ?_;clear V U))
   refine cdW rfl tI (fun hc=>?_) (fun hc=>absurd hc (by simpa using hc0))
   repeat' (first|refine qS ?_|apply sqW|refine rgK fun U V=>?_|(refine aN V ?_;clear V U)|refine rtW ?_)
   exact⟨.inr rfl,_,st8 o0 o1 o2 ws r d o7,⟨rfl,rfl⟩,rfl,by simp,ok8 h0 h1 h2 h7 ws _ d,rfl,rfl⟩
 · have e1:vz r d=cq r (ec r.form d.a d.b):=if_neg hc0;rw[e1];have w:=DM r.form hf d.a d.b;generalize ec r.form d.a d.b=X at *;have w2:=nq (tY h0 h1 h2 ws r X) h0 h1 h2 (eO ws r) rfl (tl8 d o7);obtain⟨F,e⟩:=X;refine TCall.body Tryz.func74 rfl rfl Tryz.ntmps74 rfl rfl ?_
   repeat' (first|refine qS ?_|apply sqW|refine rgK fun U V=>?_|(refine aN V ?_;clear V U))
   refine cdW rfl tI (fun hc=>absurd hc (by simpa using hc0)) (fun hc=>?_)
   repeat' (first|apply sqW|refine skW ?_)
   refine AWP.zO (DF [19]) (fun j=>match j with|0=>st8 o0 o1 o2 ws r d o7|_=>st8 o0 o1 o2 ws (cq r (F,e)).1 d o7) rfl (by kernel_rfl) dKn rfl dKn (fun U V=>?_)
   repeat' (first
    |refine yt (h:=by refine⟨?_,?_,?_,?_⟩<;>intro hh hg<;>first|exact absurd hh dKn|exact ae|exact pc w|exact ah|fail) (hk:=?_)|fail)
   refine YQ.e (v:=.int (cq r (F,e)).2) (d:=some 19) rfl rfl rfl ?_ ?_
   · intro au he;refine scT w2 rfl rfl rfl rfl rfl tI rfl (by simp only[rds,ai (he 6 dKn),ai (he 17 dKn),ai (he 18 dKn)];rfl) ⟨(by rw[aj (he 6 dKn)];first|exact tI|exact rfl),(by rw[aj (he 17 dKn)];first|exact tI|exact rfl),(by rw[aj (he 18 dKn)];first|exact tI|exact rfl),tI⟩ ?_;rintro _ _ ⟨rfl,rfl⟩;exact⟨rfl,rfl⟩
   repeat' (first
    |refine yt (hk:=?_)|fail)
   refine YQ.nil (V _ _ ?_);clear V U
   repeat' (first|refine rtW ?_)
   exact⟨.inr rfl,_,st8 o0 o1 o2 ws (cq r (F,e)).1 d o7,⟨rfl,rfl⟩,rfl,by simp,ok8 h0 h1 h2 h7 ws _ d,rfl,rfl⟩
end Go.Proofs.YtmjdoencpjpegaaGreatDoor.De
