/- Parts of the proof. No statement is proved here. -/
import Derived.Test.YtmjdoencpjpegaaGreatDoorP16
import Derived.Test.YtmjdoencpjpegaaGreatDoorP17
set_option linter.unusedVariables false
set_option linter.unusedSimpArgs false
set_option maxHeartbeats 16000000
set_option maxRecDepth 20000
namespace Go.Proofs.YtmjdoencpjpegaaGreatDoor.Al
open Go.Ab Go.Sort
attribute [local irreducible] AWP AOps EStep AQ PStep PRun PCall TCall VCall
theorem Jq:ml Tryz.prog 104=some [.int .i64,.int .i64]:=by kernel_rfl
def wo (a b:Go.Proofs.YtmjdoencpjpegaaGreatDoor.Rat):Bool:=a.n==b.n&&(a.d==b.d&&true)
theorem B6 (a b:Go.Proofs.YtmjdoencpjpegaaGreatDoor.Rat):wo a b=(a==b):=by
 unfold wo;rw[zB3];obtain⟨a1,a2⟩:=a;obtain⟨b1,b2⟩:=b;simp
theorem HA (a b:Score) (i k:Nat):aw a b i k=if (Db (bJ a i) (bJ b k)&&(kL (bq a (bJ a i).id) (bq b (bJ b k).id)&&wo (bJ a i).len (bJ b k).len))=true then 0 else if ((bJ a i).id==(bJ b k).id||((kL (bq a (bJ a i).id) (bq b (bJ b k).id)&&wo (bJ a i).len (bJ b k).len)&&decide (((bq a (bJ a i).id).length:Int)>0)))=true then 1 else 5:=by
 rw[Kz,B6];have e:decide (((bq a (bJ a i).id).length:Int)>0)=!(bq a (bJ a i).id).isEmpty:=by
  cases bq a (bJ a i).id<;>simp
 rw[e,Bool.and_comm (kL _ _)];rfl
end Go.Proofs.YtmjdoencpjpegaaGreatDoor.Al
namespace Go.Proofs.YtmjdoencpjpegaaGreatDoor.Mk
open Go.Ab Go.Jo
attribute [local irreducible] AWP AOps EStep AQ PStep PRun PCall TCall VCall
def eqR (a b:Rdr):Bool:=a.part==b.part&&(a.cY==b.cY&&(a.iO==b.iO&&true))
theorem LW (a b:Rdr):eqR a b=(a==b):=by
 unfold eqR;rw[zB3];obtain⟨a1,a2,a3⟩:=a;obtain⟨b1,b2,b3⟩:=b;simp
def forM (m:Jo.Mark) (sec:Int) (r:Rdr):Bool :=
 if m.bn=1 then m.who==r else if m.bn=2 then m.who.part==r.part&&m.who.cY==r.cY else if m.bn=3 then m.who.part==sec else true
def cnt (a b:Jo.Mark):Bool:=if a.bn=b.bn then decide (b.id<a.id) else decide (b.bn<a.bn)
theorem sV (a b:Jo.Mark):PCall Tryz.prog 65 [.agg (aJ a),.agg (aJ b)] (.b (cnt a b)):=by
 refine PCall.body Tryz.func65 rfl rfl Tryz.ntmps65 rfl rfl ?_
 repeat' (first|refine qS ?_|apply sqW|refine rgK fun U V=>?_|(refine aN V ?_;clear V U)|refine aB ?_|refine cX ?_ ?_<;>intro hc<;>try simp only[dE] at hc|refine skW ?_|refine rtW ?_)
 · refine⟨.inr rfl,Ent.b ?_⟩;unfold cnt;rw[if_neg (by simpa using hc)]
 · refine⟨.inr rfl,Ent.b ?_⟩;unfold cnt;rw[if_pos (by simpa using hc)]
def en (a b:Jo.Mark):Bool×Int:=if bc a&&bc b then (cnt a b,0) else (false,1)
def at2 (r:Bool×Int):AV:=.tup [.b r.1,.int r.2]
theorem A4 (a b:Jo.Mark) (ha:a.text.length≤9223372036854775807) (hb:b.text.length≤9223372036854775807):PCall Tryz.prog 32 [.agg (aJ a),.agg (aJ b)] (at2 (en a b)):=by
 have v1:=cH a ha;have v2:=cH b hb;have v3:=sV a b;refine PCall.body Tryz.func32 rfl rfl Tryz.ntmps32 rfl rfl ?_
 repeat' (first|refine qP ?_ (h:=fun hg=>by first|exact ae|exact pc v1|exact pc v2|exact pc v3|exact ah)|apply sqW|refine rgK fun U V=>?_|(refine aN V ?_;clear V U)|refine aB ?_|refine aS ?_|refine aA ?_|refine cX ?_ ?_<;>intro hc<;>try simp only[dE] at hc|refine blK ?_|refine exW ?_|refine skW ?_|refine rtW ?_|refine kD fun U V=>?_|refine lD fun U V=>?_|(refine aqN (V _ ?_);clear V U)|refine aqN ?_|refine aqQ rfl rfl (fun hg=>by first|exact ae|exact pc v1|exact pc v2|exact pc v3|exact ah) (by exact rfl) ?_)
 · refine⟨.inr rfl,Ent.of ?_⟩;rw[show en a b=(false,1) from by unfold en;rw[if_neg (by revert hc;cases bc a<;>cases bc b<;>simp)]];rfl
 · refine⟨.inr rfl,Ent.of ?_⟩;rw[show en a b=(cnt a b,0) from by unfold en;rw[if_pos (by revert hc;cases bc a<;>cases bc b<;>simp)]];rfl
def bp (m:Jo.Mark) (p:Part) (r:Rdr):Bool×Int:=if bc m&&cu r then (if r.part=p.id then (forM m p.aV r,0) else (false,22)) else (false,1)
theorem w7 (w:Rdr) (sec:Int) (r:Rdr):PCall Tryz.prog 115 [.agg (cQ w),.int sec,.agg (cQ r)] (.b (w==r)):=by
 refine PCall.body Tryz.func115 rfl rfl Tryz.ntmps115 rfl rfl ?_
 repeat' (first|refine qP ?_ (h:=fun hg=>by first|exact ae|exact PRun.eqN flR rfl rfl nd rfl nd rfl|exact ah)|apply sqW|refine rgK fun U V=>?_|(refine aN V ?_;clear V U)|refine aB ?_|refine rtW ?_)
 exact⟨.inr rfl,Ent.b (LW w r)⟩
theorem w8 (w:Rdr) (sec:Int) (r:Rdr):PCall Tryz.prog 117 [.agg (cQ w),.int sec,.agg (cQ r)] (.b (w.part==r.part&&w.cY==r.cY)):=by
 refine PCall.body Tryz.func117 rfl rfl Tryz.ntmps117 rfl rfl ?_
 repeat' (first|refine qS ?_|apply sqW|refine rgK fun U V=>?_|(refine aN V ?_;clear V U)|refine aB ?_|refine rtW ?_)
 exact⟨.inr rfl,Ent.b rfl⟩
theorem w9 (w:Rdr) (sec:Int) (r:Rdr):PCall Tryz.prog 119 [.agg (cQ w),.int sec,.agg (cQ r)] (.b (w.part==sec)):=by
 refine PCall.body Tryz.func119 rfl rfl Tryz.ntmps119 rfl rfl ?_
 repeat' (first|refine qS ?_|apply sqW|refine rgK fun U V=>?_|(refine aN V ?_;clear V U)|refine aB ?_|refine rtW ?_)
 exact⟨.inr rfl,Ent.b rfl⟩
theorem xa (w:Rdr) (sec:Int) (r:Rdr):PCall Tryz.prog 121 [.agg (cQ w),.int sec,.agg (cQ r)] (.b true):=by
 refine PCall.body Tryz.func121 rfl rfl Tryz.ntmps121 rfl rfl ?_
 repeat' (first|refine qS ?_|apply sqW|refine rgK fun U V=>?_|(refine aN V ?_;clear V U)|refine aB ?_|refine rtW ?_)
 exact⟨.inr rfl,Ent.b rfl⟩
theorem rC {m:Jo.Mark} (h:bc m=true):m.bn=1∨m.bn=2∨m.bn=3∨m.bn=4:=by
 unfold bc at h;simp only[zA0] at h;have h2:=h.1.1.1.1.1.1.2;unfold ir at h2;by_cases h1:m.bn=1
 · exact .inl h1
 by_cases h3:m.bn=2
 · exact .inr (.inl h3)
 by_cases h4:m.bn=3
 · exact .inr (.inr (.inl h4))
 by_cases h5:m.bn=4
 · exact .inr (.inr (.inr h5))
 · rw[if_neg h1,if_neg h3,if_neg h4,if_neg h5] at h2;cases h2
theorem KE (m:Jo.Mark) (p:Part) (r:Rdr) (h:m.bn=1) (hm:m.text.length≤9223372036854775807):PCall Tryz.prog 31 [.agg (aJ m),.agg (bt p),.agg (cQ r)] (at2 (bp m p r)):=by
 have hlk:lk [((1:Int),(1:Nat)),(2,2),(3,3),(4,4)] m.bn=some 1:=by rw[h];rfl
 have hfo:forM m p.aV r=(m.who==r):=by unfold forM;rw[h];rfl
 have v1:=cH m hm;have v2:=iQ r;have v3:=w7 m.who p.aV r;refine PCall.body Tryz.func31 rfl rfl Tryz.ntmps31 rfl rfl ?_
 repeat' (first|refine qP ?_ (h:=fun hg=>by first|exact ae|exact pc v1|exact pc v2|exact pc dz|exact pc v3|exact PRun.dv (ek:=ekI) (ev:=fk) (zv:=0) hlk (ay (lkG rfl)) (lkG rfl) (lkG rfl) rfl rfl (Rd.w rfl nd) (Or.inl rfl) (Rd.w rfl nd) rfl|exact ah)|apply sqW|refine rgK fun U V=>?_|(refine aN V ?_;clear V U)|refine aB ?_|refine aS ?_|refine aA ?_|refine cX ?_ ?_<;>intro hc<;>try simp only[dE] at hc|refine blK ?_|refine exW ?_|refine skW ?_|refine rtW ?_|refine kD fun U V=>?_|refine lD fun U V=>?_|(refine aqN (V _ ?_);clear V U)|refine aqN ?_|refine aqQ rfl rfl (fun hg=>by first|exact ae|exact pc v1|exact pc v2|exact pc dz|exact pc v3|exact PRun.dv (ek:=ekI) (ev:=fk) (zv:=0) hlk (ay (lkG rfl)) (lkG rfl) (lkG rfl) rfl rfl (Rd.w rfl nd) (Or.inl rfl) (Rd.w rfl nd) rfl|exact ah) (by exact rfl) ?_)
 · refine⟨.inr rfl,Ent.of ?_⟩;rw[show bp m p r=(false,1) from by unfold bp;rw[if_neg (by revert hc;cases bc m<;>cases cu r<;>simp)]];rfl
 · rename_i h1;refine⟨.inr rfl,Ent.of ?_⟩;rw[show bp m p r=(false,22) from by unfold bp;rw[if_pos (by revert h1;cases bc m<;>cases cu r<;>simp),if_neg (by simpa using hc)]];rfl
 · rename_i h1;refine⟨.inr rfl,Ent.of ?_⟩;rw[show bp m p r=(forM m p.aV r,0) from by unfold bp;rw[if_pos (by revert h1;cases bc m<;>cases cu r<;>simp),if_pos (by simpa using hc)],hfo];rfl
theorem KF (m:Jo.Mark) (p:Part) (r:Rdr) (h:m.bn=2) (hm:m.text.length≤9223372036854775807):PCall Tryz.prog 31 [.agg (aJ m),.agg (bt p),.agg (cQ r)] (at2 (bp m p r)):=by
 have hlk:lk [((1:Int),(1:Nat)),(2,2),(3,3),(4,4)] m.bn=some 2:=by rw[h];rfl
 have hfo:forM m p.aV r=(m.who.part==r.part&&m.who.cY==r.cY):=by unfold forM;rw[h];rfl
 have v1:=cH m hm;have v2:=iQ r;have v3:=w8 m.who p.aV r;refine PCall.body Tryz.func31 rfl rfl Tryz.ntmps31 rfl rfl ?_
 repeat' (first|refine qP ?_ (h:=fun hg=>by first|exact ae|exact pc v1|exact pc v2|exact pc dz|exact pc v3|exact PRun.dv (ek:=ekI) (ev:=fk) (zv:=0) hlk (ay (lkG rfl)) (lkG rfl) (lkG rfl) rfl rfl (Rd.w rfl nd) (Or.inl rfl) (Rd.w rfl nd) rfl|exact ah)|apply sqW|refine rgK fun U V=>?_|(refine aN V ?_;clear V U)|refine aB ?_|refine aS ?_|refine aA ?_|refine cX ?_ ?_<;>intro hc<;>try simp only[dE] at hc|refine blK ?_|refine exW ?_|refine skW ?_|refine rtW ?_|refine kD fun U V=>?_|refine lD fun U V=>?_|(refine aqN (V _ ?_);clear V U)|refine aqN ?_|refine aqQ rfl rfl (fun hg=>by first|exact ae|exact pc v1|exact pc v2|exact pc dz|exact pc v3|exact PRun.dv (ek:=ekI) (ev:=fk) (zv:=0) hlk (ay (lkG rfl)) (lkG rfl) (lkG rfl) rfl rfl (Rd.w rfl nd) (Or.inl rfl) (Rd.w rfl nd) rfl|exact ah) (by exact rfl) ?_)
 · refine⟨.inr rfl,Ent.of ?_⟩;rw[show bp m p r=(false,1) from by unfold bp;rw[if_neg (by revert hc;cases bc m<;>cases cu r<;>simp)]];rfl
 · rename_i h1;refine⟨.inr rfl,Ent.of ?_⟩;rw[show bp m p r=(false,22) from by unfold bp;rw[if_pos (by revert h1;cases bc m<;>cases cu r<;>simp),if_neg (by simpa using hc)]];rfl
 · rename_i h1;refine⟨.inr rfl,Ent.of ?_⟩;rw[show bp m p r=(forM m p.aV r,0) from by unfold bp;rw[if_pos (by revert h1;cases bc m<;>cases cu r<;>simp),if_pos (by simpa using hc)],hfo];rfl
theorem KG (m:Jo.Mark) (p:Part) (r:Rdr) (h:m.bn=3) (hm:m.text.length≤9223372036854775807):PCall Tryz.prog 31 [.agg (aJ m),.agg (bt p),.agg (cQ r)] (at2 (bp m p r)):=by
 have hlk:lk [((1:Int),(1:Nat)),(2,2),(3,3),(4,4)] m.bn=some 3:=by rw[h];rfl
 have hfo:forM m p.aV r=(m.who.part==p.aV):=by unfold forM;rw[h];rfl
 have v1:=cH m hm;have v2:=iQ r;have v3:=w9 m.who p.aV r;refine PCall.body Tryz.func31 rfl rfl Tryz.ntmps31 rfl rfl ?_
 repeat' (first|refine qP ?_ (h:=fun hg=>by first|exact ae|exact pc v1|exact pc v2|exact pc dz|exact pc v3|exact PRun.dv (ek:=ekI) (ev:=fk) (zv:=0) hlk (ay (lkG rfl)) (lkG rfl) (lkG rfl) rfl rfl (Rd.w rfl nd) (Or.inl rfl) (Rd.w rfl nd) rfl|exact ah)|apply sqW|refine rgK fun U V=>?_|(refine aN V ?_;clear V U)|refine aB ?_|refine aS ?_|refine aA ?_|refine cX ?_ ?_<;>intro hc<;>try simp only[dE] at hc|refine blK ?_|refine exW ?_|refine skW ?_|refine rtW ?_|refine kD fun U V=>?_|refine lD fun U V=>?_|(refine aqN (V _ ?_);clear V U)|refine aqN ?_|refine aqQ rfl rfl (fun hg=>by first|exact ae|exact pc v1|exact pc v2|exact pc dz|exact pc v3|exact PRun.dv (ek:=ekI) (ev:=fk) (zv:=0) hlk (ay (lkG rfl)) (lkG rfl) (lkG rfl) rfl rfl (Rd.w rfl nd) (Or.inl rfl) (Rd.w rfl nd) rfl|exact ah) (by exact rfl) ?_)
 · refine⟨.inr rfl,Ent.of ?_⟩;rw[show bp m p r=(false,1) from by unfold bp;rw[if_neg (by revert hc;cases bc m<;>cases cu r<;>simp)]];rfl
 · rename_i h1;refine⟨.inr rfl,Ent.of ?_⟩;rw[show bp m p r=(false,22) from by unfold bp;rw[if_pos (by revert h1;cases bc m<;>cases cu r<;>simp),if_neg (by simpa using hc)]];rfl
 · rename_i h1;refine⟨.inr rfl,Ent.of ?_⟩;rw[show bp m p r=(forM m p.aV r,0) from by unfold bp;rw[if_pos (by revert h1;cases bc m<;>cases cu r<;>simp),if_pos (by simpa using hc)],hfo];rfl
theorem KH (m:Jo.Mark) (p:Part) (r:Rdr) (h:m.bn=4) (hm:m.text.length≤9223372036854775807):PCall Tryz.prog 31 [.agg (aJ m),.agg (bt p),.agg (cQ r)] (at2 (bp m p r)):=by
 have hlk:lk [((1:Int),(1:Nat)),(2,2),(3,3),(4,4)] m.bn=some 4:=by rw[h];rfl
 have hfo:forM m p.aV r=(true):=by unfold forM;rw[h];rfl
 have v1:=cH m hm;have v2:=iQ r;have v3:=xa m.who p.aV r;refine PCall.body Tryz.func31 rfl rfl Tryz.ntmps31 rfl rfl ?_
 repeat' (first|refine qP ?_ (h:=fun hg=>by first|exact ae|exact pc v1|exact pc v2|exact pc dz|exact pc v3|exact PRun.dv (ek:=ekI) (ev:=fk) (zv:=0) hlk (ay (lkG rfl)) (lkG rfl) (lkG rfl) rfl rfl (Rd.w rfl nd) (Or.inl rfl) (Rd.w rfl nd) rfl|exact ah)|apply sqW|refine rgK fun U V=>?_|(refine aN V ?_;clear V U)|refine aB ?_|refine aS ?_|refine aA ?_|refine cX ?_ ?_<;>intro hc<;>try simp only[dE] at hc|refine blK ?_|refine exW ?_|refine skW ?_|refine rtW ?_|refine kD fun U V=>?_|refine lD fun U V=>?_|(refine aqN (V _ ?_);clear V U)|refine aqN ?_|refine aqQ rfl rfl (fun hg=>by first|exact ae|exact pc v1|exact pc v2|exact pc dz|exact pc v3|exact PRun.dv (ek:=ekI) (ev:=fk) (zv:=0) hlk (ay (lkG rfl)) (lkG rfl) (lkG rfl) rfl rfl (Rd.w rfl nd) (Or.inl rfl) (Rd.w rfl nd) rfl|exact ah) (by exact rfl) ?_)
 · refine⟨.inr rfl,Ent.of ?_⟩;rw[show bp m p r=(false,1) from by unfold bp;rw[if_neg (by revert hc;cases bc m<;>cases cu r<;>simp)]];rfl
 · rename_i h1;refine⟨.inr rfl,Ent.of ?_⟩;rw[show bp m p r=(false,22) from by unfold bp;rw[if_pos (by revert h1;cases bc m<;>cases cu r<;>simp),if_neg (by simpa using hc)]];rfl
 · rename_i h1;refine⟨.inr rfl,Ent.of ?_⟩;rw[show bp m p r=(forM m p.aV r,0) from by unfold bp;rw[if_pos (by revert h1;cases bc m<;>cases cu r<;>simp),if_pos (by simpa using hc)],hfo];rfl
theorem KI (m:Jo.Mark) (p:Part) (r:Rdr) (h:bc m=false) (hm:m.text.length≤9223372036854775807):PCall Tryz.prog 31 [.agg (aJ m),.agg (bt p),.agg (cQ r)] (at2 (bp m p r)):=by
 have v1:=cH m hm;have er:bp m p r=(false,1):=by unfold bp;rw[h];rfl
 rw[er];rw[h] at v1;refine PCall.body Tryz.func31 rfl rfl Tryz.ntmps31 rfl rfl ?_
 repeat' (first|refine qP ?_ (h:=fun hg=>by first|exact ae|exact pc v1|exact(Bool.noConfusion (show false=true from hg):PRun _ _ _ _ (.b false))|exact ah)|apply sqW|refine rgK fun U V=>?_|(refine aN V ?_;clear V U)|refine aB ?_|refine aS ?_|refine aA ?_|refine cX ?_ ?_<;>intro hc<;>try simp only[dE] at hc|refine blK ?_|refine exW ?_|refine skW ?_|refine rtW ?_|(refine aqN (V _ ?_);clear V U)|refine aqN ?_|refine aqQ rfl rfl (fun hg=>by first|exact ae|exact pc v1|exact(Bool.noConfusion (show false=true from hg):PRun _ _ _ _ (.b false))|exact ah) (by exact rfl) ?_)
 · exact⟨.inr rfl,Ent.of rfl⟩
 all_goals (exfalso;first|(simp at hc;done)|(rename_i h1;simp at h1;done))
theorem pY (m:Jo.Mark) (p:Part) (r:Rdr) (hm:m.text.length≤9223372036854775807):PCall Tryz.prog 31 [.agg (aJ m),.agg (bt p),.agg (cQ r)] (at2 (bp m p r)):=by
 cases h:bc m with
 |false=>exact KI m p r h hm
 | true =>
   rcases rC h with h|h|h|h
   · exact KE m p r h hm
   · exact KF m p r h hm
   · exact KG m p r h hm
   · exact KH m p r h hm
def bP (l:List Jo.Mark):Bool:=l.all bc&&decide ((l.map (·.id)).Nodup)&&decide (l.length≤20000)
def lu (l:List Jo.Mark):Prop:=∀m∈l,m.text.length≤9223372036854775807
theorem lu.at {l:List Jo.Mark} (h:lu l) {k:Nat} (hk:k<l.length):(l.getD k default).text.length≤9223372036854775807:=h _ (by rw[aU hk];exact lGm hk)
theorem sW {l:List Jo.Mark} {k:Nat} (hk:k<l.length) (h:bc (l.getD k default)=false):bP l=false:=by
 unfold bP;rw[ug hk h];rfl
theorem sX {l:List Jo.Mark} {k:Nat} (hk:k<l.length) (h:(l.getD k default).id∈(l.take k).map (·.id)):bP l=false:=by
 unfold bP;rw[decide_eq_false (qZ (fun b:Jo.Mark=>b.id) l k hk h)];simp
theorem xG (l:List Jo.Mark) (hl:l.length≤9223372036854775807) (ht:lu l):PCall Tryz.prog 94 [.sl 10 (l.map aJ) .no] (.b (bP l)):=by
 refine PCall.body Tryz.func94 rfl rfl Tryz.ntmps94 rfl rfl ?_
 repeat' (first|refine qT ?_|apply sqW|refine rgK fun U V=>?_|(refine aN V ?_;clear V U)|refine aB ?_|refine aS ?_|refine aA ?_|refine aoE (EStep.cz rfl rfl rfl rfl ?_)|refine cX ?_ ?_<;>intro hc<;>try simp only[dE] at hc|refine blK ?_|refine exW ?_|refine skW ?_|refine rtW ?_|refine kD fun U V=>?_|refine lD fun U V=>?_|(refine aqN (V _ ?_);clear V U)|refine aqN ?_|refine aqQ rfl rfl (fun hg=>by first|exact ae|exact ah) (by exact rfl) ?_)
 refine lpD (ι:=Nat) (fun k=>[(0,.sl 10 (l.map aJ) .no),(3,.map 0),(7,.sl 10 (l.map aJ) .no),(8,.int l.length),(9,.int k)]) (fun k=>[.map (Go.Ab.aD ekI AV.b (gI (·.id) (l.take k)))])
  (fun k=>k≤l.length∧(∀j,j<k→bc (l.getD j default)=true)∧((l.take k).map (·.id)).Nodup) (fun k=>l.length - k) 1 (fun _=>rfl) 0 ⟨nZl _,fun j h=>absurd h oM,by simp⟩ ⟨rfl,rfl,rfl,rfl,rfl,tI⟩ rfl (fun _ _=>rfl) (fun k _=>by simp[ak,Go.Ab.aD,aG]) ?_
 rintro k ⟨hk,aT,hnd⟩;by_cases hlt:k<l.length
 · have hs:=oP (fun b:Jo.Mark=>b.id) (l.take k) (l.getD k default).id;have hv:=cH (l.getD k default) (ht.at hlt)
   repeat' (first|refine qP ?_ (h:=fun hg=>by first|exact ae|exact PRun.lookup (ek:=ekI) (ev:=AV.b) (zv:=false) (ay (lkG rfl)) (lkG rfl) (lkG rfl) rfl rfl (Rd.w rfl nd) (Or.inr ⟨_,rfl,rfl⟩) (Rd.w rfl nd) rfl|exact pc hv|exact ah)|apply sqW|refine rgK fun U V=>?_|(refine aN V ?_;clear V U)|refine aB ?_|refine aS ?_|refine aA ?_|refine aoE (EStep.dm (ek:=ekI) (ev:=AV.b) (v:=true) (ay (lkG rfl)) (lkG rfl) rfl rfl rfl (Rd.w rfl tI) rfl (Rd.w rfl tI) rfl (Rd.w rfl tI) ?_)|refine cX ?_ ?_<;>intro hc<;>try simp only[dE] at hc|refine blK ?_|refine exW ?_|refine skW ?_|refine rtW ?_|refine kD fun U V=>?_|refine lD fun U V=>?_|(refine aqN (V _ ?_);clear V U)|refine aqN ?_|refine aqQ rfl rfl (fun hg=>by first|exact ae|exact PRun.lookup (ek:=ekI) (ev:=AV.b) (zv:=false) (ay (lkG rfl)) (lkG rfl) (lkG rfl) rfl rfl (Rd.w rfl nd) (Or.inr ⟨_,rfl,rfl⟩) (Rd.w rfl nd) rfl|exact pc hv|exact ah) (by exact rfl) ?_)
   · refine⟨.inr rfl,Ent.b (Eq.symm ?_)⟩;rw[zAj] at hc;rw[hs] at hc;by_cases hm:(l.getD k default).id∈(l.take k).map (fun b=>b.id)
     · exact sX hlt hm
     · refine sW hlt ?_;rw[decide_eq_false hm] at hc;simpa using hc
   · rw[zAj] at hc;rw[hs] at hc;simp only[zAl,zB0] at hc;have hm:(l.getD k default).id∉(l.take k).map (fun b=>b.id):=of_decide_eq_false hc.1;refine⟨k+1,⟨oM,fun j hj=>bA aT hc.2 hj,(fi _ l k hlt).2 ⟨hnd,hm⟩⟩,oM,⟨rfl,rfl,rfl,rfl,rfl,tI⟩,?_⟩;rw[←lS _ l k hlt hm];rfl
   · exfalso;omega
 · repeat' (first|refine qT ?_|apply sqW|refine rgK fun U V=>?_|(refine aN V ?_;clear V U)|refine aB ?_|refine aS ?_|refine aA ?_|refine cX ?_ ?_<;>intro hc<;>try simp only[dE] at hc|refine blK ?_|refine exW ?_|refine skW ?_|refine rtW ?_|refine kD fun U V=>?_|refine lD fun U V=>?_|(refine aqN (V _ ?_);clear V U)|refine aqN ?_|refine aqQ rfl rfl (fun hg=>by first|exact ae|exact ah) (by exact rfl) ?_)
   · exfalso;omega
   · refine⟨.inr rfl,Ent.b ?_⟩;have htk:l.take k=l:=zAn oM;rw[htk] at hnd;unfold bP;rw[oI fun j hj=>aT j oM,decide_eq_true hnd];rw[zB3];simp;omega
def mw (v note kind sec:Int) (r:Rdr) (m:Jo.Mark):Bool:=!(((m.version != v||m.note != note)||m.kind != kind)||!forM m sec r)
def better (b:Option Jo.Mark) (m:Jo.Mark):Option Jo.Mark:=match b with
 |none=>some m
 |some w=>if cnt m w then some m else some w
def jL (q:Jo.Mark→Bool) (l:List Jo.Mark):Option Jo.Mark:=l.foldl (fun b m=>if q m then better b m else b) none
theorem Dl (q:Jo.Mark→Bool) (l:List Jo.Mark) (m:Jo.Mark):jL q (l++[m])=if q m then better (jL q l) m else jL q l:=by
 unfold jL;rw[zC6];rfl
theorem lL:KeyLaw Tryz.prog 183 ekP:=sP (e:=3) (by kernel_rfl) (by kernel_rfl) (by kernel_rfl) (by kernel_rfl)
def eJ (v sec:Int) (r:Rdr) (al:List ((Int×Int)×Jo.Mark)) (m:Jo.Mark):List ((Int×Int)×Jo.Mark) :=
 if (m.version != v||!forM m sec r)=true then al else if (!(lk al (m.note,m.kind)).isSome||cnt m ((lk al (m.note,m.kind)).getD noMark))=true then ins al (m.note,m.kind) m else al
def lV (v sec:Int) (r:Rdr) (l:List Jo.Mark):List ((Int×Int)×Jo.Mark):=l.foldl (eJ v sec r) []
theorem A5 (v sec:Int) (r:Rdr) (l:List Jo.Mark) (m:Jo.Mark):lV v sec r (l++[m])=eJ v sec r (lV v sec r l) m:=by
 unfold lV;rw[zC6];rfl
theorem KJ (v sec:Int) (r:Rdr) (al:List ((Int×Int)×Jo.Mark)) (m:Jo.Mark) (n k:Int) (b:Option Jo.Mark) (hb:lk al (n,k)=b) :
 lk (eJ v sec r al m) (n,k)=if mw v n k sec r m then better b m else b:=by
 subst hb;unfold eJ mw;by_cases h1:(m.version != v||!forM m sec r)=true
 · rw[if_pos h1,if_neg];intro h;simp only[zBn,zB1,zAl,zB0] at h h1;rcases h1 with h1|h1
   · rw[h.1.1.1] at h1;cases h1
   · rw[h.2] at h1;cases h1
 · rw[if_neg h1];simp only[zBn,not_or,Bool.not_eq_true,zB0] at h1;obtain⟨h2,h3⟩:=h1;rw[h2,h3];by_cases hk:(m.note,m.kind)=(n,k)
   · obtain⟨rfl,rfl⟩:=Prod.mk.inj hk;have e0:(!(((false||m.note != m.note)||m.kind != m.kind)||!true))=true:=sMp;rw[if_pos e0];cases hl:lk al (m.note,m.kind) with
     |none=>simp[better,fR]
     | some w =>
       simp only[Option.isSome_some,zE8,zDq,zCr,better];cases hcn:cnt m w with
       |true=>simp[fR]
       |false=>simp[hl]
   · have e0:¬(!(((false||m.note != n)||m.kind != k)||!true))=true:=by
      intro h;simp at h;exact hk (by rw[h.1,h.2])
     rw[if_neg e0];split
     · rw[fR,if_neg hk]
     · rfl
theorem KK (v sec:Int) (r:Rdr) (l:List Jo.Mark) (n k:Int):lk (lV v sec r l) (n,k)=jL (mw v n k sec r) l:=by
 have gen:∀(l:List Jo.Mark) (al:List ((Int×Int)×Jo.Mark)) (b:Option Jo.Mark),lk al (n,k)=b→lk (l.foldl (eJ v sec r) al) (n,k)=l.foldl (fun b m=>if mw v n k sec r m then better b m else b) b:=by
  intro l;induction l with
  |nil=>intro al b h;exact h
  | cons m t ih =>
    intro al b h;rw[List.foldl_cons,List.foldl_cons];exact ih _ _ (KJ v sec r al m n k b h)
 exact gen l [] none rfl
end Go.Proofs.YtmjdoencpjpegaaGreatDoor.Mk
namespace Go.Proofs.YtmjdoencpjpegaaGreatDoor.Mk
open Go.Ab Go.Jo
theorem xH (a b:Jo.Mark) (ha:a.text.length≤9223372036854775807) (hb:b.text.length≤9223372036854775807):PCall Tryz.prog 32 [.agg (aJ a),.agg (aJ b)] (at2 (en a b)):=A4 a b ha hb
end Go.Proofs.YtmjdoencpjpegaaGreatDoor.Mk
