/- Parts of the proof. No statement is proved here. -/
import Derived.LaidHandle
import Derived.LaidMore
import Derived.MakeChecks
import Derived.SizedLaws
import Derived.Test.YthiaimakjmhegaaGreatDoorP12
import Derived.Test.YthiaimakjmhegaaGreatDoorP13
import Derived.Test.YthiaimakjmhegaaGreatDoorP14
import Derived.Test.YthiaimakjmhegaaGreatDoorP15
set_option linter.unusedVariables false
set_option linter.unusedSimpArgs false
set_option maxHeartbeats 16000000
set_option maxRecDepth 20000
namespace Go.Ab
theorem EStep.gd {P:Program} {n:Nat} {ops:Array Oper} {o:Oper} {k:Env→ae→Prop} {env:Env} {σ:ae} {g:GG} (hg:gOf ops env o=some g) (hh:g.holds) (h:EStep P n ops { o with guard:=none } k env σ):EStep P n ops o k env σ:=by
 intro G a w hr;have h':=h G a w hr;rw[if_pos (by simp[Region.wanted])] at h';have hw:Region.wanted o (yielded ops a.tmps)=true:=by
  unfold gOf at hg;split at hg
  · rename_i hgd;simp[Region.wanted,hgd]
  · rename_i j want hgd;split at hg
    · rename_i d hd;have hz:=hr.bh d;have key:∀t,(t==want)=true→a.tmps.getD d undef=.bool t→Region.wanted o (yielded ops a.tmps)=true:=fun t ht h1=>by
       have h2:a.tmps[d]? = some (.bool t):=by
        cases h:a.tmps[d]? with
        |none=>simp[h,undef] at h1
        |some y=>simp[h] at h1;rw[h1]
       simp only[Region.wanted,hgd,yielded,hd,zDx,h2];cases t<;>cases want<;>first|rfl|cases ht
      split at hg
      · rename_i t he;simp at hg;subst hg;rw[he] at hz;exact key t hh (ag.aJ hz)
      · rename_i g' t he;simp at hg;subst hg;have hh':g'=true∧(t==want)=true:=by simpa using hh
        rw[he] at hz;cases hz with
        |when _ _ _ h0 h1=>exact key t hh'.2 (ag.aJ (h0 hh'.1))
      · simp at hg
    · simp at hg
 rw[if_pos hw];exact h'
end Go.Ab
namespace Go.Proofs.YthiaimakjmhegaaGreatDoor
open Go.Ab
attribute [local irreducible] AWP AOps EStep AQ PStep PRun PCall TCall VCall
def Score.qG (s:Score):Prop:=s.bars.length≤9223372036854775807∧s.parts.length≤9223372036854775807∧s.notes.length≤9223372036854775807
def Score.few (s:Score):Bool:=decide ((s.bars.length:Int)≤60)&&decide ((s.parts.length:Int)≤61)&&decide ((s.notes.length:Int)≤60)
theorem Ef (s:Score) (hs:s.qG):PCall Tryz.prog 86 [.agg (bg s)] (.b s.few):=by
 obtain⟨h1,h2,h3⟩:=hs;refine PCall.body Tryz.func86 rfl rfl Tryz.ntmps86 rfl rfl ?_
 repeat' (first|refine qT ?_|apply sqW|refine rgK fun U V=>?_|(refine aN V ?_;clear V U)|refine aB ?_|refine aS ?_|refine aA ?_|refine cX ?_ ?_<;>intro hc<;>try simp only[dE] at hc|refine blK ?_|refine exW ?_|refine skW ?_|refine rtW ?_|refine kD fun U V=>?_|refine lD fun U V=>?_|(refine aqN (V _ ?_);clear V U)|refine aqN ?_|refine aqQ rfl rfl (fun hg=>by first|exact aa|exact af) (by exact rfl) ?_)
 exact⟨.inr rfl,Ent.b rfl⟩
theorem gA {α:Type} (p:α→Bool) (l:List α):-1≤az p l:=by unfold az;split<;>omega
end Go.Proofs.YthiaimakjmhegaaGreatDoor
namespace Go.Ab
open Go.ChangeShapes Go.WideShapes
theorem tp {P:Program} {w:World} {r:Reach} {b0:Nat} {t e:TypeId} {v:Value} (hu:P.underlying t=some (.slice e)) (hv:Value.okWide P w r b0 t v):v.cells.toList=[v]:=by
 unfold Value.okWide at hv;rw[hu] at hv;simp only at hv;unfold Cell.okWide at hv;simp only[hu] at hv;cases v with
 |slice a l c=>simp[Value.cells]
 |_=>unfold Cell.ok at hv;simp[hu] at hv
end Go.Ab
namespace Go.Proofs.YthiaimakjmhegaaGreatDoor
open Go.Ab Go.ChangeShapes Go.WideShapes
section
variable {H:Type} {enc:TypeId×Value→H} {W:World} {base b0 fuel:Nat} {held:Bool} {spare:Nat→Bool}
abbrev vI (n:Int):Value:=.int .i64 n
theorem lk3:LOk Tryz.prog 3 ⟨.int .i64,1,8,[.i .i64]⟩:=.of (ab.get rfl)
theorem cn3:Tryz.prog.cellsOf 3=1:=by kernel_rfl
theorem LC:LOk Tryz.prog 32 ⟨.struct [(3,0,1),(3,1,1)],2,16,[.i .i64,.i .i64]⟩:=.of (ab.get rfl)
theorem qH:Tryz.prog.cellsOf 32=2:=by kernel_rfl
def mV (x:Rat):List Value:=[vI x.n]++[vI x.d]
theorem tq {cs:List Value} {y:DataW H×List MemPlace} (h:DataW.trod enc Tryz.prog W base spare held fuel 32 cs=some y):∃x:Rat,cs=mV x:=by
 obtain⟨hlen,n,hf⟩:=bT LC h;rw[qH] at hlen
 match cs,hlen with
 | [u0, u1], _ =>
   obtain⟨y0,h0⟩:=hf 0 3 0 1 rfl;obtain⟨y1,h1⟩:=hf 1 3 1 1 rfl;rw[cn3] at h0 h1;obtain⟨n0,e0,_⟩:=aY lk3 h0;obtain⟨n1,e1,_⟩:=aY lk3 h1;have g0:u0=vI n0:=by simpa using e0
   have g1:u1=vI n1:=by simpa using e1
   refine⟨⟨n0,n1⟩,?_⟩;subst g0;subst g1;unfold mV;rfl
theorem BP:LOk Tryz.prog 221 ⟨.struct [(3,0,1),(3,1,1)],2,16,[.i .i64,.i .i64]⟩:=.of (ab.get rfl)
theorem tr:Tryz.prog.cellsOf 221=2:=by kernel_rfl
def mB (x:Interval):List Value:=[vI x.steps]++[vI x.lS]
theorem BQ {cs:List Value} {y:DataW H×List MemPlace} (h:DataW.trod enc Tryz.prog W base spare held fuel 221 cs=some y):∃x:Interval,cs=mB x:=by
 obtain⟨hlen,n,hf⟩:=bT BP h;rw[tr] at hlen
 match cs,hlen with
 | [u0, u1], _ =>
   obtain⟨y0,h0⟩:=hf 0 3 0 1 rfl;obtain⟨y1,h1⟩:=hf 1 3 1 1 rfl;rw[cn3] at h0 h1;obtain⟨n0,e0,_⟩:=aY lk3 h0;obtain⟨n1,e1,_⟩:=aY lk3 h1;have g0:u0=vI n0:=by simpa using e0
   have g1:u1=vI n1:=by simpa using e1
   refine⟨⟨n0,n1⟩,?_⟩;subst g0;subst g1;unfold mB;rfl
theorem I1:LOk Tryz.prog 219 ⟨.struct [(3,0,1),(3,1,1),(3,2,1)],3,24,[.i .i64,.i .i64,.i .i64]⟩:=.of (ab.get rfl)
theorem qI:Tryz.prog.cellsOf 219=3:=by kernel_rfl
def kS (x:fC):List Value:=[vI x.step]++[vI x.alter]++[vI x.oct]
theorem uJ {cs:List Value} {y:DataW H×List MemPlace} (h:DataW.trod enc Tryz.prog W base spare held fuel 219 cs=some y):∃x:fC,cs=kS x:=by
 obtain⟨hlen,n,hf⟩:=bT I1 h;rw[qI] at hlen
 match cs,hlen with
 | [u0, u1, u2], _ =>
   obtain⟨y0,h0⟩:=hf 0 3 0 1 rfl;obtain⟨y1,h1⟩:=hf 1 3 1 1 rfl;obtain⟨y2,h2⟩:=hf 2 3 2 1 rfl;rw[cn3] at h0 h1 h2;obtain⟨n0,e0,_⟩:=aY lk3 h0;obtain⟨n1,e1,_⟩:=aY lk3 h1;obtain⟨n2,e2,_⟩:=aY lk3 h2;have g0:u0=vI n0:=by simpa using e0
   have g1:u1=vI n1:=by simpa using e1
   have g2:u2=vI n2:=by simpa using e2
   refine⟨⟨n0,n1,n2⟩,?_⟩;subst g0;subst g1;subst g2;unfold kS;rfl
theorem LD:LOk Tryz.prog 134 ⟨.struct [(3,0,1),(32,1,2),(3,3,1)],4,32,[.i .i64,.i .i64,.i .i64,.i .i64]⟩:=.of (ab.get rfl)
theorem HV:Tryz.prog.cellsOf 134=4:=by kernel_rfl
def Gk (x:Bar):List Value:=[vI x.id]++mV x.len++[vI x.key]
theorem LF {cs:List Value} {y:DataW H×List MemPlace} (h:DataW.trod enc Tryz.prog W base spare held fuel 134 cs=some y):∃x:Bar,cs=Gk x:=by
 obtain⟨hlen,n,hf⟩:=bT LD h;rw[HV] at hlen
 match cs,hlen with
 | [u0, u1, u2, u3], _ =>
   obtain⟨y0,h0⟩:=hf 0 3 0 1 rfl;obtain⟨y1,h1⟩:=hf 1 32 1 2 rfl;obtain⟨y2,h2⟩:=hf 2 3 3 1 rfl;rw[cn3] at h0 h2;rw[qH] at h1;obtain⟨n0,e0,_⟩:=aY lk3 h0;obtain⟨n1,e1⟩:=tq h1;obtain⟨n2,e2,_⟩:=aY lk3 h2;have g0:u0=vI n0:=by simpa using e0
   have g1:[u1,u2]=mV n1:=by simpa using e1
   have g2:u3=vI n2:=by simpa using e2
   refine⟨⟨n0,n1,n2⟩,?_⟩;subst g0;subst g2;unfold Gk;rw[←g1];rfl
theorem Kh (x:Bar):∀(j:Nat) c,(cS x)[j]? = some c→ag (bH W) [] c ((Gk x).getD j undef):=fun j c hj=>by
 match j,hj with
 |0,hj|1,hj|2,hj|3,hj=>simp only[cS,zBf,zBx,Option.some.injEq] at hj;subst hj;exact .prim _
 |j+4,hj=>simp[cS] at hj
theorem Ki:LOk Tryz.prog 223 ⟨.struct [(3,0,1),(3,1,1),(3,2,1),(3,3,1),(3,4,1),(221,5,2),(219,7,3),(219,10,3)],13,104,[.i .i64,.i .i64,.i .i64,.i .i64,.i .i64,.i .i64,.i .i64,.i .i64,.i .i64,.i .i64,.i .i64,.i .i64,.i .i64]⟩:=.of (ab.get rfl)
theorem Eg:Tryz.prog.cellsOf 223=13:=by kernel_rfl
def BR (x:Part):List Value:=[vI x.id]++[vI x.rZ]++[vI x.of_]++[vI x.sY]++[vI x.Bx]++mB x.shift++kS x.low++kS x.high
theorem Kj {cs:List Value} {y:DataW H×List MemPlace} (h:DataW.trod enc Tryz.prog W base spare held fuel 223 cs=some y):∃x:Part,cs=BR x:=by
 obtain⟨hlen,n,hf⟩:=bT Ki h;rw[Eg] at hlen
 match cs,hlen with
 | [u0, u1, u2, u3, u4, u5, u6, u7, u8, u9, u10, u11, u12], _ =>
   obtain⟨y0,h0⟩:=hf 0 3 0 1 rfl;obtain⟨y1,h1⟩:=hf 1 3 1 1 rfl;obtain⟨y2,h2⟩:=hf 2 3 2 1 rfl;obtain⟨y3,h3⟩:=hf 3 3 3 1 rfl;obtain⟨y4,h4⟩:=hf 4 3 4 1 rfl;obtain⟨y5,h5⟩:=hf 5 221 5 2 rfl;obtain⟨y6,h6⟩:=hf 6 219 7 3 rfl;obtain⟨y7,h7⟩:=hf 7 219 10 3 rfl;rw[cn3] at h0 h1 h2 h3 h4;rw[tr] at h5;rw[qI] at h6;rw[qI] at h7;obtain⟨n0,e0,_⟩:=aY lk3 h0;obtain⟨n1,e1,_⟩:=aY lk3 h1;obtain⟨n2,e2,_⟩:=aY lk3 h2;obtain⟨n3,e3,_⟩:=aY lk3 h3;obtain⟨n4,e4,_⟩:=aY lk3 h4;obtain⟨n5,e5⟩:=BQ h5;obtain⟨n6,e6⟩:=uJ h6;obtain⟨n7,e7⟩:=uJ h7;have g0:u0=vI n0:=by simpa using e0
   have g1:u1=vI n1:=by simpa using e1
   have g2:u2=vI n2:=by simpa using e2
   have g3:u3=vI n3:=by simpa using e3
   have g4:u4=vI n4:=by simpa using e4
   have g5:[u5,u6]=mB n5:=by simpa using e5
   have g6:[u7,u8,u9]=kS n6:=by simpa using e6
   have g7:[u10,u11,u12]=kS n7:=by simpa using e7
   refine⟨⟨n0,n1,n2,n3,n4,n5,n6,n7⟩,?_⟩;subst g0;subst g1;subst g2;subst g3;subst g4;unfold BR;rw[←g5];rw[←g6];rw[←g7];rfl
theorem I2 (x:Part):∀(j:Nat) c,(bz x)[j]? = some c→ag (bH W) [] c ((BR x).getD j undef):=fun j c hj=>by
 match j,hj with
 |0,hj|1,hj|2,hj|3,hj|4,hj|5,hj|6,hj|7,hj|8,hj|9,hj|10,hj|11,hj|12,hj=>simp only[bz,zBf,zBx,Option.some.injEq] at hj;subst hj;exact .prim _
 |j+13,hj=>simp[bz] at hj
theorem Kk:LOk Tryz.prog 225 ⟨.struct [(3,0,1),(3,1,1),(3,2,1),(3,3,1),(3,4,1),(32,5,2),(32,7,2),(219,9,3)],12,96,[.i .i64,.i .i64,.i .i64,.i .i64,.i .i64,.i .i64,.i .i64,.i .i64,.i .i64,.i .i64,.i .i64,.i .i64]⟩:=.of (ab.get rfl)
theorem Eh:Tryz.prog.cellsOf 225=12:=by kernel_rfl
def BS (x:bk):List Value:=[vI x.id]++[vI x.part]++[vI x.bar]++[vI x.fT]++[vI x.ln]++mV x.start++mV x.len++kS x.pitch
theorem Kl {cs:List Value} {y:DataW H×List MemPlace} (h:DataW.trod enc Tryz.prog W base spare held fuel 225 cs=some y):∃x:bk,cs=BS x:=by
 obtain⟨hlen,n,hf⟩:=bT Kk h;rw[Eh] at hlen
 match cs,hlen with
 | [u0, u1, u2, u3, u4, u5, u6, u7, u8, u9, u10, u11], _ =>
   obtain⟨y0,h0⟩:=hf 0 3 0 1 rfl;obtain⟨y1,h1⟩:=hf 1 3 1 1 rfl;obtain⟨y2,h2⟩:=hf 2 3 2 1 rfl;obtain⟨y3,h3⟩:=hf 3 3 3 1 rfl;obtain⟨y4,h4⟩:=hf 4 3 4 1 rfl;obtain⟨y5,h5⟩:=hf 5 32 5 2 rfl;obtain⟨y6,h6⟩:=hf 6 32 7 2 rfl;obtain⟨y7,h7⟩:=hf 7 219 9 3 rfl;rw[cn3] at h0 h1 h2 h3 h4;rw[qH] at h5;rw[qH] at h6;rw[qI] at h7;obtain⟨n0,e0,_⟩:=aY lk3 h0;obtain⟨n1,e1,_⟩:=aY lk3 h1;obtain⟨n2,e2,_⟩:=aY lk3 h2;obtain⟨n3,e3,_⟩:=aY lk3 h3;obtain⟨n4,e4,_⟩:=aY lk3 h4;obtain⟨n5,e5⟩:=tq h5;obtain⟨n6,e6⟩:=tq h6;obtain⟨n7,e7⟩:=uJ h7;have g0:u0=vI n0:=by simpa using e0
   have g1:u1=vI n1:=by simpa using e1
   have g2:u2=vI n2:=by simpa using e2
   have g3:u3=vI n3:=by simpa using e3
   have g4:u4=vI n4:=by simpa using e4
   have g5:[u5,u6]=mV n5:=by simpa using e5
   have g6:[u7,u8]=mV n6:=by simpa using e6
   have g7:[u9,u10,u11]=kS n7:=by simpa using e7
   refine⟨⟨n0,n1,n2,n3,n4,n5,n6,n7⟩,?_⟩;subst g0;subst g1;subst g2;subst g3;subst g4;unfold BS;rw[←g5];rw[←g6];rw[←g7];rfl
theorem I3 (x:bk):∀(j:Nat) c,(bQ x)[j]? = some c→ag (bH W) [] c ((BS x).getD j undef):=fun j c hj=>by
 match j,hj with
 |0,hj|1,hj|2,hj|3,hj|4,hj|5,hj|6,hj|7,hj|8,hj|9,hj|10,hj|11,hj=>simp only[bQ,zBf,zBx,Option.some.injEq] at hj;subst hj;exact .prim _
 |j+12,hj=>simp[bQ] at hj
theorem Km:LOk Tryz.prog 80 ⟨.slice 134,1,24,[.slice]⟩:=.of (ab.get rfl)
theorem Kn:Tryz.prog.cellsOf 80=1:=by kernel_rfl
theorem I4:LOk Tryz.prog 81 ⟨.slice 223,1,24,[.slice]⟩:=.of (ab.get rfl)
theorem I5:Tryz.prog.cellsOf 81=1:=by kernel_rfl
theorem I6:LOk Tryz.prog 82 ⟨.slice 225,1,24,[.slice]⟩:=.of (ab.get rfl)
theorem I7:Tryz.prog.cellsOf 82=1:=by kernel_rfl
theorem I8:LOk Tryz.prog 84 ⟨.struct [(3,0,1),(80,1,1),(81,2,1),(82,3,1)],4,80,[.i .i64,.slice,.slice,.slice]⟩:=.of (ab.get rfl)
theorem I9:Tryz.prog.cellsOf 84=4:=by kernel_rfl
end
theorem own:ownKnob Tryz.prog.godebug=none:=by kernel_rfl
theorem laidOut:laidOutB Tryz.prog=true:=by kernel_rfl
abbrev tt : List (String × DataW Unit) := [("errors.errorType", Rows.laid_errors_errorType), ("partbook/pitch.naturals", Rows.laid_partbook_pitch_naturals)]
theorem Gl (os:Os) (args:Array Value):laidMetH Tryz.prog tt ((World.doorLaid Tryz.prog 4000 os).forCall (fun _ _=>0) ⟨#[],args,[]⟩).memory :=
 laidMetH_of_parts3 (fuel:=8) (laidMet_of_run' 8 (by kernel_rfl) (by kernel_rfl)) (by kernel_rfl) (by kernel_rfl)
theorem gErr : Tryz.prog.globalNamed "errors.errorType" = some 0 := by kernel_rfl
theorem gNat : Tryz.prog.globalNamed "partbook/pitch.naturals" = some 1 := by kernel_rfl
theorem tNat:(Tryz.prog.globals[1]?).map (·.type)=some 382:=by kernel_rfl
theorem uNat:Tryz.prog.underlying 382=some (.array 7 3):=by kernel_rfl
theorem rtT : (Tryz.prog.cutTypes.find? (·.1 == "internal/reflectlite.rtype")).map (·.2) = some 338 := by kernel_rfl
theorem Ko:((List.range (539 - 100)).filter fun t=>Tryz.prog.rowNamed t [101,114,114,111,114])=[142]:=by kernel_rfl
theorem LG:Tryz.prog.types.size=539 - 100:=by kernel_rfl
theorem hndE:typeHandle Tryz.prog 142=.pointer (some ⟨2,142,none⟩):=by kernel_rfl
theorem zL {W : World} (h : handlesMet Tryz.prog [("errors.errorType", Rows.laid_errors_errorType)] W) : W.cell? ⟨0, 0, none⟩ = some (.iface 338 (.agg #[.pointer (some ⟨2, 142, none⟩)])) := by
 obtain⟨name,u,ty,e1,e2,e3,e4,e5⟩:=h _ (zA9.2 rfl);have en:name=[101,114,114,111,114]:=(Option.some.inj e1).symm;subst en;obtain rfl:=Option.some.inj (rtT.symm.trans e2);have hm:ty∈(List.range (539 - 100)).filter fun t=>Tryz.prog.rowNamed t [101,114,114,111,114]:=zD7.2 ⟨zAs.2 (by rw[←LG];exact e3),e4⟩
 rw[Ko] at hm;obtain rfl:=zA9.1 hm;rw[hndE] at e5;simpa using World.var?_cell gErr e5 0
theorem Gm {W:World} (h:laidMetH Tryz.prog tt W):mf (bH W):=by
 have h' : laidMet Tryz.prog [("partbook/pitch.naturals", Rows.laid_partbook_pitch_naturals)] W ∧ handlesMet Tryz.prog [("errors.errorType", Rows.laid_errors_errorType)] W := h
 have hE:=zL h'.2;obtain⟨ps,⟨g0,t0,cs0,f0,p0,q0,hg0,ht0,hv0,hd0,_⟩,_,_⟩:=h'.1;obtain rfl:=Option.some.inj (gNat.symm.trans hg0);obtain rfl:=Option.some.inj (tNat.symm.trans ht0);obtain⟨xs,m1,hx0,hx1,hlen,hn3,hel⟩:=DataW.trod_array uNat hd0;have hm:xs.map (·.1)=[.lit (.int .i64 0),.lit (.int .i64 2),.lit (.int .i64 4),.lit (.int .i64 5),.lit (.int .i64 7),.lit (.int .i64 9),.lit (.int .i64 11)]:=by
  have:=congrArg Prod.fst hx1;simp only[Rows.laid_partbook_pitch_naturals,DataW.agg.injEq] at this;exact this.symm
 have key:∀j,j<7→∃k,cs0[j]? = some (.int .i64 k)∧(xs.map (·.1))[j]? = some (.lit (.int .i64 k)):=fun j hj=>by
  have h0:=hel j hj;rw[cn3,zCb,zA1 oM] at h0;obtain⟨k,e1,e2,_⟩:=DataW.trod_int lk3.lF h0;refine⟨k,?_,?_⟩
  · have:=congrArg (fun l=>l[0]?) e1;simpa using this
  · rw[zA5,zA1 oM,e2];rfl
 have hN:∀(j:Nat) v,[Value.int .i64 0,.int .i64 2,.int .i64 4,.int .i64 5,.int .i64 7,.int .i64 9,.int .i64 11][j]? = some v→W.cell? ⟨1,j,none⟩=some v:=fun j v hv=>by
  have hj:j<7:=by
   rcases nLg j 7 with h|h
   · exact h
   · rw[zA3 (by simpa using h)] at hv;cases hv
  obtain⟨k,h1,h2⟩:=key j hj;rw[hm] at h2;have hk:v=.int .i64 k:=by
   match j,hj,hv,h2 with
   |0,_,hv,h2|1,_,hv,h2|2,_,hv,h2|3,_,hv,h2|4,_,hv,h2|5,_,hv,h2|6,_,hv,h2=>simp at hv h2;rw[←hv,←h2]
  rw[hk,World.var?_cell hg0 hv0 j];exact h1
 intro p hp j v hv;simp only[Gam,zAo,zCe,or_false] at hp;rcases hp with rfl|rfl
 · dsimp only at hv ⊢
   match j,hv with
   |0,hv=>simp at hv;subst hv;exact hE
   |j+1,hv=>simp at hv
 · exact hN j v hv
end Go.Proofs.YthiaimakjmhegaaGreatDoor
namespace Go.Proofs.YthiaimakjmhegaaGreatDoor.Mk
open Go.Ab Go.Jo Go.ChangeShapes Go.WideShapes
section
variable {H:Type} {enc:TypeId×Value→H} {W:World} {base b0 fuel:Nat} {held:Bool} {spare:Nat→Bool}
theorem cnT:Tryz.prog.cellsOf 9=1:=by kernel_rfl
theorem cnR:Tryz.prog.cellsOf 53=3:=by kernel_rfl
theorem cnM:Tryz.prog.cellsOf 251=10:=by kernel_rfl
theorem lkT:LOk Tryz.prog 9 ⟨.str,1,16,[.str]⟩:=.of (ab.get rfl)
theorem lkR:LOk Tryz.prog 53 ⟨.struct [(3,0,1),(3,1,1),(3,2,1)],3,24,[.i .i64,.i .i64,.i .i64]⟩:=.of (ab.get rfl)
theorem lkM:LOk Tryz.prog 251 ⟨.struct [(3,0,1),(3,1,1),(3,2,1),(53,3,3),(3,6,1),(3,7,1),(3,8,1),(9,9,1)],10,88,[.i .i64,.i .i64,.i .i64,.i .i64,.i .i64,.i .i64,.i .i64,.i .i64,.i .i64,.str]⟩:=.of (ab.get rfl)
def vR (r:Rdr):List Value:=[vI r.part,vI r.jm,vI r.jn]
def vM (m:Jo.Mark):List Value:=[vI m.id,vI m.kind,vI m.cE,vI m.who.part,vI m.who.jm,vI m.who.jn,vI m.version,vI m.note,vI m.value,.string ⟨m.text.toArray⟩]
theorem rdR {cs:List Value} {x:DataW H×List MemPlace} (h:DataW.trod enc Tryz.prog W base spare held fuel 53 cs=some x):∃r:Rdr,cs=vR r:=by
 obtain⟨hlen,n,hf⟩:=bT lkR h;rw[cnR] at hlen
 match cs,hlen with
 | [u0, u1, u2], _ =>
   obtain⟨y0,h0⟩:=hf 0 3 0 1 rfl;obtain⟨y1,h1⟩:=hf 1 3 1 1 rfl;obtain⟨y2,h2⟩:=hf 2 3 2 1 rfl;rw[cn3] at h0 h1 h2;obtain⟨n0,e0,_⟩:=aY lk3 h0;obtain⟨n1,e1,_⟩:=aY lk3 h1;obtain⟨n2,e2,_⟩:=aY lk3 h2;simp at e0 e1 e2;subst e0 e1 e2;exact⟨⟨n0,n1,n2⟩,rfl⟩
theorem bytes_eta (s:ByteArray):s=⟨s.data.toList.toArray⟩:=by cases s;simp
theorem rdM {cs:List Value} {x:DataW H×List MemPlace} (h:DataW.trod enc Tryz.prog W base spare held fuel 251 cs=some x):∃m:Jo.Mark,cs=vM m∧m.text.length≤9223372036854775807:=by
 obtain⟨hlen,n,hf⟩:=bT lkM h;rw[cnM] at hlen
 match cs,hlen with
 | [u0, u1, u2, u3, u4, u5, u6, u7, u8, u9], _ =>
   obtain⟨y0,h0⟩:=hf 0 3 0 1 rfl;obtain⟨y1,h1⟩:=hf 1 3 1 1 rfl;obtain⟨y2,h2⟩:=hf 2 3 2 1 rfl;obtain⟨y3,h3⟩:=hf 3 53 3 3 rfl;obtain⟨y4,h4⟩:=hf 4 3 6 1 rfl;obtain⟨y5,h5⟩:=hf 5 3 7 1 rfl;obtain⟨y6,h6⟩:=hf 6 3 8 1 rfl;obtain⟨y7,h7⟩:=hf 7 9 9 1 rfl;rw[cn3] at h0 h1 h2 h4 h5 h6;rw[cnR] at h3;rw[cnT] at h7;obtain⟨n0,e0,_⟩:=aY lk3 h0;obtain⟨n1,e1,_⟩:=aY lk3 h1;obtain⟨n2,e2,_⟩:=aY lk3 h2;obtain⟨r,e3⟩:=rdR h3;obtain⟨n4,e4,_⟩:=aY lk3 h4;obtain⟨n5,e5,_⟩:=aY lk3 h5;obtain⟨n6,e6,_⟩:=aY lk3 h6;obtain⟨s,e7,hs⟩:=xf lkT h7;simp[vR] at e0 e1 e2 e3 e4 e5 e6 e7;obtain⟨e31,e32,e33⟩:=e3;subst e0 e1 e2 e31 e32 e33 e4 e5 e6 e7;refine⟨⟨n0,n1,n2,r,n4,n5,n6,s.data.toList⟩,by unfold vM;rw[←bytes_eta],?_⟩;have h9:s.data.toList.length=s.size:=by rw[zBp];rfl
   show s.data.toList.length≤_;rw[h9];exact hs
end
end Go.Proofs.YthiaimakjmhegaaGreatDoor.Mk
namespace Go.Proofs.YthiaimakjmhegaaGreatDoor.Ed
open Go.Ab
attribute [local irreducible] AWP AOps EStep AQ PStep PRun PCall TCall VCall
def yc (s:Score) (e:ah):Bool:=((bG s&&bE e)&&e.version==s.version)&&e.bars.all fun b=>decide (0≤cw s.bars b.bar)
theorem yd (b:cN) (al:List (Int×Bool)):PCall Tryz.prog 217 [.agg (bz b),.iptr [.imap (Go.Ab.aT ekI AV.b al)]] (.b (!((lk al b.bar).getD false))):=by
 refine PCall.body Tryz.func217 rfl rfl Tryz.ntmps217 rfl rfl ?_
 repeat' (first|refine qP ?_ (h:=fun hg=>by first|exact aa|exact PRun.lookup (ek:=ekI) (ev:=AV.b) (zv:=false) (aL (lkG rfl)) (lkG rfl) (lkG rfl) rfl rfl (Rd.w rfl nd) (Or.inl rfl) (Rd.w rfl nd) rfl|fail)|apply sqW|refine rgK fun U V=>?_|(refine aN V ?_;clear V U)|refine aB ?_|refine rtW ?_)
 exact⟨.inr rfl,Ent.b rfl⟩
theorem Ei (bars:List Bar) (id:Int):decide (id∈bars.map fun b:Bar=>b.id)=decide (0≤cw bars id):=by
 rw[zAi,dEt,dEt];constructor
 · intro h;obtain⟨b,hb,e⟩:=zAq.1 h;rcases Int.lt_or_le (cw bars id) 0 with h2|h2
   · exfalso;have h3:=gq (fun b:Bar=>b.id==id) bars;rw[show decide (az (fun b:Bar=>b.id==id) bars≥0)=false from decide_eq_false (by unfold cw at h2;omega)] at h3;have h4:=zA4.1 h3.symm b hb;have e':b.id=id:=e;rw[e'] at h4;simp at h4
   · exact h2
 · intro h;obtain⟨k,h1,h2,h3,_⟩:=bY (p:=fun b:Bar=>b.id==id) (l:=bars) h;exact zAq.2 ⟨bars.getD k default,by rw[bb h2];exact lGm h2,by simpa using h3⟩
theorem BU {s:Score} (h:bG s=true):(s.bars.map fun b:Bar=>b.id).Nodup:=by
 unfold bG kb at h;simp only[zA0,zB3,zAg,zBc] at h;exact xW h.1.1.1.1.2
theorem zM (s:Score) (hs:s.Small) (e:ah) (hw:Wf e):PCall Tryz.prog 153 [.agg (bg s),.agg (aF e)] (.b (yc s e)):=by
 have h1:=dz s hs;obtain⟨s1,s2,s3⟩:=hs;have hb:=hw.bars;refine PCall.body Tryz.func153 rfl rfl Tryz.ntmps153 rfl rfl ?_
 repeat' (first|refine qP ?_ (h:=fun hg=>by first|exact aa|exact pc h1|exact pc (iU e hw)|exact af)|apply sqW|refine rgK fun U V=>?_|(refine aN V ?_;clear V U)|refine aB ?_|refine aS ?_|refine aA ?_|refine aoE (EStep.dn rfl rfl rfl rfl ?_)|refine cX ?_ ?_<;>intro hc<;>try simp only[dE] at hc|refine blK ?_|refine skW ?_|refine rtW ?_)
 · refine⟨.inr rfl,Ent.b (Eq.symm ?_)⟩;unfold yc;have h9:((!bG s||!bE e)||e.version != s.version)=true:=hc;unfold bne at h9;revert h9;cases bG s<;>cases bE e<;>cases e.version==s.version<;>simp
 have hok:((bG s&&bE e)&&e.version==s.version)=true:=by
  have h9:((!bG s||!bE e)||e.version != s.version)=false:=hc;unfold bne at h9;revert h9;cases bG s<;>cases bE e<;>cases e.version==s.version<;>simp
 clear hc h1;have hnd:=BU (s:=s) (by simp only[zA0] at hok;exact hok.1.1)
 refine lpD (ι:=Nat) (fun k=>[(3,.ptr 1 0),(5,.ptr 3 0),(25,.sl 4 (s.bars.map cS) .no),(26,.int s.bars.length),(27,.int k)]) (fun k=>[.var (bg s),.var (aF e),.map (Go.Ab.aT ekI AV.b (e8 (fun b:Bar=>b.id) (s.bars.take k))),.var [.map 2]])
  (fun k=>k≤s.bars.length) (fun k=>s.bars.length - k) 4 (fun _=>rfl) 0 (nZl _) ⟨rfl,rfl,rfl,rfl,rfl,tI⟩ rfl (fun _ _=>rfl) (fun k _=>by
   simp only[zB4,zBg,zCf,zA0];exact⟨rfl,rfl,by simp[aD,Go.Ab.aT,aO],rfl⟩) ?_
 intro k hk;by_cases hlt:k<s.bars.length
 · have xn:(s.bars.getD k default).id∉(s.bars.take k).map (fun b:Bar=>b.id):=by
    have h9:((s.bars.take (k+1)).map (fun b:Bar=>b.id)).Nodup:=by
     rw[←zCn (k+1) s.bars,zBw] at hnd;exact(zC7.1 hnd).1
    exact((lp (fun b:Bar=>b.id) s.bars k hlt).1 h9).2
   have LH:=pK (fun b:Bar=>b.id) s.bars k hlt xn
   repeat' (first|refine qT ?_|apply sqW|refine rgK fun U V=>?_|(refine aN V ?_;clear V U)|refine aS ?_|refine aA ?_|refine aoE (EStep.fu (ek:=ekI) (ev:=AV.b) (v:=true) (aL (lkG rfl)) (lkG rfl) rfl rfl rfl (Rd.w rfl tI) rfl (Rd.w rfl tI) rfl (Rd.w rfl tI) ?_)|refine cX ?_ ?_<;>intro hc<;>try simp only[dE] at hc|refine blK ?_|refine exW ?_|refine skW ?_)
   all_goals (first|(exfalso;omega)|skip)
   refine⟨k+1,oM,oM,⟨rfl,rfl,rfl,rfl,rfl,tI⟩,?_⟩;rw[←LH];rfl
 · obtain rfl:k=s.bars.length:=oM;rw[zBl];have hp:∀b∈e.bars,bF Tryz.prog (.fn (.func 217) [] [.iptr [.imap (Go.Ab.aT ekI AV.b (e8 (fun b:Bar=>b.id) s.bars))]]) [.agg (bz b)] (.b (!((lk (e8 (fun b:Bar=>b.id) s.bars) b.bar).getD false))):=fun b _ =>
    ⟨217,[],[.iptr [.imap (Go.Ab.aT ekI AV.b (e8 (fun b:Bar=>b.id) s.bars))]],rfl,yd b _⟩
   have ha:=pV e.bars _ _ hp hw.bars;refine AWP.lj (ek:=ekI) (ev:=AV.b) (l:=2) (al:=e8 (fun b:Bar=>b.id) s.bars) rfl Io ?_;refine AWP.cY [(3,.ptr 1 0),(5,.ptr 3 0),(25,.sl 4 (s.bars.map cS) .no),(26,.int s.bars.length),(27,.int s.bars.length)] ⟨rfl,rfl,rfl,rfl,rfl,tI⟩ ?_
   repeat' (first|refine qP ?_ (h:=fun hg=>by first|exact aa|exact pbW (ha) rfl rfl nd rfl rfl nds|exact af)|apply sqW|refine rgK fun U V=>?_|(refine aN V ?_;clear V U)|refine aS ?_|refine aA ?_|refine cX ?_ ?_<;>intro hc<;>try simp only[dE] at hc|refine blK ?_|refine exW ?_|refine skW ?_|refine rtW ?_)
   all_goals (first|(exfalso;omega)|skip)
   refine⟨.inr rfl,Ent.b (Eq.symm ?_)⟩;unfold yc;rw[hok,zAy];refine Eq.trans ?_ (gq _ _).symm;congr 1;funext b;rw[uu,Ei,Bool.not_not]
end Go.Proofs.YthiaimakjmhegaaGreatDoor.Ed
namespace Go.Proofs.YthiaimakjmhegaaGreatDoor.Top
open Go.Ab Go.Jo Go.Sy Mk
attribute [local irreducible] AWP AOps EStep AQ PStep PRun PCall TCall VCall
def aF (e:Ev):List AV:=[.int e.clock,.int e.bR,.int e.kind,.int e.n,.int e.mark.id,.int e.mark.kind,.int e.mark.cE,.int e.mark.who.part,.int e.mark.who.jm,.int e.mark.who.jn,.int e.mark.version,.int e.mark.note,.int e.mark.value,.bs e.mark.text]
def aR (s:Std):List AV:=[.int s.id,.int s.who.part,.int s.who.jm,.int s.who.jn,.int s.ed,.int s.known,.sl 14 (s.evs.map aF) .no]
theorem qa (a b c:Int):PCall Tryz.prog 225 [.int a,.int b,.int c] (.b (inR a b c)):=by
 refine PCall.body Tryz.func225 rfl rfl Tryz.ntmps225 rfl rfl ?_
 repeat' (first|refine qS ?_|apply sqW|refine rgK fun U V=>?_|(refine aN V ?_;clear V U)|refine rtW ?_)
 exact⟨.inr rfl,Ent.b rfl⟩
theorem sj (a:Int):PCall Tryz.prog 160 [.int a] (.b (cz a)):=by
 refine PCall.body Tryz.func160 rfl rfl Tryz.ntmps160 rfl rfl ?_
 repeat' (first|refine qP ?_ (h:=fun hg=>by first|exact aa|exact pc (qa _ _ _)|exact af|fail)|apply sqW|refine rgK fun U V=>?_|(refine aN V ?_;clear V U)|refine rtW ?_)
 exact⟨.inr rfl,Ent.b rfl⟩
theorem mS (e:Ev) (ht:e.mark.text.length≤9223372036854775807):PCall Tryz.prog 223 [.agg (aF e)] (.b (kg e)):=by
 have v:=Mk.iR e.mark ht;refine PCall.body Tryz.func223 rfl rfl Tryz.ntmps223 rfl rfl ?_
 repeat' (first|refine qP ?_ (h:=fun hg=>by first|exact aa|exact pc v|exact pc (qa _ _ _)|exact pc (sj _)|exact PRun.eqN flM rfl rfl nd rfl nd rfl|exact pbD ab rfl rfl nds|exact af|fail)|apply sqW|refine rgK fun U V=>?_|(refine aN V ?_;clear V U)|refine aB ?_|refine cX ?_ ?_<;>intro hc<;>try simp only[dE] at hc|refine blK ?_|refine skW ?_|refine rtW ?_)
 · refine⟨.inr rfl,Ent.b ?_⟩;refine Eq.trans (b:=(((e.n==0&&fF e.mark)&&inR e.clock 0 1000000000)&&cz e.bR)) rfl ?_;unfold kg;rw[if_pos (eq_of_beq hc)];cases inR e.clock 0 1000000000<;>cases cz e.bR<;>cases fF e.mark<;>cases e.n==0<;>rfl
 · rename_i h1;refine⟨.inr rfl,Ent.b ?_⟩;refine Eq.trans (b:=(((eqM e.mark noMark&&cz e.n)&&inR e.clock 0 1000000000)&&cz e.bR)) rfl ?_;unfold kg;rw[DZ,if_neg (fun h=>by rw[h] at h1;cases h1),if_pos (eq_of_beq hc)];cases inR e.clock 0 1000000000<;>cases cz e.bR<;>cases cz e.n<;>cases e.mark==noMark<;>rfl
 · rename_i h1 h2;refine⟨.inr rfl,Ent.b ?_⟩;refine Eq.trans (b:=(((eqM e.mark noMark&&inR e.n 0 1000)&&inR e.clock 0 1000000000)&&cz e.bR)) rfl ?_;unfold kg;rw[DZ,if_neg (fun h=>by rw[h] at h1;cases h1),if_neg (fun h=>by rw[h] at h2;cases h2),if_pos (eq_of_beq hc)];cases inR e.clock 0 1000000000<;>cases cz e.bR<;>cases inR e.n 0 1000<;>cases e.mark==noMark<;>rfl
 · rename_i h1 h2;refine⟨.inr rfl,Ent.b ?_⟩;refine Eq.trans (b:=((false&&inR e.clock 0 1000000000)&&cz e.bR)) rfl ?_;unfold kg;rw[if_neg (fun h=>by rw[h] at h1;cases h1),if_neg (fun h=>by rw[h] at h2;cases h2),if_neg (fun h=>by rw[h] at hc;cases hc)];cases inR e.clock 0 1000000000<;>cases cz e.bR<;>rfl
def oL (a b:Int):Int:=if a<b then -1 else if a>b then 1 else 0
theorem oN (a:Int):PCall Tryz.prog 299 [.int a] (.b false):=by
 refine PCall.body Tryz.func299 rfl rfl Tryz.ntmps299 rfl rfl ?_
 repeat' (first|refine qS ?_|apply sqW|refine rgK fun U V=>?_|(refine aN V ?_;clear V U)|refine rtW ?_)
 exact⟨.inr rfl,Ent.b sMp⟩
theorem ij (a b:Int):PCall Tryz.prog 277 [.int a,.int b] (.int (oL a b)):=by
 refine PCall.body Tryz.func277 rfl rfl Tryz.ntmps277 rfl rfl ?_
 repeat' (first|refine qP ?_ (h:=fun hg=>by first|exact aa|exact pc (oN _)|exact af|fail)|apply sqW|refine rgK fun U V=>?_|(refine aN V ?_;clear V U)|refine cX ?_ ?_<;>intro hc<;>try simp only[dE] at hc|refine skW ?_|refine rtW ?_)
 all_goals (first|(exfalso;simp_all;done)|skip)
 · exact⟨.inr rfl,Ent.int (by unfold oL;rw[if_pos oM])⟩
 · exact⟨.inr rfl,Ent.int (by unfold oL;rw[if_neg oM,if_pos oM])⟩
 · exact⟨.inr rfl,Ent.int (by unfold oL;rw[if_neg oM,if_neg oM])⟩
theorem Kp (a b:Ev):orL [oL a.clock b.clock,oL a.bR b.bR]=sg a b:=by
 unfold orL orL orL oL sg;by_cases h1:a.clock<b.clock<;>by_cases h2:b.clock<a.clock<;>by_cases h3:a.bR<b.bR<;>by_cases h4:b.bR<a.bR<;>simp[h1,h2,h3,h4]
theorem BV (a b:Ev):PCall Tryz.prog 224 [.agg (aF a),.agg (aF b)] (.int (sg a b)):=by
 have ho:=Ax [oL a.clock b.clock,oL a.bR b.bR] sMp;rw[Kp] at ho;have h1:=ij a.clock b.clock;have h2:=ij a.bR b.bR;refine PCall.body Tryz.func224 rfl rfl Tryz.ntmps224 rfl rfl ?_
 repeat' (first|refine qS ?_|apply sqW|refine rgK fun U V=>?_|(refine aN V ?_;clear V U)|refine aB ?_|refine rtW ?_|refine kD fun U V=>?_|(refine aqN (V _ ?_);clear V U)|refine aqQ rfl rfl (fun hg=>by first|exact aa|exact pc h1|exact pc h2|exact pbS ab rfl rfl nds|exact pc ho|exact af|fail) (by exact rfl) ?_)
 exact⟨.inr rfl,Ent.int rfl⟩
def Txt (l:List Ev):Prop:=∀e∈l,e.mark.text.length≤9223372036854775807
theorem Txt.at {l:List Ev} (h:Txt l) {k:Nat} (hk:k<l.length):(l.getD k default).mark.text.length≤9223372036854775807:=h _ (by rw[jq hk];exact lGm hk)
theorem Ej {l:List Ev} {k:Nat} (hk:k<l.length) (h:kg (l.getD k default)=false):fH l=false:=by
 cases hv:fH l with
 |false=>rfl
 | true =>
   have:=(oI.1 hv).1 (l.getD k default) (by rw[jq hk];exact lGm hk);rw[h] at this;cases this
theorem BW {l:List Ev} {k:Nat} (hk:k<l.length) (h:¬Srt (l.take (k+1))):fH l=false:=by
 cases hv:fH l with
 |false=>rfl
 |true=>exact absurd ((oI.1 hv).2.1.sublist (List.take_sublist _ _)) h
theorem BX {l:List Ev} (h:∀j,j<l.length→kg (l.getD j default)=true) (hs:Srt (l.take l.length)):fH l=decide ((l.length:Int)≤20000):=by
 rw[zBl] at hs;have h1:∀e∈l,kg e=true:=fun e he=>by
  obtain⟨j,hj,rfl⟩:=zAu.1 he;rw[←jq hj];exact h j hj
 rw[zAi,oI,dEt];constructor
 · rintro⟨_,_,h3⟩;omega
 · intro h3;exact⟨h1,hs,oM⟩
theorem ye (l:List Ev) (ht:Txt l) (hl:l.length≤1000000000):PCall Tryz.prog 159 [.sl 14 (l.map aF) .no] (.b (fH l)):=by
 refine PCall.body Tryz.func159 rfl rfl Tryz.ntmps159 rfl rfl ?_
 repeat' (first|refine qT ?_|apply sqW|refine rgK fun U V=>?_|(refine aN V ?_;clear V U)|refine blK ?_)
 refine lpD (ι:=Nat) (fun k=>[(0,.sl 14 (l.map aF) .no),(5,.sl 14 (l.map aF) .no),(6,.int l.length),(7,.int k)]) (fun _=>[]) (fun k=>k≤l.length∧(∀j,j<k→kg (l.getD j default)=true)∧Srt (l.take k)) (fun k=>l.length - k) 0 (fun _=>rfl) 0 ⟨nZl _,fun j h=>absurd h oM,by rw[List.take_zero];exact List.Pairwise.nil⟩ ⟨rfl,rfl,rfl,rfl,tI⟩ rfl (fun _ _=>rfl) (fun _ _=>rfl) ?_;rintro k ⟨hk,au,hs⟩;by_cases hlt:k<l.length
 · have v:=mS (l.getD k default) (ht.at hlt);cases hev:kg (l.getD k default) with
   | false =>
     have hn:=Ej hlt hev;rw[hev] at v
     repeat' (first|refine qP ?_ (h:=fun hg=>by first|exact piW ab rfl rfl nd rfl nd rfl rfl ⟨Int.natCast_nonneg _,Int.ofNat_lt.2 hlt⟩|exact aa|exact af)|apply sqW|refine rgK fun U V=>?_|(refine aN V ?_;clear V U)|refine aS ?_|refine aA ?_|refine cX ?_ ?_<;>intro hc<;>try simp only[dE] at hc|refine blK ?_|refine exW ?_|refine skW ?_|refine rtW ?_|refine kD fun U V=>?_|(refine aqN (V _ ?_);clear V U)|refine aqQ rfl rfl (fun hg=>by first|exact aa|exact pc v|exact(Bool.noConfusion (show false=true from hg):PRun _ _ _ _ (.b false))|exact af|fail) (by exact rfl) ?_)
     all_goals first|(exfalso;omega)|skip
     · exact⟨.inr rfl,Ent.b hn.symm⟩
     · exfalso;simp at hc
   | true =>
     rw[hev] at v;have wH:∀j,j<k+1→kg (l.getD j default)=true:=fun j hj=>aH au hev hj
     have hst:=Gd hlt;by_cases h0:k=0
     · subst h0;have hs1:Srt (l.take (0+1)):=hst.2 ⟨hs,fun h=>absurd h oM⟩
       repeat' (first|refine qP ?_ (h:=fun hg=>by first|exact piW ab rfl rfl nd rfl nd rfl rfl ⟨Int.natCast_nonneg _,Int.ofNat_lt.2 hlt⟩|exact aa|exact af)|apply sqW|refine rgK fun U V=>?_|(refine aN V ?_;clear V U)|refine aS ?_|refine aA ?_|refine cX ?_ ?_<;>intro hc<;>try simp only[dE] at hc|refine blK ?_|refine exW ?_|refine skW ?_|refine rtW ?_|refine kD fun U V=>?_|(refine aqN (V _ ?_);clear V U)|refine aqQ rfl rfl (fun hg=>by first|exact aa|exact pc v|exact(Bool.noConfusion (show false=true from hg):PRun _ _ _ _ (.b false))|exact af|fail) (by exact rfl) ?_)
       all_goals first|(exfalso;omega)|skip
       · exfalso;simp at hc
       · exact⟨0+1,⟨oM,wH,hs1⟩,oM,⟨rfl,rfl,rfl,rfl,tI⟩,rfl⟩
     · have e1:((k:Int) - 1).toNat=k - 1:=oM;have w:=BV (l.getD (k - 1) default) (l.getD k default);rw[←e1] at w;have hg0:decide (((k:Nat):Int)>0)=true:=by simp;omega
       repeat' (first|refine qP ?_ (h:=fun hg=>by first|exact piW ab rfl rfl nd rfl nd rfl rfl ⟨oM,oM⟩|exact aa|exact af)|apply sqW|refine rgK fun U V=>?_|(refine aN V ?_;clear V U)|refine aS ?_|refine aA ?_|refine cX ?_ ?_<;>intro hc<;>try simp only[dE] at hc|refine blK ?_|refine exW ?_|refine skW ?_|refine rtW ?_|refine kD fun U V=>?_|(refine aqN (V _ ?_);clear V U)|refine aqQ rfl rfl (fun hg=>by first|exact piW ab rfl rfl nd rfl nd rfl rfl ⟨oM,oM⟩|exact aa|exact pc v|exact pc w|exact af|fail) (by exact rfl) ?_)
       all_goals first|(exfalso;omega)|skip
       · refine⟨.inr rfl,Ent.b ?_⟩;rw[BW hlt];intro hS;have h9:=(hst.1 hS).2 oM;rw[←AL,←e1] at h9;generalize sg (l.getD ((k:Int) - 1).toNat default) (l.getD k default)=q at hc h9;simp at hc;omega
       · refine⟨k+1,⟨oM,wH,hst.2 ⟨hs,fun _=>AL.1 ?_⟩⟩,oM,⟨rfl,rfl,rfl,rfl,tI⟩,rfl⟩;rw[←e1];generalize sg (l.getD ((k:Int) - 1).toNat default) (l.getD k default)=q at hc ⊢;simp at hc;omega
 · obtain rfl:k=l.length:=oM
   repeat' (first|refine qT ?_|apply sqW|refine rgK fun U V=>?_|(refine aN V ?_;clear V U)|refine aS ?_|refine aA ?_|refine cX ?_ ?_<;>intro hc<;>try simp only[dE] at hc|refine blK ?_|refine exW ?_|refine skW ?_|refine rtW ?_|refine kD fun U V=>?_|refine aqQ rfl rfl (fun hg=>by exact aa) (by exact rfl) ?_)
   all_goals first|(exfalso;omega)|skip
   exact⟨.inr rfl,Ent.b (BX au hs).symm⟩
def iW (l:List Ev) (id:Int):Int×Int:=if (fH l&&cz id)=true then (iV l id,0) else (0,1)
theorem BZ {l:List Ev} {k:Nat} (hk:k<l.length) (id:Int):iV (l.take (k+1)) id=if (l.getD k default).kind=3∧(l.getD k default).bR=id then max (iV (l.take k) id) (l.getD k default).n else iV (l.take k) id:=by
 rw[jq hk,zBn hk,D6];rfl
theorem zN (l:List Ev) (id:Int) (ht:Txt l) (hl:l.length≤1000000000):PCall Tryz.prog 107 [.sl 14 (l.map aF) .no,.int id] (.tup [.int (iW l id).1,.int (iW l id).2]):=by
 have v:=ye l ht hl;cases hb:(fH l&&cz id) with
 | false =>
   have e1:iW l id=(0,1):=by unfold iW;rw[hb];rfl
   rw[e1];refine PCall.body Tryz.func107 rfl rfl Tryz.ntmps107 rfl rfl ?_
   repeat' (first|refine qP ?_ (h:=fun hg=>by first|exact aa|exact pc v|exact pc (sj _)|exact af)|apply sqW|refine rgK fun U V=>?_|(refine aN V ?_;clear V U)|refine cX ?_ ?_<;>intro hc<;>try simp only[dE] at hc|refine blK ?_|refine skW ?_|refine rtW ?_)
   · exact⟨.inr rfl,Ent.of rfl⟩
   exfalso;revert hc hb;cases fH l<;>cases cz id<;>simp
 | true =>
   have e1:iW l id=(iV l id,0):=by unfold iW;rw[hb];rfl
   rw[e1];refine PCall.body Tryz.func107 rfl rfl Tryz.ntmps107 rfl rfl ?_
   repeat' (first|refine qP ?_ (h:=fun hg=>by first|exact aa|exact pc v|exact pc (sj _)|exact af)|apply sqW|refine rgK fun U V=>?_|(refine aN V ?_;clear V U)|refine cX ?_ ?_<;>intro hc<;>try simp only[dE] at hc|refine blK ?_|refine skW ?_|refine rtW ?_)
   · exfalso;revert hc hb;cases fH l<;>cases cz id<;>simp
   refine lpD (ι:=Nat) (fun k=>[(1,.int id),(6,.int (iV (l.take k) id)),(17,.sl 14 (l.map aF) .no),(18,.int l.length),(19,.int k)]) (fun _=>[]) (fun k=>k≤l.length) (fun k=>l.length - k) 0 (fun _=>rfl) 0 (nZl _) ⟨rfl,rfl,rfl,rfl,rfl,tI⟩ rfl (fun _ _=>rfl) (fun _ _=>rfl) ?_;rintro k hk;by_cases hlt:k<l.length
   · have hs:=BZ hlt id
     repeat' (first|refine qT ?_|apply sqW|refine rgK fun U V=>?_|(refine aN V ?_;clear V U)|refine aS ?_|refine aA ?_|refine cX ?_ ?_<;>intro hc<;>try simp only[dE] at hc|refine blK ?_|refine exW ?_|refine skW ?_|refine rtW ?_)
     all_goals first|(exfalso;omega)|skip
     · refine⟨k+1,oM,oM,⟨rfl,?_,rfl,rfl,rfl,tI⟩,rfl⟩;rw[hs,if_pos (by simpa using hc)];rfl
     · refine⟨k+1,oM,oM,⟨rfl,?_,rfl,rfl,rfl,tI⟩,rfl⟩;rw[hs,if_neg (by simpa using hc)];rfl
   · obtain rfl:k=l.length:=oM
     repeat' (first|refine qT ?_|apply sqW|refine rgK fun U V=>?_|(refine aN V ?_;clear V U)|refine aS ?_|refine aA ?_|refine cX ?_ ?_<;>intro hc<;>try simp only[dE] at hc|refine blK ?_|refine exW ?_|refine skW ?_|refine rtW ?_)
     all_goals first|(exfalso;omega)|skip
     refine⟨.inr rfl,Ent.of ?_⟩;rw[zBl];rfl
theorem ei (a b c:Int):PCall Tryz.prog 105 [.int a,.int b,.int c] (.b (inR a b c)):=by
 refine PCall.body Tryz.func105 rfl rfl Tryz.ntmps105 rfl rfl ?_
 repeat' (first|refine qS ?_|apply sqW|refine rgK fun U V=>?_|(refine aN V ?_;clear V U)|refine rtW ?_)
 exact⟨.inr rfl,Ent.b rfl⟩
theorem Ek (r:Rdr):PCall Tryz.prog 106 [.agg (qD r)] (.b (jP r)):=by
 refine PCall.body Tryz.func106 rfl rfl Tryz.ntmps106 rfl rfl ?_
 repeat' (first|refine qP ?_ (h:=fun hg=>by first|exact aa|exact pc (ei _ _ _)|exact af|fail)|apply sqW|refine rgK fun U V=>?_|(refine aN V ?_;clear V U)|refine aB ?_|refine rtW ?_)
 exact⟨.inr rfl,Ent.b rfl⟩
theorem El (s:Std):iw s=(cz s.ed&&jP s.who&&inR s.known 0 1000&&decide ((iW s.evs s.id).2=0)&&decide ((iW s.evs s.id).1≤s.known)):=by
 unfold iw iW;cases h:(fH s.evs&&cz s.id)<;>simp
theorem dz (s:Std) (ht:Txt s.evs) (hl:s.evs.length≤1000000000):PCall Tryz.prog 42 [.agg (aR s)] (.b (iw s)):=by
 have v:=zN s.evs s.id ht hl;have w:=Ek s.who;rw[El];generalize iW s.evs s.id=K at *;refine PCall.body Tryz.func42 rfl rfl Tryz.ntmps42 rfl rfl ?_
 repeat' (first|refine qP ?_ (h:=fun hg=>by first|exact aa|exact pc v|exact pc w|exact pc (ei _ _ _)|exact af|fail)|apply sqW|refine rgK fun U V=>?_|(refine aN V ?_;clear V U)|refine aB ?_|refine cX ?_ ?_<;>intro hc<;>try simp only[dE] at hc|refine skW ?_|refine rtW ?_)
 · refine⟨.inr rfl,Ent.b ?_⟩;revert hc;show((!inR s.ed 1 1000000||!jP s.who)||!inR s.known 0 1000)=true→_;unfold cz;cases inR s.ed 1 1000000<;>cases jP s.who<;>cases inR s.known 0 1000<;>simp
 · refine⟨.inr rfl,Ent.b ?_⟩;revert hc;show((!inR s.ed 1 1000000||!jP s.who)||!inR s.known 0 1000)=false→_;unfold cz;cases inR s.ed 1 1000000<;>cases jP s.who<;>cases inR s.known 0 1000<;>simp;show(K.2==0&&decide (K.1≤s.known))=_;by_cases h0:K.2=0<;>simp[h0]
end Go.Proofs.YthiaimakjmhegaaGreatDoor.Top
