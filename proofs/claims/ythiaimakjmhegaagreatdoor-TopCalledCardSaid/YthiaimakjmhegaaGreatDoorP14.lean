/- Parts of the proof. No statement is proved here. -/
import Derived.LaidEql
import Derived.RowKitTokens
import Derived.Stop.Asserts
import Derived.Test.YthiaimakjmhegaaGreatDoorP8
set_option linter.unusedVariables false
set_option linter.unusedSimpArgs false
set_option maxHeartbeats 16000000
set_option maxRecDepth 20000
namespace Go.Proofs.YthiaimakjmhegaaGreatDoor
open Go.Ab
attribute [local irreducible] AWP AOps EStep AQ PStep PRun PCall TCall VCall
theorem F2 (a b:Nat) (ha:a≤1000000000) (hb:b≤1000000000):PCall Tryz.prog 113 [.int a,.int b] (.int (Nat.gcd a b)):=by
 refine PCall.body Tryz.func113 rfl rfl Tryz.ntmps113 rfl rfl ?_
 repeat' (first|refine qS ?_|apply sqW|refine rgK fun U V=>?_|(refine aN V ?_;clear V U)|refine blK ?_)
 refine lpW (ι:=Nat×Nat) (fun i=>[(0,.int i.1),(1,.int i.2)]) (fun _=>[]) (fun i=>Nat.gcd i.1 i.2=Nat.gcd a b∧i.1≤1000000000∧i.2≤1000000000) (fun i=>i.2) (a,b) ⟨rfl,ha,hb⟩ ⟨rfl,rfl,tI⟩ rfl ?_;rintro⟨x,y⟩ ⟨g1,g2,g3⟩;dsimp only at g1 g2 g3 ⊢;by_cases h0:y=0
 · subst h0
   repeat' (first|refine qS ?_|apply sqW|refine rgK fun U V=>?_|(refine aN V ?_;clear V U)|refine cX ?_ ?_<;>intro hc<;>try simp only[dE] at hc|refine blK ?_|refine exW ?_|refine skW ?_|refine rtW ?_)
   · exfalso;simp at hc
   · exact⟨.inr rfl,Ent.int (by rw[←g1];simp)⟩
 · have hm:x % y<y:=Nat.mod_lt _ oM
   repeat' (first|refine qS ?_|apply sqW|refine rgK fun U V=>?_|(refine aN V ?_;clear V U)|refine cX ?_ ?_<;>intro hc<;>try simp only[dE] at hc|refine blK ?_|refine exW ?_|refine skW ?_|refine rtW ?_)
   · refine⟨(y,x % y),⟨?_,g3,oM⟩,hm,⟨rfl,rfl,tI⟩,rfl⟩;rw[←g1,Nat.gcd_comm x y,Nat.gcd_rec y x,Nat.gcd_comm]
   · exfalso;simp at hc;omega
theorem pW (a b:Int) (h:(0≤a∧a≤1000000000)∧0≤b∧b≤1000000000):PCall Tryz.prog 113 [.int a,.int b] (.int (Int.gcd a b)):=by
 have h1:=F2 a.toNat b.toNat oM oM;have ea:((a.toNat:Nat):Int)=a:=oM;have eb:((b.toNat:Nat):Int)=b:=oM;rw[ea,eb] at h1;have:Nat.gcd a.toNat b.toNat=Int.gcd a b:=by
  conv=>rhs;rw[←ea,←eb,Int.gcd_natCast_natCast]
 rw[this] at h1;exact h1
def cH (r:Rat):Int:=if dp r then ef r else -1
theorem AJ {d:Int} (h1:1≤d) (h:Int.tmod 1680 d=0):d≤1680:=Int.le_of_dvd dCd (Int.dvd_of_tmod_eq_zero h)
def lI (r:Rat):Bool:=((decide (r.d<1)||Int.tmod 1680 r.d != 0)||decide (r.n<0))||decide (r.n>1000000000)
theorem xV {r:Rat} (h:(lI r==false)=true):(0≤r.n∧r.n≤1000000000)∧0≤r.d∧r.d≤1000000000:=by
 simp[lI] at h;have:=AJ (d:=r.d) oM h.1.1.2;omega
theorem tc (r:Rat):dp r=!(lI r||((Int.gcd r.n r.d:Nat):Int) != 1):=by
 rw[zAi,fD,cL];simp only[lI,zB3,zAg,dEf,bne_eq_false_iff_eq];constructor
 · rintro⟨⟨h1,h2,h3,h4,h5⟩,h6,h7⟩;exact⟨⟨⟨⟨oM,h7⟩,oM⟩,oM⟩,oM⟩
 · rintro⟨⟨⟨⟨h1,h7⟩,h2⟩,h3⟩,h4⟩;have:=AJ (d:=r.d) oM h7;exact⟨⟨oM,oM,oM,oM,oM⟩,oM,h7⟩
theorem re (r:Rat):PCall Tryz.prog 49 [.agg (oo r)] (.int (cH r)):=by
 by_cases h:dp r=true
 · have h1:=fD.1 h;have h2:=cL.1 h1.1;have h3:=rP h1.1;have h4:=pI (x:=r.n) (y:=Int.tdiv 1680 r.d) (A:=1000000000) (B:=1680) oM h3;refine PCall.body Tryz.func49 rfl rfl Tryz.ntmps49 rfl rfl ?_
   repeat' (first|refine qP ?_ (h:=fun hg=>by first|exact aa|exact pc (pW r.n r.d ⟨oM,oM⟩)|exact af)|apply sqW|refine rgK fun U V=>?_|(refine aN V ?_;clear V U)|refine aB ?_|refine cX ?_ ?_<;>intro hc<;>try simp only[dE] at hc|refine skW ?_|refine rtW ?_|refine kD fun U V=>?_|(refine aqN (V _ ?_);clear V U)|refine aqQ rfl rfl (fun hg=>by exact aa) (by exact rfl) ?_)
   · exfalso;have e:=tc r;rw[h] at e;have:(lI r||((Int.gcd r.n r.d:Nat):Int) != 1)=true:=hc;rw[this] at e;simp at e
   · exact⟨.inr rfl,Ent.int (by unfold cH;rw[if_pos h];rfl)⟩
 · by_cases hd:r.d<1
   · have hd':∀{b:Bool},((decide (r.d<1)||b)==false)=true→False:=fun h=>by simp[hd] at h
     refine PCall.body Tryz.func49 rfl rfl Tryz.ntmps49 rfl rfl ?_
     repeat' (first|refine qP ?_ (h:=fun hg=>by first|exact aa|exact pc (pW r.n r.d (xV hg))|exact af)|apply sqW|refine rgK fun U V=>?_|(refine aN V ?_;clear V U)|refine aB ?_|refine cX ?_ ?_<;>intro hc<;>try simp only[dE] at hc|refine skW ?_|refine rtW ?_)
     · exact⟨.inr rfl,Ent.int (by unfold cH;rw[if_neg h])⟩
     · exfalso;simp[hd] at hc
   · refine PCall.body Tryz.func49 rfl rfl Tryz.ntmps49 rfl rfl ?_
     repeat' (first|refine qP ?_ (h:=fun hg=>by first|exact aa|exact pc (pW r.n r.d (xV hg))|exact af)|apply sqW|refine rgK fun U V=>?_|(refine aN V ?_;clear V U)|refine aB ?_|refine cX ?_ ?_<;>intro hc<;>try simp only[dE] at hc|refine skW ?_|refine rtW ?_)
     · exact⟨.inr rfl,Ent.int (by unfold cH;rw[if_neg h])⟩
     · exfalso;have e:=tc r;have:(lI r||((Int.gcd r.n r.d:Nat):Int) != 1)=false:=hc;rw[this] at e;exact h (by simpa using e)
theorem F3 {d:Int} (h1:1≤d) (h:Int.tmod 1680 d=0):d * Int.tdiv 1680 d=1680∧1≤Int.tdiv 1680 d:=by
 have e:=Int.mul_tdiv_add_tmod 1680 d;rw[h,Int.add_zero] at e;refine⟨e,?_⟩;rcases(show 0<Int.tdiv 1680 d∨Int.tdiv 1680 d≤0 by omega) with h2|h2
 · omega
 · exfalso;have:=zDf (a:=Int.tdiv 1680 d) (b:=0) (c:=d) h2 oM;omega
theorem barT (b:Bar):gx b=!(((((decide (b.id<1)||decide (b.id>1000000))||decide (cH b.len<1))||decide (cH b.len>40320))||decide (b.key < -7))||decide (b.key>7)):=by
 have key:ur b=(decide (cH b.len<1)||decide (cH b.len>40320)):=by
  unfold ur cH;by_cases h:dp b.len=true
  · have h1:=fD.1 h;have h2:=cL.1 h1.1;obtain⟨q1,q2⟩:=F3 h2.1 h1.2.2;rw[if_pos h,h];have hr:ee ⟨24,1⟩ b.len=if 24 * b.len.d<b.len.n * 1 then (-1,0) else if 24 * b.len.d>b.len.n * 1 then (1,0) else (0,0):=by
     unfold ee;rw[if_pos (by rw[h1.1];decide)]
    rw[hr];have e1:(b.len.n==0)=decide (ef b.len<1):=by
     rw[zAi];simp only[beq_iff_eq,dEt];unfold ef;constructor
     · intro h;rw[h];omega
     · intro h3;rcases(show 0<b.len.n∨b.len.n≤0 by omega) with h4|h4
       · have:=zDf (a:=1) (b:=Int.tdiv 1680 b.len.d) (c:=b.len.n) q2 oM;omega
       · omega
    have e2:decide ((if 24 * b.len.d<b.len.n * 1 then ((-1:Int),(0:Int)) else if 24 * b.len.d>b.len.n * 1 then (1,0) else (0,0)).1<0)=decide (ef b.len>40320):=by
     rw[zAi];simp only[dEt];have e3:24 * b.len.d * Int.tdiv 1680 b.len.d=40320:=by rw[Int.mul_assoc,q1];decide
     unfold ef;split
     · rename_i h3;have:=Int.mul_lt_mul_of_pos_right (a:=24 * b.len.d) (b:=b.len.n) (c:=Int.tdiv 1680 b.len.d) oM oM;constructor
       · intro _;omega
       · intro _;decide
     · rename_i h3;have:=zDa (a:=b.len.n) (b:=24 * b.len.d) (c:=Int.tdiv 1680 b.len.d) oM oM;constructor
       · intro h;split at h<;>simp at h
       · intro h;omega
    rw[e1,e2];rfl
  · have:dp b.len=false:=by simpa using h
    rw[this];simp
 unfold gx;rw[key];unfold xu;generalize decide (b.id<1)=a1;generalize decide (b.id>1000000)=a2;generalize decide (cH b.len<1)=a3;generalize decide (cH b.len>40320)=a4;generalize decide (b.key < -7)=a5;generalize decide (b.key>7)=a6;revert a1 a2 a3 a4 a5 a6;decide
def cw (bars:List Bar) (id:Int):Int:=az (fun b:Bar=>b.id==id) bars
theorem BG (l:List Bar) (id:Int) (hl:l.length≤9223372036854775807):PCall Tryz.prog 48 [.sl 4 (l.map cS) .no,.int id] (.int (cw l id)):=by
 refine PCall.body Tryz.func48 rfl rfl Tryz.ntmps48 rfl rfl ?_
 repeat' (first|refine qS ?_|apply sqW|refine rgK fun U V=>?_|(refine aN V ?_;clear V U)|refine blK ?_)
 refine lpW (ι:=Nat) (fun k=>[(0,.sl 4 (l.map cS) .no),(1,.int id),(5,.int k)]) (fun _=>[]) (fun k=>k≤l.length∧∀j,j<k→((l.getD j default).id==id)=false) (fun k=>l.length - k) 0 ⟨nZl _,fun j h=>absurd h oM⟩ ⟨rfl,rfl,rfl,tI⟩ rfl ?_;rintro k ⟨hk,au⟩;by_cases hlt:k<l.length
 · repeat' (first|refine qT ?_|apply sqW|refine rgK fun U V=>?_|(refine aN V ?_;clear V U)|refine cX ?_ ?_<;>intro hc<;>try simp only[dE] at hc|refine blK ?_|refine exW ?_|refine skW ?_|refine rtW ?_)
   · refine⟨.inr rfl,Ent.int ?_⟩;exact(bP hlt hc au).symm
   · exact⟨k+1,⟨oM,fun j hj=>aH au hc hj⟩,oM,⟨rfl,rfl,rfl,tI⟩,rfl⟩
   · exfalso;omega
 · repeat' (first|refine qT ?_|apply sqW|refine rgK fun U V=>?_|(refine aN V ?_;clear V U)|refine cX ?_ ?_<;>intro hc<;>try simp only[dE] at hc|refine blK ?_|refine exW ?_|refine skW ?_|refine rtW ?_)
   all_goals (first|(exfalso;omega)|skip)
   refine⟨.inr rfl,Ent.int ?_⟩;exact(bX fun j hj=>au j oM).symm
theorem xW {l:List Bar} (h:dQ l=true):(l.map (·.id)).Nodup:=by
 unfold dQ at h;simp only[zA0,dEt] at h;exact h.1.1.2
theorem xX (bars:List Bar) (id:Int):-1≤cw bars id∧cw bars id<bars.length:=by
 rcases(show cw bars id<0∨0≤cw bars id by omega) with h|h
 · have:=uV.1 h;unfold cw at *;omega
 · obtain⟨k,h1,h2,_⟩:=bY h;unfold cw at *;omega
end Go.Proofs.YthiaimakjmhegaaGreatDoor
namespace Go.Proofs.YthiaimakjmhegaaGreatDoor.Pl
open Go.RowKit Go.Extern.Stop Go.Stop Go.Extern Go.Ab
theorem F4 (t:Addr) (w:World):(ReflectliteValue.unpack (.iface 212 (.pointer (some t)))).run Tryz.prog w
 = .ok (.agg #[.pointer (some ⟨2,212,none⟩),.pointer (some ⟨w.heap.size,0,none⟩),.int .u64 150]) (w.alloc (.cells #[.pointer (some t)] 212)):=by kernel_rfl
theorem Lt (a : Addr) (w : World) : (ReflectliteValue.methodAny (ReflectliteValue.valueError "reflectlite.Value.Type" 0) (fun t _ _ _ => ReflectliteType.toType t) #[.agg #[.pointer (some ⟨2, 212, none⟩), .pointer (some a), .int .u64 150]]).run Tryz.prog w
 = .ok (.iface 338 (.agg #[.pointer (some ⟨2,212,none⟩)])) w:=by kernel_rfl
theorem BH (h : Value) (w : World) : (Go.method 539 338 (.agg #[h]) "Kind").run Tryz.prog w = .ok (350, h) w := by kernel_rfl
theorem Lu (w:World):((ReflectliteType.abiMethod fun t=>(fun a:Nat=>Value.int IntKind.u8 (a:Int)) <$> Rtype.kind t) #[.pointer (some ⟨2,212,none⟩)]).run Tryz.prog w=.ok (.int .u8 22) w:=by kernel_rfl
theorem Lv (w:World):((ReflectliteType.abiMethod fun t=>(fun a:Nat=>Value.int IntKind.u8 (a:Int)) <$> Rtype.kind t) #[.pointer (some ⟨2,206,none⟩)]).run Tryz.prog w=.ok (.int .u8 25) w:=by kernel_rfl
theorem rlm (z : Sem Value) (f : TypeId → Addr → Nat → Nat → Sem Value) (v : Value) :
    ReflectliteValue.method z f #[v]=(do match ←ReflectliteValue.parts v with|none=>z|some (t,a,fl)=>f t a fl (fl % 32)):=rfl
theorem DV (a:Addr) (w:World):(ReflectliteValue.parts (.agg #[.pointer (some ⟨2,212,none⟩),.pointer (some a),.int .u64 150])).run Tryz.prog w=.ok (some (212,a,150)) w:=by kernel_rfl
theorem Ka (a p:Addr) (W:World) (ha:W.cell? a=some (.pointer (some p))) :
 (ReflectliteValue.method (ReflectliteValue.valueError "reflectlite.Value.IsNil" 0) ReflectliteValue.isNil #[.agg #[.pointer (some ⟨2, 212, none⟩), .pointer (some a), .int .u64 150]]).run Tryz.prog W = .ok (.bool false) W := by
 rw[rlm];simp only[Sem.run_bind,DV,Result.andThen];simp[ReflectliteValue.isNil,loadVar,isAgg,underlying,Tryz.underlying212,ha,Result.andThen]
theorem BI (h : Value) (w : World) : (Go.method 539 338 (.agg #[h]) "Elem").run Tryz.prog w = .ok (363, .agg #[h]) w := by kernel_rfl
theorem r8 (h : Value) (w : World) : (Go.method 539 338 (.agg #[h]) "Implements").run Tryz.prog w = .ok (364, .agg #[h]) w := by kernel_rfl
theorem pX (h : Value) (w : World) : (Go.method 539 338 (.agg #[h]) "AssignableTo").run Tryz.prog w = .ok (361, .agg #[h]) w := by kernel_rfl
theorem Lw (w:World):(ReflectliteType.method ReflectliteType.elem #[.agg #[.pointer (some ⟨2,212,none⟩)]]).run Tryz.prog w=.ok (.iface 338 (.agg #[.pointer (some ⟨2,206,none⟩)])) w:=by kernel_rfl
theorem zG (w : World) : (ReflectliteType.relation "Implements" ReflectliteType.implements_ #[.agg #[.pointer (some ⟨2, 206, none⟩)], .iface 338 (.agg #[.pointer (some ⟨2, 142, none⟩)])]).run Tryz.prog w = .ok (.bool true) w := by kernel_rfl
theorem II (v:Value) (w:World):(ReflectliteType.typeOf #[.iface 206 v]).run Tryz.prog w=.ok (.iface 338 (.agg #[.pointer (some ⟨2,206,none⟩)])) w:=by kernel_rfl
theorem zH (w : World) : (ReflectliteType.relation "AssignableTo" ReflectliteType.assignableTo #[.agg #[.pointer (some ⟨2, 206, none⟩)], .iface 338 (.agg #[.pointer (some ⟨2, 206, none⟩)])]).run Tryz.prog w = .ok (.bool true) w := by kernel_rfl
theorem F5 (x:Int) (w:World):(ReflectliteValue.unpack (.iface 206 (.agg #[.int .i64 x]))).run Tryz.prog w
 = .ok (.agg #[.pointer (some ⟨2,206,none⟩),.pointer (some ⟨w.heap.size,0,none⟩),.int .u64 153]) (w.alloc (.cells #[.int .i64 x] 206)):=by kernel_rfl
theorem IJ (w:World):(Rtype.elem? 212).run Tryz.prog w=.ok (some 206) w:=by kernel_rfl
theorem mkR (p:Addr) (w:World):(ReflectliteValue.mk 206 p ReflectliteValue.flagAddr).run Tryz.prog w=.ok (.agg #[.pointer (some ⟨2,206,none⟩),.pointer (some p),.int .u64 409]) w:=by kernel_rfl
theorem Kb (a p:Addr) (W:World) (ha:W.cell? a=some (.pointer (some p))) :
 (ReflectliteValue.method (ReflectliteValue.valueError "reflectlite.Value.Elem" 0) ReflectliteValue.elem #[.agg #[.pointer (some ⟨2, 212, none⟩), .pointer (some a), .int .u64 150]]).run Tryz.prog W
  = .ok (.agg #[.pointer (some ⟨2,206,none⟩),.pointer (some p),.int .u64 409]) W:=by
 rw[rlm];simp only[Sem.run_bind,DV,Result.andThen];simp[ReflectliteValue.elem,loadVar,isAgg,underlying,Tryz.underlying212,ha,Result.andThen,IJ,mkR]
theorem rls (v x:Value):ReflectliteValue.set #[v,x]=(do
 let (some (dst,a,fl),some (src,b,_)):=(←ReflectliteValue.parts v,←ReflectliteValue.parts x)
  | unsupported (.noEntry "extern/(internal/reflectlite.Value).Set.zeroValue")
 if fl / ReflectliteValue.flagAddr % 2 == 0 then unsupported (.noEntry "extern/(internal/reflectlite.Value).Set.unaddressable")
 let val ←loadVar src b
 if ←Rtype.directlyAssignable dst src then storeVar dst a val
 else if ←Rtype.implements dst src then
  if (←Rtype.kind src)==20 then
   match val with
   | .nilIface => unsupported (.noEntry "extern/reflectlite: a nil value of one interface type handed on as a value of another")
   |_=>storeVar dst a val
  else storeVar dst a (.iface src val)
 else panicString ("reflectlite.Set: value of type " ++ (← Rtype.spelt src) ++ " is not assignable to type " ++ (← Rtype.spelt dst))
 pure (.tuple #[])):=rfl
theorem IK (a:Addr) (w:World):(ReflectliteValue.parts (.agg #[.pointer (some ⟨2,206,none⟩),.pointer (some a),.int .u64 409])).run Tryz.prog w=.ok (some (206,a,409)) w:=by kernel_rfl
theorem Kc (a:Addr) (w:World):(ReflectliteValue.parts (.agg #[.pointer (some ⟨2,206,none⟩),.pointer (some a),.int .u64 153])).run Tryz.prog w=.ok (some (206,a,153)) w:=by kernel_rfl
theorem IL (w:World):(Rtype.directlyAssignable 206 206).run Tryz.prog w=.ok true w:=by kernel_rfl
theorem HN (w:World):(sizeOf 206).run Tryz.prog w=.ok 1 w:=by kernel_rfl
theorem FD (ta b:Addr) (x:Int) (old:Value) (W:World) (hb:W.cell? b=some (.int .i64 x)) (ht:W.cell? ta=some old) (hf:W.frozen? ta=false) :
 (ReflectliteValue.set #[.agg #[.pointer (some ⟨2,206,none⟩),.pointer (some ta),.int .u64 409],.agg #[.pointer (some ⟨2,206,none⟩),.pointer (some b),.int .u64 153]]).run Tryz.prog W
  = .ok (.tuple #[]) (W.setCell ta (.int .i64 x)):=by
 rw[rls];simp only[Sem.run_bind,IK,Kc,Result.andThen];have hl:(loadCellsFrom b 0 1 #[]).run Tryz.prog W=.ok #[.int .i64 x] W:=by
  have h0:=run_loadCellsFrom (P:=Tryz.prog) W b (fun _=>.int .i64 x) 1 0 #[] (fun j hj=>by
   have:0+j=0:=oM;rw[this];exact hb)
  exact h0
 have hst:(store ta (.int .i64 x)).run Tryz.prog W=.ok () (W.setCell ta (.int .i64 x)):=by
  have h0:=run_store Tryz.prog W ta (.int .i64 x) .plain (by rfl);rw[ht,hf] at h0;simpa using h0
 have hz:=HN;simp[ReflectliteValue.flagAddr,loadVar,isAgg,underlying,Tryz.underlying206,Sem.run_bind,Result.andThen,IL,storeVar,Value.cells,storeCells,Addr.add,HN,loadCells,hl,hst]
abbrev uI:Value:=.iface 338 (.agg #[.pointer (some ⟨2,142,none⟩)])
abbrev oH (x:Int):Value:=.iface 206 (.agg #[.int .i64 x])
abbrev c1 (t:Addr):Obj:=.cells #[.pointer (some t)] 212
abbrev c2 (n:Nat):Obj:=.cells #[.pointer (some ⟨2,212,none⟩),.pointer (some ⟨n,0,none⟩),.int .u64 150] 276
theorem Kd (x:Int) (t:Addr) (old:Value) (w:World) (hg:w.cell? ⟨0,0,none⟩=some uI) (ht0:w.cell? t=some old) (hf0:w.frozen? t=false) :
 Calls Tryz.prog 125 #[oH x,.iface 212 (.pointer (some t))] w fun ev w'=>ev=.returned (.bool true)∧w'=((((w.alloc (c1 t)).alloc (c2 w.heap.size)).alloc (c2 w.heap.size)).alloc (.cells #[.int .i64 x] 206)).setCell t (.int .i64 x):=by
 have h6:=@run_callFunc_extern Tryz.prog 190 _ (fun args=>ReflectliteValue.unpack (args.getD 0 (.tuple #[]))) Tryz.func190 (by kernel_rfl) (by kernel_rfl) (by kernel_rfl) (by kernel_rfl);have h7 := @run_callFunc_extern Tryz.prog 191 _ (ReflectliteValue.methodAny (ReflectliteValue.valueError "reflectlite.Value.Type" 0) (fun t _ _ _ => ReflectliteType.toType t)) Tryz.func191 (by kernel_rfl) (by kernel_rfl) (by kernel_rfl) (by kernel_rfl)
 have h8 := @run_callFunc_extern Tryz.prog 192 _ (ReflectliteValue.method (ReflectliteValue.valueError "reflectlite.Value.IsNil" 0) ReflectliteValue.isNil) Tryz.func192 (by kernel_rfl) (by kernel_rfl) (by kernel_rfl) (by kernel_rfl)
 have h27:=@run_callFunc_extern Tryz.prog 350 _ (ReflectliteType.abiMethod fun t=>do pure (.int .u8 (←Rtype.kind t))) Tryz.func350 (by kernel_rfl) (by kernel_rfl) (by kernel_rfl) (by kernel_rfl);have h37:=@run_callFunc_extern Tryz.prog 363 _ (ReflectliteType.method ReflectliteType.elem) Tryz.func363 (by kernel_rfl) (by kernel_rfl) (by kernel_rfl) (by kernel_rfl);have h38 := @run_callFunc_extern Tryz.prog 364 _ (ReflectliteType.relation "Implements" ReflectliteType.implements_) Tryz.func364 (by kernel_rfl) (by kernel_rfl) (by kernel_rfl) (by kernel_rfl)
 have h10:=@run_callFunc_extern Tryz.prog 252 _ ReflectliteType.typeOf Tryz.func252 (by kernel_rfl) (by kernel_rfl) (by kernel_rfl) (by kernel_rfl);have h35 := @run_callFunc_extern Tryz.prog 361 _ (ReflectliteType.relation "AssignableTo" ReflectliteType.assignableTo) Tryz.func361 (by kernel_rfl) (by kernel_rfl) (by kernel_rfl) (by kernel_rfl)
 have h11 := @run_callFunc_extern Tryz.prog 253 _ (ReflectliteValue.method (ReflectliteValue.valueError "reflectlite.Value.Elem" 0) ReflectliteValue.elem) Tryz.func253 (by kernel_rfl) (by kernel_rfl) (by kernel_rfl) (by kernel_rfl)
 have h12:=@run_callFunc_extern Tryz.prog 254 _ ReflectliteValue.set Tryz.func254 (by kernel_rfl) (by kernel_rfl) (by kernel_rfl) (by kernel_rfl);have tO:=II;have mA:=pX;have a25:=zH;have v25:=F5;have f6:=F4;have f7:=Lt;have mK:=BH;have mE:=BI;have mI:=r8;have k27:=Lu;have k25:=Lv;have e27:=Lw;have i25:=zG;have n8:=Ka ⟨w.heap.size,0,none⟩ t ((w.alloc (c1 t)).alloc (c2 w.heap.size)) sMp;have hlt:0<w.heap.size:=by
  rcases zBe w.heap.size with h0|h
  · simp[World.cell?,h0] at hg
  · exact h
 have hg2:((w.alloc (c1 t)).alloc (c2 w.heap.size)).cell? ⟨0,0,none⟩=some uI:=by
  rw[World.cell?_alloc_lt _ _ ⟨0,0,none⟩ sMp,World.cell?_alloc_lt _ _ ⟨0,0,none⟩ hlt];exact hg
 have htl:t.block<w.heap.size:=by
  rcases nLg t.block w.heap.size with h|h
  · exact h
  · simp[World.cell?,zAj h] at ht0
 have el:=Kb ⟨w.heap.size,0,none⟩ t (((w.alloc (c1 t)).alloc (c2 w.heap.size)).alloc (c2 w.heap.size)) (by rw[World.cell?_alloc_lt _ _ ⟨w.heap.size,0,none⟩ (by simp;omega)];simp)
 have st:=FD t ⟨w.heap.size+1+1+1,0,none⟩ x old ((((w.alloc (c1 t)).alloc (c2 w.heap.size)).alloc (c2 w.heap.size)).alloc (.cells #[.int .i64 x] 206))
  (by rw[World.cell?_alloc_at _ _ _ _ sMp];rfl)
  (by rw[World.cell?_alloc_lt _ _ t (by simp;omega),World.cell?_alloc_lt _ _ t (by simp;omega),World.cell?_alloc_lt _ _ t (by simp;omega),World.cell?_alloc_lt _ _ t htl];exact ht0)
  (by rw[World.frozen?_alloc_old _ _ t (by simp;omega),World.frozen?_alloc_old _ _ t (by simp;omega),World.frozen?_alloc_old _ _ t (by simp;omega),World.frozen?_alloc_old _ _ t (Nat.ne_of_lt htl)];exact hf0)
 go_enter Tryz.func125,Tryz.ntmps125
 go_wp2
 refine wp_loop_rounds 1 ?_;rw[rounds_succ]
 go_wp2
 go_ret
 exact⟨rfl,rfl⟩
theorem DW (x:Int) (w:World) (hg:w.cell? ⟨0,0,none⟩=some uI) :
 Calls Tryz.prog 61 #[oH x] w fun e w'=>e=.returned (.int .i64 x)∧w'=((((w.alloc (.cells #[.int .i64 x] 206)).alloc (c1 ⟨w.heap.size,0,none⟩)).alloc (c2 (w.heap.size+1))).alloc (c2 (w.heap.size+1))).alloc (.cells #[.int .i64 x] 206):=by
 have hlt:0<w.heap.size:=by
  rcases zBe w.heap.size with h0|h
  · simp[World.cell?,h0] at hg
  · exact h
 have hgA:(w.alloc (.cells #[.int .i64 0] 206)).cell? ⟨0,0,none⟩=some uI:=by
  rw[World.cell?_alloc_lt _ _ ⟨0,0,none⟩ hlt];exact hg
 have htA:(w.alloc (.cells #[.int .i64 0] 206)).cell? ⟨w.heap.size,0,none⟩=some (.int .i64 0):=sMp;have hfA:(w.alloc (.cells #[.int .i64 0] 206)).frozen? ⟨w.heap.size,0,none⟩=false:=sMp
 go_enter Tryz.func61,Tryz.ntmps61
 go_wp2_with (first|(go_at_call 125;refine(Kd x _ (.int .i64 0) _ hgA htA hfA).mono ?_;rintro e w' ⟨rfl,rfl⟩))
 go_ret
 exact⟨rfl,rfl⟩
theorem jO {M:Mem} {w0 w:World} (h:pt M w0 M w) (o:Obj):pt M w0 M (w.alloc o) :=
 ⟨h.le,mP h.ok o,by have:=h.size;simp;omega,fun b hb=>by
  rw[heap_alloc,if_neg (by have:=h.size;omega)];exact h.heap b hb,h.mem,h.out.trans ⟨⟨rfl,rfl⟩,rfl,nLr _⟩⟩
theorem DX {M:Mem} {w:World} (h:dc M w):pt M w M w:=⟨Mem.Le.refl _,h,nLr _,fun _ _=>rfl,fun _ _=>⟨fun _=>rfl,rfl⟩,cD.refl _⟩
theorem vu (x:Int):PCall Tryz.prog 61 [.prim (oH x)] (.int x):=by
 refine⟨⟨_,Tryz.func61,rfl,rfl⟩,fun M w vs hM ha=>?_⟩;have hv:vs=#[oH x]:=by
  obtain⟨h1,h2⟩:=ha;have h3:=ag.aJ (h2 0 _ rfl);refine Array.ext (by simpa using h1) fun i hi hj=>?_
  have hi0:i=0:=by simp at hj;exact hj
  subst hi0;have:vs.getD 0 undef=vs[0]:=by simp[Array.getD,hi]
  rw[←this,h3];rfl
 subst hv;have hg:w.cell? ⟨0,0,none⟩=some uI:=hM.c _ _ _ (hM.g (0,[uI]) (by unfold Gam;exact zB8 ..) 0 _ rfl);refine(DW x w hg).mono ?_;rintro e w' ⟨rfl,rfl⟩;exact⟨_,M,rfl,.prim _,jO (jO (jO (jO (jO (DX hM) _) _) _) _) _⟩
end Go.Proofs.YthiaimakjmhegaaGreatDoor.Pl
namespace Go.Ab
section
variable {P:Program} {T:Tab} {o:Oper} {env:Env} {σ:ae}
theorem PRun.DY {t:TypeId} {x:Operand} (vs:List Value) (hi:xm P t=true) (ho:o.op=.makeInterface t x) (hx:rdv env x=some (.agg (vs.map AV.prim))) (nx:rdn env x) :
 PRun P o env σ (.prim (.iface t (.agg vs.toArray))) :=
 .of fun G A w hs hv=>by
  have h1:=rd (Rd.w hx nx) (by simp[ho,Op.operands]) hv;have h2:A.eval x=.agg vs.toArray:=by
   generalize A.eval x=y at h1;cases h1 with
   | agg _ us hl hr =>
     congr 1;rw[lLm] at hl;refine Array.ext (by simpa using hl) fun i hi1 hi2=>?_
     have hi3:i<vs.length:=by simpa using hi2
     have:=ag.aJ (hr i (.prim vs[i]) (by rw[zA5,zA1 hi3];rfl));rw[show us.getD i undef=us[i] by simp[Array.getD,hi1]] at this;rw[this];simp
  refine⟨.iface t (.agg vs.toArray),?_,.prim _⟩;unfold xm at hi;split at hi<;>simp at hi;rename_i d hn hd;simp only[execOp,ho,Instr.makeInterface,h2];rw[Sem.run_bind,Sem.run_bind,run_underlying hd w];cases d with
  |interface ms=>exact(hn _ rfl).elim
  |_=>rfl
def nJ:Value→Option Bool
 |.nilIface=>some false
 |.iface _ _=>some true
 |_=>none
theorem PRun.im {t t' : TypeId} {x : Operand} {v : Value} {r : Bool} (hi : ∃ ms, P.underlying t = some (.interface ms)) (ho : o.op = .binOp .neq t x (.const .nilIface) t') (hx : rdv env x = some (.prim v)) (nx : rdn env x) (hr : nJ v = some r) :
    PRun P o env σ (.b r) :=
  .of fun G A w hs hv => by
    have h1:=ag.aJ (rd (Rd.w hx nx) (by simp[ho,Op.operands]) hv);obtain⟨ms,hi⟩:=hi;refine⟨.bool r,?_,.prim _⟩;have e:A.eval (.const .nilIface)=.nilIface:=rfl;unfold nJ at hr;split at hr<;>simp at hr<;>subst hr
    · simp only[execOp,ho,h1,e];have h2:(binOp .neq t .nilIface .nilIface)=(do pure (.bool (!(←Op.equal t .nilIface .nilIface)))):=rfl
      have h3 : (Op.equal t .nilIface .nilIface).run P w = .ok true w := by
        show(Op.equalIn (9999+1) t .nilIface .nilIface).run P w=_;rw[Op.equalIn,Sem.run_bind,run_underlying hi];rfl
      rw[h2];simp[eqGuard,h3]
    · simp only[execOp,ho,h1,e];rename_i ti vi;have h2:(binOp .neq t (.iface ti vi) .nilIface)=(do pure (.bool (!(←Op.equal t (.iface ti vi) .nilIface)))):=rfl
      have h3 : (Op.equal t (.iface ti vi) .nilIface).run P w = .ok false w := by
        show(Op.equalIn (9999+1) t (.iface ti vi) .nilIface).run P w=_;rw[Op.equalIn,Sem.run_bind,run_underlying hi];rfl
      rw[h2];simp[eqGuard,h3]
end
end Go.Ab
namespace Go.Proofs.YthiaimakjmhegaaGreatDoor.Pl
open Go.Ab
attribute [local irreducible] AWP AOps EStep AQ PStep PRun PCall TCall VCall
def db (x:Int):Value:=if x=0 then .nilIface else oH x
theorem gu (ok:Bool) (x:Int) (hx:x≠0):PCall Tryz.prog 58 [.b ok,.int x] (.prim (db (if ok then 0 else x))):=by
 refine PCall.body Tryz.func58 rfl rfl Tryz.ntmps58 rfl rfl ?_
 repeat' (first|refine qP ?_ (h:=fun hg=>by first|exact aa|exact pbD ab rfl rfl nds|exact PRun.DY [.int .i64 x] (by kernel_rfl) rfl rfl nd|exact af)|apply sqW|refine rgK fun U V=>?_|(refine aN V ?_;clear V U)|refine cX ?_ ?_<;>intro hc<;>try simp only[dE] at hc|refine skW ?_|refine rtW ?_)
 · exact⟨.inr rfl,Ent.of (by rw[hc];rfl)⟩
 · refine⟨.inr rfl,Ent.of ?_⟩;rw[hc];show AV.prim _=AV.prim (db x);unfold db;rw[if_neg hx]
end Go.Proofs.YthiaimakjmhegaaGreatDoor.Pl
