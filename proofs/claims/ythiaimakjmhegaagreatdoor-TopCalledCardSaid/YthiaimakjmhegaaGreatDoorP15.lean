/- Parts of the proof. No statement is proved here. -/
import Derived.Laws.IdiomStrings
import Derived.Test.YthiaimakjmhegaaGreatDoorP8
import Derived.Test.YthiaimakjmhegaaGreatDoorP11
set_option linter.unusedVariables false
set_option linter.unusedSimpArgs false
set_option maxHeartbeats 16000000
set_option maxRecDepth 20000
namespace Go.Jo
abbrev Bs:=List UInt8
def inR (n lo hi:Int):Bool:=decide (lo≤n)&&decide (n≤hi)
def cz (n:Int):Bool:=inR n 1 1000000
structure Rdr where
 part:Int
 jm:Int
 jn:Int
 deriving DecidableEq,Inhabited
structure Mark where
 id:Int
 kind:Int
 cE:Int
 who:Rdr
 version:Int
 note:Int
 value:Int
 text:Bs
 deriving DecidableEq,Inhabited
def noMark:Mark:=⟨0,0,0,⟨0,0,0⟩,0,0,0,[]⟩
def jP (r:Rdr):Bool:=cz r.part&&inR r.jm 1 40&&inR r.jn 1 4
def iq (cE:Int) (r:Rdr):Bool :=
 if cE=1 then jP r else if cE=2 then cz r.part&&inR r.jm 1 40&&r.jn==0 else if cE=3 then inR r.part 0 99&&r.jm==0&&r.jn==0 else
 if cE=4 then r.part==0&&r.jm==0&&r.jn==0 else false
def pY (t:Bs):Bool:=decide (t.length≤200)&&t.all fun c=>decide (32≤c.toNat)&&decide (c.toNat≤126)
def fF (m:Mark):Bool:=pY m.text&&iq m.cE m.who&&cz m.id&&cz m.version&&cz m.note&&inR m.kind 1 5&&inR m.value 0 1000&&(m.kind != 1||decide (m.value≤2))
theorem BJ {t:Bs}:pY t=true↔t.length≤200∧∀c∈t,32≤c.toNat∧c.toNat≤126:=by
 simp[pY]
end Go.Jo
namespace Go.Ab
abbrev AV.bs (t:List UInt8):AV:=.str ⟨t.toArray⟩
end Go.Ab
namespace Go.Proofs.YthiaimakjmhegaaGreatDoor.Mk
open Go.Ab Go.Jo
attribute [local irreducible] AWP AOps EStep AQ PStep PRun PCall TCall VCall
def qD (r:Rdr):List AV:=[.int r.part,.int r.jm,.int r.jn]
def fG (m:Jo.Mark):List AV:=[.int m.id,.int m.kind,.int m.cE,.int m.who.part,.int m.who.jm,.int m.who.jn,.int m.version,.int m.note,.int m.value,.bs m.text]
theorem ir (a b c:Int):PCall Tryz.prog 297 [.int a,.int b,.int c] (.b (inR a b c)):=by
 refine PCall.body Tryz.func297 rfl rfl Tryz.ntmps297 rfl rfl ?_
 repeat' (first|refine qS ?_|apply sqW|refine rgK fun U V=>?_|(refine aN V ?_;clear V U)|refine rtW ?_)
 exact⟨.inr rfl,Ent.b rfl⟩
theorem r9 (a:Int):PCall Tryz.prog 296 [.int a] (.b (cz a)):=by
 refine PCall.body Tryz.func296 rfl rfl Tryz.ntmps296 rfl rfl ?_
 repeat' (first|refine qP ?_ (h:=fun hg=>by first|exact aa|exact pc (ir _ _ _)|exact af)|apply sqW|refine rgK fun U V=>?_|(refine aN V ?_;clear V U)|refine rtW ?_)
 exact⟨.inr rfl,Ent.b rfl⟩
theorem vv (r:Rdr):PCall Tryz.prog 315 [.agg (qD r)] (.b (jP r)):=by
 refine PCall.body Tryz.func315 rfl rfl Tryz.ntmps315 rfl rfl ?_
 repeat' (first|refine qP ?_ (h:=fun hg=>by first|exact aa|exact pc (ir _ _ _)|exact pc (r9 _)|exact af)|apply sqW|refine rgK fun U V=>?_|(refine aN V ?_;clear V U)|refine aB ?_|refine rtW ?_)
 exact⟨.inr rfl,Ent.b rfl⟩
theorem flM:mq Tryz.prog 251=some [.int .i64,.int .i64,.int .i64,.int .i64,.int .i64,.int .i64,.int .i64,.int .i64,.int .i64,.str]:=by kernel_rfl
theorem flR:mq Tryz.prog 53=some [.int .i64,.int .i64,.int .i64]:=by kernel_rfl
theorem Ke (t u:Bs):((⟨t.toArray⟩:ByteArray)==⟨u.toArray⟩)=(t==u):=by
 show(t.toArray==u.toArray)=(t==u);rw[zAi];simp
def eqM (m k:Jo.Mark):Bool:=m.id==k.id&&(m.kind==k.kind&&(m.cE==k.cE&&(m.who.part==k.who.part&&(m.who.jm==k.who.jm&&(m.who.jn==k.who.jn&&(m.version==k.version&&(m.note==k.note&&(m.value==k.value&&(((⟨m.text.toArray⟩:ByteArray)==⟨k.text.toArray⟩)&&true)))))))))
theorem DZ (m k:Jo.Mark):eqM m k=(m==k):=by
 unfold eqM;rw[Ke,zAi];obtain⟨a,b,c,⟨d,e,f⟩,g,h,i,j⟩:=m;obtain⟨a',b',c',⟨d',e',f'⟩,g',h',i',j'⟩:=k;simp;exact fun _ _ _=>⟨fun ⟨h1,h2,h3,h4⟩=>⟨⟨h1,h2,h3⟩,h4⟩,fun ⟨⟨h1,h2,h3⟩,h4⟩=>⟨h1,h2,h3,h4⟩⟩
end Go.Proofs.YthiaimakjmhegaaGreatDoor.Mk
namespace Go.Ab
def iu (s:ByteArray):Nat→Nat→List Nat
 |0,_=>[]
 |f+1,i=>if i<s.size then (Utf8.decode s i).1::iu s f (i+(Utf8.decode s i).2) else []
theorem pZ (s:ByteArray):∀(f i:Nat) (acc:Array Value),Conv.runesFrom s f i acc=acc++((iu s f i).map fun (r:Nat)=>Value.int .i32 (r:Int)).toArray
 |0,i,acc=>by simp[Conv.runesFrom,iu]
 | f + 1, i, acc => by
   unfold Conv.runesFrom iu;split
   · show Conv.runesFrom s f (i+(Utf8.decode s i).2) (acc.push (.int .i32 (Int.ofNat (Utf8.decode s i).1)))=_;rw[pZ s f];simp
   · simp
abbrev df (s:ByteArray):List Nat:=iu s s.size 0
theorem ly (s:ByteArray):∀(f i:Nat),(iu s f i).length≤f
 |0,i=>by simp[iu]
 | f + 1, i => by
   unfold iu;split
   · have:=ly s f (i+(Utf8.decode s i).2);simp;omega
   · simp
abbrev r4 (r:Nat):List AV:=[.prim (.int .i32 (r:Int))]
theorem PRun.F6 {P:Program} {T:Tab} {o:Oper} {env:Env} {σ:ae} (hT:T.Ok P) {s d e:TypeId} {x:Operand} {t:ByteArray} {s1 b1 s2 b2 s3 b3:Nat} {z z2 z3:List Z} (ho:o.op=.convert s d x) (hx:rdv env x=some (.str t)) (nx:rdn env x)
 (hs':T.get s=some ⟨.str,s1,b1,z⟩) (hd:T.get d=some ⟨.slice e,s3,b3,z3⟩) (he:T.get e=some ⟨.int .i32,s2,b2,z2⟩) (hsz:t.size≤70368744177664):PRun P o env σ (.sl 1 ((df t).map r4) .no):=by
 intro G A w hs hv;have h1:=ag.aJ (rd (Rd.w hx nx) (by simp[ho,Op.operands]) hv);have us:P.underlying s=some .string:=LOk.Dj (LOk.of (hT.get hs'));have ud:P.underlying d=some (.slice e):=LOk.dB (LOk.of (hT.get hd));have ue:P.underlying e=some (.int .i32):=by
  obtain⟨dd,k1,k2⟩:=(LOk.of (hT.get he)).und;cases dd<;>simp[ltOf] at k2;subst k2;exact k1
 have hrf:=pZ t t.size 0 #[];have hrl:=ly t t.size 0;have hrn:(Conv.runesFrom t t.size 0 #[]).size=(df t).length:=by rw[hrf];simp
 obtain⟨C,hC⟩:∃C,C=(Conv.runesFrom t t.size 0 #[]++Array.replicate (grownCap w (Conv.runesFrom t t.size 0 #[]).size 0 e - (Conv.runesFrom t t.size 0 #[]).size) (Value.int .i32 0)):=⟨_,rfl⟩
 have bl:(execOp A.eval o).run P w=.ok (.value (.slice (some ⟨w.heap.size,0,none⟩) (df t).length (grownCap w (df t).length 0 e))) (w.drew.alloc (.cells C e)):=by
  simp only[execOp,ho,h1];rw[Sem.run_bind,run_runes_of_string w s d e t us ud ue (by rw[hrn];exact zC2 hrl hsz),hrn,hC,hrn];rfl
 unfold OWP;rw[bl];have hsz1:(w.drew.alloc (.cells C e)).heap.size=w.heap.size+1:=by
  show(w.heap.push _).size=_;simp
 have hold:∀b,b<w.heap.size→(w.drew.alloc (.cells C e)).heap[b]? = w.heap[b]? := fun b hb=>by
  show(w.heap.push _)[b]? = _;rw[zDb,if_neg oM]
 have xn:(w.drew.alloc (.cells C e)).heap[w.heap.size]? = some (.cells C e):=by
  show(w.heap.push _)[w.heap.size]? = _;simp
 obtain⟨hs2,hle⟩:=hs.Ar C hsz1 hold (fun o v hv=>by
  simp only[World.cell?,xn];exact hv) cD.r
 refine⟨_,_,rfl,?_,.upM hle,hs2⟩;have hlen:(df t).length=((df t).map r4).length:=by rw[lLm]
 rw[hlen];have nY:((df t).map r4).length≤grownCap w ((df t).map r4).length 0 e:=grownCap_ge w _ 0 e;refine .sl 1 _ .no w.heap.size 0 _ (fun i j=>.int .i32 ((df t).getD i 0:Nat)) (fun e he=>by simp at he;obtain⟨_,_,rfl⟩:=he;rfl) (fun i j hi hj=>?_) (fun i j e c hi hj=>?_) nY trivial
 · have hi':i<(df t).length:=by simpa using hi
   have hj0:j=0:=oM;subst hj0;simp only[Mem.bo,if_pos rfl,zBv,zCb,zBq,hC];rw[zAl (by rw[hrn];exact hi'),hrf];simp[List.getD,hi']
 · simp only[zA5,zA6] at hi;obtain⟨c',hc',rfl⟩:=hi
   match j,hj with
   | 0, hj =>
     simp at hj;subst hj;have:(df t).getD i 0=c':=by simp only[List.getD,hc',zCv]
     rw[this];exact .prim _
   |j+1,hj=>simp at hj
end Go.Ab
namespace Go.Proofs.YthiaimakjmhegaaGreatDoor.Mk
open Go.Ab Go.Jo
attribute [local irreducible] AWP AOps EStep AQ PStep PRun PCall TCall VCall
theorem IM {s:ByteArray} {i:Nat} (h:(s.get! i).toNat<128):Utf8.decode s i=((s.get! i).toNat,1):=by
 unfold Utf8.decode;simp only[zBq];rw[if_pos h]
theorem F7 {s:ByteArray} {i:Nat} (h:¬(s.get! i).toNat<128):126<(Utf8.decode s i).1:=by
 unfold Utf8.decode;simp only[zBq];rw[if_neg h];simp only[Utf8.runeError];split
 · split
   · simp only[];omega
   · decide
 · split
   · split
     · rename_i h1;simp only[zA0,dEt] at h1;simp only[];omega
     · decide
   · split
     · split
       · rename_i h1;simp only[zA0,dEt] at h1;simp only[];omega
       · decide
     · decide
def eN (r:Nat):Bool:=decide (r<32)||decide (126<r)
def xY (c:UInt8):Bool:=eN c.toNat
theorem get_at {t:Bs} {i:Nat} (h:i<t.length):(⟨t.toArray⟩:ByteArray).get! i=t[i]:=by
 show t.toArray[i]! = _;simp[h]
theorem vw (t:Bs):∀(f i:Nat),i+f=t.length→(iu ⟨t.toArray⟩ f i).any eN=(t.drop i).any xY
 |0,i,h=>by rw[zBh oM];simp[iu]
 | f + 1, i, h => by
   have hi:i<t.length:=oM;have hsz:(⟨t.toArray⟩:ByteArray).size=t.length:=by simp[ByteArray.size]
   unfold iu;rw[if_pos (by rw[hsz];exact hi),zBj hi,List.any_cons,List.any_cons];by_cases hl:(t[i]).toNat<128
   · rw[IM (by rw[get_at hi];exact hl),get_at hi];simp only[];rw[vw t f (i+1) oM];rfl
   · have h1:=F7 (s:=⟨t.toArray⟩) (i:=i) (by rw[get_at hi];exact hl);have e1:eN (Utf8.decode ⟨t.toArray⟩ i).1=true:=by unfold eN;simp;omega
     have e2:xY t[i]=true:=by unfold xY eN;simp;omega
     rw[e1,e2];rfl
theorem p6 (t:Bs):pY t=(decide (t.length≤200)&&!(df ⟨t.toArray⟩).any eN):=by
 have hsz:(⟨t.toArray⟩:ByteArray).size=t.length:=by simp[ByteArray.size]
 rw[df,hsz,vw t t.length 0 oM,List.drop_zero,zAi,BJ];simp only[zA0,dEt,zB3,List.any_eq_false];refine and_congr_right fun _=>⟨fun h c hc=>?_,fun h c hc=>?_⟩
 · have:=h c hc;unfold xY eN;simp;omega
 · have:=h c hc;unfold xY eN at this;simp at this;omega
theorem badF (r:Nat):PCall Tryz.prog 295 [.prim (.int .i32 (r:Int))] (.b (eN r)):=by
 refine PCall.body Tryz.func295 rfl rfl Tryz.ntmps295 rfl rfl ?_
 repeat' (first|refine qS ?_|apply sqW|refine rgK fun U V=>?_|(refine aN V ?_;clear V U)|refine rtW ?_)
 refine⟨.inr rfl,Ent.b ?_⟩;unfold eN;show(decide ((r:Int)<32)||decide ((r:Int)>126))=_;rw[zAi];simp;omega
def kY (rs:List Nat):Int:=if rs.any eN then ((rs.findIdx eN:Nat):Int) else -1
theorem BK (rs:List Nat) (hl:rs.length≤9223372036854775807):PCall Tryz.prog 323 [.sl 1 (rs.map r4) .no,.fn (.func 295) [] []] (.int (kY rs)):=by
 refine PCall.body Tryz.func323 rfl rfl Tryz.ntmps323 rfl rfl ?_
 repeat' (first|refine qT ?_|apply sqW|refine rgK fun U V=>?_|(refine aN V ?_;clear V U)|refine blK ?_)
 refine lpW (ι:=Nat) (fun k=>[(0,.sl 1 (rs.map r4) .no),(1,.fn (.func 295) [] []),(7,.int rs.length),(8,.int k)]) (fun _=>[]) (fun k=>k≤rs.length∧∀(j:Nat) (h:j<rs.length),j<k→eN rs[j]=false) (fun k=>rs.length - k) 0 ⟨nZl _,fun j _ h=>absurd h oM⟩ ⟨rfl,rfl,rfl,rfl,tI⟩ rfl ?_;rintro k ⟨hk,au⟩;have hv:=badF (rs.getD k default);by_cases hlt:k<rs.length
 · repeat' (first|refine qP ?_ (h:=fun hg=>by first|exact aa|exact pc hv|exact af)|apply sqW|refine rgK fun U V=>?_|(refine aN V ?_;clear V U)|refine cX ?_ ?_<;>intro hc<;>try simp only[dE] at hc|refine blK ?_|refine exW ?_|refine skW ?_|refine rtW ?_)
   · refine⟨.inr rfl,Ent.int ?_⟩;have hc':eN rs[k]=true:=by rw[←bb hlt];exact hc
     have h1:rs.findIdx eN=k:=(List.findIdx_eq hlt).2 ⟨hc',fun j hj=>au j oM hj⟩;unfold kY;rw[if_pos (zCw.2 ⟨rs[k],lGm hlt,hc'⟩),h1]
   · have hc':eN rs[k]=false:=by rw[←bb hlt];exact hc
     refine⟨k+1,⟨oM,fun j h hj=>?_⟩,oM,⟨rfl,rfl,rfl,rfl,tI⟩,rfl⟩;rcases Nat.lt_succ_iff_lt_or_eq.1 hj with h1|h1
     · exact au j h h1
     · subst h1;exact hc'
   · exfalso;omega
 · repeat' (first|refine qT ?_|apply sqW|refine rgK fun U V=>?_|(refine aN V ?_;clear V U)|refine cX ?_ ?_<;>intro hc<;>try simp only[dE] at hc|refine blK ?_|refine exW ?_|refine skW ?_|refine rtW ?_)
   all_goals (first|(exfalso;omega)|skip)
   refine⟨.inr rfl,Ent.int ?_⟩;unfold kY;rw[if_neg];intro h;obtain⟨x,hx,hb⟩:=zCw.1 h;obtain⟨j,hj,rfl⟩:=zAu.1 hx;rw[au j hj oM] at hb;cases hb
theorem ph (rs:List Nat) (hl:rs.length≤9223372036854775807):PCall Tryz.prog 298 [.sl 1 (rs.map r4) .no,.fn (.func 295) [] []] (.b (rs.any eN)):=by
 have hv:=BK rs hl;refine PCall.body Tryz.func298 rfl rfl Tryz.ntmps298 rfl rfl ?_
 repeat' (first|refine qP ?_ (h:=fun hg=>by first|exact aa|exact pc hv|exact af)|apply sqW|refine rgK fun U V=>?_|(refine aN V ?_;clear V U)|refine rtW ?_)
 refine⟨.inr rfl,Ent.b ?_⟩;unfold kY;cases rs.any eN with
 |true=>rw[if_pos rfl];simp
 |false=>rfl
end Go.Proofs.YthiaimakjmhegaaGreatDoor.Mk
namespace Go.Ab
section
variable {P:Program} {n:Nat} {ops:Array Oper} {o:Oper} {env:Env} {σ:ae} {k:Env→ae→Prop}
theorem EStep.insert {κ α:Type} [DecidableEq κ] {ek:κ→Value} {ev:α→AV} {t kt et:TypeId} {m x y:Operand} {l:Nat} {al:List (κ×α)} {key:κ} {v:α} {uk:AV} {s1 b1:Nat} {z:List Z}
 (K:KeyLaw P kt ek) (hl:LOk P t ⟨.map kt et,s1,b1,z⟩) (ho:o.op=.insert t m x y) (hg:o.guard=none) (hdn:eu n o=true) (hm:Rd env m (.map l)) (hσ:σ[l]? = some (.map (aT ek ev al)))
 (hx:Rd env x uk) (hex:gH uk=some (ek key)) (hy:Rd env y (ev v)) (hk:k (env.br o.dst .any) (σ.set l (.map (aT ek ev (ins al key v))))):EStep P n ops o k env σ:=by
 have h:=EStep.fu (ops:=ops) (o:={ o with op:=.mapUpdate t m x y }) (k:=k) K hl rfl hg hdn hm hσ hx hex hy hk;intro G a w hr;have h1:=h G a w hr;have e1:Region.wanted { o with op:=.mapUpdate t m x y } (yielded ops a.tmps)=Region.wanted o (yielded ops a.tmps):=rfl;have e2:execOp a.eval { o with op:=.mapUpdate t m x y }=execOp a.eval o:=by simp only[execOp,ho]
 rw[e1] at h1;have e3:Region.wanted o (yielded ops a.tmps)=true:=by simp[Region.wanted,hg]
 rw[if_pos e3] at h1 ⊢;unfold OWP at h1 ⊢;rw[e2] at h1;exact h1
end
end Go.Ab
namespace Go.Ab
theorem PRun.eq9 {P:Program} {o:Oper} {env:Env} {σ:ae} {v v':AV} (h:PRun P o env σ v) (e:v=v'):PRun P o env σ v':=e▸h
theorem PRun.ke {P:Program} {o:Oper} {env:Env} {σ:ae} {κ α:Type} [DecidableEq κ] {ek:κ→Value} {ev:α→AV} {t kt et:TypeId} {m x:Operand} {al:List (κ×α)} {key:κ} {zv:α} {uk um:AV} {ok:Bool} {s1 b1:Nat} {z:List Z} {le:LI} {r:Option α} (h:lk al key=r)
 (K:KeyLaw P kt ek) (hl:LOk P t ⟨.map kt et,s1,b1,z⟩) (he:LOk P et le) (hz:lO le=ev zv) (ho:o.op=.lookup t m x ok) (hm:Rd env m um)
 (hum:um=.imap (aT ek ev al)∨∃l,um=.map l∧σ[l]? = some (.map (aT ek ev al)))
 (hx:Rd env x uk) (hex:gH uk=some (ek key)):PRun P o env σ (if ok then .tup [ev (r.getD zv),.b r.isSome] else ev (r.getD zv)):=h▸PRun.lookup K hl he hz ho hm hum hx hex
end Go.Ab
namespace Go.Proofs.YthiaimakjmhegaaGreatDoor.Mk
open Go.Ab Go.Jo
attribute [local irreducible] AWP AOps EStep AQ PStep PRun PCall TCall VCall
abbrev ekI (n:Int):Value:=.int .i64 n
def lX:Nat→AV
 |0=>.agg [.prim .nilFunc,.prim .nilFunc]
 |1=>.agg [.fn (.func 315) [] [],.fn (.func 316) [] []]
 |2=>.agg [.fn (.func 317) [] [],.fn (.func 318) [] []]
 |3=>.agg [.fn (.func 319) [] [],.fn (.func 320) [] []]
 |_=>.agg [.fn (.func 321) [] [],.fn (.func 322) [] []]
theorem D0 (r:Rdr):PCall Tryz.prog 317 [.agg (qD r)] (.b (iq 2 r)):=by
 have v:=vv ⟨r.part,r.jm,1⟩;refine PCall.body Tryz.func317 rfl rfl Tryz.ntmps317 rfl rfl ?_
 repeat' (first|refine qP ?_ (h:=fun hg=>by first|exact aa|exact pc v|exact pbD ab rfl rfl nds|exact af|fail)|apply sqW|refine rgK fun U V=>?_|(refine aN V ?_;clear V U)|refine aB ?_|refine rtW ?_)
 refine⟨.inr rfl,Ent.b ?_⟩;simp[iq,jP,inR];cases r.jn==0<;>simp
theorem D2 (r:Rdr):PCall Tryz.prog 319 [.agg (qD r)] (.b (iq 3 r)):=by
 refine PCall.body Tryz.func319 rfl rfl Tryz.ntmps319 rfl rfl ?_
 repeat' (first|refine qP ?_ (h:=fun hg=>by first|exact aa|exact pc (ir _ _ _)|exact af|fail)|apply sqW|refine rgK fun U V=>?_|(refine aN V ?_;clear V U)|refine aB ?_|refine rtW ?_)
 refine⟨.inr rfl,Ent.b ?_⟩;simp[iq];cases inR r.part 0 99<;>simp
theorem D3 (r:Rdr):PCall Tryz.prog 321 [.agg (qD r)] (.b (iq 4 r)):=by
 refine PCall.body Tryz.func321 rfl rfl Tryz.ntmps321 rfl rfl ?_
 repeat' (first|refine qP ?_ (h:=fun hg=>by first|exact aa|exact pbD ab rfl rfl nds|exact PRun.eqN flR rfl rfl nd rfl nd rfl|exact af|fail)|apply sqW|refine rgK fun U V=>?_|(refine aN V ?_;clear V U)|refine aB ?_|refine rtW ?_)
 refine⟨.inr rfl,Ent.b ?_⟩;simp[iq,zDw]
theorem iv {M:Mem} {B:List GB} {f:Fn} {x:Value} (h:ag M B (.fn f [] []) x):ag M [] (.fn f [] []) x:=by
 cases h with
 |fn _ _ _ vf vc hvf hvc q1 q2=>exact .fn _ _ _ vf vc hvf hvc (fun i c h=>by simp at h) (fun i c h=>by simp at h)
theorem IP:nW lX:=fun a M B x h=>by
 have two:∀(u v:AV),(∀M B x,ag M B u x→ag M [] u x)→(∀M B x,ag M B v x→ag M [] v x)→ag M B (.agg [u,v]) x→ag M [] (.agg [u,v]) x:=fun u v hu hv h=>by
  cases h with
  | agg _ c hl hr =>
    refine .agg _ c hl fun i w hi=>?_
    match i,hi with
    |0,hi=>have:=hr 0 w hi;simp at hi;subst hi;exact hu _ _ _ this
    |1,hi=>have:=hr 1 w hi;simp at hi;subst hi;exact hv _ _ _ this
    |i+2,hi=>simp at hi
 have hp:∀v M B x,ag M B (.prim v) x→ag M [] (.prim v) x:=fun v M B x h=>by rw[ag.aJ h];exact .prim _
 match a,h with
 |0,h=>exact two _ _ (hp _) (hp _) h
 |1,h=>exact two _ _ (fun _ _ _=>iv) (fun _ _ _=>iv) h
 |2,h=>exact two _ _ (fun _ _ _=>iv) (fun _ _ _=>iv) h
 |3,h=>exact two _ _ (fun _ _ _=>iv) (fun _ _ _=>iv) h
 |(_+4),h=>exact two _ _ (fun _ _ _=>iv) (fun _ _ _=>iv) h
theorem rf:PCall Tryz.prog 294 [] (.imap (Go.Ab.aT ekI lX [(1,1),(2,2),(3,3),(4,4)])):=by
 refine PCall.body Tryz.func294 rfl rfl Tryz.ntmps294 rfl rfl ?_
 repeat' (first|refine qP ?_ (h:=fun hg=>by first|exact aa|exact pbD ab rfl rfl nds|exact af|fail)|apply sqW|refine rgK fun U V=>?_|(refine aN V ?_;clear V U)|refine aoE (EStep.dn rfl rfl rfl rfl ?_)|refine aoE (EStep.insert (ek:=ekI) (ev:=lX) (al:=[]) (v:=1) (aL (lkG rfl)) (lkG rfl) rfl rfl rfl (Rd.w rfl tI) rfl (Rd.w rfl tI) rfl (Rd.w rfl tI) ?_)|refine aoE (EStep.insert (ek:=ekI) (ev:=lX) (v:=2) (aL (lkG rfl)) (lkG rfl) rfl rfl rfl (Rd.w rfl tI) rfl (Rd.w rfl tI) rfl (Rd.w rfl tI) ?_)|refine aoE (EStep.insert (ek:=ekI) (ev:=lX) (v:=3) (aL (lkG rfl)) (lkG rfl) rfl rfl rfl (Rd.w rfl tI) rfl (Rd.w rfl tI) rfl (Rd.w rfl tI) ?_)|refine aoE (EStep.insert (ek:=ekI) (ev:=lX) (v:=4) (aL (lkG rfl)) (lkG rfl) rfl rfl rfl (Rd.w rfl tI) rfl (Rd.w rfl tI) rfl (Rd.w rfl tI) ?_))
 refine AWP.mj (ek:=ekI) (ev:=lX) (al:=[(1,1),(2,2),(3,3),(4,4)]) (l:=0) rfl IP ?_;refine rtW ⟨.inr rfl,?_⟩;exact fun _ _ h=>h
theorem Lx (v:Int):inR v 0 2=(inR v 0 1000&&decide (v≤2)):=by
 unfold inR;rw[zAi];simp;omega
theorem D4 (t:Bs):decide (((t.length:Nat):Int)≤200)=decide (t.length≤200):=by
 rw[zAi];simp;omega
theorem qE (m:Jo.Mark) (j:Nat) (fA fB:FuncId) (hL:lX j=.agg [.fn (.func fA) [] [],.fn (.func fB) [] []]) (hlk:lk [((1:Int),(1:Nat)),(2,2),(3,3),(4,4)] m.cE=some j) (hf:PCall Tryz.prog fA [.agg (qD m.who)] (.b (iq m.cE m.who))) (ht:m.text.length≤9223372036854775807):PCall Tryz.prog 276 [.agg (fG m)] (.b (fF m)):=by
 refine PCall.body Tryz.func276 rfl rfl Tryz.ntmps276 rfl rfl ?_
 repeat' (first|refine qS ?_|apply sqW|refine rgK fun U V=>?_|(refine aN V ?_;clear V U)|refine aB ?_)
 refine AWP.dZ (fun k=>match k with|0=>[.var (fG m)]|1=>[.var (fG m),.var [.prim .nilFunc,.prim .nilFunc]]|_=>[.var (fG m),.var [.fn (.func fA) [] [],.fn (.func fB) [] []]]) rfl (by kernel_rfl) dKn rfl dKn (fun U V=>?_)
 repeat' (first
  |refine yt (h:=by refine⟨?_,?_,?_,?_⟩<;>intro hh hg<;>first|exact absurd hh dKn|exact PRun.eq9 (v:=.tup [lX j,.b true]) (PRun.ke (ok:=true) (ek:=ekI) (ev:=lX) (zv:=0) hlk (aL (lkG rfl)) (lkG rfl) (lkG rfl) rfl rfl (Rd.w rfl nd) (Or.inl rfl) (Rd.w rfl nd) rfl) (congrArg (fun x=>AV.tup [x,.b true]) hL)|exact aa|exact pc rf|exact af|fail) (hk:=?_)|fail)
 refine YQ.e (v:=.ptr 1 0) (d:=some 3) rfl rfl rfl ?_ ?_
 · intro aw he;exact alW ab rfl rfl rfl rfl rfl rfl ⟨rfl,rfl⟩
 repeat' (first
  |refine yt (hk:=?_)|fail)
 refine YQ.e (v:=.any) (d:=none) rfl rfl rfl ?_ ?_
 · intro aw he;exact stW ab rfl rfl ((ai (he 3 dKn)).trans rfl) (by rw[aj (he 3 dKn)];exact tI) rfl ((ai (he 12 dKn)).trans rfl) (by rw[aj (he 12 dKn)];exact tI) rfl rfl rfl rfl rfl rfl rfl ⟨rfl,rfl⟩
 repeat' (first
  |refine yt (hk:=?_)|fail)
 refine YQ.nil (V _ _ ?_);clear V U;refine AWP.cY [(1,.ptr 0 0),(3,.ptr 1 0),(4,.b true)] ⟨rfl,rfl,rfl,tI⟩ ?_;show AWP _ _ _ _ _ [.var (fG m),.var [.fn (.func fA) [] [],.fn (.func fB) [] []]];clear hlk;have hsz:(⟨m.text.toArray⟩:ByteArray).size=m.text.length:=by simp[ByteArray.size]
 have hw:=ph (df ⟨m.text.toArray⟩) (by have:=ly ⟨m.text.toArray⟩ (⟨m.text.toArray⟩:ByteArray).size 0;rw[hsz] at this;unfold df;rw[hsz];omega)
 repeat' (first|refine qP ?_ (h:=fun hg=>by first|exact aa|exact pc hf|exact pc (r9 _)|exact pc (ir _ _ _)|exact PRun.F6 ab rfl rfl nd rfl rfl rfl (by rw[hsz];first|(have h9:((_&&decide ((((⟨m.text.toArray⟩:ByteArray).size:Nat):Int)≤200))==true)=true:=hg;rw[hsz] at h9;simp at h9;omega)|(have h9:(_&&decide ((((⟨m.text.toArray⟩:ByteArray).size:Nat):Int)≤200))=true:=hg;rw[hsz] at h9;simp at h9;omega))|exact pc hw|exact af|fail)|apply sqW|refine rgK fun U V=>?_|(refine aN V ?_;clear V U)|refine cX ?_ ?_<;>intro hc<;>try simp only[dE] at hc|refine skW ?_|refine rtW ?_)
 · refine⟨.inr rfl,Ent.b ?_⟩;unfold fF;clear hf hw
   (revert hc;generalize (pY m.text)=z0;generalize (iq m.cE m.who)=z1;generalize (cz m.id)=z2;generalize (cz m.version)=z3;generalize (cz m.note)=z4;generalize (inR m.kind 1 5)=z5;generalize (inR m.value 0 1000)=z6;generalize (m.kind != 1||decide (m.value≤2))=z7;revert z0 z1 z2 z3 z4 z5 z6 z7;decide)
 · have hk:m.kind=1:=eq_of_beq hc;rename_i hg;refine⟨.inr rfl,Ent.b ?_⟩;unfold fF;rw[p6];refine Eq.trans (b:=((inR m.value 0 2&&decide ((((⟨m.text.toArray⟩:ByteArray).size:Nat):Int)≤200))&&!(df ⟨m.text.toArray⟩).any eN)) rfl ?_;rw[hsz,Lx,D4,hk];rw[hk] at hg;clear hf hw hc;show _=((decide (m.text.length≤200)&&!(df ⟨m.text.toArray⟩).any eN)&&iq m.cE m.who&&cz m.id&&cz m.version&&cz m.note&&inR 1 1 5&&inR m.value 0 1000&&(false||decide (m.value≤2)))
   (revert hg;generalize ((df ⟨m.text.toArray⟩).any eN)=z0;generalize (decide (m.text.length≤200))=z1;generalize (iq m.cE m.who)=z2;generalize (cz m.id)=z3;generalize (cz m.version)=z4;generalize (cz m.note)=z5;generalize (inR 1 1 5)=z6;generalize (inR m.value 0 1000)=z7;generalize (decide (m.value≤2))=z8;revert z0 z1 z2 z3 z4 z5 z6 z7 z8;decide)
 · rename_i hg;refine⟨.inr rfl,Ent.b ?_⟩;unfold fF;rw[p6];refine Eq.trans (b:=((inR m.value 0 1000&&decide ((((⟨m.text.toArray⟩:ByteArray).size:Nat):Int)≤200))&&!(df ⟨m.text.toArray⟩).any eN)) rfl ?_;have hk:(m.kind != 1)=true:=by unfold bne;rw[hc];rfl
   rw[hsz,D4,hk];clear hf hw hc;show _=((decide (m.text.length≤200)&&!(df ⟨m.text.toArray⟩).any eN)&&iq m.cE m.who&&cz m.id&&cz m.version&&cz m.note&&inR m.kind 1 5&&inR m.value 0 1000&&(true||decide (m.value≤2)))
   (revert hg;generalize ((df ⟨m.text.toArray⟩).any eN)=z0;generalize (decide (m.text.length≤200))=z1;generalize (iq m.cE m.who)=z2;generalize (cz m.id)=z3;generalize (cz m.version)=z4;generalize (cz m.note)=z5;generalize (inR m.kind 1 5)=z6;generalize (inR m.value 0 1000)=z7;generalize (decide (m.value≤2))=z8;revert z0 z1 z2 z3 z4 z5 z6 z7 z8;decide)
theorem IQ (m:Jo.Mark) (h:m.cE=1) (ht:m.text.length≤9223372036854775807):PCall Tryz.prog 276 [.agg (fG m)] (.b (fF m)) :=
 qE m 1 315 316 rfl (by rw[h];rfl) (by rw[show iq m.cE m.who=jP m.who from by unfold iq;rw[if_pos h]];exact vv m.who) ht
theorem IU (m:Jo.Mark) (h:m.cE=2) (ht:m.text.length≤9223372036854775807):PCall Tryz.prog 276 [.agg (fG m)] (.b (fF m)) :=
 qE m 2 317 318 rfl (by rw[h];rfl) (by rw[h];exact D0 m.who) ht
theorem IV (m:Jo.Mark) (h:m.cE=3) (ht:m.text.length≤9223372036854775807):PCall Tryz.prog 276 [.agg (fG m)] (.b (fF m)) :=
 qE m 3 319 320 rfl (by rw[h];rfl) (by rw[h];exact D2 m.who) ht
theorem IW (m:Jo.Mark) (h:m.cE=4) (ht:m.text.length≤9223372036854775807):PCall Tryz.prog 276 [.agg (fG m)] (.b (fF m)) :=
 qE m 4 321 322 rfl (by rw[h];rfl) (by rw[h];exact D3 m.who) ht
theorem IX (m:Jo.Mark) (h:m.cE≠1∧m.cE≠2∧m.cE≠3∧m.cE≠4) (ht:m.text.length≤9223372036854775807):PCall Tryz.prog 276 [.agg (fG m)] (.b (fF m)):=by
 have hlk:lk [((1:Int),(1:Nat)),(2,2),(3,3),(4,4)] m.cE=none:=by simp only[lk];rw[if_neg (Ne.symm h.1),if_neg (Ne.symm h.2.1),if_neg (Ne.symm h.2.2.1),if_neg (Ne.symm h.2.2.2)]
 have hby:iq m.cE m.who=false:=by unfold iq;rw[if_neg h.1,if_neg h.2.1,if_neg h.2.2.1,if_neg h.2.2.2]
 refine PCall.body Tryz.func276 rfl rfl Tryz.ntmps276 rfl rfl ?_
 repeat' (first|refine qS ?_|apply sqW|refine rgK fun U V=>?_|(refine aN V ?_;clear V U)|refine aB ?_)
 refine AWP.dZ (fun k=>match k with|0=>[.var (fG m)]|1=>[.var (fG m),.var [.prim .nilFunc,.prim .nilFunc]]|_=>[.var (fG m),.var [.prim .nilFunc,.prim .nilFunc]]) rfl (by kernel_rfl) dKn rfl dKn (fun U V=>?_)
 repeat' (first
  |refine yt (h:=by refine⟨?_,?_,?_,?_⟩<;>intro hh hg<;>first|exact absurd hh dKn|exact aa|exact pc rf|exact PRun.ke (ek:=ekI) (ev:=lX) (zv:=0) hlk (aL (lkG rfl)) (lkG rfl) (lkG rfl) rfl rfl (Rd.w rfl nd) (Or.inl rfl) (Rd.w rfl nd) rfl|exact af|fail) (hk:=?_)|fail)
 refine YQ.e (v:=.ptr 1 0) (d:=some 3) rfl rfl rfl ?_ ?_
 · intro aw he;exact alW ab rfl rfl rfl rfl rfl rfl ⟨rfl,rfl⟩
 repeat' (first
  |refine yt (hk:=?_)|fail)
 refine YQ.e (v:=.any) (d:=none) rfl rfl rfl ?_ ?_
 · intro aw he;exact stW ab rfl rfl ((ai (he 3 dKn)).trans rfl) (by rw[aj (he 3 dKn)];exact tI) rfl ((ai (he 12 dKn)).trans rfl) (by rw[aj (he 12 dKn)];exact tI) rfl rfl rfl rfl rfl rfl rfl ⟨rfl,rfl⟩
 repeat' (first
  |refine yt (hk:=?_)|fail)
 refine YQ.nil (V _ _ ?_);clear V U;refine AWP.cY [(1,.ptr 0 0),(3,.ptr 1 0),(4,.b false)] ⟨rfl,rfl,rfl,tI⟩ ?_;show AWP _ _ _ _ _ [.var (fG m),.var [.prim .nilFunc,.prim .nilFunc]];clear hlk;have hsz:(⟨m.text.toArray⟩:ByteArray).size=m.text.length:=by simp[ByteArray.size]
 have hw:=ph (df ⟨m.text.toArray⟩) (by have:=ly ⟨m.text.toArray⟩ (⟨m.text.toArray⟩:ByteArray).size 0;rw[hsz] at this;unfold df;rw[hsz];omega)
 repeat' (first|refine qP ?_ (h:=fun hg=>by first|exact aa|exact pc (r9 _)|exact pc (ir _ _ _)|exact(absurd hg (by intro hg;cases hg):PRun _ _ _ _ (.b false))|exact af|fail)|apply sqW|refine rgK fun U V=>?_|(refine aN V ?_;clear V U)|refine cX ?_ ?_<;>intro hc<;>try simp only[dE] at hc|refine skW ?_|refine rtW ?_)
 · refine⟨.inr rfl,Ent.b ?_⟩;unfold fF;rw[hby];simp
 all_goals (exfalso;rename_i hg;simp at hg;done)
theorem iR (m:Jo.Mark) (ht:m.text.length≤9223372036854775807):PCall Tryz.prog 276 [.agg (fG m)] (.b (fF m)):=by
 by_cases h1:m.cE=1
 · exact IQ m h1 ht
 by_cases h2:m.cE=2
 · exact IU m h2 ht
 by_cases h3:m.cE=3
 · exact IV m h3 ht
 by_cases h4:m.cE=4
 · exact IW m h4 ht
 exact IX m ⟨h1,h2,h3,h4⟩ ht
end Go.Proofs.YthiaimakjmhegaaGreatDoor.Mk
namespace Go.Proofs.YthiaimakjmhegaaGreatDoor.Top
open Go.Ab Go.Jo Mk
attribute [local irreducible] AWP AOps EStep AQ PStep PRun PCall TCall VCall
structure eo where
 time:Int
 kind:Int
 dq:Int
 bR:Int
 au:Int
instance:Inhabited eo:=⟨⟨0,0,0,0,0⟩⟩
def bS (x:eo):List AV:=[.int x.time,.int x.kind,.int x.dq,.int x.bR,.int x.au]
theorem lY (a b c:Int):PCall Tryz.prog 275 [.int a,.int b,.int c] (.b (inR a b c)):=by
 refine PCall.body Tryz.func275 rfl rfl Tryz.ntmps275 rfl rfl ?_
 repeat' (first|refine qS ?_|apply sqW|refine rgK fun U V=>?_|(refine aN V ?_;clear V U)|refine rtW ?_)
 exact⟨.inr rfl,Ent.b rfl⟩
theorem td (a:Int):PCall Tryz.prog 221 [.int a] (.b (inR a 0 1000000000)):=by
 refine PCall.body Tryz.func221 rfl rfl Tryz.ntmps221 rfl rfl ?_
 repeat' (first|refine qP ?_ (h:=fun hg=>by first|exact aa|exact pc (lY _ _ _)|fail)|apply sqW|refine rgK fun U V=>?_|(refine aN V ?_;clear V U)|refine rtW ?_)
 exact⟨.inr rfl,Ent.b rfl⟩
theorem sa (a:Int):PCall Tryz.prog 222 [.int a] (.b (inR a 1 1000000)):=by
 refine PCall.body Tryz.func222 rfl rfl Tryz.ntmps222 rfl rfl ?_
 repeat' (first|refine qP ?_ (h:=fun hg=>by first|exact aa|exact pc (lY _ _ _)|fail)|apply sqW|refine rgK fun U V=>?_|(refine aN V ?_;clear V U)|refine rtW ?_)
 exact⟨.inr rfl,Ent.b rfl⟩
def kH (x:eo):Bool:=if x.kind=1 then inR x.bR 1 1000000&&x.au==0 else if x.kind=2 then x.bR==0&&x.au==0 else if x.kind=3 then x.bR==0&&inR x.au 0 99 else false
def sb (x:eo):Bool:=inR x.time 0 1000000000&&inR x.dq 1 1000000&&kH x
def jo:Nat→AV
 |0=>.agg [.prim .nilFunc,.b false]
 |1=>.agg [.fn (.func 272) [] [],.b false]
 |2=>.agg [.fn (.func 273) [] [],.b true]
 |_=>.agg [.fn (.func 274) [] [],.b false]
abbrev se:List (Int×Nat):=[(1,1),(2,2),(3,3)]
theorem F8 (x:eo) (h:x.kind=1):PCall Tryz.prog 272 [.agg (bS x)] (.b (kH x)):=by
 unfold kH;rw[if_pos h];refine PCall.body Tryz.func272 rfl rfl Tryz.ntmps272 rfl rfl ?_
 repeat' (first|refine qP ?_ (h:=fun hg=>by first|exact aa|exact pc (sa _)|fail)|apply sqW|refine rgK fun U V=>?_|(refine aN V ?_;clear V U)|refine aB ?_|refine rtW ?_)
 exact⟨.inr rfl,Ent.b rfl⟩
theorem F9 (x:eo) (h:x.kind=2):PCall Tryz.prog 273 [.agg (bS x)] (.b (kH x)):=by
 unfold kH;rw[if_neg oM,if_pos h];refine PCall.body Tryz.func273 rfl rfl Tryz.ntmps273 rfl rfl ?_
 repeat' (first|refine qS ?_|apply sqW|refine rgK fun U V=>?_|(refine aN V ?_;clear V U)|refine aB ?_|refine rtW ?_)
 exact⟨.inr rfl,Ent.b rfl⟩
theorem Ga (x:eo) (h:x.kind=3):PCall Tryz.prog 274 [.agg (bS x)] (.b (kH x)):=by
 unfold kH;rw[if_neg oM,if_neg oM,if_pos h];refine PCall.body Tryz.func274 rfl rfl Tryz.ntmps274 rfl rfl ?_
 repeat' (first|refine qP ?_ (h:=fun hg=>by first|exact aa|exact pc (lY _ _ _)|fail)|apply sqW|refine rgK fun U V=>?_|(refine aN V ?_;clear V U)|refine aB ?_|refine rtW ?_)
 exact⟨.inr rfl,Ent.b rfl⟩
theorem IY:nW jo:=fun a M B x h=>by
 have two:∀(u v:AV),(∀M B x,ag M B u x→ag M [] u x)→(∀M B x,ag M B v x→ag M [] v x)→ag M B (.agg [u,v]) x→ag M [] (.agg [u,v]) x:=fun u v hu hv h=>by
  cases h with
  | agg _ c hl hr =>
    refine .agg _ c hl fun i w hi=>?_
    match i,hi with
    |0,hi=>have:=hr 0 w hi;simp at hi;subst hi;exact hu _ _ _ this
    |1,hi=>have:=hr 1 w hi;simp at hi;subst hi;exact hv _ _ _ this
    |i+2,hi=>simp at hi
 have hp:∀v M B x,ag M B (.prim v) x→ag M [] (.prim v) x:=fun v M B x h=>by rw[ag.aJ h];exact .prim _
 match a,h with
 |0,h=>exact two _ _ (hp _) (hp _) h
 |1,h=>exact two _ _ (fun _ _ _=>iv) (hp _) h
 |2,h=>exact two _ _ (fun _ _ _=>iv) (hp _) h
 |(_+3),h=>exact two _ _ (fun _ _ _=>iv) (hp _) h
theorem mU:PCall Tryz.prog 220 [] (.imap (Go.Ab.aT ekI jo se)):=by
 refine PCall.body Tryz.func220 rfl rfl Tryz.ntmps220 rfl rfl ?_
 repeat' (first|refine qP ?_ (h:=fun hg=>by first|exact aa|exact pbD ab rfl rfl nds|fail)|apply sqW|refine rgK fun U V=>?_|(refine aN V ?_;clear V U)|refine aoE (EStep.dn rfl rfl rfl rfl ?_)|refine aoE (EStep.insert (ek:=ekI) (ev:=jo) (al:=[]) (v:=1) (aL (lkG rfl)) (lkG rfl) rfl rfl rfl (Rd.w rfl tI) rfl (Rd.w rfl tI) rfl (Rd.w rfl tI) ?_)|refine aoE (EStep.insert (ek:=ekI) (ev:=jo) (v:=2) (aL (lkG rfl)) (lkG rfl) rfl rfl rfl (Rd.w rfl tI) rfl (Rd.w rfl tI) rfl (Rd.w rfl tI) ?_)|refine aoE (EStep.insert (ek:=ekI) (ev:=jo) (v:=3) (aL (lkG rfl)) (lkG rfl) rfl rfl rfl (Rd.w rfl tI) rfl (Rd.w rfl tI) rfl (Rd.w rfl tI) ?_))
 refine AWP.mj (ek:=ekI) (ev:=jo) (al:=se) (l:=0) rfl IY ?_;refine rtW ⟨.inr rfl,?_⟩;exact fun _ _ h=>h
theorem sf (x:eo) (j:Nat) (f:FuncId) (b:Bool) (hL:jo j=.agg [.fn (.func f) [] [],.b b]) (hlk:lk se x.kind=some j) (hf:PCall Tryz.prog f [.agg (bS x)] (.b (kH x))):PCall Tryz.prog 156 [.agg (bS x)] (.b (sb x)):=by
 refine PCall.body Tryz.func156 rfl rfl Tryz.ntmps156 rfl rfl ?_
 repeat' (first|refine qS ?_|apply sqW|refine rgK fun U V=>?_|(refine aN V ?_;clear V U)|refine aB ?_)
 refine AWP.dZ (fun k=>match k with|0=>[.var (bS x)]|1=>[.var (bS x),.var [.prim .nilFunc,.b false]]|_=>[.var (bS x),.var [.fn (.func f) [] [],.b b]]) rfl (by kernel_rfl) dKn rfl dKn (fun U V=>?_)
 repeat' (first
  |refine yt (h:=by refine⟨?_,?_,?_,?_⟩<;>intro hh hg<;>first|exact absurd hh dKn|exact PRun.eq9 (v:=.tup [jo j,.b true]) (PRun.ke (ok:=true) (ek:=ekI) (ev:=jo) (zv:=0) hlk (aL (lkG rfl)) (lkG rfl) (lkG rfl) rfl rfl (Rd.w rfl nd) (Or.inl rfl) (Rd.w rfl nd) rfl) (congrArg (fun x=>AV.tup [x,.b true]) hL)|exact aa|exact pc mU|exact af|fail) (hk:=?_)|fail)
 refine YQ.e (v:=.ptr 1 0) (d:=some 3) rfl rfl rfl ?_ ?_
 · intro aw he;exact alW ab rfl rfl rfl rfl rfl rfl ⟨rfl,rfl⟩
 repeat' (first
  |refine yt (hk:=?_)|fail)
 refine YQ.e (v:=.any) (d:=none) rfl rfl rfl ?_ ?_
 · intro aw he;exact stW ab rfl rfl ((ai (he 3 dKn)).trans rfl) (by rw[aj (he 3 dKn)];first|exact tI|exact rfl) rfl ((ai (he 10 dKn)).trans rfl) (by rw[aj (he 10 dKn)];first|exact tI|exact rfl) rfl rfl rfl rfl rfl rfl rfl ⟨rfl,rfl⟩
 repeat' (first
  |refine yt (hk:=?_)|fail)
 refine YQ.nil (V _ _ ?_);clear V U;refine AWP.cY [(1,.ptr 0 0),(3,.ptr 1 0),(4,.b true)] ⟨rfl,rfl,rfl,tI⟩ ?_;show AWP _ _ _ _ _ [.var (bS x),.var [.fn (.func f) [] [],.b b]];clear hlk
 repeat' (first|refine qP ?_ (h:=fun hg=>by first|exact aa|exact pc hf|exact pc (td _)|exact pc (sa _)|fail)|apply sqW|refine rgK fun U V=>?_|(refine aN V ?_;clear V U)|refine rtW ?_)
 exact⟨.inr rfl,Ent.b rfl⟩
theorem Gb (x:eo) (hlk:lk se x.kind=none) (hk:kH x=false):PCall Tryz.prog 156 [.agg (bS x)] (.b (sb x)):=by
 refine PCall.body Tryz.func156 rfl rfl Tryz.ntmps156 rfl rfl ?_
 repeat' (first|refine qS ?_|apply sqW|refine rgK fun U V=>?_|(refine aN V ?_;clear V U)|refine aB ?_)
 refine AWP.dZ (fun k=>match k with|0=>[.var (bS x)]|1=>[.var (bS x),.var [.prim .nilFunc,.b false]]|_=>[.var (bS x),.var [.prim .nilFunc,.b false]]) rfl (by kernel_rfl) dKn rfl dKn (fun U V=>?_)
 repeat' (first
  |refine yt (h:=by refine⟨?_,?_,?_,?_⟩<;>intro hh hg<;>first|exact absurd hh dKn|exact PRun.eq9 (v:=.tup [jo 0,.b false]) (PRun.ke (ok:=true) (ek:=ekI) (ev:=jo) (zv:=0) hlk (aL (lkG rfl)) (lkG rfl) (lkG rfl) rfl rfl (Rd.w rfl nd) (Or.inl rfl) (Rd.w rfl nd) rfl) (congrArg (fun x=>AV.tup [x,.b false]) (show jo 0=.agg [.prim .nilFunc,.b false] from rfl))|exact aa|exact pc mU|exact af|fail) (hk:=?_)|fail)
 refine YQ.e (v:=.ptr 1 0) (d:=some 3) rfl rfl rfl ?_ ?_
 · intro aw he;exact alW ab rfl rfl rfl rfl rfl rfl ⟨rfl,rfl⟩
 repeat' (first
  |refine yt (hk:=?_)|fail)
 refine YQ.e (v:=.any) (d:=none) rfl rfl rfl ?_ ?_
 · intro aw he;exact stW ab rfl rfl ((ai (he 3 dKn)).trans rfl) (by rw[aj (he 3 dKn)];first|exact tI|exact rfl) rfl ((ai (he 10 dKn)).trans rfl) (by rw[aj (he 10 dKn)];first|exact tI|exact rfl) rfl rfl rfl rfl rfl rfl rfl ⟨rfl,rfl⟩
 repeat' (first
  |refine yt (hk:=?_)|fail)
 refine YQ.nil (V _ _ ?_);clear V U;refine AWP.cY [(1,.ptr 0 0),(3,.ptr 1 0),(4,.b false)] ⟨rfl,rfl,rfl,tI⟩ ?_;show AWP _ _ _ _ _ [.var (bS x),.var [.prim .nilFunc,.b false]]
 repeat' (first|refine qP ?_ (h:=fun hg=>by first|exact aa|exact pc (td _)|exact pc (sa _)|exact(Bool.noConfusion (show false=true from hg):PRun _ _ _ _ (.b false))|fail)|apply sqW|refine rgK fun U V=>?_|(refine aN V ?_;clear V U)|refine rtW ?_)
 refine⟨.inr rfl,Ent.b ?_⟩;unfold sb;rw[hk];exact(zD5 _).symm
theorem xZ (x:eo):PCall Tryz.prog 156 [.agg (bS x)] (.b (sb x)):=by
 by_cases h1:x.kind=1
 · exact sf x 1 272 false rfl (by rw[h1];rfl) (F8 x h1)
 by_cases h2:x.kind=2
 · exact sf x 2 273 true rfl (by rw[h2];rfl) (F9 x h2)
 by_cases h3:x.kind=3
 · exact sf x 3 274 false rfl (by rw[h3];rfl) (Ga x h3)
 refine Gb x ?_ ?_
 · simp only[lk];rw[if_neg (Ne.symm h1),if_neg (Ne.symm h2),if_neg (Ne.symm h3)]
 · unfold kH;rw[if_neg h1,if_neg h2,if_neg h3]
end Go.Proofs.YthiaimakjmhegaaGreatDoor.Top
namespace Go.Jo
structure Ev where
 clock:Int
 bR:Int
 kind:Int
 n:Int
 mark:Mark
 deriving DecidableEq,Inhabited
def kg (e:Ev):Bool:=inR e.clock 0 1000000000&&cz e.bR &&
 (if e.kind=1 then fF e.mark&&e.n==0 else if e.kind=2 then cz e.n&&e.mark==noMark else if e.kind=3 then inR e.n 0 1000&&e.mark==noMark else false)
end Go.Jo
namespace Go.Sy
open Go.Jo
theorem jq {α:Type} [Inhabited α] {l:List α} {k:Nat} (h:k<l.length):l.getD k default=l[k]:=by simp[List.getD,h]
def before (a b:Ev):Bool:=decide (a.clock<b.clock)||(a.clock==b.clock&&decide (a.bR<b.bR))
theorem te {a b:Ev}:before a b=true↔a.clock<b.clock∨(a.clock=b.clock∧a.bR<b.bR):=by
 unfold before;simp
def HO (a b:Ev):Prop:=a.clock=b.clock∧a.bR=b.bR
theorem before_trans {a b c:Ev} (h1:before a b=true) (h2:before b c=true):before a c=true:=by
 rw[te] at *;omega
abbrev Srt (l:List Ev):Prop:=l.Pairwise fun a b=>before a b=true
theorem AK {a b:List Ev}:Srt (a++b)↔Srt a∧Srt b∧∀x∈a,∀y∈b,before x y=true:=List.pairwise_append
def D5 (l:List Ev):Prop:=∀a∈l,∀b∈l,HO a b→a=b
def fH (l:List Ev):Bool:=(l.all kg&&decide (Srt l))&&decide (l.length≤20000)
theorem oI {l:List Ev}:fH l=true↔(∀e∈l,kg e=true)∧Srt l∧l.length≤20000:=by
 unfold fH;simp only[zA0,dEt,zA4,and_assoc]
instance (l:List Ev):Decidable (D5 l):=by unfold D5 HO;infer_instance
def iV (l:List Ev) (id:Int):Int:=l.foldl (fun n e=>if e.kind=3∧e.bR=id then max n e.n else n) 0
theorem D6 (a b:List Ev) (id:Int):iV (a++b) id=b.foldl (fun n e=>if e.kind=3∧e.bR=id then max n e.n else n) (iV a id):=by
 unfold iV;rw[zCl]
theorem Gc {l:List Ev} (h:Srt l) {z:Ev} (hz:l.getLast? = some z):∀x∈l,x=z∨before x z=true:=fun x hx=>by
 obtain⟨r,rfl⟩:∃r,l=r++[z]:=by
  have hne:l≠[]:=fun e=>by rw[e] at hz;cases hz
  refine⟨l.dropLast,?_⟩;have h1:=List.dropLast_concat_getLast hne;rw[List.getLast?_eq_some_getLast hne] at hz;rw[←Option.some.inj hz];exact h1.symm
 rcases zAx.1 hx with hx|hx
 · exact .inr ((AK.1 h).2.2 x hx z (zA9.2 rfl))
 · exact .inl (zA9.1 hx)
def sg (a b:Ev):Int:=if a.clock<b.clock then -1 else if b.clock<a.clock then 1 else if a.bR<b.bR then -1 else if b.bR<a.bR then 1 else 0
theorem AL {a b:Ev}:sg a b<0↔before a b=true:=by
 rw[te];unfold sg;split
 · omega
 · split
   · omega
   · split
     · omega
     · split<;>omega
theorem Gd {l:List Ev} {i:Nat} (hi:i<l.length):Srt (l.take (i+1))↔Srt (l.take i)∧(0<i→before (l.getD (i - 1) default) (l.getD i default)=true):=by
 have e1:l.take (i+1)=l.take i++[l.getD i default]:=by
  rw[jq hi];exact zBn hi
 rw[e1,AK];constructor
 · rintro⟨h1,_,h3⟩;refine⟨h1,fun h0=>h3 _ ?_ _ (zA9.2 rfl)⟩;rw[jq (show i - 1<l.length by omega)];exact zCd.2 ⟨i - 1,oM,rfl⟩
 · rintro⟨h1,h2⟩;refine⟨h1,by simp[Srt],fun x hx y hy=>?_⟩;rw[zA9.1 hy];by_cases h0:0<i
   · have hl:(l.take i).getLast? = some (l.getD (i - 1) default):=by
      rw[List.getLast?_eq_getElem?,zAn,zDr oM,List.getElem?_take_of_lt oM,jq (show i - 1<l.length by omega)];exact zA1 oM
     rcases Gc h1 hl x hx with e|e
     · rw[e];exact h2 h0
     · exact before_trans e (h2 h0)
   · rw[show i=0 by omega] at hx;cases hx
structure Std where
 id:Int
 who:Rdr
 ed:Int
 known:Int
 evs:List Ev
def iw (s:Std):Bool:=cz s.ed&&jP s.who&&inR s.known 0 1000&&(fH s.evs&&cz s.id)&&decide (iV s.evs s.id≤s.known)
end Go.Sy
