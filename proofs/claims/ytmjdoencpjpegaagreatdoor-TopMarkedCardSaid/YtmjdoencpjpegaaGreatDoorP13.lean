/- Parts of the proof. No statement is proved here. -/
import Derived.Laws.IdiomStrings
import Derived.Test.YtmjdoencpjpegaaGreatDoorP8
set_option linter.unusedVariables false
set_option linter.unusedSimpArgs false
set_option maxHeartbeats 16000000
set_option maxRecDepth 20000
namespace Go.Ab
theorem PRun.eq {P:Program} {o:Oper} {env:Env} {σ:aa} {v v':AV} (h:PRun P o env σ v) (e:v=v'):PRun P o env σ v':=e▸h
theorem PRun.Jj {P:Program} {T:Tab} (hT:T.Ok P) {o:Oper} {env:Env} {σ:aa} {s d:TypeId} {x:Operand} {k k':IntKind} {a r:Int} {lis:LI} {sz by':Nat} {z:List Z} (h:k'.wrap a=r) (ho:o.op=.convert s d x) (hx:rdv env x=some (.prim (.int k a))) (nx:rdn env x) (hs':T.get s=some lis) (hl:T.get d=some ⟨.int k',sz,by',z⟩) :
 PRun P o env σ (.prim (.int k' r)):=h▸PRun.I3 hT ho hx nx hs' hl
theorem PRun.remV {P:Program} {o:Oper} {env:Env} {σ:aa} {t t':TypeId} {x y:Operand} {k:IntKind} {a b r:Int} (h:a.tmod b=r) (hb:b≠0) (ho:o.op=.binOp .rem t x y t') (hx:rdv env x=some (.prim (.int k a))) (nx:rdn env x) (hy:rdv env y=some (.prim (.int k b))) (ny:rdn env y) :
 PRun P o env σ (.prim (.int k r)):=h▸PRun.rem ho (Rd.w hx nx) (Rd.w hy ny) hb
def BQ (T:Tab) (env:Env) (t:TypeId) (parts:List (Nat×Operand)):Option AV:=match T.get t,eW env parts with
 | some ⟨.arr _ e, _, _, zs⟩, some ps => match T.get e with
   | some le => match fI (fun i => some (i * le.size, le.size)) (zs.map Z.av) ps with
     |some r=>(dH r).map .agg
     |none=>none
   |none=>none
 |_,_=>none
theorem PRun.gL {P:Program} {T:Tab} {o:Oper} {env:Env} {σ:aa} (hT:T.Ok P) {t:TypeId} {parts:Array (Nat×Operand)} {r:AV} (ho:o.op=.build t parts) (h:BQ T env t parts.toList=some r) (hn:fc env (parts.toList.map (·.2))):PRun P o env σ r:=by
 unfold BQ at h;split at h
 · rename_i nn e s b zs ps hg hp;split at h
   · rename_i le he;split at h
     · rename_i r' hf;simp only[zA5] at h;obtain⟨r2,h2,rfl⟩:=h;rw[←dU h2];exact PRun.Lx ho (LOk.of (hT.get hg)) (LOk.of (hT.get he)) hp hn hf
     · simp at h
   · simp at h
 · simp at h
end Go.Ab
namespace Go.Jo
abbrev Bs:=List UInt8
def inR (n lo hi:Int):Bool:=decide (lo≤n)&&decide (n≤hi)
theorem Kf {n lo hi:Int}:inR n lo hi=true↔lo≤n∧n≤hi:=by simp[inR]
def cg (n:Int):Bool:=inR n 1 1000000
structure Rdr where
 part:Int
 cY:Int
 iO:Int
 deriving DecidableEq,Inhabited
structure Mark where
 id:Int
 kind:Int
 bn:Int
 who:Rdr
 version:Int
 note:Int
 value:Int
 text:Bs
 deriving DecidableEq,Inhabited
def noMark:Mark:=⟨0,0,0,⟨0,0,0⟩,0,0,0,[]⟩
def cu (r:Rdr):Bool:=cg r.part&&inR r.cY 1 40&&inR r.iO 1 4
def ir (bn:Int) (r:Rdr):Bool :=
 if bn=1 then cu r else if bn=2 then cg r.part&&inR r.cY 1 40&&r.iO==0 else if bn=3 then inR r.part 0 99&&r.cY==0&&r.iO==0 else
 if bn=4 then r.part==0&&r.cY==0&&r.iO==0 else false
def rj (t:Bs):Bool:=decide (t.length≤200)&&t.all fun c=>decide (32≤c.toNat)&&decide (c.toNat≤126)
def bc (m:Mark):Bool:=rj m.text&&ir m.bn m.who&&cg m.id&&cg m.version&&cg m.note&&inR m.kind 1 5&&inR m.value 0 1000&&(m.kind != 1||decide (m.value≤2))
theorem pN {t:Bs}:rj t=true↔t.length≤200∧∀c∈t,32≤c.toNat∧c.toNat≤126:=by
 simp[rj]
end Go.Jo
namespace Go.Ab
abbrev AV.bs (t:List UInt8):AV:=.str ⟨t.toArray⟩
end Go.Ab
namespace Go.Proofs.YtmjdoencpjpegaaGreatDoor.Mk
open Go.Ab Go.Jo
attribute [local irreducible] AWP AOps EStep AQ PStep PRun PCall TCall VCall
def cQ (r:Rdr):List AV:=[.int r.part,.int r.cY,.int r.iO]
def aJ (m:Jo.Mark):List AV:=[.int m.id,.int m.kind,.int m.bn,.int m.who.part,.int m.who.cY,.int m.who.iO,.int m.version,.int m.note,.int m.value,.bs m.text]
theorem iP (a b c:Int):PCall Tryz.prog 110 [.int a,.int b,.int c] (.b (inR a b c)):=by
 refine PCall.body Tryz.func110 rfl rfl Tryz.ntmps110 rfl rfl ?_
 repeat' (first|refine qS ?_|apply sqW|refine rgK fun U V=>?_|(refine aN V ?_;clear V U)|refine rtW ?_)
 exact⟨.inr rfl,Ent.b rfl⟩
theorem tz (a:Int):PCall Tryz.prog 109 [.int a] (.b (cg a)):=by
 refine PCall.body Tryz.func109 rfl rfl Tryz.ntmps109 rfl rfl ?_
 repeat' (first|refine qP ?_ (h:=fun hg=>by first|exact ae|exact pc (iP _ _ _)|exact ah)|apply sqW|refine rgK fun U V=>?_|(refine aN V ?_;clear V U)|refine rtW ?_)
 exact⟨.inr rfl,Ent.b rfl⟩
theorem iQ (r:Rdr):PCall Tryz.prog 63 [.agg (cQ r)] (.b (cu r)):=by
 refine PCall.body Tryz.func63 rfl rfl Tryz.ntmps63 rfl rfl ?_
 repeat' (first|refine qP ?_ (h:=fun hg=>by first|exact ae|exact pc (iP _ _ _)|exact pc (tz _)|exact ah)|apply sqW|refine rgK fun U V=>?_|(refine aN V ?_;clear V U)|refine aB ?_|refine rtW ?_)
 exact⟨.inr rfl,Ent.b rfl⟩
theorem flM:ml Tryz.prog 68=some [.int .i64,.int .i64,.int .i64,.int .i64,.int .i64,.int .i64,.int .i64,.int .i64,.int .i64,.str]:=by kernel_rfl
theorem flR:ml Tryz.prog 25=some [.int .i64,.int .i64,.int .i64]:=by kernel_rfl
theorem EU (t u:Bs):((⟨t.toArray⟩:ByteArray)==⟨u.toArray⟩)=(t==u):=by
 show(t.toArray==u.toArray)=(t==u);rw[zB3];simp
def eqM (m k:Jo.Mark):Bool:=m.id==k.id&&(m.kind==k.kind&&(m.bn==k.bn&&(m.who.part==k.who.part&&(m.who.cY==k.who.cY&&(m.who.iO==k.who.iO&&(m.version==k.version&&(m.note==k.note&&(m.value==k.value&&(((⟨m.text.toArray⟩:ByteArray)==⟨k.text.toArray⟩)&&true)))))))))
theorem EV (m k:Jo.Mark):eqM m k=(m==k):=by
 unfold eqM;rw[EU,zB3];obtain⟨a,b,c,⟨d,e,f⟩,g,h,i,j⟩:=m;obtain⟨a',b',c',⟨d',e',f'⟩,g',h',i',j'⟩:=k;simp;exact fun _ _ _=>⟨fun ⟨h1,h2,h3,h4⟩=>⟨⟨h1,h2,h3⟩,h4⟩,fun ⟨⟨h1,h2,h3⟩,h4⟩=>⟨h1,h2,h3,h4⟩⟩
end Go.Proofs.YtmjdoencpjpegaaGreatDoor.Mk
namespace Go.Ab
def iR (s:ByteArray):Nat→Nat→List Nat
 |0,_=>[]
 |f+1,i=>if i<s.size then (Utf8.decode s i).1::iR s f (i+(Utf8.decode s i).2) else []
theorem rk (s:ByteArray):∀(f i:Nat) (acc:Array Value),Conv.runesFrom s f i acc=acc++((iR s f i).map fun (r:Nat)=>Value.int .i32 (r:Int)).toArray
 |0,i,acc=>by simp[Conv.runesFrom,iR]
 | f + 1, i, acc => by
   unfold Conv.runesFrom iR;split
   · show Conv.runesFrom s f (i+(Utf8.decode s i).2) (acc.push (.int .i32 (Int.ofNat (Utf8.decode s i).1)))=_;rw[rk s f];simp
   · simp
abbrev de (s:ByteArray):List Nat:=iR s s.size 0
theorem mq (s:ByteArray):∀(f i:Nat),(iR s f i).length≤f
 |0,i=>by simp[iR]
 | f + 1, i => by
   unfold iR;split
   · have:=mq s f (i+(Utf8.decode s i).2);simp;omega
   · simp
abbrev r4 (r:Nat):List AV:=[.prim (.int .i32 (r:Int))]
theorem PRun.Hh {P:Program} {T:Tab} {o:Oper} {env:Env} {σ:aa} (hT:T.Ok P) {s d e:TypeId} {x:Operand} {t:ByteArray} {s1 b1 s2 b2 s3 b3:Nat} {z z2 z3:List Z} (ho:o.op=.convert s d x) (hx:rdv env x=some (.str t)) (nx:rdn env x)
 (hs':T.get s=some ⟨.str,s1,b1,z⟩) (hd:T.get d=some ⟨.slice e,s3,b3,z3⟩) (he:T.get e=some ⟨.int .i32,s2,b2,z2⟩) (hsz:t.size≤70368744177664):PRun P o env σ (.sl 1 ((de t).map r4) .no):=by
 intro G A w hs hv;have h1:=af.aP (rd (Rd.w hx nx) (by simp[ho,Op.operands]) hv);have us:P.underlying s=some .string:=LOk.Ep (LOk.of (hT.get hs'));have ud:P.underlying d=some (.slice e):=LOk.dI (LOk.of (hT.get hd));have ue:P.underlying e=some (.int .i32):=by
  obtain⟨dd,k1,k2⟩:=(LOk.of (hT.get he)).und;cases dd<;>simp[ltOf] at k2;subst k2;exact k1
 have hrf:=rk t t.size 0 #[];have hrl:=mq t t.size 0;have hrn:(Conv.runesFrom t t.size 0 #[]).size=(de t).length:=by rw[hrf];simp
 obtain⟨C,hC⟩:∃C,C=(Conv.runesFrom t t.size 0 #[]++Array.replicate (grownCap w (Conv.runesFrom t t.size 0 #[]).size 0 e - (Conv.runesFrom t t.size 0 #[]).size) (Value.int .i32 0)):=⟨_,rfl⟩
 have bg:(execOp A.eval o).run P w=.ok (.value (.slice (some ⟨w.heap.size,0,none⟩) (de t).length (grownCap w (de t).length 0 e))) (w.drew.alloc (.cells C e)):=by
  simp only[execOp,ho,h1];rw[Sem.run_bind,run_runes_of_string w s d e t us ud ue (by rw[hrn];exact zBu hrl hsz),hrn,hC,hrn];rfl
 unfold OWP;rw[bg];have hsz1:(w.drew.alloc (.cells C e)).heap.size=w.heap.size+1:=by
  show(w.heap.push _).size=_;simp
 have hold:∀b,b<w.heap.size→(w.drew.alloc (.cells C e)).heap[b]? = w.heap[b]? := fun b hb=>by
  show(w.heap.push _)[b]? = _;rw[zCz,if_neg oM]
 have yG:(w.drew.alloc (.cells C e)).heap[w.heap.size]? = some (.cells C e):=by
  show(w.heap.push _)[w.heap.size]? = _;simp
 obtain⟨hs2,hle⟩:=hs.BF C hsz1 hold (fun o v hv=>by
  simp only[World.cell?,yG];exact hv) ct.r
 refine⟨_,_,rfl,?_,.upM hle,hs2⟩;have hlen:(de t).length=((de t).map r4).length:=by rw[lLm]
 rw[hlen];have po:((de t).map r4).length≤grownCap w ((de t).map r4).length 0 e:=grownCap_ge w _ 0 e;refine .sl 1 _ .no w.heap.size 0 _ (fun i j=>.int .i32 ((de t).getD i 0:Nat)) (fun e he=>by simp at he;obtain⟨_,_,rfl⟩:=he;rfl) (fun i j hi hj=>?_) (fun i j e c hi hj=>?_) po trivial
 · have hi':i<(de t).length:=by simpa using hi
   have hj0:j=0:=oM;subst hj0;simp only[Mem.bF,if_pos rfl,zC3,zD0,zC7,hC];rw[zAo (by rw[hrn];exact hi'),hrf];simp[List.getD,hi']
 · simp only[zA3,zA5] at hi;obtain⟨c',hc',rfl⟩:=hi
   match j,hj with
   | 0, hj =>
     simp at hj;subst hj;have:(de t).getD i 0=c':=by simp only[List.getD,hc',zCr]
     rw[this];exact .prim _
   |j+1,hj=>simp at hj
end Go.Ab
namespace Go.Proofs.YtmjdoencpjpegaaGreatDoor.Mk
open Go.Ab Go.Jo
attribute [local irreducible] AWP AOps EStep AQ PStep PRun PCall TCall VCall
theorem Kg {s:ByteArray} {i:Nat} (h:(s.get! i).toNat<128):Utf8.decode s i=((s.get! i).toNat,1):=by
 unfold Utf8.decode;simp only[zC7];rw[if_pos h]
theorem Hi {s:ByteArray} {i:Nat} (h:¬(s.get! i).toNat<128):126<(Utf8.decode s i).1:=by
 unfold Utf8.decode;simp only[zC7];rw[if_neg h];simp only[Utf8.runeError];split
 · split
   · simp only[];omega
   · decide
 · split
   · split
     · rename_i h1;simp only[zA0,dEt] at h1;simp only[];omega
     · decide
   · split
     · split
       · rename_i h1;simp only[zA0,dEt] at h1;simp only[];omega
       · decide
     · decide
def fj (r:Nat):Bool:=decide (r<32)||decide (126<r)
def zi (c:UInt8):Bool:=fj c.toNat
theorem get_at {t:Bs} {i:Nat} (h:i<t.length):(⟨t.toArray⟩:ByteArray).get! i=t[i]:=by
 show t.toArray[i]! = _;simp[h]
theorem wR (t:Bs):∀(f i:Nat),i+f=t.length→(iR ⟨t.toArray⟩ f i).any fj=(t.drop i).any zi
 |0,i,h=>by rw[zCx oM];simp[iR]
 | f + 1, i, h => by
   have hi:i<t.length:=oM;have hsz:(⟨t.toArray⟩:ByteArray).size=t.length:=by simp[ByteArray.size]
   unfold iR;rw[if_pos (by rw[hsz];exact hi),zBj hi,List.any_cons,List.any_cons];by_cases hl:(t[i]).toNat<128
   · rw[Kg (by rw[get_at hi];exact hl),get_at hi];simp only[];rw[wR t f (i+1) oM];rfl
   · have h1:=Hi (s:=⟨t.toArray⟩) (i:=i) (by rw[get_at hi];exact hl);have e1:fj (Utf8.decode ⟨t.toArray⟩ i).1=true:=by unfold fj;simp;omega
     have e2:zi t[i]=true:=by unfold zi fj;simp;omega
     rw[e1,e2];rfl
theorem rl (t:Bs):rj t=(decide (t.length≤200)&&!(de ⟨t.toArray⟩).any fj):=by
 have hsz:(⟨t.toArray⟩:ByteArray).size=t.length:=by simp[ByteArray.size]
 rw[de,hsz,wR t t.length 0 oM,zE4,zB3,pN];simp only[zA0,dEt,zB1,zE3];refine and_congr_right fun _=>⟨fun h c hc=>?_,fun h c hc=>?_⟩
 · have:=h c hc;unfold zi fj;simp;omega
 · have:=h c hc;unfold zi fj at this;simp at this;omega
theorem badF (r:Nat):PCall Tryz.prog 108 [.prim (.int .i32 (r:Int))] (.b (fj r)):=by
 refine PCall.body Tryz.func108 rfl rfl Tryz.ntmps108 rfl rfl ?_
 repeat' (first|refine qS ?_|apply sqW|refine rgK fun U V=>?_|(refine aN V ?_;clear V U)|refine rtW ?_)
 refine⟨.inr rfl,Ent.b ?_⟩;unfold fj;show(decide ((r:Int)<32)||decide ((r:Int)>126))=_;rw[zB3];simp;omega
def jl (rs:List Nat):Int:=if rs.any fj then ((rs.findIdx fj:Nat):Int) else -1
theorem CV (rs:List Nat) (hl:rs.length≤9223372036854775807):PCall Tryz.prog 167 [.sl 1 (rs.map r4) .no,.fn (.func 108) [] []] (.int (jl rs)):=by
 refine PCall.body Tryz.func167 rfl rfl Tryz.ntmps167 rfl rfl ?_
 repeat' (first|refine qT ?_|apply sqW|refine rgK fun U V=>?_|(refine aN V ?_;clear V U)|refine blK ?_)
 refine lpW (ι:=Nat) (fun k=>[(0,.sl 1 (rs.map r4) .no),(1,.fn (.func 108) [] []),(7,.int rs.length),(8,.int k)]) (fun _=>[]) (fun k=>k≤rs.length∧∀(j:Nat) (h:j<rs.length),j<k→fj rs[j]=false) (fun k=>rs.length - k) 0 ⟨nZl _,fun j _ h=>absurd h oM⟩ ⟨rfl,rfl,rfl,rfl,tI⟩ rfl ?_;rintro k ⟨hk,aT⟩;have hv:=badF (rs.getD k default);by_cases hlt:k<rs.length
 · repeat' (first|refine qP ?_ (h:=fun hg=>by first|exact ae|exact pc hv|exact ah)|apply sqW|refine rgK fun U V=>?_|(refine aN V ?_;clear V U)|refine cX ?_ ?_<;>intro hc<;>try simp only[dE] at hc|refine blK ?_|refine exW ?_|refine skW ?_|refine rtW ?_)
   · refine⟨.inr rfl,Ent.int ?_⟩;have hc':fj rs[k]=true:=by rw[←aU hlt];exact hc
     have h1:rs.findIdx fj=k:=(List.findIdx_eq hlt).2 ⟨hc',fun j hj=>aT j oM hj⟩;unfold jl;rw[if_pos (zDh.2 ⟨rs[k],lGm hlt,hc'⟩),h1]
   · have hc':fj rs[k]=false:=by rw[←aU hlt];exact hc
     refine⟨k+1,⟨oM,fun j h hj=>?_⟩,oM,⟨rfl,rfl,rfl,rfl,tI⟩,rfl⟩;rcases Nat.lt_succ_iff_lt_or_eq.1 hj with h1|h1
     · exact aT j h h1
     · subst h1;exact hc'
   · exfalso;omega
 · repeat' (first|refine qT ?_|apply sqW|refine rgK fun U V=>?_|(refine aN V ?_;clear V U)|refine cX ?_ ?_<;>intro hc<;>try simp only[dE] at hc|refine blK ?_|refine exW ?_|refine skW ?_|refine rtW ?_)
   all_goals (first|(exfalso;omega)|skip)
   refine⟨.inr rfl,Ent.int ?_⟩;unfold jl;rw[if_neg];intro h;obtain⟨x,hx,hb⟩:=zDh.1 h;obtain⟨j,hj,rfl⟩:=zB9.1 hx;rw[aT j hj oM] at hb;cases hb
theorem qy (rs:List Nat) (hl:rs.length≤9223372036854775807):PCall Tryz.prog 111 [.sl 1 (rs.map r4) .no,.fn (.func 108) [] []] (.b (rs.any fj)):=by
 have hv:=CV rs hl;refine PCall.body Tryz.func111 rfl rfl Tryz.ntmps111 rfl rfl ?_
 repeat' (first|refine qP ?_ (h:=fun hg=>by first|exact ae|exact pc hv|exact ah)|apply sqW|refine rgK fun U V=>?_|(refine aN V ?_;clear V U)|refine rtW ?_)
 refine⟨.inr rfl,Ent.b ?_⟩;unfold jl;cases rs.any fj with
 |true=>rw[if_pos rfl];simp
 |false=>rfl
end Go.Proofs.YtmjdoencpjpegaaGreatDoor.Mk
namespace Go.Ab
section
variable {P:Program} {n:Nat} {ops:Array Oper} {o:Oper} {env:Env} {σ:aa} {k:Env→aa→Prop}
theorem EStep.insert {κ α:Type} [DecidableEq κ] {ek:κ→Value} {ev:α→AV} {t kt et:TypeId} {m x y:Operand} {l:Nat} {al:List (κ×α)} {key:κ} {v:α} {uk:AV} {s1 b1:Nat} {z:List Z}
 (K:KeyLaw P kt ek) (hl:LOk P t ⟨.map kt et,s1,b1,z⟩) (ho:o.op=.insert t m x y) (hg:o.guard=none) (hdn:fa n o=true) (hm:Rd env m (.map l)) (hσ:σ[l]? = some (.map (aD ek ev al)))
 (hx:Rd env x uk) (hex:fx uk=some (ek key)) (hy:Rd env y (ev v)) (hk:k (env.bj o.dst .any) (σ.set l (.map (aD ek ev (ins al key v))))):EStep P n ops o k env σ:=by
 have h:=EStep.dm (ops:=ops) (o:={ o with op:=.mapUpdate t m x y }) (k:=k) K hl rfl hg hdn hm hσ hx hex hy hk;intro G a w hr;have h1:=h G a w hr;have e1:Region.wanted { o with op:=.mapUpdate t m x y } (yielded ops a.tmps)=Region.wanted o (yielded ops a.tmps):=rfl;have e2:execOp a.eval { o with op:=.mapUpdate t m x y }=execOp a.eval o:=by simp only[execOp,ho]
 rw[e1] at h1;have e3:Region.wanted o (yielded ops a.tmps)=true:=by simp[Region.wanted,hg]
 rw[if_pos e3] at h1 ⊢;unfold OWP at h1 ⊢;rw[e2] at h1;exact h1
end
end Go.Ab
namespace Go.Ab
theorem PRun.eq9 {P:Program} {o:Oper} {env:Env} {σ:aa} {v v':AV} (h:PRun P o env σ v) (e:v=v'):PRun P o env σ v':=e▸h
theorem PRun.dv {P:Program} {o:Oper} {env:Env} {σ:aa} {κ α:Type} [DecidableEq κ] {ek:κ→Value} {ev:α→AV} {t kt et:TypeId} {m x:Operand} {al:List (κ×α)} {key:κ} {zv:α} {uk um:AV} {ok:Bool} {s1 b1:Nat} {z:List Z} {le:LI} {r:Option α} (h:lk al key=r)
 (K:KeyLaw P kt ek) (hl:LOk P t ⟨.map kt et,s1,b1,z⟩) (he:LOk P et le) (hz:js le=ev zv) (ho:o.op=.lookup t m x ok) (hm:Rd env m um)
 (hum:um=.imap (aD ek ev al)∨∃l,um=.map l∧σ[l]? = some (.map (aD ek ev al)))
 (hx:Rd env x uk) (hex:fx uk=some (ek key)):PRun P o env σ (if ok then .tup [ev (r.getD zv),.b r.isSome] else ev (r.getD zv)):=h▸PRun.lookup K hl he hz ho hm hum hx hex
end Go.Ab
namespace Go.Proofs.YtmjdoencpjpegaaGreatDoor.Mk
open Go.Ab Go.Jo
attribute [local irreducible] AWP AOps EStep AQ PStep PRun PCall TCall VCall
abbrev ekI (n:Int):Value:=.int .i64 n
def fk:Nat→AV
 |0=>.agg [.prim .nilFunc,.prim .nilFunc]
 |1=>.agg [.fn (.func 63) [] [],.fn (.func 115) [] []]
 |2=>.agg [.fn (.func 116) [] [],.fn (.func 117) [] []]
 |3=>.agg [.fn (.func 118) [] [],.fn (.func 119) [] []]
 |_=>.agg [.fn (.func 120) [] [],.fn (.func 121) [] []]
theorem EW (r:Rdr):PCall Tryz.prog 116 [.agg (cQ r)] (.b (ir 2 r)):=by
 have v:=iQ ⟨r.part,r.cY,1⟩;refine PCall.body Tryz.func116 rfl rfl Tryz.ntmps116 rfl rfl ?_
 repeat' (first|refine qP ?_ (h:=fun hg=>by first|exact ae|exact pc v|exact pbD ab rfl rfl nds|fail)|apply sqW|refine rgK fun U V=>?_|(refine aN V ?_;clear V U)|refine aB ?_|refine rtW ?_)
 refine⟨.inr rfl,Ent.b ?_⟩;simp[ir,cu,inR];cases r.iO==0<;>simp
theorem EX (r:Rdr):PCall Tryz.prog 118 [.agg (cQ r)] (.b (ir 3 r)):=by
 refine PCall.body Tryz.func118 rfl rfl Tryz.ntmps118 rfl rfl ?_
 repeat' (first|refine qP ?_ (h:=fun hg=>by first|exact ae|exact pc (iP _ _ _)|fail)|apply sqW|refine rgK fun U V=>?_|(refine aN V ?_;clear V U)|refine aB ?_|refine rtW ?_)
 refine⟨.inr rfl,Ent.b ?_⟩;simp[ir];cases inR r.part 0 99<;>simp
theorem EY (r:Rdr):PCall Tryz.prog 120 [.agg (cQ r)] (.b (ir 4 r)):=by
 refine PCall.body Tryz.func120 rfl rfl Tryz.ntmps120 rfl rfl ?_
 repeat' (first|refine qP ?_ (h:=fun hg=>by first|exact ae|exact pbD ab rfl rfl nds|exact PRun.eqN flR rfl rfl nd rfl nd rfl|fail)|apply sqW|refine rgK fun U V=>?_|(refine aN V ?_;clear V U)|refine aB ?_|refine rtW ?_)
 refine⟨.inr rfl,Ent.b ?_⟩;simp[ir,Bool.and_assoc]
theorem lU {M:Mem} {B:List GB} {f:Fn} {x:Value} (h:af M B (.fn f [] []) x):af M [] (.fn f [] []) x:=by
 cases h with
 |fn _ _ _ vf vc hvf hvc q1 q2=>exact .fn _ _ _ vf vc hvf hvc (fun i c h=>by simp at h) (fun i c h=>by simp at h)
theorem Kh:r8 fk:=fun a M B x h=>by
 have two:∀(u v:AV),(∀M B x,af M B u x→af M [] u x)→(∀M B x,af M B v x→af M [] v x)→af M B (.agg [u,v]) x→af M [] (.agg [u,v]) x:=fun u v hu hv h=>by
  cases h with
  | agg _ c hl hr =>
    refine .agg _ c hl fun i w hi=>?_
    match i,hi with
    |0,hi=>have:=hr 0 w hi;simp at hi;subst hi;exact hu _ _ _ this
    |1,hi=>have:=hr 1 w hi;simp at hi;subst hi;exact hv _ _ _ this
    |i+2,hi=>simp at hi
 have hp:∀v M B x,af M B (.prim v) x→af M [] (.prim v) x:=fun v M B x h=>by rw[af.aP h];exact .prim _
 match a,h with
 |0,h=>exact two _ _ (hp _) (hp _) h
 |1,h=>exact two _ _ (fun _ _ _=>lU) (fun _ _ _=>lU) h
 |2,h=>exact two _ _ (fun _ _ _=>lU) (fun _ _ _=>lU) h
 |3,h=>exact two _ _ (fun _ _ _=>lU) (fun _ _ _=>lU) h
 |(_+4),h=>exact two _ _ (fun _ _ _=>lU) (fun _ _ _=>lU) h
theorem dz:PCall Tryz.prog 64 [] (.imap (Go.Ab.aD ekI fk [(1,1),(2,2),(3,3),(4,4)])):=by
 refine PCall.body Tryz.func64 rfl rfl Tryz.ntmps64 rfl rfl ?_
 repeat' (first|refine qP ?_ (h:=fun hg=>by first|exact ae|exact pbD ab rfl rfl nds|fail)|apply sqW|refine rgK fun U V=>?_|(refine aN V ?_;clear V U)|refine aoE (EStep.cz rfl rfl rfl rfl ?_)|refine aoE (EStep.insert (ek:=ekI) (ev:=fk) (al:=[]) (v:=1) (ay (lkG rfl)) (lkG rfl) rfl rfl rfl (Rd.w rfl tI) rfl (Rd.w rfl tI) rfl (Rd.w rfl tI) ?_)|refine aoE (EStep.insert (ek:=ekI) (ev:=fk) (v:=2) (ay (lkG rfl)) (lkG rfl) rfl rfl rfl (Rd.w rfl tI) rfl (Rd.w rfl tI) rfl (Rd.w rfl tI) ?_)|refine aoE (EStep.insert (ek:=ekI) (ev:=fk) (v:=3) (ay (lkG rfl)) (lkG rfl) rfl rfl rfl (Rd.w rfl tI) rfl (Rd.w rfl tI) rfl (Rd.w rfl tI) ?_)|refine aoE (EStep.insert (ek:=ekI) (ev:=fk) (v:=4) (ay (lkG rfl)) (lkG rfl) rfl rfl rfl (Rd.w rfl tI) rfl (Rd.w rfl tI) rfl (Rd.w rfl tI) ?_))
 refine AWP.lQ (ek:=ekI) (ev:=fk) (al:=[(1,1),(2,2),(3,3),(4,4)]) (l:=0) rfl Kh ?_;refine rtW ⟨.inr rfl,?_⟩;exact fun _ _ h=>h
theorem MS (v:Int):inR v 0 2=(inR v 0 1000&&decide (v≤2)):=by
 unfold inR;rw[zB3];simp;omega
theorem EZ (t:Bs):decide (((t.length:Nat):Int)≤200)=decide (t.length≤200):=by
 rw[zB3];simp;omega
theorem so (m:Jo.Mark) (j:Nat) (fA fB:FuncId) (hL:fk j=.agg [.fn (.func fA) [] [],.fn (.func fB) [] []]) (hlk:lk [((1:Int),(1:Nat)),(2,2),(3,3),(4,4)] m.bn=some j) (hf:PCall Tryz.prog fA [.agg (cQ m.who)] (.b (ir m.bn m.who))) (ht:m.text.length≤9223372036854775807):PCall Tryz.prog 59 [.agg (aJ m)] (.b (bc m)):=by
 refine PCall.body Tryz.func59 rfl rfl Tryz.ntmps59 rfl rfl ?_
 repeat' (first|refine qS ?_|apply sqW|refine rgK fun U V=>?_|(refine aN V ?_;clear V U)|refine aB ?_)
 refine AWP.mj (fun k=>match k with|0=>[.var (aJ m)]|1=>[.var (aJ m),.var [.prim .nilFunc,.prim .nilFunc]]|_=>[.var (aJ m),.var [.fn (.func fA) [] [],.fn (.func fB) [] []]]) rfl (by kernel_rfl) dKn rfl dKn (fun U V=>?_)
 repeat' (first
  |refine yt (h:=by refine⟨?_,?_,?_,?_⟩<;>intro hh hg<;>first|exact absurd hh dKn|exact PRun.eq9 (v:=.tup [fk j,.b true]) (PRun.dv (ok:=true) (ek:=ekI) (ev:=fk) (zv:=0) hlk (ay (lkG rfl)) (lkG rfl) (lkG rfl) rfl rfl (Rd.w rfl nd) (Or.inl rfl) (Rd.w rfl nd) rfl) (congrArg (fun x=>AV.tup [x,.b true]) hL)|exact ae|exact pc dz|exact ah|fail) (hk:=?_)|fail)
 refine YQ.e (v:=.ptr 1 0) (d:=some 3) rfl rfl rfl ?_ ?_
 · intro au he;exact alW ab rfl rfl rfl rfl rfl rfl ⟨rfl,rfl⟩
 repeat' (first
  |refine yt (hk:=?_)|fail)
 refine YQ.e (v:=.any) (d:=none) rfl rfl rfl ?_ ?_
 · intro au he;exact stW ab rfl rfl ((ai (he 3 dKn)).trans rfl) (by rw[aj (he 3 dKn)];exact tI) rfl ((ai (he 12 dKn)).trans rfl) (by rw[aj (he 12 dKn)];exact tI) rfl rfl rfl rfl rfl rfl rfl ⟨rfl,rfl⟩
 repeat' (first
  |refine yt (hk:=?_)|fail)
 refine YQ.nil (V _ _ ?_);clear V U;refine AWP.dX [(1,.ptr 0 0),(3,.ptr 1 0),(4,.b true)] ⟨rfl,rfl,rfl,tI⟩ ?_;show AWP _ _ _ _ _ [.var (aJ m),.var [.fn (.func fA) [] [],.fn (.func fB) [] []]];clear hlk;have hsz:(⟨m.text.toArray⟩:ByteArray).size=m.text.length:=by simp[ByteArray.size]
 have hw:=qy (de ⟨m.text.toArray⟩) (by have:=mq ⟨m.text.toArray⟩ (⟨m.text.toArray⟩:ByteArray).size 0;rw[hsz] at this;unfold de;rw[hsz];omega)
 repeat' (first|refine qP ?_ (h:=fun hg=>by first|exact ae|exact pc hf|exact pc (tz _)|exact pc (iP _ _ _)|exact PRun.Hh ab rfl rfl nd rfl rfl rfl (by rw[hsz];first|(have h9:((_&&decide ((((⟨m.text.toArray⟩:ByteArray).size:Nat):Int)≤200))==true)=true:=hg;rw[hsz] at h9;simp at h9;omega)|(have h9:(_&&decide ((((⟨m.text.toArray⟩:ByteArray).size:Nat):Int)≤200))=true:=hg;rw[hsz] at h9;simp at h9;omega))|exact pc hw|fail)|apply sqW|refine rgK fun U V=>?_|(refine aN V ?_;clear V U)|refine cX ?_ ?_<;>intro hc<;>try simp only[dE] at hc|refine skW ?_|refine rtW ?_)
 · refine⟨.inr rfl,Ent.b ?_⟩;unfold bc;clear hf hw
   (revert hc;generalize (rj m.text)=z0;generalize (ir m.bn m.who)=z1;generalize (cg m.id)=z2;generalize (cg m.version)=z3;generalize (cg m.note)=z4;generalize (inR m.kind 1 5)=z5;generalize (inR m.value 0 1000)=z6;generalize (m.kind != 1||decide (m.value≤2))=z7;revert z0 z1 z2 z3 z4 z5 z6 z7;decide)
 · have hk:m.kind=1:=eq_of_beq hc;rename_i hg;refine⟨.inr rfl,Ent.b ?_⟩;unfold bc;rw[rl];refine Eq.trans (b:=((inR m.value 0 2&&decide ((((⟨m.text.toArray⟩:ByteArray).size:Nat):Int)≤200))&&!(de ⟨m.text.toArray⟩).any fj)) rfl ?_;rw[hsz,MS,EZ,hk];rw[hk] at hg;clear hf hw hc;show _=((decide (m.text.length≤200)&&!(de ⟨m.text.toArray⟩).any fj)&&ir m.bn m.who&&cg m.id&&cg m.version&&cg m.note&&inR 1 1 5&&inR m.value 0 1000&&(false||decide (m.value≤2)))
   (revert hg;generalize ((de ⟨m.text.toArray⟩).any fj)=z0;generalize (decide (m.text.length≤200))=z1;generalize (ir m.bn m.who)=z2;generalize (cg m.id)=z3;generalize (cg m.version)=z4;generalize (cg m.note)=z5;generalize (inR 1 1 5)=z6;generalize (inR m.value 0 1000)=z7;generalize (decide (m.value≤2))=z8;revert z0 z1 z2 z3 z4 z5 z6 z7 z8;decide)
 · rename_i hg;refine⟨.inr rfl,Ent.b ?_⟩;unfold bc;rw[rl];refine Eq.trans (b:=((inR m.value 0 1000&&decide ((((⟨m.text.toArray⟩:ByteArray).size:Nat):Int)≤200))&&!(de ⟨m.text.toArray⟩).any fj)) rfl ?_;have hk:(m.kind != 1)=true:=by unfold bne;rw[hc];rfl
   rw[hsz,EZ,hk];clear hf hw hc;show _=((decide (m.text.length≤200)&&!(de ⟨m.text.toArray⟩).any fj)&&ir m.bn m.who&&cg m.id&&cg m.version&&cg m.note&&inR m.kind 1 5&&inR m.value 0 1000&&(true||decide (m.value≤2)))
   (revert hg;generalize ((de ⟨m.text.toArray⟩).any fj)=z0;generalize (decide (m.text.length≤200))=z1;generalize (ir m.bn m.who)=z2;generalize (cg m.id)=z3;generalize (cg m.version)=z4;generalize (cg m.note)=z5;generalize (inR m.kind 1 5)=z6;generalize (inR m.value 0 1000)=z7;generalize (decide (m.value≤2))=z8;revert z0 z1 z2 z3 z4 z5 z6 z7 z8;decide)
theorem Ki (m:Jo.Mark) (h:m.bn=1) (ht:m.text.length≤9223372036854775807):PCall Tryz.prog 59 [.agg (aJ m)] (.b (bc m)) :=
 so m 1 63 115 rfl (by rw[h];rfl) (by rw[show ir m.bn m.who=cu m.who from by unfold ir;rw[if_pos h]];exact iQ m.who) ht
theorem Kj (m:Jo.Mark) (h:m.bn=2) (ht:m.text.length≤9223372036854775807):PCall Tryz.prog 59 [.agg (aJ m)] (.b (bc m)) :=
 so m 2 116 117 rfl (by rw[h];rfl) (by rw[h];exact EW m.who) ht
theorem Kk (m:Jo.Mark) (h:m.bn=3) (ht:m.text.length≤9223372036854775807):PCall Tryz.prog 59 [.agg (aJ m)] (.b (bc m)) :=
 so m 3 118 119 rfl (by rw[h];rfl) (by rw[h];exact EX m.who) ht
theorem Kl (m:Jo.Mark) (h:m.bn=4) (ht:m.text.length≤9223372036854775807):PCall Tryz.prog 59 [.agg (aJ m)] (.b (bc m)) :=
 so m 4 120 121 rfl (by rw[h];rfl) (by rw[h];exact EY m.who) ht
theorem Km (m:Jo.Mark) (h:m.bn≠1∧m.bn≠2∧m.bn≠3∧m.bn≠4) (ht:m.text.length≤9223372036854775807):PCall Tryz.prog 59 [.agg (aJ m)] (.b (bc m)):=by
 have hlk:lk [((1:Int),(1:Nat)),(2,2),(3,3),(4,4)] m.bn=none:=by simp only[lk];rw[if_neg (Ne.symm h.1),if_neg (Ne.symm h.2.1),if_neg (Ne.symm h.2.2.1),if_neg (Ne.symm h.2.2.2)]
 have hby:ir m.bn m.who=false:=by unfold ir;rw[if_neg h.1,if_neg h.2.1,if_neg h.2.2.1,if_neg h.2.2.2]
 refine PCall.body Tryz.func59 rfl rfl Tryz.ntmps59 rfl rfl ?_
 repeat' (first|refine qS ?_|apply sqW|refine rgK fun U V=>?_|(refine aN V ?_;clear V U)|refine aB ?_)
 refine AWP.mj (fun k=>match k with|0=>[.var (aJ m)]|1=>[.var (aJ m),.var [.prim .nilFunc,.prim .nilFunc]]|_=>[.var (aJ m),.var [.prim .nilFunc,.prim .nilFunc]]) rfl (by kernel_rfl) dKn rfl dKn (fun U V=>?_)
 repeat' (first
  |refine yt (h:=by refine⟨?_,?_,?_,?_⟩<;>intro hh hg<;>first|exact absurd hh dKn|exact ae|exact pc dz|exact PRun.dv (ek:=ekI) (ev:=fk) (zv:=0) hlk (ay (lkG rfl)) (lkG rfl) (lkG rfl) rfl rfl (Rd.w rfl nd) (Or.inl rfl) (Rd.w rfl nd) rfl|exact ah|fail) (hk:=?_)|fail)
 refine YQ.e (v:=.ptr 1 0) (d:=some 3) rfl rfl rfl ?_ ?_
 · intro au he;exact alW ab rfl rfl rfl rfl rfl rfl ⟨rfl,rfl⟩
 repeat' (first
  |refine yt (hk:=?_)|fail)
 refine YQ.e (v:=.any) (d:=none) rfl rfl rfl ?_ ?_
 · intro au he;exact stW ab rfl rfl ((ai (he 3 dKn)).trans rfl) (by rw[aj (he 3 dKn)];exact tI) rfl ((ai (he 12 dKn)).trans rfl) (by rw[aj (he 12 dKn)];exact tI) rfl rfl rfl rfl rfl rfl rfl ⟨rfl,rfl⟩
 repeat' (first
  |refine yt (hk:=?_)|fail)
 refine YQ.nil (V _ _ ?_);clear V U;refine AWP.dX [(1,.ptr 0 0),(3,.ptr 1 0),(4,.b false)] ⟨rfl,rfl,rfl,tI⟩ ?_;show AWP _ _ _ _ _ [.var (aJ m),.var [.prim .nilFunc,.prim .nilFunc]];clear hlk;have hsz:(⟨m.text.toArray⟩:ByteArray).size=m.text.length:=by simp[ByteArray.size]
 have hw:=qy (de ⟨m.text.toArray⟩) (by have:=mq ⟨m.text.toArray⟩ (⟨m.text.toArray⟩:ByteArray).size 0;rw[hsz] at this;unfold de;rw[hsz];omega)
 repeat' (first|refine qP ?_ (h:=fun hg=>by first|exact ae|exact pc (tz _)|exact pc (iP _ _ _)|exact(absurd hg (by intro hg;cases hg):PRun _ _ _ _ (.b false))|fail)|apply sqW|refine rgK fun U V=>?_|(refine aN V ?_;clear V U)|refine cX ?_ ?_<;>intro hc<;>try simp only[dE] at hc|refine skW ?_|refine rtW ?_)
 · refine⟨.inr rfl,Ent.b ?_⟩;unfold bc;rw[hby];simp
 all_goals (exfalso;rename_i hg;simp at hg;done)
theorem cH (m:Jo.Mark) (ht:m.text.length≤9223372036854775807):PCall Tryz.prog 59 [.agg (aJ m)] (.b (bc m)):=by
 by_cases h1:m.bn=1
 · exact Ki m h1 ht
 by_cases h2:m.bn=2
 · exact Kj m h2 ht
 by_cases h3:m.bn=3
 · exact Kk m h3 ht
 by_cases h4:m.bn=4
 · exact Kl m h4 ht
 exact Km m ⟨h1,h2,h3,h4⟩ ht
end Go.Proofs.YtmjdoencpjpegaaGreatDoor.Mk
namespace Go.Jo
structure Ev where
 clock:Int
 stand:Int
 kind:Int
 n:Int
 mark:Mark
 deriving DecidableEq,Inhabited
def gu (e:Ev):Bool:=inR e.clock 0 1000000000&&cg e.stand &&
 (if e.kind=1 then bc e.mark&&e.n==0 else if e.kind=2 then cg e.n&&e.mark==noMark else if e.kind=3 then inR e.n 0 1000&&e.mark==noMark else false)
end Go.Jo
namespace Go.Sy
open Go.Jo
theorem gV {α:Type} [Inhabited α] {l:List α} {k:Nat} (h:k<l.length):l.getD k default=l[k]:=by simp[List.getD,h]
def before (a b:Ev):Bool:=decide (a.clock<b.clock)||(a.clock==b.clock&&decide (a.stand<b.stand))
theorem uG {a b:Ev}:before a b=true↔a.clock<b.clock∨(a.clock=b.clock∧a.stand<b.stand):=by
 unfold before;simp
def Jk (a b:Ev):Prop:=a.clock=b.clock∧a.stand=b.stand
theorem before_trans {a b c:Ev} (h1:before a b=true) (h2:before b c=true):before a c=true:=by
 rw[uG] at *;omega
abbrev Srt (l:List Ev):Prop:=l.Pairwise fun a b=>before a b=true
theorem BR {a b:List Ev}:Srt (a++b)↔Srt a∧Srt b∧∀x∈a,∀y∈b,before x y=true:=List.pairwise_append
def E0 (l:List Ev):Prop:=∀a∈l,∀b∈l,Jk a b→a=b
def dL (l:List Ev):Bool:=(l.all gu&&decide (Srt l))&&decide (l.length≤20000)
theorem fl {l:List Ev}:dL l=true↔(∀e∈l,gu e=true)∧Srt l∧l.length≤20000:=by
 unfold dL;simp only[zA0,dEt,zA6,and_assoc]
instance (l:List Ev):Decidable (E0 l):=by unfold E0 Jk;infer_instance
def jB (l:List Ev) (id:Int):Int:=l.foldl (fun n e=>if e.kind=3∧e.stand=id then max n e.n else n) 0
theorem E1 (a b:List Ev) (id:Int):jB (a++b) id=b.foldl (fun n e=>if e.kind=3∧e.stand=id then max n e.n else n) (jB a id):=by
 unfold jB;rw[zC6]
theorem Hj {l:List Ev} (h:Srt l) {z:Ev} (hz:l.getLast? = some z):∀x∈l,x=z∨before x z=true:=fun x hx=>by
 obtain⟨r,rfl⟩:∃r,l=r++[z]:=by
  have hne:l≠[]:=fun e=>by rw[e] at hz;cases hz
  refine⟨l.dropLast,?_⟩;have h1:=List.dropLast_concat_getLast hne;rw[List.getLast?_eq_some_getLast hne] at hz;rw[←Option.some.inj hz];exact h1.symm
 rcases zAy.1 hx with hx|hx
 · exact .inr ((BR.1 h).2.2 x hx z (zA9.2 rfl))
 · exact .inl (zA9.1 hx)
def tA (a b:Ev):Int:=if a.clock<b.clock then -1 else if b.clock<a.clock then 1 else if a.stand<b.stand then -1 else if b.stand<a.stand then 1 else 0
theorem BU {a b:Ev}:tA a b<0↔before a b=true:=by
 rw[uG];unfold tA;split
 · omega
 · split
   · omega
   · split
     · omega
     · split<;>omega
theorem Hk {l:List Ev} {i:Nat} (hi:i<l.length):Srt (l.take (i+1))↔Srt (l.take i)∧(0<i→before (l.getD (i - 1) default) (l.getD i default)=true):=by
 have e1:l.take (i+1)=l.take i++[l.getD i default]:=by
  rw[gV hi];exact zBe hi
 rw[e1,BR];constructor
 · rintro⟨h1,_,h3⟩;refine⟨h1,fun h0=>h3 _ ?_ _ (zA9.2 rfl)⟩;rw[gV (show i - 1<l.length by omega)];exact zD1.2 ⟨i - 1,oM,rfl⟩
 · rintro⟨h1,h2⟩;refine⟨h1,by simp[Srt],fun x hx y hy=>?_⟩;rw[zA9.1 hy];by_cases h0:0<i
   · have hl:(l.take i).getLast? = some (l.getD (i - 1) default):=by
      rw[List.getLast?_eq_getElem?,zAg,zDy oM,List.getElem?_take_of_lt oM,gV (show i - 1<l.length by omega)];exact zA1 oM
     rcases Hj h1 hl x hx with e|e
     · rw[e];exact h2 h0
     · exact before_trans e (h2 h0)
   · rw[show i=0 by omega] at hx;cases hx
structure Std where
 id:Int
 who:Rdr
 ed:Int
 known:Int
 evs:List Ev
def jC (s:Std):Bool:=cg s.ed&&cu s.who&&inR s.known 0 1000&&(dL s.evs&&cg s.id)&&decide (jB s.evs s.id≤s.known)
end Go.Sy
