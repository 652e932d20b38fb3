/- Parts of the proof. No statement is proved here. -/
import Derived.Test.YthiaimakjmhegaaGreatDoorP6
import Derived.Test.YthiaimakjmhegaaGreatDoorP7
set_option linter.unusedVariables false
set_option linter.unusedSimpArgs false
set_option maxHeartbeats 16000000
set_option maxRecDepth 20000
namespace Go.Proofs.YthiaimakjmhegaaGreatDoor
open Go.Ab
theorem nd {p:Prop} (h:p:=by first|exact True.intro|exact hg):p:=h
theorem nds {p:Prop} (h:p:=by first|exact True.intro|exact⟨True.intro,True.intro⟩|exact⟨True.intro,True.intro,True.intro⟩|(repeat' (first|exact True.intro|exact hg|refine⟨?_,?_⟩))):p:=h
theorem sd {p:Prop} (h:p:=by first|exact True.intro|exact⟨True.intro,True.intro,True.intro⟩|exact hg|exact⟨True.intro,True.intro⟩|exact⟨hg,hg,True.intro⟩|(repeat' (first|exact True.intro|exact hg|omega|decide|refine⟨?_,?_⟩|(intro h;change (_==_)=true;rw[h];rfl)|(intro h;change (_&&(_==_))=true;rw[zA0];exact⟨hg,by rw[h];rfl⟩)|(exfalso;revert hg;simp;done)|(simp at hc;omega)|(exfalso;simp at hc;done)|(simp at hg;simp_all;done)|(simp at hg;simp_all;omega)))):p:=h
theorem af {o:Oper} {env:Env} {σ:ae} {v:AV} (h:PRun Tryz.prog o env σ v:=by first
 |exact PRun.uf ab rfl rfl nd rfl nd rfl rfl oM
 |exact PRun.lenM ab rfl rfl nd rfl
 |exact PRun.lenW ab rfl rfl nd rfl
 |exact PRun.cZ rfl rfl nd rfl nd rfl
 |exact PRun.negWr rfl rfl nd
 |exact PRun.Dq rfl rfl nd):PRun Tryz.prog o env σ v:=h
theorem aa {o:Oper} {env:Env} {σ:ae} {v:AV} (h:PRun Tryz.prog o env σ v:=by exact PRun.step ab rfl sd):PRun Tryz.prog o env σ v:=h
theorem iX {α:Type} [Inhabited α] (f:α→List AV) (l:List α) (i:Int) {x:α} {o:Oper} {env:Env} {σ:ae} (hx:l.getD i.toNat default=x) (h:∀_:0≤i∧i<l.length,PRun Tryz.prog o env σ (.iptr (f (l.getD i.toNat default))):=by exact fun hb=>PRun.uf ab rfl rfl nd rfl nd rfl rfl hb) (hb:0≤i∧i<l.length):PRun Tryz.prog o env σ (.iptr (f x)):=hx▸h hb
theorem cdN {n:Nat} {K:Exit→Env→ae→Prop} {env:Env} {σ:ae} {t:Nat} {x y:Code} {v:Bool} {p q:Prop} (hv:rdv env (.tmp t)=some (.b v)) (hn:rdn env (.tmp t)) (ht:p→AWP Tryz.prog n x K env σ) (hf:q→AWP Tryz.prog n y K env σ) (c:(v=true→p)∧(v=false→q):=by first|exact⟨fun h=>of_decide_eq_true h,fun h=>Int.not_lt.1 (of_decide_eq_false h)⟩|exact⟨fun h=>of_decide_eq_true h,fun h=>Int.not_le.1 (of_decide_eq_false h)⟩|exact⟨fun h=>(h:(@BEq.beq _ _ _ _)=true),fun h=>(h:(@BEq.beq _ _ _ _)=false)⟩|exact⟨fun h=>of_decide_eq_true h,fun h=>of_decide_eq_false h⟩|exact⟨fun h=>h,fun h=>h⟩):AWP Tryz.prog n (.cond (.tmp t) x y) K env σ:=AWP.A7 hv hn (fun h=>ht (c.1 h)) (fun h=>hf (c.2 h))
theorem dd {C:Prop} (h:False:=by first|(omega)|(simp at hc;done)|(simp at hc;omega)|(simp only[dEf,dEt] at hc;omega)|(rename_i h0;simp at h0;done)|(rename_i h0;simp at h0;omega)|fail):C:=h.elim
end Go.Proofs.YthiaimakjmhegaaGreatDoor
namespace Go.Ab
theorem tI:True:=True.intro
abbrev pcW:=@PRun.HB
abbrev pbW:=@PRun.JY
abbrev rgK:=@AWP.Ik
abbrev aoE:=@AOps.e
abbrev stW:=@EStep.Dd
abbrev aoN:=@AOps.nil
abbrev alW:=@EStep.Dc
abbrev cdW:=@AWP.A7
abbrev blK:=@AWP.block
abbrev sqW:=@AWP.seq
abbrev bxW:=@EStep.boxW
abbrev skW:=@AWP.skip
abbrev rtW:=@AWP.ret
abbrev dK2:=@AWP.Dm
abbrev dL2:=@AWP.Dn
abbrev aoQ:=@AOps.q
abbrev exW:=@AWP.exit
abbrev aqN:=@AQ.nil
abbrev aqQ:=@AQ.q
abbrev yqQ:=@YQ.q
abbrev piW:=@PRun.uf
abbrev pbD:=@PRun.J2
abbrev pbS:=@PRun.Fz
abbrev scT:=@EStep.Lg
abbrev apO:=@EStep.Bj
abbrev lpD:=@AWP.Lc
abbrev lpW:=@AWP.Lb
abbrev nLr:=@Nat.le_refl
abbrev nZl:=@Nat.zero_le
abbrev nLg:=@Nat.lt_or_ge
abbrev lLm:=@List.length_map
abbrev lLa:=@List.length_append
abbrev lMm:=@List.mem_map
abbrev lGm:=@List.getElem_mem
end Go.Ab
namespace Go.Proofs.YthiaimakjmhegaaGreatDoor
open Go.Ab
theorem lkG {t:TypeId} {li:LI} (h:tab.get t=some li):LOk Tryz.prog t li:=LOk.of (ab.get h)
theorem dE:(∀(p:Prop) [Decidable p],(decide p=true)=p)∧(∀(p:Prop) [Decidable p],(decide p=false)=¬p)∧(∀a b:Int,(¬a<b)=(b≤a))∧(∀a b:Int,(¬a≤b)=(b<a)):=⟨fun p _=>propext decide_eq_true_iff,fun p _=>propext dEf,fun _ _=>propext iNl,fun _ _=>propext iNe⟩
section
variable {n:Nat} {ops:Array Oper} {o:Oper} {rest:List Oper} {env:Env} {σ:ae} {K:Env→ae→Prop}
theorem qS {v v':AV} {g:GG} {d:Nat} (hk:AOps Tryz.prog n ops K rest (env.put d v') σ) (hd:o.dst=some d:=by exact rfl) (hn:decide (d<n)=true:=by exact rfl) (hg:gOf ops env o=some g:=by exact rfl) (h:g.holds→PRun Tryz.prog o env σ v:=by intro hg;exact aa) (hv:(g.wrap v).wh=some v':=by exact rfl):AOps Tryz.prog n ops K (o::rest) env σ:=AOps.q hd hn hg h hv hk
theorem qT {v v':AV} {g:GG} {d:Nat} (hk:AOps Tryz.prog n ops K rest (env.put d v') σ) (hd:o.dst=some d:=by exact rfl) (hn:decide (d<n)=true:=by exact rfl) (hg:gOf ops env o=some g:=by exact rfl) (h:g.holds→PRun Tryz.prog o env σ v:=by intro hg;first|exact aa|exact af) (hv:(g.wrap v).wh=some v':=by exact rfl):AOps Tryz.prog n ops K (o::rest) env σ:=AOps.q hd hn hg h hv hk
theorem qR {v v':AV} {g:GG} {d:Nat} (hd:o.dst=some d) (hn:decide (d<n)=true) (hg:gOf ops env o=some g) (h:g.holds→PRun Tryz.prog o env σ v) (hk:AOps Tryz.prog n ops K rest (env.put d v') σ) (hv:(g.wrap v).wh=some v':=by exact rfl):AOps Tryz.prog n ops K (o::rest) env σ:=AOps.q hd hn hg h hv hk
theorem aN {U:Env→ae→Prop} (V:∀e s,K e s→U e s) (h:K env σ):AOps Tryz.prog n ops U [] env σ:=AOps.nil (V _ _ h)
theorem qP {v v':AV} {g:GG} {d:Nat} (hk:AOps Tryz.prog n ops K rest (env.put d v') σ) (hd:o.dst=some d:=by exact rfl) (hn:decide (d<n)=true:=by exact rfl) (hg:gOf ops env o=some g:=by exact rfl) (h:g.holds→PRun Tryz.prog o env σ v) (hv:(g.wrap v).wh=some v':=by exact rfl):AOps Tryz.prog n ops K (o::rest) env σ:=AOps.q hd hn hg h hv hk
theorem aS {t:TypeId} {x y:Operand} {l off:Nat} {u:AV} {cs us cs':List AV} {li:LI} (hk:AOps Tryz.prog n ops K rest (env.br o.dst .any) (σ.set l (.var cs'))) (ho:o.op=.store t x y:=by exact rfl) (hg:o.guard=none:=by exact rfl) (hx:rdv env x=some (.ptr l off):=by exact rfl) (nx:rdn env x:=by exact True.intro) (hσ:σ[l]? = some (.var cs):=by exact rfl)
 (hy:rdv env y=some u:=by exact rfl) (ny:rdn env y:=by exact True.intro) (hc:cd u=some us:=by exact rfl) (jh:us.all eH=true:=by exact rfl) (hl:tab.get t=some li:=by exact rfl) (hsz:li.size=us.length:=by exact rfl) (hle:(decide (off+us.length≤cs.length))=true:=by exact rfl) (hdn:eu n o=true:=by exact rfl) (hf:ec (fX cs off us)=some cs':=by exact rfl):AOps Tryz.prog n ops K (o::rest) env σ:=AOps.e (EStep.Dd ab ho hg hx nx hσ hy ny hc jh hl hsz hle hdn hf hk)
theorem aB {t:TypeId} {x:Operand} {u:AV} {d:Nat} {cs cs':List AV} (hk:AOps Tryz.prog n ops K rest (env.put d (.ptr σ.length 0)) (σ++[.var cs'])) (ho:o.op=.box t x:=by exact rfl) (hg:o.guard=none:=by exact rfl) (hd:o.dst=some d:=by exact rfl) (hdn:(decide (d<n))=true:=by exact rfl) (hx:rdv env x=some u:=by exact rfl) (nx:rdn env x:=by exact True.intro) (hc:cd u=some cs:=by exact rfl) (hf:ec cs=some cs':=by exact rfl):AOps Tryz.prog n ops K (o::rest) env σ:=AOps.e (EStep.boxW ho hg hd hdn hx nx hc hf hk)
theorem aA {t:TypeId} {d:Nat} {li:LI} {cs:List AV} (hk:AOps Tryz.prog n ops K rest (env.put d (.ptr σ.length 0)) (σ++[.var cs])) (ho:o.op=.alloc t:=by exact rfl) (hg:o.guard=none:=by exact rfl) (hd:o.dst=some d:=by exact rfl) (hdn:(decide (d<n))=true:=by exact rfl) (hl:tab.get t=some li:=by exact rfl) (hf:ec (li.zero.map Z.av)=some cs:=by exact rfl):AOps Tryz.prog n ops K (o::rest) env σ:=AOps.e (EStep.Dc ab ho hg hd hdn hl hf hk)
theorem pc {fo:Operand} {args:Array Operand} {Ts:Array TypeId} {k:Nat} {first aQ avs:List AV} {r:AV} (h:PCall Tryz.prog k avs r) (ho:o.op=.call { callee:=.value fo,args:=args,argTypes:=Ts }:=by exact rfl) (hf:rdv env fo=some (.fn (.func k) first aQ):=by exact rfl) (nf:rdn env fo:=by exact nd) (ha:first.map (unb 4)++(args.toList.map fun x=>unb 4 (c9 env x).st)++aQ.map (unb 4)=avs:=by exact rfl) (hn:eW env args.toList:=by exact nds):PRun Tryz.prog o env σ r:=PRun.HB h ho hf nf ha hn
end
section
variable {n:Nat} {id:Nat} {l:List Oper} {K:Exit→Env→ae→Prop} {env:Env} {σ:ae}
theorem kD (h:∀U:Env→Prop,(∀e,K .normal e σ→U e)→AQ Tryz.prog l.toArray σ U l env) (hq:l.all (fun o=>!i6 o)=true:=by decide +kernel) (hm:Tryz.prog.follows .mixedOrders=true:=by kernel_rfl) (hB:Region.lexB .any l.toArray=true:=by decide +kernel) (hd:eF n l.toArray=true:=by exact rfl):AWP Tryz.prog n (.region id l.toArray true) K env σ:=AWP.Dm hq hm hB hd h
theorem lD (h:∀U:Env→ae→Prop,(∀e s,K .normal e s→U e s)→AQ Tryz.prog l.toArray σ (fun e=>AOps Tryz.prog n l.toArray U (l.drop (eY l)) e σ) (l.take (eY l)) env) (hm:Tryz.prog.follows .mixedOrders=true:=by kernel_rfl) (hB:(decide (eY l≤l.length)&&uj .any l.toArray (eY l) 0 (Array.replicate l.length false)&&lg .any l.toArray (eY l))=true:=by decide +kernel) (hd:eF n l.toArray=true:=by exact rfl):AWP Tryz.prog n (.region id l.toArray true) K env σ:=AWP.Dn hm hB hd h
theorem cX {t:Nat} {x y:Code} {v:Bool} (ht:v=true→AWP Tryz.prog n x K env σ) (hf:v=false→AWP Tryz.prog n y K env σ) (hv:rdv env (.tmp t)=some (.b v):=by exact rfl) (hn:rdn env (.tmp t):=by exact True.intro):AWP Tryz.prog n (.cond (.tmp t) x y) K env σ:=AWP.A7 hv hn ht hf
end
end Go.Proofs.YthiaimakjmhegaaGreatDoor
namespace Go.Proofs.YthiaimakjmhegaaGreatDoor
open Go.Ab
section
variable {n:Nat} {ops:Array Oper} {S:Nat→ae} {eff:Oper→Bool} {lo hi aI:Nat→Nat} {K:Env→Nat→Prop} {env:Env} {i j:Nat} {o:Oper} {rest:List Oper} {v v':AV} {g:GG} {d a b:Nat}
theorem yR (he:eff o=false:=by exact rfl) (hlo:lo i=a:=by decide +kernel) (hhi:hi i=b:=by decide +kernel) (hj:(decide (a≤j)&&decide (j≤b))=true:=by exact rfl) (hd:o.dst=some d:=by exact rfl) (hg:gOf ops env o=some g:=by exact rfl) (h:∀k,a≤k→k≤b→g.holds→PRun Tryz.prog o env (S k) v) (hv:g.wrap v=v':=by exact rfl) (hk:YQ Tryz.prog n ops S eff lo hi aI K rest (i+1) (env.put d v') j):YQ Tryz.prog n ops S eff lo hi aI K (o::rest) i env j:=YQ.q he hlo hhi hj hd hg h hv hk
theorem yt (he:eff o=false:=by exact rfl) (hj:(decide (lo i≤j)&&decide (j≤hi i)&&decide (hi i≤3))=true:=by decide +kernel) (hd:o.dst=some d:=by exact rfl) (hg:gOf ops env o=some g:=by exact rfl) (h:((decide (lo i≤0)&&decide (0≤hi i))=true→g.holds→PRun Tryz.prog o env (S 0) v)∧((decide (lo i≤1)&&decide (1≤hi i))=true→g.holds→PRun Tryz.prog o env (S 1) v)∧((decide (lo i≤2)&&decide (2≤hi i))=true→g.holds→PRun Tryz.prog o env (S 2) v)∧((decide (lo i≤3)&&decide (3≤hi i))=true→g.holds→PRun Tryz.prog o env (S 3) v):=by refine⟨?_,?_,?_,?_⟩<;>intro hh hg<;>first|exact absurd hh dKn|exact aa|exact af) (hv:g.wrap v=v':=by exact rfl) (hk:YQ Tryz.prog n ops S eff lo hi aI K rest (i+1) (env.put d v') j):YQ Tryz.prog n ops S eff lo hi aI K (o::rest) i env j:=by
 simp only[zA0,dEt] at hj h
 refine yR he rfl rfl (by simp only[zA0,dEt];exact hj.1) hd hg (fun k h1 h2=>?_) hv hk
 have hk:k=0∨k=1∨k=2∨k=3:=by omega
 rcases hk with rfl|rfl|rfl|rfl
 · exact h.1 ⟨h1,h2⟩
 · exact h.2.1 ⟨h1,h2⟩
 · exact h.2.2.1 ⟨h1,h2⟩
 · exact h.2.2.2 ⟨h1,h2⟩
end
end Go.Proofs.YthiaimakjmhegaaGreatDoor
namespace Go.Proofs.YthiaimakjmhegaaGreatDoor
open Go.Ab
attribute [local irreducible] AWP AOps EStep AQ PStep PRun PCall TCall VCall
theorem tdiv_le (a b:Int):(a.tdiv b).natAbs≤a.natAbs:=by
 rw[Int.natAbs_tdiv];exact Nat.div_le_self _ _
theorem vk (n:Int) (h:mi (0 - n)):PCall Tryz.prog 149 [.int n] (.int (n.natAbs:Nat)):=by
 have h1:=h.1;have h2:=h.2;refine PCall.body Tryz.func149 rfl rfl Tryz.ntmps149 rfl rfl ?_
 repeat' (first|refine qS ?_|apply sqW|refine rgK fun U V=>?_|(refine aN V ?_;clear V U)|refine rtW ?_)
 exact⟨.inr rfl,Ent.int oM⟩
def redS (n d:Int):ae:=[.var [.int n,.int d],.var [.int 0,.int 0],.var [.fn (.func 148) [] [.ptr 2 0]]]
theorem zl (n d:Int) (b:Nat):∀a:Nat,a≤9223372036854775807→b≤9223372036854775807 →
 TCall Tryz.prog 148 [.int a,.int b,.ptr 2 0] (redS n d) (fun r s=>r=.int (Nat.gcd a b)∧s=redS n d):=by
 induction b using Nat.strongRecOn with
 |_ b ih =>
 intro a ha hb
 refine TCall.body Tryz.func148 rfl rfl Tryz.ntmps148 rfl rfl ?_
 by_cases h0:b=0
 · subst h0
   repeat' (first|refine qS ?_|refine sqW ?_|refine rgK fun U V=>?_|(refine aN V ?_;clear V U)|refine cX ?_ ?_<;>intro hc<;>try simp only[dE] at hc|refine skW ?_|refine rtW ?_|refine kD fun U V=>?_|refine aqQ rfl rfl (fun hg=>by exact aa) (by exact rfl) ?_)
   · exact⟨.inr rfl,_,_,⟨by simp,rfl⟩,rfl,nLr _,rfl,rfl,rfl⟩
   · simp at hc
 · have hlt:a % b<b:=Nat.mod_lt _ oM
   have hv:=TCall.val (first:=[]) (aQ:=[.ptr 2 0]) (avs:=[.int b,.int ((a % b:Nat):Int)]) (ih (a % b) hlt b hb oM)
   repeat' (first|refine qS ?_|refine sqW ?_|refine rgK fun U V=>?_|(refine aN V ?_;clear V U)|refine cX ?_ ?_<;>intro hc<;>try simp only[dE] at hc|refine skW ?_|refine rtW ?_|refine kD fun U V=>?_|(refine aqN (V _ ?_);clear V U)|refine aqQ rfl rfl (fun hg=>by first|exact aa|exact PRun.kA (hv) rfl rfl nd rfl rfl nds|exact af) (by exact rfl) ?_)
   · exfalso;simp at hc;omega
   · exact⟨.inr rfl,_,_,⟨by rw[Nat.gcd_comm a b,Nat.gcd_rec b a,Nat.gcd_comm],rfl⟩,rfl,nLr _,rfl,rfl,rfl⟩
def rN (n d:Int):Int:=if d<0 then -(Int.gcd n d:Int) else Int.gcd n d
theorem xq (n d:Int) (hn:mi (2 * n)) (hd:mi (2 * d)) (h0:d≠0):PCall Tryz.prog 89 [.agg [.int n,.int d]] (.agg [.int (n.tdiv (rN n d)),.int (d.tdiv (rN n d))]):=by
 have hn1:=hn.1
 have hn2:=hn.2
 have hd1:=hd.1
 have hd2:=hd.2
 have hg0:0<Nat.gcd n.natAbs d.natAbs:=Int.gcd_pos_of_ne_zero_right n h0
 have hg1:Nat.gcd n.natAbs d.natAbs≤d.natAbs:=Nat.gcd_le_right _ oM
 have hv:=TCall.val (first:=[]) (aQ:=[.ptr 2 0]) (avs:=[.int n.natAbs,.int d.natAbs]) (zl n d d.natAbs n.natAbs oM oM)
 have e:rN n d=if d<0 then -(Nat.gcd n.natAbs d.natAbs:Int) else Nat.gcd n.natAbs d.natAbs:=rfl
 generalize Nat.gcd n.natAbs d.natAbs=g at *
 have q1:=tdiv_le n g
 have q2:=tdiv_le n (-g)
 have q3:=tdiv_le d g
 have q4:=tdiv_le d (-g)
 refine PCall.bN ab Tryz.func89 rfl rfl Tryz.ntmps89 rfl ?_
 repeat' (first|refine qS ?_|refine sqW ?_|refine rgK fun U V=>?_|(refine aN V ?_;clear V U)|refine aB ?_|refine aS ?_|refine aA ?_|refine cX ?_ ?_<;>intro hc<;>try simp only[dE] at hc|refine skW ?_|refine rtW ?_|refine kD fun U V=>?_|refine lD fun U V=>?_|(refine aqN (V _ ?_);clear V U)|refine aqN ?_|refine aqQ rfl rfl (fun hg=>by first|exact aa|exact pc (vk n ⟨by omega,by omega⟩)|exact pc (vk d ⟨by omega,by omega⟩)|exact PRun.kA (hv) rfl rfl nd rfl rfl nds|exact pbD ab rfl rfl nds|exact af) (by exact rfl) ?_)
 · refine⟨.inr rfl,_,rfl,Ent.of ?_⟩
   rw[e,if_pos hc];rfl
 · refine⟨.inr rfl,_,rfl,Ent.of ?_⟩
   rw[e,if_neg oM];rfl
structure Rat where
 n:Int
 d:Int
 deriving DecidableEq,Inhabited
def oo (r:Rat):List AV:=[.int r.n,.int r.d]
def dj (r:Rat):Bool:=decide (1≤r.d)&&decide (r.d≤1000000)&&decide (-1000000000≤r.n)&&decide (r.n≤1000000000)&&(Int.gcd r.n r.d==1)
theorem cL {r:Rat}:dj r=true↔1≤r.d∧r.d≤1000000 ∧ -1000000000≤r.n∧r.n≤1000000000∧Int.gcd r.n r.d=1:=by
 simp[dj,and_assoc]
theorem Lk:kQ Tryz.prog 177=some [.int .i64,.int .i64]:=by kernel_rfl
theorem FJ {n d:Int} (hd:1≤d):(n.tdiv (rN n d)=n∧d.tdiv (rN n d)=d)↔Int.gcd n d=1:=by
 have h0:0<Int.gcd n d:=Int.gcd_pos_of_ne_zero_right n oM;have e:rN n d=(Int.gcd n d:Int):=by unfold rN;rw[if_neg oM]
 rw[e];constructor
 · rintro⟨_,h2⟩;rcases nLg 1 (Int.gcd n d) with h|h
   · exfalso;rw[Int.tdiv_eq_ediv_of_nonneg oM] at h2;have h3:=Int.ediv_lt_of_lt_mul (a:=d) (b:=d) (c:=(Int.gcd n d:Int)) oM (by
      have:d * 1<d * (Int.gcd n d:Int):=Int.mul_lt_mul_of_pos_left oM oM;omega)
     omega
   · omega
 · intro h;rw[h];simp
theorem fN (r:Rat):PCall Tryz.prog 38 [.agg (oo r)] (.b (dj r)):=by
 by_cases hb:1≤r.d∧r.d≤1000000 ∧ -1000000000≤r.n∧r.n≤1000000000
 · have h1:=xq r.n r.d ⟨by omega,by omega⟩ ⟨by omega,by omega⟩ oM
   refine PCall.body Tryz.func38 rfl rfl Tryz.ntmps38 rfl rfl ?_
   repeat' (first|refine qS ?_|refine sqW ?_|refine rgK fun U V=>?_|(refine aN V ?_;clear V U)|refine aB ?_|refine cX ?_ ?_<;>intro hc<;>try simp only[dE] at hc|refine skW ?_|refine rtW ?_|refine kD fun U V=>?_|(refine aqN (V _ ?_);clear V U)|refine aqQ rfl rfl (fun hg=>by first|exact aa|exact pc h1|exact pbD ab rfl rfl nds|exact PRun.eqS Lk rfl rfl nd rfl nd rfl|exact af) (by exact rfl) ?_)
   · exfalso;simp at hc;omega
   · refine⟨.inr rfl,Ent.b ?_⟩
     have h2:=FJ (n:=r.n) (d:=r.d) hb.1
     rw[zAi,cL]
     constructor
     · intro h
       exact⟨hb.1,hb.2.1,hb.2.2.1,hb.2.2.2,h2.1 (by simpa using h)⟩
     · intro h
       have:=h2.2 h.2.2.2.2
       simp[this]
 · refine PCall.body Tryz.func38 rfl rfl Tryz.ntmps38 rfl rfl ?_
   repeat' (first|refine qS ?_|refine sqW ?_|refine rgK fun U V=>?_|(refine aN V ?_;clear V U)|refine aB ?_|refine cX ?_ ?_<;>intro hc<;>try simp only[dE] at hc|refine skW ?_|refine rtW ?_|refine kD fun U V=>?_|refine aqQ rfl rfl (fun hg=>by exact aa) (by exact rfl) ?_)
   · refine⟨.inr rfl,Ent.b ?_⟩
     cases h:dj r with
     |false=>rfl
     |true=>rw[cL] at h;omega
   all_goals (exfalso;simp at hc;omega)
theorem pI {x y A B:Int} (h1:-A≤x∧x≤A) (h2:0≤y∧y≤B):-(A * B)≤x * y∧x * y≤A * B:=by
 have hA:0≤A:=oM;have a1:=zDa h1.2 h2.1;have a2:=zDa h1.1 h2.1;have a3:=zDf h2.2 hA;rw[Int.neg_mul] at a2;omega
def ee (a b:Rat):Int×Int:=if dj a&&dj b then (if a.n * b.d<b.n * a.d then (-1,0) else if a.n * b.d>b.n * a.d then (1,0) else (0,0)) else (0,1)
theorem ij (a b:Rat):PCall Tryz.prog 121 [.agg (oo a),.agg (oo b)] (.tup [.int (ee a b).1,.int (ee a b).2]):=by
 have va:=fN a
 have vb:=fN b
 refine PCall.body Tryz.func121 rfl rfl Tryz.ntmps121 rfl rfl ?_
 by_cases h:dj a=true∧dj b=true
 · have ha:=cL.1 h.1
   have hb:=cL.1 h.2
   have q1:=pI (x:=a.n) (y:=b.d) (A:=1000000000) (B:=1000000) oM oM
   have q2:=pI (x:=b.n) (y:=a.d) (A:=1000000000) (B:=1000000) oM oM
   repeat' (first|refine qP ?_ (h:=fun hg=>by first|exact aa|exact pc va|exact pc vb|exact af)|refine sqW ?_|refine rgK fun U V=>?_|(refine aN V ?_;clear V U)|refine aB ?_|refine cX ?_ ?_<;>intro hc<;>try simp only[dE] at hc|refine blK ?_|refine skW ?_|refine rtW ?_|refine kD fun U V=>?_|(refine aqN (V _ ?_);clear V U)|refine aqQ rfl rfl (fun hg=>by exact aa) (by exact rfl) ?_)
   · exfalso;simp[h.1,h.2] at hc
   all_goals (refine⟨.inr rfl,Ent.of ?_⟩)
   · rw[show ee a b=(-1,0) from by unfold ee;rw[if_pos (by simp[h]),if_pos hc]];rfl
   · rename_i hc0
     rw[show ee a b=(1,0) from by unfold ee;rw[if_pos (by simp[h]),if_neg oM,if_pos hc]];rfl
   · rename_i hc0
     rw[show ee a b=(0,0) from by unfold ee;rw[if_pos (by simp[h]),if_neg oM,if_neg oM]];rfl
 · have e:(dj a&&dj b)=false:=by cases ha:dj a<;>cases hb:dj b<;>simp_all
   repeat' (first|refine qP ?_ (h:=fun hg=>by first|exact aa|exact pc va|exact pc vb|exact af)|refine sqW ?_|refine rgK fun U V=>?_|(refine aN V ?_;clear V U)|refine aB ?_|refine cX ?_ ?_<;>intro hc<;>try simp only[dE] at hc|refine skW ?_|refine rtW ?_)
   · refine⟨.inr rfl,Ent.of ?_⟩
     rw[show ee a b=(0,1) from by unfold ee;rw[e];rfl];rfl
   · exfalso;revert hc;cases ha:dj a<;>cases hb:dj b<;>simp_all
def dp (r:Rat):Bool:=dj r&&decide (0≤r.n)&&(Int.tmod 1680 r.d==0)
theorem sS (r:Rat):PCall Tryz.prog 198 [.agg (oo r)] (.b (dp r)):=by
 have v:=fN r;have hd:dj r=true→r.d≠0:=fun h=>by have:=cL.1 h;omega
 refine PCall.body Tryz.func198 rfl rfl Tryz.ntmps198 rfl rfl ?_
 repeat' (first|refine qP ?_ (h:=fun hg=>by first|exact aa|exact pc v|exact af)|apply sqW|refine rgK fun U V=>?_|(refine aN V ?_;clear V U)|refine aB ?_|refine rtW ?_)
 exact⟨.inr rfl,Ent.b rfl⟩
theorem Du (a b:Rat):PCall Tryz.prog 199 [.agg (oo a),.agg (oo b)] (.b (decide ((ee a b).1<0))):=by
 have v:=ij a b;refine PCall.body Tryz.func199 rfl rfl Tryz.ntmps199 rfl rfl ?_
 repeat' (first|refine qP ?_ (h:=fun hg=>by first|exact aa|exact pc v|exact af)|apply sqW|refine rgK fun U V=>?_|(refine aN V ?_;clear V U)|refine aB ?_|refine rtW ?_)
 exact⟨.inr rfl,Ent.b rfl⟩
structure fC where
 step:Int
 alter:Int
 oct:Int
 deriving DecidableEq,Inhabited
def sT (p:fC):List AV:=[.int p.step,.int p.alter,.int p.oct]
theorem pJ (a b c:Int):PCall Tryz.prog 290 [.int a,.int b,.int c] (.b (inB a b c)):=by
 refine PCall.body Tryz.func290 rfl rfl Tryz.ntmps290 rfl rfl ?_
 repeat' (first|refine qS ?_|apply sqW|refine rgK fun U V=>?_|(refine aN V ?_;clear V U)|refine rtW ?_)
 exact⟨.inr rfl,Ent.b rfl⟩
def iE (p:fC):Bool:=inB p.step 0 6&&inB p.alter (-4) 4&&inB p.oct (-8) 20
theorem kE (p:fC):PCall Tryz.prog 257 [.agg (sT p)] (.b (iE p)):=by
 refine PCall.body Tryz.func257 rfl rfl Tryz.ntmps257 rfl rfl ?_
 repeat' (first|refine qP ?_ (h:=fun hg=>by first|exact aa|exact pc (pJ _ _ _)|exact af)|apply sqW|refine rgK fun U V=>?_|(refine aN V ?_;clear V U)|refine aB ?_|refine rtW ?_)
 exact⟨.inr rfl,Ent.b rfl⟩
def rO:List Int:=[0,2,4,5,7,9,11]
def oq (p:fC):Int:=12 * p.oct+rO.getD p.step.toNat 0+p.alter
theorem Au (n:Nat):0≤rO.getD n 0∧rO.getD n 0≤11:=by
 match n with
 |0|1|2|3|4|5|6=>decide
 |n+7=>simp[rO]
theorem qY {p:fC}:iE p=true↔(0≤p.step∧p.step≤6)∧(-4≤p.alter∧p.alter≤4) ∧ -8≤p.oct∧p.oct≤20:=by
 simp[iE,inB,and_assoc]
theorem xr (p:fC) (h:iE p=true):PCall Tryz.prog 291 [.agg (sT p)] (.int (oq p)):=by
 have h1:=qY.1 h
 have h2:=Au p.step.toNat
 have hl:(rO.length:Int)=7:=rfl
 have hix:0≤p.step∧p.step<rO.length:=⟨by omega,by omega⟩
 refine PCall.body Tryz.func291 rfl rfl Tryz.ntmps291 rfl rfl ?_
 repeat' (first|refine qS ?_|refine sqW ?_|refine rgK fun U V=>?_|(refine aN V ?_;clear V U)|refine aB ?_|refine rtW ?_|refine kD fun U V=>?_|(refine aqN (V _ ?_);clear V U)|refine aqQ rfl rfl (fun hg=>by first|exact aa|exact PRun.Dp rO ab rfl rfl nd rfl nd rfl rfl rfl hix|exact af) (by exact rfl) ?_)
 exact⟨.inr rfl,Ent.int rfl⟩
def ew (p:fC):Int×Int:=if iE p then (oq p,0) else (0,1)
theorem lR (p:fC):PCall Tryz.prog 263 [.agg (sT p)] (.tup [.int (ew p).1,.int (ew p).2]):=by
 have v:=kE p;refine PCall.body Tryz.func263 rfl rfl Tryz.ntmps263 rfl rfl ?_;by_cases h:iE p=true
 · have w:=xr p h
   repeat' (first|refine qP ?_ (h:=fun hg=>by first|exact aa|exact pc v|exact pc w|exact af)|apply sqW|refine rgK fun U V=>?_|(refine aN V ?_;clear V U)|refine aB ?_|refine cX ?_ ?_<;>intro hc<;>try simp only[dE] at hc|refine skW ?_|refine rtW ?_)
   · exfalso;simp[h] at hc
   · refine⟨.inr rfl,Ent.of ?_⟩;rw[show ew p=(oq p,0) from by unfold ew;rw[if_pos h]];rfl
 · repeat' (first|refine qP ?_ (h:=fun hg=>by first|exact aa|exact pc v|exact af)|apply sqW|refine rgK fun U V=>?_|(refine aN V ?_;clear V U)|refine aB ?_|refine cX ?_ ?_<;>intro hc<;>try simp only[dE] at hc|refine skW ?_|refine rtW ?_)
   · refine⟨.inr rfl,Ent.of ?_⟩;rw[show ew p=(0,1) from by unfold ew;rw[if_neg h]];rfl
   · exfalso;simp[h] at hc
structure Interval where
 steps:Int
 lS:Int
 deriving DecidableEq,Inhabited
def encI (i:Interval):List AV:=[.int i.steps,.int i.lS]
def eM (i:Interval):Bool:=inB i.steps (-70) 70&&inB i.lS (-120) 120
theorem xt (i:Interval):PCall Tryz.prog 334 [.agg (encI i)] (.b (eM i)):=by
 refine PCall.body Tryz.func334 rfl rfl Tryz.ntmps334 rfl rfl ?_
 repeat' (first|refine qP ?_ (h:=fun hg=>by first|exact aa|exact pc (pJ _ _ _)|exact af)|apply sqW|refine rgK fun U V=>?_|(refine aN V ?_;clear V U)|refine aB ?_|refine rtW ?_)
 exact⟨.inr rfl,Ent.b rfl⟩
def ot (i:Interval):Interval×Int:=if eM i then (⟨-i.steps,-i.lS⟩,0) else (⟨0,0⟩,1)
theorem nw {i:Interval}:eM i=true↔(-70≤i.steps∧i.steps≤70) ∧ -120≤i.lS∧i.lS≤120:=by simp[eM,inB,and_assoc]
theorem Dv (i:Interval):PCall Tryz.prog 327 [.agg (encI i)] (.tup [.agg (encI (ot i).1),.int (ot i).2]):=by
 have v:=xt i;refine PCall.bN ab Tryz.func327 rfl rfl Tryz.ntmps327 rfl ?_;by_cases h:eM i=true
 · have h1:=nw.1 h
   repeat' (first|refine qP ?_ (h:=fun hg=>by first|exact aa|exact pc v|exact pbD ab rfl rfl nds|exact af)|apply sqW|refine rgK fun U V=>?_|(refine aN V ?_;clear V U)|refine aB ?_|refine aS ?_|refine aA ?_|refine cX ?_ ?_<;>intro hc<;>try simp only[dE] at hc|refine skW ?_|refine rtW ?_)
   · exfalso;simp[h] at hc
   · refine⟨.inr rfl,_,rfl,Ent.of ?_⟩;rw[show ot i=(⟨-i.steps,-i.lS⟩,0) from by unfold ot;rw[if_pos h]];rfl
 · repeat' (first|refine qP ?_ (h:=fun hg=>by first|exact aa|exact pc v|exact pbD ab rfl rfl nds|exact af)|apply sqW|refine rgK fun U V=>?_|(refine aN V ?_;clear V U)|refine aB ?_|refine aS ?_|refine aA ?_|refine cX ?_ ?_<;>intro hc<;>try simp only[dE] at hc|refine skW ?_|refine rtW ?_)
   · refine⟨.inr rfl,_,rfl,Ent.of ?_⟩;rw[show ot i=(⟨0,0⟩,1) from by unfold ot;rw[if_neg h]];rfl
   all_goals (exfalso;simp[h] at hc)
theorem sU (i:Interval):PCall Tryz.prog 304 [.agg (encI i)] (.b (eM i)):=by
 have v:=Dv i;refine PCall.body Tryz.func304 rfl rfl Tryz.ntmps304 rfl rfl ?_
 repeat' (first|refine qP ?_ (h:=fun hg=>by first|exact aa|exact pc v|exact af)|apply sqW|refine rgK fun U V=>?_|(refine aN V ?_;clear V U)|refine aB ?_|refine aS ?_|refine aA ?_|refine rtW ?_)
 refine⟨.inr rfl,Ent.b ?_⟩;unfold ot;cases h:eM i<;>rfl
def jv (i:Interval):Int×Int:=if eM i then (7 * i.lS - 12 * i.steps,0) else (0,1)
theorem zm (i:Interval):PCall Tryz.prog 289 [.agg (encI i)] (.tup [.int (jv i).1,.int (jv i).2]):=by
 have v:=sU i;refine PCall.body Tryz.func289 rfl rfl Tryz.ntmps289 rfl rfl ?_;by_cases h:eM i=true
 · have h1:=nw.1 h
   repeat' (first|refine qP ?_ (h:=fun hg=>by first|exact aa|exact pc v|exact af)|apply sqW|refine rgK fun U V=>?_|(refine aN V ?_;clear V U)|refine aB ?_|refine cX ?_ ?_<;>intro hc<;>try simp only[dE] at hc|refine skW ?_|refine rtW ?_)
   · exfalso;simp[h] at hc
   · refine⟨.inr rfl,Ent.of ?_⟩;rw[show jv i=(7 * i.lS - 12 * i.steps,0) from by unfold jv;rw[if_pos h]];rfl
 · repeat' (first|refine qP ?_ (h:=fun hg=>by first|exact aa|exact pc v|exact af)|apply sqW|refine rgK fun U V=>?_|(refine aN V ?_;clear V U)|refine aB ?_|refine cX ?_ ?_<;>intro hc<;>try simp only[dE] at hc|refine skW ?_|refine rtW ?_)
   · refine⟨.inr rfl,Ent.of ?_⟩;rw[show jv i=(0,1) from by unfold jv;rw[if_neg h]];rfl
   all_goals (exfalso;simp[h] at hc)
structure Bar where
 id:Int
 len:Rat
 key:Int
 deriving DecidableEq,Inhabited
def cS (b:Bar):List AV:=[.int b.id,.int b.len.n,.int b.len.d,.int b.key]
structure bk where
 id:Int
 part:Int
 bar:Int
 fT:Int
 ln:Int
 start:Rat
 len:Rat
 pitch:fC
 deriving DecidableEq,Inhabited
def bQ (n:bk):List AV:=[.int n.id,.int n.part,.int n.bar,.int n.fT,.int n.ln,.int n.start.n,.int n.start.d,.int n.len.n,.int n.len.d,.int n.pitch.step,.int n.pitch.alter,.int n.pitch.oct]
abbrev ekI (n:Int):Value:=.int .i64 n
def xu (b:Bar):Bool:=decide (b.id<1)||decide (b.id>1000000)
def ur (b:Bar):Bool:=!dp b.len||b.len.n==0||decide ((ee ⟨24,1⟩ b.len).1<0)
def gx (b:Bar):Bool:=!(xu b||decide (b.key < -7)||decide (b.key>7))&&!ur b
def dQ (l:List Bar):Bool:=l.all gx&&decide ((l.map (·.id)).Nodup)&&decide (1≤l.length)&&decide (l.length≤4000)
def e8 {α:Type} (f:α→Int) (l:List α):List (Int×Bool):=l.map fun b=>(f b,true)
theorem uu {α:Type} (f:α→Int) (l:List α) (k:Int):(lk (e8 f l) k).getD false=decide (k∈l.map f):=by
 induction l with
 |nil=>simp[e8,lk]
 | cons x r ih =>
   simp only[e8,zBt,lk] at *;by_cases h:f x=k
   · simp[h]
   · rw[if_neg h,ih];have:¬k=f x:=fun e=>h e.symm
     simp[this]
theorem uv {κ α:Type} [DecidableEq κ] (al:List (κ×α)) (k:κ) (v:α) (h:k∉al.map (·.1)):ins al k v=al++[(k,v)]:=by
 induction al with
 |nil=>rfl
 | cons p r ih =>
   obtain⟨k',v'⟩:=p;simp only[zBt,zAo,not_or] at h;simp only[ins,if_neg (Ne.symm h.1),ih h.2,zDe]
theorem Dw {α:Type} (f:α→Int) (l:List α):(e8 f l).map (·.1)=l.map f:=by simp[e8]
theorem pK {α:Type} [Inhabited α] (f:α→Int) (l:List α) (k:Nat) (hk:k<l.length) (h:f (l.getD k default)∉(l.take k).map f):ins (e8 f (l.take k)) (f (l.getD k default)) true=e8 f (l.take (k+1)):=by
 rw[uv _ _ _ (by rw[Dw];exact h)];rw[zBn hk,bb hk];simp only[e8,zBw,zBt,List.map_nil]
theorem lp {α:Type} [Inhabited α] (f:α→Int) (l:List α) (k:Nat) (hk:k<l.length):((l.take (k+1)).map f).Nodup↔((l.take k).map f).Nodup∧f (l.getD k default)∉(l.take k).map f:=by
 rw[zBn hk,bb hk,zBw,zC7];simp only[zBt,List.map_nil,List.nodup_cons,zCe,not_false_eq_true,List.nodup_nil,and_true,zA9,true_and];constructor
 · rintro⟨h1,h2⟩;exact⟨h1,fun hm=>h2 _ hm _ rfl rfl⟩
 · rintro⟨h1,h2⟩;exact⟨h1,fun a ha b hb e=>h2 (by rw[←hb,←e];exact ha)⟩
theorem vl {α:Type} [Inhabited α] (f:α→Int) (l:List α) (k:Nat) (hk:k<l.length) (h:f (l.getD k default)∈(l.take k).map f):¬(l.map f).Nodup:=fun hn=>by
 have h1:((l.take (k+1)).map f).Nodup:=by
  rw[←zCn (k+1) l,zBw] at hn;exact(zC7.1 hn).1
 exact((lp f l k hk).1 h1).2 h
theorem sV {l:List Bar} {k:Nat} (hk:k<l.length) (h:gx (l.getD k default)=false):dQ l=false:=by
 unfold dQ;rw[xb hk h];rfl
theorem Bo {l:List Bar} {k:Nat} (hk:k<l.length) (h:(l.getD k default).id∈(l.take k).map (·.id)):dQ l=false:=by
 unfold dQ;rw[decide_eq_false (vl (fun b:Bar=>b.id) l k hk h)];simp
theorem iR (l:List Bar) (hl:l.length≤9223372036854775807):PCall Tryz.prog 135 [.sl 4 (l.map cS) .no] (.b (dQ l)):=by
 refine PCall.body Tryz.func135 rfl rfl Tryz.ntmps135 rfl rfl ?_
 repeat' (first|refine qT ?_|apply sqW|refine rgK fun U V=>?_|(refine aN V ?_;clear V U)|refine aoE (EStep.dn rfl rfl rfl rfl ?_)|refine blK ?_)
 refine lpD (ι:=Nat) (fun k=>[(0,.sl 4 (l.map cS) .no),(3,.map 0),(7,.sl 4 (l.map cS) .no),(8,.int l.length),(9,.int k)]) (fun k=>[.map (aT ekI AV.b (e8 (·.id) (l.take k)))])
  (fun k=>k≤l.length∧(∀j,j<k→gx (l.getD j default)=true)∧((l.take k).map (·.id)).Nodup) (fun k=>l.length - k) 1 (fun _=>rfl) 0 ⟨nZl _,fun j h=>absurd h oM,by simp⟩ ⟨rfl,rfl,rfl,rfl,rfl,tI⟩ rfl (fun _ _=>rfl) (fun k _=>by simp[aD,aT,aO]) ?_
 rintro k ⟨hk,au,hnd⟩;by_cases hlt:k<l.length
 · have hs:=uu (fun b:Bar=>b.id) (l.take k) (l.getD k default).id
   repeat' (first|refine qP ?_ (h:=fun hg=>by first|exact aa|exact PRun.lookup (ek:=ekI) (ev:=AV.b) (zv:=false) (aL (lkG rfl)) (lkG rfl) (lkG rfl) rfl rfl (Rd.w rfl nd) (Or.inr ⟨_,rfl,rfl⟩) (Rd.w rfl nd) rfl|exact pc (sS _)|exact pc (Du ⟨24,1⟩ _)|exact pbD ab rfl rfl nds|exact af)|apply sqW|refine rgK fun U V=>?_|(refine aN V ?_;clear V U)|refine aS ?_|refine aA ?_|refine aoE (EStep.fu (ek:=ekI) (ev:=AV.b) (v:=true) (aL (lkG rfl)) (lkG rfl) rfl rfl rfl (Rd.w rfl tI) rfl (Rd.w rfl tI) rfl (Rd.w rfl tI) ?_)|refine cX ?_ ?_<;>intro hc<;>try simp only[dE] at hc|refine blK ?_|refine exW ?_|refine skW ?_|refine rtW ?_)
   · refine⟨.inr rfl,Ent.b (Eq.symm ?_)⟩;rw[zAe] at hc;rw[hs] at hc;by_cases hm:(l.getD k default).id∈(l.take k).map (fun b=>b.id)
     · exact Bo hlt hm
     · refine sV hlt ?_;rw[decide_eq_false hm,Bool.or_false] at hc;unfold gx xu;rw[hc];rfl
   · refine⟨.inr rfl,Ent.b (Eq.symm ?_)⟩;rw[zAe] at hc;refine sV hlt ?_;unfold gx ur;rw[hc];simp
   · rename_i hc0;rw[zAe] at hc hc0;rw[hs] at hc0;simp only[zAg] at hc0;have hm:(l.getD k default).id∉(l.take k).map (fun b=>b.id):=of_decide_eq_false hc0.1.1.2;refine⟨k+1,⟨oM,fun j hj=>?_,(lp _ l k hlt).2 ⟨hnd,hm⟩⟩,oM,⟨rfl,rfl,rfl,rfl,rfl,tI⟩,?_⟩
     · refine aH au ?_ hj;unfold gx ur;rw[hc];unfold xu;rw[hc0.1.1.1.1,hc0.1.1.1.2,hc0.1.2,hc0.2];rfl
     · rw[←pK _ l k hlt hm];rfl
   · exfalso;omega
 · repeat' (first|refine qT ?_|apply sqW|refine rgK fun U V=>?_|(refine aN V ?_;clear V U)|refine aS ?_|refine aA ?_|refine cX ?_ ?_<;>intro hc<;>try simp only[dE] at hc|refine blK ?_|refine exW ?_|refine skW ?_|refine rtW ?_)
   · exfalso;omega
   · refine⟨.inr rfl,Ent.b ?_⟩;have htk:l.take k=l:=zAh oM;rw[htk] at hnd;unfold dQ;rw[uh fun j hj=>au j oM,decide_eq_true hnd];rw[zAi];simp;omega
def ef (r:Rat):Int:=r.n * Int.tdiv 1680 r.d
theorem fD {r:Rat}:dp r=true↔dj r=true∧0≤r.n∧Int.tmod 1680 r.d=0:=by simp[dp,and_assoc]
theorem rP {r:Rat} (h:dj r=true):0≤Int.tdiv 1680 r.d∧Int.tdiv 1680 r.d≤1680:=by
 have:=cL.1 h;have h1:=tdiv_le 1680 r.d;have h2:=Int.tdiv_nonneg (a:=1680) (b:=r.d) oM oM;omega
def dx (r:Rat):Int×Bool:=if dp r then (ef r,true) else (0,false)
theorem jK (r:Rat):PCall Tryz.prog 259 [.agg (oo r)] (.tup [.int (dx r).1,.b (dx r).2]):=by
 have v:=fN r
 have hd:dj r=true→r.d≠0:=fun h=>by have:=cL.1 h;omega
 refine PCall.body Tryz.func259 rfl rfl Tryz.ntmps259 rfl rfl ?_
 by_cases h:dp r=true
 · have h1:=fD.1 h
   have h2:=cL.1 h1.1
   have h3:=rP h1.1
   have h4:=pI (x:=r.n) (y:=Int.tdiv 1680 r.d) (A:=1000000000) (B:=1680) oM h3
   repeat' (first|refine qP ?_ (h:=fun hg=>by first|exact aa|exact pc v|exact af)|refine sqW ?_|refine rgK fun U V=>?_|(refine aN V ?_;clear V U)|refine aB ?_|refine cX ?_ ?_<;>intro hc<;>try simp only[dE] at hc|refine skW ?_|refine rtW ?_|refine kD fun U V=>?_|(refine aqN (V _ ?_);clear V U)|refine aqQ rfl rfl (fun hg=>by exact aa) (by exact rfl) ?_)
   · exfalso;revert hc;rw[h1.1];simp;omega
   · refine⟨.inr rfl,Ent.of ?_⟩
     rw[show dx r=(ef r,true) from by unfold dx;rw[if_pos h]];rfl
 · repeat' (first|refine qP ?_ (h:=fun hg=>by first|exact aa|exact pc v|exact af)|refine sqW ?_|refine rgK fun U V=>?_|(refine aN V ?_;clear V U)|refine aB ?_|refine cX ?_ ?_<;>intro hc<;>try simp only[dE] at hc|refine skW ?_|refine rtW ?_)
   · refine⟨.inr rfl,Ent.of ?_⟩
     rw[show dx r=(0,false) from by unfold dx;rw[if_neg h]];rfl
   · exfalso
     apply h
     rw[fD]
     simp only[zAg,zBc,dEf,bne_eq_false_iff_eq] at hc
     exact⟨hc.1.1,by omega,hc.2⟩
theorem lT (a b c:Int):PCall Tryz.prog 261 [.int a,.int b,.int c] (.b (inB a b c)):=by
 refine PCall.body Tryz.func261 rfl rfl Tryz.ntmps261 rfl rfl ?_
 repeat' (first|refine qS ?_|apply sqW|refine rgK fun U V=>?_|(refine aN V ?_;clear V U)|refine rtW ?_)
 exact⟨.inr rfl,Ent.b rfl⟩
theorem Bp (a:Int):PCall Tryz.prog 260 [.int a] (.b (inB a 1 1000000)):=by
 refine PCall.body Tryz.func260 rfl rfl Tryz.ntmps260 rfl rfl ?_
 repeat' (first|refine qP ?_ (h:=fun hg=>by first|exact aa|exact pc (lT _ _ _)|exact af)|apply sqW|refine rgK fun U V=>?_|(refine aN V ?_;clear V U)|refine rtW ?_)
 exact⟨.inr rfl,Ent.b rfl⟩
def HJ (p:fC):Bool:=iE p&&inB p.alter (-2) 2&&inB p.oct 0 9
theorem zn (p:fC):PCall Tryz.prog 262 [.agg (sT p)] (.b (HJ p)):=by
 refine PCall.body Tryz.func262 rfl rfl Tryz.ntmps262 rfl rfl ?_
 repeat' (first|refine qP ?_ (h:=fun hg=>by first|exact aa|exact pc (kE p)|exact pc (lT _ _ _)|exact af)|apply sqW|refine rgK fun U V=>?_|(refine aN V ?_;clear V U)|refine aB ?_|refine rtW ?_)
 exact⟨.inr rfl,Ent.b rfl⟩
def fits (b:Bar) (n:bk):Bool:=(dx n.start).2&&(dx n.len).2&&decide ((dx n.len).1>0)&&decide ((dx n.start).1+(dx n.len).1≤(dx b.len).1)
def ou (n:bk):Bool:=inB n.id 1 1000000&&inB n.part 1 1000000&&inB n.fT 0 9&&inB n.ln 0 20&&HJ n.pitch
def nz (b:Bar) (n:bk):Bool:=fits b n&&ou n
theorem mw (r:Rat):0≤(dx r).1∧(dx r).1≤1680000000000:=by
 unfold dx;split
 · rename_i h;have h1:=fD.1 h;have h2:=cL.1 h1.1;have h3:=rP h1.1;have h4:=pI (x:=r.n) (y:=Int.tdiv 1680 r.d) (A:=1000000000) (B:=1680) oM h3;exact⟨Int.mul_nonneg h1.2.1 h3.1,by show ef r≤_;unfold ef;omega⟩
 · exact⟨by decide,by decide⟩
theorem xw (b:Bar) (n:bk):PCall Tryz.prog 204 [.agg (cS b),.agg (bQ n)] (.b (nz b n)):=by
 have q1:=mw n.start;have q2:=mw n.len;refine PCall.body Tryz.func204 rfl rfl Tryz.ntmps204 rfl rfl ?_
 repeat' (first|refine qP ?_ (h:=fun hg=>by first|exact aa|exact pc (jK n.start)|exact pc (jK n.len)|exact pc (jK b.len)|exact pc (Bp _)|exact pc (lT _ _ _)|exact pc (zn n.pitch)|exact af)|apply sqW|refine rgK fun U V=>?_|(refine aN V ?_;clear V U)|refine aB ?_|refine rtW ?_)
 refine⟨.inr rfl,Ent.b ?_⟩;unfold nz fits ou;simp only[zDw]
def dM (l:List Bar):List (Int×Int):=(List.range l.length).foldl (fun al i=>ins al (l.getD i default).id i) []
def lU (l:List Bar) (k:Nat):List (Int×Int):=(List.range k).foldl (fun al i=>ins al (l.getD i default).id i) []
theorem sW (l:List Bar) (k:Nat):lU l (k+1)=ins (lU l k) (l.getD k default).id k:=by
 unfold lU;rw[List.range_succ,zCl];rfl
theorem pL (l:List Bar) (hl:l.length≤9223372036854775807):PCall Tryz.prog 203 [.sl 4 (l.map cS) .no] (.imap (aT ekI AV.int (dM l))):=by
 refine PCall.body Tryz.func203 rfl rfl Tryz.ntmps203 rfl rfl ?_
 repeat' (first|refine qT ?_|apply sqW|refine rgK fun U V=>?_|(refine aN V ?_;clear V U)|refine aoE (EStep.dn rfl rfl rfl rfl ?_)|refine blK ?_)
 refine lpD (ι:=Nat) (fun k=>[(3,.map 0),(7,.sl 4 (l.map cS) .no),(8,.int l.length),(9,.int k)]) (fun k=>[.map (aT ekI AV.int (lU l k))])
  (fun k=>k≤l.length) (fun k=>l.length - k) 1 (fun _=>rfl) 0 (nZl _) ⟨rfl,rfl,rfl,rfl,tI⟩ rfl (fun _ _=>rfl) (fun k _=>by simp[aD,aT,aO]) ?_
 intro k hk;by_cases hlt:k<l.length
 · repeat' (first|refine qT ?_|apply sqW|refine rgK fun U V=>?_|(refine aN V ?_;clear V U)|refine aS ?_|refine aA ?_|refine aoE (EStep.fu (ek:=ekI) (ev:=AV.int) (aL (lkG rfl)) (lkG rfl) rfl rfl rfl (Rd.w rfl tI) rfl (Rd.w rfl tI) rfl (Rd.w rfl tI) ?_)|refine cX ?_ ?_<;>intro hc<;>try simp only[dE] at hc|refine blK ?_|refine exW ?_|refine skW ?_|refine rtW ?_)
   · refine⟨k+1,oM,oM,⟨rfl,rfl,rfl,rfl,tI⟩,?_⟩;rw[sW];rfl
   · exfalso;omega
 · repeat' (first|refine qT ?_|apply sqW|refine rgK fun U V=>?_|(refine aN V ?_;clear V U)|refine aS ?_|refine aA ?_|refine cX ?_ ?_<;>intro hc<;>try simp only[dE] at hc|refine blK ?_|refine exW ?_|refine skW ?_)
   · exfalso;omega
   · refine AWP.mj (ek:=ekI) (ev:=AV.int) (l:=0) rfl uU ?_;refine rtW ⟨.inr rfl,?_⟩;rw[show k=l.length by omega];exact fun _ _ h=>h
def nA (bars:List Bar) (n:bk):Bool:=match lk (dM bars) n.bar with
 |some i=>nz (bars.getD i.toNat default) n
 |none=>false
def fk (bars:List Bar) (l:List bk):Bool:=dQ bars&&decide ((l.length:Int)≤20000)&&l.all (nA bars)&&decide ((l.map (·.id)).Nodup)
theorem xy (l:List Bar):dM l=lU l l.length:=rfl
theorem qA {κ α:Type} [DecidableEq κ] (al:List (κ×α)) (k k':κ) (v:α):lk (ins al k v) k'=if k=k' then some v else lk al k':=by
 induction al with
 |nil=>simp[ins,lk]
 | cons p r ih =>
   obtain⟨k2,v2⟩:=p;simp only[ins];by_cases h:k2=k
   · subst h;rw[if_pos rfl];by_cases h3:k2=k'<;>simp[lk,h3]
   · rw[if_neg h];by_cases h3:k2=k'
     · subst h3;simp[lk,Ne.symm h]
     · simp[lk,h3,ih]
theorem xz (l:List Bar) (id:Int):∀k i,lk (lU l k) id=some i→∃j:Nat,i=j∧j<k∧(l.getD j default).id=id
 |0,i,h=>by simp[lU,lk] at h
 | k + 1, i, h => by
   rw[sW,qA] at h;split at h
   · rename_i e;simp at h;subst h;exact⟨k,rfl,oM,e⟩
   · obtain⟨j,h1,h2,h3⟩:=xz l id k i h;exact⟨j,h1,oM,h3⟩
theorem zo {bars:List Bar} {l:List bk} {k:Nat} (hk:k<l.length) (h:nA bars (l.getD k default)=false):fk bars l=false:=by
 unfold fk;rw[xb hk h];simp
theorem zp {bars:List Bar} {l:List bk} {k:Nat} (hk:k<l.length) (h:(l.getD k default).id∈(l.take k).map (·.id)):fk bars l=false:=by
 unfold fk;rw[decide_eq_false (vl (fun b:bk=>b.id) l k hk h)];simp
theorem Ll {s t:Bool} (h:((!s||t)==false)=true):s=true:=by cases s<;>simp at h ⊢
theorem qZ (bars:List Bar) (l:List bk) (hb:bars.length≤9223372036854775807) (hl:l.length≤9223372036854775807) :
 PCall Tryz.prog 137 [.sl 4 (bars.map cS) .no,.sl 12 (l.map bQ) .no] (.b (fk bars l)):=by
 have v:=iR bars hb
 refine PCall.body Tryz.func137 rfl rfl Tryz.ntmps137 rfl rfl ?_
 repeat' (first|refine qP ?_ (h:=fun hg=>by first|exact aa|exact pc v|exact pc (pL bars hb)|exact af)|refine sqW ?_|refine rgK fun U V=>?_|(refine aN V ?_;clear V U)|refine aoE (EStep.dn rfl rfl rfl rfl ?_)|refine cX ?_ ?_<;>intro hc<;>try simp only[dE] at hc|refine blK ?_|refine skW ?_|refine rtW ?_)
 · refine⟨.inr rfl,Ent.b (Eq.symm ?_)⟩
   unfold fk
   cases h:dQ bars with
   |false=>simp
   | true =>
     rw[h] at hc;simp at hc
     have:decide ((l.length:Int)≤20000)=false:=by simp;omega
     rw[this];simp
 have h1:dQ bars=true∧(l.length:Int)≤20000:=by
  simp only[zAg,zBc,dEf] at hc
  exact⟨hc.1,by omega⟩
 clear hc
 refine lpD (ι:=Nat) (fun k=>[(0,.sl 4 (bars.map cS) .no),(5,.imap (aT ekI AV.int (dM bars))),(6,.map 0),(22,.sl 12 (l.map bQ) .no),(23,.int l.length),(24,.int k)]) (fun k=>[.map (aT ekI AV.b (e8 (·.id) (l.take k)))])
  (fun k=>k≤l.length∧(∀j,j<k→nA bars (l.getD j default)=true)∧((l.take k).map (·.id)).Nodup) (fun k=>l.length - k) 1 (fun _=>rfl) 0 ⟨nZl _,fun j h=>absurd h oM,by simp⟩ ⟨rfl,rfl,rfl,rfl,rfl,rfl,tI⟩ rfl (fun _ _=>rfl) (fun k _=>by simp[aD,aT,aO]) ?_
 rintro k ⟨hk,au,hnd⟩
 by_cases hlt:k<l.length
 · have hs:=uu (fun b:bk=>b.id) (l.take k) (l.getD k default).id
   have hix:=xz bars (l.getD k default).bar bars.length
   rw[←xy] at hix
   have hix2:∀i,lk (dM bars) (l.getD k default).bar=some i→0≤i∧i<bars.length:=fun i hi=>by
    obtain⟨j,h1,h2,_⟩:=hix i hi;omega
   have xA:(lk (dM bars) (l.getD k default).bar).isSome=true→0≤(lk (dM bars) (l.getD k default).bar).getD 0∧(lk (dM bars) (l.getD k default).bar).getD 0<bars.length:=fun h=>by
    cases hL:lk (dM bars) (l.getD k default).bar with
    |none=>rw[hL] at h;cases h
    |some i=>exact hix2 i hL
   have hno:nA bars (l.getD k default)=((lk (dM bars) (l.getD k default).bar).isSome&&nz (bars.getD ((lk (dM bars) (l.getD k default).bar).getD 0).toNat default) (l.getD k default)):=by
    unfold nA
    cases lk (dM bars) (l.getD k default).bar<;>simp
   repeat' (first|refine qP ?_ (h:=fun hg=>by first|exact aa|exact PRun.lookup (ek:=ekI) (ev:=AV.int) (zv:=0) (aL (lkG rfl)) (lkG rfl) (lkG rfl) rfl rfl (Rd.w rfl nd) (Or.inl rfl) (Rd.w rfl nd) rfl|exact af)|refine sqW ?_|refine rgK fun U V=>?_|(refine aN V ?_;clear V U)|refine aS ?_|refine aA ?_|refine aoE (EStep.fu (ek:=ekI) (ev:=AV.b) (v:=true) (aL (lkG rfl)) (lkG rfl) rfl rfl rfl (Rd.w rfl tI) rfl (Rd.w rfl tI) rfl (Rd.w rfl tI) ?_)|refine cX ?_ ?_<;>intro hc<;>try simp only[dE] at hc|refine blK ?_|refine exW ?_|refine skW ?_|refine rtW ?_|refine kD fun U V=>?_|(refine aqN (V _ ?_);clear V U)|refine aqQ rfl rfl (fun hg=>by first|exact aa|exact PRun.lookup (ek:=ekI) (ev:=AV.b) (zv:=false) (aL (lkG rfl)) (lkG rfl) (lkG rfl) rfl rfl (Rd.w rfl nd) (Or.inr ⟨_,rfl,rfl⟩) (Rd.w rfl nd) rfl|exact piW ab rfl rfl nd rfl nd rfl rfl (xA (Ll hg))|exact pcW (xw (bars.getD ((lk (dM bars) (l.getD k default).bar).getD 0).toNat default) (l.getD k default)) rfl rfl nd rfl nds|exact af) (by exact rfl) ?_)
   · refine⟨.inr rfl,Ent.b (Eq.symm ?_)⟩
     rw[zAe] at hc
     rw[hs] at hc
     by_cases hm:(l.getD k default).id∈(l.take k).map (fun b=>b.id)
     · exact zp hlt hm
     · refine zo hlt ?_
       rw[decide_eq_false hm,Bool.or_false] at hc
       rw[hno]
       revert hc
       cases (lk (dM bars) (l.getD k default).bar).isSome<;>simp
   · rw[zAe] at hc
     rw[hs] at hc
     simp only[zAg,zBc] at hc
     have hm:(l.getD k default).id∉(l.take k).map (fun b=>b.id):=of_decide_eq_false hc.1.2
     refine⟨k+1,⟨by omega,fun j hj=>aH au (by rw[hno,hc.1.1,hc.2];rfl) hj,(lp _ l k hlt).2 ⟨hnd,hm⟩⟩,by omega,⟨rfl,rfl,rfl,rfl,rfl,rfl,tI⟩,?_⟩
     rw[←pK _ l k hlt hm];rfl
   · exfalso;omega
 · repeat' (first|refine qT ?_|refine sqW ?_|refine rgK fun U V=>?_|(refine aN V ?_;clear V U)|refine aS ?_|refine aA ?_|refine cX ?_ ?_<;>intro hc<;>try simp only[dE] at hc|refine blK ?_|refine exW ?_|refine skW ?_|refine rtW ?_)
   · exfalso;omega
   · refine⟨.inr rfl,Ent.b ?_⟩
     have htk:l.take k=l:=zAh oM
     rw[htk] at hnd
     unfold fk
     rw[uh fun j hj=>au j oM,decide_eq_true hnd,h1.1,decide_eq_true h1.2];rfl
end Go.Proofs.YthiaimakjmhegaaGreatDoor
namespace Go.Ab
theorem PRun.eq {P:Program} {o:Oper} {env:Env} {σ:ae} {v v':AV} (h:PRun P o env σ v) (e:v=v'):PRun P o env σ v':=e▸h
theorem PRun.qB {P:Program} {T:Tab} (hT:T.Ok P) {o:Oper} {env:Env} {σ:ae} {s d:TypeId} {x:Operand} {k k':IntKind} {a r:Int} {lis:LI} {sz by':Nat} {z:List Z} (h:k'.wrap a=r) (ho:o.op=.convert s d x) (hx:rdv env x=some (.prim (.int k a))) (nx:rdn env x) (hs':T.get s=some lis) (hl:T.get d=some ⟨.int k',sz,by',z⟩) :
 PRun P o env σ (.prim (.int k' r)):=h▸PRun.HA hT ho hx nx hs' hl
theorem PRun.remV {P:Program} {o:Oper} {env:Env} {σ:ae} {t t':TypeId} {x y:Operand} {k:IntKind} {a b r:Int} (h:a.tmod b=r) (hb:b≠0) (ho:o.op=.binOp .rem t x y t') (hx:rdv env x=some (.prim (.int k a))) (nx:rdn env x) (hy:rdv env y=some (.prim (.int k b))) (ny:rdn env y) :
 PRun P o env σ (.prim (.int k r)):=h▸PRun.rem ho (Rd.w hx nx) (Rd.w hy ny) hb
end Go.Ab
namespace Go.Proofs.YthiaimakjmhegaaGreatDoor.Ed
open Go.Ab
attribute [local irreducible] AWP AOps EStep AQ PStep PRun PCall TCall VCall
structure cN where
 number:Int
 bar:Int
 pass:Int
 deriving Inhabited
structure Letter where
 name:ByteArray
 pos:Int
 deriving Inhabited
structure ah where
 id:Int
 version:Int
 bars:List cN
 letters:List Letter
def bz (p:cN):List AV:=[.int p.number,.int p.bar,.int p.pass]
def dL (p:Letter):List AV:=[.str p.name,.int p.pos]
def aF (e:ah):List AV:=[.int e.id,.int e.version,.sl 3 (e.bars.map bz) .no,.sl 2 (e.letters.map dL) .no]
theorem xB (e:ah):PCall Tryz.prog 33 [.agg (aF e)] (.b (decide ((e.bars.length:Int)≤80)&&decide ((e.letters.length:Int)≤60))):=by
 refine PCall.body Tryz.func33 rfl rfl Tryz.ntmps33 rfl rfl ?_
 repeat' (first|refine qT ?_|apply sqW|refine rgK fun U V=>?_|(refine aN V ?_;clear V U)|refine aB ?_|refine rtW ?_)
 exact⟨.inr rfl,fun _ _ h=>h⟩
def nameAt (s:ByteArray) (i:Nat):Bool :=
 (decide (((s.data.toList.getD i 0).toNat:Int)≥65)&&decide (((s.data.toList.getD i 0).toNat:Int)≤90)) ||
 ((decide (((s.data.toList.getD i 0).toNat:Int)≥48)&&decide (((s.data.toList.getD i 0).toNat:Int)≤57))&&decide (i≠0))
def eB (s:ByteArray):Bool:=decide (1≤s.size)&&decide (s.size≤12)&&(List.range s.size).all (nameAt s)
def fm (l:List Letter) (nm:ByteArray):Int:=az (fun x=>x.name.toList==nm.toList) l
def gx (p:cN):Bool:=inB p.number 0 100000&&inB p.bar 1 1000000&&inB p.pass 0 9
def kF (e:ah) (i:Nat):Bool :=
 eB (e.letters.getD i default).name&&inB (e.letters.getD i default).pos 0 ((e.bars.length:Int) - 1)&&fm e.letters (e.letters.getD i default).name==(i:Int)
def iS (e:ah):Bool:=inB e.id 1 1000000&&inB e.version 1 1000000&&inB e.bars.length 1 4000&&decide ((e.letters.length:Int)≤1000)
def bE (e:ah):Bool:=iS e&&e.bars.all gx&&(List.range e.letters.length).all (kF e)
end Go.Proofs.YthiaimakjmhegaaGreatDoor.Ed
