/- Parts of the proof. No statement is proved here. -/
import Derived.Test.YtmjdoencpjpegaaGreatDoorP6
import Derived.Test.YtmjdoencpjpegaaGreatDoorP7
set_option linter.unusedVariables false
set_option linter.unusedSimpArgs false
set_option maxHeartbeats 16000000
set_option maxRecDepth 20000
namespace Go.Proofs.YtmjdoencpjpegaaGreatDoor
open Go.Ab
theorem nd {p:Prop} (h:p:=by first|exact True.intro|exact hg):p:=h
theorem nds {p:Prop} (h:p:=by first|exact True.intro|exact⟨True.intro,True.intro⟩|exact⟨True.intro,True.intro,True.intro⟩|(repeat' (first|exact True.intro|exact hg|refine⟨?_,?_⟩))):p:=h
theorem sd {p:Prop} (h:p:=by first|exact True.intro|exact⟨True.intro,True.intro,True.intro⟩|exact hg|exact⟨True.intro,True.intro⟩|exact⟨hg,hg,True.intro⟩|(repeat' (first|exact True.intro|exact hg|omega|decide|refine⟨?_,?_⟩|(intro h;change (_==_)=true;rw[h];rfl)|(intro h;change (_&&(_==_))=true;rw[zA0];exact⟨hg,by rw[h];rfl⟩)|(exfalso;revert hg;simp;done)|(simp at hc;omega)|(exfalso;simp at hc;done)|(simp at hg;simp_all;done)|(simp at hg;simp_all;omega)))):p:=h
theorem ah {o:Oper} {env:Env} {σ:aa} {v:AV} (h:PRun Tryz.prog o env σ v:=by first
 |exact PRun.vQ ab rfl rfl nd rfl nd rfl rfl oM
 |exact PRun.ph ab rfl rfl nd rfl
 |exact PRun.lenW ab rfl rfl nd rfl
 |exact PRun.qI rfl rfl nd rfl nd rfl
 |exact PRun.negWr rfl rfl nd
 |exact PRun.Ez rfl rfl nd):PRun Tryz.prog o env σ v:=h
theorem ae {o:Oper} {env:Env} {σ:aa} {v:AV} (h:PRun Tryz.prog o env σ v:=by exact PRun.step ab rfl sd):PRun Tryz.prog o env σ v:=h
theorem iX {α:Type} [Inhabited α] (f:α→List AV) (l:List α) (i:Int) {x:α} {o:Oper} {env:Env} {σ:aa} (hx:l.getD i.toNat default=x) (h:∀_:0≤i∧i<l.length,PRun Tryz.prog o env σ (.iptr (f (l.getD i.toNat default))):=by exact fun hb=>PRun.vQ ab rfl rfl nd rfl nd rfl rfl hb) (hb:0≤i∧i<l.length):PRun Tryz.prog o env σ (.iptr (f x)):=hx▸h hb
theorem cdN {n:Nat} {K:Exit→Env→aa→Prop} {env:Env} {σ:aa} {t:Nat} {x y:Code} {v:Bool} {p q:Prop} (hv:rdv env (.tmp t)=some (.b v)) (hn:rdn env (.tmp t)) (ht:p→AWP Tryz.prog n x K env σ) (hf:q→AWP Tryz.prog n y K env σ) (c:(v=true→p)∧(v=false→q):=by first|exact⟨fun h=>of_decide_eq_true h,fun h=>Int.not_lt.1 (of_decide_eq_false h)⟩|exact⟨fun h=>of_decide_eq_true h,fun h=>Int.not_le.1 (of_decide_eq_false h)⟩|exact⟨fun h=>(h:(@BEq.beq _ _ _ _)=true),fun h=>(h:(@BEq.beq _ _ _ _)=false)⟩|exact⟨fun h=>of_decide_eq_true h,fun h=>of_decide_eq_false h⟩|exact⟨fun h=>h,fun h=>h⟩):AWP Tryz.prog n (.cond (.tmp t) x y) K env σ:=AWP.Ct hv hn (fun h=>ht (c.1 h)) (fun h=>hf (c.2 h))
theorem dd {C:Prop} (h:False:=by first|(omega)|(simp at hc;done)|(simp at hc;omega)|(simp only[dEf,dEt] at hc;omega)|(rename_i h0;simp at h0;done)|(rename_i h0;simp at h0;omega)|fail):C:=h.elim
end Go.Proofs.YtmjdoencpjpegaaGreatDoor
namespace Go.Ab
theorem tI:True:=True.intro
abbrev pcW:=@PRun.I4
abbrev pbW:=@PRun.Ls
abbrev rgK:=@AWP.JZ
abbrev aoE:=@AOps.e
abbrev stW:=@EStep.Em
abbrev aoN:=@AOps.nil
abbrev alW:=@EStep.El
abbrev cdW:=@AWP.Ct
abbrev blK:=@AWP.block
abbrev sqW:=@AWP.seq
abbrev bxW:=@EStep.boxW
abbrev skW:=@AWP.skip
abbrev rtW:=@AWP.ret
abbrev dK2:=@AWP.Ew
abbrev dL2:=@AWP.Ex
abbrev aoQ:=@AOps.q
abbrev exW:=@AWP.exit
abbrev aqN:=@AQ.nil
abbrev aqQ:=@AQ.q
abbrev yqQ:=@YQ.q
abbrev piW:=@PRun.vQ
abbrev pbD:=@PRun.Ly
abbrev pbS:=@PRun.GM
abbrev scT:=@EStep.MH
abbrev apO:=@EStep.CC
abbrev lpD:=@AWP.MF
abbrev lpW:=@AWP.ME
abbrev nLr:=@Nat.le_refl
abbrev nZl:=@Nat.zero_le
abbrev nLg:=@Nat.lt_or_ge
abbrev lLm:=@List.length_map
abbrev lLa:=@List.length_append
abbrev lMm:=@List.mem_map
abbrev lGm:=@List.getElem_mem
end Go.Ab
namespace Go.Proofs.YtmjdoencpjpegaaGreatDoor
open Go.Ab
theorem lkG {t:TypeId} {li:LI} (h:tab.get t=some li):LOk Tryz.prog t li:=LOk.of (ab.get h)
theorem dE:(∀(p:Prop) [Decidable p],(decide p=true)=p)∧(∀(p:Prop) [Decidable p],(decide p=false)=¬p)∧(∀a b:Int,(¬a<b)=(b≤a))∧(∀a b:Int,(¬a≤b)=(b<a)):=⟨fun p _=>propext decide_eq_true_iff,fun p _=>propext dEf,fun _ _=>propext iNl,fun _ _=>propext iNe⟩
section
variable {n:Nat} {ops:Array Oper} {o:Oper} {rest:List Oper} {env:Env} {σ:aa} {K:Env→aa→Prop}
theorem qS {v v':AV} {g:GG} {d:Nat} (hk:AOps Tryz.prog n ops K rest (env.put d v') σ) (hd:o.dst=some d:=by exact rfl) (hn:decide (d<n)=true:=by exact rfl) (hg:gOf ops env o=some g:=by exact rfl) (h:g.holds→PRun Tryz.prog o env σ v:=by intro hg;exact ae) (hv:(g.wrap v).wh=some v':=by exact rfl):AOps Tryz.prog n ops K (o::rest) env σ:=AOps.q hd hn hg h hv hk
theorem qT {v v':AV} {g:GG} {d:Nat} (hk:AOps Tryz.prog n ops K rest (env.put d v') σ) (hd:o.dst=some d:=by exact rfl) (hn:decide (d<n)=true:=by exact rfl) (hg:gOf ops env o=some g:=by exact rfl) (h:g.holds→PRun Tryz.prog o env σ v:=by intro hg;first|exact ae|exact ah) (hv:(g.wrap v).wh=some v':=by exact rfl):AOps Tryz.prog n ops K (o::rest) env σ:=AOps.q hd hn hg h hv hk
theorem qR {v v':AV} {g:GG} {d:Nat} (hd:o.dst=some d) (hn:decide (d<n)=true) (hg:gOf ops env o=some g) (h:g.holds→PRun Tryz.prog o env σ v) (hk:AOps Tryz.prog n ops K rest (env.put d v') σ) (hv:(g.wrap v).wh=some v':=by exact rfl):AOps Tryz.prog n ops K (o::rest) env σ:=AOps.q hd hn hg h hv hk
theorem aN {U:Env→aa→Prop} (V:∀e s,K e s→U e s) (h:K env σ):AOps Tryz.prog n ops U [] env σ:=AOps.nil (V _ _ h)
theorem qP {v v':AV} {g:GG} {d:Nat} (hk:AOps Tryz.prog n ops K rest (env.put d v') σ) (hd:o.dst=some d:=by exact rfl) (hn:decide (d<n)=true:=by exact rfl) (hg:gOf ops env o=some g:=by exact rfl) (h:g.holds→PRun Tryz.prog o env σ v) (hv:(g.wrap v).wh=some v':=by exact rfl):AOps Tryz.prog n ops K (o::rest) env σ:=AOps.q hd hn hg h hv hk
theorem aS {t:TypeId} {x y:Operand} {l off:Nat} {u:AV} {cs us cs':List AV} {li:LI} (hk:AOps Tryz.prog n ops K rest (env.bj o.dst .any) (σ.set l (.var cs'))) (ho:o.op=.store t x y:=by exact rfl) (hg:o.guard=none:=by exact rfl) (hx:rdv env x=some (.ptr l off):=by exact rfl) (nx:rdn env x:=by exact True.intro) (hσ:σ[l]? = some (.var cs):=by exact rfl)
 (hy:rdv env y=some u:=by exact rfl) (ny:rdn env y:=by exact True.intro) (hc:bY u=some us:=by exact rfl) (gQ:us.all fb=true:=by exact rfl) (hl:tab.get t=some li:=by exact rfl) (hsz:li.size=us.length:=by exact rfl) (hle:(decide (off+us.length≤cs.length))=true:=by exact rfl) (hdn:fa n o=true:=by exact rfl) (hf:dH (gG cs off us)=some cs':=by exact rfl):AOps Tryz.prog n ops K (o::rest) env σ:=AOps.e (EStep.Em ab ho hg hx nx hσ hy ny hc gQ hl hsz hle hdn hf hk)
theorem aB {t:TypeId} {x:Operand} {u:AV} {d:Nat} {cs cs':List AV} (hk:AOps Tryz.prog n ops K rest (env.put d (.ptr σ.length 0)) (σ++[.var cs'])) (ho:o.op=.box t x:=by exact rfl) (hg:o.guard=none:=by exact rfl) (hd:o.dst=some d:=by exact rfl) (hdn:(decide (d<n))=true:=by exact rfl) (hx:rdv env x=some u:=by exact rfl) (nx:rdn env x:=by exact True.intro) (hc:bY u=some cs:=by exact rfl) (hf:dH cs=some cs':=by exact rfl):AOps Tryz.prog n ops K (o::rest) env σ:=AOps.e (EStep.boxW ho hg hd hdn hx nx hc hf hk)
theorem aA {t:TypeId} {d:Nat} {li:LI} {cs:List AV} (hk:AOps Tryz.prog n ops K rest (env.put d (.ptr σ.length 0)) (σ++[.var cs])) (ho:o.op=.alloc t:=by exact rfl) (hg:o.guard=none:=by exact rfl) (hd:o.dst=some d:=by exact rfl) (hdn:(decide (d<n))=true:=by exact rfl) (hl:tab.get t=some li:=by exact rfl) (hf:dH (li.zero.map Z.av)=some cs:=by exact rfl):AOps Tryz.prog n ops K (o::rest) env σ:=AOps.e (EStep.El ab ho hg hd hdn hl hf hk)
theorem pc {fo:Operand} {args:Array Operand} {Ts:Array TypeId} {k:Nat} {first aM avs:List AV} {r:AV} (h:PCall Tryz.prog k avs r) (ho:o.op=.call { callee:=.value fo,args:=args,argTypes:=Ts }:=by exact rfl) (hf:rdv env fo=some (.fn (.func k) first aM):=by exact rfl) (nf:rdn env fo:=by exact nd) (ha:first.map (unb 4)++(args.toList.map fun x=>unb 4 (cU env x).st)++aM.map (unb 4)=avs:=by exact rfl) (hn:fc env args.toList:=by exact nds):PRun Tryz.prog o env σ r:=PRun.I4 h ho hf nf ha hn
end
section
variable {n:Nat} {id:Nat} {l:List Oper} {K:Exit→Env→aa→Prop} {env:Env} {σ:aa}
theorem kD (h:∀U:Env→Prop,(∀e,K .normal e σ→U e)→AQ Tryz.prog l.toArray σ U l env) (hq:l.all (fun o=>!dJ o)=true:=by decide +kernel) (hm:Tryz.prog.follows .mixedOrders=true:=by kernel_rfl) (hB:Region.lexB .any l.toArray=true:=by decide +kernel) (hd:eU n l.toArray=true:=by exact rfl):AWP Tryz.prog n (.region id l.toArray true) K env σ:=AWP.Ew hq hm hB hd h
theorem lD (h:∀U:Env→aa→Prop,(∀e s,K .normal e s→U e s)→AQ Tryz.prog l.toArray σ (fun e=>AOps Tryz.prog n l.toArray U (l.drop (fC l)) e σ) (l.take (fC l)) env) (hm:Tryz.prog.follows .mixedOrders=true:=by kernel_rfl) (hB:(decide (fC l≤l.length)&&vU .any l.toArray (fC l) 0 (Array.replicate l.length false)&&mi .any l.toArray (fC l))=true:=by decide +kernel) (hd:eU n l.toArray=true:=by exact rfl):AWP Tryz.prog n (.region id l.toArray true) K env σ:=AWP.Ex hm hB hd h
theorem cX {t:Nat} {x y:Code} {v:Bool} (ht:v=true→AWP Tryz.prog n x K env σ) (hf:v=false→AWP Tryz.prog n y K env σ) (hv:rdv env (.tmp t)=some (.b v):=by exact rfl) (hn:rdn env (.tmp t):=by exact True.intro):AWP Tryz.prog n (.cond (.tmp t) x y) K env σ:=AWP.Ct hv hn ht hf
end
end Go.Proofs.YtmjdoencpjpegaaGreatDoor
namespace Go.Proofs.YtmjdoencpjpegaaGreatDoor
open Go.Ab
section
variable {n:Nat} {ops:Array Oper} {S:Nat→aa} {eff:Oper→Bool} {lo hi aK:Nat→Nat} {K:Env→Nat→Prop} {env:Env} {i j:Nat} {o:Oper} {rest:List Oper} {v v':AV} {g:GG} {d a b:Nat}
theorem yR (he:eff o=false:=by exact rfl) (hlo:lo i=a:=by decide +kernel) (hhi:hi i=b:=by decide +kernel) (hj:(decide (a≤j)&&decide (j≤b))=true:=by exact rfl) (hd:o.dst=some d:=by exact rfl) (hg:gOf ops env o=some g:=by exact rfl) (h:∀k,a≤k→k≤b→g.holds→PRun Tryz.prog o env (S k) v) (hv:g.wrap v=v':=by exact rfl) (hk:YQ Tryz.prog n ops S eff lo hi aK K rest (i+1) (env.put d v') j):YQ Tryz.prog n ops S eff lo hi aK K (o::rest) i env j:=YQ.q he hlo hhi hj hd hg h hv hk
theorem yt (he:eff o=false:=by exact rfl) (hj:(decide (lo i≤j)&&decide (j≤hi i)&&decide (hi i≤3))=true:=by decide +kernel) (hd:o.dst=some d:=by exact rfl) (hg:gOf ops env o=some g:=by exact rfl) (h:((decide (lo i≤0)&&decide (0≤hi i))=true→g.holds→PRun Tryz.prog o env (S 0) v)∧((decide (lo i≤1)&&decide (1≤hi i))=true→g.holds→PRun Tryz.prog o env (S 1) v)∧((decide (lo i≤2)&&decide (2≤hi i))=true→g.holds→PRun Tryz.prog o env (S 2) v)∧((decide (lo i≤3)&&decide (3≤hi i))=true→g.holds→PRun Tryz.prog o env (S 3) v):=by refine⟨?_,?_,?_,?_⟩<;>intro hh hg<;>first|exact absurd hh dKn|exact ae|exact ah) (hv:g.wrap v=v':=by exact rfl) (hk:YQ Tryz.prog n ops S eff lo hi aK K rest (i+1) (env.put d v') j):YQ Tryz.prog n ops S eff lo hi aK K (o::rest) i env j:=by
 simp only[zA0,dEt] at hj h
 refine yR he rfl rfl (by simp only[zA0,dEt];exact hj.1) hd hg (fun k h1 h2=>?_) hv hk
 have hk:k=0∨k=1∨k=2∨k=3:=by omega
 rcases hk with rfl|rfl|rfl|rfl
 · exact h.1 ⟨h1,h2⟩
 · exact h.2.1 ⟨h1,h2⟩
 · exact h.2.2.1 ⟨h1,h2⟩
 · exact h.2.2.2 ⟨h1,h2⟩
end
end Go.Proofs.YtmjdoencpjpegaaGreatDoor
namespace Go.Proofs.YtmjdoencpjpegaaGreatDoor
open Go.Ab
attribute [local irreducible] AWP AOps EStep AQ PStep PRun PCall TCall VCall
theorem tdiv_le (a b:Int):(a.tdiv b).natAbs≤a.natAbs:=by
 rw[Int.natAbs_tdiv];exact Nat.div_le_self _ _
theorem wO (n:Int) (h:nB (0 - n)):PCall Tryz.prog 228 [.int n] (.int (n.natAbs:Nat)):=by
 have h1:=h.1;have h2:=h.2;refine PCall.body Tryz.func228 rfl rfl Tryz.ntmps228 rfl rfl ?_
 repeat' (first|refine qS ?_|apply sqW|refine rgK fun U V=>?_|(refine aN V ?_;clear V U)|refine rtW ?_)
 exact⟨.inr rfl,Ent.int oM⟩
def redS (n d:Int):aa:=[.var [.int n,.int d],.var [.int 0,.int 0],.var [.fn (.func 227) [] [.ptr 2 0]]]
theorem AB (n d:Int) (b:Nat):∀a:Nat,a≤9223372036854775807→b≤9223372036854775807 →
 TCall Tryz.prog 227 [.int a,.int b,.ptr 2 0] (redS n d) (fun r s=>r=.int (Nat.gcd a b)∧s=redS n d):=by
 induction b using Nat.strongRecOn with
 |_ b ih =>
 intro a ha hb
 refine TCall.body Tryz.func227 rfl rfl Tryz.ntmps227 rfl rfl ?_
 by_cases h0:b=0
 · subst h0
   repeat' (first|refine qS ?_|refine sqW ?_|refine rgK fun U V=>?_|(refine aN V ?_;clear V U)|refine cX ?_ ?_<;>intro hc<;>try simp only[dE] at hc|refine skW ?_|refine rtW ?_|refine kD fun U V=>?_|refine aqQ rfl rfl (fun hg=>by exact ae) (by exact rfl) ?_)
   · exact⟨.inr rfl,_,_,⟨by simp,rfl⟩,rfl,nLr _,rfl,rfl,rfl⟩
   · simp at hc
 · have hlt:a % b<b:=Nat.mod_lt _ oM
   have hv:=TCall.val (first:=[]) (aM:=[.ptr 2 0]) (avs:=[.int b,.int ((a % b:Nat):Int)]) (ih (a % b) hlt b hb oM)
   repeat' (first|refine qS ?_|refine sqW ?_|refine rgK fun U V=>?_|(refine aN V ?_;clear V U)|refine cX ?_ ?_<;>intro hc<;>try simp only[dE] at hc|refine skW ?_|refine rtW ?_|refine kD fun U V=>?_|(refine aqN (V _ ?_);clear V U)|refine aqQ rfl rfl (fun hg=>by first|exact ae|exact PRun.Jb (hv) rfl rfl nd rfl rfl nds|exact ah) (by exact rfl) ?_)
   · exfalso;simp at hc;omega
   · exact⟨.inr rfl,_,_,⟨by rw[Nat.gcd_comm a b,Nat.gcd_rec b a,Nat.gcd_comm],rfl⟩,rfl,nLr _,rfl,rfl,rfl⟩
def tq (n d:Int):Int:=if d<0 then -(Int.gcd n d:Int) else Int.gcd n d
theorem yJ (n d:Int) (hn:nB (2 * n)) (hd:nB (2 * d)) (h0:d≠0):PCall Tryz.prog 212 [.agg [.int n,.int d]] (.agg [.int (n.tdiv (tq n d)),.int (d.tdiv (tq n d))]):=by
 have hn1:=hn.1
 have hn2:=hn.2
 have hd1:=hd.1
 have hd2:=hd.2
 have hg0:0<Nat.gcd n.natAbs d.natAbs:=Int.gcd_pos_of_ne_zero_right n h0
 have hg1:Nat.gcd n.natAbs d.natAbs≤d.natAbs:=Nat.gcd_le_right _ oM
 have hv:=TCall.val (first:=[]) (aM:=[.ptr 2 0]) (avs:=[.int n.natAbs,.int d.natAbs]) (AB n d d.natAbs n.natAbs oM oM)
 have e:tq n d=if d<0 then -(Nat.gcd n.natAbs d.natAbs:Int) else Nat.gcd n.natAbs d.natAbs:=rfl
 generalize Nat.gcd n.natAbs d.natAbs=g at *
 have q1:=tdiv_le n g
 have q2:=tdiv_le n (-g)
 have q3:=tdiv_le d g
 have q4:=tdiv_le d (-g)
 refine PCall.bO ab Tryz.func212 rfl rfl Tryz.ntmps212 rfl ?_
 repeat' (first|refine qS ?_|refine sqW ?_|refine rgK fun U V=>?_|(refine aN V ?_;clear V U)|refine aB ?_|refine aS ?_|refine aA ?_|refine cX ?_ ?_<;>intro hc<;>try simp only[dE] at hc|refine skW ?_|refine rtW ?_|refine kD fun U V=>?_|refine lD fun U V=>?_|(refine aqN (V _ ?_);clear V U)|refine aqN ?_|refine aqQ rfl rfl (fun hg=>by first|exact ae|exact pc (wO n ⟨by omega,by omega⟩)|exact pc (wO d ⟨by omega,by omega⟩)|exact PRun.Jb (hv) rfl rfl nd rfl rfl nds|exact pbD ab rfl rfl nds|exact ah) (by exact rfl) ?_)
 · refine⟨.inr rfl,_,rfl,Ent.of ?_⟩
   rw[e,if_pos hc];rfl
 · refine⟨.inr rfl,_,rfl,Ent.of ?_⟩
   rw[e,if_neg oM];rfl
structure Rat where
 n:Int
 d:Int
 deriving DecidableEq,Inhabited
def tr (r:Rat):List AV:=[.int r.n,.int r.d]
def eM (r:Rat):Bool:=decide (1≤r.d)&&decide (r.d≤1000000)&&decide (-1000000000≤r.n)&&decide (r.n≤1000000000)&&(Int.gcd r.n r.d==1)
theorem eF {r:Rat}:eM r=true↔1≤r.d∧r.d≤1000000 ∧ -1000000000≤r.n∧r.n≤1000000000∧Int.gcd r.n r.d=1:=by
 simp[eM,and_assoc]
theorem MK:oJ Tryz.prog 299=some [.int .i64,.int .i64]:=by kernel_rfl
theorem GY {n d:Int} (hd:1≤d):(n.tdiv (tq n d)=n∧d.tdiv (tq n d)=d)↔Int.gcd n d=1:=by
 have h0:0<Int.gcd n d:=Int.gcd_pos_of_ne_zero_right n oM;have e:tq n d=(Int.gcd n d:Int):=by unfold tq;rw[if_neg oM]
 rw[e];constructor
 · rintro⟨_,h2⟩;rcases nLg 1 (Int.gcd n d) with h|h
   · exfalso;rw[Int.tdiv_eq_ediv_of_nonneg oM] at h2;have h3:=Int.ediv_lt_of_lt_mul (a:=d) (b:=d) (c:=(Int.gcd n d:Int)) oM (by
      have:d * 1<d * (Int.gcd n d:Int):=Int.mul_lt_mul_of_pos_left oM oM;omega)
     omega
   · omega
 · intro h;rw[h];simp
theorem lI (r:Rat):PCall Tryz.prog 175 [.agg (tr r)] (.b (eM r)):=by
 by_cases hb:1≤r.d∧r.d≤1000000 ∧ -1000000000≤r.n∧r.n≤1000000000
 · have h1:=yJ r.n r.d ⟨by omega,by omega⟩ ⟨by omega,by omega⟩ oM
   refine PCall.body Tryz.func175 rfl rfl Tryz.ntmps175 rfl rfl ?_
   repeat' (first|refine qS ?_|refine sqW ?_|refine rgK fun U V=>?_|(refine aN V ?_;clear V U)|refine aB ?_|refine cX ?_ ?_<;>intro hc<;>try simp only[dE] at hc|refine skW ?_|refine rtW ?_|refine kD fun U V=>?_|(refine aqN (V _ ?_);clear V U)|refine aqQ rfl rfl (fun hg=>by first|exact ae|exact pc h1|exact pbD ab rfl rfl nds|exact PRun.eqS MK rfl rfl nd rfl nd rfl|exact ah) (by exact rfl) ?_)
   · exfalso;simp at hc;omega
   · refine⟨.inr rfl,Ent.b ?_⟩
     have h2:=GY (n:=r.n) (d:=r.d) hb.1
     rw[zB3,eF]
     constructor
     · intro h
       exact⟨hb.1,hb.2.1,hb.2.2.1,hb.2.2.2,h2.1 (by simpa using h)⟩
     · intro h
       have:=h2.2 h.2.2.2.2
       simp[this]
 · refine PCall.body Tryz.func175 rfl rfl Tryz.ntmps175 rfl rfl ?_
   repeat' (first|refine qS ?_|refine sqW ?_|refine rgK fun U V=>?_|(refine aN V ?_;clear V U)|refine aB ?_|refine cX ?_ ?_<;>intro hc<;>try simp only[dE] at hc|refine skW ?_|refine rtW ?_|refine kD fun U V=>?_|refine aqQ rfl rfl (fun hg=>by exact ae) (by exact rfl) ?_)
   · refine⟨.inr rfl,Ent.b ?_⟩
     cases h:eM r with
     |false=>rfl
     |true=>rw[eF] at h;omega
   all_goals (exfalso;simp at hc;omega)
theorem ur {x y A B:Int} (h1:-A≤x∧x≤A) (h2:0≤y∧y≤B):-(A * B)≤x * y∧x * y≤A * B:=by
 have hA:0≤A:=oM;have a1:=Int.mul_le_mul_of_nonneg_right h1.2 h2.1;have a2:=Int.mul_le_mul_of_nonneg_right h1.1 h2.1;have a3:=Int.mul_le_mul_of_nonneg_left h2.2 hA;rw[Int.neg_mul] at a2;omega
def gb (a b:Rat):Int×Int:=if eM a&&eM b then (if a.n * b.d<b.n * a.d then (-1,0) else if a.n * b.d>b.n * a.d then (1,0) else (0,0)) else (0,1)
theorem gH (a b:Rat):PCall Tryz.prog 176 [.agg (tr a),.agg (tr b)] (.tup [.int (gb a b).1,.int (gb a b).2]):=by
 have va:=lI a
 have vb:=lI b
 refine PCall.body Tryz.func176 rfl rfl Tryz.ntmps176 rfl rfl ?_
 by_cases h:eM a=true∧eM b=true
 · have ha:=eF.1 h.1
   have hb:=eF.1 h.2
   have q1:=ur (x:=a.n) (y:=b.d) (A:=1000000000) (B:=1000000) oM oM
   have q2:=ur (x:=b.n) (y:=a.d) (A:=1000000000) (B:=1000000) oM oM
   repeat' (first|refine qP ?_ (h:=fun hg=>by first|exact ae|exact pc va|exact pc vb|exact ah)|refine sqW ?_|refine rgK fun U V=>?_|(refine aN V ?_;clear V U)|refine aB ?_|refine cX ?_ ?_<;>intro hc<;>try simp only[dE] at hc|refine blK ?_|refine skW ?_|refine rtW ?_|refine kD fun U V=>?_|(refine aqN (V _ ?_);clear V U)|refine aqQ rfl rfl (fun hg=>by exact ae) (by exact rfl) ?_)
   · exfalso;simp[h.1,h.2] at hc
   all_goals (refine⟨.inr rfl,Ent.of ?_⟩)
   · rw[show gb a b=(-1,0) from by unfold gb;rw[if_pos (by simp[h]),if_pos hc]];rfl
   · rename_i hc0
     rw[show gb a b=(1,0) from by unfold gb;rw[if_pos (by simp[h]),if_neg oM,if_pos hc]];rfl
   · rename_i hc0
     rw[show gb a b=(0,0) from by unfold gb;rw[if_pos (by simp[h]),if_neg oM,if_neg oM]];rfl
 · have e:(eM a&&eM b)=false:=by cases ha:eM a<;>cases hb:eM b<;>simp_all
   repeat' (first|refine qP ?_ (h:=fun hg=>by first|exact ae|exact pc va|exact pc vb|exact ah)|refine sqW ?_|refine rgK fun U V=>?_|(refine aN V ?_;clear V U)|refine aB ?_|refine cX ?_ ?_<;>intro hc<;>try simp only[dE] at hc|refine skW ?_|refine rtW ?_)
   · refine⟨.inr rfl,Ent.of ?_⟩
     rw[show gb a b=(0,1) from by unfold gb;rw[e];rfl];rfl
   · exfalso;revert hc;cases ha:eM a<;>cases hb:eM b<;>simp_all
def pB (r:Rat):Bool:=eM r&&decide (0≤r.n)&&(Int.tmod 1680 r.d==0)
theorem uu (r:Rat):PCall Tryz.prog 135 [.agg (tr r)] (.b (pB r)):=by
 have v:=lI r;have hd:eM r=true→r.d≠0:=fun h=>by have:=eF.1 h;omega
 refine PCall.body Tryz.func135 rfl rfl Tryz.ntmps135 rfl rfl ?_
 repeat' (first|refine qP ?_ (h:=fun hg=>by first|exact ae|exact pc v|exact ah)|apply sqW|refine rgK fun U V=>?_|(refine aN V ?_;clear V U)|refine aB ?_|refine rtW ?_)
 exact⟨.inr rfl,Ent.b rfl⟩
theorem EE (a b:Rat):PCall Tryz.prog 136 [.agg (tr a),.agg (tr b)] (.b (decide ((gb a b).1<0))):=by
 have v:=gH a b;refine PCall.body Tryz.func136 rfl rfl Tryz.ntmps136 rfl rfl ?_
 repeat' (first|refine qP ?_ (h:=fun hg=>by first|exact ae|exact pc v|exact ah)|apply sqW|refine rgK fun U V=>?_|(refine aN V ?_;clear V U)|refine aB ?_|refine rtW ?_)
 exact⟨.inr rfl,Ent.b rfl⟩
structure gg where
 step:Int
 alter:Int
 oct:Int
 deriving DecidableEq,Inhabited
def uv (p:gg):List AV:=[.int p.step,.int p.alter,.int p.oct]
theorem qY (a b c:Int):PCall Tryz.prog 214 [.int a,.int b,.int c] (.b (inB a b c)):=by
 refine PCall.body Tryz.func214 rfl rfl Tryz.ntmps214 rfl rfl ?_
 repeat' (first|refine qS ?_|apply sqW|refine rgK fun U V=>?_|(refine aN V ?_;clear V U)|refine rtW ?_)
 exact⟨.inr rfl,Ent.b rfl⟩
def fQ (p:gg):Bool:=inB p.step 0 6&&inB p.alter (-4) 4&&inB p.oct (-8) 20
theorem lJ (p:gg):PCall Tryz.prog 178 [.agg (uv p)] (.b (fQ p)):=by
 refine PCall.body Tryz.func178 rfl rfl Tryz.ntmps178 rfl rfl ?_
 repeat' (first|refine qP ?_ (h:=fun hg=>by first|exact ae|exact pc (qY _ _ _)|exact ah)|apply sqW|refine rgK fun U V=>?_|(refine aN V ?_;clear V U)|refine aB ?_|refine rtW ?_)
 exact⟨.inr rfl,Ent.b rfl⟩
def tt:List Int:=[0,2,4,5,7,9,11]
def pC (p:gg):Int:=12 * p.oct+tt.getD p.step.toNat 0+p.alter
theorem BH (n:Nat):0≤tt.getD n 0∧tt.getD n 0≤11:=by
 match n with
 |0|1|2|3|4|5|6=>decide
 |n+7=>simp[tt]
theorem sQ {p:gg}:fQ p=true↔(0≤p.step∧p.step≤6)∧(-4≤p.alter∧p.alter≤4) ∧ -8≤p.oct∧p.oct≤20:=by
 simp[fQ,inB,and_assoc]
theorem yK (p:gg) (h:fQ p=true):PCall Tryz.prog 215 [.agg (uv p)] (.int (pC p)):=by
 have h1:=sQ.1 h
 have h2:=BH p.step.toNat
 have hl:(tt.length:Int)=7:=rfl
 have hix:0≤p.step∧p.step<tt.length:=⟨by omega,by omega⟩
 refine PCall.body Tryz.func215 rfl rfl Tryz.ntmps215 rfl rfl ?_
 repeat' (first|refine qS ?_|refine sqW ?_|refine rgK fun U V=>?_|(refine aN V ?_;clear V U)|refine aB ?_|refine rtW ?_|refine kD fun U V=>?_|(refine aqN (V _ ?_);clear V U)|refine aqQ rfl rfl (fun hg=>by first|exact ae|exact PRun.Ey tt ab rfl rfl nd rfl nd rfl rfl rfl hix|exact ah) (by exact rfl) ?_)
 exact⟨.inr rfl,Ent.int rfl⟩
def eN (p:gg):Int×Int:=if fQ p then (pC p,0) else (0,1)
theorem mP (p:gg):PCall Tryz.prog 183 [.agg (uv p)] (.tup [.int (eN p).1,.int (eN p).2]):=by
 have v:=lJ p;refine PCall.body Tryz.func183 rfl rfl Tryz.ntmps183 rfl rfl ?_;by_cases h:fQ p=true
 · have w:=yK p h
   repeat' (first|refine qP ?_ (h:=fun hg=>by first|exact ae|exact pc v|exact pc w|exact ah)|apply sqW|refine rgK fun U V=>?_|(refine aN V ?_;clear V U)|refine aB ?_|refine cX ?_ ?_<;>intro hc<;>try simp only[dE] at hc|refine skW ?_|refine rtW ?_)
   · exfalso;simp[h] at hc
   · refine⟨.inr rfl,Ent.of ?_⟩;rw[show eN p=(pC p,0) from by unfold eN;rw[if_pos h]];rfl
 · repeat' (first|refine qP ?_ (h:=fun hg=>by first|exact ae|exact pc v|exact ah)|apply sqW|refine rgK fun U V=>?_|(refine aN V ?_;clear V U)|refine aB ?_|refine cX ?_ ?_<;>intro hc<;>try simp only[dE] at hc|refine skW ?_|refine rtW ?_)
   · refine⟨.inr rfl,Ent.of ?_⟩;rw[show eN p=(0,1) from by unfold eN;rw[if_neg h]];rfl
   · exfalso;simp[h] at hc
structure Interval where
 steps:Int
 l7:Int
 deriving DecidableEq,Inhabited
def encI (i:Interval):List AV:=[.int i.steps,.int i.l7]
def fh (i:Interval):Bool:=inB i.steps (-70) 70&&inB i.l7 (-120) 120
theorem yL (i:Interval):PCall Tryz.prog 247 [.agg (encI i)] (.b (fh i)):=by
 refine PCall.body Tryz.func247 rfl rfl Tryz.ntmps247 rfl rfl ?_
 repeat' (first|refine qP ?_ (h:=fun hg=>by first|exact ae|exact pc (qY _ _ _)|exact ah)|apply sqW|refine rgK fun U V=>?_|(refine aN V ?_;clear V U)|refine aB ?_|refine rtW ?_)
 exact⟨.inr rfl,Ent.b rfl⟩
def pD (i:Interval):Interval×Int:=if fh i then (⟨-i.steps,-i.l7⟩,0) else (⟨0,0⟩,1)
theorem oO {i:Interval}:fh i=true↔(-70≤i.steps∧i.steps≤70) ∧ -120≤i.l7∧i.l7≤120:=by simp[fh,inB,and_assoc]
theorem ga (i:Interval):PCall Tryz.prog 242 [.agg (encI i)] (.tup [.agg (encI (pD i).1),.int (pD i).2]):=by
 have v:=yL i;refine PCall.bO ab Tryz.func242 rfl rfl Tryz.ntmps242 rfl ?_;by_cases h:fh i=true
 · have h1:=oO.1 h
   repeat' (first|refine qP ?_ (h:=fun hg=>by first|exact ae|exact pc v|exact pbD ab rfl rfl nds|exact ah)|apply sqW|refine rgK fun U V=>?_|(refine aN V ?_;clear V U)|refine aB ?_|refine aS ?_|refine aA ?_|refine cX ?_ ?_<;>intro hc<;>try simp only[dE] at hc|refine skW ?_|refine rtW ?_)
   · exfalso;simp[h] at hc
   · refine⟨.inr rfl,_,rfl,Ent.of ?_⟩;rw[show pD i=(⟨-i.steps,-i.l7⟩,0) from by unfold pD;rw[if_pos h]];rfl
 · repeat' (first|refine qP ?_ (h:=fun hg=>by first|exact ae|exact pc v|exact pbD ab rfl rfl nds|exact ah)|apply sqW|refine rgK fun U V=>?_|(refine aN V ?_;clear V U)|refine aB ?_|refine aS ?_|refine aA ?_|refine cX ?_ ?_<;>intro hc<;>try simp only[dE] at hc|refine skW ?_|refine rtW ?_)
   · refine⟨.inr rfl,_,rfl,Ent.of ?_⟩;rw[show pD i=(⟨0,0⟩,1) from by unfold pD;rw[if_neg h]];rfl
   all_goals (exfalso;simp[h] at hc)
theorem uw (i:Interval):PCall Tryz.prog 229 [.agg (encI i)] (.b (fh i)):=by
 have v:=ga i;refine PCall.body Tryz.func229 rfl rfl Tryz.ntmps229 rfl rfl ?_
 repeat' (first|refine qP ?_ (h:=fun hg=>by first|exact ae|exact pc v|exact ah)|apply sqW|refine rgK fun U V=>?_|(refine aN V ?_;clear V U)|refine aB ?_|refine aS ?_|refine aA ?_|refine rtW ?_)
 refine⟨.inr rfl,Ent.b ?_⟩;unfold pD;cases h:fh i<;>rfl
def j6 (i:Interval):Int×Int:=if fh i then (7 * i.l7 - 12 * i.steps,0) else (0,1)
theorem AD (i:Interval):PCall Tryz.prog 213 [.agg (encI i)] (.tup [.int (j6 i).1,.int (j6 i).2]):=by
 have v:=uw i;refine PCall.body Tryz.func213 rfl rfl Tryz.ntmps213 rfl rfl ?_;by_cases h:fh i=true
 · have h1:=oO.1 h
   repeat' (first|refine qP ?_ (h:=fun hg=>by first|exact ae|exact pc v|exact ah)|apply sqW|refine rgK fun U V=>?_|(refine aN V ?_;clear V U)|refine aB ?_|refine cX ?_ ?_<;>intro hc<;>try simp only[dE] at hc|refine skW ?_|refine rtW ?_)
   · exfalso;simp[h] at hc
   · refine⟨.inr rfl,Ent.of ?_⟩;rw[show j6 i=(7 * i.l7 - 12 * i.steps,0) from by unfold j6;rw[if_pos h]];rfl
 · repeat' (first|refine qP ?_ (h:=fun hg=>by first|exact ae|exact pc v|exact ah)|apply sqW|refine rgK fun U V=>?_|(refine aN V ?_;clear V U)|refine aB ?_|refine cX ?_ ?_<;>intro hc<;>try simp only[dE] at hc|refine skW ?_|refine rtW ?_)
   · refine⟨.inr rfl,Ent.of ?_⟩;rw[show j6 i=(0,1) from by unfold j6;rw[if_neg h]];rfl
   all_goals (exfalso;simp[h] at hc)
structure Bar where
 id:Int
 len:Rat
 key:Int
 deriving DecidableEq,Inhabited
def bD (b:Bar):List AV:=[.int b.id,.int b.len.n,.int b.len.d,.int b.key]
structure ag where
 id:Int
 part:Int
 bar:Int
 eA:Int
 iA:Int
 start:Rat
 len:Rat
 pitch:gg
 deriving DecidableEq,Inhabited
def ar (n:ag):List AV:=[.int n.id,.int n.part,.int n.bar,.int n.eA,.int n.iA,.int n.start.n,.int n.start.d,.int n.len.n,.int n.len.d,.int n.pitch.step,.int n.pitch.alter,.int n.pitch.oct]
abbrev ekI (n:Int):Value:=.int .i64 n
def GZ (b:Bar):Bool:=decide (b.id<1)||decide (b.id>1000000)
def G0 (b:Bar):Bool:=!pB b.len||b.len.n==0||decide ((gb ⟨24,1⟩ b.len).1<0)
def nH (b:Bar):Bool:=!(GZ b||decide (b.key < -7)||decide (b.key>7))&&!G0 b
def fE (l:List Bar):Bool:=l.all nH&&decide ((l.map (·.id)).Nodup)&&decide (1≤l.length)&&decide (l.length≤4000)
def gI {α:Type} (f:α→Int) (l:List α):List (Int×Bool):=l.map fun b=>(f b,true)
theorem oP {α:Type} (f:α→Int) (l:List α) (k:Int):(lk (gI f l) k).getD false=decide (k∈l.map f):=by
 induction l with
 |nil=>simp[gI,lk]
 | cons x r ih =>
   simp only[gI,zBd,lk] at *;by_cases h:f x=k
   · simp[h]
   · rw[if_neg h,ih];have:¬k=f x:=fun e=>h e.symm
     simp[this]
theorem oQ {κ α:Type} [DecidableEq κ] (al:List (κ×α)) (k:κ) (v:α) (h:k∉al.map (·.1)):ins al k v=al++[(k,v)]:=by
 induction al with
 |nil=>rfl
 | cons p r ih =>
   obtain⟨k',v'⟩:=p;simp only[zBd,zAw,not_or] at h;simp only[ins,if_neg (Ne.symm h.1),ih h.2,List.cons_append]
theorem EF {α:Type} (f:α→Int) (l:List α):(gI f l).map (·.1)=l.map f:=by simp[gI]
theorem lS {α:Type} [Inhabited α] (f:α→Int) (l:List α) (k:Nat) (hk:k<l.length) (h:f (l.getD k default)∉(l.take k).map f):ins (gI f (l.take k)) (f (l.getD k default)) true=gI f (l.take (k+1)):=by
 rw[oQ _ _ _ (by rw[EF];exact h)];rw[zBe hk,aU hk];simp only[gI,zAz,zBd,List.map_nil]
theorem fi {α:Type} [Inhabited α] (f:α→Int) (l:List α) (k:Nat) (hk:k<l.length):((l.take (k+1)).map f).Nodup↔((l.take k).map f).Nodup∧f (l.getD k default)∉(l.take k).map f:=by
 rw[zBe hk,aU hk,zAz,zBz];simp only[zBd,List.map_nil,zC1,zCm,not_false_eq_true,zDb,and_true,zA9,true_and];constructor
 · rintro⟨h1,h2⟩;exact⟨h1,fun hm=>h2 _ hm _ rfl rfl⟩
 · rintro⟨h1,h2⟩;exact⟨h1,fun a ha b hb e=>h2 (by rw[←hb,←e];exact ha)⟩
theorem qZ {α:Type} [Inhabited α] (f:α→Int) (l:List α) (k:Nat) (hk:k<l.length) (h:f (l.getD k default)∈(l.take k).map f):¬(l.map f).Nodup:=fun hn=>by
 have h1:((l.take (k+1)).map f).Nodup:=by
  rw[←zD4 (k+1) l,zAz] at hn;exact(zBz.1 hn).1
 exact((fi f l k hk).1 h1).2 h
theorem ux {l:List Bar} {k:Nat} (hk:k<l.length) (h:nH (l.getD k default)=false):fE l=false:=by
 unfold fE;rw[ug hk h];rfl
theorem CG {l:List Bar} {k:Nat} (hk:k<l.length) (h:(l.getD k default).id∈(l.take k).map (·.id)):fE l=false:=by
 unfold fE;rw[decide_eq_false (qZ (fun b:Bar=>b.id) l k hk h)];simp
theorem cH (l:List Bar) (hl:l.length≤9223372036854775807):PCall Tryz.prog 82 [.sl 4 (l.map bD) .no] (.b (fE l)):=by
 refine PCall.body Tryz.func82 rfl rfl Tryz.ntmps82 rfl rfl ?_
 repeat' (first|refine qT ?_|apply sqW|refine rgK fun U V=>?_|(refine aN V ?_;clear V U)|refine aoE (EStep.cz rfl rfl rfl rfl ?_)|refine blK ?_)
 refine lpD (ι:=Nat) (fun k=>[(0,.sl 4 (l.map bD) .no),(3,.map 0),(7,.sl 4 (l.map bD) .no),(8,.int l.length),(9,.int k)]) (fun k=>[.map (aD ekI AV.b (gI (·.id) (l.take k)))])
  (fun k=>k≤l.length∧(∀j,j<k→nH (l.getD j default)=true)∧((l.take k).map (·.id)).Nodup) (fun k=>l.length - k) 1 (fun _=>rfl) 0 ⟨nZl _,fun j h=>absurd h oM,by simp⟩ ⟨rfl,rfl,rfl,rfl,rfl,tI⟩ rfl (fun _ _=>rfl) (fun k _=>by simp[ak,aD,aG]) ?_
 rintro k ⟨hk,aT,hnd⟩;by_cases hlt:k<l.length
 · have hs:=oP (fun b:Bar=>b.id) (l.take k) (l.getD k default).id
   repeat' (first|refine qP ?_ (h:=fun hg=>by first|exact ae|exact PRun.lookup (ek:=ekI) (ev:=AV.b) (zv:=false) (ay (lkG rfl)) (lkG rfl) (lkG rfl) rfl rfl (Rd.w rfl nd) (Or.inr ⟨_,rfl,rfl⟩) (Rd.w rfl nd) rfl|exact pc (uu _)|exact pc (EE ⟨24,1⟩ _)|exact pbD ab rfl rfl nds|exact ah)|apply sqW|refine rgK fun U V=>?_|(refine aN V ?_;clear V U)|refine aS ?_|refine aA ?_|refine aoE (EStep.dm (ek:=ekI) (ev:=AV.b) (v:=true) (ay (lkG rfl)) (lkG rfl) rfl rfl rfl (Rd.w rfl tI) rfl (Rd.w rfl tI) rfl (Rd.w rfl tI) ?_)|refine cX ?_ ?_<;>intro hc<;>try simp only[dE] at hc|refine blK ?_|refine exW ?_|refine skW ?_|refine rtW ?_)
   · refine⟨.inr rfl,Ent.b (Eq.symm ?_)⟩;rw[zAj] at hc;rw[hs] at hc;by_cases hm:(l.getD k default).id∈(l.take k).map (fun b=>b.id)
     · exact CG hlt hm
     · refine ux hlt ?_;rw[decide_eq_false hm,Bool.or_false] at hc;unfold nH GZ;rw[hc];rfl
   · refine⟨.inr rfl,Ent.b (Eq.symm ?_)⟩;rw[zAj] at hc;refine ux hlt ?_;unfold nH G0;rw[hc];simp
   · rename_i hc0;rw[zAj] at hc hc0;rw[hs] at hc0;simp only[zAl] at hc0;have hm:(l.getD k default).id∉(l.take k).map (fun b=>b.id):=of_decide_eq_false hc0.1.1.2;refine⟨k+1,⟨oM,fun j hj=>?_,(fi _ l k hlt).2 ⟨hnd,hm⟩⟩,oM,⟨rfl,rfl,rfl,rfl,rfl,tI⟩,?_⟩
     · refine bA aT ?_ hj;unfold nH G0;rw[hc];unfold GZ;rw[hc0.1.1.1.1,hc0.1.1.1.2,hc0.1.2,hc0.2];rfl
     · rw[←lS _ l k hlt hm];rfl
   · exfalso;omega
 · repeat' (first|refine qT ?_|apply sqW|refine rgK fun U V=>?_|(refine aN V ?_;clear V U)|refine aS ?_|refine aA ?_|refine cX ?_ ?_<;>intro hc<;>try simp only[dE] at hc|refine blK ?_|refine exW ?_|refine skW ?_|refine rtW ?_)
   · exfalso;omega
   · refine⟨.inr rfl,Ent.b ?_⟩;have htk:l.take k=l:=zAn oM;rw[htk] at hnd;unfold fE;rw[oI fun j hj=>aT j oM,decide_eq_true hnd];rw[zB3];simp;omega
def uy (r:Rat):Int:=r.n * Int.tdiv 1680 r.d
theorem nI {r:Rat}:pB r=true↔eM r=true∧0≤r.n∧Int.tmod 1680 r.d=0:=by simp[pB,and_assoc]
theorem yM {r:Rat} (h:eM r=true):0≤Int.tdiv 1680 r.d∧Int.tdiv 1680 r.d≤1680:=by
 have:=eF.1 h;have h1:=tdiv_le 1680 r.d;have h2:=Int.tdiv_nonneg (a:=1680) (b:=r.d) oM oM;omega
def dp (r:Rat):Int×Bool:=if pB r then (uy r,true) else (0,false)
theorem kF (r:Rat):PCall Tryz.prog 179 [.agg (tr r)] (.tup [.int (dp r).1,.b (dp r).2]):=by
 have v:=lI r
 have hd:eM r=true→r.d≠0:=fun h=>by have:=eF.1 h;omega
 refine PCall.body Tryz.func179 rfl rfl Tryz.ntmps179 rfl rfl ?_
 by_cases h:pB r=true
 · have h1:=nI.1 h
   have h2:=eF.1 h1.1
   have h3:=yM h1.1
   have h4:=ur (x:=r.n) (y:=Int.tdiv 1680 r.d) (A:=1000000000) (B:=1680) oM h3
   repeat' (first|refine qP ?_ (h:=fun hg=>by first|exact ae|exact pc v|exact ah)|refine sqW ?_|refine rgK fun U V=>?_|(refine aN V ?_;clear V U)|refine aB ?_|refine cX ?_ ?_<;>intro hc<;>try simp only[dE] at hc|refine skW ?_|refine rtW ?_|refine kD fun U V=>?_|(refine aqN (V _ ?_);clear V U)|refine aqQ rfl rfl (fun hg=>by exact ae) (by exact rfl) ?_)
   · exfalso;revert hc;rw[h1.1];simp;omega
   · refine⟨.inr rfl,Ent.of ?_⟩
     rw[show dp r=(uy r,true) from by unfold dp;rw[if_pos h]];rfl
 · repeat' (first|refine qP ?_ (h:=fun hg=>by first|exact ae|exact pc v|exact ah)|refine sqW ?_|refine rgK fun U V=>?_|(refine aN V ?_;clear V U)|refine aB ?_|refine cX ?_ ?_<;>intro hc<;>try simp only[dE] at hc|refine skW ?_|refine rtW ?_)
   · refine⟨.inr rfl,Ent.of ?_⟩
     rw[show dp r=(0,false) from by unfold dp;rw[if_neg h]];rfl
   · exfalso
     apply h
     rw[nI]
     simp only[zAl,zB0,dEf,bne_eq_false_iff_eq] at hc
     exact⟨hc.1.1,by omega,hc.2⟩
theorem mQ (a b c:Int):PCall Tryz.prog 181 [.int a,.int b,.int c] (.b (inB a b c)):=by
 refine PCall.body Tryz.func181 rfl rfl Tryz.ntmps181 rfl rfl ?_
 repeat' (first|refine qS ?_|apply sqW|refine rgK fun U V=>?_|(refine aN V ?_;clear V U)|refine rtW ?_)
 exact⟨.inr rfl,Ent.b rfl⟩
theorem CH (a:Int):PCall Tryz.prog 180 [.int a] (.b (inB a 1 1000000)):=by
 refine PCall.body Tryz.func180 rfl rfl Tryz.ntmps180 rfl rfl ?_
 repeat' (first|refine qP ?_ (h:=fun hg=>by first|exact ae|exact pc (mQ _ _ _)|exact ah)|apply sqW|refine rgK fun U V=>?_|(refine aN V ?_;clear V U)|refine rtW ?_)
 exact⟨.inr rfl,Ent.b rfl⟩
def si (p:gg):Bool:=fQ p&&inB p.alter (-2) 2&&inB p.oct 0 9
theorem AE (p:gg):PCall Tryz.prog 182 [.agg (uv p)] (.b (si p)):=by
 refine PCall.body Tryz.func182 rfl rfl Tryz.ntmps182 rfl rfl ?_
 repeat' (first|refine qP ?_ (h:=fun hg=>by first|exact ae|exact pc (lJ p)|exact pc (mQ _ _ _)|exact ah)|apply sqW|refine rgK fun U V=>?_|(refine aN V ?_;clear V U)|refine aB ?_|refine rtW ?_)
 exact⟨.inr rfl,Ent.b rfl⟩
def fits (b:Bar) (n:ag):Bool:=(dp n.start).2&&(dp n.len).2&&decide ((dp n.len).1>0)&&decide ((dp n.start).1+(dp n.len).1≤(dp b.len).1)
def iM (n:ag):Bool:=inB n.id 1 1000000&&inB n.part 1 1000000&&inB n.eA 0 9&&inB n.iA 0 20&&si n.pitch
def gJ (b:Bar) (n:ag):Bool:=fits b n&&iM n
theorem nJ (r:Rat):0≤(dp r).1∧(dp r).1≤1680000000000:=by
 unfold dp;split
 · rename_i h;have h1:=nI.1 h;have h2:=eF.1 h1.1;have h3:=yM h1.1;have h4:=ur (x:=r.n) (y:=Int.tdiv 1680 r.d) (A:=1000000000) (B:=1680) oM h3;exact⟨Int.mul_nonneg h1.2.1 h3.1,by show uy r≤_;unfold uy;omega⟩
 · exact⟨by decide,by decide⟩
theorem yN (b:Bar) (n:ag):PCall Tryz.prog 141 [.agg (bD b),.agg (ar n)] (.b (gJ b n)):=by
 have q1:=nJ n.start;have q2:=nJ n.len;refine PCall.body Tryz.func141 rfl rfl Tryz.ntmps141 rfl rfl ?_
 repeat' (first|refine qP ?_ (h:=fun hg=>by first|exact ae|exact pc (kF n.start)|exact pc (kF n.len)|exact pc (kF b.len)|exact pc (CH _)|exact pc (mQ _ _ _)|exact pc (AE n.pitch)|exact ah)|apply sqW|refine rgK fun U V=>?_|(refine aN V ?_;clear V U)|refine aB ?_|refine rtW ?_)
 refine⟨.inr rfl,Ent.b ?_⟩;unfold gJ fits iM;simp only[Bool.and_assoc]
def dZ (l:List Bar):List (Int×Int):=(List.range l.length).foldl (fun al i=>ins al (l.getD i default).id i) []
def mR (l:List Bar) (k:Nat):List (Int×Int):=(List.range k).foldl (fun al i=>ins al (l.getD i default).id i) []
theorem uz (l:List Bar) (k:Nat):mR l (k+1)=ins (mR l k) (l.getD k default).id k:=by
 unfold mR;rw[List.range_succ,zC6];rfl
theorem ra (l:List Bar) (hl:l.length≤9223372036854775807):PCall Tryz.prog 140 [.sl 4 (l.map bD) .no] (.imap (aD ekI AV.int (dZ l))):=by
 refine PCall.body Tryz.func140 rfl rfl Tryz.ntmps140 rfl rfl ?_
 repeat' (first|refine qT ?_|apply sqW|refine rgK fun U V=>?_|(refine aN V ?_;clear V U)|refine aoE (EStep.cz rfl rfl rfl rfl ?_)|refine blK ?_)
 refine lpD (ι:=Nat) (fun k=>[(3,.map 0),(7,.sl 4 (l.map bD) .no),(8,.int l.length),(9,.int k)]) (fun k=>[.map (aD ekI AV.int (mR l k))])
  (fun k=>k≤l.length) (fun k=>l.length - k) 1 (fun _=>rfl) 0 (nZl _) ⟨rfl,rfl,rfl,rfl,tI⟩ rfl (fun _ _=>rfl) (fun k _=>by simp[ak,aD,aG]) ?_
 intro k hk;by_cases hlt:k<l.length
 · repeat' (first|refine qT ?_|apply sqW|refine rgK fun U V=>?_|(refine aN V ?_;clear V U)|refine aS ?_|refine aA ?_|refine aoE (EStep.dm (ek:=ekI) (ev:=AV.int) (ay (lkG rfl)) (lkG rfl) rfl rfl rfl (Rd.w rfl tI) rfl (Rd.w rfl tI) rfl (Rd.w rfl tI) ?_)|refine cX ?_ ?_<;>intro hc<;>try simp only[dE] at hc|refine blK ?_|refine exW ?_|refine skW ?_|refine rtW ?_)
   · refine⟨k+1,oM,oM,⟨rfl,rfl,rfl,rfl,tI⟩,?_⟩;rw[uz];rfl
   · exfalso;omega
 · repeat' (first|refine qT ?_|apply sqW|refine rgK fun U V=>?_|(refine aN V ?_;clear V U)|refine aS ?_|refine aA ?_|refine cX ?_ ?_<;>intro hc<;>try simp only[dE] at hc|refine blK ?_|refine exW ?_|refine skW ?_)
   · exfalso;omega
   · refine AWP.lQ (ek:=ekI) (ev:=AV.int) (l:=0) rfl nC ?_;refine rtW ⟨.inr rfl,?_⟩;rw[show k=l.length by omega];exact fun _ _ h=>h
def jw (bars:List Bar) (n:ag):Bool:=match lk (dZ bars) n.bar with
 |some i=>gJ (bars.getD i.toNat default) n
 |none=>false
def du (bars:List Bar) (l:List ag):Bool:=fE bars&&decide ((l.length:Int)≤20000)&&l.all (jw bars)&&decide ((l.map (·.id)).Nodup)
theorem yO (l:List Bar):dZ l=mR l l.length:=rfl
theorem fR {κ α:Type} [DecidableEq κ] (al:List (κ×α)) (k k':κ) (v:α):lk (ins al k v) k'=if k=k' then some v else lk al k':=by
 induction al with
 |nil=>simp[ins,lk]
 | cons p r ih =>
   obtain⟨k2,v2⟩:=p;simp only[ins];by_cases h:k2=k
   · subst h;rw[if_pos rfl];by_cases h3:k2=k'<;>simp[lk,h3]
   · rw[if_neg h];by_cases h3:k2=k'
     · subst h3;simp[lk,Ne.symm h]
     · simp[lk,h3,ih]
theorem uA (l:List Bar) (id:Int):∀k i,lk (mR l k) id=some i→∃j:Nat,i=j∧j<k∧(l.getD j default).id=id
 |0,i,h=>by simp[mR,lk] at h
 | k + 1, i, h => by
   rw[uz,fR] at h;split at h
   · rename_i e;simp at h;subst h;exact⟨k,rfl,oM,e⟩
   · obtain⟨j,h1,h2,h3⟩:=uA l id k i h;exact⟨j,h1,oM,h3⟩
theorem AF {bars:List Bar} {l:List ag} {k:Nat} (hk:k<l.length) (h:jw bars (l.getD k default)=false):du bars l=false:=by
 unfold du;rw[ug hk h];simp
theorem AG {bars:List Bar} {l:List ag} {k:Nat} (hk:k<l.length) (h:(l.getD k default).id∈(l.take k).map (·.id)):du bars l=false:=by
 unfold du;rw[decide_eq_false (qZ (fun b:ag=>b.id) l k hk h)];simp
theorem ML {s t:Bool} (h:((!s||t)==false)=true):s=true:=by cases s<;>simp at h ⊢
theorem sR (bars:List Bar) (l:List ag) (hb:bars.length≤9223372036854775807) (hl:l.length≤9223372036854775807) :
 PCall Tryz.prog 84 [.sl 4 (bars.map bD) .no,.sl 12 (l.map ar) .no] (.b (du bars l)):=by
 have v:=cH bars hb
 refine PCall.body Tryz.func84 rfl rfl Tryz.ntmps84 rfl rfl ?_
 repeat' (first|refine qP ?_ (h:=fun hg=>by first|exact ae|exact pc v|exact pc (ra bars hb)|exact ah)|refine sqW ?_|refine rgK fun U V=>?_|(refine aN V ?_;clear V U)|refine aoE (EStep.cz rfl rfl rfl rfl ?_)|refine cX ?_ ?_<;>intro hc<;>try simp only[dE] at hc|refine blK ?_|refine skW ?_|refine rtW ?_)
 · refine⟨.inr rfl,Ent.b (Eq.symm ?_)⟩
   unfold du
   cases h:fE bars with
   |false=>simp
   | true =>
     rw[h] at hc;simp at hc
     have:decide ((l.length:Int)≤20000)=false:=by simp;omega
     rw[this];simp
 have h1:fE bars=true∧(l.length:Int)≤20000:=by
  simp only[zAl,zB0,dEf] at hc
  exact⟨hc.1,by omega⟩
 clear hc
 refine lpD (ι:=Nat) (fun k=>[(0,.sl 4 (bars.map bD) .no),(5,.imap (aD ekI AV.int (dZ bars))),(6,.map 0),(22,.sl 12 (l.map ar) .no),(23,.int l.length),(24,.int k)]) (fun k=>[.map (aD ekI AV.b (gI (·.id) (l.take k)))])
  (fun k=>k≤l.length∧(∀j,j<k→jw bars (l.getD j default)=true)∧((l.take k).map (·.id)).Nodup) (fun k=>l.length - k) 1 (fun _=>rfl) 0 ⟨nZl _,fun j h=>absurd h oM,by simp⟩ ⟨rfl,rfl,rfl,rfl,rfl,rfl,tI⟩ rfl (fun _ _=>rfl) (fun k _=>by simp[ak,aD,aG]) ?_
 rintro k ⟨hk,aT,hnd⟩
 by_cases hlt:k<l.length
 · have hs:=oP (fun b:ag=>b.id) (l.take k) (l.getD k default).id
   have hix:=uA bars (l.getD k default).bar bars.length
   rw[←yO] at hix
   have hix2:∀i,lk (dZ bars) (l.getD k default).bar=some i→0≤i∧i<bars.length:=fun i hi=>by
    obtain⟨j,h1,h2,_⟩:=hix i hi;omega
   have hidx:(lk (dZ bars) (l.getD k default).bar).isSome=true→0≤(lk (dZ bars) (l.getD k default).bar).getD 0∧(lk (dZ bars) (l.getD k default).bar).getD 0<bars.length:=fun h=>by
    cases hL:lk (dZ bars) (l.getD k default).bar with
    |none=>rw[hL] at h;cases h
    |some i=>exact hix2 i hL
   have hno:jw bars (l.getD k default)=((lk (dZ bars) (l.getD k default).bar).isSome&&gJ (bars.getD ((lk (dZ bars) (l.getD k default).bar).getD 0).toNat default) (l.getD k default)):=by
    unfold jw
    cases lk (dZ bars) (l.getD k default).bar<;>simp
   repeat' (first|refine qP ?_ (h:=fun hg=>by first|exact ae|exact PRun.lookup (ek:=ekI) (ev:=AV.int) (zv:=0) (ay (lkG rfl)) (lkG rfl) (lkG rfl) rfl rfl (Rd.w rfl nd) (Or.inl rfl) (Rd.w rfl nd) rfl|exact ah)|refine sqW ?_|refine rgK fun U V=>?_|(refine aN V ?_;clear V U)|refine aS ?_|refine aA ?_|refine aoE (EStep.dm (ek:=ekI) (ev:=AV.b) (v:=true) (ay (lkG rfl)) (lkG rfl) rfl rfl rfl (Rd.w rfl tI) rfl (Rd.w rfl tI) rfl (Rd.w rfl tI) ?_)|refine cX ?_ ?_<;>intro hc<;>try simp only[dE] at hc|refine blK ?_|refine exW ?_|refine skW ?_|refine rtW ?_|refine kD fun U V=>?_|(refine aqN (V _ ?_);clear V U)|refine aqQ rfl rfl (fun hg=>by first|exact ae|exact PRun.lookup (ek:=ekI) (ev:=AV.b) (zv:=false) (ay (lkG rfl)) (lkG rfl) (lkG rfl) rfl rfl (Rd.w rfl nd) (Or.inr ⟨_,rfl,rfl⟩) (Rd.w rfl nd) rfl|exact piW ab rfl rfl nd rfl nd rfl rfl (hidx (ML hg))|exact pcW (yN (bars.getD ((lk (dZ bars) (l.getD k default).bar).getD 0).toNat default) (l.getD k default)) rfl rfl nd rfl nds|exact ah) (by exact rfl) ?_)
   · refine⟨.inr rfl,Ent.b (Eq.symm ?_)⟩
     rw[zAj] at hc
     rw[hs] at hc
     by_cases hm:(l.getD k default).id∈(l.take k).map (fun b=>b.id)
     · exact AG hlt hm
     · refine AF hlt ?_
       rw[decide_eq_false hm,Bool.or_false] at hc
       rw[hno]
       revert hc
       cases (lk (dZ bars) (l.getD k default).bar).isSome<;>simp
   · rw[zAj] at hc
     rw[hs] at hc
     simp only[zAl,zB0] at hc
     have hm:(l.getD k default).id∉(l.take k).map (fun b=>b.id):=of_decide_eq_false hc.1.2
     refine⟨k+1,⟨by omega,fun j hj=>bA aT (by rw[hno,hc.1.1,hc.2];rfl) hj,(fi _ l k hlt).2 ⟨hnd,hm⟩⟩,by omega,⟨rfl,rfl,rfl,rfl,rfl,rfl,tI⟩,?_⟩
     rw[←lS _ l k hlt hm];rfl
   · exfalso;omega
 · repeat' (first|refine qT ?_|refine sqW ?_|refine rgK fun U V=>?_|(refine aN V ?_;clear V U)|refine aS ?_|refine aA ?_|refine cX ?_ ?_<;>intro hc<;>try simp only[dE] at hc|refine blK ?_|refine exW ?_|refine skW ?_|refine rtW ?_)
   · exfalso;omega
   · refine⟨.inr rfl,Ent.b ?_⟩
     have htk:l.take k=l:=zAn oM
     rw[htk] at hnd
     unfold du
     rw[oI fun j hj=>aT j oM,decide_eq_true hnd,h1.1,decide_eq_true h1.2];rfl
def CI (bars:List Bar) (id:Int):Int:=aX (fun b:Bar=>b.id==id) bars
theorem G3 {α:Type} [Inhabited α] (f:α→Int) {l:List α} (hn:(l.map f).Nodup) {i j:Nat} (hi:i<l.length) (hj:j<l.length) (e:f (l.getD i default)=f (l.getD j default)):i=j:=by
 rw[aU hi,aU hj] at e;exact(List.getElem_inj (h₀:=by simpa using hi) (h₁:=by simpa using hj) hn).1 (by simpa using e)
theorem yP {l:List Bar} (h:fE l=true):(l.map (·.id)).Nodup:=by
 unfold fE at h;simp only[zA0,dEt] at h;exact h.1.1.2
end Go.Proofs.YtmjdoencpjpegaaGreatDoor
