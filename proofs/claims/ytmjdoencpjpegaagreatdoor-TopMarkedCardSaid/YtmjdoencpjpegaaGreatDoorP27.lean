/- Parts of the proof. No statement is proved here. -/
import Derived.Test.YtmjdoencpjpegaaGreatDoorP24
set_option linter.unusedVariables false
set_option linter.unusedSimpArgs false
set_option maxHeartbeats 16000000
set_option maxRecDepth 20000
namespace Go.Ab
theorem tT {ops:Array Oper} {o:Oper} {env:Env} {j d:Nat} {want t:Bool} (h1:o.guard=some (j,want)) (h2:(ops[j]?).bind (·.dst)=some d) (h3:env d=.prim (.bool t)):gOf ops env o=some (.yes (t==want)):=by
 unfold gOf;rw[h1];simp only;rw[h2];simp only;rw[h3]
end Go.Ab
namespace Go.Proofs.YtmjdoencpjpegaaGreatDoor.Al
open Go.Ab Go.Sort
attribute [local irreducible] AWP AOps EStep AQ PStep PRun PCall TCall VCall
def MB (p:Nat→aF) (ps:PL):aa:=[p 0,p 1,p 2,p 3,p 4,p 5,p 6,p 7,.map (Go.Ab.aD ekI AV.int ps),.map (Go.Ab.aD ekI AV.int (swp ps))]
def MO (p:Nat→aF) (a b:List ag) (g:Nat) (ps:PL):aa:=[p 0,p 1,p 2,p 3,p 4,p 5,p 6,p 7,.map (Go.Ab.aD ekI AV.int ps),.map (Go.Ab.aD ekI AV.int (swp ps)),.var [.sl 12 (b.map ar) .no],.var [.map 8],.var [.map 9],.var [.fn (.func g) [] []],.var [.sl 12 (a.map ar) .no],.var [.map 8]]
def MI (p:Nat→aF) (a b:List ag) (g:Nat) (ps:PL) (m:ag):aa:=[p 0,p 1,p 2,p 3,p 4,p 5,p 6,p 7,.map (Go.Ab.aD ekI AV.int ps),.map (Go.Ab.aD ekI AV.int (swp ps)),.var [.sl 12 (b.map ar) .no],.var [.map 8],.var [.map 9],.var [.fn (.func g) [] []],.var [.sl 12 (a.map ar) .no],.var [.map 8],.var (ar m),.var [.sl 12 (b.map ar) .no],.var [.map 9]]
def wy (n:ag):List AV:=[.agg (ar n)]
theorem B8 {s:aa} {L:Nat} (h:s.length=L∧s.all (ak L)=true):s.all (ak s.length)=true:=by rw[h.1];exact h.2
theorem free_spec (l:List ag) (ix:Nat) (σ:aa) (hix:ix<σ.length) (hok:σ.all (ak σ.length)=true):TCall Tryz.prog 222 [.sl 12 (l.map ar) .no,.map ix] σ
 (fun r s=>r=.fn (.func 239) [] [.ptr σ.length 0,.ptr (σ++[aF.var [.sl 12 (l.map ar) .no]]).length 0]∧s=σ++[.var [.sl 12 (l.map ar) .no]]++[.var [.map ix]]):=by
 refine TCall.body Tryz.func222 rfl rfl Tryz.ntmps222 rfl rfl ?_
 repeat' (first|refine qS ?_|apply sqW|refine rgK fun U V=>?_|(refine aN V ?_;clear V U)|refine aB ?_|refine rtW ?_)
 refine⟨.inr rfl,_,_,⟨rfl,rfl⟩,zB2 ..,by simp only[lLa,zAc,zAi];omega,?_,?_,rfl⟩
 · simp only[zBs,zAq,zAu,lLa,zAc,zAi];rw[dx (show σ.length≤σ.length+(0+1)+(0+1) by omega) hok];have h1:decide (ix<σ.length+(0+1)+(0+1))=true:=decide_eq_true oM;show(true&&(true&&true)&&((decide (ix<σ.length+(0+1)+(0+1))&&true)&&true))=true;rw[h1];rfl
 · show((decide (σ.length<_)&&(decide (_<_)&&true)))=true;rw[decide_eq_true (by simp only[lLa,zAc,zAi];omega),decide_eq_true (by simp only[lLa,zAc,zAi];omega)];rfl
theorem DG (p:Nat→aF) (f:ag→ag→Bool) (a b:List ag) (g:Nat) (ps:PL) (hnd:(a.map (·.id)).Nodup) (hl:a.length≤1000000000) (rc:Loop) (E:List (Nat×AV)) (Pj:Nat→Prop) :
 nK Tryz.prog 239 [] [.ptr 14 0,.ptr 15 0] ((c9 a ps).map wy) 17 (fun j=>MO p a b g (df f a b ps j)++[.loop rc E]) Pj:=by
 intro yv R hP0 hS hR hyd cv;have hy:=hyd 2;rw[lLm] at *;have hyc:∀(c:Nat) (n:ag),(c9 a ps)[c]? = some n→Pj c→VCall Tryz.prog (.opq yv) [.agg (ar n)] ((MO p a b g (df f a b ps c)++[.loop rc E])++[.var (ar n)]) (fun r t=>∃t',t=t'++[.var (ar n)]∧((r=.b true∧t'=MO p a b g (df f a b ps (c+1))++[.loop rc E]∧Pj (c+1))∨(r=.b false∧R c t'))):=fun c n hc hp=>by
  have hlt:c<(c9 a ps).length:=by
   rcases nLg c (c9 a ps).length with h|h
   · exact h
   · rw[zA2 h] at hc;cases hc
  have hv:=VCall.frame (cv c [.agg (ar n)] (by rw[zA3,hc];rfl) hp) [.var (ar n)] (by have h9:=(hS c oM).2;exact h9) (by show aG _ 3 yv=true;exact hy) rfl (by
   rintro rv s' (⟨_,rfl,_⟩|⟨_,hh⟩)
   · exact((hS (c+1) oM).1).trans ((hS c oM).1).symm
   · exact((hR _ _ hh).1).trans ((hS c oM).1).symm)
  exact hv
 show TCall _ _ [.opq yv,.ptr 14 0,.ptr 15 0] (MO p a b g (df f a b ps 0)++[.loop rc E]) _;refine TCall.body Tryz.func239 rfl rfl Tryz.ntmps239 rfl rfl ?_
 repeat' (first|refine qT ?_|apply sqW|refine rgK fun U V=>?_|(refine aN V ?_;clear V U)|refine blK ?_)
 refine lpD (ι:=Nat) (fun k=>[(0,.opq yv),(1,.ptr 14 0),(2,.ptr 15 0),(8,.sl 12 (a.map ar) .no),(9,.int a.length),(10,.int k)]) (fun k=>MO p a b g (df f a b ps (((a.take k).filter fun x=>!bC ps x.id).length))++[.loop rc E])
  (fun k=>k≤a.length∧Pj (((a.take k).filter fun x=>!bC ps x.id).length)) (fun k=>a.length - k) 17 (fun _=>rfl) 0 ⟨nZl _,hP0⟩ ⟨rfl,rfl,rfl,rfl,rfl,rfl,tI⟩ rfl (fun k _=>by
   simp only[zAq,zAu,zC2,zA0];exact⟨hy,rfl,rfl,rfl,rfl,rfl⟩) (fun k hk=>(hS (((a.take k).filter fun x=>!bC ps x.id).length) (fU (fun x:ag=>!bC ps x.id) a k)).2) ?_
 rintro k ⟨hk,hPk⟩;have hcl:((a.take k).filter fun x=>!bC ps x.id).length≤(c9 a ps).length:=fU (fun x:ag=>!bC ps x.id) a k;by_cases hlt:k<a.length
 · obtain⟨n,hn⟩:∃n,a.getD k default=n:=⟨_,rfl⟩
   have hlk:=KZ (f:=f) (b:=b) (ps:=ps) hnd hlt;rw[hn] at hlk;by_cases hfr:bC ps n.id=true
   · rw[hfr] at hlk;have hc1:=uO (fun x:ag=>!bC ps x.id) a hlt (by rw[hn,hfr];rfl);generalize ((a.take k).filter fun x=>!bC ps x.id).length=c at *;clear hyc cv
     repeat' (first|refine qP ?_ (h:=fun hg=>by first|exact PRun.eq (v:=.tup [.int ((lk (df f a b ps c) n.id).getD 0),.b (lk (df f a b ps c) n.id).isSome]) (PRun.lookup (ok:=true) (ek:=ekI) (ev:=AV.int) (al:=df f a b ps c) (key:=n.id) (zv:=0) (ay (lkG rfl)) (lkG rfl) (lkG rfl) rfl rfl (Rd.w rfl nd) (Or.inr ⟨_,rfl,rfl⟩) (Rd.w rfl nd) rfl) (show AV.tup [.int ((lk (df f a b ps c) n.id).getD 0),.b (lk (df f a b ps c) n.id).isSome]=AV.tup [.int ((lk (df f a b ps c) n.id).getD 0),.b true] by rw[hlk])|exact iX ar a ((k:Nat):Int) hn (hb:=oM)|exact ae|exact(Bool.noConfusion (show false=true from hg):PRun _ _ _ _ (.b false))|exact ah)|apply sqW|refine rgK fun U V=>?_|(refine aN V ?_;clear V U)|refine aS ?_|refine aA ?_|refine cX ?_ ?_<;>intro hc<;>try simp only[dE] at hc|refine blK ?_|refine exW ?_|refine skW ?_|refine rtW ?_)
     all_goals (first|exact dd|skip)
     exact⟨k+1,⟨hlt,by rw[hc1];exact hPk⟩,oM,⟨rfl,rfl,rfl,rfl,rfl,rfl,tI⟩,by rw[hc1];rfl⟩
   · have zR:bC ps n.id=false:=by simpa using hfr
     rw[zR] at hlk;obtain⟨hc0,hc1⟩:=wY (fun x:ag=>!bC ps x.id) a hlt (by rw[hn,zR];rfl);rw[hn] at hc0;have hc2:((a.take (k+1)).filter fun x=>!bC ps x.id).length≤(c9 a ps).length:=fU (fun x:ag=>!bC ps x.id) a (k+1);rw[hc1] at hc2;generalize ((a.take k).filter fun x=>!bC ps x.id).length=c at *;have hv:=hyc c n hc0 hPk;clear hyc cv
     repeat' (first|refine qP ?_ (h:=fun hg=>by first|exact PRun.eq (v:=.tup [.int ((lk (df f a b ps c) n.id).getD 0),.b (lk (df f a b ps c) n.id).isSome]) (PRun.lookup (ok:=true) (ek:=ekI) (ev:=AV.int) (al:=df f a b ps c) (key:=n.id) (zv:=0) (ay (lkG rfl)) (lkG rfl) (lkG rfl) rfl rfl (Rd.w rfl nd) (Or.inr ⟨_,rfl,rfl⟩) (Rd.w rfl nd) rfl) (show AV.tup [.int ((lk (df f a b ps c) n.id).getD 0),.b (lk (df f a b ps c) n.id).isSome]=AV.tup [.int ((lk (df f a b ps c) n.id).getD 0),.b false] by rw[hlk])|exact iX ar a ((k:Nat):Int) hn (hb:=oM)|exact ae|exact ah)|apply sqW|refine rgK fun U V=>?_|(refine aN V ?_;clear V U)|refine aS ?_|refine aA ?_|refine cX ?_ ?_<;>intro hc<;>try simp only[dE] at hc|refine blK ?_|refine exW ?_|refine aoE (EStep.gd (tT rfl rfl rfl) rfl <| scT hv rfl rfl rfl rfl rfl (by exact rfl) rfl rfl (by repeat' (first|exact tI|exact rfl|refine⟨?_,?_⟩)) ?_)|refine skW ?_)
     all_goals (first|exact dd|skip)
     rintro r t ⟨t',rfl,(⟨rfl,rfl,hp1⟩|⟨rfl,hh⟩)⟩
     · repeat' (first|refine qS ?_|refine rgK fun U V=>?_|(refine aN V ?_;clear V U)|refine cX ?_ ?_<;>intro hc<;>try simp only[dE] at hc|refine skW ?_|refine rtW ?_)
       all_goals (first|exact dd|skip)
       exact⟨k+1,⟨hlt,by rw[hc1];exact hp1⟩,oM,⟨rfl,rfl,rfl,rfl,rfl,rfl,tI⟩,by rw[hc1];rfl⟩
     · obtain⟨k1,k2⟩:=hR _ _ hh
       repeat' (first|refine qS ?_|refine rgK fun U V=>?_|(refine aN V ?_;clear V U)|refine cX ?_ ?_<;>intro hc<;>try simp only[dE] at hc|refine skW ?_|refine rtW ?_)
       all_goals (first|exact dd|skip)
       exact⟨.inr rfl,.tup [],t',.inr ⟨c,oM,hh⟩,by simp,by rw[k1];exact nLr _,by rw[k1];exact k2,rfl,rfl⟩
 · have hce:((a.take k).filter fun x=>!bC ps x.id).length=(c9 a ps).length:=by rw[zAn oM];rfl
   rw[hce] at hPk;have kK:=B8 (L:=17) (hS (((a.take k).filter fun x=>!bC ps x.id).length) hcl);have sD:MO p a b g (df f a b ps (((a.take k).filter fun x=>!bC ps x.id).length))++[aF.loop rc E]=MO p a b g (df f a b ps (c9 a ps).length)++[aF.loop rc E]:=by first|rw[hce]|rfl
   generalize ((a.take k).filter fun x=>!bC ps x.id).length=c at *;clear hyc cv
   repeat' (first|refine qT ?_|apply sqW|refine rgK fun U V=>?_|(refine aN V ?_;clear V U)|refine aS ?_|refine aA ?_|refine cX ?_ ?_<;>intro hc<;>try simp only[dE] at hc|refine blK ?_|refine exW ?_|refine skW ?_)
   all_goals (first|exact dd|skip)
   exact⟨.inl rfl,.tup [],MO p a b g (df f a b ps c)++[.loop rc E],.inl ⟨sD,hPk⟩,rfl,nLr _,kK,rfl,rfl⟩
theorem DH (p:Nat→aF) (a b:List ag) (g:Nat) (ps:PL) (m:ag) (hl:b.length≤1000000000) (rc:Loop) (E:List (Nat×AV)) (Pj:Nat→Prop) :
 nK Tryz.prog 239 [] [.ptr 17 0,.ptr 18 0] ((dr b ps).map wy) 20 (fun j=>MI p a b g ps m++[.loop rc E]) Pj:=by
 intro yv R hP0 hS hR hyd cv;have hy:=hyd 2;rw[lLm] at *;have hyc:∀(c:Nat) (n:ag),(dr b ps)[c]? = some n→Pj c→VCall Tryz.prog (.opq yv) [.agg (ar n)] ((MI p a b g ps m++[.loop rc E])++[.var (ar n)]) (fun r t=>∃t',t=t'++[.var (ar n)]∧((r=.b true∧t'=MI p a b g ps m++[.loop rc E]∧Pj (c+1))∨(r=.b false∧R c t'))):=fun c n hc hp=>by
  have hlt:c<(dr b ps).length:=by
   rcases nLg c (dr b ps).length with h|h
   · exact h
   · rw[zA2 h] at hc;cases hc
  have hv:=VCall.frame (cv c [.agg (ar n)] (by rw[zA3,hc];rfl) hp) [.var (ar n)] (by have h9:=(hS c oM).2;exact h9) (by show aG _ 3 yv=true;exact hy) rfl (by
   rintro rv s' (⟨_,rfl,_⟩|⟨_,hh⟩)
   · exact((hS (c+1) oM).1).trans ((hS c oM).1).symm
   · exact((hR _ _ hh).1).trans ((hS c oM).1).symm)
  exact hv
 show TCall _ _ [.opq yv,.ptr 17 0,.ptr 18 0] (MI p a b g ps m++[.loop rc E]) _;refine TCall.body Tryz.func239 rfl rfl Tryz.ntmps239 rfl rfl ?_
 repeat' (first|refine qT ?_|apply sqW|refine rgK fun U V=>?_|(refine aN V ?_;clear V U)|refine blK ?_)
 refine lpD (ι:=Nat) (fun k=>[(0,.opq yv),(1,.ptr 17 0),(2,.ptr 18 0),(8,.sl 12 (b.map ar) .no),(9,.int b.length),(10,.int k)]) (fun k=>MI p a b g ps m++[.loop rc E])
  (fun k=>k≤b.length∧Pj (((b.take k).filter fun x=>!bV ps x.id).length)) (fun k=>b.length - k) 20 (fun _=>rfl) 0 ⟨nZl _,hP0⟩ ⟨rfl,rfl,rfl,rfl,rfl,rfl,tI⟩ rfl (fun k _=>by
   simp only[zAq,zAu,zC2,zA0];exact⟨hy,rfl,rfl,rfl,rfl,rfl⟩) (fun k hk=>(hS (((b.take k).filter fun x=>!bV ps x.id).length) (fU (fun x:ag=>!bV ps x.id) b k)).2) ?_
 rintro k ⟨hk,hPk⟩;have hcl:((b.take k).filter fun x=>!bV ps x.id).length≤(dr b ps).length:=fU (fun x:ag=>!bV ps x.id) b k;by_cases hlt:k<b.length
 · obtain⟨n,hn⟩:∃n,b.getD k default=n:=⟨_,rfl⟩
   have hlk:=xe ps (b.getD k default).id;rw[hn] at hlk;by_cases hfr:bV ps n.id=true
   · rw[hfr] at hlk;have hc1:=uO (fun x:ag=>!bV ps x.id) b hlt (by rw[hn,hfr];rfl);generalize ((b.take k).filter fun x=>!bV ps x.id).length=c at *;clear hyc cv
     repeat' (first|refine qP ?_ (h:=fun hg=>by first|exact PRun.eq (v:=.tup [.int ((lk (swp ps) n.id).getD 0),.b (lk (swp ps) n.id).isSome]) (PRun.lookup (ok:=true) (ek:=ekI) (ev:=AV.int) (al:=swp ps) (key:=n.id) (zv:=0) (ay (lkG rfl)) (lkG rfl) (lkG rfl) rfl rfl (Rd.w rfl nd) (Or.inr ⟨_,rfl,rfl⟩) (Rd.w rfl nd) rfl) (show AV.tup [.int ((lk (swp ps) n.id).getD 0),.b (lk (swp ps) n.id).isSome]=AV.tup [.int ((lk (swp ps) n.id).getD 0),.b true] by rw[hlk])|exact iX ar b ((k:Nat):Int) hn (hb:=oM)|exact ae|exact(Bool.noConfusion (show false=true from hg):PRun _ _ _ _ (.b false))|exact ah)|apply sqW|refine rgK fun U V=>?_|(refine aN V ?_;clear V U)|refine aS ?_|refine aA ?_|refine cX ?_ ?_<;>intro hc<;>try simp only[dE] at hc|refine blK ?_|refine exW ?_|refine skW ?_|refine rtW ?_)
     all_goals (first|exact dd|skip)
     exact⟨k+1,⟨hlt,by rw[hc1];exact hPk⟩,oM,⟨rfl,rfl,rfl,rfl,rfl,rfl,tI⟩,rfl⟩
   · have zR:bV ps n.id=false:=by simpa using hfr
     rw[zR] at hlk;obtain⟨hc0,hc1⟩:=wY (fun x:ag=>!bV ps x.id) b hlt (by rw[hn,zR];rfl);rw[hn] at hc0;have hc2:((b.take (k+1)).filter fun x=>!bV ps x.id).length≤(dr b ps).length:=fU (fun x:ag=>!bV ps x.id) b (k+1);rw[hc1] at hc2;generalize ((b.take k).filter fun x=>!bV ps x.id).length=c at *;have hv:=hyc c n hc0 hPk;clear hyc cv
     repeat' (first|refine qP ?_ (h:=fun hg=>by first|exact PRun.eq (v:=.tup [.int ((lk (swp ps) n.id).getD 0),.b (lk (swp ps) n.id).isSome]) (PRun.lookup (ok:=true) (ek:=ekI) (ev:=AV.int) (al:=swp ps) (key:=n.id) (zv:=0) (ay (lkG rfl)) (lkG rfl) (lkG rfl) rfl rfl (Rd.w rfl nd) (Or.inr ⟨_,rfl,rfl⟩) (Rd.w rfl nd) rfl) (show AV.tup [.int ((lk (swp ps) n.id).getD 0),.b (lk (swp ps) n.id).isSome]=AV.tup [.int ((lk (swp ps) n.id).getD 0),.b false] by rw[hlk])|exact iX ar b ((k:Nat):Int) hn (hb:=oM)|exact ae|exact ah)|apply sqW|refine rgK fun U V=>?_|(refine aN V ?_;clear V U)|refine aS ?_|refine aA ?_|refine cX ?_ ?_<;>intro hc<;>try simp only[dE] at hc|refine blK ?_|refine exW ?_|refine aoE (EStep.gd (tT rfl rfl rfl) rfl <| scT hv rfl rfl rfl rfl rfl (by exact rfl) rfl rfl (by repeat' (first|exact tI|exact rfl|refine⟨?_,?_⟩)) ?_)|refine skW ?_)
     all_goals (first|exact dd|skip)
     rintro r t ⟨t',rfl,(⟨rfl,rfl,hp1⟩|⟨rfl,hh⟩)⟩
     · repeat' (first|refine qS ?_|refine rgK fun U V=>?_|(refine aN V ?_;clear V U)|refine cX ?_ ?_<;>intro hc<;>try simp only[dE] at hc|refine skW ?_|refine rtW ?_)
       all_goals (first|exact dd|skip)
       exact⟨k+1,⟨hlt,by rw[hc1];exact hp1⟩,oM,⟨rfl,rfl,rfl,rfl,rfl,rfl,tI⟩,rfl⟩
     · obtain⟨k1,k2⟩:=hR _ _ hh
       repeat' (first|refine qS ?_|refine rgK fun U V=>?_|(refine aN V ?_;clear V U)|refine cX ?_ ?_<;>intro hc<;>try simp only[dE] at hc|refine skW ?_|refine rtW ?_)
       all_goals (first|exact dd|skip)
       exact⟨.inr rfl,.tup [],t',.inr ⟨c,oM,hh⟩,by simp,by rw[k1];exact nLr _,by rw[k1];exact k2,rfl,rfl⟩
 · have hce:((b.take k).filter fun x=>!bV ps x.id).length=(dr b ps).length:=by rw[zAn oM];rfl
   rw[hce] at hPk;have kK:=B8 (L:=20) (hS (((b.take k).filter fun x=>!bV ps x.id).length) hcl);have sD:MI p a b g ps m++[aF.loop rc E]=MI p a b g ps m++[aF.loop rc E]:=by first|rw[hce]|rfl
   generalize ((b.take k).filter fun x=>!bV ps x.id).length=c at *;clear hyc cv
   repeat' (first|refine qT ?_|apply sqW|refine rgK fun U V=>?_|(refine aN V ?_;clear V U)|refine aS ?_|refine aA ?_|refine cX ?_ ?_<;>intro hc<;>try simp only[dE] at hc|refine blK ?_|refine exW ?_|refine skW ?_)
   all_goals (first|exact dd|skip)
   exact⟨.inl rfl,.tup [],MI p a b g ps m++[.loop rc E],.inl ⟨sD,hPk⟩,rfl,nLr _,kK,rfl,rfl⟩
def qf (p:Nat→aF):Prop:=∀i m,8≤m→ak m (p i)=true
theorem rN (m:Nat) (al:PL):ak m (.map (Go.Ab.aD ekI AV.int al))=true:=by
 show(Go.Ab.aD ekI AV.int al).all (fun kv=>aG m 3 kv.2)=true;rw[zA6];intro x hx;obtain⟨p,_,rfl⟩:=zAf.1 hx;rfl
theorem lX {m k:Nat} (h:k<m):ak m (.var [.map k])=true:=by
 show(decide (k<m)&&true)=true;rw[decide_eq_true h];rfl
theorem x8 {p:Nat→aF} (h:qf p) {m:Nat} (hm:10≤m) (ps:PL):(MB p ps).all (ak m)=true:=by
 have h0:=fun i=>h i m oM
 simp only[MB,zAq,zAu,h0,rN];rfl
theorem Ng {p:Nat→aF} (h:qf p) {m:Nat} (hm:10≤m) (a b:List ag) (g:Nat) (ps:PL):(MO p a b g ps).all (ak m)=true:=by
 have h0:=fun i=>h i m oM
 have h1:=lX (show 8<m by omega);have h2:=lX (show 9<m by omega);simp only[MO,zAq,zAu,h0,rN,h1,h2];rfl
theorem JA {p:Nat→aF} (h:qf p) {m:Nat} (hm:10≤m) (a b:List ag) (g:Nat) (ps:PL) (n:ag):(MI p a b g ps n).all (ak m)=true:=by
 have h0:=fun i=>h i m oM
 have h1:=lX (show 8<m by omega);have h2:=lX (show 9<m by omega);simp only[MI,zAq,zAu,h0,rN,h1,h2];rfl
def S14 (p:Nat→aF) (b:List ag) (g:Nat) (ps:PL):aa:=[p 0,p 1,p 2,p 3,p 4,p 5,p 6,p 7,.map (Go.Ab.aD ekI AV.int ps),.map (Go.Ab.aD ekI AV.int (swp ps)),.var [.sl 12 (b.map ar) .no],.var [.map 8],.var [.map 9],.var [.fn (.func g) [] []]]
def S17 (p:Nat→aF) (a b:List ag) (g:Nat) (ps:PL) (m:ag):aa:=[p 0,p 1,p 2,p 3,p 4,p 5,p 6,p 7,.map (Go.Ab.aD ekI AV.int ps),.map (Go.Ab.aD ekI AV.int (swp ps)),.var [.sl 12 (b.map ar) .no],.var [.map 8],.var [.map 9],.var [.fn (.func g) [] []],.var [.sl 12 (a.map ar) .no],.var [.map 8],.var (ar m)]
theorem Mb {p:Nat→aF} (h:qf p) {m:Nat} (hm:10≤m) (b:List ag) (g:Nat) (ps:PL):(S14 p b g ps).all (ak m)=true:=by
 have h0:=fun i=>h i m oM
 have h1:=lX (show 8<m by omega);have h2:=lX (show 9<m by omega);simp only[S14,zAq,zAu,h0,rN,h1,h2];rfl
theorem Mc {p:Nat→aF} (h:qf p) {m:Nat} (hm:10≤m) (a b:List ag) (g:Nat) (ps:PL) (n:ag):(S17 p a b g ps n).all (ak m)=true:=by
 have h0:=fun i=>h i m oM
 have h1:=lX (show 8<m by omega);have h2:=lX (show 9<m by omega);simp only[S17,zAq,zAu,h0,rN,h1,h2];rfl
theorem K0 (ps:PL) (i k:Int):swp (ps++[(i,k)])=swp ps++[(k,i)]:=by unfold swp;rw[zAz];rfl
theorem H8 {a:List ag} {ps:PL} {f:ag→ag→Bool} {b:List ag} (hn:(a.map (·.id)).Nodup) {j:Nat} (hj:j<(c9 a ps).length):bC (df f a b ps j) ((c9 a ps).getD j default).id=false:=by
 have hnf:((c9 a ps).map (·.id)).Nodup:=(List.filter_sublist.map _).nodup hn;have wx:(c9 a ps).getD j default∈c9 a ps:=by rw[aU hj];exact lGm hj
 unfold df;rw[p9 (fun x hx e=>?_)]
 · have:=(zCb.1 wx).2;simpa using this
 · have h2:(((c9 a ps).take (j+1)).map (·.id)).Nodup:=((zE1 (j+1) _).map _).nodup hnf;exact((fi (fun n:ag=>n.id) (c9 a ps) j hj).1 h2).2 (zAf.2 ⟨x,hx,e⟩)
theorem H9 {b:List ag} {ps:PL} {k:Nat} (hk:k<(dr b ps).length):bV ps ((dr b ps).getD k default).id=false:=by
 have wx:(dr b ps).getD k default∈dr b ps:=by rw[aU hk];exact lGm hk
 have:=(zCb.1 wx).2;simpa using this
theorem lenB (b:List ag) (ps:PL):(dr b ps).length≤b.length:=zBm _ _
def FN:List (Nat×AV):=[(6,.ptr 10 0),(7,.ptr 11 0),(8,.ptr 12 0),(9,.ptr 13 0)]
def B9:List (Nat×AV):=[(6,.ptr 10 0),(7,.ptr 11 0),(8,.ptr 12 0),(9,.ptr 13 0),(10,.ptr 16 0)]
def x9 (f:ag→ag→Bool) (m:ag) (b:List ag) (ps:PL) (k:Nat):Prop:=∀i,i<k→f m ((dr b ps).getD i default)=false
def DI (p:Nat→aF) (f:ag→ag→Bool) (a b:List ag) (g:Nat) (ps:PL) (m:ag) (k:Nat) (x:Exit) (s:aa):Prop :=
 k<(dr b ps).length∧x=.exit 2∧s=MI p a b g (ps++[(m.id,((dr b ps).getD k default).id)]) m∧x9 f m b ps k∧f m ((dr b ps).getD k default)=true
theorem DJ {p:Nat→aF} (hp:qf p) {f:ag→ag→Bool} {g:Nat} (hf:∀x y,PCall Tryz.prog g [.agg (ar x),.agg (ar y)] (.b (f x y))) (a b:List ag) (hla:a.length≤1000000000) (hlb:b.length≤1000000000) (hnd:(a.map (·.id)).Nodup) (ps:PL) :
 TCall Tryz.prog 203 [.sl 12 (a.map ar) .no,.sl 12 (b.map ar) .no,.map 8,.map 9,.fn (.func g) [] []] (MB p ps) (fun r s=>r=.tup []∧s=MB p (cj f a b ps)):=by
 have hv1:=TCall.val (first:=[]) (aM:=[]) (avs:=[.sl 12 (a.map ar) .no,.map 8]) (free_spec a 8 (S14 p b g ps) (by show 8<14;decide) (Mb hp (by show 10≤14;decide) b g ps));refine TCall.body Tryz.func203 rfl rfl Tryz.ntmps203 rfl rfl ?_
 repeat' (first|refine qS ?_|apply sqW|refine rgK fun U V=>?_|(refine aN V ?_;clear V U)|refine aB ?_|refine aoE (scT (hv1) rfl rfl rfl rfl rfl nd rfl rfl nds ?_))
 rintro _ _ ⟨rfl,rfl⟩
 repeat' (first|(refine aN V ?_;clear V U)|refine blK ?_)
 refine AWP.gU ((c9 a ps).map wy) FN (fun j=>MO p a b g (df f a b ps j)) (fun _=>True) (fun _ _ _=>False) (fun rc=>DG p f a b g ps hnd hla rc FN (fun _=>True)) tI rfl tI ?_ ?_ rfl ⟨rfl,rfl,rfl,rfl,tI⟩ rfl rfl (fun j _=>⟨rfl,Ng hp (by show 10≤16;decide) a b g _⟩) (fun _ _ _ h=>h.elim) ?_ ?_ (fun _ _ _ _ h=>h.elim)
 · intro x hx;obtain⟨n,_,rfl⟩:=zAf.1 hx;rfl
 · intro x hx;obtain⟨n,_,rfl⟩:=zAf.1 hx;rfl
 · intro j x hx _;have hj:j<(c9 a ps).length:=by
    rcases nLg j (c9 a ps).length with h|h
    · exact h
    · rw[zA2 (by simpa using h)] at hx;cases hx
   obtain⟨m,hm⟩:∃m,(c9 a ps).getD j default=m:=⟨_,rfl⟩
   have hxm:x=wy m:=by
    rw[zA3,zA1 hj,zB4] at hx;rw[←hm,aU hj];simpa using hx.symm
   subst hxm;have hmf:=H8 (f:=f) (b:=b) hnd hj;have hst:=FD (f:=f) (b:=b) hj;rw[hm] at hmf hst;have lB:=lenB b (df f a b ps j);show AWP _ _ _ (fun x e s=>x=.normal∧AWP _ _ _ (ig 16 (MO p a b g (df f a b ps (j+1))) True fun _ _=>False) e s) _ (MO p a b g (df f a b ps j));rw[hst];generalize df f a b ps j=q at *;have hv2:=TCall.val (first:=[]) (aM:=[]) (avs:=[.sl 12 (b.map ar) .no,.map 9]) (free_spec b 9 (S17 p a b g q m) (by show 9<17;decide) (Mc hp (by show 10≤17;decide) a b g q m));clear hv1 hst hx
   repeat' (first|refine rgK fun U V=>?_|(refine aN V ?_;clear V U)|refine aS ?_|refine aA ?_)
   refine⟨rfl,?_⟩
   repeat' (first|refine qS ?_|apply sqW|refine rgK fun U V=>?_|refine aoE (scT (hv2) rfl rfl rfl rfl rfl nd rfl rfl nds ?_)|refine blK ?_)
   rintro _ _ ⟨rfl,rfl⟩
   repeat' (first|(refine aN V ?_;clear V U)|refine blK ?_)
   refine AWP.gU ((dr b q).map wy) B9 (fun _=>MI p a b g q m) (x9 f m b q) (DI p f a b g q m) (fun rc=>DH p a b g q m hlb rc B9 (x9 f m b q)) (fun i h=>absurd h (zEa _)) rfl tI ?_ ?_ rfl ⟨rfl,rfl,rfl,rfl,rfl,tI⟩ rfl rfl (fun j _=>⟨rfl,JA hp (by show 10≤19;decide) a b g _ _⟩) ?_ ?_ ?_ ?_
   · intro x hx;obtain⟨n,_,rfl⟩:=zAf.1 hx;rfl
   · intro x hx;obtain⟨n,_,rfl⟩:=zAf.1 hx;rfl
   · rintro k x s ⟨_,_,rfl,_⟩;exact⟨rfl,JA hp (by show 10≤19;decide) a b g _ _⟩
   · intro k x hx hno;have hk:k<(dr b q).length:=by
      rcases nLg k (dr b q).length with h|h
      · exact h
      · rw[zA2 (by simpa using h)] at hx;cases hx
     obtain⟨y,hy⟩:∃y,(dr b q).getD k default=y:=⟨_,rfl⟩
     have hxy:x=wy y:=by
      rw[zA3,zA1 hk,zB4] at hx;rw[←hy,aU hk];simpa using hx.symm
     subst hxy;have hyf:=H9 (b:=b) (ps:=q) hk;rw[hy] at hyf;have hfm:=hf m y;have h1:ins q m.id y.id=q++[(m.id,y.id)]:=oQ hmf;have h2:ins (swp q) y.id m.id=swp (q++[(m.id,y.id)]):=by
      rw[K0];exact oQ (by rw[←zp,xe];exact hyf)
     have hin:DI p f a b g q m k (.exit 2) (MI p a b g (q++[(m.id,y.id)]) m)↔f m y=true:=by
      unfold DI;rw[hy];exact⟨fun h=>h.2.2.2.2,fun h=>⟨hk,rfl,rfl,hno,h⟩⟩
     clear hv2 hx;show AWP _ _ _ (fun x e s=>x=.normal∧AWP _ _ _ (ig 19 (MI p a b g q m) (x9 f m b q (k+1)) (DI p f a b g q m k)) e s) _ (MI p a b g q m)
     repeat' (first|refine rgK fun U V=>?_|(refine aN V ?_;clear V U)|refine aS ?_|refine aA ?_)
     refine⟨rfl,?_⟩
     repeat' (first|refine qP ?_ (h:=fun hg=>by first|exact ae|exact pc hfm|fail)|apply sqW|refine rgK fun U V=>?_|(refine aN V ?_;clear V U)|refine cX ?_ ?_<;>intro hc<;>try simp only[dE] at hc|refine blK ?_|refine skW ?_)
     · refine AWP.gj dJ (fun j=>match j with|0=>MI p a b g q m++[.var (ar y)]|1=>[p 0,p 1,p 2,p 3,p 4,p 5,p 6,p 7,.map (Go.Ab.aD ekI AV.int (q++[(m.id,y.id)])),.map (Go.Ab.aD ekI AV.int (swp q)),.var [.sl 12 (b.map ar) .no],.var [.map 8],.var [.map 9],.var [.fn (.func g) [] []],.var [.sl 12 (a.map ar) .no],.var [.map 8],.var (ar m),.var [.sl 12 (b.map ar) .no],.var [.map 9],.var (ar y)]|_=>MI p a b g (q++[(m.id,y.id)]) m++[.var (ar y)]) rfl (by kernel_rfl) dKn rfl dKn (fun U V=>?_)
       repeat' (first
        |refine yt (hk:=?_)|fail)
       refine YQ.e (v:=.any) (d:=none) rfl rfl rfl ?_ ?_
       · intro au he;refine EStep.dm (ek:=ekI) (ev:=AV.int) (al:=q) (key:=m.id) (v:=y.id) (ay (lkG rfl)) (lkG rfl) rfl rfl rfl (Rd.w ((ai (he 24 dKn)).trans rfl) (by rw[aj (he 24 dKn)];first|exact tI|exact rfl)) rfl (Rd.w ((ai (he 26 dKn)).trans rfl) (by rw[aj (he 26 dKn)];first|exact tI|exact rfl)) rfl (Rd.w ((ai (he 31 dKn)).trans rfl) (by rw[aj (he 31 dKn)];first|exact tI|exact rfl)) ⟨rfl,?_⟩;rw[h1];rfl
       refine YQ.e (v:=.any) (d:=none) rfl rfl rfl ?_ ?_
       · intro au he;refine EStep.dm (ek:=ekI) (ev:=AV.int) (al:=swp q) (key:=y.id) (v:=m.id) (ay (lkG rfl)) (lkG rfl) rfl rfl rfl (Rd.w ((ai (he 27 dKn)).trans rfl) (by rw[aj (he 27 dKn)];first|exact tI|exact rfl)) rfl (Rd.w ((ai (he 29 dKn)).trans rfl) (by rw[aj (he 29 dKn)];first|exact tI|exact rfl)) rfl (Rd.w ((ai (he 33 dKn)).trans rfl) (by rw[aj (he 33 dKn)];first|exact tI|exact rfl)) ⟨rfl,?_⟩;rw[h2];rfl
       refine YQ.nil (V _ _ ?_);clear V U
       repeat' (first|refine exW ?_)
       exact hin.2 hc
     · refine⟨rfl,fun i hi=>bA hno ?_ hi⟩;rw[hy];exact hc
   · intro hno
     skip
     refine⟨?_,tI⟩;show _=MO p a b g (cI f b q m);rw[lLm] at hno;rw[DC hmf hno];rfl
   · rintro k x s hk ⟨hk,rfl,rfl,hno,hft⟩
     skip
     refine⟨?_,tI⟩;show _=MO p a b g (cI f b q m);rw[HW hmf hk hno hft];rfl
 · intro _;have he:=HV (f:=f) (a:=a) (b:=b) (ps:=ps);rw[lLm]
   skip
   refine⟨.inl rfl,.tup [],MB p (cj f a b ps),⟨rfl,rfl⟩,?_,by show 10≤10;decide,x8 hp (by show 10≤10;decide) _,rfl,rfl⟩;show(MO p a b g (df f a b ps (c9 a ps).length)).take 10=_;rw[he];rfl
end Go.Proofs.YtmjdoencpjpegaaGreatDoor.Al
