/- Parts of the proof. No statement is proved here. -/
import Derived.Test.YtmjdoencpjpegaaGreatDoorP14
import Derived.Test.YtmjdoencpjpegaaGreatDoorP15
import Derived.Test.YtmjdoencpjpegaaGreatDoorP16
set_option linter.unusedVariables false
set_option linter.unusedSimpArgs false
set_option maxHeartbeats 16000000
set_option maxRecDepth 20000
namespace Go.Proofs.YtmjdoencpjpegaaGreatDoor.Pl
open Go.Ab Go.Pl
structure Call where
 letter:ByteArray
 number:Int
 bars:Int
 wu:Rat
 pass:Int
structure Mom where
 bar:Int
 pass:Int
 pos:Rat
structure Room where
 version:Int
 form:aR
 aY:List Int
def uY:Mom:=⟨0,0,⟨0,0⟩⟩
def KV (c:Call):Bool:=(c.letter.size==0&&inB c.number 0 100000)||(Ed.CW c.letter&&c.number==0)
def L4 (c:Call):Bool:=KV c&&(pB c.wu&&decide (c.wu.n<24 * c.wu.d))&&inB c.bars (-1000) 1000&&inB c.pass 0 20000
def M5 (s:Score) (r:Room):Bool:=r.version==s.version&&r.form.bars==(s.bars.length:Int)&&bB r.form
def L5 (s:Score) (e:Ed.gM) (r:Room):Bool:=aQ s&&Ed.xZ e&&M5 s r
def under (a b:Rat):Bool:=(gb a b).2==0&&decide ((gb a b).1<0)
def L6:Jg→Int
 |.yes=>0
 |.cut=>31
 |.never=>30
def reason (s:Score) (r:Room) (m:Mom):Int :=
 if CI s.bars m.bar<0 then 32
 else if under m.pos (s.bars.getD (CI s.bars m.bar).toNat default).len=false then 3
 else L6 (force r.form ⟨CI s.bars m.bar,m.pass⟩)
def named (e:Ed.gM) (c:Call):Int×Int:=if c.letter.size≠0 then Ed.letR e c.letter else Ed.numR e c.number
def resolve (s:Score) (e:Ed.gM) (r:Room) (c:Call):Mom×Int :=
 if (L5 s e r&&L4 c)=false then (uY,1)
 else if (named e c).2≠0 then (uY,(named e c).2)
 else if (decide (0≤(named e c).1+c.bars)&&decide ((named e c).1+c.bars<(e.bars.length:Int)))=false then (uY,21)
 else if (Ed.viR e ((named e c).1+c.bars) c.pass).err≠0 then (uY,(Ed.viR e ((named e c).1+c.bars) c.pass).err)
 else if reason s r ⟨(Ed.viR e ((named e c).1+c.bars) c.pass).bar,(Ed.viR e ((named e c).1+c.bars) c.pass).pass,c.wu⟩≠0 then
  (uY,reason s r ⟨(Ed.viR e ((named e c).1+c.bars) c.pass).bar,(Ed.viR e ((named e c).1+c.bars) c.pass).pass,c.wu⟩)
 else (⟨(Ed.viR e ((named e c).1+c.bars) c.pass).bar,(Ed.viR e ((named e c).1+c.bars) c.pass).pass,c.wu⟩,0)
end Go.Proofs.YtmjdoencpjpegaaGreatDoor.Pl
namespace Go.Proofs.YtmjdoencpjpegaaGreatDoor.Top
open Go.Ab Go.Jo Mk
attribute [local irreducible] AWP AOps EStep AQ PStep PRun PCall TCall VCall
abbrev evK (m:Jo.Mark):AV:=.agg (aJ m)
abbrev ekZ (n:Int):Value:=.int .i64 n
abbrev mpO (c:Nat) (bs:List Nat) (al:List (Int×Jo.Mark)):aF:=.mapp c bs (aD ekZ evK al)
theorem zI (m c:Nat) (bs:List Nat) (al:List (Int×Jo.Mark)):ak m (mpO c bs al)=true:=by
 show(aD ekZ evK al).all (fun kv=>aG m 3 kv.2)=true;rw[zA6];intro x hx;obtain⟨p,_,rfl⟩:=zAf.1 hx;rfl
structure uZ (c:Nat) (bs:List Nat) (al:List (Int×Jo.Mark)):Prop where
 len:bs.length=al.length
 nd:bs.Nodup
 lt:∀b∈bs,b<c
 keys:(al.map (·.1)).Nodup
 few:al.length≤1000000
theorem L7 (c:Nat) (bs:List Nat) (al:List (Int×Jo.Mark)):TCall Tryz.prog 26 [.map 0] [mpO c bs al]
 (fun r s=>r=.fn (.func 54) [] [.ptr 1 0]∧s=[mpO c bs al,.var [.map 0]]):=by
 have hok:([mpO c bs al,.var [.map 0]]:aa).all (ak 2)=true:=by
  simp only[zAq,zAu,zI 2];rfl
 generalize hO:mpO c bs al=O at *;refine TCall.body Tryz.func26 rfl rfl Tryz.ntmps26 rfl rfl ?_
 repeat' (first|refine qS ?_|apply sqW|refine rgK fun U V=>?_|(refine aN V ?_;clear V U)|refine aB ?_|refine rtW ?_)
 exact⟨.inr rfl,_,[O,.var [.map 0]],⟨rfl,rfl⟩,rfl,by simp,hok,rfl,rfl⟩
def nxK (al:List (Int×Jo.Mark)) (pre:List Int) (x:List AV) (zJ:List Int):Prop:=∃k,k∈al.map (·.1)∧k∉pre∧x=[.int k]∧zJ=pre++[k]
def ov (al:List (Int×Jo.Mark)) (pre:List Int):Prop:=pre.Nodup∧∀k∈pre,k∈al.map (·.1)
def zK (al:List (Int×Jo.Mark)) (pre:List Int):Prop:=∀k∈al.map (·.1),k∈pre
theorem p4 {al:List (Int×Jo.Mark)} {pre:List Int} (h:ov al pre):pre.length≤al.length:=by
 have:=List.Nodup.length_le_of_subset h.1 (fun k hk=>h.2 k hk:pre ⊆ al.map (·.1));simpa using this
theorem xb {al:List (Int×Jo.Mark)} {pre zJ:List Int} {x:List AV} (h:ov al pre) (hn:nxK al pre x zJ):ov al zJ:=by
 obtain⟨k,h1,h2,_,rfl⟩:=hn;refine⟨?_,fun j hj=>?_⟩
 · rw[zBz];exact⟨h.1,by simp,fun a ha b hb=>by rw[zA9.1 hb];exact fun e=>h2 (e▸ha)⟩
 · rcases zAy.1 hj with hj|hj
   · exact h.2 j hj
   · rw[zA9.1 hj];exact h1
theorem Dt (c:Nat) (bs:List Nat) (al:List (Int×Jo.Mark)) (hp:uZ c bs al) (X Y:List Int→aF) (rc:Loop) (E:List (Nat×AV)) :
 Jl Tryz.prog 54 [] [.ptr 1 0] 5 (fun pre=>[mpO c bs al,.var [.map 0],X pre,Y pre,.loop rc E]) (ov al) (nxK al) (zK al) []:=by
 intro yv R hP0 hS hR hyd cv;have hy:=hyd 2
 have hyc:∀(pre:List Int) (k:Int) (seen:List Nat),ov al pre→nxK al pre [.int k] (pre++[k])→VCall Tryz.prog (.opq yv) [.int k] ([mpO c bs al,.var [.map 0],X pre,Y pre,.loop rc E]++[.miter 0 c seen c])
  (fun r t=>∃t',t=t'++[.miter 0 c seen c]∧((r=.b true∧t'=[mpO c bs al,.var [.map 0],X (pre++[k]),Y (pre++[k]),.loop rc E]∧ov al (pre++[k]))∨(r=.b false∧R pre t'))):=fun pre k seen h1 h2 =>
  VCall.frame (cv pre [.int k] (pre++[k]) h1 h2) [.miter 0 c seen c] (by have h9:=(hS pre).2;exact h9) (by show aG _ 3 yv=true;exact hy) rfl (by
   rintro rv s' (⟨_,rfl,_⟩|⟨_,hh⟩)
   · rfl
   · exact(hR _ _ hh).1)
 have hyo:aG 6 4 (.opq yv)=true:=dh (zBl 5) 3 yv hy;have kK:∀pre,([mpO c bs al,.var [.map 0],X pre,Y pre,.loop rc E]:aa).all (ak 5)=true:=fun pre=>(hS pre).2
 show TCall _ _ [.opq yv,.ptr 1 0] [mpO c bs al,.var [.map 0],X [],Y [],.loop rc E] _;refine TCall.body Tryz.func54 rfl rfl Tryz.ntmps54 rfl rfl ?_
 repeat' (first|refine qS ?_|apply sqW|refine rgK fun U V=>?_|(refine aN V ?_;clear V U)|refine aoE (EStep.LM (lkG rfl) rfl rfl rfl rfl (Rd.w rfl tI) rfl ?_)|refine blK ?_)
 refine lpD (ι:=List Nat×List Int) (fun _=>[(0,.opq yv),(5,.ptr 5 0)]) (fun q=>[mpO c bs al,.var [.map 0],X q.2,Y q.2,.loop rc E,.miter 0 c q.1 c])
  (fun q=>ov al q.2∧∀(i:Nat) (k:Int) (x:Nat),(al.map (·.1))[i]? = some k→bs[i]? = some x→(x∈q.1↔k∈q.2)) (fun q=>al.length - q.2.length) 6 (fun _=>rfl) ([],[]) ⟨hP0,by simp⟩ ⟨rfl,rfl,tI⟩ rfl (fun q _=>by
   simp only[zAq,zAu,zC2,zA0];exact⟨hyo,rfl⟩) (fun q _=>by
   show([mpO c bs al,.var [.map 0],X q.2,Y q.2,.loop rc E]++[aF.miter 0 c q.1 c]).all (ak 6)=true;rw[zBs,dx (show 5≤6 by decide) (kK q.2)];rfl) ?_
 rintro⟨seen,pre⟩ ⟨hi,hsp⟩;dsimp only at hi hsp ⊢;have hlen:=p4 hi
 repeat' (first|apply sqW|refine rgK fun U V=>?_)
 refine aoE (EStep.MU rfl rfl rfl rfl rfl tI rfl rfl hp.lt (nLr c) (fun aT=>?_) (fun i key v x hkv hbx hns=>?_))
 · have tD:zK al pre:=fun k hk=>by
    obtain⟨i,hik,e⟩:=zB9.1 hk;have hib:i<bs.length:=by rw[hp.len];simpa using hik
    exact(hsp i k bs[i] (by rw[zA1 hik,e]) (zA1 hib)).1 (aT _ (lGm hib))
   clear hyc cv
   repeat' (first|refine qS ?_|apply sqW|refine rgK fun U V=>?_|(refine aN V ?_;clear V U)|refine cX ?_ ?_<;>intro hc<;>try simp only[dE] at hc|refine blK ?_|refine exW ?_|refine skW ?_)
   all_goals (first|exact dd|skip)
   exact⟨.inl rfl,.tup [],[mpO c bs al,.var [.map 0],X pre,Y pre,.loop rc E],.inl ⟨pre,hi,tD,rfl⟩,rfl,by simp,kK pre,rfl,rfl⟩
 · obtain⟨p,hp1,rfl,rfl⟩:=dA hkv;have hk1:(al.map (·.1))[i]? = some p.1:=by rw[zA3,hp1];rfl
   have hkp:p.1∉pre:=fun h=>hns ((hsp i p.1 x hk1 hbx).2 h)
   have hnx:nxK al pre [.int p.1] (pre++[p.1]):=⟨p.1,zAe hk1,hkp,rfl,rfl⟩;have hv:=hyc pre p.1 (seen++[x]) hi hnx;have Jt:=p4 (xb hi hnx);rw[lLa] at Jt;have hin:∀(i':Nat) (k':Int) (x':Nat),(al.map (·.1))[i']? = some k'→bs[i']? = some x'→(x'∈seen++[x]↔k'∈pre++[p.1]):=fun i' k' x' h1 h2=>by
    rw[zAy,zAy,zA9,zA9,hsp i' k' x' h1 h2];have e:x'=x↔k'=p.1:=by
     constructor
     · rintro rfl;have:i'=i:=(List.getElem?_inj (zAd.1 h2).1 hp.nd).1 (h2.trans hbx.symm);subst this;rw[hk1] at h1;exact(Option.some.inj h1).symm
     · rintro rfl;have:i'=i:=(List.getElem?_inj (zAd.1 h1).1 hp.keys).1 (h1.trans hk1.symm);subst this;rw[hbx] at h2;exact(Option.some.inj h2).symm
    rw[e]
   clear hyc cv hns hsp
   repeat' (first|refine qP ?_ (h:=fun hg=>by first|exact ae|exact PRun.LN (i:=i) rfl rfl tI rfl rfl hkv hbx hp.nd|fail)|apply sqW|refine rgK fun U V=>?_|(refine aN V ?_;clear V U)|refine aoE (scT (hv) rfl rfl rfl rfl rfl nd rfl rfl nds ?_)|refine cX ?_ ?_<;>intro hc<;>try simp only[dE] at hc|refine blK ?_|refine exW ?_|refine skW ?_)
   all_goals (first|exact dd|skip)
   rintro r t ⟨t',rfl,(⟨rfl,rfl,hp1'⟩|⟨rfl,hh⟩)⟩
   · repeat' (first|refine qS ?_|(refine aN V ?_;clear V U)|refine cX ?_ ?_<;>intro hc<;>try simp only[dE] at hc|refine skW ?_|refine rtW ?_)
     all_goals (first|exact dd|skip)
     exact⟨(seen++[x],pre++[p.1]),⟨hp1',hin⟩,by simp only[lLa,zAc,zAi] at Jt ⊢;omega,⟨rfl,rfl,tI⟩,rfl⟩
   · obtain⟨k1,k2⟩:=hR _ _ hh
     repeat' (first|refine qS ?_|(refine aN V ?_;clear V U)|refine cX ?_ ?_<;>intro hc<;>try simp only[dE] at hc|refine skW ?_|refine rtW ?_)
     all_goals (first|exact dd|skip)
     exact⟨.inr rfl,.tup [],t',.inr ⟨pre,hh⟩,by simp,by rw[k1];exact nLr _,by rw[k1];exact k2,rfl,rfl⟩
def sy:List Int→AV
 |[]=>.sl 1 [] (.own 3)
 |k::pre=>.sla 3 1 0 (pre.length+1) (pre.length+1)
def apS (c:Nat) (bs:List Nat) (al:List (Int×Jo.Mark)) (pre:List Int):aa:=[mpO c bs al,.var [.map 0],.var [sy pre],.arr 1 pre.length (pre.map eZ)]
theorem Fs (c:Nat) (bs:List Nat) (al:List (Int×Jo.Mark)) (pre:List Int):(apS c bs al pre).all (ak 4)=true:=by
 have h1:ak 4 (.var [sy pre])=true:=by cases pre<;>rfl
 have h2:ak 4 (.arr 1 pre.length (pre.map eZ))=true:=by simp[ak,eZ,aG]
 unfold apS;simp only[zAq,zAu,zI 4,h1,h2];rfl
def gotK (c:Nat) (bs:List Nat) (al:List (Int×Jo.Mark)) (r:AV) (s:aa):Prop:=∃pre,ov al pre∧zK al pre∧r=sy pre∧s=apS c bs al pre
theorem A9 (c:Nat) (bs:List Nat) (al:List (Int×Jo.Mark)) (hp:uZ c bs al):TCall Tryz.prog 103 [.nils,.fn (.func 54) [] [.ptr 1 0]] [mpO c bs al,.var [.map 0]] (gotK c bs al):=by
 have hok:=Fs c bs al;have zL:=hp.few;refine TCall.body Tryz.func103 rfl rfl Tryz.ntmps103 rfl rfl ?_
 repeat' (first|refine qS ?_|apply sqW|refine rgK fun U V=>?_|(refine aN V ?_;clear V U)|refine aB ?_|refine blK ?_)
 refine AWP.BJ (v:=2) (i:=0) (sz:=1) rfl rfl ?_
 refine AWP.C3 [(2,.ptr 2 0)] (apS c bs al) (ov al) (nxK al) (zK al) [] (fun _ _ _=>False) (fun rc=>Dt c bs al hp (fun pre=>.var [sy pre]) (fun pre=>.arr 1 pre.length (pre.map eZ)) rc _) ⟨zDb,fun k hk=>by cases hk⟩ rfl tI
  (fun i x i' h=>by obtain⟨k,_,_,rfl,_⟩:=h;rfl) (fun i x i' h=>by obtain⟨k,_,_,rfl,_⟩:=h;rfl) dKn ⟨rfl,tI⟩ rfl rfl (fun i=>⟨rfl,hok i⟩) (fun _ _ _ h=>h.elim) ?_ ?_ (fun _ _ _ h=>h.elim)
 · rintro pre x zJ hi hn;have hi2:=xb hi hn;have hl2:=p4 hi2;obtain⟨k,hk1,hk2,rfl,rfl⟩:=hn;rw[lLa] at hl2;cases pre with
   | nil =>
     show AWP _ _ _ _ _ [mpO c bs al,.var [.map 0],.var [.sl 1 [] (.own 3)],.arr 1 0 []]
     repeat' (first|refine qS ?_|refine rgK fun U V=>?_|(refine aN V ?_;clear V U))
     refine⟨rfl,?_⟩
     repeat' (first|refine qP ?_ (h:=fun hg=>by first|exact ae|exact pbS ab rfl rfl nds|fail)|refine rgK fun U V=>?_|(refine aN V ?_;clear V U)|refine aS ?_|refine aoE (EStep.gW (m:=1) (es:=[]) (es3:=[eZ k]) ab rfl rfl rfl dCd (Rd.w rfl tI) (.inr ⟨rfl,rfl,rfl⟩) rfl (Rd.w rfl tI) (.sl rfl (by intro x hx;rcases zA9.1 hx with rfl;rfl)) (zAa _) (lkG rfl) (lkG rfl) rfl rfl (by simp only[zAc,zAi];omega) (by simp only[zAc,zAi];omega) rfl rfl ?_)|refine blK ?_)
     refine⟨?_,hi2⟩;rfl
   | cons q pre =>
     have em:((q::pre).map eZ).length=pre.length+1:=sMp;have e3:(q::pre).map eZ++[eZ k]=((q::pre)++[k]).map eZ:=sMp;show AWP _ _ _ _ _ [mpO c bs al,.var [.map 0],.var [.sla 3 1 0 (pre.length+1) (pre.length+1)],.arr 1 (pre.length+1) ((q::pre).map eZ)];generalize (q::pre).map eZ=es at *;obtain⟨es3,he3⟩:∃es3,es3=((q::pre)++[k]).map eZ:=⟨_,rfl⟩
     rw[←he3] at e3
     repeat' (first|refine qS ?_|refine rgK fun U V=>?_|(refine aN V ?_;clear V U))
     refine⟨rfl,?_⟩
     repeat' (first|refine qP ?_ (h:=fun hg=>by first|exact ae|exact pbS ab rfl rfl nds|fail)|refine rgK fun U V=>?_|(refine aN V ?_;clear V U)|refine aS ?_|refine aoE (EStep.gW (m:=pre.length+1+1) (es3:=es3) ab rfl rfl rfl dCd (Rd.w rfl tI) (.inl ⟨by rw[em],by intro h;rw[h] at em;exact absurd em (by simp only[zAi];omega)⟩) rfl (Rd.w rfl tI) (.sl rfl (by intro x hx;rcases zA9.1 hx with rfl;rfl)) (zAa _) (lkG rfl) (lkG rfl) rfl rfl (by rw[em];simp only[zAc,zAi] at hl2 ⊢;omega) (by rw[em];simp only[zAc,zAi] at hl2 ⊢;omega) (by rw[em];rfl) e3 ?_)|refine blK ?_)
     refine⟨?_,hi2⟩;show[mpO c bs al,.var [.map 0],.var [.sla 3 1 0 (pre.length+1+1) (pre.length+1+1)],.arr 1 (pre.length+1+1) es3]=_;rw[he3];simp[apS,sy]
 · intro pre hi hf;unfold apS;cases pre with
   | nil =>
     show AWP _ _ _ _ _ [mpO c bs al,.var [.map 0],.var [.sl 1 [] (.own 3)],.arr 1 0 []]
     repeat' (first|refine qS ?_|apply sqW|refine rgK fun U V=>?_|(refine aN V ?_;clear V U)|refine rtW ?_)
     exact⟨.inr rfl,_,apS c bs al [],⟨[],hi,hf,rfl,rfl⟩,rfl,by simp[apS],hok [],rfl,rfl⟩
   | cons q pre =>
     show AWP _ _ _ _ _ [mpO c bs al,.var [.map 0],.var [.sla 3 1 0 (pre.length+1) (pre.length+1)],.arr 1 (pre.length+1) ((q::pre).map eZ)]
     repeat' (first|refine qS ?_|apply sqW|refine rgK fun U V=>?_|(refine aN V ?_;clear V U)|refine rtW ?_)
     exact⟨.inr rfl,_,apS c bs al (q::pre),⟨q::pre,hi,hf,rfl,rfl⟩,rfl,by simp[apS],hok (q::pre),rfl,rfl⟩
theorem Ft (c:Nat) (bs:List Nat) (al:List (Int×Jo.Mark)) (hp:uZ c bs al):TCall Tryz.prog 52 [.fn (.func 54) [] [.ptr 1 0]] [mpO c bs al,.var [.map 0]] (gotK c bs al):=by
 have hv:=TCall.val (first:=[]) (aM:=[]) (avs:=[.nils,.fn (.func 54) [] [.ptr 1 0]]) (A9 c bs al hp);have hok:=Fs c bs al;refine TCall.body Tryz.func52 rfl rfl Tryz.ntmps52 rfl rfl ?_
 repeat' (first|refine qS ?_|apply sqW|refine rgK fun U V=>?_|(refine aN V ?_;clear V U)|refine aoE (scT (hv) rfl rfl rfl rfl rfl nd rfl rfl nds ?_))
 rintro _ _ ⟨pre,h1,h2,rfl,rfl⟩;cases pre with
 | nil =>
   show AOps _ _ _ _ _ (Env.bj _ _ (.sl 1 [] (.own 3))) (apS c bs al [])
   repeat' (first|refine qS ?_|(refine aN V ?_;clear V U)|refine rtW ?_)
   exact⟨.inr rfl,_,apS c bs al [],⟨[],h1,h2,rfl,rfl⟩,rfl,by simp[apS],hok [],rfl,rfl⟩
 | cons q pre =>
   show AOps _ _ _ _ _ (Env.bj _ _ (.sla 3 1 0 (pre.length+1) (pre.length+1))) (apS c bs al (q::pre))
   repeat' (first|refine qS ?_|(refine aN V ?_;clear V U)|refine rtW ?_)
   exact⟨.inr rfl,_,apS c bs al (q::pre),⟨q::pre,h1,h2,rfl,rfl⟩,rfl,by simp[apS],hok (q::pre),rfl,rfl⟩
theorem Fu {al:List (Int×Jo.Mark)} (hk:(al.map (·.1)).Nodup) {pre:List Int} (h1:ov al pre) (h2:zK al pre):dG pre=dG (al.map (·.1)):=by
 refine xz ?_;rw[List.perm_iff_count];intro a;rw[h1.1.count,hk.count];by_cases h:a∈pre
 · rw[if_pos h,if_pos (h1.2 a h)]
 · rw[if_neg h,if_neg fun h'=>h (h2 a h')]
theorem vd:ke Tryz.prog 53:=⟨_,Tryz.func53,rfl,rfl⟩
theorem HG (c:Nat) (bs:List Nat) (al:List (Int×Jo.Mark)) (hp:uZ c bs al):TCall Tryz.prog 25 [.fn (.func 54) [] [.ptr 1 0]] [mpO c bs al,.var [.map 0]]
 (fun r s=>r=.sl 1 ((dG (al.map (·.1))).map eZ) .no∧s=[mpO c bs al,.var [.map 0]]):=by
 have hv:=TCall.val (first:=[]) (aM:=[]) (avs:=[.fn (.func 54) [] [.ptr 1 0]]) (Ft c bs al hp);have hok2:([mpO c bs al,.var [.map 0]]:aa).all (ak 2)=true:=by
  simp only[zAq,zAu,zI 2];rfl
 refine TCall.body Tryz.func25 rfl rfl Tryz.ntmps25 rfl rfl ?_
 repeat' (first|refine qS ?_|apply sqW|refine rgK fun U V=>?_|(refine aN V ?_;clear V U)|refine aoE (scT (hv) rfl rfl rfl rfl rfl nd rfl rfl nds ?_))
 rintro _ _ ⟨pre,h1,h2,rfl,rfl⟩;have hgp:=Fu hp.keys h1 h2;have hlen:=p4 h1;have zL:=hp.few;cases pre with
 | nil =>
   show AOps _ _ _ _ _ (Env.bj _ _ (.sl 1 [] (.own 3))) (apS c bs al []);have hs:=TCall.val (first:=[]) (aM:=[]) (avs:=[.sl 1 [] (.own 3)]) (TCall.LF (P:=Tryz.prog) (ρ:=Tryz.oo) Tryz.sortInt vd (σ:=apS c bs al []) (t:=.own 3))
   repeat' (first|refine qS ?_|apply sqW|refine rgK fun U V=>?_|(refine aN V ?_;clear V U)|refine aoE (scT (hs) rfl rfl rfl rfl rfl nd rfl rfl nds ?_))
   rintro _ _ ⟨rfl,rfl⟩
   repeat' (first|refine qS ?_|apply sqW|refine rgK fun U V=>?_|(refine aN V ?_;clear V U))
   refine AWP.CK 2 1 rfl ?_;exact rtW ⟨.inr rfl,.sl 1 [] .no,[mpO c bs al,.var [.map 0]],⟨by rw[←hgp];simp[Go.Ab.dG],rfl⟩,rfl,by simp[apS],hok2,rfl,rfl⟩
 | cons q pre =>
   show AOps _ _ _ _ _ (Env.bj _ _ (.sla 3 1 0 (pre.length+1) (pre.length+1))) (apS c bs al (q::pre));have hs:=TCall.val (first:=[]) (aM:=[]) (avs:=[.sla 3 1 0 (q::pre).length (q::pre).length]) (TCall.dG (P:=Tryz.prog) (ρ:=Tryz.oo) Tryz.sortInt vd (σ:=apS c bs al (q::pre)) (l:=3) (ver:=(q::pre).length) (xs:=q::pre) rfl oM (zAa _))
   repeat' (first|refine qS ?_|apply sqW|refine rgK fun U V=>?_|(refine aN V ?_;clear V U)|refine aoE (scT (hs) rfl rfl rfl rfl rfl nd rfl rfl nds ?_))
   rintro _ _ ⟨rfl,rfl⟩;show AOps _ _ _ _ _ _ [mpO c bs al,.var [.map 0],.var [sy (q::pre)],.arr 1 (pre.length+1) ((dG (q::pre)).map eZ)]
   repeat' (first|refine qS ?_|apply sqW|refine rgK fun U V=>?_|(refine aN V ?_;clear V U))
   refine AWP.fP (d:=2) (l:=3) (sz:=1) (ver:=pre.length+1) (es:=(dG (q::pre)).map eZ) (by show AV.sla 3 1 0 (pre.length+1) (pre.length+1)=_;rw[lLm,nL];rfl) rfl (MP _) ?_;exact rtW ⟨.inr rfl,.sl 1 ((dG (q::pre)).map eZ) .no,[mpO c bs al,.var [.map 0]],⟨by rw[hgp],rfl⟩,rfl,by simp,hok2,rfl,rfl⟩
end Go.Proofs.YtmjdoencpjpegaaGreatDoor.Top
