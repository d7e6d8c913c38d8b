/-
  The clean run of a region that draws its order, told place by place.
-/
import Derived.Test.YtjjchnjcmnkpdaaDoorCmE
import Derived.Orders
namespace Go.Cm
open Go
theorem ev_congr{fr fr':Fr}{x:COpd}(h:∀t,x=.tmp t→fr'.get t=fr.get t):ev fr' x=ev fr x:=by cases x<;>simp only[ev];exact h _ rfl
theorem evs_congr{fr fr':Fr}:∀{xs:List COpd},(∀t,COpd.tmp t∈xs→fr'.get t=fr.get t)→evs fr' xs=evs fr xs
 |[],_=>rfl
 |x::xs,h=>by simp only[evs,ev_congr (x:=x) (fun t e=>h t (by simp[e])),evs_congr (xs:=xs) (fun t e=>h t (by simp[e]))]
theorem insK_congr{call:CallF}{c:COp}{fr fr':Fr}(h:∀t,COpd.tmp t∈c.args→fr'.get t=fr.get t)(H:Heap)(K:Value→Heap→Res):insK call c fr' H K=insK call c fr H K:=by
 unfold insK;rw[evs_congr h];cases hi:c.ins<;>dsimp only;split
 ·rename_i x y z e;rw[e]at h;rw[ev_congr (x:=x) (fun t e=>h t (by simp[e]))]
  congr 1;funext v
  congr 1;funext b
  congr 1
  cases b
  ·exact ev_congr (x:=z) (fun t e=>h t (by simp[e]))
  ·exact ev_congr (x:=y) (fun t e=>h t (by simp[e]))
 ·rfl
theorem ins_alg(call:CallF)(c:COp)(fr:Fr)(H:Heap):Alg apE (insK call c fr H):=by
 show Alg apE (fun K=>insK call c fr H K);unfold insK;cases c.ins with
 |bad=>exact .nil
 |pure p=>exact Alg.optK fun vs=>Alg.bind (pure_alg p vs) fun v=>Alg.cast fun v=>Alg.e _ _
 |pick=>
  dsimp only;rcases c.args with _|⟨x,_|⟨y,_|⟨z,_|⟨u,l⟩⟩⟩⟩<;>dsimp only<;>first|exact .nil|skip
  exact Alg.optK fun _=>Alg.asB fun _=>Alg.optK fun _=>Alg.cast fun _=>Alg.e _ _
 |read r=>exact Alg.optK fun _=>Alg.optK fun _=>Alg.cast fun _=>Alg.e _ _
 |eff e=>exact Alg.optK fun vs=>Alg.bind (g:=fun(K:Value→Heap→Res) (v:Value) (H:Heap)=>cast c.kd v fun v=>K v H) (eff_alg e vs H) fun _=>Alg.cast fun _=>Alg.e _ _
 |call f=>exact Alg.optK fun vs=>Alg.callK fun v H=>Alg.cast fun _=>Alg.e _ _
 |callv=>
  refine Alg.optK fun vs=>?_;rcases vs with _|⟨x,vs⟩<;>try dsimp only
  ·exact .nil
  ·cases x<;>try exact .nil
   rename_i fn first cap
   cases fn<;>try exact .nil
   exact Alg.callK fun v H=>Alg.cast fun _=>Alg.e _ _
theorem ins_pure(call:CallF)(c:COp)(fr:Fr)(hp:(∃p,c.ins=.pure p)∨c.ins=.pick):(∀H K,insK call c fr H K=none)∨∃v,∀H K,insK call c fr H K=K v H:=by
 have key:Alg apV (fun K=>insK call c fr (⟨.leaf,0,fun _=>none⟩:Heap) fun v _=>K v)∧∀H K,insK call c fr H K=insK call c fr ⟨.leaf,0,fun _=>none⟩ (fun v _=>K v H):=by
  rcases hp with ⟨p,hp⟩|hp<;>unfold insK<;>rw[hp]<;>dsimp only
  ·exact⟨Alg.optK fun vs=>Alg.bind (pure_alg p vs) fun v=>Alg.cast fun v=>Alg.v _,fun H K=>rfl⟩
  ·rcases c.args with _|⟨x,_|⟨y,_|⟨z,_|⟨u,l⟩⟩⟩⟩<;>dsimp only<;>first|exact⟨.nil,fun _ _=>rfl⟩|skip
   exact⟨Alg.optK fun _=>Alg.asB fun _=>Alg.optK fun _=>Alg.cast fun _=>Alg.v _,fun _ _=>rfl⟩
 obtain⟨h|⟨v,h⟩,h2⟩:=key
 ·exact .inl fun H K=>(h2 H K).trans (h _)
 ·exact .inr ⟨v,fun H K=>(h2 H K).trans (h _)⟩
def wantC(c:COp)(fr:Fr):Option Bool:=match c.guard with
 |none=>some true
 |some (t,w)=>match fr.get t with
  |some v=>(match v with
   | .bool b=>some (b==w)
   |_=>some false)
  |none=>none
theorem guardK_ran{c:COp}{fr:Fr}{yes no:Fr→Res}{r:Value×Heap}(h:guardK c.guard fr yes no=some r):∃fr1,(∀t,fr1.get t=fr.get t)∧((wantC c fr=some true∧yes fr1=some r)∨(wantC c fr=some false∧no fr1=some r)):=by
 unfold guardK at h;unfold wantC;split at h
 ·rename_i e;exact⟨fr,fun _=>rfl,.inl ⟨by simp[e],h⟩⟩
 ·rename_i t w e;obtain⟨v,h1,h2⟩:=optK_some h;by_cases hb:∀b,v≠ .bool b
  ·refine⟨fr,fun _=>rfl,.inr ⟨?_,?_⟩⟩
   ·rw[e];dsimp only;rw[h1];cases v<;>first|rfl|exact absurd rfl (hb _)
   ·unfold gB at h2;split at h2
    ·exact absurd rfl (hb _)
    ·exact h2
  obtain⟨b,rfl⟩:∃b,v=.bool b:=Classical.byContradiction fun h=>hb fun b e=>h ⟨b,e⟩;have h3:=h2;simp only[gB]at h3;have hs:∀u,Fr.get ((t,.bool b)::fr) u=fr.get u:=fun u=>by
   rw[Fr.get_cons];split
   ·rename_i e;subst e;exact h1.symm
   ·rfl
  refine⟨_,hs,?_⟩;rw[e];simp only[h1];cases b<;>cases w<;>simp at h3⊢ <;>exact h3
structure Ran(call:CallF)(c:COp)(fr:Fr)(H:Heap)(fr':Fr)(H':Heap):Prop where
 other:∀t,c.dst≠some t→fr'.get t=fr.get t
 how:(∃v,wantC c fr=some true∧(∀K,insK call c fr H K=K v H')∧∀t,c.dst=some t→fr'.get t=some v)∨(wantC c fr=some false∧H'=H∧∀t,c.dst=some t→fr'.get t=some Go.undef)
theorem setO_other{fr:Fr}{d:Option Nat}{v:Value}{t:Nat}(h:d≠some t):(fr.setO d v).get t=fr.get t:=by
 cases d with
 |none=>rfl
 |some u=>rw[Fr.setO,Fr.get_cons,if_neg (fun e=>h (by rw[e]))]
theorem setO_same{fr:Fr}{d:Option Nat}{v:Value}{t:Nat}(h:d=some t):(fr.setO d v).get t=some v:=by subst h;rw[Fr.setO,Fr.get_cons,if_pos rfl]
theorem delO_other{fr:Fr}{d:Option Nat}{t:Nat}(h:d≠some t):(fr.delO d).get t=fr.get t:=by
 cases d with
 |none=>rfl
 |some u=>rw[Fr.delO,Fr.get_cons,if_neg (fun e=>h (by rw[e]))]
theorem delO_same{fr:Fr}{d:Option Nat}{t:Nat}(h:d=some t):(fr.delO d).get t=some Go.undef:=by subst h;rw[Fr.delO,Fr.get_cons,if_pos rfl]
theorem Ran.yes{call:CallF}{c:COp}{fr fr1:Fr}{H H':Heap}{v:Value}(hs:∀t,fr1.get t=fr.get t)(hw:wantC c fr=some true)(hi:∀K,insK call c fr1 H K=K v H'):Ran call c fr H (fr1.setO c.dst v) H':=⟨fun t ht=>(setO_other ht).trans (hs t),.inl ⟨v,hw,fun K=>(insK_congr (fun t _=>(hs t).symm) H K).trans (hi K),fun _ ht=>setO_same ht⟩⟩
theorem Ran.no{call:CallF}{c:COp}{fr fr1:Fr}{H:Heap}(hs:∀t,fr1.get t=fr.get t)(hw:wantC c fr=some false):Ran call c fr H (fr1.delO c.dst) H:=⟨fun t ht=>(delO_other ht).trans (hs t),.inr ⟨hw,rfl,fun _ ht=>delO_same ht⟩⟩
theorem ins_ran{call:CallF}{c:COp}{fr:Fr}{H:Heap}{K:Value→Heap→Res}{r:Value×Heap}(h:insK call c fr H K=some r):∃v H',K v H'=some r∧∀K,insK call c fr H K=K v H':=by
 rcases ins_alg call c fr H with h1|⟨⟨v,H'⟩,h1⟩
 ·rw[h1]at h;cases h
 ·exact⟨v,H',by rw[h1]at h;exact h,h1⟩
theorem runOps_ran{call:CallF}{K:Fr→Heap→Res}{r:Value×Heap}:∀(cs:List COp) (fr:Fr) (H:Heap),runOps call cs fr H K=some r→
  ∃(F:Nat→Fr) (G:Nat→Heap),F 0=fr∧G 0=H∧(∀p c,cs[p]?=some c→Ran call c (F p) (G p) (F (p+1)) (G (p+1)))∧K (F cs.length) (G cs.length)=some r
 |[],fr,H,h=>⟨fun _=>fr,fun _=>H,rfl,rfl,fun p c e=>by simp at e,h⟩
 |c::cs,fr,H,h=>by
  simp only[runOps]at h;obtain⟨fr1,hs,hh⟩:=guardK_ran h;have key:∃fr2 H2,Ran call c fr H fr2 H2∧runOps call cs fr2 H2 K=some r:=by
   rcases hh with ⟨hw,hy⟩|⟨hw,hy⟩
   ·obtain⟨v,H',h1,h2⟩:=ins_ran hy;exact⟨_,_,Ran.yes hs hw h2,h1⟩
   ·exact⟨_,_,Ran.no hs hw,hy⟩
  obtain⟨fr2,H2,hr,hk⟩:=key;obtain⟨F,G,f0,g0,hF,hK⟩:=runOps_ran cs fr2 H2 hk;refine⟨fun|0=>fr|p+1=>F p,fun|0=>H|p+1=>G p,rfl,rfl,?_,hK⟩;intro p c' e;cases p with
  |zero=>simp at e;subst e;show Ran call c fr H (F 0) (G 0);rw[f0,g0];exact hr
  |succ p=>exact hF p c' (by simpa using e)
def eCnt(os:List (COp×Nat×Nat))(q:Nat):Nat:=((os.take q).filter fun x=>!x.1.ins.still).length
theorem runD_ran{call:CallF}{K:Fr→Heap→Res}{r:Value×Heap}:∀(os:List (COp×Nat×Nat)) (fr:Fr) (H:Heap) (hs:List Heap) (rds:List Rd),runD call os fr H (H::hs) rds K=some r→
  ∃(F:Nat→Fr) (G:Nat→Heap) (hsF:List Heap) (rdsF:List Rd),F 0=fr∧G 0=H∧(∀p c,os[p]?=some c→Ran call c.1 (F p) (G p) (F (p+1)) (G (p+1)))∧K (F os.length) (G os.length)=some r∧rdsOk hsF rdsF=true∧(∀d∈rds,d∈rdsF)∧(∀k<(H::hs).length,hsF[k]?=(H::hs).reverse[k]?)∧(∀p≤os.length,hsF[hs.length+eCnt os p]?=some (G p))∧(∀(p:Nat) (c:COp) (lo hi:Nat) (ri:RI),os[p]?=some (c,lo,hi)→c.ins=.read ri→wantC c (F p)=some true→lo<hi→∃vs v,evs (F p) c.args=some vs∧readD ri vs (G p)=some v∧Rd.mk ri vs v lo hi∈rdsF)∧(∀(p:Nat) (c:COp) (lo hi:Nat),os[p]?=some (c,lo,hi)→hi<lo→c.ins.still=false→wantC c (F p)=some true→(G (p+1)).next≠(G p).next∧∃vs,evs (F p) c.args=some vs∧∀d∈aliveRds vs (G (p+1)) hi,d∈rdsF)
 |[],fr,H,hs,rds,h=>by
  simp only[runD]at h;have h':rdsOk (H::hs).reverse rds=true∧K fr H=some r:=by
   unfold chk at h;split at h
   ·exact⟨by assumption,h⟩
   ·cases h
  refine⟨fun _=>fr,fun _=>H,(H::hs).reverse,rds,rfl,rfl,fun p c e=>by simp at e,h'.2,h'.1,fun _ h=>h,fun _ _=>rfl,?_,fun p c lo hi ri e=>by simp at e,fun p c lo hi e=>by simp at e⟩;intro p _;simp[eCnt]
 |(c,lo,hi)::os,fr,H,hs,rds,h=>by
  simp only[runD]at h;obtain⟨fr1,hq,hh⟩:=guardK_ran h;have fin:∀(fr2:Fr) (H2:Heap) (hs2:List Heap) (rds2:List Rd),Ran call c fr H fr2 H2→runD call os fr2 H2 (H2::hs2) rds2 K=some r→(∀d∈rds,d∈rds2)→((c.ins.still=true∧H2=H∧hs2=hs)∨(c.ins.still=false∧hs2=H::hs))→(∀ri,c.ins=.read ri→wantC c fr=some true→lo<hi→∃vs v,evs fr c.args=some vs∧readD ri vs H=some v∧Rd.mk ri vs v lo hi∈rds2)→(hi<lo→c.ins.still=false→wantC c fr=some true→H2.next≠H.next∧∃vs,evs fr c.args=some vs∧∀d∈aliveRds vs H2 hi,d∈rds2)→∃(F:Nat→Fr) (G:Nat→Heap) (hsF:List Heap) (rdsF:List Rd),F 0=fr∧G 0=H∧(∀p c',((c,lo,hi)::os)[p]?=some c'→Ran call c'.1 (F p) (G p) (F (p+1)) (G (p+1)))∧K (F ((c,lo,hi)::os).length) (G ((c,lo,hi)::os).length)=some r∧rdsOk hsF rdsF=true∧(∀d∈rds,d∈rdsF)∧(∀k<(H::hs).length,hsF[k]?=(H::hs).reverse[k]?)∧(∀p≤((c,lo,hi)::os).length,hsF[hs.length+eCnt ((c,lo,hi)::os) p]?=some (G p))∧(∀(p:Nat) (c':COp) (lo' hi':Nat) (ri:RI),((c,lo,hi)::os)[p]?=some (c',lo',hi')→c'.ins=.read ri→wantC c' (F p)=some true→lo'<hi'→∃vs v,evs (F p) c'.args=some vs∧readD ri vs (G p)=some v∧Rd.mk ri vs v lo' hi'∈rdsF)∧(∀(p:Nat) (c':COp) (lo' hi':Nat),((c,lo,hi)::os)[p]?=some (c',lo',hi')→hi'<lo'→c'.ins.still=false→wantC c' (F p)=some true→(G (p+1)).next≠(G p).next∧∃vs,evs (F p) c'.args=some vs∧∀d∈aliveRds vs (G (p+1)) hi',d∈rdsF):=by
   intro fr2 H2 hs2 rds2 hr hk hsub hst hrd hnx;obtain⟨F,G,hsF,rdsF,f0,g0,hF,hK,hok,hin,hpre,hat,hre,hnr⟩:=runD_ran os fr2 H2 hs2 rds2 hk;have hlen:(H::hs).length≤(H2::hs2).length∧∀k<(H::hs).length,(H2::hs2).reverse[k]?=(H::hs).reverse[k]?:=by
    rcases hst with ⟨_,rfl,rfl⟩|⟨_,rfl⟩
    ·exact⟨Nat.le_refl _,fun _ _=>rfl⟩
    ·refine⟨by simp,fun k hk=>?_⟩;rw[List.reverse_cons (a:=H2),List.getElem?_append_left (by simpa using hk)]
   refine⟨fun|0=>fr|p+1=>F p,fun|0=>H|p+1=>G p,hsF,rdsF,rfl,rfl,?_,hK,hok,fun d hd=>hin d (hsub d hd),fun k hk=>(hpre k (Nat.lt_of_lt_of_le hk hlen.1)).trans (hlen.2 k hk),?_,?_,?_⟩
   ·intro p c' e;cases p with
    |zero=>simp at e;subst e;show Ran call c fr H (F 0) (G 0);rw[f0,g0];exact hr
    |succ p=>exact hF p c' (by simpa using e)
   ·intro p hp;cases p with
    |zero=>
     show hsF[hs.length+0]?=some H;have h1:hs.length<(H::hs).length:=by simp
     rw[Nat.add_zero,hpre _ (Nat.lt_of_lt_of_le h1 hlen.1),hlen.2 _ h1];simp
    |succ p=>
     have:=hat p (by simpa using hp);show hsF[hs.length+eCnt ((c,lo,hi)::os) (p+1)]?=some (G p);rw[←this]
     congr 1
     rcases hst with ⟨h1,_,h3⟩|⟨h1,h3⟩
     ·subst h3;simp[eCnt,h1]
     ·subst h3;simp[eCnt,h1];omega
   ·intro p c' lo' hi' ri e;cases p with
    |zero=>simp at e;obtain⟨rfl,rfl,rfl⟩:=e;intro h1 h2 h3;obtain⟨vs,v,h4,h5,h6⟩:=hrd ri h1 h2 h3;exact⟨vs,v,h4,h5,hin _ h6⟩
    |succ p=>exact hre p c' lo' hi' ri (by simpa using e)
   ·intro p c' lo' hi' e;cases p with
    |zero=>
     simp at e;obtain⟨rfl,rfl,rfl⟩:=e;intro h1 h2 h3;show(G 0).next≠H.next∧∃vs,evs fr c.args=some vs∧∀d∈aliveRds vs (G 0) hi,d∈rdsF
     rw[g0];obtain⟨n1,vs,n2,n3⟩:=hnx h1 h2 h3;exact⟨n1,vs,n2,fun d hd=>hin d (n3 d hd)⟩
    |succ p=>exact hnr p c' lo' hi' (by simpa using e)
  rcases hh with ⟨hw,hy⟩|⟨hw,hy⟩
  ·cases hi':c.ins with
   |read ri=>
    simp only[hi']at hy;obtain⟨vs,h1,h2⟩:=optK_some hy;obtain⟨v,h3,h4⟩:=optK_some h2;rcases Alg.cast (ap:=apV) (d:=c.kd) (v:=v) (g:=fun x K=>K x) (fun x=>Alg.v x)with h5|⟨x,h5⟩
    ·exact absurd (h4.symm.trans (h5 _)) (by simp)
    ·have h6:=(h5 _).symm.trans h4;have hev:evs fr c.args=some vs:=by rw[←h1];exact(evs_congr fun t _=>(hq t)).symm
     refine fin _ _ _ _ (Ran.yes (v:=x) hq hw ?_) h6 ?_ (.inl ⟨by simp[CIns.still,hi'],rfl,rfl⟩) ?_ (fun _ hs _=>by simp[CIns.still,hi']at hs)
     ·intro K';unfold insK;rw[hi'];dsimp only;rw[h1];simp only[optK,h3];exact h5 (fun v=>K' v H)
     ·intro d hd;split
      ·exact List.mem_cons_of_mem _ hd
      ·exact hd
     ·intro ri' e1 _ hlt;rw[hi']at e1;cases e1;rw[if_pos hlt];exact⟨vs,v,hev,h3,List.mem_cons_self⟩
   |pure p=>
    simp only[hi']at hy;obtain⟨v,H',h1,h2⟩:=ins_ran hy;have hH:H'=H:=by
     rcases ins_pure call c fr1 (.inl ⟨p,hi'⟩)with h3|⟨v',h3⟩
     ·have:=(h2 fun v H=>some (v,H)).symm.trans (h3 _ _);cases this
     ·have:=(h2 fun v H=>some (v,H)).symm.trans (h3 _ _);simp at this;exact this.2
    subst hH;exact fin _ _ _ _ (Ran.yes hq hw h2) h1 (fun _ h=>h) (.inl ⟨by simp[CIns.still,hi'],rfl,rfl⟩) (fun ri e=>by rw[hi']at e;cases e) (fun _ hs _=>by simp[CIns.still,hi']at hs)
   |pick=>
    simp only[hi']at hy;obtain⟨v,H',h1,h2⟩:=ins_ran hy;have hH:H'=H:=by
     rcases ins_pure call c fr1 (.inr hi')with h3|⟨v',h3⟩
     ·have:=(h2 fun v H=>some (v,H)).symm.trans (h3 _ _);cases this
     ·have:=(h2 fun v H=>some (v,H)).symm.trans (h3 _ _);simp at this;exact this.2
    subst hH;exact fin _ _ _ _ (Ran.yes hq hw h2) h1 (fun _ h=>h) (.inl ⟨by simp[CIns.still,hi'],rfl,rfl⟩) (fun ri e=>by rw[hi']at e;cases e) (fun _ hs _=>by simp[CIns.still,hi']at hs)
   |_=>
    simp only[hi']at hy;obtain⟨v,H',h1,h2⟩:=ins_ran hy;cases hb:Nat.ble lo hi with
    |true=>rw[hb]at h1;exact fin _ _ _ _ (Ran.yes hq hw h2) h1 (fun _ h=>h) (.inr ⟨by simp[CIns.still,hi'],rfl⟩) (fun ri e=>by rw[hi']at e;cases e) (fun hlt _ _=>absurd (Nat.le_of_ble_eq_true hb) (by omega))
    |false=>
     rw[hb]at h1;obtain⟨h3,h4⟩:=chk_some h1;obtain⟨vs,h5,h6⟩:=optK_some h4;have hev:evs fr c.args=some vs:=by rw[←h5];exact(evs_congr fun t _=>(hq t)).symm
     refine fin _ _ _ _ (Ran.yes hq hw h2) h6 (fun d hd=>List.mem_append_right _ hd) (.inr ⟨by simp[CIns.still,hi'],rfl⟩) (fun ri e=>by rw[hi']at e;cases e) (fun _ _ _=>⟨fun he=>?_,vs,hev,fun d hd=>List.mem_append_left _ hd⟩);rw[show Nat.beq H'.next H.next=true from by rw[Nat.beq_eq];exact he]at h3;cases h3
  ·cases hi':c.ins with
   |read ri=>simp only[hi']at hy;exact fin _ _ _ _ (Ran.no hq hw) hy (fun _ h=>h) (.inl ⟨by simp[CIns.still,hi'],rfl,rfl⟩) (fun ri e h=>by rw[hw]at h;cases h) (fun _ _ h=>by rw[hw]at h;cases h)
   |pure p=>simp only[hi']at hy;exact fin _ _ _ _ (Ran.no hq hw) hy (fun _ h=>h) (.inl ⟨by simp[CIns.still,hi'],rfl,rfl⟩) (fun ri e h=>by rw[hw]at h;cases h) (fun _ _ h=>by rw[hw]at h;cases h)
   |pick=>simp only[hi']at hy;exact fin _ _ _ _ (Ran.no hq hw) hy (fun _ h=>h) (.inl ⟨by simp[CIns.still,hi'],rfl,rfl⟩) (fun ri e h=>by rw[hw]at h;cases h) (fun _ _ h=>by rw[hw]at h;cases h)
   |_=>simp only[hi']at hy;exact fin _ _ _ _ (Ran.no hq hw) hy (fun _ h=>h) (.inr ⟨by simp[CIns.still,hi'],rfl⟩) (fun ri e h=>by rw[hw]at h;cases h) (fun _ _ h=>by rw[hw]at h;cases h)
theorem sEq_eq{a b:ByteArray}(h:sEq a b=true):a=b:=by unfold sEq lst at h;simp only[beq_iff_eq,Array.toList_inj]at h;exact ByteArray.ext h
theorem same0_eq{a b:Value}(h:same0 a b=true):a=b:=by
 unfold same0 at h;split at h;case h_3=>rw[sEq_eq h]
 all_goals first|(simp only[Bool.and_eq_true,decide_eq_true_eq,beq_iff_eq]at h)|skip
 all_goals first|rfl|(subst h;rfl)|(obtain⟨h1,h2⟩:=h;subst h1;subst h2;rfl)|(obtain⟨⟨h1,h2⟩,h3⟩:=h;subst h1;subst h2;subst h3;rfl)|cases h
theorem sameL_eq:∀{a b:List Value},sameL a b=true→a=b
 |[],[],_=>rfl
 |[],_::_,h=>by simp[sameL]at h
 |_::_,[],h=>by simp[sameL]at h
 |a::as,b::bs,h=>by simp only[sameL,Bool.and_eq_true]at h;rw[same0_eq h.1,sameL_eq h.2]
theorem same_eq{a b:Value}(h:same a b=true):a=b:=by
 unfold same at h;split at h
 ·rename_i x y;have:=sameL_eq h;rw[Array.toList_inj]at this;rw[this]
 ·rename_i x y;have:=sameL_eq h;rw[Array.toList_inj]at this;rw[this]
 ·exact same0_eq h
theorem rdOk_spec{hs:List Heap}{d:Rd}:∀(n k:Nat),rdOk hs d k n=true→∀j,k≤j→j<k+n→∃H,hs[j]?=some H∧readD d.r d.vs H=some d.v
 |0,k,_,j,h1,h2=>by omega
 |n+1,k,h,j,h1,h2=>by
  simp only[rdOk,Bool.and_eq_true]at h;obtain⟨h3,h4⟩:=h;by_cases e:j=k
  ·subst e;split at h3
   ·rename_i H hH;split at h3
    ·rename_i v hv;exact⟨H,hH,by rw[hv,same_eq h3]⟩
    ·cases h3
   ·cases h3
  ·exact rdOk_spec n (k+1) h4 j (by omega) (by omega)
theorem rdsOk_spec{hs:List Heap}:∀{ds:List Rd},rdsOk hs ds=true→∀d∈ds,∀j,d.lo≤j→j≤d.hi→∃H,hs[j]?=some H∧readD d.r d.vs H=some d.v
 |[],_,d,hd,_,_,_=>by simp at hd
 |x::ds,h,d,hd,j,h1,h2=>by
  simp only[rdsOk,Bool.and_eq_true]at h;rcases List.mem_cons.1 hd with rfl|hd
  ·exact rdOk_spec _ _ h.1 j h1 (by omega)
  ·exact rdsOk_spec h.2 d hd j h1 h2
section
variable{P:Program}{w0:Start}{gl:List Nat}{nt:Nat}
theorem cOp_alloc{o:Oper}{os:List Operand}{e:TypeId}{z:List Value}(hi:cOp P o=some (.eff (.alloc e z),os)):o.op=.alloc e∧zeroL P e=some z:=by
 obtain⟨dst,op,type,pos,after,guard⟩:=o;cases op with
 |alloc t=>
  simp only[cOp]at hi;split at hi
  ·rename_i z' hz;simp only[Option.some.injEq,Prod.mk.injEq,CIns.eff.injEq,EI.alloc.injEq]at hi;obtain⟨⟨rfl,rfl⟩,_⟩:=hi;exact⟨rfl,hz⟩
  ·cases hi
 |call c=>
  simp only[cOp]at hi;obtain⟨callee,args,argTypes⟩:=c;cases callee with
  |builtin b=>
   simp only at hi;unfold cBuiltin at hi
   repeat' split at hi
   all_goals cases hi
  |invoke=>cases hi
  |value q=>cases q<;>cases hi
 |binOp=>simp only[cOp]at hi;unfold cBin cEq at hi;repeat' split at hi
         all_goals cases hi
 |convert=>simp only[cOp]at hi;unfold cConv cConv0 at hi;repeat' split at hi
           all_goals cases hi
 |slice=>simp only[cOp]at hi;unfold cSlice at hi;simp only at hi;repeat' split at hi
         all_goals cases hi
 |_=>
  simp only[cOp]at hi
  repeat' split at hi
  all_goals cases hi
theorem cOper_ins{ops:Array Oper}{o:Oper}{c:COp}(hc:cOper gl nt P ops o=some (stripOp c))(hb:c.ins≠ .bad):∃xs,cOp P o=some (c.ins,xs):=by
 unfold cOper at hc;obtain⟨cd,ck,cg,ci,ca⟩:=c;split at hc
 ·split at hc
  ·split at hc
   ·rename_i i os hi;split at hc
    ·simp only[stripOp,Option.some.injEq,COp.mk.injEq]at hc;obtain⟨_,_,_,rfl,_⟩:=hc;exact⟨_,hi⟩
    ·simp only[stripOp,badOp,Option.some.injEq,COp.mk.injEq]at hc;exact absurd hc.2.2.2.1.symm hb
   ·simp only[stripOp,badOp,Option.some.injEq,COp.mk.injEq]at hc;exact absurd hc.2.2.2.1.symm hb
  ·cases hc
 ·cases hc
theorem RR.know{μ:Mu}{H:Heap}{w w':World}(R:RR P w0 μ H w){b:Nat}{m:MB}{o:CObj}{o':Obj}(hb0:w0.n0≤b)(hb:μ b=none)(hlt:b<H.next)(hg:H.get b=some o)(hm:m.blk=w.heap.size)(hor:OR P μ m o o')(hw:w'.heap=w.heap.push o')(hio:w'.os=w.os∧w'.output=w.output:=by exact⟨rfl,rfl⟩):RR P w0 (μ.add b m) H w':=by
 have hle:μ.le (μ.add b m):=Mu.le_add hb;have hold:∀k,k<w.heap.size→w'.heap[k]?=w.heap[k]?:=fun k hk=>by rw[hw,Array.getElem?_push_lt hk,Array.getElem?_eq_getElem hk]
 have hnew:w'.heap[m.blk]?=some o':=by rw[hw,hm];simp
 have hsz:w'.heap.size=w.heap.size+1:=by rw[hw];simp
 refine⟨?_,?_,?_,?_,?_,R.nle,(fun b hb=>let ⟨m1,h1,h2,h3⟩:=R.idn b hb;⟨m1,hle _ _ h1,h2,h3⟩),?_,R.lown,?_,R.still,R.top,⟨hio.1.trans R.io.1,hio.2.trans R.io.2⟩⟩
 ·intro b1 m1 o1 h1 h2;unfold Mu.add at h1;by_cases e:b1=b
  ·rw[if_pos e]at h1;subst e;rw[hg]at h2;cases h1;cases h2;exact⟨o',hnew,hor.mono hle⟩
  ·rw[if_neg e]at h1;obtain⟨o2,h3,h4⟩:=R.obj b1 m1 o1 h1 h2;exact⟨o2,by rw[hold _ (R.blk _ _ h1)];exact h3,h4.mono hle⟩
 ·intro b1 b2 m1 m2 o1 o2 n1 n2 h1 h2 h3 h4 h5;unfold Mu.add at h1 h2;by_cases e1:b1=b<;>by_cases e2:b2=b
  ·rw[e1,e2]
  ·rw[if_pos e1]at h1;rw[if_neg e2]at h2;cases h1;have:=R.blk _ _ h2;omega
  ·rw[if_neg e1]at h1;rw[if_pos e2]at h2;cases h2;have:=R.blk _ _ h1;omega
  ·rw[if_neg e1]at h1;rw[if_neg e2]at h2;exact R.inj _ _ _ _ _ _ n1 n2 h1 h2 h3 h4 h5
 ·intro b1 h1;unfold Mu.add;rw[if_neg (by omega)];exact R.fresh _ h1
 ·intro b1 m1 h1;unfold Mu.add at h1;split at h1
  ·cases h1;omega
  ·have:=R.blk _ _ h1;omega
 ·have:=R.size;omega
 ·intro b1 m1 h1;unfold Mu.add at h1;have:=R.size;split at h1
  ·rename_i e;cases h1;exact .inr ⟨by omega,by omega⟩
  ·exact R.low _ _ h1
 ·intro b1 h1;rw[hold _ (Nat.lt_of_lt_of_le h1 R.size)];exact R.base b1 h1
theorem RR.ahead{μ:Mu}{H:Heap}{w:World}(R:RR P w0 μ H w)(o:CObj):RR P w0 μ (H.new o) w:=by
 have hne:∀b m,μ b=some m→b≠H.next:=fun b m h e=>by rw[R.fresh b (by omega)]at h;cases h
 refine⟨?_,?_,?_,R.blk,R.size,R.nle,R.idn,R.low,?_,R.base,?_,(fun b hb=>by simp only[Heap.next_new]at hb;rw[Heap.get_new_ne _ _ (by omega)];exact R.top b (by omega)),R.io⟩
 ·intro b m o1 h1 h2;rw[Heap.get_new,if_neg (hne b m h1)]at h2;exact R.obj b m o1 h1 h2
 ·intro b1 b2 m1 m2 o1 o2 n1 n2 h1 h2 h3 h4 h5;rw[Heap.get_new,if_neg (hne _ _ h1)]at h3;rw[Heap.get_new,if_neg (hne _ _ h2)]at h4;exact R.inj _ _ _ _ _ _ n1 n2 h1 h2 h3 h4 h5
 ·intro b hb;simp only[Heap.next_new]at hb;exact R.fresh b (by omega)
 ·have:=R.lown;simp;omega
 ·intro b o1 hb h1;have:=R.lown;rw[Heap.get_new,if_neg (by omega)]at h1;exact R.still _ _ hb h1
theorem RR.heap{μ:Mu}{H:Heap}{w w':World}(R:RR P w0 μ H w)(h:w'.heap=w.heap)(hio:w'.os=w.os∧w'.output=w.output:=by exact⟨rfl,rfl⟩):RR P w0 μ H w':=⟨by rw[h];exact R.obj,R.inj,R.fresh,by rw[h];exact R.blk,by rw[h];exact R.size,R.nle,R.idn,R.low,R.lown,by rw[h];exact R.base,R.still,R.top,⟨hio.1.trans R.io.1,hio.2.trans R.io.2⟩⟩
theorem alloc_at{ops:Array Oper}{o:Oper}{c:COp}(hc:cOper gl nt P ops o=some (stripOp c)){e:TypeId}{z:List Value}(hi:c.ins=.eff (.alloc e z)){μ:Mu}{H:Heap}{w:World}(R:RR P w0 μ H w){b:Nat}(hb0:w0.n0≤b)(hb:μ b=none)(hlt:b<H.next)(hg:H.get b=some (.cells z e false 0 false))(ρ:Operand→Value):∃m w',(execOp ρ o).run P w=.ok (.value (.pointer (some ⟨m.blk,0,none⟩))) w'∧RR P w0 (μ.add b m) H w'∧m.sh=0:=by
 obtain⟨xs,h1⟩:=cOper_ins hc (by rw[hi];simp);rw[hi]at h1;obtain⟨h2,h3⟩:=cOp_alloc h1;obtain⟨dst,op,type,pos,after,guard⟩:=o;simp only at h2;subst h2;obtain⟨z1,z2,z3,z4,z5⟩:=run_zeroValue (w:=w) h3;have ho:∀v∈z,one v=true:=fun v hv=>one_of_plain (List.all_eq_true.1 z2 v hv);refine⟨⟨w.heap.size,0,z.length,z.length,P.cellsOf e,false⟩,{w with heap:=w.heap.push (.cells z.toArray e (0,0))},?_,?_,rfl⟩
 ·simp only[execOp,Instr.alloc,Sem.run_bind,z1,Result.andThen_ok,run_newVar,Sem.run_pure,cells_valT z4 ho]
 ·exact R.know hb0 hb hlt hg rfl (OR.closed (VRs.of_plain z2) ho) rfl
theorem wanted_ok{μ:Mu}{fr:Fr}{a:Act}{ops:Array Oper}{c:COp}{o:Oper}(F:∀t v,t∈c.looks→fr.get t=some v→∃v',a.tmps[t]?=some v'∧VR μ v v')(hg:guardOf ops o.guard=some c.guard){b:Bool}(h:wantC c fr=some b):
  Region.wanted o (yielded ops a.tmps)=b:=by
 unfold wantC at h;unfold Region.wanted;cases ho:o.guard with
 |none=>rw[ho]at hg;simp only[guardOf,Option.some.injEq]at hg;rw[←hg]at h;simpa using h
 |some q=>
  obtain⟨j,want⟩:=q;rw[ho]at hg;simp only[guardOf]at hg;split at hg
  ·rename_i t ht;simp only[Option.some.injEq]at hg;rw[←hg]at h;simp only at h;split at h
   ·rename_i v hb;obtain⟨v',h1,h2⟩:=F t _ (by unfold COp.looks;rw[←hg];simp) hb;split at h;rotate_left
    ·rename_i hnb;simp only[Option.some.injEq]at h;subst h;have hy:yielded ops a.tmps j=none:=by unfold yielded;rw[ht];simp only[Option.bind_some,h1];cases h2<;>first|rfl|exact absurd rfl (hnb _)
     simp only[hy];rfl
    rename_i b';simp only[Option.some.injEq]at h;have hy:yielded ops a.tmps j=some b':=by unfold yielded;rw[ht];simp only[Option.bind_some,h1,h2.bool_inv]
    simp only[hy];subst h;cases b'<;>cases want<;>rfl
   ·cases h
  ·cases hg
structure Plan(P:Program)(gl:List Nat)(nt:Nat)(call:CallF)(ops:Array Oper)(nA:Nat)(od:List Nat)(an:Nat→Nat→Prop)(cl:List COp)(F:Nat→Fr)(G W:Nat→Heap)(E:Nat→Nat)(eff:List Nat):Prop where
 len:od.length=ops.size
 clen:cl.length=od.length
 nAle:nA≤od.length
 nd:od.Nodup
 all:∀i,i<ops.size→i∈od
 op:∀(p i:Nat),od[p]?=some i→∃o c,ops[i]?=some o∧cl[p]?=some c∧cOper gl nt P ops o=some (stripOp c)
 after:∀(i:Nat) o e,ops[i]?=some o→e∈o.after→Region.binds .any e=true→e.on<i
 anc:∀(j:Nat) o x,ops[j]?=some o→an x j→∃e∈o.after,Region.binds .any e=true∧(e.on=x∨an x e.on)
 slots:∀(p q:Nat) x y i j,p≠q→cl[p]?=some x→cl[q]?=some y→od[p]?=some i→od[q]?=some j→x.clash y=true→(p<q∧an i j)∨(q<p∧an j i)
 chain:∀(x y:Nat) i j,x<y→eff[x]?=some i→eff[y]?=some j→an i j
 ran:∀(p:Nat) c,cl[p]?=some c→Ran call c (F p) (G p) (F (p+1)) (G (p+1))
 alloc:∀(p:Nat) c,p<nA→cl[p]?=some c→c.guard=none∧∃e z,c.ins=.eff (.alloc e z)
 allocn:∀(p:Nat) i,p<nA→od[p]?=some i→i∉eff
 rest:∀(p:Nat) c i,nA≤p→cl[p]?=some c→od[p]?=some i→(c.ins.still=false↔i∈eff)
 effod:∀i∈eff,i∈od
 effnd:eff.Nodup
 eat:∀(p i:Nat),nA≤p→od[p]?=some i→i∈eff→eff[E p]?=some i
 wat:∀p,nA≤p→p≤od.length→W (E p)=G p
 e1:∀(p i:Nat),nA≤p→od[p]?=some i→i∈eff→E (p+1)=E p+1
 eA:E nA=0
 eN:E od.length=eff.length
 read:∀(p:Nat) c i r,nA≤p→cl[p]?=some c→od[p]?=some i→c.ins=.read r→wantC c (F p)=some true→∃vs v,evs (F p) c.args=some vs∧readD r vs (G p)=some v∧∀k,k≤eff.length→(∀(y:Nat) j,eff[y]?=some j→an j i→y<k)→(∀(y:Nat) j,eff[y]?=some j→an i j→k≤y)→readD r vs (W k)=some v
structure Inv(P:Program)(w0:Start)(nt:Nat)(ops:Array Oper)(nA:Nat)(od:List Nat)(an:Nat→Nat→Prop)(cl:List COp)(F:Nat→Fr)(W:Nat→Heap)(eff:List Nat)(μ0:Mu)(n0:Nat)(L:Nat→Prop)(μ:Mu)(k:Nat)(a:Act)(w:World):Prop where
 rr:RR P w0 μ (W k) w
 sz:nt≤a.tmps.size
 df:a.defers=[]
 kle:k≤eff.length
 clo:∀i,L i→∀x,an x i→L x
 ef:∀(y i:Nat),eff[y]?=some i→(L i↔y<k)
 fr:∀(p t:Nat),p≤od.length→(∀(q:Nat) c i,q<p→cl[q]?=some c→od[q]?=some i→c.dst=some t→L i)→(∀(q:Nat) c i,p≤q→cl[q]?=some c→od[q]?=some i→c.dst=some t→¬L i)→∀v,(F p).get t=some v→∃v',a.tmps[t]?=some v'∧VR μ v v'
 al:∀(p i:Nat),p<nA→od[p]?=some i→¬L i→μ (n0+p)=none
 le:μ0.le μ
 kp:∀b,b<n0→μ0 b=none→μ b=none
 same:∀b,b<(W 0).next→μ b=none→(W k).get b=(W 0).get b
 nx:(W 0).next≤(W k).next
section
variable{call:CallF}{ops:Array Oper}{nA:Nat}{od:List Nat}{an:Nat→Nat→Prop}{cl:List COp}{F:Nat→Fr}{G W:Nat→Heap}{E:Nat→Nat}{eff:List Nat}{μ0:Mu}{n0:Nat}
theorem nodup_inj{l:List Nat}(hn:l.Nodup){p q i:Nat}(h:l[p]?=some i)(h':l[q]?=some i):p=q:=by
 obtain⟨h1,e1⟩:=List.getElem?_eq_some_iff.1 h;obtain⟨h2,e2⟩:=List.getElem?_eq_some_iff.1 h';have hpw:=List.pairwise_iff_getElem.1 hn;rcases Nat.lt_trichotomy p q with h3|h3|h3
 ·exact absurd (e1.trans e2.symm) (hpw p q h1 h2 h3)
 ·exact h3
 ·exact absurd (e2.trans e1.symm) (hpw q p h2 h1 h3)
theorem Plan.inj(X:Plan P gl nt call ops nA od an cl F G W E eff){p q i:Nat}(h:od[p]?=some i)(h':od[q]?=some i):p=q:=by exact nodup_inj X.nd h h'
theorem Plan.keep(X:Plan P gl nt call ops nA od an cl F G W E eff){t:Nat}:∀(d p:Nat),p+d≤od.length→(∀(q:Nat) c,p≤q→q<p+d→cl[q]?=some c→c.dst≠some t)→(F (p+d)).get t=(F p).get t
 |0,p,_,_=>rfl
 |d+1,p,h,hn=>by
  have hlt:p+d<cl.length:=by rw[X.clen];omega
  have h1:=(X.ran (p+d) _ (List.getElem?_eq_getElem hlt)).other t (hn (p+d) _ (by omega) (by omega) (List.getElem?_eq_getElem hlt));exact h1.trans (X.keep d p (by omega) (fun q c h2 h3=>hn q c h2 (by omega)))
theorem Inv.fr'(X:Plan P gl nt call ops nA od an cl F G W E eff){L:Nat→Prop}{μ μ':Mu}{k:Nat}{a:Act}{w:World}(I:Inv P w0 nt ops nA od an cl F W eff μ0 n0 L μ k a w)(hle:μ.le μ'){p i:Nat}{c:COp}(hp:od[p]?=some i)(hc:cl[p]?=some c)(hL:¬L i){v':Value}(hd:dstOk nt c.dst=true)(hv:∀t v,c.dst=some t→(F (p+1)).get t=some v→VR μ' v v'):∀(q t:Nat),q≤od.length→(∀(s:Nat) c i',s<q→cl[s]?=some c→od[s]?=some i'→c.dst=some t→(L i'∨i'=i))→(∀(s:Nat) c i',q≤s→cl[s]?=some c→od[s]?=some i'→c.dst=some t→¬(L i'∨i'=i))→∀v,(F q).get t=some v→∃v'',(a.put c.dst v').tmps[t]?=some v''∧VR μ' v v'':=by
 intro q t hq h1 h2 v hvq;by_cases ht:c.dst=some t
 ·
  have hpq:p<q:=by
   rcases Nat.lt_or_ge p q with h|h
   ·exact h
   ·exact absurd (Or.inr rfl) (h2 p c i h hc hp ht)
  have hno:∀(s:Nat) c',p+1≤s→s<p+1+(q-(p+1))→cl[s]?=some c'→c'.dst≠some t:=by
   intro s c' h3 h4 h5 h6;have hs:s<od.length:=by omega
   obtain⟨j,hj⟩:∃j,od[s]?=some j:=⟨_,List.getElem?_eq_getElem hs⟩;have hLj:L j:=by
    rcases h1 s c' j (by omega) h5 hj h6 with h|h
    ·exact h
    ·subst h;have:=X.inj hp hj;omega
   have hcl:c.clash c'=true:=by unfold COp.clash;rw[ht];simp[h6]
   rcases X.slots p s c c' i j (by omega) hc h5 hp hj hcl with ⟨_,h7⟩|⟨h7,_⟩
   ·exact hL (I.clo j hLj i h7)
   ·omega
  have e:=X.keep (t:=t) (q-(p+1)) (p+1) (by omega) hno;rw[show p+1+(q-(p+1))=q by omega]at e;rw[e]at hvq;refine⟨v',?_,hv t v ht hvq⟩;rw[ht]at hd⊢;simp only[dstOk,decide_eq_true_eq]at hd;have:=I.sz;simp only[Act.put];rw[Array.getElem?_setIfInBounds,if_pos rfl,if_pos (by omega)]
 ·obtain⟨v'',h3,h4⟩:=I.fr q t hq (fun s c' i' h3 h4 h5 h6=>by
    rcases h1 s c' i' h3 h4 h5 h6 with h|h
    ·exact h
    ·subst h;have:=X.inj hp h5;subst this;rw[hc]at h4;cases h4;exact absurd h6 ht) (fun s c' i' h3 h4 h5 h6 h7=>h2 s c' i' h3 h4 h5 h6 (.inl h7)) v hvq
  refine⟨v'',?_,h4.mono hle⟩;cases hd':c.dst with
  |none=>exact h3
  |some d=>have:¬d=t:=fun e=>ht (by rw[hd',e]);simp only[Act.put];rw[Array.getElem?_setIfInBounds,if_neg this];exact h3
end
end
def Fr.only(l:List Nat):Fr→Fr
 |[]=>[]
 |(u,v)::fr=>if u∈l then(u,v)::Fr.only l fr else Fr.only l fr
theorem Fr.get_only(l:List Nat):∀(fr:Fr) (t:Nat),(Fr.only l fr).get t=if t∈l then fr.get t else none
 |[],t=>by simp[Fr.only,Fr.get]
 |(u,v)::fr,t=>by
  simp only[Fr.only];by_cases hu:u∈l
  ·rw[if_pos hu,Fr.get_cons,Fr.get_cons,Fr.get_only l fr t];by_cases ht:t=u
   ·subst ht;simp[hu]
   ·simp[ht]
  ·rw[if_neg hu,Fr.get_cons,Fr.get_only l fr t];by_cases ht:t=u
   ·subst ht;simp[hu]
   ·simp[ht]
theorem looks_arg{c:COp}{t:Nat}(h:COpd.tmp t∈c.args):t∈c.looks:=by unfold COp.looks;exact List.mem_append_left _ (List.mem_filterMap.2 ⟨_,h,rfl⟩)
theorem alloc_ran{call:CallF}{c:COp}{fr:Fr}{H H':Heap}{v:Value}{e:TypeId}{z:List Value}(hi:c.ins=.eff (.alloc e z))(h:∀K,insK call c fr H K=K v H'):
  v=.pointer (some ⟨H.next,0,none⟩)∧H'=H.new (.cells z e false 0 false):=by
 have h1:=h fun v H=>some (v,H);unfold insK at h1;rw[hi]at h1;dsimp only at h1;obtain⟨vs,_,h2⟩:=optK_some h1;cases vs with
 |nil=>simp only[effK]at h2;have h3:=cast_some h2;simp only[Option.some.injEq,Prod.mk.injEq]at h3;exact⟨h3.1.symm,h3.2.symm⟩
 |cons x vs=>simp[effK]at h2
section
variable{P:Program}{w0:Start}{gl:List Nat}{nt:Nat}{call:CallF}{ops:Array Oper}{nA:Nat}{od:List Nat}{an:Nat→Nat→Prop}{cl:List COp}{F:Nat→Fr}{G W:Nat→Heap}{E:Nat→Nat}{eff:List Nat}{μ0:Mu}{n0:Nat}
theorem Plan.made(X:Plan P gl nt call ops nA od an cl F G W E eff)(h0:(G 0).next=n0):∀p,p≤nA→(G p).next=n0+p∧(∀b,b<n0→(G p).get b=(G 0).get b)∧
  ∀(q:Nat) c e z,q<p→cl[q]?=some c→c.ins=.eff (.alloc e z)→(G p).get (n0+q)=some (.cells z e false 0 false)
 |0,_=>⟨h0,fun _ _=>rfl,fun q c e z h=>by omega⟩
 |p+1,hp=>by
  obtain⟨h1,h2,h3⟩:=X.made h0 p (by omega);have hlt:p<cl.length:=by have:=X.nAle;rw[X.clen];omega
  obtain⟨c,hc⟩:∃c,cl[p]?=some c:=⟨_,List.getElem?_eq_getElem hlt⟩;obtain⟨hg,e,z,hi⟩:=X.alloc p c (by omega) hc;rcases (X.ran p c hc).how with ⟨v,_,h4,_⟩|⟨h4,_⟩
  ·obtain⟨_,h5⟩:=alloc_ran hi h4;rw[h5];refine⟨by simp[h1];omega,fun b hb=>?_,fun q c' e' z' hq hc' hi'=>?_⟩
   ·rw[Heap.get_new_ne _ _ (by omega)];exact h2 b hb
   ·by_cases e1:q=p
    ·subst e1;rw[hc]at hc';cases hc';rw[hi]at hi';cases hi';rw[Heap.get_new,if_pos (by omega)]
    ·rw[Heap.get_new_ne _ _ (by omega)];exact h3 q c' e' z' (by omega) hc' hi'
  ·unfold wantC at h4;rw[hg]at h4;cases h4
theorem Plan.wz(X:Plan P gl nt call ops nA od an cl F G W E eff):W 0=G nA:=by have:=X.wat nA (Nat.le_refl _) X.nAle;rwa[X.eA]at this
theorem Inv.next(X:Plan P gl nt call ops nA od an cl F G W E eff){L:Nat→Prop}{μ μ':Mu}{k k':Nat}{a:Act}{w w':World}(I:Inv P w0 nt ops nA od an cl F W eff μ0 n0 L μ k a w)(hn0:n0+nA=(W 0).next){p i:Nat}{c:COp}(hp:od[p]?=some i)(hc:cl[p]?=some c)(_:nA≤p)(hL:¬L i)(hanc:∀x,an x i→L x)(R':RR P w0 μ' (W k') w')(X':Ext μ (W k) μ' (W k')){v':Value}(hd:dstOk nt c.dst=true)(hv:∀t v,c.dst=some t→(F (p+1)).get t=some v→VR μ' v v')(hk:(i∈eff∧eff[k]?=some i∧k'=k+1)∨(i∉eff∧k'=k)):Inv P w0 nt ops nA od an cl F W eff μ0 n0 (fun j=>L j∨j=i) μ' k' (a.put c.dst v') w':=by
 have hsize:(a.put c.dst v').tmps.size=a.tmps.size:=by unfold Act.put;cases c.dst<;>simp
 have hdef:(a.put c.dst v').defers=a.defers:=by unfold Act.put;cases c.dst<;>rfl
 refine⟨R',by rw[hsize];exact I.sz,by rw[hdef];exact I.df,?_,?_,?_,I.fr' X X'.le hp hc hL hd hv,?_,Mu.le_trans I.le X'.le,?_,?_,?_⟩
 ·rcases hk with ⟨_,h,rfl⟩|⟨_,rfl⟩
  ·have:=(List.getElem?_eq_some_iff.1 h).1;omega
  ·exact I.kle
 ·rintro j (hj|rfl) x hx
  ·exact .inl (I.clo j hj x hx)
  ·exact .inl (hanc x hx)
 ·intro y j hy;rcases hk with ⟨_,h,rfl⟩|⟨h,rfl⟩
  ·by_cases e:j=i
   ·subst e;have:=nodup_inj X.effnd hy h;subst this;exact⟨fun _=>by omega,fun _=>.inr rfl⟩
   ·have hne:y≠k:=fun e2=>by subst e2;rw[h]at hy;cases hy;exact e rfl
    refine⟨fun h2=>?_,fun h2=>.inl ((I.ef y j hy).2 (by omega))⟩;rcases h2 with h2|h2
    ·have:=(I.ef y j hy).1 h2;omega
    ·exact absurd h2 e
  ·have e:j≠i:=fun e=>h (e▸List.mem_of_getElem? hy);exact⟨fun h2=>(I.ef y j hy).1 (h2.resolve_right e),fun h2=>.inl ((I.ef y j hy).2 h2)⟩
 ·intro q j hq hj hn;have h1:=I.al q j hq hj (fun h=>hn (.inl h));have:=I.nx;exact(X'.keep _ (by omega) h1).1
 ·intro b hb h1;have:=I.nx;exact(X'.keep b (by omega) (I.kp b hb h1)).1
 ·intro b hb h1;have h2:μ b=none:=by
   cases h:μ b with
   |none=>rfl
   |some m=>rw[X'.le b m h]at h1;cases h1
  have:=I.nx;rw[(X'.keep b (by omega) h2).2];exact I.same b hb h2
 ·exact Nat.le_trans I.nx X'.next
theorem Plan.step(X:Plan P gl nt call ops nA od an cl F G W E eff)(hcall:CallOK P w0 call)(hgl:∀g∈gl,g<w0.ng)(h0:(G 0).next=n0)(hlow:w0.n0≤n0){L:Nat→Prop}{μ:Mu}{k:Nat}{a:Act}{w:World}(I:Inv P w0 nt ops nA od an cl F W eff μ0 n0 L μ k a w){i:Nat}(hi:i<ops.size)(hL:¬L i)(hr:∀o e,ops[i]?=some o→e∈o.after→Region.binds .any e=true→L e.on){Q:Exit→Act→World→Prop}{K:Act→World→Prop}(hK:∀μ' k' a' w',Inv P w0 nt ops nA od an cl F W eff μ0 n0 (fun j=>L j∨j=i) μ' k' a' w'→K a' w'):wpOp P ops Q i K a w:=by
 obtain⟨p,hp⟩:=List.getElem?_of_mem (X.all i hi);obtain⟨o,c,ho,hc,hop⟩:=X.op p i hp;have hanc:∀x,an x i→L x:=by
  intro x hx;obtain⟨e,h1,h2,h3⟩:=X.anc i o x ho hx;have h4:=hr o e ho h1 h2;rcases h3 with rfl|h3
  ·exact h4
  ·exact I.clo _ h4 x h3
 obtain⟨g1,g2,g3⟩:=cOper_guard hop;have hd:dstOk nt c.dst=true:=by rw[g3];exact g2
 have hplt:p<od.length:=(List.getElem?_eq_some_iff.1 hp).1;obtain⟨hm1,hm2,hm3⟩:=X.made h0 nA (Nat.le_refl _);have hW0:=X.wz;have hn0:n0+nA=(W 0).next:=by rw[hW0,hm1]
 unfold wpOp;rw[ho];dsimp only;by_cases hpA:p<nA
 ·
  obtain⟨hgn,e,z,hins⟩:=X.alloc p c hpA hc;have hw:Region.wanted o (yielded ops a.tmps)=true:=by
   have:o.guard=none:=by
    cases hg:o.guard with
    |none=>rfl
    |some q=>rw[hg,hgn]at g1;obtain⟨j,want⟩:=q;simp only[guardOf]at g1;split at g1<;>simp at g1
   simp[Region.wanted,this]
  rw[if_pos hw];left;have hb:=I.al p i hpA hp hL;have hnx:=I.nx;have hg:(W k).get (n0+p)=some (.cells z e false 0 false):=by rw[I.same _ (by omega) hb,hW0];exact hm3 p c e z hpA hc hins
  obtain⟨m,w',hrun,R',hs⟩:=alloc_at hop hins I.rr (by omega) hb (by omega) hg a.eval;unfold Oper.wp;rw[hrun,Oper.upon_value,←g3];have hle:μ.le (μ.add (n0+p) m):=Mu.le_add hb;have hsize:∀v',(a.put c.dst v').tmps.size=a.tmps.size:=by intro v';unfold Act.put;cases c.dst<;>simp
  have hdef:∀v',(a.put c.dst v').defers=a.defers:=by intro v';unfold Act.put;cases c.dst<;>rfl
  refine hK (μ.add (n0+p) m) k _ w' ⟨R',by rw[hsize];exact I.sz,by rw[hdef];exact I.df,I.kle,?_,?_,I.fr' X hle hp hc hL hd ?_,?_,Mu.le_trans I.le hle,?_,?_,I.nx⟩
  ·rintro j (hj|rfl) x hx
   ·exact .inl (I.clo j hj x hx)
   ·exact .inl (hanc x hx)
  ·intro y j hy;have e1:j≠i:=fun e=>X.allocn p i hpA hp (e▸List.mem_of_getElem? hy);exact⟨fun h2=>(I.ef y j hy).1 (h2.resolve_right e1),fun h2=>.inl ((I.ef y j hy).2 h2)⟩
  ·intro t v ht hv;obtain⟨hp1,_,_⟩:=X.made h0 p (by omega);rcases (X.ran p c hc).how with ⟨v0,_,h4,h5⟩|⟨h4,_⟩
   ·rw[h5 t ht]at hv;cases hv;obtain⟨rfl,_⟩:=alloc_ran hins h4;rw[hp1];exact .ptr (AR.new hs)
   ·unfold wantC at h4;rw[hgn]at h4;cases h4
  ·intro q j hq hj hn;have h1:=I.al q j hq hj (fun h=>hn (.inl h));have hne:q≠p:=fun e=>by subst e;rw[hp]at hj;cases hj;exact hn (.inr rfl)
   unfold Mu.add;rw[if_neg (by omega)];exact h1
  ·intro b hb' h1;unfold Mu.add;rw[if_neg (by omega)];exact I.kp b hb' h1
  ·intro b hb' h1;unfold Mu.add at h1;split at h1
   ·cases h1
   ·exact I.same b hb' h1
 ·
  have hA:nA≤p:=by omega
  have hF:∀t v,t∈c.looks→(F p).get t=some v→∃v',a.tmps[t]?=some v'∧VR μ v v':=by
   intro t v ht hv;refine I.fr p t (by omega) ?_ ?_ v hv
   ·intro s x j hs hx hj hdst;have hcl:x.clash c=true:=by unfold COp.clash;rw[hdst];simp[ht]
    rcases X.slots s p x c j i (by omega) hx hc hj hp hcl with ⟨_,h⟩|⟨h,_⟩
    ·exact hanc j h
    ·omega
   ·intro s x j hs hx hj hdst hLj;have hcl:x.clash c=true:=by unfold COp.clash;rw[hdst];simp[ht]
    by_cases e:s=p
    ·subst e;rw[hp]at hj;cases hj;exact hL hLj
    ·rcases X.slots s p x c j i e hx hc hj hp hcl with ⟨h,_⟩|⟨_,h⟩
     ·omega
     ·exact hL (I.clo j hLj i h)
  have hFR:FR μ nt (Fr.only c.looks (F p)) a:=by
   refine⟨I.sz,I.df,fun t v hv=>?_⟩;rw[Fr.get_only]at hv;split at hv
   ·rename_i ht;exact hF t v ht hv
   ·cases hv
  have hcongr:∀H K,insK call c (Fr.only c.looks (F p)) H K=insK call c (F p) H K:=fun H K=>insK_congr (fun t ht=>by rw[Fr.get_only,if_pos (looks_arg ht)]) H K;have hkE:i∈eff→k=E p∧eff[k]?=some i:=by
   intro he;have h1:=X.eat p i hA hp he;have h2:¬E p<k:=fun h=>hL ((I.ef _ _ h1).2 h);have h3:¬k<E p:=by intro h;have hl:=(List.getElem?_eq_some_iff.1 h1).1;obtain⟨j,hj⟩:∃j,eff[k]?=some j:=⟨_,List.getElem?_eq_getElem (by omega)⟩;have:=(I.ef k j hj).1 (hanc j (X.chain k (E p) j i h hj h1));omega
   have h4:k=E p:=by omega
   exact⟨h4,by rw[h4];exact h1⟩
  have hst:=X.rest p c i hA hc hp;have hran:=X.ran p c hc;rcases hran.how with ⟨v,hw,hins,hdst⟩|⟨hw,hH,hdst⟩
  ·rw[if_pos (wanted_ok hF g1 hw)];left;have main:∃k',((i∈eff∧eff[k]?=some i∧k'=k+1)∨(i∉eff∧k'=k))∧∀K,insK call c (Fr.only c.looks (F p)) (W k) K=K v (W k'):=by
    by_cases he:i∈eff
    ·obtain⟨h1,h2⟩:=hkE he;refine⟨k+1,.inl ⟨he,h2,rfl⟩,fun K=>?_⟩;have e1:W k=G p:=by rw[h1];exact X.wat p hA (by omega)
     have e2:W (k+1)=G (p+1):=by rw[h1,←X.e1 p i hA hp he];exact X.wat (p+1) (by omega) (by omega)
     rw[hcongr,e1,e2];exact hins K
    ·refine⟨k,.inr ⟨he,rfl⟩,fun K=>?_⟩;have hs:c.ins.still=true:=by
      cases h:c.ins.still with
      |true=>rfl
      |false=>exact absurd (hst.1 h) he
     rw[hcongr];have pp:((∃p,c.ins=.pure p)∨c.ins=.pick)→insK call c (F p) (W k) K=K v (W k):=by
      intro hpp;rcases ins_pure call c (F p) hpp with h1|⟨v',h1⟩
      ·have:=(hins fun v H=>some (v,H)).symm.trans (h1 _ _);cases this
      ·have:=(hins fun v H=>some (v,H)).symm.trans (h1 _ _);simp only[Option.some.injEq,Prod.mk.injEq]at this;rw[this.1];exact h1 _ _
     cases hins':c.ins with
     |pure q=>exact pp (.inl ⟨q,hins'⟩)
     |pick=>exact pp (.inr hins')
     |read ri=>
      obtain⟨vs,v2,h1,h2,h3⟩:=X.read p c i ri hA hc hp hins' hw;have h4:readD ri vs (W k)=some v2:=h3 k I.kle (fun y j hy hj=>(I.ef y j hy).1 (hanc j hj)) (fun y j hy hj=>by
       rcases Nat.lt_or_ge y k with h|h
       ·exact absurd (I.clo j ((I.ef y j hy).2 h) i hj) hL
       ·exact h)
      have form:∀H K,readD ri vs H=some v2→insK call c (F p) H K=cast c.kd v2 fun x=>K x H:=by intro H K hH;unfold insK;rw[hins'];simp only[h1,optK,hH]
      rw[form _ _ h4];have h5:=hins;rcases Alg.cast (ap:=apV) (d:=c.kd) (v:=v2) (g:=fun x K=>K x) (fun x=>Alg.v x)with h6|⟨x,h6⟩
      ·have:=(hins fun v H=>some (v,H)).symm.trans ((form _ _ h2).trans (h6 _));cases this
      ·have:=(hins fun v H=>some (v,H)).symm.trans ((form _ _ h2).trans (h6 _));simp only[apV,Option.some.injEq,Prod.mk.injEq]at this;rw[this.1];exact h6 fun x=>K x (W k)
     |bad=>rw[hins']at hs;cases hs
     |eff=>rw[hins']at hs;cases hs
     |call=>rw[hins']at hs;cases hs
     |callv=>rw[hins']at hs;cases hs
   obtain⟨k',hk',hmain⟩:=main;refine ins_ok hcall hgl hop I.rr hFR (hmain fun v H=>some (v,H)) ?_;intro μ' v1 v1' H' w' e1 hVR R' X';simp only[Option.some.injEq,Prod.mk.injEq]at e1;obtain⟨rfl,rfl⟩:=e1;rw[←g3];exact hK μ' k' _ w' (I.next X hn0 hp hc hA hL hanc R' X' hd (fun t x ht hx=>by rw[hdst t ht]at hx;cases hx;exact hVR) hk')
  ·rw[if_neg (by rw[wanted_ok hF g1 hw];simp)];rw[←g3];have hk':∃k',((i∈eff∧eff[k]?=some i∧k'=k+1)∨(i∉eff∧k'=k))∧W k'=W k:=by
    by_cases he:i∈eff
    ·obtain⟨h1,h2⟩:=hkE he;refine⟨k+1,.inl ⟨he,h2,rfl⟩,?_⟩;have e1:W k=G p:=by rw[h1];exact X.wat p hA (by omega)
     have e2:W (k+1)=G (p+1):=by rw[h1,←X.e1 p i hA hp he];exact X.wat (p+1) (by omega) (by omega)
     rw[e1,e2,hH]
    ·exact⟨k,.inr ⟨he,rfl⟩,rfl⟩
   obtain⟨k',hk1,hk2⟩:=hk';exact hK μ k' _ w (I.next X hn0 hp hc hA hL hanc (by rw[hk2];exact I.rr) (by rw[hk2];exact Ext.refl _ _) hd (fun t x ht hx=>by rw[hdst t ht]at hx;cases hx;exact VR.undef _) hk1)
end
theorem count_set:∀(l:List Bool) (i:Nat),l[i]?=some false→(l.set i true).count false+1=l.count false
 |[],i,h=>by simp at h
 |b::l,0,h=>by simp at h;subst h;simp
 |b::l,i+1,h=>by have:=count_set l i (by simpa using h);simp only[List.set_cons_succ,List.count_cons];omega
section
variable{P:Program}{w0:Start}{gl:List Nat}{nt:Nat}{call:CallF}{ops:Array Oper}{nA:Nat}{od:List Nat}{an:Nat→Nat→Prop}{cl:List COp}{F:Nat→Fr}{G W:Nat→Heap}{E:Nat→Nat}{eff:List Nat}{μ0:Mu}{n0:Nat}
theorem Inv.congr{L L':Nat→Prop}{μ:Mu}{k:Nat}{a:Act}{w:World}(h:∀i,L i↔L' i)(I:Inv P w0 nt ops nA od an cl F W eff μ0 n0 L μ k a w):Inv P w0 nt ops nA od an cl F W eff μ0 n0 L' μ k a w:=by have:L=L':=funext fun i=>propext (h i);subst this;exact I
theorem mem_ready{listed:Array Bool}{i:Nat}:i∈Region.ready .any ops listed↔i<ops.size∧listed.getD i true=false∧∀o,ops[i]?=some o→∀e∈o.after,Region.binds .any e=true→listed.getD e.on false=true:=by
 unfold Region.ready;simp only[List.mem_filter,List.mem_range];constructor
 ·rintro⟨h1,h2⟩;simp only[Bool.and_eq_true,Bool.not_eq_true']at h2;refine⟨h1,h2.1,fun o ho e he hb=>?_⟩;have h3:=h2.2;rw[ho]at h3;simp only[Option.map_some,Option.getD_some,Array.all_eq_true']at h3;have:=h3 e he;rw[hb]at this;simpa using this
 ·rintro⟨h1,h2,h3⟩;refine⟨h1,?_⟩;simp only[Bool.and_eq_true,Bool.not_eq_true'];refine⟨h2,?_⟩;rw[Array.getElem?_eq_getElem h1];simp only[Option.map_some,Option.getD_some,Array.all_eq_true'];intro e he;cases hb:Region.binds .any e with
  |false=>rfl
  |true=>simpa using h3 _ (Array.getElem?_eq_getElem h1) e he hb
theorem Plan.go(X:Plan P gl nt call ops nA od an cl F G W E eff)(hcall:CallOK P w0 call)(hgl:∀g∈gl,g<w0.ng)(h0:(G 0).next=n0)(hlow:w0.n0≤n0){Q:Exit→Act→World→Prop}(hQ:∀μ k a w,Inv P w0 nt ops nA od an cl F W eff μ0 n0 (fun i=>i<ops.size) μ k a w→Q .normal a w):
  ∀(fuel:Nat) (listed:Array Bool) (μ:Mu) (k:Nat) (a:Act) (w:World),listed.size=ops.size→listed.toList.count false=fuel→Inv P w0 nt ops nA od an cl F W eff μ0 n0 (fun i=>listed.getD i false=true) μ k a w→wpAny P .any ops Q fuel listed a w:=by
 intro fuel;induction fuel with
 |zero=>
  intro listed μ k a w hs hc I;have hall:∀i,i<ops.size→listed.getD i false=true:=by
   intro i hi;have h1:listed.toList[i]?≠some false:=fun h=>List.count_eq_zero.1 hc (List.mem_of_getElem? h);rw[Array.getD_eq_getD_getElem?,Array.getElem?_eq_getElem (by omega)];simp only[Option.getD_some];cases h:listed[i]'(by omega)with
   |true=>rfl
   |false=>exact absurd (by rw[Array.getElem?_toList,Array.getElem?_eq_getElem (by omega),h]) h1
  refine⟨?_,hQ μ k a w (I.congr fun i=>⟨fun h=>?_,hall i⟩)⟩
  ·rw[List.eq_nil_iff_forall_not_mem];intro i hi;obtain⟨h1,h2,_⟩:=mem_ready.1 hi;have h3:=hall i h1;rw[Array.getD_eq_getD_getElem?,Array.getElem?_eq_getElem (by omega)]at h2 h3;simp only[Option.getD_some]at h2 h3;rw[h2]at h3;cases h3
  ·rcases Nat.lt_or_ge i ops.size with h1|h1
   ·exact h1
   ·rw[Array.getD_eq_getD_getElem?,Array.getElem?_eq_none (by omega)]at h;cases h
 |succ fuel ih=>
  intro listed μ k a w hs hc I;refine⟨fun hnil=>?_,fun i hi=>?_⟩
  ·
   have hall:∀i,i<ops.size→listed.getD i false=true:=by
    intro i;induction i using Nat.strongRecOn with
    |ind i ihi=>
     intro hi;have hn:i∉Region.ready .any ops listed:=by rw[hnil];simp
     rw[mem_ready]at hn;cases h:listed.getD i false with
     |true=>rfl
     |false=>
      exfalso;refine hn ⟨hi,?_,fun o ho e he hb=>?_⟩
      ·rw[Array.getD_eq_getD_getElem?,Array.getElem?_eq_getElem (by omega)]at h⊢;exact h
      ·have:=X.after i o e ho he hb;exact ihi e.on this (by omega)
   refine hQ μ k a w (I.congr fun i=>⟨fun h=>?_,hall i⟩);rcases Nat.lt_or_ge i ops.size with h1|h1
   ·exact h1
   ·rw[Array.getD_eq_getD_getElem?,Array.getElem?_eq_none (by omega)]at h;cases h
  ·obtain⟨h1,h2,h3⟩:=mem_ready.1 hi;have hf:listed[i]?=some false:=by rw[Array.getD_eq_getD_getElem?,Array.getElem?_eq_getElem (by omega)]at h2;rw[Array.getElem?_eq_getElem (by omega)];simpa using h2
   refine X.step hcall hgl h0 hlow I h1 (by rw[Array.getD_eq_getD_getElem?,hf];simp) (fun o e ho he hb=>h3 o ho e he hb) ?_;intro μ' k' a' w' I';refine ih _ μ' k' a' w' (by simpa using hs) ?_ (I'.congr fun j=>?_)
   ·have h4:=count_set listed.toList i (by rw[Array.getElem?_toList];exact hf);rw[Array.toList_setIfInBounds];omega
   ·rw[Array.getD_eq_getD_getElem?,Array.getD_eq_getD_getElem?,Array.getElem?_setIfInBounds];by_cases e:i=j
    ·subst e;simp[hs,h1]
    ·have e':¬j=i:=fun h=>e h.symm;simp[e,e']
theorem Plan.done(X:Plan P gl nt call ops nA od an cl F G W E eff)(hm:P.follows .mixedOrders=true)(hcall:CallOK P w0 call)(hgl:∀g∈gl,g<w0.ng){w:World}{a:Act}(R:RR P w0 μ0 (G 0) w)(hF:FR μ0 nt (F 0) a){id:Nat}{Q:Exit→Act→World→Prop}(hQ:∀μ a w,RR P w0 μ (G od.length) w→FR μ nt (F od.length) a→Ext μ0 (G 0) μ (G od.length)→Q .normal a w):(Code.region id ops true).wp P Q a w:=by
 refine wp_region_any hm (X.go (μ0:=μ0) (n0:=(G 0).next) hcall hgl rfl R.lown ?_ ops.size _ μ0 0 a _ (by simp) (by simp) ?_)
 ·intro μ k a w I;obtain⟨hm1,hm2,hm3⟩:=X.made rfl nA (Nat.le_refl _);have hW0:=X.wz;have hk:k=eff.length:=by
   have:=I.kle;rcases Nat.lt_or_ge k eff.length with h|h
   ·obtain⟨j,hj⟩:∃j,eff[k]?=some j:=⟨_,List.getElem?_eq_getElem h⟩;have hjo:=X.effod j (List.mem_of_getElem? hj);obtain⟨q,hq⟩:=List.getElem?_of_mem hjo;obtain⟨o,c,ho,_,_⟩:=X.op q j hq;have:=(I.ef k j hj).1 (Array.getElem?_eq_some_iff.1 ho).1;omega
   ·omega
  have hWk:W k=G od.length:=by rw[hk,←X.eN];exact X.wat _ X.nAle (Nat.le_refl _)
  have hR:=I.rr;rw[hWk]at hR;refine hQ μ a w hR ⟨I.sz,I.df,fun t v hv=>?_⟩ ⟨I.le,?_,?_⟩
  ·refine I.fr od.length t (Nat.le_refl _) (fun q c i _ _ hi _=>?_) (fun q c i hq hc _ _=>?_) v hv
   ·obtain⟨o,c,ho,_,_⟩:=X.op q i hi;exact(Array.getElem?_eq_some_iff.1 ho).1
   ·have:=(List.getElem?_eq_some_iff.1 hc).1;rw[X.clen]at this;omega
  ·intro b hb h1;have h2:=I.kp b hb h1;refine⟨h2,?_⟩;rw[←hWk,I.same b (by rw[hW0];omega) h2,hW0];exact hm2 b hb
  ·have:=I.nx;rw[hWk,hW0]at this;omega
 ·obtain⟨hm1,hm2,hm3⟩:=X.made rfl nA (Nat.le_refl _);have hW0:=X.wz;have hfalse:∀i,(Array.replicate ops.size false).getD i false=false:=by
   intro i;rw[Array.getD_eq_getD_getElem?];by_cases h:i<ops.size
   ·rw[Array.getElem?_eq_getElem (by simpa using h)];simp
   ·rw[Array.getElem?_eq_none (by simpa using h)];rfl
  have hRR:∀p,p≤nA→RR P w0 μ0 (G p) w:=by
   intro p;induction p with
   |zero=>intro _;exact R
   |succ p ihp=>
    intro hp;have hlt:p<cl.length:=by have:=X.nAle;rw[X.clen];omega
    obtain⟨c,hc⟩:∃c,cl[p]?=some c:=⟨_,List.getElem?_eq_getElem hlt⟩;obtain⟨hg,e,z,hi⟩:=X.alloc p c (by omega) hc;rcases (X.ran p c hc).how with ⟨v,_,h4,_⟩|⟨h4,_⟩
    ·obtain⟨_,h5⟩:=alloc_ran hi h4;rw[h5];exact(ihp (by omega)).ahead _
    ·unfold wantC at h4;rw[hg]at h4;cases h4
  refine⟨?_,hF.1,hF.2.1,Nat.zero_le _,?_,?_,?_,?_,Mu.le_refl _,fun _ _ h=>h,fun _ _ _=>rfl,Nat.le_refl _⟩
  ·rw[hW0];exact(hRR nA (Nat.le_refl _)).heap rfl
  ·intro i hi;rw[hfalse]at hi;cases hi
  ·intro y i _;rw[hfalse];simp
  ·intro p t hp h1 h2 v hv;refine hF.2.2 t v ?_;rw[←hv];have:=X.keep (t:=t) p 0 (by omega) (fun q c _ h4 h5 h6=>by
    have hq:q<od.length:=by omega
    have:=h1 q c od[q] (by omega) h5 (List.getElem?_eq_getElem hq) h6;rw[hfalse]at this;cases this)
   rw[Nat.zero_add]at this;exact this.symm
  ·intro p i hp _ _;exact R.fresh _ (by omega)
end
section
variable{P:Program}{w0:Start}
theorem AR.move{μ μ1 μ2:Mu}(h1:μ.le μ1)(h2:μ.le μ2){a x a':Addr}(h:AR μ a x)(h':AR μ1 a a'):AR μ2 a a':=by obtain⟨_,_,m,p3,_⟩:=h;obtain⟨q1,q2,m',q3,q4⟩:=h';rw[h1 _ _ p3]at q3;cases q3;exact⟨q1,q2,_,h2 _ _ p3,q4⟩
theorem SR.move{μ μ1 μ2:Mu}(h1:μ.le μ1)(h2:μ.le μ2){a x a':Addr}{n c r n' c' r':Nat}(h:SR μ a x n c r)(h':SR μ1 a a' n' c' r'):SR μ2 a a' n' c' r':=by
 rcases h' with ⟨q1,q2,m',q3,q4⟩|h'
 ·rcases h with ⟨_,_,m,p3,_⟩|⟨rfl,_⟩
  ·rw[h1 _ _ p3]at q3;cases q3;exact .inl ⟨q1,q2,_,h2 _ _ p3,q4⟩
  ·cases q1
 ·exact .inr h'
theorem VR.move{μ μ1 μ2:Mu}(h1:μ.le μ1)(h2:μ.le μ2){v x:Value}(h:VR μ v x):∀{v':Value},VR μ1 v v'→VR μ2 v v':=by
 induction h with
 |bool b=>intro v' h';cases h';exact .bool b
 |int k n=>intro v' h';cases h';exact .int k n
 |string s=>intro v' h';cases h';exact .string s
 |ptrN=>intro v' h';cases h';exact .ptrN
 |ptr h=>intro v' h';cases h' with|ptr h'=>exact .ptr (h.move h1 h2 h')
 |slN=>intro v' h';cases h';exact .slN
 |sl hl h=>intro v' h';cases h' with|sl hl' h'=>exact .sl hl' (h.move h1 h2 h')
 |mapN=>intro v' h';cases h';exact .mapN
 |map h hs=>
  intro v' h';cases h' with
  |map h' hs'=>have:=h1 _ _ h;rw[this]at h';cases h';exact .map (h2 _ _ h) hs'
 |func fn hf _ hc _ ih1 ih2=>
  intro v' h';cases h' with
  |func _ hf2 g1 hc2 g2=>exact .func fn hf2 (fun i h h'=>ih1 i h (by omega) (g1 i h h')) hc2 (fun i h h'=>ih2 i h (by omega) (g2 i h h'))
 |nilFunc=>intro v' h';cases h';exact .nilFunc
 |iface t _ ih=>intro v' h';cases h' with|iface _ h'=>exact .iface t (ih h')
 |nilIface=>intro v' h';cases h';exact .nilIface
 |agg hs _ ho ih=>
  intro v' h';cases h' with
  |agg hs2 g ho2=>exact .agg hs2 (fun i h h'=>ih i h (by omega) (g i h h')) ho2
 |tuple hs _ ih=>
  intro v' h';cases h' with
  |tuple hs2 g=>exact .tuple hs2 (fun i h h'=>ih i h (by omega) (g i h h'))
def knownO(μ:Mu):CObj→Prop
 | .cells c _ _ _ _=>∀v∈c,∃x,VR μ v x
 | .map es _=>∀e∈es,(∃x,VR μ e.1 x)∧∃x,VR μ e.2.1 x
 | .iter _ _=>True
theorem OR.known{μ:Mu}{m:MB}{o:CObj}{o':Obj}(h:OR P μ m o o'):knownO μ o:=by
 cases o<;>cases o'<;>simp only[OR,knownO]at h⊢
 ·intro v hv;obtain⟨i,hi,rfl⟩:=List.mem_iff_getElem.1 hv;obtain⟨_,v',_,h2⟩:=h.2.2.2.2.2.2.2.1 i _ (List.getElem?_eq_getElem hi);exact⟨v',h2⟩
 ·intro e he;obtain⟨i,hi,rfl⟩:=List.mem_iff_getElem.1 he;obtain⟨e',_,h2,h3,_⟩:=h.2.2.2 i _ (List.getElem?_eq_getElem hi);exact⟨⟨_,h2⟩,_,h3⟩
theorem OR.move{μ μ1 μ2:Mu}(h1:μ.le μ1)(h2:μ.le μ2){m:MB}{o:CObj}{o':Obj}(hk:knownO μ o)(h:OR P μ1 m o o'):OR P μ2 m o o':=by
 cases o<;>cases o'<;>simp only[OR,knownO]at h hk⊢
 ·obtain⟨e1,e2,e3,e4,e5,e6,e7,e8,e9,e10⟩:=h;exact⟨e1,e2,e3,e4,e5,e6,e7,fun i v hv=>by obtain⟨a,v',b,c⟩:=e8 i v hv;obtain⟨x,hx⟩:=hk v (List.mem_of_getElem? hv);exact⟨a,v',b,hx.move h1 h2 c⟩,e9,e10⟩
 ·obtain⟨e1,e2,e3,e4⟩:=h;exact⟨e1,e2,e3,fun i e he=>by obtain⟨e',a,b,c,d⟩:=e4 i e he;obtain⟨⟨x,hx⟩,y,hy⟩:=hk e (List.mem_of_getElem? he);exact⟨e',a,hx.move h1 h2 b,hy.move h1 h2 c,d⟩⟩
 ·exact h
theorem RR.move{μ μ':Mu}{H H' H1:Heap}{w w':World}(R:RR P w0 μ H w)(R':RR P w0 μ' H' w')(hle:μ.le μ'){nb:Nat}{m:MB}{o:CObj}(hm:μ' H.next=some m)(ho:H'.get H.next=some o)(hk:knownO μ o)(hlow:w0.n0≤nb)(hlt:nb<H.next)(hu:μ nb=none)(hnx:H1.next=H.next)(hgn:H1.get nb=some o)(hg:∀b,b<H.next→b≠nb→H1.get b=H'.get b)(hs:∀b o1,b<H.next→H'.get b=some o1→H.get b=some o1)(ht:∀b,H.next≤b→H1.get b=none):RR P w0 (μ.add nb m) H1 w':=by
 have hle2:μ.le (μ.add nb m):=Mu.le_add hu;have hin:∀b mb,μ b=some mb→b<H.next:=fun b mb hb=>by
  rcases Nat.lt_or_ge b H.next with h|h
  ·exact h
  ·rw[R.fresh b h]at hb;cases hb
 have back:∀b mb ob,(μ.add nb m) b=some mb→H1.get b=some ob→∃b',μ' b'=some mb∧H'.get b'=some ob∧(b=nb∧b'=H.next∨b≠nb∧b'=b∧b<H.next)∧(w0.n0≤b→w0.n0≤b'):=by
  intro b mb ob h1 h2;unfold Mu.add at h1;by_cases e:b=nb
  ·rw[if_pos e]at h1;subst e;cases h1;rw[hgn]at h2;cases h2;exact⟨H.next,hm,ho,.inl ⟨rfl,rfl⟩,fun _=>R.lown⟩
  ·rw[if_neg e]at h1;have hb:=hin b mb h1;exact⟨b,hle _ _ h1,by rw[←hg b hb e];exact h2,.inr ⟨e,rfl,hb⟩,id⟩
 refine⟨?_,?_,?_,?_,R'.size,R'.nle,?_,?_,?_,R'.base,?_,(fun b hb=>ht b (by omega)),R'.io⟩
 ·intro b mb ob h1 h2;by_cases e:b=nb
  ·subst e;rw[hgn]at h2;cases h2;unfold Mu.add at h1;rw[if_pos rfl]at h1;cases h1;obtain⟨o',h3,h4⟩:=R'.obj _ _ _ hm ho;exact⟨o',h3,h4.move hle hle2 hk⟩
  ·have h1':μ b=some mb:=by unfold Mu.add at h1;rwa[if_neg e]at h1
   have hb:=hin b mb h1';rw[hg b hb e]at h2;obtain⟨o',h3,h4⟩:=R'.obj _ _ _ (hle _ _ h1') h2;obtain⟨_,_,h5⟩:=R.obj _ _ _ h1' (hs b ob hb h2);exact⟨o',h3,h4.move hle hle2 h5.known⟩
 ·intro b1 b2 m1 m2 o1 o2 n1 n2 h1 h2 h3 h4 h5;obtain⟨c1,x1,y1,z1,k1⟩:=back b1 m1 o1 h1 h3;obtain⟨c2,x2,y2,z2,k2⟩:=back b2 m2 o2 h2 h4;have:=R'.inj c1 c2 m1 m2 o1 o2 (k1 n1) (k2 n2) x1 x2 y1 y2 h5;rcases z1 with ⟨e1,e2⟩|⟨e1,e2,e3⟩<;>rcases z2 with ⟨f1,f2⟩|⟨f1,f2,f3⟩<;>omega
 ·intro b hb;unfold Mu.add;rw[if_neg (by omega)];exact R.fresh b (by omega)
 ·intro b mb h1;unfold Mu.add at h1;split at h1
  ·cases h1;exact R'.blk _ _ hm
  ·exact R'.blk _ _ (hle _ _ h1)
 ·intro b hb;obtain⟨m1,h1,h2,h3⟩:=R.idn b hb;exact⟨m1,hle2 _ _ h1,h2,h3⟩
 ·intro b mb h1;unfold Mu.add at h1;split at h1
  ·rename_i e;cases h1;rcases R'.low _ _ hm with ⟨h2,_⟩|⟨_,h2⟩
   ·have:=R.lown;omega
   ·exact .inr ⟨by omega,h2⟩
  ·exact R.low _ _ h1
 ·rw[hnx];exact R.lown
 ·intro b ob hb h1;have:=R.lown;rw[hg b (by omega) (by omega)]at h1;exact R'.still b ob hb h1
end
def placeV(k:Option Nat)(n:Nat):Value:=match k with
 |none=>.pointer (some ⟨n,0,none⟩)
 |some l=>.slice (some ⟨n,0,none⟩) l l
def killO(H:Heap):Option Nat→Heap
 |none=>H
 |some b=>H.kill b
theorem killO_next(H:Heap)(k:Option Nat):(killO H k).next=H.next:=by cases k<;>rfl
theorem killO_get(H:Heap)(k:Option Nat)(b:Nat):(killO H k).get b=if k=some b then none else H.get b:=by
 cases k with
 |none=>simp[killO]
 |some c=>
  simp only[killO,Heap.get_kill,Option.some.injEq];by_cases h:b=c
  ·rw[if_pos h,if_pos h.symm]
  ·rw[if_neg h,if_neg (fun e=>h e.symm)]
theorem cast_place{d:Kd}{k:Option Nat}{n:Nat}{K:Value→Res}{r:Value×Heap}(h:cast d (placeV k n) K=some r)(m:Nat)(K':Value→Res):cast d (placeV k m) K'=K' (placeV k m):=by
 cases d with
 |one d=>cases d<;>cases k<;>first|rfl|(simp[cast,cast0,placeV,asI,asB,asS,asP,asSl,asM,asA]at h)
 |tup ds=>cases k<;>simp[cast,placeV]at h
def More(G H:Heap):Prop:=∀b x,G.get b=some x→H.get b=some x
theorem More.ldN{G H:Heap}(h:More G H){a:Addr}{n:Nat}{l:List Value}(e:G.ldN a n=some l):H.ldN a n=some l:=by
 unfold Heap.ldN at e⊢;cases hg:G.get a.block with
 |none=>rw[hg]at e;cases e
 |some o=>rw[h _ _ hg];rw[hg]at e;exact e
theorem More.ld1{G H:Heap}(h:More G H){a:Addr}{v:Value}(e:G.ld1 a=some v):H.ld1 a=some v:=by
 unfold Heap.ld1 at e⊢;cases hg:G.get a.block with
 |none=>rw[hg]at e;cases e
 |some o=>rw[h _ _ hg];rw[hg]at e;exact e
def MoreV(vs:List Value)(G H:Heap):Prop:=∀v∈vs,∀(a:Addr) (l c:Nat),v=.slice (some a) l c→∀x,G.get a.block=some x→H.get a.block=some x
theorem ldN_more{G H:Heap}{a:Addr}{n:Nat}{l:List Value}(h:∀x,G.get a.block=some x→H.get a.block=some x)(e:G.ldN a n=some l):H.ldN a n=some l:=by
 unfold Heap.ldN at e⊢;cases hg:G.get a.block with
 |none=>rw[hg]at e;cases e
 |some o=>rw[h _ hg];rw[hg]at e;exact e
theorem MoreV.src{vs:List Value}{G H:Heap}(h:MoreV vs G H){size n:Nat}{x:Value}(hx:x∈vs){l:List Value}(e:srcCells G size n x=some l):srcCells H size n x=some l:=by
 unfold srcCells at e⊢;split at e
 ·exact e
 ·split at e
  ·rename_i h0;rw[if_pos h0];exact e
  ·rename_i h0;rw[if_neg h0];exact ldN_more (h _ hx _ _ _ rfl) e
 ·exact e
 ·cases e
section
variable{P:Program}{w0:Start}
theorem ldN_mem{H:Heap}{a:Addr}{n:Nat}{l:List Value}(e:H.ldN a n=some l):∃c el o fz st,H.get a.block=some (.cells c el o fz st)∧∀v∈l,v∈c:=by
 unfold Heap.ldN at e;split at e
 ·rename_i c el o fz st hg;split at e
  ·cases e;exact⟨c,el,o,fz,st,hg,fun v hv=>List.mem_of_mem_drop (List.mem_of_mem_take hv)⟩
  ·cases e
 ·cases e
theorem known_block{μ:Mu}{H:Heap}{w:World}(R:RR P w0 μ H w){b:Nat}{m:MB}{c:List Value}{el:TypeId}{o:Bool}{fz:Nat}{st:Bool}(hm:μ b=some m)(hg:H.get b=some (.cells c el o fz st)):∀v∈c,∃x,VR μ v x:=by obtain⟨o',_,h⟩:=R.obj b m _ hm hg;exact h.known
theorem known_src{μ:Mu}{H:Heap}{w:World}(R:RR P w0 μ H w){x x':Value}(hx:VR μ x x'){str:Bool}{size n:Nat}{l:List Value}(hn:srcN str x=some n)(h:srcCells H size n x=some l):∀v∈l,∃y,VR μ v y:=by
 unfold srcCells at h;split at h
 ·cases h;intro v hv;cases hv
 ·split at h
  ·cases h;intro v hv;cases hv
  ·rename_i a k c h0;obtain⟨cs,el,o,fz,st,hg,hl⟩:=ldN_mem h;obtain⟨a',c',rfl,_,ha⟩:=hx.sl_inv;rcases ha with ⟨_,_,mb,q3,_⟩|⟨_,q,_⟩
   ·exact fun v hv=>known_block R q3 hg v (hl v hv)
   ·exfalso;cases str<;>simp only[srcN,Option.some.injEq,reduceCtorEq]at hn;omega
 ·cases h;intro v hv;simp only[List.mem_map]at hv;obtain⟨b,_,rfl⟩:=hv;exact⟨_,.int _ _⟩
 ·cases h
theorem appendK_made{el:TypeId}{size bytes:Nat}{str:Bool}{s x:Value}{G:Heap}{K:Value→Heap→Res}{r:Value×Heap}(h:appendK el size bytes str s x G K=some r):(∃v G1,K v G1=some r∧G1.next=G.next)∨∃l o kl,K (placeV (some l) G.next) ((killO G kl).new o)=some r∧(∀b,kl=some b→∃y,G.get b=some y)∧∀H,MoreV [s,x] G H→(∀K',appendK el size bytes str s x H K'=K' (placeV (some l) H.next) ((killO H kl).new o))∧∀(μ:Mu) (w:World),RR P w0 μ H w→(∃s',VR μ s s')→(∃x',VR μ x x')→knownO μ o:=by
 unfold appendK at h;obtain⟨a,len,cc,rfl,hA⟩:=asSl_some h;obtain⟨n,hn,hB⟩:=optK_some hA;obtain⟨new,hnew,hC⟩:=optK_some hB;clear h hA hB;split at hC
 ·left;split at hC
  ·exact⟨_,_,hC,rfl⟩
  ·split at hC
   ·cases hC
   ·cases a with
    |none=>cases hC
    |some ad=>
     obtain⟨H',hst,hD⟩:=optK_some hC;refine⟨_,_,hD,?_⟩;unfold Heap.stN at hst;split at hst
     ·split at hst
      ·cases hst;rfl
      ·cases hst
     ·cases hst
 ·rename_i hc;right;split at hC
  ·rename_i hlim;have form:∀(H:Heap),MoreV [.slice a len cc,x] G H→∀K':Value→Heap→Res,appendK el size bytes str (.slice a len cc) x H K'=(match(generalizing:=false) a with
     |none=>K' (.slice (some ⟨H.next,0,none⟩) (len+n) (len+n)) (H.new (.cells new el true 0 false))
     |some ad=>match(generalizing:=false) ad.spot with
      |some _=>if len=0 then K' (.slice (some ⟨H.next,0,none⟩) (len+n) (len+n)) (H.new (.cells new el true 0 false))else none
      |none=>match(generalizing:=false) H.get ad.block with
      |some (.cells c e o fz st)=>
       if ad.off+len*size≤c.length then(if exact size c.length ad.off cc o=true∧(o=false∨e=el)then K' (.slice (some ⟨H.next,0,none⟩) (len+n) (len+n)) (H.new (.cells ((c.drop ad.off).take (len*size)++new) el true 0 false))else if e=el∧fz≤ad.off+len*size then K' (.slice (some ⟨H.next,0,none⟩) (len+n) (len+n)) ((H.kill ad.block).new (.cells ((c.drop ad.off).take (len*size)++new) el true (fz-ad.off) st))else none)
       else none
      |_=>none):=by
    intro H hm K';unfold appendK;simp only[asSl,hn,optK,hm.src (List.mem_cons_of_mem _ List.mem_cons_self) hnew,if_neg hc,if_pos hlim];rfl
   have knew:∀{H:Heap},MoreV [.slice a len cc,x] G H→∀(μ:Mu) (w:World),RR P w0 μ H w→(∃x',VR μ x x')→∀v∈new,∃y,VR μ v y:=fun hm μ w R hx=>by obtain⟨x',hx⟩:=hx;exact known_src R hx hn (hm.src (List.mem_cons_of_mem _ List.mem_cons_self) hnew)
   cases a with
   |none=>refine⟨len+n,_,none,hC,fun b e=>(by cases e),fun H hm=>⟨fun K'=>form H hm K',fun μ w R _ hx=>knew hm μ w R hx⟩⟩
   |some ad=>
    dsimp only at hC;cases hsp:ad.spot with
    |some sp=>
     rw[hsp]at hC;dsimp only at hC;split at hC
     ·rename_i h0;refine⟨len+n,_,none,hC,fun b e=>(by cases e),fun H hm=>⟨fun K'=>?_,fun μ w R _ hx=>knew hm μ w R hx⟩⟩;rw[form H hm K'];dsimp only;rw[hsp];dsimp only;rw[if_pos h0];rfl
     ·cases hC
    |none=>
     rw[hsp]at hC;dsimp only at hC;cases hg:G.get ad.block with
     |none=>rw[hg]at hC;cases hC
     |some ob=>
      rw[hg]at hC;cases ob with
      |map es ck=>cases hC
      |iter q p=>cases hC
      |cells c e o fz st=>
       dsimp only at hC;split at hC
       ·rename_i hin;have kold:∀{H:Heap},MoreV [.slice (some ad) len cc,x] G H→∀(μ:Mu) (w:World),RR P w0 μ H w→(∃s',VR μ (.slice (some ad) len cc) s')→∀v∈(c.drop ad.off).take (len*size),∃y,VR μ v y:=by
         intro H hm μ w R hs v hv;obtain⟨s',hs⟩:=hs;obtain⟨a',c',_,_,ha⟩:=hs.sl_inv;rcases ha with ⟨_,_,mb,q3,_⟩|⟨q,_⟩
         ·exact known_block R q3 (hm _ List.mem_cons_self _ _ _ rfl _ hg) v (List.mem_of_mem_drop (List.mem_of_mem_take hv))
         ·rw[q]at hsp;cases hsp
        have kall:∀{H:Heap},MoreV [.slice (some ad) len cc,x] G H→∀(μ:Mu) (w:World),RR P w0 μ H w→(∃s',VR μ (.slice (some ad) len cc) s')→(∃x',VR μ x x')→∀v∈(c.drop ad.off).take (len*size)++new,∃y,VR μ v y:=by
         intro H hm μ w R hs hx v hv;rcases List.mem_append.1 hv with hv|hv
         ·exact kold hm μ w R hs v hv
         ·exact knew hm μ w R hx v hv
        split at hC
        ·rename_i hx;refine⟨len+n,_,none,hC,fun b e=>(by cases e),fun H hm=>⟨fun K'=>?_,fun μ w R hs hx=>kall hm μ w R hs hx⟩⟩;rw[form H hm K'];dsimp only;rw[hsp];dsimp only;rw[hm _ List.mem_cons_self _ _ _ rfl _ hg];dsimp only;rw[if_pos hin,if_pos hx];rfl
        ·rename_i hx;split at hC
         ·rename_i hk;refine⟨len+n,_,some ad.block,hC,fun b e=>(by cases e;exact⟨_,hg⟩),fun H hm=>⟨fun K'=>?_,fun μ w R hs hx=>kall hm μ w R hs hx⟩⟩;rw[form H hm K'];dsimp only;rw[hsp];dsimp only;rw[hm _ List.mem_cons_self _ _ _ rfl _ hg];dsimp only;rw[if_pos hin,if_neg hx,if_pos hk];rfl
         ·cases hC
       ·cases hC
  ·cases hC
theorem cellsL_known{μ:Mu}{v x:Value}(h:VR μ v x):∀u∈cellsL v,∃y,VR μ u y:=by
 intro u hu;unfold cellsL at hu;split at hu
 ·rename_i cs;cases h with
  |agg hs g _=>
   obtain⟨i,hi,rfl⟩:=List.mem_iff_getElem.1 hu;have hi':i<cs.size:=by simpa using hi
   exact⟨_,by simpa using g i hi' (by omega)⟩
 ·simp only[List.mem_singleton]at hu;subst hu;exact⟨x,h⟩
theorem fillL_known{μ:Mu}:∀{ps:List (Nat×Nat)} {vs cs r:List Value},fillL ps vs cs=some r→(∀v∈vs,∃x,VR μ v x)→(∀v∈cs,∃x,VR μ v x)→∀v∈r,∃x,VR μ v x
 |[],[],cs,r,h,_,hc=>by simp only[fillL,Option.some.injEq]at h;subst h;exact hc
 |[],_::_,_,_,h,_,_=>by simp[fillL]at h
 |_::_,[],_,_,h,_,_=>by simp[fillL]at h
 |(off,size)::ps,v::vs,cs,r,h,hv,hc=>by
  simp only[fillL]at h;split at h
  ·refine fillL_known h (fun u hu=>hv u (List.mem_cons_of_mem _ hu)) fun u hu=>?_;unfold splice at hu;simp only[List.mem_append]at hu;obtain⟨x,hx⟩:=hv v List.mem_cons_self;rcases hu with(hu|hu)|hu
   ·exact hc u (List.mem_of_mem_take hu)
   ·exact cellsL_known hx u hu
   ·exact hc u (List.mem_of_mem_drop hu)
  ·cases h
theorem effK_made{e:EI}(he:e.makes=true){vs:List Value}{G:Heap}{K:Value→Heap→Res}{r:Value×Heap}(h:effK e vs G K=some r):
  (∃v G1,K v G1=some r∧G1.next=G.next)∨∃k o kl,K (placeV k G.next) ((killO G kl).new o)=some r∧(∀b,kl=some b→∃y,G.get b=some y)∧∀H,MoreV vs G H→(∀K',effK e vs H K'=K' (placeV k H.next) ((killO H kl).new o))∧∀(μ:Mu) (w:World),RR P w0 μ H w→(∀v∈vs,∃x,VR μ v x)→knownO μ o:=by
 cases e with
 |alloc el z=>
  cases vs with
  |cons v vs=>simp[effK]at h
  |nil=>refine .inr ⟨none,.cells z el false 0 false,none,h,fun b e=>(by cases e),fun H _=>⟨fun K'=>rfl,fun μ w _ _ v hv=>⟨v,?_⟩⟩⟩;exact VR.of_plain (List.all_eq_true.1 he v hv)
 |buildSl el len zs parts=>
  have h':(optK (fillL parts vs zs) fun cs=>K (.slice (some ⟨G.next,0,none⟩) len len) (G.new (.cells cs el false 0 false)))=some r:=by cases vs<;>exact h
  obtain⟨cs,h1,h2⟩:=optK_some h';refine .inr ⟨some len,.cells cs el false 0 false,none,h2,fun b e=>(by cases e),fun H _=>⟨fun K'=>?_,fun μ w _ hv=>?_⟩⟩
  ·have:effK (.buildSl el len zs parts) vs H K'=optK (fillL parts vs zs) fun cs=>K' (.slice (some ⟨H.next,0,none⟩) len len) (H.new (.cells cs el false 0 false)):=by cases vs<;>rfl
   rw[this,h1];rfl
  ·exact fillL_known h1 hv fun v hv=>⟨v,VR.of_plain (List.all_eq_true.1 he v hv)⟩
 |append el size bytes str=>
  match vs,h with
  |[],h=>simp[effK]at h
  |[_],h=>simp[effK]at h
  |_::_::_::_,h=>simp[effK]at h
  |[s,x],h=>
   have h':appendK el size bytes str s x G K=some r:=h;rcases appendK_made (P:=P) (w0:=w0) h' with h1|⟨l,o,kl,h1,h2,h3⟩
   ·exact .inl h1
   ·refine .inr ⟨some l,o,kl,h1,h2,fun H hm=>⟨fun K'=>(h3 H hm).1 K',fun μ w R hv=>(h3 H hm).2 μ w R (hv s List.mem_cons_self) (hv x (List.mem_cons_of_mem _ List.mem_cons_self))⟩⟩
 |_=>cases he
end
end Go.Cm
