/-
  slices.Sorted(maps.Keys(m)) as two steps, by the contracts that the kit has of them.
-/
import Derived.Test.YtjjchnjcmnkpdaaGreatDoorCmH
import Derived.Sort.KeysCollected
import Derived.CallsIn
import Derived.Laws.AppendOwn
namespace Go.Cm
open Go Go.RowKit Go.Maps Go.MapKept
open Go.WideElems (Fit rd rg)
open Go.Proofs (encStr)
def keysP(g:Nat)(t:TypeId)(vs:List Value)(H:Heap):Res:=match vs with
 |[.map r]=>some (.func (.func g) #[] #[.pointer (some ⟨H.next,0,none⟩)],H.new (.cells [.map r] t false 0 false))
 |_=>none
theorem keys_ok{P:Program}{w0:Start}{f g:Nat}{t:TypeId}(hen:∀args w,(callFunc f args).run P w=.ok (.enter f args) w)(h1:∀(mb:Option Nat) (W:World),Calls P f #[.map mb] W fun e w'=>e=.returned (.func (.func g) #[] #[.pointer (some ⟨W.heap.size,0,none⟩)])∧w'=W.alloc (.cells #[.map mb] t)):
  CallOK P w0 (fun k vs H=>if k=f then keysP g t vs H else none):=by
 intro k vs vs' H v H' μ w h R hvs o a next Q hn
 dsimp only at h;split at h;case isFalse=>cases h
 rename_i e;subst e;unfold keysP at h;split at h;case h_2=>cases h
 rename_i r;simp only[Option.some.injEq,Prod.mk.injEq]at h;obtain⟨rfl,rfl⟩:=h
 match vs',hvs with
 |[v1],hvs=>
  obtain⟨r1,_⟩:=hvs;obtain⟨mb,rfl⟩:∃mb,v1=.map mb:=by cases r1<;>exact⟨_,rfl⟩
  rw[hen,Oper.upon_enter];refine(h1 mb w).mono ?_;rintro e w' ⟨rfl,rfl⟩;have hor:OR P μ ⟨w.heap.size,0,1,1,P.cellsOf t,false⟩ (.cells [.map r] t false 0 false) (.cells #[.map mb] t):=OR.closed (P:=P) (μ:=μ) (blk:=w.heap.size) (e:=t) (l:=[.map r]) (l':=[.map mb]) ⟨r1,trivial⟩ (fun v hv=>by rw[List.mem_singleton.1 hv];rfl);have hnew:=R.new (w':=w.alloc (.cells #[.map mb] t)) rfl hor rfl ⟨rfl,rfl⟩;refine hn _ (μ.add H.next ⟨w.heap.size,0,1,1,P.cellsOf t,false⟩) _ ?_ hnew.1 hnew.2;refine .func _ rfl (fun i hi=>absurd hi (Nat.not_lt_zero _)) rfl fun i hi hi'=>?_;have hi0:i=0:=by simp at hi;omega
  subst hi0;exact .ptr (AR.new rfl)
def strV:Value→Option (List UInt8)
 | .string s=>some (lst s)
 |_=>none
def keysL(es:List (Value×Value×Nat))(clk:Nat):Option (List (List UInt8)):=match es.mapM (fun e=>strV e.1)with
 |some ks=>if ks.Nodup∧(es.map (·.2.2)).Nodup∧(∀e∈es,e.2.2<clk)∧es.length≤100000∧(∀k∈ks,k.length≤100000)then some ks else none
 |none=>none
def insS(x:List UInt8):List (List UInt8)→List (List UInt8)
 |[]=>[x]
 |y::l=>if decide (x≤y)=true then x::y::l else y::insS x l
def sortS:List (List UInt8)→List (List UInt8)
 |[]=>[]
 |x::l=>insS x (sortS l)
theorem insS_perm(x:List UInt8):∀l,(insS x l).Perm (x::l)
 |[]=>List.Perm.refl _
 |y::l=>by
  unfold insS;split
  ·exact List.Perm.refl _
  ·exact((insS_perm x l).cons y).trans (List.Perm.swap x y l)
theorem sortS_perm:∀l,(sortS l).Perm l
 |[]=>List.Perm.refl _
 |x::l=>(insS_perm x _).trans ((sortS_perm l).cons x)
theorem insS_sorted(x:List UInt8):∀l:List (List UInt8),l.Pairwise (fun a b=>leB a b=true)→(insS x l).Pairwise (fun a b=>leB a b=true)
 |[],_=>by simp[insS]
 |y::l,h=>by
  obtain⟨h1,h2⟩:=List.pairwise_cons.1 h;unfold insS;split
  ·rename_i hxy;refine List.pairwise_cons.2 ⟨fun z hz=>?_,h⟩;rcases List.mem_cons.1 hz with rfl|hz
   ·exact hxy
   ·have h3:=h1 z hz;simp only[leB,decide_eq_true_eq]at hxy h3⊢;exact List.le_trans hxy h3
  ·rename_i hxy;refine List.pairwise_cons.2 ⟨fun z hz=>?_,insS_sorted x l h2⟩;rcases List.mem_cons.1 ((insS_perm x l).mem_iff.1 hz)with rfl|hz
   ·simp only[leB,decide_eq_true_eq]at hxy⊢;rcases List.le_total z y with e|e
    ·exact absurd e hxy
    ·exact e
   ·exact h1 z hz
theorem sortS_sorted:∀l:List (List UInt8),(sortS l).Pairwise (fun a b=>leB a b=true)
 |[]=>List.Pairwise.nil
 |x::l=>insS_sorted x _ (sortS_sorted l)
theorem sortS_eq{ss ks:List (List UInt8)}(h:ss.Perm ks):ss.mergeSort (fun x y=>decide (x≤y))=sortS ks:=by
 have tr:∀a b c:List UInt8,leB a b=true→leB b c=true→leB a c=true:=fun a b c h1 h2=>by simp only[leB,decide_eq_true_eq]at*;exact List.le_trans h1 h2
 have to:∀a b:List UInt8,(leB a b||leB b a)=true:=fun a b=>by simp only[leB,Bool.or_eq_true,decide_eq_true_eq];exact List.le_total a b
 refine List.Perm.eq_of_pairwise (le:=fun a b=>leB a b=true) (fun a b _ _ h1 h2=>?_) (List.pairwise_mergeSort tr to ss) (sortS_sorted ks) (((List.mergeSort_perm ss leB).trans h).trans (sortS_perm ks).symm);simp only[leB,decide_eq_true_eq]at h1 h2;exact List.le_antisymm h1 h2
def sortedP(g:Nat)(t:TypeId)(vs:List Value)(H:Heap):Res:=match vs with
 |[.func (.func g') f c]=>if g'=g∧f.size=0 then(match c.toList with
  |[.pointer (some ⟨b,0,none⟩)]=>match H.get b with
   |some (.cells [.map (some m)] _ false 0 false)=>match H.get m with
    |some (.map es clk)=>match keysL es clk with
     |some ks=>if ks=[]then some (.slice none 0 0,H)else some (.slice (some ⟨H.next,0,none⟩) ks.length ks.length,H.new (.cells ((sortS ks).map fun k=>.string (S k)) t true 0 false))
     |none=>none
    |_=>none
   |_=>none
  |_=>none)else none
 |_=>none
theorem keysL_inv{es:List (Value×Value×Nat)}{clk:Nat}{ks:List (List UInt8)}(h:keysL es clk=some ks):es.mapM (fun e=>strV e.1)=some ks∧ks.Nodup∧(es.map (·.2.2)).Nodup∧(∀e∈es,e.2.2<clk)∧es.length≤100000∧(∀k∈ks,k.length≤100000):=by
 unfold keysL at h;split at h
 ·rename_i l hl;split at h
  ·rename_i hc;simp only[Option.some.injEq]at h;subst h;exact⟨hl,hc⟩
  ·cases h
 ·cases h
theorem sorted_ok{P:Program}{w0:Start}{f g:Nat}{t:TypeId}(hc1:P.cellsOf t=1)(hen:∀args w,(callFunc f args).run P w=.ok (.enter f args) w)(ht:P.underlying t=some .string)(h1:∀(Bm b nn:Nat) (D0:DataW Unit) (Rr:Value→Option (DataW Unit×List MemPlace)) (w:World),Bm<w.heap.size→w.cell? ⟨Bm,0,none⟩=some (.map (some b))→w.ownsMap P t Rr b nn D0→Maps.size D0≤maxLen→Maps.size D0*16≤140737488355328→Calls P f #[.func (.func g) #[] #[.pointer (some ⟨Bm,0,none⟩)]] w fun e w'=>∃(v:Value) (ss:List (List UInt8)),e=.returned v∧ss.Perm (strKeys D0)∧w'.ownsRow w.heap.size t 1 v ss.length ((ss.mergeSort (fun x y=>decide (x≤y))).map encStr)∧(v=.slice none 0 0↔ss=[])∧Below w.heap.size w w'):
  CallOK P w0 (fun k vs H=>if k=f then sortedP g t vs H else none):=by
 intro k vs vs' H v H' μ w h R hvs o a next Q hn
 dsimp only at h;split at h;case isFalse=>cases h
 rename_i e;subst e;unfold sortedP at h;split at h;case h_2=>cases h
 rename_i g' ff cc;split at h;case isFalse=>cases h
 rename_i hg;obtain⟨rfl,hff⟩:=hg;split at h;case h_2=>cases h
 rename_i b hcc;split at h;case h_2=>cases h
 rename_i m ty hgb;split at h;case h_2=>cases h
 rename_i es clk hgm;split at h;case h_2=>cases h
 rename_i ks hks;obtain⟨k1,k2,k3,k4,k5,k6⟩:=keysL_inv hks
 match vs',hvs with
 |[v1],hvs=>
  obtain⟨r1,_⟩:=hvs;obtain⟨a',rfl,ha⟩:∃a',v1=.func (.func g') #[] #[.pointer (some a')]∧AR μ ⟨b,0,none⟩ a':=by
   cases r1;rename_i f' c' hf hf' hc hc';have e0:cc= #[.pointer (some ⟨b,0,none⟩)]:=Array.toList_inj.1 (by simpa using hcc);subst e0;have e1:f'= #[]:=Array.eq_empty_of_size_eq_zero (by omega);have hcs:c'.size=1:=by simpa using hc.symm
   have hv:=hc' 0 (by simp) (by omega);have e2:c'= #[c'[0]]:=by
    apply Array.ext
    ·simp[hcs]
    ·intro i h1 h2;have:i=0:=by omega
     subst this;simp
   rw[e1,e2];generalize c'[0]=z at hv;simp only[List.getElem_toArray,List.getElem_cons_zero]at hv;cases hv with
   |ptr h=>exact⟨_,rfl,h⟩
  obtain⟨v',hcell,hvr,_⟩:=cell_ok R ha (show H.ld1 ⟨b,0,none⟩=some (.map (some m))from(ld1_s hgb).trans rfl);obtain⟨mm,rfl,hmm,hsh⟩:∃mm:MB,v'=.map (some mm.blk)∧μ m=some mm∧mm.sh=0:=by cases hvr;exact⟨_,rfl,‹_›,‹_›⟩
  obtain⟨ha1,ha2,mb,ha3,ha4,ha5⟩:=ha;obtain⟨c1,fr1,g1,g2⟩:=lookup_cells R ha3 hgb;have hsh0:mb.sh=0:=(g2.2.2.2.2.2.2.1 g2.2.2.1.symm rfl).1;have ea:a'=⟨mb.blk,0,none⟩:=by obtain⟨x1,x2,x3⟩:=a';simp only at ha2 ha4 ha5;subst ha2 ha4;simp only[Addr.mk.injEq,and_true,true_and];omega
  subst ea;obtain⟨o1,q1,q2⟩:=R.obj m mm _ hmm hgm;obtain⟨es',clk',rfl⟩:∃es' clk',o1=.map es' clk':=by cases o1<;>simp only[OR]at q2;exact⟨_,_,rfl⟩
  obtain⟨_,rfl,q3,q4⟩:=q2;have hkl:=(mapM_some k1).1;have hent:∀(i:Nat) (x:MapEntry),es'.toList[i]?=some x→∃e kk,es[i]?=some e∧ks[i]?=some kk∧x.key=.string (S kk)∧x.born=e.2.2:=by
   intro i x hx;have hi:i<es.length:=by have:=(List.getElem?_eq_some_iff.1 hx).1;rw[Array.length_toList]at this;omega
   obtain⟨e',w1,w2,_,w4⟩:=q4 i es[i] (List.getElem?_eq_getElem hi);have hk:ks[i]?=some (ks[i]'(by omega)):=List.getElem?_eq_getElem (by omega);have hst:=(mapM_some k1).2 i _ _ (List.getElem?_eq_getElem hi) hk;rw[←Array.getElem?_toList,hx]at w1;cases w1;refine⟨es[i],ks[i]'(by omega),List.getElem?_eq_getElem hi,hk,?_,w4.symm⟩;generalize es[i].1=kv at w2 hst;unfold strV at hst;split at hst
   ·rename_i s;rw[w2.string_inv];simp only[Option.some.injEq]at hst;rw[←hst];rfl
   ·cases hst
  have hkeys:es'.toList.map (·.key)=ks.map fun k=>Value.string (S k):=by
   apply List.ext_getElem?;intro i;rw[List.getElem?_map,List.getElem?_map];cases hx:es'.toList[i]? with
   |none=>
    have h1:es'.size≤i:=by simpa using hx
    rw[List.getElem?_eq_none (by omega)];rfl
   |some x=>obtain⟨e,kk,_,h2,h3,_⟩:=hent i x hx;rw[h2];simp[h3]
  have hborn:es'.toList.map (·.born)=es.map (·.2.2):=by
   apply List.ext_getElem?;intro i;rw[List.getElem?_map,List.getElem?_map];cases hx:es'.toList[i]? with
   |none=>
    have h1:es'.size≤i:=by simpa using hx
    rw[List.getElem?_eq_none (by omega)];rfl
   |some x=>obtain⟨e,kk,h1,_,_,h4⟩:=hent i x hx;rw[h1];simp[h4]
  let Rr:Value→Option (DataW Unit×List MemPlace):=fun _=>some (.nil,[])
  have hrd:∀x∈es'.toList,∃kk,kk.length≤100000∧x.key=.string (S kk)∧rd P t Rr x=some (.string kk,.nil):=by
   intro x hx;obtain⟨i,hi⟩:=List.getElem?_of_mem hx;obtain⟨e,kk,_,h2,h3,_⟩:=hent i x hi;have hl:=k6 kk (List.mem_of_getElem? h2);refine⟨kk,hl,h3,?_⟩;have hml:(S kk).size≤maxLen:=by have:(S kk).size=kk.length:=rfl;rw[this];unfold maxLen;omega
   simp only[rd,keyOf,ht,h3,mapKey];rw[if_pos hml];rfl
  have hfit:Fit P t Rr es' clk:=by
   refine⟨by unfold maxLen;omega,⟨fun x hx=>?_,by rw[hborn];exact k3,?_⟩,fun x hx=>?_⟩
   ·obtain⟨i,hi⟩:=List.getElem?_of_mem hx;obtain⟨e,kk,h1,_,_,h4⟩:=hent i x hi;rw[h4];exact k4 e (List.mem_of_getElem? h1)
   ·rw[hkeys];refine List.pairwise_map.2 (k2.imp fun{a b} hne e=>hne ?_);simpa[S]using e
   ·obtain⟨kk,_,_,h⟩:=hrd x hx;exact⟨_,h⟩
  have hown:w.ownsMap P t Rr mm.blk es'.size (.map ((es'.toList.map (rg P t Rr)).foldr DataW.insert [])):=⟨es',clk,q1,hfit,Nat.le_refl _,rfl⟩;have hperm0:((es'.toList.map (rg P t Rr)).foldr DataW.insert []).Perm (es'.toList.map (rg P t Rr)):=Go.WideShapes.sorted_perm _;have hsize:Maps.size (DataW.map ((es'.toList.map (rg P t Rr)).foldr DataW.insert []))=es.length:=by rw[Maps.size_eq,hperm0.length_eq,List.length_map,Array.length_toList,q3]
  have hstr:(strKeys (DataW.map ((es'.toList.map (rg P t Rr)).foldr DataW.insert []))).Perm ks:=by
   refine(hperm0.map _).trans ?_;rw[List.map_map];have:es'.toList.map ((fun p:Lit×DataW Unit=>strOf p.1)∘rg P t Rr)=ks:=by
    apply List.ext_getElem?;intro i;rw[List.getElem?_map];cases hx:es'.toList[i]? with
    |none=>
     have h1:es'.size≤i:=by simpa using hx
     rw[List.getElem?_eq_none (by omega)];rfl
    |some x=>
     obtain⟨e,kk,_,h2,h3,_⟩:=hent i x hx;obtain⟨kk',_,h5,h6⟩:=hrd x (List.mem_of_getElem? hx);rw[h2];have:kk'=kk:=by rw[h3]at h5;simpa[S]using h5.symm
     subst this;simp[rg,h6,strOf]
   rw[this]
  rw[hen,Oper.upon_enter];refine(h1 mb.blk mm.blk es'.size _ Rr w (R.blk _ _ ha3) hcell hown (by rw[hsize];unfold maxLen;omega) (by rw[hsize];omega)).mono ?_;rintro e w' ⟨v,ss,rfl,hp,hrow,hnil,hb⟩;have hpk:ss.Perm ks:=hp.trans hstr;have hb':∀k,k<w.heap.size→w'.heap[k]?=w.heap[k]?:=hb.block;by_cases hk0:ks=[]
  ·rw[if_pos hk0]at h;simp only[Option.some.injEq,Prod.mk.injEq]at h;obtain⟨rfl,rfl⟩:=h;have:ss=[]:=by rw[hk0]at hpk;exact hpk.eq_nil
   rw[hnil.2 this];exact hn _ μ w' .slN (R.later hb.size hb' ⟨hb.os,hb.output⟩) (Ext.refl _ _)
  ·rw[if_neg hk0]at h;simp only[Option.some.injEq,Prod.mk.injEq]at h;obtain⟨rfl,rfl⟩:=h;have hss:ss≠[]:=fun e=>hk0 (by rw[e]at hpk;exact hpk.symm.eq_nil);rcases hrow.2 with ⟨rfl,hz⟩|⟨gb,cap,cur,rfl,hbase,hgb2,hcap1,hcap2,hcur,htake⟩
   ·exact absurd (hnil.1 rfl) hss
   ·have hsl:=hpk.length_eq;have hsort:ss.mergeSort (fun x y=>decide (x≤y))=sortS ks:=sortS_eq hpk;have hslen:(sortS ks).length=ks.length:=(sortS_perm ks).length_eq;rw[hsort,Nat.mul_one]at htake;have hvrs:VRs μ ((sortS ks).map fun k=>Value.string (S k)) ((sortS ks).map encStr):=by
     generalize sortS ks=L;induction L with
     |nil=>trivial
     |cons x L ih=>exact⟨.string _,ih⟩
    have hor:=OR.opened (P:=P) (μ:=μ) (blk:=gb) (e:=t) (l:=(sortS ks).map fun k=>Value.string (S k)) (l':=(sortS ks).map encStr) (rest:=cur.toList.drop ss.length) (fr:=(0,0)) (s:=false) (fz:=0) hvrs (fun v hv=>by obtain⟨x,_,rfl⟩:=List.mem_map.1 hv;rfl) (Nat.zero_le _) (.inl rfl);rw[←htake,List.take_append_drop]at hor;have hnew:=R.newAt (w':=w') hor (Nat.le_trans R.size hbase) (fun b1 m1 o1 z1 _=>by have:=R.blk _ _ z1;show m1.blk≠gb;omega) hb.size hgb2 (fun k _ hk=>hb' k hk) ⟨hb.os,hb.output⟩;refine hn _ _ w' ?_ hnew.1 hnew.2;rw[hsl];refine .sl (Nat.le_refl _) (.inl ⟨rfl,rfl,_,Mu.add_same _ _ _,rfl,.inr (.inl ⟨rfl,rfl,by omega,?_,?_⟩)⟩)
    ·simp[hc1,hslen]
    ·simp[hc1,hcur]
end Go.Cm
