/-
  How printed code is reasoned about: one step at a time; slices that own a block; what is kept. Nothing of a program is proved here.
-/
import Derived.Test.YtjjchnjcmnkpdaaDoorCmG
import Derived.Deep.DeepHandedRow
import Derived.Deep.DeepWitnessRowRef
import Derived.Deep.DeepLaidRun
import Derived.Below
import Derived.Lib.Join
import Derived.Lib.Bytealg
import Derived.Lib.Builder
import Derived.Laws.Externs
import Derived.Lib.Split
import Derived.Lib.SplitLaws
import Derived.Sort.KeysCollected
import Derived.CallsIn
import Derived.Laws.AppendOwn
namespace Go.Cm
open Go
section
variable{α β:Type}
theorem optK_congr{o o':Option α}{K:α→Option β}(h:o=o'):optK o K=optK o' K:=by rw[h]
theorem asI_congr{k:IntKind}{v v':Value}{K:Int→Option α}(h:v=v'):asI k v K=asI k v' K:=by rw[h]
theorem asN_congr{v v':Value}{K:Int→Option α}(h:v=v'):asN v K=asN v' K:=by rw[h]
theorem asB_congr{v v':Value}{K:Bool→Option α}(h:v=v'):asB v K=asB v' K:=by rw[h]
theorem asS_congr{v v':Value}{K:ByteArray→Option α}(h:v=v'):asS v K=asS v' K:=by rw[h]
theorem asP_congr{v v':Value}{K:Option Addr→Option α}(h:v=v'):asP v K=asP v' K:=by rw[h]
theorem asA_congr{v v':Value}{K:Array Value→Option α}(h:v=v'):asA v K=asA v' K:=by rw[h]
theorem asSL_congr{v v':Value}{K:Sl→Option α}(h:v=v'):asSL v K=asSL v' K:=by rw[h]
theorem callK_congr{r r':Res}{K:Value→Heap→Res}(h:r=r'):callK r K=callK r' K:=by rw[h]
theorem castT_congr{ds:List Kd0}{v v':Value}{K:List Value→Res}(h:v=v'):castT ds v K=castT ds v' K:=by rw[h]
theorem chk_congr{b b':Bool}{r:Option α}(h:b=b'):chk b r=chk b' r:=by rw[h]
theorem optK_s{a:α}{K:α→Option β}:optK (some a) K=K a:=rfl
theorem asI_s{k:IntKind}{n:Int}{K:Int→Option α}:asI k (.int k n) K=K n:=by simp[asI]
theorem asN_s{k:IntKind}{n:Int}{K:Int→Option α}:asN (.int k n) K=K n:=rfl
theorem asB_s{b:Bool}{K:Bool→Option α}:asB (.bool b) K=K b:=rfl
theorem asS_s{s:ByteArray}{K:ByteArray→Option α}:asS (.string s) K=K s:=rfl
theorem asP_s{a:Option Addr}{K:Option Addr→Option α}:asP (.pointer a) K=K a:=rfl
theorem asA_s{a:Array Value}{K:Array Value→Option α}:asA (.agg a) K=K a:=rfl
theorem asSL_s{a:Option Addr}{n c:Nat}{K:Sl→Option α}:asSL (.slice a n c) K=K ⟨a,n,c⟩:=rfl
theorem callK_s{v:Value}{H:Heap}{K:Value→Heap→Res}:callK (some (v,H)) K=K v H:=rfl
theorem chk_s{r:Option α}:chk true r=r:=rfl
theorem newK_s{H:Heap}{o:CObj}{K:Nat→Heap→Res}:newK H o K=K H.next (H.new o):=rfl
theorem castT_s{ds:List Kd0}{l:List Value}{K:List Value→Res}:castT ds (.tuple ⟨l⟩) K=castL ds l K:=rfl
theorem castL_n{K:List Value→Res}:castL [] [] K=K []:=rfl
theorem castL_c{d:Kd0}{ds:List Kd0}{v:Value}{vs:List Value}{K:List Value→Res}:castL (d::ds) (v::vs) K=cast0 d v fun x=>castL ds vs fun l=>K (x::l):=rfl
end
theorem slenS(l:List UInt8):slen (S l)=l.length:=by cases l<;>rfl
theorem sCatS(a b:List UInt8):sCat (S a) (S b)=S (a++b):=by cases a<;>rfl
theorem lstS(a:List UInt8):lst (S a)=a:=by cases a<;>rfl
theorem btS{l:List UInt8}{i:Nat}{c:UInt8}(hi:l[i]?=some c):bt (S l) i=(c.toNat:Int):=by unfold bt;rw[lstS,List.getD_eq_getElem?_getD,hi];rfl
theorem ld1_s{H:Heap}{b off:Nat}{c:List Value}{e:TypeId}{o:Bool}{fz:Nat}{st:Bool}(h:H.get b=some (.cells c e o fz st)):H.ld1 ⟨b,off,none⟩=c[off]?:=by simp[Heap.ld1,h]
theorem ldN_s{H:Heap}{b off n:Nat}{c:List Value}{e:TypeId}{o:Bool}{fz:Nat}{st:Bool}(h:H.get b=some (.cells c e o fz st))(hn:off+n≤c.length):H.ldN ⟨b,off,none⟩ n=some ((c.drop off).take n):=by simp[Heap.ldN,h,hn]
theorem st1_s{H:Heap}{b off:Nat}{v:Value}{c:List Value}{e:TypeId}{o:Bool}{fz:Nat}{st:Bool}(h:H.get b=some (.cells c e o fz st))(hn:off<c.length)(hf:fz≤off):H.st1 ⟨b,off,none⟩ v=some (H.put b (.cells (c.set off v) e o fz st)):=by simp[Heap.st1,h,hn,hf]
def rdAt(hs:List Heap)(d:Go.Cm.Rd)(k:Nat):Bool:=match hs[k]? with
 |some H=>(match readD d.r d.vs H with
  |some v=>same d.v v
  |none=>false)
 |none=>false
theorem rdOk_1(hs:List Heap)(d:Rd)(k:Nat):rdOk hs d k 1=rdAt hs d k:=Bool.and_true _
theorem rdOk_2(hs:List Heap)(d:Rd)(k:Nat):rdOk hs d k 2=(rdAt hs d k&&rdAt hs d (k+1)):=by rw[←rdOk_1 hs d (k+1)];rfl
theorem rdOk_3(hs:List Heap)(d:Rd)(k:Nat):rdOk hs d k 3=(rdAt hs d k&&(rdAt hs d (k+1)&&rdAt hs d (k+2))):=by rw[←rdOk_2 hs d (k+1)];rfl
theorem rdOk_4(hs:List Heap)(d:Rd)(k:Nat):rdOk hs d k 4=(rdAt hs d k&&(rdAt hs d (k+1)&&(rdAt hs d (k+2)&&rdAt hs d (k+3)))):=by rw[←rdOk_3 hs d (k+1)];rfl
theorem rdOk_5(hs:List Heap)(d:Rd)(k:Nat):rdOk hs d k 5=(rdAt hs d k&&(rdAt hs d (k+1)&&(rdAt hs d (k+2)&&(rdAt hs d (k+3)&&rdAt hs d (k+4))))):=by rw[←rdOk_4 hs d (k+1)];rfl
theorem rdAt_s{hs:List Heap}{d:Rd}{k:Nat}{H:Heap}{v:Value}(h:hs[k]?=some H)(h1:readD d.r d.vs H=some v)(h2:same d.v v=true):rdAt hs d k=true:=by simp[rdAt,h,h1,h2]
theorem same_int(k:IntKind)(n:Int):same (.int k n) (.int k n)=true:=by simp[same,same0]
theorem same_bool(b:Bool):same (.bool b) (.bool b)=true:=by simp[same,same0]
theorem same_sl(a:Option Addr)(n c:Nat):same (.slice a n c) (.slice a n c)=true:=by simp[same,same0]
theorem same_ptr(a:Option Addr):same (.pointer a) (.pointer a)=true:=by simp[same,same0]
def Keep(S:Nat→Prop)(H H':Heap):Prop:=H.next≤H'.next∧∀k,k<H.next→¬S k→H'.get k=H.get k
theorem Keep.refl{S:Nat→Prop}(H:Heap):Keep S H H:=⟨Nat.le_refl _,fun _ _ _=>rfl⟩
theorem Keep.trans{S T:Nat→Prop}{H H' H'':Heap}(h:Keep S H H')(h':Keep T H' H'')(hs:∀k,k<H.next→T k→S k):Keep S H H'':=⟨Nat.le_trans h.1 h'.1,fun k hk hn=>(h'.2 k (Nat.lt_of_lt_of_le hk h.1) (fun ht=>hn (hs k hk ht))).trans (h.2 k hk hn)⟩
theorem Keep.mono{S T:Nat→Prop}{H H':Heap}(h:Keep S H H')(hs:∀k,k<H.next→S k→T k):Keep T H H':=⟨h.1,fun k hk hn=>h.2 k hk (fun ht=>hn (hs k hk ht))⟩
theorem Keep.new{S:Nat→Prop}(H:Heap)(o:CObj):Keep S H (H.new o):=⟨by simp,fun k hk _=>Heap.get_new_ne _ _ (by omega)⟩
theorem Keep.put{S:Nat→Prop}(H:Heap)(b:Nat)(o:CObj)(hb:S b):Keep S H (H.put b o):=⟨by simp,fun k _ hn=>Heap.get_put_ne _ _ (fun e=>hn (e▸hb))⟩
def Own(H:Heap)(b:Nat)(cs:List Value)(e:TypeId):Prop:=b<H.next∧∃o st,H.get b=some (.cells cs e o 0 st)
def Whole(H:Heap)(s:Sl)(cs:List Value)(e:TypeId)(sz:Nat):Prop:=(s=⟨none,0,0⟩∧cs=[])∨∃b n,s=⟨some ⟨b,0,none⟩,n,n⟩∧cs.length=n*sz∧Own H b cs e
def Sl.at(s:Sl)(k:Nat):Prop:=∃a,s.a=some a∧a.block=k
theorem Own.keep{S:Nat→Prop}{H H':Heap}{b:Nat}{cs:List Value}{e:TypeId}(h:Own H b cs e)(hk:Keep S H H')(hn:¬S b):Own H' b cs e:=by obtain⟨h1,o,st,h2⟩:=h;exact⟨Nat.lt_of_lt_of_le h1 hk.1,o,st,(hk.2 b h1 hn).trans h2⟩
theorem Whole.keep{S:Nat→Prop}{H H':Heap}{s:Sl}{cs:List Value}{e:TypeId}{sz:Nat}(h:Whole H s cs e sz)(hk:Keep S H H')(hn:∀k,s.at k→¬S k):Whole H' s cs e sz:=by
 rcases h with h|⟨b,n,rfl,h1,h2⟩
 ·exact .inl h
 ·exact .inr ⟨b,n,rfl,h1,h2.keep hk (hn b ⟨_,rfl,rfl⟩)⟩
theorem Whole.lt{H:Heap}{s:Sl}{cs:List Value}{e:TypeId}{sz:Nat}(h:Whole H s cs e sz){k:Nat}(hk:s.at k):k<H.next:=by
 obtain⟨a,h1,rfl⟩:=hk;rcases h with ⟨rfl,_⟩|⟨b,n,rfl,_,h2⟩
 ·cases h1
 ·cases h1;exact h2.1
theorem Whole.nil(H:Heap)(e:TypeId)(sz:Nat):Whole H Sl.nil [] e sz:=.inl ⟨rfl,rfl⟩
theorem Whole.len{H:Heap}{s:Sl}{cs:List Value}{e:TypeId}{sz:Nat}(h:Whole H s cs e sz):cs.length=s.n*sz∧s.c=s.n:=by
 rcases h with ⟨rfl,rfl⟩|⟨b,n,rfl,h1,_⟩
 ·simp
 ·exact⟨h1,rfl⟩
theorem Sl.at_nil{k:Nat}:¬Sl.nil.at k:=fun⟨_,h,_⟩=>by cases h
theorem append_whole{H:Heap}{s:Sl}{cs new:List Value}{e:TypeId}{sz bytes n:Nat}{str:Bool}{x:Value}(hs:Whole H s cs e sz)(h1:srcN str x=some n)(h2:srcCells H sz n x=some new)(h3:new.length=n*sz)(h4:(s.n+n)*bytes≤70368744177664)(h5:0<bytes)(h6:0<sz):∃s' H',(∀K,appendK e sz bytes str s.v x H K=K s'.v H')∧Whole H' s' (cs++new) e sz∧Keep s.at H H'∧(∀k,s'.at k→s.at k∨H.next≤k)∧s'.n=s.n+n∧(n≠0→∀k,s'.at k→H.next≤k):=by
 rcases hs with ⟨rfl,rfl⟩|⟨b,m,rfl,hc,hb,o,st,hg⟩
 ·by_cases hn:n=0
  ·subst hn;have:new=[]:=List.eq_nil_of_length_eq_zero (by omega);subst this;refine⟨Sl.nil,H,fun K=>?_,.inl ⟨rfl,rfl⟩,Keep.refl _,fun k hk=>.inl hk,rfl,fun h=>absurd rfl h⟩;simp[appendK,asSl,h1,h2,optK]
  ·refine⟨⟨some ⟨H.next,0,none⟩,n,n⟩,H.new (.cells new e true 0 false),fun K=>?_,.inr ⟨H.next,n,rfl,by simpa using h3,by simp,true,false,by simp⟩,Keep.new _ _,?_,by simp,?_⟩
   ·simp only[appendK,asSl,h1,h2,optK];rw[if_neg (by omega),if_pos ⟨by simpa using h4,h5,h6⟩];simp
   ·rintro k ⟨a,h,rfl⟩;cases h;exact .inr (Nat.le_refl _)
   ·rintro _ k ⟨a,h,rfl⟩;cases h;exact Nat.le_refl _
 ·by_cases hn:n=0
  ·subst hn;have:new=[]:=List.eq_nil_of_length_eq_zero (by omega);subst this;refine⟨_,H,fun K=>?_,.inr ⟨b,m,rfl,by simpa using hc,hb,o,st,by simpa using hg⟩,Keep.refl _,fun k hk=>.inl hk,rfl,fun h=>absurd rfl h⟩;simp[appendK,asSl,h1,h2,optK]
  ·have hne:¬m+n≤m:=by omega
   have ht:List.take (m*sz) cs=cs:=List.take_of_length_le (by omega);have hx:exact sz cs.length 0 m o= !o:=by unfold exact;cases o<;>simp[hc]
   have hl:0+m*sz≤cs.length:=by omega
   have key:∀H1:Heap,H1.next=H.next→(∀k,k<H.next→k≠b→H1.get k=H.get k)→∀st2,Whole (H1.new (.cells (cs++new) e true 0 st2)) ⟨some ⟨H1.next,0,none⟩,m+n,m+n⟩ (cs++new) e sz∧
    Keep (Sl.at ⟨some ⟨b,0,none⟩,m,m⟩) H (H1.new (.cells (cs++new) e true 0 st2)):=by
    intro H1 e1 e2 st2;refine⟨.inr ⟨_,_,rfl,by simp[hc,h3,Nat.add_mul],by simp,true,st2,by simp⟩,by simp[e1],fun k hk hs=>?_⟩;rw[Heap.get_new_ne _ _ (by omega)];exact e2 k hk (fun h=>hs ⟨_,rfl,h.symm⟩)
   by_cases ho:o=true
   ·subst ho;obtain⟨k1,k2⟩:=key (H.kill b) rfl (fun k _ hk=>Heap.get_kill_ne _ hk) st;refine⟨⟨some ⟨H.next,0,none⟩,m+n,m+n⟩,(H.kill b).new (.cells (cs++new) e true 0 st),fun K=>?_,k1,k2,?_,rfl,?_⟩
    ·simp only[appendK,asSl,h1,h2,optK,hg];rw[if_neg hne,if_pos ⟨h4,h5,h6⟩,if_pos hl,hx];simp[ht]
    ·rintro k ⟨a,h,rfl⟩;cases h;exact .inr (Nat.le_refl _)
    ·rintro _ k ⟨a,h,rfl⟩;cases h;exact Nat.le_refl _
   ·have ho:o=false:=by simpa using ho
    subst ho;obtain⟨k1,k2⟩:=key H rfl (fun _ _ _=>rfl) false;refine⟨⟨some ⟨H.next,0,none⟩,m+n,m+n⟩,H.new (.cells (cs++new) e true 0 false),fun K=>?_,k1,k2,?_,rfl,?_⟩
    ·simp only[appendK,asSl,h1,h2,optK,hg];rw[if_neg hne,if_pos ⟨h4,h5,h6⟩,if_pos hl,hx];simp[ht]
    ·rintro k ⟨a,h,rfl⟩;cases h;exact .inr (Nat.le_refl _)
    ·rintro _ k ⟨a,h,rfl⟩;cases h;exact Nat.le_refl _
theorem push_whole{H:Heap}{s:Sl}{cs new:List Value}{e:TypeId}{sz bytes:Nat}(hs:Whole H s cs e sz)(h3:new.length=sz)(h4:(s.n+1)*bytes≤70368744177664)(h5:0<bytes)(h6:0<sz):∃s' H',(∀K,appendK e sz bytes false s.v (.slice (some ⟨H.next,0,none⟩) 1 1) (H.new (.cells new e false 0 false)) K=K s'.v H')∧Whole H' s' (cs++new) e sz∧Keep s.at H H'∧Keep s.at (H.new (.cells new e false 0 false)) H'∧(∀k,s'.at k→H.next<k)∧s'.n=s.n+1:=by
 have hl1:Whole (H.new (.cells new e false 0 false)) s cs e sz:=hs.keep (Keep.new (S:=fun _=>False) _ _) (fun _ _ h=>h);obtain⟨s',H',e1,e2,e3,_,e5,e6⟩:=append_whole (bytes:=bytes) (str:=false) (x:=.slice (some ⟨H.next,0,none⟩) 1 1) (n:=1) (new:=new) hl1 rfl (by
  simp only[srcCells,Nat.one_mul];rw[if_neg (by omega),ldN_s (Heap.get_new_same H _) (by omega),List.drop_zero,List.take_of_length_le (by omega)]) (by omega) h4 h5 h6
 exact⟨s',H',e1,e2,(Keep.new (S:=s.at) _ _).trans e3 (fun _ _ h=>h),e3,fun k hk=>by have:=e6 (by omega) k hk;simp at this;omega,e5⟩
def inRow(P:Program):List Field→Nat→Option Nat
 |[],n=>some n
 |f::fs,n=>if f.offset=n then inRow P fs (n+P.cellsOf f.type)else none
def plainT(P:Program):Nat→TypeId→Bool
 |0,_=>false
 |d+1,t=>match P.underlying t with
  |some .bool|some (.int _)|some .string=>decide (P.cellsOf t=1)
  |some (.slice e)=>decide (P.cellsOf t=1)&&decide (0<P.cellsOf e)&&plainT P d e
  |some (.struct fs)=>(inRow P fs.toList 0==some (P.cellsOf t))&&fs.toList.all fun f=>plainT P d f.type
  |some (.array n e)=>decide (n*P.cellsOf e=P.cellsOf t)&&decide (0<P.cellsOf e)&&plainT P d e
  |_=>false
inductive DR {H:Type} (P:Program) (ws:List Win):TypeId→List Value→DataW H→Prop
 |bool {t:TypeId} (b:Bool) (h:P.underlying t=some .bool):DR P ws t [.bool b] (.lit (.bool b))
 |int {t:TypeId} (k:IntKind) (n:Int) (h:P.underlying t=some (.int k)) (hw:(Lit.int k n).wf=true):DR P ws t [.int k n] (.lit (.int k n))
 |string {t:TypeId} (s:ByteArray) (h:P.underlying t=some .string):DR P ws t [.string s] (.lit (.string s.data.toList))
 |nil {t e:TypeId} (h:P.underlying t=some (.slice e)):DR P ws t [.slice none 0 0] .nil
 |none {t e:TypeId} (h:P.underlying t=some (.slice e)):DR P ws t [.slice (some dang) 0 0] (.slice [] [])
 |slice {t e:TypeId} (h:P.underlying t=some (.slice e)) (b:Nat) (x:Win) (es rest:List (DataW H)) (hb:ws[b]?=some x) (hl:x.cells.length=(es++rest).length*P.cellsOf e) (hd:∀(i:Nat) d,(es++rest)[i]?=some d→DR P ws e ((x.cells.drop (i*P.cellsOf e)).take (P.cellsOf e)) d):DR P ws t [.slice (some ⟨b,0,none⟩) es.length (es++rest).length] (.slice es rest)
 |struct {t:TypeId} {fs:Array Field} (h:P.underlying t=some (.struct fs)) (cs:List Value) (ds:List (DataW H)) (hl:cs.length=P.cellsOf t) (hn:ds.length=fs.size) (hd:∀(i:Nat) f d,fs.toList[i]?=some f→ds[i]?=some d→DR P ws f.type ((cs.drop f.offset).take (P.cellsOf f.type)) d):DR P ws t cs (.agg ds)
 |array {t e:TypeId} {n:Nat} (h:P.underlying t=some (.array n e)) (cs:List Value) (ds:List (DataW H)) (hl:cs.length=P.cellsOf t) (hn:ds.length=n) (hd:∀(i:Nat) d,ds[i]?=some d→DR P ws e ((cs.drop (i*P.cellsOf e)).take (P.cellsOf e)) d):DR P ws t cs (.agg ds)
theorem mapM_some{α β:Type}{f:α→Option β}:∀{l:List α} {r:List β},l.mapM f=some r→r.length=l.length∧∀(i:Nat) x y,l[i]?=some x→r[i]?=some y→f x=some y
 |[],r,h=>by simp only[List.mapM_nil,Option.pure_def,Option.some.injEq]at h;subst h;exact⟨rfl,fun i x y h=>by simp at h⟩
 |a::l,r,h=>by
  simp only[List.mapM_cons,Option.pure_def,Option.bind_eq_bind,Option.bind_eq_some_iff,Option.some.injEq]at h;obtain⟨b,h1,r',h2,rfl⟩:=h;obtain⟨h3,h4⟩:=mapM_some h2;refine⟨by simp[h3],fun i x y hx hy=>?_⟩;cases i with
  |zero=>simp at hx hy;subst hx hy;exact h1
  |succ i=>exact h4 i x y (by simpa using hx) (by simpa using hy)
section
variable{H:Type}{P:Program}{w:World}
def Good(P:Program)(w:World)(t:TypeId)(cs:List Value)(d:DataW H):Prop:=∀n0:Nat,∃(ws1:List Win) (cs1:List Value),∀ws0 ws2:List Win,ws0.length=n0→(∀x∈ws1,WinOK P w (muW P w (ws0++ws1++ws2)) x)∧VRs (muW P w (ws0++ws1++ws2)) cs1 cs∧DR P (ws0++ws1++ws2) t cs1 d∧∀v∈cs1,one v=true
theorem jobs:∀(l:List (TypeId×List Value×DataW H)),(∀j∈l,Good P w j.1 j.2.1 j.2.2)→∀n0:Nat,∃(ws1:List Win) (css:List (List Value)),css.length=l.length∧∀ws0 ws2:List Win,ws0.length=n0→
  (∀x∈ws1,WinOK P w (muW P w (ws0++ws1++ws2)) x)∧∀(i:Nat) j c,l[i]?=some j→css[i]?=some c→VRs (muW P w (ws0++ws1++ws2)) c j.2.1∧DR P (ws0++ws1++ws2) j.1 c j.2.2∧∀v∈c,one v=true
 |[],_,n0=>⟨[],[],rfl,fun ws0 ws2 _=>⟨by simp,fun i j c h=>by simp at h⟩⟩
 |a::l,h,n0=>by
  obtain⟨wa,ca,ha⟩:=h a List.mem_cons_self n0;obtain⟨wb,cb,hlen,hb⟩:=jobs l (fun j hj=>h j (List.mem_cons_of_mem _ hj)) (n0+wa.length);refine⟨wa++wb,ca::cb,by simp[hlen],fun ws0 ws2 h0=>?_⟩;have e1:ws0++(wa++wb)++ws2=ws0++wa++(wb++ws2):=by simp[List.append_assoc]
  have e2:ws0++(wa++wb)++ws2=(ws0++wa)++wb++ws2:=by simp[List.append_assoc]
  obtain⟨a1,a2,a3,a4⟩:=ha ws0 (wb++ws2) h0;obtain⟨b1,b2⟩:=hb (ws0++wa) ws2 (by simp[h0]);refine⟨fun x hx=>?_,fun i j c hi hc=>?_⟩
  ·rcases List.mem_append.1 hx with hx|hx
   ·rw[e1];exact a1 x hx
   ·rw[e2];exact b1 x hx
  ·cases i with
   |zero=>simp at hi hc;subst hi hc;rw[e1];exact⟨a2,a3,a4⟩
   |succ i=>rw[e2];exact b2 i j c (by simpa using hi) (by simpa using hc)
theorem VRs.flatten{μ:Mu}:∀{a b:List (List Value)},a.length=b.length→(∀(i:Nat) x y,a[i]?=some x→b[i]?=some y→VRs μ x y)→VRs μ a.flatten b.flatten
 |[],[],_,_=>trivial
 |[],_::_,h,_=>by simp at h
 |_::_,[],h,_=>by simp at h
 |x::a,y::b,h,hi=>by simp only[List.flatten_cons];exact VRs.append (hi 0 x y rfl rfl) (VRs.flatten (by simpa using h) fun i x y h1 h2=>hi (i+1) x y (by simpa using h1) (by simpa using h2))
theorem flat_at{α:Type}(sz:Nat):∀(l:List (List α)),(∀x∈l,x.length=sz)→l.flatten.length=l.length*sz∧∀(i:Nat) x,l[i]?=some x→(l.flatten.drop (i*sz)).take sz=x
 |[],_=>⟨by simp,fun i x h=>by simp at h⟩
 |a::l,h=>by
  have ha:=h a List.mem_cons_self;obtain⟨h1,h2⟩:=flat_at sz l (fun x hx=>h x (List.mem_cons_of_mem _ hx));refine⟨by simp only[List.flatten_cons,List.length_append,h1,ha,List.length_cons,Nat.add_mul,Nat.one_mul];omega,fun i x hx=>?_⟩;cases i with
  |zero=>simp at hx;subst hx;rw[Nat.zero_mul,List.drop_zero,List.flatten_cons,List.take_left' ha]
  |succ i=>rw[List.flatten_cons,Nat.add_mul,Nat.one_mul,Nat.add_comm,←List.drop_drop,List.drop_left' ha];exact h2 i x (by simpa using hx)
theorem win_row{μ:Mu}{a:Addr}{l l':List Value}(hne:l'≠[])(hc:∀(i:Nat) v,l'[i]?=some v→w.cell? (a.add i)=some v)(hl:VRs μ l l')(ho:∀v∈l,one v=true):a.spot=none∧∃e,WinOK P w μ ⟨a.block,a.off,l,e⟩:=by
 obtain⟨v0,l2,rfl⟩:∃v0 l2,l'=v0::l2:=by cases l' with
  |nil=>exact absurd rfl hne
  |cons x y=>exact⟨x,y,rfl⟩
 have h0:=hc 0 v0 rfl;have hs:a.spot=none:=by
  unfold World.cell? at h0;split at h0
  ·split at h0
   ·cases h0
   ·rename_i h;simpa[Addr.add]using h
  ·cases h0
 have hb:∃c e fr,w.heap[a.block]?=some (.cells c e fr):=by
  unfold World.cell? at h0;split at h0
  ·rename_i c e fr h;exact⟨c,e,fr,h⟩
  ·cases h0
 obtain⟨c,e,fr,hb⟩:=hb;have hadd:∀i,a.add i=⟨a.block,a.off+i,none⟩:=by
  intro i;obtain⟨ab,ao,as⟩:=a;simp only at hs;subst hs;unfold Addr.add;split
  ·rename_i h;simp[h]
  ·rfl
 have hcell:∀(i:Nat) v,(v0::l2)[i]?=some v→c[i+a.off]?=some v:=by intro i v hv;have h1:=hc i v hv;unfold World.cell? at h1;rw[hadd i]at h1;simp only[hb,Option.isSome_none,Bool.false_eq_true,if_false]at h1;rw[Nat.add_comm];exact h1
 have hlen:=hl.length;refine⟨hs,e,c,fr,hb,?_,fun i v hv=>⟨ho v (List.mem_of_getElem? hv),?_⟩⟩
 ·have hlast:=hcell l2.length ((v0::l2)[l2.length]'(by simp)) (List.getElem?_eq_getElem (by simp));have:=(Array.getElem?_eq_some_iff.1 hlast).1;simp only[List.length_cons]at hlen;simp only;omega
 ·obtain⟨v',h2,h3⟩:=hl.get i v hv;exact⟨v',hcell i v' h2,h3⟩
end
section
variable{H:Type}{enc:TypeId×Value→H}{P:Program}{w:World}{base:Nat}{hd:Bool}
theorem Good.leaf{t:TypeId}{v:Value}{d:DataW H}(h1:∀μ,VR μ v v)(h2:∀ws,DR P ws t [v] d)(h3:one v=true):Good P w t [v] d:=fun n0=>⟨[],[v],fun ws0 ws2 _=>⟨by simp,⟨h1 _,trivial⟩,h2 _,by simpa using h3⟩⟩
theorem Good.row{t e:TypeId}(ht:P.underlying t=some (.slice e))(hsz:0<P.cellsOf e){a:Addr}(es rest:List (DataW H))(cells:List (List Value))(hlen:cells.length=(es++rest).length)(hc:∀(i:Nat) c,cells[i]?=some c→w.cells? base (a.add (i*P.cellsOf e)) (P.cellsOf e)=some c)(hg:∀(i:Nat) c d,cells[i]?=some c→(es++rest)[i]?=some d→Good P w e c d):Good P w t [.slice (some a) es.length (es++rest).length] (.slice es rest):=by
 have hclen:∀c∈cells,c.length=P.cellsOf e:=by
  intro c hm;obtain⟨i,hi⟩:=List.getElem?_of_mem hm;have:=hc i c hi;unfold World.cells? at this;split at this
  ·have:=(mapM_some this).1;simpa using this
  ·cases this
 by_cases h0:es++rest=[]
 ·obtain⟨rfl,rfl⟩:es=[]∧rest=[]:=by simpa using h0
  exact fun n0=>⟨[],[.slice (some dang) 0 0],fun ws0 ws2 _=>⟨by simp,⟨.sl (Nat.le_refl _) (.inr ⟨rfl,rfl,rfl,rfl⟩),trivial⟩,.none ht,by simp[one]⟩⟩
 ·have hjobs:=jobs (P:=P) (w:=w) ((cells.zip (es++rest)).map fun p=>(e,p.1,p.2)) (by
   intro j hj;obtain⟨p,hp,rfl⟩:=List.mem_map.1 hj;obtain⟨i,hi⟩:=List.getElem?_of_mem hp;rw[List.getElem?_zip_eq_some]at hi;exact hg i _ _ hi.1 hi.2)
  intro n0;obtain⟨ws1,css,hcss,hw⟩:=hjobs n0;have hl2:css.length=cells.length:=by rw[hcss];simp[hlen]
  have hcell:∀(i:Nat) v,cells.flatten[i]?=some v→w.cell? (a.add i)=some v:=by
   intro i v hv;obtain⟨f1,f2⟩:=flat_at (P.cellsOf e) cells hclen;have hi:=(List.getElem?_eq_some_iff.1 hv).1;have hq:i/P.cellsOf e<cells.length:=by rw[f1]at hi;exact(Nat.div_lt_iff_lt_mul hsz).2 hi
   have hr:i%P.cellsOf e<P.cellsOf e:=Nat.mod_lt _ hsz;have hx:=List.getElem?_eq_getElem hq;have h1:=f2 _ _ hx;have h2:=hc _ _ hx;unfold World.cells? at h2;split at h2
   ·have h3:=(mapM_some h2).2 (i%P.cellsOf e) (i%P.cellsOf e) ((cells[i/P.cellsOf e])[i%P.cellsOf e]'(by rw[hclen _ (List.getElem_mem hq)];exact hr)) (by simp[hr]) (List.getElem?_eq_getElem _);have h4:((cells[i/P.cellsOf e])[i%P.cellsOf e]'(by rw[hclen _ (List.getElem_mem hq)];exact hr))=v:=by
     have h5:(cells[i/P.cellsOf e])[i%P.cellsOf e]?=some v:=by rw[←h1,List.getElem?_take_of_lt hr,List.getElem?_drop];rw[show i/P.cellsOf e*P.cellsOf e+i%P.cellsOf e=i by rw[Nat.mul_comm];exact Nat.div_add_mod i _];exact hv
     exact(List.getElem?_eq_some_iff.1 h5).2
    rw[h4]at h3;have h6:(a.add (i/P.cellsOf e*P.cellsOf e)).add (i%P.cellsOf e)=a.add i:=by
     have hdm:i/P.cellsOf e*P.cellsOf e+i%P.cellsOf e=i:=by rw[Nat.mul_comm];exact Nat.div_add_mod i _
     obtain⟨ab,ao,as⟩:=a;unfold Addr.add;by_cases q1:i/P.cellsOf e*P.cellsOf e=0
     ·rw[if_pos q1];by_cases q2:i%P.cellsOf e=0
      ·rw[if_pos q2,if_pos (by omega)]
      ·rw[if_neg q2,if_neg (by omega)];simp only[Addr.mk.injEq,true_and,and_true];omega
     ·rw[if_neg q1,if_neg (show¬i=0 by omega)];by_cases q2:i%P.cellsOf e=0
      ·rw[if_pos q2];simp only[Addr.mk.injEq,true_and,and_true];omega
      ·rw[if_neg q2];simp only[Addr.mk.injEq,true_and,and_true];omega
    rw[h6]at h3;exact h3
   ·cases h2
  have hne:cells.flatten≠[]:=by intro hz;have f1:=(flat_at (P.cellsOf e) cells hclen).1;rw[hz]at f1;simp only[List.length_nil]at f1;have:(es++rest).length≠0:=fun h=>h0 (List.eq_nil_of_length_eq_zero h);rcases Nat.mul_eq_zero.1 f1.symm with h|h<;>omega
  have helem:∃e':TypeId,∃c fr,w.heap[a.block]?=some (.cells c e' fr):=by
   obtain⟨v0,l2,hv⟩:∃v0 l2,cells.flatten=v0::l2:=by
    cases hq:cells.flatten with
    |nil=>exact absurd hq hne
    |cons x y=>exact⟨x,y,rfl⟩
   have:=hcell 0 v0 (by rw[hv];rfl);unfold World.cell? at this;split at this
   ·rename_i c e' fr h;exact⟨e',c,fr,h⟩
   ·cases this
  obtain⟨e',cr,fr',hheap⟩:=helem;refine⟨ws1++[⟨a.block,a.off,css.flatten,e'⟩],[.slice (some ⟨n0+ws1.length,0,none⟩) es.length (es++rest).length],fun ws0 ws2 hz=>?_⟩;have e1:ws0++(ws1++[⟨a.block,a.off,css.flatten,e'⟩])++ws2=ws0++ws1++([⟨a.block,a.off,css.flatten,e'⟩]++ws2):=by simp[List.append_assoc]
  obtain⟨q1,q2⟩:=hw ws0 ([⟨a.block,a.off,css.flatten,e'⟩]++ws2) hz;rw[←e1]at q1 q2;generalize hws:ws0++(ws1++[⟨a.block,a.off,css.flatten,e'⟩])++ws2=ws at q1 q2;have hget:ws[n0+ws1.length]?=some ⟨a.block,a.off,css.flatten,e'⟩:=by rw[←hws,e1,List.getElem?_append_right (by simp[hz])];simp[hz]
  have each:∀(i:Nat) c c' d,css[i]?=some c→cells[i]?=some c'→(es++rest)[i]?=some d→VRs (muW P w ws) c c'∧DR P ws e c d∧∀v∈c,one v=true:=by intro i c c' d h1 h2 h3;exact q2 i (e,c',d) c (by rw[List.getElem?_map,show(cells.zip (es++rest))[i]?=some (c',d)from List.getElem?_zip_eq_some.2 ⟨h2,h3⟩];rfl) h1
  have pick:∀i,i<css.length→∃c c' d,css[i]?=some c∧cells[i]?=some c'∧(es++rest)[i]?=some d:=fun i hi=>⟨_,_,_,List.getElem?_eq_getElem hi,List.getElem?_eq_getElem (by omega),List.getElem?_eq_getElem (by omega)⟩;have hcl:∀c∈css,c.length=P.cellsOf e:=by intro c hm;obtain⟨i,hi⟩:=List.getElem?_of_mem hm;obtain⟨c2,c',d,h1,h2,h3⟩:=pick i (List.getElem?_eq_some_iff.1 hi).1;rw[hi]at h1;cases h1;rw[(each i c c' d hi h2 h3).1.length];exact hclen c' (List.mem_of_getElem? h2)
  obtain⟨f1,f2⟩:=flat_at (P.cellsOf e) css hcl;have hvr:VRs (muW P w ws) css.flatten cells.flatten:=VRs.flatten hl2 (fun i x y hx hy=>by obtain⟨c2,c',d,h1,h2,h3⟩:=pick i (List.getElem?_eq_some_iff.1 hx).1;rw[hx]at h1;rw[hy]at h2;cases h1;cases h2;exact(each i x y d hx hy h3).1);have hone:∀v∈css.flatten,one v=true:=by intro v hv;obtain⟨c,hc1,hc2⟩:=List.mem_flatten.1 hv;obtain⟨i,hi⟩:=List.getElem?_of_mem hc1;obtain⟨c2,c',d,h1,h2,h3⟩:=pick i (List.getElem?_eq_some_iff.1 hi).1;exact(each i c c' d hi h2 h3).2.2 v hc2
  obtain⟨hspot,e2,hwin⟩:=win_row (w:=w) (P:=P) hne hcell hvr hone;have hwin':WinOK P w (muW P w ws) ⟨a.block,a.off,css.flatten,e'⟩:=by obtain⟨c3,fr3,g1,g2,g3⟩:=hwin;simp only at g1;rw[hheap]at g1;cases g1;exact⟨_,_,hheap,g2,g3⟩
  refine⟨fun x hx=>?_,⟨?_,trivial⟩,?_,by simp[one]⟩
  ·rcases List.mem_append.1 hx with hx|hx
   ·exact q1 x hx
   ·simp only[List.mem_singleton]at hx;subst hx;exact hwin'
  ·have:=VR.win (P:=P) (w:=w) hget (n:=es.length) (c:=(es++rest).length) (by simp);obtain⟨ab,ao,as⟩:=a;simp only at hspot;subst hspot;exact this
  ·refine .slice ht _ _ es rest hget (by simp only;rw[f1,hl2,hlen]) (fun i d hi=>?_);have hil:=(List.getElem?_eq_some_iff.1 hi).1;obtain⟨c2,c',d',h1,h2,h3⟩:=pick i (by omega);rw[hi]at h3;cases h3;simp only;rw[f2 i c2 h1];exact(each i c2 c' d h1 h2 hi).2.1
theorem inRow_le:∀{fs:List Field} {n m:Nat},inRow P fs n=some m→n≤m
 |[],n,m,h=>by simp only[inRow,Option.some.injEq]at h;omega
 |f::fs,n,m,h=>by
  simp only[inRow]at h;split at h
  ·have:=inRow_le h;omega
  ·cases h
theorem inRow_split(X:List Value):∀{fs:List Field} {n m:Nat},inRow P fs n=some m→(fs.map fun f=>(X.drop f.offset).take (P.cellsOf f.type)).flatten=(X.drop n).take (m-n)
 |[],n,m,h=>by simp only[inRow,Option.some.injEq]at h;subst h;simp
 |f::fs,n,m,h=>by
  simp only[inRow]at h;split at h
  ·rename_i ho;have hle:=inRow_le h;simp only[List.map_cons,List.flatten_cons];rw[inRow_split X h,ho,show m-n=P.cellsOf f.type+(m-(n+P.cellsOf f.type))by omega,List.take_add,List.drop_drop]
  ·cases h
theorem inRow_at:∀{fs:List Field} {n m:Nat} {css:List (List Value)},inRow P fs n=some m→(∀(i:Nat) f c,fs[i]?=some f→css[i]?=some c→c.length=P.cellsOf f.type)→
  ∀(i:Nat) f c,fs[i]?=some f→css[i]?=some c→n≤f.offset∧(css.flatten.drop (f.offset-n)).take (P.cellsOf f.type)=c
 |[],n,m,css,_,_,i,f,c,hf,_=>by simp at hf
 |_::_,n,m,[],_,_,i,f,c,_,hc=>by simp at hc
 |g::fs,n,m,c0::css,h,hl,i,f,c,hf,hc=>by
  simp only[inRow]at h;split at h
  ·rename_i ho;have h0:=hl 0 g c0 rfl rfl;cases i with
   |zero=>simp at hf hc;subst hf hc;refine⟨by omega,?_⟩;rw[ho,Nat.sub_self,List.drop_zero,List.flatten_cons,List.take_left' h0]
   |succ i=>obtain⟨h1,h2⟩:=inRow_at (css:=css) h (fun i f c hf hc=>hl (i+1) f c (by simpa using hf) (by simpa using hc)) i f c (by simpa using hf) (by simpa using hc);refine⟨by omega,?_⟩;rw[List.flatten_cons,show f.offset-n=c0.length+(f.offset-(n+P.cellsOf g.type))by omega,←List.drop_drop,List.drop_left' rfl];exact h2
  ·cases h
theorem Good.struct{t:TypeId}{fs:Array Field}(ht:P.underlying t=some (.struct fs))(hrow:inRow P fs.toList 0=some (P.cellsOf t)){cs:List Value}(hlen:cs.length=P.cellsOf t){ds:List (DataW H)}(hn:ds.length=fs.size)(hg:∀(i:Nat) f d,fs.toList[i]?=some f→ds[i]?=some d→Good P w f.type ((cs.drop f.offset).take (P.cellsOf f.type)) d):Good P w t cs (.agg ds):=by
 have hjobs:=jobs (P:=P) (w:=w) ((fs.toList.zip ds).map fun p=>(p.1.type,(cs.drop p.1.offset).take (P.cellsOf p.1.type),p.2)) (by
  intro j hj;obtain⟨p,hp,rfl⟩:=List.mem_map.1 hj;obtain⟨i,hi⟩:=List.getElem?_of_mem hp;rw[List.getElem?_zip_eq_some]at hi;exact hg i _ _ hi.1 hi.2)
 intro n0;obtain⟨ws1,css,hcss,hw⟩:=hjobs n0;have hl2:css.length=fs.toList.length:=by rw[hcss];simp[hn]
 refine⟨ws1,css.flatten,fun ws0 ws2 hz=>?_⟩;obtain⟨q1,q2⟩:=hw ws0 ws2 hz;have hsplit:=inRow_split (P:=P) cs hrow;rw[List.drop_zero,Nat.sub_zero,List.take_of_length_le (by omega)]at hsplit;have hfit:∀(i:Nat) f,fs.toList[i]?=some f→((cs.drop f.offset).take (P.cellsOf f.type)).length=P.cellsOf f.type:=by
  have gen:∀(l:List Field) (n m:Nat),inRow P l n=some m→∀(i:Nat) f,l[i]?=some f→f.offset+P.cellsOf f.type≤m:=by
   intro l;induction l with
   |nil=>intro n m _ i f h;simp at h
   |cons g l ih=>
    intro n m h i f hf;simp only[inRow]at h;split at h
    ·cases i with
     |zero=>simp at hf;subst hf;have:=inRow_le h;omega
     |succ i=>exact ih _ _ h i f (by simpa using hf)
    ·cases h
  intro i f hf;have:=gen _ _ _ hrow i f hf;simp only[List.length_take,List.length_drop];omega
 have each:∀(i:Nat) f c d,fs.toList[i]?=some f→css[i]?=some c→ds[i]?=some d→VRs (muW P w (ws0++ws1++ws2)) c ((cs.drop f.offset).take (P.cellsOf f.type))∧DR P (ws0++ws1++ws2) f.type c d∧∀v∈c,one v=true:=by intro i f c d h1 h2 h3;exact q2 i (f.type,_,d) c (by rw[List.getElem?_map,show(fs.toList.zip ds)[i]?=some (f,d)from List.getElem?_zip_eq_some.2 ⟨h1,h3⟩];rfl) h2
 have pick:∀i,i<css.length→∃f c d,fs.toList[i]?=some f∧css[i]?=some c∧ds[i]?=some d:=fun i hi=>⟨_,_,_,List.getElem?_eq_getElem (by omega),List.getElem?_eq_getElem hi,List.getElem?_eq_getElem (by rw[hn];simpa using (by omega:i<fs.toList.length))⟩;have hvr:VRs (muW P w (ws0++ws1++ws2)) css.flatten cs:=by rw[←hsplit];refine VRs.flatten (by simp[hl2]) (fun i x y hx hy=>?_);obtain⟨f,c,d,h1,h2,h3⟩:=pick i (List.getElem?_eq_some_iff.1 hx).1;rw[hx]at h2;cases h2;rw[List.getElem?_map,h1]at hy;simp only[Option.map_some,Option.some.injEq]at hy;subst hy;exact(each i f x d h1 hx h3).1
 refine⟨q1,hvr,.struct ht _ ds (by rw[hvr.length];exact hlen) hn (fun i f d hf hd'=>?_),fun v hv=>?_⟩
 ·obtain⟨f',c,d',h1,h2,h3⟩:=pick i (by have:=(List.getElem?_eq_some_iff.1 hf).1;omega);rw[hf]at h1;cases h1;have:=(inRow_at (css:=css) hrow (fun i f c hf hc=>by obtain⟨f',c',d',g1,g2,g3⟩:=pick i (List.getElem?_eq_some_iff.1 hc).1;rw[hf]at g1;rw[hc]at g2;cases g1;cases g2;rw[(each i f c d' hf hc g3).1.length];exact hfit i f hf) i f c hf h2).2;rw[Nat.sub_zero]at this;rw[this];exact(each i f c d hf h2 hd').2.1
 ·obtain⟨c,hc1,hc2⟩:=List.mem_flatten.1 hv;obtain⟨i,hi⟩:=List.getElem?_of_mem hc1;obtain⟨f,c2,d,h1,h2,h3⟩:=pick i (List.getElem?_eq_some_iff.1 hi).1;exact(each i f c d h1 hi h3).2.2 v hc2
theorem Good.array{t e:TypeId}{n:Nat}(ht:P.underlying t=some (.array n e))(hn0:n*P.cellsOf e=P.cellsOf t){cs:List Value}(hlen:cs.length=P.cellsOf t){ds:List (DataW H)}(hn:ds.length=n)(hg:∀(i:Nat) d,ds[i]?=some d→Good P w e ((cs.drop (i*P.cellsOf e)).take (P.cellsOf e)) d):Good P w t cs (.agg ds):=by
 have hjobs:=jobs (P:=P) (w:=w) (ds.zipIdx.map fun p=>(e,(cs.drop (p.2*P.cellsOf e)).take (P.cellsOf e),p.1)) (by
  intro j hj;obtain⟨p,hp,rfl⟩:=List.mem_map.1 hj;obtain⟨i,hi⟩:=List.getElem?_of_mem hp;rw[List.getElem?_zipIdx]at hi;obtain⟨d,h1,h2⟩:=Option.map_eq_some_iff.1 hi;subst h2;simpa using hg i d h1)
 intro n0;obtain⟨ws1,css,hcss,hw⟩:=hjobs n0;have hl2:css.length=n:=by rw[hcss];simp[hn]
 refine⟨ws1,css.flatten,fun ws0 ws2 hz=>?_⟩;obtain⟨q1,q2⟩:=hw ws0 ws2 hz;have each:∀(i:Nat) c d,css[i]?=some c→ds[i]?=some d→VRs (muW P w (ws0++ws1++ws2)) c ((cs.drop (i*P.cellsOf e)).take (P.cellsOf e))∧DR P (ws0++ws1++ws2) e c d∧∀v∈c,one v=true:=by intro i c d h2 h3;exact q2 i (e,_,d) c (by rw[List.getElem?_map,List.getElem?_zipIdx,h3];simp) h2
 have pick:∀i,i<css.length→∃c d,css[i]?=some c∧ds[i]?=some d:=fun i hi=>⟨_,_,List.getElem?_eq_getElem hi,List.getElem?_eq_getElem (by omega)⟩;have hcl:∀c∈css,c.length=P.cellsOf e:=by intro c hm;obtain⟨i,hi⟩:=List.getElem?_of_mem hm;have hil:=(List.getElem?_eq_some_iff.1 hi).1;obtain⟨c2,d,h2,h3⟩:=pick i hil;rw[(each i c d hi h3).1.length];have:(i+1)*P.cellsOf e≤n*P.cellsOf e:=Nat.mul_le_mul_right _ (by omega);rw[Nat.add_mul,Nat.one_mul]at this;simp only[List.length_take,List.length_drop];omega
 obtain⟨f1,f2⟩:=flat_at (P.cellsOf e) css hcl;have hsplit:((List.range n).map fun i=>(cs.drop (i*P.cellsOf e)).take (P.cellsOf e)).flatten=cs:=by
  have gen:∀k,k≤n→((List.range k).map fun i=>(cs.drop (i*P.cellsOf e)).take (P.cellsOf e)).flatten=cs.take (k*P.cellsOf e):=by
   intro k;induction k with
   |zero=>intro _;simp
   |succ k ih=>intro hk;rw[List.range_succ,List.map_append,List.flatten_append,ih (by omega),Nat.add_mul,Nat.one_mul,List.take_add];simp
  rw[gen n (Nat.le_refl _),List.take_of_length_le (by omega)]
 have hvr:VRs (muW P w (ws0++ws1++ws2)) css.flatten cs:=by rw[←hsplit];refine VRs.flatten (by simp[hl2]) (fun i x y hx hy=>?_);obtain⟨c,d,h2,h3⟩:=pick i (List.getElem?_eq_some_iff.1 hx).1;have hil:=(List.getElem?_eq_some_iff.1 hx).1;rw[List.getElem?_map,List.getElem?_range (by omega)]at hy;simp only[Option.map_some,Option.some.injEq]at hy;subst hy;exact(each i x d hx h3).1
 refine⟨q1,hvr,.array ht _ ds (by rw[hvr.length];exact hlen) hn (fun i d hd'=>?_),fun v hv=>?_⟩
 ·obtain⟨c,d',h2,h3⟩:=pick i (by have:=(List.getElem?_eq_some_iff.1 hd').1;omega);rw[f2 i c h2];exact(each i c d h2 hd').2.1
 ·obtain⟨c,hc1,hc2⟩:=List.mem_flatten.1 hv;obtain⟨i,hi⟩:=List.getElem?_of_mem hc1;obtain⟨c2,d,h2,h3⟩:=pick i (List.getElem?_eq_some_iff.1 hi).1;exact(each i c d hi h3).2.2 v hc2
end
section
variable{H:Type}{enc:TypeId×Value→H}{P:Program}{w:World}{base:Nat}{hd:Bool}
theorem good:∀(dep:Nat) (t:TypeId) (cs:List Value) (d:DataW H) (ps:List MemPlace) (fuel:Nat),plainT P dep t=true→DataW.trod enc P w base (fun _=>true) hd fuel t cs=some (d,ps)→Good P w t cs d:=by
 intro dep;induction dep with
 |zero=>intro t cs d ps fuel h;cases h
 |succ dep ih=>
  intro t cs d ps fuel hp h;obtain⟨fuel,rfl⟩:∃f,fuel=f+1:=by
   cases fuel with
   |zero=>cases h
   |succ f=>exact⟨f,rfl⟩
  unfold DataW.trod at h;split at h;case h_1 b hu=>simp only[Option.some.injEq,Prod.mk.injEq]at h;obtain⟨rfl,rfl⟩:=h;exact Good.leaf (fun _=>.bool _) (fun _=>.bool _ hu) rfl
  case h_2 k k' n hu=>
   split at h
   ·rename_i hk;simp only[Option.some.injEq,Prod.mk.injEq]at h;obtain⟨rfl,rfl⟩:=h;obtain⟨rfl,hw⟩:=hk;exact Good.leaf (fun _=>.int _ _) (fun _=>.int _ _ hu hw) rfl
   ·cases h
  case h_4 s hu=>
   split at h
   ·simp only[Option.some.injEq,Prod.mk.injEq]at h;obtain⟨rfl,rfl⟩:=h;exact Good.leaf (fun _=>.string _) (fun _=>.string _ hu) rfl
   ·cases h
  case h_7 e hu=>simp only[Option.some.injEq,Prod.mk.injEq]at h;obtain⟨rfl,rfl⟩:=h;exact Good.leaf (fun _=>.slN) (fun _=>.nil hu) rfl
  case h_8 e a len cap hu=>
   simp only[plainT,hu,Bool.and_eq_true,decide_eq_true_eq]at hp;obtain⟨⟨_,hsz⟩,hpe⟩:=hp;split at h;rotate_left
   ·cases h
   rename_i hb;simp only[if_true]at h;obtain⟨es,h1,h2⟩:=Option.bind_eq_some_iff.1 h;obtain⟨rest,h3,h4⟩:=Option.map_eq_some_iff.1 h2;simp only[Prod.mk.injEq]at h4;obtain⟨rfl,rfl⟩:=h4;obtain⟨l1,g1⟩:=mapM_some h1;obtain⟨l2,g2⟩:=mapM_some h3;simp only[List.length_range]at l1 l2;have all:∀(i:Nat) x,(es++rest)[i]?=some x→∃c,w.cells? base (a.add (i*P.cellsOf e)) (P.cellsOf e)=some c∧DataW.trod enc P w base (fun _=>true) hd fuel e c=some x:=by
    intro i x hx;have hi:=(List.getElem?_eq_some_iff.1 hx).1;simp only[List.length_append]at hi;by_cases hlt:i<es.length
    ·rw[List.getElem?_append_left hlt]at hx;exact Option.bind_eq_some_iff.1 (g1 i i x (by rw[List.getElem?_range (by omega)]) hx)
    ·rw[List.getElem?_append_right (by omega)]at hx;have:=Option.bind_eq_some_iff.1 (g2 (i-es.length) (i-es.length) x (by rw[List.getElem?_range (by omega)]) hx);rw[show len+(i-es.length)=i by omega]at this;exact this
   have hcells:∃cells:List (List Value),cells.length=(es++rest).length∧∀(i:Nat) c,cells[i]?=some c→w.cells? base (a.add (i*P.cellsOf e)) (P.cellsOf e)=some c:=by refine⟨(List.range (es++rest).length).map fun i=>(w.cells? base (a.add (i*P.cellsOf e)) (P.cellsOf e)).getD [],by simp,fun i c hi=>?_⟩;have hlt:=(List.getElem?_eq_some_iff.1 hi).1;simp only[List.length_map,List.length_range]at hlt;rw[List.getElem?_map,List.getElem?_range hlt]at hi;simp only[Option.map_some,Option.some.injEq]at hi;obtain⟨c',hc',_⟩:=all i _ (List.getElem?_eq_getElem hlt);rw[hc']at hi⊢;simp at hi;rw[hi]
   obtain⟨cells,hcl,hcs⟩:=hcells;have e1:len=(es.map (·.1)).length:=by simp;omega
   have e2:cap=(es.map (·.1)++rest.map (·.1)).length:=by simp;omega
   rw[e1,e2];refine Good.row (base:=base) hu hsz _ _ cells (by rw[hcl];simp) hcs (fun i c d hc hd'=>?_);rw[←List.map_append,List.getElem?_map]at hd';obtain⟨x,hx,rfl⟩:=Option.map_eq_some_iff.1 hd';obtain⟨c',q1,q2⟩:=all i x hx;rw[hcs i c hc]at q1;cases q1;exact ih e c x.1 x.2 fuel hpe q2
  case h_9 fs hu=>
   simp only[plainT,hu,Bool.and_eq_true,beq_iff_eq,List.all_eq_true]at hp;split at h;rotate_left
   ·cases h
   rename_i hlen;obtain⟨xs,h1,h2⟩:=Option.map_eq_some_iff.1 h;simp only[Prod.mk.injEq]at h2;obtain⟨rfl,rfl⟩:=h2;obtain⟨l1,g1⟩:=mapM_some h1;refine Good.struct hu hp.1 hlen (by simpa using l1) (fun i f d hf hd'=>?_);rw[List.getElem?_map]at hd';obtain⟨x,hx,rfl⟩:=Option.map_eq_some_iff.1 hd';exact ih f.type _ x.1 x.2 fuel (hp.2 f (List.mem_of_getElem? hf)) (g1 i f x hf hx)
  case h_10 n e hu=>
   simp only[plainT,hu,Bool.and_eq_true,decide_eq_true_eq]at hp;split at h;rotate_left
   ·cases h
   rename_i hlen;obtain⟨xs,h1,h2⟩:=Option.map_eq_some_iff.1 h;simp only[Prod.mk.injEq]at h2;obtain⟨rfl,rfl⟩:=h2;obtain⟨l1,g1⟩:=mapM_some h1;refine Good.array hu hp.1.1 hlen (by simpa using l1) (fun i d hd'=>?_);rw[List.getElem?_map]at hd';obtain⟨x,hx,rfl⟩:=Option.map_eq_some_iff.1 hd';have hi:=(List.getElem?_eq_some_iff.1 hx).1;simp only[List.length_range]at l1;exact ih e _ x.1 x.2 fuel hp.2 (g1 i i x (by rw[List.getElem?_range (by omega)]) hx)
  all_goals first|(cases h;done)|skip
  all_goals
   rename_i hu;simp only[plainT,hu]at hp;cases hp
def DRs(P:Program)(ws:List Win):List TypeId→List Value→List (DataW H)→Prop
 |[],[],[]=>True
 |t::ts,v::vs,d::ds=>(DR P ws t (cellsL v) d∧(isAggT P t=false→one v=true))∧DRs P ws ts vs ds
 |_,_,_=>False
def formed(P:Program):List TypeId→List Value→Prop
 |t::ts,v::vs=>(isAggT P t=false→one v=true)∧formed P ts vs
 |_,_=>True
theorem one_of_ok{r:Reach}{b dep:Nat}{t:TypeId}{v:Value}(hp:plainT P dep t=true)(h:Value.okWide P w r b t v)(ha:isAggT P t=false):one v=true:=by
 cases dep with
 |zero=>cases hp
 |succ dep=>
  unfold plainT at hp;unfold isAggT at ha;unfold Value.okWide at h;cases hu:P.underlying t with
  |none=>simp[hu]at hp
  |some k=>
   rw[hu]at hp ha h;cases k<;>simp only at hp ha h<;>first|(cases hp;done)|(cases ha;done)|skip
   all_goals
    unfold Cell.okWide at h;rw[hu]at h;cases v<;>first|rfl|(simp only[Cell.ok,hu]at h)
theorem formed_of{r:Reach}{b dep:Nat}:∀(ts:List TypeId) (vs:List Value),(∀t∈ts,plainT P dep t=true)→(∀(j:Nat) t v,ts[j]?=some t→vs[j]?=some v→Value.okWide P w r b t v)→formed P ts vs
 |[],_,_,_=>by simp[formed]
 |_::_,[],_,_=>by simp[formed]
 |t::ts,v::vs,hp,h=>⟨one_of_ok (hp t List.mem_cons_self) (h 0 t v rfl rfl),formed_of ts vs (fun t ht=>hp t (List.mem_cons_of_mem _ ht)) (fun j t v h1 h2=>h (j+1) t v (by simpa using h1) (by simpa using h2))⟩
theorem cellsL_one{v:Value}(h:one v=true):cellsL v=[v]:=by cases v<;>first|rfl|cases h
theorem good_args{dep:Nat}:∀(ts:List TypeId) (vs:List Value) (ds:List (DataW H)) (ps:List MemPlace),(∀t∈ts,plainT P dep t=true)→DataW.TrodAll enc P w base (fun _=>true) hd ts vs ds ps→formed P ts vs→
  ∀n0:Nat,∃(ws1:List Win) (vs1:List Value),∀ws0 ws2:List Win,ws0.length=n0→(∀x∈ws1,WinOK P w (muW P w (ws0++ws1++ws2)) x)∧VRs (muW P w (ws0++ws1++ws2)) vs1 vs∧DRs P (ws0++ws1++ws2) ts vs1 ds
 |[],[],[],_,_,_,_=>fun n0=>⟨[],[],fun ws0 ws2 _=>⟨by simp,trivial,trivial⟩⟩
 |t::ts,v::vs,d::ds,ps,hp,h,hform=>by
  obtain⟨p,q,⟨fuel,h1⟩,h2,_⟩:=h;intro n0;obtain⟨wa,ca,ha⟩:=good dep t v.cells.toList d p fuel (hp t List.mem_cons_self) h1 n0;obtain⟨wb,vb,hb⟩:=good_args ts vs ds q (fun t ht=>hp t (List.mem_cons_of_mem _ ht)) h2 hform.2 (n0+wa.length);have hv:∃v1:Value,∀ws0 ws2:List Win,ws0.length=n0→VR (muW P w (ws0++wa++ws2)) v1 v∧cellsL v1=ca:=by
   by_cases hag:∃c,v=.agg c
   ·obtain⟨c,rfl⟩:=hag;refine⟨.agg ca.toArray,fun ws0 ws2 hz=>?_⟩;obtain⟨_,a2,_,a4⟩:=ha ws0 ws2 hz;have hlen:=a2.length;simp only[Value.cells]at a2 hlen;refine⟨.agg (by simpa using hlen) (fun i hi hi'=>?_) (fun i hi=>a4 _ (by simp)),rfl⟩;obtain⟨v',g1,g2⟩:=a2.get i ca[i] (List.getElem?_eq_getElem (by simpa using hi));have:c[i]=v':=by have:=(List.getElem?_eq_some_iff.1 g1).2;simpa using this
    rw[this];simpa using g2
   ·have hc:v.cells.toList=[v]:=by cases v<;>first|rfl|exact absurd ⟨_,rfl⟩ hag
    rw[hc]at ha;obtain⟨_,a2,_,a4⟩:=ha (List.replicate n0 ⟨0,0,[],0⟩) [] (by simp);obtain⟨x,hx,_⟩:=VRs.inv1 a2;subst hx;refine⟨x,fun ws0 ws2 hz=>?_⟩;obtain⟨_,a2,_,a4⟩:=ha ws0 ws2 hz;exact⟨a2.1,cellsL_one (a4 x (by simp))⟩
  obtain⟨v1,hv1⟩:=hv;refine⟨wa++wb,v1::vb,fun ws0 ws2 hz=>?_⟩;have e1:ws0++(wa++wb)++ws2=ws0++wa++(wb++ws2):=by simp[List.append_assoc]
  have e2:ws0++(wa++wb)++ws2=(ws0++wa)++wb++ws2:=by simp[List.append_assoc]
  obtain⟨a1,a2,a3,a4⟩:=ha ws0 (wb++ws2) hz;obtain⟨b1,b2,b3⟩:=hb (ws0++wa) ws2 (by simp[hz]);obtain⟨c1,c2⟩:=hv1 ws0 (wb++ws2) hz;refine⟨fun x hx=>?_,⟨by rw[e1];exact c1,by rw[e2];exact b2⟩,⟨by rw[c2,e1];exact a3,fun hq=>by rw[←c1.one_eq];exact hform.1 hq⟩,by rw[e2];exact b3⟩;rcases List.mem_append.1 hx with hx|hx
  ·rw[e1];exact a1 x hx
  ·rw[e2];exact b1 x hx
 |[],[],_::_,_,_,h,_=>h.elim
 |[],_::_,_,_,_,h,_=>h.elim
 |_::_,[],_,_,_,h,_=>h.elim
 |_::_,_::_,[],_,_,h,_=>h.elim
open Go.RowKit Go.ChangeShapes Go.WideShapes
theorem DR.bool_inv{ws:List Win}{t:TypeId}{cs:List Value}{d:DataW H}(h:DR P ws t cs d)(ht:P.underlying t=some .bool):∃b,cs=[.bool b]∧d=.lit (.bool b):=by
 cases h<;>first|exact⟨_,rfl,rfl⟩|(rename_i h;rw[ht]at h;cases h)|(rename_i h _;rw[ht]at h;cases h)|skip
 all_goals simp_all
theorem DR.int_inv{ws:List Win}{t:TypeId}{cs:List Value}{d:DataW H}{k:IntKind}(h:DR P ws t cs d)(ht:P.underlying t=some (.int k)):∃n,cs=[.int k n]∧d=.lit (.int k n)∧(Lit.int k n).wf=true:=by cases h<;>simp_all
theorem DR.string_inv{ws:List Win}{t:TypeId}{cs:List Value}{d:DataW H}(h:DR P ws t cs d)(ht:P.underlying t=some .string):∃s:ByteArray,cs=[.string s]∧d=.lit (.string s.data.toList):=by cases h<;>simp_all
theorem DR.struct_inv{ws:List Win}{t:TypeId}{cs:List Value}{d:DataW H}{fs:Array Field}(h:DR P ws t cs d)(ht:P.underlying t=some (.struct fs)):cs.length=P.cellsOf t∧∃ds:List (DataW H),d=.agg ds∧ds.length=fs.size∧∀(i:Nat) f d,fs.toList[i]?=some f→ds[i]?=some d→DR P ws f.type ((cs.drop f.offset).take (P.cellsOf f.type)) d:=by
 cases h;case struct fs' ds hn h hd' hl=>rw[ht]at h;cases h;exact⟨hl,_,rfl,hn,hd'⟩
 all_goals simp_all
theorem DR.slice_inv{ws:List Win}{t e:TypeId}{cs:List Value}{d:DataW H}(h:DR P ws t cs d)(ht:P.underlying t=some (.slice e)):∃(x:Sl) (es rest:List (DataW H)),cs=[x.v]∧x.n=es.length∧x.n≤x.c∧(d=.nil∧es=[]∨d=.slice es rest)∧∀(i:Nat) d,es[i]?=some d→∃(b:Nat) (y:Win),x.a=some ⟨b,0,Option.none⟩∧ws[b]?=some y∧(i+1)*P.cellsOf e≤y.cells.length∧DR P ws e ((y.cells.drop (i*P.cellsOf e)).take (P.cellsOf e)) d:=by
 cases h;case nil=>exact⟨Sl.nil,[],[],rfl,rfl,Nat.le_refl _,.inl ⟨rfl,rfl⟩,fun i d h=>by simp at h⟩
 case none=>exact⟨⟨some dang,0,0⟩,[],[],rfl,rfl,Nat.le_refl _,.inr rfl,fun i d h=>by simp at h⟩
 case slice e' b y es rest hb hl hd hu=>
  rw[ht]at hu;cases hu;refine⟨⟨some ⟨b,0,Option.none⟩,es.length,(es++rest).length⟩,es,rest,rfl,rfl,by simp,.inr rfl,fun i d hi=>⟨b,y,rfl,hb,?_,hd i d ?_⟩⟩
  ·rw[hl];exact Nat.mul_le_mul_right _ (by have:=(List.getElem?_eq_some_iff.1 hi).1;simp;omega)
  ·rw[List.getElem?_append_left (List.getElem?_eq_some_iff.1 hi).1];exact hi
 all_goals simp_all
theorem one_cells{v x:Value}(h:cellsL v=[x])(ho:one v=true):v=x:=by rw[cellsL_one ho]at h;simpa using h
theorem heapW_get{ws:List Win}{b:Nat}{y:Win}(h:ws[b]?=some y):(heapW ws).get b=some (.cells y.cells y.elem false y.cells.length true):=by
 have:(heapW ws).get b=(ws[b]?).map fun x=>.cells x.cells x.elem false x.cells.length true:=by simp[Heap.get,heapW,Tr.get]
 rw[this,h];rfl
end
def startG(ng n0:Nat)(w:World):Start:=⟨w.heap,w.os,w.output,n0,ng⟩
theorem RR.winsG{P:Program}{w:World}{ws:List Win}{ng:Nat}(hng:ng≤ws.length)(hg:∀g,g<ng→∃c e,ws[g]?=some ⟨g,0,c,e⟩)(h:∀x∈ws,WinOK P w (muW P w ws) x):RR P (startG ng ws.length w) (muW P w ws) (heapW ws) w:=by have R:=RR.wins h;refine⟨R.obj,R.inj,R.fresh,R.blk,R.size,hng,fun b hb=>?_,R.low,R.lown,R.base,R.still,R.top,R.io⟩;obtain⟨c,e,hx⟩:=hg b hb;exact⟨winMB P w _,by unfold muW;rw[hx];rfl,rfl,rfl⟩
theorem law_callsG{P:Program}{ng n0:Nat}{gl:List Nat}{C:CProg}{N d f:Nat}{w:World}(hC:ProgOK P (startG ng n0 w) gl C){fn:Func}{body:Code}(hf:P.funcs[f]?=some fn)(hb:fn.body=some body)(hname:(fn.name== "runtime.NumGoroutine")=false){vs vs':List Value}{H H':Heap}{μ:Mu}(h:callD C N d f vs H=some (.bool true,H'))(R:RR P (startG ng n0 w) μ H w)(hvs:VRs μ vs vs'):Calls P f vs'.toArray w fun e w'=>e=.returned (.bool true)∧(∀b,b<w.heap.size→w'.heap[b]?=w.heap[b]?)∧w'.os=w.os∧w'.output=w.output:=(callD_calls hC hf hb hname h R hvs).mono fun e w' ⟨v',μ',h1,h2,h3⟩=>⟨by rw[h1,h2.bool_inv],h3.base,h3.io.1,h3.io.2⟩
abbrev GW:=Option (String×TypeId×DataW Unit)
theorem gwins{P:Program}{w:World}:∀(l:List (Option (TypeId×List Value×DataW Unit))),(∀j,some j∈l→Good P w j.1 j.2.1 j.2.2)→∀n0:Nat,∃(ws1:List Win) (css:List (List Value)),css.length=l.length∧∀ws0 ws2:List Win,ws0.length=n0→
  (∀x∈ws1,WinOK P w (muW P w (ws0++ws1++ws2)) x)∧(∀(i:Nat) j c,l[i]?=some (some j)→css[i]?=some c→VRs (muW P w (ws0++ws1++ws2)) c j.2.1∧DR P (ws0++ws1++ws2) j.1 c j.2.2∧∀v∈c,one v=true)∧∀(i:Nat) c,l[i]?=some none→css[i]?=some c→c=[]
 |[],_,n0=>⟨[],[],rfl,fun ws0 ws2 _=>⟨by simp,fun i j c h=>by simp at h,fun i c h=>by simp at h⟩⟩
 |none::l,h,n0=>by
  obtain⟨wb,cb,hlen,hb⟩:=gwins l (fun j hj=>h j (List.mem_cons_of_mem _ hj)) n0;refine⟨wb,[]::cb,by simp[hlen],fun ws0 ws2 h0=>?_⟩;obtain⟨b1,b2,b3⟩:=hb ws0 ws2 h0;refine⟨b1,fun i j c hi hc=>?_,fun i c hi hc=>?_⟩
  ·cases i with
   |zero=>simp at hi
   |succ i=>exact b2 i j c (by simpa using hi) (by simpa using hc)
  ·cases i with
   |zero=>simp at hc;exact hc
   |succ i=>exact b3 i c (by simpa using hi) (by simpa using hc)
 |some a::l,h,n0=>by
  obtain⟨wa,ca,ha⟩:=h a List.mem_cons_self n0;obtain⟨wb,cb,hlen,hb⟩:=gwins l (fun j hj=>h j (List.mem_cons_of_mem _ hj)) (n0+wa.length);refine⟨wa++wb,ca::cb,by simp[hlen],fun ws0 ws2 h0=>?_⟩;have e1:ws0++(wa++wb)++ws2=ws0++wa++(wb++ws2):=by simp[List.append_assoc]
  have e2:ws0++(wa++wb)++ws2=(ws0++wa)++wb++ws2:=by simp[List.append_assoc]
  obtain⟨a1,a2,a3,a4⟩:=ha ws0 (wb++ws2) h0;obtain⟨b1,b2,b3⟩:=hb (ws0++wa) ws2 (by simp[h0]);refine⟨fun x hx=>?_,fun i j c hi hc=>?_,fun i c hi hc=>?_⟩
  ·rcases List.mem_append.1 hx with hx|hx
   ·rw[e1];exact a1 x hx
   ·rw[e2];exact b1 x hx
  ·cases i with
   |zero=>simp at hi hc;subst hi hc;rw[e1];exact⟨a2,a3,a4⟩
   |succ i=>rw[e2];exact b2 i j c (by simpa using hi) (by simpa using hc)
  ·cases i with
   |zero=>simp at hi
   |succ i=>exact b3 i c (by simpa using hi) (by simpa using hc)
theorem laidVars_mem{P:Program}{w:World}:∀{l:List (String×DataW Unit)} {ps:List MemPlace},DataW.LaidVars P w l ps→∀n d,(n,d)∈l→∃g t cs fuel p,P.globalNamed n=some g∧(P.globals[g]?).map (·.type)=some t∧w.var? P n=some cs∧DataW.trod (fun _=>()) P w 0 (fun _=>true) false fuel t cs.toList=some (d,p)
 |[],_,_,n,d,hm=>by cases hm
 |(n',d')::r,ps,h,n,d,hm=>by
  obtain⟨g,t,cs,fuel,p,q,h1,h2,h3,h4,h5,_⟩:=h;rcases List.mem_cons.1 hm with e|hm
  ·cases e;exact⟨g,t,cs,fuel,p,h1,h2,h3,h4⟩
  ·exact laidVars_mem h5 n d hm
theorem globs_of{P:Program}{w:World}{laid:List (String×DataW Unit)}(hh:(laid.filter fun x=>x.2.handleName?.isSome)=[])(hL:laidMetH P laid w)(hsh:w.ShapedOpen P)(gs:List GW){dep:Nat}(hng:gs.length≤P.globals.size)(hrow:(List.range gs.length).all (fun g=>(((begin P (fun _ _=>0) default).world.heap[g]?).bind Obj.row?).isSome)=true)(hw:∀(g:Nat) n t d,gs[g]?=some (some (n,t,d))→(n,d)∈laid∧P.globalNamed n=some g∧(P.globals[g]?).map (·.type)=some t∧plainT P dep t=true):∃l:List (Option (TypeId×List Value×DataW Unit)),l.length=gs.length∧(∀j,some j∈l→Good P w j.1 j.2.1 j.2.2)∧(∀(g:Nat),g<gs.length→∃c e fr,w.heap[g]?=some (.cells c e fr)∧∀j,l[g]?=some (some j)→j.2.1=c.toList)∧∀(g:Nat) n t d,gs[g]?=some (some (n,t,d))→∃cs,l[g]?=some (some (t,cs,d)):=by
 have hL':laidMet P laid w:=by unfold laidMetH at hL;rw[hh]at hL;exact hL
 obtain⟨ps,hv,_,_⟩:=hL';have hblk:∀g,g<gs.length→∃c e fr,w.heap[g]?=some (.cells c e fr):=by intro g hg;have:=(List.all_eq_true.1 hrow) g (List.mem_range.2 hg);obtain⟨x,hx⟩:=Option.isSome_iff_exists.1 this;obtain⟨cs,h1,_⟩:=hsh.1 g x.1 x.2 (by omega) hx;exact⟨_,_,_,h1⟩
 let cellsAt:Nat→List Value:=fun g=>match w.heap[g]? with
  |some (.cells c _ _)=>c.toList
  |_=>[]
 refine⟨(List.range gs.length).map fun g=>(gs[g]?).bind fun x=>x.map fun y=>(y.2.1,cellsAt g,y.2.2),by simp,fun j hj=>?_,fun g hg=>?_,fun g n t d hgs=>?_⟩
 ·obtain⟨g,hg,he⟩:=List.mem_map.1 hj;have hg':g<gs.length:=List.mem_range.1 hg;cases hq:gs[g]? with
  |none=>rw[hq]at he;cases he
  |some x=>
   cases x with
   |none=>rw[hq]at he;cases he
   |some y=>
    obtain⟨n,t,d⟩:=y;rw[hq]at he;simp only[Option.bind_some,Option.map_some,Option.some.injEq]at he;subst he;obtain⟨h1,h2,h3,h4⟩:=hw g n t d hq;obtain⟨g2,t2,cs,fuel,p,q1,q2,q3,q4⟩:=laidVars_mem hv n d h1;rw[h2]at q1;cases q1;rw[h3]at q2;cases q2;have:cellsAt g=cs.toList:=by
     unfold World.var? at q3;rw[h2]at q3;simp only[Option.bind_some]at q3;show(match w.heap[g]? with
      |some (.cells c _ _)=>c.toList
      |_=>[])=cs.toList
     split at q3
     ·rename_i h;cases q3;rw[h]
     ·cases q3
    simp only;rw[this];exact good dep t cs.toList d p fuel h4 q4
 ·obtain⟨c,e,fr,h⟩:=hblk g hg;refine⟨c,e,fr,h,fun j hj=>?_⟩;rw[List.getElem?_map,List.getElem?_range hg]at hj;simp only[Option.map_some,Option.some.injEq]at hj;cases hq:gs[g]? with
  |none=>rw[hq]at hj;cases hj
  |some x=>
   cases x with
   |none=>rw[hq]at hj;cases hj
   |some y=>
    rw[hq]at hj;simp only[Option.bind_some,Option.map_some,Option.some.injEq]at hj;subst hj;show(match w.heap[g]? with
     |some (.cells c _ _)=>c.toList
     |_=>[])=c.toList
    rw[h]
 ·have hlt:=(List.getElem?_eq_some_iff.1 hgs).1;refine⟨cellsAt g,?_⟩;rw[List.getElem?_map,List.getElem?_range hlt];simp only[Option.map_some,hgs,Option.bind_some]
section
variable{H:Type}{enc:TypeId×Value→H}{P:Program}{w:World}
open Go.RowKit Go.ChangeShapes Go.WideShapes
theorem law_contractG{C:CProg}{N f:Nat}{fn:Func}{body:Code}{dep:Nat}(gs:List GW){gl:List Nat}{laid:List (String×DataW Unit)}(hC:∀(n0:Nat),ProgOK P (startG gs.length n0 w) gl C)(hf:P.funcs[f]?=some fn)(hb:fn.body=some body)(hname:(fn.name== "runtime.NumGoroutine")=false)(hl:laidOutB P=true){s:ChangeSpec}{apart fresh handsOn again:Bool}{args:Array Value}{ds gs':List (DataW H)}{before:List MemPlace}{tb:TypeId}(hW:DataW.Whole enc P fn.params.toList s.vars apart w args.toList ds gs' before)(hv:s.vars=[])(hfn:s.fn H (ds++gs')={results:=[.lit (.bool true)],args:=ds})(hpl:∀t∈fn.params.toList,plainT P dep t=true)(hpar:∀t∈fn.params.toList,P.readableRec t=true∧t<P.types.size)(hres:fn.resultTypes= #[tb])(hbool:P.underlying tb=some .bool){base:Nat}(hval:∀(j:Nat) t v,fn.params[j]?=some t→args[j]?=some v→Value.okWide P w .any base t v)(hh:(laid.filter fun x=>x.2.handleName?.isSome)=[])(hL:laidMetH P laid w)(hsh:w.ShapedOpen P)(hng:gs.length≤P.globals.size)(hrow:(List.range gs.length).all (fun g=>(((begin P (fun _ _=>0) default).world.heap[g]?).bind Obj.row?).isSome)=true)(hw:∀(g:Nat) n t d,gs[g]?=some (some (n,t,d))→(n,d)∈laid∧P.globalNamed n=some g∧(P.globals[g]?).map (·.type)=some t∧plainT P dep t=true)(hcall:∀(ws:List Win) (vs:List Value),(∀(g:Nat) n t d,gs[g]?=some (some (n,t,d))→∃y,ws[g]?=some y∧DR P ws t y.cells d)→DRs P ws fn.params.toList vs ds→∃d H',callD C N d f vs (heapW ws)=some (.bool true,H')):Calls P f args w fun e W'=>∃v,e=.returned v∧s.post enc P fn apart fresh handsOn again w args v W':=by
 have hW':=hW;obtain⟨p,q,hA,hV,_,_,_⟩:=hW';obtain⟨l,l1,l2,l3,l4⟩:=globs_of (dep:=dep) hh hL hsh gs hng hrow hw;obtain⟨ws1,css,hcl,hg⟩:=gwins l l2 gs.length;obtain⟨ws,vs,hws⟩:=good_args fn.params.toList args.toList ds p hpl hA (formed_of _ _ hpl (fun j t v h1 h2=>hval j t v (by simpa using h1) (by simpa using h2))) (gs.length+ws1.length);have elem:∀g:Nat,∃e:TypeId,∀(c:Array Value) (e':TypeId) (fr:Nat×Nat),w.heap[g]?=some (Obj.cells c e' fr)→e'=e:=fun g=>by
  cases hq:w.heap[g]? with
  |none=>exact⟨0,fun c e' fr h=>by cases h⟩
  |some o=>
   cases o with
   |cells c e fr=>exact⟨e,fun c' e' fr' h=>by cases h;rfl⟩
   |_=>exact⟨0,fun c e' fr h=>by cases h⟩
 generalize hG:(List.range gs.length).map (fun g=>(⟨g,0,(css[g]?).getD [],(elem g).choose⟩:Win))=G;have hGl:G.length=gs.length:=by subst hG;simp
 have hGg:∀g,g<gs.length→G[g]?=some ⟨g,0,(css[g]?).getD [],(elem g).choose⟩:=fun g hg=>by subst hG;rw[List.getElem?_map,List.getElem?_range hg];rfl
 obtain⟨b1,b2,b3⟩:=hg G ws hGl;obtain⟨a1,a2,a3⟩:=hws (G++ws1) [] (by simp[hGl]);simp only[List.append_nil]at a1 a2 a3;generalize hall:G++ws1++ws=W at a1 a2 a3 b1 b2 b3;have hWg:∀g,g<gs.length→W[g]?=some ⟨g,0,(css[g]?).getD [],(elem g).choose⟩:=fun g hg=>by subst hall;rw[List.append_assoc,List.getElem?_append_left (by omega)];exact hGg g hg
 have hok:∀x∈W,WinOK P w (muW P w W) x:=by
  intro x hx;have hx':=hx;rw[←hall]at hx';rcases List.mem_append.1 hx' with h|h;rcases List.mem_append.1 h with h|h
  ·rw[←hG]at h;obtain⟨g,h1,rfl⟩:=List.mem_map.1 h;have hgl:g<gs.length:=List.mem_range.1 h1;obtain⟨c,e,fr,e1,e2⟩:=l3 g hgl;have he:=(elem g).choose_spec c e fr e1;have hcs:css[g]?=some css[g]:=List.getElem?_eq_getElem (by omega);have hlg:l[g]?=some l[g]:=List.getElem?_eq_getElem (by omega);refine⟨c,fr,by rw[←he];exact e1,?_,?_⟩
   ·simp only[hcs,Option.getD_some];cases hj:l[g]with
    |none=>rw[hj]at hlg;rw[b3 g _ hlg hcs];simp
    |some j=>rw[hj]at hlg;have:=(b2 g j _ hlg hcs).1.length;rw[e2 j hlg]at this;simp at this;omega
   ·intro i v hv;simp only[hcs,Option.getD_some]at hv;cases hj:l[g]with
    |none=>rw[hj]at hlg;rw[b3 g _ hlg hcs]at hv;simp at hv
    |some j=>rw[hj]at hlg;obtain⟨c1,c2,c3⟩:=b2 g j _ hlg hcs;refine⟨c3 v (List.mem_of_getElem? hv),?_⟩;obtain⟨v',g1,g2⟩:=c1.get i v hv;rw[e2 j hlg]at g1;exact⟨v',by simpa using g1,g2⟩
  ·exact b1 x h
  ·exact a1 x h
 have R:RR P (startG gs.length W.length w) (muW P w W) (heapW W) w:=RR.winsG (by rw[←hall];simp[hGl]) (fun g hg=>⟨_,_,hWg g hg⟩) hok;obtain⟨d,H',hc⟩:=hcall W vs (fun g n t dd hgs=>by have hlt:=(List.getElem?_eq_some_iff.1 hgs).1;obtain⟨cs,h1⟩:=l4 g n t dd hgs;have hcs:css[g]?=some css[g]:=List.getElem?_eq_getElem (by omega);refine⟨_,hWg g hlt,?_⟩;simp only[hcs,Option.getD_some];exact(b2 g _ _ h1 hcs).2.1) a3;have key:=law_callsG (vs':=args.toList) (hC W.length) hf hb hname hc R a2;rw[show args.toList.toArray=args by simp]at key;refine key.mono fun e W' ⟨g1,g2,g3,g4⟩=>?_;exact⟨_,g1,law_post hl hW hv hfn hpar hres hbool g2 g3 g4⟩
end
def layC(P:Program)(tn:String→TypeId):Nat→TypeId→DataW Unit→Nat→List Value×List Obj
 |0,_,_,_=>([],[])
 |fuel+1,t,d,nx=>match d with
  | .lit (.bool b)=>([.bool b],[])
  | .lit (.int k n)=>([.int k n],[])
  | .lit (.string s)=>([.string ⟨s.toArray⟩],[])
  | .nil=>((match P.underlying t with
    |some (.slice _)=>[.slice none 0 0]
    |some (.pointer _)=>[.pointer none]
    |some (.interface _)=>[.nilIface]
    |some (.map _ _)=>[.map none]
    |_=>[.nilFunc]),[])
  | .ptr d'=>(match P.underlying t with
    |some (.pointer e)=>
     let r:=layC P tn fuel e d' nx
     ([.pointer (some ⟨nx+r.2.length,0,none⟩)],r.2++[.cells r.1.toArray e (0,0)])
    |_=>([],[]))
  | .slice es rest=>(match P.underlying t with
    |some (.slice e)=>
     let r:=(es++rest).foldl (fun acc x=>let q:=layC P tn fuel e x (nx+acc.2.length);(acc.1++q.1,acc.2++q.2)) ([],[])
     ([.slice (some ⟨nx+r.2.length,0,none⟩) es.length (es++rest).length],r.2++[.cells r.1.toArray e (0,0)])
    |_=>([],[]))
  | .agg ds=>(match P.underlying t with
    |some (.struct fs)=>(ds.zip fs.toList).foldl (fun acc x=>let q:=layC P tn fuel x.2.type x.1 (nx+acc.2.length);(acc.1++q.1,acc.2++q.2)) ([],[])
    |some (.array _ e)=>ds.foldl (fun acc x=>let q:=layC P tn fuel e x (nx+acc.2.length);(acc.1++q.1,acc.2++q.2)) ([],[])
    |_=>([],[]))
  | .iface n d'=>
    let r:=layC P tn fuel (tn n) d' nx
    ([.iface (tn n) (match r.1 with
     |[v]=>v
     |l=>.agg l.toArray)],r.2)
  |_=>([],[])
def layAll(P:Program)(tn:String→TypeId):List (String×DataW Unit)→Array Obj→Nat→List Obj→Array Obj×List Obj
 |[],h,_,ex=>(h,ex)
 |(n,d)::r,h,nx,ex=>
  match P.globalNamed n with
  |some g=>(match P.globals[g]? with
   |some x=>
    let q:=layC P tn 20 x.type d nx
    layAll P tn r (h.modify g fun
     | .cells _ t frozen=>.cells q.1.toArray t frozen
     |o=>o) (nx+q.2.length) (ex++q.2)
   |none=>layAll P tn r h nx ex)
  |none=>layAll P tn r h nx ex
noncomputable def laidW(P:Program)(tn:String→TypeId)(laid:List (String×DataW Unit))(os:Os):World:=let w:=World.holding P os ⟨#[],#[],[]⟩
 let q:=layAll P tn laid w.heap w.heap.size []
 {w with heap:=q.1++q.2.toArray}
end Go.Cm
namespace Go.Cm
open Go Go.RowKit
end Go.Cm
namespace Go.Cm
open Go
end Go.Cm
namespace Go.Cm
open Go Go.RowKit
end Go.Cm
namespace Go.Cm
open Go
def bc(l:List UInt8):List Value:=l.map fun b=>.int .u8 b.toNat
theorem bc_len(l:List UInt8):(bc l).length=l.length:=by simp[bc]
theorem bc_append(a b:List UInt8):bc (a++b)=bc a++bc b:=by simp[bc]
theorem bytesOf_bc:∀l:List UInt8,bytesOf (bc l)=some l
 |[]=>rfl
 |b::l=>by have:=bytesOf_bc l;simp only[bc,List.map_cons]at this⊢;simp only[bytesOf,this,Option.some.injEq,List.cons.injEq,and_true];simp
def Buf(H:Heap)(s:Sl)(l:List UInt8)(e:TypeId):Prop:=(s=⟨none,0,0⟩∧l=[])∨∃b n,s=⟨some ⟨b,0,none⟩,n,n⟩∧l.length=n∧0<n∧b<H.next∧∃o,H.get b=some (.cells (bc l) e o 0 false)
theorem Buf.keep{S:Nat→Prop}{H H':Heap}{s:Sl}{l:List UInt8}{e:TypeId}(h:Buf H s l e)(hk:Keep S H H')(hn:∀k,s.at k→¬S k):Buf H' s l e:=by
 rcases h with h|⟨b,n,rfl,h1,h0,h2,o,h3⟩
 ·exact .inl h
 ·exact .inr ⟨b,n,rfl,h1,h0,Nat.lt_of_lt_of_le h2 hk.1,o,(hk.2 b h2 (hn b ⟨_,rfl,rfl⟩)).trans h3⟩
theorem Buf.len{H:Heap}{s:Sl}{l:List UInt8}{e:TypeId}(h:Buf H s l e):s.n=l.length:=by
 rcases h with ⟨rfl,rfl⟩|⟨b,n,rfl,h1,_⟩
 ·rfl
 ·exact h1.symm
theorem Buf.lt{H:Heap}{s:Sl}{l:List UInt8}{e:TypeId}(h:Buf H s l e){k:Nat}(hk:s.at k):k<H.next:=by
 obtain⟨a,h1,rfl⟩:=hk;rcases h with ⟨rfl,_⟩|⟨b,n,rfl,_,_,h2,_⟩
 ·cases h1
 ·cases h1;exact h2
def Bld(T e:TypeId)(H:Heap)(p:Nat)(s:Sl)(l:List UInt8):Prop:=p<H.next∧(∃pa,H.get p=some (.cells [.pointer pa,s.v] T false 0 false)∧(pa=none∨pa=some ⟨p,0,none⟩))∧Buf H s l e∧¬s.at p
theorem Bld.keep{T e:TypeId}{S:Nat→Prop}{H H':Heap}{p:Nat}{s:Sl}{l:List UInt8}(h:Bld T e H p s l)(hk:Keep S H H')(hp:¬S p)(hn:∀k,s.at k→¬S k):Bld T e H' p s l:=by obtain⟨h1,⟨pa,h2,h3⟩,h4,h5⟩:=h;exact⟨Nat.lt_of_lt_of_le h1 hk.1,⟨pa,(hk.2 p h1 hp).trans h2,h3⟩,h4.keep hk hn,h5⟩
theorem Bld.new(T e:TypeId)(H:Heap):Bld T e (H.new (.cells [.pointer none,.slice none 0 0] T false 0 false)) H.next Sl.nil []:=
 ⟨by simp,⟨none,by simp,.inl rfl⟩,.inl ⟨rfl,rfl⟩,Sl.at_nil⟩
abbrev Keep0:=Keep fun _=>False
theorem Keep0.trans{H H' H'':Heap}(h:Keep0 H H')(h':Keep0 H' H''):Keep0 H H'':=Keep.trans h h' fun _ _ h=>h
theorem Keep0.to{S:Nat→Prop}{H H':Heap}(h:Keep0 H H'):Keep S H H':=Keep.mono h fun _ _ h=>h.elim
theorem Keep0.get{H H':Heap}(h:Keep0 H H'){b:Nat}{o:CObj}(hb:b<H.next)(hg:H.get b=some o):H'.get b=some o:=(h.2 b hb id).trans hg
theorem Keep.fresh{S:Nat→Prop}{H H1 H2:Heap}(h:Keep0 H H1)(h':Keep S H1 H2)(hs:∀k,S k→H.next≤k):Keep0 H H2:=⟨Nat.le_trans h.1 h'.1,fun k hk _=>(h'.2 k (Nat.lt_of_lt_of_le hk h.1) (fun e=>by have:=hs k e;omega)).trans (h.2 k hk id)⟩
theorem asSL_k{α:Type}(s:Sl)(K:Sl→Option α):asSL s.v K=K s:=rfl
theorem asSL_k2{α:Type}(a:Option Addr)(n c:Nat)(K:Sl→Option α):asSL (.slice a n c) K=K ⟨a,n,c⟩:=rfl
structure Vw(H:Heap)(s:Sl)(b:Nat)(A cs Z:List Value)(e:TypeId)(sz:Nat):Prop where
 sa:s.a=some ⟨b,A.length,none⟩
 hn:cs.length=s.n*sz
 hc:s.n≤s.c
 lt:b<H.next
 get:∃o st,H.get b=some (.cells (A++(cs++Z)) e o 0 st)
theorem Vw.keep{S:Nat→Prop}{H H':Heap}{s:Sl}{b:Nat}{A cs Z:List Value}{e:TypeId}{sz:Nat}(h:Vw H s b A cs Z e sz)(hk:Keep S H H')(hs:¬S b):Vw H' s b A cs Z e sz:=by obtain⟨h1,h2,h3,h4,o,st,h5⟩:=h;exact⟨h1,h2,h3,Nat.lt_of_lt_of_le h4 hk.1,o,st,(hk.2 b h4 hs).trans h5⟩
theorem Vw.of{H:Heap}{s:Sl}{cs:List Value}{e:TypeId}{sz:Nat}(h:Whole H s cs e sz)(hne:s.a≠none):∃b,Vw H s b [] cs [] e sz∧s.at b:=by
 rcases h with ⟨rfl,_⟩|⟨b,n,rfl,h1,h2,o,st,h3⟩
 ·exact absurd rfl hne
 ·exact⟨b,⟨rfl,h1,Nat.le_refl _,h2,o,st,by simpa using h3⟩,_,rfl,rfl⟩
theorem Whole.vw{H:Heap}{b n:Nat}{cs:List Value}{e:TypeId}{sz:Nat}(h:Whole H ⟨some ⟨b,0,none⟩,n,n⟩ cs e sz):Vw H ⟨some ⟨b,0,none⟩,n,n⟩ b [] cs [] e sz:=by
 rcases h with ⟨h,_⟩|⟨b,n,h,h1,h2,o,st,h3⟩
 ·cases h
 ·cases h;exact⟨rfl,h1,Nat.le_refl _,h2,o,st,by simpa using h3⟩
def subS(s:Sl)(l h sz:Nat):Sl:=⟨s.a.map fun a=>⟨a.block,a.off+l*sz,none⟩,h-l,s.c-l⟩
theorem Vw.sub{H:Heap}{s:Sl}{b:Nat}{A cs Z:List Value}{e:TypeId}{sz:Nat}(v:Vw H s b A cs Z e sz){l h:Nat}(h1:l≤h)(h2:h≤s.n):Vw H (subS s l h sz) b (A++cs.take (l*sz)) ((cs.drop (l*sz)).take ((h-l)*sz)) (cs.drop (h*sz)++Z) e sz:=by
 obtain⟨a1,a2,a3,a4,o,st,a5⟩:=v;have hm:l*sz≤cs.length:=by rw[a2];exact Nat.mul_le_mul_right _ (by omega)
 have hm2:h*sz≤cs.length:=by rw[a2];exact Nat.mul_le_mul_right _ (by omega)
 have hlh:l*sz+(h-l)*sz=h*sz:=by rw[←Nat.add_mul];congr 1;omega
 refine⟨?_,?_,?_,a4,o,st,?_⟩
 ·simp only[subS,a1,Option.map_some,List.length_append,List.length_take,Nat.min_eq_left hm]
 ·simp only[subS,List.length_take,List.length_drop];omega
 ·show h-l≤s.c-l;omega
 ·rw[a5];have:A++cs.take (l*sz)++((cs.drop (l*sz)).take ((h-l)*sz)++(cs.drop (h*sz)++Z))=A++(cs++Z):=by
   rw[List.append_assoc]
   congr 1
   rw[←List.append_assoc,←List.append_assoc]
   congr 1
   rw[List.append_assoc];have e1:(cs.drop (l*sz)).take ((h-l)*sz)++cs.drop (h*sz)=cs.drop (l*sz):=by
    conv=>rhs;rw[←List.take_append_drop ((h-l)*sz) (cs.drop (l*sz))]
    rw[List.drop_drop,hlh]
   rw[e1,List.take_append_drop]
  rw[this]
theorem Vw.opn{H:Heap}{s:Sl}{b:Nat}{A cs Z:List Value}{e:TypeId}{sz:Nat}(v:Vw H s b A cs Z e sz):H.opnOk b e=true:=by obtain⟨_,_,_,_,o,st,h⟩:=v;simp[Heap.opnOk,h]
theorem sub_addr{a:Addr}(ha:a.spot=none)(l sz:Nat):(if l=0 then a else ap a (l*sz))=⟨a.block,a.off+l*sz,none⟩:=by
 split
 ·rename_i h;subst h;obtain⟨b,o,s⟩:=a;simp only at ha;subst ha;simp
 ·rfl
section
variable{H:Heap}{s:Sl}{b:Nat}{A cs Z:List Value}{e:TypeId}{sz:Nat}(v:Vw H s b A cs Z e sz)
include v
theorem Vw.s_lh{l h:Nat}{k k':IntKind}(h1:l≤h)(h2:h≤s.n):readD (.subSl e sz true true false) [s.v,.int k (l:Int),.int k' (h:Int)] H=some (subS s l h sz).v:=by have hc:=v.hc;have ho:=v.opn;simp only[readD,Sl.v,asSl,bnds,asN_s,v.sa];rw[if_pos (by omega)];simp only[Int.toNat_natCast,ho,Bool.or_true,chk,subS,Option.map_some,v.sa];rw[sub_addr rfl]
theorem Vw.s_l{l:Nat}{k:IntKind}(h1:l≤s.n):readD (.subSl e sz true false false) [s.v,.int k (l:Int)] H=some (subS s l s.n sz).v:=by have ho:=v.opn;simp only[readD,Sl.v,asSl,bnds,asN_s,v.sa];rw[if_pos (by omega)];simp only[Int.toNat_natCast,ho,Bool.or_true,chk,subS,Option.map_some,v.sa];rw[sub_addr rfl]
theorem Vw.s_h{h:Nat}{k:IntKind}(h1:h≤s.n):readD (.subSl e sz false true false) [s.v,.int k (h:Int)] H=some (subS s 0 h sz).v:=by have hc:=v.hc;have ho:=v.opn;simp only[readD,Sl.v,asSl,bnds,asN_s,v.sa];rw[if_pos (by omega)];simp only[Int.toNat_natCast,ho,Bool.or_true,chk,subS,Option.map_some,v.sa];simp only[if_true,Nat.zero_mul,Nat.add_zero]
theorem Vw.src{n:Nat}(hn:n≤s.n):srcCells H sz n s.v=some (cs.take (n*sz)):=by
 obtain⟨a1,a2,a3,a4,o,st,a5⟩:=v;simp only[srcCells,Sl.v,a1];have hm:n*sz≤cs.length:=by rw[a2];exact Nat.mul_le_mul_right _ hn
 by_cases h0:n=0
 ·subst h0;simp
 ·rw[if_neg h0,ldN_s a5 (by simp only[List.length_append];omega),List.drop_left' rfl,List.take_append_of_le_length hm]
theorem Vw.ld{i:Nat}{x:Value}(hx:cs[i]?=some x):Heap.ld1 H ⟨b,A.length+i,none⟩=some x:=by obtain⟨a1,a2,a3,a4,o,st,a5⟩:=v;have hi:=(List.getElem?_eq_some_iff.1 hx).1;rw[ld1_s a5,List.getElem?_append_right (by omega),Nat.add_sub_cancel_left,List.getElem?_append_left hi,hx]
theorem Vw.stN{new:List Value}{i:Nat}(hi:i+new.length≤cs.length):∃H',H.stN ⟨b,A.length+i,none⟩ new=some H'∧Vw H' s b A (cs.take i++(new++cs.drop (i+new.length))) Z e sz∧Keep (fun k=>k=b) H H'∧H'.next=H.next:=by
 obtain⟨a1,a2,a3,a4,o,st,a5⟩:=v;have hs:splice (A++(cs++Z)) (A.length+i) new=A++((cs.take i++(new++cs.drop (i+new.length)))++Z):=by unfold splice;rw[List.take_append,List.take_of_length_le (by omega),Nat.add_sub_cancel_left,List.take_append_of_le_length (by omega),Nat.add_assoc,List.drop_append,List.drop_eq_nil_of_le (by omega),Nat.add_sub_cancel_left,List.drop_append_of_le_length (by omega)];simp
 refine⟨H.put b (.cells (A++((cs.take i++(new++cs.drop (i+new.length)))++Z)) e o 0 st),?_,⟨a1,?_,a3,a4,o,st,by simp⟩,Keep.put _ _ _ rfl,rfl⟩
 ·simp only[Heap.stN,a5];rw[if_pos (by simp only[List.length_append];omega),hs]
 ·simp only[List.length_append,List.length_take,List.length_drop];omega
theorem Vw.st1{x:Value}{i:Nat}(hi:i<cs.length):∃H',H.st1 ⟨b,A.length+i,none⟩ x=some H'∧Vw H' s b A (cs.set i x) Z e sz∧Keep (fun k=>k=b) H H'∧H'.next=H.next:=by obtain⟨a1,a2,a3,a4,o,st,a5⟩:=v;refine⟨H.put b (.cells (A++(cs.set i x++Z)) e o 0 st),?_,⟨a1,by simpa using a2,a3,a4,o,st,by simp⟩,Keep.put _ _ _ rfl,rfl⟩;rw[st1_s a5 (by simp only[List.length_append];omega) (by omega),List.set_append_right _ _ (by omega),Nat.add_sub_cancel_left,List.set_append_left _ _ hi]
theorem Vw.copy{x:Value}{m:Nat}{str:Bool}(new:List Value)(h0:0<sz)(h1:srcN str x=some m)(h2:srcCells H sz (min m s.n) x=some new)(h3:new.length=min m s.n*sz):∃H',(∀K,effK (.copy sz str) [s.v,x] H K=K (.int .i64 ((min m s.n:Nat):Int)) H')∧Vw H' s b A (new++cs.drop new.length) Z e sz∧Keep (fun k=>k=b) H H'∧H'.next=H.next:=by
 have hn:=v.hn;have hle:new.length≤cs.length:=by rw[h3,hn];exact Nat.mul_le_mul_right _ (Nat.min_le_right _ _)
 by_cases hz:min m s.n=0
 ·have hnil:new=[]:=List.eq_nil_of_length_eq_zero (by rw[h3,hz];simp);subst hnil;refine⟨H,fun K=>?_,by simpa using v,Keep.refl _,rfl⟩;simp only[effK,asSl,h1,optK];rw[if_pos hz,hz];rfl
 ·obtain⟨H',e1,e2,e3,e4⟩:=v.stN (new:=new) (i:=0) (by omega);refine⟨H',fun K=>?_,by simpa using e2,e3,e4⟩;rw[Nat.add_zero]at e1;have hsa:=v.sa;simp only[effK,asSl,h1,optK];rw[if_neg hz,if_pos h0];have h2':=h2;rw[h2'];simp only[hsa,e1]
end
theorem Vw.at{H:Heap}{s:Sl}{b:Nat}{A cs Z:List Value}{e:TypeId}{sz:Nat}(v:Vw H s b A cs Z e sz):s.at b:=⟨_,v.sa,rfl⟩
section
variable{α:Type}(f:α→List Value)(n:Nat)(hf:∀a,(f a).length=n)
include hf
theorem fm_len(L:List α):(L.flatMap f).length=L.length*n:=by
 induction L with
 |nil=>simp
 |cons a L ih=>simp only[List.flatMap_cons,List.length_append,hf,ih,List.length_cons,Nat.add_mul];omega
theorem fm_drop(L:List α)(i:Nat):(L.flatMap f).drop (i*n)=(L.drop i).flatMap f:=by
 induction L generalizing i with
 |nil=>simp
 |cons a L ih=>
  cases i with
  |zero=>simp
  |succ i=>rw[List.flatMap_cons,List.drop_succ_cons,←ih i,List.drop_append,hf,List.drop_eq_nil_of_le (by rw[hf,Nat.add_mul];omega),Nat.add_mul];simp
theorem fm_take(L:List α)(i:Nat):(L.flatMap f).take (i*n)=(L.take i).flatMap f:=by
 induction L generalizing i with
 |nil=>simp
 |cons a L ih=>
  cases i with
  |zero=>simp
  |succ i=>
   rw[List.flatMap_cons,List.take_succ_cons,List.flatMap_cons,←ih i,List.take_append,hf,List.take_of_length_le (by rw[hf,Nat.add_mul];omega),Nat.add_mul]
   congr 2;omega
theorem fm_at{L:List α}{i:Nat}{a:α}(h:L[i]?=some a):((L.flatMap f).drop (i*n)).take n=f a:=by rw[fm_drop f n hf];obtain⟨hlt,e⟩:=List.getElem?_eq_some_iff.1 h;rw[List.drop_eq_getElem_cons hlt,e,List.flatMap_cons,List.take_left' (hf a)]
end
end Go.Cm
namespace Go.Cm
open Go Go.RowKit Go.Maps Go.MapKept
open Go.WideElems (Fit rd rg)
open Go.Proofs (encStr)
end Go.Cm
