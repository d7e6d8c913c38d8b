/-
  The clean machine's instructions that turn memory do what the model's operations do: append.
-/
import Derived.Test.YtjjchnjcmnkpdaaDoorCmC
import Derived.Lib.UnsafeStr
namespace Go.Cm
open Go
section
variable{P:Program}{w0:Start}{μ:Mu}{H:Heap}{w:World}
theorem loadCells_any(R:RR P w0 μ H w){a a':Addr}{n:Nat}{l:List Value}(ha:AR μ a a')(h:H.ldN a n=some l):∃l',VRs μ l l'∧(∀v∈l,one v=true)∧l.length=n∧∀w',w'.heap=w.heap→(loadCells a' n).run P w'=.ok l'.toArray w':=by
 obtain⟨l',h1,h2,h3,h4⟩:=cells_ok R ha h;refine⟨l',h1,h2,h3,fun w' hw=>?_⟩;have:=run_loadCells (P:=P) n 0 a' l' #[] w' (by rw[←h1.length,h3]) (fun k v' hk=>by have:=h4 k v' hk;unfold World.cell? at this⊢;rw[hw];simpa using this);simpa[loadCells]using this
theorem src_ok(R:RR P w0 μ H w){x x':Value}(hx:VR μ x x'){size m n:Nat}{str:Bool}{new:List Value}(hm:srcN str x=some m)(hn:n≤m)(hs:str=true→size=1)(h:srcCells H size n x=some new):(Builtin.lenOf x').run P w=.ok m w∧∃new',(∀w',w'.heap=w.heap→(Builtin.firstCells size n x').run P w'=.ok new'.toArray w')∧VRs μ new new'∧(∀v∈new,one v=true)∧new.length=n*size:=by
 cases str<;>cases x<;>simp only[srcN,Option.some.injEq,reduceCtorEq]at hm;case true.string s=>
  have h1:=hs rfl;subst h1;rw[hx.string_inv];refine⟨by simp[Builtin.lenOf,←hm,slen_size],?_⟩;simp only[srcCells,Option.some.injEq]at h;subst h;refine⟨((lst s).take n).map fun b=>.int .u8 b.toNat,fun w' _=>?_,VRs.of rfl ?_,?_,?_⟩
  ·simp only[Builtin.firstCells,Sem.run_pure]
   congr 1
   apply Array.toList_inj.1;simp[lst]
  ·intro i v v' h1 h2;rw[h1]at h2;cases h2;simp only[List.getElem?_map,Option.map_eq_some_iff]at h1;obtain⟨b,_,rfl⟩:=h1;exact .int _ _
  ·intro v hv;simp only[List.mem_map]at hv;obtain⟨b,_,rfl⟩:=hv;rfl
  ·simp only[List.length_map,List.length_take];unfold slen at hm;omega
 case false.slice a k c=>
  subst hm;cases a with
  |none=>
   obtain⟨rfl,rfl,e⟩:=hx.slN_inv;rw[e];simp only[srcCells,Option.some.injEq]at h;subst h;obtain rfl:n=0:=by omega
   exact⟨rfl,[],fun _ _=>rfl,trivial,by simp,by simp⟩
  |some a=>
   obtain⟨a',c',e,hl,ha⟩:=hx.sl_inv;rw[e];refine⟨rfl,?_⟩;simp only[srcCells]at h;by_cases h0:n=0
   ·subst h0;simp only[if_true,Option.some.injEq]at h;subst h;refine⟨[],fun w' _=>?_,trivial,by simp,by simp⟩;simp[Builtin.firstCells,loadCells,loadCellsFrom]
   ·rw[if_neg h0]at h;obtain⟨l',h1,h2,h3,h4⟩:=loadCells_any R (ha.base (by omega)) h;exact⟨l',h4,h1,h2,h3⟩
theorem growBy_le(n:Nat):∀(k c:Nat),256≤c→c≤2*n→Builtin.growBy n k c≤2*n
 |0,c,_,h=>h
 |k+1,c,h1,h2=>by
  unfold Builtin.growBy;split
  ·exact h2
  ·exact growBy_le n k _ (by omega) (by omega)
theorem nextcap_le{n c:Nat}(h:c<n):Builtin.nextslicecap n c≤2*n:=by
 unfold Builtin.nextslicecap;split
 ·omega
 ·split
  ·omega
  ·exact growBy_le n 4 c (by omega) (by omega)
theorem run_append_grow{t u ty el:TypeId}{base:Option Addr}{len rc n:Nat}{x:Value}{old new z:List Value}(e:P.underlying t=some (.slice el))(hu:∀k,P.underlying u≠some (.int k))(hus:(P.underlying u).isSome=true)(hz:zeroL P el=some z)(hx:(Builtin.lenOf x).run P w=.ok n w)(ho:∀w',w'.heap=w.heap→(Builtin.firstCells (P.cellsOf el) len (.slice base len rc)).run P w'=.ok old.toArray w')(hn:∀w',w'.heap=w.heap→(Builtin.firstCells (P.cellsOf el) n x).run P w'=.ok new.toArray w')(hc:¬len+n≤rc)(hb:(len+n)*P.bytesOf el≤70368744177664)(hb0:0<P.bytesOf el):∃cap rest w',len+n≤cap∧rest.length=(cap-(len+n))*P.cellsOf el∧(Builtin.append_ #[t,u] ty #[.slice base len rc,x]).run P w=.ok (.slice (some ⟨w.heap.size,0,none⟩) (len+n) cap) w'∧w'.heap=w.heap.push (.cells (old++new++rest).toArray el (0,0))∧w'.os=w.os∧w'.output=w.output:=by
 obtain⟨z1,z2,z3,z4,z5⟩:=run_zeroValue (w:=w) hz;obtain⟨i,hi⟩:=Option.isSome_iff_exists.1 z5;obtain⟨du,hdu⟩:=Option.isSome_iff_exists.1 hus;have hby:P.bytesOf el=i.bytes:=by simp[Program.bytesOf,hi]
 have hsz:P.cellsOf el=i.size:=by simp[Program.cellsOf,hi]
 have hz1:∀v∈z,one v=true:=fun v hv=>one_of_plain (List.all_eq_true.1 z2 v hv)
 let q:=Question.appendCap (len+n) rc el
 let cap:=q.cut (w.tape w.drawn q)
 have hcap:len+n≤cap:=by simp only[cap,q,Question.cut];omega
 let w1:World:={w with drawn:=w.drawn+1}
 refine⟨cap,(Builtin.zeroCells (valT P el z).cells (cap-(len+n))).toList,{w1 with heap:=w.heap.push (.cells (old++new++(Builtin.zeroCells (valT P el z).cells (cap-(len+n))).toList).toArray el (0,0))},hcap,?_,?_,rfl,rfl,rfl⟩
 ·simp[Builtin.zeroCells,cells_valT z4 hz1,z3]
 ·obtain⟨zz1,_⟩:=run_zeroValue (w:=w1) hz;have hdu':∀k,du≠ .int k:=fun k hk=>hu k (by rw[hdu,hk]);have hb0':¬((((len+n:Nat):Int)>IntKind.i64.max)∧i.bytes=0):=by rw[hby]at hb0;omega
  have hlim:¬(Builtin.nextslicecap (len+n) rc*i.bytes>2^48):=by
   have h1:=nextcap_le (n:=len+n) (c:=rc) (by omega);have h2:Builtin.nextslicecap (len+n) rc*i.bytes≤2*(len+n)*i.bytes:=Nat.mul_le_mul_right _ h1;rw[hby]at hb;have h3:2*(len+n)*i.bytes=2*((len+n)*i.bytes):=by rw[Nat.mul_assoc]
   omega
  have hch:(choose q).run P w=.ok cap w1:=by rw[run_choose];rfl
  rw[hsz]at ho hn;have ho1:=ho w1 rfl;have hn1:=hn w1 rfl;have harr:(old++new++(Builtin.zeroCells (valT P el z).cells (cap-(len+n))).toList).toArray=old.toArray++new.toArray++Builtin.zeroCells (valT P el z).cells (cap-(len+n)):=by simp
  rw[harr];unfold Builtin.append_;cases du with
  |int k=>exact absurd rfl (hdu' k)
  |_=>simp only[Sem.run_bind,run_underlying e,Result.andThen_ok,run_sizeOf hi,run_underlying hdu,Sem.run_pure,List.getElem?_toArray,List.getElem?_cons_zero,List.getElem?_cons_succ,Bool.false_eq_true,if_false,hx];rw[if_neg hc];simp only[false_or,Sem.run_bind,typeInfo,run_program,Result.andThen_ok,hi,Sem.run_pure];rw[if_neg hb0'];simp only[Sem.run_bind,run_program,Result.andThen_ok,hi,Sem.run_pure];rw[if_neg hlim];rw[Sem.run_bind,hch];simp only[Sem.run_bind,Result.andThen_ok,run_program,hi,Sem.run_pure,run_askRoom,ho1,Bool.not_false,if_true,hn1,zz1,newRow,run_newObj];rfl
theorem run_append_room{t u ty el:TypeId}{base:Option Addr}{len rc n:Nat}{x:Value}{new:List Value}{w':World}(e:P.underlying t=some (.slice el))(hel:(P.info? el).isSome=true)(hu:∀k,P.underlying u≠some (.int k))(hus:(P.underlying u).isSome=true)(hx:(Builtin.lenOf x).run P w=.ok n w)(hn:(Builtin.firstCells (P.cellsOf el) n x).run P w=.ok new.toArray w)(hc:len+n≤rc)(hst:∀a,base=some a→(storeCells (a.add (len*P.cellsOf el)) new).run P w=.ok () w')(hno:base=none→w'=w):
  (Builtin.append_ #[t,u] ty #[.slice base len rc,x]).run P w=.ok (.slice base (len+n) rc) w':=by
 obtain⟨i,hi⟩:=Option.isSome_iff_exists.1 hel;obtain⟨du,hdu⟩:=Option.isSome_iff_exists.1 hus;have hsz:P.cellsOf el=i.size:=by simp[Program.cellsOf,hi]
 rw[hsz]at hn hst;have hdu':∀k,du≠ .int k:=fun k hk=>hu k (by rw[hdu,hk]);unfold Builtin.append_;cases du with
 |int k=>exact absurd rfl (hdu' k)
 |_=>
  simp only[Sem.run_bind,run_underlying e,Result.andThen_ok,run_sizeOf hi,run_underlying hdu,Sem.run_pure,List.getElem?_toArray,List.getElem?_cons_zero,List.getElem?_cons_succ,Bool.false_eq_true,if_false,hx];rw[if_pos hc];simp only[Sem.run_bind,Bool.not_false,if_true,hn,Result.andThen_ok];cases base with
  |none=>rw[hno rfl];rfl
  |some a=>have:=hst a rfl;simp only[Sem.run_bind,this,Result.andThen_ok,Sem.run_pure]
theorem append_ok(R:RR P w0 μ H w){t u ty el:TypeId}{str:Bool}{s x s' x':Value}{z:List Value}{K:Value→Heap→Res}{r:Value×Heap}(e:P.underlying t=some (.slice el))(hu:∀k,P.underlying u≠some (.int k))(hus:(P.underlying u).isSome=true)(hz:zeroL P el=some z)(hs:VR μ s s')(hx:VR μ x x')(h1:str=true→P.cellsOf el=1)(h:appendK el (P.cellsOf el) (P.bytesOf el) str s x H K=some r):∃v H' μ' v' w',K v H'=some r∧(Builtin.append_ #[t,u] ty #[s',x']).run P w=.ok v' w'∧VR μ' v v'∧RR P w0 μ' H' w'∧Ext μ H μ' H':=by
 obtain⟨z1,z2,z3,z4,z5⟩:=run_zeroValue (w:=w) hz;unfold appendK at h;obtain⟨a,len,cc,rfl,hA⟩:=asSl_some h;obtain⟨n,hn,hB⟩:=optK_some hA;obtain⟨new,hnew,hC⟩:=optK_some hB;clear h hA hB;obtain⟨l1,new',l2,l3,l4,l5⟩:=src_ok R hx hn (Nat.le_refl n) h1 hnew;split at hC
 ·
  rename_i hc;split at hC
  ·
   rename_i h0;subst h0;have hnew0:new'=[]:=List.length_eq_zero_iff.1 (by rw[←l3.length,l5];simp);subst hnew0;cases a with
   |none=>obtain⟨rfl,rfl,rfl⟩:=hs.slN_inv;exact⟨_,_,μ,_,w,hC,run_append_room e z5 hu hus l1 (l2 w rfl) (by omega) (fun a ha=>by cases ha) (fun _=>rfl),hs,R,Ext.refl _ _⟩
   |some ad=>obtain⟨a',c',rfl,hl,ha⟩:=hs.sl_inv;refine⟨_,_,μ,_,w,hC,run_append_room e z5 hu hus l1 (l2 w rfl) ?_ (fun a ha=>by simp[storeCells]) (fun h=>by cases h),hs,R,Ext.refl _ _⟩;rcases ha with ⟨_,_,mb,_,_,q⟩|⟨_,_,q,q'⟩<;>omega
  ·rename_i h0;split at hC
   ·cases hC
   rename_i hsz;cases a with
   |none=>cases hC
   |some ad=>
    simp only at hC;obtain⟨H',hst,hD⟩:=optK_some hC;obtain⟨a',c',rfl,hl,ha⟩:=hs.sl_inv;rcases ha with ha|⟨_,q,q',_⟩;rotate_left
    ·omega
    have hbase:AR μ ad a':=by obtain⟨q1,q2,mb,q3,q4,q5⟩:=ha;refine⟨q1,q2,mb,q3,q4,?_⟩;omega
    have hne:new≠[]:=by
     intro hc;rw[hc]at l5;simp only[List.length_nil]at l5;rcases Nat.mul_eq_zero.1 l5.symm with h|h
     ·exact h0 h
     ·exact hsz h
    obtain⟨w',s1,s2,s3⟩:=st_ok R (hbase.ap (len*P.cellsOf el)) l3 l4 hne hst;have hcc:cc≤c':=by obtain⟨_,_,mb,_,_,q⟩:=ha;omega
    refine⟨_,_,μ,_,w',hD,run_append_room e z5 hu hus l1 (l2 w rfl) (by omega) (fun a ha=>by cases ha;exact s1) (fun h=>by cases h),?_,s2,s3⟩;refine .sl (by omega) (.inl ?_);obtain⟨q1,q2,mb,q3,q4,q5⟩:=ha;refine⟨q1,q2,mb,q3,q4,?_⟩;rcases q5 with q5|q5|q5
    ·exact .inl q5
    ·exact .inr (.inl q5)
    ·omega
 ·rename_i hc;split at hC
  ·rename_i hlim;obtain⟨m1,m2,m3⟩:=hlim;have grow:∀{b:Option Addr} {rc:Nat} {old old':List Value} {fz:Nat} {st:Bool} {H1:Heap},s'=.slice b len rc→¬len+n≤rc→RR P w0 μ H1 w→Ext μ H μ H1→H1.next=H.next→
    (∀w',w'.heap=w.heap→(Builtin.firstCells (P.cellsOf el) len (.slice b len rc)).run P w'=.ok old'.toArray w')→VRs μ old old'→(∀v∈old,one v=true)→old.length=len*P.cellsOf el→fz≤old.length→
    K (.slice (some ⟨H.next,0,none⟩) (len+n) (len+n)) (H1.new (.cells (old++new) el true fz st))=some r→
    ∃v H' μ' v' w',K v H'=some r∧(Builtin.append_ #[t,u] ty #[s',x']).run P w=.ok v' w'∧VR μ' v v'∧RR P w0 μ' H' w'∧Ext μ H μ' H':=by
    intro b rc old old' fz st H1 hs' hcap R1 E1 hnx ho1 ho2 ho3 ho4 hfz hK;subst hs';obtain⟨cap,rest,w',g1,g2,g3,g4,g5⟩:=run_append_grow (ty:=ty) (base:=b) e hu hus hz l1 ho1 l2 hcap m1 m2;have hone:∀v∈old++new,one v=true:=fun v hv=>by
     rcases List.mem_append.1 hv with hv|hv
     ·exact ho3 v hv
     ·exact l4 v hv
    have hrel:=ho2.append l3;have hnew:=R1.new (o:=.cells (old++new) el true fz st) (o':=.cells (old'++new'++rest).toArray el (0,0)) (w':=w') (m:=⟨w.heap.size,0,(old++new).length,((old'++new')++rest).length,P.cellsOf el,true⟩) rfl (OR.opened hrel hone (by simp only[List.length_append];omega) (.inl rfl)) g4 g5;refine⟨_,_,_,_,w',hK,g3,?_,hnew.1,E1.trans hnew.2⟩;rw[←hnx];have len1:(old++new).length=(len+n)*P.cellsOf el:=by rw[List.length_append,ho4,l5,Nat.add_mul]
    have len2:(old'++new'++rest).length=cap*P.cellsOf el:=by
     rw[List.length_append,←hrel.length,len1,g2,←Nat.add_mul]
     congr 1
     omega
    exact .sl (Nat.le_refl _) (.inl ⟨rfl,rfl,_,Mu.add_same _ _ _,rfl,.inr (.inl ⟨rfl,rfl,g1,(by show 0+(len+n)*P.cellsOf el=(old++new).length;rw[len1];omega),(by show 0+cap*P.cellsOf el≤(old'++new'++rest).length;rw[len2];omega)⟩)⟩)
   cases a with
   |none=>obtain⟨rfl,rfl,e'⟩:=hs.slN_inv;exact grow (b:=none) (rc:=0) (old:=[]) (old':=[]) (fz:=0) (st:=false) (H1:=H) e' (by omega) R (Ext.refl _ _) rfl (fun _ _=>rfl) trivial (by simp) (by simp) (by simp) hC
   |some ad=>
    obtain⟨a',c',e',hl,ha⟩:=hs.sl_inv;simp only at hC;rcases ha with ha|⟨rfl,rfl,rfl,rfl⟩;rotate_left
    ·simp only[dang,if_true]at hC;exact grow (b:=some a') (rc:=0) (old:=[]) (old':=[]) (fz:=0) (st:=false) (H1:=H) e' (by omega) R (Ext.refl _ _) rfl (fun w' _=>by simp[Builtin.firstCells,loadCells,loadCellsFrom]) trivial (by simp) (by simp) (by simp) hC
    rw[ha.1]at hC;simp only at hC;split at hC
    ·rename_i c el2 o fz st hg;split at hC
     ·rename_i hin;obtain⟨q1,q2,mb,q3,q4,q5⟩:=ha;obtain⟨cr,fr,g1,g2⟩:=lookup_cells R q3 hg;obtain⟨_,⟨gl,gz⟩,go,ge,gs,gi,gc,gx,gf,gst⟩:=g2;have old:∃old',(∀w',w'.heap=w.heap→(Builtin.firstCells (P.cellsOf el) len (.slice (some a') len c')).run P w'=.ok old'.toArray w')∧VRs μ ((c.drop ad.off).take (len*P.cellsOf el)) old'∧(∀v∈(c.drop ad.off).take (len*P.cellsOf el),one v=true)∧((c.drop ad.off).take (len*P.cellsOf el)).length=len*P.cellsOf el:=by
       by_cases h0:len=0
       ·subst h0;refine⟨[],fun w' _=>?_,by simp[VRs],by simp,by simp⟩;simp[Builtin.firstCells,loadCells,loadCellsFrom]
       ·have hb:AR μ ad a':=⟨q1,q2,mb,q3,q4,by omega⟩;obtain⟨l',k1,k2,k3,k4⟩:=loadCells_any R (n:=len*P.cellsOf el) (l:=(c.drop ad.off).take (len*P.cellsOf el)) hb (by unfold Heap.ldN;rw[hg];simp only;rw[if_pos hin]);exact⟨l',k4,k1,k2,k3⟩
      obtain⟨old',o1,o2,o3,o4⟩:=old;split at hC
      ·
       rename_i hx;have hrc:c'=cc:=by
        rcases q5 with ⟨_,q⟩|⟨p1,p2,p3,p4,p5⟩|⟨p1,p2,p3⟩
        ·exact q
        ·exfalso;rw[p1]at go;subst go;have hel:el2=el:=by rcases hx.2 with h|h;cases h;exact h
         have:=hx.1;unfold exact at this;subst hel;rw[ge]at p4;simp only[Bool.not_true,Bool.false_or,Bool.and_eq_true,bne_iff_ne,ne_eq]at this;rw[gl]at this;exact this.2 p4
        ·rcases p3 with p3|⟨p3,_⟩
         ·omega
         ·exfalso;rw[p3]at go;subst go;have:=hx.1;unfold exact at this;simp[p2]at this
       exact grow (fz:=0) (st:=false) (H1:=H) e' (by omega) R (Ext.refl _ _) rfl o1 o2 o3 o4 (by simp) hC
      ·split at hC
       ·rename_i hnx hk;obtain⟨rfl,hfz⟩:=hk;obtain⟨Rk,Ek⟩:=R.kill q3;by_cases hroom:len+n≤c'
        ·
         have hopn:o=true:=by
          cases ho:o with
          |true=>rfl
          |false=>exfalso;apply hnx;refine⟨by unfold exact;simp[ho],.inl ho⟩
         subst hopn;have hmo:mb.opn=true:=go.symm;have hoff:mb.sh+fz≤a'.off+(fz-ad.off)∧a'.off+c'*mb.esz≤mb.rs∧(len≠0→a'.off=ad.off+mb.sh)∧mb.sh+fz≤a'.off+len*mb.esz:=by
          rcases q5 with ⟨p,q⟩|⟨p1,p2,p3,p4,p5⟩|⟨p1,p2,p3⟩
          ·omega
          ·refine⟨by omega,p5,fun _=>p2,?_⟩;rw[ge];omega
          ·rcases p3 with p3|⟨_,p4,p5⟩
           ·omega
           ·refine⟨by omega,p5,fun h=>absurd p1 h,by omega⟩
         obtain⟨f1,f2,f3,f4⟩:=hoff;have hesz:mb.esz=P.cellsOf el2:=ge;obtain⟨ab,ao,as⟩:=a';simp only at q2 q4 f1 f2 f3 f4;subst q2 q4;have hstlen:new'.length=n*P.cellsOf el2:=by rw[←l3.length,l5]
         have hn0:0<n:=by omega
         have hnpos:0<n*P.cellsOf el2:=Nat.mul_pos hn0 m3;have hfit:ao+len*P.cellsOf el2+new'.length≤cr.size:=by rw[gs,hstlen,Nat.add_assoc,←Nat.add_mul];rw[hesz]at f2;have:(len+n)*P.cellsOf el2≤c'*P.cellsOf el2:=Nat.mul_le_mul_right _ hroom;omega
         have hrun:=run_storeCells (P:=P) (fr:=fr) (e:=el2) (b:=mb.blk) new' 0 (ao+len*P.cellsOf el2) cr w g1 (by omega) (fun j j1 j2=>gf j (by rw[←gs];omega) (by rw[←hesz]at j1;omega) (fun h=>by rw[hmo]at h;cases h)) (fun v hv=>by
          obtain⟨i,hi,rfl⟩:=List.mem_iff_getElem.1 hv;have hi':i<new.length:=by rw[l3.length];exact hi
          obtain⟨v',e1,e2⟩:=l3.get i _ (List.getElem?_eq_getElem hi');rw[List.getElem?_eq_getElem hi]at e1;cases e1;rw[e2.one_eq];exact l4 _ (List.getElem_mem hi'))
         have hne':new'≠[]:=by intro hc;rw[hc]at hstlen;simp at hstlen;omega
         rw[if_neg hne',Nat.add_zero]at hrun;have hlow:w0.heap.size≤mb.blk:=by refine R.own q3 hg ?_;intro c0 e0 h0;first|(cases h0;done)|(simp at h0;done)|(simp at h0;omega)|(injection h0 with e1 e2 e3 e4 e5;subst e1;omega)
         have hadd:(⟨mb.blk,ao,none⟩:Addr).add (len*P.cellsOf el2)=⟨mb.blk,ao+len*P.cellsOf el2,none⟩:=by rw[ap_eq rfl];rfl
         let cr2:=(splice cr.toList (ao+len*P.cellsOf el2) new').toArray
         let w':World:={w with heap:=w.heap.setIfInBounds mb.blk (.cells cr2 el2 fr)}
         have hblk:=R.blk _ _ q3;have hfit2:ao+len*P.cellsOf el2+new'.length≤cr.toList.length:=by simpa using hfit
         have hsz2:cr2.size=cr.size:=by simp only[cr2,List.size_toArray];rw[splice_length hfit2];simp
         have hnewAt:=Rk.newAt (o:=.cells ((c.drop ad.off).take (len*P.cellsOf el2)++new) el2 true (fz-ad.off) st) (o':=.cells cr2 el2 fr) (m:=⟨mb.blk,ao,((c.drop ad.off).take (len*P.cellsOf el2)++new).length,mb.rs,P.cellsOf el2,true⟩) (w':=w') ?_ hlow ?_ (by simp[w']) (by simp[w',hblk]) (fun k k1 k2=>by simp only[w'];rw[Array.getElem?_setIfInBounds_ne (fun h=>k1 h.symm)])
         ·refine⟨_,_,_,.slice (some ⟨mb.blk,ao,none⟩) (len+n) c',w',hC,?_,?_,hnewAt.1,Ek.trans hnewAt.2⟩
          ·rw[e'];exact run_append_room e z5 hu hus l1 (l2 w rfl) hroom (fun a ha=>by cases ha;rw[hadd];exact hrun) (fun h=>by cases h)
          ·refine .sl (Nat.le_refl _) (.inl ⟨rfl,rfl,_,Mu.add_same _ _ _,rfl,.inr (.inl ⟨rfl,by simp,hroom,?_,?_⟩)⟩)
           ·simp only[List.length_append,o4,l5,Nat.zero_add];rw[←Nat.add_mul]
           ·rw[←hesz];exact f2
         ·refine⟨rfl,⟨rfl,by simp only[List.length_append,o4];omega⟩,rfl,rfl,by rw[hsz2,gs],?_,(fun h=>by cases h),?_,?_,?_⟩
          ·simp only[List.length_append,o4,l5];rw[gs,hstlen]at hfit;omega
          ·intro i v hv;have hone:∀v∈(c.drop ad.off).take (len*P.cellsOf el2)++new,one v=true:=fun v hv=>by
            rcases List.mem_append.1 hv with hv|hv
            ·exact o3 v hv
            ·exact l4 v hv
           refine⟨hone v (List.mem_of_getElem? hv),?_⟩;simp only[cr2,List.getElem?_toArray];rw[splice_get hfit2];by_cases hi:i<len*P.cellsOf el2
           ·rw[if_pos (by omega)];rw[List.getElem?_append_left (by rw[o4];exact hi),List.getElem?_take_of_lt hi,List.getElem?_drop]at hv;obtain⟨_,v',y1,y2⟩:=gx _ v hv;refine⟨v',?_,y2⟩;have hl0:len≠0:=by intro h;rw[h]at hi;simp at hi
            have:=f3 hl0;rw[show i+ao=ad.off+i+mb.sh by omega];simpa using y1
           ·rw[if_neg (by omega)];rw[List.getElem?_append_right (by rw[o4];omega),o4]at hv;obtain⟨v',y1,y2⟩:=l3.get _ v hv;have hb2:i-len*P.cellsOf el2<new'.length:=by
             rcases Nat.lt_or_ge (i-len*P.cellsOf el2) new'.length with h|h
             ·exact h
             ·rw[List.getElem?_eq_none h]at y1;cases y1
            rw[if_pos (by omega)];refine⟨v',?_,y2⟩;rw[←y1]
            congr 1
            omega
          ·intro j j1 j2 _;simp only at j1 j2;have f1':mb.sh+fz≤ao+(fz-ad.off):=f1;exact gf j j1 (by omega) (fun h=>by rw[hmo]at h;cases h)
          ·intro h;have:=gst h;have f1':mb.sh+fz≤ao+(fz-ad.off):=f1;show fr.1≤fr.2∧fr.2≤ao+(fz-ad.off);omega
         ·intro b m1 o1 h1 h2 h3;simp only at h3;rw[Heap.get_kill]at h2;split at h2
          ·cases h2
          ·rename_i hne;exact hne (R.inj' h1 q3 h2 hg h3 hlow)
        ·exact grow (fz:=fz-ad.off) (st:=st) (H1:=H.kill ad.block) e' hroom Rk Ek rfl o1 o2 o3 o4 (by omega) hC
       ·cases hC
     ·cases hC
    ·cases hC
  ·cases hC
end
section
variable{P:Program}{w0:Start}{μ:Mu}{H:Heap}{w:World}
theorem exec_builtin{dst:Option Tmp}{type:TypeId}{pos:String}{after:Array Edge}{guard:Option (Nat×Bool)}{b:Builtin}{ts:Array TypeId}{xs:Array Operand}{ρ:Operand→Value}{nx:Next}{w':World}(h:(builtin b ts type (xs.map fun| .const _=>true|_=>false) (xs.map ρ)).run P w=.ok nx w'):(execOp ρ ⟨dst,.call ⟨.builtin b,xs,ts⟩,type,pos,after,guard⟩).run P w=.ok nx w':=by
 simp only[execOp,resolve,Sem.run_bind,Sem.run_pure,Result.andThen_ok,invoke];exact h
theorem copy_ok(R:RR P w0 μ H w){t u ty el:TypeId}{str:Bool}{d x d' x':Value}{K:Value→Heap→Res}{r:Value×Heap}(e:P.underlying t=some (.slice el))(hel:(P.info? el).isSome=true)(hd:VR μ d d')(hx:VR μ x x')(h1:str=true→P.cellsOf el=1)(h:effK (.copy (P.cellsOf el) str) [d,x] H K=some r):∃v H' μ' v' w',K v H'=some r∧(Builtin.copy_ #[t,u] ty #[d',x']).run P w=.ok v' w'∧VR μ' v v'∧RR P w0 μ' H' w'∧Ext μ H μ' H':=by
 simp only[effK]at h;obtain⟨a,len,cc,rfl,hA⟩:=asSl_some h;obtain⟨m,hm,hB⟩:=optK_some hA;have hlen:∃b c',d'=.slice b len c'∧(a=none→b=none)∧(∀ad,a=some ad→∃a',b=some a'∧SR μ ad a' len cc c'):=by
  cases a with
  |none=>obtain⟨rfl,rfl,rfl⟩:=hd.slN_inv;exact⟨none,0,rfl,fun _=>rfl,fun ad h=>by cases h⟩
  |some ad=>obtain⟨a',c',rfl,_,ha⟩:=hd.sl_inv;exact⟨some a',c',rfl,(fun h=>by cases h),fun ad h=>by cases h;exact⟨a',rfl,ha⟩⟩
 obtain⟨b,c',rfl,hb1,hb2⟩:=hlen;have hlof:(Builtin.lenOf x').run P w=.ok m w:=by
  cases str<;>cases x<;>simp only[srcN,Option.some.injEq,reduceCtorEq]at hm;case true.string s=>rw[hx.string_inv];simp[Builtin.lenOf,←hm,slen_size]
  case false.slice a2 k c2=>
   subst hm;cases a2 with
   |none=>obtain⟨rfl,rfl,rfl⟩:=hx.slN_inv;rfl
   |some a2=>obtain⟨a',c',rfl,_,_⟩:=hx.sl_inv;rfl
 have hmin:Nat.min m len=min m len:=rfl;split at hB
 ·rename_i h0;refine⟨_,_,μ,_,w,hB,?_,.int _ _,R,Ext.refl _ _⟩;have hsrc:(Builtin.firstCells (P.cellsOf el) 0 x').run P w=.ok #[] w:=by
   cases str<;>cases x<;>simp only[srcN,Option.some.injEq,reduceCtorEq]at hm;case true.string s=>
    rw[hx.string_inv];simp only[Builtin.firstCells,Sem.run_pure]
    congr 1
    apply Array.toList_inj.1;simp
   case false.slice a2 k c2=>
    cases a2 with
    |none=>obtain⟨rfl,rfl,rfl⟩:=hx.slN_inv;rfl
    |some a2=>obtain⟨a',c',rfl,_,_⟩:=hx.sl_inv;simp[Builtin.firstCells,loadCells,loadCellsFrom]
  simp only[Builtin.copy_,List.getElem?_toArray,List.getElem?_cons_zero,List.getElem?_cons_succ,Sem.run_bind,run_underlying e,Result.andThen_ok,hlof,hmin,h0,run_sizeOf' hel,hsrc];cases b<;>simp[storeCells,goInt]
 ·rename_i h0;split at hB
  ·rename_i hsz;obtain⟨new,hnew,hC⟩:=optK_some hB;obtain⟨l1,new',l2,l3,l4,l5⟩:=src_ok R hx hm (Nat.min_le_left m len) h1 hnew;cases a with
   |none=>cases hC
   |some ad=>
    simp only at hC;obtain⟨H',hst,hD⟩:=optK_some hC;obtain⟨a',rfl,ha⟩:=hb2 ad rfl;have hne:new≠[]:=by
     intro hc;rw[hc]at l5;simp only[List.length_nil]at l5;rcases Nat.mul_eq_zero.1 l5.symm with h|h
     ·exact h0 h
     ·omega
    obtain⟨w',s1,s2,s3⟩:=st_ok R (ha.base (by omega)) l3 l4 hne hst;refine⟨_,_,μ,_,w',hD,?_,.int _ _,s2,s3⟩;simp only[Builtin.copy_,List.getElem?_toArray,List.getElem?_cons_zero,List.getElem?_cons_succ,Sem.run_bind,run_underlying e,Result.andThen_ok,hlof,hmin,run_sizeOf' hel,l2 w rfl,s1];simp[goInt]
  ·cases hB
theorem clear_ok(R:RR P w0 μ H w){t ty el:TypeId}{d d':Value}{z:List Value}{K:Value→Heap→Res}{r:Value×Heap}(e:P.underlying t=some (.slice el))(hz:zeroL P el=some z)(hd:VR μ d d')(h:effK (.clearSl (P.cellsOf el) z) [d] H K=some r):
  ∃v H' μ' v' w',K v H'=some r∧(Builtin.clear_ #[t] ty #[d']).run P w=.ok v' w'∧VR μ' v v'∧RR P w0 μ' H' w'∧Ext μ H μ' H':=by
 obtain⟨z1,z2,z3,z4,z5⟩:=run_zeroValue (w:=w) hz;have ho:∀v∈z,one v=true:=fun v hv=>one_of_plain (List.all_eq_true.1 z2 v hv);simp only[effK]at h;obtain⟨a,len,cc,rfl,hA⟩:=asSl_some h;have tup:∀μ,VR μ (.tuple #[]) (.tuple #[]):=fun μ=>VR.undef μ;cases a with
 |none=>obtain⟨rfl,rfl,rfl⟩:=hd.slN_inv;rw[if_pos (.inl rfl)]at hA;exact⟨_,_,μ,_,w,hA,by simp[Builtin.clear_,run_underlying e],tup μ,R,Ext.refl _ _⟩
 |some ad=>
  obtain⟨a',c',rfl,hl,ha⟩:=hd.sl_inv;by_cases h0:len=0
  ·subst h0;rw[if_pos (.inl rfl)]at hA;exact⟨_,_,μ,_,w,hA,by simp[Builtin.clear_,run_underlying e],tup μ,R,Ext.refl _ _⟩
  ·obtain⟨len,rfl⟩:∃k,len=k+1:=⟨len-1,by omega⟩;have hrep:(Builtin.zeroCells z.toArray (len+1)).toList=rep z (len+1):=by have:=rep_eq z (len+1);unfold Builtin.zeroCells;simp only[List.size_toArray]at this⊢;rw[this]
   have hrun:(Builtin.clear_ #[t] ty #[.slice (some a') (len+1) c']).run P w=((storeCells a' (rep z (len+1))).run P w).andThen fun _ w'=>.ok (.tuple #[]) w':=by simp only[Builtin.clear_,List.getElem?_toArray,List.getElem?_cons_zero,Sem.run_bind,run_underlying e,Result.andThen_ok,z1,cells_valT z4 ho,hrep];rfl
   by_cases hs0:P.cellsOf el=0
   ·rw[if_pos (.inr hs0)]at hA;refine⟨_,_,μ,_,w,hA,?_,tup μ,R,Ext.refl _ _⟩;have hn:rep z (len+1)=[]:=List.length_eq_zero_iff.1 (by rw[rep_length,z3,hs0];simp);rw[hrun,hn];rfl
   ·rw[if_neg (by omega)]at hA;simp only at hA;rw[if_pos z3]at hA;obtain⟨H',hst,hD⟩:=optK_some hA;have hne:rep z (len+1)≠[]:=by intro hc;have:=rep_length z (len+1);rw[hc,z3]at this;simp only[List.length_nil]at this;rcases Nat.mul_eq_zero.1 this.symm with h|h<;>omega
    obtain⟨w',s1,s2,s3⟩:=st_ok R (ha.base (by omega)) (VRs.rep z2 (len+1)) (rep_one z2 (len+1)) hne hst;refine⟨_,_,μ,_,w',hD,?_,tup μ,s2,s3⟩;rw[hrun,s1];rfl
theorem run_loadBytes:∀(l l':List Value) (a:Addr) (acc:ByteArray) (r:List UInt8),a.spot=none→VRs μ l l'→bytesOf l=some r→(∀(k:Nat) v',l'[k]?=some v'→w.cell? (ap a k)=some v')→
  (loadBytes a acc l.length).run P w=.ok (S (lst acc++r)) w
 |[],[],a,acc,r,_,_,h,_=>by simp only[bytesOf,Option.some.injEq]at h;subst h;simp[loadBytes]
 |v::l,v'::l',a,acc,r,hs,hv,h,hc=>by
  unfold bytesOf at h;split at h
  ·rename_i h0;cases h0
  ·rename_i heq;simp only[List.cons.injEq]at heq;obtain⟨rfl,rfl⟩:=heq;split at h
   ·rename_i r' hr;simp only[Option.some.injEq]at h;subst h;have h0:=hc 0 v' (by simp);have e0:ap a 0=a:=by cases a;simp only at hs;subst hs;rfl
    rw[e0,hv.1.int_inv]at h0;simp only[List.length_cons,loadBytes,Sem.run_bind,run_load,h0,Result.andThen_ok];rw[ap_eq hs,run_loadBytes l l' (ap a 1) _ r' rfl hv.2 hr (fun k v2 hk=>by
     have:=hc (k+1) v2 (by simpa using hk);have e1:ap (ap a 1) k=ap a (k+1):=by simp only[ap];congr 1;omega
     rw[e1];exact this)]
    congr 1
    simp[lst,S]
   ·cases h
  ·cases h
theorem sameLayout_self{d:Nat}{t:TypeId}:sameLayout P (d+1) t t=true:=by unfold sameLayout;simp
theorem rowAt_one{fits:TypeId→Bool}{d:Nat}{e:TypeId}{count off n:Nat}(h1:P.cellsOf e=1)(hn:off+n≤count)(hf:fits e=true):rowAt P fits (d+1) e count off n=true:=by simp only[rowAt,h1];simp[hn,hf,Nat.mod_one]
theorem run_variablesAt{b:Nat}{e:TypeId}{c:Array Value}{fr:Nat×Nat}{off n:Nat}(h:w.heap[b]?=some (.cells c e fr))(h1:P.cellsOf e=1)(hn:off+n≤c.size):(variablesAt ⟨b,off,none⟩ e n).run P w=.ok true w:=by
 have hs:w.shape? b=some (e,c.size):=by unfold World.shape?;rw[h]
 have hd:P.depth=(2*(P.types.size+Made.depth)+1)+1:=rfl;have hr:rowAt P (sameLayout P P.depth · e) P.depth e c.size off n=true:=by
  have:sameLayout P P.depth e e=true:=by rw[hd];exact sameLayout_self
  conv=>lhs;arg 3;rw[hd]
  exact rowAt_one h1 hn this
 have hl:liesAt P P.depth e (c.size/P.cellsOf e) off e n=true:=by
  conv=>lhs;arg 2;rw[hd]
  unfold liesAt;rw[h1,Nat.div_one,hr];rfl
 simp only[variablesAt,Sem.run_bind,run_program,run_shape,Result.andThen_ok,hs,Sem.run_pure,hl]
theorem push_modify(h:Array Obj)(o:Obj)(f:Obj→Obj):(h.push o).modify h.size f=h.push (f o):=by
 apply Array.ext_getElem?;intro k;rw[Array.getElem?_modify,Array.getElem?_push,Array.getElem?_push];by_cases hk:k=h.size
 ·subst hk;simp
 ·have:¬h.size=k:=fun e=>hk e.symm;simp[hk,this]
theorem new_opened(R:RR P w0 μ H w){e:TypeId}{l l' rest:List Value}{fr:Nat×Nat}{s:Bool}{w':World}(h1:P.cellsOf e=1)(hrel:VRs μ l l')(ho:∀v∈l,one v=true)(hfr:fr=(0,0)∨(s=true∧fr=((l'++rest).length,(l'++rest).length+1)))(hw:w'.heap=w.heap.push (.cells (l'++rest).toArray e fr))(hio:w'.os=w.os∧w'.output=w.output:=by exact⟨rfl,rfl⟩):∃μ',VR μ' (.slice (some ⟨H.next,0,none⟩) l.length l.length) (.slice (some ⟨w.heap.size,0,none⟩) l.length (l'++rest).length)∧RR P w0 μ' (H.new (.cells l e true 0 s)) w'∧Ext μ H μ' (H.new (.cells l e true 0 s)):=by
 have hnew:=R.new (o:=.cells l e true 0 s) (o':=.cells (l'++rest).toArray e fr) (w':=w') (m:=⟨w.heap.size,0,l.length,(l'++rest).length,P.cellsOf e,true⟩) rfl (OR.opened hrel ho (Nat.zero_le _) hfr) hw hio;refine⟨_,.sl (Nat.le_refl _) (.inl ⟨rfl,rfl,_,Mu.add_same _ _ _,rfl,.inr (.inl ⟨rfl,rfl,?_,?_,?_⟩)⟩),hnew.1,hnew.2⟩
 ·rw[List.length_append,hrel.length];omega
 ·show 0+l.length*P.cellsOf e=l.length;rw[h1];omega
 ·show 0+(l'++rest).length*P.cellsOf e≤(l'++rest).length;rw[h1];omega
theorem conv_str{s d e:TypeId}{x:ByteArray}(e1:P.underlying s=some .string)(e2:P.underlying d=some (.slice e)):(P.underlying e=some (.int .u8)→(convert s d (.string x)).run P w=(Conv.stringToBytes e x).run P w)∧(P.underlying e=some (.int .i32)→(convert s d (.string x)).run P w=(Conv.stringToRunes e x).run P w):=by
 refine⟨fun e3=>?_,fun e3=>?_⟩<;>simp[convert,run_underlying e1,run_underlying e2,run_underlying e3]
theorem eff_mark{dst:Option Tmp}{type:TypeId}{pos:String}{after:Array Edge}{guard:Option (Nat×Bool)}{s d:TypeId}{x:Operand}(hm:isMark P s d=true):
  EffOK P ⟨dst,.convert s d x,type,pos,after,guard⟩ .markStr [x]:=by
 intro w0 μ H w ρ vs K r R hρ hv h;unfold isMark at hm;split at hm;case h_2=>cases hm
 rename_i e hd;simp only[Bool.and_eq_true,beq_iff_eq]at hm;obtain⟨rfl,hm⟩:=hm;split at hm;case h_2=>cases hm
 rename_i hu8;obtain⟨u,rfl,hu⟩:=VRs.inv1 hv
 match u,hu,h with
 | .slice none n c,hu,h=>simp[effK]at h
 | .slice (some ad) n c,hu,h=>
   simp only[effK]at h;split at h
   ·rename_i l el o fz st hg;split at h
    ·rename_i hcond;obtain⟨rfl,rfl,rfl⟩:=hcond;generalize hz:ρ x=z at hu;have hu':=hu;cases hu with
     | @sl _ a' _ _ c' hl ha=>
       rcases ha with ⟨q1,q2,mb,q3,q4,q5⟩|⟨rfl,_⟩;rotate_left
       ·simp[dang]at hg
       simp only[q1,Option.isSome_none,Bool.false_eq_true,if_false]at hg;obtain⟨o',hblk,hor⟩:=R.obj _ _ _ q3 hg;cases o' with
       |cells cr el' fr=>
        obtain⟨f1,f2,f3,f4,f5,f6,f7,f8,f9,f10⟩:=hor;obtain⟨f11,f12⟩:=f7 f3.symm rfl;obtain⟨f13,f14⟩:=f10 rfl;have hfr:fr=(0,0):=by
         obtain⟨x,y⟩:=fr;simp only[f11]at f13 f14;have hy:y=0:=by omega
         have hx:x=0:=by omega
         rw[hx,hy]
        subst hfr;have hlow:w0.heap.size≤mb.blk:=by refine R.own q3 hg ?_;intro c0 e0 h0;first|(cases h0;done)|(simp at h0;done)|(simp at h0;omega)|(injection h0 with e1 e2 e3 e4 e5;subst e1;omega)
        have hput:=R.put (o2:=.cells l el false 0 true) (w':={w with heap:=w.heap.setIfInBounds mb.blk (.cells cr el' (cr.size,cr.size+1))}) (o':=.cells cr el' (cr.size,cr.size+1)) q3 hg hlow ⟨f1,f2,f3,f4,f5,f6,fun _ _=>⟨f11,f12⟩,f8,fun j j1 j2 _ j3=>by simp only at j3;omega,fun h=>by cases h⟩ rfl;refine⟨_,_,μ,_,.value (.slice (some a') n c'),{w with heap:=w.heap.setIfInBounds mb.blk (.cells cr el' (cr.size,cr.size+1))},h,?_,rfl,hu',hput.1,hput.2⟩;refine run_v ?_;rw[hz];have hblk':w.heap[a'.block]?=some (.cells cr el' (0,0)):=by rw[q4];exact hblk
        have hshape:w.shape? a'.block=some (el',cr.size):=by unfold World.shape?;rw[hblk']
        simp only[convert,Sem.run_bind,run_underlying hd,run_underlying hu8,Result.andThen_ok,beq_self_eq_true,markStringish,run_shape,hshape,run_freeze,Sem.run_pure]
        congr 1
        unfold World.freeze;rw[if_neg (by omega)];simp only
        congr 1
        rw[q4];apply Array.ext_getElem?;intro k;rw[Array.getElem?_modify,Array.getElem?_setIfInBounds];by_cases hk:mb.blk=k
        ·subst hk;have hlt:=R.blk _ _ q3;rw[hblk];simp[hlt]
        ·simp[hk]
       |_=>exact hor.elim
    ·cases h
   ·cases h
 | .bool _,_,h=>simp[effK]at h
 | .int _ _,_,h=>simp[effK]at h
 | .string _,_,h=>simp[effK]at h
 | .pointer _,_,h=>simp[effK]at h
 | .map _,_,h=>simp[effK]at h
 | .func _ _ _,_,h=>simp[effK]at h
 | .nilFunc,_,h=>simp[effK]at h
 | .iface _ _,_,h=>simp[effK]at h
 | .nilIface,_,h=>simp[effK]at h
 | .agg _,_,h=>simp[effK]at h
 | .tuple _,_,h=>simp[effK]at h
 | .float _ _,_,h=>simp[effK]at h
 | .complex _ _ _,_,h=>simp[effK]at h
theorem eff_conv{dst:Option Tmp}{type:TypeId}{pos:String}{after:Array Edge}{guard:Option (Nat×Bool)}{s d:TypeId}{x:Operand}{ei:EI}{xs:List Operand}(hc:cOp P ⟨dst,.convert s d x,type,pos,after,guard⟩=some (.eff ei,xs)):EffOK P ⟨dst,.convert s d x,type,pos,after,guard⟩ ei xs:=by
 intro w0 μ H w ρ vs K r R hρ hv h;simp only[cOp]at hc;unfold cConv at hc;split at hc;case isTrue hm=>simp only[Option.some.injEq,Prod.mk.injEq,CIns.eff.injEq]at hc;obtain⟨rfl,rfl⟩:=hc;exact eff_mark hm w0 μ H w ρ vs K r R hρ hv h
 unfold cConv0 at hc;split at hc
 ·cases hc
 ·cases hc
 ·cases hc
 ·rename_i e e1 e2;split at hc
  ·rename_i e3;split at hc
   ·rename_i hc1;simp only[Option.some.injEq,Prod.mk.injEq,CIns.eff.injEq]at hc;obtain⟨rfl,rfl⟩:=hc;obtain⟨u,rfl,hu⟩:=VRs.inv1 hv
    match u,hu,h with
    | .string b,hu,h=>
      simp only[effK]at h;have hsz:slen b=b.size:=slen_size b
      let q:=Question.appendCap b.size 0 e
      let cap:=q.cut (w.tape w.drawn q)
      have hcap:b.size≤cap:=by simp only[cap,q,Question.cut];omega
      let l':List Value:=(lst b).map fun x=>.int .u8 x.toNat
      let rest:List Value:=List.replicate (cap-b.size) (.int .u8 0)
      let w1:World:={w with drawn:=w.drawn+1}
      let w':World:={w1 with heap:=w.heap.push (.cells (l'++rest).toArray e ((l'++rest).length,(l'++rest).length+1))}
      have hl':l'.length=slen b:=by simp only[l',List.length_map];rfl
      have hlr:(l'++rest).length=cap:=by simp only[List.length_append,hl',hsz,rest,List.length_replicate];omega
      have hrel:VRs μ l' l':=VRs.of rfl fun i v v' h1 h2=>by rw[h1]at h2;cases h2;simp only[l',List.getElem?_map,Option.map_eq_some_iff]at h1;obtain⟨b,_,rfl⟩:=h1;exact .int _ _
      have hone:∀v∈l',one v=true:=fun v hv=>by simp only[l',List.mem_map]at hv;obtain⟨b,_,rfl⟩:=hv;rfl
      obtain⟨μ',n1,n2,n3⟩:=new_opened R (w':=w') (rest:=rest) (s:=true) hc1 hrel hone (.inr ⟨rfl,rfl⟩) rfl;rw[hl',hlr]at n1;refine⟨_,_,μ',_,.value _,w',h,?_,rfl,n1,n2,n3⟩;refine run_v ?_;rw[hu.string_inv,(conv_str e1 e2).1 e3];simp only[Conv.stringToBytes,Sem.run_bind];have hch:(choose q).run P w=.ok cap w1:=by rw[run_choose];rfl
      simp only[q]at hch;rw[hch];have harr:(b.data.map (fun x=>(Value.int .u8 x.toNat:Value))++Array.replicate (cap-b.size) (.int .u8 0))=(l'++rest).toArray:=by apply Array.toList_inj.1;simp[l',rest,lst]
      simp only[Result.andThen_ok,newRow,Sem.run_bind,run_newObj,Sem.run_pure,harr];have hshape:World.shape? {w1 with heap:=w1.heap.push (.cells (l'++rest).toArray e)} w1.heap.size=some (e,(l'++rest).length):=by unfold World.shape?;simp
      simp only[markStringish,Sem.run_bind,run_shape,Result.andThen_ok,hshape,run_freeze,hsz]
      congr 1
      unfold World.freeze;rw[if_neg (by omega)];simp only[w',w1]
      congr 1
      rw[push_modify];simp
   ·cases hc
  ·rename_i e3;split at hc
   ·rename_i hc1;simp only[Option.some.injEq,Prod.mk.injEq,CIns.eff.injEq]at hc;obtain⟨rfl,rfl⟩:=hc;obtain⟨u,rfl,hu⟩:=VRs.inv1 hv
    match u,hu,h with
    | .string b,hu,h=>
      simp only[effK]at h;have hsz:slen b=b.size:=slen_size b;rw[hsz]at h
      let elems:=Conv.runesFrom b b.size 0 #[]
      let q:=Question.appendCap elems.size 0 e
      let cap:=q.cut (w.tape w.drawn q)
      have hcap:elems.size≤cap:=by simp only[cap,q,Question.cut];omega
      let l':List Value:=elems.toList
      let rest:List Value:=List.replicate (cap-elems.size) (.int .i32 0)
      let w1:World:={w with drawn:=w.drawn+1}
      let w':World:={w1 with heap:=w.heap.push (.cells (l'++rest).toArray e (0,0))}
      have hl':l'.length=elems.size:=by simp[l']
      have hlr:(l'++rest).length=cap:=by simp only[List.length_append,hl',rest,List.length_replicate];omega
      have hints:∀(bound i:Nat) (acc:Array Value),(∀v∈acc,∃n:Int,v=.int .i32 n)→∀v∈Conv.runesFrom b bound i acc,∃n:Int,v=.int .i32 n:=by
       intro bound;induction bound with
       |zero=>intro i acc h;exact h
       |succ k ih=>
        intro i acc h;unfold Conv.runesFrom;split
        ·exact ih _ _ (fun v hv=>by
          rcases Array.mem_push.1 hv with hv|rfl
          ·exact h v hv
          ·exact⟨_,rfl⟩)
        ·exact h
      have hall:∀v∈l',∃n:Int,v=.int .i32 n:=fun v hv=>hints b.size 0 #[] (by simp) v (by simpa[l',elems]using hv);have hrel:VRs μ l' l':=VRs.of rfl fun i v v' h1 h2=>by rw[h1]at h2;cases h2;obtain⟨n,rfl⟩:=hall v (List.mem_of_getElem? h1);exact .int _ _
      have hone:∀v∈l',one v=true:=fun v hv=>by obtain⟨n,rfl⟩:=hall v hv;rfl
      obtain⟨μ',n1,n2,n3⟩:=new_opened R (w':=w') (rest:=rest) (s:=false) hc1 hrel hone (.inl rfl) rfl;rw[hlr]at n1;refine⟨_,_,μ',_,.value _,w',h,?_,rfl,n1,n2,n3⟩;refine run_v ?_;rw[hu.string_inv,(conv_str e1 e2).2 e3];simp only[Conv.stringToRunes,Sem.run_bind];have hch:(choose q).run P w=.ok cap w1:=by rw[run_choose];rfl
      simp only[q,elems]at hch;rw[hch];have harr:(elems++Array.replicate (cap-elems.size) (Value.int .i32 0))=(l'++rest).toArray:=by apply Array.toList_inj.1;simp[l',rest]
      simp only[Result.andThen_ok,newRow,Sem.run_bind,run_newObj,Sem.run_pure];have h2:(Conv.runesFrom b b.size 0 #[]++Array.replicate (cap-(Conv.runesFrom b b.size 0 #[]).size) (Value.int .i32 0))=(l'++rest).toArray:=harr;rw[h2,hl']
   ·cases hc
  ·cases hc
 ·split at hc<;>cases hc
 ·split at hc<;>(try split at hc)<;>cases hc
 ·split at hc<;>cases hc
 ·cases hc
end
section
variable{P:Program}{w0:Start}{μ:Mu}{H:Heap}{w:World}
theorem eff_range{dst:Option Tmp}{type:TypeId}{pos:String}{after:Array Edge}{guard:Option (Nat×Bool)}{t:TypeId}{x:Operand}{ei:EI}{xs:List Operand}(hc:cOp P ⟨dst,.range t x,type,pos,after,guard⟩=some (.eff ei,xs)):EffOK P ⟨dst,.range t x,type,pos,after,guard⟩ ei xs:=by
 intro w0 μ H w ρ vs K r R hρ hv h;simp only[cOp]at hc;split at hc
 ·rename_i e;simp only[Option.some.injEq,Prod.mk.injEq,CIns.eff.injEq]at hc;obtain⟨rfl,rfl⟩:=hc;obtain⟨u,rfl,hu⟩:=VRs.inv1 hv
  match u,hu,h with
  | .string s,hu,h=>simp only[effK]at h;have hnew:=R.new (o:=.iter s 0) (o':=.stringIter s 0) (w':={w with heap:=w.heap.push (.stringIter s 0)}) (m:=⟨w.heap.size,0,0,0,0,false⟩) rfl ⟨rfl,rfl,rfl⟩ rfl;refine⟨_,_,_,_,.value _,_,h,?_,rfl,.ptr (AR.new rfl),hnew.1,hnew.2⟩;refine run_v ?_;rw[hu.string_inv];simp only[Instr.range,Sem.run_bind,run_underlying e,Result.andThen_ok,Sem.run_pure,run_newObj]
 ·cases hc
theorem eff_next{dst:Option Tmp}{type:TypeId}{pos:String}{after:Array Edge}{guard:Option (Nat×Bool)}{it:Operand}{isS:Bool}{ei:EI}{xs:List Operand}(hc:cOp P ⟨dst,.next it isS,type,pos,after,guard⟩=some (.eff ei,xs)):EffOK P ⟨dst,.next it isS,type,pos,after,guard⟩ ei xs:=by
 intro w0 μ H w ρ vs K r R hρ hv h;simp only[cOp]at hc;split at hc
 ·rename_i hS;subst hS;simp only[Option.some.injEq,Prod.mk.injEq,CIns.eff.injEq]at hc;obtain⟨rfl,rfl⟩:=hc;obtain⟨u,rfl,hu⟩:=VRs.inv1 hv
  match u,hu,h with
  | .pointer (some a),hu,h=>
    obtain⟨a',e',h1,h2,m,h3,h4,h5⟩:=hu.ptr_inv;simp only[effK]at h;split at h
    ·rename_i s p hg;split at h
     ·rename_i h0;obtain⟨o',g1,g2⟩:=R.obj _ _ _ h3 hg;cases o'<;>simp only[OR]at g2;obtain⟨g3,rfl,rfl⟩:=g2;obtain⟨ab,ao,as⟩:=a';simp only at h2 h4 h5;subst h2 h4;have:ao=0:=by omega
      subst this;have hget:(getObj m.blk).run P w=.ok (.stringIter s p) w:=by simp only[getObj,Sem.run,g1]
      have hlow:w0.heap.size≤m.blk:=by refine R.own h3 hg ?_;intro c0 e0 h0;first|(cases h0;done)|(simp at h0;done)|(simp at h0;omega)|(injection h0 with e1 e2 e3 e4 e5;subst e1;omega)
      split at h
      ·rename_i hp;have hput:=R.put (o2:=.iter s (p+(Utf8.decode s p).2)) (o':=.stringIter s (p+(Utf8.decode s p).2)) (w':={w with heap:=w.heap.setIfInBounds m.blk (.stringIter s (p+(Utf8.decode s p).2))}) h3 hg hlow ⟨g3,rfl,rfl⟩ rfl;refine⟨_,_,_,.tuple #[.bool true,.int .i64 p,.int .i32 (Utf8.decode s p).1],.value _,_,h,run_v ?_,rfl,?_,hput.1,hput.2⟩
       ·rw[e'];have hset:∀o,(setObj m.blk o).run P w=.ok () {w with heap:=w.heap.setIfInBounds m.blk o}:=by intro o;simp only[setObj,Sem.run,g1]
        simp only[Instr.next,Sem.run_bind,hget,Result.andThen_ok];rw[if_pos (by rw[←slen_size];exact hp)];simp only[Sem.run_bind,hset,Result.andThen_ok,Sem.run_pure,goInt]
       ·exact VR.tuple_of (l:=[.bool true,.int .i64 p,.int .i32 (Utf8.decode s p).1]) (l':=[.bool true,.int .i64 p,.int .i32 (Utf8.decode s p).1]) ⟨.bool _,.int _ _,.int _ _,trivial⟩
      ·rename_i hp;refine⟨_,_,μ,.tuple #[.bool false],.value _,w,h,run_v ?_,rfl,?_,R,Ext.refl _ _⟩
       ·rw[e'];simp only[Instr.next,Sem.run_bind,hget,Result.andThen_ok];rw[if_neg (by rw[←slen_size];exact hp)];rfl
       ·exact VR.tuple_of (l:=[.bool false]) (l':=[.bool false]) ⟨.bool _,trivial⟩
     ·cases h
    ·cases h
 ·cases hc
theorem run_uns{P:Program}{w:World}{t u ty el:TypeId}{a:Addr}{k:IntKind}{n:Int}(e:P.underlying t=some (.pointer el))(h0:0<n)(h1:n≤9223372036854775807)(hv:(variablesAt a el n.toNat).run P w=.ok true w){l:ByteArray}(hb:(loadBytes a .empty n.toNat).run P w=.ok l w):(Builtin.unsafeString_ #[t,u] ty #[.pointer (some a),.int k n]).run P w=.ok (.string l) (w.freeze a n.toNat):=by
 have hm:IntKind.i64.max=9223372036854775807:=rfl;change Sem.run P (asInt (.int k n)>>=_) w=_;simp[asInt,asIntOf,elemOf,run_underlying e,hv,hb,hm,show¬n<0 by omega,show¬n=0 by omega,show¬9223372036854775807<n by omega]
theorem run_uns0{P:Program}{w:World}(t u ty:TypeId)(a:Option Addr)(k:IntKind):(Builtin.unsafeString_ #[t,u] ty #[.pointer a,.int k 0]).run P w=.ok (.string .empty) w:=by have hm:IntKind.i64.max=9223372036854775807:=rfl;change Sem.run P (asInt (.int k 0)>>=_) w=_;cases a<;>simp[asInt,asIntOf,hm]
theorem uns_ok(R:RR P w0 μ H w){t ty u el:TypeId}{p n p' n':Value}{K:Value→Heap→Res}{r:Value×Heap}(e:P.underlying t=some (.pointer el))(hel:P.cellsOf el=1)(hp:VR μ p p')(hn:VR μ n n')(h:effK (.unsStr el) [p,n] H K=some r):
  ∃v H' μ' v' w',K v H'=some r∧(Builtin.unsafeString_ #[t,u] ty #[p',n']).run P w=.ok v' w'∧VR μ' v v'∧RR P w0 μ' H' w'∧Ext μ H μ' H':=by
 match p,n,hp,hn,h with
 | .pointer a,.int k n,hp,hn,h=>
   rw[hn.int_inv];simp only[effK]at h;have e0:S []=ByteArray.empty:=rfl;cases a with
   |none=>
    rw[hp.ptrN_inv];simp only at h;split at h
    ·rename_i h0;subst h0;refine⟨_,_,μ,_,w,h,?_,.string _,R,Ext.refl _ _⟩;rw[e0];exact run_uns0 _ _ _ _ _
    ·cases h
   |some a=>
    obtain⟨a',e',ha⟩:=hp.ptr_inv;rw[e'];simp only at h;split at h
    ·rename_i h0;subst h0;refine⟨_,_,μ,_,w,h,?_,.string _,R,Ext.refl _ _⟩;rw[e0];exact run_uns0 _ _ _ _ _
    ·rename_i h0;split at h
     ·rename_i hb;split at h
      ·rename_i c e2 o fz st hg;split at h
       ·rename_i hk;obtain⟨hk1,rfl,rfl⟩:=hk;obtain⟨l,hl,hC⟩:=optK_some ‹_›
        obtain⟨ld,ld2,ld3,ld4⟩:=cells_ok R (n:=n.toNat) (l:=(c.drop a.off).take n.toNat) ha (by unfold Heap.ldN;rw[hg];simp only;rw[if_pos hk1]);obtain⟨h1,h2,m,h3,h4,h5⟩:=ha;obtain⟨cr,fr,g1,g2⟩:=lookup_cells R h3 hg;obtain⟨_,⟨gl,gz⟩,go,ge,gs,gi,gc,gx,gf,gst⟩:=g2;obtain⟨ab,ao,as⟩:=a';simp only at h2 h4 h5;subst h2 h4 h5;have hn0:0<n.toNat:=by omega
        have hlen:((c.drop a.off).take n.toNat).length=n.toNat:=ld4.1;have hbytes:=run_loadBytes (P:=P) (w:=w) ((c.drop a.off).take n.toNat) ld ⟨m.blk,a.off+m.sh,none⟩ ByteArray.empty l rfl ld2 hl (fun k v' hk=>by have:=ld4.2 k v' hk;rwa[ap_eq rfl]at this);rw[hlen]at hbytes;have hvars:=run_variablesAt (P:=P) (off:=a.off+m.sh) (n:=n.toNat) g1 hel (by rw[gs];omega);have hlow:w0.heap.size≤m.blk∨(m.blk<w0.heap.size):=by omega
        let fr2:Nat×Nat:=if fr.1==fr.2 then(a.off+m.sh,a.off+m.sh+n.toNat)else(min fr.1 (a.off+m.sh),max fr.2 (a.off+m.sh+n.toNat))
        let w':World:={w with heap:=w.heap.setIfInBounds m.blk (.cells cr e2 fr2)}
        have hfreeze:w.freeze ⟨m.blk,a.off+m.sh,none⟩ n.toNat=w':=by
         unfold World.freeze;rw[if_neg (by omega)];simp only[w']
         congr 1
         apply Array.ext_getElem?;intro k;rw[Array.getElem?_modify,Array.getElem?_setIfInBounds];have hlt:=R.blk _ _ h3;by_cases hk:m.blk=k
         ·subst hk;simp only[g1,hlt,if_true,Option.map_some,fr2]
         ·simp[hk]
        have hor:OR P μ m (.cells c e2 o (max fz (a.off+n.toNat)) false) (.cells cr e2 fr2):=by
         have hst:=gst rfl;refine⟨rfl,⟨gl,by omega⟩,go,ge,gs,gi,gc,gx,?_,?_⟩
         ·intro j j1 j2 _;simp only[fr2];split<;>simp only<;>omega
         ·intro _;simp only[fr2];split<;>simp only<;>omega
        have hup:w0.heap.size≤m.blk:=by refine R.own h3 hg ?_;intro c0 e0 h0;first|(cases h0;done)|(simp at h0;done)|(simp at h0;omega)|(injection h0 with e1 e2 e3 e4 e5;subst e1;omega)
        have hput:=R.put (w':=w') h3 hg hup hor rfl;refine⟨_,_,μ,_,w',hC,?_,.string _,hput.1,hput.2⟩;have hw1:¬(n>IntKind.i64.max):=by
         have:IntKind.i64.max=9223372036854775807:=by decide
         omega
        have hb':(loadBytes ⟨m.blk,a.off+m.sh,none⟩ .empty n.toNat).run P w=.ok (S l) w:=by rw[hbytes];rfl
        have hu:=run_uns (u:=u) (ty:=ty) (k:=k) e (by omega) (by omega) hvars hb';rw[hfreeze]at hu;exact hu
       ·cases h
      ·cases h
     ·cases h
theorem or_upd{m:MB}{es:List (Value×Value×Nat)}{es':Array MapEntry}{clock j:Nat}(hs:m.sh=0)(hl:es.length=es'.toList.length)(he:∀(i:Nat) (e:Value×Value×Nat),es[i]?=some e→∃e':MapEntry,es'.toList[i]?=some e'∧VR μ e.1 e'.key∧VR μ e.2.1 e'.val∧e.2.2=e'.born){a:Value×Value×Nat}(hj:es[j]?=some a){k v v':Value}(hk:VR μ k k)(hv:VR μ v v'):OR P μ m (.map (es.set j (k,v,a.2.2)) clock) (.map (es'.modify j fun e=>{e with key:=k,val:=v'}) clock):=by
 refine⟨hs,rfl,by simpa using hl,fun i e hi=>?_⟩;rw[List.getElem?_set]at hi;obtain⟨a',g1,g2,g3,g4⟩:=he j a hj;by_cases e0:j=i
 ·subst e0;have hlt:j<es.length:=(List.getElem?_eq_some_iff.1 hj).1;rw[if_pos rfl,if_pos hlt]at hi;simp only[Option.some.injEq]at hi;subst hi;refine⟨{a' with key:=k,val:=v'},?_,hk,hv,g4⟩;rw[Array.getElem?_modify,if_pos rfl,←Array.getElem?_toList,g1];rfl
 ·rw[if_neg e0]at hi;obtain⟨e',f1,f2⟩:=he i e hi;refine⟨e',?_,f2⟩;rw[Array.getElem?_modify,if_neg e0,←Array.getElem?_toList];exact f1
theorem or_push{m:MB}{es:List (Value×Value×Nat)}{es':Array MapEntry}{clock:Nat}(hs:m.sh=0)(hl:es.length=es'.toList.length)(he:∀(i:Nat) (e:Value×Value×Nat),es[i]?=some e→∃e':MapEntry,es'.toList[i]?=some e'∧VR μ e.1 e'.key∧VR μ e.2.1 e'.val∧e.2.2=e'.born){k v v':Value}(hk:VR μ k k)(hv:VR μ v v'):OR P μ m (.map (es++[(k,v,clock)]) (clock+1)) (.map (es'.push {key:=k,val:=v',born:=clock}) (clock+1)):=by
 refine⟨hs,rfl,by simpa using hl,fun i e hi=>?_⟩;have hl':es.length=es'.size:=by simpa using hl
 by_cases h:i<es.length
 ·rw[List.getElem?_append_left h]at hi;obtain⟨e',f1,f2⟩:=he i e hi;refine⟨e',?_,f2⟩;rw[Array.getElem?_push_lt (by omega),←f1,Array.getElem?_toList,Array.getElem?_eq_getElem (by omega)]
 ·rw[List.getElem?_append_right (by omega)]at hi;have:i-es.length=0:=by
   rcases Nat.eq_zero_or_pos (i-es.length)with h0|h0
   ·exact h0
   ·rw[List.getElem?_eq_none (by simp;omega)]at hi;cases hi
  have hi':i=es'.size:=by omega
  rw[this]at hi;simp only[List.getElem?_cons_zero,Option.some.injEq]at hi;subst hi;subst hi';exact⟨_,Array.getElem?_push_size,hk,hv,rfl⟩
theorem erase_list(a:Array MapEntry)(j:Nat):(a.eraseIdxIfInBounds j).toList=a.toList.eraseIdx j:=by
 unfold Array.eraseIdxIfInBounds;split
 ·simp
 ·rename_i h;rw[List.eraseIdx_of_length_le (by rw[Array.length_toList];omega)]
theorem or_del{m:MB}{es:List (Value×Value×Nat)}{es':Array MapEntry}{clock j:Nat}(hs:m.sh=0)(hl:es.length=es'.toList.length)(he:∀(i:Nat) (e:Value×Value×Nat),es[i]?=some e→∃e':MapEntry,es'.toList[i]?=some e'∧VR μ e.1 e'.key∧VR μ e.2.1 e'.val∧e.2.2=e'.born):OR P μ m (.map (es.eraseIdx j) clock) (.map (es'.eraseIdxIfInBounds j) clock):=by
 refine⟨hs,rfl,?_,fun i e hi=>?_⟩
 ·rw[←Array.length_toList,erase_list,List.length_eraseIdx,List.length_eraseIdx,hl]
 ·rw[List.getElem?_eraseIdx]at hi;simp only[←Array.getElem?_toList,erase_list,List.getElem?_eraseIdx];split at hi
  ·rename_i h;rw[if_pos h];exact he _ _ hi
  ·rename_i h;rw[if_neg h];exact he _ _ hi
theorem put_map(R:RR P w0 μ H w){r:Nat}{m:MB}{es0 es:List (Value×Value×Nat)}{clock0 clock:Nat}{o':Obj}(h:H.ents r=some (es0,clock0))(hm:μ r=some m)(hor:OR P μ m (.map es clock) o'):RR P w0 μ (H.put r (.map es clock)) {w with heap:=w.heap.setIfInBounds m.blk o'}∧Ext μ H μ (H.put r (.map es clock)):=by
 have hg:=ents_some h;exact R.put hm hg (R.own hm hg (fun _ _ h0=>by cases h0)) hor rfl
theorem upd_ok(R:RR P w0 μ H w){t:TypeId}{kd:Kd0}{e:TypeId}(hk:mapKd P t=some (kd,e)){m k x m' k' x':Value}(hm:VR μ m m')(hkv:VR μ k k')(hx:VR μ x x'){v:Value}{H':Heap}(h:mapD (.upd kd) [m,k,x] H=some (v,H')):
  v=.tuple #[]∧∃w',(Instr.mapUpdate t m' k' x').run P w=.ok () w'∧RR P w0 μ H' w'∧Ext μ H μ H':=by
 obtain⟨kt,d,u1,u2,u3⟩:=mapKd_some hk
 match m,hm,h with
 | .map none,hm,h=>simp[mapD]at h
 | .map (some r),hm,h=>
   simp only[mapD]at h;split at h
   ·rename_i hik;obtain⟨q1,q2⟩:=isKey_ok u3 hik;have ek:=hkv.plain_inv hik;subst ek;split at h
    ·rename_i es clock he;obtain⟨m,es',em,hmm,hs,g1,g2,g3⟩:=map_ok R hm he;subst em;have hget:(getObj m.blk).run P w=.ok (.map es' clock) w:=MapKept.run_getObj_map g1;split at h
     ·rename_i i vv b hf;simp only[Option.some.injEq,Prod.mk.injEq]at h;obtain⟨rfl,rfl⟩:=h;rcases find_ok u3 es es'.toList 0 _ g2 g3 hf with ⟨hh,_⟩|⟨j,a,a',hh,f1,f2,f3,f4,f5,f6⟩
      ·cases hh
      ·simp only[Option.some.injEq,Prod.mk.injEq]at hh;obtain⟨hi,hh⟩:=hh;have hi':i=j:=by omega
       subst hi';have hb:b=a.2.2:=by rw[←hh]
       rw[hb];have hp:=put_map R he hmm (or_upd (P:=P) (clock:=clock) hs g2 g3 f1 hkv hx);refine⟨rfl,_,?_,hp⟩;have hstay:((es'[0+i]?.map (·.key)).getD k')=k':=by rw[Nat.zero_add,←Array.getElem?_toList,f2];exact f3
       simp only[Instr.mapUpdate,Sem.run_bind,run_underlying u1,Result.andThen_ok,hget,MapKept.run_checkKey u2 q1,MapKept.run_findKey u2 f6,hstay,MapKept.run_keyThatStays q1,MapKept.run_setObj_map _ g1];rw[Nat.zero_add]
     ·rename_i hf;simp only[Option.some.injEq,Prod.mk.injEq]at h;obtain⟨rfl,rfl⟩:=h;rcases find_ok u3 es es'.toList 0 _ g2 g3 hf with ⟨_,f6⟩|⟨j,a,a',hh,_⟩
      ·have hp:=put_map R he hmm (or_push (P:=P) (clock:=clock) hs g2 g3 hkv hx);refine⟨rfl,_,?_,hp⟩;simp only[Instr.mapUpdate,Sem.run_bind,run_underlying u1,Result.andThen_ok,hget,MapKept.run_checkKey u2 q1,MapKept.run_findKey u2 f6,MapKept.run_setObj_map _ g1]
      ·cases hh
     ·cases h
    ·cases h
   ·cases h
theorem del_ok(R:RR P w0 μ H w){t u ty:TypeId}{kd:Kd0}{e:TypeId}(hk:mapKd P t=some (kd,e)){m k m' k':Value}(hm:VR μ m m')(hkv:VR μ k k'){v:Value}{H':Heap}(h:mapD (.del kd) [m,k] H=some (v,H')):
  v=.tuple #[]∧∃w',(Builtin.delete_ #[t,u] ty #[m',k']).run P w=.ok (.tuple #[]) w'∧RR P w0 μ H' w'∧Ext μ H μ H':=by
 obtain⟨kt,d,u1,u2,u3⟩:=mapKd_some hk
 match m,hm,h with
 | .map none,hm,h=>
   simp only[mapD]at h;split at h
   ·rename_i hik;obtain⟨q1,q2⟩:=isKey_ok u3 hik;have ek:=hkv.plain_inv hik;simp only[Option.some.injEq,Prod.mk.injEq]at h;obtain⟨rfl,rfl⟩:=h;subst ek;rw[hm.mapN_inv];refine⟨rfl,w,?_,R,Ext.refl _ _⟩;simp[Builtin.delete_,run_underlying u1,MapKept.run_checkKey u2 q1]
   ·cases h
 | .map (some r),hm,h=>
   simp only[mapD]at h;split at h
   ·rename_i hik;obtain⟨q1,q2⟩:=isKey_ok u3 hik;have ek:=hkv.plain_inv hik;subst ek;split at h
    ·rename_i es clock he;obtain⟨m,es',em,hmm,hs,g1,g2,g3⟩:=map_ok R hm he;subst em;have hget:(getObj m.blk).run P w=.ok (.map es' clock) w:=MapKept.run_getObj_map g1;split at h
     ·rename_i i b hf;simp only[Option.some.injEq,Prod.mk.injEq]at h;obtain⟨rfl,rfl⟩:=h;rcases find_ok u3 es es'.toList 0 _ g2 g3 hf with ⟨hh,_⟩|⟨j,a,a',hh,f1,f2,f3,f4,f5,f6⟩
      ·cases hh
      ·simp only[Option.some.injEq,Prod.mk.injEq]at hh;obtain⟨hi,hh⟩:=hh;have hi':i=j:=by omega
       subst hi';have hp:=put_map R he hmm (or_del (P:=P) (clock:=clock) (j:=i) hs g2 g3);refine⟨rfl,_,?_,hp⟩;simp[Builtin.delete_,run_underlying u1,hget,MapKept.run_checkKey u2 q1,MapKept.run_findKey u2 f6,MapKept.run_setObj_map _ g1]
     ·rename_i hf;simp only[Option.some.injEq,Prod.mk.injEq]at h;obtain⟨rfl,rfl⟩:=h;rcases find_ok u3 es es'.toList 0 _ g2 g3 hf with ⟨_,f6⟩|⟨j,a,a',hh,_⟩
      ·obtain⟨o',g4,g5⟩:=R.obj _ _ _ hmm (ents_some he);rw[g1]at g4;cases g4;have hp:=put_map R he hmm g5;refine⟨rfl,_,?_,hp⟩;simp[Builtin.delete_,run_underlying u1,hget,MapKept.run_checkKey u2 q1,MapKept.run_findKey u2 f6,MapKept.run_setObj_map _ g1]
      ·cases hh
     ·cases h
    ·cases h
   ·cases h
theorem eff_mkMap{dst:Option Tmp}{type:TypeId}{pos:String}{after:Array Edge}{guard:Option (Nat×Bool)}{t:TypeId}{c:Option Operand}{ei:EI}{xs:List Operand}(hc:cOp P ⟨dst,.makeMap t c,type,pos,after,guard⟩=some (.eff ei,xs)):EffOK P ⟨dst,.makeMap t c,type,pos,after,guard⟩ ei xs:=by
 intro w0 μ H w ρ vs K r R hρ hv h;simp only[cOp]at hc;split at hc
 ·simp only[Option.some.injEq,Prod.mk.injEq,CIns.eff.injEq]at hc;obtain⟨rfl,rfl⟩:=hc
  match vs,hv,h with
  |[],hv,h=>simp only[effK,mapD,optK]at h;have hnew:=R.new (o:=.map [] 0) (o':=.map #[] 0) (w':={w with heap:=w.heap.push (.map #[] 0)}) (m:=⟨w.heap.size,0,0,0,0,false⟩) rfl ⟨rfl,rfl,rfl,fun i e h=>by simp at h⟩ rfl;refine⟨_,_,_,_,.value _,_,h,?_,rfl,.map (m:=⟨w.heap.size,0,0,0,0,false⟩) (by simp[Mu.add]) rfl,hnew.1,hnew.2⟩;refine run_v ?_;simp only[Instr.makeMap,Option.map_none,Sem.run_bind,Sem.run_pure,Result.andThen_ok,run_newObj]
 ·cases hc
theorem eff_mapUpd{dst:Option Tmp}{type:TypeId}{pos:String}{after:Array Edge}{guard:Option (Nat×Bool)}{t:TypeId}{m k x:Operand}{ei:EI}{xs:List Operand}(hc:cOp P ⟨dst,.mapUpdate t m k x,type,pos,after,guard⟩=some (.eff ei,xs)):EffOK P ⟨dst,.mapUpdate t m k x,type,pos,after,guard⟩ ei xs:=by
 intro w0 μ H w ρ vs K r R hρ hv h;simp only[cOp]at hc;split at hc
 ·rename_i kd e hk;simp only[Option.some.injEq,Prod.mk.injEq,CIns.eff.injEq]at hc;obtain⟨rfl,rfl⟩:=hc
  match vs,hv,h with
  |[a,b,c],hv,h=>obtain⟨h1,h2,h3,_⟩:=hv;simp only[effK]at h;obtain⟨⟨v,H'⟩,g1,g2⟩:=optK_some h;obtain⟨rfl,w',f1,f2,f3⟩:=upd_ok R hk h1 h2 h3 g1;refine⟨_,_,μ,_,.skip,w',g2,?_,rfl,VR.undef μ,f2,f3⟩;simp only[execOp,Sem.run_bind,f1,Result.andThen_ok,Sem.run_pure]
 ·cases hc
theorem eff_insert{dst:Option Tmp}{type:TypeId}{pos:String}{after:Array Edge}{guard:Option (Nat×Bool)}{t:TypeId}{m k x:Operand}{ei:EI}{xs:List Operand}(hc:cOp P ⟨dst,.insert t m k x,type,pos,after,guard⟩=some (.eff ei,xs)):EffOK P ⟨dst,.insert t m k x,type,pos,after,guard⟩ ei xs:=by
 intro w0 μ H w ρ vs K r R hρ hv h;simp only[cOp]at hc;split at hc
 ·rename_i kd e hk;simp only[Option.some.injEq,Prod.mk.injEq,CIns.eff.injEq]at hc;obtain⟨rfl,rfl⟩:=hc
  match vs,hv,h with
  |[a,b,c],hv,h=>obtain⟨h1,h2,h3,_⟩:=hv;simp only[effK]at h;obtain⟨⟨v,H'⟩,g1,g2⟩:=optK_some h;obtain⟨rfl,w',f1,f2,f3⟩:=upd_ok R hk h1 h2 h3 g1;refine⟨_,_,μ,_,.skip,w',g2,?_,rfl,VR.undef μ,f2,f3⟩;simp only[execOp,Sem.run_bind,f1,Result.andThen_ok,Sem.run_pure]
 ·cases hc
end
section
variable{P:Program}{w0:Start}{μ:Mu}{H:Heap}{w:World}
theorem eff_call{dst:Option Tmp}{type:TypeId}{pos:String}{after:Array Edge}{guard:Option (Nat×Bool)}{c:Call}{ei:EI}{xs:List Operand}(hc:cOp P ⟨dst,.call c,type,pos,after,guard⟩=some (.eff ei,xs)):EffOK P ⟨dst,.call c,type,pos,after,guard⟩ ei xs:=by
 intro w0 μ H w ρ vs K r R hρ hv h;simp only[cOp]at hc;obtain⟨callee,args,argTypes⟩:=c;cases callee with
 |value f=>cases f<;>simp at hc
 |invoke r m=>cases hc
 |builtin b=>
  simp only at hc;have arr:∀{α:Type} {a:Array α} {l:List α},a.toList=l→a=l.toArray:=fun h=>by rw[←h]
  have fin:∀{v:Value} {H':Heap} {μ':Mu} {v':Value} {w':World},K v H'=some r→(builtin b argTypes type (args.map fun| .const _=>true|_=>false) (args.map ρ)).run P w=.ok (.value v') w'→VR μ' v v'→RR P w0 μ' H' w'→Ext μ H μ' H'→∃v H' μ' v' nx w',K v H'=some r∧(execOp ρ ⟨dst,.call ⟨.builtin b,args,argTypes⟩,type,pos,after,guard⟩).run P w=.ok nx w'∧nxv nx=some v'∧VR μ' v v'∧RR P w0 μ' H' w'∧Ext μ H μ' H':=by
   intro v H' μ' v' w' h1 h2 h3 h4 h5;exact⟨v,H',μ',v',_,w',h1,exec_builtin h2,rfl,h3,h4,h5⟩
  unfold cBuiltin at hc;split at hc
  ·repeat' split at hc
   all_goals cases hc
  ·repeat' split at hc
   all_goals cases hc
  ·repeat' split at hc
   all_goals cases hc
  ·rename_i t u s x ht ha;have hA:=arr ht;have hB:=arr ha;subst hA hB;have two:∀{el:TypeId} {str:Bool},P.underlying t=some (.slice el)→(∀k,P.underlying u≠some (.int k))→(P.underlying u).isSome=true→(zeroL P el).isSome=true→(str=true→P.cellsOf el=1)→ei=.append el (P.cellsOf el) (P.bytesOf el) str→xs=[s,x]→∃v H' μ' v' nx w',K v H'=some r∧(execOp ρ ⟨dst,.call ⟨.builtin .append,[s,x].toArray,[t,u].toArray⟩,type,pos,after,guard⟩).run P w=.ok nx w'∧nxv nx=some v'∧VR μ' v v'∧RR P w0 μ' H' w'∧Ext μ H μ' H':=by
    intro el str e hu hus hz hsz h1 h2;subst h1 h2;obtain⟨p,q,rfl,hp,hq⟩:=VRs.inv2 hv;obtain⟨z,hz⟩:=Option.isSome_iff_exists.1 hz;simp only[effK]at h;obtain⟨v,H',μ',v',w',k1,k2,k3,k4,k5⟩:=append_ok R (ty:=type) e hu hus hz hp hq hsz h;exact fin k1 (by rw[show([s,x].toArray:Array Operand).map ρ= #[ρ s,ρ x]by simp];exact run_v (s:=Builtin.append_ #[t,u] type #[ρ s,ρ x]) k2) k3 k4 k5
   split at hc
   ·rename_i el eu e1 e2;split at hc
    ·rename_i hk;simp only[Bool.and_eq_true]at hk;simp only[Option.some.injEq,Prod.mk.injEq,CIns.eff.injEq]at hc;exact two e1 (fun k hk=>by rw[e2]at hk;cases hk) (by simp[e2]) hk.2 (fun h=>by cases h) hc.1.symm hc.2.symm
    ·cases hc
   ·rename_i el e1 e2;split at hc
    ·rename_i hk;simp only[Bool.and_eq_true,decide_eq_true_eq]at hk;simp only[Option.some.injEq,Prod.mk.injEq,CIns.eff.injEq]at hc;exact two e1 (fun k hk=>by rw[e2]at hk;cases hk) (by simp[e2]) hk.1.2 (fun _=>hk.2) (by rw[←hc.1,hk.2]) hc.2.symm
    ·cases hc
   ·cases hc
  ·rename_i t u d x ht ha;have hA:=arr ht;have hB:=arr ha;subst hA hB;have two:∀{el:TypeId} {str:Bool},P.underlying t=some (.slice el)→okElem P el=true→(str=true→P.cellsOf el=1)→ei=.copy (P.cellsOf el) str→xs=[d,x]→∃v H' μ' v' nx w',K v H'=some r∧(execOp ρ ⟨dst,.call ⟨.builtin .copy,[d,x].toArray,[t,u].toArray⟩,type,pos,after,guard⟩).run P w=.ok nx w'∧nxv nx=some v'∧VR μ' v v'∧RR P w0 μ' H' w'∧Ext μ H μ' H':=by
    intro el str e hok hsz h1 h2;subst h1 h2;obtain⟨p,q,rfl,hp,hq⟩:=VRs.inv2 hv;obtain⟨v,H',μ',v',w',k1,k2,k3,k4,k5⟩:=copy_ok R (ty:=type) (u:=u) e (info_some hok) hp hq hsz h;exact fin k1 (by rw[show([d,x].toArray:Array Operand).map ρ= #[ρ d,ρ x]by simp];exact run_v (s:=Builtin.copy_ #[t,u] type #[ρ d,ρ x]) k2) k3 k4 k5
   split at hc
   ·rename_i el eu e1 e2;split at hc
    ·rename_i hk;simp only[Option.some.injEq,Prod.mk.injEq,CIns.eff.injEq]at hc;exact two e1 hk (fun h=>by cases h) hc.1.symm hc.2.symm
    ·cases hc
   ·rename_i el e1 e2;split at hc
    ·rename_i hk;simp only[Bool.and_eq_true,decide_eq_true_eq]at hk;simp only[Option.some.injEq,Prod.mk.injEq,CIns.eff.injEq]at hc;exact two e1 hk.1 (fun _=>hk.2) (by rw[←hc.1,hk.2]) hc.2.symm
    ·cases hc
   ·cases hc
  ·rename_i t d ht ha;have hA:=arr ht;have hB:=arr ha;subst hA hB;split at hc
   ·rename_i el e1;split at hc
    ·rename_i z hz;simp only[Option.some.injEq,Prod.mk.injEq,CIns.eff.injEq]at hc;obtain⟨rfl,rfl⟩:=hc;obtain⟨p,rfl,hp⟩:=VRs.inv1 hv;obtain⟨v,H',μ',v',w',k1,k2,k3,k4,k5⟩:=clear_ok R (ty:=type) e1 hz hp h;exact fin k1 (by rw[show([d].toArray:Array Operand).map ρ= #[ρ d]by simp];exact run_v (s:=Builtin.clear_ #[t] type #[ρ d]) k2) k3 k4 k5
    ·cases hc
   ·cases hc
  ·rename_i t u m k ht ha;have hA:=arr ht;have hB:=arr ha;subst hA hB;split at hc
   ·rename_i kd e1 hk;simp only[Option.some.injEq,Prod.mk.injEq,CIns.eff.injEq]at hc;obtain⟨rfl,rfl⟩:=hc;obtain⟨x,y,rfl,hx,hy⟩:=VRs.inv2 hv;simp only[effK]at h;obtain⟨⟨v,H'⟩,g1,g2⟩:=optK_some h;obtain⟨rfl,w',f1,f2,f3⟩:=del_ok R (u:=u) (ty:=type) hk hx hy g1;exact fin g2 (by rw[show([m,k].toArray:Array Operand).map ρ= #[ρ m,ρ k]by simp];exact run_v (s:=Builtin.delete_ #[t,u] type #[ρ m,ρ k]) f1) (VR.undef μ) f2 f3
   ·cases hc
  ·rename_i t x ht ha;have hA:=arr ht;have hB:=arr ha;subst hA hB;simp only[Option.some.injEq,Prod.mk.injEq,CIns.eff.injEq]at hc;obtain⟨rfl,rfl⟩:=hc;obtain⟨p,rfl,hp⟩:=VRs.inv1 hv
   match p,hp,h with
   | .slice none n c,hp,h=>obtain⟨rfl,rfl,e'⟩:=hp.slN_inv;simp only[effK]at h;refine fin h ?_ .ptrN R (Ext.refl _ _);rw[show([x].toArray:Array Operand).map ρ= #[ρ x]by simp,e'];rfl
   | .slice (some a) n c,hp,h=>
     obtain⟨a',c',e',hl,ha⟩:=hp.sl_inv;simp only[effK]at h;split at h
     ·cases h
     ·rename_i hc0;have hb:AR μ a a':=by
       rcases ha with ha|⟨_,_,q0,_⟩
       ·obtain⟨q1,q2,mb,q3,q4,q5⟩:=ha;exact⟨q1,q2,mb,q3,q4,by omega⟩
       ·exact absurd q0 hc0
      have hc':c'≠0:=by
       rcases ha with ha|⟨_,_,q0,_⟩
       ·obtain⟨q1,q2,mb,q3,q4,q5⟩:=ha;omega
       ·exact absurd q0 hc0
      refine fin h ?_ (.ptr hb) R (Ext.refl _ _);rw[show([x].toArray:Array Operand).map ρ= #[ρ x]by simp,e'];refine run_v (s:=Builtin.unsafeSliceData_ #[t] type #[.slice (some a') n c']) ?_;exact Lib.run_unsafeSliceData_row _ _ _ _ _ _ hc'
  ·rename_i t u p n ht ha;have hA:=arr ht;have hB:=arr ha;subst hA hB;split at hc
   ·rename_i el e1;split at hc
    ·split at hc
     ·rename_i hel;simp only[Option.some.injEq,Prod.mk.injEq,CIns.eff.injEq]at hc;obtain⟨rfl,rfl⟩:=hc;obtain⟨x,y,rfl,hx,hy⟩:=VRs.inv2 hv;obtain⟨v,H',μ',v',w',k1,k2,k3,k4,k5⟩:=uns_ok R (ty:=type) (u:=u) e1 hel hx hy h;exact fin k1 (by rw[show([p,n].toArray:Array Operand).map ρ= #[ρ p,ρ n]by simp];exact run_v (s:=Builtin.unsafeString_ #[t,u] type #[ρ p,ρ n]) k2) k3 k4 k5
     ·cases hc
    ·cases hc
   ·cases hc
  ·cases hc
theorem eff_ok{o:Oper}{ei:EI}{xs:List Operand}(hc:cOp P o=some (.eff ei,xs)):EffOK P o ei xs:=by
 obtain⟨dst,op,type,pos,after,guard⟩:=o;cases op;case alloc=>exact eff_alloc hc
 case box=>exact eff_box hc
 case buildSlice=>exact eff_buildSl hc
 case makeSlice=>exact eff_mkSl hc
 case store=>exact eff_store hc
 case convert=>exact eff_conv hc
 case range=>exact eff_range hc
 case next=>exact eff_next hc
 case call=>exact eff_call hc
 case makeMap=>exact eff_mkMap hc
 case mapUpdate=>exact eff_mapUpd hc
 case insert=>exact eff_insert hc
 case binOp=>
  simp only[cOp]at hc;unfold cBin cEq at hc
  repeat' split at hc
  all_goals cases hc
 case slice=>
  simp only[cOp]at hc;unfold cSlice at hc;simp only at hc
  repeat' split at hc
  all_goals cases hc
 all_goals
  simp only[cOp]at hc
  repeat' split at hc
  all_goals cases hc
end
end Go.Cm
